/- A drawn region over a variable act: the steps; states that several ways share. -/
import Derived.Test.YtkhlmofcdchccaaGreatDoorOA
import Derived.Lib.Hide
namespace Go.Proofs.YtkhlmofcdchccaaGreatDoor

section
variable {P : Program} {ops : Array Oper} {Q : Exit → Act → World → Prop} {md : Region.Mode} {S : World → Prop}
theorem Fr.get {a0 a : Act} {l : List (Nat × Value)} (h : Fr a0 l a) {k : Nat} {v : Value} (hv : l.lookup k = some v) : a.tmps[k]? = some v := by
  have : (k, v) ∈ l := by
    clear h
    induction l with
    | nil => cases hv
    | cons p l ih =>
      obtain ⟨i, u⟩ := p
      rw [List.lookup_cons] at hv
      by_cases e : k = i
      · subst e
        simp only [BEq.rfl, Option.some.injEq] at hv
        subst hv
        exact List.mem_cons_self ..
      · have e' : (k == i) = false := by simpa using e
        rw [e'] at hv
        exact List.mem_cons_of_mem _ (ih hv)
  exact h.2.2.1 _ this
def offL (l : List (Nat × Value)) (i : Nat) : Bool := l.all fun p => decide (p.1 ≠ i)
theorem offL_ne {l : List (Nat × Value)} {i : Nat} (h : offL l i = true) : ∀ p ∈ l, p.1 ≠ i := fun p hp => by simpa using List.all_eq_true.1 h p hp
theorem Fr.off {a0 a : Act} {l : List (Nat × Value)} (h : Fr a0 l a) {k : Nat} {v : Value} (h0 : a0.tmps[k]? = some v) (hk : offL l k = true) : a.tmps[k]? = some v := h.base h0 (offL_ne hk)
/-- An operation is taken first: its value is kept. -/
theorem wpAnyH_takeF {i d n : Nat} {oi : Oper} {v : Value} {fuel : Nat} {listed : Array Bool} {a0 a : Act} {l : List (Nat × Value)} {w : World} (hi : ops[i]? = some oi)
    (hs : Region.noSelect ops = true) (hf : Region.free md ops listed i = true) (hr : (Region.ready md ops listed).contains i = true)
    (hQ : ∀ c a w, Q (.panic c) (a.put oi.dst v) w → Q (.panic c) a w) (hy : YieldsIf P ops S oi v a) (hS : S w) (hd : oi.dst = some d) (hF : RowKit.Hid (Fr a0 l a)) (hz : a0.tmps.size = n) (hdn : decide (d < n) = true) (ho : offL l d = true)
    (h : ∀ b, RowKit.Hid (Fr a0 (insS d v l) b) → wpAnyH P md ops Q S fuel (listed.setIfInBounds i true) b w) : wpAnyH P md ops Q S (fuel + 1) listed a w := by
  refine wpAnyH_take hi hs hf hr hQ hy hS ?_
  rw [hd]
  exact h _ (hF.out.put (by rw [hz]; simpa using hdn) (offL_ne ho))
/-- Behind an operation that was carried out. -/
theorem goF {K G : Act → World → Prop} {d n : Nat} {v : Value} {a0 a : Act} {l : List (Nat × Value)} {w : World} (hK : Shut (∀ a w, S w → (S w → G a w) → K a w)) (hS : S w) (hF : RowKit.Hid (Fr a0 l a)) (hz : a0.tmps.size = n) (hdn : decide (d < n) = true) (ho : offL l d = true)
    (h : ∀ b, S w → RowKit.Hid (Fr a0 (insS d v l) b) → G b w) : K ⟨a.tmps.setIfInBounds d v, a.defers⟩ w :=
  hK.out _ _ hS fun hs => h _ hs (hF.out.put (by rw [hz]; simpa using hdn) (offL_ne ho))
end
theorem share1 {a0 : Act} {T0 : Type} {A : T0 → Prop} {L : T0 → List (Nat × Value)} {G : Act → T0 → Prop} {P : Prop} (tree : (∀ a x0, RowKit.Hid (Fr a0 (L x0) a) → A x0 → G a x0) → P) (key : ∀ a x0, RowKit.Hid (Fr a0 (L x0) a) → A x0 → G a x0) : P := tree key
theorem share2 {a0 : Act} {T0 T1 : Type} {A : T0 → T1 → Prop} {L : T0 → T1 → List (Nat × Value)} {G : Act → T0 → T1 → Prop} {P : Prop} (tree : (∀ a x0 x1, RowKit.Hid (Fr a0 (L x0 x1) a) → A x0 x1 → G a x0 x1) → P) (key : ∀ a x0 x1, RowKit.Hid (Fr a0 (L x0 x1) a) → A x0 x1 → G a x0 x1) : P := tree key
theorem share3 {a0 : Act} {T0 T1 T2 : Type} {A : T0 → T1 → T2 → Prop} {L : T0 → T1 → T2 → List (Nat × Value)} {G : Act → T0 → T1 → T2 → Prop} {P : Prop} (tree : (∀ a x0 x1 x2, RowKit.Hid (Fr a0 (L x0 x1 x2) a) → A x0 x1 x2 → G a x0 x1 x2) → P) (key : ∀ a x0 x1 x2, RowKit.Hid (Fr a0 (L x0 x1 x2) a) → A x0 x1 x2 → G a x0 x1 x2) : P := tree key
theorem share4 {a0 : Act} {T0 T1 T2 T3 : Type} {A : T0 → T1 → T2 → T3 → Prop} {L : T0 → T1 → T2 → T3 → List (Nat × Value)} {G : Act → T0 → T1 → T2 → T3 → Prop} {P : Prop} (tree : (∀ a x0 x1 x2 x3, RowKit.Hid (Fr a0 (L x0 x1 x2 x3) a) → A x0 x1 x2 x3 → G a x0 x1 x2 x3) → P) (key : ∀ a x0 x1 x2 x3, RowKit.Hid (Fr a0 (L x0 x1 x2 x3) a) → A x0 x1 x2 x3 → G a x0 x1 x2 x3) : P := tree key
theorem share5 {a0 : Act} {T0 T1 T2 T3 T4 : Type} {A : T0 → T1 → T2 → T3 → T4 → Prop} {L : T0 → T1 → T2 → T3 → T4 → List (Nat × Value)} {G : Act → T0 → T1 → T2 → T3 → T4 → Prop} {P : Prop} (tree : (∀ a x0 x1 x2 x3 x4, RowKit.Hid (Fr a0 (L x0 x1 x2 x3 x4) a) → A x0 x1 x2 x3 x4 → G a x0 x1 x2 x3 x4) → P) (key : ∀ a x0 x1 x2 x3 x4, RowKit.Hid (Fr a0 (L x0 x1 x2 x3 x4) a) → A x0 x1 x2 x3 x4 → G a x0 x1 x2 x3 x4) : P := tree key
theorem share6 {a0 : Act} {T0 T1 T2 T3 T4 T5 : Type} {A : T0 → T1 → T2 → T3 → T4 → T5 → Prop} {L : T0 → T1 → T2 → T3 → T4 → T5 → List (Nat × Value)} {G : Act → T0 → T1 → T2 → T3 → T4 → T5 → Prop} {P : Prop} (tree : (∀ a x0 x1 x2 x3 x4 x5, RowKit.Hid (Fr a0 (L x0 x1 x2 x3 x4 x5) a) → A x0 x1 x2 x3 x4 x5 → G a x0 x1 x2 x3 x4 x5) → P) (key : ∀ a x0 x1 x2 x3 x4 x5, RowKit.Hid (Fr a0 (L x0 x1 x2 x3 x4 x5) a) → A x0 x1 x2 x3 x4 x5 → G a x0 x1 x2 x3 x4 x5) : P := tree key
theorem share7 {a0 : Act} {T0 T1 T2 T3 T4 T5 T6 : Type} {A : T0 → T1 → T2 → T3 → T4 → T5 → T6 → Prop} {L : T0 → T1 → T2 → T3 → T4 → T5 → T6 → List (Nat × Value)} {G : Act → T0 → T1 → T2 → T3 → T4 → T5 → T6 → Prop} {P : Prop} (tree : (∀ a x0 x1 x2 x3 x4 x5 x6, RowKit.Hid (Fr a0 (L x0 x1 x2 x3 x4 x5 x6) a) → A x0 x1 x2 x3 x4 x5 x6 → G a x0 x1 x2 x3 x4 x5 x6) → P) (key : ∀ a x0 x1 x2 x3 x4 x5 x6, RowKit.Hid (Fr a0 (L x0 x1 x2 x3 x4 x5 x6) a) → A x0 x1 x2 x3 x4 x5 x6 → G a x0 x1 x2 x3 x4 x5 x6) : P := tree key
theorem share8 {a0 : Act} {T0 T1 T2 T3 T4 T5 T6 T7 : Type} {A : T0 → T1 → T2 → T3 → T4 → T5 → T6 → T7 → Prop} {L : T0 → T1 → T2 → T3 → T4 → T5 → T6 → T7 → List (Nat × Value)} {G : Act → T0 → T1 → T2 → T3 → T4 → T5 → T6 → T7 → Prop} {P : Prop} (tree : (∀ a x0 x1 x2 x3 x4 x5 x6 x7, RowKit.Hid (Fr a0 (L x0 x1 x2 x3 x4 x5 x6 x7) a) → A x0 x1 x2 x3 x4 x5 x6 x7 → G a x0 x1 x2 x3 x4 x5 x6 x7) → P) (key : ∀ a x0 x1 x2 x3 x4 x5 x6 x7, RowKit.Hid (Fr a0 (L x0 x1 x2 x3 x4 x5 x6 x7) a) → A x0 x1 x2 x3 x4 x5 x6 x7 → G a x0 x1 x2 x3 x4 x5 x6 x7) : P := tree key
theorem share9 {a0 : Act} {T0 T1 T2 T3 T4 T5 T6 T7 T8 : Type} {A : T0 → T1 → T2 → T3 → T4 → T5 → T6 → T7 → T8 → Prop} {L : T0 → T1 → T2 → T3 → T4 → T5 → T6 → T7 → T8 → List (Nat × Value)} {G : Act → T0 → T1 → T2 → T3 → T4 → T5 → T6 → T7 → T8 → Prop} {P : Prop} (tree : (∀ a x0 x1 x2 x3 x4 x5 x6 x7 x8, RowKit.Hid (Fr a0 (L x0 x1 x2 x3 x4 x5 x6 x7 x8) a) → A x0 x1 x2 x3 x4 x5 x6 x7 x8 → G a x0 x1 x2 x3 x4 x5 x6 x7 x8) → P) (key : ∀ a x0 x1 x2 x3 x4 x5 x6 x7 x8, RowKit.Hid (Fr a0 (L x0 x1 x2 x3 x4 x5 x6 x7 x8) a) → A x0 x1 x2 x3 x4 x5 x6 x7 x8 → G a x0 x1 x2 x3 x4 x5 x6 x7 x8) : P := tree key
theorem share10 {a0 : Act} {T0 T1 T2 T3 T4 T5 T6 T7 T8 T9 : Type} {A : T0 → T1 → T2 → T3 → T4 → T5 → T6 → T7 → T8 → T9 → Prop} {L : T0 → T1 → T2 → T3 → T4 → T5 → T6 → T7 → T8 → T9 → List (Nat × Value)} {G : Act → T0 → T1 → T2 → T3 → T4 → T5 → T6 → T7 → T8 → T9 → Prop} {P : Prop} (tree : (∀ a x0 x1 x2 x3 x4 x5 x6 x7 x8 x9, RowKit.Hid (Fr a0 (L x0 x1 x2 x3 x4 x5 x6 x7 x8 x9) a) → A x0 x1 x2 x3 x4 x5 x6 x7 x8 x9 → G a x0 x1 x2 x3 x4 x5 x6 x7 x8 x9) → P) (key : ∀ a x0 x1 x2 x3 x4 x5 x6 x7 x8 x9, RowKit.Hid (Fr a0 (L x0 x1 x2 x3 x4 x5 x6 x7 x8 x9) a) → A x0 x1 x2 x3 x4 x5 x6 x7 x8 x9 → G a x0 x1 x2 x3 x4 x5 x6 x7 x8 x9) : P := tree key
theorem share11 {a0 : Act} {T0 T1 T2 T3 T4 T5 T6 T7 T8 T9 T10 : Type} {A : T0 → T1 → T2 → T3 → T4 → T5 → T6 → T7 → T8 → T9 → T10 → Prop} {L : T0 → T1 → T2 → T3 → T4 → T5 → T6 → T7 → T8 → T9 → T10 → List (Nat × Value)} {G : Act → T0 → T1 → T2 → T3 → T4 → T5 → T6 → T7 → T8 → T9 → T10 → Prop} {P : Prop} (tree : (∀ a x0 x1 x2 x3 x4 x5 x6 x7 x8 x9 x10, RowKit.Hid (Fr a0 (L x0 x1 x2 x3 x4 x5 x6 x7 x8 x9 x10) a) → A x0 x1 x2 x3 x4 x5 x6 x7 x8 x9 x10 → G a x0 x1 x2 x3 x4 x5 x6 x7 x8 x9 x10) → P) (key : ∀ a x0 x1 x2 x3 x4 x5 x6 x7 x8 x9 x10, RowKit.Hid (Fr a0 (L x0 x1 x2 x3 x4 x5 x6 x7 x8 x9 x10) a) → A x0 x1 x2 x3 x4 x5 x6 x7 x8 x9 x10 → G a x0 x1 x2 x3 x4 x5 x6 x7 x8 x9 x10) : P := tree key
theorem share12 {a0 : Act} {T0 T1 T2 T3 T4 T5 T6 T7 T8 T9 T10 T11 : Type} {A : T0 → T1 → T2 → T3 → T4 → T5 → T6 → T7 → T8 → T9 → T10 → T11 → Prop} {L : T0 → T1 → T2 → T3 → T4 → T5 → T6 → T7 → T8 → T9 → T10 → T11 → List (Nat × Value)} {G : Act → T0 → T1 → T2 → T3 → T4 → T5 → T6 → T7 → T8 → T9 → T10 → T11 → Prop} {P : Prop} (tree : (∀ a x0 x1 x2 x3 x4 x5 x6 x7 x8 x9 x10 x11, RowKit.Hid (Fr a0 (L x0 x1 x2 x3 x4 x5 x6 x7 x8 x9 x10 x11) a) → A x0 x1 x2 x3 x4 x5 x6 x7 x8 x9 x10 x11 → G a x0 x1 x2 x3 x4 x5 x6 x7 x8 x9 x10 x11) → P) (key : ∀ a x0 x1 x2 x3 x4 x5 x6 x7 x8 x9 x10 x11, RowKit.Hid (Fr a0 (L x0 x1 x2 x3 x4 x5 x6 x7 x8 x9 x10 x11) a) → A x0 x1 x2 x3 x4 x5 x6 x7 x8 x9 x10 x11 → G a x0 x1 x2 x3 x4 x5 x6 x7 x8 x9 x10 x11) : P := tree key
end Go.Proofs.YtkhlmofcdchccaaGreatDoor
