/- A drawn region over a variable act: what its temporaries hold, and that all others are as they were. -/
import Derived.Deep.RegionHeld3
namespace Go.Proofs.YtkhlmofcdchccaaGreatDoor


/-- The act a is a0 but for the temporaries in l. -/
def Fr (a0 : Act) (l : List (Nat × Value)) (a : Act) : Prop :=
  a.defers = a0.defers ∧ a.tmps.size = a0.tmps.size ∧ (∀ p ∈ l, a.tmps[p.1]? = some p.2) ∧ ∀ k, k ∉ l.map (·.1) → a.tmps[k]? = a0.tmps[k]?
def insS (i : Nat) (v : Value) : List (Nat × Value) → List (Nat × Value)
  | [] => [(i, v)]
  | (k, u) :: l => if i < k then (i, v) :: (k, u) :: l else (k, u) :: insS i v l
theorem mem_insS {i : Nat} {v : Value} {l : List (Nat × Value)} {p : Nat × Value} : p ∈ insS i v l ↔ p = (i, v) ∨ p ∈ l := by
  induction l with
  | nil => simp [insS]
  | cons q l ih =>
    obtain ⟨k, u⟩ := q
    unfold insS
    split
    · simp
    · simp only [List.mem_cons, ih]
      constructor
      · rintro (h | h | h)
        · exact .inr (.inl h)
        · exact .inl h
        · exact .inr (.inr h)
      · rintro (h | h | h)
        · exact .inr (.inl h)
        · exact .inl h
        · exact .inr (.inr h)
theorem keys_insS {i : Nat} {v : Value} {l : List (Nat × Value)} {k : Nat} : k ∈ (insS i v l).map (·.1) ↔ k = i ∨ k ∈ l.map (·.1) := by
  simp only [List.mem_map, mem_insS]
  constructor
  · rintro ⟨p, rfl | h, rfl⟩
    · exact .inl rfl
    · exact .inr ⟨p, h, rfl⟩
  · rintro (rfl | ⟨p, h, rfl⟩)
    · exact ⟨(k, v), .inl rfl, rfl⟩
    · exact ⟨p, .inr h, rfl⟩
theorem Fr.start (a0 : Act) : Fr a0 [] a0 := ⟨rfl, rfl, fun _ h => (nomatch h), fun _ _ => rfl⟩
theorem Fr.put {a0 a : Act} {l : List (Nat × Value)} {i : Nat} {v : Value} (h : Fr a0 l a) (hi : i < a0.tmps.size) (hk : ∀ p ∈ l, p.1 ≠ i) :
    Fr a0 (insS i v l) (a.put (some i) v) := by
  obtain ⟨h1, h2, h3, h4⟩ := h
  refine ⟨h1, by simp [Act.put, h2], fun p hp => ?_, fun k hk' => ?_⟩
  · rcases mem_insS.1 hp with rfl | hp
    · simp [Act.put, h2, hi]
    · have := hk p hp
      show (a.tmps.setIfInBounds i v)[p.1]? = _
      rw [Array.getElem?_setIfInBounds_ne (Ne.symm this)]
      exact h3 p hp
  · rw [keys_insS] at hk'
    have h5 : k ≠ i := fun e => hk' (.inl e)
    show (a.tmps.setIfInBounds i v)[k]? = _
    rw [Array.getElem?_setIfInBounds_ne (Ne.symm h5)]
    exact h4 k fun e => hk' (.inr e)
theorem Fr.shift {a0 a : Act} {l : List (Nat × Value)} {p : Nat × Value} (h : Fr a0 (p :: l) a) (hi : p.1 < a0.tmps.size) : Fr (a0.put (some p.1) p.2) l a := by
  obtain ⟨h1, h2, h3, h4⟩ := h
  refine ⟨h1, by simp [Act.put, h2], fun q hq => h3 q (List.mem_cons_of_mem _ hq), fun k hk' => ?_⟩
  show _ = (a0.tmps.setIfInBounds p.1 p.2)[k]?
  by_cases e : p.1 = k
  · subst e
    rw [Array.getElem?_setIfInBounds_self_of_lt hi]
    exact h3 p (List.mem_cons_self ..)
  · rw [Array.getElem?_setIfInBounds_ne e]
    exact h4 k (by simp only [List.map_cons, List.mem_cons]; rintro (h | h); exact e h.symm; exact hk' h)
theorem Fr.nil_eq {a0 a : Act} (h : Fr a0 [] a) : a = a0 := by
  obtain ⟨h1, h2, _, h4⟩ := h
  cases a; cases a0
  simp only [Act.mk.injEq] at h1 h2 h4 ⊢
  exact ⟨Array.ext_getElem? fun k => h4 k (by simp), h1⟩
theorem Fr.eq {a : Act} : ∀ {l : List (Nat × Value)} {a0 : Act}, Fr a0 l a → (l.map (·.1)).Nodup → (∀ k ∈ l.map (·.1), k < a0.tmps.size) → a = l.foldl (fun b p => b.put (some p.1) p.2) a0
  | [], _, h, _, _ => h.nil_eq
  | p :: l, a0, h, hn, hk => by
    rw [List.map_cons, List.nodup_cons] at hn
    rw [List.foldl_cons]
    refine Fr.eq (h.shift (hk _ (by simp))) hn.2 fun k h' => ?_
    have := hk k (by rw [List.map_cons]; exact List.mem_cons_of_mem _ h')
    simpa [Act.put] using this
theorem Fr.base {a0 a : Act} {l : List (Nat × Value)} (h : Fr a0 l a) {k : Nat} {v : Value} (h0 : a0.tmps[k]? = some v) (hk : ∀ p ∈ l, p.1 ≠ k) : a.tmps[k]? = some v :=
  (h.2.2.2 k fun hm => by obtain ⟨p, hp, e⟩ := List.mem_map.1 hm; exact hk p hp e).trans h0

def ascB : List Nat → Bool
  | [] => true
  | [_] => true
  | a :: b :: l => decide (a < b) && ascB (b :: l)
theorem ascB_le : ∀ (l : List Nat) (a : Nat), ascB (a :: l) = true → ∀ k ∈ l, a < k
  | [], _, _, _, hk => nomatch hk
  | b :: l, a, h, k, hk => by
    simp only [ascB, Bool.and_eq_true, decide_eq_true_eq] at h
    rcases List.mem_cons.1 hk with rfl | hk
    · exact h.1
    · exact Nat.lt_trans h.1 (ascB_le l b h.2 k hk)
theorem ascB_nodup : ∀ l : List Nat, ascB l = true → l.Nodup
  | [], _ => List.nodup_nil
  | [a], _ => by simp
  | a :: b :: l, h => by
    have h' := h
    simp only [ascB, Bool.and_eq_true, decide_eq_true_eq] at h
    exact List.nodup_cons.2 ⟨fun hm => Nat.lt_irrefl a (ascB_le _ _ h' a hm), ascB_nodup _ h.2⟩
theorem Fr.eqA {a0 a : Act} {l : List (Nat × Value)} {n : Nat} (h : Fr a0 l a) (h1 : ascB (l.map (·.1)) = true) (hz : a0.tmps.size = n) (h2 : (l.map (·.1)).all (fun k => decide (k < n)) = true) : a = l.foldl (fun b p => b.put (some p.1) p.2) a0 :=
  h.eq (ascB_nodup _ h1) fun k hk => by rw [hz]; simpa using List.all_eq_true.1 h2 k hk

section
variable {P : Program} {ops : Array Oper} {Q : Exit → Act → World → Prop} {md : Region.Mode} {S : World → Prop}
theorem wpAnyH_opq {fuel : Nat} {listed : Array Bool} {a : Act} {w : World} (h : ∀ b, b = a → wpAnyH P md ops Q S fuel listed b w) : wpAnyH P md ops Q S fuel listed a w := h a rfl
theorem wpAnyH_frame {fuel : Nat} {listed : Array Bool} {a0 a : Act} {l : List (Nat × Value)} {i : Nat} {v : Value} {w : World} (hF : Fr a0 l a) (hi : i < a0.tmps.size) (hk : ∀ p ∈ l, p.1 ≠ i)
    (h : ∀ b, Fr a0 (insS i v l) b → wpAnyH P md ops Q S fuel listed b w) : wpAnyH P md ops Q S fuel listed ⟨a.tmps.setIfInBounds i v, a.defers⟩ w := h _ (hF.put hi hk)
end
end Go.Proofs.YtkhlmofcdchccaaGreatDoor
