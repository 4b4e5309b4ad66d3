/- A region that draws its order and at last writes a cell that it has read. No program is named here. -/
import Derived.Deep.RegionHeld3
namespace Go.Proofs.YtkhlmofcdchccaaGreatDoor
open Go

section
variable {P : Program} {ops : Array Oper} {Q : Exit → Act → World → Prop} {md : Region.Mode} {S : World → Prop} {z : Nat}

/-- Any order from here on; S is asked between two operations until number z has come up. -/
def wpAnyW (P : Program) (md : Region.Mode) (ops : Array Oper) (Q : Exit → Act → World → Prop) (S : World → Prop) (z : Nat) : Nat → Array Bool → Act → World → Prop
  | 0, L, a, w => Region.ready md ops L = [] ∧ Q .normal a w
  | n + 1, L, a, w => (Region.ready md ops L = [] → Q .normal a w) ∧ ∀ i ∈ Region.ready md ops L, wpOp P ops Q i (fun a' w' => ((L.setIfInBounds i true).getD z true = true ∨ S w') ∧ wpAnyW P md ops Q S z n (L.setIfInBounds i true) a' w') a w

theorem wpAny_of_W : ∀ (n : Nat) (L : Array Bool) (a : Act) (w : World), wpAnyW P md ops Q S z n L a w → wpAny P md ops Q n L a w
  | 0, _, _, _, h => h
  | n + 1, _, _, _, h => ⟨h.1, fun i hi => wpOp_mono (fun a' w' h' => wpAny_of_W n _ a' w' h'.2) (h.2 i hi)⟩

/-- Number z waits for number i. -/
def Waits (md : Region.Mode) (ops : Array Oper) (z i : Nat) : Prop := ∃ oz e, ops[z]? = some oz ∧ e ∈ oz.after ∧ Region.binds md e = true ∧ e.on = i

theorem waits_not {i : Nat} {L : Array Bool} (hw : Waits md ops z i) (hi : L.getD i true = false) : z ∉ Region.ready md ops L := by
  intro hz
  obtain ⟨oz, e, ho, he, hb, rfl⟩ := hw
  obtain ⟨_, o, ho', hall⟩ := mem_ready.1 hz
  rw [ho] at ho'
  cases ho'
  have h1 := hall e he hb
  rcases Nat.lt_or_ge e.on L.size with h' | h'
  · simp [h'] at hi h1
    rw [hi] at h1
    cases h1
  · simp [Array.getElem?_eq_none h'] at hi

/-- What yields one value in all worlds of S may come first, if z waits for it. -/
theorem wpAnyW_first {i : Nat} {oi : Oper} {v : Value} (hi : ops[i]? = some oi) (hsel : ∀ (j : Nat) (o : Oper) cs b, ops[j]? = some o → o.op ≠ .select cs b) (hQ : ∀ c a w, Q (.panic c) (a.put oi.dst v) w → Q (.panic c) a w) (hw : Waits md ops z i) (hzi : z ≠ i) (n : Nat) :
    ∀ (L : Array Bool) (a : Act) (w : World), (∀ j oj, ops[j]? = some oj → j ≠ i → L.getD j true = false → (∀ e ∈ oj.after, Region.binds md e = true → e.on ≠ i) → oi.apart ops oj = true) →
      i ∈ Region.ready md ops L → L.getD z true = false → YieldsIf P ops S oi v a → S w → wpAnyW P md ops Q S z n (L.setIfInBounds i true) (a.put oi.dst v) w → wpAnyW P md ops Q S z (n + 1) L a w := by
  induction n with
  | zero =>
    intro L a w _ hr _ hy hS H
    refine ⟨fun h => (by rw [h] at hr; cases hr), fun j hj => ?_⟩
    by_cases hji : j = i
    · subst hji
      exact hy.wpOp hi hS ⟨.inr hS, H⟩
    · exact absurd (ready_mono hj hji) (by rw [H.1]; exact List.not_mem_nil)
  | succ n ih =>
    intro L a w hap hr hz hy hS H
    refine ⟨fun h => (by rw [h] at hr; cases hr), fun j hj => ?_⟩
    by_cases hji : j = i
    · subst hji
      exact hy.wpOp hi hS ⟨.inr hS, H⟩
    · have hiL := (mem_ready.1 hr).1
      have hjz : j ≠ z := fun h => waits_not hw hiL (h ▸ hj)
      obtain ⟨hun, oj, hoj, hall⟩ := mem_ready.1 hj
      have hno : ∀ e ∈ oj.after, Region.binds md e = true → e.on ≠ i := fun e he hb heq => waits_not (z := j) ⟨oj, e, hoj, he, hb, heq⟩ hiL hj
      refine wpOp_mono (fun a' w' h3 => ?_) (wpOp_putIf hoj (hap j oj hoj hji hun hno) (fun cs b => hsel i oi cs b hi) (fun cs b => hsel j oj cs b hoj) hQ hy (H.2 j (ready_mono hj hji)))
      have hzj : (L.setIfInBounds j true).getD z true = false := by rw [getD_set_ne true hjz]; exact hz
      have hSw : S w' := h3.2.1.resolve_left fun h => by
        rw [getD_set_ne true hjz, getD_set_ne true (Ne.symm hzi), hz] at h
        cases h
      refine ⟨.inr hSw, ih (L.setIfInBounds j true) a' w' (fun k ok hk hki hu hn => hap k ok hk hki ?_ hn) (ready_mono hr (Ne.symm hji)) hzj h3.1 hSw (by rw [Array.setIfInBounds_comm _ _ hji]; exact h3.2.2)⟩
      by_cases hjk : j = k
      · subst hjk
        exact hun
      · rwa [getD_set_ne true hjk] at hu

theorem wpAnyW_take {i : Nat} {oi : Oper} {v : Value} {n : Nat} {L : Array Bool} {a : Act} {w : World} (hi : ops[i]? = some oi)
    (hc : (Region.noSelect ops && Region.free md ops L i && (Region.ready md ops L).contains i && !(L.getD z true) && decide (z ≠ i) && (match ops[z]? with | some oz => oz.after.any fun e => Region.binds md e && e.on == i | none => false)) = true)
    (hQ : ∀ c a w, Q (.panic c) (a.put oi.dst v) w → Q (.panic c) a w) (hy : YieldsIf P ops S oi v a) (hS : S w)
    (h : wpAnyW P md ops Q S z n (L.setIfInBounds i true) (a.put oi.dst v) w) : wpAnyW P md ops Q S z (n + 1) L a w := by
  simp only [Bool.and_eq_true, Bool.not_eq_true', decide_eq_true_eq] at hc
  obtain ⟨⟨⟨⟨⟨h1, h2⟩, h3⟩, h4⟩, h5⟩, h6⟩ := hc
  have hw : Waits md ops z i := by
    cases ho : ops[z]? with
    | none => rw [ho] at h6; cases h6
    | some oz =>
      rw [ho] at h6
      obtain ⟨e, he, hb⟩ := Array.any_eq_true'.1 h6
      simp only [Bool.and_eq_true, beq_iff_eq] at hb
      exact ⟨oz, e, ho, he, hb.1, hb.2⟩
  exact wpAnyW_first hi (Region.noSelect_spec h1) hQ hw h5 n L a w (Region.free_spec hi h2) (by simpa using h3) h4 hy hS h

/-- One operation alone comes up next. -/
theorem wpAnyW_one {i : Nat} {o : Oper} {n : Nat} {L : Array Bool} {a : Act} {w : World} (hr : Region.ready md ops L = [i]) (ho : ops[i]? = some o)
    (h : ∀ K' : Act → World → Prop, Shut (∀ a w, ((L.setIfInBounds i true).getD z true = true ∨ S w) → wpAnyW P md ops Q S z n (L.setIfInBounds i true) a w → K' a w) → if Region.wanted o (yielded ops a.tmps) = true then Oper.wp P o a w K' Q else K' (a.put o.dst undef) w) : wpAnyW P md ops Q S z (n + 1) L a w := by
  refine ⟨fun h0 => (by rw [hr] at h0; cases h0), fun j hj => ?_⟩
  rw [hr] at hj
  obtain rfl := List.mem_singleton.1 hj
  exact wpOp_step ho fun K' hK => h K' fun a w h1 h2 => hK a w ⟨h1, h2⟩

theorem wpAnyW_done {L : Array Bool} {a : Act} {w : World} (hr : Region.ready md ops L = []) (h : Q .normal a w) : ∀ n, wpAnyW P md ops Q S z n L a w
  | 0 => ⟨hr, h⟩
  | _ + 1 => ⟨fun _ => h, by rw [hr]; simp⟩

theorem wp_regionW {id : Nat} {a : Act} {w : World} (z : Nat) (S : World → Prop) (hm : P.follows .mixedOrders = true) (h : wpAnyW P .any ops Q S z ops.size (Array.replicate ops.size false) a w.drew) : (Code.region id ops true).wp P Q a w :=
  wp_region_any hm (wpAny_of_W _ _ _ _ h)
end
end Go.Proofs.YtkhlmofcdchccaaGreatDoor
