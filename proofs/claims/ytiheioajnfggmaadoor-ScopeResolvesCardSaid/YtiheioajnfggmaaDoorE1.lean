/- Assignable in general, and columns compared with themselves: contracts of Assignable, the reference's fits and Assignable, slices.Equal of columns, SameSchema. -/
import Derived.Test.YtiheioajnfggmaaDoorC21
namespace Go.Proofs.YtiheioajnfggmaaDoor
open Go.RowKit

def assignB (a b : Int) : Bool := b == 0 || b == a

theorem bool_ret {x y : Bool} {w w' : World} (h : x = y) (hw : w = w') : Ending.returned (.bool x) = .returned (.bool y) ∧ w = w' := ⟨by rw [h], hw⟩

set_option maxHeartbeats 400000 in
theorem assign_gen (a b : Int) (w : World) : Calls Tryd.prog 25 #[.int .i64 a, .int .i64 b] w fun e w' => e = .returned (.bool (assignB a b)) ∧ w = w' := by
  cases h0 : (b == 0) with
  | true =>
    have HA : Hid (assignB a b = true) := Lib.hid (by unfold assignB; rw [h0]; rfl)
    go_enter Tryd.func25, Tryd.ntmps25
    go_wp2_with fail
    go_ret
    exact bool_ret HA.out.symm rfl
  | false =>
    have HA : Hid (assignB a b = (b == a)) := Lib.hid (by unfold assignB; rw [h0]; rfl)
    go_enter Tryd.func25, Tryd.ntmps25
    go_wp2_with fail
    go_ret
    exact bool_ret HA.out.symm rfl

set_option maxHeartbeats 400000 in
theorem rfits_any (a b : Int) (w : World) : Calls Tryd.prog 81 #[.int .i64 b, .int .i64 a] w fun e w' => e = .returned (.bool (assignB a b)) ∧ w = w' := by
  cases h0 : (b == 0) with
  | true =>
    have HA : Hid (assignB a b = true) := Lib.hid (by unfold assignB; rw [h0]; rfl)
    go_enter Tryd.func81, Tryd.ntmps81
    go_wp2_with fail
    go_ret
    exact bool_ret HA.out.symm rfl
  | false =>
    have HA : Hid (assignB a b = (b == a)) := Lib.hid (by unfold assignB; rw [h0]; rfl)
    go_enter Tryd.func81, Tryd.ntmps81
    go_wp2_with fail
    go_ret
    exact bool_ret HA.out.symm rfl

set_option maxHeartbeats 400000 in
theorem rassign_any (a b : Int) (w : World) : Calls Tryd.prog 31 #[.int .i64 a, .int .i64 b] w fun e w' => e = .returned (.bool (assignB a b)) ∧ w = w' := by
  go_enter Tryd.func31, Tryd.ntmps31
  go_wp2_with fail
  refine (rfits_any a b w).mono ?_
  rintro e w' ⟨rfl, rfl⟩
  dsimp only
  go_wp2_with fail
  go_ret
  exact bool_ret rfl rfl

set_option maxHeartbeats 1000000 in
theorem equalCol_same {M : Nat → Prop} (va vb : Value) (l : List Col) (w : World) (ha : ColsR M w va l) (hb : ColsR M w vb l) : Calls Tryd.prog 80 #[va, vb] w fun e w' => e = .returned (.bool true) ∧ ∃ k, w.drewN k = w' := by
  have HA := Lib.hid ha
  have HB := Lib.hid hb
  obtain ⟨a1, c1, rfl, hm⟩ := ha.shape
  obtain ⟨a2, c2, rfl, _⟩ := hb.shape
  unfold maxLen at hm
  clear ha hb
  go_enter Tryd.func80, Tryd.ntmps80
  go_wp2_with fail
  go_loopw [13] (fun i wr => ∃ j k : Nat, j ≤ l.length ∧ i = .int .i64 j ∧ w.drewN k = wr) (fun i _ => l.length - (intOf i).toNat)
  case atStart => exact ⟨0, 0, Nat.zero_le _, rfl, rfl⟩
  case round =>
    obtain ⟨j, k, hj, rfl, rfl⟩ := hrel
    by_cases hlt : j < l.length
    · have hxj : l[j]? = some l[j] := List.getElem?_eq_getElem hlt
      rcases HA.out.open with ⟨h, h'⟩ | ⟨b1, o1, cap1, hv1, _, _, hl1, _, hx1⟩
      · subst h'; simp at hlt
      rcases HB.out.open with ⟨h, h'⟩ | ⟨b2, o2, cap2, hv2, _, _, hl2, _, hx2⟩
      · subst h'; simp at hlt
      simp only [Value.slice.injEq] at hv1 hv2
      obtain ⟨rfl, _, rfl⟩ := hv1
      obtain ⟨rfl, _, rfl⟩ := hv2
      obtain ⟨cs1, rfl, _, hc1⟩ := hx1 j _ hxj
      obtain ⟨cs2, rfl, _, hc2⟩ := hx2 j _ hxj
      generalize l[j] = c at hc1 hc2
      obtain ⟨p0, p1, p2, p3⟩ := hc1.c4
      obtain ⟨q0, q1, q2, q3⟩ := hc2.c4
      have i1 : (0 : Int) ≤ (j : Int) := by omega
      have i2 : (j : Int) < (l.length : Int) := by omega
      clear hx1 hx2 hc1 hc2 hxj
      go_wp2_with fail
      go_quiet (fail)
      go_wp2_with fail
      go_roundw
      case rel => exact ⟨j + 1, _, by omega, by go_num, rfl⟩
      case measure => simp [intOf]; omega
    · go_wp2_with fail
      go_ret
      exact ⟨rfl, k, rfl⟩

set_option maxHeartbeats 1000000 in
theorem same_sch {M : Nat → Prop} (va vb : Value) (n : ByteArray) (l : List Col) (w : World) (ha : ColsR M w va l) (hb : ColsR M w vb l) : Calls Tryd.prog 30 #[.agg #[.string n, va], .agg #[.string n, vb]] w (RetBel (.bool true) w) := by
  obtain ⟨a1, c1, rfl, hm⟩ := ha.shape
  obtain ⟨a2, c2, rfl, _⟩ := hb.shape
  have HA := Lib.hid fun (w' : World) (h : Below w.heap.size w w') => ha.keep (.bel h)
  have HB := Lib.hid fun (w' : World) (h : Below w.heap.size w w') => hb.keep (.bel h)
  clear ha hb
  go_enter Tryd.func30, Tryd.ntmps30
  go_wp2_with fail
  refine (equalCol_same _ _ l _ (HA.out _ (by go_grown)) (HB.out _ (by go_grown))).mono ?_
  rintro e w' ⟨rfl, k, rfl⟩
  dsimp only
  go_wp2_with fail
  go_ret
  refine ⟨rfl, ?_⟩
  exact drewN_below (by go_grown) _

/-- Two empty schemas. -/
theorem same_none {M : Nat → Prop} (w : World) : Calls Tryd.prog 30 #[.agg #[.string ⟨#[]⟩, .slice none 0 0], .agg #[.string ⟨#[]⟩, .slice none 0 0]] w (RetBel (.bool true) w) := same_sch (M := M) _ _ _ [] w (RowsR.nil ..) (RowsR.nil ..)

end Go.Proofs.YtiheioajnfggmaaDoor
