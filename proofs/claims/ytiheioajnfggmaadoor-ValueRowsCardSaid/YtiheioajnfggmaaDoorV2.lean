/- The order of values: contracts of cmp.Compare, cmp.Or, strings.Compare, value.Compare, Same and the reference's Compare. -/
import Derived.Test.YtiheioajnfggmaaDoorV1
import Derived.WalkLawsBesides
import Derived.Shelf.Small.Strs
import Derived.Deep.RegionHeld3
namespace Go.Proofs.YtiheioajnfggmaaDoor
open Go.RowKit

theorem ret_int {k : IntKind} {a b : Int} (h : a = b) : Ending.returned (.int k a) = .returned (.int k b) := by rw [h]

theorem cmpInt_lt {a b : Int} (h : a < b) : Lib.compareInt a b = -1 := by unfold Lib.compareInt; rw [if_pos h]
theorem cmpInt_gt {a b : Int} (h : b < a) : Lib.compareInt a b = 1 := by unfold Lib.compareInt; rw [if_neg (by omega), if_pos h]
theorem cmpInt_eq {a b : Int} (h : b ≤ a) (k : a ≤ b) : Lib.compareInt a b = 0 := by unfold Lib.compareInt; rw [if_neg (by omega), if_neg (by omega)]

set_option maxHeartbeats 400000 in
theorem cmpInt_any (a b : Int) (w : World) : Calls Tryd.prog 103 #[.int .i64 a, .int .i64 b] w fun e w' => e = .returned (.int .i64 (Lib.compareInt a b)) ∧ w = w' := by
  have H1 := Lib.hid (@cmpInt_lt a b)
  have H2 := Lib.hid (@cmpInt_gt a b)
  have H3 := Lib.hid (@cmpInt_eq a b)
  generalize Lib.compareInt a b = r at H1 H2 H3 ⊢
  go_enter Tryd.func103, Tryd.ntmps103
  go_wp2
  all_goals go_ret
  · exact ⟨ret_int (H1.out (by assumption)).symm, rfl⟩
  · exact ⟨ret_int (H2.out (by assumption)).symm, rfl⟩
  · exact ⟨ret_int (H3.out (by assumption) (by assumption)).symm, rfl⟩

set_option maxHeartbeats 400000 in
theorem cmpI64_any (a b : Int) (w : World) : Calls Tryd.prog 104 #[.int .i64 a, .int .i64 b] w fun e w' => e = .returned (.int .i64 (Lib.compareInt a b)) ∧ w = w' := by
  have H1 := Lib.hid (@cmpInt_lt a b)
  have H2 := Lib.hid (@cmpInt_gt a b)
  have H3 := Lib.hid (@cmpInt_eq a b)
  generalize Lib.compareInt a b = r at H1 H2 H3 ⊢
  go_enter Tryd.func104, Tryd.ntmps104
  go_wp2
  all_goals go_ret
  · exact ⟨ret_int (H1.out (by assumption)).symm, rfl⟩
  · exact ⟨ret_int (H2.out (by assumption)).symm, rfl⟩
  · exact ⟨ret_int (H3.out (by assumption) (by assumption)).symm, rfl⟩

theorem less_cmp : ∀ a b : List UInt8, Op.bytesLess a b = decide (Lib.compareBytes a b = -1)
  | _, [] => by
    rename_i a
    cases a <;> simp [Op.bytesLess, Lib.compareBytes]
  | [], _ :: _ => by simp [Op.bytesLess, Lib.compareBytes]
  | a :: x, b :: y => by
    rw [Op.bytesLess, Lib.compareBytes, less_cmp x y]
    by_cases h1 : a < b
    · simp [h1]
    · by_cases h2 : b < a
      · have hne : (a == b) = false := by
          rw [beq_eq_false_iff_ne]
          rintro rfl
          exact h1 h2
        simp [h1, h2, hne]
      · have he : a = b := by
          simp only [UInt8.lt_iff_toNat_lt] at h1 h2
          exact UInt8.toNat_inj.1 (by omega)
        subst he
        simp [h1]

def cmpS (a b : ByteArray) : Int := Lib.compareBytes a.data.toList b.data.toList

theorem cmpS_lt {a b : ByteArray} : Op.bytesLess a.toList b.toList = true → cmpS a b = -1 := by
  intro h
  rw [less_cmp, ByteArray.toList_eq, ByteArray.toList_eq] at h
  exact of_decide_eq_true h
theorem cmpS_eq {a b : ByteArray} : Op.bytesLess a.toList b.toList = false → (a.toList == b.toList) = true → cmpS a b = 0 := by
  intro _ h
  rw [ByteArray.toList_eq, ByteArray.toList_eq] at h
  unfold cmpS
  rw [eq_of_beq h]
  exact bytesOrd.refl _
theorem cmpS_gt {a b : ByteArray} : Op.bytesLess a.toList b.toList = false → (a.toList == b.toList) = false → cmpS a b = 1 := by
  intro h k
  rw [less_cmp] at h
  rw [ByteArray.toList_eq, ByteArray.toList_eq] at h k
  have h1 := of_decide_eq_false h
  have h2 : Lib.compareBytes a.data.toList b.data.toList ≠ 0 := fun e => (beq_eq_false_iff_ne.1 k) (bytesOrd.eq _ _ e)
  have := compareBytes_range a.data.toList b.data.toList
  unfold cmpS
  omega

set_option maxHeartbeats 400000 in
theorem cmpStr_any (a b : ByteArray) (w : World) : Calls Tryd.prog 105 #[.string a, .string b] w fun e w' => e = .returned (.int .i64 (cmpS a b)) ∧ w = w' := by
  cases h1 : Op.bytesLess a.toList b.toList
  · cases h2 : (a.toList == b.toList)
    · have HR := Lib.hid (cmpS_gt h1 h2)
      go_enter Tryd.func105, Tryd.ntmps105
      go_wp2
      go_ret
      exact ⟨ret_int HR.out.symm, rfl⟩
    · have HR := Lib.hid (cmpS_eq h1 h2)
      go_enter Tryd.func105, Tryd.ntmps105
      go_wp2
      go_ret
      exact ⟨ret_int HR.out.symm, rfl⟩
  · have HR := Lib.hid (cmpS_lt h1)
    go_enter Tryd.func105, Tryd.ntmps105
    go_wp2
    go_ret
    exact ⟨ret_int HR.out.symm, rfl⟩

def orL (l : List Int) : Int := (l.find? (· ≠ 0)).getD 0

set_option maxHeartbeats 400000 in
theorem or3_any (a b c : Int) (g : Nat) (w : World) (h0 : w.cell? ⟨g, 0, none⟩ = some (.int .i64 a)) (h1 : w.cell? ⟨g, 1, none⟩ = some (.int .i64 b)) (h2 : w.cell? ⟨g, 2, none⟩ = some (.int .i64 c)) :
    Calls Tryd.prog 102 #[.slice (some ⟨g, 0, none⟩) 3 3] w fun e w' => e = .returned (.int .i64 (thenC a (thenC b c))) ∧ w = w' := by
  by_cases ha : a = 0
  · subst ha
    by_cases hb : b = 0
    · subst hb
      have HR : Hid (thenC 0 (thenC 0 c) = c) := Lib.hid (by simp [thenC])
      by_cases hc : c = 0
      · subst hc
        go_enter Tryd.func102, Tryd.ntmps102
        go_wp2
        go_rounds 4
        go_ret
        exact ⟨ret_int HR.out.symm, rfl⟩
      · have b2 : (c != 0) = true := by simpa using hc
        clear hc
        go_enter Tryd.func102, Tryd.ntmps102
        go_wp2
        go_rounds 3
        go_ret
        exact ⟨ret_int HR.out.symm, rfl⟩
    · have HR : Hid (thenC 0 (thenC b c) = b) := Lib.hid (by simp [thenC, hb])
      have b2 : (b != 0) = true := by simpa using hb
      clear hb
      go_enter Tryd.func102, Tryd.ntmps102
      go_wp2
      go_rounds 2
      go_ret
      exact ⟨ret_int HR.out.symm, rfl⟩
  · have HR : Hid (thenC a (thenC b c) = a) := Lib.hid (by simp [thenC, ha])
    have b2 : (a != 0) = true := by simpa using ha
    clear ha
    go_enter Tryd.func102, Tryd.ntmps102
    go_wp2
    go_rounds 1
    go_ret
    exact ⟨ret_int HR.out.symm, rfl⟩

theorem cell_new3 {W : World} {g : Nat} {x y z : Value} {t : TypeId} (hg : g = W.heap.size) : (W.alloc (.cells #[x, y, z] t)).cell? ⟨g, 0, none⟩ = some x ∧ (W.alloc (.cells #[x, y, z] t)).cell? ⟨g, 1, none⟩ = some y ∧ (W.alloc (.cells #[x, y, z] t)).cell? ⟨g, 2, none⟩ = some z := by
  subst hg
  exact ⟨by simp, by simp, by simp⟩

set_option maxRecDepth 100000 in
set_option maxHeartbeats 2000000 in
theorem compare_v (a b : Val) (w : World) : Calls Tryd.prog 55 #[valOf a, valOf b] w (RetBel (.int .i64 (cmpV a b)) w) := by
  obtain ⟨k1, n1, s1⟩ := a
  obtain ⟨k2, n2, s2⟩ := b
  have HR : Hid (cmpV ⟨k1, n1, s1⟩ ⟨k2, n2, s2⟩ = thenC (Lib.compareInt k1 k2) (thenC (Lib.compareInt n1 n2) (cmpS s1 s2))) := Lib.hid rfl
  have C1 := Lib.hid (fun w => cmpInt_any k1 k2 w)
  have C2 := Lib.hid (fun w => cmpI64_any n1 n2 w)
  have C3 := Lib.hid (fun w => cmpStr_any s1 s2 w)
  generalize Lib.compareInt k1 k2 = r1 at HR C1
  generalize Lib.compareInt n1 n2 = r2 at HR C2
  generalize cmpS s1 s2 = r3 at HR C3
  generalize cmpV ⟨k1, n1, s1⟩ ⟨k2, n2, s2⟩ = r at HR ⊢
  unfold valOf
  go_enter Tryd.func55, Tryd.ntmps55
  go_wp2
  go_region_held3 (fun w' => w'.cell? ⟨w.heap.size, 0, none⟩ = some (.int .i64 k1) ∧ w'.cell? ⟨w.heap.size, 1, none⟩ = some (.int .i64 n1) ∧ w'.cell? ⟨w.heap.size, 2, none⟩ = some (.string s1) ∧ w'.cell? ⟨w.heap.size + 1, 0, none⟩ = some (.int .i64 k2) ∧ w'.cell? ⟨w.heap.size + 1, 1, none⟩ = some (.int .i64 n2) ∧ w'.cell? ⟨w.heap.size + 1, 2, none⟩ = some (.string s2))
    (go_keep)
    (first
      | (go_at_call 103; refine (C1.out _).mono ?_; rintro e w1 ⟨rfl, rfl⟩)
      | (go_at_call 104; refine (C2.out _).mono ?_; rintro e w1 ⟨rfl, rfl⟩)
      | (go_at_call 105; refine (C3.out _).mono ?_; rintro e w1 ⟨rfl, rfl⟩)
      | (go_at_call 102; refine (or3_any r1 r2 r3 _ _ ?_ ?_ ?_).mono ?_; (focus exact (cell_new3 (by simp)).1); (focus exact (cell_new3 (by simp)).2.1); (focus exact (cell_new3 (by simp)).2.2); rintro e w1 ⟨rfl, rfl⟩))
  all_goals
    go_wp2
    go_ret
    exact ⟨ret_int HR.out.symm, by go_grown⟩

end Go.Proofs.YtiheioajnfggmaaDoor
