/- How a token is written: contracts of Text and of the reference's Text. -/
import Derived.Test.YtppiaaolggpjdaaDoorKV2
import Derived.Test.YtppiaaolggpjdaaDoorT6
namespace Go.Proofs.YtppiaaolggpjdaaDoor
open Go.RowKit

theorem ret_txt {a b : ByteArray} (h : a = b) : Ending.returned (.string a) = .returned (.string b) := by rw [h]
/-- How a token is written. -/
def tokS (k : Int) (t : ByteArray) : ByteArray := if k = 4 then txt (fmtV ⟨3, 0, t⟩) else if k = 1 ∨ k = 2 ∨ k = 3 ∨ k = 5 then t else ⟨#[]⟩
theorem tokS_no {k : Int} {t : ByteArray} (h4 : k ≠ 4) (h : ¬(k = 1 ∨ k = 2 ∨ k = 3 ∨ k = 5)) : tokS k t = ⟨#[]⟩ := by rw [tokS, if_neg h4, if_neg h]
theorem textOk3 {t : ByteArray} (ht : t.size ≤ maxLen) : ValOk ⟨3, 0, t⟩ := ⟨ht, by show (-9223372036854775808 : Int) ≤ 0; omega, by show (0 : Int) ≤ 9223372036854775807; omega, by show (-9223372036854775808 : Int) ≤ 3; omega, by show (3 : Int) ≤ 9223372036854775807; omega⟩

set_option maxHeartbeats 2000000 in
theorem text_any (k i : Int) (t : ByteArray) (w : World) (ht : t.size ≤ maxLen) (hl : LibOk w) (hs : 4 < w.heap.size) :
    Calls Tryd.prog 45 #[.agg #[.int .i64 k, .string t, .int .i64 i]] w (RetBel (.string (tokS k t)) w) := by
  have hb : Below w.heap.size w (w.alloc (.cells #[.int .i64 k, .string t, .int .i64 i] 71)) := (Below.refl _ _).alloc (Nat.le_refl _) _
  have HB := Lib.hid hb
  have HL := Lib.hid (hl.bel hb hs)
  have HF := Lib.hid (show ∀ w, LibOk w → 4 < w.heap.size → Calls Tryd.prog 28 #[.agg #[.int .i64 3, .int .i64 0, .string t]] w (RetBel (.string (txt (fmtV ⟨3, 0, t⟩))) w) from fun w h hs => format_v ⟨3, 0, t⟩ (textOk3 ht) w h hs)
  clear hb hl ht
  by_cases h4 : k = 4
  · subst h4
    have HT : Hid (tokS 4 t = txt (fmtV ⟨3, 0, t⟩)) := Lib.hid rfl
    generalize txt (fmtV ⟨3, 0, t⟩) = r at HF HT
    go_enter Tryd.func45, Tryd.ntmps45
    go_wp2_with fail
    refine (HF.out _ HL.out (by simp; omega)).mono ?_
    rintro e w2 ⟨rfl, hb2⟩
    have HB2 := Lib.hid (HB.out.trans (hb2.mono (by simp)))
    clear hb2
    dsimp only
    go_wp2_with fail
    go_ret
    exact ⟨ret_txt HT.out.symm, HB2.out⟩
  · by_cases h : k = 1 ∨ k = 2 ∨ k = 3 ∨ k = 5
    · rcases h with rfl | rfl | rfl | rfl
      all_goals
        clear HF
        go_enter Tryd.func45, Tryd.ntmps45
        go_wp2_with fail
        go_ret
        exact ⟨rfl, HB.out⟩
    · have HT := Lib.hid (tokS_no (t := t) h4 h)
      have e1 : (k == 1) = false := by simp only [beq_eq_false_iff_ne]; omega
      have e2 : (k == 2) = false := by simp only [beq_eq_false_iff_ne]; omega
      have e3 : (k == 3) = false := by simp only [beq_eq_false_iff_ne]; omega
      have e4 : (k == 4) = false := by simp only [beq_eq_false_iff_ne]; omega
      have e5 : (k == 5) = false := by simp only [beq_eq_false_iff_ne]; omega
      clear HF h h4
      go_enter Tryd.func45, Tryd.ntmps45
      go_wp2_with fail
      go_ret
      exact ⟨ret_txt HT.out.symm, HB.out⟩

set_option maxHeartbeats 2000000 in
theorem rtext_any (k i : Int) (t : ByteArray) (w : World) (ht : t.size ≤ maxLen) (hl : LibOk w) (hs : 4 < w.heap.size) :
    Calls Tryd.prog 46 #[.agg #[.int .i64 k, .string t, .int .i64 i]] w (RetBel (.string (tokS k t)) w) := by
  have hb : Below w.heap.size w (w.alloc (.cells #[.int .i64 k, .string t, .int .i64 i] 71)) := (Below.refl _ _).alloc (Nat.le_refl _) _
  have HB := Lib.hid hb
  have HL := Lib.hid (hl.bel hb hs)
  have HF := Lib.hid (show ∀ w, LibOk w → 4 < w.heap.size → Calls Tryd.prog 29 #[.agg #[.int .i64 3, .int .i64 0, .string t]] w (RetBel (.string (txt (fmtV ⟨3, 0, t⟩))) w) from fun w h hs => rformat_v ⟨3, 0, t⟩ (textOk3 ht) w h hs)
  clear hb hl ht
  by_cases h4 : k = 4
  · subst h4
    have HT : Hid (tokS 4 t = txt (fmtV ⟨3, 0, t⟩)) := Lib.hid rfl
    generalize txt (fmtV ⟨3, 0, t⟩) = r at HF HT
    go_enter Tryd.func46, Tryd.ntmps46
    go_wp2_with fail
    refine (HF.out _ HL.out (by simp; omega)).mono ?_
    rintro e w2 ⟨rfl, hb2⟩
    have HB2 := Lib.hid (HB.out.trans (hb2.mono (by simp)))
    clear hb2
    dsimp only
    go_wp2_with fail
    go_ret
    exact ⟨ret_txt HT.out.symm, HB2.out⟩
  · by_cases h : k = 1 ∨ k = 2 ∨ k = 3 ∨ k = 5
    · rcases h with rfl | rfl | rfl | rfl
      all_goals
        clear HF
        go_enter Tryd.func46, Tryd.ntmps46
        go_wp2_with fail
        go_ret
        exact ⟨rfl, HB.out⟩
    · have HT := Lib.hid (tokS_no (t := t) h4 h)
      have e1 : (k == 1) = false := by simp only [beq_eq_false_iff_ne]; omega
      have e2 : (k == 2) = false := by simp only [beq_eq_false_iff_ne]; omega
      have e3 : (k == 3) = false := by simp only [beq_eq_false_iff_ne]; omega
      have e4 : (k == 4) = false := by simp only [beq_eq_false_iff_ne]; omega
      have e5 : (k == 5) = false := by simp only [beq_eq_false_iff_ne]; omega
      clear HF h h4
      go_enter Tryd.func46, Tryd.ntmps46
      go_wp2_with fail
      go_ret
      exact ⟨ret_txt HT.out.symm, HB.out⟩
end Go.Proofs.YtppiaaolggpjdaaDoor
