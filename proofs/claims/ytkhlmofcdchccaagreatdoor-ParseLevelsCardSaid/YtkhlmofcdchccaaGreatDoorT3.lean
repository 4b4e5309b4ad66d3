/- The text in quotes: contract of token.quoted. -/
import Derived.Test.YtkhlmofcdchccaaGreatDoorKQ
import Derived.Test.YtkhlmofcdchccaaGreatDoorSB
import Derived.Test.YtkhlmofcdchccaaGreatDoorT2
namespace Go.Proofs.YtkhlmofcdchccaaGreatDoor
open Go.RowKit

def quotedR (s : ByteArray) : Value := match quotedQ s 1 [] with
  | some (t, n) => .tuple #[.agg #[.int .i64 4, .string ⟨t.toArray⟩, .int .i64 0], .int .i64 n, .bool (plainB ⟨t.toArray⟩)]
  | none => .tuple #[.agg #[.int .i64 0, .string ⟨#[]⟩, .int .i64 0], .int .i64 0, .bool false]

theorem quotedR_some {s : ByteArray} {t : List UInt8} {n : Nat} (h : quotedQ s 1 [] = some (t, n)) : quotedR s = .tuple #[.agg #[.int .i64 4, .string ⟨t.toArray⟩, .int .i64 0], .int .i64 n, .bool (plainB ⟨t.toArray⟩)] := by unfold quotedR; rw [h]
theorem quotedR_none {s : ByteArray} (h : quotedQ s 1 [] = none) : quotedR s = .tuple #[.agg #[.int .i64 0, .string ⟨#[]⟩, .int .i64 0], .int .i64 0, .bool false] := by unfold quotedR; rw [h]

set_option maxRecDepth 100000 in
set_option maxHeartbeats 4000000 in
theorem quoted_any (s : ByteArray) (w : World) (hz : 0 < s.size) (hs : s.size ≤ 1000000) : Calls Tryz.prog 146 #[.string s] w (RetBel (quotedR s) w) := by
  go_enter Tryz.func146, Tryz.ntmps146
  go_wp2_with fail
  generalize hW : World.alloc (World.alloc w _) _ = W
  have hr : W.heap[w.heap.size]? = some (.cells #[.int .i64 0, .string ⟨#[]⟩, .int .i64 0] 178 (0, 0)) := by rw [← hW]; exact (heap_alloc_old _ _ (by simp)).trans (heap_alloc_new w _)
  have hbd : W.heap[w.heap.size + 1]? = some (.cells #[.pointer none, .slice none 0 0] 67 (0, 0)) := by rw [← hW]; have h := heap_alloc_new (w.alloc (.cells #[.int .i64 0, .string ⟨#[]⟩, .int .i64 0] 178)) (.cells #[.pointer none, .slice none 0 0] 67); rw [show (w.alloc (.cells #[.int .i64 0, .string ⟨#[]⟩, .int .i64 0] 178)).heap.size = w.heap.size + 1 by simp] at h; exact h
  have hb : Below w.heap.size w W := by rw [← hW]; exact ((Below.refl _ _).alloc (Nat.le_refl _) _).alloc (by simp) _
  have HR := Lib.hid hr
  have HB := Lib.hid hb
  have HBD := Lib.hid (BldR.new (B := w.heap.size + 1) (Nat.le_refl _) hbd)
  clear hW hr hbd hb
  go_loopw [6] (fun i wr => ∃ (k : Nat) (acc : List UInt8), i = .int .i64 k ∧ 1 ≤ k ∧ k ≤ s.size ∧ acc.length ≤ k ∧ quotedQ s k acc = quotedQ s 1 [] ∧ BldR (w.heap.size + 1) (w.heap.size + 1) acc wr ∧ Below (w.heap.size + 1) W wr) (fun i _ => s.size - (intOf i).toNat)
  case atStart => exact ⟨1, [], rfl, Nat.le_refl _, hz, Nat.zero_le _, rfl, HBD.out, Below.refl _ _⟩
  case round =>
    obtain ⟨k, acc, rfl, hk1, hk, hacc, hq, hbr, hbw⟩ := hrel
    have HQ := Lib.hid hq
    have HBR := Lib.hid hbr
    have HBW := Lib.hid hbw
    have hrr := (HBW.out.block w.heap.size (by omega)).trans HR.out
    clear hq hbr hbw
    have hwz : w.heap.size + 1 < wr.heap.size := by
      rcases HBR.out with h | h <;> exact h.lt
    by_cases hlt : k < s.size
    · by_cases hc : s[k].toNat = 39
      · have hcf : ((s[k].toNat : Int) != 39) = false := by simp [hc]
        have HC := Lib.hid hc
        clear hc
        by_cases hdx : ∃ h1 : k + 1 < s.size, s[k + 1].toNat = 39
        · obtain ⟨h1, hd⟩ := hdx
          have h1' : (k : Int) + 1 < s.size := by omega
          have hdt : ((s[k + 1].toNat : Int) == 39) = true := by simp [hd]
          have HN : Hid (quotedQ s (k + 2) (acc ++ [39]) = quotedQ s 1 []) := Lib.hid (by rw [← HQ.out, quotedQ_two hlt HC.out h1 hd])
          clear hd
          go_wp2_with fail
          refine (writeByte_b (w.heap.size + 1) (w.heap.size + 1) acc 39 wr HBR.out (by omega)).mono ?_
          rintro e w2 ⟨rfl, hb2, hw2⟩
          have HB2 := Lib.hid hb2
          have HW2 := Lib.hid (HBW.out.trans hw2)
          clear hb2 hw2
          dsimp only
          go_wp2_with fail
          go_roundw
          case rel => exact ⟨k + 2, acc ++ [39], by go_num, by omega, by omega, by simp; omega, HN.out, HB2.out, HW2.out⟩
          case measure => simp [intOf]; omega
        · have HN := Lib.hid (HQ.out.symm.trans (quotedQ_last (acc := acc) hlt HC.out fun h1 hd => hdx ⟨h1, hd⟩))
          have HX := Lib.hid hdx
          clear hdx
          by_cases h1 : k + 1 < s.size
          case' pos =>
            have h1' : (k : Int) + 1 < s.size := by omega
            have hdf : ((s[k + 1].toNat : Int) == 39) = false := by
              have := HX.out
              simp only [beq_eq_false_iff_ne]
              intro h
              exact this ⟨h1, by omega⟩
          case' neg => have h1' : ¬ (k : Int) + 1 < s.size := by omega
          all_goals
            go_wp2_with fail
            refine (string_b (w.heap.size + 1) (w.heap.size + 1) acc wr HBR.out).mono ?_
            rintro e w2 ⟨rfl, hb2, hw2⟩
            have HB2 := Lib.hid hb2
            have HW2 := Lib.hid (HBW.out.trans hw2)
            have z2 := hw2.size
            clear hb2 hw2
            dsimp only
            go_wp2_with fail
            refine (words_v ⟨acc.toArray⟩ w2 (by unfold maxLen; show acc.length ≤ _; omega)).mono ?_
            rintro e w3 ⟨rfl, hw3⟩
            have HB3 := Lib.hid (HB2.out.bel hw3)
            have HW3 := Lib.hid (HW2.out.trans (hw3.mono (by omega)))
            have z3 := hw3.size
            clear hw3
            generalize wordsV ⟨acc.toArray⟩ = wv
            have HN := Lib.hid (quotedR_some HN.out)
            generalize plainB ⟨acc.toArray⟩ = pb at HN ⊢
            dsimp only [valOf]
            go_wp2_with fail
            generalize hW4 : World.alloc w3 _ = w4
            have hw4 : Below w3.heap.size w3 w4 := by rw [← hW4]; exact (Below.refl _ _).alloc (Nat.le_refl _) _
            have HB4 := Lib.hid (HB3.out.bel hw4)
            have HW4 := Lib.hid (HW3.out.trans (hw4.mono (by omega)))
            clear hW4 hw4
            refine (string_b (w.heap.size + 1) (w.heap.size + 1) acc w4 HB4.out).mono ?_
            rintro e w5 ⟨rfl, hb5, hw5⟩
            have HW5 := Lib.hid (HW4.out.trans hw5)
            obtain ⟨c0, c1, c2, cf, cz⟩ := blk3t ((HW5.out.block w.heap.size (by omega)).trans HR.out)
            clear hb5 hw5
            dsimp only
            repeat (first | go_values | go_skip | go_guarded | go_step | go_upon)
            refine bodyPost_ret (v := .tuple #[.agg #[.int .i64 4, .string ⟨acc.toArray⟩, .int .i64 0], .int .i64 (k + 1 : Nat), .bool pb]) (by simp [results, Tryz.results146, go_sem, c0, c1, c2]) rfl ⟨by rw [HN.out], ?_⟩
            exact set3_below _ _ _ (Nat.le_refl _) (HB.out.trans (HW5.out.mono (Nat.le_succ _)))
      · have HN : Hid (quotedQ s (k + 1) (acc ++ [s[k]]) = quotedQ s 1 []) := Lib.hid (by rw [← HQ.out, quotedQ_plain hlt hc])
        have hcf : ((s[k].toNat : Int) != 39) = true := by simp only [bne_iff_ne]; omega
        clear hc
        go_wp2_with fail
        refine (writeByte_b (w.heap.size + 1) (w.heap.size + 1) acc s[k] wr HBR.out (by omega)).mono ?_
        rintro e w2 ⟨rfl, hb2, hw2⟩
        have HB2 := Lib.hid hb2
        have HW2 := Lib.hid (HBW.out.trans hw2)
        clear hb2 hw2
        dsimp only
        go_wp2_with fail
        go_roundw
        case rel => exact ⟨k + 1, acc ++ [s[k]], by go_num, by omega, by omega, by simp; omega, HN.out, HB2.out, HW2.out⟩
        case measure => simp [intOf]; omega
    · obtain rfl : k = s.size := by omega
      have HN := Lib.hid (HQ.out.symm.trans (quotedQ_end (Nat.le_refl _)))
      obtain ⟨c0, c1, c2, cf, cz⟩ := blk3t hrr
      repeat (first | go_values | go_skip | go_guarded | go_step | go_upon)
      refine bodyPost_ret (v := .tuple #[.agg #[.int .i64 0, .string ⟨#[]⟩, .int .i64 0], .int .i64 0, .bool false]) (by simp [results, Tryz.results146, go_sem, c0, c1, c2]) rfl ⟨by rw [quotedR_none HN.out], ?_⟩
      exact set3_below _ _ _ (Nat.le_refl _) (HB.out.trans (HBW.out.mono (Nat.le_succ _)))
end Go.Proofs.YtkhlmofcdchccaaGreatDoor
