/- The walk of TokenTexts. -/
import Derived.Test.YtppiaaolggpjdaaDoorT8
import Derived.Deep.RegionHeld3
namespace Go.Proofs.YtppiaaolggpjdaaDoor
open Go.RowKit

set_option maxRecDepth 100000 in
set_option maxHeartbeats 8000000 in
theorem texts_any (k i n : Int) (t : ByteArray) (w : World) (ht : t.size ≤ maxLen) (hl : LibOk w) (hs : 4 < w.heap.size) (hk : TokOk w) :
    Calls Tryd.prog 8 #[.agg #[.int .i64 k, .string t, .int .i64 i], .int .i64 n] w (RetBel (.bool true) w) := by
  have HL := Lib.hid hl
  have HT := Lib.hid hk
  have HSZ := Lib.hid ht
  clear hl hk ht
  go_enter Tryd.func8, Tryd.ntmps8
  go_upto_region 2 with fail
  go_wp2_with fail
  refine (mod_any n 7 _ (by omega) (by omega)).mono ?_
  rintro e w2 ⟨rfl, rfl⟩
  dsimp only
  go_upto_region 3 with fail
  generalize n % 7 = m
  generalize hW : World.alloc (World.alloc w _) _ = W
  have hA : W.heap[w.heap.size]? = some (.cells #[.int .i64 k, .string t, .int .i64 i] 71 (0, 0)) := by rw [← hW]; exact (heap_alloc_old _ _ (by simp)).trans (heap_alloc_new w _)
  have hC : W.heap[w.heap.size + 1]? = some (.cells #[.int .i64 m, .string t, .int .i64 i] 71 (0, 0)) := by rw [← hW]; have h := heap_alloc_new (w.alloc (.cells #[.int .i64 k, .string t, .int .i64 i] 71)) (.cells #[.int .i64 m, .string t, .int .i64 i] 71); rw [show (w.alloc (.cells #[.int .i64 k, .string t, .int .i64 i] 71)).heap.size = w.heap.size + 1 by simp] at h; exact h
  have hb : Below w.heap.size w W := by rw [← hW]; exact ((Below.refl _ _).alloc (Nat.le_refl _) _).alloc (by simp) _
  have hz := (Array.getElem?_eq_some_iff.1 hC).1
  have HB := Lib.hid hb
  have HCS : Hid (∀ wx, Below W.heap.size W wx → (wx.cell? ⟨w.heap.size, 0, none⟩ = some (.int .i64 k) ∧ wx.cell? ⟨w.heap.size, 1, none⟩ = some (.string t) ∧ wx.cell? ⟨w.heap.size, 2, none⟩ = some (.int .i64 i)) ∧ (wx.cell? ⟨w.heap.size + 1, 0, none⟩ = some (.int .i64 m) ∧ wx.cell? ⟨w.heap.size + 1, 1, none⟩ = some (.string t) ∧ wx.cell? ⟨w.heap.size + 1, 2, none⟩ = some (.int .i64 i))) := Lib.hid fun wx hx => by
    obtain ⟨a0, a1, a2, _⟩ := blk3t ((hx.block _ (by omega)).trans hA)
    obtain ⟨b0, b1, b2, _⟩ := blk3t ((hx.block _ hz).trans hC)
    exact ⟨⟨a0, a1, a2⟩, ⟨b0, b1, b2⟩⟩
  have HLW := Lib.hid (show ∀ wx, Below W.heap.size W wx → LibOk wx ∧ 4 < wx.heap.size ∧ TokOk wx from fun wx hx => ⟨HL.out.bel (hb.trans (hx.mono hb.size)) hs, Nat.lt_of_lt_of_le hs (Nat.le_trans hb.size hx.size), HT.out.bel (hb.trans (hx.mono hb.size))⟩)
  have H1 := Lib.hid (show ∀ wx, Below W.heap.size W wx → Calls Tryd.prog 45 #[.agg #[.int .i64 k, .string t, .int .i64 i]] wx (RetBel (.string (tokS k t)) wx) from fun wx hx => text_any k i t wx HSZ.out (HLW.out wx hx).1 (HLW.out wx hx).2.1)
  have H2 := Lib.hid (show ∀ wx, Below W.heap.size W wx → Calls Tryd.prog 46 #[.agg #[.int .i64 k, .string t, .int .i64 i]] wx (RetBel (.string (tokS k t)) wx) from fun wx hx => rtext_any k i t wx HSZ.out (HLW.out wx hx).1 (HLW.out wx hx).2.1)
  have H3 := Lib.hid (show ∀ wx, Below W.heap.size W wx → Calls Tryd.prog 45 #[.agg #[.int .i64 m, .string t, .int .i64 i]] wx (RetBel (.string (tokS m t)) wx) from fun wx hx => text_any m i t wx HSZ.out (HLW.out wx hx).1 (HLW.out wx hx).2.1)
  have H4 := Lib.hid (show ∀ wx, Below W.heap.size W wx → Calls Tryd.prog 46 #[.agg #[.int .i64 m, .string t, .int .i64 i]] wx (RetBel (.string (tokS m t)) wx) from fun wx hx => rtext_any m i t wx HSZ.out (HLW.out wx hx).1 (HLW.out wx hx).2.1)
  have H5 := Lib.hid (show ∀ wx, Below W.heap.size W wx → Calls Tryd.prog 43 #[] wx (RetBel (.bool true) wx) from fun wx hx => known10_any wx (HLW.out wx hx).2.2)
  generalize tokS k t = r1 at H1 H2
  generalize tokS m t = r2 at H3 H4
  have HK := Lib.hid (drewN_below (Below.refl W.heap.size W) 1)
  have HK := Lib.hid (show Below W.heap.size W W.drew from HK.out)
  clear hW hA hC hb HL HT HSZ HLW
  go_region_held3 (fun w' => (w'.cell? ⟨w.heap.size, 0, none⟩ = some (.int .i64 k) ∧ w'.cell? ⟨w.heap.size, 1, none⟩ = some (.string t) ∧ w'.cell? ⟨w.heap.size, 2, none⟩ = some (.int .i64 i)) ∧ (w'.cell? ⟨w.heap.size + 1, 0, none⟩ = some (.int .i64 m) ∧ w'.cell? ⟨w.heap.size + 1, 1, none⟩ = some (.string t) ∧ w'.cell? ⟨w.heap.size + 1, 2, none⟩ = some (.int .i64 i)))
    (first | (with_reducible exact HCS.out _ HK.out) | go_keep)
    (first
      | ((go_at_call 45); ((with_reducible refine (H1.out _ HK.out).mono ?_); rintro e wy ⟨rfl, hb⟩; have HK := Lib.hid (HK.out.trans (hb.mono HK.out.size)); clear hb))
      | ((go_at_call 46); ((with_reducible refine (H2.out _ HK.out).mono ?_); rintro e wy ⟨rfl, hb⟩; have HK := Lib.hid (HK.out.trans (hb.mono HK.out.size)); clear hb))
      | ((go_at_call 45); ((with_reducible refine (H3.out _ HK.out).mono ?_); rintro e wy ⟨rfl, hb⟩; have HK := Lib.hid (HK.out.trans (hb.mono HK.out.size)); clear hb))
      | ((go_at_call 46); ((with_reducible refine (H4.out _ HK.out).mono ?_); rintro e wy ⟨rfl, hb⟩; have HK := Lib.hid (HK.out.trans (hb.mono HK.out.size)); clear hb))
      | ((go_at_call 43); ((with_reducible refine (H5.out _ HK.out).mono ?_); rintro e wy ⟨rfl, hb⟩; have HK := Lib.hid (HK.out.trans (hb.mono HK.out.size)); clear hb)))
  all_goals
    go_wp2_with fail
    go_ret
    exact ⟨rfl, HB.out.trans (HK.out.mono HB.out.size)⟩
end Go.Proofs.YtppiaaolggpjdaaDoor
