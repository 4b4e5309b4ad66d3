/- Parentheses in the reference: the contract of Wrapped. -/
import Derived.Test.YthcpacadjnpacaaDoorS3
import Derived.Test.YthcpacadjnpacaaDoorKD1
import Derived.Deep.RegionHeld3
namespace Go.Proofs.YthcpacadjnpacaaDoor
open Go.RowKit

set_option maxRecDepth 100000 in
set_option maxHeartbeats 10000000 in
theorem rwrapped_any (k o : Int) (no : Bool) (vk vi : Int) (vt t nm : ByteArray) (ab ao an ac : Nat) (vs : Value) (i : Nat) (xk xo : Int) (xn : Bool) (xvk xvi : Int) (xvt xt xnm : ByteArray) (xva xvs : Value) (w : World) (hi : i < an) (hi6 : i ≤ 1000000) (hab : ab < w.heap.size)
    (hc : w.cell? ⟨ab, ao + i * 10, none⟩ = some (.int .i64 xk) ∧ w.cell? ⟨ab, ao + i * 10 + 1, none⟩ = some (.int .i64 xo) ∧ w.cell? ⟨ab, ao + i * 10 + 2, none⟩ = some (.bool xn) ∧ w.cell? ⟨ab, ao + i * 10 + 3, none⟩ = some (.int .i64 xvk) ∧ w.cell? ⟨ab, ao + i * 10 + 4, none⟩ = some (.int .i64 xvi) ∧ w.cell? ⟨ab, ao + i * 10 + 5, none⟩ = some (.string xvt) ∧ w.cell? ⟨ab, ao + i * 10 + 6, none⟩ = some (.string xt) ∧ w.cell? ⟨ab, ao + i * 10 + 7, none⟩ = some (.string xnm) ∧ w.cell? ⟨ab, ao + i * 10 + 8, none⟩ = some (xva) ∧ w.cell? ⟨ab, ao + i * 10 + 9, none⟩ = some (xvs)) :
    Calls Tryd.prog 88 #[.agg #[.int .i64 k, .int .i64 o, .bool no, .int .i64 vk, .int .i64 vi, .string vt, .string t, .string nm, .slice (some ⟨ab, ao, none⟩) an ac, vs], .int .i64 i] w (RetBel (.bool (decide (precP xk xo < leastR k o i))) w) := by
  have HP := Lib.hid fun wx => rprec_any xo xn xvk xvi xvt xt xnm xva xvs wx xk
  have HL := Lib.hid fun wx => rleast_any o no vk vi vt t nm (.slice (some ⟨ab, ao, none⟩) an ac) vs wx k i hi6
  have HD := Lib.hid (show decide (precP xk xo < leastR k o i) = decide (precP xk xo < leastR k o i) from rfl)
  generalize precP xk xo = p at HP HD ⊢
  generalize leastR k o i = q at HL HD ⊢
  generalize hd : decide (p < q) = r at HD ⊢
  clear HD
  have HD := Lib.hid hd
  have i0 : (0 : Int) ≤ (i : Int) := by omega
  have i1 : (i : Int) < (an : Int) := by omega
  obtain ⟨y0, y1, y2, y3, y4, y5, y6, y7, y8, y9⟩ := hc
  go_enter Tryd.func88, Tryd.ntmps88
  go_wp2_with fail
  generalize hW : World.alloc w _ = W1
  have hk0 := blk10 (show W1.heap[w.heap.size]? = some (.cells #[.int .i64 k, .int .i64 o, .bool no, .int .i64 vk, .int .i64 vi, .string vt, .string t, .string nm, .slice (some ⟨ab, ao, none⟩) an ac, vs] 27 (0, 0)) by rw [← hW]; exact heap_alloc_new w _)
  obtain ⟨c0, c1, c2, c3, c4, c5, c6, c7, c8, c9, _, xz⟩ := hk0
  have hb1 : Below w.heap.size w W1 := by rw [← hW]; exact (Below.refl _ _).alloc (Nat.le_refl _) _
  have HB1 := Lib.hid hb1
  have HSQ : Hid (∀ wx, Below W1.heap.size W1 wx → (wx.cell? ⟨w.heap.size, 0, none⟩ = some (.int .i64 k) ∧ wx.cell? ⟨w.heap.size, 1, none⟩ = some (.int .i64 o) ∧ wx.cell? ⟨w.heap.size, 2, none⟩ = some (.bool no) ∧ wx.cell? ⟨w.heap.size, 3, none⟩ = some (.int .i64 vk) ∧ wx.cell? ⟨w.heap.size, 4, none⟩ = some (.int .i64 vi) ∧ wx.cell? ⟨w.heap.size, 5, none⟩ = some (.string vt) ∧ wx.cell? ⟨w.heap.size, 6, none⟩ = some (.string t) ∧ wx.cell? ⟨w.heap.size, 7, none⟩ = some (.string nm) ∧ wx.cell? ⟨w.heap.size, 8, none⟩ = some (.slice (some ⟨ab, ao, none⟩) an ac) ∧ wx.cell? ⟨w.heap.size, 9, none⟩ = some (vs)) ∧ (wx.cell? ⟨ab, ao + i * 10, none⟩ = some (.int .i64 xk) ∧ wx.cell? ⟨ab, ao + i * 10 + 1, none⟩ = some (.int .i64 xo) ∧ wx.cell? ⟨ab, ao + i * 10 + 2, none⟩ = some (.bool xn) ∧ wx.cell? ⟨ab, ao + i * 10 + 3, none⟩ = some (.int .i64 xvk) ∧ wx.cell? ⟨ab, ao + i * 10 + 4, none⟩ = some (.int .i64 xvi) ∧ wx.cell? ⟨ab, ao + i * 10 + 5, none⟩ = some (.string xvt) ∧ wx.cell? ⟨ab, ao + i * 10 + 6, none⟩ = some (.string xt) ∧ wx.cell? ⟨ab, ao + i * 10 + 7, none⟩ = some (.string xnm) ∧ wx.cell? ⟨ab, ao + i * 10 + 8, none⟩ = some (xva) ∧ wx.cell? ⟨ab, ao + i * 10 + 9, none⟩ = some (xvs))) := Lib.hid fun wx hb => by
    have hx : ∀ j, wx.cell? ⟨ab, j, none⟩ = w.cell? ⟨ab, j, none⟩ := fun j => (hb.cell (p := ⟨ab, j, none⟩) (Nat.lt_of_lt_of_le hab hb1.size)).trans (hb1.cell (p := ⟨ab, j, none⟩) hab)
    have hy : ∀ j, wx.cell? ⟨w.heap.size, j, none⟩ = W1.cell? ⟨w.heap.size, j, none⟩ := fun j => hb.cell (p := ⟨w.heap.size, j, none⟩) xz
    simp only [hx, hy]
    exact ⟨⟨c0, c1, c2, c3, c4, c5, c6, c7, c8, c9⟩, ⟨y0, y1, y2, y3, y4, y5, y6, y7, y8, y9⟩⟩
  clear hW hb1 y0 y1 y2 y3 y4 y5 y6 y7 y8 y9 hd
  refine wp_region_noPanic ?_
  refine wp_region_held_drew (S := fun w' => (w'.cell? ⟨w.heap.size, 0, none⟩ = some (.int .i64 k) ∧ w'.cell? ⟨w.heap.size, 1, none⟩ = some (.int .i64 o) ∧ w'.cell? ⟨w.heap.size, 2, none⟩ = some (.bool no) ∧ w'.cell? ⟨w.heap.size, 3, none⟩ = some (.int .i64 vk) ∧ w'.cell? ⟨w.heap.size, 4, none⟩ = some (.int .i64 vi) ∧ w'.cell? ⟨w.heap.size, 5, none⟩ = some (.string vt) ∧ w'.cell? ⟨w.heap.size, 6, none⟩ = some (.string t) ∧ w'.cell? ⟨w.heap.size, 7, none⟩ = some (.string nm) ∧ w'.cell? ⟨w.heap.size, 8, none⟩ = some (.slice (some ⟨ab, ao, none⟩) an ac) ∧ w'.cell? ⟨w.heap.size, 9, none⟩ = some (vs)) ∧ (w'.cell? ⟨ab, ao + i * 10, none⟩ = some (.int .i64 xk) ∧ w'.cell? ⟨ab, ao + i * 10 + 1, none⟩ = some (.int .i64 xo) ∧ w'.cell? ⟨ab, ao + i * 10 + 2, none⟩ = some (.bool xn) ∧ w'.cell? ⟨ab, ao + i * 10 + 3, none⟩ = some (.int .i64 xvk) ∧ w'.cell? ⟨ab, ao + i * 10 + 4, none⟩ = some (.int .i64 xvi) ∧ w'.cell? ⟨ab, ao + i * 10 + 5, none⟩ = some (.string xvt) ∧ w'.cell? ⟨ab, ao + i * 10 + 6, none⟩ = some (.string xt) ∧ w'.cell? ⟨ab, ao + i * 10 + 7, none⟩ = some (.string xnm) ∧ w'.cell? ⟨ab, ao + i * 10 + 8, none⟩ = some (xva) ∧ w'.cell? ⟨ab, ao + i * 10 + 9, none⟩ = some (xvs))) (by kernel_rfl) (HSQ.out _ (drew_below (Below.refl _ _))) (fun hHeld => ?_)
  refine wpAnyH_take (i := 0) (v := _) rfl (by kernel_rfl) (by kernel_rfl) (by kernel_rfl) (fun _ _ _ h => h) (Or.inl ⟨by rfl, by (intro w hSw; (try dsimp only at hSw); go_simp; (try with_reducible rfl))⟩) (by assumption) ?_
  simp only [Act.put, List.getElem_toArray, List.getElem_cons_zero, List.setIfInBounds_toArray, List.set_cons_zero, List.set_cons_succ]
  refine wpAnyH_take (i := 1) (v := _) rfl (by kernel_rfl) (by kernel_rfl) (by kernel_rfl) (fun _ _ _ h => h) (Or.inl ⟨by rfl, by (intro w hSw; (try dsimp only at hSw); go_simp; (try with_reducible rfl))⟩) (by assumption) ?_
  simp only [Act.put, List.getElem_toArray, List.getElem_cons_succ, List.getElem_cons_zero, List.setIfInBounds_toArray, List.set_cons_zero, List.set_cons_succ]
  refine wpAnyH_take (i := 2) (v := _) rfl (by kernel_rfl) (by kernel_rfl) (by kernel_rfl) (fun _ _ _ h => h) (Or.inl ⟨by rfl, by (intro w hSw; (try dsimp only at hSw); go_simp; (try with_reducible rfl))⟩) (by assumption) ?_
  simp only [Act.put, List.getElem_toArray, List.getElem_cons_succ, List.getElem_cons_zero, List.setIfInBounds_toArray, List.set_cons_zero, List.set_cons_succ]
  refine wpAnyH_take (i := 3) (v := _) rfl (by kernel_rfl) (by kernel_rfl) (by kernel_rfl) (fun _ _ _ h => h) (Or.inl ⟨by rfl, by (intro w hSw; (try dsimp only at hSw); go_simp; (try with_reducible rfl))⟩) (by assumption) ?_
  simp only [Act.put, List.getElem_toArray, List.getElem_cons_succ, List.getElem_cons_zero, List.setIfInBounds_toArray, List.set_cons_zero, List.set_cons_succ]
  refine wpAnyH_take (i := 4) (v := _) rfl (by kernel_rfl) (by kernel_rfl) (by kernel_rfl) (fun _ _ _ h => h) (Or.inl ⟨by rfl, by (intro w hSw; (try dsimp only at hSw); go_simp; (try with_reducible rfl))⟩) (by assumption) ?_
  simp only [Act.put, List.getElem_toArray, List.getElem_cons_succ, List.getElem_cons_zero, List.setIfInBounds_toArray, List.set_cons_zero, List.set_cons_succ]
  refine wpAnyH_take (i := 6) (v := _) rfl (by kernel_rfl) (by kernel_rfl) (by kernel_rfl) (fun _ _ _ h => h) (Or.inl ⟨by rfl, by (intro w hSw; (try dsimp only at hSw); go_simp; (try with_reducible rfl))⟩) (by assumption) ?_
  simp only [Act.put, List.getElem_toArray, List.getElem_cons_succ, List.getElem_cons_zero, List.setIfInBounds_toArray, List.set_cons_zero, List.set_cons_succ]
  refine wpAnyH_take (i := 7) (v := _) rfl (by kernel_rfl) (by kernel_rfl) (by kernel_rfl) (fun _ _ _ h => h) (Or.inl ⟨by rfl, by (intro w hSw; (try dsimp only at hSw); go_simp; (try with_reducible rfl))⟩) (by assumption) ?_
  simp only [Act.put, List.getElem_toArray, List.getElem_cons_succ, List.getElem_cons_zero, List.setIfInBounds_toArray, List.set_cons_zero, List.set_cons_succ]
  clear c0 c1 c2 c3 c4 c5 c6 c7 c8 c9
  refine wpAnyH_ready (rs := [5]) (by kernel_rfl) (by simp) ?_
  refine AllReadyH.cons (o := _) rfl (fun K hK => ?_) AllReadyH.nil
  go_simp
  refine (HP.out _).mono ?_
  rintro e wy1 ⟨rfl, hb⟩
  have HC1 := Lib.hid ((drew_below (Below.refl W1.heap.size W1)).trans (hb.mono (Nat.le_refl _)))
  dsimp only
  refine hK.out _ _ (HSQ.out _ HC1.out) (fun hHeld => ?_)
  clear hK K hb
  refine wpAnyH_ready (rs := [8]) (by kernel_rfl) (by simp) ?_
  refine AllReadyH.cons (o := _) rfl (fun K hK => ?_) AllReadyH.nil
  go_simp
  refine (HL.out _).mono ?_
  rintro e wy2 ⟨rfl, hb⟩
  have HC2 := Lib.hid (HC1.out.trans (hb.mono HC1.out.size))
  dsimp only
  refine hK.out _ _ (HSQ.out _ HC2.out) (fun hHeld => ?_)
  clear hK K hb
  refine wpAnyH_take (i := 9) (v := _) rfl (by kernel_rfl) (by kernel_rfl) (by kernel_rfl) (fun _ _ _ h => h) (Or.inl ⟨by rfl, by (intro w hSw; (try dsimp only at hSw); go_simp; (try with_reducible rfl))⟩) (by assumption) ?_
  simp only [Act.put, List.getElem_toArray, List.getElem_cons_succ, List.getElem_cons_zero, List.setIfInBounds_toArray, List.set_cons_zero, List.set_cons_succ]
  refine wpAnyH_take (i := 10) (v := _) rfl (by kernel_rfl) (by kernel_rfl) (by kernel_rfl) (fun _ _ _ h => h) (Or.inl ⟨by rfl, by (intro w hSw; (try dsimp only at hSw); go_simp; (try with_reducible rfl))⟩) (by assumption) ?_
  simp only [Act.put, List.getElem_toArray, List.getElem_cons_succ, List.getElem_cons_zero, List.setIfInBounds_toArray, List.set_cons_zero, List.set_cons_succ]
  refine wpAnyH_done (by kernel_rfl) ?_ _
  refine NoPanic.normal ?_
  go_wp2_with fail
  go_ret
  exact ⟨by rw [← HD.out]; first | rfl | simp, HB1.out.trans (HC2.out.mono HB1.out.size)⟩
end Go.Proofs.YthcpacadjnpacaaDoor
