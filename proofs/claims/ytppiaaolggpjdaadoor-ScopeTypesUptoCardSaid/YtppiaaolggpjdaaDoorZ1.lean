/- Frames with one more in the reference: the contract of its Inside. -/
import Derived.Test.YtppiaaolggpjdaaDoorS12
import Derived.Test.YtppiaaolggpjdaaDoorKC2
import Derived.Test.YtppiaaolggpjdaaDoorE3
namespace Go.Proofs.YtppiaaolggpjdaaDoor
open Go.RowKit

set_option maxRecDepth 100000 in
set_option maxHeartbeats 4000000 in
theorem rinside_any (vf vc : Value) (fs : List Frm) (nm : ByteArray) (cols : List Col) (w : World) (hf : FrmsR NoM w vf fs) (hc : ColsR NoM w vc cols) (hN : fs.length ≤ 1000000000) :
    Calls Tryd.prog 123 #[vf, .agg #[.string nm, vc], .slice none 0 0] w (InsidePost (fs ++ [⟨nm, false, cols⟩]) w) := by
  obtain ⟨fa, fc, rfl, hfm⟩ := hf.shape
  obtain ⟨ca, cc, rfl, _⟩ := hc.shape
  have hlat : ∀ k, k < w.heap.size → Later w k → NoM k := fun k h1 h2 => absurd h2 (Nat.not_le_of_lt h1)
  have HF : Hid (∀ w', Below w.heap.size w w' → FrmsR (Later w) w' (.slice fa fs.length fc) fs) := Lib.hid (fun (w' : World) (hb : Below w.heap.size w w') => (FrmsR.weak hlat hf).keep (Keep.of_below hb fun k _ h => h))
  have HC : Hid (∀ w', Below w.heap.size w w' → ColsR (Later w) w' (.slice ca cols.length cc) cols) := Lib.hid (fun (w' : World) (hb : Below w.heap.size w w') => (ColsR.weak hlat hc).keep (Keep.of_below hb fun k _ h => h))
  have HN := Lib.hid hN
  clear hf hc hN hlat
  go_enter Tryd.func123, Tryd.ntmps123
  go_upto_region 1 with fail
  generalize hW : World.alloc w _ = W0
  have hk0 : W0.heap[w.heap.size]? = some (.cells #[.string nm, .slice ca cols.length cc] 98 (0, 0)) := by rw [← hW]; exact heap_alloc_new w _
  have hb0 : Below w.heap.size w W0 := by rw [← hW]; exact (Below.refl _ _).alloc (Nat.le_refl _) _
  have hz : w.heap.size < W0.heap.size := by rw [← hW]; simp
  have HB0 := Lib.hid hb0
  have HK0 := Lib.hid hk0
  clear hW hb0 hk0
  go_upto_region 2 with (at_builtin; (refine wpList_app rfl _ _ 38 rfl 101 _ 4 72 Tryd.underlying38 infoFrame rfl (by decide) (R := FrmR (Later w) W0) (M := Later w) W0.heap.size (.slice none 0 0) (.slice fa fs.length fc) [] fs ?h1 ?h2 ?h3 ?h4 ?h5 ?h6 ?h7 ?h8 ?_); (case h1 => rfl); (case h2 => rfl); (case h3 => exact RowsO.nil ..); (case h4 => exact HF.out _ HB0.out); (case h5 => exact fun y _ cs h => frmR_one _ _ _ h); (case h6 => (have := HN.out; simp; omega)); (case h7 => (have := HN.out; simp [maxLen]; omega)); (case h8 => exact Nat.le_refl _); intro v1 w1 ho hk _; rw [List.nil_append] at ho; obtain ⟨a1, c1, rfl, _⟩ := ho.shape; have HB1 := Lib.hid (bel_nil hk); have HO1 := Lib.hid ho; clear ho hk)
  obtain ⟨x0, x1, _, _, xz⟩ := blk2 ((HB1.out.block w.heap.size hz).trans HK0.out)
  go_wp2_with (at_builtin; (refine wpList_app1 (w := w1) frmStable rfl _ _ 38 rfl 101 _ 4 72 Tryd.underlying38 infoFrame rfl (by decide) NoM W0.heap.size (.slice a1 fs.length c1) w1.heap.size #[.string nm, .bool false, .slice ca cols.length cc, .slice none 0 0] fs ⟨nm, false, cols⟩ ?h1 ?h2 rfl ?h4 rfl ?h6 ?h7 ?h8 ?h9 ?_); (case h1 => rfl); (case h2 => rfl); (case h4 => exact RowsO.kept HO1.out (Keep.refl (fun _ => False) w1) (fun _ _ h => h) fun x _ cs h => FrmR.weak (fun i _ h => h.elim (fun h => h.elim) fun h => (Nat.le_trans (Nat.le_of_lt hz) (HO1.out.lt h).1 : w.heap.size ≤ i)) (FrmR.keep h (.bel HB1.out))); (case h6 => exact frm_cells (ColsR.weak (fun i _ h => h.elim (fun h => h.elim) fun h => (Nat.le_trans (Nat.le_of_lt hz) (HO1.out.lt h).1 : w.heap.size ≤ i)) (HC.out w1 (HB0.out.trans (HB1.out.mono (Nat.le_of_lt hz)))))); (case h7 => (have := HN.out; omega)); (case h8 => (have := HN.out; unfold maxLen; omega)); (case h9 => exact HB1.out.size); intro v2 w2 ho hk; have HO2 := Lib.hid ho; have HB2 := Lib.hid ((HB0.out.trans (HB1.out.mono (Nat.le_of_lt hz))).trans (hk.toBelow (B := w.heap.size) (by have := HB1.out.size; omega) fun i hi h => by have := (HO1.out.lt h).1; omega)); clear ho hk)
  go_ret
  exact ⟨v2, rfl, HO2.out.rows fun _ _ _ => id, HB2.out⟩
end Go.Proofs.YtppiaaolggpjdaaDoor
