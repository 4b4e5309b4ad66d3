/- print.Expr of a well-formed expression. -/
import Derived.Test.YtppiaaolggpjdaaDoorX7
import Derived.Test.YtppiaaolggpjdaaDoorKN3
namespace Go.Proofs.YtppiaaolggpjdaaDoor
open Go.RowKit

set_option maxRecDepth 100000 in
set_option maxHeartbeats 8000000 in
theorem print_any (x : Ex) (hv : VX x) (hp : validP x = true) (ht : TxtOk x) (h1 : (wordsP x).length ≤ 1000000000) (h2 : ((wordsP x).map fun t => t.size + 1).sum ≤ 1000000000000) (M : Nat → Prop) (cs : List Value) (w : World) (hE : EC M w x cs) (hL : LibOk w) (hs : 4 < w.heap.size) :
    Calls Tryd.prog 47 #[.agg cs.toArray] w (RetBel (.tuple #[.string (textP x), .bool true]) w) := by
  have hE0 : EC (fun i => w.heap.size ≤ i) w x cs := EC.weak (fun i hi h => by omega) x cs hE
  obtain ⟨xva, xvs, rfl, hva, hvs⟩ := (EC_iff ..).1 hE0
  obtain ⟨xa, xac, rfl, _⟩ := hva.shape
  obtain ⟨xs, xsc, rfl, _⟩ := hvs.shape
  have HE := Lib.hid hE0
  have HP := Lib.hid hp
  have HL := Lib.hid hL
  have HT := Lib.hid ht
  have HV := Lib.hid hv
  have HN1 := Lib.hid h1
  have HN2 := Lib.hid h2
  unfold textP
  simp only [exCells] at HE ⊢
  clear hE hE0 hva hvs hp hL ht hv h1 h2
  go_enter Tryd.func47, Tryd.ntmps47
  go_upto_region 1 with fail
  generalize hW : World.alloc w _ = W
  have hS : W.heap[w.heap.size]? = some (.cells #[.int .i64 x.kind, .int .i64 x.op, .bool x.no, .int .i64 x.val.kind, .int .i64 x.val.int, .string x.val.text, .string x.table, .string x.name, .slice xa x.args.length xac, .slice xs x.sub.length xsc] 27 (0, 0)) := by rw [← hW]; exact heap_alloc_new w _
  have HBW := Lib.hid (show Below w.heap.size w W from by rw [← hW]; exact (Below.refl _ _).alloc (Nat.le_refl _) _)
  have HS := Lib.hid hS
  have hz := (Array.getElem?_eq_some_iff.1 hS).1
  obtain ⟨a0, a1, a2, a3, a4, a5, a6, a7, a8, a9, _⟩ := blk10 hS
  clear hS hW
  go_wp2_with fail
  refine (vexpr_any x _ W (EC.keep (.bel HBW.out) x _ HE.out) HT.out).mono ?_
  rintro e W2 ⟨rfl, hb2⟩
  rw [HP.out]
  have HB2 := Lib.hid (HBW.out.trans (hb2.mono HBW.out.size))
  have HS2 := Lib.hid ((hb2.block _ hz).trans HS.out)
  have hz2 : w.heap.size < W2.heap.size := Nat.lt_of_lt_of_le hz hb2.size
  clear hb2 a0 a1 a2 a3 a4 a5 a6 a7 a8 a9 HS
  go_upto_region 4 with fail
  generalize hW : World.alloc W2 _ = W3
  have hb3 : Below W2.heap.size W2 W3 := by rw [← hW]; exact (Below.refl _ _).alloc (Nat.le_refl _) _
  have hw3 : W3.heap[W2.heap.size]? = some (.cells #[.slice none 0 0] 135 (0, 0)) := by rw [← hW]; exact heap_alloc_new W2 _
  have hz3 : W3.heap.size = W2.heap.size + 1 := by rw [← hW]; simp
  have hR : WrR (W2.heap.size + 1) W2.heap.size W3 [] := ⟨by omega, by omega, _, hw3, RowsO.nil ..⟩
  have HR := Lib.hid hR
  have HB3 := Lib.hid (HB2.out.trans (hb3.mono (Nat.le_of_lt hz2)))
  have HE3 := Lib.hid (EC.weak (M' := WM W2.heap.size W3) (fun i hi hm => by
    rcases HR.out.wm hm with rfl | h
    · omega
    · omega) x _ (EC.keep (.bel HB3.out) x _ HE.out))
  have hS3 := (hb3.block _ hz2).trans HS2.out
  have hL3 : LibOk W3 := HL.out.keep (M := fun _ => False) (.bel HB3.out) (fun _ _ => id) hs
  have HL3 := Lib.hid hL3
  obtain ⟨a0, a1, a2, a3, a4, a5, a6, a7, a8, a9, _⟩ := blk10 hS3
  clear hW hb3 hw3 hR hS3 hL3
  go_wp2_with fail
  refine (vx_wex HV.out (W2.heap.size + 1) W2.heap.size _ [] W3 HR.out HE3.out HL3.out (by omega) (by have := HN1.out; simpa using this)).mono ?_
  rintro e W4 ⟨rfl, hw⟩
  have hB4 := hw.below HR.out (Nat.le_refl _)
  have HW := Lib.hid hw
  have HB4 := Lib.hid (HB3.out.trans (hB4.mono (Nat.le_of_lt hz2)))
  obtain ⟨_, _, v, hv, hrow⟩ := hw.rd
  have HROW := Lib.hid (hrow.rows (M := NoM) fun _ _ _ => id)
  have HL4 := Lib.hid (lib_wst HL3.out (by omega) HR.out hw)
  have hc := (wcell hv).1
  obtain ⟨ra, rc, rfl, _⟩ := hrow.shape
  have hzz := hw.size
  clear hw hB4 hv hrow a0 a1 a2 a3 a4 a5 a6 a7 a8 a9
  dsimp only
  go_wp2_with fail
  refine (wtext_any _ _ W4 HROW.out HL4.out (by omega) (by have := HN2.out; simpa using this)).mono ?_
  rintro e W5 ⟨rfl, hb5⟩
  have HB5 := Lib.hid (HB4.out.trans (hb5.mono (by omega)))
  clear hb5
  dsimp only
  go_wp2_with fail
  go_ret2
  exact ⟨rfl, HB5.out⟩
end Go.Proofs.YtppiaaolggpjdaaDoor
