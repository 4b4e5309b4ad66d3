/- What inner writes, over what expr writes. -/
import Derived.Test.YtppiaaolggpjdaaDoorX4
namespace Go.Proofs.YtppiaaolggpjdaaDoor
open Go.RowKit

def agg13 : Array Value := #[.string ⟨#[]⟩, .string ⟨#[]⟩, .string ⟨#[]⟩, .string ⟨#[]⟩, .string ⟨#[]⟩, .string ⟨#[]⟩, .string ⟨#[]⟩, .string ⟨#[]⟩, .string ⟨#[]⟩, .string ⟨#[]⟩, .string ⟨#[83, 85, 77]⟩, .string ⟨#[77, 73, 78]⟩, .string ⟨#[77, 65, 88]⟩]
theorem words_sub8 {k : Int} {st : Bool} {f : ByteArray} {items whr : List Ex} (h : 8 ≤ k) : wordsP (opX k 0 false [] [.mk st items f whr]) = headW k (items.map wordsP) ++ ((kFROM :: f :: whereW (whr.map wordsP)) ++ [kShut]) := by rw [words_sub h, List.append_assoc]

set_option maxRecDepth 100000 in
set_option maxHeartbeats 8000000 in
theorem winner_exists (st : Bool) (f : ByteArray) (whr : List Ex) (hallw : ∀ x ∈ whr, WexOk x) (lo b : Nat) (cs : List Value) (ws : List ByteArray) (w : World) (h : WrR lo b w ws) (hE : EC (WM b w) w (opX 8 0 false [] [.mk st ([] : List Ex) f whr]) cs) (hl : LibOk w) (hB : 4 < b) (hN : ws.length + (wordsP (opX 8 0 false [] [.mk st ([] : List Ex) f whr])).length ≤ 1000000000) :
    Calls Tryd.prog 140 #[.pointer (some ⟨b, 0, none⟩), .agg cs.toArray] w (WPost lo b w (ws ++ wordsP (opX 8 0 false [] [.mk st ([] : List Ex) f whr]))) := by
  have H := Lib.hid h
  have HL := Lib.hid hl
  have hk0 : True := trivial
  have HALLW := Lib.hid hallw
  have HN := Lib.hid hN
  have hbw := h.lt
  obtain ⟨xva, xvs, rfl, hva, hvs⟩ := (EC_iff ..).1 hE
  obtain ⟨ea, ec, rfl, _⟩ := hva.shape
  rcases hvs.open with ⟨_, h0⟩ | ⟨sb, so, sc, rfl, _, hsb, hsc, hsm, hxx⟩
  · cases h0
  obtain ⟨qs, hq, _, hqs⟩ := hxx 0 _ rfl
  obtain ⟨vi, vw, rfl, hvi, hvw⟩ := (QC_iff ..).1 hq
  obtain ⟨ia, ic, rfl, _⟩ := hvi.shape
  obtain ⟨wa, wc, rfl, _⟩ := hvw.shape
  obtain ⟨c0, c1, c2, c3⟩ := CellsAt.c4 hqs
  simp only [Nat.zero_mul, Nat.add_zero] at c0 c1 c2 c3
  have c1 : w.cell? ⟨sb, so + 1, none⟩ = some (.slice ia 0 ic) := c1
  have HI := Lib.hid (show ExsR (WM b w) w (.slice ia 0 ic) ([] : List Ex) from hvi)
  have HWH := Lib.hid (show ExsR (WM b w) w (.slice wa whr.length wc) whr from hvw)
  simp only [exCells, opX, Ex.kind, Ex.op, Ex.no, Ex.val, Ex.table, Ex.name, Ex.args, Ex.sub, List.length_cons, List.length_nil, Nat.zero_add, val0, Qu.star, Qu.frm] at c0 c2 ⊢
  have hout : wordsP (opX 8 0 false [] [.mk st ([] : List Ex) f whr]) = _ := words_sub8 (k := 8) (st := st) (f := f) (items := ([] : List Ex)) (whr := whr) (by omega)
  simp only [opX, val0] at hout HN
  rw [hout] at HN ⊢
  have hhead : headW 8 (([] : List Ex).map wordsP) = [kEXISTS, kOpen, kSELECT, kStar] := by unfold headW; rw [if_pos rfl]
  rw [hhead] at HN ⊢
  generalize hr : (kFROM :: f :: whereW (whr.map wordsP)) = fr at HN ⊢
  have HR := Lib.hid hr
  clear h hl hE hN hallw hva hvs hxx hq hqs hvi hvw hout hhead hr
  clear hk0
  go_enter Tryd.func140, Tryd.ntmps140
  go_upto_region 2 with fail
  generalize hW : World.alloc (World.alloc w _) _ = W
  have hS : W.heap[w.heap.size]? = some (.cells #[.int .i64 8, .int .i64 0, .bool false, .int .i64 0, .int .i64 0, .string es, .string es, .string es, .slice ea 0 ec, .slice (some ⟨sb, so, none⟩) 1 sc] 27 (0, 0)) := by rw [← hW]; exact (heap_alloc_old _ _ (by simp)).trans (heap_alloc_new w _)
  have hS1 : W.heap[w.heap.size + 1]? = some (.cells #[.bool st, .slice ia 0 ic, .string f, .slice wa whr.length wc] 37 (0, 0)) := by rw [← hW]; have h := heap_alloc_new (w.alloc (.cells #[.int .i64 8, .int .i64 0, .bool false, .int .i64 0, .int .i64 0, .string es, .string es, .string es, .slice ea 0 ec, .slice (some ⟨sb, so, none⟩) 1 sc] 27)) (.cells #[.bool st, .slice ia 0 ic, .string f, .slice wa whr.length wc] 37); rw [World.size_alloc] at h; exact h
  have hb : Below w.heap.size w W := by rw [← hW]; exact ((Below.refl _ _).alloc (Nat.le_refl _) _).alloc (by simp) _
  have hz := (Array.getElem?_eq_some_iff.1 hS1).1
  have HBOX : Hid (∀ wx ys, WSt lo b W wx ys → (wx.cell? ⟨w.heap.size, 0, none⟩ = some (.int .i64 8) ∧ wx.cell? ⟨w.heap.size + 1, 0, none⟩ = some (.bool st) ∧ wx.cell? ⟨w.heap.size + 1, 1, none⟩ = some (.slice ia 0 ic) ∧ wx.cell? ⟨w.heap.size + 1, 2, none⟩ = some (.string f) ∧ wx.cell? ⟨w.heap.size + 1, 3, none⟩ = some (.slice wa whr.length wc))) := Lib.hid fun wx ys hw => by
    obtain ⟨a0, _⟩ := blk10 ((hw.block (by omega) (wm_old H.out hb (Nat.le_refl _))).1.trans hS)
    obtain ⟨d0, d1, d2, d3, _⟩ := blk4 ((hw.block hz (wm_old H.out hb (by omega))).1.trans hS1)
    exact ⟨a0, d0, d1, d2, d3⟩
  have HW0 := Lib.hid ((WSt.refl H.out).bel hb)
  have HW := Lib.hid (WSt.refl (H.out.bel hb))
  have HIW := Lib.hid (exs_wst HI.out HW0.out)
  have HHW := Lib.hid (exs_wst HWH.out HW0.out)
  have HLW := Lib.hid (lib_wst HL.out hB H.out HW0.out)
  clear hS hS1 hb hW HI HWH HL c0 c1 c2 c3
  obtain ⟨b0, q0, q1, q2, q3⟩ := HBOX.out _ _ HW.out
  go_wp2_with fail
  refine (put_any (M := fun _ => False) lo b _ ws [kEXISTS, kOpen, kSELECT, kStar] _ (HW.out.rd.bel ((Below.refl _ _).alloc (Nat.le_refl _) _)) (rows_strs [kEXISTS, kOpen, kSELECT, kStar] rfl rfl rfl (by simp) _) (by simp) (by have := HN.out; simp at this ⊢; omega)).mono ?_
  rintro e w3 ⟨rfl, hw3⟩
  have HW3 := Lib.hid ((HW.out.alloc (.cells #[.string kEXISTS, .string kOpen, .string kSELECT, .string kStar] 9)).trans hw3)
  clear hw3
  dsimp only
  clear b0 q0 q1 q2 q3
  obtain ⟨b0, q0, q1, q2, q3⟩ := HBOX.out _ _ HW3.out
  have HX3 := Lib.hid (exs_wst HHW.out HW3.out)
  have HL3 := Lib.hid (lib_wst HLW.out hB HW.out.rd HW3.out)
  go_wp2_with fail
  refine (wfrom_any st f _ _ whr HALLW.out lo b (ws ++ [kEXISTS, kOpen, kSELECT, kStar]) w3 HW3.out.rd HX3.out HL3.out hB (by rw [HR.out]; have := HN.out; simp at this ⊢; omega)).mono ?_
  rintro e w8 ⟨rfl, hw8⟩
  have HW8 := Lib.hid (HW3.out.trans hw8)
  clear hw8 b0 q0 q1 q2 q3
  rw [HR.out] at HW8
  dsimp only
  go_wp2_with fail
  refine (put_any (M := fun _ => False) lo b _ (ws ++ [kEXISTS, kOpen, kSELECT, kStar] ++ fr) [kShut] _ (HW8.out.rd.bel ((Below.refl _ _).alloc (Nat.le_refl _) _)) (rows_strs [kShut] rfl rfl rfl (by simp) _) (by simp) (by have := HN.out; simp at this ⊢; omega)).mono ?_
  rintro e w9 ⟨rfl, hw9⟩
  have HW9 := Lib.hid (HW0.out.trans ((HW8.out.alloc (.cells #[.string kShut] 9)).trans hw9))
  clear hw9
  dsimp only
  go_wp2_with fail
  go_end0
  exact ⟨rfl, by have h := HW9.out; simp only [List.append_assoc, List.cons_append, List.nil_append] at h ⊢; exact h⟩

set_option maxRecDepth 100000 in
set_option maxHeartbeats 8000000 in
theorem winner_count (st : Bool) (f : ByteArray) (whr : List Ex) (hallw : ∀ x ∈ whr, WexOk x) (lo b : Nat) (cs : List Value) (ws : List ByteArray) (w : World) (h : WrR lo b w ws) (hE : EC (WM b w) w (opX 9 0 false [] [.mk st ([] : List Ex) f whr]) cs) (hl : LibOk w) (hB : 4 < b) (hN : ws.length + (wordsP (opX 9 0 false [] [.mk st ([] : List Ex) f whr])).length ≤ 1000000000) :
    Calls Tryd.prog 140 #[.pointer (some ⟨b, 0, none⟩), .agg cs.toArray] w (WPost lo b w (ws ++ wordsP (opX 9 0 false [] [.mk st ([] : List Ex) f whr]))) := by
  have H := Lib.hid h
  have HL := Lib.hid hl
  have hk0 : True := trivial
  have HALLW := Lib.hid hallw
  have HN := Lib.hid hN
  have hbw := h.lt
  obtain ⟨xva, xvs, rfl, hva, hvs⟩ := (EC_iff ..).1 hE
  obtain ⟨ea, ec, rfl, _⟩ := hva.shape
  rcases hvs.open with ⟨_, h0⟩ | ⟨sb, so, sc, rfl, _, hsb, hsc, hsm, hxx⟩
  · cases h0
  obtain ⟨qs, hq, _, hqs⟩ := hxx 0 _ rfl
  obtain ⟨vi, vw, rfl, hvi, hvw⟩ := (QC_iff ..).1 hq
  obtain ⟨ia, ic, rfl, _⟩ := hvi.shape
  obtain ⟨wa, wc, rfl, _⟩ := hvw.shape
  obtain ⟨c0, c1, c2, c3⟩ := CellsAt.c4 hqs
  simp only [Nat.zero_mul, Nat.add_zero] at c0 c1 c2 c3
  have c1 : w.cell? ⟨sb, so + 1, none⟩ = some (.slice ia 0 ic) := c1
  have HI := Lib.hid (show ExsR (WM b w) w (.slice ia 0 ic) ([] : List Ex) from hvi)
  have HWH := Lib.hid (show ExsR (WM b w) w (.slice wa whr.length wc) whr from hvw)
  simp only [exCells, opX, Ex.kind, Ex.op, Ex.no, Ex.val, Ex.table, Ex.name, Ex.args, Ex.sub, List.length_cons, List.length_nil, Nat.zero_add, val0, Qu.star, Qu.frm] at c0 c2 ⊢
  have hout : wordsP (opX 9 0 false [] [.mk st ([] : List Ex) f whr]) = _ := words_sub8 (k := 9) (st := st) (f := f) (items := ([] : List Ex)) (whr := whr) (by omega)
  simp only [opX, val0] at hout HN
  rw [hout] at HN ⊢
  have hhead : headW 9 (([] : List Ex).map wordsP) = [kOpen, kSELECT, kCOUNT, kOpen, kStar, kShut] := by unfold headW; rw [if_neg (by omega), if_pos rfl]
  rw [hhead] at HN ⊢
  generalize hr : (kFROM :: f :: whereW (whr.map wordsP)) = fr at HN ⊢
  have HR := Lib.hid hr
  clear h hl hE hN hallw hva hvs hxx hq hqs hvi hvw hout hhead hr
  clear hk0
  go_enter Tryd.func140, Tryd.ntmps140
  go_upto_region 2 with fail
  generalize hW : World.alloc (World.alloc w _) _ = W
  have hS : W.heap[w.heap.size]? = some (.cells #[.int .i64 9, .int .i64 0, .bool false, .int .i64 0, .int .i64 0, .string es, .string es, .string es, .slice ea 0 ec, .slice (some ⟨sb, so, none⟩) 1 sc] 27 (0, 0)) := by rw [← hW]; exact (heap_alloc_old _ _ (by simp)).trans (heap_alloc_new w _)
  have hS1 : W.heap[w.heap.size + 1]? = some (.cells #[.bool st, .slice ia 0 ic, .string f, .slice wa whr.length wc] 37 (0, 0)) := by rw [← hW]; have h := heap_alloc_new (w.alloc (.cells #[.int .i64 9, .int .i64 0, .bool false, .int .i64 0, .int .i64 0, .string es, .string es, .string es, .slice ea 0 ec, .slice (some ⟨sb, so, none⟩) 1 sc] 27)) (.cells #[.bool st, .slice ia 0 ic, .string f, .slice wa whr.length wc] 37); rw [World.size_alloc] at h; exact h
  have hb : Below w.heap.size w W := by rw [← hW]; exact ((Below.refl _ _).alloc (Nat.le_refl _) _).alloc (by simp) _
  have hz := (Array.getElem?_eq_some_iff.1 hS1).1
  have HBOX : Hid (∀ wx ys, WSt lo b W wx ys → (wx.cell? ⟨w.heap.size, 0, none⟩ = some (.int .i64 9) ∧ wx.cell? ⟨w.heap.size + 1, 0, none⟩ = some (.bool st) ∧ wx.cell? ⟨w.heap.size + 1, 1, none⟩ = some (.slice ia 0 ic) ∧ wx.cell? ⟨w.heap.size + 1, 2, none⟩ = some (.string f) ∧ wx.cell? ⟨w.heap.size + 1, 3, none⟩ = some (.slice wa whr.length wc))) := Lib.hid fun wx ys hw => by
    obtain ⟨a0, _⟩ := blk10 ((hw.block (by omega) (wm_old H.out hb (Nat.le_refl _))).1.trans hS)
    obtain ⟨d0, d1, d2, d3, _⟩ := blk4 ((hw.block hz (wm_old H.out hb (by omega))).1.trans hS1)
    exact ⟨a0, d0, d1, d2, d3⟩
  have HW0 := Lib.hid ((WSt.refl H.out).bel hb)
  have HW := Lib.hid (WSt.refl (H.out.bel hb))
  have HIW := Lib.hid (exs_wst HI.out HW0.out)
  have HHW := Lib.hid (exs_wst HWH.out HW0.out)
  have HLW := Lib.hid (lib_wst HL.out hB H.out HW0.out)
  clear hS hS1 hb hW HI HWH HL c0 c1 c2 c3
  obtain ⟨b0, q0, q1, q2, q3⟩ := HBOX.out _ _ HW.out
  go_wp2_with fail
  refine (put_any (M := fun _ => False) lo b _ ws [kOpen, kSELECT, kCOUNT, kOpen, kStar, kShut] _ (HW.out.rd.bel ((Below.refl _ _).alloc (Nat.le_refl _) _)) (rows_strs [kOpen, kSELECT, kCOUNT, kOpen, kStar, kShut] rfl rfl rfl (by simp) _) (by simp) (by have := HN.out; simp at this ⊢; omega)).mono ?_
  rintro e w3 ⟨rfl, hw3⟩
  have HW3 := Lib.hid ((HW.out.alloc (.cells #[.string kOpen, .string kSELECT, .string kCOUNT, .string kOpen, .string kStar, .string kShut] 9)).trans hw3)
  clear hw3
  dsimp only
  clear b0 q0 q1 q2 q3
  obtain ⟨b0, q0, q1, q2, q3⟩ := HBOX.out _ _ HW3.out
  have HX3 := Lib.hid (exs_wst HHW.out HW3.out)
  have HL3 := Lib.hid (lib_wst HLW.out hB HW.out.rd HW3.out)
  go_wp2_with fail
  refine (wfrom_any st f _ _ whr HALLW.out lo b (ws ++ [kOpen, kSELECT, kCOUNT, kOpen, kStar, kShut]) w3 HW3.out.rd HX3.out HL3.out hB (by rw [HR.out]; have := HN.out; simp at this ⊢; omega)).mono ?_
  rintro e w8 ⟨rfl, hw8⟩
  have HW8 := Lib.hid (HW3.out.trans hw8)
  clear hw8 b0 q0 q1 q2 q3
  rw [HR.out] at HW8
  dsimp only
  go_wp2_with fail
  refine (put_any (M := fun _ => False) lo b _ (ws ++ [kOpen, kSELECT, kCOUNT, kOpen, kStar, kShut] ++ fr) [kShut] _ (HW8.out.rd.bel ((Below.refl _ _).alloc (Nat.le_refl _) _)) (rows_strs [kShut] rfl rfl rfl (by simp) _) (by simp) (by have := HN.out; simp at this ⊢; omega)).mono ?_
  rintro e w9 ⟨rfl, hw9⟩
  have HW9 := Lib.hid (HW0.out.trans ((HW8.out.alloc (.cells #[.string kShut] 9)).trans hw9))
  clear hw9
  dsimp only
  go_wp2_with fail
  go_end0
  exact ⟨rfl, by have h := HW9.out; simp only [List.append_assoc, List.cons_append, List.nil_append] at h ⊢; exact h⟩

set_option maxRecDepth 100000 in
set_option maxHeartbeats 8000000 in
theorem winner_agg (k : Int) (x : Ex) (hk : k = 10 ∨ k = 11 ∨ k = 12) (hallx : WexOk x) (st : Bool) (f : ByteArray) (whr : List Ex) (hallw : ∀ x ∈ whr, WexOk x) (lo b : Nat) (cs : List Value) (ws : List ByteArray) (w : World) (h : WrR lo b w ws) (hE : EC (WM b w) w (opX k 0 false [] [.mk st [x] f whr]) cs) (hl : LibOk w) (hB : 4 < b) (hN : ws.length + (wordsP (opX k 0 false [] [.mk st [x] f whr])).length ≤ 1000000000) :
    Calls Tryd.prog 140 #[.pointer (some ⟨b, 0, none⟩), .agg cs.toArray] w (WPost lo b w (ws ++ wordsP (opX k 0 false [] [.mk st [x] f whr]))) := by
  have H := Lib.hid h
  have HL := Lib.hid hl
  have HX := Lib.hid hallx
  have HALLW := Lib.hid hallw
  have HN := Lib.hid hN
  have hbw := h.lt
  obtain ⟨xva, xvs, rfl, hva, hvs⟩ := (EC_iff ..).1 hE
  obtain ⟨ea, ec, rfl, _⟩ := hva.shape
  rcases hvs.open with ⟨_, h0⟩ | ⟨sb, so, sc, rfl, _, hsb, hsc, hsm, hxx⟩
  · cases h0
  obtain ⟨qs, hq, _, hqs⟩ := hxx 0 _ rfl
  obtain ⟨vi, vw, rfl, hvi, hvw⟩ := (QC_iff ..).1 hq
  obtain ⟨ia, ic, rfl, _⟩ := hvi.shape
  obtain ⟨wa, wc, rfl, _⟩ := hvw.shape
  obtain ⟨c0, c1, c2, c3⟩ := CellsAt.c4 hqs
  simp only [Nat.zero_mul, Nat.add_zero] at c0 c1 c2 c3
  have c1 : w.cell? ⟨sb, so + 1, none⟩ = some (.slice ia 1 ic) := c1
  have HI := Lib.hid (show ExsR (WM b w) w (.slice ia 1 ic) [x] from hvi)
  have HWH := Lib.hid (show ExsR (WM b w) w (.slice wa whr.length wc) whr from hvw)
  simp only [exCells, opX, Ex.kind, Ex.op, Ex.no, Ex.val, Ex.table, Ex.name, Ex.args, Ex.sub, List.length_cons, List.length_nil, Nat.zero_add, val0, Qu.star, Qu.frm] at c0 c2 ⊢
  have hout : wordsP (opX k 0 false [] [.mk st [x] f whr]) = _ := words_sub8 (k := k) (st := st) (f := f) (items := [x]) (whr := whr) (by omega)
  simp only [opX, val0] at hout HN
  rw [hout] at HN ⊢
  have hhead : headW k ([x].map wordsP) = [kOpen, kSELECT, aggS k, kOpen] ++ (wordsP x ++ [kShut]) := by unfold headW; rw [if_neg (by omega), if_neg (by omega)]; rfl
  rw [hhead] at HN ⊢
  generalize hr : (kFROM :: f :: whereW (whr.map wordsP)) = fr at HN ⊢
  have HR := Lib.hid hr
  clear h hl hE hN hallw hva hvs hxx hq hqs hvi hvw hout hhead hr
  have hk8 : (k == 8) = false := by rcases hk with rfl | rfl | rfl <;> rfl
  have hk9 : (k == 9) = false := by rcases hk with rfl | rfl | rfl <;> rfl
  have hix : ∀ w : World, (Instr.index 200 (.agg agg13) (.int .i64 k)).run Tryd.prog w = .ok (.string (aggS k)) w := by rcases hk with rfl | rfl | rfl <;> exact fun _ => by kernel_rfl
  unfold agg13 at hix
  generalize aggS k = ag at hix HN ⊢
  clear hk hallx
  go_enter Tryd.func140, Tryd.ntmps140
  go_upto_region 2 with fail
  generalize hW : World.alloc (World.alloc w _) _ = W
  have hS : W.heap[w.heap.size]? = some (.cells #[.int .i64 k, .int .i64 0, .bool false, .int .i64 0, .int .i64 0, .string es, .string es, .string es, .slice ea 0 ec, .slice (some ⟨sb, so, none⟩) 1 sc] 27 (0, 0)) := by rw [← hW]; exact (heap_alloc_old _ _ (by simp)).trans (heap_alloc_new w _)
  have hS1 : W.heap[w.heap.size + 1]? = some (.cells #[.bool st, .slice ia 1 ic, .string f, .slice wa whr.length wc] 37 (0, 0)) := by rw [← hW]; have h := heap_alloc_new (w.alloc (.cells #[.int .i64 k, .int .i64 0, .bool false, .int .i64 0, .int .i64 0, .string es, .string es, .string es, .slice ea 0 ec, .slice (some ⟨sb, so, none⟩) 1 sc] 27)) (.cells #[.bool st, .slice ia 1 ic, .string f, .slice wa whr.length wc] 37); rw [World.size_alloc] at h; exact h
  have hb : Below w.heap.size w W := by rw [← hW]; exact ((Below.refl _ _).alloc (Nat.le_refl _) _).alloc (by simp) _
  have hz := (Array.getElem?_eq_some_iff.1 hS1).1
  have HBOX : Hid (∀ wx ys, WSt lo b W wx ys → (wx.cell? ⟨w.heap.size, 0, none⟩ = some (.int .i64 k) ∧ wx.cell? ⟨w.heap.size + 1, 0, none⟩ = some (.bool st) ∧ wx.cell? ⟨w.heap.size + 1, 1, none⟩ = some (.slice ia 1 ic) ∧ wx.cell? ⟨w.heap.size + 1, 2, none⟩ = some (.string f) ∧ wx.cell? ⟨w.heap.size + 1, 3, none⟩ = some (.slice wa whr.length wc))) := Lib.hid fun wx ys hw => by
    obtain ⟨a0, _⟩ := blk10 ((hw.block (by omega) (wm_old H.out hb (Nat.le_refl _))).1.trans hS)
    obtain ⟨d0, d1, d2, d3, _⟩ := blk4 ((hw.block hz (wm_old H.out hb (by omega))).1.trans hS1)
    exact ⟨a0, d0, d1, d2, d3⟩
  have HW0 := Lib.hid ((WSt.refl H.out).bel hb)
  have HW := Lib.hid (WSt.refl (H.out.bel hb))
  have HIW := Lib.hid (exs_wst HI.out HW0.out)
  have HHW := Lib.hid (exs_wst HWH.out HW0.out)
  have HLW := Lib.hid (lib_wst HL.out hB H.out HW0.out)
  clear hS hS1 hb hW HI HWH HL c0 c1 c2 c3
  obtain ⟨b0, q0, q1, q2, q3⟩ := HBOX.out _ _ HW.out
  go_wp2_with fail
  refine (put_any (M := fun _ => False) lo b _ ws [kOpen, kSELECT, ag, kOpen] _ (HW.out.rd.bel ((Below.refl _ _).alloc (Nat.le_refl _) _)) (rows_strs [kOpen, kSELECT, ag, kOpen] rfl rfl rfl (by simp) _) (by simp) (by have := HN.out; simp at this ⊢; omega)).mono ?_
  rintro e w3 ⟨rfl, hw3⟩
  have HW3 := Lib.hid ((HW.out.alloc (.cells #[.string kOpen, .string kSELECT, .string ag, .string kOpen] 9)).trans hw3)
  clear hw3
  dsimp only
  clear b0 q0 q1 q2 q3
  obtain ⟨b0, q0, q1, q2, q3⟩ := HBOX.out _ _ HW3.out
  have HI3 := Lib.hid (exs_wst HIW.out HW3.out)
  have HL3 := Lib.hid (lib_wst HLW.out hB HW.out.rd HW3.out)
  rcases HI3.out.open with ⟨_, h0⟩ | ⟨ib, io, icp, hv', _, hib, _, _, hx⟩
  · cases h0
  simp only [Value.slice.injEq] at hv'
  obtain ⟨rfl, hv1, rfl⟩ := hv'
  clear hv1
  obtain ⟨xcs, hc, _, hcs⟩ := hx 0 _ rfl
  have HE := Lib.hid hc
  obtain ⟨xva, xvs, rfl, hva, hvs⟩ := (EC_iff ..).1 hc
  obtain ⟨xa, xac, rfl, _⟩ := hva.shape
  obtain ⟨xs, xsc, rfl, _⟩ := hvs.shape
  obtain ⟨c0, c1, c2, c3, c4, c5, c6, c7, c8, c9⟩ := CellsAt.c10 hcs
  simp only [Nat.zero_mul, Nat.add_zero] at c0 c1 c2 c3 c4 c5 c6 c7 c8 c9
  simp only [exCells] at HE
  clear hx hc hcs hva hvs
  go_wp2_with fail
  refine (HX.out lo b _ (ws ++ [kOpen, kSELECT, ag, kOpen]) w3 HW3.out.rd HE.out HL3.out hB (by have := HN.out; simp at this ⊢; omega)).mono ?_
  rintro e w4 ⟨rfl, hw4⟩
  have HW4 := Lib.hid (HW3.out.trans hw4)
  clear hw4 b0 q0 q1 q2 q3 c0 c1 c2 c3 c4 c5 c6 c7 c8 c9
  dsimp only
  go_wp2_with fail
  refine (put_any (M := fun _ => False) lo b _ (ws ++ [kOpen, kSELECT, ag, kOpen] ++ wordsP x) [kShut] _ (HW4.out.rd.bel ((Below.refl _ _).alloc (Nat.le_refl _) _)) (rows_strs [kShut] rfl rfl rfl (by simp) _) (by simp) (by have := HN.out; simp at this ⊢; omega)).mono ?_
  rintro e w5 ⟨rfl, hw5⟩
  have HW5 := Lib.hid ((HW4.out.alloc (.cells #[.string kShut] 9)).trans hw5)
  clear hw5
  dsimp only
  obtain ⟨b0, q0, q1, q2, q3⟩ := HBOX.out _ _ HW5.out
  have HX5 := Lib.hid (exs_wst HHW.out HW5.out)
  have HL5 := Lib.hid (lib_wst HLW.out hB HW.out.rd HW5.out)
  go_wp2_with fail
  refine (wfrom_any st f _ _ whr HALLW.out lo b (ws ++ [kOpen, kSELECT, ag, kOpen] ++ wordsP x ++ [kShut]) w5 HW5.out.rd HX5.out HL5.out hB (by rw [HR.out]; have := HN.out; simp at this ⊢; omega)).mono ?_
  rintro e w8 ⟨rfl, hw8⟩
  have HW8 := Lib.hid (HW5.out.trans hw8)
  clear hw8 b0 q0 q1 q2 q3
  rw [HR.out] at HW8
  dsimp only
  go_wp2_with fail
  refine (put_any (M := fun _ => False) lo b _ (ws ++ [kOpen, kSELECT, ag, kOpen] ++ wordsP x ++ [kShut] ++ fr) [kShut] _ (HW8.out.rd.bel ((Below.refl _ _).alloc (Nat.le_refl _) _)) (rows_strs [kShut] rfl rfl rfl (by simp) _) (by simp) (by have := HN.out; simp at this ⊢; omega)).mono ?_
  rintro e w9 ⟨rfl, hw9⟩
  have HW9 := Lib.hid (HW0.out.trans ((HW8.out.alloc (.cells #[.string kShut] 9)).trans hw9))
  clear hw9
  dsimp only
  go_wp2_with fail
  go_end0
  exact ⟨rfl, by have h := HW9.out; simp only [List.append_assoc, List.cons_append, List.nil_append] at h ⊢; exact h⟩
end Go.Proofs.YtppiaaolggpjdaaDoor
