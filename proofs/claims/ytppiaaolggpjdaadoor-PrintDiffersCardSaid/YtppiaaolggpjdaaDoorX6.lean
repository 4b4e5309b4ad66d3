/- What expr writes, for every well-formed expression. -/
import Derived.Test.YtppiaaolggpjdaaDoorX5
import Derived.Test.YtppiaaolggpjdaaDoorQ6
namespace Go.Proofs.YtppiaaolggpjdaaDoor
open Go.RowKit

theorem words_not (a : Ex) : wordsP (opX 3 0 false [a] []) = [kNOT] ++ argW 3 0 0 a := by
  rw [words_ops (by decide)]
  unfold opW
  rw [if_pos rfl, args1]
  rfl
theorem words_neg (a : Ex) : wordsP (opX 4 0 false [a] []) = [kMinus] ++ argW 4 0 0 a := by
  rw [words_ops (by decide)]
  unfold opW
  rw [if_neg (by decide), if_pos rfl, args1]
  rfl
theorem words_bin (o : Int) (a c : Ex) : wordsP (opX 5 o false [a, c] []) = argW 5 o 0 a ++ [opS o] ++ argW 5 o 1 c := by
  rw [words_ops (by decide)]
  unfold opW
  rw [if_neg (by decide), if_neg (by decide), if_pos rfl, (args2 5 o a c).1, (args2 5 o a c).2]
  simp
theorem words_null1 (a : Ex) : wordsP (opX 6 0 true [a] []) = argW 6 0 0 a ++ [kIS] ++ [kNOT] ++ [kNULL] := by
  rw [words_ops (by decide)]
  unfold opW
  rw [if_neg (by decide), if_neg (by decide), if_neg (by decide), if_pos rfl, args1]
  simp
theorem words_null0 (a : Ex) : wordsP (opX 6 0 false [a] []) = argW 6 0 0 a ++ [kIS] ++ [kNULL] := by
  rw [words_ops (by decide)]
  unfold opW
  rw [if_neg (by decide), if_neg (by decide), if_neg (by decide), if_pos rfl, args1]
  simp
theorem words_btw (a c d : Ex) : wordsP (opX 7 0 false [a, c, d] []) = argW 7 0 0 a ++ [kBETWEEN] ++ argW 7 0 1 c ++ [kAND] ++ argW 7 0 2 d := by
  rw [words_ops (by decide)]
  unfold opW
  rw [if_neg (by decide), if_neg (by decide), if_neg (by decide), if_neg (by decide), (args3 7 0 a c d).1, (args3 7 0 a c d).2.1, (args3 7 0 a c d).2.2]
  simp
set_option maxRecDepth 100000 in
set_option maxHeartbeats 8000000 in
theorem wex_not (a : Ex) (ha : WexOk a) : WexOk (opX 3 0 false [a] []) := by
  intro lo b cs ws w h hE hl hB hN
  have H := Lib.hid h
  have HL := Lib.hid hl
  have HN := Lib.hid hN
  have Ha := Lib.hid ha
  have hbw := h.lt
  obtain ⟨xva, xvs, rfl, hva, hvs⟩ := (EC_iff ..).1 hE
  obtain ⟨ea, ec, rfl, _⟩ := hva.shape
  obtain ⟨sa, sc, rfl, _⟩ := hvs.shape
  have HA := Lib.hid (show ExsR (WM b w) w (.slice ea 1 ec) [a] from hva)
  have hout := words_not a
  simp only [exCells, opX, Ex.kind, Ex.op, Ex.no, Ex.val, Ex.table, Ex.name, Ex.args, Ex.sub, List.length_cons, List.length_nil, Nat.zero_add, val0] at hout HN ⊢
  rw [hout] at HN ⊢
  clear h hl hE hN hva hvs hout
  go_enter Tryd.func92, Tryd.ntmps92
  go_upto_region 1 with fail
  generalize hW : World.alloc w _ = W
  have hS : W.heap[w.heap.size]? = some (.cells #[.int .i64 3, .int .i64 0, .bool false, .int .i64 0, .int .i64 0, .string es, .string es, .string es, .slice ea 1 ec, .slice sa 0 sc] 27 (0, 0)) := by rw [← hW]; exact heap_alloc_new w _
  have hb : Below w.heap.size w W := by rw [← hW]; exact (Below.refl _ _).alloc (Nat.le_refl _) _
  have hz := (Array.getElem?_eq_some_iff.1 hS).1
  have HBOX : Hid (∀ wx ys, WSt lo b W wx ys → (wx.cell? ⟨w.heap.size, 0, none⟩ = some (.int .i64 3) ∧ wx.cell? ⟨w.heap.size, 1, none⟩ = some (.int .i64 0) ∧ wx.cell? ⟨w.heap.size, 2, none⟩ = some (.bool false) ∧ wx.cell? ⟨w.heap.size, 3, none⟩ = some (.int .i64 0) ∧ wx.cell? ⟨w.heap.size, 4, none⟩ = some (.int .i64 0) ∧ wx.cell? ⟨w.heap.size, 5, none⟩ = some (.string es) ∧ wx.cell? ⟨w.heap.size, 6, none⟩ = some (.string es) ∧ wx.cell? ⟨w.heap.size, 7, none⟩ = some (.string es) ∧ wx.cell? ⟨w.heap.size, 8, none⟩ = some (.slice ea 1 ec) ∧ wx.cell? ⟨w.heap.size, 9, none⟩ = some (.slice sa 0 sc))) := Lib.hid fun wx ys hw => by
    obtain ⟨a0, a1, a2, a3, a4, a5, a6, a7, a8, a9, _, _⟩ := blk10 ((hw.block hz (wm_old H.out hb (Nat.le_refl _))).1.trans hS)
    exact ⟨a0, a1, a2, a3, a4, a5, a6, a7, a8, a9⟩
  have HW0 := Lib.hid ((WSt.refl H.out).bel hb)
  have HW1 := Lib.hid (WSt.refl (H.out.bel hb))
  have HAW := Lib.hid (exs_wst HA.out HW0.out)
  have HLW := Lib.hid (lib_wst HL.out hB H.out HW0.out)
  clear hS hb hW HA HL
  obtain ⟨b0, b1, b2, b3, b4, b5, b6, b7, b8, b9⟩ := HBOX.out _ _ HW1.out
  go_wp2_with fail
  refine (put_any (M := fun _ => False) lo b _ (ws) [kNOT] _ (HW1.out.rd.bel ((Below.refl _ _).alloc (Nat.le_refl _) _)) (rows_strs [kNOT] rfl rfl rfl (by simp) _) (by simp) (by have := HN.out; (try simp at this); (try simp); omega)).mono ?_
  rintro e w2 ⟨rfl, hw2⟩
  have HW2 := Lib.hid ((HW1.out.alloc (.cells #[.string kNOT] 9)).trans hw2)
  clear hw2
  clear b0 b1 b2 b3 b4 b5 b6 b7 b8 b9
  obtain ⟨b0, b1, b2, b3, b4, b5, b6, b7, b8, b9⟩ := HBOX.out _ _ HW2.out
  dsimp only
  have HA3 := Lib.hid (exs_wst HAW.out HW2.out)
  have HL3 := Lib.hid (lib_wst HLW.out hB HW1.out.rd HW2.out)
  go_wp2_with fail
  refine (wargument_any 3 0 false 0 0 es es es _ _ [a] 0 a rfl Ha.out lo b (ws ++ [kNOT]) w2 HW2.out.rd HA3.out HL3.out hB (by have := HN.out; (try simp at this); (try simp); omega)).mono ?_
  rintro e w3 ⟨rfl, hw3⟩
  have HW3 := Lib.hid (HW2.out.trans hw3)
  clear hw3
  clear b0 b1 b2 b3 b4 b5 b6 b7 b8 b9
  obtain ⟨b0, b1, b2, b3, b4, b5, b6, b7, b8, b9⟩ := HBOX.out _ _ HW3.out
  dsimp only
  clear b0 b1 b2 b3 b4 b5 b6 b7 b8 b9
  go_wp2_with fail
  go_end0
  exact ⟨rfl, by have h := HW0.out.trans HW3.out; first | exact h | (simp only [List.append_assoc, List.cons_append, List.nil_append] at h ⊢; exact h)⟩

set_option maxRecDepth 100000 in
set_option maxHeartbeats 8000000 in
theorem wex_neg (a : Ex) (ha : WexOk a) : WexOk (opX 4 0 false [a] []) := by
  intro lo b cs ws w h hE hl hB hN
  have H := Lib.hid h
  have HL := Lib.hid hl
  have HN := Lib.hid hN
  have Ha := Lib.hid ha
  have hbw := h.lt
  obtain ⟨xva, xvs, rfl, hva, hvs⟩ := (EC_iff ..).1 hE
  obtain ⟨ea, ec, rfl, _⟩ := hva.shape
  obtain ⟨sa, sc, rfl, _⟩ := hvs.shape
  have HA := Lib.hid (show ExsR (WM b w) w (.slice ea 1 ec) [a] from hva)
  have hout := words_neg a
  simp only [exCells, opX, Ex.kind, Ex.op, Ex.no, Ex.val, Ex.table, Ex.name, Ex.args, Ex.sub, List.length_cons, List.length_nil, Nat.zero_add, val0] at hout HN ⊢
  rw [hout] at HN ⊢
  clear h hl hE hN hva hvs hout
  go_enter Tryd.func92, Tryd.ntmps92
  go_upto_region 1 with fail
  generalize hW : World.alloc w _ = W
  have hS : W.heap[w.heap.size]? = some (.cells #[.int .i64 4, .int .i64 0, .bool false, .int .i64 0, .int .i64 0, .string es, .string es, .string es, .slice ea 1 ec, .slice sa 0 sc] 27 (0, 0)) := by rw [← hW]; exact heap_alloc_new w _
  have hb : Below w.heap.size w W := by rw [← hW]; exact (Below.refl _ _).alloc (Nat.le_refl _) _
  have hz := (Array.getElem?_eq_some_iff.1 hS).1
  have HBOX : Hid (∀ wx ys, WSt lo b W wx ys → (wx.cell? ⟨w.heap.size, 0, none⟩ = some (.int .i64 4) ∧ wx.cell? ⟨w.heap.size, 1, none⟩ = some (.int .i64 0) ∧ wx.cell? ⟨w.heap.size, 2, none⟩ = some (.bool false) ∧ wx.cell? ⟨w.heap.size, 3, none⟩ = some (.int .i64 0) ∧ wx.cell? ⟨w.heap.size, 4, none⟩ = some (.int .i64 0) ∧ wx.cell? ⟨w.heap.size, 5, none⟩ = some (.string es) ∧ wx.cell? ⟨w.heap.size, 6, none⟩ = some (.string es) ∧ wx.cell? ⟨w.heap.size, 7, none⟩ = some (.string es) ∧ wx.cell? ⟨w.heap.size, 8, none⟩ = some (.slice ea 1 ec) ∧ wx.cell? ⟨w.heap.size, 9, none⟩ = some (.slice sa 0 sc))) := Lib.hid fun wx ys hw => by
    obtain ⟨a0, a1, a2, a3, a4, a5, a6, a7, a8, a9, _, _⟩ := blk10 ((hw.block hz (wm_old H.out hb (Nat.le_refl _))).1.trans hS)
    exact ⟨a0, a1, a2, a3, a4, a5, a6, a7, a8, a9⟩
  have HW0 := Lib.hid ((WSt.refl H.out).bel hb)
  have HW1 := Lib.hid (WSt.refl (H.out.bel hb))
  have HAW := Lib.hid (exs_wst HA.out HW0.out)
  have HLW := Lib.hid (lib_wst HL.out hB H.out HW0.out)
  clear hS hb hW HA HL
  obtain ⟨b0, b1, b2, b3, b4, b5, b6, b7, b8, b9⟩ := HBOX.out _ _ HW1.out
  go_wp2_with fail
  refine (put_any (M := fun _ => False) lo b _ (ws) [kMinus] _ (HW1.out.rd.bel ((Below.refl _ _).alloc (Nat.le_refl _) _)) (rows_strs [kMinus] rfl rfl rfl (by simp) _) (by simp) (by have := HN.out; (try simp at this); (try simp); omega)).mono ?_
  rintro e w2 ⟨rfl, hw2⟩
  have HW2 := Lib.hid ((HW1.out.alloc (.cells #[.string kMinus] 9)).trans hw2)
  clear hw2
  clear b0 b1 b2 b3 b4 b5 b6 b7 b8 b9
  obtain ⟨b0, b1, b2, b3, b4, b5, b6, b7, b8, b9⟩ := HBOX.out _ _ HW2.out
  dsimp only
  have HA3 := Lib.hid (exs_wst HAW.out HW2.out)
  have HL3 := Lib.hid (lib_wst HLW.out hB HW1.out.rd HW2.out)
  go_wp2_with fail
  refine (wargument_any 4 0 false 0 0 es es es _ _ [a] 0 a rfl Ha.out lo b (ws ++ [kMinus]) w2 HW2.out.rd HA3.out HL3.out hB (by have := HN.out; (try simp at this); (try simp); omega)).mono ?_
  rintro e w3 ⟨rfl, hw3⟩
  have HW3 := Lib.hid (HW2.out.trans hw3)
  clear hw3
  clear b0 b1 b2 b3 b4 b5 b6 b7 b8 b9
  obtain ⟨b0, b1, b2, b3, b4, b5, b6, b7, b8, b9⟩ := HBOX.out _ _ HW3.out
  dsimp only
  clear b0 b1 b2 b3 b4 b5 b6 b7 b8 b9
  go_wp2_with fail
  go_end0
  exact ⟨rfl, by have h := HW0.out.trans HW3.out; first | exact h | (simp only [List.append_assoc, List.cons_append, List.nil_append] at h ⊢; exact h)⟩

set_option maxRecDepth 100000 in
set_option maxHeartbeats 8000000 in
theorem wex_bin (o : Int) (ho1 : 1 ≤ o) (ho2 : o ≤ 13) (a : Ex) (c : Ex) (ha : WexOk a) (hc : WexOk c) : WexOk (opX 5 o false [a, c] []) := by
  intro lo b cs ws w h hE hl hB hN
  have H := Lib.hid h
  have HL := Lib.hid hl
  have HN := Lib.hid hN
  have Ha := Lib.hid ha
  have Hc := Lib.hid hc
  have hbw := h.lt
  obtain ⟨xva, xvs, rfl, hva, hvs⟩ := (EC_iff ..).1 hE
  obtain ⟨ea, ec, rfl, _⟩ := hva.shape
  obtain ⟨sa, sc, rfl, _⟩ := hvs.shape
  have HA := Lib.hid (show ExsR (WM b w) w (.slice ea 2 ec) [a, c] from hva)
  have hout := words_bin o a c
  simp only [exCells, opX, Ex.kind, Ex.op, Ex.no, Ex.val, Ex.table, Ex.name, Ex.args, Ex.sub, List.length_cons, List.length_nil, Nat.zero_add, Nat.reduceAdd, val0] at hout HN ⊢
  rw [hout] at HN ⊢
  clear h hl hE hN hva hvs hout
  go_enter Tryd.func92, Tryd.ntmps92
  go_upto_region 1 with fail
  generalize hW : World.alloc w _ = W
  have hS : W.heap[w.heap.size]? = some (.cells #[.int .i64 5, .int .i64 o, .bool false, .int .i64 0, .int .i64 0, .string es, .string es, .string es, .slice ea 2 ec, .slice sa 0 sc] 27 (0, 0)) := by rw [← hW]; exact heap_alloc_new w _
  have hb : Below w.heap.size w W := by rw [← hW]; exact (Below.refl _ _).alloc (Nat.le_refl _) _
  have hz := (Array.getElem?_eq_some_iff.1 hS).1
  have HBOX : Hid (∀ wx ys, WSt lo b W wx ys → (wx.cell? ⟨w.heap.size, 0, none⟩ = some (.int .i64 5) ∧ wx.cell? ⟨w.heap.size, 1, none⟩ = some (.int .i64 o) ∧ wx.cell? ⟨w.heap.size, 2, none⟩ = some (.bool false) ∧ wx.cell? ⟨w.heap.size, 3, none⟩ = some (.int .i64 0) ∧ wx.cell? ⟨w.heap.size, 4, none⟩ = some (.int .i64 0) ∧ wx.cell? ⟨w.heap.size, 5, none⟩ = some (.string es) ∧ wx.cell? ⟨w.heap.size, 6, none⟩ = some (.string es) ∧ wx.cell? ⟨w.heap.size, 7, none⟩ = some (.string es) ∧ wx.cell? ⟨w.heap.size, 8, none⟩ = some (.slice ea 2 ec) ∧ wx.cell? ⟨w.heap.size, 9, none⟩ = some (.slice sa 0 sc))) := Lib.hid fun wx ys hw => by
    obtain ⟨a0, a1, a2, a3, a4, a5, a6, a7, a8, a9, _, _⟩ := blk10 ((hw.block hz (wm_old H.out hb (Nat.le_refl _))).1.trans hS)
    exact ⟨a0, a1, a2, a3, a4, a5, a6, a7, a8, a9⟩
  have HW0 := Lib.hid ((WSt.refl H.out).bel hb)
  have HW1 := Lib.hid (WSt.refl (H.out.bel hb))
  have HAW := Lib.hid (exs_wst HA.out HW0.out)
  have HLW := Lib.hid (lib_wst HL.out hB H.out HW0.out)
  clear hS hb hW HA HL
  obtain ⟨b0, b1, b2, b3, b4, b5, b6, b7, b8, b9⟩ := HBOX.out _ _ HW1.out
  have HA2 := Lib.hid (exs_wst HAW.out HW1.out)
  have HL2 := Lib.hid (lib_wst HLW.out hB HW1.out.rd HW1.out)
  go_wp2_with fail
  refine (wargument_any 5 o false 0 0 es es es _ _ [a, c] 0 a rfl Ha.out lo b (ws) W HW1.out.rd HA2.out HL2.out hB (by have := HN.out; (try simp at this); (try simp); omega)).mono ?_
  rintro e w2 ⟨rfl, hw2⟩
  have HW2 := Lib.hid (HW1.out.trans hw2)
  clear hw2
  clear b0 b1 b2 b3 b4 b5 b6 b7 b8 b9
  obtain ⟨b0, b1, b2, b3, b4, b5, b6, b7, b8, b9⟩ := HBOX.out _ _ HW2.out
  dsimp only
  go_wp2_with fail
  refine (operator_any o _ ho1 ho2).mono ?_
  rintro e wz ⟨rfl, rfl⟩
  dsimp only
  go_wp2_with fail
  refine (put_any (M := fun _ => False) lo b _ (ws ++ argW 5 o 0 a) [(opS o)] _ (HW2.out.rd.bel ((Below.refl _ _).alloc (Nat.le_refl _) _)) (rows_strs [(opS o)] rfl rfl rfl (by simp) _) (by simp) (by have := HN.out; (try simp at this); (try simp); omega)).mono ?_
  rintro e w3 ⟨rfl, hw3⟩
  have HW3 := Lib.hid ((HW2.out.alloc (.cells #[.string (opS o)] 9)).trans hw3)
  clear hw3
  clear b0 b1 b2 b3 b4 b5 b6 b7 b8 b9
  obtain ⟨b0, b1, b2, b3, b4, b5, b6, b7, b8, b9⟩ := HBOX.out _ _ HW3.out
  dsimp only
  have HA4 := Lib.hid (exs_wst HAW.out HW3.out)
  have HL4 := Lib.hid (lib_wst HLW.out hB HW1.out.rd HW3.out)
  go_wp2_with fail
  refine (wargument_any 5 o false 0 0 es es es _ _ [a, c] 1 c rfl Hc.out lo b (ws ++ argW 5 o 0 a ++ [(opS o)]) w3 HW3.out.rd HA4.out HL4.out hB (by have := HN.out; (try simp at this); (try simp); omega)).mono ?_
  rintro e w4 ⟨rfl, hw4⟩
  have HW4 := Lib.hid (HW3.out.trans hw4)
  clear hw4
  clear b0 b1 b2 b3 b4 b5 b6 b7 b8 b9
  obtain ⟨b0, b1, b2, b3, b4, b5, b6, b7, b8, b9⟩ := HBOX.out _ _ HW4.out
  dsimp only
  clear b0 b1 b2 b3 b4 b5 b6 b7 b8 b9
  go_wp2_with fail
  go_end0
  exact ⟨rfl, by have h := HW0.out.trans HW4.out; first | exact h | (simp only [List.append_assoc, List.cons_append, List.nil_append] at h ⊢; exact h)⟩

set_option maxRecDepth 100000 in
set_option maxHeartbeats 8000000 in
theorem wex_null1 (a : Ex) (ha : WexOk a) : WexOk (opX 6 0 true [a] []) := by
  intro lo b cs ws w h hE hl hB hN
  have H := Lib.hid h
  have HL := Lib.hid hl
  have HN := Lib.hid hN
  have Ha := Lib.hid ha
  have hbw := h.lt
  obtain ⟨xva, xvs, rfl, hva, hvs⟩ := (EC_iff ..).1 hE
  obtain ⟨ea, ec, rfl, _⟩ := hva.shape
  obtain ⟨sa, sc, rfl, _⟩ := hvs.shape
  have HA := Lib.hid (show ExsR (WM b w) w (.slice ea 1 ec) [a] from hva)
  have hout := words_null1 a
  simp only [exCells, opX, Ex.kind, Ex.op, Ex.no, Ex.val, Ex.table, Ex.name, Ex.args, Ex.sub, List.length_cons, List.length_nil, Nat.zero_add, val0] at hout HN ⊢
  rw [hout] at HN ⊢
  clear h hl hE hN hva hvs hout
  go_enter Tryd.func92, Tryd.ntmps92
  go_upto_region 1 with fail
  generalize hW : World.alloc w _ = W
  have hS : W.heap[w.heap.size]? = some (.cells #[.int .i64 6, .int .i64 0, .bool true, .int .i64 0, .int .i64 0, .string es, .string es, .string es, .slice ea 1 ec, .slice sa 0 sc] 27 (0, 0)) := by rw [← hW]; exact heap_alloc_new w _
  have hb : Below w.heap.size w W := by rw [← hW]; exact (Below.refl _ _).alloc (Nat.le_refl _) _
  have hz := (Array.getElem?_eq_some_iff.1 hS).1
  have HBOX : Hid (∀ wx ys, WSt lo b W wx ys → (wx.cell? ⟨w.heap.size, 0, none⟩ = some (.int .i64 6) ∧ wx.cell? ⟨w.heap.size, 1, none⟩ = some (.int .i64 0) ∧ wx.cell? ⟨w.heap.size, 2, none⟩ = some (.bool true) ∧ wx.cell? ⟨w.heap.size, 3, none⟩ = some (.int .i64 0) ∧ wx.cell? ⟨w.heap.size, 4, none⟩ = some (.int .i64 0) ∧ wx.cell? ⟨w.heap.size, 5, none⟩ = some (.string es) ∧ wx.cell? ⟨w.heap.size, 6, none⟩ = some (.string es) ∧ wx.cell? ⟨w.heap.size, 7, none⟩ = some (.string es) ∧ wx.cell? ⟨w.heap.size, 8, none⟩ = some (.slice ea 1 ec) ∧ wx.cell? ⟨w.heap.size, 9, none⟩ = some (.slice sa 0 sc))) := Lib.hid fun wx ys hw => by
    obtain ⟨a0, a1, a2, a3, a4, a5, a6, a7, a8, a9, _, _⟩ := blk10 ((hw.block hz (wm_old H.out hb (Nat.le_refl _))).1.trans hS)
    exact ⟨a0, a1, a2, a3, a4, a5, a6, a7, a8, a9⟩
  have HW0 := Lib.hid ((WSt.refl H.out).bel hb)
  have HW1 := Lib.hid (WSt.refl (H.out.bel hb))
  have HAW := Lib.hid (exs_wst HA.out HW0.out)
  have HLW := Lib.hid (lib_wst HL.out hB H.out HW0.out)
  clear hS hb hW HA HL
  obtain ⟨b0, b1, b2, b3, b4, b5, b6, b7, b8, b9⟩ := HBOX.out _ _ HW1.out
  have HA2 := Lib.hid (exs_wst HAW.out HW1.out)
  have HL2 := Lib.hid (lib_wst HLW.out hB HW1.out.rd HW1.out)
  go_wp2_with fail
  refine (wargument_any 6 0 true 0 0 es es es _ _ [a] 0 a rfl Ha.out lo b (ws) W HW1.out.rd HA2.out HL2.out hB (by have := HN.out; (try simp at this); (try simp); omega)).mono ?_
  rintro e w2 ⟨rfl, hw2⟩
  have HW2 := Lib.hid (HW1.out.trans hw2)
  clear hw2
  clear b0 b1 b2 b3 b4 b5 b6 b7 b8 b9
  obtain ⟨b0, b1, b2, b3, b4, b5, b6, b7, b8, b9⟩ := HBOX.out _ _ HW2.out
  dsimp only
  go_wp2_with fail
  refine (put_any (M := fun _ => False) lo b _ (ws ++ argW 6 0 0 a) [kIS] _ (HW2.out.rd.bel ((Below.refl _ _).alloc (Nat.le_refl _) _)) (rows_strs [kIS] rfl rfl rfl (by simp) _) (by simp) (by have := HN.out; (try simp at this); (try simp); omega)).mono ?_
  rintro e w3 ⟨rfl, hw3⟩
  have HW3 := Lib.hid ((HW2.out.alloc (.cells #[.string kIS] 9)).trans hw3)
  clear hw3
  clear b0 b1 b2 b3 b4 b5 b6 b7 b8 b9
  obtain ⟨b0, b1, b2, b3, b4, b5, b6, b7, b8, b9⟩ := HBOX.out _ _ HW3.out
  dsimp only
  go_wp2_with fail
  refine (put_any (M := fun _ => False) lo b _ (ws ++ argW 6 0 0 a ++ [kIS]) [kNOT] _ (HW3.out.rd.bel ((Below.refl _ _).alloc (Nat.le_refl _) _)) (rows_strs [kNOT] rfl rfl rfl (by simp) _) (by simp) (by have := HN.out; (try simp at this); (try simp); omega)).mono ?_
  rintro e w4 ⟨rfl, hw4⟩
  have HW4 := Lib.hid ((HW3.out.alloc (.cells #[.string kNOT] 9)).trans hw4)
  clear hw4
  clear b0 b1 b2 b3 b4 b5 b6 b7 b8 b9
  obtain ⟨b0, b1, b2, b3, b4, b5, b6, b7, b8, b9⟩ := HBOX.out _ _ HW4.out
  dsimp only
  go_wp2_with fail
  refine (put_any (M := fun _ => False) lo b _ (ws ++ argW 6 0 0 a ++ [kIS] ++ [kNOT]) [kNULL] _ (HW4.out.rd.bel ((Below.refl _ _).alloc (Nat.le_refl _) _)) (rows_strs [kNULL] rfl rfl rfl (by simp) _) (by simp) (by have := HN.out; (try simp at this); (try simp); omega)).mono ?_
  rintro e w5 ⟨rfl, hw5⟩
  have HW5 := Lib.hid ((HW4.out.alloc (.cells #[.string kNULL] 9)).trans hw5)
  clear hw5
  clear b0 b1 b2 b3 b4 b5 b6 b7 b8 b9
  obtain ⟨b0, b1, b2, b3, b4, b5, b6, b7, b8, b9⟩ := HBOX.out _ _ HW5.out
  dsimp only
  clear b0 b1 b2 b3 b4 b5 b6 b7 b8 b9
  go_wp2_with fail
  go_end0
  exact ⟨rfl, by have h := HW0.out.trans HW5.out; first | exact h | (simp only [List.append_assoc, List.cons_append, List.nil_append] at h ⊢; exact h)⟩

set_option maxRecDepth 100000 in
set_option maxHeartbeats 8000000 in
theorem wex_null0 (a : Ex) (ha : WexOk a) : WexOk (opX 6 0 false [a] []) := by
  intro lo b cs ws w h hE hl hB hN
  have H := Lib.hid h
  have HL := Lib.hid hl
  have HN := Lib.hid hN
  have Ha := Lib.hid ha
  have hbw := h.lt
  obtain ⟨xva, xvs, rfl, hva, hvs⟩ := (EC_iff ..).1 hE
  obtain ⟨ea, ec, rfl, _⟩ := hva.shape
  obtain ⟨sa, sc, rfl, _⟩ := hvs.shape
  have HA := Lib.hid (show ExsR (WM b w) w (.slice ea 1 ec) [a] from hva)
  have hout := words_null0 a
  simp only [exCells, opX, Ex.kind, Ex.op, Ex.no, Ex.val, Ex.table, Ex.name, Ex.args, Ex.sub, List.length_cons, List.length_nil, Nat.zero_add, val0] at hout HN ⊢
  rw [hout] at HN ⊢
  clear h hl hE hN hva hvs hout
  go_enter Tryd.func92, Tryd.ntmps92
  go_upto_region 1 with fail
  generalize hW : World.alloc w _ = W
  have hS : W.heap[w.heap.size]? = some (.cells #[.int .i64 6, .int .i64 0, .bool false, .int .i64 0, .int .i64 0, .string es, .string es, .string es, .slice ea 1 ec, .slice sa 0 sc] 27 (0, 0)) := by rw [← hW]; exact heap_alloc_new w _
  have hb : Below w.heap.size w W := by rw [← hW]; exact (Below.refl _ _).alloc (Nat.le_refl _) _
  have hz := (Array.getElem?_eq_some_iff.1 hS).1
  have HBOX : Hid (∀ wx ys, WSt lo b W wx ys → (wx.cell? ⟨w.heap.size, 0, none⟩ = some (.int .i64 6) ∧ wx.cell? ⟨w.heap.size, 1, none⟩ = some (.int .i64 0) ∧ wx.cell? ⟨w.heap.size, 2, none⟩ = some (.bool false) ∧ wx.cell? ⟨w.heap.size, 3, none⟩ = some (.int .i64 0) ∧ wx.cell? ⟨w.heap.size, 4, none⟩ = some (.int .i64 0) ∧ wx.cell? ⟨w.heap.size, 5, none⟩ = some (.string es) ∧ wx.cell? ⟨w.heap.size, 6, none⟩ = some (.string es) ∧ wx.cell? ⟨w.heap.size, 7, none⟩ = some (.string es) ∧ wx.cell? ⟨w.heap.size, 8, none⟩ = some (.slice ea 1 ec) ∧ wx.cell? ⟨w.heap.size, 9, none⟩ = some (.slice sa 0 sc))) := Lib.hid fun wx ys hw => by
    obtain ⟨a0, a1, a2, a3, a4, a5, a6, a7, a8, a9, _, _⟩ := blk10 ((hw.block hz (wm_old H.out hb (Nat.le_refl _))).1.trans hS)
    exact ⟨a0, a1, a2, a3, a4, a5, a6, a7, a8, a9⟩
  have HW0 := Lib.hid ((WSt.refl H.out).bel hb)
  have HW1 := Lib.hid (WSt.refl (H.out.bel hb))
  have HAW := Lib.hid (exs_wst HA.out HW0.out)
  have HLW := Lib.hid (lib_wst HL.out hB H.out HW0.out)
  clear hS hb hW HA HL
  obtain ⟨b0, b1, b2, b3, b4, b5, b6, b7, b8, b9⟩ := HBOX.out _ _ HW1.out
  have HA2 := Lib.hid (exs_wst HAW.out HW1.out)
  have HL2 := Lib.hid (lib_wst HLW.out hB HW1.out.rd HW1.out)
  go_wp2_with fail
  refine (wargument_any 6 0 false 0 0 es es es _ _ [a] 0 a rfl Ha.out lo b (ws) W HW1.out.rd HA2.out HL2.out hB (by have := HN.out; (try simp at this); (try simp); omega)).mono ?_
  rintro e w2 ⟨rfl, hw2⟩
  have HW2 := Lib.hid (HW1.out.trans hw2)
  clear hw2
  clear b0 b1 b2 b3 b4 b5 b6 b7 b8 b9
  obtain ⟨b0, b1, b2, b3, b4, b5, b6, b7, b8, b9⟩ := HBOX.out _ _ HW2.out
  dsimp only
  go_wp2_with fail
  refine (put_any (M := fun _ => False) lo b _ (ws ++ argW 6 0 0 a) [kIS] _ (HW2.out.rd.bel ((Below.refl _ _).alloc (Nat.le_refl _) _)) (rows_strs [kIS] rfl rfl rfl (by simp) _) (by simp) (by have := HN.out; (try simp at this); (try simp); omega)).mono ?_
  rintro e w3 ⟨rfl, hw3⟩
  have HW3 := Lib.hid ((HW2.out.alloc (.cells #[.string kIS] 9)).trans hw3)
  clear hw3
  clear b0 b1 b2 b3 b4 b5 b6 b7 b8 b9
  obtain ⟨b0, b1, b2, b3, b4, b5, b6, b7, b8, b9⟩ := HBOX.out _ _ HW3.out
  dsimp only
  go_wp2_with fail
  refine (put_any (M := fun _ => False) lo b _ (ws ++ argW 6 0 0 a ++ [kIS]) [kNULL] _ (HW3.out.rd.bel ((Below.refl _ _).alloc (Nat.le_refl _) _)) (rows_strs [kNULL] rfl rfl rfl (by simp) _) (by simp) (by have := HN.out; (try simp at this); (try simp); omega)).mono ?_
  rintro e w4 ⟨rfl, hw4⟩
  have HW4 := Lib.hid ((HW3.out.alloc (.cells #[.string kNULL] 9)).trans hw4)
  clear hw4
  clear b0 b1 b2 b3 b4 b5 b6 b7 b8 b9
  obtain ⟨b0, b1, b2, b3, b4, b5, b6, b7, b8, b9⟩ := HBOX.out _ _ HW4.out
  dsimp only
  clear b0 b1 b2 b3 b4 b5 b6 b7 b8 b9
  go_wp2_with fail
  go_end0
  exact ⟨rfl, by have h := HW0.out.trans HW4.out; first | exact h | (simp only [List.append_assoc, List.cons_append, List.nil_append] at h ⊢; exact h)⟩

set_option maxRecDepth 100000 in
set_option maxHeartbeats 8000000 in
theorem wex_btw (a : Ex) (c : Ex) (d : Ex) (ha : WexOk a) (hc : WexOk c) (hd : WexOk d) : WexOk (opX 7 0 false [a, c, d] []) := by
  intro lo b cs ws w h hE hl hB hN
  have H := Lib.hid h
  have HL := Lib.hid hl
  have HN := Lib.hid hN
  have Ha := Lib.hid ha
  have Hc := Lib.hid hc
  have Hd := Lib.hid hd
  have hbw := h.lt
  obtain ⟨xva, xvs, rfl, hva, hvs⟩ := (EC_iff ..).1 hE
  obtain ⟨ea, ec, rfl, _⟩ := hva.shape
  obtain ⟨sa, sc, rfl, _⟩ := hvs.shape
  have HA := Lib.hid (show ExsR (WM b w) w (.slice ea 3 ec) [a, c, d] from hva)
  have hout := words_btw a c d
  simp only [exCells, opX, Ex.kind, Ex.op, Ex.no, Ex.val, Ex.table, Ex.name, Ex.args, Ex.sub, List.length_cons, List.length_nil, Nat.zero_add, Nat.reduceAdd, val0] at hout HN ⊢
  rw [hout] at HN ⊢
  clear h hl hE hN hva hvs hout
  go_enter Tryd.func92, Tryd.ntmps92
  go_upto_region 1 with fail
  generalize hW : World.alloc w _ = W
  have hS : W.heap[w.heap.size]? = some (.cells #[.int .i64 7, .int .i64 0, .bool false, .int .i64 0, .int .i64 0, .string es, .string es, .string es, .slice ea 3 ec, .slice sa 0 sc] 27 (0, 0)) := by rw [← hW]; exact heap_alloc_new w _
  have hb : Below w.heap.size w W := by rw [← hW]; exact (Below.refl _ _).alloc (Nat.le_refl _) _
  have hz := (Array.getElem?_eq_some_iff.1 hS).1
  have HBOX : Hid (∀ wx ys, WSt lo b W wx ys → (wx.cell? ⟨w.heap.size, 0, none⟩ = some (.int .i64 7) ∧ wx.cell? ⟨w.heap.size, 1, none⟩ = some (.int .i64 0) ∧ wx.cell? ⟨w.heap.size, 2, none⟩ = some (.bool false) ∧ wx.cell? ⟨w.heap.size, 3, none⟩ = some (.int .i64 0) ∧ wx.cell? ⟨w.heap.size, 4, none⟩ = some (.int .i64 0) ∧ wx.cell? ⟨w.heap.size, 5, none⟩ = some (.string es) ∧ wx.cell? ⟨w.heap.size, 6, none⟩ = some (.string es) ∧ wx.cell? ⟨w.heap.size, 7, none⟩ = some (.string es) ∧ wx.cell? ⟨w.heap.size, 8, none⟩ = some (.slice ea 3 ec) ∧ wx.cell? ⟨w.heap.size, 9, none⟩ = some (.slice sa 0 sc))) := Lib.hid fun wx ys hw => by
    obtain ⟨a0, a1, a2, a3, a4, a5, a6, a7, a8, a9, _, _⟩ := blk10 ((hw.block hz (wm_old H.out hb (Nat.le_refl _))).1.trans hS)
    exact ⟨a0, a1, a2, a3, a4, a5, a6, a7, a8, a9⟩
  have HW0 := Lib.hid ((WSt.refl H.out).bel hb)
  have HW1 := Lib.hid (WSt.refl (H.out.bel hb))
  have HAW := Lib.hid (exs_wst HA.out HW0.out)
  have HLW := Lib.hid (lib_wst HL.out hB H.out HW0.out)
  clear hS hb hW HA HL
  obtain ⟨b0, b1, b2, b3, b4, b5, b6, b7, b8, b9⟩ := HBOX.out _ _ HW1.out
  have HA2 := Lib.hid (exs_wst HAW.out HW1.out)
  have HL2 := Lib.hid (lib_wst HLW.out hB HW1.out.rd HW1.out)
  go_wp2_with fail
  refine (wargument_any 7 0 false 0 0 es es es _ _ [a, c, d] 0 a rfl Ha.out lo b (ws) W HW1.out.rd HA2.out HL2.out hB (by have := HN.out; (try simp at this); (try simp); omega)).mono ?_
  rintro e w2 ⟨rfl, hw2⟩
  have HW2 := Lib.hid (HW1.out.trans hw2)
  clear hw2
  clear b0 b1 b2 b3 b4 b5 b6 b7 b8 b9
  obtain ⟨b0, b1, b2, b3, b4, b5, b6, b7, b8, b9⟩ := HBOX.out _ _ HW2.out
  dsimp only
  go_wp2_with fail
  refine (put_any (M := fun _ => False) lo b _ (ws ++ argW 7 0 0 a) [kBETWEEN] _ (HW2.out.rd.bel ((Below.refl _ _).alloc (Nat.le_refl _) _)) (rows_strs [kBETWEEN] rfl rfl rfl (by simp) _) (by simp) (by have := HN.out; (try simp at this); (try simp); omega)).mono ?_
  rintro e w3 ⟨rfl, hw3⟩
  have HW3 := Lib.hid ((HW2.out.alloc (.cells #[.string kBETWEEN] 9)).trans hw3)
  clear hw3
  clear b0 b1 b2 b3 b4 b5 b6 b7 b8 b9
  obtain ⟨b0, b1, b2, b3, b4, b5, b6, b7, b8, b9⟩ := HBOX.out _ _ HW3.out
  dsimp only
  have HA4 := Lib.hid (exs_wst HAW.out HW3.out)
  have HL4 := Lib.hid (lib_wst HLW.out hB HW1.out.rd HW3.out)
  go_wp2_with fail
  refine (wargument_any 7 0 false 0 0 es es es _ _ [a, c, d] 1 c rfl Hc.out lo b (ws ++ argW 7 0 0 a ++ [kBETWEEN]) w3 HW3.out.rd HA4.out HL4.out hB (by have := HN.out; (try simp at this); (try simp); omega)).mono ?_
  rintro e w4 ⟨rfl, hw4⟩
  have HW4 := Lib.hid (HW3.out.trans hw4)
  clear hw4
  clear b0 b1 b2 b3 b4 b5 b6 b7 b8 b9
  obtain ⟨b0, b1, b2, b3, b4, b5, b6, b7, b8, b9⟩ := HBOX.out _ _ HW4.out
  dsimp only
  go_wp2_with fail
  refine (put_any (M := fun _ => False) lo b _ (ws ++ argW 7 0 0 a ++ [kBETWEEN] ++ argW 7 0 1 c) [kAND] _ (HW4.out.rd.bel ((Below.refl _ _).alloc (Nat.le_refl _) _)) (rows_strs [kAND] rfl rfl rfl (by simp) _) (by simp) (by have := HN.out; (try simp at this); (try simp); omega)).mono ?_
  rintro e w5 ⟨rfl, hw5⟩
  have HW5 := Lib.hid ((HW4.out.alloc (.cells #[.string kAND] 9)).trans hw5)
  clear hw5
  clear b0 b1 b2 b3 b4 b5 b6 b7 b8 b9
  obtain ⟨b0, b1, b2, b3, b4, b5, b6, b7, b8, b9⟩ := HBOX.out _ _ HW5.out
  dsimp only
  have HA6 := Lib.hid (exs_wst HAW.out HW5.out)
  have HL6 := Lib.hid (lib_wst HLW.out hB HW1.out.rd HW5.out)
  go_wp2_with fail
  refine (wargument_any 7 0 false 0 0 es es es _ _ [a, c, d] 2 d rfl Hd.out lo b (ws ++ argW 7 0 0 a ++ [kBETWEEN] ++ argW 7 0 1 c ++ [kAND]) w5 HW5.out.rd HA6.out HL6.out hB (by have := HN.out; (try simp at this); (try simp); omega)).mono ?_
  rintro e w6 ⟨rfl, hw6⟩
  have HW6 := Lib.hid (HW5.out.trans hw6)
  clear hw6
  clear b0 b1 b2 b3 b4 b5 b6 b7 b8 b9
  obtain ⟨b0, b1, b2, b3, b4, b5, b6, b7, b8, b9⟩ := HBOX.out _ _ HW6.out
  dsimp only
  clear b0 b1 b2 b3 b4 b5 b6 b7 b8 b9
  go_wp2_with fail
  go_end0
  exact ⟨rfl, by have h := HW0.out.trans HW6.out; first | exact h | (simp only [List.append_assoc, List.cons_append, List.nil_append] at h ⊢; exact h)⟩

set_option maxRecDepth 100000 in
set_option maxHeartbeats 8000000 in
theorem wex_subq (k : Int) (f : ByteArray) (items whr : List Ex) (hk : 8 ≤ k) (hin : ∀ (lo b : Nat) (cs : List Value) (ws : List ByteArray) (w : World), WrR lo b w ws → EC (WM b w) w (opX k 0 false [] [.mk (k == 8) items f whr]) cs → LibOk w → 4 < b → ws.length + (wordsP (opX k 0 false [] [.mk (k == 8) items f whr])).length ≤ 1000000000 → Calls Tryd.prog 140 #[.pointer (some ⟨b, 0, none⟩), .agg cs.toArray] w (WPost lo b w (ws ++ wordsP (opX k 0 false [] [.mk (k == 8) items f whr])))) : WexOk (opX k 0 false [] [.mk (k == 8) items f whr]) := by
  intro lo b cs ws w h hE hl hB hN
  have H := Lib.hid h
  have HL := Lib.hid hl
  have HN := Lib.hid hN
  have HIN := Lib.hid hin
  have hk1 : (k == 1) = false := by simp only [beq_eq_false_iff_ne]; omega
  have hk2 : (k == 2) = false := by simp only [beq_eq_false_iff_ne]; omega
  have hk3 : (k == 3) = false := by simp only [beq_eq_false_iff_ne]; omega
  have hk4 : (k == 4) = false := by simp only [beq_eq_false_iff_ne]; omega
  have hk5 : (k == 5) = false := by simp only [beq_eq_false_iff_ne]; omega
  have hk6 : (k == 6) = false := by simp only [beq_eq_false_iff_ne]; omega
  have hk7 : (k == 7) = false := by simp only [beq_eq_false_iff_ne]; omega
  clear hin
  have hbw := h.lt
  obtain ⟨xva, xvs, rfl, hva, hvs⟩ := (EC_iff ..).1 hE
  obtain ⟨ea, ec, rfl, _⟩ := hva.shape
  obtain ⟨sa, sc, rfl, _⟩ := hvs.shape
  have HA := Lib.hid hva
  have HE := Lib.hid hE
  generalize hout : wordsP (opX k 0 false [] [.mk (k == 8) items f whr]) = out at HN HIN ⊢
  simp only [exCells, opX, Ex.kind, Ex.op, Ex.no, Ex.val, Ex.table, Ex.name, Ex.args, Ex.sub, List.length_cons, List.length_nil, Nat.zero_add, val0] at HE HIN ⊢
  clear h hl hE hN hva hvs hout
  go_enter Tryd.func92, Tryd.ntmps92
  go_upto_region 1 with fail
  generalize hW : World.alloc w _ = W
  have hS : W.heap[w.heap.size]? = some (.cells #[.int .i64 k, .int .i64 0, .bool false, .int .i64 0, .int .i64 0, .string es, .string es, .string es, .slice ea 0 ec, .slice sa 1 sc] 27 (0, 0)) := by rw [← hW]; exact heap_alloc_new w _
  have hb : Below w.heap.size w W := by rw [← hW]; exact (Below.refl _ _).alloc (Nat.le_refl _) _
  have hz := (Array.getElem?_eq_some_iff.1 hS).1
  have HBOX : Hid (∀ wx ys, WSt lo b W wx ys → (wx.cell? ⟨w.heap.size, 0, none⟩ = some (.int .i64 k) ∧ wx.cell? ⟨w.heap.size, 1, none⟩ = some (.int .i64 0) ∧ wx.cell? ⟨w.heap.size, 2, none⟩ = some (.bool false) ∧ wx.cell? ⟨w.heap.size, 3, none⟩ = some (.int .i64 0) ∧ wx.cell? ⟨w.heap.size, 4, none⟩ = some (.int .i64 0) ∧ wx.cell? ⟨w.heap.size, 5, none⟩ = some (.string es) ∧ wx.cell? ⟨w.heap.size, 6, none⟩ = some (.string es) ∧ wx.cell? ⟨w.heap.size, 7, none⟩ = some (.string es) ∧ wx.cell? ⟨w.heap.size, 8, none⟩ = some (.slice ea 0 ec) ∧ wx.cell? ⟨w.heap.size, 9, none⟩ = some (.slice sa 1 sc))) := Lib.hid fun wx ys hw => by
    obtain ⟨a0, a1, a2, a3, a4, a5, a6, a7, a8, a9, _, _⟩ := blk10 ((hw.block hz (wm_old H.out hb (Nat.le_refl _))).1.trans hS)
    exact ⟨a0, a1, a2, a3, a4, a5, a6, a7, a8, a9⟩
  have HW0 := Lib.hid ((WSt.refl H.out).bel hb)
  have HW1 := Lib.hid (WSt.refl (H.out.bel hb))
  have HEW := Lib.hid (ec_wst HE.out HW0.out)
  have HLW := Lib.hid (lib_wst HL.out hB H.out HW0.out)
  clear hS hb hW HA HL HE
  obtain ⟨b0, b1, b2, b3, b4, b5, b6, b7, b8, b9⟩ := HBOX.out _ _ HW1.out
  go_wp2_with fail
  refine (HIN.out lo b _ ws W HW1.out.rd HEW.out HLW.out hB (by have := HN.out; omega)).mono ?_
  rintro e w2 ⟨rfl, hw2⟩
  have HW2 := Lib.hid (HW1.out.trans hw2)
  clear hw2
  dsimp only
  clear b0 b1 b2 b3 b4 b5 b6 b7 b8 b9
  go_wp2_with fail
  go_end0
  exact ⟨rfl, by have h := HW0.out.trans HW2.out; exact h⟩

theorem wex_sub (k : Int) (f : ByteArray) (items whr : List Ex) (hk : ((k = 8 ∨ k = 9) ∧ items = []) ∨ ((k = 10 ∨ k = 11 ∨ k = 12) ∧ items.length = 1)) (h1 : ∀ x ∈ items, WexOk x) (h2 : ∀ x ∈ whr, WexOk x) : WexOk (opX k 0 false [] [.mk (k == 8) items f whr]) := by
  refine wex_subq k f items whr (by omega) ?_
  intro lo b cs ws w h hE hl hB hN
  rcases hk with ⟨rfl | rfl, rfl⟩ | ⟨hk, hn⟩
  · exact winner_exists _ f whr h2 lo b cs ws w h hE hl hB hN
  · exact winner_count _ f whr h2 lo b cs ws w h hE hl hB hN
  · obtain ⟨x, rfl⟩ := List.length_eq_one_iff.1 hn
    exact winner_agg k x hk (h1 x (by simp)) _ f whr h2 lo b cs ws w h hE hl hB hN

set_option maxRecDepth 100000 in
set_option maxHeartbeats 8000000 in
theorem wex_lit (v : Val) (hv : ValOk v) : WexOk (litX v) := by
  intro lo b cs ws w h hE hl hB hN
  have H := Lib.hid h
  have HL := Lib.hid hl
  have HN := Lib.hid hN
  have HF := Lib.hid (show ∀ w, LibOk w → 4 < w.heap.size → Calls Tryd.prog 28 #[.agg #[.int .i64 v.kind, .int .i64 v.int, .string v.text]] w (RetBel (.string (bs (fmtV v))) w) from fun w h hs => format_v v hv w h hs)
  clear hv
  have hbw := h.lt
  obtain ⟨xva, xvs, rfl, hva, hvs⟩ := (EC_iff ..).1 hE
  obtain ⟨ea, ec, rfl, _⟩ := hva.shape
  obtain ⟨sa, sc, rfl, _⟩ := hvs.shape
  have HA := Lib.hid (show ExsR (WM b w) w (.slice ea 0 ec) ([] : List Ex) from hva)
  have hout := words_lit v
  simp only [exCells, litX, Ex.kind, Ex.op, Ex.no, Ex.val, Ex.table, Ex.name, Ex.args, Ex.sub, List.length_nil] at hout HN ⊢
  rw [hout] at HN ⊢
  clear h hl hE hN hva hvs hout
  go_enter Tryd.func92, Tryd.ntmps92
  go_upto_region 1 with fail
  generalize hW : World.alloc w _ = W
  have hS : W.heap[w.heap.size]? = some (.cells #[.int .i64 1, .int .i64 0, .bool false, .int .i64 v.kind, .int .i64 v.int, .string v.text, .string es, .string es, .slice ea 0 ec, .slice sa 0 sc] 27 (0, 0)) := by rw [← hW]; exact heap_alloc_new w _
  have hb : Below w.heap.size w W := by rw [← hW]; exact (Below.refl _ _).alloc (Nat.le_refl _) _
  have hz := (Array.getElem?_eq_some_iff.1 hS).1
  have HBOX : Hid (∀ wx ys, WSt lo b W wx ys → (wx.cell? ⟨w.heap.size, 0, none⟩ = some (.int .i64 1) ∧ wx.cell? ⟨w.heap.size, 1, none⟩ = some (.int .i64 0) ∧ wx.cell? ⟨w.heap.size, 2, none⟩ = some (.bool false) ∧ wx.cell? ⟨w.heap.size, 3, none⟩ = some (.int .i64 v.kind) ∧ wx.cell? ⟨w.heap.size, 4, none⟩ = some (.int .i64 v.int) ∧ wx.cell? ⟨w.heap.size, 5, none⟩ = some (.string v.text) ∧ wx.cell? ⟨w.heap.size, 6, none⟩ = some (.string es) ∧ wx.cell? ⟨w.heap.size, 7, none⟩ = some (.string es) ∧ wx.cell? ⟨w.heap.size, 8, none⟩ = some (.slice ea 0 ec) ∧ wx.cell? ⟨w.heap.size, 9, none⟩ = some (.slice sa 0 sc))) := Lib.hid fun wx ys hw => by
    obtain ⟨a0, a1, a2, a3, a4, a5, a6, a7, a8, a9, _, _⟩ := blk10 ((hw.block hz (wm_old H.out hb (Nat.le_refl _))).1.trans hS)
    exact ⟨a0, a1, a2, a3, a4, a5, a6, a7, a8, a9⟩
  have HW0 := Lib.hid ((WSt.refl H.out).bel hb)
  have HW1 := Lib.hid (WSt.refl (H.out.bel hb))
  have HAW := Lib.hid (exs_wst HA.out HW0.out)
  have HLW := Lib.hid (lib_wst HL.out hB H.out HW0.out)
  clear hS hb hW HA HL
  obtain ⟨b0, b1, b2, b3, b4, b5, b6, b7, b8, b9⟩ := HBOX.out _ _ HW1.out
  go_wp2_with fail
  refine (HF.out W HLW.out (by have := H.out.lt; omega)).mono ?_
  rintro e w2 ⟨rfl, hw2⟩
  have HW2 := Lib.hid (HW1.out.bel hw2)
  clear hw2
  dsimp only
  go_wp2_with fail
  refine (put_any (M := fun _ => False) lo b _ (ws) [(bs (fmtV v))] _ (HW2.out.rd.bel ((Below.refl _ _).alloc (Nat.le_refl _) _)) (rows_strs [(bs (fmtV v))] rfl rfl rfl (by simp) _) (by simp) (by have := HN.out; (try simp at this); (try simp); omega)).mono ?_
  rintro e w3 ⟨rfl, hw3⟩
  have HW3 := Lib.hid ((HW2.out.alloc (.cells #[.string (bs (fmtV v))] 9)).trans hw3)
  clear hw3
  clear b0 b1 b2 b3 b4 b5 b6 b7 b8 b9
  obtain ⟨b0, b1, b2, b3, b4, b5, b6, b7, b8, b9⟩ := HBOX.out _ _ HW3.out
  dsimp only
  clear b0 b1 b2 b3 b4 b5 b6 b7 b8 b9
  go_wp2_with fail
  go_end0
  exact ⟨rfl, by have h := HW0.out.trans HW3.out; first | exact h | (simp only [List.append_assoc, List.cons_append, List.nil_append] at h ⊢; exact h)⟩

set_option maxRecDepth 100000 in
set_option maxHeartbeats 8000000 in
theorem wex_col0 (n : ByteArray) : WexOk (colX es n) := by
  intro lo b cs ws w h hE hl hB hN
  have H := Lib.hid h
  have HL := Lib.hid hl
  have HN := Lib.hid hN
  have hbw := h.lt
  obtain ⟨xva, xvs, rfl, hva, hvs⟩ := (EC_iff ..).1 hE
  obtain ⟨ea, ec, rfl, _⟩ := hva.shape
  obtain ⟨sa, sc, rfl, _⟩ := hvs.shape
  have HA := Lib.hid (show ExsR (WM b w) w (.slice ea 0 ec) ([] : List Ex) from hva)
  have hout := (show wordsP (colX es n) = [n] from by rw [words_col, if_pos (by decide +kernel)])
  simp only [exCells, colX, Ex.kind, Ex.op, Ex.no, Ex.val, Ex.table, Ex.name, Ex.args, Ex.sub, List.length_nil, val0, es] at hout HN ⊢
  rw [hout] at HN ⊢
  clear h hl hE hN hva hvs hout
  go_enter Tryd.func92, Tryd.ntmps92
  go_upto_region 1 with fail
  generalize hW : World.alloc w _ = W
  have hS : W.heap[w.heap.size]? = some (.cells #[.int .i64 2, .int .i64 0, .bool false, .int .i64 0, .int .i64 0, .string ⟨#[]⟩, .string ⟨#[]⟩, .string n, .slice ea 0 ec, .slice sa 0 sc] 27 (0, 0)) := by rw [← hW]; exact heap_alloc_new w _
  have hb : Below w.heap.size w W := by rw [← hW]; exact (Below.refl _ _).alloc (Nat.le_refl _) _
  have hz := (Array.getElem?_eq_some_iff.1 hS).1
  have HBOX : Hid (∀ wx ys, WSt lo b W wx ys → (wx.cell? ⟨w.heap.size, 0, none⟩ = some (.int .i64 2) ∧ wx.cell? ⟨w.heap.size, 1, none⟩ = some (.int .i64 0) ∧ wx.cell? ⟨w.heap.size, 2, none⟩ = some (.bool false) ∧ wx.cell? ⟨w.heap.size, 3, none⟩ = some (.int .i64 0) ∧ wx.cell? ⟨w.heap.size, 4, none⟩ = some (.int .i64 0) ∧ wx.cell? ⟨w.heap.size, 5, none⟩ = some (.string ⟨#[]⟩) ∧ wx.cell? ⟨w.heap.size, 6, none⟩ = some (.string ⟨#[]⟩) ∧ wx.cell? ⟨w.heap.size, 7, none⟩ = some (.string n) ∧ wx.cell? ⟨w.heap.size, 8, none⟩ = some (.slice ea 0 ec) ∧ wx.cell? ⟨w.heap.size, 9, none⟩ = some (.slice sa 0 sc))) := Lib.hid fun wx ys hw => by
    obtain ⟨a0, a1, a2, a3, a4, a5, a6, a7, a8, a9, _, _⟩ := blk10 ((hw.block hz (wm_old H.out hb (Nat.le_refl _))).1.trans hS)
    exact ⟨a0, a1, a2, a3, a4, a5, a6, a7, a8, a9⟩
  have HW0 := Lib.hid ((WSt.refl H.out).bel hb)
  have HW1 := Lib.hid (WSt.refl (H.out.bel hb))
  have HAW := Lib.hid (exs_wst HA.out HW0.out)
  have HLW := Lib.hid (lib_wst HL.out hB H.out HW0.out)
  clear hS hb hW HA HL
  obtain ⟨b0, b1, b2, b3, b4, b5, b6, b7, b8, b9⟩ := HBOX.out _ _ HW1.out
  go_wp2_with fail
  refine (put_any (M := fun _ => False) lo b _ (ws) [n] _ (HW1.out.rd.bel ((Below.refl _ _).alloc (Nat.le_refl _) _)) (rows_strs [n] rfl rfl rfl (by simp) _) (by simp) (by have := HN.out; (try simp at this); (try simp); omega)).mono ?_
  rintro e w2 ⟨rfl, hw2⟩
  have HW2 := Lib.hid ((HW1.out.alloc (.cells #[.string n] 9)).trans hw2)
  clear hw2
  clear b0 b1 b2 b3 b4 b5 b6 b7 b8 b9
  obtain ⟨b0, b1, b2, b3, b4, b5, b6, b7, b8, b9⟩ := HBOX.out _ _ HW2.out
  dsimp only
  clear b0 b1 b2 b3 b4 b5 b6 b7 b8 b9
  go_wp2_with fail
  go_end0
  exact ⟨rfl, by have h := HW0.out.trans HW2.out; first | exact h | (simp only [List.append_assoc, List.cons_append, List.nil_append] at h ⊢; exact h)⟩

set_option maxRecDepth 100000 in
set_option maxHeartbeats 8000000 in
theorem wex_col1 (t n : ByteArray) (ht : noText t = false) : WexOk (colX t n) := by
  intro lo b cs ws w h hE hl hB hN
  have H := Lib.hid h
  have HL := Lib.hid hl
  have HN := Lib.hid hN
  have ht1 : (t.toList == []) = false := ht
  have ht2 : (t.toList != []) = true := by simp [bne, ht1]
  have hbw := h.lt
  obtain ⟨xva, xvs, rfl, hva, hvs⟩ := (EC_iff ..).1 hE
  obtain ⟨ea, ec, rfl, _⟩ := hva.shape
  obtain ⟨sa, sc, rfl, _⟩ := hvs.shape
  have HA := Lib.hid (show ExsR (WM b w) w (.slice ea 0 ec) ([] : List Ex) from hva)
  have hout := (show wordsP (colX t n) = [t, kDot] ++ [n] from by rw [words_col, if_neg (by rw [ht]; decide)]; rfl)
  simp only [exCells, colX, Ex.kind, Ex.op, Ex.no, Ex.val, Ex.table, Ex.name, Ex.args, Ex.sub, List.length_nil, val0] at hout HN ⊢
  rw [hout] at HN ⊢
  clear h hl hE hN hva hvs hout
  clear ht
  go_enter Tryd.func92, Tryd.ntmps92
  go_upto_region 1 with fail
  generalize hW : World.alloc w _ = W
  have hS : W.heap[w.heap.size]? = some (.cells #[.int .i64 2, .int .i64 0, .bool false, .int .i64 0, .int .i64 0, .string es, .string t, .string n, .slice ea 0 ec, .slice sa 0 sc] 27 (0, 0)) := by rw [← hW]; exact heap_alloc_new w _
  have hb : Below w.heap.size w W := by rw [← hW]; exact (Below.refl _ _).alloc (Nat.le_refl _) _
  have hz := (Array.getElem?_eq_some_iff.1 hS).1
  have HBOX : Hid (∀ wx ys, WSt lo b W wx ys → (wx.cell? ⟨w.heap.size, 0, none⟩ = some (.int .i64 2) ∧ wx.cell? ⟨w.heap.size, 1, none⟩ = some (.int .i64 0) ∧ wx.cell? ⟨w.heap.size, 2, none⟩ = some (.bool false) ∧ wx.cell? ⟨w.heap.size, 3, none⟩ = some (.int .i64 0) ∧ wx.cell? ⟨w.heap.size, 4, none⟩ = some (.int .i64 0) ∧ wx.cell? ⟨w.heap.size, 5, none⟩ = some (.string es) ∧ wx.cell? ⟨w.heap.size, 6, none⟩ = some (.string t) ∧ wx.cell? ⟨w.heap.size, 7, none⟩ = some (.string n) ∧ wx.cell? ⟨w.heap.size, 8, none⟩ = some (.slice ea 0 ec) ∧ wx.cell? ⟨w.heap.size, 9, none⟩ = some (.slice sa 0 sc))) := Lib.hid fun wx ys hw => by
    obtain ⟨a0, a1, a2, a3, a4, a5, a6, a7, a8, a9, _, _⟩ := blk10 ((hw.block hz (wm_old H.out hb (Nat.le_refl _))).1.trans hS)
    exact ⟨a0, a1, a2, a3, a4, a5, a6, a7, a8, a9⟩
  have HW0 := Lib.hid ((WSt.refl H.out).bel hb)
  have HW1 := Lib.hid (WSt.refl (H.out.bel hb))
  have HAW := Lib.hid (exs_wst HA.out HW0.out)
  have HLW := Lib.hid (lib_wst HL.out hB H.out HW0.out)
  clear hS hb hW HA HL
  obtain ⟨b0, b1, b2, b3, b4, b5, b6, b7, b8, b9⟩ := HBOX.out _ _ HW1.out
  go_wp2_with fail
  refine (put_any (M := fun _ => False) lo b _ (ws) [t, kDot] _ (HW1.out.rd.bel ((Below.refl _ _).alloc (Nat.le_refl _) _)) (rows_strs [t, kDot] rfl rfl rfl (by simp) _) (by simp) (by have := HN.out; (try simp at this); (try simp); omega)).mono ?_
  rintro e w2 ⟨rfl, hw2⟩
  have HW2 := Lib.hid ((HW1.out.alloc (.cells #[.string t, .string kDot] 9)).trans hw2)
  clear hw2
  clear b0 b1 b2 b3 b4 b5 b6 b7 b8 b9
  obtain ⟨b0, b1, b2, b3, b4, b5, b6, b7, b8, b9⟩ := HBOX.out _ _ HW2.out
  dsimp only
  go_wp2_with fail
  refine (put_any (M := fun _ => False) lo b _ (ws ++ [t, kDot]) [n] _ (HW2.out.rd.bel ((Below.refl _ _).alloc (Nat.le_refl _) _)) (rows_strs [n] rfl rfl rfl (by simp) _) (by simp) (by have := HN.out; (try simp at this); (try simp); omega)).mono ?_
  rintro e w3 ⟨rfl, hw3⟩
  have HW3 := Lib.hid ((HW2.out.alloc (.cells #[.string n] 9)).trans hw3)
  clear hw3
  clear b0 b1 b2 b3 b4 b5 b6 b7 b8 b9
  obtain ⟨b0, b1, b2, b3, b4, b5, b6, b7, b8, b9⟩ := HBOX.out _ _ HW3.out
  dsimp only
  clear b0 b1 b2 b3 b4 b5 b6 b7 b8 b9
  go_wp2_with fail
  go_end0
  exact ⟨rfl, by have h := HW0.out.trans HW3.out; first | exact h | (simp only [List.append_assoc, List.cons_append, List.nil_append] at h ⊢; exact h)⟩

theorem vx_wex {e : Ex} (h : VX e) : WexOk e := by
  induction h with
  | lit v hv h0 =>
    refine wex_lit v ?_
    have hk : 0 ≤ v.kind ∧ v.kind ≤ 3 := by
      unfold validV at hv
      repeat' split at hv
      all_goals first | omega | cases hv
    rcases lit_tw hv h0 with ⟨e, _⟩ | ⟨hk1, e, _⟩ | ⟨e, _⟩ | ⟨e, _⟩ | ⟨e, hp, _⟩
    · rw [e]; exact ⟨by decide, by decide, by decide, by decide, by decide⟩
    · have := h0 hk1
      exact ⟨by rw [e]; show es.size ≤ maxLen; decide, by omega, by omega, by omega, by omega⟩
    · rw [e]; exact ⟨by decide, by decide, by decide, by decide, by decide⟩
    · rw [e]; exact ⟨by decide, by decide, by decide, by decide, by decide⟩
    · have hi : v.int = 0 := by rw [e]
      simp only [plainB, Bool.and_eq_true, decide_eq_true_eq] at hp
      exact ⟨by unfold maxLen; omega, by omega, by omega, by omega, by omega⟩
  | col t n h =>
    cases ht : noText t
    · exact wex_col1 t n ht
    · have e : t = es := bytes_ext (by
        simp only [noText, beq_iff_eq, ByteArray.toList_eq] at ht
        rw [ht]; rfl)
      rw [e]
      exact wex_col0 n
  | ops k o no args hk _ ih =>
    rcases hk with ⟨rfl | rfl, rfl, rfl, hn⟩ | ⟨rfl, rfl, hn⟩ | ⟨rfl, ho1, ho2, rfl, hn⟩ | ⟨rfl, rfl, rfl, hn⟩
    · obtain ⟨a, rfl⟩ := List.length_eq_one_iff.1 hn
      exact wex_not a (ih a (by simp))
    · obtain ⟨a, rfl⟩ := List.length_eq_one_iff.1 hn
      exact wex_neg a (ih a (by simp))
    · obtain ⟨a, rfl⟩ := List.length_eq_one_iff.1 hn
      cases no
      · exact wex_null0 a (ih a (by simp))
      · exact wex_null1 a (ih a (by simp))
    · match args, hn with
      | [a, c], _ => exact wex_bin o ho1 ho2 a c (ih a (by simp)) (ih c (by simp))
    · match args, hn with
      | [a, c, d], _ => exact wex_btw a c d (ih a (by simp)) (ih c (by simp)) (ih d (by simp))
  | sub k f items whr hk hf hw _ _ ih1 ih2 => exact wex_sub k f items whr hk ih1 ih2
end Go.Proofs.YtppiaaolggpjdaaDoor
