/- What where and from write, over what expr writes. -/
import Derived.Test.YtppiaaolggpjdaaDoorX3
namespace Go.Proofs.YtppiaaolggpjdaaDoor
open Go.RowKit

theorem whereW_snoc : ∀ (L : List (List ByteArray)) (l : List ByteArray), whereW (L ++ [l]) = whereW L ++ kWHERE :: l
  | [], l => by simp [whereW]
  | x :: L, l => by
    rw [List.cons_append, whereW, whereW, whereW_snoc L l]
    simp
theorem whereW_take {l : List Ex} {j : Nat} {x : Ex} (h : l[j]? = some x) : whereW ((l.take (j + 1)).map wordsP) = whereW ((l.take j).map wordsP) ++ kWHERE :: wordsP x := by
  obtain ⟨hlt, rfl⟩ := List.getElem?_eq_some_iff.1 h
  rw [List.take_succ_eq_append_getElem hlt, List.map_append, List.map_cons, List.map_nil, whereW_snoc]
theorem whereW_le : ∀ (l : List Ex) (j : Nat), (whereW ((l.take j).map wordsP)).length ≤ (whereW (l.map wordsP)).length
  | [], j => by simp
  | x :: l, 0 => by simp [whereW]
  | x :: l, j + 1 => by
    have := whereW_le l j
    simp only [List.take_succ_cons, List.map_cons, whereW, List.length_cons, List.length_append]
    omega
theorem exs_wst {lo b : Nat} {w0 w1 : World} {xs : List ByteArray} {v : Value} {l : List Ex} (h : ExsR (WM b w0) w0 v l) (k : WSt lo b w0 w1 xs) : ExsR (WM b w1) w1 v l := by
  have h1 : RowsR (fun i => WM b w0 i ∨ w0.heap.size ≤ i) w0 10 (EC (fun i => WM b w0 i ∨ w0.heap.size ≤ i) w0) v l := RowsR.weak h (fun i hi hh => hh.resolve_right (by omega)) fun x _ cs hc => EC.weak (fun i hi hh => hh.resolve_right (by omega)) x cs hc
  have h2 := RowsR.map (R' := EC (fun i => WM b w0 i ∨ w0.heap.size ≤ i) w1) h1 (k.keep.weak fun i _ hh => Or.inl hh) fun x _ cs hc => EC.keep (k.keep.weak fun i _ hh => Or.inl hh) x cs hc
  have hM : ∀ i, i < w1.heap.size → WM b w1 i → (WM b w0 i ∨ w0.heap.size ≤ i) := fun i hi hh => by
    by_cases hlt : i < w0.heap.size
    · exact .inl (k.inc i hlt hh)
    · exact .inr (by omega)
  exact RowsR.weak h2 hM fun x _ cs hc => EC.weak hM x cs hc

set_option maxRecDepth 100000 in
set_option maxHeartbeats 4000000 in
theorem wwhere_any (l : List Ex) (hall : ∀ x ∈ l, WexOk x) (lo b : Nat) (va : Value) (ws : List ByteArray) (w : World) (h : WrR lo b w ws) (hA : ExsR (WM b w) w va l) (hl : LibOk w) (hB : 4 < b) (hN : ws.length + (whereW (l.map wordsP)).length ≤ 1000000000) :
    Calls Tryd.prog 189 #[.pointer (some ⟨b, 0, none⟩), va] w (WPost lo b w (ws ++ whereW (l.map wordsP))) := by
  have H := Lib.hid h
  have HL := Lib.hid hl
  have HA := Lib.hid hA
  have HN := Lib.hid hN
  have HALL := Lib.hid hall
  obtain ⟨a, c, rfl, hm⟩ := hA.shape
  unfold maxLen at hm
  clear h hl hA hN hall
  go_enter Tryd.func189, Tryd.ntmps189
  go_wp2_with fail
  go_loopw [8] (fun i wr => ∃ j : Nat, j ≤ l.length ∧ i = .int .i64 j ∧ WSt lo b w wr (ws ++ whereW ((l.take j).map wordsP))) (fun i _ => l.length - (intOf i).toNat)
  case atStart => exact ⟨0, Nat.zero_le _, rfl, by simpa [whereW] using WSt.refl H.out⟩
  case round =>
    rename World => wr
    obtain ⟨j, hj, rfl, hst⟩ := hrel
    have HST := Lib.hid hst
    clear hst
    by_cases hlt : j < l.length
    · rcases (exs_wst HA.out HST.out).open with ⟨_, h0⟩ | ⟨ab, ao, cap', hv', _, hab, _, _, hx⟩
      · rw [h0] at hlt
        simp at hlt
      simp only [Value.slice.injEq] at hv'
      obtain ⟨rfl, _, rfl⟩ := hv'
      have hxj : l[j]? = some l[j] := List.getElem?_eq_getElem hlt
      obtain ⟨cs, hc, _, hcs⟩ := hx j _ hxj
      have HTK := Lib.hid (whereW_take hxj)
      have hle := whereW_le l (j + 1)
      rw [HTK.out] at hle
      have hlen := HN.out
      have HX := Lib.hid (HALL.out _ (List.mem_of_getElem? hxj))
      generalize l[j] = x at hxj hc HTK HX hle
      have HE := Lib.hid hc
      obtain ⟨xva, xvs, rfl, hva, hvs⟩ := (EC_iff ..).1 hc
      obtain ⟨xa, xac, rfl, _⟩ := hva.shape
      obtain ⟨xs, xsc, rfl, _⟩ := hvs.shape
      obtain ⟨c0, c1, c2, c3, c4, c5, c6, c7, c8, c9⟩ := CellsAt.c10 hcs
      simp only [exCells] at HE
      generalize whereW ((l.take j).map wordsP) = tk at HST HTK hle
      simp only [List.length_append, List.length_cons] at hle
      have HLE := Lib.hid (show ws.length + tk.length + (wordsP x).length + 1 ≤ 1000000000 by omega)
      have i0 : (0 : Int) ≤ (j : Int) := by omega
      have i1 : (j : Int) < (l.length : Int) := by omega
      have hzr := HST.out.rd.lt
      clear hx hc hcs hva hvs hxj hle hlen
      go_upto_region 3 with fail
      generalize hW : World.alloc wr _ = W
      have hS : W.heap[wr.heap.size]? = some (.cells #[.int .i64 x.kind, .int .i64 x.op, .bool x.no, .int .i64 x.val.kind, .int .i64 x.val.int, .string x.val.text, .string x.table, .string x.name, .slice xa x.args.length xac, .slice xs x.sub.length xsc] 27 (0, 0)) := by rw [← hW]; exact heap_alloc_new wr _
      have hb : Below wr.heap.size wr W := by rw [← hW]; exact (Below.refl _ _).alloc (Nat.le_refl _) _
      have hz := (Array.getElem?_eq_some_iff.1 hS).1
      have HBOX : Hid (∀ wx ys, WSt lo b W wx ys → wx.cell? ⟨wr.heap.size, 0, none⟩ = some (.int .i64 x.kind) ∧ wx.cell? ⟨wr.heap.size, 1, none⟩ = some (.int .i64 x.op) ∧ wx.cell? ⟨wr.heap.size, 2, none⟩ = some (.bool x.no) ∧ wx.cell? ⟨wr.heap.size, 3, none⟩ = some (.int .i64 x.val.kind) ∧ wx.cell? ⟨wr.heap.size, 4, none⟩ = some (.int .i64 x.val.int) ∧ wx.cell? ⟨wr.heap.size, 5, none⟩ = some (.string x.val.text) ∧ wx.cell? ⟨wr.heap.size, 6, none⟩ = some (.string x.table) ∧ wx.cell? ⟨wr.heap.size, 7, none⟩ = some (.string x.name) ∧ wx.cell? ⟨wr.heap.size, 8, none⟩ = some (.slice xa x.args.length xac) ∧ wx.cell? ⟨wr.heap.size, 9, none⟩ = some (.slice xs x.sub.length xsc)) := Lib.hid fun wx ys hw => by
        obtain ⟨d0, d1, d2, d3, d4, d5, d6, d7, d8, d9, _, _⟩ := blk10 ((hw.block hz (wm_old HST.out.rd hb (Nat.le_refl _))).1.trans hS)
        exact ⟨d0, d1, d2, d3, d4, d5, d6, d7, d8, d9⟩
      have HW0 := Lib.hid (HST.out.bel hb)
      have HW := Lib.hid (WSt.refl (HST.out.rd.bel hb))
      have HEW := Lib.hid (ec_wst HE.out ((WSt.refl HST.out.rd).bel hb))
      have HLW := Lib.hid (lib_wst HL.out hB H.out HW0.out)
      clear hS hb hW c0 c1 c2 c3 c4 c5 c6 c7 c8 c9 HE
      go_wp2_with fail
      refine (put_any (M := fun _ => False) lo b _ (ws ++ tk) [kWHERE] _ (HW.out.rd.bel ((Below.refl _ _).alloc (Nat.le_refl _) _)) (rows_strs [kWHERE] rfl rfl rfl (by decide) _) (by decide) (by have := HLE.out; simp; omega)).mono ?_
      rintro e w3 ⟨rfl, hw3⟩
      have HW3 := Lib.hid ((HW.out.alloc (.cells #[.string kWHERE] 9)).trans hw3)
      obtain ⟨d0, d1, d2, d3, d4, d5, d6, d7, d8, d9⟩ := HBOX.out _ _ HW3.out
      have HE3 := Lib.hid (ec_wst HEW.out HW3.out)
      have HL3 := Lib.hid (lib_wst HLW.out hB HW.out.rd HW3.out)
      clear hw3
      dsimp only
      go_wp2_with fail
      refine (HX.out lo b _ (ws ++ tk ++ [kWHERE]) w3 HW3.out.rd HE3.out HL3.out hB (by have := HLE.out; simp; omega)).mono ?_
      rintro e w4 ⟨rfl, hw4⟩
      have HW4 := Lib.hid (HW0.out.trans (HW3.out.trans hw4))
      clear hw4 d0 d1 d2 d3 d4 d5 d6 d7 d8 d9
      dsimp only
      go_wp2_with fail
      go_roundw
      case rel => exact ⟨j + 1, by omega, by go_num, by have h := HW4.out; rw [HTK.out]; simp only [List.append_assoc, List.cons_append, List.nil_append] at h ⊢; exact h⟩
      case measure => simp [intOf]; omega
    · obtain rfl : j = l.length := by omega
      have HF := Lib.hid (show WSt lo b w wr (ws ++ whereW (l.map wordsP)) from by have h := HST.out; rw [List.take_length] at h; exact h)
      go_wp2_with fail
      go_end0
      exact ⟨rfl, HF.out⟩

set_option maxRecDepth 100000 in
set_option maxHeartbeats 4000000 in
theorem wfrom_any (st : Bool) (f : ByteArray) (vi va : Value) (l : List Ex) (hall : ∀ x ∈ l, WexOk x) (lo b : Nat) (ws : List ByteArray) (w : World) (h : WrR lo b w ws) (hA : ExsR (WM b w) w va l) (hl : LibOk w) (hB : 4 < b) (hN : ws.length + (kFROM :: f :: whereW (l.map wordsP)).length ≤ 1000000000) :
    Calls Tryd.prog 171 #[.pointer (some ⟨b, 0, none⟩), .agg #[.bool st, vi, .string f, va]] w (WPost lo b w (ws ++ (kFROM :: f :: whereW (l.map wordsP)))) := by
  have H := Lib.hid h
  have HL := Lib.hid hl
  have HA := Lib.hid hA
  have HALL := Lib.hid hall
  have HN := Lib.hid hN
  have hbw := h.lt
  obtain ⟨a, c, rfl, hm⟩ := hA.shape
  clear h hl hA hall hN
  generalize hout : whereW (l.map wordsP) = out at HN ⊢
  have HO := Lib.hid hout
  clear hout
  go_enter Tryd.func171, Tryd.ntmps171
  go_upto_region 1 with fail
  generalize hW : World.alloc w _ = W
  have hS : W.heap[w.heap.size]? = some (.cells #[.bool st, vi, .string f, .slice a l.length c] 37 (0, 0)) := by rw [← hW]; exact heap_alloc_new w _
  have hb : Below w.heap.size w W := by rw [← hW]; exact (Below.refl _ _).alloc (Nat.le_refl _) _
  have hz := (Array.getElem?_eq_some_iff.1 hS).1
  have HS := Lib.hid hS
  have HBW := Lib.hid hb
  have HW0 := Lib.hid ((WSt.refl H.out).bel hb)
  have HW := Lib.hid (WSt.refl (H.out.bel hb))
  have HAW := Lib.hid (exs_wst HA.out HW0.out)
  have HLW := Lib.hid (lib_wst HL.out hB H.out HW0.out)
  obtain ⟨d0, d1, d2, d3, _⟩ := blk4 hS
  clear hS hb hW HA HL
  go_wp2_with fail
  refine (put_any (M := fun _ => False) lo b _ ws [kFROM, f] _ (HW.out.rd.bel ((Below.refl _ _).alloc (Nat.le_refl _) _)) (rows_strs [kFROM, f] rfl rfl rfl (by simp) _) (by simp) (by have := HN.out; simp at this ⊢; omega)).mono ?_
  rintro e w3 ⟨rfl, hw3⟩
  have HW3 := Lib.hid ((HW.out.alloc (.cells #[.string kFROM, .string f] 9)).trans hw3)
  clear d0 d1 d2 d3 hw3
  obtain ⟨d0, d1, d2, d3, _⟩ := blk4 ((HW3.out.block hz (wm_old H.out HBW.out (Nat.le_refl _))).1.trans HS.out)
  have HA3 := Lib.hid (exs_wst HAW.out HW3.out)
  have HL3 := Lib.hid (lib_wst HLW.out hB HW.out.rd HW3.out)
  dsimp only
  go_wp2_with fail
  refine (wwhere_any l HALL.out lo b _ (ws ++ [kFROM, f]) w3 HW3.out.rd HA3.out HL3.out hB (by rw [HO.out]; have := HN.out; simp at this ⊢; omega)).mono ?_
  rintro e w4 ⟨rfl, hw4⟩
  have HW4 := Lib.hid (HW0.out.trans (HW3.out.trans hw4))
  clear hw4 d0 d1 d2 d3
  dsimp only
  go_wp2_with fail
  go_end0
  exact ⟨rfl, by have h := HW4.out; rw [HO.out] at h; simp only [List.append_assoc, List.cons_append, List.nil_append] at h ⊢; exact h⟩
end Go.Proofs.YtppiaaolggpjdaaDoor
