/- Lists of well-formed expressions: contracts of IndexFunc, ContainsFunc and validExprs, over what ValidExpr answers for each. The query of an expression: the contract of syntax.inner. -/
import Derived.Test.YtkhlmofcdchccaaGreatDoorKN1
import Derived.Test.YtkhlmofcdchccaaGreatDoorU03
namespace Go.Proofs.YtkhlmofcdchccaaGreatDoor
open Go.RowKit

/-- ValidExpr answers for e, wherever it lies. -/
def VexOk (M : Nat → Prop) (e : Ex) : Prop := ∀ (cs : List Value) (w : World), EC M w e cs → TxtOk e → Calls Tryz.prog 24 #[.agg cs.toArray] w (RetBel (.bool (validP e)) w)

def badP (e : Ex) : Bool := !validP e
theorem badP_none {l : List Ex} (h : l.findIdx? badP = none) : validL l = true := by
  rw [validL_all, List.all_eq_true]
  intro e he
  have := List.findIdx?_eq_none_iff.1 h e he
  simpa [badP] using this
theorem badP_some {l : List Ex} {i : Nat} (h : l.findIdx? badP = some i) : validL l = false := by
  rw [List.findIdx?_eq_some_iff_getElem] at h
  obtain ⟨hlt, hb, _⟩ := h
  rw [validL_all, List.all_eq_false]
  exact ⟨l[i], List.getElem_mem _, by simpa [badP] using hb⟩

section
variable (k o : Int) (no : Bool) (vk vi : Int) (vt t nm : ByteArray) (a s : Option Addr) (an ac sn sc : Nat)

set_option maxHeartbeats 1000000 in
theorem bad1_any (b : Bool) (w : World) (h : ∀ wx, Below w.heap.size w wx → Calls Tryz.prog 24 #[.agg #[.int .i64 k, .int .i64 o, .bool no, .int .i64 vk, .int .i64 vi, .string vt, .string t, .string nm, .slice a an ac, .slice s sn sc]] wx (RetBel (.bool b) wx)) :
    Calls Tryz.prog 104 #[.agg #[.int .i64 k, .int .i64 o, .bool no, .int .i64 vk, .int .i64 vi, .string vt, .string t, .string nm, .slice a an ac, .slice s sn sc]] w (RetBel (.bool (!b)) w) := by
  have H := Lib.hid h
  clear h
  go_enter Tryz.func104, Tryz.ntmps104
  go_wp2_with fail
  refine (H.out _ (by go_grown)).mono ?_
  rintro e w1 ⟨rfl, hb⟩
  have HB := Lib.hid (((Below.refl _ w).alloc (Nat.le_refl _) _).trans (hb.mono (by simp)))
  clear hb
  dsimp only
  go_wp2_with fail
  go_ret
  exact ⟨rfl, HB.out⟩
end

set_option maxRecDepth 100000 in
set_option maxHeartbeats 2000000 in
theorem idxExpr_any {M : Nat → Prop} (l : List Ex) (hall : ∀ e ∈ l, VexOk M e) (htx : ∀ e ∈ l, TxtOk e) (v : Value) (w : World) (h : ExsR M w v l) :
    Calls Tryz.prog 155 #[v, .func (.func 104) #[] #[]] w (RetBel (.int .i64 (idxI (l.findIdx? badP))) w) := by
  obtain ⟨a, c, rfl, hm⟩ := h.shape
  unfold maxLen at hm
  have HA := Lib.hid h
  have HALL := Lib.hid hall
  have HTX := Lib.hid htx
  clear h hall htx
  go_enter Tryz.func155, Tryz.ntmps155
  go_wp2_with fail
  go_loopw [5, 8] (fun _ i wr => ∃ j : Nat, j ≤ l.length ∧ i = .int .i64 j ∧ Below w.heap.size w wr ∧ ∀ i y, i < j → l[i]? = some y → badP y = false) (fun _ i _ => l.length - (intOf i).toNat)
  case atStart => exact ⟨0, Nat.zero_le _, rfl, Below.refl _ _, fun i y hi => by omega⟩
  case round =>
    rename World => wr
    obtain ⟨j, hj, rfl, hbel, hno⟩ := hrel
    have HNO := Lib.hid hno
    clear hno
    by_cases hlt : j < l.length
    · rcases HA.out.open with ⟨_, h⟩ | ⟨ab, ao, cap', hv', _, hab, _, _, hx⟩
      · rw [h] at hlt; simp at hlt
      simp only [Value.slice.injEq] at hv'
      obtain ⟨rfl, _, rfl⟩ := hv'
      have hxj : l[j]? = some l[j] := List.getElem?_eq_getElem hlt
      obtain ⟨cs, hc, _, hcs⟩ := hx j _ hxj
      have hmem := List.mem_of_getElem? hxj
      generalize l[j] = x at hxj hc hmem
      have hcs' := hcs.keep (M := NoM) (Keep.bel hbel) id
      have hlx := fun wx (k : Below w.heap.size w wx) => HALL.out x hmem cs wx (EC.keep (M := M) (.bel k) x cs hc) (HTX.out x hmem)
      obtain ⟨va, vs, rfl, hva, hvs⟩ := (EC_iff ..).1 hc
      obtain ⟨xa, xac, rfl, _⟩ := hva.shape
      obtain ⟨xs, xsc, rfl, _⟩ := hvs.shape
      obtain ⟨c0, c1, c2, c3, c4, c5, c6, c7, c8, c9⟩ := CellsAt.c10 hcs'
      simp only [exCells] at hlx
      have hbd := fun wx (k : Below w.heap.size w wx) => bad1_any _ _ _ _ _ _ _ _ _ _ _ _ _ _ _ wx fun wy ky => hlx wy (k.trans (ky.mono k.size))
      have HBD := Lib.hid hbd
      have HXJ := Lib.hid hxj
      have HBE := Lib.hid hbel
      have HLT := Lib.hid hlt
      have i0 : (0 : Int) ≤ (j : Int) := by omega
      have i1 : (j : Int) < (l.length : Int) := by omega
      clear hlx hbd hbel hx hc hcs hcs' hva hvs hmem hxj
      have HP := Lib.hid (show badP x = !validP x from rfl)
      generalize validP x = b at HBD HP
      cases b
      · go_wp2_with fail
        refine (HBD.out _ HBE.out).mono ?_
        rintro e w2 ⟨rfl, hb⟩
        have HB2 := Lib.hid (HBE.out.trans (hb.mono HBE.out.size))
        clear hb
        dsimp only
        go_wp2_with fail
        go_ret
        refine ⟨?_, HB2.out⟩
        rw [show l.findIdx? badP = some j from findIdx_some HXJ.out HP.out HNO.out]
        rfl
      · go_wp2_with fail
        refine (HBD.out _ HBE.out).mono ?_
        rintro e w2 ⟨rfl, hb⟩
        have HB2 := Lib.hid (HBE.out.trans (hb.mono HBE.out.size))
        clear hb
        dsimp only
        go_wp2_with fail
        go_roundw
        case rel =>
          have hlt2 := HLT.out
          refine ⟨j + 1, by omega, by go_num, HB2.out, fun i y hi hy => ?_⟩
          by_cases e : i = j
          · subst e
            rw [HXJ.out] at hy
            cases hy
            exact HP.out
          · exact HNO.out i y (by omega) hy
        case measure =>
          have hlt2 := HLT.out
          simp [intOf]
          omega
    · have HBE := Lib.hid hbel
      clear hbel
      go_wp2_with fail
      go_ret
      refine ⟨?_, HBE.out⟩
      rw [show l.findIdx? badP = none from findIdx_none fun i y hi hy => HNO.out i y (by omega) hy]
      rfl

set_option maxHeartbeats 1000000 in
theorem contains_any {M : Nat → Prop} (l : List Ex) (hall : ∀ e ∈ l, VexOk M e) (htx : ∀ e ∈ l, TxtOk e) (v : Value) (w : World) (h : ExsR M w v l) :
    Calls Tryz.prog 103 #[v, .func (.func 104) #[] #[]] w (RetBel (.bool (!validL l)) w) := by
  have h0 := idxExpr_any l hall htx v w h
  have hc : (∃ i, l.findIdx? badP = some i ∧ validL l = false) ∨ (l.findIdx? badP = none ∧ validL l = true) := by
    cases hf : l.findIdx? badP with
    | none => exact .inr ⟨rfl, badP_none hf⟩
    | some i => exact .inl ⟨i, rfl, badP_some hf⟩
  clear hall htx h
  rcases hc with ⟨i, hf, hv⟩ | ⟨hf, hv⟩
  · rw [hf] at h0
    rw [hv]
    have H := Lib.hid h0
    clear hf hv h0
    go_enter Tryz.func103, Tryz.ntmps103
    go_wp2_with fail
    refine H.out.mono ?_
    rintro e w1 ⟨rfl, hb⟩
    have HB := Lib.hid hb
    clear hb
    dsimp only [idxI]
    go_wp2_with fail
    go_ret
    exact ⟨by simp, HB.out⟩
  · rw [hf] at h0
    rw [hv]
    have H := Lib.hid h0
    clear hf hv h0
    go_enter Tryz.func103, Tryz.ntmps103
    go_wp2_with fail
    refine H.out.mono ?_
    rintro e w1 ⟨rfl, hb⟩
    have HB := Lib.hid hb
    clear hb
    dsimp only [idxI]
    go_wp2_with fail
    go_ret
    exact ⟨rfl, HB.out⟩

set_option maxHeartbeats 1000000 in
theorem validExprs_any {M : Nat → Prop} (l : List Ex) (hall : ∀ e ∈ l, VexOk M e) (htx : ∀ e ∈ l, TxtOk e) (v : Value) (w : World) (h : ExsR M w v l) :
    Calls Tryz.prog 55 #[v] w (RetBel (.bool (validL l)) w) := by
  have H := Lib.hid (contains_any l hall htx v w h)
  clear hall htx h
  go_enter Tryz.func55, Tryz.ntmps55
  go_wp2_with fail
  refine H.out.mono ?_
  rintro e w1 ⟨rfl, hb⟩
  have HB := Lib.hid hb
  clear hb
  dsimp only
  go_wp2_with fail
  go_ret
  exact ⟨by simp, HB.out⟩
end Go.Proofs.YtkhlmofcdchccaaGreatDoor

namespace Go.Proofs.YtkhlmofcdchccaaGreatDoor
open Go.RowKit

/-- The query's cells, wherever nothing below has been written. -/
def InnQ (w W2 : World) (k : Int) (st : Bool) (f : ByteArray) (ia wa : Option Addr) (il wl ic wc : Nat) : Prop :=
  ∀ wx, Below W2.heap.size W2 wx → wx.cell? ⟨w.heap.size, 0, none⟩ = some (.int .i64 k) ∧ wx.cell? ⟨w.heap.size + 1, 0, none⟩ = some (.bool st) ∧ wx.cell? ⟨w.heap.size + 1, 1, none⟩ = some (.slice ia il ic) ∧ wx.cell? ⟨w.heap.size + 1, 2, none⟩ = some (.string f) ∧ wx.cell? ⟨w.heap.size + 1, 3, none⟩ = some (.slice wa wl wc)

set_option maxRecDepth 100000 in
set_option maxHeartbeats 20000000 in
theorem inner_one (k o : Int) (no : Bool) (vk vi : Int) (vt t nm : ByteArray) (va : Value) (ab ao c : Nat) (st : Bool) (f : ByteArray) (ia wa : Option Addr) (il wl ic wc : Nat) (w : World) (hk : 8 ≤ k ∧ k ≤ 12) (hab : ab < w.heap.size) (sb ib wb : Bool)
    (c0 : w.cell? ⟨ab, ao, none⟩ = some (.bool st)) (c1 : w.cell? ⟨ab, ao + 1, none⟩ = some (.slice ia il ic)) (c2 : w.cell? ⟨ab, ao + 2, none⟩ = some (.string f)) (c3 : w.cell? ⟨ab, ao + 3, none⟩ = some (.slice wa wl wc))
    (hs : ∀ wx, Calls Tryz.prog 102 #[.string f] wx (RetBel (.bool sb) wx))
    (hi : ∀ wx, Below w.heap.size w wx → Calls Tryz.prog 55 #[.slice ia il ic] wx (RetBel (.bool ib) wx))
    (hw : ∀ wx, Below w.heap.size w wx → Calls Tryz.prog 55 #[.slice wa wl wc] wx (RetBel (.bool wb) wx)) :
    Calls Tryz.prog 53 #[.agg #[.int .i64 k, .int .i64 o, .bool no, .int .i64 vk, .int .i64 vi, .string vt, .string t, .string nm, va, .slice (some ⟨ab, ao, none⟩) 1 c]] w
      (RetBel (.bool ((st == decide (k = 8)) && decide (il = if k = 8 ∨ k = 9 then 0 else 1) && sb && decide (wl ≤ 1) && ib && wb)) w) := by
  have HS := Lib.hid hs
  have HI := Lib.hid hi
  have HW := Lib.hid hw
  clear hs hi hw
  have hk3 : k = 8 ∨ k = 9 ∨ (10 ≤ k ∧ k ≤ 12) := by omega
  clear hk
  rcases hk3 with rfl | rfl | ⟨hk, hk2⟩
  · rw [show decide ((8 : Int) = 8) = true from rfl, show (if (8 : Int) = 8 ∨ (8 : Int) = 9 then 0 else 1) = 0 from rfl]
    cases st
    · go_enter Tryz.func53, Tryz.ntmps53
      go_upto_region 4 with fail
      generalize hW2 : ((w.alloc _).alloc _) = W2
      have hb2 : Below w.heap.size w W2 := by rw [← hW2]; exact ((Below.refl _ _).alloc (Nat.le_refl _) _).alloc (by simp) _
      have hz2 : w.heap.size + 1 < W2.heap.size := by rw [← hW2]; simp
      have hq : InnQ w W2 8 false f ia wa il wl ic wc := by
        intro wx hb
        rw [hb.cell (p := ⟨w.heap.size, 0, none⟩) (by simp; omega), hb.cell (p := ⟨w.heap.size + 1, 0, none⟩) hz2, hb.cell (p := ⟨w.heap.size + 1, 1, none⟩) hz2, hb.cell (p := ⟨w.heap.size + 1, 2, none⟩) hz2, hb.cell (p := ⟨w.heap.size + 1, 3, none⟩) hz2, ← hW2]
        refine ⟨?_, ?_, ?_, ?_, ?_⟩ <;> simp
      have HQ := Lib.hid hq
      have HB2 := Lib.hid hb2
      clear hq hb2 hW2 c0 c1 c2 c3
      obtain ⟨x0, y0, y1, y2, y3⟩ := HQ.out _ (Below.refl _ _)
      go_wp2_with fail
      go_ret
      exact ⟨by simp, HB2.out⟩
    · by_cases hil : il = 0
      · subst hil
        cases sb
        · go_enter Tryz.func53, Tryz.ntmps53
          go_upto_region 4 with fail
          generalize hW2 : ((w.alloc _).alloc _) = W2
          have hb2 : Below w.heap.size w W2 := by rw [← hW2]; exact ((Below.refl _ _).alloc (Nat.le_refl _) _).alloc (by simp) _
          have hz2 : w.heap.size + 1 < W2.heap.size := by rw [← hW2]; simp
          have hq : InnQ w W2 8 true f ia wa 0 wl ic wc := by
            intro wx hb
            rw [hb.cell (p := ⟨w.heap.size, 0, none⟩) (by simp; omega), hb.cell (p := ⟨w.heap.size + 1, 0, none⟩) hz2, hb.cell (p := ⟨w.heap.size + 1, 1, none⟩) hz2, hb.cell (p := ⟨w.heap.size + 1, 2, none⟩) hz2, hb.cell (p := ⟨w.heap.size + 1, 3, none⟩) hz2, ← hW2]
            refine ⟨?_, ?_, ?_, ?_, ?_⟩ <;> simp
          have HQ := Lib.hid hq
          have HB2 := Lib.hid hb2
          clear hq hb2 hW2 c0 c1 c2 c3
          obtain ⟨x0, y0, y1, y2, y3⟩ := HQ.out _ (Below.refl _ _)
          go_wp2_with fail
          refine (HS.out _).mono ?_
          rintro e w3 ⟨rfl, hb⟩
          have HL3 := Lib.hid (hb)
          have HB3 := Lib.hid (HB2.out.trans (HL3.out.mono (by omega)))
          clear hb x0 y0 y1 y2 y3
          obtain ⟨x0, y0, y1, y2, y3⟩ := HQ.out _ HL3.out
          dsimp only
          go_wp2_with fail
          go_ret
          exact ⟨by simp, HB3.out⟩
        · by_cases hwl : wl ≤ 1
          · have hwl' : (wl : Int) ≤ 1 := by omega
            cases ib
            · go_enter Tryz.func53, Tryz.ntmps53
              go_upto_region 4 with fail
              generalize hW2 : ((w.alloc _).alloc _) = W2
              have hb2 : Below w.heap.size w W2 := by rw [← hW2]; exact ((Below.refl _ _).alloc (Nat.le_refl _) _).alloc (by simp) _
              have hz2 : w.heap.size + 1 < W2.heap.size := by rw [← hW2]; simp
              have hq : InnQ w W2 8 true f ia wa 0 wl ic wc := by
                intro wx hb
                rw [hb.cell (p := ⟨w.heap.size, 0, none⟩) (by simp; omega), hb.cell (p := ⟨w.heap.size + 1, 0, none⟩) hz2, hb.cell (p := ⟨w.heap.size + 1, 1, none⟩) hz2, hb.cell (p := ⟨w.heap.size + 1, 2, none⟩) hz2, hb.cell (p := ⟨w.heap.size + 1, 3, none⟩) hz2, ← hW2]
                refine ⟨?_, ?_, ?_, ?_, ?_⟩ <;> simp
              have HQ := Lib.hid hq
              have HB2 := Lib.hid hb2
              clear hq hb2 hW2 c0 c1 c2 c3
              obtain ⟨x0, y0, y1, y2, y3⟩ := HQ.out _ (Below.refl _ _)
              go_wp2_with fail
              refine (HS.out _).mono ?_
              rintro e w3 ⟨rfl, hb⟩
              have HL3 := Lib.hid (hb)
              have HB3 := Lib.hid (HB2.out.trans (HL3.out.mono (by omega)))
              clear hb x0 y0 y1 y2 y3
              obtain ⟨x0, y0, y1, y2, y3⟩ := HQ.out _ HL3.out
              dsimp only
              go_wp2_with fail
              refine (HI.out _ HB3.out).mono ?_
              rintro e w4 ⟨rfl, hb⟩
              have HL4 := Lib.hid (HL3.out.trans (hb.mono HL3.out.size))
              have HB4 := Lib.hid (HB2.out.trans (HL4.out.mono (by omega)))
              clear hb x0 y0 y1 y2 y3
              obtain ⟨x0, y0, y1, y2, y3⟩ := HQ.out _ HL4.out
              dsimp only
              go_wp2_with fail
              go_ret
              exact ⟨by simp, HB4.out⟩
            · go_enter Tryz.func53, Tryz.ntmps53
              go_upto_region 4 with fail
              generalize hW2 : ((w.alloc _).alloc _) = W2
              have hb2 : Below w.heap.size w W2 := by rw [← hW2]; exact ((Below.refl _ _).alloc (Nat.le_refl _) _).alloc (by simp) _
              have hz2 : w.heap.size + 1 < W2.heap.size := by rw [← hW2]; simp
              have hq : InnQ w W2 8 true f ia wa 0 wl ic wc := by
                intro wx hb
                rw [hb.cell (p := ⟨w.heap.size, 0, none⟩) (by simp; omega), hb.cell (p := ⟨w.heap.size + 1, 0, none⟩) hz2, hb.cell (p := ⟨w.heap.size + 1, 1, none⟩) hz2, hb.cell (p := ⟨w.heap.size + 1, 2, none⟩) hz2, hb.cell (p := ⟨w.heap.size + 1, 3, none⟩) hz2, ← hW2]
                refine ⟨?_, ?_, ?_, ?_, ?_⟩ <;> simp
              have HQ := Lib.hid hq
              have HB2 := Lib.hid hb2
              clear hq hb2 hW2 c0 c1 c2 c3
              obtain ⟨x0, y0, y1, y2, y3⟩ := HQ.out _ (Below.refl _ _)
              go_wp2_with fail
              refine (HS.out _).mono ?_
              rintro e w3 ⟨rfl, hb⟩
              have HL3 := Lib.hid (hb)
              have HB3 := Lib.hid (HB2.out.trans (HL3.out.mono (by omega)))
              clear hb x0 y0 y1 y2 y3
              obtain ⟨x0, y0, y1, y2, y3⟩ := HQ.out _ HL3.out
              dsimp only
              go_wp2_with fail
              refine (HI.out _ HB3.out).mono ?_
              rintro e w4 ⟨rfl, hb⟩
              have HL4 := Lib.hid (HL3.out.trans (hb.mono HL3.out.size))
              have HB4 := Lib.hid (HB2.out.trans (HL4.out.mono (by omega)))
              clear hb x0 y0 y1 y2 y3
              obtain ⟨x0, y0, y1, y2, y3⟩ := HQ.out _ HL4.out
              dsimp only
              go_wp2_with fail
              refine (HW.out _ HB4.out).mono ?_
              rintro e w5 ⟨rfl, hb⟩
              have HL5 := Lib.hid (HL4.out.trans (hb.mono HL4.out.size))
              have HB5 := Lib.hid (HB2.out.trans (HL5.out.mono (by omega)))
              clear hb x0 y0 y1 y2 y3
              obtain ⟨x0, y0, y1, y2, y3⟩ := HQ.out _ HL5.out
              dsimp only
              go_wp2_with fail
              go_ret
              exact ⟨by simp [hwl], HB5.out⟩
          · have hwl' : ¬ (wl : Int) ≤ 1 := by omega
            go_enter Tryz.func53, Tryz.ntmps53
            go_upto_region 4 with fail
            generalize hW2 : ((w.alloc _).alloc _) = W2
            have hb2 : Below w.heap.size w W2 := by rw [← hW2]; exact ((Below.refl _ _).alloc (Nat.le_refl _) _).alloc (by simp) _
            have hz2 : w.heap.size + 1 < W2.heap.size := by rw [← hW2]; simp
            have hq : InnQ w W2 8 true f ia wa 0 wl ic wc := by
              intro wx hb
              rw [hb.cell (p := ⟨w.heap.size, 0, none⟩) (by simp; omega), hb.cell (p := ⟨w.heap.size + 1, 0, none⟩) hz2, hb.cell (p := ⟨w.heap.size + 1, 1, none⟩) hz2, hb.cell (p := ⟨w.heap.size + 1, 2, none⟩) hz2, hb.cell (p := ⟨w.heap.size + 1, 3, none⟩) hz2, ← hW2]
              refine ⟨?_, ?_, ?_, ?_, ?_⟩ <;> simp
            have HQ := Lib.hid hq
            have HB2 := Lib.hid hb2
            clear hq hb2 hW2 c0 c1 c2 c3
            obtain ⟨x0, y0, y1, y2, y3⟩ := HQ.out _ (Below.refl _ _)
            go_wp2_with fail
            refine (HS.out _).mono ?_
            rintro e w3 ⟨rfl, hb⟩
            have HL3 := Lib.hid (hb)
            have HB3 := Lib.hid (HB2.out.trans (HL3.out.mono (by omega)))
            clear hb x0 y0 y1 y2 y3
            obtain ⟨x0, y0, y1, y2, y3⟩ := HQ.out _ HL3.out
            dsimp only
            go_wp2_with fail
            go_ret
            exact ⟨by simp, HB3.out⟩
      · have hil' : ((il : Int) == 0) = false := by simp; omega
        go_enter Tryz.func53, Tryz.ntmps53
        go_upto_region 4 with fail
        generalize hW2 : ((w.alloc _).alloc _) = W2
        have hb2 : Below w.heap.size w W2 := by rw [← hW2]; exact ((Below.refl _ _).alloc (Nat.le_refl _) _).alloc (by simp) _
        have hz2 : w.heap.size + 1 < W2.heap.size := by rw [← hW2]; simp
        have hq : InnQ w W2 8 true f ia wa il wl ic wc := by
          intro wx hb
          rw [hb.cell (p := ⟨w.heap.size, 0, none⟩) (by simp; omega), hb.cell (p := ⟨w.heap.size + 1, 0, none⟩) hz2, hb.cell (p := ⟨w.heap.size + 1, 1, none⟩) hz2, hb.cell (p := ⟨w.heap.size + 1, 2, none⟩) hz2, hb.cell (p := ⟨w.heap.size + 1, 3, none⟩) hz2, ← hW2]
          refine ⟨?_, ?_, ?_, ?_, ?_⟩ <;> simp
        have HQ := Lib.hid hq
        have HB2 := Lib.hid hb2
        clear hq hb2 hW2 c0 c1 c2 c3
        obtain ⟨x0, y0, y1, y2, y3⟩ := HQ.out _ (Below.refl _ _)
        go_wp2_with fail
        go_ret
        exact ⟨by simp [hil], HB2.out⟩
  · rw [show decide ((9 : Int) = 8) = false from rfl, show (if (9 : Int) = 8 ∨ (9 : Int) = 9 then 0 else 1) = 0 from rfl]
    cases st
    · by_cases hil : il = 0
      · subst hil
        cases sb
        · go_enter Tryz.func53, Tryz.ntmps53
          go_upto_region 4 with fail
          generalize hW2 : ((w.alloc _).alloc _) = W2
          have hb2 : Below w.heap.size w W2 := by rw [← hW2]; exact ((Below.refl _ _).alloc (Nat.le_refl _) _).alloc (by simp) _
          have hz2 : w.heap.size + 1 < W2.heap.size := by rw [← hW2]; simp
          have hq : InnQ w W2 9 false f ia wa 0 wl ic wc := by
            intro wx hb
            rw [hb.cell (p := ⟨w.heap.size, 0, none⟩) (by simp; omega), hb.cell (p := ⟨w.heap.size + 1, 0, none⟩) hz2, hb.cell (p := ⟨w.heap.size + 1, 1, none⟩) hz2, hb.cell (p := ⟨w.heap.size + 1, 2, none⟩) hz2, hb.cell (p := ⟨w.heap.size + 1, 3, none⟩) hz2, ← hW2]
            refine ⟨?_, ?_, ?_, ?_, ?_⟩ <;> simp
          have HQ := Lib.hid hq
          have HB2 := Lib.hid hb2
          clear hq hb2 hW2 c0 c1 c2 c3
          obtain ⟨x0, y0, y1, y2, y3⟩ := HQ.out _ (Below.refl _ _)
          go_wp2_with fail
          refine (HS.out _).mono ?_
          rintro e w3 ⟨rfl, hb⟩
          have HL3 := Lib.hid (hb)
          have HB3 := Lib.hid (HB2.out.trans (HL3.out.mono (by omega)))
          clear hb x0 y0 y1 y2 y3
          obtain ⟨x0, y0, y1, y2, y3⟩ := HQ.out _ HL3.out
          dsimp only
          go_wp2_with fail
          go_ret
          exact ⟨by simp, HB3.out⟩
        · by_cases hwl : wl ≤ 1
          · have hwl' : (wl : Int) ≤ 1 := by omega
            cases ib
            · go_enter Tryz.func53, Tryz.ntmps53
              go_upto_region 4 with fail
              generalize hW2 : ((w.alloc _).alloc _) = W2
              have hb2 : Below w.heap.size w W2 := by rw [← hW2]; exact ((Below.refl _ _).alloc (Nat.le_refl _) _).alloc (by simp) _
              have hz2 : w.heap.size + 1 < W2.heap.size := by rw [← hW2]; simp
              have hq : InnQ w W2 9 false f ia wa 0 wl ic wc := by
                intro wx hb
                rw [hb.cell (p := ⟨w.heap.size, 0, none⟩) (by simp; omega), hb.cell (p := ⟨w.heap.size + 1, 0, none⟩) hz2, hb.cell (p := ⟨w.heap.size + 1, 1, none⟩) hz2, hb.cell (p := ⟨w.heap.size + 1, 2, none⟩) hz2, hb.cell (p := ⟨w.heap.size + 1, 3, none⟩) hz2, ← hW2]
                refine ⟨?_, ?_, ?_, ?_, ?_⟩ <;> simp
              have HQ := Lib.hid hq
              have HB2 := Lib.hid hb2
              clear hq hb2 hW2 c0 c1 c2 c3
              obtain ⟨x0, y0, y1, y2, y3⟩ := HQ.out _ (Below.refl _ _)
              go_wp2_with fail
              refine (HS.out _).mono ?_
              rintro e w3 ⟨rfl, hb⟩
              have HL3 := Lib.hid (hb)
              have HB3 := Lib.hid (HB2.out.trans (HL3.out.mono (by omega)))
              clear hb x0 y0 y1 y2 y3
              obtain ⟨x0, y0, y1, y2, y3⟩ := HQ.out _ HL3.out
              dsimp only
              go_wp2_with fail
              refine (HI.out _ HB3.out).mono ?_
              rintro e w4 ⟨rfl, hb⟩
              have HL4 := Lib.hid (HL3.out.trans (hb.mono HL3.out.size))
              have HB4 := Lib.hid (HB2.out.trans (HL4.out.mono (by omega)))
              clear hb x0 y0 y1 y2 y3
              obtain ⟨x0, y0, y1, y2, y3⟩ := HQ.out _ HL4.out
              dsimp only
              go_wp2_with fail
              go_ret
              exact ⟨by simp, HB4.out⟩
            · go_enter Tryz.func53, Tryz.ntmps53
              go_upto_region 4 with fail
              generalize hW2 : ((w.alloc _).alloc _) = W2
              have hb2 : Below w.heap.size w W2 := by rw [← hW2]; exact ((Below.refl _ _).alloc (Nat.le_refl _) _).alloc (by simp) _
              have hz2 : w.heap.size + 1 < W2.heap.size := by rw [← hW2]; simp
              have hq : InnQ w W2 9 false f ia wa 0 wl ic wc := by
                intro wx hb
                rw [hb.cell (p := ⟨w.heap.size, 0, none⟩) (by simp; omega), hb.cell (p := ⟨w.heap.size + 1, 0, none⟩) hz2, hb.cell (p := ⟨w.heap.size + 1, 1, none⟩) hz2, hb.cell (p := ⟨w.heap.size + 1, 2, none⟩) hz2, hb.cell (p := ⟨w.heap.size + 1, 3, none⟩) hz2, ← hW2]
                refine ⟨?_, ?_, ?_, ?_, ?_⟩ <;> simp
              have HQ := Lib.hid hq
              have HB2 := Lib.hid hb2
              clear hq hb2 hW2 c0 c1 c2 c3
              obtain ⟨x0, y0, y1, y2, y3⟩ := HQ.out _ (Below.refl _ _)
              go_wp2_with fail
              refine (HS.out _).mono ?_
              rintro e w3 ⟨rfl, hb⟩
              have HL3 := Lib.hid (hb)
              have HB3 := Lib.hid (HB2.out.trans (HL3.out.mono (by omega)))
              clear hb x0 y0 y1 y2 y3
              obtain ⟨x0, y0, y1, y2, y3⟩ := HQ.out _ HL3.out
              dsimp only
              go_wp2_with fail
              refine (HI.out _ HB3.out).mono ?_
              rintro e w4 ⟨rfl, hb⟩
              have HL4 := Lib.hid (HL3.out.trans (hb.mono HL3.out.size))
              have HB4 := Lib.hid (HB2.out.trans (HL4.out.mono (by omega)))
              clear hb x0 y0 y1 y2 y3
              obtain ⟨x0, y0, y1, y2, y3⟩ := HQ.out _ HL4.out
              dsimp only
              go_wp2_with fail
              refine (HW.out _ HB4.out).mono ?_
              rintro e w5 ⟨rfl, hb⟩
              have HL5 := Lib.hid (HL4.out.trans (hb.mono HL4.out.size))
              have HB5 := Lib.hid (HB2.out.trans (HL5.out.mono (by omega)))
              clear hb x0 y0 y1 y2 y3
              obtain ⟨x0, y0, y1, y2, y3⟩ := HQ.out _ HL5.out
              dsimp only
              go_wp2_with fail
              go_ret
              exact ⟨by simp [hwl], HB5.out⟩
          · have hwl' : ¬ (wl : Int) ≤ 1 := by omega
            go_enter Tryz.func53, Tryz.ntmps53
            go_upto_region 4 with fail
            generalize hW2 : ((w.alloc _).alloc _) = W2
            have hb2 : Below w.heap.size w W2 := by rw [← hW2]; exact ((Below.refl _ _).alloc (Nat.le_refl _) _).alloc (by simp) _
            have hz2 : w.heap.size + 1 < W2.heap.size := by rw [← hW2]; simp
            have hq : InnQ w W2 9 false f ia wa 0 wl ic wc := by
              intro wx hb
              rw [hb.cell (p := ⟨w.heap.size, 0, none⟩) (by simp; omega), hb.cell (p := ⟨w.heap.size + 1, 0, none⟩) hz2, hb.cell (p := ⟨w.heap.size + 1, 1, none⟩) hz2, hb.cell (p := ⟨w.heap.size + 1, 2, none⟩) hz2, hb.cell (p := ⟨w.heap.size + 1, 3, none⟩) hz2, ← hW2]
              refine ⟨?_, ?_, ?_, ?_, ?_⟩ <;> simp
            have HQ := Lib.hid hq
            have HB2 := Lib.hid hb2
            clear hq hb2 hW2 c0 c1 c2 c3
            obtain ⟨x0, y0, y1, y2, y3⟩ := HQ.out _ (Below.refl _ _)
            go_wp2_with fail
            refine (HS.out _).mono ?_
            rintro e w3 ⟨rfl, hb⟩
            have HL3 := Lib.hid (hb)
            have HB3 := Lib.hid (HB2.out.trans (HL3.out.mono (by omega)))
            clear hb x0 y0 y1 y2 y3
            obtain ⟨x0, y0, y1, y2, y3⟩ := HQ.out _ HL3.out
            dsimp only
            go_wp2_with fail
            go_ret
            exact ⟨by simp, HB3.out⟩
      · have hil' : ((il : Int) == 0) = false := by simp; omega
        go_enter Tryz.func53, Tryz.ntmps53
        go_upto_region 4 with fail
        generalize hW2 : ((w.alloc _).alloc _) = W2
        have hb2 : Below w.heap.size w W2 := by rw [← hW2]; exact ((Below.refl _ _).alloc (Nat.le_refl _) _).alloc (by simp) _
        have hz2 : w.heap.size + 1 < W2.heap.size := by rw [← hW2]; simp
        have hq : InnQ w W2 9 false f ia wa il wl ic wc := by
          intro wx hb
          rw [hb.cell (p := ⟨w.heap.size, 0, none⟩) (by simp; omega), hb.cell (p := ⟨w.heap.size + 1, 0, none⟩) hz2, hb.cell (p := ⟨w.heap.size + 1, 1, none⟩) hz2, hb.cell (p := ⟨w.heap.size + 1, 2, none⟩) hz2, hb.cell (p := ⟨w.heap.size + 1, 3, none⟩) hz2, ← hW2]
          refine ⟨?_, ?_, ?_, ?_, ?_⟩ <;> simp
        have HQ := Lib.hid hq
        have HB2 := Lib.hid hb2
        clear hq hb2 hW2 c0 c1 c2 c3
        obtain ⟨x0, y0, y1, y2, y3⟩ := HQ.out _ (Below.refl _ _)
        go_wp2_with fail
        go_ret
        exact ⟨by simp [hil], HB2.out⟩
    · go_enter Tryz.func53, Tryz.ntmps53
      go_upto_region 4 with fail
      generalize hW2 : ((w.alloc _).alloc _) = W2
      have hb2 : Below w.heap.size w W2 := by rw [← hW2]; exact ((Below.refl _ _).alloc (Nat.le_refl _) _).alloc (by simp) _
      have hz2 : w.heap.size + 1 < W2.heap.size := by rw [← hW2]; simp
      have hq : InnQ w W2 9 true f ia wa il wl ic wc := by
        intro wx hb
        rw [hb.cell (p := ⟨w.heap.size, 0, none⟩) (by simp; omega), hb.cell (p := ⟨w.heap.size + 1, 0, none⟩) hz2, hb.cell (p := ⟨w.heap.size + 1, 1, none⟩) hz2, hb.cell (p := ⟨w.heap.size + 1, 2, none⟩) hz2, hb.cell (p := ⟨w.heap.size + 1, 3, none⟩) hz2, ← hW2]
        refine ⟨?_, ?_, ?_, ?_, ?_⟩ <;> simp
      have HQ := Lib.hid hq
      have HB2 := Lib.hid hb2
      clear hq hb2 hW2 c0 c1 c2 c3
      obtain ⟨x0, y0, y1, y2, y3⟩ := HQ.out _ (Below.refl _ _)
      go_wp2_with fail
      go_ret
      exact ⟨by simp, HB2.out⟩
  · have b8 : (k == 8) = false := by simp; omega
    have b9 : (k == 9) = false := by simp; omega
    have hd8 : decide (k = 8) = false := decide_eq_false (by omega)
    have hif : (if k = 8 ∨ k = 9 then 0 else 1) = 1 := if_neg (by omega)
    rw [hd8, hif]
    clear hd8 hif hk hk2
    cases st
    · by_cases hil : il = 1
      · subst hil
        cases sb
        · go_enter Tryz.func53, Tryz.ntmps53
          go_upto_region 4 with fail
          generalize hW2 : ((w.alloc _).alloc _) = W2
          have hb2 : Below w.heap.size w W2 := by rw [← hW2]; exact ((Below.refl _ _).alloc (Nat.le_refl _) _).alloc (by simp) _
          have hz2 : w.heap.size + 1 < W2.heap.size := by rw [← hW2]; simp
          have hq : InnQ w W2 k false f ia wa 1 wl ic wc := by
            intro wx hb
            rw [hb.cell (p := ⟨w.heap.size, 0, none⟩) (by simp; omega), hb.cell (p := ⟨w.heap.size + 1, 0, none⟩) hz2, hb.cell (p := ⟨w.heap.size + 1, 1, none⟩) hz2, hb.cell (p := ⟨w.heap.size + 1, 2, none⟩) hz2, hb.cell (p := ⟨w.heap.size + 1, 3, none⟩) hz2, ← hW2]
            refine ⟨?_, ?_, ?_, ?_, ?_⟩ <;> simp
          have HQ := Lib.hid hq
          have HB2 := Lib.hid hb2
          clear hq hb2 hW2 c0 c1 c2 c3
          obtain ⟨x0, y0, y1, y2, y3⟩ := HQ.out _ (Below.refl _ _)
          go_wp2_with fail
          refine (HS.out _).mono ?_
          rintro e w3 ⟨rfl, hb⟩
          have HL3 := Lib.hid (hb)
          have HB3 := Lib.hid (HB2.out.trans (HL3.out.mono (by omega)))
          clear hb x0 y0 y1 y2 y3
          obtain ⟨x0, y0, y1, y2, y3⟩ := HQ.out _ HL3.out
          dsimp only
          go_wp2_with fail
          go_ret
          exact ⟨by simp, HB3.out⟩
        · by_cases hwl : wl ≤ 1
          · have hwl' : (wl : Int) ≤ 1 := by omega
            cases ib
            · go_enter Tryz.func53, Tryz.ntmps53
              go_upto_region 4 with fail
              generalize hW2 : ((w.alloc _).alloc _) = W2
              have hb2 : Below w.heap.size w W2 := by rw [← hW2]; exact ((Below.refl _ _).alloc (Nat.le_refl _) _).alloc (by simp) _
              have hz2 : w.heap.size + 1 < W2.heap.size := by rw [← hW2]; simp
              have hq : InnQ w W2 k false f ia wa 1 wl ic wc := by
                intro wx hb
                rw [hb.cell (p := ⟨w.heap.size, 0, none⟩) (by simp; omega), hb.cell (p := ⟨w.heap.size + 1, 0, none⟩) hz2, hb.cell (p := ⟨w.heap.size + 1, 1, none⟩) hz2, hb.cell (p := ⟨w.heap.size + 1, 2, none⟩) hz2, hb.cell (p := ⟨w.heap.size + 1, 3, none⟩) hz2, ← hW2]
                refine ⟨?_, ?_, ?_, ?_, ?_⟩ <;> simp
              have HQ := Lib.hid hq
              have HB2 := Lib.hid hb2
              clear hq hb2 hW2 c0 c1 c2 c3
              obtain ⟨x0, y0, y1, y2, y3⟩ := HQ.out _ (Below.refl _ _)
              go_wp2_with fail
              refine (HS.out _).mono ?_
              rintro e w3 ⟨rfl, hb⟩
              have HL3 := Lib.hid (hb)
              have HB3 := Lib.hid (HB2.out.trans (HL3.out.mono (by omega)))
              clear hb x0 y0 y1 y2 y3
              obtain ⟨x0, y0, y1, y2, y3⟩ := HQ.out _ HL3.out
              dsimp only
              go_wp2_with fail
              refine (HI.out _ HB3.out).mono ?_
              rintro e w4 ⟨rfl, hb⟩
              have HL4 := Lib.hid (HL3.out.trans (hb.mono HL3.out.size))
              have HB4 := Lib.hid (HB2.out.trans (HL4.out.mono (by omega)))
              clear hb x0 y0 y1 y2 y3
              obtain ⟨x0, y0, y1, y2, y3⟩ := HQ.out _ HL4.out
              dsimp only
              go_wp2_with fail
              go_ret
              exact ⟨by simp, HB4.out⟩
            · go_enter Tryz.func53, Tryz.ntmps53
              go_upto_region 4 with fail
              generalize hW2 : ((w.alloc _).alloc _) = W2
              have hb2 : Below w.heap.size w W2 := by rw [← hW2]; exact ((Below.refl _ _).alloc (Nat.le_refl _) _).alloc (by simp) _
              have hz2 : w.heap.size + 1 < W2.heap.size := by rw [← hW2]; simp
              have hq : InnQ w W2 k false f ia wa 1 wl ic wc := by
                intro wx hb
                rw [hb.cell (p := ⟨w.heap.size, 0, none⟩) (by simp; omega), hb.cell (p := ⟨w.heap.size + 1, 0, none⟩) hz2, hb.cell (p := ⟨w.heap.size + 1, 1, none⟩) hz2, hb.cell (p := ⟨w.heap.size + 1, 2, none⟩) hz2, hb.cell (p := ⟨w.heap.size + 1, 3, none⟩) hz2, ← hW2]
                refine ⟨?_, ?_, ?_, ?_, ?_⟩ <;> simp
              have HQ := Lib.hid hq
              have HB2 := Lib.hid hb2
              clear hq hb2 hW2 c0 c1 c2 c3
              obtain ⟨x0, y0, y1, y2, y3⟩ := HQ.out _ (Below.refl _ _)
              go_wp2_with fail
              refine (HS.out _).mono ?_
              rintro e w3 ⟨rfl, hb⟩
              have HL3 := Lib.hid (hb)
              have HB3 := Lib.hid (HB2.out.trans (HL3.out.mono (by omega)))
              clear hb x0 y0 y1 y2 y3
              obtain ⟨x0, y0, y1, y2, y3⟩ := HQ.out _ HL3.out
              dsimp only
              go_wp2_with fail
              refine (HI.out _ HB3.out).mono ?_
              rintro e w4 ⟨rfl, hb⟩
              have HL4 := Lib.hid (HL3.out.trans (hb.mono HL3.out.size))
              have HB4 := Lib.hid (HB2.out.trans (HL4.out.mono (by omega)))
              clear hb x0 y0 y1 y2 y3
              obtain ⟨x0, y0, y1, y2, y3⟩ := HQ.out _ HL4.out
              dsimp only
              go_wp2_with fail
              refine (HW.out _ HB4.out).mono ?_
              rintro e w5 ⟨rfl, hb⟩
              have HL5 := Lib.hid (HL4.out.trans (hb.mono HL4.out.size))
              have HB5 := Lib.hid (HB2.out.trans (HL5.out.mono (by omega)))
              clear hb x0 y0 y1 y2 y3
              obtain ⟨x0, y0, y1, y2, y3⟩ := HQ.out _ HL5.out
              dsimp only
              go_wp2_with fail
              go_ret
              exact ⟨by simp [hwl], HB5.out⟩
          · have hwl' : ¬ (wl : Int) ≤ 1 := by omega
            go_enter Tryz.func53, Tryz.ntmps53
            go_upto_region 4 with fail
            generalize hW2 : ((w.alloc _).alloc _) = W2
            have hb2 : Below w.heap.size w W2 := by rw [← hW2]; exact ((Below.refl _ _).alloc (Nat.le_refl _) _).alloc (by simp) _
            have hz2 : w.heap.size + 1 < W2.heap.size := by rw [← hW2]; simp
            have hq : InnQ w W2 k false f ia wa 1 wl ic wc := by
              intro wx hb
              rw [hb.cell (p := ⟨w.heap.size, 0, none⟩) (by simp; omega), hb.cell (p := ⟨w.heap.size + 1, 0, none⟩) hz2, hb.cell (p := ⟨w.heap.size + 1, 1, none⟩) hz2, hb.cell (p := ⟨w.heap.size + 1, 2, none⟩) hz2, hb.cell (p := ⟨w.heap.size + 1, 3, none⟩) hz2, ← hW2]
              refine ⟨?_, ?_, ?_, ?_, ?_⟩ <;> simp
            have HQ := Lib.hid hq
            have HB2 := Lib.hid hb2
            clear hq hb2 hW2 c0 c1 c2 c3
            obtain ⟨x0, y0, y1, y2, y3⟩ := HQ.out _ (Below.refl _ _)
            go_wp2_with fail
            refine (HS.out _).mono ?_
            rintro e w3 ⟨rfl, hb⟩
            have HL3 := Lib.hid (hb)
            have HB3 := Lib.hid (HB2.out.trans (HL3.out.mono (by omega)))
            clear hb x0 y0 y1 y2 y3
            obtain ⟨x0, y0, y1, y2, y3⟩ := HQ.out _ HL3.out
            dsimp only
            go_wp2_with fail
            go_ret
            exact ⟨by simp, HB3.out⟩
      · have hil' : ((il : Int) == 1) = false := by simp; omega
        go_enter Tryz.func53, Tryz.ntmps53
        go_upto_region 4 with fail
        generalize hW2 : ((w.alloc _).alloc _) = W2
        have hb2 : Below w.heap.size w W2 := by rw [← hW2]; exact ((Below.refl _ _).alloc (Nat.le_refl _) _).alloc (by simp) _
        have hz2 : w.heap.size + 1 < W2.heap.size := by rw [← hW2]; simp
        have hq : InnQ w W2 k false f ia wa il wl ic wc := by
          intro wx hb
          rw [hb.cell (p := ⟨w.heap.size, 0, none⟩) (by simp; omega), hb.cell (p := ⟨w.heap.size + 1, 0, none⟩) hz2, hb.cell (p := ⟨w.heap.size + 1, 1, none⟩) hz2, hb.cell (p := ⟨w.heap.size + 1, 2, none⟩) hz2, hb.cell (p := ⟨w.heap.size + 1, 3, none⟩) hz2, ← hW2]
          refine ⟨?_, ?_, ?_, ?_, ?_⟩ <;> simp
        have HQ := Lib.hid hq
        have HB2 := Lib.hid hb2
        clear hq hb2 hW2 c0 c1 c2 c3
        obtain ⟨x0, y0, y1, y2, y3⟩ := HQ.out _ (Below.refl _ _)
        go_wp2_with fail
        go_ret
        exact ⟨by simp [hil], HB2.out⟩
    · go_enter Tryz.func53, Tryz.ntmps53
      go_upto_region 4 with fail
      generalize hW2 : ((w.alloc _).alloc _) = W2
      have hb2 : Below w.heap.size w W2 := by rw [← hW2]; exact ((Below.refl _ _).alloc (Nat.le_refl _) _).alloc (by simp) _
      have hz2 : w.heap.size + 1 < W2.heap.size := by rw [← hW2]; simp
      have hq : InnQ w W2 k true f ia wa il wl ic wc := by
        intro wx hb
        rw [hb.cell (p := ⟨w.heap.size, 0, none⟩) (by simp; omega), hb.cell (p := ⟨w.heap.size + 1, 0, none⟩) hz2, hb.cell (p := ⟨w.heap.size + 1, 1, none⟩) hz2, hb.cell (p := ⟨w.heap.size + 1, 2, none⟩) hz2, hb.cell (p := ⟨w.heap.size + 1, 3, none⟩) hz2, ← hW2]
        refine ⟨?_, ?_, ?_, ?_, ?_⟩ <;> simp
      have HQ := Lib.hid hq
      have HB2 := Lib.hid hb2
      clear hq hb2 hW2 c0 c1 c2 c3
      obtain ⟨x0, y0, y1, y2, y3⟩ := HQ.out _ (Below.refl _ _)
      go_wp2_with fail
      go_ret
      exact ⟨by simp, HB2.out⟩

set_option maxRecDepth 100000 in
set_option maxHeartbeats 1000000 in
theorem inner_sub {M : Nat → Prop} (k o : Int) (no : Bool) (vk vi : Int) (vt t nm : ByteArray) (va vs : Value) (sub : List Qu) (w : World) (hk : 8 ≤ k ∧ k ≤ 12) (h : QusR M w vs sub)
    (hall : ∀ q ∈ sub, (∀ e ∈ q.items, VexOk M e) ∧ (∀ e ∈ q.whr, VexOk M e)) (htx : ∀ q ∈ sub, q.frm.size ≤ maxLen ∧ (∀ x ∈ q.items, TxtOk x) ∧ ∀ x ∈ q.whr, TxtOk x) :
    Calls Tryz.prog 53 #[.agg #[.int .i64 k, .int .i64 o, .bool no, .int .i64 vk, .int .i64 vi, .string vt, .string t, .string nm, va, vs]] w (RetBel (.bool (decide (sub.length = 1) && validS k sub)) w) := by
  by_cases hl : sub.length = 1
  · obtain ⟨q, rfl⟩ := List.length_eq_one_iff.1 hl
    obtain ⟨st, items, f, whr⟩ := q
    rcases h.open with ⟨_, h⟩ | ⟨ab, ao, cap, rfl, _, hab, _, _, hx⟩
    · cases h
    obtain ⟨cs, hc, _, hcs⟩ := hx 0 _ rfl
    obtain ⟨vi', vw, rfl, hvi, hvw⟩ := (QC_iff ..).1 hc
    obtain ⟨ia, iac, rfl, _⟩ := hvi.shape
    obtain ⟨wa, wac, rfl, _⟩ := hvw.shape
    rw [Nat.zero_mul, Nat.add_zero] at hcs
    obtain ⟨c0, c1, c2, c3⟩ := hcs.c4
    obtain ⟨g1, g2⟩ := hall _ (List.mem_singleton.2 rfl)
    obtain ⟨t1, t2, t3⟩ := htx _ (List.mem_singleton.2 rfl)
    have hm := inner_one k o no vk vi vt t nm va ab ao cap st f ia wa items.length whr.length iac wac w hk hab (sourceB f) (validL items) (validL whr) c0 c1 c2 c3 (fun wx => source_any f wx t1)
      (fun wx kb => validExprs_any (M := M) items g1 t2 _ wx (RowsR.map hvi (Keep.bel kb) fun x _ cs h => EC.keep (.bel kb) x cs h))
      (fun wx kb => validExprs_any (M := M) whr g2 t3 _ wx (RowsR.map hvw (Keep.bel kb) fun x _ cs h => EC.keep (.bel kb) x cs h))
    rw [show validS k [.mk st items f whr] = ((st == decide (k = 8)) && decide (items.length = if k = 8 ∨ k = 9 then 0 else 1) && sourceB f && decide (whr.length ≤ 1) && validL items && validL whr) by rw [validS, validS, Bool.and_true]]
    exact hm
  · obtain ⟨a, c, rfl, _⟩ := h.shape
    have hd : decide (sub.length = 1) = false := decide_eq_false hl
    have hn : ((sub.length : Int) != 1) = true := by simp; omega
    rw [hd]
    clear hall htx h hd
    generalize sub.length = n at hn
    go_enter Tryz.func53, Tryz.ntmps53
    go_wp2_with fail
    go_ret
    exact ⟨rfl, by go_grown⟩
end Go.Proofs.YtkhlmofcdchccaaGreatDoor
