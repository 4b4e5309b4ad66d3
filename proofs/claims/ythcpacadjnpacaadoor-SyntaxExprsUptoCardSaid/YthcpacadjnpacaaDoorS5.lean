/- Lists in the reference: contracts of all and most, over what ValidExpr and LevelsOf answer for each. -/
import Derived.Test.YthcpacadjnpacaaDoorS4
import Derived.Test.YthcpacadjnpacaaDoorKL
import Derived.Test.YthcpacadjnpacaaDoorKN2
namespace Go.Proofs.YthcpacadjnpacaaDoor
open Go.RowKit

/-- The reference's ValidExpr answers for e, wherever it lies. -/
def RexOk (M : Nat → Prop) (e : Ex) : Prop := ∀ (cs : List Value) (w : World), EC M w e cs → TxtOk e → Calls Tryd.prog 43 #[.agg cs.toArray] w (RetBel (.bool (validP e)) w)
/-- The reference's LevelsOf answers for e, which is well-formed, wherever it lies. -/
def RlvOk (M : Nat → Prop) (e : Ex) : Prop := ∀ (cs : List Value) (w : World), EC M w e cs → validP e = true → levP e ≤ 1000000000 → Calls Tryd.prog 47 #[.agg cs.toArray] w (RetBel (.int .i64 (levP e)) w)

set_option maxHeartbeats 2000000 in
theorem rmost_any {M : Nat → Prop} (es : List Ex) (hall : ∀ e ∈ es, RlvOk M e) (hok : ∀ e ∈ es, validP e = true) (v : Value) (w : World) (h : ExsR M w v es) (hb : levM es ≤ 1000000000) : Calls Tryd.prog 89 #[v] w (RetBel (.int .i64 (levM es)) w) := by
  obtain ⟨a, c, rfl, hm⟩ := h.shape
  unfold maxLen at hm
  have HA := Lib.hid h
  have HALL := Lib.hid hall
  have HOK := Lib.hid hok
  have HB := Lib.hid hb
  clear h hall hb hok
  go_enter Tryd.func89, Tryd.ntmps89
  go_wp2_with fail
  go_loopw [3, 8] (fun m i wr => ∃ j : Nat, j ≤ es.length ∧ i = .int .i64 j ∧ m = .int .i64 (levM (es.take j)) ∧ Below w.heap.size w wr) (fun _ i _ => es.length - (intOf i).toNat)
  case atStart => exact ⟨0, Nat.zero_le _, rfl, rfl, Below.refl _ _⟩
  case round =>
    rename World => wr
    obtain ⟨j, hj, rfl, rfl, hbel⟩ := hrel
    by_cases hlt : j < es.length
    · rcases HA.out.open with ⟨_, h⟩ | ⟨ab, ao, cap', hv', _, hab, _, _, hx⟩
      · rw [h] at hlt; simp at hlt
      simp only [Value.slice.injEq] at hv'
      obtain ⟨rfl, _, rfl⟩ := hv'
      have hxj : es[j]? = some es[j] := List.getElem?_eq_getElem hlt
      obtain ⟨cs, hc, _, hcs⟩ := hx j _ hxj
      have hmem := List.mem_of_getElem? hxj
      have htk := levM_take hxj
      have hle := levM_le hmem
      generalize es[j] = x at hxj hc hmem htk hle
      have hcw := fun wx (k : Below w.heap.size w wx) => EC.keep (M := M) (.bel k) x cs hc
      have hlx := fun wx (k : Below w.heap.size w wx) => HALL.out x hmem cs wx (hcw wx k) (HOK.out x hmem) (Nat.le_trans hle HB.out)
      have hcs' := hcs.keep (M := NoM) (Keep.bel hbel) id
      obtain ⟨va, vs, rfl, hva, hvs⟩ := (EC_iff ..).1 hc
      obtain ⟨xa, xac, rfl, _⟩ := hva.shape
      obtain ⟨xs, xsc, rfl, _⟩ := hvs.shape
      obtain ⟨c0, c1, c2, c3, c4, c5, c6, c7, c8, c9⟩ := CellsAt.c10 hcs'
      simp only [exCells] at hlx
      have HLX := Lib.hid hlx
      have HBE := Lib.hid hbel
      have HTK := Lib.hid htk
      have HLT := Lib.hid hlt
      have i0 : (0 : Int) ≤ (j : Int) := by omega
      have i1 : (j : Int) < (es.length : Int) := by omega
      clear hlx hbel htk hx hc hcs hcs' hcw hva hvs hxj hmem hle
      go_wp2_with ((go_at_call 47); (refine (HLX.out _ (HBE.out.alloc HBE.out.size _)).mono ?_); rintro e w2 ⟨rfl, hb⟩; have HB2 := Lib.hid ((HBE.out.alloc HBE.out.size _).trans (hb.mono (by have := HBE.out.size; simp; omega))); clear hb)
      go_roundw
      case rel =>
        have hlt2 := HLT.out
        exact ⟨j + 1, by omega, by go_num, by rw [HTK.out]; congr 1; omega, HB2.out⟩
      case measure =>
        have hlt2 := HLT.out
        simp [intOf]
        omega
    · obtain rfl : j = es.length := by omega
      rw [List.take_length]
      have HBE := Lib.hid hbel
      clear hbel
      go_wp2_with fail
      go_ret
      exact ⟨rfl, HBE.out⟩

set_option maxRecDepth 100000 in
set_option maxHeartbeats 2000000 in
theorem rall_any {M : Nat → Prop} (l : List Ex) (hall : ∀ e ∈ l, RexOk M e) (htx : ∀ e ∈ l, TxtOk e) (v : Value) (w : World) (h : ExsR M w v l) :
    Calls Tryd.prog 85 #[v] w (RetBel (.bool (validL l)) w) := by
  obtain ⟨a, c, rfl, hm⟩ := h.shape
  unfold maxLen at hm
  have HA := Lib.hid h
  have HALL := Lib.hid hall
  have HTX := Lib.hid htx
  clear h hall htx
  go_enter Tryd.func85, Tryd.ntmps85
  go_wp2_with fail
  go_loopw [7] (fun i wr => ∃ j : Nat, j ≤ l.length ∧ i = .int .i64 j ∧ Below w.heap.size w wr ∧ ∀ i y, i < j → l[i]? = some y → badP y = false) (fun i _ => l.length - (intOf i).toNat)
  case atStart => exact ⟨0, Nat.zero_le _, rfl, Below.refl _ _, fun i y hi => by omega⟩
  case round =>
    rename World => wr
    obtain ⟨j, hj, rfl, hbel, hno⟩ := hrel
    have HNO := Lib.hid hno
    clear hno
    by_cases hlt : j < l.length
    · rcases HA.out.open with ⟨_, h⟩ | ⟨ab, ao, cap', hv', _, hab, _, _, hx⟩
      · rw [h] at hlt; simp at hlt
      simp only [Value.slice.injEq] at hv'
      obtain ⟨rfl, _, rfl⟩ := hv'
      have hxj : l[j]? = some l[j] := List.getElem?_eq_getElem hlt
      obtain ⟨cs, hc, _, hcs⟩ := hx j _ hxj
      have hmem := List.mem_of_getElem? hxj
      generalize l[j] = x at hxj hc hmem
      have hcs' := hcs.keep (M := NoM) (Keep.bel hbel) id
      have hlx := fun wx (k : Below w.heap.size w wx) => HALL.out x hmem cs wx (EC.keep (M := M) (.bel k) x cs hc) (HTX.out x hmem)
      obtain ⟨va, vs, rfl, hva, hvs⟩ := (EC_iff ..).1 hc
      obtain ⟨xa, xac, rfl, _⟩ := hva.shape
      obtain ⟨xs, xsc, rfl, _⟩ := hvs.shape
      obtain ⟨c0, c1, c2, c3, c4, c5, c6, c7, c8, c9⟩ := CellsAt.c10 hcs'
      simp only [exCells] at hlx
      have HLX := Lib.hid hlx
      have HXJ := Lib.hid hxj
      have HBE := Lib.hid hbel
      have HLT := Lib.hid hlt
      have i0 : (0 : Int) ≤ (j : Int) := by omega
      have i1 : (j : Int) < (l.length : Int) := by omega
      clear hlx hbel hx hc hcs hcs' hva hvs hmem hxj
      have HP := Lib.hid (show badP x = !validP x from rfl)
      generalize validP x = b at HLX HP
      cases b
      · go_wp2_with fail
        refine (HLX.out _ (HBE.out.alloc HBE.out.size _)).mono ?_
        rintro e w2 ⟨rfl, hb⟩
        have HB2 := Lib.hid ((HBE.out.alloc HBE.out.size _).trans (hb.mono (by have := HBE.out.size; simp; omega)))
        clear hb
        dsimp only
        go_wp2_with fail
        go_ret
        refine ⟨?_, HB2.out⟩
        rw [badP_some (show l.findIdx? badP = some j from findIdx_some HXJ.out HP.out HNO.out)]
        rfl
      · go_wp2_with fail
        refine (HLX.out _ (HBE.out.alloc HBE.out.size _)).mono ?_
        rintro e w2 ⟨rfl, hb⟩
        have HB2 := Lib.hid ((HBE.out.alloc HBE.out.size _).trans (hb.mono (by have := HBE.out.size; simp; omega)))
        clear hb
        dsimp only
        go_wp2_with fail
        go_roundw
        case rel =>
          have hlt2 := HLT.out
          refine ⟨j + 1, by omega, by go_num, HB2.out, fun i y hi hy => ?_⟩
          by_cases e : i = j
          · subst e
            rw [HXJ.out] at hy
            cases hy
            exact HP.out
          · exact HNO.out i y (by omega) hy
        case measure =>
          have hlt2 := HLT.out
          simp [intOf]
          omega
    · have HBE := Lib.hid hbel
      clear hbel
      go_wp2_with fail
      go_ret
      refine ⟨?_, HBE.out⟩
      rw [badP_none (show l.findIdx? badP = none from findIdx_none fun i y hi hy => HNO.out i y (by omega) hy)]
      rfl
end Go.Proofs.YthcpacadjnpacaaDoor
