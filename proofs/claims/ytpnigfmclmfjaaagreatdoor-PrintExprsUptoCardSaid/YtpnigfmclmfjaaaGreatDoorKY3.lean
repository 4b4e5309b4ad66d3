/- The reference's words of every well-formed expression, and its Expr; print.Expr and the reference's Expr of expressions that are not well-formed. The place of a statement; the walk of PrintExprs. -/
import Derived.Test.YtpnigfmclmfjaaaGreatDoorKY2
import Derived.Test.YtpnigfmclmfjaaaGreatDoorY11
import Derived.Test.YtpnigfmclmfjaaaGreatDoorY14
import Derived.Test.YtpnigfmclmfjaaaGreatDoorKX3
import Derived.Test.YtpnigfmclmfjaaaGreatDoorKS2
import Derived.Test.YtpnigfmclmfjaaaGreatDoorG1
import Derived.Test.YtpnigfmclmfjaaaGreatDoorD11
import Derived.Test.YtpnigfmclmfjaaaGreatDoorKA
import Derived.Test.YtpnigfmclmfjaaaGreatDoorS12
import Derived.Deep.RegionHeld3
namespace Go.Proofs.YtpnigfmclmfjaaaGreatDoor
open Go.RowKit

theorem len_vx {e : Ex} (h : VX e) : (wordsP e).length ≤ 200 * nodes e := Nat.le_trans (cost_len _) (cost_vx h)
theorem valOk_of {v : Val} (h : validV v = true) (h0 : v.kind = 1 → 0 ≤ v.int ∧ v.int ≤ 9223372036854775807) : ValOk v := by
  obtain ⟨k, n, s⟩ := v
  have hz : ∀ {s : ByteArray}, noText s = true → s.size ≤ maxLen := fun {s} hs => by
    rw [noText_es hs]; decide
  unfold validV at h
  unfold ValOk
  simp only at h h0 ⊢
  by_cases k0 : k = 0
  · rw [if_pos k0] at h
    simp only [Bool.and_eq_true, decide_eq_true_eq] at h
    exact ⟨hz h.2, by omega, by omega, by omega, by omega⟩
  rw [if_neg k0] at h
  by_cases k1 : k = 1
  · rw [if_pos k1] at h
    have := h0 k1
    exact ⟨hz h, by omega, by omega, by omega, by omega⟩
  rw [if_neg k1] at h
  by_cases k2 : k = 2
  · rw [if_pos k2] at h
    simp only [Bool.and_eq_true, Bool.or_eq_true, decide_eq_true_eq] at h
    exact ⟨hz h.2, by omega, by omega, by omega, by omega⟩
  rw [if_neg k2] at h
  by_cases k3 : k = 3
  · rw [if_pos k3] at h
    simp only [plainB, Bool.and_eq_true, decide_eq_true_eq] at h
    refine ⟨?_, by omega, by omega, by omega, by omega⟩
    unfold maxLen
    omega
  · rw [if_neg k3] at h
    cases h

theorem where_len {whr : List Ex} (hw : whr.length ≤ 1) (h2 : ∀ x ∈ whr, VX x) (hn : nodesL whr ≤ 900000) : (whereW (whr.map wordsP)).length ≤ 500000000 := by
  match whr, hw with
  | [], _ => simp [whereW]
  | [x], _ =>
    have := len_vx (h2 x (by simp))
    rw [nodesL_one] at hn
    simp only [List.map_cons, List.map_nil, whereW, List.append_nil, List.length_cons]
    omega

theorem vx_rw {e : Ex} (h : VX e) (hn : nodes e ≤ 900000) : RwOk e := by
  induction h with
  | lit v hv h0 => exact rw_lit v (valOk_of hv h0)
  | col t n h => exact rw_col t n
  | ops k o no args hk ha ih =>
    rw [nodes_ops] at hn
    unfold OpShape at hk
    rcases hk with ⟨hk, rfl, rfl, hl⟩ | ⟨rfl, rfl, hl⟩ | ⟨rfl, h1, h13, rfl, hl⟩ | ⟨rfl, rfl, rfl, hl⟩
    · match args, hl with
      | [a], _ =>
        rw [nodesL_one] at hn
        have hl := len_vx (ha a (by simp))
        have i1 := ih a (by simp) (by omega)
        rcases hk with rfl | rfl
        · exact rw_not a i1 (by omega)
        · exact rw_neg a i1 (by omega)
    · match args, hl with
      | [a], _ =>
        rw [nodesL_one] at hn
        have hl := len_vx (ha a (by simp))
        have i1 := ih a (by simp) (by omega)
        cases no
        · exact rw_null0 a i1 (by omega)
        · exact rw_null1 a i1 (by omega)
    · match args, hl with
      | [a, b], _ =>
        rw [nodesL_two] at hn
        have l1 := len_vx (ha a (by simp))
        have l2 := len_vx (ha b (by simp))
        obtain ⟨j, rfl⟩ := Int.eq_ofNat_of_zero_le (show 0 ≤ o by omega)
        exact rw_bin j (by omega) (by omega) a b (ih a (by simp) (by omega)) (ih b (by simp) (by omega)) (by omega) (by omega)
    · match args, hl with
      | [a, b, c], _ =>
        rw [nodesL_three] at hn
        have l1 := len_vx (ha a (by simp))
        have l2 := len_vx (ha b (by simp))
        have l3 := len_vx (ha c (by simp))
        exact rw_btw a b c (ih a (by simp) (by omega)) (ih b (by simp) (by omega)) (ih c (by simp) (by omega)) (by omega) (by omega) (by omega)
  | sub k f items whr hi hf hw h1 h2 ih1 ih2 =>
    rw [nodes_sub] at hn
    have hwl := where_len hw h2 (by omega)
    have hall : ∀ x ∈ whr, RwOk x := by
      match whr, hw with
      | [], _ => intro x hx; cases hx
      | [y], _ =>
        rw [nodesL_one] at hn
        intro x hx
        exact ih2 x hx (by rw [List.mem_singleton.1 hx]; omega)
    rcases hi with ⟨h89, rfl⟩ | ⟨hk, hl⟩
    · rcases h89 with rfl | rfl
      · exact rw_exists f whr hw hall hwl
      · exact rw_count f whr hw hall hwl
    · match items, hl with
      | [x], _ =>
        rw [nodesL_one] at hn
        have l1 := len_vx (h1 x (by simp))
        have hst : (k == 8) = false := by rcases hk with rfl | rfl | rfl <;> rfl
        rw [hst]
        exact rw_agg k hk f x whr (ih1 x (by simp) (by omega)) (by omega) hw hall hwl

set_option maxRecDepth 100000 in
set_option maxHeartbeats 8000000 in
theorem rexpr_any (x : Ex) (hv : VX x) (hp : validP x = true) (ht : TxtOk x) (hn : nodes x ≤ 900000) (cs : List Value) (w : World) (hE : EC NoM w x cs) (hL : LibOk w) (hs : 10 < w.heap.size) (hO : OpsR w) :
    Calls Tryz.prog 23 #[.agg cs.toArray] w (RetBel (.tuple #[.string (textP x), .bool true]) w) := by
  obtain ⟨xva, xvs, rfl, hva, hvs⟩ := (EC_iff ..).1 hE
  obtain ⟨xa, xac, rfl, _⟩ := hva.shape
  obtain ⟨xs, xsc, rfl, _⟩ := hvs.shape
  have HE := Lib.hid hE
  have HP := Lib.hid hp
  have HL := Lib.hid hL
  have HO := Lib.hid hO
  have HT := Lib.hid ht
  have HV := Lib.hid hv
  have HN1 := Lib.hid (cost_vx hv)
  have HN := Lib.hid hn
  unfold textP
  simp only [exCells] at HE ⊢
  clear hE hva hvs hp hL hO ht hv hn
  go_enter Tryz.func23, Tryz.ntmps23
  go_upto_region 1 with fail
  generalize hW : World.alloc w _ = W
  have hS : W.heap[w.heap.size]? = some (.cells #[.int .i64 x.kind, .int .i64 x.op, .bool x.no, .int .i64 x.val.kind, .int .i64 x.val.int, .string x.val.text, .string x.table, .string x.name, .slice xa x.args.length xac, .slice xs x.sub.length xsc] 57 (0, 0)) := by rw [← hW]; exact heap_alloc_new w _
  have HBW := Lib.hid (show Below w.heap.size w W from by rw [← hW]; exact (Below.refl _ _).alloc (Nat.le_refl _) _)
  have HS := Lib.hid hS
  have hz := (Array.getElem?_eq_some_iff.1 hS).1
  obtain ⟨a0, a1, a2, a3, a4, a5, a6, a7, a8, a9, _⟩ := blk10 hS
  clear hS hW
  go_wp2_with fail
  refine (rvexpr_any x _ W (EC.keep (.bel HBW.out) x _ HE.out) HT.out).mono ?_
  rintro e W2 ⟨rfl, hb2⟩
  rw [HP.out]
  have HB2 := Lib.hid (HBW.out.trans (hb2.mono HBW.out.size))
  have hS2 := (hb2.block _ hz).trans HS.out
  have hz2 : w.heap.size < W2.heap.size := Nat.lt_of_lt_of_le hz hb2.size
  clear hb2 a0 a1 a2 a3 a4 a5 a6 a7 a8 a9 HS
  obtain ⟨a0, a1, a2, a3, a4, a5, a6, a7, a8, a9, _⟩ := blk10 hS2
  clear hS2
  dsimp only
  go_wp2_with fail
  refine (vx_rw HV.out HN.out _ W2 (EC.keep (.bel HB2.out) x _ HE.out) (HL.out.belB HB2.out hs) (by omega) (HO.out.bel HB2.out) (by have := cost_len (wordsP x); have := HN1.out; have := HN.out; omega)).mono ?_
  rintro e W3 ⟨v, rfl, hv, hb⟩
  have HB3 := Lib.hid (HB2.out.trans (hb.mono (Nat.le_of_lt hz2)))
  have HVV := Lib.hid hv
  have hz3 := hb.size
  clear hv hb a0 a1 a2 a3 a4 a5 a6 a7 a8 a9
  dsimp only
  go_wp2_with fail
  refine (rjoin_any (wordsP x) _ W3 HVV.out (HL.out.belB HB3.out hs) (by omega) (by have h1 := HN1.out; have h2 := HN.out; unfold costW at h1; omega)).mono ?_
  rintro e W4 ⟨rfl, hb⟩
  have HB4 := Lib.hid (HB3.out.trans (hb.mono (by omega)))
  clear hb
  dsimp only
  go_wp2_with fail
  go_ret2
  exact ⟨rfl, HB4.out⟩

set_option maxRecDepth 100000 in
set_option maxHeartbeats 8000000 in
theorem rexpr_bad (x : Ex) (hp : validP x = false) (ht : TxtOk x) (cs : List Value) (w : World) (hE : EC NoM w x cs) :
    Calls Tryz.prog 23 #[.agg cs.toArray] w (RetBel (.tuple #[.string es, .bool false]) w) := by
  obtain ⟨xva, xvs, rfl, hva, hvs⟩ := (EC_iff ..).1 hE
  obtain ⟨xa, xac, rfl, _⟩ := hva.shape
  obtain ⟨xs, xsc, rfl, _⟩ := hvs.shape
  have HE := Lib.hid hE
  have HP := Lib.hid hp
  have HT := Lib.hid ht
  simp only [exCells] at HE ⊢
  clear hE hva hvs hp ht
  go_enter Tryz.func23, Tryz.ntmps23
  go_upto_region 1 with fail
  generalize hW : World.alloc w _ = W
  have hS : W.heap[w.heap.size]? = some (.cells #[.int .i64 x.kind, .int .i64 x.op, .bool x.no, .int .i64 x.val.kind, .int .i64 x.val.int, .string x.val.text, .string x.table, .string x.name, .slice xa x.args.length xac, .slice xs x.sub.length xsc] 57 (0, 0)) := by rw [← hW]; exact heap_alloc_new w _
  have HBW := Lib.hid (show Below w.heap.size w W from by rw [← hW]; exact (Below.refl _ _).alloc (Nat.le_refl _) _)
  obtain ⟨a0, a1, a2, a3, a4, a5, a6, a7, a8, a9, _⟩ := blk10 hS
  clear hS hW
  go_wp2_with fail
  refine (rvexpr_any x _ W (EC.keep (.bel HBW.out) x _ HE.out) HT.out).mono ?_
  rintro e W2 ⟨rfl, hb2⟩
  rw [HP.out]
  have HB2 := Lib.hid (HBW.out.trans (hb2.mono HBW.out.size))
  clear hb2 a0 a1 a2 a3 a4 a5 a6 a7 a8 a9
  dsimp only
  go_wp2_with fail
  go_ret2
  exact ⟨rfl, HB2.out⟩

set_option maxRecDepth 100000 in
set_option maxHeartbeats 8000000 in
theorem print_bad (x : Ex) (hp : validP x = false) (ht : TxtOk x) (cs : List Value) (w : World) (hE : EC NoM w x cs) :
    Calls Tryz.prog 22 #[.agg cs.toArray] w (RetBel (.tuple #[.string es, .bool false]) w) := by
  obtain ⟨xva, xvs, rfl, hva, hvs⟩ := (EC_iff ..).1 hE
  obtain ⟨xa, xac, rfl, _⟩ := hva.shape
  obtain ⟨xs, xsc, rfl, _⟩ := hvs.shape
  have HE := Lib.hid hE
  have HP := Lib.hid hp
  have HT := Lib.hid ht
  simp only [exCells] at HE ⊢
  clear hE hva hvs hp ht
  go_enter Tryz.func22, Tryz.ntmps22
  go_upto_region 1 with fail
  generalize hW : World.alloc w _ = W
  have hS : W.heap[w.heap.size]? = some (.cells #[.int .i64 x.kind, .int .i64 x.op, .bool x.no, .int .i64 x.val.kind, .int .i64 x.val.int, .string x.val.text, .string x.table, .string x.name, .slice xa x.args.length xac, .slice xs x.sub.length xsc] 57 (0, 0)) := by rw [← hW]; exact heap_alloc_new w _
  have HBW := Lib.hid (show Below w.heap.size w W from by rw [← hW]; exact (Below.refl _ _).alloc (Nat.le_refl _) _)
  obtain ⟨a0, a1, a2, a3, a4, a5, a6, a7, a8, a9, _⟩ := blk10 hS
  clear hS hW
  go_wp2_with fail
  refine (vexpr_any x _ W (EC.keep (.bel HBW.out) x _ HE.out) HT.out).mono ?_
  rintro e W2 ⟨rfl, hb2⟩
  rw [HP.out]
  have HB2 := Lib.hid (HBW.out.trans (hb2.mono HBW.out.size))
  clear hb2 a0 a1 a2 a3 a4 a5 a6 a7 a8 a9
  dsimp only
  go_wp2_with fail
  go_ret2
  exact ⟨rfl, HB2.out⟩

/-- What both answer. -/
def textA (x : Ex) : ByteArray := if validP x = true then textP x else es
/-- Expressions that are read or made. -/
def GoodX (x : Ex) : Prop := TxtOk x ∧ nodes x ≤ 900000 ∧ (validP x = true → VX x)
theorem print_both (x : Ex) (h : GoodX x) (cs : List Value) (w : World) (hE : EC NoM w x cs) (hL : LibOk w) (hs : 10 < w.heap.size) :
    Calls Tryz.prog 22 #[.agg cs.toArray] w (RetBel (.tuple #[.string (textA x), .bool (validP x)]) w) := by
  obtain ⟨ht, hn, hx⟩ := h
  cases hp : validP x
  · rw [textA, if_neg (by rw [hp]; decide)]
    exact print_bad x hp ht cs w hE
  · have hv := hx hp
    have h1 := cost_vx hv
    have h2 := cost_len (wordsP x)
    rw [textA, if_pos hp]
    exact print_any x hv hp ht (by omega) (by unfold costW at h1; omega) NoM cs w hE hL hs
theorem ref_both (x : Ex) (h : GoodX x) (cs : List Value) (w : World) (hE : EC NoM w x cs) (hL : LibOk w) (hs : 10 < w.heap.size) (hO : OpsR w) :
    Calls Tryz.prog 23 #[.agg cs.toArray] w (RetBel (.tuple #[.string (textA x), .bool (validP x)]) w) := by
  obtain ⟨ht, hn, hx⟩ := h
  cases hp : validP x
  · rw [textA, if_neg (by rw [hp]; decide)]
    exact rexpr_bad x hp ht cs w hE
  · rw [textA, if_pos hp]
    exact rexpr_any x (hx hp) hp ht hn cs w hE hL hs hO
end Go.Proofs.YtpnigfmclmfjaaaGreatDoor

namespace Go.Proofs.YtpnigfmclmfjaaaGreatDoor
open Go.RowKit

def HomePost (w : World) (e : Ending) (w' : World) : Prop := ∃ a c, e = .returned (.agg #[.slice none 0 0, .slice a schs3.length c]) ∧ SchsR (Old w.heap.size) w' (.slice a schs3.length c) schs3 ∧ Below w.heap.size w w'

set_option maxRecDepth 100000 in
set_option maxHeartbeats 4000000 in
theorem home_any (w : World) : Calls Tryz.prog 21 #[] w (HomePost w) := by
  go_enter Tryz.func21, Tryz.ntmps21
  go_wp2_with fail
  generalize hW : World.alloc w _ = W
  have hS : W.heap[w.heap.size]? = some (.cells #[.slice none 0 0, .slice none 0 0] 64 (0, 0)) := by rw [← hW]; exact heap_alloc_new w _
  have hbw : Below w.heap.size w W := by rw [← hW]; exact (Below.refl _ _).alloc (Nat.le_refl _) _
  have hz := (Array.getElem?_eq_some_iff.1 hS).1
  clear hW
  refine (schemas_any _).mono ?_
  rintro e w1 ⟨v, rfl, hs, hb⟩
  obtain ⟨a, c, rfl, _⟩ := hs.shape
  have hS1 := (hb.block _ hz).trans hS
  obtain ⟨r0, r1, rf0, rf1, rz⟩ := blk2 hS1
  have HS := Lib.hid hs
  have HB := Lib.hid (hbw.trans (hb.mono (Nat.le_of_lt hz)))
  have hz1 := hb.size
  clear hs hb hS hS1
  dsimp only
  go_wp2_with fail
  refine bodyPost_ret (v := .agg #[.slice none 0 0, .slice a schs3.length c]) (by simp [results, Tryz.results21, go_sem, r0, r1]) rfl ?_
  have ks : Keep (At w.heap.size) w1 ((w1.setCell ⟨w.heap.size, 0, none⟩ (.slice none 0 0)).setCell ⟨w.heap.size, 1, none⟩ (.slice a schs3.length c)) := ((Keep.refl (At w.heap.size) w1).setCell (p := ⟨w.heap.size, 0, none⟩) (fun _ => rfl) _).setCell (p := ⟨w.heap.size, 1, none⟩) (fun _ => rfl) _
  refine ⟨a, c, rfl, ?_, HB.out.trans (ks.toBelow HB.out.size fun k hk h => by unfold At at h; omega)⟩
  have h1 : SchsR (Old W.heap.size) w1 (.slice a schs3.length c) schs3 := SchsR.weak (fun k hk h => by unfold Old at h; unfold Out; omega) HS.out
  exact SchsR.weak (fun k hk h => by unfold Old at h ⊢; omega) (SchsR.keep h1 (ks.weak fun k _ h => by unfold At at h; unfold Old; omega))

theorem gx_good {n : Nat} {e : Ex} (h : GX n e) (hn : n ≤ 6) : GoodX e := by
  have h1 := gx_nodes h
  have h2 : 3 ^ (n + 2) ≤ 3 ^ 8 := Nat.pow_le_pow_right (by omega) (by omega)
  exact ⟨(gx_dep h).txt, by omega, fun _ => gx_vx h⟩

/-- Four expressions one behind another. -/
theorem four_new {w : World} {xs : List Ex} {css : List (List Value)} {arr : Array Value} {g : Nat} {t : TypeId} (hg : g = w.heap.size) (ha : arr.toList = css.flatten) (hl : css.length = xs.length) (hm : xs.length ≤ 1000) (hs : ∀ cs ∈ css, cs.length = 10) (h : ∀ (i : Nat) (x : Ex) (cs : List Value), xs[i]? = some x → css[i]? = some cs → EC NoM w x cs) :
    ExsR NoM (w.alloc (.cells arr t)) (.slice (some ⟨g, 0, none⟩) xs.length xs.length) xs := by
  refine RowsR.new css hg id ha hs (by rw [hl]) (by omega) (by unfold maxLen; omega) hl fun i x cs hi hc => ?_
  exact EC.keep ((Keep.refl _ w).alloc _) x cs (h i x cs hi hc)

set_option maxRecDepth 100000 in
set_option maxHeartbeats 40000000 in
theorem printExprs_any (x : Ex) (cs : List Value) (d : Int) (v : Value) (w : World) (hE : EC NoM w x cs) (hg : GoodX x) (hv : IntsAt w v) (hn : NamesOk w.heap.size w) (hw : WordsOk w.heap.size w) (hL : LibOk w) (hs : 10 < w.heap.size) (hO : OpsR w) :
    Calls Tryz.prog 4 #[.agg cs.toArray, v, .int .i64 d] w (RetBel (.bool true) w) := by
  obtain ⟨va, vs, rfl, ha, hvs⟩ := (EC_iff ..).1 hE
  obtain ⟨a, ac, rfl, _⟩ := ha.shape
  obtain ⟨s, sc, rfl, _⟩ := hvs.shape
  have HE := Lib.hid hE
  have HG := Lib.hid hg
  have HV := Lib.hid hv
  have HN := Lib.hid hn
  have HW := Lib.hid hw
  have HL := Lib.hid hL
  have HO := Lib.hid hO
  clear hE ha hvs hg hv hn hw hL hO
  simp only [exCells] at HE ⊢
  go_enter Tryz.func4, Tryz.ntmps4
  go_wp2_with fail
  generalize hW0 : World.alloc w _ = W0
  have hk0 : W0.heap[w.heap.size]? = some (.cells #[.int .i64 x.kind, .int .i64 x.op, .bool x.no, .int .i64 x.val.kind, .int .i64 x.val.int, .string x.val.text, .string x.table, .string x.name, .slice a x.args.length ac, .slice s x.sub.length sc] 57 (0, 0)) := by rw [← hW0]; exact heap_alloc_new w _
  have hb0 : Below w.heap.size w W0 := by rw [← hW0]; exact (Below.refl _ _).alloc (Nat.le_refl _) _
  have hz0 : w.heap.size < W0.heap.size := (Array.getElem?_eq_some_iff.1 hk0).1
  have HB0 := Lib.hid hb0
  have HX0 := Lib.hid (EC.keep (M := NoM) (.bel hb0) _ _ HE.out)
  have HK0 := Lib.hid hk0
  have HN0 : Hid (NamesOk W0.heap.size W0) := Lib.hid (by have h := HN.out.keep (M := fun _ => False) (.bel hb0) fun _ _ => id; exact ⟨by have := h.1; omega, h.2⟩)
  have HW0 : Hid (WordsOk W0.heap.size W0) := Lib.hid (by have h := HW.out.keep (M := fun _ => False) (.bel hb0) fun _ _ => id; exact ⟨by have := h.1; omega, h.2⟩)
  have HV0 := Lib.hid (HV.out.bel hb0)
  clear hW0 hk0 hb0 HN HW HV HE
  refine (new_any v W0 HV0.out).mono ?_
  rintro e w1 ⟨rfl, ht, hb⟩
  have h1 := ht.lt
  have HTd : Hid (TapeOk W0.heap.size w1.drew) := Lib.hid ht.drew
  have HB1 := Lib.hid hb
  have HNd : Hid (NamesOk W0.heap.size w1.drew) := Lib.hid ((HN0.out.keep (M := fun _ => False) (.bel hb) fun _ _ => id).at ((Keep.refl _ _).drew))
  have HWd : Hid (WordsOk W0.heap.size w1.drew) := Lib.hid ((HW0.out.keep (M := fun _ => False) (.bel hb) fun _ _ => id).at ((Keep.refl _ _).drew))
  have HKd : Hid (Keep (At W0.heap.size) w1 w1.drew) := Lib.hid ((Keep.refl _ _).drew)
  have HKS : Hid (∀ w', Keep (At W0.heap.size) w1 w' → w'.cell? ⟨w.heap.size, 0, none⟩ = some (.int .i64 x.kind) ∧ w'.cell? ⟨w.heap.size, 1, none⟩ = some (.int .i64 x.op) ∧ w'.cell? ⟨w.heap.size, 2, none⟩ = some (.bool x.no) ∧ w'.cell? ⟨w.heap.size, 3, none⟩ = some (.int .i64 x.val.kind) ∧ w'.cell? ⟨w.heap.size, 4, none⟩ = some (.int .i64 x.val.int) ∧ w'.cell? ⟨w.heap.size, 5, none⟩ = some (.string x.val.text) ∧ w'.cell? ⟨w.heap.size, 6, none⟩ = some (.string x.table) ∧ w'.cell? ⟨w.heap.size, 7, none⟩ = some (.string x.name) ∧ w'.cell? ⟨w.heap.size, 8, none⟩ = some (.slice a x.args.length ac) ∧ w'.cell? ⟨w.heap.size, 9, none⟩ = some (.slice s x.sub.length sc)) := Lib.hid fun w' hk => by
    obtain ⟨e0, e1, e2, e3, e4, e5, e6, e7, e8, e9, _⟩ := blk10 ((hk.block _ (by omega) (fun h => by unfold At at h; omega)).trans ((HB1.out.block _ hz0).trans HK0.out))
    exact ⟨e0, e1, e2, e3, e4, e5, e6, e7, e8, e9⟩
  clear ht hb HV0 HN0 HW0
  obtain ⟨r, hr⟩ : ∃ r, d % 6 = r := ⟨_, rfl⟩
  have hr0 : 0 ≤ r := by omega
  have hr6 : r < 6 := by omega
  have HM := Lib.hid hr
  have eo : IntKind.i64.wrap (1 + r) = 1 + r := IntWalk.i64_in _ (by omega)
  clear hr
  have tok0 : Hid True := Lib.hid trivial
  have tok1 : Hid True := Lib.hid trivial
  have x0 := HKS.out _ (Keep.refl _ _)
  dsimp only
  go_upto_region 2 with fail
  go_region_held3 (fun w' => w'.cell? ⟨w.heap.size, 0, none⟩ = some (.int .i64 x.kind) ∧ w'.cell? ⟨w.heap.size, 1, none⟩ = some (.int .i64 x.op) ∧ w'.cell? ⟨w.heap.size, 2, none⟩ = some (.bool x.no) ∧ w'.cell? ⟨w.heap.size, 3, none⟩ = some (.int .i64 x.val.kind) ∧ w'.cell? ⟨w.heap.size, 4, none⟩ = some (.int .i64 x.val.int) ∧ w'.cell? ⟨w.heap.size, 5, none⟩ = some (.string x.val.text) ∧ w'.cell? ⟨w.heap.size, 6, none⟩ = some (.string x.table) ∧ w'.cell? ⟨w.heap.size, 7, none⟩ = some (.string x.name) ∧ w'.cell? ⟨w.heap.size, 8, none⟩ = some (.slice a x.args.length ac) ∧ w'.cell? ⟨w.heap.size, 9, none⟩ = some (.slice s x.sub.length sc))
    ((refine HKS.out _ ?_; first | with_reducible exact HK5.out | with_reducible exact HK4.out | with_reducible exact HK3.out | with_reducible exact HK2.out | with_reducible exact HKd.out | with_reducible exact HK5.out.alloc _))
    (first
      | (go_at_call 19; go_loud (refine (mod_any d 6 _ (by omega) (by omega)).mono ?_; rintro e wm ⟨rfl, rfl⟩; rw [HM.out]))
      | (go_at_call 18; have _t := tok0; go_loud (refine (any_ok 6 (by omega) W0.heap.size (1 + r) _ (by omega) (by omega) HTd.out HNd.out HWd.out).mono ?_; rintro e w2 ⟨v, rfl, ⟨y1, hy, hx⟩, ht, hk⟩; have hy0 := hy; obtain ⟨a1, ac1, s1, sc1, rfl, _, _⟩ := hy0; have z2 := hk.size; (try simp only [World.size_drew] at z2); have HT2 := Lib.hid ht; have HN2 := Lib.hid (HNd.out.at hk); have HW2 := Lib.hid (HWd.out.at hk); have HK2 := Lib.hid (HKd.out.trans hk); have HX1 := Lib.hid (exv_cs hy); have HG1 : Hid (GoodX y1) := Lib.hid (gx_good (any_gx hx) (by omega));  clear ht hk hy hx tok0 _t))
      | (go_at_call 18; have _t := tok1; go_loud (refine (any_ok 3 (by omega) W0.heap.size 3 _ (by omega) (by omega) HT2.out HN2.out HW2.out).mono ?_; rintro e w3 ⟨v, rfl, ⟨y2, hy, hx⟩, ht, hk⟩; have hy0 := hy; obtain ⟨a2, ac2, s2, sc2, rfl, _, _⟩ := hy0; have z3 := hk.size; (try simp only [World.size_drew] at z3); have HT3 := Lib.hid ht; have HN3 := Lib.hid (HN2.out.at hk); have HW3 := Lib.hid (HW2.out.at hk); have HK3 := Lib.hid (HK2.out.trans hk); have HX2 := Lib.hid (exv_cs hy); have HG2 : Hid (GoodX y2) := Lib.hid (gx_good (any_gx hx) (by omega)); have HX1 := Lib.hid (EC.keep hk _ _ (EC.weak (M' := At W0.heap.size) (fun k _ h => by unfold At at h; unfold Old; (try simp only [World.size_drew]); omega) _ _ HX1.out)); clear ht hk hy hx tok1 _t))
      | (go_at_call 21; go_loud (refine (home_any _).mono ?_; rintro e w4 ⟨ta, tc, rfl, hs, hb⟩; have z4 := hb.size; have hk : Keep (At W0.heap.size) w3 w4 := .bel hb; have HT4 := Lib.hid (HT3.out.bel hb); have HN4 := Lib.hid (HN3.out.at hk); have HW4 := Lib.hid (HW3.out.at hk); have HK4 := Lib.hid (HK3.out.trans hk); have HX1 := Lib.hid (EC.keep hk _ _ (EC.weak (M' := At W0.heap.size) (fun _ _ h => h) _ _ HX1.out)); have HX2 := Lib.hid (EC.keep hk _ _ (EC.weak (M' := At W0.heap.size) (fun k _ h => by unfold At at h; unfold Old; omega) _ _ HX2.out)); have HS4 := Lib.hid (SchsR.weak (M' := At W0.heap.size) (fun k _ h => by unfold At at h; unfold Old; omega) hs); clear hs hb hk))
      | (go_at_call 20; go_loud (refine (expr_ok 4 (by omega) W0.heap.size 4 2 none ta 0 tc lookS [] schs3 _ (by omega) (by omega) (by omega) (by omega) HT4.out HW4.out (RowsR.nil ..) HS4.out (place_home 4 (by omega))).mono ?_; rintro e w5 ⟨v, rfl, ⟨y3, hy, hx⟩, ht, hk⟩; have hy0 := hy; obtain ⟨a3, ac3, s3, sc3, rfl, _, _⟩ := hy0; have z5 := hk.size; (try simp only [World.size_drew] at z5); have HT5 := Lib.hid ht; have HN5 := Lib.hid (HN4.out.at hk); have HW5 := Lib.hid (HW4.out.at hk); have HK5 := Lib.hid (HK4.out.trans hk); have HX3 := Lib.hid (exv_cs hy); have HG3 : Hid (GoodX y3) := Lib.hid (gx_good hx.1.2 (by omega)); have HX1 := Lib.hid (EC.keep hk _ _ HX1.out); have HX2 := Lib.hid (EC.keep hk _ _ HX2.out);  clear ht hk hy hx)))
  clear eo
  go_wp2_with fail
  generalize hW : World.alloc w5 _ = W
  have hlist : ExsR NoM W (.slice (some ⟨w5.heap.size, 0, none⟩) 4 4) [x, y1, y2, y3] := by
    rw [← hW]
    refine four_new (w := w5) (xs := [x, y1, y2, y3]) (css := [[.int .i64 x.kind, .int .i64 x.op, .bool x.no, .int .i64 x.val.kind, .int .i64 x.val.int, .string x.val.text, .string x.table, .string x.name, .slice a x.args.length ac, .slice s x.sub.length sc], [.int .i64 y1.kind, .int .i64 y1.op, .bool y1.no, .int .i64 y1.val.kind, .int .i64 y1.val.int, .string y1.val.text, .string y1.table, .string y1.name, .slice a1 y1.args.length ac1, .slice s1 y1.sub.length sc1], [.int .i64 y2.kind, .int .i64 y2.op, .bool y2.no, .int .i64 y2.val.kind, .int .i64 y2.val.int, .string y2.val.text, .string y2.table, .string y2.name, .slice a2 y2.args.length ac2, .slice s2 y2.sub.length sc2], [.int .i64 y3.kind, .int .i64 y3.op, .bool y3.no, .int .i64 y3.val.kind, .int .i64 y3.val.int, .string y3.val.text, .string y3.table, .string y3.name, .slice a3 y3.args.length ac3, .slice s3 y3.sub.length sc3]]) rfl rfl rfl (by simp) (by intro cs hcs; simp at hcs; rcases hcs with rfl | rfl | rfl | rfl <;> rfl) ?_
    intro i z cs hi hc
    match i with
    | 0 => simp at hi hc; subst hi; subst hc; exact EC.weak (fun _ _ h => h.elim) _ _ (EC.keep HK5.out _ _ (EC.weak (M' := At W0.heap.size) (fun _ _ h => h) _ _ (EC.keep (M := At W0.heap.size) (.bel HB1.out) _ _ (EC.weak (fun k hk h => by unfold At at h; omega) _ _ HX0.out))))
    | 1 => simp at hi hc; subst hi; subst hc; exact EC.weak (fun _ _ h => h.elim) _ _ HX1.out
    | 2 => simp at hi hc; subst hi; subst hc; exact EC.weak (fun _ _ h => h.elim) _ _ HX2.out
    | 3 => simp at hi hc; subst hi; subst hc; exact EC.weak (fun _ _ h => h.elim) _ _ HX3.out
    | i + 4 => simp at hi
  have hgood : ∀ z ∈ [x, y1, y2, y3], GoodX z := by
    intro z hz
    simp at hz
    rcases hz with rfl | rfl | rfl | rfl
    · exact HG.out
    · exact HG1.out
    · exact HG2.out
    · exact HG3.out
  have hbW : Below w.heap.size w W := by
    rw [← hW]
    exact (((HB0.out.trans (HB1.out.mono (Nat.le_of_lt hz0))).trans (HK5.out.toBelow (by have := HB1.out.size; omega) fun k hk h => by unfold At at h; omega))).alloc (by have := HK5.out.size; have := HB1.out.size; omega) _
  have HLIST := Lib.hid hlist
  have HGOOD := Lib.hid hgood
  have HBW := Lib.hid hbW
  clear hlist hgood hbW hW HX0 HX1 HX2 HX3 HG HG1 HG2 HG3 HK0 HB0 HB1 HK2 HK3 HK4 HK5 HKd HKS HT2 HT3 HT4 HT5 HN2 HN3 HN4 HN5 HW2 HW3 HW4 HW5 HTd HNd HWd HS4 x0
  generalize hLX : [x, y1, y2, y3] = L at HLIST HGOOD
  have hL4 : L.length = 4 := by rw [← hLX]; rfl
  clear hLX
  have hzw := HBW.out.size
  generalize (Value.agg #[.int .i64 x.kind, .int .i64 x.op, .bool x.no, .int .i64 x.val.kind, .int .i64 x.val.int, .string x.val.text, .string x.table, .string x.name, .slice a x.args.length ac, .slice s x.sub.length sc]) = g0
  generalize (Value.agg #[.int .i64 y1.kind, .int .i64 y1.op, .bool y1.no, .int .i64 y1.val.kind, .int .i64 y1.val.int, .string y1.val.text, .string y1.table, .string y1.name, .slice a1 y1.args.length ac1, .slice s1 y1.sub.length sc1]) = g1
  generalize (Value.agg #[.int .i64 y2.kind, .int .i64 y2.op, .bool y2.no, .int .i64 y2.val.kind, .int .i64 y2.val.int, .string y2.val.text, .string y2.table, .string y2.name, .slice a2 y2.args.length ac2, .slice s2 y2.sub.length sc2]) = g2
  generalize (Value.agg #[.int .i64 y3.kind, .int .i64 y3.op, .bool y3.no, .int .i64 y3.val.kind, .int .i64 y3.val.int, .string y3.val.text, .string y3.table, .string y3.name, .slice a3 y3.args.length ac3, .slice s3 y3.sub.length sc3]) = g3
  go_loopw [29] (fun i wr => ∃ j : Nat, j ≤ 4 ∧ i = .int .i64 j ∧ Below w.heap.size w wr ∧ Below W.heap.size W wr) (fun i _ => 4 - (intOf i).toNat)
  case atStart => exact ⟨0, Nat.zero_le _, rfl, HBW.out, Below.refl _ _⟩
  case round =>
    rename World => wr
    obtain ⟨j, hj, rfl, hb, hbw⟩ := hrel
    have HB := Lib.hid hb
    have HBR := Lib.hid hbw
    have hzr := hb.size
    clear hb hbw
    by_cases hlt : j < 4
    · rcases HLIST.out.open with ⟨_, h0⟩ | ⟨ab, ao, cap', hv', _, hab, hcap, _, hx⟩
      · rw [h0] at hL4
        simp at hL4
      simp only [Value.slice.injEq] at hv'
      obtain ⟨hv1, hv2, rfl⟩ := hv'
      clear hv2
      simp only [Option.some.injEq, Addr.mk.injEq, and_true] at hv1
      obtain ⟨rfl, rfl⟩ := hv1
      have hzj : L[j]? = some L[j] := List.getElem?_eq_getElem (by omega)
      obtain ⟨cs, hc, _, hcs⟩ := hx j _ hzj
      have HGZ := Lib.hid (HGOOD.out _ (List.mem_of_getElem? hzj))
      generalize L[j] = z at hzj hc HGZ
      have HEZ := Lib.hid hc
      obtain ⟨zva, zvs, rfl, hva, hvs⟩ := (EC_iff ..).1 hc
      obtain ⟨za, zac, rfl, _⟩ := hva.shape
      obtain ⟨zs, zsc, rfl, _⟩ := hvs.shape
      simp only [exCells] at HEZ
      obtain ⟨c0, c1, c2, c3, c4, c5, c6, c7, c8, c9⟩ := CellsAt.c10 (hcs.keep (M := fun _ => False) (.bel HBR.out) id)
      simp only [Nat.zero_add] at c0 c1 c2 c3 c4 c5 c6 c7 c8 c9
      have i0 : (0 : Int) ≤ (j : Int) := by omega
      have i1 : (j : Int) < 4 := by omega
      clear hx hcs hc hva hvs hzj
      go_upto_region 5 with fail
      generalize hWz : World.alloc wr _ = Wz
      have hS : Wz.heap[wr.heap.size]? = some (.cells #[.int .i64 z.kind, .int .i64 z.op, .bool z.no, .int .i64 z.val.kind, .int .i64 z.val.int, .string z.val.text, .string z.table, .string z.name, .slice za z.args.length zac, .slice zs z.sub.length zsc] 57 (0, 0)) := by rw [← hWz]; exact heap_alloc_new wr _
      have hbz : Below wr.heap.size wr Wz := by rw [← hWz]; exact (Below.refl _ _).alloc (Nat.le_refl _) _
      have hzz := (Array.getElem?_eq_some_iff.1 hS).1
      have HSZ := Lib.hid hS
      have HBZ := Lib.hid (HB.out.trans (hbz.mono hzr))
      have HBRZ := Lib.hid (bel_trans HBR.out hbz)
      clear hWz hbz c0 c1 c2 c3 c4 c5 c6 c7 c8 c9
      obtain ⟨e0, e1, e2, e3, e4, e5, e6, e7, e8, e9, _⟩ := blk10 hS
      clear hS
      generalize htz : textA z = tz
      generalize hbz : validP z = bz
      have HTZ := Lib.hid htz
      have HBB := Lib.hid hbz
      clear htz hbz
      go_wp2_with fail
      refine (print_both z HGZ.out _ Wz (EC.keep (.bel HBRZ.out) _ _ HEZ.out) (HL.out.belB HBZ.out hs) (by omega)).mono ?_
      rintro e wa ⟨rfl, hb⟩
      rw [HTZ.out, HBB.out]
      have HBA := Lib.hid (HBZ.out.trans (hb.mono (by omega)))
      have HBRA := Lib.hid (bel_trans HBRZ.out hb)
      have hza := hb.size
      have hSa := (hb.block _ hzz).trans HSZ.out
      clear hb e0 e1 e2 e3 e4 e5 e6 e7 e8 e9
      obtain ⟨e0, e1, e2, e3, e4, e5, e6, e7, e8, e9, _⟩ := blk10 hSa
      clear hSa
      dsimp only
      go_wp2_with fail
      refine (ref_both z HGZ.out _ wa (EC.keep (.bel HBRA.out) _ _ HEZ.out) (HL.out.belB HBA.out hs) (by omega) (HO.out.bel HBA.out)).mono ?_
      rintro e wb ⟨rfl, hb⟩
      rw [HTZ.out, HBB.out]
      have HBC := Lib.hid (HBA.out.trans (hb.mono (by omega)))
      have HBRC := Lib.hid (bel_trans HBRA.out hb)
      clear hb e0 e1 e2 e3 e4 e5 e6 e7 e8 e9
      dsimp only
      go_wp2_with fail
      refine ⟨⟨j + 1, by omega, by go_num, HBC.out, HBRC.out⟩, ?_⟩
      simp [intOf]
      omega
    · obtain rfl : j = 4 := by omega
      go_wp2_with fail
      refine (known12_any wr (HL.out.belB HB.out hs) (by omega)).mono ?_
      rintro e wk ⟨rfl, hb⟩
      have HBK := Lib.hid (HB.out.trans (hb.mono hzr))
      clear hb
      dsimp only
      go_wp2_with fail
      go_ret
      exact ⟨rfl, HBK.out⟩
end Go.Proofs.YtpnigfmclmfjaaaGreatDoor
