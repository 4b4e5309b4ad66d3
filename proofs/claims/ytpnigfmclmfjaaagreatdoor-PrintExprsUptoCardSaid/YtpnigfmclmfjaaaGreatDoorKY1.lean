/- The reference's printing of expressions: contracts of cat, name, where, from. The reference's printing of expressions: contracts of name. The reference's printing of expressions: contract of where. The reference's printing of expressions: contract of from. The reference's printing of expressions: contract of argument. The reference's printing of expressions: a list of lists of words as an argument of cat. The reference's words of literals and columns. The reference's words of NOT and of the sign. -/
import Derived.Test.YtpnigfmclmfjaaaGreatDoorX2
import Derived.Test.YtpnigfmclmfjaaaGreatDoorKV2
import Derived.Test.YtpnigfmclmfjaaaGreatDoorKQ
import Derived.Test.YtpnigfmclmfjaaaGreatDoorKL
import Derived.Test.YtpnigfmclmfjaaaGreatDoorKD2
import Derived.Test.YtpnigfmclmfjaaaGreatDoorKS
import Derived.Test.YtpnigfmclmfjaaaGreatDoorKX
namespace Go.Proofs.YtpnigfmclmfjaaaGreatDoor
open Go.RowKit

/-- A call that returns these words. -/
def RefW (l : List ByteArray) (w : World) (e : Ending) (w' : World) : Prop := ∃ v, e = .returned v ∧ RowsR NoM w' 1 StrR v l ∧ Below w.heap.size w w'
/-- A list of words as one cell. -/
def LsR (w : World) (l : List ByteArray) (cs : List Value) : Prop := ∃ v, cs = [v] ∧ RowsR NoM w 1 StrR v l

theorem LsR.bel {w w' : World} {l : List ByteArray} {cs : List Value} (h : LsR w l cs) (k : Below w.heap.size w w') : LsR w' l cs := by
  obtain ⟨v, h1, h2⟩ := h
  exact ⟨v, h1, RowsR.map h2 (.bel k) fun _ _ _ h => h⟩
theorem strs_bel {w w' : World} {v : Value} {l : List ByteArray} (h : RowsR NoM w 1 StrR v l) (k : Below w.heap.size w w') : RowsR NoM w' 1 StrR v l := RowsR.map h (.bel k) fun _ _ _ h => h
theorem own_below {lo : Nat} {v : Value} {w w' : World} {l : List ByteArray} {t : TypeId} (h : RowsO lo w t 1 StrR v l) (k : Keep (OwnB v) w w') (hlo : lo ≤ w.heap.size) : Below lo w w' :=
  k.toBelow hlo fun i hi hm => by
    have := (RowsO.lt h hm).1
    omega
theorem flat_len (ls : List (List ByteArray)) (j : Nat) : ((ls.take j).flatten).length ≤ (ls.map List.length).sum := by
  rw [List.length_flatten]
  induction ls generalizing j with
  | nil => simp
  | cons a ls ih =>
    cases j with
    | zero => simp
    | succ j =>
      have := ih j
      simp only [List.take_succ_cons, List.map_cons, List.sum_cons]
      omega

set_option maxRecDepth 100000 in
set_option maxHeartbeats 4000000 in
theorem cat_any {M : Nat → Prop} (ls : List (List ByteArray)) (v : Value) (w : World) (hv : RowsR M w 1 (LsR w) v ls) (hN : (ls.map List.length).sum ≤ 1000000000) :
    Calls Tryz.prog 77 #[v] w (RefW ls.flatten w) := by
  have HV := Lib.hid hv
  have HN := Lib.hid hN
  obtain ⟨a, c, rfl, hm⟩ := hv.shape
  unfold maxLen at hm
  clear hv hN
  go_enter Tryz.func77, Tryz.ntmps77
  go_wp2_with fail
  go_loopw [3, 8] (fun out i wr => ∃ j : Nat, j ≤ ls.length ∧ i = .int .i64 j ∧ RowsO w.heap.size wr 9 1 StrR out (ls.take j).flatten ∧ Below w.heap.size w wr) (fun _ i _ => ls.length - (intOf i).toNat)
  case atStart => exact ⟨0, Nat.zero_le _, rfl, by simpa using RowsO.nil .., Below.refl _ _⟩
  case round =>
    rename World => wr
    obtain ⟨j, hj, rfl, ho, hb⟩ := hrel
    have HO := Lib.hid ho
    have HB := Lib.hid hb
    obtain ⟨oa, oc, rfl, _⟩ := ho.shape
    have hzr := hb.size
    clear ho hb
    by_cases hlt : j < ls.length
    · rcases HV.out.open with ⟨_, h0⟩ | ⟨ab, ao, cap', hv', _, hab, hcap, _, hx⟩
      · rw [h0] at hlt
        simp at hlt
      simp only [Value.slice.injEq] at hv'
      obtain ⟨rfl, _, rfl⟩ := hv'
      have hxj : ls[j]? = some ls[j] := List.getElem?_eq_getElem hlt
      obtain ⟨cs, ⟨vl, rfl, hl⟩, _, hcs⟩ := hx j _ hxj
      have c0 := (hcs.keep (M := fun _ => False) (.bel HB.out) id).c1
      simp only [Nat.mul_one] at c0
      have HLN := Lib.hid (flat_len ls (j + 1))
      have HTK : Hid ((ls.take (j + 1)).flatten = (ls.take j).flatten ++ ls[j]) := Lib.hid (by rw [List.take_add_one, hxj, List.flatten_append]; simp only [Option.toList, List.flatten_cons, List.flatten_nil, List.append_nil])
      have HLJ := Lib.hid (strs_bel hl HB.out)
      generalize ls[j] = l at hxj c0 HTK HLJ
      generalize hnx : (ls.take (j + 1)).flatten = nx at HTK HLN
      have NX := Lib.hid hnx
      clear hnx
      generalize (ls.take j).flatten = cur at HO HTK
      obtain ⟨la, lc, rfl, _⟩ := HLJ.out.shape
      have i0 : (0 : Int) ≤ (j : Int) := by omega
      have i1 : (j : Int) < (ls.length : Int) := by omega
      have HLE : Hid (cur.length + l.length ≤ 1000000000) := Lib.hid (by have h1 := HLN.out; have h2 := HN.out; rw [HTK.out, List.length_append] at h1; omega)
      clear hx hcs hl hxj HLN
      go_wp2_with (at_builtin; go_loud (refine wpList_app rfl _ _ 25 rfl 9 _ 1 16 Tryz.underlying25 infoStr rfl (by decide) (R := StrR) (M := NoM) w.heap.size (.slice oa cur.length oc) (.slice la l.length lc) cur l rfl rfl HO.out HLJ.out (fun y _ cs h => strR_one y cs h) (by have := HLE.out; omega) (by have := HLE.out; unfold maxLen; omega) hzr ?_; intro v2 w2 ho hk hat; have HO2 := Lib.hid ho; have HB2 := Lib.hid (HB.out.trans (own_below HO.out hk hzr)); clear ho hk hat))
      go_roundw
      case rel => exact ⟨j + 1, by omega, by go_num, by rw [NX.out, HTK.out]; exact HO2.out, HB2.out⟩
      case measure => simp [intOf]; omega
    · obtain rfl : j = ls.length := by omega
      go_wp2_with fail
      go_ret
      exact ⟨_, rfl, by have h := HO.out.rows (M := NoM) fun _ _ _ => id; rw [List.take_length] at h; simpa using h, HB.out⟩
end Go.Proofs.YtpnigfmclmfjaaaGreatDoor

namespace Go.Proofs.YtpnigfmclmfjaaaGreatDoor
open Go.RowKit

theorem flat_strY : ∀ ys : List ByteArray, (ys.map fun y => [Value.string y]).flatten = ys.map Value.string
  | [] => rfl
  | y :: l => by rw [List.map_cons, List.flatten_cons, flat_strY l]; rfl
theorem strs_new {w : World} {arr : Array Value} {g n : Nat} (ys : List ByteArray) (hg : g = w.heap.size) (ha : arr.toList = ys.map Value.string) (hn : n = ys.length) (hm : n ≤ 1000) (t : TypeId) : RowsR NoM (w.alloc (.cells arr t)) 1 StrR (.slice (some ⟨g, 0, none⟩) n n) ys := by
  subst hn
  refine RowsR.new (ys.map fun y => [Value.string y]) hg id (by rw [ha, flat_strY]) (by simp) (by simp) (by simp) (by unfold maxLen; omega) (by simp) fun i y cs hi hc => ?_
  simp only [List.getElem?_map, hi, Option.map_some, Option.some.injEq] at hc
  exact hc.symm

set_option maxRecDepth 100000 in
set_option maxHeartbeats 4000000 in
theorem rname_any (k o : Int) (no : Bool) (vk vi : Int) (vt t nm : ByteArray) (va vs : Value) (w : World) :
    Calls Tryz.prog 167 #[.agg #[.int .i64 k, .int .i64 o, .bool no, .int .i64 vk, .int .i64 vi, .string vt, .string t, .string nm, va, vs]] w (RefW (if noText t = true then [nm] else [t, kDot, nm]) w) := by
  by_cases ht : noText t = true
  · rw [if_pos ht]
    have h1 : (t.toList == []) = true := ht
    clear ht
    go_enter Tryz.func167, Tryz.ntmps167
    go_wp2_with fail
    go_ret
    exact ⟨_, rfl, strs_new [nm] (by simp) rfl rfl (by simp) _, ((Below.refl _ _).alloc (Nat.le_refl _) _).alloc (by simp) _⟩
  · rw [if_neg ht]
    have h1 : (t.toList == []) = false := by unfold noText at ht; simpa using ht
    clear ht
    go_enter Tryz.func167, Tryz.ntmps167
    go_wp2_with fail
    go_ret
    exact ⟨_, rfl, strs_new [t, kDot, nm] (by simp) rfl rfl (by simp) _, ((Below.refl _ _).alloc (Nat.le_refl _) _).alloc (by simp) _⟩
end Go.Proofs.YtpnigfmclmfjaaaGreatDoor

namespace Go.Proofs.YtpnigfmclmfjaaaGreatDoor
open Go.RowKit

/-- The table of the reference's operators. -/
def OpsR (w : World) : Prop := ∀ i : Nat, i < 14 → w.cell? ⟨3, i, none⟩ = some (.string (opS (i : Int)))
def RwOk (e : Ex) : Prop := ∀ (cs : List Value) (w : World), EC NoM w e cs → LibOk w → 10 < w.heap.size → OpsR w → (wordsP e).length ≤ 900000000 → Calls Tryz.prog 76 #[.agg cs.toArray] w (RefW (wordsP e) w)

theorem OpsR.bel {w w' : World} (h : OpsR w) (k : Below w.heap.size w w') : OpsR w' := fun i hi => (k.cell (World.block_lt_of_cell? _ _ (h i hi))).trans (h i hi)
theorem LibOk.belB {w w' : World} (h : LibOk w) (k : Below w.heap.size w w') (hs : 10 < w.heap.size) : LibOk w' := h.keep (M := fun _ => False) (.bel k) (fun _ _ => id) hs

set_option maxRecDepth 100000 in
set_option maxHeartbeats 4000000 in
theorem rwhere_any (l : List Ex) (hall : ∀ x ∈ l, RwOk x) (h1 : l.length ≤ 1) (va : Value) (w : World) (hA : ExsR NoM w va l) (hl : LibOk w) (hs : 10 < w.heap.size) (ho : OpsR w) (hN : (whereW (l.map wordsP)).length ≤ 900000000) :
    Calls Tryz.prog 174 #[va] w (RefW (whereW (l.map wordsP)) w) := by
  match l, h1 with
  | [], _ =>
    obtain ⟨a, c, rfl, hm⟩ := hA.shape
    clear hall hA hl ho
    go_enter Tryz.func174, Tryz.ntmps174
    go_wp2_with fail
    go_ret
    exact ⟨_, rfl, (RowsO.nil (w.heap.size) w 9 1 StrR).rows fun _ _ _ => id, Below.refl _ _⟩
  | [x], _ =>
    have hX := hall x (by simp)
    simp only [List.map_cons, List.map_nil, whereW, List.append_nil] at hN ⊢
    have HX := Lib.hid hX
    have HL := Lib.hid hl
    have HO := Lib.hid ho
    have HN := Lib.hid hN
    rcases hA.open with ⟨_, h0⟩ | ⟨ab, ao, cap', rfl, _, hab, _, _, hx⟩
    · simp at h0
    obtain ⟨cs, hc, _, hcs⟩ := hx 0 x rfl
    have HE := Lib.hid hc
    have HC := Lib.hid hcs
    obtain ⟨xva, xvs, rfl, hva, hvs⟩ := (EC_iff ..).1 hc
    obtain ⟨xa, xac, rfl, _⟩ := hva.shape
    obtain ⟨xs, xsc, rfl, _⟩ := hvs.shape
    simp only [exCells] at HE
    have i0 : (0 : Int) ≤ ((0 : Nat) : Int) := by omega
    have HB1 := Lib.hid (show Below w.heap.size w (w.alloc (.cells #[.string ⟨#[87, 72, 69, 82, 69]⟩] 9)) from (Below.refl _ _).alloc (Nat.le_refl _) _)
    have HOW := Lib.hid (rowsO_one (R := StrR) (lo := w.heap.size) (w := w) (arr := #[.string ⟨#[87, 72, 69, 82, 69]⟩]) (e := 9) (size := 1) kWHERE rfl (Nat.le_refl _) rfl rfl)
    obtain ⟨c0, c1, c2, c3, c4, c5, c6, c7, c8, c9⟩ := CellsAt.c10 (HC.out.keep (M := NoM) (.bel HB1.out) id)
    simp only [Nat.zero_mul, Nat.add_zero] at c0 c1 c2 c3 c4 c5 c6 c7 c8 c9
    have hz : (w.alloc (.cells #[.string ⟨#[87, 72, 69, 82, 69]⟩] 9)).heap.size = w.heap.size + 1 := by simp
    clear hx hc hcs hva hvs hX hl ho hN hall hA
    go_enter Tryz.func174, Tryz.ntmps174
    go_wp2_with fail
    refine (HX.out _ _ (EC.keep (.bel HB1.out) _ _ HE.out) (HL.out.belB HB1.out hs) (by omega) (HO.out.bel HB1.out) (by have := HN.out; simp at this; omega)).mono ?_
    rintro e w2 ⟨v, rfl, hv, hb⟩
    have HV := Lib.hid hv
    have HB2 := Lib.hid (HB1.out.trans (hb.mono (by omega)))
    have HOW2 := Lib.hid (RowsO.kept HOW.out (M := NoM) (.bel hb) (fun _ _ => id) fun _ _ _ h => h)
    have hz2 := HB2.out.size
    obtain ⟨va, vc, rfl, _⟩ := hv.shape
    clear hv hb hz
    dsimp only
    go_wp2_with (at_builtin; go_loud (refine wpList_app rfl _ _ 25 rfl 9 _ 1 16 Tryz.underlying25 infoStr rfl (by decide) (R := StrR) (M := NoM) w.heap.size (.slice (some ⟨w.heap.size, 0, none⟩) 1 1) (.slice va (wordsP x).length vc) [kWHERE] (wordsP x) rfl rfl HOW2.out HV.out (fun y _ cs h => strR_one y cs h) (by have := HN.out; simp at this ⊢; omega) (by have := HN.out; unfold maxLen; simp at this ⊢; omega) hz2 ?_; intro v2 w3 ho hk hat; have HO3 := Lib.hid ho; have HB3 := Lib.hid (HB2.out.trans (own_below HOW2.out hk hz2)); clear ho hk hat))
    go_ret
    exact ⟨_, rfl, HO3.out.rows fun _ _ _ => id, HB3.out⟩
end Go.Proofs.YtpnigfmclmfjaaaGreatDoor

namespace Go.Proofs.YtpnigfmclmfjaaaGreatDoor
open Go.RowKit

theorem rowsO_strs {w : World} {arr : Array Value} {g n : Nat} (ys : List ByteArray) (hg : g = w.heap.size) (ha : arr.toList = ys.map Value.string) (hn : n = ys.length) (hm : n ≤ 1000) {lo : Nat} (hlo : lo ≤ w.heap.size) : RowsO lo (w.alloc (.cells arr 9)) 9 1 StrR (.slice (some ⟨g, 0, none⟩) n n) ys := by
  subst hn hg
  have hl : arr.toList.length = ys.length := by rw [ha]; simp
  have hf : (ys.map fun y => [Value.string y]).flatten = arr.toList := by rw [flat_strY, ha]
  refine ⟨ys.map fun y => [Value.string y], ⟨by rw [hf, hl]; simp, .inr ⟨w.heap.size, ys.length, arr, by simp, hlo, heap_alloc_new w _, by simp, by unfold maxLen; omega, by rw [Nat.mul_one]; exact hl, by rw [hf, List.length_map, Nat.mul_one, ← hl, List.take_length]⟩⟩, by simp, by simp, fun i y cs hi hc => ?_⟩
  simp only [List.getElem?_map, hi, Option.map_some, Option.some.injEq] at hc
  exact hc.symm

set_option maxRecDepth 100000 in
set_option maxHeartbeats 4000000 in
theorem rfrom_any (st : Bool) (vi : Value) (f : ByteArray) (vw : Value) (l : List Ex) (hall : ∀ x ∈ l, RwOk x) (h1 : l.length ≤ 1) (w : World) (hA : ExsR NoM w vw l) (hl : LibOk w) (hs : 10 < w.heap.size) (ho : OpsR w) (hN : (whereW (l.map wordsP)).length ≤ 900000000) :
    Calls Tryz.prog 169 #[.agg #[.bool st, vi, .string f, vw]] w (RefW (kFROM :: f :: whereW (l.map wordsP)) w) := by
  have HA := Lib.hid hA
  have HALL := Lib.hid hall
  have HL := Lib.hid hl
  have HO := Lib.hid ho
  have HN := Lib.hid hN
  have H1 := Lib.hid h1
  obtain ⟨a, c, rfl, hm⟩ := hA.shape
  clear hall h1 hA hl ho hN
  go_enter Tryz.func169, Tryz.ntmps169
  go_upto_region 2 with fail
  generalize hW1 : World.alloc w _ = W1
  have hz1 : W1.heap.size = w.heap.size + 1 := by rw [← hW1]; simp
  have hS0 : W1.heap[w.heap.size]? = some (.cells #[.bool st, vi, .string f, .slice a l.length c] 32 (0, 0)) := by rw [← hW1]; exact heap_alloc_new w _
  have hb1 : Below w.heap.size w W1 := by rw [← hW1]; exact (Below.refl _ _).alloc (Nat.le_refl _) _
  clear hW1
  have HOW := Lib.hid (rowsO_strs (w := W1) (arr := #[.string ⟨#[70, 82, 79, 77]⟩, .string f]) [kFROM, f] hz1.symm rfl rfl (by simp) (lo := w.heap.size) (by omega))
  generalize hW : World.alloc W1 _ = W at HOW ⊢
  have hS : W.heap[w.heap.size]? = some (.cells #[.bool st, vi, .string f, .slice a l.length c] 32 (0, 0)) := by rw [← hW]; exact (heap_alloc_old W1 _ (by omega)).trans hS0
  have HBW := Lib.hid (show Below w.heap.size w W from by rw [← hW]; exact hb1.alloc (by omega) _)
  have hzW := HBW.out.size
  obtain ⟨e0, e1, e2, e3, _⟩ := blk4 hS
  clear hS0 hS hb1 hz1 hW
  go_wp2_with fail
  refine (rwhere_any l HALL.out H1.out _ W (RowsR.map HA.out (.bel HBW.out) fun x _ cs h => EC.keep (.bel HBW.out) x cs h) (HL.out.belB HBW.out hs) (by omega) (HO.out.bel HBW.out) HN.out).mono ?_
  rintro e w2 ⟨v, rfl, hv, hb⟩
  have HV := Lib.hid hv
  have HB2 := Lib.hid (HBW.out.trans (hb.mono hzW))
  have HOW2 := Lib.hid (RowsO.kept HOW.out (M := NoM) (.bel hb) (fun _ _ => id) fun _ _ _ h => h)
  have hz2 := HB2.out.size
  obtain ⟨va, vc, rfl, _⟩ := hv.shape
  clear hv hb HOW
  dsimp only
  generalize hwh : whereW (l.map wordsP) = wh at HV HN
  have HWH := Lib.hid hwh
  clear hwh
  go_wp2_with (at_builtin; go_loud (refine wpList_app rfl _ _ 25 rfl 9 _ 1 16 Tryz.underlying25 infoStr rfl (by decide) (R := StrR) (M := NoM) w.heap.size (.slice (some ⟨w.heap.size + 1, 0, none⟩) 2 2) (.slice va wh.length vc) [kFROM, f] wh rfl rfl HOW2.out HV.out (fun y _ cs h => strR_one y cs h) (by have := HN.out; simp; omega) (by have := HN.out; unfold maxLen; simp; omega) hz2 ?_; intro v2 w3 ho hk hat; have HO3 := Lib.hid ho; have HB3 := Lib.hid (HB2.out.trans (own_below HOW2.out hk hz2)); clear ho hk hat))
  go_ret
  exact ⟨_, rfl, by rw [HWH.out]; exact HO3.out.rows fun _ _ _ => id, HB3.out⟩
end Go.Proofs.YtpnigfmclmfjaaaGreatDoor

namespace Go.Proofs.YtpnigfmclmfjaaaGreatDoor
open Go.RowKit

set_option maxRecDepth 100000 in
set_option maxHeartbeats 4000000 in
theorem rargument_any (k o : Int) (no : Bool) (vk vi : Int) (vt t nm : ByteArray) (va vs : Value) (args : List Ex) (i : Nat) (x : Ex) (hx : args[i]? = some x) (hok : RwOk x) (hi3 : i ≤ 2) (w : World) (hA : ExsR NoM w va args) (hl : LibOk w) (hs : 10 < w.heap.size) (ho : OpsR w) (hN : (wordsP x).length ≤ 800000000) :
    Calls Tryz.prog 168 #[.agg #[.int .i64 k, .int .i64 o, .bool no, .int .i64 vk, .int .i64 vi, .string vt, .string t, .string nm, va, vs], .int .i64 (i : Int)] w (RefW (if precP x.kind x.op < leastR k o i then kOpen :: (wordsP x ++ [kShut]) else wordsP x) w) := by
  have hlt : i < args.length := (List.getElem?_eq_some_iff.1 hx).1
  rcases hA.open with ⟨_, h0⟩ | ⟨ab, ao, cap', rfl, hm, hab, _, _, hxs⟩
  · rw [h0] at hlt
    simp at hlt
  obtain ⟨cs, hc, _, hcs⟩ := hxs i x hx
  have HX := Lib.hid hok
  have HL := Lib.hid hl
  have HO := Lib.hid ho
  have HN := Lib.hid hN
  have HE := Lib.hid hc
  have HC := Lib.hid hcs
  obtain ⟨xva, xvs, rfl, hva, hvs⟩ := (EC_iff ..).1 hc
  obtain ⟨xa, xac, rfl, _⟩ := hva.shape
  obtain ⟨xs, xsc, rfl, _⟩ := hvs.shape
  simp only [exCells] at HE
  have i0 : (0 : Int) ≤ (i : Int) := by omega
  have i1 : (i : Int) < (args.length : Int) := by omega
  clear hxs hc hcs hva hvs hok hl ho hN hA hx
  obtain ⟨R, HR⟩ : ∃ R, Hid ((if precP x.kind x.op < leastR k o i then kOpen :: (wordsP x ++ [kShut]) else wordsP x) = R) := ⟨_, Lib.hid rfl⟩
  rw [HR.out]
  go_enter Tryz.func168, Tryz.ntmps168
  go_upto_region 1 with fail
  generalize hW : World.alloc w _ = W
  have hS : W.heap[w.heap.size]? = some (.cells #[.int .i64 k, .int .i64 o, .bool no, .int .i64 vk, .int .i64 vi, .string vt, .string t, .string nm, .slice (some ⟨ab, ao, none⟩) args.length cap', vs] 57 (0, 0)) := by rw [← hW]; exact heap_alloc_new w _
  have HBW := Lib.hid (show Below w.heap.size w W from by rw [← hW]; exact (Below.refl _ _).alloc (Nat.le_refl _) _)
  have hzW : W.heap.size = w.heap.size + 1 := by rw [← hW]; simp
  have HS := Lib.hid hS
  obtain ⟨e0, e1, e2, e3, e4, e5, e6, e7, e8, e9, _⟩ := blk10 hS
  obtain ⟨c0, c1, c2, c3, c4, c5, c6, c7, c8, c9⟩ := CellsAt.c10 (HC.out.keep (M := NoM) (.bel HBW.out) id)
  clear hS hW
  go_wp2_with fail
  refine (HX.out _ _ (EC.keep (.bel HBW.out) _ _ HE.out) (HL.out.belB HBW.out hs) (by omega) (HO.out.bel HBW.out) (by have := HN.out; omega)).mono ?_
  rintro e w2 ⟨v, rfl, hv, hb⟩
  have HV := Lib.hid hv
  have HB2 := Lib.hid (HBW.out.trans (hb.mono (by omega)))
  have hz2 := hb.size
  obtain ⟨la, lc, rfl, _⟩ := hv.shape
  clear e0 e1 e2 e3 e4 e5 e6 e7 e8 e9 c0 c1 c2 c3 c4 c5 c6 c7 c8 c9
  obtain ⟨e0, e1, e2, e3, e4, e5, e6, e7, e8, e9, _⟩ := blk10 ((hb.block _ (by omega)).trans HS.out)
  obtain ⟨c0, c1, c2, c3, c4, c5, c6, c7, c8, c9⟩ := CellsAt.c10 (HC.out.keep (M := NoM) (.bel HB2.out) id)
  have HCC := Lib.hid (And.intro c0 (And.intro c1 (And.intro c2 (And.intro c3 (And.intro c4 (And.intro c5 (And.intro c6 (And.intro c7 (And.intro c8 c9)))))))))
  clear hv hb c0 c1 c2 c3 c4 c5 c6 c7 c8 c9
  dsimp only
  go_wp2_with fail
  refine (rwrapped_any k o no vk vi vt t nm ab ao args.length cap' vs i x.kind x.op x.no x.val.kind x.val.int x.val.text x.table x.name _ _ w2 hlt (by omega) (by omega) (by simpa using HCC.out)).mono ?_
  rintro e w3 ⟨rfl, hb⟩
  have HV3 := Lib.hid (strs_bel HV.out hb)
  have HB3 := Lib.hid (HB2.out.trans (hb.mono (by omega)))
  have hz3 := HB3.out.size
  clear hb e0 e1 e2 e3 e4 e5 e6 e7 e8 e9
  dsimp only
  generalize hbb : decide (precP x.kind x.op < leastR k o i) = bb
  have HBB := Lib.hid hbb
  clear hbb
  cases bb
  · have HR2 : Hid (R = wordsP x) := Lib.hid (by rw [← HR.out, if_neg (of_decide_eq_false HBB.out)])
    go_wp2_with fail
    go_ret
    exact ⟨_, rfl, by rw [HR2.out]; exact HV3.out, HB3.out⟩
  · have HR2 : Hid (R = [kOpen] ++ wordsP x ++ [kShut]) := Lib.hid (by rw [← HR.out, if_pos (of_decide_eq_true HBB.out)]; simp)
    generalize hxs : wordsP x = ws at HV HV3 HN HR2
    have HXS := Lib.hid hxs
    clear hxs
    have HO3 := Lib.hid (rowsO_strs (w := w3) (arr := #[.string ⟨#[40]⟩]) [kOpen] rfl rfl rfl (by simp) (lo := w.heap.size) hz3)
    have HB4 := Lib.hid (HB3.out.alloc hz3 (.cells #[.string ⟨#[40]⟩] 9))
    have HV4 := Lib.hid (strs_bel HV3.out ((Below.refl _ _).alloc (Nat.le_refl _) (.cells #[.string ⟨#[40]⟩] 9)))
    have hz4 := HB4.out.size
    have tok1 : Hid True := Lib.hid trivial
    go_wp2_with (first
      | (at_builtin; have _t := tok1; go_loud (refine wpList_app rfl _ _ 25 rfl 9 _ 1 16 Tryz.underlying25 infoStr rfl (by decide) (R := StrR) (M := NoM) w.heap.size (.slice (some ⟨w3.heap.size, 0, none⟩) 1 1) (.slice la ws.length lc) [kOpen] ws rfl rfl HO3.out HV4.out (fun y _ cs h => strR_one y cs h) (by have := HN.out; simp; omega) (by have := HN.out; unfold maxLen; simp; omega) hz4 ?_; intro v5 w5 ho hk hat; have HO5 := Lib.hid ho; have HB5 := Lib.hid (HB4.out.trans (own_below HO3.out hk hz4)); have hz5 := HB5.out.size; have HO6 := Lib.hid (RowsO.kept ho (M := NoM) (.bel ((Below.refl _ _).alloc (Nat.le_refl _) (.cells #[.string ⟨#[41]⟩] 9))) (fun _ _ => id) fun _ _ _ h => h); have HS6 := Lib.hid (strs_new (w := w5) (arr := #[.string ⟨#[41]⟩]) [kShut] rfl rfl rfl (by simp) 9); have HB6 := Lib.hid (HB5.out.alloc hz5 (.cells #[.string ⟨#[41]⟩] 9)); have hz6 := HB6.out.size; obtain ⟨oa, oc, rfl, _⟩ := ho.shape; clear ho hk hat HO3 tok1 _t))
      | (at_builtin; go_loud (refine wpList_app rfl _ _ 25 rfl 9 _ 1 16 Tryz.underlying25 infoStr rfl (by decide) (R := StrR) (M := NoM) w.heap.size (.slice oa ([kOpen] ++ ws).length oc) (.slice (some ⟨w5.heap.size, 0, none⟩) 1 1) ([kOpen] ++ ws) [kShut] rfl rfl HO6.out HS6.out (fun y _ cs h => strR_one y cs h) (by have := HN.out; simp; omega) (by have := HN.out; unfold maxLen; simp; omega) hz6 ?_; intro v7 w7 ho hk hat; have HO7 := Lib.hid ho; have HB7 := Lib.hid (HB6.out.trans (own_below HO6.out hk hz6)); clear ho hk hat)))
    go_ret
    exact ⟨_, rfl, by rw [HR2.out]; exact HO7.out.rows fun _ _ _ => id, HB7.out⟩
end Go.Proofs.YtpnigfmclmfjaaaGreatDoor

namespace Go.Proofs.YtpnigfmclmfjaaaGreatDoor
open Go.RowKit

theorem flat_one : ∀ vs : List Value, (vs.map fun v => [v]).flatten = vs
  | [] => rfl
  | v :: l => by rw [List.map_cons, List.flatten_cons, flat_one l]; rfl
theorem ls_new {w : World} {arr : Array Value} {g n : Nat} (ls : List (List ByteArray)) (hg : g = w.heap.size) (hn : n = ls.length) (hl : arr.toList.length = ls.length) (hm : n ≤ 1000) (t : TypeId) (hR : ∀ (i : Nat) (l : List ByteArray) (v : Value), ls[i]? = some l → arr.toList[i]? = some v → RowsR NoM w 1 StrR v l) :
    RowsR NoM (w.alloc (.cells arr t)) 1 (LsR (w.alloc (.cells arr t))) (.slice (some ⟨g, 0, none⟩) n n) ls := by
  subst hn
  have hl2 : arr.size = ls.length := hl
  refine RowsR.new (arr.toList.map fun v => [v]) hg id (flat_one _).symm (by simp) (by simp [hl2]) (by simp) (by unfold maxLen; omega) (by simp [hl2]) fun i y cs hi hc => ?_
  simp only [List.getElem?_map] at hc
  cases hv : arr.toList[i]? with
  | none => rw [hv] at hc; cases hc
  | some v =>
    rw [hv] at hc
    simp only [Option.map_some, Option.some.injEq] at hc
    exact ⟨v, hc.symm, strs_bel (hR i y v hi hv) ((Below.refl _ _).alloc (Nat.le_refl _) _)⟩
end Go.Proofs.YtpnigfmclmfjaaaGreatDoor

namespace Go.Proofs.YtpnigfmclmfjaaaGreatDoor
open Go.RowKit

set_option maxRecDepth 100000 in
set_option maxHeartbeats 4000000 in
theorem rw_lit (v : Val) (hv : ValOk v) : RwOk (litX v) := by
  intro cs w hE hL hs hO hN
  obtain ⟨xva, xvs, rfl, hva, hvs⟩ := (EC_iff ..).1 hE
  obtain ⟨ea, ec, rfl, _⟩ := hva.shape
  obtain ⟨sa, sc, rfl, _⟩ := hvs.shape
  have HL := Lib.hid hL
  have HV := Lib.hid hv
  rw [words_lit]
  simp only [exCells, litX, Ex.kind, Ex.op, Ex.no, Ex.val, Ex.table, Ex.name, Ex.args, Ex.sub, List.length_nil]
  have h41 : (1 : Int) = 1 := rfl
  clear hE hva hvs hL hO hN hv
  go_enter Tryz.func76, Tryz.ntmps76
  go_upto_region 3 with fail
  generalize hW : World.alloc w _ = W
  have HBW := Lib.hid (show Below w.heap.size w W from by rw [← hW]; exact (Below.refl _ _).alloc (Nat.le_refl _) _)
  have hS : W.heap[w.heap.size]? = some (.cells #[.int .i64 1, .int .i64 0, .bool false, .int .i64 v.kind, .int .i64 v.int, .string v.text, .string es, .string es, .slice ea 0 ec, .slice sa 0 sc] 57 (0, 0)) := by rw [← hW]; exact heap_alloc_new w _
  obtain ⟨e0, e1, e2, e3, e4, e5, e6, e7, e8, e9, _⟩ := blk10 hS
  have hz := HBW.out.size
  clear hS hW
  go_wp2_with fail
  refine (rformat_v v HV.out W (HL.out.belB HBW.out hs) (by omega)).mono ?_
  rintro e w2 ⟨rfl, hb⟩
  have HB2 := Lib.hid (HBW.out.trans (hb.mono hz))
  have hz2 := HB2.out.size
  clear hb e0 e1 e2 e3 e4 e5 e6 e7 e8 e9
  dsimp only
  go_wp2_with fail
  go_ret
  exact ⟨_, rfl, strs_new [bs (fmtV v)] rfl rfl rfl (by simp) _, HB2.out.alloc hz2 _⟩

set_option maxRecDepth 100000 in
set_option maxHeartbeats 4000000 in
theorem rw_col (t n : ByteArray) : RwOk (colX t n) := by
  intro cs w hE hL hs hO hN
  obtain ⟨xva, xvs, rfl, hva, hvs⟩ := (EC_iff ..).1 hE
  obtain ⟨ea, ec, rfl, _⟩ := hva.shape
  obtain ⟨sa, sc, rfl, _⟩ := hvs.shape
  obtain ⟨R, HR⟩ : ∃ R, Hid (wordsP (colX t n) = R) := ⟨_, Lib.hid rfl⟩
  rw [HR.out]
  simp only [exCells, colX, Ex.kind, Ex.op, Ex.no, Ex.val, Ex.table, Ex.name, Ex.args, Ex.sub, List.length_nil, val0]
  clear hE hva hvs hL hO hN
  go_enter Tryz.func76, Tryz.ntmps76
  go_upto_region 5 with fail
  generalize hW : World.alloc w _ = W
  have HBW := Lib.hid (show Below w.heap.size w W from by rw [← hW]; exact (Below.refl _ _).alloc (Nat.le_refl _) _)
  have hS : W.heap[w.heap.size]? = some (.cells #[.int .i64 2, .int .i64 0, .bool false, .int .i64 0, .int .i64 0, .string es, .string t, .string n, .slice ea 0 ec, .slice sa 0 sc] 57 (0, 0)) := by rw [← hW]; exact heap_alloc_new w _
  obtain ⟨e0, e1, e2, e3, e4, e5, e6, e7, e8, e9, _⟩ := blk10 hS
  have hz := HBW.out.size
  clear hS hW
  go_wp2_with fail
  refine (rname_any _ _ _ _ _ _ t n _ _ W).mono ?_
  rintro e w2 ⟨u, rfl, hu, hb⟩
  have HU := Lib.hid (show RowsR NoM w2 1 StrR u R from by rw [← HR.out, words_col]; exact hu)
  have HB2 := Lib.hid (HBW.out.trans (hb.mono hz))
  clear hu hb e0 e1 e2 e3 e4 e5 e6 e7 e8 e9
  dsimp only
  go_wp2_with fail
  go_ret
  exact ⟨_, rfl, HU.out, HB2.out⟩
end Go.Proofs.YtpnigfmclmfjaaaGreatDoor

namespace Go.Proofs.YtpnigfmclmfjaaaGreatDoor
open Go.RowKit

set_option maxRecDepth 100000 in
set_option maxHeartbeats 4000000 in
theorem rw_not (a : Ex) (ha : RwOk a) (hN8 : (wordsP a).length ≤ 800000000) : RwOk (opX 3 0 false [a] []) := by
  intro cs w hE hL hs hO hN
  obtain ⟨xva, xvs, rfl, hva, hvs⟩ := (EC_iff ..).1 hE
  obtain ⟨ea, ec, rfl, _⟩ := hva.shape
  obtain ⟨sa, sc, rfl, _⟩ := hvs.shape
  have HA := Lib.hid (show ExsR NoM w (.slice ea 1 ec) [a] from hva)
  have Ha := Lib.hid ha
  have HL := Lib.hid hL
  have HO := Lib.hid hO
  have hNa : (wordsP a).length ≤ 800000000 := hN8
  have HN := Lib.hid hNa
  rw [words_not]
  simp only [exCells, opX, Ex.kind, Ex.op, Ex.no, Ex.val, Ex.table, Ex.name, Ex.args, Ex.sub, List.length_cons, List.length_nil, Nat.zero_add, val0]
  clear hE hva hvs hL hO hN ha hNa
  go_enter Tryz.func76, Tryz.ntmps76
  go_upto_region 7 with fail
  generalize hW : World.alloc w _ = W
  have HBW := Lib.hid (show Below w.heap.size w W from by rw [← hW]; exact (Below.refl _ _).alloc (Nat.le_refl _) _)
  have hS : W.heap[w.heap.size]? = some (.cells #[.int .i64 3, .int .i64 0, .bool false, .int .i64 0, .int .i64 0, .string es, .string es, .string es, .slice ea 1 ec, .slice sa 0 sc] 57 (0, 0)) := by rw [← hW]; exact heap_alloc_new w _
  have hz := HBW.out.size
  have hzz := (Array.getElem?_eq_some_iff.1 hS).1
  have HBB := Lib.hid (show Below W.heap.size W (W.alloc (.cells #[.string ⟨#[78, 79, 84]⟩] 9)) from (Below.refl _ _).alloc (Nat.le_refl _) _)
  obtain ⟨e0, e1, e2, e3, e4, e5, e6, e7, e8, e9, _⟩ := blk10 ((HBB.out.block _ hzz).trans hS)
  have HNOT := Lib.hid (strs_new (w := W) (arr := #[.string ⟨#[78, 79, 84]⟩]) [kNOT] rfl rfl rfl (by simp) 9)
  have HB1 := Lib.hid (HBW.out.trans (HBB.out.mono hz))
  have hz1 := HB1.out.size
  clear hS hW
  go_wp2_with fail
  refine (rargument_any 3 0 false 0 0 es es es _ _ [a] 0 a rfl Ha.out (by omega) _ (RowsR.map HA.out (.bel HB1.out) fun x _ cs h => EC.keep (.bel HB1.out) x cs h) (HL.out.belB HB1.out hs) (by omega) (HO.out.bel HB1.out) HN.out).mono ?_
  rintro e w2 ⟨u, rfl, hu, hb⟩
  have HU := Lib.hid (show RowsR NoM w2 1 StrR u (argW 3 0 0 a) from by rw [leastR_eq (by intro h; cases h)] at hu; exact hu)
  have HB2 := Lib.hid (HB1.out.trans (hb.mono hz1))
  have HNOT2 := Lib.hid (strs_bel HNOT.out hb)
  have hz2 := HB2.out.size
  clear hu hb e0 e1 e2 e3 e4 e5 e6 e7 e8 e9
  have hAW : (argW 3 0 0 a).length ≤ 900000000 := by
    unfold argW
    have := HN.out
    split
    · simp; omega
    · omega
  generalize hR : argW 3 0 0 a = R at HU hAW
  have HR := Lib.hid hR
  have HRW := Lib.hid hAW
  clear hR hAW
  dsimp only
  obtain ⟨ua, uc, rfl, _⟩ := HU.out.shape
  go_wp2_with fail
  refine (cat_any [[kNOT], R] _ _ (ls_new (w := w2) [[kNOT], R] rfl rfl rfl (by simp) _ (fun i l v hi hv => by
    match i with
    | 0 => simp at hi hv; subst hi; subst hv; exact HNOT2.out
    | 1 => simp at hi hv; subst hi; subst hv; exact HU.out
    | i + 2 => simp at hi)) (by have := HRW.out; simp; omega)).mono ?_
  rintro e w3 ⟨x, rfl, hx, hb⟩
  have HX := Lib.hid hx
  have HB3 := Lib.hid ((HB2.out.alloc hz2 _).trans (hb.mono (by simp; omega)))
  clear hx hb
  dsimp only
  go_wp2_with fail
  go_ret
  exact ⟨_, rfl, by rw [HR.out]; simpa using HX.out, HB3.out⟩

set_option maxRecDepth 100000 in
set_option maxHeartbeats 4000000 in
theorem rw_neg (a : Ex) (ha : RwOk a) (hN8 : (wordsP a).length ≤ 800000000) : RwOk (opX 4 0 false [a] []) := by
  intro cs w hE hL hs hO hN
  obtain ⟨xva, xvs, rfl, hva, hvs⟩ := (EC_iff ..).1 hE
  obtain ⟨ea, ec, rfl, _⟩ := hva.shape
  obtain ⟨sa, sc, rfl, _⟩ := hvs.shape
  have HA := Lib.hid (show ExsR NoM w (.slice ea 1 ec) [a] from hva)
  have Ha := Lib.hid ha
  have HL := Lib.hid hL
  have HO := Lib.hid hO
  have hNa : (wordsP a).length ≤ 800000000 := hN8
  have HN := Lib.hid hNa
  rw [words_neg]
  simp only [exCells, opX, Ex.kind, Ex.op, Ex.no, Ex.val, Ex.table, Ex.name, Ex.args, Ex.sub, List.length_cons, List.length_nil, Nat.zero_add, val0]
  clear hE hva hvs hL hO hN ha hNa
  go_enter Tryz.func76, Tryz.ntmps76
  go_upto_region 9 with fail
  generalize hW : World.alloc w _ = W
  have HBW := Lib.hid (show Below w.heap.size w W from by rw [← hW]; exact (Below.refl _ _).alloc (Nat.le_refl _) _)
  have hS : W.heap[w.heap.size]? = some (.cells #[.int .i64 4, .int .i64 0, .bool false, .int .i64 0, .int .i64 0, .string es, .string es, .string es, .slice ea 1 ec, .slice sa 0 sc] 57 (0, 0)) := by rw [← hW]; exact heap_alloc_new w _
  have hz := HBW.out.size
  have hzz := (Array.getElem?_eq_some_iff.1 hS).1
  have HBB := Lib.hid (show Below W.heap.size W (W.alloc (.cells #[.string ⟨#[45]⟩] 9)) from (Below.refl _ _).alloc (Nat.le_refl _) _)
  obtain ⟨e0, e1, e2, e3, e4, e5, e6, e7, e8, e9, _⟩ := blk10 ((HBB.out.block _ hzz).trans hS)
  have HNOT := Lib.hid (strs_new (w := W) (arr := #[.string ⟨#[45]⟩]) [kMinus] rfl rfl rfl (by simp) 9)
  have HB1 := Lib.hid (HBW.out.trans (HBB.out.mono hz))
  have hz1 := HB1.out.size
  clear hS hW
  go_wp2_with fail
  refine (rargument_any 4 0 false 0 0 es es es _ _ [a] 0 a rfl Ha.out (by omega) _ (RowsR.map HA.out (.bel HB1.out) fun x _ cs h => EC.keep (.bel HB1.out) x cs h) (HL.out.belB HB1.out hs) (by omega) (HO.out.bel HB1.out) HN.out).mono ?_
  rintro e w2 ⟨u, rfl, hu, hb⟩
  have HU := Lib.hid (show RowsR NoM w2 1 StrR u (argW 4 0 0 a) from by rw [leastR_eq (by intro h; cases h)] at hu; exact hu)
  have HB2 := Lib.hid (HB1.out.trans (hb.mono hz1))
  have HNOT2 := Lib.hid (strs_bel HNOT.out hb)
  have hz2 := HB2.out.size
  clear hu hb e0 e1 e2 e3 e4 e5 e6 e7 e8 e9
  have hAW : (argW 4 0 0 a).length ≤ 900000000 := by
    unfold argW
    have := HN.out
    split
    · simp; omega
    · omega
  generalize hR : argW 4 0 0 a = R at HU hAW
  have HR := Lib.hid hR
  have HRW := Lib.hid hAW
  clear hR hAW
  dsimp only
  obtain ⟨ua, uc, rfl, _⟩ := HU.out.shape
  go_wp2_with fail
  refine (cat_any [[kMinus], R] _ _ (ls_new (w := w2) [[kMinus], R] rfl rfl rfl (by simp) _ (fun i l v hi hv => by
    match i with
    | 0 => simp at hi hv; subst hi; subst hv; exact HNOT2.out
    | 1 => simp at hi hv; subst hi; subst hv; exact HU.out
    | i + 2 => simp at hi)) (by have := HRW.out; simp; omega)).mono ?_
  rintro e w3 ⟨x, rfl, hx, hb⟩
  have HX := Lib.hid hx
  have HB3 := Lib.hid ((HB2.out.alloc hz2 _).trans (hb.mono (by simp; omega)))
  clear hx hb
  dsimp only
  go_wp2_with fail
  go_ret
  exact ⟨_, rfl, by rw [HR.out]; simpa using HX.out, HB3.out⟩
end Go.Proofs.YtpnigfmclmfjaaaGreatDoor
