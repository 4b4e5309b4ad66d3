/- The types of a query's columns: contracts of Types, in the program and in the reference. -/
import Derived.Test.YtppiaaolggpjdaaDoorZ3
namespace Go.Proofs.YtppiaaolggpjdaaDoor
open Go.RowKit

def typesL (ts : List Sch) (q : Qu) (s : Sch) (fs : List Frm) : Except Int (List Int) := if q.star = true then .ok (s.cols.map Col.type) else typeL ts q.items (fs ++ [frmOf s])
def typesEnd (c : Int) (r : Except Int (List Int)) : List Int × Int := match r with
  | .error c => ([], c)
  | .ok l => if c = 0 then (l, 0) else ([], c)
/-- The types of a query's columns. -/
def typesP (ts : List Sch) (q : Qu) (fs : List Frm) : List Int × Int := match sourceP ts q.frm with
  | none => ([], 3)
  | some s => typesEnd (typeC ts q.whr (fs ++ [frmOf s])) (typesL ts q s fs)
def TypesPost (r : List Int × Int) (w : World) (e : Ending) (w' : World) : Prop := ∃ v, e = .returned (.tuple #[v, .int .i64 r.2]) ∧ IntsR NoM w' v r.1 ∧ Below w.heap.size w w'

theorem intStable : Stable (fun (_ : Nat → Prop) (_ : World) n cs => IntR n cs) where
  keep := fun h _ => h
  weak := fun h _ => h
  one := fun h => by rw [h]; simp [Value.oneCell']
theorem types_nil {w w' : World} {c : Int} (hb : Below w.heap.size w w') : TypesPost ([], c) w (.returned (.tuple #[.slice none 0 0, .int .i64 c])) w' := ⟨_, rfl, RowsR.nil .., hb⟩
theorem map_take {α β : Type} {f : α → β} {l : List α} {j : Nat} {x : α} (h : l[j]? = some x) : (l.take (j + 1)).map f = (l.take j).map f ++ [f x] := by
  rw [List.take_add_one, h, Option.toList_some, List.map_append]
  rfl

set_option maxRecDepth 100000 in
set_option maxHeartbeats 20000000 in
theorem types_any (ts : List Sch) (hsm : ColsSmall ts) (q : Qu) (fs : List Frm) (cs : List Value) (vf vt : Value) (w : World) (hq : QC NoM w q cs) (hf : FrmsR NoM w vf fs) (ht : TblsR NoM w vt ts) (hd : fs.length + depQ q ≤ 1000000000) (hlen : q.items.length ≤ 1000000000) :
    Calls Tryd.prog 77 #[.agg cs.toArray, vf, vt] w (TypesPost (typesP ts q fs) w) := by
  obtain ⟨vi', vw, rfl, hi, hw⟩ := (QC_iff ..).1 hq
  obtain ⟨ia, ic, rfl, him⟩ := hi.shape
  obtain ⟨wa, wc, rfl, _⟩ := hw.shape
  unfold maxLen at him
  have hdq : max (depL q.items) (depL q.whr) + 1 = depQ q := (depQ_eq q).symm
  have hfl : fs.length ≤ 999999999 := by omega
  clear hq
  unfold typesP
  rw [sourceP_eq]
  cases hfd : findTbl ts q.frm with
  | none =>
    have hsrc := fun (w' : World) (hb : Below w.heap.size w w') => source_none vt ts q.frm w' (ht.keep (.bel hb)) hfd
    have HS := Lib.hid hsrc
    clear hsrc hi hw hf ht hfd
    go_enter Tryd.func77, Tryd.ntmps77
    go_upto_region 1 with fail
    generalize hW : World.alloc w _ = W0
    have hk0 : W0.heap[w.heap.size]? = some (.cells #[.bool q.star, .slice ia q.items.length ic, .string q.frm, .slice wa q.whr.length wc] 37 (0, 0)) := by rw [← hW]; exact heap_alloc_new w _
    have hb0 : Below w.heap.size w W0 := by rw [← hW]; exact (Below.refl _ _).alloc (Nat.le_refl _) _
    have hz : w.heap.size < W0.heap.size := by rw [← hW]; simp
    have HB0 := Lib.hid hb0
    have HK0 := Lib.hid hk0
    obtain ⟨d0, d1, d2, d3, _, _, _⟩ := blk4 hk0
    clear hW hb0 hk0
    go_wp2_with fail
    refine (HS.out _ HB0.out).mono ?_
    rintro e w1 ⟨rfl, hb⟩
    have HB1 := Lib.hid (HB0.out.trans (hb.mono HB0.out.size))
    clear hb
    dsimp only
    go_wp2_with fail
    go_ret2
    exact types_nil (HB1.out.alloc HB1.out.size _)
  | some i =>
    have hlt : i < ts.length := by
      unfold findTbl at hfd
      rw [List.findIdx?_eq_some_iff_getElem] at hfd
      exact hfd.1
    have hsi : ts[i]? = some ts[i] := List.getElem?_eq_getElem hlt
    have hss := hsm ts[i] (List.getElem_mem hlt)
    generalize ts[i] = s at hsi hss
    simp only [hsi]
    have hsrc := fun (w' : World) (hb : Below w.heap.size w w') => source_some vt ts q.frm w' i s (ht.keep (.bel hb)) hfd hsi hss
    have hin := fun (w' : World) (hb : Below w.heap.size w w') vc (hc : ColsR NoM w' vc s.cols) => inside_any vf vc fs s.name s.cols w' (hf.keep (.bel hb)) hc (by omega)
    have hcd := fun (w' : World) (hb : Below w.heap.size w w') v (hv : FrmsR NoM w' v (fs ++ [frmOf s])) => condition_any ts q.whr (fs ++ [frmOf s]) (.slice wa q.whr.length wc) v vt w' (fun x _ => type_any ts hsm x) (hw.keep (.bel hb)) hv (ht.keep (.bel hb)) (by simp; omega)
    have hty := fun (w' : World) (hb : Below w.heap.size w w') v (hv : FrmsR NoM w' v (fs ++ [frmOf s])) x (hx : x ∈ q.items) cs (hc : EC NoM w' x cs) => type_any ts hsm x (fs ++ [frmOf s]) cs v vt w' hc hv (ht.keep (.bel hb)) (by have := depL_mem hx; simp; omega)
    have HSRC := Lib.hid hsrc
    have HIN := Lib.hid hin
    have HI := Lib.hid hi
    have HTY := Lib.hid hty
    have HSS := Lib.hid hss
    have HLEN := Lib.hid hlen
    have HE := Lib.hid (typeL_error ts (fs ++ [frmOf s]) q.items)
    have HST := Lib.hid (typeL_step ts (fs ++ [frmOf s]) q.items)
    have HP : Hid (∀ c l, TypesPost (typesEnd c (.ok l)) w = TypesPost (if c = 0 then (l, 0) else ([], c)) w) := Lib.hid fun _ _ => rfl
    generalize hcc : typeC ts q.whr (fs ++ [frmOf s]) = c at hcd
    have HCD := Lib.hid hcd
    clear hsrc hin hcd hty hi hw hf ht hfd hsi hss hsm hlen hcc hdq
    generalize hres : typesEnd c (typesL ts q s fs) = res
    have HRES := Lib.hid hres.symm
    clear hres
    go_enter Tryd.func77, Tryd.ntmps77
    go_upto_region 1 with fail
    generalize hW : World.alloc w _ = W0
    have hk0 : W0.heap[w.heap.size]? = some (.cells #[.bool q.star, .slice ia q.items.length ic, .string q.frm, .slice wa q.whr.length wc] 37 (0, 0)) := by rw [← hW]; exact heap_alloc_new w _
    have hb0 : Below w.heap.size w W0 := by rw [← hW]; exact (Below.refl _ _).alloc (Nat.le_refl _) _
    have hz : w.heap.size < W0.heap.size := by rw [← hW]; simp
    have HB0 := Lib.hid hb0
    have HK0 := Lib.hid hk0
    obtain ⟨d0, d1, d2, d3, _, _, _⟩ := blk4 hk0
    clear hW hb0 hk0
    go_wp2_with fail
    refine (HSRC.out _ HB0.out).mono ?_
    rintro e w1 ⟨vc, rfl, hc, hb⟩
    obtain ⟨ca, cc, rfl, hcm⟩ := hc.shape
    unfold maxLen at hcm
    have HB1 := Lib.hid (HB0.out.trans (hb.mono HB0.out.size))
    have HL1 := Lib.hid hb
    have HC1 := Lib.hid (hc.weak (M' := NoM) fun _ _ h => h.elim)
    clear hb hc d0 d1 d2 d3
    dsimp only
    go_upto_region 4 with fail
    generalize hW2 : World.alloc w1 _ = W2
    have hk2 : W2.heap[w1.heap.size]? = some (.cells #[.string s.name, .slice ca s.cols.length cc] 98 (0, 0)) := by rw [← hW2]; exact heap_alloc_new w1 _
    have hb2 : Below w1.heap.size w1 W2 := by rw [← hW2]; exact (Below.refl _ _).alloc (Nat.le_refl _) _
    have hz2 : w1.heap.size < W2.heap.size := by rw [← hW2]; simp
    have HB2 := Lib.hid (HB1.out.trans (hb2.mono HB1.out.size))
    have HL2 := Lib.hid (HL1.out.trans (hb2.mono HL1.out.size))
    have HC2 := Lib.hid (ColsR.keep HC1.out (.bel hb2))
    have HK2 := Lib.hid hk2
    obtain ⟨e0, e1, _, _, _⟩ := blk2 hk2
    clear hW2 hb2 hk2
    go_wp2_with fail
    refine (HIN.out _ HB2.out _ HC2.out).mono ?_
    rintro e w3 ⟨v3, rfl, hf3, hb⟩
    have hf3' : FrmsR NoM w3 v3 (fs ++ [frmOf s]) := hf3
    have HB3 := Lib.hid (HB2.out.trans (hb.mono HB2.out.size))
    have HL3 := Lib.hid (HL2.out.trans (hb.mono HL2.out.size))
    have HF3 := Lib.hid hf3'
    have HC3 := Lib.hid (ColsR.keep HC2.out (.bel hb))
    have HQ0 := Lib.hid (fun (wx : World) (h : Below w3.heap.size w3 wx) => blk4 (((HL3.out.trans (h.mono HL3.out.size)).block w.heap.size hz).trans HK0.out))
    have HQ2 := Lib.hid (fun (wx : World) (h : Below w3.heap.size w3 wx) => blk2 (((hb.trans (h.mono hb.size)).block w1.heap.size hz2).trans HK2.out))
    clear hb hf3 hf3' e0 e1 HC1 HC2
    dsimp only
    obtain ⟨d0, d1, d2, d3, _, _, _⟩ := HQ0.out _ (Below.refl _ _)
    obtain ⟨e0, e1, _, _, _⟩ := HQ2.out _ (Below.refl _ _)
    have HTL : Hid (∀ r, typesL ts q s fs = r → res = typesEnd c r) := Lib.hid fun r h => by rw [← h]; exact HRES.out
    cases hst : q.star with
    | true =>
      have HTS : Hid (typesL ts q s fs = .ok (s.cols.map Col.type)) := Lib.hid (by unfold typesL; rw [hst]; rfl)
      rw [hst] at d0
      clear hst
      go_wp2_with fail
      go_loopw [11, 36] (fun v i wr => ∃ j : Nat, j ≤ s.cols.length ∧ i = .int .i64 j ∧ Below w3.heap.size w3 wr ∧ RowsO w3.heap.size wr 3 1 IntR v ((s.cols.take j).map Col.type)) (fun _ i _ => s.cols.length - (intOf i).toNat)
      case atStart => exact ⟨0, Nat.zero_le _, rfl, Below.refl _ _, RowsO.nil ..⟩
      case round =>
        rename World => wr
        obtain ⟨j, hj, rfl, hbel, hown⟩ := hrel
        have HBR := Lib.hid hbel
        have HBW := Lib.hid (HB3.out.trans (hbel.mono HB3.out.size))
        by_cases hlt : j < s.cols.length
        · rcases (ColsR.keep HC3.out (.bel hbel)).open with ⟨_, h⟩ | ⟨ab, ao, cap', hv', _, hab, _, _, hx⟩
          · rw [h] at hlt; simp at hlt
          simp only [Value.slice.injEq] at hv'
          obtain ⟨rfl, _, rfl⟩ := hv'
          have hxj : s.cols[j]? = some s.cols[j] := List.getElem?_eq_getElem hlt
          obtain ⟨cs, rfl, _, hcs⟩ := hx j _ hxj
          have hmt := map_take (f := Col.type) hxj
          generalize s.cols[j] = x at hxj hcs hmt
          obtain ⟨c0, c1, c2, c3⟩ := hcs.c4
          generalize hl' : (s.cols.take j).map Col.type = l' at hown hmt
          have hll : l'.length = j := by rw [← hl', List.length_map, List.length_take]; omega
          obtain ⟨oa, oc, rfl, _⟩ := hown.shape
          have HOW := Lib.hid hown
          have HMT := Lib.hid hmt
          have HLL : Hid (l'.length + 1 ≤ 17592186044416) := Lib.hid (by have := HSS.out; omega)
          have HLO := Lib.hid hbel.size
          have HBC := Lib.hid ((Below.refl wr.heap.size wr).alloc (Nat.le_refl _) (.cells #[.string x.name, .int .i64 x.type, .bool x.notNull, .bool x.key] 110))
          have HLT := Lib.hid hlt
          have i0 : (0 : Int) ≤ (j : Int) := by omega
          have i1 : (j : Int) < (s.cols.length : Int) := by omega
          clear hx hcs hown hmt hbel hxj hl' hll
          go_wp2_with (at_builtin; (refine wpList_app1 (w := wr.alloc (.cells #[.string x.name, .int .i64 x.type, .bool x.notNull, .bool x.key] 110)) intStable rfl _ _ 28 rfl 3 _ 1 8 Tryd.underlying28 infoInt rfl (by decide) NoM w3.heap.size (.slice oa l'.length oc) (wr.heap.size + 1) #[.int .i64 x.type] l' x.type ?h1 ?h2 ?h3 ?h4 rfl ?h6 ?h7 ?h8 ?h9 ?_); (case h1 => rfl); (case h2 => rfl); (case h3 => (first | rfl | simp)); (case h4 => exact RowsO.kept HOW.out (M := fun _ => False) (.bel HBC.out) (fun _ _ h => h) fun _ _ _ h => h); (case h6 => rfl); (case h7 => (have := HLL.out; omega)); (case h8 => (have := HLL.out; unfold maxLen; omega)); (case h9 => (first | exact HLO.out | (have := HLO.out; simp; omega))); intro v' w9 ho hk; have HO9 := Lib.hid ho; have HK9 := Lib.hid hk; clear ho hk)
          go_roundw
          case rel =>
            have hlt2 := HLT.out
            refine ⟨j + 1, by omega, by go_num, (HBR.out.trans (HBC.out.mono HLO.out)).trans (HK9.out.toBelow (B := w3.heap.size) (by have := HLO.out; simp; omega) fun k hk h => by have := (HOW.out.lt h).1; omega), ?_⟩
            rw [HMT.out]
            exact HO9.out
          case measure =>
            have hlt2 := HLT.out
            simp [intOf]
            omega
        · obtain rfl : j = s.cols.length := by omega
          rw [List.take_length] at hown
          have HOW := Lib.hid hown
          have HLL2 := HTS
          clear hown hbel
          obtain ⟨d0, d1, d2, d3, _, _, _⟩ := HQ0.out _ HBR.out
          obtain ⟨oa, oc, rfl, _⟩ := HOW.out.shape
          by_cases hc0 : c = 0
          · have HR : Hid (res = (s.cols.map Col.type, 0)) := Lib.hid (by rw [HTL.out _ HLL2.out]; unfold typesEnd; simp only [hc0, if_true])
            have HC0 := Lib.hid hc0
            have hcb : (c == 0) = true := by simpa using hc0
            have hcn : (c != 0) = false := by simpa using hc0
            clear hc0
            go_wp2_with fail
            refine (HCD.out _ HBW.out _ (HF3.out.keep (.bel HBR.out))).mono ?_
            rintro e w8 ⟨rfl, hb⟩
            have HB8 := Lib.hid hb
            clear hb
            dsimp only
            go_wp2_with fail
            go_ret2
            rw [HR.out]
            exact ⟨_, rfl, IntsR.keep (HOW.out.rows (M := NoM) fun _ _ _ => id) (.bel HB8.out), HBW.out.trans (HB8.out.mono HBW.out.size)⟩
          · have HR : Hid (res = ([], c)) := Lib.hid (by rw [HTL.out _ HLL2.out]; unfold typesEnd; simp only [if_neg hc0])
            have hcb : (c == 0) = false := by simpa using hc0
            have hcn : (c != 0) = true := by simpa using hc0
            clear hc0
            go_wp2_with fail
            refine (HCD.out _ HBW.out _ (HF3.out.keep (.bel HBR.out))).mono ?_
            rintro e w8 ⟨rfl, hb⟩
            have HB8 := Lib.hid hb
            clear hb
            dsimp only
            go_wp2_with fail
            go_ret2
            rw [HR.out]
            exact types_nil (HBW.out.trans (HB8.out.mono HBW.out.size))
    | false =>
      have HTS : Hid (typesL ts q s fs = typeL ts q.items (fs ++ [frmOf s])) := Lib.hid (by unfold typesL; rw [hst]; rfl)
      rw [hst] at d0
      clear hst
      go_wp2_with fail
      go_loopw [11, 49] (fun v i wr => ∃ (j : Nat) (l' : List Int), j ≤ q.items.length ∧ i = .int .i64 j ∧ Below w3.heap.size w3 wr ∧ l'.length = j ∧ RowsO w3.heap.size wr 3 1 IntR v l' ∧ typeL ts (q.items.take j) (fs ++ [frmOf s]) = .ok l') (fun _ i _ => q.items.length - (intOf i).toNat)
      case atStart => exact ⟨0, [], Nat.zero_le _, rfl, Below.refl _ _, rfl, RowsO.nil .., by simp [typeL]⟩
      case round =>
        rename World => wr
        obtain ⟨j, l', hj, rfl, hbel, hl', hown, hok⟩ := hrel
        have HBR := Lib.hid hbel
        have HBW := Lib.hid (HB3.out.trans (hbel.mono HB3.out.size))
        by_cases hlt : j < q.items.length
        · rcases (ExsR.keep HI.out (.bel HBW.out)).open with ⟨_, h⟩ | ⟨ab, ao, cap', hv', _, hab, _, _, hx⟩
          · rw [h] at hlt; simp at hlt
          simp only [Value.slice.injEq] at hv'
          obtain ⟨rfl, _, rfl⟩ := hv'
          have hxj : q.items[j]? = some q.items[j] := List.getElem?_eq_getElem hlt
          obtain ⟨cs, hc, _, hcs⟩ := hx j _ hxj
          have hmem := List.mem_of_getElem? hxj
          have hst := HST.out j _ l' hxj hok
          generalize q.items[j] = x at hxj hc hmem hst hcs
          have hty := fun o => HTY.out (wr.alloc o) (HBW.out.alloc HBW.out.size o) _ (HF3.out.keep (.bel (HBR.out.alloc HBR.out.size o))) x hmem cs (EC.keep ((Keep.refl NoM wr).alloc o) x cs hc)
          obtain ⟨va, vs, rfl, hva, hvs⟩ := (EC_iff ..).1 hc
          obtain ⟨xa, xac, rfl, _⟩ := hva.shape
          obtain ⟨xs, xsc, rfl, _⟩ := hvs.shape
          obtain ⟨c0, c1, c2, c3, c4, c5, c6, c7, c8, c9⟩ := CellsAt.c10 hcs
          simp only [exCells] at hty
          generalize typeP ts x (fs ++ [frmOf s]) = r at hty hst
          obtain ⟨rt, rc⟩ := r
          simp only [] at hst
          obtain ⟨oa, oc, rfl, _⟩ := hown.shape
          have HTY1 := Lib.hid hty
          have HSTEP := Lib.hid hst
          have HOW := Lib.hid hown
          have HLL : Hid (l'.length + 1 ≤ 17592186044416) := Lib.hid (by have := HLEN.out; omega)
          have HLJ := Lib.hid hl'
          have HLT := Lib.hid hlt
          have i0 : (0 : Int) ≤ (j : Int) := by omega
          have i1 : (j : Int) < (q.items.length : Int) := by omega
          clear hty hst hown hl' hbel hok hx hc hcs hva hvs hxj hmem
          by_cases hr0 : rc = 0
          · subst hr0
            go_wp2_with fail
            refine (HTY1.out _).mono ?_
            rintro e w8 ⟨rfl, hb⟩
            have HBC := Lib.hid (((Below.refl wr.heap.size wr).alloc (Nat.le_refl _) _).trans (hb.mono (by simp)))
            have HLO := Lib.hid (Nat.le_trans HBR.out.size HBC.out.size)
            clear hb
            dsimp only
            go_wp2_with (at_builtin; (refine wpList_app1 (w := w8) intStable rfl _ _ 28 rfl 3 _ 1 8 Tryd.underlying28 infoInt rfl (by decide) NoM w3.heap.size (.slice oa l'.length oc) w8.heap.size #[.int .i64 rt] l' rt ?h1 ?h2 ?h3 ?h4 rfl ?h6 ?h7 ?h8 ?h9 ?_); (case h1 => rfl); (case h2 => rfl); (case h3 => (first | rfl | simp)); (case h4 => exact RowsO.kept HOW.out (M := fun _ => False) (.bel HBC.out) (fun _ _ h => h) fun _ _ _ h => h); (case h6 => rfl); (case h7 => (have := HLL.out; omega)); (case h8 => (have := HLL.out; unfold maxLen; omega)); (case h9 => (first | exact HLO.out | (have := HLO.out; simp; omega))); intro v' w9 ho hk; have HO9 := Lib.hid ho; have HK9 := Lib.hid hk; clear ho hk)
            go_roundw
            case rel =>
              have hlt2 := HLT.out
              exact ⟨j + 1, l' ++ [rt], by omega, by go_num, (HBR.out.trans (HBC.out.mono HBR.out.size)).trans (HK9.out.toBelow (B := w3.heap.size) HLO.out fun k hk h => by have := (HOW.out.lt h).1; omega), by simp [HLJ.out], HO9.out, by rw [HSTEP.out]; rfl⟩
            case measure =>
              have hlt2 := HLT.out
              simp [intOf]
              omega
          · have hb0 : (rc == 0) = false := by simpa using hr0
            have hb1 : (rc != 0) = true := by simpa using hr0
            have HER : Hid (typeL ts q.items (fs ++ [frmOf s]) = .error rc) := Lib.hid (HE.out (j + 1) rc (by rw [HSTEP.out, if_pos hr0]))
            clear hr0
            go_wp2_with fail
            refine (HTY1.out _).mono ?_
            rintro e w8 ⟨rfl, hb⟩
            have HBC := Lib.hid (((Below.refl wr.heap.size wr).alloc (Nat.le_refl _) _).trans (hb.mono (by simp)))
            clear hb
            dsimp only
            go_wp2_with fail
            go_ret2
            rw [HTL.out _ (HTS.out.trans HER.out)]
            exact types_nil (HBW.out.trans (HBC.out.mono HBW.out.size))
        · obtain rfl : j = q.items.length := by omega
          rw [List.take_length] at hok
          have HOW := Lib.hid hown
          have HLL2 := Lib.hid (HTS.out.trans hok)
          clear hown hbel hok hl'
          obtain ⟨d0, d1, d2, d3, _, _, _⟩ := HQ0.out _ HBR.out
          obtain ⟨oa, oc, rfl, _⟩ := HOW.out.shape
          by_cases hc0 : c = 0
          · have HR : Hid (res = (l', 0)) := Lib.hid (by rw [HTL.out _ HLL2.out]; unfold typesEnd; simp only [hc0, if_true])
            have HC0 := Lib.hid hc0
            have hcb : (c == 0) = true := by simpa using hc0
            have hcn : (c != 0) = false := by simpa using hc0
            clear hc0
            go_wp2_with fail
            refine (HCD.out _ HBW.out _ (HF3.out.keep (.bel HBR.out))).mono ?_
            rintro e w8 ⟨rfl, hb⟩
            have HB8 := Lib.hid hb
            clear hb
            dsimp only
            go_wp2_with fail
            go_ret2
            rw [HR.out]
            exact ⟨_, rfl, IntsR.keep (HOW.out.rows (M := NoM) fun _ _ _ => id) (.bel HB8.out), HBW.out.trans (HB8.out.mono HBW.out.size)⟩
          · have HR : Hid (res = ([], c)) := Lib.hid (by rw [HTL.out _ HLL2.out]; unfold typesEnd; simp only [if_neg hc0])
            have hcb : (c == 0) = false := by simpa using hc0
            have hcn : (c != 0) = true := by simpa using hc0
            clear hc0
            go_wp2_with fail
            refine (HCD.out _ HBW.out _ (HF3.out.keep (.bel HBR.out))).mono ?_
            rintro e w8 ⟨rfl, hb⟩
            have HB8 := Lib.hid hb
            clear hb
            dsimp only
            go_wp2_with fail
            go_ret2
            rw [HR.out]
            exact types_nil (HBW.out.trans (HB8.out.mono HBW.out.size))

set_option maxRecDepth 100000 in
set_option maxHeartbeats 20000000 in
theorem rtypes_any (ts : List Sch) (hsm : ColsSmall ts) (q : Qu) (fs : List Frm) (cs : List Value) (vf vt : Value) (w : World) (hq : QC NoM w q cs) (hf : FrmsR NoM w vf fs) (ht : TblsR NoM w vt ts) (hd : fs.length + depQ q ≤ 1000000000) (hlen : q.items.length ≤ 1000000000) :
    Calls Tryd.prog 78 #[.agg cs.toArray, vf, vt] w (TypesPost (typesP ts q fs) w) := by
  obtain ⟨vi', vw, rfl, hi, hw⟩ := (QC_iff ..).1 hq
  obtain ⟨ia, ic, rfl, him⟩ := hi.shape
  obtain ⟨wa, wc, rfl, _⟩ := hw.shape
  unfold maxLen at him
  have hdq : max (depL q.items) (depL q.whr) + 1 = depQ q := (depQ_eq q).symm
  have hfl : fs.length ≤ 999999999 := by omega
  clear hq
  unfold typesP
  rw [sourceP_eq]
  cases hfd : findTbl ts q.frm with
  | none =>
    have hsrc := fun (w' : World) (hb : Below w.heap.size w w') => rsource_none vt ts q.frm w' (ht.keep (.bel hb)) hsm hfd
    have HS := Lib.hid hsrc
    clear hsrc hi hw hf ht hfd
    go_enter Tryd.func78, Tryd.ntmps78
    go_upto_region 1 with fail
    generalize hW : World.alloc w _ = W0
    have hk0 : W0.heap[w.heap.size]? = some (.cells #[.bool q.star, .slice ia q.items.length ic, .string q.frm, .slice wa q.whr.length wc] 37 (0, 0)) := by rw [← hW]; exact heap_alloc_new w _
    have hb0 : Below w.heap.size w W0 := by rw [← hW]; exact (Below.refl _ _).alloc (Nat.le_refl _) _
    have hz : w.heap.size < W0.heap.size := by rw [← hW]; simp
    have HB0 := Lib.hid hb0
    have HK0 := Lib.hid hk0
    obtain ⟨d0, d1, d2, d3, _, _, _⟩ := blk4 hk0
    clear hW hb0 hk0
    go_wp2_with fail
    refine (HS.out _ HB0.out).mono ?_
    rintro e w1 ⟨rfl, hb⟩
    have HB1 := Lib.hid (HB0.out.trans (hb.mono HB0.out.size))
    clear hb
    dsimp only
    go_wp2_with fail
    go_ret2
    exact types_nil (HB1.out.alloc HB1.out.size _)
  | some i =>
    have hlt : i < ts.length := by
      unfold findTbl at hfd
      rw [List.findIdx?_eq_some_iff_getElem] at hfd
      exact hfd.1
    have hsi : ts[i]? = some ts[i] := List.getElem?_eq_getElem hlt
    have hss := hsm ts[i] (List.getElem_mem hlt)
    generalize ts[i] = s at hsi hss
    simp only [hsi]
    have hsrc := fun (w' : World) (hb : Below w.heap.size w w') => rsource_some vt ts q.frm w' i s (ht.keep (.bel hb)) hsm hfd hsi
    have hin := fun (w' : World) (hb : Below w.heap.size w w') vc (hc : ColsR NoM w' vc s.cols) => rinside_any vf vc fs s.name s.cols w' (hf.keep (.bel hb)) hc (by omega)
    have hcd := fun (w' : World) (hb : Below w.heap.size w w') v (hv : FrmsR NoM w' v (fs ++ [frmOf s])) => rcondition_any ts q.whr (fs ++ [frmOf s]) (.slice wa q.whr.length wc) v vt w' (fun x _ => rtype_any ts hsm x) (hw.keep (.bel hb)) hv (ht.keep (.bel hb)) (by simp; omega)
    have hty := fun (w' : World) (hb : Below w.heap.size w w') v (hv : FrmsR NoM w' v (fs ++ [frmOf s])) x (hx : x ∈ q.items) cs (hc : EC NoM w' x cs) => rtype_any ts hsm x (fs ++ [frmOf s]) cs v vt w' hc hv (ht.keep (.bel hb)) (by have := depL_mem hx; simp; omega)
    have HSRC := Lib.hid hsrc
    have HIN := Lib.hid hin
    have HI := Lib.hid hi
    have HTY := Lib.hid hty
    have HSS := Lib.hid hss
    have HLEN := Lib.hid hlen
    have HE := Lib.hid (typeL_error ts (fs ++ [frmOf s]) q.items)
    have HST := Lib.hid (typeL_step ts (fs ++ [frmOf s]) q.items)
    have HP : Hid (∀ c l, TypesPost (typesEnd c (.ok l)) w = TypesPost (if c = 0 then (l, 0) else ([], c)) w) := Lib.hid fun _ _ => rfl
    generalize hcc : typeC ts q.whr (fs ++ [frmOf s]) = c at hcd
    have HCD := Lib.hid hcd
    clear hsrc hin hcd hty hi hw hf ht hfd hsi hss hsm hlen hcc hdq
    generalize hres : typesEnd c (typesL ts q s fs) = res
    have HRES := Lib.hid hres.symm
    clear hres
    go_enter Tryd.func78, Tryd.ntmps78
    go_upto_region 1 with fail
    generalize hW : World.alloc w _ = W0
    have hk0 : W0.heap[w.heap.size]? = some (.cells #[.bool q.star, .slice ia q.items.length ic, .string q.frm, .slice wa q.whr.length wc] 37 (0, 0)) := by rw [← hW]; exact heap_alloc_new w _
    have hb0 : Below w.heap.size w W0 := by rw [← hW]; exact (Below.refl _ _).alloc (Nat.le_refl _) _
    have hz : w.heap.size < W0.heap.size := by rw [← hW]; simp
    have HB0 := Lib.hid hb0
    have HK0 := Lib.hid hk0
    obtain ⟨d0, d1, d2, d3, _, _, _⟩ := blk4 hk0
    clear hW hb0 hk0
    go_wp2_with fail
    refine (HSRC.out _ HB0.out).mono ?_
    rintro e w1 ⟨vc, rfl, hc, hb⟩
    obtain ⟨ca, cc, rfl, hcm⟩ := hc.shape
    unfold maxLen at hcm
    have HB1 := Lib.hid (HB0.out.trans (hb.mono HB0.out.size))
    have HL1 := Lib.hid hb
    have HC1 := Lib.hid (hc.weak (M' := NoM) fun _ _ h => h.elim)
    clear hb hc d0 d1 d2 d3
    dsimp only
    go_upto_region 4 with fail
    generalize hW2 : World.alloc w1 _ = W2
    have hk2 : W2.heap[w1.heap.size]? = some (.cells #[.string s.name, .slice ca s.cols.length cc] 98 (0, 0)) := by rw [← hW2]; exact heap_alloc_new w1 _
    have hb2 : Below w1.heap.size w1 W2 := by rw [← hW2]; exact (Below.refl _ _).alloc (Nat.le_refl _) _
    have hz2 : w1.heap.size < W2.heap.size := by rw [← hW2]; simp
    have HB2 := Lib.hid (HB1.out.trans (hb2.mono HB1.out.size))
    have HL2 := Lib.hid (HL1.out.trans (hb2.mono HL1.out.size))
    have HC2 := Lib.hid (ColsR.keep HC1.out (.bel hb2))
    have HK2 := Lib.hid hk2
    obtain ⟨e0, e1, _, _, _⟩ := blk2 hk2
    clear hW2 hb2 hk2
    go_wp2_with fail
    refine (HIN.out _ HB2.out _ HC2.out).mono ?_
    rintro e w3 ⟨v3, rfl, hf3, hb⟩
    have hf3' : FrmsR NoM w3 v3 (fs ++ [frmOf s]) := hf3
    have HB3 := Lib.hid (HB2.out.trans (hb.mono HB2.out.size))
    have HL3 := Lib.hid (HL2.out.trans (hb.mono HL2.out.size))
    have HF3 := Lib.hid hf3'
    have HC3 := Lib.hid (ColsR.keep HC2.out (.bel hb))
    have HQ0 := Lib.hid (fun (wx : World) (h : Below w3.heap.size w3 wx) => blk4 (((HL3.out.trans (h.mono HL3.out.size)).block w.heap.size hz).trans HK0.out))
    have HQ2 := Lib.hid (fun (wx : World) (h : Below w3.heap.size w3 wx) => blk2 (((hb.trans (h.mono hb.size)).block w1.heap.size hz2).trans HK2.out))
    clear hb hf3 hf3' e0 e1 HC1 HC2
    dsimp only
    obtain ⟨d0, d1, d2, d3, _, _, _⟩ := HQ0.out _ (Below.refl _ _)
    obtain ⟨e0, e1, _, _, _⟩ := HQ2.out _ (Below.refl _ _)
    have HTL : Hid (∀ r, typesL ts q s fs = r → res = typesEnd c r) := Lib.hid fun r h => by rw [← h]; exact HRES.out
    cases hst : q.star with
    | true =>
      have HTS : Hid (typesL ts q s fs = .ok (s.cols.map Col.type)) := Lib.hid (by unfold typesL; rw [hst]; rfl)
      rw [hst] at d0
      clear hst
      go_wp2_with fail
      go_loopw [11, 36] (fun v i wr => ∃ j : Nat, j ≤ s.cols.length ∧ i = .int .i64 j ∧ Below w3.heap.size w3 wr ∧ RowsO w3.heap.size wr 3 1 IntR v ((s.cols.take j).map Col.type)) (fun _ i _ => s.cols.length - (intOf i).toNat)
      case atStart => exact ⟨0, Nat.zero_le _, rfl, Below.refl _ _, RowsO.nil ..⟩
      case round =>
        rename World => wr
        obtain ⟨j, hj, rfl, hbel, hown⟩ := hrel
        have HBR := Lib.hid hbel
        have HBW := Lib.hid (HB3.out.trans (hbel.mono HB3.out.size))
        by_cases hlt : j < s.cols.length
        · rcases (ColsR.keep HC3.out (.bel hbel)).open with ⟨_, h⟩ | ⟨ab, ao, cap', hv', _, hab, _, _, hx⟩
          · rw [h] at hlt; simp at hlt
          simp only [Value.slice.injEq] at hv'
          obtain ⟨rfl, _, rfl⟩ := hv'
          have hxj : s.cols[j]? = some s.cols[j] := List.getElem?_eq_getElem hlt
          obtain ⟨cs, rfl, _, hcs⟩ := hx j _ hxj
          have hmt := map_take (f := Col.type) hxj
          generalize s.cols[j] = x at hxj hcs hmt
          obtain ⟨c0, c1, c2, c3⟩ := hcs.c4
          generalize hl' : (s.cols.take j).map Col.type = l' at hown hmt
          have hll : l'.length = j := by rw [← hl', List.length_map, List.length_take]; omega
          obtain ⟨oa, oc, rfl, _⟩ := hown.shape
          have HOW := Lib.hid hown
          have HMT := Lib.hid hmt
          have HLL : Hid (l'.length + 1 ≤ 17592186044416) := Lib.hid (by have := HSS.out; omega)
          have HLO := Lib.hid hbel.size
          have HBC := Lib.hid ((Below.refl wr.heap.size wr).alloc (Nat.le_refl _) (.cells #[.string x.name, .int .i64 x.type, .bool x.notNull, .bool x.key] 110))
          have HLT := Lib.hid hlt
          have i0 : (0 : Int) ≤ (j : Int) := by omega
          have i1 : (j : Int) < (s.cols.length : Int) := by omega
          clear hx hcs hown hmt hbel hxj hl' hll
          go_wp2_with (at_builtin; (refine wpList_app1 (w := wr.alloc (.cells #[.string x.name, .int .i64 x.type, .bool x.notNull, .bool x.key] 110)) intStable rfl _ _ 28 rfl 3 _ 1 8 Tryd.underlying28 infoInt rfl (by decide) NoM w3.heap.size (.slice oa l'.length oc) (wr.heap.size + 1) #[.int .i64 x.type] l' x.type ?h1 ?h2 ?h3 ?h4 rfl ?h6 ?h7 ?h8 ?h9 ?_); (case h1 => rfl); (case h2 => rfl); (case h3 => (first | rfl | simp)); (case h4 => exact RowsO.kept HOW.out (M := fun _ => False) (.bel HBC.out) (fun _ _ h => h) fun _ _ _ h => h); (case h6 => rfl); (case h7 => (have := HLL.out; omega)); (case h8 => (have := HLL.out; unfold maxLen; omega)); (case h9 => (first | exact HLO.out | (have := HLO.out; simp; omega))); intro v' w9 ho hk; have HO9 := Lib.hid ho; have HK9 := Lib.hid hk; clear ho hk)
          go_roundw
          case rel =>
            have hlt2 := HLT.out
            refine ⟨j + 1, by omega, by go_num, (HBR.out.trans (HBC.out.mono HLO.out)).trans (HK9.out.toBelow (B := w3.heap.size) (by have := HLO.out; simp; omega) fun k hk h => by have := (HOW.out.lt h).1; omega), ?_⟩
            rw [HMT.out]
            exact HO9.out
          case measure =>
            have hlt2 := HLT.out
            simp [intOf]
            omega
        · obtain rfl : j = s.cols.length := by omega
          rw [List.take_length] at hown
          have HOW := Lib.hid hown
          have HLL2 := HTS
          clear hown hbel
          obtain ⟨d0, d1, d2, d3, _, _, _⟩ := HQ0.out _ HBR.out
          obtain ⟨oa, oc, rfl, _⟩ := HOW.out.shape
          by_cases hc0 : c = 0
          · have HR : Hid (res = (s.cols.map Col.type, 0)) := Lib.hid (by rw [HTL.out _ HLL2.out]; unfold typesEnd; simp only [hc0, if_true])
            have HC0 := Lib.hid hc0
            have hcb : (c == 0) = true := by simpa using hc0
            have hcn : (c != 0) = false := by simpa using hc0
            clear hc0
            go_wp2_with fail
            refine (HCD.out _ HBW.out _ (HF3.out.keep (.bel HBR.out))).mono ?_
            rintro e w8 ⟨rfl, hb⟩
            have HB8 := Lib.hid hb
            clear hb
            dsimp only
            go_wp2_with fail
            go_ret2
            rw [HR.out]
            exact ⟨_, rfl, IntsR.keep (HOW.out.rows (M := NoM) fun _ _ _ => id) (.bel HB8.out), HBW.out.trans (HB8.out.mono HBW.out.size)⟩
          · have HR : Hid (res = ([], c)) := Lib.hid (by rw [HTL.out _ HLL2.out]; unfold typesEnd; simp only [if_neg hc0])
            have hcb : (c == 0) = false := by simpa using hc0
            have hcn : (c != 0) = true := by simpa using hc0
            clear hc0
            go_wp2_with fail
            refine (HCD.out _ HBW.out _ (HF3.out.keep (.bel HBR.out))).mono ?_
            rintro e w8 ⟨rfl, hb⟩
            have HB8 := Lib.hid hb
            clear hb
            dsimp only
            go_wp2_with fail
            go_ret2
            rw [HR.out]
            exact types_nil (HBW.out.trans (HB8.out.mono HBW.out.size))
    | false =>
      have HTS : Hid (typesL ts q s fs = typeL ts q.items (fs ++ [frmOf s])) := Lib.hid (by unfold typesL; rw [hst]; rfl)
      rw [hst] at d0
      clear hst
      go_wp2_with fail
      go_loopw [11, 49] (fun v i wr => ∃ (j : Nat) (l' : List Int), j ≤ q.items.length ∧ i = .int .i64 j ∧ Below w3.heap.size w3 wr ∧ l'.length = j ∧ RowsO w3.heap.size wr 3 1 IntR v l' ∧ typeL ts (q.items.take j) (fs ++ [frmOf s]) = .ok l') (fun _ i _ => q.items.length - (intOf i).toNat)
      case atStart => exact ⟨0, [], Nat.zero_le _, rfl, Below.refl _ _, rfl, RowsO.nil .., by simp [typeL]⟩
      case round =>
        rename World => wr
        obtain ⟨j, l', hj, rfl, hbel, hl', hown, hok⟩ := hrel
        have HBR := Lib.hid hbel
        have HBW := Lib.hid (HB3.out.trans (hbel.mono HB3.out.size))
        by_cases hlt : j < q.items.length
        · rcases (ExsR.keep HI.out (.bel HBW.out)).open with ⟨_, h⟩ | ⟨ab, ao, cap', hv', _, hab, _, _, hx⟩
          · rw [h] at hlt; simp at hlt
          simp only [Value.slice.injEq] at hv'
          obtain ⟨rfl, _, rfl⟩ := hv'
          have hxj : q.items[j]? = some q.items[j] := List.getElem?_eq_getElem hlt
          obtain ⟨cs, hc, _, hcs⟩ := hx j _ hxj
          have hmem := List.mem_of_getElem? hxj
          have hst := HST.out j _ l' hxj hok
          generalize q.items[j] = x at hxj hc hmem hst hcs
          have hty := fun o => HTY.out (wr.alloc o) (HBW.out.alloc HBW.out.size o) _ (HF3.out.keep (.bel (HBR.out.alloc HBR.out.size o))) x hmem cs (EC.keep ((Keep.refl NoM wr).alloc o) x cs hc)
          obtain ⟨va, vs, rfl, hva, hvs⟩ := (EC_iff ..).1 hc
          obtain ⟨xa, xac, rfl, _⟩ := hva.shape
          obtain ⟨xs, xsc, rfl, _⟩ := hvs.shape
          obtain ⟨c0, c1, c2, c3, c4, c5, c6, c7, c8, c9⟩ := CellsAt.c10 hcs
          simp only [exCells] at hty
          generalize typeP ts x (fs ++ [frmOf s]) = r at hty hst
          obtain ⟨rt, rc⟩ := r
          simp only [] at hst
          obtain ⟨oa, oc, rfl, _⟩ := hown.shape
          have HTY1 := Lib.hid hty
          have HSTEP := Lib.hid hst
          have HOW := Lib.hid hown
          have HLL : Hid (l'.length + 1 ≤ 17592186044416) := Lib.hid (by have := HLEN.out; omega)
          have HLJ := Lib.hid hl'
          have HLT := Lib.hid hlt
          have i0 : (0 : Int) ≤ (j : Int) := by omega
          have i1 : (j : Int) < (q.items.length : Int) := by omega
          clear hty hst hown hl' hbel hok hx hc hcs hva hvs hxj hmem
          by_cases hr0 : rc = 0
          · subst hr0
            go_wp2_with fail
            refine (HTY1.out _).mono ?_
            rintro e w8 ⟨rfl, hb⟩
            have HBC := Lib.hid (((Below.refl wr.heap.size wr).alloc (Nat.le_refl _) _).trans (hb.mono (by simp)))
            have HLO := Lib.hid (Nat.le_trans HBR.out.size HBC.out.size)
            clear hb
            dsimp only
            go_wp2_with (at_builtin; (refine wpList_app1 (w := w8) intStable rfl _ _ 28 rfl 3 _ 1 8 Tryd.underlying28 infoInt rfl (by decide) NoM w3.heap.size (.slice oa l'.length oc) w8.heap.size #[.int .i64 rt] l' rt ?h1 ?h2 ?h3 ?h4 rfl ?h6 ?h7 ?h8 ?h9 ?_); (case h1 => rfl); (case h2 => rfl); (case h3 => (first | rfl | simp)); (case h4 => exact RowsO.kept HOW.out (M := fun _ => False) (.bel HBC.out) (fun _ _ h => h) fun _ _ _ h => h); (case h6 => rfl); (case h7 => (have := HLL.out; omega)); (case h8 => (have := HLL.out; unfold maxLen; omega)); (case h9 => (first | exact HLO.out | (have := HLO.out; simp; omega))); intro v' w9 ho hk; have HO9 := Lib.hid ho; have HK9 := Lib.hid hk; clear ho hk)
            go_roundw
            case rel =>
              have hlt2 := HLT.out
              exact ⟨j + 1, l' ++ [rt], by omega, by go_num, (HBR.out.trans (HBC.out.mono HBR.out.size)).trans (HK9.out.toBelow (B := w3.heap.size) HLO.out fun k hk h => by have := (HOW.out.lt h).1; omega), by simp [HLJ.out], HO9.out, by rw [HSTEP.out]; rfl⟩
            case measure =>
              have hlt2 := HLT.out
              simp [intOf]
              omega
          · have hb0 : (rc == 0) = false := by simpa using hr0
            have hb1 : (rc != 0) = true := by simpa using hr0
            have HER : Hid (typeL ts q.items (fs ++ [frmOf s]) = .error rc) := Lib.hid (HE.out (j + 1) rc (by rw [HSTEP.out, if_pos hr0]))
            clear hr0
            go_wp2_with fail
            refine (HTY1.out _).mono ?_
            rintro e w8 ⟨rfl, hb⟩
            have HBC := Lib.hid (((Below.refl wr.heap.size wr).alloc (Nat.le_refl _) _).trans (hb.mono (by simp)))
            clear hb
            dsimp only
            go_wp2_with fail
            go_ret2
            rw [HTL.out _ (HTS.out.trans HER.out)]
            exact types_nil (HBW.out.trans (HBC.out.mono HBW.out.size))
        · obtain rfl : j = q.items.length := by omega
          rw [List.take_length] at hok
          have HOW := Lib.hid hown
          have HLL2 := Lib.hid (HTS.out.trans hok)
          clear hown hbel hok hl'
          obtain ⟨d0, d1, d2, d3, _, _, _⟩ := HQ0.out _ HBR.out
          obtain ⟨oa, oc, rfl, _⟩ := HOW.out.shape
          by_cases hc0 : c = 0
          · have HR : Hid (res = (l', 0)) := Lib.hid (by rw [HTL.out _ HLL2.out]; unfold typesEnd; simp only [hc0, if_true])
            have HC0 := Lib.hid hc0
            have hcb : (c == 0) = true := by simpa using hc0
            have hcn : (c != 0) = false := by simpa using hc0
            clear hc0
            go_wp2_with fail
            refine (HCD.out _ HBW.out _ (HF3.out.keep (.bel HBR.out))).mono ?_
            rintro e w8 ⟨rfl, hb⟩
            have HB8 := Lib.hid hb
            clear hb
            dsimp only
            go_wp2_with fail
            go_ret2
            rw [HR.out]
            exact ⟨_, rfl, IntsR.keep (HOW.out.rows (M := NoM) fun _ _ _ => id) (.bel HB8.out), HBW.out.trans (HB8.out.mono HBW.out.size)⟩
          · have HR : Hid (res = ([], c)) := Lib.hid (by rw [HTL.out _ HLL2.out]; unfold typesEnd; simp only [if_neg hc0])
            have hcb : (c == 0) = false := by simpa using hc0
            have hcn : (c != 0) = true := by simpa using hc0
            clear hc0
            go_wp2_with fail
            refine (HCD.out _ HBW.out _ (HF3.out.keep (.bel HBR.out))).mono ?_
            rintro e w8 ⟨rfl, hb⟩
            have HB8 := Lib.hid hb
            clear hb
            dsimp only
            go_wp2_with fail
            go_ret2
            rw [HR.out]
            exact types_nil (HBW.out.trans (HB8.out.mono HBW.out.size))
end Go.Proofs.YtppiaaolggpjdaaDoor
