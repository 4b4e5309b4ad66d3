/- The comparison of types: contracts of slices.Equal of numbers and of the statement's own types. -/
import Derived.Test.YtppiaaolggpjdaaDoorZ4
import Derived.Deep.RegionHeld3
import Derived.BigQuiet
import Derived.Deep.QuietTactic
namespace Go.Proofs.YtppiaaolggpjdaaDoor
open Go.RowKit

set_option maxHeartbeats 1000000 in
theorem equalInt_same {M : Nat → Prop} (va vb : Value) (l : List Int) (w : World) (ha : IntsR M w va l) (hb : IntsR M w vb l) : Calls Tryd.prog 79 #[va, vb] w (RetBel (.bool true) w) := by
  have HA := Lib.hid ha
  have HB := Lib.hid hb
  obtain ⟨a1, c1, rfl, hm⟩ := ha.shape
  obtain ⟨a2, c2, rfl, _⟩ := hb.shape
  unfold maxLen at hm
  clear ha hb
  go_enter Tryd.func79, Tryd.ntmps79
  go_wp2_with fail
  go_loopw [13] (fun i wr => ∃ j k : Nat, j ≤ l.length ∧ i = .int .i64 j ∧ w.drewN k = wr) (fun i _ => l.length - (intOf i).toNat)
  case atStart => exact ⟨0, 0, Nat.zero_le _, rfl, rfl⟩
  case round =>
    obtain ⟨j, k, hj, rfl, rfl⟩ := hrel
    by_cases hlt : j < l.length
    · have hxj : l[j]? = some l[j] := List.getElem?_eq_getElem hlt
      rcases HA.out.open with ⟨h, h'⟩ | ⟨b1, o1, cap1, hv1, _, _, hl1, _, hx1⟩
      · subst h'; simp at hlt
      rcases HB.out.open with ⟨h, h'⟩ | ⟨b2, o2, cap2, hv2, _, _, hl2, _, hx2⟩
      · subst h'; simp at hlt
      simp only [Value.slice.injEq] at hv1 hv2
      obtain ⟨rfl, _, rfl⟩ := hv1
      obtain ⟨rfl, _, rfl⟩ := hv2
      obtain ⟨cs1, rfl, _, hc1⟩ := hx1 j _ hxj
      obtain ⟨cs2, rfl, _, hc2⟩ := hx2 j _ hxj
      generalize l[j] = c at hc1 hc2
      have p0 := hc1.c1
      have q0 := hc2.c1
      rw [Nat.mul_one] at p0 q0
      have i1 : (0 : Int) ≤ (j : Int) := by omega
      have i2 : (j : Int) < (l.length : Int) := by omega
      clear hx1 hx2 hc1 hc2 hxj
      go_wp2_with fail
      go_quiet (fail)
      go_wp2_with fail
      go_roundw
      case rel => exact ⟨j + 1, _, by omega, by go_num, rfl⟩
      case measure => simp [intOf]; omega
    · go_wp2_with fail
      go_ret
      exact ⟨rfl, drewN_below (Below.refl _ _) k⟩

set_option maxRecDepth 100000 in
set_option maxHeartbeats 40000000 in
theorem lawTypes_any (ts : List Sch) (hsm : ColsSmall ts) (e : Ex) (q : Qu) (fs : List Frm) (ce cq : List Value) (vf vt : Value) (w : World) (he : EC NoM w e ce) (hq : QC NoM w q cq) (hf : FrmsR NoM w vf fs) (ht : TblsR NoM w vt ts) (hd : fs.length + dep e ≤ 1000000000) (hdq : fs.length + depQ q ≤ 1000000000) (hlen : q.items.length ≤ 1000000000) :
    Calls Tryd.prog 22 #[.agg ce.toArray, .agg cq.toArray, vf, vt] w (RetBel (.bool true) w) := by
  have hty := fun (w' : World) (hb : Below w.heap.size w w') => type_any ts hsm e fs ce vf vt w' (EC.keep (.bel hb) e ce he) (hf.keep (.bel hb)) (ht.keep (.bel hb)) hd
  have hrty := fun (w' : World) (hb : Below w.heap.size w w') => rtype_any ts hsm e fs ce vf vt w' (EC.keep (.bel hb) e ce he) (hf.keep (.bel hb)) (ht.keep (.bel hb)) hd
  have hts := fun (w' : World) (hb : Below w.heap.size w w') => types_any ts hsm q fs cq vf vt w' (QC.keep (.bel hb) hq) (hf.keep (.bel hb)) (ht.keep (.bel hb)) hdq hlen
  have hrts := fun (w' : World) (hb : Below w.heap.size w w') => rtypes_any ts hsm q fs cq vf vt w' (QC.keep (.bel hb) hq) (hf.keep (.bel hb)) (ht.keep (.bel hb)) hdq hlen
  have hde : fs.length + depL [e] ≤ 1000000000 := by rw [depL, depL]; omega
  have hc1 := fun (w' : World) (hb : Below w.heap.size w w') v (hv : ExsR NoM w' v [e]) => condition_any ts [e] fs v vf vt w' (fun x _ => type_any ts hsm x) hv (hf.keep (.bel hb)) (ht.keep (.bel hb)) hde
  have hc2 := fun (w' : World) (hb : Below w.heap.size w w') v (hv : ExsR NoM w' v [e]) => rcondition_any ts [e] fs v vf vt w' (fun x _ => rtype_any ts hsm x) hv (hf.keep (.bel hb)) (ht.keep (.bel hb)) hde
  have hc0 := fun (w' : World) (hb : Below w.heap.size w w') => condition_any ts [] fs (.slice none 0 0) vf vt w' (fun x h => by cases h) (RowsR.nil ..) (hf.keep (.bel hb)) (ht.keep (.bel hb)) (by rw [depL]; omega)
  rw [show typeC ts [] fs = 0 by rw [typeC]] at hc0
  have hec := fun (w' : World) (hb : Below w.heap.size w w') => EC.keep (M := NoM) (.bel hb) e ce he
  obtain ⟨va, vs, rfl, ha, hs⟩ := (EC_iff ..).1 he
  obtain ⟨a, ac, rfl, _⟩ := ha.shape
  obtain ⟨s, sc, rfl, _⟩ := hs.shape
  obtain ⟨vi', vw, rfl, hi, hw⟩ := (QC_iff ..).1 hq
  obtain ⟨ia, ic, rfl, _⟩ := hi.shape
  obtain ⟨wa, wc, rfl, _⟩ := hw.shape
  simp only [exCells] at hty hrty hec ⊢
  generalize typeP ts e fs = r at hty hrty
  generalize typesP ts q fs = rq at hts hrts
  generalize typeC ts [e] fs = c at hc1 hc2
  obtain ⟨rt, rc⟩ := r
  obtain ⟨tl, tc⟩ := rq
  have HTY := Lib.hid hty
  have HRTY := Lib.hid hrty
  have HTS := Lib.hid hts
  have HRTS := Lib.hid hrts
  have HCC1 := Lib.hid hc1
  have HCC2 := Lib.hid hc2
  have HCC0 := Lib.hid hc0
  have HEC0 := Lib.hid hec
  clear hty hrty hts hrts hc1 hc2 hc0 hec he hq hf ht hd hdq hlen ha hs hi hw hde hsm
  go_enter Tryd.func22, Tryd.ntmps22
  go_upto_region 1 with fail
  generalize hW : ((w.alloc _).alloc _) = W0
  have hk0 : W0.heap[w.heap.size]? = some (.cells #[.int .i64 e.kind, .int .i64 e.op, .bool e.no, .int .i64 e.val.kind, .int .i64 e.val.int, .string e.val.text, .string e.table, .string e.name, .slice a e.args.length ac, .slice s e.sub.length sc] 27 (0, 0)) := by rw [← hW]; exact (heap_alloc_old _ _ (by simp)).trans (heap_alloc_new w _)
  have hk1 : W0.heap[w.heap.size + 1]? = some (.cells #[.bool q.star, .slice ia q.items.length ic, .string q.frm, .slice wa q.whr.length wc] 37 (0, 0)) := by rw [← hW]; exact heap_new1
  have hb0 : Below w.heap.size w W0 := by rw [← hW]; exact ((Below.refl _ _).alloc (Nat.le_refl _) _).alloc (by simp) _
  have hz : w.heap.size + 1 < W0.heap.size := (Array.getElem?_eq_some_iff.1 hk1).1
  have HB0 := Lib.hid hb0
  have HQ0 := Lib.hid (fun (wx : World) (h : Below W0.heap.size W0 wx) => blk10 ((h.block w.heap.size (by omega)).trans hk0))
  have HQ1 := Lib.hid (fun (wx : World) (h : Below W0.heap.size W0 wx) => blk4 ((h.block (w.heap.size + 1) hz).trans hk1))
  clear hW hb0 hk0 hk1
  obtain ⟨x0, x1, x2, x3, x4, x5, x6, x7, x8, x9, xf, _⟩ := HQ0.out _ (Below.refl _ _)
  go_wp2_with fail
  refine (HTY.out _ HB0.out).mono ?_
  rintro e1 w1 ⟨rfl, hb⟩
  have HL1 := Lib.hid hb
  have HB1 := Lib.hid (HB0.out.trans (hb.mono HB0.out.size))
  clear hb x0 x1 x2 x3 x4 x5 x6 x7 x8 x9 xf
  obtain ⟨x0, x1, x2, x3, x4, x5, x6, x7, x8, x9, xf, _⟩ := HQ0.out _ HL1.out
  dsimp only
  go_wp2_with fail
  refine (HRTY.out _ HB1.out).mono ?_
  rintro e1 w2 ⟨rfl, hb⟩
  have HL2 := Lib.hid (HL1.out.trans (hb.mono HL1.out.size))
  have HB2 := Lib.hid (HB1.out.trans (hb.mono HB1.out.size))
  clear hb x0 x1 x2 x3 x4 x5 x6 x7 x8 x9 xf HL1
  obtain ⟨d0, d1, d2, d3, _, _, _⟩ := HQ1.out _ HL2.out
  dsimp only
  go_wp2_with fail
  refine (HTS.out _ HB2.out).mono ?_
  rintro e1 w3 ⟨v3, rfl, hv3, hb⟩
  have HL3 := Lib.hid (HL2.out.trans (hb.mono HL2.out.size))
  have HB3 := Lib.hid (HB2.out.trans (hb.mono HB2.out.size))
  have HV3 := Lib.hid hv3
  clear hb hv3 d0 d1 d2 d3
  obtain ⟨d0, d1, d2, d3, _, _, _⟩ := HQ1.out _ HL3.out
  dsimp only
  go_wp2_with fail
  refine (HRTS.out _ HB3.out).mono ?_
  rintro e1 W5 ⟨v5, rfl, hv5, hb⟩
  have HL5 := Lib.hid (HL3.out.trans (hb.mono HL3.out.size))
  have HB5 := Lib.hid (HB3.out.trans (hb.mono HB3.out.size))
  have HL1 : Hid (∀ wx, Below W5.heap.size W5 wx → IntsR NoM wx v3 tl) := Lib.hid fun wx h => IntsR.keep (IntsR.keep HV3.out (.bel hb)) (.bel h)
  have HL2' : Hid (∀ wx, Below W5.heap.size W5 wx → IntsR NoM wx v5 tl) := Lib.hid fun wx h => IntsR.keep hv5 (.bel h)
  clear HL2
  have HL2 := HL2'
  have HC1 := Lib.hid (fun (wx : World) (h : Below W5.heap.size W5 wx) => HCC1.out wx (HB5.out.trans (h.mono HB5.out.size)))
  have HC2 := Lib.hid (fun (wx : World) (h : Below W5.heap.size W5 wx) => HCC2.out wx (HB5.out.trans (h.mono HB5.out.size)))
  have HC0 := Lib.hid (fun (wx : World) (h : Below W5.heap.size W5 wx) => HCC0.out wx (HB5.out.trans (h.mono HB5.out.size)))
  have HEC := Lib.hid (fun (wx : World) (h : Below W5.heap.size W5 wx) => HEC0.out wx (HB5.out.trans (h.mono HB5.out.size)))
  have HSQ : Hid (∀ w', Below W5.heap.size W5 w' → w'.cell? ⟨w.heap.size, 0, none⟩ = some (.int .i64 e.kind) ∧ w'.cell? ⟨w.heap.size, 1, none⟩ = some (.int .i64 e.op) ∧ w'.cell? ⟨w.heap.size, 2, none⟩ = some (.bool e.no) ∧ w'.cell? ⟨w.heap.size, 3, none⟩ = some (.int .i64 e.val.kind) ∧ w'.cell? ⟨w.heap.size, 4, none⟩ = some (.int .i64 e.val.int) ∧ w'.cell? ⟨w.heap.size, 5, none⟩ = some (.string e.val.text) ∧ w'.cell? ⟨w.heap.size, 6, none⟩ = some (.string e.table) ∧ w'.cell? ⟨w.heap.size, 7, none⟩ = some (.string e.name) ∧ w'.cell? ⟨w.heap.size, 8, none⟩ = some (.slice a e.args.length ac) ∧ w'.cell? ⟨w.heap.size, 9, none⟩ = some (.slice s e.sub.length sc)) := Lib.hid fun wx h => by
    obtain ⟨x0, x1, x2, x3, x4, x5, x6, x7, x8, x9, _, _⟩ := HQ0.out wx (HL5.out.trans (h.mono HL5.out.size))
    exact ⟨x0, x1, x2, x3, x4, x5, x6, x7, x8, x9⟩
  clear hb hv5 d0 d1 d2 d3 HCC1 HCC2 HCC0 HEC0 HV3 HTY HRTY HTS HRTS HL3 HB3 HB2 HB1 HB0 HL2'
  dsimp only
  go_upto_region 5 with fail
  refine wp_region_noPanic ?_
  refine wp_region_held_drew (S := fun w' => w'.cell? ⟨w.heap.size, 0, none⟩ = some (.int .i64 e.kind) ∧ w'.cell? ⟨w.heap.size, 1, none⟩ = some (.int .i64 e.op) ∧ w'.cell? ⟨w.heap.size, 2, none⟩ = some (.bool e.no) ∧ w'.cell? ⟨w.heap.size, 3, none⟩ = some (.int .i64 e.val.kind) ∧ w'.cell? ⟨w.heap.size, 4, none⟩ = some (.int .i64 e.val.int) ∧ w'.cell? ⟨w.heap.size, 5, none⟩ = some (.string e.val.text) ∧ w'.cell? ⟨w.heap.size, 6, none⟩ = some (.string e.table) ∧ w'.cell? ⟨w.heap.size, 7, none⟩ = some (.string e.name) ∧ w'.cell? ⟨w.heap.size, 8, none⟩ = some (.slice a e.args.length ac) ∧ w'.cell? ⟨w.heap.size, 9, none⟩ = some (.slice s e.sub.length sc)) (by kernel_rfl) (HSQ.out _ (drew_below (Below.refl _ _))) (fun hHeld => ?_)
  refine wpAnyH_take (i := 0) (v := _) rfl (by kernel_rfl) (by kernel_rfl) (by kernel_rfl) (fun _ _ _ h => h) (Or.inl ⟨by rfl, by (intro w hSw; (try dsimp only at hSw); go_simp; (try with_reducible rfl))⟩) (by assumption) ?_
  simp only [Act.put, List.getElem_toArray, List.getElem_cons_zero, List.setIfInBounds_toArray, List.set_cons_zero, List.set_cons_succ]
  refine wpAnyH_take (i := 1) (v := _) rfl (by kernel_rfl) (by kernel_rfl) (by kernel_rfl) (fun _ _ _ h => h) (Or.inl ⟨by rfl, by (intro w hSw; (try dsimp only at hSw); go_simp; (try with_reducible rfl))⟩) (by assumption) ?_
  simp only [Act.put, List.getElem_toArray, List.getElem_cons_succ, List.getElem_cons_zero, List.setIfInBounds_toArray, List.set_cons_zero, List.set_cons_succ]
  refine wpAnyH_take (i := 2) (v := .bool true) rfl (by kernel_rfl) (by kernel_rfl) (by kernel_rfl) (fun _ _ _ h => h) (Or.inl ⟨by rfl, by (intro w hSw; (try dsimp only at hSw); go_simp; (try with_reducible rfl))⟩) (by assumption) ?_
  simp only [Act.put, List.getElem_toArray, List.getElem_cons_succ, List.getElem_cons_zero, List.setIfInBounds_toArray, List.set_cons_zero, List.set_cons_succ]
  refine wpAnyH_take (i := 3) (v := _) rfl (by kernel_rfl) (by kernel_rfl) (by kernel_rfl) (fun _ _ _ h => h) (Or.inl ⟨by rfl, by (intro w hSw; (try dsimp only at hSw); go_simp; (try with_reducible rfl))⟩) (by assumption) ?_
  simp only [Act.put, List.getElem_toArray, List.getElem_cons_succ, List.getElem_cons_zero, List.setIfInBounds_toArray, List.set_cons_zero, List.set_cons_succ]
  refine wpAnyH_take (i := 4) (v := _) rfl (by kernel_rfl) (by kernel_rfl) (by kernel_rfl) (fun _ _ _ h => h) (Or.inl ⟨by rfl, by (intro w hSw; (try dsimp only at hSw); go_simp; (try with_reducible rfl))⟩) (by assumption) ?_
  simp only [Act.put, List.getElem_toArray, List.getElem_cons_succ, List.getElem_cons_zero, List.setIfInBounds_toArray, List.set_cons_zero, List.set_cons_succ]
  refine wpAnyH_take (i := 5) (v := _) rfl (by kernel_rfl) (by kernel_rfl) (by kernel_rfl) (fun _ _ _ h => h) (Or.inl ⟨by rfl, by (intro w hSw; (try dsimp only at hSw); go_simp; (try with_reducible rfl))⟩) (by assumption) ?_
  simp only [Act.put, List.getElem_toArray, List.getElem_cons_succ, List.getElem_cons_zero, List.setIfInBounds_toArray, List.set_cons_zero, List.set_cons_succ]
  refine wpAnyH_take (i := 6) (v := .bool true) rfl (by kernel_rfl) (by kernel_rfl) (by kernel_rfl) (fun _ _ _ h => h) (Or.inl ⟨by rfl, by (intro w hSw; (try dsimp only at hSw); go_simp; (try with_reducible rfl))⟩) (by assumption) ?_
  simp only [Act.put, List.getElem_toArray, List.getElem_cons_succ, List.getElem_cons_zero, List.setIfInBounds_toArray, List.set_cons_zero, List.set_cons_succ]
  refine wpAnyH_take (i := 7) (v := _) rfl (by kernel_rfl) (by kernel_rfl) (by kernel_rfl) (fun _ _ _ h => h) (Or.inl ⟨by rfl, by (intro w hSw; (try dsimp only at hSw); go_simp; (try with_reducible rfl))⟩) (by assumption) ?_
  simp only [Act.put, List.getElem_toArray, List.getElem_cons_succ, List.getElem_cons_zero, List.setIfInBounds_toArray, List.set_cons_zero, List.set_cons_succ]
  refine wpAnyH_take (i := 8) (v := _) rfl (by kernel_rfl) (by kernel_rfl) (by kernel_rfl) (fun _ _ _ h => h) (Or.inl ⟨by rfl, by (intro w hSw; (try dsimp only at hSw); go_simp; (try with_reducible rfl))⟩) (by assumption) ?_
  simp only [Act.put, List.getElem_toArray, List.getElem_cons_succ, List.getElem_cons_zero, List.setIfInBounds_toArray, List.set_cons_zero, List.set_cons_succ]
  refine wpAnyH_take (i := 9) (v := _) rfl (by kernel_rfl) (by kernel_rfl) (by kernel_rfl) (fun _ _ _ h => h) (Or.inl ⟨by rfl, by (intro w hSw; (try dsimp only at hSw); go_simp; (try with_reducible rfl))⟩) (by assumption) ?_
  simp only [Act.put, List.getElem_toArray, List.getElem_cons_succ, List.getElem_cons_zero, List.setIfInBounds_toArray, List.set_cons_zero, List.set_cons_succ]
  refine wpAnyH_take (i := 10) (v := _) rfl (by kernel_rfl) (by kernel_rfl) (by kernel_rfl) (fun _ _ _ h => h) (Or.inl ⟨by rfl, by (intro w hSw; (try dsimp only at hSw); go_simp; (try with_reducible rfl))⟩) (by assumption) ?_
  simp only [Act.put, List.getElem_toArray, List.getElem_cons_succ, List.getElem_cons_zero, List.setIfInBounds_toArray, List.set_cons_zero, List.set_cons_succ]
  refine wpAnyH_ready (rs := [11]) (by kernel_rfl) (by simp) ?_
  refine AllReadyH.cons (o := _) rfl (fun K hK => ?_) AllReadyH.nil
  go_simp
  refine (equalInt_same _ _ _ _ ((HL1.out _ ((drew_below (Below.refl W5.heap.size W5))))) ((HL2.out _ ((drew_below (Below.refl W5.heap.size W5)))))).mono ?_
  rintro e2 X1 ⟨rfl, hb⟩
  have HY1 := Lib.hid (((drew_below (Below.refl W5.heap.size W5))).trans (hb.mono ((drew_below (Below.refl W5.heap.size W5))).size))
  have HD1 := Lib.hid hb
  dsimp only
  refine hK.out _ _ (HSQ.out _ HY1.out) (fun hHeld => ?_)
  clear hK K hb
  refine wpAnyH_take (i := 12) (v := _) rfl (by kernel_rfl) (by kernel_rfl) (by kernel_rfl) (fun _ _ _ h => h) (Or.inl ⟨by rfl, by (intro w hSw; (try dsimp only at hSw); go_simp; (try with_reducible rfl))⟩) (by assumption) ?_
  simp only [Act.put, List.getElem_toArray, List.getElem_cons_succ, List.getElem_cons_zero, List.setIfInBounds_toArray, List.set_cons_zero, List.set_cons_succ]
  refine wpAnyH_take (i := 13) (v := _) rfl (by kernel_rfl) (by kernel_rfl) (by kernel_rfl) (fun _ _ _ h => h) (Or.inl ⟨by rfl, by (intro w hSw; (try dsimp only at hSw); go_simp; (try with_reducible rfl))⟩) (by assumption) ?_
  simp only [Act.put, List.getElem_toArray, List.getElem_cons_succ, List.getElem_cons_zero, List.setIfInBounds_toArray, List.set_cons_zero, List.set_cons_succ]
  refine wpAnyH_take (i := 14) (v := _) rfl (by kernel_rfl) (by kernel_rfl) (by kernel_rfl) (fun _ _ _ h => h) (Or.inl ⟨by rfl, by (intro w hSw; (try dsimp only at hSw); go_simp; (try with_reducible rfl))⟩) (by assumption) ?_
  simp only [Act.put, List.getElem_toArray, List.getElem_cons_succ, List.getElem_cons_zero, List.setIfInBounds_toArray, List.set_cons_zero, List.set_cons_succ]
  refine wpAnyH_take (i := 15) (v := _) rfl (by kernel_rfl) (by kernel_rfl) (by kernel_rfl) (fun _ _ _ h => h) (Or.inl ⟨by rfl, by (intro w hSw; (try dsimp only at hSw); go_simp; (try with_reducible rfl))⟩) (by assumption) ?_
  simp only [Act.put, List.getElem_toArray, List.getElem_cons_succ, List.getElem_cons_zero, List.setIfInBounds_toArray, List.set_cons_zero, List.set_cons_succ]
  refine wpAnyH_take (i := 16) (v := .bool true) rfl (by kernel_rfl) (by kernel_rfl) (by kernel_rfl) (fun _ _ _ h => h) (Or.inl ⟨by rfl, by (intro w hSw; (try dsimp only at hSw); go_simp; (try with_reducible rfl))⟩) (by assumption) ?_
  simp only [Act.put, List.getElem_toArray, List.getElem_cons_succ, List.getElem_cons_zero, List.setIfInBounds_toArray, List.set_cons_zero, List.set_cons_succ]
  refine wpAnyH_take (i := 17) (v := _) rfl (by kernel_rfl) (by kernel_rfl) (by kernel_rfl) (fun _ _ _ h => h) (Or.inl ⟨by rfl, by (intro w hSw; (try dsimp only at hSw); go_simp; (try with_reducible rfl))⟩) (by assumption) ?_
  simp only [Act.put, List.getElem_toArray, List.getElem_cons_succ, List.getElem_cons_zero, List.setIfInBounds_toArray, List.set_cons_zero, List.set_cons_succ]
  refine wpAnyH_take (i := 18) (v := _) rfl (by kernel_rfl) (by kernel_rfl) (by kernel_rfl) (fun _ _ _ h => h) (Or.inl ⟨by rfl, by (intro w hSw; (try dsimp only at hSw); go_simp; (try with_reducible rfl))⟩) (by assumption) ?_
  simp only [Act.put, List.getElem_toArray, List.getElem_cons_succ, List.getElem_cons_zero, List.setIfInBounds_toArray, List.set_cons_zero, List.set_cons_succ]
  refine wpAnyH_take (i := 19) (v := _) rfl (by kernel_rfl) (by kernel_rfl) (by kernel_rfl) (fun _ _ _ h => h) (Or.inl ⟨by rfl, by (intro w hSw; (try dsimp only at hSw); go_simp; (try with_reducible rfl))⟩) (by assumption) ?_
  simp only [Act.put, List.getElem_toArray, List.getElem_cons_succ, List.getElem_cons_zero, List.setIfInBounds_toArray, List.set_cons_zero, List.set_cons_succ]
  refine wpAnyH_take (i := 21) (v := _) rfl (by kernel_rfl) (by kernel_rfl) (by kernel_rfl) (fun _ _ _ h => h) (Or.inl ⟨by rfl, by (intro w hSw; (try dsimp only at hSw); go_simp; (try with_reducible rfl))⟩) (by assumption) ?_
  simp only [Act.put, List.getElem_toArray, List.getElem_cons_succ, List.getElem_cons_zero, List.setIfInBounds_toArray, List.set_cons_zero, List.set_cons_succ]
  refine wpAnyH_take (i := 22) (v := _) rfl (by kernel_rfl) (by kernel_rfl) (by kernel_rfl) (fun _ _ _ h => h) (Or.inl ⟨by rfl, by (intro w hSw; (try dsimp only at hSw); go_simp; (try with_reducible rfl))⟩) (by assumption) ?_
  simp only [Act.put, List.getElem_toArray, List.getElem_cons_succ, List.getElem_cons_zero, List.setIfInBounds_toArray, List.set_cons_zero, List.set_cons_succ]
  refine wpAnyH_take (i := 24) (v := _) rfl (by kernel_rfl) (by kernel_rfl) (by kernel_rfl) (fun _ _ _ h => h) (Or.inl ⟨by rfl, by (intro w hSw; (try dsimp only at hSw); go_simp; (try with_reducible rfl))⟩) (by assumption) ?_
  simp only [Act.put, List.getElem_toArray, List.getElem_cons_succ, List.getElem_cons_zero, List.setIfInBounds_toArray, List.set_cons_zero, List.set_cons_succ]
  refine wpAnyH_take (i := 26) (v := _) rfl (by kernel_rfl) (by kernel_rfl) (by kernel_rfl) (fun _ _ _ h => h) (Or.inl ⟨by rfl, by (intro w hSw; (try dsimp only at hSw); go_simp; (try with_reducible rfl))⟩) (by assumption) ?_
  simp only [Act.put, List.getElem_toArray, List.getElem_cons_succ, List.getElem_cons_zero, List.setIfInBounds_toArray, List.set_cons_zero, List.set_cons_succ]
  refine wpAnyH_take (i := 27) (v := _) rfl (by kernel_rfl) (by kernel_rfl) (by kernel_rfl) (fun _ _ _ h => h) (Or.inl ⟨by rfl, by (intro w hSw; (try dsimp only at hSw); go_simp; (try with_reducible rfl))⟩) (by assumption) ?_
  simp only [Act.put, List.getElem_toArray, List.getElem_cons_succ, List.getElem_cons_zero, List.setIfInBounds_toArray, List.set_cons_zero, List.set_cons_succ]
  refine wpAnyH_ready (rs := [20, 25]) (by kernel_rfl) (by simp) ?_
  refine AllReadyH.cons (o := _) rfl (fun K hK => ?_) (AllReadyH.cons (o := _) rfl (fun K hK => ?_) AllReadyH.nil)
  · go_simp
    have hb2 : Below W5.heap.size W5 (World.alloc X1 (.cells #[.int .i64 e.kind, .int .i64 e.op, .bool e.no, .int .i64 e.val.kind, .int .i64 e.val.int, .string e.val.text, .string e.table, .string e.name, .slice a e.args.length ac, .slice s e.sub.length sc] 27)) := (HY1.out).alloc (HY1.out).size _
    have hx2 : ExsR NoM (World.alloc X1 (.cells #[.int .i64 e.kind, .int .i64 e.op, .bool e.no, .int .i64 e.val.kind, .int .i64 e.val.int, .string e.val.text, .string e.table, .string e.name, .slice a e.args.length ac, .slice s e.sub.length sc] 27)) (.slice (some ⟨(X1).heap.size, 0, none⟩) 1 1) [e] := rows_one (R := EC _ _) e rfl id rfl (HEC.out _ hb2)
    generalize hW2 : World.alloc X1 (.cells #[.int .i64 e.kind, .int .i64 e.op, .bool e.no, .int .i64 e.val.kind, .int .i64 e.val.int, .string e.val.text, .string e.table, .string e.name, .slice a e.args.length ac, .slice s e.sub.length sc] 27) = X2 at hb2 hx2 ⊢
    have HY2 := Lib.hid hb2
    have HX2 := Lib.hid hx2
    refine hK.out _ _ (HSQ.out _ HY2.out) (fun hHeld => ?_)
    clear hK K hW2 hb2 hx2
    refine wpAnyH_ready (rs := [23, 25]) (by kernel_rfl) (by simp) ?_
    refine AllReadyH.cons (o := _) rfl (fun K hK => ?_) (AllReadyH.cons (o := _) rfl (fun K hK => ?_) AllReadyH.nil)
    · go_simp
      refine (HC1.out _ (HY2.out) _ (HX2.out.keep (.bel (Below.refl _ _)))).mono ?_
      rintro e2 X3 ⟨rfl, hb⟩
      have HY3 := Lib.hid ((HY2.out).trans (hb.mono (HY2.out).size))
      have HD3 := Lib.hid hb
      dsimp only
      refine hK.out _ _ (HSQ.out _ HY3.out) (fun hHeld => ?_)
      clear hK K hb
      refine wpAnyH_ready (rs := [25]) (by kernel_rfl) (by simp) ?_
      refine AllReadyH.cons (o := _) rfl (fun K hK => ?_) AllReadyH.nil
      go_simp
      have hb4 : Below W5.heap.size W5 (World.alloc X3 (.cells #[.int .i64 e.kind, .int .i64 e.op, .bool e.no, .int .i64 e.val.kind, .int .i64 e.val.int, .string e.val.text, .string e.table, .string e.name, .slice a e.args.length ac, .slice s e.sub.length sc] 27)) := (HY3.out).alloc (HY3.out).size _
      have hx4 : ExsR NoM (World.alloc X3 (.cells #[.int .i64 e.kind, .int .i64 e.op, .bool e.no, .int .i64 e.val.kind, .int .i64 e.val.int, .string e.val.text, .string e.table, .string e.name, .slice a e.args.length ac, .slice s e.sub.length sc] 27)) (.slice (some ⟨(X3).heap.size, 0, none⟩) 1 1) [e] := rows_one (R := EC _ _) e rfl id rfl (HEC.out _ hb4)
      have hs4 : Below (X3).heap.size (X3) (World.alloc X3 (.cells #[.int .i64 e.kind, .int .i64 e.op, .bool e.no, .int .i64 e.val.kind, .int .i64 e.val.int, .string e.val.text, .string e.table, .string e.name, .slice a e.args.length ac, .slice s e.sub.length sc] 27)) := (Below.refl _ _).alloc (Nat.le_refl _) _
      generalize hW4 : World.alloc X3 (.cells #[.int .i64 e.kind, .int .i64 e.op, .bool e.no, .int .i64 e.val.kind, .int .i64 e.val.int, .string e.val.text, .string e.table, .string e.name, .slice a e.args.length ac, .slice s e.sub.length sc] 27) = X4 at hb4 hx4 hs4 ⊢
      have HS4 := Lib.hid hs4
      have HY4 := Lib.hid hb4
      have HX4 := Lib.hid hx4
      refine hK.out _ _ (HSQ.out _ HY4.out) (fun hHeld => ?_)
      clear hK K hW4 hb4 hx4 hs4
      refine wpAnyH_ready (rs := [28]) (by kernel_rfl) (by simp) ?_
      refine AllReadyH.cons (o := _) rfl (fun K hK => ?_) AllReadyH.nil
      go_simp
      refine (HC2.out _ (HY4.out) _ (HX4.out.keep (.bel (Below.refl _ _)))).mono ?_
      rintro e2 X5 ⟨rfl, hb⟩
      have HY5 := Lib.hid ((HY4.out).trans (hb.mono (HY4.out).size))
      have HD5 := Lib.hid hb
      dsimp only
      refine hK.out _ _ (HSQ.out _ HY5.out) (fun hHeld => ?_)
      clear hK K hb
      refine wpAnyH_take (i := 29) (v := .bool true) rfl (by kernel_rfl) (by kernel_rfl) (by kernel_rfl) (fun _ _ _ h => h) (Or.inl ⟨by rfl, by (intro w hSw; (try dsimp only at hSw); go_simp; (try with_reducible rfl))⟩) (by assumption) ?_
      simp only [Act.put, List.getElem_toArray, List.getElem_cons_succ, List.getElem_cons_zero, List.setIfInBounds_toArray, List.set_cons_zero, List.set_cons_succ]
      refine wpAnyH_take (i := 30) (v := _) rfl (by kernel_rfl) (by kernel_rfl) (by kernel_rfl) (fun _ _ _ h => h) (Or.inl ⟨by rfl, by (intro w hSw; (try dsimp only at hSw); go_simp; (try with_reducible rfl))⟩) (by assumption) ?_
      simp only [Act.put, List.getElem_toArray, List.getElem_cons_succ, List.getElem_cons_zero, List.setIfInBounds_toArray, List.set_cons_zero, List.set_cons_succ]
      refine wpAnyH_take (i := 31) (v := _) rfl (by kernel_rfl) (by kernel_rfl) (by kernel_rfl) (fun _ _ _ h => h) (Or.inl ⟨by rfl, by (intro w hSw; (try dsimp only at hSw); go_simp; (try with_reducible rfl))⟩) (by assumption) ?_
      simp only [Act.put, List.getElem_toArray, List.getElem_cons_succ, List.getElem_cons_zero, List.setIfInBounds_toArray, List.set_cons_zero, List.set_cons_succ]
      refine wpAnyH_take (i := 32) (v := _) rfl (by kernel_rfl) (by kernel_rfl) (by kernel_rfl) (fun _ _ _ h => h) (Or.inl ⟨by rfl, by (intro w hSw; (try dsimp only at hSw); go_simp; (try with_reducible rfl))⟩) (by assumption) ?_
      simp only [Act.put, List.getElem_toArray, List.getElem_cons_succ, List.getElem_cons_zero, List.setIfInBounds_toArray, List.set_cons_zero, List.set_cons_succ]
      refine wpAnyH_take (i := 33) (v := _) rfl (by kernel_rfl) (by kernel_rfl) (by kernel_rfl) (fun _ _ _ h => h) (Or.inl ⟨by rfl, by (intro w hSw; (try dsimp only at hSw); go_simp; (try with_reducible rfl))⟩) (by assumption) ?_
      simp only [Act.put, List.getElem_toArray, List.getElem_cons_succ, List.getElem_cons_zero, List.setIfInBounds_toArray, List.set_cons_zero, List.set_cons_succ]
      refine wpAnyH_ready (rs := [34]) (by kernel_rfl) (by simp) ?_
      refine AllReadyH.cons (o := _) rfl (fun K hK => ?_) AllReadyH.nil
      go_simp
      refine (HC0.out _ (HY5.out)).mono ?_
      rintro e2 X6 ⟨rfl, hb⟩
      have HY6 := Lib.hid ((HY5.out).trans (hb.mono (HY5.out).size))
      have HD6 := Lib.hid hb
      dsimp only
      refine hK.out _ _ (HSQ.out _ HY6.out) (fun hHeld => ?_)
      clear hK K hb
      refine wpAnyH_take (i := 35) (v := .bool true) rfl (by kernel_rfl) (by kernel_rfl) (by kernel_rfl) (fun _ _ _ h => h) (Or.inl ⟨by rfl, by (intro w hSw; (try dsimp only at hSw); go_simp; (try with_reducible rfl))⟩) (by assumption) ?_
      simp only [Act.put, List.getElem_toArray, List.getElem_cons_succ, List.getElem_cons_zero, List.setIfInBounds_toArray, List.set_cons_zero, List.set_cons_succ]
      refine wpAnyH_take (i := 36) (v := _) rfl (by kernel_rfl) (by kernel_rfl) (by kernel_rfl) (fun _ _ _ h => h) (Or.inl ⟨by rfl, by (intro w hSw; (try dsimp only at hSw); go_simp; (try with_reducible rfl))⟩) (by assumption) ?_
      simp only [Act.put, List.getElem_toArray, List.getElem_cons_succ, List.getElem_cons_zero, List.setIfInBounds_toArray, List.set_cons_zero, List.set_cons_succ]
      refine wpAnyH_take (i := 37) (v := _) rfl (by kernel_rfl) (by kernel_rfl) (by kernel_rfl) (fun _ _ _ h => h) (Or.inl ⟨by rfl, by (intro w hSw; (try dsimp only at hSw); go_simp; (try with_reducible rfl))⟩) (by assumption) ?_
      simp only [Act.put, List.getElem_toArray, List.getElem_cons_succ, List.getElem_cons_zero, List.setIfInBounds_toArray, List.set_cons_zero, List.set_cons_succ]
      refine wpAnyH_done (by kernel_rfl) ?_ _
      refine NoPanic.normal ?_
      go_wp2_with fail
      go_ret
      exact ⟨rfl, HB5.out.trans ((HY6.out).mono HB5.out.size)⟩
    · go_simp
      have hb7 : Below W5.heap.size W5 (World.alloc X2 (.cells #[.int .i64 e.kind, .int .i64 e.op, .bool e.no, .int .i64 e.val.kind, .int .i64 e.val.int, .string e.val.text, .string e.table, .string e.name, .slice a e.args.length ac, .slice s e.sub.length sc] 27)) := (HY2.out).alloc (HY2.out).size _
      have hx7 : ExsR NoM (World.alloc X2 (.cells #[.int .i64 e.kind, .int .i64 e.op, .bool e.no, .int .i64 e.val.kind, .int .i64 e.val.int, .string e.val.text, .string e.table, .string e.name, .slice a e.args.length ac, .slice s e.sub.length sc] 27)) (.slice (some ⟨(X2).heap.size, 0, none⟩) 1 1) [e] := rows_one (R := EC _ _) e rfl id rfl (HEC.out _ hb7)
      have hs7 : Below (X2).heap.size (X2) (World.alloc X2 (.cells #[.int .i64 e.kind, .int .i64 e.op, .bool e.no, .int .i64 e.val.kind, .int .i64 e.val.int, .string e.val.text, .string e.table, .string e.name, .slice a e.args.length ac, .slice s e.sub.length sc] 27)) := (Below.refl _ _).alloc (Nat.le_refl _) _
      generalize hW7 : World.alloc X2 (.cells #[.int .i64 e.kind, .int .i64 e.op, .bool e.no, .int .i64 e.val.kind, .int .i64 e.val.int, .string e.val.text, .string e.table, .string e.name, .slice a e.args.length ac, .slice s e.sub.length sc] 27) = X7 at hb7 hx7 hs7 ⊢
      have HS7 := Lib.hid hs7
      have HY7 := Lib.hid hb7
      have HX7 := Lib.hid hx7
      refine hK.out _ _ (HSQ.out _ HY7.out) (fun hHeld => ?_)
      clear hK K hW7 hb7 hx7 hs7
      refine wpAnyH_ready (rs := [23]) (by kernel_rfl) (by simp) ?_
      refine AllReadyH.cons (o := _) rfl (fun K hK => ?_) AllReadyH.nil
      go_simp
      refine (HC1.out _ (HY7.out) _ (HX2.out.keep (.bel (HS7.out)))).mono ?_
      rintro e2 X8 ⟨rfl, hb⟩
      have HY8 := Lib.hid ((HY7.out).trans (hb.mono (HY7.out).size))
      have HD8 := Lib.hid hb
      dsimp only
      refine hK.out _ _ (HSQ.out _ HY8.out) (fun hHeld => ?_)
      clear hK K hb
      refine wpAnyH_ready (rs := [28]) (by kernel_rfl) (by simp) ?_
      refine AllReadyH.cons (o := _) rfl (fun K hK => ?_) AllReadyH.nil
      go_simp
      refine (HC2.out _ (HY8.out) _ (HX7.out.keep (.bel (HD8.out)))).mono ?_
      rintro e2 X9 ⟨rfl, hb⟩
      have HY9 := Lib.hid ((HY8.out).trans (hb.mono (HY8.out).size))
      have HD9 := Lib.hid hb
      dsimp only
      refine hK.out _ _ (HSQ.out _ HY9.out) (fun hHeld => ?_)
      clear hK K hb
      refine wpAnyH_take (i := 29) (v := .bool true) rfl (by kernel_rfl) (by kernel_rfl) (by kernel_rfl) (fun _ _ _ h => h) (Or.inl ⟨by rfl, by (intro w hSw; (try dsimp only at hSw); go_simp; (try with_reducible rfl))⟩) (by assumption) ?_
      simp only [Act.put, List.getElem_toArray, List.getElem_cons_succ, List.getElem_cons_zero, List.setIfInBounds_toArray, List.set_cons_zero, List.set_cons_succ]
      refine wpAnyH_take (i := 30) (v := _) rfl (by kernel_rfl) (by kernel_rfl) (by kernel_rfl) (fun _ _ _ h => h) (Or.inl ⟨by rfl, by (intro w hSw; (try dsimp only at hSw); go_simp; (try with_reducible rfl))⟩) (by assumption) ?_
      simp only [Act.put, List.getElem_toArray, List.getElem_cons_succ, List.getElem_cons_zero, List.setIfInBounds_toArray, List.set_cons_zero, List.set_cons_succ]
      refine wpAnyH_take (i := 31) (v := _) rfl (by kernel_rfl) (by kernel_rfl) (by kernel_rfl) (fun _ _ _ h => h) (Or.inl ⟨by rfl, by (intro w hSw; (try dsimp only at hSw); go_simp; (try with_reducible rfl))⟩) (by assumption) ?_
      simp only [Act.put, List.getElem_toArray, List.getElem_cons_succ, List.getElem_cons_zero, List.setIfInBounds_toArray, List.set_cons_zero, List.set_cons_succ]
      refine wpAnyH_take (i := 32) (v := _) rfl (by kernel_rfl) (by kernel_rfl) (by kernel_rfl) (fun _ _ _ h => h) (Or.inl ⟨by rfl, by (intro w hSw; (try dsimp only at hSw); go_simp; (try with_reducible rfl))⟩) (by assumption) ?_
      simp only [Act.put, List.getElem_toArray, List.getElem_cons_succ, List.getElem_cons_zero, List.setIfInBounds_toArray, List.set_cons_zero, List.set_cons_succ]
      refine wpAnyH_take (i := 33) (v := _) rfl (by kernel_rfl) (by kernel_rfl) (by kernel_rfl) (fun _ _ _ h => h) (Or.inl ⟨by rfl, by (intro w hSw; (try dsimp only at hSw); go_simp; (try with_reducible rfl))⟩) (by assumption) ?_
      simp only [Act.put, List.getElem_toArray, List.getElem_cons_succ, List.getElem_cons_zero, List.setIfInBounds_toArray, List.set_cons_zero, List.set_cons_succ]
      refine wpAnyH_ready (rs := [34]) (by kernel_rfl) (by simp) ?_
      refine AllReadyH.cons (o := _) rfl (fun K hK => ?_) AllReadyH.nil
      go_simp
      refine (HC0.out _ (HY9.out)).mono ?_
      rintro e2 X10 ⟨rfl, hb⟩
      have HY10 := Lib.hid ((HY9.out).trans (hb.mono (HY9.out).size))
      have HD10 := Lib.hid hb
      dsimp only
      refine hK.out _ _ (HSQ.out _ HY10.out) (fun hHeld => ?_)
      clear hK K hb
      refine wpAnyH_take (i := 35) (v := .bool true) rfl (by kernel_rfl) (by kernel_rfl) (by kernel_rfl) (fun _ _ _ h => h) (Or.inl ⟨by rfl, by (intro w hSw; (try dsimp only at hSw); go_simp; (try with_reducible rfl))⟩) (by assumption) ?_
      simp only [Act.put, List.getElem_toArray, List.getElem_cons_succ, List.getElem_cons_zero, List.setIfInBounds_toArray, List.set_cons_zero, List.set_cons_succ]
      refine wpAnyH_take (i := 36) (v := _) rfl (by kernel_rfl) (by kernel_rfl) (by kernel_rfl) (fun _ _ _ h => h) (Or.inl ⟨by rfl, by (intro w hSw; (try dsimp only at hSw); go_simp; (try with_reducible rfl))⟩) (by assumption) ?_
      simp only [Act.put, List.getElem_toArray, List.getElem_cons_succ, List.getElem_cons_zero, List.setIfInBounds_toArray, List.set_cons_zero, List.set_cons_succ]
      refine wpAnyH_take (i := 37) (v := _) rfl (by kernel_rfl) (by kernel_rfl) (by kernel_rfl) (fun _ _ _ h => h) (Or.inl ⟨by rfl, by (intro w hSw; (try dsimp only at hSw); go_simp; (try with_reducible rfl))⟩) (by assumption) ?_
      simp only [Act.put, List.getElem_toArray, List.getElem_cons_succ, List.getElem_cons_zero, List.setIfInBounds_toArray, List.set_cons_zero, List.set_cons_succ]
      refine wpAnyH_done (by kernel_rfl) ?_ _
      refine NoPanic.normal ?_
      go_wp2_with fail
      go_ret
      exact ⟨rfl, HB5.out.trans ((HY10.out).mono HB5.out.size)⟩
  · go_simp
    have hb11 : Below W5.heap.size W5 (World.alloc X1 (.cells #[.int .i64 e.kind, .int .i64 e.op, .bool e.no, .int .i64 e.val.kind, .int .i64 e.val.int, .string e.val.text, .string e.table, .string e.name, .slice a e.args.length ac, .slice s e.sub.length sc] 27)) := (HY1.out).alloc (HY1.out).size _
    have hx11 : ExsR NoM (World.alloc X1 (.cells #[.int .i64 e.kind, .int .i64 e.op, .bool e.no, .int .i64 e.val.kind, .int .i64 e.val.int, .string e.val.text, .string e.table, .string e.name, .slice a e.args.length ac, .slice s e.sub.length sc] 27)) (.slice (some ⟨(X1).heap.size, 0, none⟩) 1 1) [e] := rows_one (R := EC _ _) e rfl id rfl (HEC.out _ hb11)
    generalize hW11 : World.alloc X1 (.cells #[.int .i64 e.kind, .int .i64 e.op, .bool e.no, .int .i64 e.val.kind, .int .i64 e.val.int, .string e.val.text, .string e.table, .string e.name, .slice a e.args.length ac, .slice s e.sub.length sc] 27) = X11 at hb11 hx11 ⊢
    have HY11 := Lib.hid hb11
    have HX11 := Lib.hid hx11
    refine hK.out _ _ (HSQ.out _ HY11.out) (fun hHeld => ?_)
    clear hK K hW11 hb11 hx11
    refine wpAnyH_ready (rs := [20]) (by kernel_rfl) (by simp) ?_
    refine AllReadyH.cons (o := _) rfl (fun K hK => ?_) AllReadyH.nil
    go_simp
    have hb12 : Below W5.heap.size W5 (World.alloc X11 (.cells #[.int .i64 e.kind, .int .i64 e.op, .bool e.no, .int .i64 e.val.kind, .int .i64 e.val.int, .string e.val.text, .string e.table, .string e.name, .slice a e.args.length ac, .slice s e.sub.length sc] 27)) := (HY11.out).alloc (HY11.out).size _
    have hx12 : ExsR NoM (World.alloc X11 (.cells #[.int .i64 e.kind, .int .i64 e.op, .bool e.no, .int .i64 e.val.kind, .int .i64 e.val.int, .string e.val.text, .string e.table, .string e.name, .slice a e.args.length ac, .slice s e.sub.length sc] 27)) (.slice (some ⟨(X11).heap.size, 0, none⟩) 1 1) [e] := rows_one (R := EC _ _) e rfl id rfl (HEC.out _ hb12)
    have hs12 : Below (X11).heap.size (X11) (World.alloc X11 (.cells #[.int .i64 e.kind, .int .i64 e.op, .bool e.no, .int .i64 e.val.kind, .int .i64 e.val.int, .string e.val.text, .string e.table, .string e.name, .slice a e.args.length ac, .slice s e.sub.length sc] 27)) := (Below.refl _ _).alloc (Nat.le_refl _) _
    generalize hW12 : World.alloc X11 (.cells #[.int .i64 e.kind, .int .i64 e.op, .bool e.no, .int .i64 e.val.kind, .int .i64 e.val.int, .string e.val.text, .string e.table, .string e.name, .slice a e.args.length ac, .slice s e.sub.length sc] 27) = X12 at hb12 hx12 hs12 ⊢
    have HS12 := Lib.hid hs12
    have HY12 := Lib.hid hb12
    have HX12 := Lib.hid hx12
    refine hK.out _ _ (HSQ.out _ HY12.out) (fun hHeld => ?_)
    clear hK K hW12 hb12 hx12 hs12
    refine wpAnyH_ready (rs := [23]) (by kernel_rfl) (by simp) ?_
    refine AllReadyH.cons (o := _) rfl (fun K hK => ?_) AllReadyH.nil
    go_simp
    refine (HC1.out _ (HY12.out) _ (HX12.out.keep (.bel (Below.refl _ _)))).mono ?_
    rintro e2 X13 ⟨rfl, hb⟩
    have HY13 := Lib.hid ((HY12.out).trans (hb.mono (HY12.out).size))
    have HD13 := Lib.hid hb
    dsimp only
    refine hK.out _ _ (HSQ.out _ HY13.out) (fun hHeld => ?_)
    clear hK K hb
    refine wpAnyH_ready (rs := [28]) (by kernel_rfl) (by simp) ?_
    refine AllReadyH.cons (o := _) rfl (fun K hK => ?_) AllReadyH.nil
    go_simp
    refine (HC2.out _ (HY13.out) _ (HX11.out.keep (.bel ((HS12.out).trans ((HD13.out).mono (HS12.out).size))))).mono ?_
    rintro e2 X14 ⟨rfl, hb⟩
    have HY14 := Lib.hid ((HY13.out).trans (hb.mono (HY13.out).size))
    have HD14 := Lib.hid hb
    dsimp only
    refine hK.out _ _ (HSQ.out _ HY14.out) (fun hHeld => ?_)
    clear hK K hb
    refine wpAnyH_take (i := 29) (v := .bool true) rfl (by kernel_rfl) (by kernel_rfl) (by kernel_rfl) (fun _ _ _ h => h) (Or.inl ⟨by rfl, by (intro w hSw; (try dsimp only at hSw); go_simp; (try with_reducible rfl))⟩) (by assumption) ?_
    simp only [Act.put, List.getElem_toArray, List.getElem_cons_succ, List.getElem_cons_zero, List.setIfInBounds_toArray, List.set_cons_zero, List.set_cons_succ]
    refine wpAnyH_take (i := 30) (v := _) rfl (by kernel_rfl) (by kernel_rfl) (by kernel_rfl) (fun _ _ _ h => h) (Or.inl ⟨by rfl, by (intro w hSw; (try dsimp only at hSw); go_simp; (try with_reducible rfl))⟩) (by assumption) ?_
    simp only [Act.put, List.getElem_toArray, List.getElem_cons_succ, List.getElem_cons_zero, List.setIfInBounds_toArray, List.set_cons_zero, List.set_cons_succ]
    refine wpAnyH_take (i := 31) (v := _) rfl (by kernel_rfl) (by kernel_rfl) (by kernel_rfl) (fun _ _ _ h => h) (Or.inl ⟨by rfl, by (intro w hSw; (try dsimp only at hSw); go_simp; (try with_reducible rfl))⟩) (by assumption) ?_
    simp only [Act.put, List.getElem_toArray, List.getElem_cons_succ, List.getElem_cons_zero, List.setIfInBounds_toArray, List.set_cons_zero, List.set_cons_succ]
    refine wpAnyH_take (i := 32) (v := _) rfl (by kernel_rfl) (by kernel_rfl) (by kernel_rfl) (fun _ _ _ h => h) (Or.inl ⟨by rfl, by (intro w hSw; (try dsimp only at hSw); go_simp; (try with_reducible rfl))⟩) (by assumption) ?_
    simp only [Act.put, List.getElem_toArray, List.getElem_cons_succ, List.getElem_cons_zero, List.setIfInBounds_toArray, List.set_cons_zero, List.set_cons_succ]
    refine wpAnyH_take (i := 33) (v := _) rfl (by kernel_rfl) (by kernel_rfl) (by kernel_rfl) (fun _ _ _ h => h) (Or.inl ⟨by rfl, by (intro w hSw; (try dsimp only at hSw); go_simp; (try with_reducible rfl))⟩) (by assumption) ?_
    simp only [Act.put, List.getElem_toArray, List.getElem_cons_succ, List.getElem_cons_zero, List.setIfInBounds_toArray, List.set_cons_zero, List.set_cons_succ]
    refine wpAnyH_ready (rs := [34]) (by kernel_rfl) (by simp) ?_
    refine AllReadyH.cons (o := _) rfl (fun K hK => ?_) AllReadyH.nil
    go_simp
    refine (HC0.out _ (HY14.out)).mono ?_
    rintro e2 X15 ⟨rfl, hb⟩
    have HY15 := Lib.hid ((HY14.out).trans (hb.mono (HY14.out).size))
    have HD15 := Lib.hid hb
    dsimp only
    refine hK.out _ _ (HSQ.out _ HY15.out) (fun hHeld => ?_)
    clear hK K hb
    refine wpAnyH_take (i := 35) (v := .bool true) rfl (by kernel_rfl) (by kernel_rfl) (by kernel_rfl) (fun _ _ _ h => h) (Or.inl ⟨by rfl, by (intro w hSw; (try dsimp only at hSw); go_simp; (try with_reducible rfl))⟩) (by assumption) ?_
    simp only [Act.put, List.getElem_toArray, List.getElem_cons_succ, List.getElem_cons_zero, List.setIfInBounds_toArray, List.set_cons_zero, List.set_cons_succ]
    refine wpAnyH_take (i := 36) (v := _) rfl (by kernel_rfl) (by kernel_rfl) (by kernel_rfl) (fun _ _ _ h => h) (Or.inl ⟨by rfl, by (intro w hSw; (try dsimp only at hSw); go_simp; (try with_reducible rfl))⟩) (by assumption) ?_
    simp only [Act.put, List.getElem_toArray, List.getElem_cons_succ, List.getElem_cons_zero, List.setIfInBounds_toArray, List.set_cons_zero, List.set_cons_succ]
    refine wpAnyH_take (i := 37) (v := _) rfl (by kernel_rfl) (by kernel_rfl) (by kernel_rfl) (fun _ _ _ h => h) (Or.inl ⟨by rfl, by (intro w hSw; (try dsimp only at hSw); go_simp; (try with_reducible rfl))⟩) (by assumption) ?_
    simp only [Act.put, List.getElem_toArray, List.getElem_cons_succ, List.getElem_cons_zero, List.setIfInBounds_toArray, List.set_cons_zero, List.set_cons_succ]
    refine wpAnyH_done (by kernel_rfl) ?_ _
    refine NoPanic.normal ?_
    go_wp2_with fail
    go_ret
    exact ⟨rfl, HB5.out.trans ((HY15.out).mono HB5.out.size)⟩
end Go.Proofs.YtppiaaolggpjdaaDoor
