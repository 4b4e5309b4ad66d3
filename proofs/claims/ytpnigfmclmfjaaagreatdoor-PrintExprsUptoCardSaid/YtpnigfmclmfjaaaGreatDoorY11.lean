/- The reference's words of operators with two and three arguments. -/
import Derived.Test.YtpnigfmclmfjaaaGreatDoorKY2
namespace Go.Proofs.YtpnigfmclmfjaaaGreatDoor
open Go.RowKit

set_option maxRecDepth 100000 in
set_option maxHeartbeats 40000000 in
theorem rw_bin (j : Nat) (hj1 : 1 ≤ j) (hj2 : j < 14) (a b : Ex) (ha : RwOk a) (hb : RwOk b) (na : (wordsP a).length ≤ 200000000) (nb : (wordsP b).length ≤ 200000000) : RwOk (opX 5 (j : Int) false [a, b] []) := by
  intro cs w hE hL hs hO hN
  obtain ⟨xva, xvs, rfl, hva, hvs⟩ := (EC_iff ..).1 hE
  obtain ⟨ea, ec, rfl, _⟩ := hva.shape
  obtain ⟨sa, sc, rfl, _⟩ := hvs.shape
  have HA := Lib.hid (show ExsR NoM w (.slice ea 2 ec) [a, b] from hva)
  have HL := Lib.hid hL
  have HO := Lib.hid hO
  have Ha := Lib.hid ha
  have Na := Lib.hid na
  have Hb := Lib.hid hb
  have Nb := Lib.hid nb
  rw [words_bin]
  simp only [exCells, opX, Ex.kind, Ex.op, Ex.no, Ex.val, Ex.table, Ex.name, Ex.args, Ex.sub, List.length_cons, List.length_nil, Nat.zero_add, Nat.reduceAdd, val0]
  clear hE hva hvs hL hO hN ha na hb nb
  go_enter Tryz.func76, Tryz.ntmps76
  go_upto_region 11 with fail
  generalize hW : World.alloc w _ = W
  have HBW := Lib.hid (show Below w.heap.size w W from by rw [← hW]; exact (Below.refl _ _).alloc (Nat.le_refl _) _)
  have hS : W.heap[w.heap.size]? = some (.cells #[.int .i64 5, .int .i64 (j : Int), .bool false, .int .i64 0, .int .i64 0, .string es, .string es, .string es, .slice ea 2 ec, .slice sa 0 sc] 57 (0, 0)) := by rw [← hW]; exact heap_alloc_new w _
  have hz := HBW.out.size
  have HS := Lib.hid hS
  have hzz := (Array.getElem?_eq_some_iff.1 hS).1
  have HAW := Lib.hid (ExsR.keep HA.out (.bel HBW.out))
  have HLW := Lib.hid (HL.out.belB HBW.out hs)
  have HOW := Lib.hid (HO.out.bel HBW.out)
  have hsW : 10 < W.heap.size := by omega
  clear hS hW
  have j0 : (0 : Int) ≤ (j : Int) := by omega
  have j1 : (j : Int) < 14 := by omega
  have HKS : Hid (∀ w' l, STt W w' l → w'.cell? ⟨w.heap.size, 0, none⟩ = some (.int .i64 5) ∧ w'.cell? ⟨w.heap.size, 1, none⟩ = some (.int .i64 (j : Int)) ∧ w'.cell? ⟨w.heap.size, 2, none⟩ = some (.bool false) ∧ w'.cell? ⟨w.heap.size, 3, none⟩ = some (.int .i64 0) ∧ w'.cell? ⟨w.heap.size, 4, none⟩ = some (.int .i64 0) ∧ w'.cell? ⟨w.heap.size, 5, none⟩ = some (.string es) ∧ w'.cell? ⟨w.heap.size, 6, none⟩ = some (.string es) ∧ w'.cell? ⟨w.heap.size, 7, none⟩ = some (.string es) ∧ w'.cell? ⟨w.heap.size, 8, none⟩ = some (.slice ea 2 ec) ∧ w'.cell? ⟨w.heap.size, 9, none⟩ = some (.slice sa 0 sc) ∧ w'.cell? ⟨3, j, none⟩ = some (.string (opS (j : Int)))) := Lib.hid fun w' l h => by
    obtain ⟨e0, e1, e2, e3, e4, e5, e6, e7, e8, e9, _⟩ := blk10 ((h.1.block _ hzz).trans HS.out)
    exact ⟨e0, e1, e2, e3, e4, e5, e6, e7, e8, e9, (HOW.out.bel h.1) j hj2⟩
  have HG0 := Lib.hid fun W' l (h : STt W W' l) => arg_closed 5 (j : Int) false [a, b] 0 a rfl Ha.out (by omega) (by omega) W (.slice ea 2 ec) (.slice sa 0 sc) HAW.out HLW.out hsW HOW.out (by have := Na.out; omega) W' l h
  have HG1 := Lib.hid fun W' l (h : STt W W' l) => arg_closed 5 (j : Int) false [a, b] 1 b rfl Hb.out (by omega) (by omega) W (.slice ea 2 ec) (.slice sa 0 sc) HAW.out HLW.out hsW HOW.out (by have := Nb.out; omega) W' l h
  have HN0 := Lib.hid (arg_len (k := 5) (o := (j : Int)) (i := 0) (x := a) (by have := Na.out; omega))
  have HM0 : Hid ((argW 5 (j : Int) 0 a).length ≤ 200000002) := Lib.hid (by have := Na.out; unfold argW; split; (simp; omega); omega)
  have HN1 := Lib.hid (arg_len (k := 5) (o := (j : Int)) (i := 1) (x := b) (by have := Nb.out; omega))
  have HM1 : Hid ((argW 5 (j : Int) 1 b).length ≤ 200000002) := Lib.hid (by have := Nb.out; unfold argW; split; (simp; omega); omega)
  generalize hR0 : argW 5 (j : Int) 0 a = R0 at HG0 HN0 HM0 ⊢
  have HR0 := Lib.hid hR0
  clear hR0
  generalize hR1 : argW 5 (j : Int) 1 b = R1 at HG1 HN1 HM1 ⊢
  have HR1 := Lib.hid hR1
  clear hR1
  have ST0 := Lib.hid (STt.base W)
  have tok0 : Hid True := Lib.hid trivial
  have tok1 : Hid True := Lib.hid trivial
  have x0 := HKS.out _ _ ST0.out
  go_region_held3 (fun w' => w'.cell? ⟨w.heap.size, 0, none⟩ = some (.int .i64 5) ∧ w'.cell? ⟨w.heap.size, 1, none⟩ = some (.int .i64 (j : Int)) ∧ w'.cell? ⟨w.heap.size, 2, none⟩ = some (.bool false) ∧ w'.cell? ⟨w.heap.size, 3, none⟩ = some (.int .i64 0) ∧ w'.cell? ⟨w.heap.size, 4, none⟩ = some (.int .i64 0) ∧ w'.cell? ⟨w.heap.size, 5, none⟩ = some (.string es) ∧ w'.cell? ⟨w.heap.size, 6, none⟩ = some (.string es) ∧ w'.cell? ⟨w.heap.size, 7, none⟩ = some (.string es) ∧ w'.cell? ⟨w.heap.size, 8, none⟩ = some (.slice ea 2 ec) ∧ w'.cell? ⟨w.heap.size, 9, none⟩ = some (.slice sa 0 sc) ∧ w'.cell? ⟨3, j, none⟩ = some (.string (opS (j : Int))))
    (refine HKS.out _ _ (by repeat (first | with_reducible exact ST9.out | with_reducible exact ST2.out | with_reducible exact ST1.out | with_reducible exact ST0.out | with_reducible apply STt.drew | (apply STt.strs (ys := [opS (j : Int)]); rfl; simp) | apply STt.alloc)))
    (first
      | (go_at_call 168; have _t := tok0; go_loud (refine call_st (W0 := W) (by repeat (first | with_reducible exact ST9.out | with_reducible exact ST0.out | with_reducible apply STt.drew | (apply STt.strs (ys := [opS (j : Int)]); rfl; simp) | apply STt.alloc)) (fun h => HG0.out _ _ h) ?_; intro a1 c1 w1 hst; have ST1 := Lib.hid hst; clear hst tok0 _t))
      | (go_at_call 168; have _t := tok1; go_loud (refine call_st (W0 := W) (by repeat (first | with_reducible exact ST9.out | with_reducible exact ST1.out | with_reducible exact ST0.out | with_reducible apply STt.drew | (apply STt.strs (ys := [opS (j : Int)]); rfl; simp) | apply STt.alloc)) (fun h => HG1.out _ _ h) ?_; intro a2 c2 w2 hst; have ST2 := Lib.hid hst; clear hst tok1 _t))
      | (go_at_call 77; go_loud (refine call_cat (W0 := W) (ls := [(_, R0), (_, [opS (j : Int)]), (_, R1)]) (by repeat (first | with_reducible exact ST9.out | with_reducible exact ST2.out | with_reducible exact ST1.out | with_reducible exact ST0.out | with_reducible apply STt.drew | (apply STt.strs (ys := [opS (j : Int)]); rfl; simp) | apply STt.alloc)) (by simp) rfl (by simp) (by simp) rfl (by have := HM0.out; have := HM1.out;  simp; omega) ?_; intro v9 w9 hv9 hb9; have ST9 : Hid (STt W w9 []) := Lib.hid ⟨hb9, fun p h => by cases h⟩; have HV := Lib.hid hv9; have HB9 := Lib.hid (HBW.out.trans (hb9.mono hz)); clear hv9 hb9)))
  all_goals
    (try dsimp only)
    go_wp2_with fail
    go_ret
    exact ⟨_, rfl, by rw [HR0.out, HR1.out]; simpa using HV.out, HB9.out⟩

set_option maxRecDepth 100000 in
set_option maxHeartbeats 40000000 in
theorem rw_btw (a b c : Ex) (ha : RwOk a) (hb : RwOk b) (hc : RwOk c) (na : (wordsP a).length ≤ 200000000) (nb : (wordsP b).length ≤ 200000000) (nc : (wordsP c).length ≤ 200000000) : RwOk (opX 7 0 false [a, b, c] []) := by
  intro cs w hE hL hs hO hN
  obtain ⟨xva, xvs, rfl, hva, hvs⟩ := (EC_iff ..).1 hE
  obtain ⟨ea, ec, rfl, _⟩ := hva.shape
  obtain ⟨sa, sc, rfl, _⟩ := hvs.shape
  have HA := Lib.hid (show ExsR NoM w (.slice ea 3 ec) [a, b, c] from hva)
  have HL := Lib.hid hL
  have HO := Lib.hid hO
  have Ha := Lib.hid ha
  have Na := Lib.hid na
  have Hb := Lib.hid hb
  have Nb := Lib.hid nb
  have Hc := Lib.hid hc
  have Nc := Lib.hid nc
  rw [words_btw]
  simp only [exCells, opX, Ex.kind, Ex.op, Ex.no, Ex.val, Ex.table, Ex.name, Ex.args, Ex.sub, List.length_cons, List.length_nil, Nat.zero_add, Nat.reduceAdd, val0]
  clear hE hva hvs hL hO hN ha na hb nb hc nc
  go_enter Tryz.func76, Tryz.ntmps76
  go_upto_region 17 with fail
  generalize hW : World.alloc w _ = W
  have HBW := Lib.hid (show Below w.heap.size w W from by rw [← hW]; exact (Below.refl _ _).alloc (Nat.le_refl _) _)
  have hS : W.heap[w.heap.size]? = some (.cells #[.int .i64 7, .int .i64 0, .bool false, .int .i64 0, .int .i64 0, .string es, .string es, .string es, .slice ea 3 ec, .slice sa 0 sc] 57 (0, 0)) := by rw [← hW]; exact heap_alloc_new w _
  have hz := HBW.out.size
  have HS := Lib.hid hS
  have hzz := (Array.getElem?_eq_some_iff.1 hS).1
  have HAW := Lib.hid (ExsR.keep HA.out (.bel HBW.out))
  have HLW := Lib.hid (HL.out.belB HBW.out hs)
  have HOW := Lib.hid (HO.out.bel HBW.out)
  have hsW : 10 < W.heap.size := by omega
  clear hS hW
  have HKS : Hid (∀ w' l, STt W w' l → w'.cell? ⟨w.heap.size, 0, none⟩ = some (.int .i64 7) ∧ w'.cell? ⟨w.heap.size, 1, none⟩ = some (.int .i64 0) ∧ w'.cell? ⟨w.heap.size, 2, none⟩ = some (.bool false) ∧ w'.cell? ⟨w.heap.size, 3, none⟩ = some (.int .i64 0) ∧ w'.cell? ⟨w.heap.size, 4, none⟩ = some (.int .i64 0) ∧ w'.cell? ⟨w.heap.size, 5, none⟩ = some (.string es) ∧ w'.cell? ⟨w.heap.size, 6, none⟩ = some (.string es) ∧ w'.cell? ⟨w.heap.size, 7, none⟩ = some (.string es) ∧ w'.cell? ⟨w.heap.size, 8, none⟩ = some (.slice ea 3 ec) ∧ w'.cell? ⟨w.heap.size, 9, none⟩ = some (.slice sa 0 sc)) := Lib.hid fun w' l h => by
    obtain ⟨e0, e1, e2, e3, e4, e5, e6, e7, e8, e9, _⟩ := blk10 ((h.1.block _ hzz).trans HS.out)
    exact ⟨e0, e1, e2, e3, e4, e5, e6, e7, e8, e9⟩
  have HG0 := Lib.hid fun W' l (h : STt W W' l) => arg_closed 7 0 false [a, b, c] 0 a rfl Ha.out (by omega) (by omega) W (.slice ea 3 ec) (.slice sa 0 sc) HAW.out HLW.out hsW HOW.out (by have := Na.out; omega) W' l h
  have HG1 := Lib.hid fun W' l (h : STt W W' l) => arg_closed 7 0 false [a, b, c] 1 b rfl Hb.out (by omega) (by omega) W (.slice ea 3 ec) (.slice sa 0 sc) HAW.out HLW.out hsW HOW.out (by have := Nb.out; omega) W' l h
  have HG2 := Lib.hid fun W' l (h : STt W W' l) => arg_closed 7 0 false [a, b, c] 2 c rfl Hc.out (by omega) (by omega) W (.slice ea 3 ec) (.slice sa 0 sc) HAW.out HLW.out hsW HOW.out (by have := Nc.out; omega) W' l h
  have HN0 := Lib.hid (arg_len (k := 7) (o := 0) (i := 0) (x := a) (by have := Na.out; omega))
  have HM0 : Hid ((argW 7 0 0 a).length ≤ 200000002) := Lib.hid (by have := Na.out; unfold argW; split; (simp; omega); omega)
  have HN1 := Lib.hid (arg_len (k := 7) (o := 0) (i := 1) (x := b) (by have := Nb.out; omega))
  have HM1 : Hid ((argW 7 0 1 b).length ≤ 200000002) := Lib.hid (by have := Nb.out; unfold argW; split; (simp; omega); omega)
  have HN2 := Lib.hid (arg_len (k := 7) (o := 0) (i := 2) (x := c) (by have := Nc.out; omega))
  have HM2 : Hid ((argW 7 0 2 c).length ≤ 200000002) := Lib.hid (by have := Nc.out; unfold argW; split; (simp; omega); omega)
  generalize hR0 : argW 7 0 0 a = R0 at HG0 HN0 HM0 ⊢
  have HR0 := Lib.hid hR0
  clear hR0
  generalize hR1 : argW 7 0 1 b = R1 at HG1 HN1 HM1 ⊢
  have HR1 := Lib.hid hR1
  clear hR1
  generalize hR2 : argW 7 0 2 c = R2 at HG2 HN2 HM2 ⊢
  have HR2 := Lib.hid hR2
  clear hR2
  have ST0 := Lib.hid (STt.base W)
  have tok0 : Hid True := Lib.hid trivial
  have tok1 : Hid True := Lib.hid trivial
  have tok2 : Hid True := Lib.hid trivial
  have x0 := HKS.out _ _ ST0.out
  go_region_held3 (fun w' => w'.cell? ⟨w.heap.size, 0, none⟩ = some (.int .i64 7) ∧ w'.cell? ⟨w.heap.size, 1, none⟩ = some (.int .i64 0) ∧ w'.cell? ⟨w.heap.size, 2, none⟩ = some (.bool false) ∧ w'.cell? ⟨w.heap.size, 3, none⟩ = some (.int .i64 0) ∧ w'.cell? ⟨w.heap.size, 4, none⟩ = some (.int .i64 0) ∧ w'.cell? ⟨w.heap.size, 5, none⟩ = some (.string es) ∧ w'.cell? ⟨w.heap.size, 6, none⟩ = some (.string es) ∧ w'.cell? ⟨w.heap.size, 7, none⟩ = some (.string es) ∧ w'.cell? ⟨w.heap.size, 8, none⟩ = some (.slice ea 3 ec) ∧ w'.cell? ⟨w.heap.size, 9, none⟩ = some (.slice sa 0 sc))
    (refine HKS.out _ _ (by repeat (first | with_reducible exact ST9.out | with_reducible exact ST3.out | with_reducible exact ST2.out | with_reducible exact ST1.out | with_reducible exact ST0.out | with_reducible apply STt.drew | (apply STt.strs (ys := [kBETWEEN]); rfl; simp) | (apply STt.strs (ys := [kAND]); rfl; simp) | apply STt.alloc)))
    (first
      | (go_at_call 168; have _t := tok0; go_loud (refine call_st (W0 := W) (by repeat (first | with_reducible exact ST9.out | with_reducible exact ST0.out | with_reducible apply STt.drew | (apply STt.strs (ys := [kBETWEEN]); rfl; simp) | (apply STt.strs (ys := [kAND]); rfl; simp) | apply STt.alloc)) (fun h => HG0.out _ _ h) ?_; intro a1 c1 w1 hst; have ST1 := Lib.hid hst; clear hst tok0 _t))
      | (go_at_call 168; have _t := tok1; go_loud (refine call_st (W0 := W) (by repeat (first | with_reducible exact ST9.out | with_reducible exact ST1.out | with_reducible exact ST0.out | with_reducible apply STt.drew | (apply STt.strs (ys := [kBETWEEN]); rfl; simp) | (apply STt.strs (ys := [kAND]); rfl; simp) | apply STt.alloc)) (fun h => HG1.out _ _ h) ?_; intro a2 c2 w2 hst; have ST2 := Lib.hid hst; clear hst tok1 _t))
      | (go_at_call 168; have _t := tok2; go_loud (refine call_st (W0 := W) (by repeat (first | with_reducible exact ST9.out | with_reducible exact ST2.out | with_reducible exact ST1.out | with_reducible exact ST0.out | with_reducible apply STt.drew | (apply STt.strs (ys := [kBETWEEN]); rfl; simp) | (apply STt.strs (ys := [kAND]); rfl; simp) | apply STt.alloc)) (fun h => HG2.out _ _ h) ?_; intro a3 c3 w3 hst; have ST3 := Lib.hid hst; clear hst tok2 _t))
      | (go_at_call 77; go_loud (refine call_cat (W0 := W) (ls := [(_, R0), (_, [kBETWEEN]), (_, R1), (_, [kAND]), (_, R2)]) (by repeat (first | with_reducible exact ST9.out | with_reducible exact ST3.out | with_reducible exact ST2.out | with_reducible exact ST1.out | with_reducible exact ST0.out | with_reducible apply STt.drew | (apply STt.strs (ys := [kBETWEEN]); rfl; simp) | (apply STt.strs (ys := [kAND]); rfl; simp) | apply STt.alloc)) (by simp) rfl (by simp) (by simp) rfl (by have := HM0.out; have := HM1.out; have := HM2.out; simp; omega) ?_; intro v9 w9 hv9 hb9; have ST9 : Hid (STt W w9 []) := Lib.hid ⟨hb9, fun p h => by cases h⟩; have HV := Lib.hid hv9; have HB9 := Lib.hid (HBW.out.trans (hb9.mono hz)); clear hv9 hb9)))
  all_goals
    (try dsimp only)
    go_wp2_with fail
    go_ret
    exact ⟨_, rfl, by rw [HR0.out, HR1.out, HR2.out]; simpa using HV.out, HB9.out⟩
end Go.Proofs.YtpnigfmclmfjaaaGreatDoor
