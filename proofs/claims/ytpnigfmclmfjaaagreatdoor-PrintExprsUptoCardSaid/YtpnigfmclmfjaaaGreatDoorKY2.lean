/- The reference's words of operators: lists of words that are made in any order. The reference's words of IS NULL and IS NOT NULL. The reference's words of EXISTS and COUNT. The text of the reference's words: the contract of join. -/
import Derived.Test.YtpnigfmclmfjaaaGreatDoorKY1
import Derived.Test.YtpnigfmclmfjaaaGreatDoorKX
import Derived.Deep.RegionHeld3
namespace Go.Proofs.YtpnigfmclmfjaaaGreatDoor
open Go.RowKit

/-- Lists of words that lie in a world which has grown from W0. -/
def KN (W : World) (l : List (Value × List ByteArray)) : Prop := ∀ p ∈ l, RowsR NoM W 1 StrR p.1 p.2
def STt (W0 W : World) (l : List (Value × List ByteArray)) : Prop := Below W0.heap.size W0 W ∧ KN W l
theorem STt.base (W : World) : STt W W [] := ⟨Below.refl _ _, fun p h => by cases h⟩
theorem STt.bel {W0 W W' : World} {l : List (Value × List ByteArray)} (h : STt W0 W l) (k : Below W.heap.size W W') : STt W0 W' l := ⟨bel_trans h.1 k, fun p hp => strs_bel (h.2 p hp) k⟩
theorem STt.drew {W0 W : World} {l : List (Value × List ByteArray)} (h : STt W0 W l) : STt W0 W.drew l := h.bel (drew_below (Below.refl _ _))
theorem STt.alloc {W0 W : World} {l : List (Value × List ByteArray)} (h : STt W0 W l) (o : Obj) : STt W0 (W.alloc o) l := h.bel ((Below.refl _ _).alloc (Nat.le_refl _) o)
theorem STt.strs {W0 W : World} {l : List (Value × List ByteArray)} (h : STt W0 W l) (ys : List ByteArray) {arr : Array Value} (ha : arr.toList = ys.map Value.string) (hm : ys.length ≤ 1000) (t : TypeId) :
    STt W0 (W.alloc (.cells arr t)) ((.slice (some ⟨W.heap.size, 0, none⟩) ys.length ys.length, ys) :: l) := by
  refine ⟨(h.alloc _).1, fun p hp => ?_⟩
  rcases List.mem_cons.1 hp with rfl | hp
  · exact strs_new ys rfl ha rfl hm t
  · exact (h.alloc _).2 p hp
theorem STt.row {W0 W : World} {l : List (Value × List ByteArray)} (h : STt W0 W l) {v : Value} {ys : List ByteArray} (hr : RowsR NoM W 1 StrR v ys) : STt W0 W ((v, ys) :: l) :=
  ⟨h.1, fun p hp => by rcases List.mem_cons.1 hp with rfl | hp; exact hr; exact h.2 p hp⟩
theorem call_st {f : FuncId} {args : Array Value} {W0 W : World} {l : List (Value × List ByteArray)} {ys : List ByteArray} {Q : Ending → World → Prop} (hst : STt W0 W l) (hc : STt W0 W l → Calls Tryz.prog f args W (RefW ys W))
    (h : ∀ a c w', STt W0 w' ((.slice a ys.length c, ys) :: l) → Q (.returned (.slice a ys.length c)) w') : Calls Tryz.prog f args W Q := by
  refine (hc hst).mono ?_
  rintro e w' ⟨v, rfl, hv, hb⟩
  obtain ⟨a, c, rfl, _⟩ := hv.shape
  exact h a c w' ((hst.bel hb).row hv)
theorem st_list {W0 W : World} {l : List (Value × List ByteArray)} (h : STt W0 W l) (ls : List (Value × List ByteArray)) {arr : Array Value} (ha : arr.toList = ls.map Prod.fst) (hm : ls.length ≤ 1000) (hl : ∀ p ∈ ls, p ∈ l) (t : TypeId) {n g : Nat} (hn : n = ls.length) (hg : g = W.heap.size) :
    RowsR NoM (W.alloc (.cells arr t)) 1 (LsR (W.alloc (.cells arr t))) (.slice (some ⟨g, 0, none⟩) n n) (ls.map Prod.snd) := by
  subst hn
  refine ls_new (ls.map Prod.snd) hg (by simp) (by rw [ha]; simp) (by simpa using hm) t fun i y v hi hv => ?_
  rw [ha] at hv
  simp only [List.getElem?_map, Option.map_eq_some_iff] at hi hv
  obtain ⟨p, hp, rfl⟩ := hi
  obtain ⟨q, hq, rfl⟩ := hv
  rw [hp] at hq
  cases hq
  exact h.2 p (hl p (List.mem_of_getElem? hp))
/-- The call of cat behind all. -/
theorem call_cat {W0 W : World} {l ls : List (Value × List ByteArray)} {arr : Array Value} {t : TypeId} {n g : Nat} {Q : Ending → World → Prop} (hst : STt W0 W l) (hg : g = W.heap.size) (ha : arr.toList = ls.map Prod.fst) (hl : ∀ p ∈ ls, p ∈ l) (hm : ls.length ≤ 1000) (hn : n = ls.length)
    (hN : ((ls.map Prod.snd).map List.length).sum ≤ 1000000000) (h : ∀ v w', RowsR NoM w' 1 StrR v (ls.map Prod.snd).flatten → Below W0.heap.size W0 w' → Q (.returned v) w') :
    Calls Tryz.prog 77 #[.slice (some ⟨g, 0, none⟩) n n] (W.alloc (.cells arr t)) Q := by
  refine (cat_any (ls.map Prod.snd) _ _ (st_list hst ls ha hm hl t hn hg) hN).mono ?_
  rintro e w' ⟨v, rfl, hv, hb⟩
  exact h v w' hv (bel_trans (hst.alloc _).1 hb)

theorem arg_len {k o : Int} {i : Nat} {x : Ex} (h : (wordsP x).length ≤ 800000000) : (argW k o i x).length ≤ 800000002 := by
  unfold argW
  split
  · simp; omega
  · omega

/-- An argument of an expression in a box, wherever the world has grown to. -/
theorem arg_closed (k o : Int) (no : Bool) (args : List Ex) (i : Nat) (x : Ex) (hx : args[i]? = some x) (hok : RwOk x) (hi3 : i ≤ 2) (h5 : k = 5 → i ≤ 1) (W : World) (va vs : Value) (hA : ExsR NoM W va args) (hl : LibOk W) (hs : 10 < W.heap.size) (ho : OpsR W) (hN : (wordsP x).length ≤ 800000000) (W' : World) (l : List (Value × List ByteArray)) (h : STt W W' l) :
    Calls Tryz.prog 168 #[.agg #[.int .i64 k, .int .i64 o, .bool no, .int .i64 0, .int .i64 0, .string es, .string es, .string es, va, vs], .int .i64 (i : Int)] W' (RefW (argW k o i x) W') := by
  have h1 := rargument_any k o no 0 0 es es es va vs args i x hx hok hi3 W' (RowsR.map hA (.bel h.1) fun x _ cs h' => EC.keep (.bel h.1) x cs h') (hl.belB h.1 hs) (Nat.lt_of_lt_of_le hs h.1.size) (ho.bel h.1) hN
  rw [leastR_eq h5] at h1
  exact h1
end Go.Proofs.YtpnigfmclmfjaaaGreatDoor

namespace Go.Proofs.YtpnigfmclmfjaaaGreatDoor
open Go.RowKit

set_option maxRecDepth 100000 in
set_option maxHeartbeats 8000000 in
theorem rw_null0 (a : Ex) (ha : RwOk a) (na : (wordsP a).length ≤ 800000000) : RwOk (opX 6 0 false [a] []) := by
  intro cs w hE hL hs hO hN
  obtain ⟨xva, xvs, rfl, hva, hvs⟩ := (EC_iff ..).1 hE
  obtain ⟨ea, ec, rfl, _⟩ := hva.shape
  obtain ⟨sa, sc, rfl, _⟩ := hvs.shape
  have HA := Lib.hid (show ExsR NoM w (.slice ea 1 ec) [a] from hva)
  have HL := Lib.hid hL
  have HO := Lib.hid hO
  have Ha := Lib.hid ha
  have Na := Lib.hid na
  rw [words_null0]
  simp only [exCells, opX, Ex.kind, Ex.op, Ex.no, Ex.val, Ex.table, Ex.name, Ex.args, Ex.sub, List.length_cons, List.length_nil, Nat.zero_add, val0]
  clear hE hva hvs hL hO hN ha na
  go_enter Tryz.func76, Tryz.ntmps76
  go_upto_region 15 with fail
  generalize hW : World.alloc w _ = W
  have HBW := Lib.hid (show Below w.heap.size w W from by rw [← hW]; exact (Below.refl _ _).alloc (Nat.le_refl _) _)
  have hS : W.heap[w.heap.size]? = some (.cells #[.int .i64 6, .int .i64 0, .bool false, .int .i64 0, .int .i64 0, .string es, .string es, .string es, .slice ea 1 ec, .slice sa 0 sc] 57 (0, 0)) := by rw [← hW]; exact heap_alloc_new w _
  have hz := HBW.out.size
  obtain ⟨e0, e1, e2, e3, e4, e5, e6, e7, e8, e9, _⟩ := blk10 hS
  have HAW := Lib.hid (ExsR.keep HA.out (.bel HBW.out))
  have HLW := Lib.hid (HL.out.belB HBW.out hs)
  have HOW := Lib.hid (HO.out.bel HBW.out)
  have hsW : 10 < W.heap.size := by omega
  clear hS hW
  have HG0 := Lib.hid fun W' l (h : STt W W' l) => arg_closed 6 0 false [a] 0 a rfl Ha.out (by omega) (by omega) W (.slice ea 1 ec) (.slice sa 0 sc) HAW.out HLW.out hsW HOW.out (by have := Na.out; omega) W' l h
  have HN0 := Lib.hid (arg_len (k := 6) (o := 0) (i := 0) (x := a) (by have := Na.out; omega))
  generalize hR0 : argW 6 0 0 a = R0 at HG0 HN0
  have HR0 := Lib.hid hR0
  clear hR0
  go_wp2_with fail
  refine call_st (W0 := W) (STt.base W) (fun h => HG0.out _ _ h) ?_
  intro a1 c1 w1 hst
  have ST1 := Lib.hid hst
  clear hst e0 e1 e2 e3 e4 e5 e6 e7 e8 e9
  have ST2 := Lib.hid (ST1.out.strs [kIS, kNULL] (arr := #[.string ⟨#[73, 83]⟩, .string ⟨#[78, 85, 76, 76]⟩]) rfl (by simp) 9)
  dsimp only
  go_wp2_with fail
  refine call_cat (W0 := W) (ls := [(.slice a1 R0.length c1, R0), (.slice (some ⟨w1.heap.size, 0, none⟩) 2 2, [kIS, kNULL])]) ST2.out (by simp) (by rfl) (by intro p hp; simpa [or_assoc, or_comm, or_left_comm] using hp) (by simp) (by rfl) (by have := HN0.out; simp; omega) ?_
  intro v9 w9 hv9 hb9
  have HV := Lib.hid hv9
  have HB9 := Lib.hid (HBW.out.trans (hb9.mono hz))
  clear hv9 hb9
  dsimp only
  go_wp2_with fail
  go_ret
  exact ⟨_, rfl, by rw [HR0.out]; simpa using HV.out, HB9.out⟩

set_option maxRecDepth 100000 in
set_option maxHeartbeats 8000000 in
theorem rw_null1 (a : Ex) (ha : RwOk a) (na : (wordsP a).length ≤ 800000000) : RwOk (opX 6 0 true [a] []) := by
  intro cs w hE hL hs hO hN
  obtain ⟨xva, xvs, rfl, hva, hvs⟩ := (EC_iff ..).1 hE
  obtain ⟨ea, ec, rfl, _⟩ := hva.shape
  obtain ⟨sa, sc, rfl, _⟩ := hvs.shape
  have HA := Lib.hid (show ExsR NoM w (.slice ea 1 ec) [a] from hva)
  have HL := Lib.hid hL
  have HO := Lib.hid hO
  have Ha := Lib.hid ha
  have Na := Lib.hid na
  rw [words_null1]
  simp only [exCells, opX, Ex.kind, Ex.op, Ex.no, Ex.val, Ex.table, Ex.name, Ex.args, Ex.sub, List.length_cons, List.length_nil, Nat.zero_add, val0]
  clear hE hva hvs hL hO hN ha na
  go_enter Tryz.func76, Tryz.ntmps76
  go_upto_region 14 with fail
  generalize hW : World.alloc w _ = W
  have HBW := Lib.hid (show Below w.heap.size w W from by rw [← hW]; exact (Below.refl _ _).alloc (Nat.le_refl _) _)
  have hS : W.heap[w.heap.size]? = some (.cells #[.int .i64 6, .int .i64 0, .bool true, .int .i64 0, .int .i64 0, .string es, .string es, .string es, .slice ea 1 ec, .slice sa 0 sc] 57 (0, 0)) := by rw [← hW]; exact heap_alloc_new w _
  have hz := HBW.out.size
  obtain ⟨e0, e1, e2, e3, e4, e5, e6, e7, e8, e9, _⟩ := blk10 hS
  have HAW := Lib.hid (ExsR.keep HA.out (.bel HBW.out))
  have HLW := Lib.hid (HL.out.belB HBW.out hs)
  have HOW := Lib.hid (HO.out.bel HBW.out)
  have hsW : 10 < W.heap.size := by omega
  clear hS hW
  have HG0 := Lib.hid fun W' l (h : STt W W' l) => arg_closed 6 0 true [a] 0 a rfl Ha.out (by omega) (by omega) W (.slice ea 1 ec) (.slice sa 0 sc) HAW.out HLW.out hsW HOW.out (by have := Na.out; omega) W' l h
  have HN0 := Lib.hid (arg_len (k := 6) (o := 0) (i := 0) (x := a) (by have := Na.out; omega))
  generalize hR0 : argW 6 0 0 a = R0 at HG0 HN0
  have HR0 := Lib.hid hR0
  clear hR0
  go_wp2_with fail
  refine call_st (W0 := W) (STt.base W) (fun h => HG0.out _ _ h) ?_
  intro a1 c1 w1 hst
  have ST1 := Lib.hid hst
  clear hst e0 e1 e2 e3 e4 e5 e6 e7 e8 e9
  have ST2 := Lib.hid (ST1.out.strs [kIS, kNOT, kNULL] (arr := #[.string ⟨#[73, 83]⟩, .string ⟨#[78, 79, 84]⟩, .string ⟨#[78, 85, 76, 76]⟩]) rfl (by simp) 9)
  dsimp only
  go_wp2_with fail
  refine call_cat (W0 := W) (ls := [(.slice a1 R0.length c1, R0), (.slice (some ⟨w1.heap.size, 0, none⟩) 3 3, [kIS, kNOT, kNULL])]) ST2.out (by simp) (by rfl) (by intro p hp; simpa [or_assoc, or_comm, or_left_comm] using hp) (by simp) (by rfl) (by have := HN0.out; simp; omega) ?_
  intro v9 w9 hv9 hb9
  have HV := Lib.hid hv9
  have HB9 := Lib.hid (HBW.out.trans (hb9.mono hz))
  clear hv9 hb9
  dsimp only
  go_wp2_with fail
  go_ret
  exact ⟨_, rfl, by rw [HR0.out]; simpa using HV.out, HB9.out⟩

end Go.Proofs.YtpnigfmclmfjaaaGreatDoor

namespace Go.Proofs.YtpnigfmclmfjaaaGreatDoor
open Go.RowKit

set_option maxRecDepth 100000 in
set_option maxHeartbeats 8000000 in
theorem rw_exists (f : ByteArray) (whr : List Ex) (hw1 : whr.length ≤ 1) (hall : ∀ x ∈ whr, RwOk x) (hn : (whereW (whr.map wordsP)).length ≤ 500000000) : RwOk (opX 8 0 false [] [.mk true [] f whr]) := by
  intro cs w hE hL hs hO hN
  obtain ⟨xva, xvs, rfl, hva, hvs⟩ := (EC_iff ..).1 hE
  obtain ⟨ea, ec, rfl, _⟩ := hva.shape
  rcases hvs.open with ⟨_, h0⟩ | ⟨sb, so, sc, rfl, _, hsb, _, _, hx⟩
  · cases h0
  obtain ⟨qs, hq, _, hqs⟩ := hx 0 _ rfl
  obtain ⟨vi, vw, rfl, hi, hwh⟩ := (QC_iff ..).1 hq
  obtain ⟨ia, ic, rfl, _⟩ := hi.shape
  obtain ⟨wa, wc, rfl, _⟩ := hwh.shape
  have HWH := Lib.hid (show ExsR NoM w (.slice wa whr.length wc) whr from hwh)
  have HQS := Lib.hid (show CellsAt w sb (so + 0 * 4) [.bool true, .slice ia 0 ic, .string f, .slice wa whr.length wc] from hqs)
  have HALL := Lib.hid hall
  have HN := Lib.hid hn
  have HL := Lib.hid hL
  have HO := Lib.hid hO
  obtain ⟨R, HR⟩ : ∃ R, Hid (R = wordsP (opX 8 0 false [] [.mk true [] f whr])) := ⟨_, Lib.hid rfl⟩
  rw [← HR.out]
  simp only [exCells, opX, Ex.kind, Ex.op, Ex.no, Ex.val, Ex.table, Ex.name, Ex.args, Ex.sub, List.length_cons, List.length_nil, Nat.zero_add, val0]
  clear hE hva hvs hq hi hwh hqs hx hL hO hN hn hall
  go_enter Tryz.func76, Tryz.ntmps76
  go_upto_region 19 with fail
  generalize hW : World.alloc w _ = W
  have HBW := Lib.hid (show Below w.heap.size w W from by rw [← hW]; exact (Below.refl _ _).alloc (Nat.le_refl _) _)
  have hS : W.heap[w.heap.size]? = some (.cells #[.int .i64 8, .int .i64 0, .bool false, .int .i64 0, .int .i64 0, .string es, .string es, .string es, .slice ea 0 ec, .slice (some ⟨sb, so, none⟩) 1 sc] 57 (0, 0)) := by rw [← hW]; exact heap_alloc_new w _
  have hz := HBW.out.size
  have HS := Lib.hid hS
  have hzz := (Array.getElem?_eq_some_iff.1 hS).1
  have HLW := Lib.hid (HL.out.belB HBW.out hs)
  have HOW := Lib.hid (HO.out.bel HBW.out)
  have HQW := Lib.hid (HQS.out.keep (M := NoM) (.bel HBW.out) id)
  have HWW := Lib.hid (ExsR.keep HWH.out (.bel HBW.out))
  have hsW : 10 < W.heap.size := by omega
  clear hS hW
  have HKS : Hid (∀ w' l, STt W w' l → w'.cell? ⟨w.heap.size, 0, none⟩ = some (.int .i64 8) ∧ w'.cell? ⟨w.heap.size, 1, none⟩ = some (.int .i64 0) ∧ w'.cell? ⟨w.heap.size, 2, none⟩ = some (.bool false) ∧ w'.cell? ⟨w.heap.size, 3, none⟩ = some (.int .i64 0) ∧ w'.cell? ⟨w.heap.size, 4, none⟩ = some (.int .i64 0) ∧ w'.cell? ⟨w.heap.size, 5, none⟩ = some (.string es) ∧ w'.cell? ⟨w.heap.size, 6, none⟩ = some (.string es) ∧ w'.cell? ⟨w.heap.size, 7, none⟩ = some (.string es) ∧ w'.cell? ⟨w.heap.size, 8, none⟩ = some (.slice ea 0 ec) ∧ w'.cell? ⟨w.heap.size, 9, none⟩ = some (.slice (some ⟨sb, so, none⟩) 1 sc) ∧ w'.cell? ⟨sb, so, none⟩ = some (.bool true) ∧ w'.cell? ⟨sb, so + 1, none⟩ = some (.slice ia 0 ic) ∧ w'.cell? ⟨sb, so + 2, none⟩ = some (.string f) ∧ w'.cell? ⟨sb, so + 3, none⟩ = some (.slice wa whr.length wc)) := Lib.hid fun w' l h => by
    obtain ⟨e0, e1, e2, e3, e4, e5, e6, e7, e8, e9, _⟩ := blk10 ((h.1.block _ hzz).trans HS.out)
    obtain ⟨q0, q1, q2, q3⟩ := CellsAt.c4 (HQW.out.keep (M := NoM) (.bel h.1) id)
    simp only [Nat.zero_mul, Nat.add_zero] at q0 q1 q2 q3
    exact ⟨e0, e1, e2, e3, e4, e5, e6, e7, e8, e9, q0, q1, q2, q3⟩
  have HFR := Lib.hid fun W' l (h : STt W W' l) => rfrom_any true (.slice ia 0 ic) f (.slice wa whr.length wc) whr HALL.out hw1 W' (ExsR.keep HWW.out (.bel h.1)) (HLW.out.belB h.1 hsW) (Nat.lt_of_lt_of_le hsW h.1.size) (HOW.out.bel h.1) (by have := HN.out; omega)
  have HRW : Hid (R = [kEXISTS, kOpen, kSELECT, kStar] ++ ((kFROM :: f :: whereW (whr.map wordsP)) ++ [kShut])) := Lib.hid (by rw [HR.out, words_sub (by decide)]; rfl)
  generalize hwh : whereW (whr.map wordsP) = wh at HFR HRW HN
  clear hwh HR
  have ST1 := Lib.hid ((STt.base W).strs [kEXISTS, kOpen, kSELECT, kStar] (arr := #[.string ⟨#[69, 88, 73, 83, 84, 83]⟩, .string ⟨#[40]⟩, .string ⟨#[83, 69, 76, 69, 67, 84]⟩, .string ⟨#[42]⟩]) rfl (by simp) 9)
  obtain ⟨e0, e1, e2, e3, e4, e5, e6, e7, e8, e9, q0, q1, q2, q3⟩ := HKS.out _ _ ST1.out
  have i0 : (0 : Int) ≤ 0 := by omega
  go_wp2_with fail
  refine call_st (W0 := W) ST1.out (fun h => HFR.out _ _ h) ?_
  intro a1 c1 w1 hst
  have ST2 := Lib.hid hst
  clear hst e0 e1 e2 e3 e4 e5 e6 e7 e8 e9 q0 q1 q2 q3
  dsimp only
  go_wp2_with fail
  have ST3 := Lib.hid (ST2.out.strs [kShut] (arr := #[.string ⟨#[41]⟩]) rfl (by simp) 9)
  refine call_cat (W0 := W) (ls := [(.slice (some ⟨W.heap.size, 0, none⟩) 4 4, [kEXISTS, kOpen, kSELECT, kStar]), (.slice a1 (wh.length + 1 + 1) c1, kFROM :: f :: wh), (.slice (some ⟨w1.heap.size, 0, none⟩) 1 1, [kShut])]) ST3.out (by simp) (by rfl) (by intro p hp; simpa [or_assoc, or_comm, or_left_comm] using hp) (by simp) (by rfl) (by have := HN.out; simp; omega) ?_
  intro v9 w9 hv9 hb9
  have HV := Lib.hid hv9
  have HB9 := Lib.hid (HBW.out.trans (hb9.mono hz))
  clear hv9 hb9
  dsimp only
  go_wp2_with fail
  go_ret
  exact ⟨_, rfl, by rw [HRW.out]; simpa using HV.out, HB9.out⟩

set_option maxRecDepth 100000 in
set_option maxHeartbeats 8000000 in
theorem rw_count (f : ByteArray) (whr : List Ex) (hw1 : whr.length ≤ 1) (hall : ∀ x ∈ whr, RwOk x) (hn : (whereW (whr.map wordsP)).length ≤ 500000000) : RwOk (opX 9 0 false [] [.mk false [] f whr]) := by
  intro cs w hE hL hs hO hN
  obtain ⟨xva, xvs, rfl, hva, hvs⟩ := (EC_iff ..).1 hE
  obtain ⟨ea, ec, rfl, _⟩ := hva.shape
  rcases hvs.open with ⟨_, h0⟩ | ⟨sb, so, sc, rfl, _, hsb, _, _, hx⟩
  · cases h0
  obtain ⟨qs, hq, _, hqs⟩ := hx 0 _ rfl
  obtain ⟨vi, vw, rfl, hi, hwh⟩ := (QC_iff ..).1 hq
  obtain ⟨ia, ic, rfl, _⟩ := hi.shape
  obtain ⟨wa, wc, rfl, _⟩ := hwh.shape
  have HWH := Lib.hid (show ExsR NoM w (.slice wa whr.length wc) whr from hwh)
  have HQS := Lib.hid (show CellsAt w sb (so + 0 * 4) [.bool false, .slice ia 0 ic, .string f, .slice wa whr.length wc] from hqs)
  have HALL := Lib.hid hall
  have HN := Lib.hid hn
  have HL := Lib.hid hL
  have HO := Lib.hid hO
  obtain ⟨R, HR⟩ : ∃ R, Hid (R = wordsP (opX 9 0 false [] [.mk false [] f whr])) := ⟨_, Lib.hid rfl⟩
  rw [← HR.out]
  simp only [exCells, opX, Ex.kind, Ex.op, Ex.no, Ex.val, Ex.table, Ex.name, Ex.args, Ex.sub, List.length_cons, List.length_nil, Nat.zero_add, val0]
  clear hE hva hvs hq hi hwh hqs hx hL hO hN hn hall
  go_enter Tryz.func76, Tryz.ntmps76
  go_upto_region 21 with fail
  generalize hW : World.alloc w _ = W
  have HBW := Lib.hid (show Below w.heap.size w W from by rw [← hW]; exact (Below.refl _ _).alloc (Nat.le_refl _) _)
  have hS : W.heap[w.heap.size]? = some (.cells #[.int .i64 9, .int .i64 0, .bool false, .int .i64 0, .int .i64 0, .string es, .string es, .string es, .slice ea 0 ec, .slice (some ⟨sb, so, none⟩) 1 sc] 57 (0, 0)) := by rw [← hW]; exact heap_alloc_new w _
  have hz := HBW.out.size
  have HS := Lib.hid hS
  have hzz := (Array.getElem?_eq_some_iff.1 hS).1
  have HLW := Lib.hid (HL.out.belB HBW.out hs)
  have HOW := Lib.hid (HO.out.bel HBW.out)
  have HQW := Lib.hid (HQS.out.keep (M := NoM) (.bel HBW.out) id)
  have HWW := Lib.hid (ExsR.keep HWH.out (.bel HBW.out))
  have hsW : 10 < W.heap.size := by omega
  clear hS hW
  have HKS : Hid (∀ w' l, STt W w' l → w'.cell? ⟨w.heap.size, 0, none⟩ = some (.int .i64 9) ∧ w'.cell? ⟨w.heap.size, 1, none⟩ = some (.int .i64 0) ∧ w'.cell? ⟨w.heap.size, 2, none⟩ = some (.bool false) ∧ w'.cell? ⟨w.heap.size, 3, none⟩ = some (.int .i64 0) ∧ w'.cell? ⟨w.heap.size, 4, none⟩ = some (.int .i64 0) ∧ w'.cell? ⟨w.heap.size, 5, none⟩ = some (.string es) ∧ w'.cell? ⟨w.heap.size, 6, none⟩ = some (.string es) ∧ w'.cell? ⟨w.heap.size, 7, none⟩ = some (.string es) ∧ w'.cell? ⟨w.heap.size, 8, none⟩ = some (.slice ea 0 ec) ∧ w'.cell? ⟨w.heap.size, 9, none⟩ = some (.slice (some ⟨sb, so, none⟩) 1 sc) ∧ w'.cell? ⟨sb, so, none⟩ = some (.bool false) ∧ w'.cell? ⟨sb, so + 1, none⟩ = some (.slice ia 0 ic) ∧ w'.cell? ⟨sb, so + 2, none⟩ = some (.string f) ∧ w'.cell? ⟨sb, so + 3, none⟩ = some (.slice wa whr.length wc)) := Lib.hid fun w' l h => by
    obtain ⟨e0, e1, e2, e3, e4, e5, e6, e7, e8, e9, _⟩ := blk10 ((h.1.block _ hzz).trans HS.out)
    obtain ⟨q0, q1, q2, q3⟩ := CellsAt.c4 (HQW.out.keep (M := NoM) (.bel h.1) id)
    simp only [Nat.zero_mul, Nat.add_zero] at q0 q1 q2 q3
    exact ⟨e0, e1, e2, e3, e4, e5, e6, e7, e8, e9, q0, q1, q2, q3⟩
  have HFR := Lib.hid fun W' l (h : STt W W' l) => rfrom_any false (.slice ia 0 ic) f (.slice wa whr.length wc) whr HALL.out hw1 W' (ExsR.keep HWW.out (.bel h.1)) (HLW.out.belB h.1 hsW) (Nat.lt_of_lt_of_le hsW h.1.size) (HOW.out.bel h.1) (by have := HN.out; omega)
  have HRW : Hid (R = [kOpen, kSELECT, kCOUNT, kOpen, kStar, kShut] ++ ((kFROM :: f :: whereW (whr.map wordsP)) ++ [kShut])) := Lib.hid (by rw [HR.out, words_sub (by decide)]; rfl)
  generalize hwh : whereW (whr.map wordsP) = wh at HFR HRW HN
  clear hwh HR
  have ST1 := Lib.hid ((STt.base W).strs [kOpen, kSELECT, kCOUNT, kOpen, kStar, kShut] (arr := #[.string ⟨#[40]⟩, .string ⟨#[83, 69, 76, 69, 67, 84]⟩, .string ⟨#[67, 79, 85, 78, 84]⟩, .string ⟨#[40]⟩, .string ⟨#[42]⟩, .string ⟨#[41]⟩]) rfl (by simp) 9)
  obtain ⟨e0, e1, e2, e3, e4, e5, e6, e7, e8, e9, q0, q1, q2, q3⟩ := HKS.out _ _ ST1.out
  have i0 : (0 : Int) ≤ 0 := by omega
  go_wp2_with fail
  refine call_st (W0 := W) ST1.out (fun h => HFR.out _ _ h) ?_
  intro a1 c1 w1 hst
  have ST2 := Lib.hid hst
  clear hst e0 e1 e2 e3 e4 e5 e6 e7 e8 e9 q0 q1 q2 q3
  dsimp only
  go_wp2_with fail
  have ST3 := Lib.hid (ST2.out.strs [kShut] (arr := #[.string ⟨#[41]⟩]) rfl (by simp) 9)
  refine call_cat (W0 := W) (ls := [(.slice (some ⟨W.heap.size, 0, none⟩) 6 6, [kOpen, kSELECT, kCOUNT, kOpen, kStar, kShut]), (.slice a1 (wh.length + 1 + 1) c1, kFROM :: f :: wh), (.slice (some ⟨w1.heap.size, 0, none⟩) 1 1, [kShut])]) ST3.out (by simp) (by rfl) (by intro p hp; simpa [or_assoc, or_comm, or_left_comm] using hp) (by simp) (by rfl) (by have := HN.out; simp; omega) ?_
  intro v9 w9 hv9 hb9
  have HV := Lib.hid hv9
  have HB9 := Lib.hid (HBW.out.trans (hb9.mono hz))
  clear hv9 hb9
  dsimp only
  go_wp2_with fail
  go_ret
  exact ⟨_, rfl, by rw [HRW.out]; simpa using HV.out, HB9.out⟩

end Go.Proofs.YtpnigfmclmfjaaaGreatDoor

namespace Go.Proofs.YtpnigfmclmfjaaaGreatDoor
open Go.RowKit

theorem bs_app (a b : List UInt8) : bs (a ++ b) = bs a ++ bs b := by
  apply bytes_ext
  rw [ByteArray.data_append, Array.toList_append]
  rfl
theorem bs_size (a : List UInt8) : (bs a).size = a.length := by show a.toArray.size = a.length; simp
theorem bs_self (t : ByteArray) : bs t.data.toList = t := rfl

set_option maxRecDepth 100000 in
set_option maxHeartbeats 8000000 in
theorem rjoin_any {M : Nat → Prop} (l : List ByteArray) (v : Value) (w : World) (hv : RowsR M w 1 StrR v l) (hl : LibOk w) (hs : 10 < w.heap.size) (hN : (l.map fun t => t.size + 1).sum ≤ 1000000000000) :
    Calls Tryz.prog 75 #[v] w (RetBel (.string (bs (joinL none l))) w) := by
  have HV := Lib.hid hv
  have HL := Lib.hid hl
  have HN := Lib.hid hN
  obtain ⟨a, c, rfl, hm⟩ := hv.shape
  unfold maxLen at hm
  clear hv hl hN
  go_enter Tryz.func75, Tryz.ntmps75
  go_wp2_with fail
  go_loopw [3, 8] (fun out i wr => ∃ j : Nat, j ≤ l.length ∧ i = .int .i64 j ∧ out = .string (bs (joinL none (l.take j))) ∧ Below w.heap.size w wr) (fun _ i _ => l.length - (intOf i).toNat)
  case atStart => exact ⟨0, Nat.zero_le _, rfl, rfl, Below.refl _ _⟩
  case round =>
    rename World => wr
    obtain ⟨j, hj, rfl, rfl, hbw⟩ := hrel
    have HBW := Lib.hid hbw
    have HLR := Lib.hid (HL.out.bel hbw hs)
    clear hbw
    by_cases hlt : j < l.length
    · rcases HV.out.open with ⟨_, h0⟩ | ⟨ab, ao, cap', hv', _, hab, hcap, _, hx⟩
      · rw [h0] at hlt
        simp at hlt
      simp only [Value.slice.injEq] at hv'
      obtain ⟨rfl, _, rfl⟩ := hv'
      have hxj : l[j]? = some l[j] := List.getElem?_eq_getElem hlt
      obtain ⟨cs, rfl, _, hcs⟩ := hx j _ hxj
      have c0 := (hcs.keep (M := fun _ => False) (.bel HBW.out) id).c1
      simp only [Nat.mul_one] at c0
      have HX := Lib.hid hx
      have HTK := Lib.hid (joinL_take hxj)
      have HLE := Lib.hid (Nat.le_trans (joinL_len (l.take (j + 1)) none) (Nat.le_trans (take_sum l (j + 1)) HN.out))
      generalize l[j] = t at hxj c0 HTK
      have i0 : (0 : Int) ≤ (j : Int) := by omega
      have i1 : (j : Int) < (l.length : Int) := by omega
      have HLT := Lib.hid (fun (k : Nat) (t : ByteArray) (h : l[k]? = some t) => lastW_take h)
      generalize hnx : joinL none (l.take (j + 1)) = nx at HTK HLE
      have NX := Lib.hid hnx
      clear hnx
      clear hx hcs
      have HCT := Lib.hid (fun w h => contains_lib t w h)
      generalize joinL none (l.take j) = cur at HTK
      generalize hbc : bs cur = bcur
      have HBC := Lib.hid hbc
      clear hbc
      rcases Nat.eq_zero_or_pos j with rfl | hjp
      · have HN0 : Hid (bs nx = bcur ++ t) := Lib.hid (by rw [HTK.out, ← HBC.out, bs_app]; congr 1)
        have hsz : ¬ 9223372036854775807 < bcur.size + t.size := by
          have h1 := HLE.out
          have h2 := congrArg ByteArray.size HN0.out
          rw [ByteArray.size_append, bs_size] at h2
          omega
        clear HTK HLE HLT HCT
        simp only [Nat.add_zero] at c0
        go_wp2_with fail
        refine ⟨⟨0 + 1, by omega, by go_num, by rw [NX.out, HN0.out], HBW.out⟩, ?_⟩
        simp [intOf]
        omega
      · obtain ⟨k, rfl⟩ : ∃ k, j = k + 1 := ⟨j - 1, by omega⟩
        have hxk : l[k]? = some l[k] := List.getElem?_eq_getElem (by omega)
        obtain ⟨cs, rfl, _, hcs⟩ := HX.out k _ hxk
        have p0 := (hcs.keep (M := fun _ => False) (.bel HBW.out) id).c1
        simp only [Nat.mul_one] at p0
        have hlast := HLT.out k _ hxk
        generalize l[k] = pw at hxk p0 hlast
        rw [hlast] at HTK
        clear hcs hlast
        have i2 : (k : Int) < (l.length : Int) := by omega
        have i3 : (0 : Int) ≤ (k : Int) := by omega
        generalize hcb : Lib.contains [44, 59, 46, 41] t.data.toList = cb at HCT
        have HG : Hid (glueB (some pw) t = (!cb && !(pw.toList == [40]) && !(pw.toList == [46]))) := Lib.hid (by unfold glueB; rw [hcb])
        clear hcb
        cases hg : glueB (some pw) t
        · have HN0 : Hid (bs nx = bcur ++ t) := Lib.hid (by rw [HTK.out, hg, ← HBC.out, bs_app]; congr 1)
          have hcase : cb = true ∨ (cb = false ∧ (pw.toList == [40]) = true) ∨ (cb = false ∧ (pw.toList == [40]) = false ∧ (pw.toList == [46]) = true) := by
            have h := HG.out
            rw [hg] at h
            exact glue_no _ _ _ h.symm
          have hsz : ¬ 9223372036854775807 < bcur.size + t.size := by
            have h1 := HLE.out
            have h2 := congrArg ByteArray.size HN0.out
            rw [ByteArray.size_append, bs_size] at h2
            omega
          clear HTK HLE HLT hg HG
          rcases hcase with rfl | ⟨rfl, h1⟩ | ⟨rfl, h1, h2⟩
          case' inr.inl => have h1' : (pw.toList != [40]) = false := by simp [bne, h1]
          case' inr.inr =>
            have h1' : (pw.toList != [40]) = true := by simp [bne, h1]
            have h2' : (pw.toList != [46]) = false := by simp [bne, h2]
          all_goals
            go_wp2_with fail
            refine (HCT.out wr HLR.out).mono ?_
            rintro e w2 ⟨rfl, rfl⟩
            dsimp only
            go_wp2_with fail
            refine ⟨⟨k + 1 + 1, by omega, by go_num, by rw [NX.out, HN0.out], HBW.out⟩, ?_⟩
            simp [intOf]
            omega
        · have HN0 : Hid (bs nx = bcur ++ ⟨#[32]⟩ ++ t) := Lib.hid (by rw [HTK.out, hg, ← HBC.out, bs_app, if_pos rfl, bs_app, ← ByteArray.append_assoc]; rfl)
          have hcase : cb = false ∧ (pw.toList == [40]) = false ∧ (pw.toList == [46]) = false := by
            have h := HG.out
            rw [hg] at h
            exact glue_yes _ _ _ h.symm
          have hs1 : bcur.size + 1 + t.size ≤ 1000000000000 := by
            have h1 := HLE.out
            have h2 := congrArg ByteArray.size HN0.out
            rw [ByteArray.size_append, ByteArray.size_append, bs_size, show ByteArray.size ⟨#[32]⟩ = 1 from rfl] at h2
            omega
          have hsz : ¬ 9223372036854775807 < bcur.size + 1 := by omega
          have hsz2 : ¬ 9223372036854775807 < bcur.size + 1 + t.size := by omega
          have hsz3 : ¬ 9223372036854775807 < (bcur ++ ⟨#[32]⟩).size + t.size := by rw [ByteArray.size_append, show ByteArray.size ⟨#[32]⟩ = 1 from rfl]; omega
          clear HTK HLE HLT hg HG
          obtain ⟨rfl, h1, h2⟩ := hcase
          have h1' : (pw.toList != [40]) = true := by simp [bne, h1]
          have h2' : (pw.toList != [46]) = true := by simp [bne, h2]
          go_wp2_with fail
          refine (HCT.out wr HLR.out).mono ?_
          rintro e w2 ⟨rfl, rfl⟩
          dsimp only
          go_wp2_with fail
          refine ⟨⟨k + 1 + 1, by omega, by go_num, by rw [NX.out, HN0.out], HBW.out⟩, ?_⟩
          simp [intOf]
          omega
    · obtain rfl : j = l.length := by omega
      go_wp2_with fail
      go_ret
      exact ⟨by rw [List.take_length]; rfl, HBW.out⟩
end Go.Proofs.YtpnigfmclmfjaaaGreatDoor
