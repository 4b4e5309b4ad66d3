/- Operands: a name, an expression in brackets. -/
import Derived.Test.YtkhlmofcdchccaaGreatDoorP5x
namespace Go.Proofs.YtkhlmofcdchccaaGreatDoor
open Go.RowKit Go.Maps

theorem par_is {s : ByteArray} {i : Nat} {l : List Tok} (h : ((⟨#[40]⟩ : ByteArray).toList == s.toList) = false) : isB s ((5, ⟨#[40]⟩, i) :: l) = false := by
  show (((5 : Int) == 1 || (5 : Int) == 5) && ((⟨#[40]⟩ : ByteArray).toList == s.toList)) = false
  rw [h, Bool.and_false]
theorem par_yes {i : Nat} {l : List Tok} : isB ⟨#[40]⟩ ((5, ⟨#[40]⟩, i) :: l) = true := by
  show (((5 : Int) == 1 || (5 : Int) == 5) && ((⟨#[40]⟩ : ByteArray).toList == (⟨#[40]⟩ : ByteArray).toList)) = true
  simp
theorem is_no (R : Nat) (en lev : Int) (l : List Tok) (s : ByteArray) (w : World) (h : RdOk R en lev l w) (hn : isB s l = false) : Calls Tryz.prog 150 #[.pointer (some ⟨R, 0, none⟩), .string s] w (RetBel (.bool false) w) := by
  have := is_any R en lev l s w h
  rw [hn] at this
  exact this

set_option maxRecDepth 100000 in
set_option maxHeartbeats 2000000 in
theorem primary_name (R : Nat) (en lev : Int) (s : ByteArray) (i : Nat) (l : List Tok) (hn : isB ⟨#[46]⟩ l = false) : Reads 247 R en lev ((2, s, i) :: l) (.ok (exCol s) l) := by
  have HN := Lib.hid hn
  clear hn
  intro w h
  have hRz := h.lt
  have HO := Lib.hid h
  clear h
  go_enter Tryz.func247, Tryz.ntmps247
  go_wp2_with fail
  refine (peek_any R en lev _ _ (HO.out.alloc (.cells #[.int .i64 0, .int .i64 0, .bool false, .int .i64 0, .int .i64 0, .string ⟨#[]⟩, .string ⟨#[]⟩, .string ⟨#[]⟩, .slice none 0 0, .slice none 0 0] 30))).mono ?_
  rintro e w1 ⟨rfl, hb1⟩
  obtain ⟨hb, hz, hk1⟩ := box10 (.bel hb1) hRz
  have HO1 := Lib.hid ((HO.out.alloc _).bel hb1)
  have HK1 := Lib.hid hk1
  have HB1 := Lib.hid hb
  clear hb1 hb hk1
  simp only [tokV, hdT]
  go_upto_region 2 with fail
  have hO2 := HO1.out.alloc (.cells #[.int .i64 2, .string s, .int .i64 (i : Nat)] 178)
  have hB2 : Below w1.heap.size w1 (w1.alloc (.cells #[.int .i64 2, .string s, .int .i64 (i : Nat)] 178)) := (Below.refl _ _).alloc (Nat.le_refl _) _
  have hb2 := heap_alloc_new w1 (.cells #[.int .i64 2, .string s, .int .i64 (i : Nat)] 178)
  generalize hW : World.alloc w1 _ = w2 at hO2 hB2 hb2 ⊢
  obtain ⟨t0, t1, t2, _, ht⟩ := blk3 hb2
  have HK2 := Lib.hid (HK1.out.trans (.bel hB2))
  have HR2 := Lib.hid ((hB2.block _ hz).trans HB1.out)
  have hz2 : w.heap.size < w2.heap.size := Nat.lt_of_lt_of_le hz hB2.size
  have HO2 := Lib.hid hO2
  clear hW hb2 hB2 hO2 HO1 HK1 HB1
  go_wp2_with fail
  refine (pcolumn_any R en lev s i l w2 HO2.out HN.out).mono ?_
  rintro e w3 ⟨v, rfl, hv, ho, hk⟩
  obtain ⟨x, hx⟩ : ∃ x, exCol s = x := ⟨_, rfl⟩
  rw [hx] at hv
  have HX := Lib.hid hx
  obtain ⟨aa, sa, ac, sc, rfl⟩ := hv.shape
  have HO3 := Lib.hid ho
  have HV := Lib.hid hv
  have HK3 := Lib.hid (HK2.out.trans hk)
  obtain ⟨x0, x1, x2, x3, x4, x5, x6, x7, x8, x9, xf, _⟩ := blk10 ((hk.block w.heap.size hz2 (by unfold At; omega)).trans HR2.out)
  clear ho hv hk hx HR2
  dsimp only
  go_wp2_with fail
  refine bodyPost_ret (v := .agg #[.int .i64 x.kind, .int .i64 x.op, .bool x.no, .int .i64 x.val.kind, .int .i64 x.val.int, .string x.val.text, .string x.table, .string x.name, .slice aa x.args.length ac, .slice sa x.sub.length sc]) (by simp [results, Tryz.results247, go_sem, x0, x1, x2, x3, x4, x5, x6, x7, x8, x9]) rfl ?_
  have FIN := ex_end HO3.out HV.out HK3.out hRz (Nat.le_refl w.heap.size) hz2 (.int .i64 x.kind) (.int .i64 x.op) (.bool x.no) (.int .i64 x.val.kind) (.int .i64 x.val.int) (.string x.val.text) (.string x.table) (.string x.name) (.slice aa x.args.length ac) (.slice sa x.sub.length sc)
  have hx := HX.out
  clear HX
  subst hx
  exact FIN

def POut.shut : POut → POut
  | .ok x (_ :: l) => .ok x l
  | o => o
set_option maxRecDepth 100000 in
set_option maxHeartbeats 4000000 in
theorem primary_par (R : Nat) (en lev : Int) (i : Nat) (l : List Tok) (o : POut) (hf : Reads 23 R en (lev + 1) l o) (hs : isB ⟨#[83, 69, 76, 69, 67, 84]⟩ l = false) (ho : ∀ x l', o = .ok x l' → ∃ t l2, l' = t :: l2 ∧ isB ⟨#[41]⟩ (t :: l2) = true) (h0 : 0 ≤ lev) (hl : lev < 12) :
    Reads 247 R en lev ((5, ⟨#[40]⟩, i) :: l) o.shut := by
  have HF := Lib.hid hf
  have HS := Lib.hid hs
  have HSH := Lib.hid ho
  clear hf hs ho
  intro w h
  have hRz := h.lt
  have HO := Lib.hid h
  clear h
  go_enter Tryz.func247, Tryz.ntmps247
  go_wp2_with fail
  refine (peek_any R en lev _ _ (HO.out.alloc (.cells #[.int .i64 0, .int .i64 0, .bool false, .int .i64 0, .int .i64 0, .string ⟨#[]⟩, .string ⟨#[]⟩, .string ⟨#[]⟩, .slice none 0 0, .slice none 0 0] 30))).mono ?_
  rintro e w1 ⟨rfl, hb1⟩
  obtain ⟨hb, hz, hk1⟩ := box10 (.bel hb1) hRz
  have HO1 := Lib.hid ((HO.out.alloc _).bel hb1)
  have HK1 := Lib.hid hk1
  have HB1 := Lib.hid hb
  clear hb1 hb hk1
  simp only [tokV, hdT]
  go_upto_region 2 with fail
  have hO2 := HO1.out.alloc (.cells #[.int .i64 5, .string ⟨#[40]⟩, .int .i64 (i : Nat)] 178)
  have hB2 : Below w1.heap.size w1 (w1.alloc (.cells #[.int .i64 5, .string ⟨#[40]⟩, .int .i64 (i : Nat)] 178)) := (Below.refl _ _).alloc (Nat.le_refl _) _
  have hb2 := heap_alloc_new w1 (.cells #[.int .i64 5, .string ⟨#[40]⟩, .int .i64 (i : Nat)] 178)
  generalize hW : World.alloc w1 _ = w2 at hO2 hB2 hb2 ⊢
  obtain ⟨t0, t1, t2, _, ht⟩ := blk3 hb2
  have HK2 := Lib.hid (HK1.out.trans (.bel hB2))
  have HR2 := Lib.hid ((hB2.block _ hz).trans HB1.out)
  have hz2 : w.heap.size < w2.heap.size := Nat.lt_of_lt_of_le hz hB2.size
  have HO2 := Lib.hid hO2
  clear hW hb2 hB2 hO2 HO1 HK1 HB1
  have HB := Lib.hid (Below.refl w2.heap.size w2)
  have HO3 := HO2
  iterate 3
    go_wp2_with fail
    refine (accept_no R en lev _ _ _ HO3.out (par_is (by decide +kernel))).mono ?_
    rintro e w3 ⟨rfl, hb⟩
    replace HB := Lib.hid (HB.out.trans (hb.mono HB.out.size))
    replace HO3 := Lib.hid (HO2.out.bel HB.out)
    clear hb
    (try dsimp only)
  iterate 4
    go_wp2_with fail
    refine (is_no R en lev _ _ _ HO3.out (par_is (by decide +kernel))).mono ?_
    rintro e w3 ⟨rfl, hb⟩
    replace HB := Lib.hid (HB.out.trans (hb.mono HB.out.size))
    replace HO3 := Lib.hid (HO2.out.bel HB.out)
    clear hb
    (try dsimp only)
  iterate 1
    go_wp2_with fail
    refine (accept_no R en lev _ _ _ HO3.out (par_is (by decide +kernel))).mono ?_
    rintro e w3 ⟨rfl, hb⟩
    replace HB := Lib.hid (HB.out.trans (hb.mono HB.out.size))
    replace HO3 := Lib.hid (HO2.out.bel HB.out)
    clear hb
    (try dsimp only)
  go_wp2_with fail
  refine (open_yes R en lev _ l _ _ HO3.out par_yes h0 hl).mono ?_
  rintro e w4 ⟨v, rfl, rfl, ho, hk⟩
  have HO4 := Lib.hid ho
  have HK4 := Lib.hid ((HK2.out.trans (.bel HB.out)).trans hk)
  have hz3 := Nat.lt_of_lt_of_le hz2 HB.out.size
  have HR4 := Lib.hid ((hk.block w.heap.size hz3 (by unfold At; omega)).trans ((HB.out.block _ hz2).trans HR2.out))
  have hz4 : w.heap.size < w4.heap.size := Nat.lt_of_lt_of_le hz3 hk.size
  clear ho hk hz3 HB HO3 HO2 HK2 HR2 t0 t1 t2 ht
  dsimp only
  go_wp2_with fail
  refine (accept_no R en _ l _ w4 HO4.out HS.out).mono ?_
  rintro e w5 ⟨rfl, hb5⟩
  have HO5 := Lib.hid (HO4.out.bel hb5)
  have HK5 := Lib.hid (HK4.out.trans (.bel hb5))
  have HR5 := Lib.hid ((hb5.block _ hz4).trans HR4.out)
  have hz5 : w.heap.size < w5.heap.size := Nat.lt_of_lt_of_le hz4 hb5.size
  clear hb5 HO4 HK4 HR4
  dsimp only
  go_wp2_with fail
  refine (HF.out _ HO5.out).mono ?_
  rintro e w6 hp
  cases o with
  | ok x l' =>
    obtain ⟨v, rfl, hv, ho, hk⟩ := hp
    obtain ⟨ts, l2, rfl, hsh⟩ := HSH.out x l' rfl
    have HSH2 := Lib.hid hsh
    obtain ⟨aa, sa, ac, sc, rfl⟩ := hv.shape
    have HO6 := Lib.hid ho
    have HV6 := Lib.hid hv
    have HK6 := Lib.hid (HK5.out.trans hk)
    have HR6 := Lib.hid ((hk.block w.heap.size hz5 (by unfold At; omega)).trans HR5.out)
    have hz6 : w.heap.size < w6.heap.size := Nat.lt_of_lt_of_le hz5 hk.size
    clear ho hk hv hsh HO5 HK5 HR5
    dsimp only
    go_upto_region 31 with fail
    have hO7 := HO6.out.alloc (.cells #[.int .i64 x.kind, .int .i64 x.op, .bool x.no, .int .i64 x.val.kind, .int .i64 x.val.int, .string x.val.text, .string x.table, .string x.name, .slice aa x.args.length ac, .slice sa x.sub.length sc] 30)
    have hB7 : Below w6.heap.size w6 (w6.alloc (.cells #[.int .i64 x.kind, .int .i64 x.op, .bool x.no, .int .i64 x.val.kind, .int .i64 x.val.int, .string x.val.text, .string x.table, .string x.name, .slice aa x.args.length ac, .slice sa x.sub.length sc] 30)) := (Below.refl _ _).alloc (Nat.le_refl _) _
    have hb7 := heap_alloc_new w6 (.cells #[.int .i64 x.kind, .int .i64 x.op, .bool x.no, .int .i64 x.val.kind, .int .i64 x.val.int, .string x.val.text, .string x.table, .string x.name, .slice aa x.args.length ac, .slice sa x.sub.length sc] 30)
    generalize hW : World.alloc w6 _ = w7 at hO7 hB7 hb7 ⊢
    have hz7 : w6.heap.size < w7.heap.size := by rw [← hW]; simp
    have HO7 := Lib.hid hO7
    have HK7 := Lib.hid (HK6.out.trans (.bel hB7))
    have HV7 := Lib.hid (HV6.out.keep (M := fun _ => False) (.bel hB7) fun _ h => h.elim)
    have HR7 := Lib.hid ((hB7.block _ hz6).trans HR6.out)
    have HE7 := Lib.hid hb7
    generalize w6.heap.size = eb at HE7 hz6 hz7 ⊢
    clear hO7 hB7 hb7 hW HO6 HK6 HV6 HR6
    go_wp2_with fail
    refine (shut_yes R en (lev + 1) ts l2 _ w7 HO7.out HSH2.out (by omega) (by omega)).mono ?_
    rw [show lev + 1 - 1 = lev by omega]
    rintro e w8 ⟨v, rfl, rfl, ho, hk⟩
    have HO8 := Lib.hid ho
    have HK8 := Lib.hid (HK7.out.trans hk)
    have HV8 := Lib.hid (HV7.out.keep hk fun j hj => by unfold At at hj; omega)
    obtain ⟨x0, x1, x2, x3, x4, x5, x6, x7, x8, x9, xf, _⟩ := blk10 ((hk.block w.heap.size (by omega) (by unfold At; omega)).trans HR7.out)
    obtain ⟨e0, e1, e2, e3, e4, e5, e6, e7, e8, e9, _, _⟩ := blk10 ((hk.block eb hz7 (by unfold At; omega)).trans HE7.out)
    clear ho hk HO7 HK7 HV7 HR7 HE7
    dsimp only
    go_wp2_with fail
    refine bodyPost_ret (v := .agg #[.int .i64 x.kind, .int .i64 x.op, .bool x.no, .int .i64 x.val.kind, .int .i64 x.val.int, .string x.val.text, .string x.table, .string x.name, .slice aa x.args.length ac, .slice sa x.sub.length sc]) (by simp [results, Tryz.results247, go_sem, x0, x1, x2, x3, x4, x5, x6, x7, x8, x9]) rfl ?_
    have FIN := ex_end HO8.out HV8.out HK8.out hRz (Nat.le_refl w.heap.size) hz5 (.int .i64 x.kind) (.int .i64 x.op) (.bool x.no) (.int .i64 x.val.kind) (.int .i64 x.val.int) (.string x.val.text) (.string x.table) (.string x.name) (.slice aa x.args.length ac) (.slice sa x.sub.length sc)
    exact FIN
  | fail a c =>
    obtain ⟨rfl, hk⟩ := hp
    have HK := Lib.hid (HK5.out.trans hk)
    clear hk HR5
    dsimp only
    go_wp2_with fail
    exact ⟨rfl, rfl, HK.out⟩

set_option maxRecDepth 100000 in
set_option maxHeartbeats 4000000 in
theorem primary_deep (R : Nat) (en lev : Int) (i : Nat) (l : List Tok) (hl : 12 ≤ lev) : Reads 247 R en lev ((5, ⟨#[40]⟩, i) :: l) (.fail i 2) := by
  intro w h
  have hRz := h.lt
  have HO := Lib.hid h
  clear h
  go_enter Tryz.func247, Tryz.ntmps247
  go_wp2_with fail
  refine (peek_any R en lev _ _ (HO.out.alloc (.cells #[.int .i64 0, .int .i64 0, .bool false, .int .i64 0, .int .i64 0, .string ⟨#[]⟩, .string ⟨#[]⟩, .string ⟨#[]⟩, .slice none 0 0, .slice none 0 0] 30))).mono ?_
  rintro e w1 ⟨rfl, hb1⟩
  obtain ⟨hb, hz, hk1⟩ := box10 (.bel hb1) hRz
  have HO1 := Lib.hid ((HO.out.alloc _).bel hb1)
  have HK1 := Lib.hid hk1
  have HB1 := Lib.hid hb
  clear hb1 hb hk1
  simp only [tokV, hdT]
  go_upto_region 2 with fail
  have hO2 := HO1.out.alloc (.cells #[.int .i64 5, .string ⟨#[40]⟩, .int .i64 (i : Nat)] 178)
  have hB2 : Below w1.heap.size w1 (w1.alloc (.cells #[.int .i64 5, .string ⟨#[40]⟩, .int .i64 (i : Nat)] 178)) := (Below.refl _ _).alloc (Nat.le_refl _) _
  have hb2 := heap_alloc_new w1 (.cells #[.int .i64 5, .string ⟨#[40]⟩, .int .i64 (i : Nat)] 178)
  generalize hW : World.alloc w1 _ = w2 at hO2 hB2 hb2 ⊢
  obtain ⟨t0, t1, t2, _, ht⟩ := blk3 hb2
  have HK2 := Lib.hid (HK1.out.trans (.bel hB2))
  have HR2 := Lib.hid ((hB2.block _ hz).trans HB1.out)
  have hz2 : w.heap.size < w2.heap.size := Nat.lt_of_lt_of_le hz hB2.size
  have HO2 := Lib.hid hO2
  clear hW hb2 hB2 hO2 HO1 HK1 HB1
  have HB := Lib.hid (Below.refl w2.heap.size w2)
  have HO3 := HO2
  iterate 3
    go_wp2_with fail
    refine (accept_no R en lev _ _ _ HO3.out (par_is (by decide +kernel))).mono ?_
    rintro e w3 ⟨rfl, hb⟩
    replace HB := Lib.hid (HB.out.trans (hb.mono HB.out.size))
    replace HO3 := Lib.hid (HO2.out.bel HB.out)
    clear hb
    (try dsimp only)
  iterate 4
    go_wp2_with fail
    refine (is_no R en lev _ _ _ HO3.out (par_is (by decide +kernel))).mono ?_
    rintro e w3 ⟨rfl, hb⟩
    replace HB := Lib.hid (HB.out.trans (hb.mono HB.out.size))
    replace HO3 := Lib.hid (HO2.out.bel HB.out)
    clear hb
    (try dsimp only)
  iterate 1
    go_wp2_with fail
    refine (accept_no R en lev _ _ _ HO3.out (par_is (by decide +kernel))).mono ?_
    rintro e w3 ⟨rfl, hb⟩
    replace HB := Lib.hid (HB.out.trans (hb.mono HB.out.size))
    replace HO3 := Lib.hid (HO2.out.bel HB.out)
    clear hb
    (try dsimp only)
  go_wp2_with fail
  refine (open_deep R en lev _ l _ _ HO3.out par_yes hl).mono ?_
  rintro e w4 ⟨rfl, hk⟩
  have HK := Lib.hid ((HK2.out.trans (.bel HB.out)).trans hk)
  clear hk
  dsimp only
  go_wp2_with fail
  exact ⟨rfl, rfl, HK.out⟩

end Go.Proofs.YtkhlmofcdchccaaGreatDoor
