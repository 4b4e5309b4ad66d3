/- Factors and negations: with a sign ahead, and without. -/
import Derived.Test.YtkhlmofcdchccaaGreatDoorP4x
namespace Go.Proofs.YtkhlmofcdchccaaGreatDoor
open Go.RowKit Go.Maps

def POut.map (f : Ex → Ex) : POut → POut
  | .ok x l => .ok (f x) l
  | .fail a c => .fail a c

set_option maxRecDepth 100000 in
set_option maxHeartbeats 2000000 in
theorem factor_no (R : Nat) (en lev : Int) (l : List Tok) (o : POut) (hf : Reads 247 R en lev l o) (hn : isB ⟨#[45]⟩ l = false) : Reads 234 R en lev l o := by
  intro w h
  have hRz := h.lt
  have HF := Lib.hid hf
  have HO := Lib.hid h
  have HN := Lib.hid hn
  clear hf h hn
  go_enter Tryz.func234, Tryz.ntmps234
  go_wp2_with fail
  have HI := is_any R en lev l ⟨#[45]⟩ _ (HO.out.alloc (.cells #[.int .i64 0, .int .i64 0, .bool false, .int .i64 0, .int .i64 0, .string ⟨#[]⟩, .string ⟨#[]⟩, .string ⟨#[]⟩, .slice none 0 0, .slice none 0 0] 30))
  rw [HN.out] at HI
  refine HI.mono ?_
  clear HI
  rintro e w1 ⟨rfl, hb1⟩
  obtain ⟨hb, hz, hk1⟩ := box10 (.bel hb1) hRz
  have HO1 := Lib.hid ((HO.out.alloc _).bel hb1)
  have HK1 := Lib.hid hk1
  have HB1 := Lib.hid hb
  clear hb1 hb hk1
  dsimp only
  go_wp2_with fail
  refine (HF.out _ HO1.out).mono ?_
  rintro e w2 hp
  cases o with
  | ok x l' =>
    obtain ⟨v, rfl, hv, ho, hk⟩ := hp
    obtain ⟨aa, sa, ac, sc, rfl⟩ := hv.shape
    have HO2 := Lib.hid ho
    have HV := Lib.hid hv
    have HK := Lib.hid (HK1.out.trans hk)
    obtain ⟨x0, x1, x2, x3, x4, x5, x6, x7, x8, x9, xf, _⟩ := blk10 ((hk.block w.heap.size hz (by unfold At; omega)).trans HB1.out)
    clear ho hk hv HB1
    dsimp only
    go_wp2_with fail
    refine bodyPost_ret (v := .agg #[.int .i64 x.kind, .int .i64 x.op, .bool x.no, .int .i64 x.val.kind, .int .i64 x.val.int, .string x.val.text, .string x.table, .string x.name, .slice aa x.args.length ac, .slice sa x.sub.length sc]) (by simp [results, Tryz.results234, go_sem, x0, x1, x2, x3, x4, x5, x6, x7, x8, x9]) rfl ?_
    have FIN := ex_end HO2.out HV.out HK.out hRz (Nat.le_refl w.heap.size) hz (.int .i64 x.kind) (.int .i64 x.op) (.bool x.no) (.int .i64 x.val.kind) (.int .i64 x.val.int) (.string x.val.text) (.string x.table) (.string x.name) (.slice aa x.args.length ac) (.slice sa x.sub.length sc)
    exact FIN
  | fail a c =>
    obtain ⟨rfl, hk⟩ := hp
    have HK := Lib.hid (HK1.out.trans hk)
    clear hk HB1
    dsimp only
    go_wp2_with fail
    exact ⟨rfl, rfl, HK.out⟩

set_option maxRecDepth 100000 in
set_option maxHeartbeats 2000000 in
theorem factor_yes (R : Nat) (en lev : Int) (t : Tok) (l : List Tok) (o : POut) (hf : Reads 234 R en (lev + 1) l o) (hn : isB ⟨#[45]⟩ (t :: l) = true) (h0 : 0 ≤ lev) (hl : lev < 12) : Reads 234 R en lev (t :: l) (o.map (exUn 4)) := by
  intro w h
  have hRz := h.lt
  have HF := Lib.hid hf
  have HO := Lib.hid h
  have HN := Lib.hid hn
  have e1 : IntKind.i64.wrap (lev + 1 - 1) = lev := by rw [show lev + 1 - 1 = lev by omega]; exact IntWalk.i64_in _ (by omega)
  have e2 : IntKind.i64.wrap lev = lev := IntWalk.i64_in _ (by omega)
  clear hf h hn
  go_enter Tryz.func234, Tryz.ntmps234
  go_wp2_with fail
  have HI := is_any R en lev (t :: l) ⟨#[45]⟩ _ (HO.out.alloc (.cells #[.int .i64 0, .int .i64 0, .bool false, .int .i64 0, .int .i64 0, .string ⟨#[]⟩, .string ⟨#[]⟩, .string ⟨#[]⟩, .slice none 0 0, .slice none 0 0] 30))
  rw [HN.out] at HI
  refine HI.mono ?_
  clear HI
  rintro e w1 ⟨rfl, hb1⟩
  obtain ⟨hb, hz, hk1⟩ := box10 (.bel hb1) hRz
  have HO1 := Lib.hid ((HO.out.alloc _).bel hb1)
  have HK1 := Lib.hid hk1
  have HB1 := Lib.hid hb
  clear hb1 hb hk1
  dsimp only
  go_wp2_with fail
  refine (open_yes R en lev t l _ w1 HO1.out HN.out h0 hl).mono ?_
  rintro e w2 ⟨v, rfl, rfl, ho, hk⟩
  have HO2 := Lib.hid ho
  have HK2 := Lib.hid (HK1.out.trans hk)
  have HB2 := Lib.hid ((hk.block w.heap.size hz (by unfold At; omega)).trans HB1.out)
  have hz2 : w.heap.size < w2.heap.size := Nat.lt_of_lt_of_le hz hk.size
  clear ho hk HO1 HK1 HB1
  dsimp only
  go_wp2_with fail
  refine (HF.out _ HO2.out).mono ?_
  rintro e w3 hp
  cases o with
  | ok x l' =>
    obtain ⟨v, rfl, hv, ho, hk⟩ := hp
    have HO3 := Lib.hid ho
    have HK3 := Lib.hid (HK2.out.trans hk)
    have HB3 := Lib.hid ((hk.block w.heap.size hz2 (by unfold At; omega)).trans HB2.out)
    have hz3 : w.heap.size < w3.heap.size := Nat.lt_of_lt_of_le hz2 hk.size
    have HV := Lib.hid hv
    have hks := hk.size
    clear ho hk HO2 HK2 HB2 hv
    dsimp only
    go_wp2_with fail
    refine (unary_any w2.heap.size 4 x v w3 HV.out (by omega)).mono ?_
    rintro e w4 ⟨u, rfl, hu, hb4⟩
    obtain ⟨y, hy⟩ : ∃ y, exUn 4 x = y := ⟨_, rfl⟩
    rw [hy] at hu
    have HY := Lib.hid hy
    clear hy
    obtain ⟨aa, sa, ac, sc, rfl⟩ := hu.shape
    have HU := Lib.hid hu
    have HO4 := Lib.hid (HO3.out.bel hb4)
    have HK4 := Lib.hid (HK3.out.trans (.bel hb4))
    have HB4 := Lib.hid ((hb4.block _ hz3).trans HB3.out)
    have hz4 : w.heap.size < w4.heap.size := Nat.lt_of_lt_of_le hz3 hb4.size
    have h24 : w2.heap.size ≤ w4.heap.size := Nat.le_trans hks hb4.size
    clear hu hb4 HO3 HK3 HB3
    (try dsimp only)
    go_upto_region 5 with fail
    have hO5 := HO4.out.alloc (.cells #[.int .i64 y.kind, .int .i64 y.op, .bool y.no, .int .i64 y.val.kind, .int .i64 y.val.int, .string y.val.text, .string y.table, .string y.name, .slice aa y.args.length ac, .slice sa y.sub.length sc] 30)
    have hB5 : Below w4.heap.size w4 (w4.alloc (.cells #[.int .i64 y.kind, .int .i64 y.op, .bool y.no, .int .i64 y.val.kind, .int .i64 y.val.int, .string y.val.text, .string y.table, .string y.name, .slice aa y.args.length ac, .slice sa y.sub.length sc] 30)) := (Below.refl _ _).alloc (Nat.le_refl _) _
    have hb5 := heap_alloc_new w4 (.cells #[.int .i64 y.kind, .int .i64 y.op, .bool y.no, .int .i64 y.val.kind, .int .i64 y.val.int, .string y.val.text, .string y.table, .string y.name, .slice aa y.args.length ac, .slice sa y.sub.length sc] 30)
    generalize hW : World.alloc w4 _ = w5 at hO5 hB5 hb5 ⊢
    have hz5 : w4.heap.size < w5.heap.size := by rw [← hW]; simp
    have HK5 := Lib.hid (HK4.out.trans (.bel hB5))
    have HU5 := Lib.hid (HU.out.keep (M := fun _ => False) (.bel hB5) fun _ h => h.elim)
    obtain ⟨x0, x1, x2, x3, x4, x5, x6, x7, x8, x9, xf, _⟩ := blk10 ((hB5.block _ hz4).trans HB4.out)
    obtain ⟨e0, e1', e2', e3, e4, e5, e6, e7, e8, e9, _, _⟩ := blk10 hb5
    generalize w4.heap.size = eb at e0 e1' e2' e3 e4 e5 e6 e7 e8 e9 hz4 hz5 h24 ⊢
    have HO5 := Lib.hid hO5
    obtain ⟨⟨ra, rc, hbk, _⟩, _⟩ := hO5
    obtain ⟨k0, k1, k2, kf, _⟩ := blk3 hbk
    have f2 := kf 2
    have hne1 : ¬ eb = R := by omega
    have hne2 : ¬ w.heap.size = R := by omega
    clear hbk kf HO4 HK4 HB4 hB5 hb5 hW HU
    go_wp2_with fail
    refine bodyPost_ret (v := .agg #[.int .i64 y.kind, .int .i64 y.op, .bool y.no, .int .i64 y.val.kind, .int .i64 y.val.int, .string y.val.text, .string y.table, .string y.name, .slice aa y.args.length ac, .slice sa y.sub.length sc]) (by simp [results, Tryz.results234, go_sem, x0, x1, x2, x3, x4, x5, x6, x7, x8, x9]) rfl ?_
    have hk6 := keep_set R 2 w5 (.int .i64 lev)
    have FIN := ex_end HO5.out.lev2 (HU5.out.keep hk6 fun j hj => by unfold At at hj; omega) (HK5.out.trans hk6) hRz (Nat.le_refl w.heap.size) hz2 (.int .i64 y.kind) (.int .i64 y.op) (.bool y.no) (.int .i64 y.val.kind) (.int .i64 y.val.int) (.string y.val.text) (.string y.table) (.string y.name) (.slice aa y.args.length ac) (.slice sa y.sub.length sc)
    have hy := HY.out
    clear HY
    subst hy
    exact FIN
  | fail a c =>
    obtain ⟨rfl, hk⟩ := hp
    have HK := Lib.hid (HK2.out.trans hk)
    clear hk HB2
    dsimp only
    go_wp2_with fail
    exact ⟨rfl, rfl, HK.out⟩

set_option maxRecDepth 100000 in
set_option maxHeartbeats 2000000 in
theorem factor_deep (R : Nat) (en lev : Int) (t : Tok) (l : List Tok) (hn : isB ⟨#[45]⟩ (t :: l) = true) (hl : 12 ≤ lev) : Reads 234 R en lev (t :: l) (.fail t.2.2 2) := by
  intro w h
  have hRz := h.lt
  have HO := Lib.hid h
  have HN := Lib.hid hn
  clear h hn
  go_enter Tryz.func234, Tryz.ntmps234
  go_wp2_with fail
  have HI := is_any R en lev (t :: l) ⟨#[45]⟩ _ (HO.out.alloc (.cells #[.int .i64 0, .int .i64 0, .bool false, .int .i64 0, .int .i64 0, .string ⟨#[]⟩, .string ⟨#[]⟩, .string ⟨#[]⟩, .slice none 0 0, .slice none 0 0] 30))
  rw [HN.out] at HI
  refine HI.mono ?_
  clear HI
  rintro e w1 ⟨rfl, hb1⟩
  have HO1 := Lib.hid ((HO.out.alloc _).bel hb1)
  have HK1 := Lib.hid (((Keep.refl (At R) w).alloc _).trans (.bel hb1))
  clear hb1
  dsimp only
  go_wp2_with fail
  refine (open_deep R en lev t l _ w1 HO1.out HN.out hl).mono ?_
  rintro e w2 ⟨rfl, hk⟩
  have HK := Lib.hid (HK1.out.trans hk)
  clear hk
  dsimp only
  go_wp2_with fail
  exact ⟨rfl, rfl, HK.out⟩

set_option maxRecDepth 100000 in
set_option maxHeartbeats 2000000 in
theorem neg_no (R : Nat) (en lev : Int) (l : List Tok) (o : POut) (hf : Reads 152 R en lev l o) (hn : isB ⟨#[78, 79, 84]⟩ l = false) : Reads 99 R en lev l o := by
  intro w h
  have hRz := h.lt
  have HF := Lib.hid hf
  have HO := Lib.hid h
  have HN := Lib.hid hn
  clear hf h hn
  go_enter Tryz.func99, Tryz.ntmps99
  go_wp2_with fail
  have HI := is_any R en lev l ⟨#[78, 79, 84]⟩ _ (HO.out.alloc (.cells #[.int .i64 0, .int .i64 0, .bool false, .int .i64 0, .int .i64 0, .string ⟨#[]⟩, .string ⟨#[]⟩, .string ⟨#[]⟩, .slice none 0 0, .slice none 0 0] 30))
  rw [HN.out] at HI
  refine HI.mono ?_
  clear HI
  rintro e w1 ⟨rfl, hb1⟩
  obtain ⟨hb, hz, hk1⟩ := box10 (.bel hb1) hRz
  have HO1 := Lib.hid ((HO.out.alloc _).bel hb1)
  have HK1 := Lib.hid hk1
  have HB1 := Lib.hid hb
  clear hb1 hb hk1
  dsimp only
  go_wp2_with fail
  refine (HF.out _ HO1.out).mono ?_
  rintro e w2 hp
  cases o with
  | ok x l' =>
    obtain ⟨v, rfl, hv, ho, hk⟩ := hp
    obtain ⟨aa, sa, ac, sc, rfl⟩ := hv.shape
    have HO2 := Lib.hid ho
    have HV := Lib.hid hv
    have HK := Lib.hid (HK1.out.trans hk)
    obtain ⟨x0, x1, x2, x3, x4, x5, x6, x7, x8, x9, xf, _⟩ := blk10 ((hk.block w.heap.size hz (by unfold At; omega)).trans HB1.out)
    clear ho hk hv HB1
    dsimp only
    go_wp2_with fail
    refine bodyPost_ret (v := .agg #[.int .i64 x.kind, .int .i64 x.op, .bool x.no, .int .i64 x.val.kind, .int .i64 x.val.int, .string x.val.text, .string x.table, .string x.name, .slice aa x.args.length ac, .slice sa x.sub.length sc]) (by simp [results, Tryz.results99, go_sem, x0, x1, x2, x3, x4, x5, x6, x7, x8, x9]) rfl ?_
    have FIN := ex_end HO2.out HV.out HK.out hRz (Nat.le_refl w.heap.size) hz (.int .i64 x.kind) (.int .i64 x.op) (.bool x.no) (.int .i64 x.val.kind) (.int .i64 x.val.int) (.string x.val.text) (.string x.table) (.string x.name) (.slice aa x.args.length ac) (.slice sa x.sub.length sc)
    exact FIN
  | fail a c =>
    obtain ⟨rfl, hk⟩ := hp
    have HK := Lib.hid (HK1.out.trans hk)
    clear hk HB1
    dsimp only
    go_wp2_with fail
    exact ⟨rfl, rfl, HK.out⟩

set_option maxRecDepth 100000 in
set_option maxHeartbeats 2000000 in
theorem neg_yes (R : Nat) (en lev : Int) (t : Tok) (l : List Tok) (o : POut) (hf : Reads 99 R en (lev + 1) l o) (hn : isB ⟨#[78, 79, 84]⟩ (t :: l) = true) (h0 : 0 ≤ lev) (hl : lev < 12) : Reads 99 R en lev (t :: l) (o.map (exUn 3)) := by
  intro w h
  have hRz := h.lt
  have HF := Lib.hid hf
  have HO := Lib.hid h
  have HN := Lib.hid hn
  have e1 : IntKind.i64.wrap (lev + 1 - 1) = lev := by rw [show lev + 1 - 1 = lev by omega]; exact IntWalk.i64_in _ (by omega)
  have e2 : IntKind.i64.wrap lev = lev := IntWalk.i64_in _ (by omega)
  clear hf h hn
  go_enter Tryz.func99, Tryz.ntmps99
  go_wp2_with fail
  have HI := is_any R en lev (t :: l) ⟨#[78, 79, 84]⟩ _ (HO.out.alloc (.cells #[.int .i64 0, .int .i64 0, .bool false, .int .i64 0, .int .i64 0, .string ⟨#[]⟩, .string ⟨#[]⟩, .string ⟨#[]⟩, .slice none 0 0, .slice none 0 0] 30))
  rw [HN.out] at HI
  refine HI.mono ?_
  clear HI
  rintro e w1 ⟨rfl, hb1⟩
  obtain ⟨hb, hz, hk1⟩ := box10 (.bel hb1) hRz
  have HO1 := Lib.hid ((HO.out.alloc _).bel hb1)
  have HK1 := Lib.hid hk1
  have HB1 := Lib.hid hb
  clear hb1 hb hk1
  dsimp only
  go_wp2_with fail
  refine (open_yes R en lev t l _ w1 HO1.out HN.out h0 hl).mono ?_
  rintro e w2 ⟨v, rfl, rfl, ho, hk⟩
  have HO2 := Lib.hid ho
  have HK2 := Lib.hid (HK1.out.trans hk)
  have HB2 := Lib.hid ((hk.block w.heap.size hz (by unfold At; omega)).trans HB1.out)
  have hz2 : w.heap.size < w2.heap.size := Nat.lt_of_lt_of_le hz hk.size
  clear ho hk HO1 HK1 HB1
  dsimp only
  go_wp2_with fail
  refine (HF.out _ HO2.out).mono ?_
  rintro e w3 hp
  cases o with
  | ok x l' =>
    obtain ⟨v, rfl, hv, ho, hk⟩ := hp
    have HO3 := Lib.hid ho
    have HK3 := Lib.hid (HK2.out.trans hk)
    have HB3 := Lib.hid ((hk.block w.heap.size hz2 (by unfold At; omega)).trans HB2.out)
    have hz3 : w.heap.size < w3.heap.size := Nat.lt_of_lt_of_le hz2 hk.size
    have HV := Lib.hid hv
    have hks := hk.size
    clear ho hk HO2 HK2 HB2 hv
    dsimp only
    go_wp2_with fail
    refine (unary_any w2.heap.size 3 x v w3 HV.out (by omega)).mono ?_
    rintro e w4 ⟨u, rfl, hu, hb4⟩
    obtain ⟨y, hy⟩ : ∃ y, exUn 3 x = y := ⟨_, rfl⟩
    rw [hy] at hu
    have HY := Lib.hid hy
    clear hy
    obtain ⟨aa, sa, ac, sc, rfl⟩ := hu.shape
    have HU := Lib.hid hu
    have HO4 := Lib.hid (HO3.out.bel hb4)
    have HK4 := Lib.hid (HK3.out.trans (.bel hb4))
    have HB4 := Lib.hid ((hb4.block _ hz3).trans HB3.out)
    have hz4 : w.heap.size < w4.heap.size := Nat.lt_of_lt_of_le hz3 hb4.size
    have h24 : w2.heap.size ≤ w4.heap.size := Nat.le_trans hks hb4.size
    clear hu hb4 HO3 HK3 HB3
    (try dsimp only)
    go_upto_region 5 with fail
    have hO5 := HO4.out.alloc (.cells #[.int .i64 y.kind, .int .i64 y.op, .bool y.no, .int .i64 y.val.kind, .int .i64 y.val.int, .string y.val.text, .string y.table, .string y.name, .slice aa y.args.length ac, .slice sa y.sub.length sc] 30)
    have hB5 : Below w4.heap.size w4 (w4.alloc (.cells #[.int .i64 y.kind, .int .i64 y.op, .bool y.no, .int .i64 y.val.kind, .int .i64 y.val.int, .string y.val.text, .string y.table, .string y.name, .slice aa y.args.length ac, .slice sa y.sub.length sc] 30)) := (Below.refl _ _).alloc (Nat.le_refl _) _
    have hb5 := heap_alloc_new w4 (.cells #[.int .i64 y.kind, .int .i64 y.op, .bool y.no, .int .i64 y.val.kind, .int .i64 y.val.int, .string y.val.text, .string y.table, .string y.name, .slice aa y.args.length ac, .slice sa y.sub.length sc] 30)
    generalize hW : World.alloc w4 _ = w5 at hO5 hB5 hb5 ⊢
    have hz5 : w4.heap.size < w5.heap.size := by rw [← hW]; simp
    have HK5 := Lib.hid (HK4.out.trans (.bel hB5))
    have HU5 := Lib.hid (HU.out.keep (M := fun _ => False) (.bel hB5) fun _ h => h.elim)
    obtain ⟨x0, x1, x2, x3, x4, x5, x6, x7, x8, x9, xf, _⟩ := blk10 ((hB5.block _ hz4).trans HB4.out)
    obtain ⟨e0, e1', e2', e3, e4, e5, e6, e7, e8, e9, _, _⟩ := blk10 hb5
    generalize w4.heap.size = eb at e0 e1' e2' e3 e4 e5 e6 e7 e8 e9 hz4 hz5 h24 ⊢
    have HO5 := Lib.hid hO5
    obtain ⟨⟨ra, rc, hbk, _⟩, _⟩ := hO5
    obtain ⟨k0, k1, k2, kf, _⟩ := blk3 hbk
    have f2 := kf 2
    have hne1 : ¬ eb = R := by omega
    have hne2 : ¬ w.heap.size = R := by omega
    clear hbk kf HO4 HK4 HB4 hB5 hb5 hW HU
    go_wp2_with fail
    refine bodyPost_ret (v := .agg #[.int .i64 y.kind, .int .i64 y.op, .bool y.no, .int .i64 y.val.kind, .int .i64 y.val.int, .string y.val.text, .string y.table, .string y.name, .slice aa y.args.length ac, .slice sa y.sub.length sc]) (by simp [results, Tryz.results99, go_sem, x0, x1, x2, x3, x4, x5, x6, x7, x8, x9]) rfl ?_
    have hk6 := keep_set R 2 w5 (.int .i64 lev)
    have FIN := ex_end HO5.out.lev2 (HU5.out.keep hk6 fun j hj => by unfold At at hj; omega) (HK5.out.trans hk6) hRz (Nat.le_refl w.heap.size) hz2 (.int .i64 y.kind) (.int .i64 y.op) (.bool y.no) (.int .i64 y.val.kind) (.int .i64 y.val.int) (.string y.val.text) (.string y.table) (.string y.name) (.slice aa y.args.length ac) (.slice sa y.sub.length sc)
    have hy := HY.out
    clear HY
    subst hy
    exact FIN
  | fail a c =>
    obtain ⟨rfl, hk⟩ := hp
    have HK := Lib.hid (HK2.out.trans hk)
    clear hk HB2
    dsimp only
    go_wp2_with fail
    exact ⟨rfl, rfl, HK.out⟩

set_option maxRecDepth 100000 in
set_option maxHeartbeats 2000000 in
theorem neg_deep (R : Nat) (en lev : Int) (t : Tok) (l : List Tok) (hn : isB ⟨#[78, 79, 84]⟩ (t :: l) = true) (hl : 12 ≤ lev) : Reads 99 R en lev (t :: l) (.fail t.2.2 2) := by
  intro w h
  have hRz := h.lt
  have HO := Lib.hid h
  have HN := Lib.hid hn
  clear h hn
  go_enter Tryz.func99, Tryz.ntmps99
  go_wp2_with fail
  have HI := is_any R en lev (t :: l) ⟨#[78, 79, 84]⟩ _ (HO.out.alloc (.cells #[.int .i64 0, .int .i64 0, .bool false, .int .i64 0, .int .i64 0, .string ⟨#[]⟩, .string ⟨#[]⟩, .string ⟨#[]⟩, .slice none 0 0, .slice none 0 0] 30))
  rw [HN.out] at HI
  refine HI.mono ?_
  clear HI
  rintro e w1 ⟨rfl, hb1⟩
  have HO1 := Lib.hid ((HO.out.alloc _).bel hb1)
  have HK1 := Lib.hid (((Keep.refl (At R) w).alloc _).trans (.bel hb1))
  clear hb1
  dsimp only
  go_wp2_with fail
  refine (open_deep R en lev t l _ w1 HO1.out HN.out hl).mono ?_
  rintro e w2 ⟨rfl, hk⟩
  have HK := Lib.hid (HK1.out.trans hk)
  clear hk
  dsimp only
  go_wp2_with fail
  exact ⟨rfl, rfl, HK.out⟩

end Go.Proofs.YtkhlmofcdchccaaGreatDoor
