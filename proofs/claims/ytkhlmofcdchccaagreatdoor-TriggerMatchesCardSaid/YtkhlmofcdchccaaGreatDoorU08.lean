/- A row in the making, and what is written into it. An update's copy; whether a column differs in an update. trigger's names, frames and transition tables at the trigger of known. The frame NEW; the transition table of an insert. -/
import Derived.Test.YtkhlmofcdchccaaGreatDoorTM15
import Derived.Test.YtkhlmofcdchccaaGreatDoorU04
import Derived.Test.YtkhlmofcdchccaaGreatDoorU03
import Derived.Test.YtkhlmofcdchccaaGreatDoorU05
import Derived.Test.YtkhlmofcdchccaaGreatDoorU06
namespace Go.Proofs.YtkhlmofcdchccaaGreatDoor
open Go.RowKit Go.Maps

/-- The tape, the own blocks, and a row of values that lies above them. -/
structure RS (T lo : Nat) (wr W : World) (L : List OwnBlk) (n : Nat) (v : Value) : Prop where
  ob : OB T wr W L
  rows : ∃ x : List Val, RowsO lo W 26 3 ValR v x ∧ x.length = n ∧ ∀ y ∈ x, ValidVal y
  hlo : wr.heap.size ≤ lo
  hL : ∀ b ∈ L, b.pos < lo

section
variable {T lo n : Nat} {wr W W' : World} {L : List OwnBlk} {v : Value}
theorem RS.step (h : RS T lo wr W L n v) (ht : TapeOk T W') (k : Keep (At T) W W') : RS T lo wr W' L n v :=
  ⟨h.ob.step ht k, (let ⟨x, h1, h2⟩ := h.rows; ⟨x, RowsO.kept h1 k (fun b hb hT => by have h3 := (RowsO.lt h1 hb).1; have h4 := h.ob.lo; have h5 := h.hlo; unfold At at hT; omega) fun _ _ _ h => h, h2⟩), h.hlo, h.hL⟩
theorem RS.at (h : RS T lo wr W L n v) (hn : 1 ≤ n) : ∃ g c, v = .slice (some ⟨g, 0, none⟩) n c ∧ lo ≤ g ∧ g < W.heap.size ∧ n ≤ c ∧ c ≤ maxLen ∧ (∀ i, W.frozen? ⟨g, i, none⟩ = false) ∧ ∀ k, k < n → ∃ y : Val, W.cell? ⟨g, k * 3, none⟩ = some (.int .i64 y.kind) ∧ W.cell? ⟨g, k * 3 + 1, none⟩ = some (.int .i64 y.int) ∧ W.cell? ⟨g, k * 3 + 2, none⟩ = some (.string y.text) := by
  obtain ⟨x, h1, h2, _⟩ := h.rows
  obtain ⟨g, c, rfl, hg1, hg2, hf⟩ := RowsO.at h1 (fun h0 => by rw [h0] at h2; simp at h2; omega)
  have hr : ValsR NoM W (.slice (some ⟨g, 0, none⟩) x.length c) x := h1.rows fun k _ _ h => h
  rw [h2] at hr ⊢
  obtain ⟨_, b, o, cs, _, _, hb, _, _, _, hc1, hc2⟩ := rows_row hr (j := 0) (by omega)
  refine ⟨g, c, rfl, hg1, hg2, by omega, hc2, hf, fun k hk => ?_⟩
  obtain ⟨y, b, o, cs, _, _, hb, _, hcs, hcc, _, _⟩ := rows_row hr (j := k) (by omega)
  simp only [Option.some.injEq, Addr.mk.injEq, and_true] at hb
  obtain ⟨rfl, rfl⟩ := hb
  obtain rfl : cs = [.int .i64 y.kind, .int .i64 y.int, .string y.text] := hcs
  obtain ⟨c0, c1, c2⟩ := CellsAt.c3 hcc
  exact ⟨y, by simpa using c0, by simpa using c1, by simpa using c2⟩
theorem RS.put {g c : Nat} (h : RS T lo wr W L n (.slice (some ⟨g, 0, none⟩) n c)) (k : Nat) (hk : k < n) (y : Val) (hy : ValidVal y) (hg : lo ≤ g) :
    RS T lo wr (((W.setCell ⟨g, k * 3, none⟩ (.int .i64 y.kind)).setCell ⟨g, k * 3 + 1, none⟩ (.int .i64 y.int)).setCell ⟨g, k * 3 + 2, none⟩ (.string y.text)) L n (.slice (some ⟨g, 0, none⟩) n c) := by
  obtain ⟨x, h1, h2, h3⟩ := h.rows
  have hs := RowsO.set1 h1 (k := k) (by omega) (x := y) (cs := valCells y) rfl rfl
  refine ⟨h.ob.then (N := At g) ((((Keep.refl (At g) W).setCell (p := ⟨g, k * 3, none⟩) (fun _ => rfl) _).setCell (p := ⟨g, k * 3 + 1, none⟩) (fun _ => rfl) _).setCell (p := ⟨g, k * 3 + 2, none⟩) (fun _ => rfl) _) (fun i hi e => by have := h.hlo; unfold At at e; omega) (fun b hb e => by have := h.hL b hb; unfold At at e; omega), ⟨x.set k y, hs, by simpa using h2, fun z hz => ?_⟩, h.hlo, h.hL⟩
  rcases List.mem_or_eq_of_mem_set hz with hz | rfl
  · exact h3 z hz
  · exact hy
theorem RS.alloc (h : RS T lo wr W L n v) (o : Obj) : RS T lo wr (W.alloc o) L n v :=
  h.step (h.ob.alloc o).tape ((Keep.refl _ W).alloc o)
theorem RS.drew (h : RS T lo wr W L n v) : RS T lo wr W.drew L n v := h.step h.ob.drew.tape (Keep.refl _ W).drew
end
def NumRR (_ : Nat → Prop) (_ : World) (x : Int) (cs : List Value) : Prop := NumR x cs
theorem numStable : Stable NumRR where
  keep h _ := h
  weak h _ := h
  one h u hu := by
    obtain rfl : _ = [_] := h
    simp at hu
    subst hu
    rfl

/-- What ChangeOf gives. -/
def CofQ (T n : Nat) (v : Value) (W : World) : Prop := ∃ (iv dv uv : Value) (li : List (List Val)) (ld : List Int) (lu : List PrD), v = .agg #[iv, dv, uv] ∧ ChgR (At T) W iv dv uv li ld lu ∧ ld.length ≤ 200 ∧ li.length ≤ 50 ∧ (∀ x ∈ ld, I64R x) ∧ (∀ p ∈ lu, I64R p.id) ∧
  (∀ p ∈ lu, p.new.length = n ∧ ∀ y ∈ p.new, ValidVal y) ∧ ∀ x ∈ li, x.length = n ∧ ∀ y ∈ x, ValidVal y
end Go.Proofs.YtkhlmofcdchccaaGreatDoor
namespace Go.Proofs.YtkhlmofcdchccaaGreatDoor
open Go.RowKit Go.Maps

theorem infoVal : (Tryz.prog.info? 26).map (fun i => (i.zero, i.size, i.bytes)) = some (some (.agg #[.int .i64 0, .int .i64 0, .string ⟨#[]⟩]), 3, 32) := by kernel_rfl

set_option maxHeartbeats 1000000 in
theorem cloneVal_any {M : Nat → Prop} {α : Type} {R : World → α → List Value → Prop} (hk : ∀ w w' x cs, Keep M w w' → R w x cs → R w' x cs) (h1 : ∀ w x cs, R w x cs → ∀ u ∈ cs, u.oneCell' = true) (v : Value) (l : List α) (w : World)
    (hv : RowsR M w 3 (R w) v l) (hN : l.length * 32 ≤ 140737488355328) : Calls Tryz.prog 79 #[v] w (ClonePost M 26 3 R l w) := by
  obtain ⟨i0, hi, hz0, hz1, hz2⟩ := info_parts infoVal
  have hv0 := hv
  obtain ⟨css, hs, hl, hR⟩ := hv
  have HV := Lib.hid hv0
  have HR := Lib.hid hR
  have HL := Lib.hid hl
  have HN := Lib.hid hN
  have HK := Lib.hid hk
  have H1 := Lib.hid h1
  clear hv0 hR hk h1 hN
  rcases hs with ⟨⟨A, rfl⟩, rfl⟩ | ⟨b, o, cap, rfl, hT, hb, hlc, hm, hc⟩
  · rcases A with _ | ad
    · have hnil := fun (w : World) => Lib.run_eql_slice_nil (P := Tryz.prog) w 56 26 none 0 0 0 0 Tryz.underlying56
      clear hl
      go_enter Tryz.func79, Tryz.ntmps79
      go_wp2_with fail
      go_ret
      have hl := HL.out
      obtain rfl : l = [] := List.eq_nil_of_length_eq_zero (by simpa using hl.symm)
      exact ⟨_, rfl, RowsO.nil .., Below.refl _ _⟩
    · have hnil := fun (w : World) => Lib.run_eql_slice_nil (P := Tryz.prog) w 56 26 (some ad) 0 0 0 0 Tryz.underlying56
      have hmade := fun (w : World) => World.ownsRow_made w (base := w.heap.size) (e := 26) (size := 3) #[] 0 (Nat.le_refl _) (by unfold maxLen; omega) (by simp)
      have HM := Lib.hid hmade
      clear hmade hl
      go_enter Tryz.func79, Tryz.ntmps79
      go_wp2_with (at_builtin; refine wpList_append_own _ rfl _ _ 56 rfl w.heap.size 26 i0 (.agg #[.int .i64 0, .int .i64 0, .string ⟨#[]⟩]) 3 32 Tryz.underlying56 hi hz0 hz1 hz2 rfl (by decide) (.slice (some ⟨w.heap.size, 0, none⟩) 0 0) 0 [] rfl (HM.out w) ad 0 0 [] rfl rfl (by simp) (by simp) (by unfold maxLen; omega) (by simp) (by simp) ?_; intro v' w1 hown hgrow _; have HW := Lib.hid hown; have HG := Lib.hid hgrow; clear hown hgrow)
      go_ret
      have hbel : Below w.heap.size w w1 := ((Below.refl _ _).alloc (Nat.le_refl _) _).grown HG.out (by simp) (by intro k h; have h' : w.heap.size = k := (by simpa [Value.ownBlock] using h); exact Nat.le_of_eq h')
      have hl := HL.out
      obtain rfl : l = [] := List.eq_nil_of_length_eq_zero (by simpa using hl.symm)
      exact ⟨v', rfl, ⟨[], by simpa using HW.out, rfl, by simp, by simp⟩, hbel⟩
  · have hnil := fun (w : World) => Lib.run_eql_slice_nil (P := Tryz.prog) w 56 26 (some ⟨b, o, none⟩) css.length cap 0 0 Tryz.underlying56
    have hflat := flat_cells hc
    have hsz : ∀ cs ∈ css, cs.length = 3 := fun cs h => let ⟨i, hi⟩ := List.mem_iff_getElem?.1 h; (hc i cs hi).1
    have hfl : css.flatten.length = css.length * 3 := flatten_length 3 css hsz
    have hone : ∀ u ∈ css.flatten, u.oneCell' = true := by
      intro u hu
      obtain ⟨cs, hcs, hu⟩ := List.mem_flatten.1 hu
      obtain ⟨i, hi⟩ := List.mem_iff_getElem?.1 hcs
      have hlt : i < l.length := by rw [← hl]; exact (List.getElem?_eq_some_iff.1 hi).1
      exact H1.out w _ cs (HR.out i _ cs (List.getElem?_eq_getElem hlt) hi) u hu
    have HF := Lib.hid hflat
    have HZ := Lib.hid hsz
    have HFL := Lib.hid hfl
    have HO := Lib.hid hone
    have hmade := fun (w : World) => World.ownsRow_made w (base := w.heap.size) (e := 26) (size := 3) #[] 0 (Nat.le_refl _) (by unfold maxLen; omega) (by simp)
    have HM := Lib.hid hmade
    clear hflat hsz hfl hone hmade hc hl
    go_enter Tryz.func79, Tryz.ntmps79
    go_wp2_with (at_builtin; refine wpList_append_own _ rfl _ _ 56 rfl w.heap.size 26 i0 (.agg #[.int .i64 0, .int .i64 0, .string ⟨#[]⟩]) 3 32 Tryz.underlying56 hi hz0 hz1 hz2 rfl (by decide) (.slice (some ⟨w.heap.size, 0, none⟩) 0 0) 0 [] rfl (HM.out w) ⟨b, o, none⟩ css.length cap css.flatten rfl HFL.out ?c1 HO.out ?c3 ?c4 ?c5 ?_; (case c1 => intro j u hu; rw [World.cell?_alloc_lt _ _ _ (by rw [Addr.add_lit]; exact hb)]; exact HF.out j u hu); (case c3 => omega); (case c4 => rw [HL.out, Nat.zero_add]; exact HN.out); (case c5 => simp); intro v' w1 hown hgrow _; have HW := Lib.hid hown; have HG := Lib.hid hgrow; clear hown hgrow)
    go_ret
    have hbel : Below w.heap.size w w1 := ((Below.refl _ w).alloc (Nat.le_refl _) _).grown HG.out (by simp) (by intro k h; have h' : w.heap.size = k := (by simpa [Value.ownBlock] using h); exact Nat.le_of_eq h')
    refine ⟨v', rfl, ⟨css, by simpa using HW.out, HL.out, HZ.out, fun i x cs hi hc => HK.out w w1 x cs (.bel hbel) (HR.out i x cs hi hc)⟩, hbel⟩

/-- An update's copy lies in new memory. -/
def CopP (p : PrD) (w : World) (e : Ending) (w' : World) : Prop := ∃ a1 c1 a2 c2, e = .returned (.agg #[.int .i64 p.id, .slice a1 p.old.length c1, .slice a2 p.new.length c2]) ∧ ValsR (Old w.heap.size) w' (.slice a1 p.old.length c1) p.old ∧ ValsR (Old w.heap.size) w' (.slice a2 p.new.length c2) p.new ∧ Below w.heap.size w w'

theorem cloneV {M : Nat → Prop} (v : Value) (l : List Val) (w : World) (hv : ValsR M w v l) (hN : l.length ≤ 1000) : Calls Tryz.prog 79 #[v] w (ClonePost M 26 3 (fun _ => ValR) l w) :=
  cloneVal_any (R := fun _ => ValR) (fun _ _ _ _ _ h => h) (fun _ y cs h => valR_one1 y cs h) v l w hv (by omega)

set_option maxRecDepth 100000 in
set_option maxHeartbeats 4000000 in
theorem deepPair_any {M : Nat → Prop} (p : PrD) (v1 v2 : Value) (w : World) (h1 : ValsR M w v1 p.old) (h2 : ValsR M w v2 p.new) (hl1 : p.old.length ≤ 1000) (hl2 : p.new.length ≤ 1000) :
    Calls Tryz.prog 34 #[.agg #[.int .i64 p.id, v1, v2]] w (CopP p w) := by
  obtain ⟨a1, c1, rfl, _⟩ := h1.shape
  obtain ⟨a2, c2, rfl, _⟩ := h2.shape
  have HV1 := Lib.hid h1
  have HV2 := Lib.hid h2
  clear h1 h2
  have hP := (PB.start w).new #[.int .i64 p.id, .slice a1 p.old.length c1, .slice a2 p.new.length c2] 58
  have hP := hP.new' (g := w.heap.size + 1) (by simp) #[.int .i64 0, .slice none 0 0, .slice none 0 0] 58
  go_enter Tryz.func34, Tryz.ntmps34
  go_upto_region 1 with fail
  generalize World.alloc (World.alloc w _) _ = W4 at hP ⊢
  have HP4 := Lib.hid hP
  have hz4 := hP.blt (List.mem_cons_self ..)
  dsimp only at hz4
  obtain ⟨e0, e1, e2, _⟩ := blk3 (hP.blk (b := ⟨w.heap.size, _, _⟩) (List.mem_cons_of_mem _ (List.mem_cons_self ..)))
  have HKS := Lib.hid fun (w' : World) (h : PB w w' [⟨w.heap.size + 1, #[.int .i64 0, .slice none 0 0, .slice none 0 0], 58⟩, ⟨w.heap.size, #[.int .i64 p.id, .slice a1 p.old.length c1, .slice a2 p.new.length c2], 58⟩]) => show w'.cell? ⟨w.heap.size, 0, none⟩ = some (.int .i64 p.id) ∧ w'.cell? ⟨w.heap.size, 1, none⟩ = some (.slice a1 p.old.length c1) ∧ w'.cell? ⟨w.heap.size, 2, none⟩ = some (.slice a2 p.new.length c2) from
    (blk3 (h.blk (b := ⟨w.heap.size, _, _⟩) (List.mem_cons_of_mem _ (List.mem_cons_self ..)))).elim fun a0 h => h.elim fun a1 h => ⟨a0, a1, h.1⟩
  clear hP
  have tok1 : Hid True := Lib.hid trivial
  go_region_held3 (fun w' => w'.cell? ⟨w.heap.size, 0, none⟩ = some (.int .i64 p.id) ∧ w'.cell? ⟨w.heap.size, 1, none⟩ = some (.slice a1 p.old.length c1) ∧ w'.cell? ⟨w.heap.size, 2, none⟩ = some (.slice a2 p.new.length c2))
    (first | with_reducible exact HKS.out _ HP4.out.drew | with_reducible exact HKS.out _ HP6.out | with_reducible exact HKS.out _ HP5.out | go_keep)
    (first
      | (go_at_call 79; have _t := tok1; go_loud (refine (cloneV _ p.old _ (HV1.out.keep (.bel HP4.out.drew.below)) hl1).mono ?_; rintro e w5 ⟨v5, rfl, ho, hb⟩; have HO5 : Hid (RowsO W4.heap.size w5 26 3 ValR v5 p.old) := Lib.hid ho; have HP5 := Lib.hid (HP4.out.drew.bel hb); have hz5 := hb.size; obtain ⟨a5, c5, rfl, _⟩ := ho.shape; clear ho hb tok1 _t))
      | (go_at_call 79; go_loud (refine (cloneV _ p.new _ (HV2.out.keep (.bel HP5.out.below)) hl2).mono ?_; rintro e w6 ⟨v6, rfl, ho, hb⟩; have HO6 := Lib.hid ho; have HP6 := Lib.hid (HP5.out.bel hb); have HO56 := Lib.hid (RowsO.kept HO5.out (Keep.bel (M := NoM) hb) (fun _ _ h => h) fun _ _ _ h => h); have hz6 := HP6.out.size; have hz56 : W4.heap.size ≤ w5.heap.size := hz5; obtain ⟨a6, c6, rfl, _⟩ := ho.shape; have hgb := HP6.out.blk (b := ⟨w.heap.size + 1, _, _⟩) (List.mem_cons_self ..); dsimp only at hgb; have f0 := blk_fr hgb 0; have f1 := blk_fr hgb 1; have f2 := blk_fr hgb 2; obtain ⟨g0, g1, g2, gz⟩ := blk3 hgb; clear ho hb hgb)))
  go_wp2_with fail
  refine bodyPost_ret (v := .agg #[.int .i64 p.id, .slice a5 p.old.length c5, .slice a6 p.new.length c6]) (by simp [results, Tryz.results34, go_sem, g0, g1, g2]) rfl ?_
  have k := (((Keep.refl (At (w.heap.size + 1)) w6).setCell (p := ⟨w.heap.size + 1, 0, none⟩) (fun _ => rfl) (.int .i64 p.id)).setCell (p := ⟨w.heap.size + 1, 1, none⟩) (fun _ => rfl) (.slice a5 p.old.length c5)).setCell (p := ⟨w.heap.size + 1, 2, none⟩) (fun _ => rfl) (.slice a6 p.new.length c6)
  generalize World.setCell _ (⟨w.heap.size + 1, 2, none⟩ : Addr) _ = W9 at k ⊢
  have q1 := (HO56.out.rows (M := Old (w.heap.size + 2)) fun k h1 _ h2 => by unfold Old at h2; omega)
  have q2 := (HO6.out.rows (M := Old (w.heap.size + 2)) fun k h1 _ h2 => by unfold Old at h2; omega)
  have kk : Keep (Old (w.heap.size + 2)) w6 W9 := k.weak fun k _ h => by unfold At at h; unfold Old; omega
  have q3 := ((HP6.out.sub (L' := []) (by simp)).then k (fun i hi h => by unfold At at h; omega) (fun b hb => by cases hb)).below
  exact ⟨a5, c5, a6, c6, rfl, (ValsR.keep q1 kk).weak fun k _ h => by unfold Old at *; omega, (ValsR.keep q2 kk).weak fun k _ h => by unfold Old at *; omega, q3⟩

/-- Whether an update differs at a place. -/
def difB (p : PrD) (k : Nat) : Bool := match p.old[k]?, p.new[k]? with
  | some x, some y => !(x.kind == y.kind && x.int == y.int && x.text.toList == y.text.toList)
  | _, _ => false

set_option maxRecDepth 100000 in
set_option maxHeartbeats 4000000 in
theorem differs1_any {M : Nat → Prop} (nm c : ByteArray) (cv v1 v2 : Value) (cl : List Col) (p : PrD) (bs bp k : Nat) (w : World) (hc : ColsR M w cv cl) (hk : findCol cl c = some k) (h1 : ValsR M w v1 p.old) (h2 : ValsR M w v2 p.new) (hk1 : k < p.old.length) (hk2 : k < p.new.length)
    (hbs : w.heap[bs]? = some (.cells #[.string nm, cv] 42 (0, 0))) (hbp : w.heap[bp]? = some (.cells #[.int .i64 p.id, v1, v2] 58 (0, 0))) :
    Calls Tryz.prog 77 #[.string c, .pointer (some ⟨bs, 0, none⟩), .pointer (some ⟨bp, 0, none⟩)] w (RetBel (.bool (difB p k)) w) := by
  have HF := Lib.hid fun wx (h : Below w.heap.size w wx) => find_some nm cv cl c wx k (hc.keep (.bel h)) hk
  obtain ⟨ca, cc, rfl, _⟩ := hc.shape
  obtain ⟨a1, c1, rfl, _⟩ := h1.shape
  obtain ⟨a2, c2, rfl, _⟩ := h2.shape
  obtain ⟨⟨xa, xb, xc⟩, b1, o1, cs1, hx1, _, e1, hz1, hcs1, hcc1, hp1, hm1⟩ := rows_row h1 hk1
  obtain ⟨⟨ya, yb, yc⟩, b2, o2, cs2, hx2, _, e2, hz2, hcs2, hcc2, hp2, hm2⟩ := rows_row h2 hk2
  obtain rfl : cs1 = [.int .i64 xa, .int .i64 xb, .string xc] := hcs1
  obtain rfl : cs2 = [.int .i64 ya, .int .i64 yb, .string yc] := hcs2
  have HD : Hid (difB p k = !(xa == ya && xb == yb && xc.toList == yc.toList)) := Lib.hid (by unfold difB; rw [hx1, hx2])
  subst e1 e2
  unfold maxLen at hm1 hm2
  have HC1 := Lib.hid hcc1
  have HC2 := Lib.hid hcc2
  obtain ⟨s0, s1, _, _, sz⟩ := blk2 hbs
  have HBP := Lib.hid hbp
  have hzp : bp < w.heap.size := (Array.getElem?_eq_some_iff.1 hbp).1
  clear hc hk h1 h2 hx1 hx2 hcc1 hcc2 hbs hbp
  go_enter Tryz.func77, Tryz.ntmps77
  go_wp2_with fail
  refine (HF.out w (Below.refl _ _)).mono ?_
  rintro e w1 ⟨rfl, hb⟩
  have HB := Lib.hid hb
  obtain ⟨p0, p1, p2, _⟩ := blk3 ((hb.block bp hzp).trans HBP.out)
  obtain ⟨q0, q1, q2⟩ := CellsAt.c3 (HC1.out.keep (M := NoM) (.bel hb) fun h => h)
  obtain ⟨r0, r1, r2⟩ := CellsAt.c3 (HC2.out.keep (M := NoM) (.bel hb) fun h => h)
  clear hb s0 s1 sz
  have i0 : (0 : Int) ≤ (k : Int) := by omega
  have i1 : (k : Int) < (p.old.length : Int) := by omega
  have i2 : (k : Int) < (p.new.length : Int) := by omega
  dsimp only
  go_upto_region 2 with fail
  cases h1 : (xa == ya)
  · go_quiet (fail)
    go_wp2_with fail
    go_ret
    exact ⟨by rw [HD.out, h1]; rfl, drewN_below HB.out _⟩
  cases h2 : (xb == yb)
  · go_quiet (fail)
    go_wp2_with fail
    go_ret
    exact ⟨by rw [HD.out, h1, h2]; rfl, drewN_below HB.out _⟩
  cases h3 : (xc.toList == yc.toList)
  · go_quiet (fail)
    go_wp2_with fail
    go_ret
    exact ⟨by rw [HD.out, h1, h2, h3]; rfl, drewN_below HB.out _⟩
  go_quiet (fail)
  go_wp2_with fail
  go_ret
  exact ⟨by rw [HD.out, h1, h2, h3]; rfl, drewN_below HB.out _⟩
def idxB (r : Bool) : Int := if r then 0 else -1
set_option maxRecDepth 100000 in
set_option maxHeartbeats 4000000 in
theorem idxStr1_any (c : ByteArray) (r : Bool) (b o cap bs bp : Nat) (w : World) (hc : w.cell? ⟨b, o, none⟩ = some (.string c)) (hcap : 1 ≤ cap ∧ cap ≤ maxLen) (hf : ∀ wx, Below w.heap.size w wx → Calls Tryz.prog 77 #[.string c, .pointer (some ⟨bs, 0, none⟩), .pointer (some ⟨bp, 0, none⟩)] wx (RetBel (.bool r) wx)) :
    Calls Tryz.prog 121 #[.slice (some ⟨b, o, none⟩) 1 cap, .func (.func 77) #[] #[.pointer (some ⟨bs, 0, none⟩), .pointer (some ⟨bp, 0, none⟩)]] w (RetBel (.int .i64 (idxB r)) w) := by
  have hb := World.block_lt_of_cell? _ _ hc
  simp only at hb
  have HF := Lib.hid hf
  have HC := Lib.hid fun (wx : World) (h : Below w.heap.size w wx) => (h.cell (p := ⟨b, o, none⟩) hb).trans hc
  obtain ⟨hc1, hc2⟩ := hcap
  unfold maxLen at hc2
  have h1 : (1 : Int) ≤ (cap : Int) := by omega
  clear hf hc
  go_enter Tryz.func121, Tryz.ntmps121
  go_wp2_with fail
  go_loopw [5, 8] (fun _ i wr => ∃ k : Nat, k ≤ 1 ∧ i = .int .i64 (k : Int) ∧ Below w.heap.size w wr ∧ (k = 1 → r = false)) (fun _ i _ => 1 - (intOf i).toNat)
  case atStart => exact ⟨0, Nat.zero_le _, rfl, Below.refl _ _, fun h => by omega⟩
  case round =>
    rename World => wr
    obtain ⟨k, hk, rfl, hbel, hr⟩ := hrel
    have HB := Lib.hid hbel
    have HR := Lib.hid hr
    have hx := HC.out wr hbel
    clear hbel hr
    by_cases h0 : k = 0
    · subst h0
      go_wp2_with fail
      refine (HF.out wr HB.out).mono ?_
      rintro e w1 ⟨rfl, hb1⟩
      have HB1 := Lib.hid (HB.out.trans (hb1.mono HB.out.size))
      clear hb1 hx
      dsimp only
      cases r with
      | true =>
        go_wp2_with fail
        go_ret
        exact ⟨rfl, HB1.out⟩
      | false =>
        go_wp2_with fail
        go_roundw
        case rel => exact ⟨1, by omega, by go_num, HB1.out, by simp⟩
        case measure => simp [intOf]
    · obtain rfl : k = 1 := by omega
      have hrf := HR.out rfl
      go_wp2_with fail
      go_ret
      exact ⟨by first | (rw [hrf]; rfl) | (simp_all [idxB]), HB.out⟩

set_option maxRecDepth 100000 in
set_option maxHeartbeats 4000000 in
theorem containsStr1_any (c : ByteArray) (r : Bool) (b o cap bs bp : Nat) (w : World) (hc : w.cell? ⟨b, o, none⟩ = some (.string c)) (hcap : 1 ≤ cap ∧ cap ≤ maxLen) (hf : ∀ wx, Below w.heap.size w wx → Calls Tryz.prog 77 #[.string c, .pointer (some ⟨bs, 0, none⟩), .pointer (some ⟨bp, 0, none⟩)] wx (RetBel (.bool r) wx)) :
    Calls Tryz.prog 76 #[.slice (some ⟨b, o, none⟩) 1 cap, .func (.func 77) #[] #[.pointer (some ⟨bs, 0, none⟩), .pointer (some ⟨bp, 0, none⟩)]] w (RetBel (.bool r) w) := by
  have HI := Lib.hid (idxStr1_any c r b o cap bs bp w hc hcap hf)
  clear hf hc hcap
  go_enter Tryz.func76, Tryz.ntmps76
  go_wp2_with fail
  refine HI.out.mono ?_
  rintro e w1 ⟨rfl, hb⟩
  have HB := Lib.hid hb
  clear hb
  dsimp only
  cases r with
  | true =>
    unfold idxB
    simp only [if_true]
    go_wp2_with fail
    go_ret
    exact ⟨rfl, HB.out⟩
  | false =>
    unfold idxB
    simp only [Bool.false_eq_true, if_false]
    go_wp2_with fail
    go_ret
    exact ⟨rfl, HB.out⟩

set_option maxRecDepth 100000 in
set_option maxHeartbeats 4000000 in
theorem differs_any {M : Nat → Prop} (nm c : ByteArray) (cv v1 v2 : Value) (cl : List Col) (p : PrD) (k b o cap : Nat) (w : World) (hc : ColsR M w cv cl) (hk : findCol cl c = some k) (h1 : ValsR M w v1 p.old) (h2 : ValsR M w v2 p.new) (hk1 : k < p.old.length) (hk2 : k < p.new.length) (hs : w.cell? ⟨b, o, none⟩ = some (.string c)) (hcap : 1 ≤ cap ∧ cap ≤ maxLen) :
    Calls Tryz.prog 33 #[.agg #[.int .i64 p.id, v1, v2], .slice (some ⟨b, o, none⟩) 1 cap, .agg #[.string nm, cv]] w (RetBel (.bool (difB p k)) w) := by
  have hb := World.block_lt_of_cell? _ _ hs
  simp only at hb
  have h0 := (PB.start w).new #[.int .i64 p.id, v1, v2] 58
  have hP := h0.new' (g := w.heap.size + 1) (by simp) #[.string nm, cv] 42
  have HC := Lib.hid fun (wx : World) (h : PB w wx [⟨w.heap.size + 1, #[.string nm, cv], 42⟩, ⟨w.heap.size, #[.int .i64 p.id, v1, v2], 58⟩]) =>
    containsStr1_any c (difB p k) b o cap (w.heap.size + 1) w.heap.size wx ((h.below.cell (p := ⟨b, o, none⟩) hb).trans hs) hcap fun wy hy => differs1_any nm c cv v1 v2 cl p (w.heap.size + 1) w.heap.size k wy (hc.keep (.bel (h.bel hy).below)) hk (h1.keep (.bel (h.bel hy).below)) (h2.keep (.bel (h.bel hy).below)) hk1 hk2 ((h.bel hy).blk (List.mem_cons_self ..)) ((h.bel hy).blk (List.mem_cons_of_mem _ (List.mem_cons_self ..)))
  obtain ⟨ca, cc, rfl, _⟩ := hc.shape
  obtain ⟨a1, c1, rfl, _⟩ := h1.shape
  obtain ⟨a2, c2, rfl, _⟩ := h2.shape
  clear hc hk h1 h2 hs hcap h0
  go_enter Tryz.func33, Tryz.ntmps33
  go_upto_region 1 with fail
  generalize World.alloc (World.alloc w _) _ = W0 at hP ⊢
  have HP := Lib.hid hP
  clear hP
  go_wp2_with fail
  refine (HC.out W0 HP.out).mono ?_
  rintro e w1 ⟨rfl, hb1⟩
  have HB1 := Lib.hid (HP.out.bel hb1)
  clear hb1
  dsimp only
  go_wp2_with fail
  go_ret
  exact ⟨rfl, HB1.out.below⟩
end Go.Proofs.YtkhlmofcdchccaaGreatDoor
namespace Go.Proofs.YtkhlmofcdchccaaGreatDoor
open Go.RowKit

set_option maxHeartbeats 4000000 in
theorem checkNames_nil (a0 a1 a2 a3 a5 a6 a7 a9 a10 : Value) (nm : ByteArray) (ca : Option Addr) (cn cc : Nat) (vt : Value) (w : World) : Calls Tryz.prog 83 #[.agg #[a0, a1, a2, a3, .slice none 0 0, a5, a6, a7, .slice none 0 0, a9, a10], .agg #[.string nm, .slice ca cn cc], vt] w (RetBel (.int .i64 0) w) := by
  have hb := ((Below.refl w.heap.size w).alloc (Nat.le_refl _) (.cells #[a0, a1, a2, a3, .slice none 0 0, a5, a6, a7, .slice none 0 0, a9, a10] 52)).alloc (by simp) (.cells #[.string nm, .slice ca cn cc] 42)
  have HB := Lib.hid hb
  clear hb
  go_enter Tryz.func83, Tryz.ntmps83
  go_wp2_with fail
  generalize hW : World.alloc (World.alloc w _) _ = W0 at HB ⊢
  have hx : W0.cell? ⟨w.heap.size, 8, none⟩ = some (.slice none 0 0) := by rw [← hW]; simp
  clear hW
  go_loopw [17] (fun i wr => i = .int .i64 0 ∧ wr = W0) (fun _ _ => 0)
  case atStart => exact ⟨rfl, rfl⟩
  case round =>
    obtain ⟨rfl, rfl⟩ := hrel
    go_wp2_with fail
    rename World => W0
    go_loopw [29] (fun i wr => i = .int .i64 0 ∧ wr = W0) (fun _ _ => 0)
    case atStart => exact ⟨rfl, rfl⟩
    case round =>
      obtain ⟨rfl, rfl⟩ := hrel
      go_wp2_with fail
      go_ret
      exact ⟨rfl, HB.out⟩

set_option maxHeartbeats 2000000 in
theorem listRow_nil (f : Value) (w : World) : Calls Tryz.prog 74 #[.slice none 0 0, f] w (fun e w' => e = .returned (.slice none 0 0) ∧ w' = w) := by
  go_enter Tryz.func74, Tryz.ntmps74
  go_wp2_with fail
  go_loopw [10, 5] (fun i v wr => i = .int .i64 0 ∧ v = .slice none 0 0 ∧ wr = w) (fun _ _ _ => 0)
  case atStart => exact ⟨rfl, rfl, rfl⟩
  case round =>
    obtain ⟨rfl, rfl, rfl⟩ := hrel
    go_wp2_with fail
    go_ret
    exact ⟨rfl, rfl⟩

set_option maxHeartbeats 2000000 in
theorem deepRows_nil (w : World) : Calls Tryz.prog 32 #[.slice none 0 0] w (fun e w' => e = .returned (.slice none 0 0) ∧ w' = w) := by
  go_enter Tryz.func32, Tryz.ntmps32
  go_wp2_with fail
  refine (listRow_nil _ w).mono ?_
  rintro e w1 ⟨rfl, rfl⟩
  dsimp only
  go_wp2_with fail
  go_ret
  exact ⟨rfl, rfl⟩

set_option maxHeartbeats 2000000 in
theorem checkAction_abort (a1 a2 a3 a4 a5 a6 : Value) (nm : ByteArray) (ca : Option Addr) (cn cc : Nat) (vf vt : Value) (w : World) : Calls Tryz.prog 88 #[.agg #[.int .i64 4, a1, a2, a3, a4, a5, a6], .agg #[.string nm, .slice ca cn cc], vf, vt] w (RetBel (.int .i64 0) w) := by
  have hb := ((Below.refl w.heap.size w).alloc (Nat.le_refl _) (.cells #[.int .i64 4, a1, a2, a3, a4, a5, a6] 85)).alloc (by simp) (.cells #[.string nm, .slice ca cn cc] 42)
  have HB := Lib.hid hb
  clear hb
  go_enter Tryz.func88, Tryz.ntmps88
  go_wp2_with fail
  go_ret
  exact ⟨rfl, HB.out⟩

set_option maxHeartbeats 2000000 in
theorem framesK_off (a0 a1 a2 a3 a4 a6 a7 a8 a9 a10 : Value) (nm : ByteArray) (ca : Option Addr) (cn cc : Nat) (w : World) : Calls Tryz.prog 84 #[.agg #[a0, a1, a2, a3, a4, .bool false, a6, a7, a8, a9, a10], .agg #[.string nm, .slice ca cn cc], .slice none 0 0, .slice none 0 0] w (RetBel (.slice none 0 0) w) := by
  have hb := ((Below.refl w.heap.size w).alloc (Nat.le_refl _) (.cells #[a0, a1, a2, a3, a4, .bool false, a6, a7, a8, a9, a10] 52)).alloc (by simp) (.cells #[.string nm, .slice ca cn cc] 42)
  have HB := Lib.hid hb
  clear hb
  go_enter Tryz.func84, Tryz.ntmps84
  go_wp2_with fail
  go_ret
  exact ⟨rfl, HB.out⟩

set_option maxHeartbeats 2000000 in
theorem transK_each (a0 a1 a3 a4 a6 a7 a8 a9 a10 : Value) (nm : ByteArray) (ca : Option Addr) (cn cc : Nat) (d0 d1 d2 d3 : Value) (w : World) : Calls Tryz.prog 86 #[.agg #[a0, a1, .bool false, a3, a4, .bool true, a6, a7, a8, a9, a10], .agg #[.string nm, .slice ca cn cc], .agg #[d0, d1, d2, d3]] w (RetBel (.slice none 0 0) w) := by
  have hb := (((Below.refl w.heap.size w).alloc (Nat.le_refl _) (.cells #[a0, a1, .bool false, a3, a4, .bool true, a6, a7, a8, a9, a10] 52)).alloc (by simp) (.cells #[.string nm, .slice ca cn cc] 42)).alloc (by simp; omega) (.cells #[d0, d1, d2, d3] 47)
  have HB := Lib.hid hb
  clear hb
  go_enter Tryz.func86, Tryz.ntmps86
  go_wp2_with fail
  go_ret
  exact ⟨rfl, HB.out⟩
end Go.Proofs.YtkhlmofcdchccaaGreatDoor
namespace Go.Proofs.YtkhlmofcdchccaaGreatDoor
open Go.RowKit

def newFrm (cl : List Col) : Frm := ⟨⟨#[78, 69, 87]⟩, true, cl⟩
theorem frm_one1 {M : Nat → Prop} {w : World} (y : Frm) (cs : List Value) (h : FrmR M w y cs) : ∀ u ∈ cs, u.oneCell' = true := by
  obtain ⟨vc, a, n, c, rfl, hc⟩ := h
  obtain ⟨a', c', rfl, _⟩ := hc.shape
  intro u hu
  simp at hu
  rcases hu with rfl | rfl | rfl | rfl <;> rfl
theorem frmR_later {M : Nat → Prop} {w W : World} {y : Frm} {cs : List Value} (h : FrmR M w y cs) (k : Keep M w W) : FrmR NoM W y cs := by
  obtain ⟨vc, a, n, c, rfl, hc⟩ := h
  exact ⟨vc, a, n, c, rfl, (hc.keep k).weak fun _ _ h => h.elim⟩

set_option maxRecDepth 100000 in
set_option maxHeartbeats 4000000 in
theorem framesK_on {M : Nat → Prop} (a0 a1 a2 a4 a6 a7 a8 a9 a10 : Value) (nm : ByteArray) (cv : Value) (cl : List Col) (w : World) (hc : ColsR M w cv cl) (hl : cl.length ≤ 100) : Calls Tryz.prog 84 #[.agg #[a0, a1, a2, .int .i64 1, a4, .bool true, a6, a7, a8, a9, a10], .agg #[.string nm, cv], .slice none 0 0, .slice none 0 0] w (fun e w' => ∃ v, e = .returned v ∧ FrmsR NoM w' v [newFrm cl] ∧ Below w.heap.size w w') := by
  obtain ⟨ca, cc, rfl, _⟩ := hc.shape
  have HCC := Lib.hid fun (wx : World) (h : Below w.heap.size w wx) => cloneCol_any (M := M) (R := fun _ => ColR) colR_keep colR_one (.slice ca cl.length cc) cl wx (hc.keep (.bel h)) (by omega)
  have hP := (PB.start w).new #[a0, a1, a2, .int .i64 1, a4, .bool true, a6, a7, a8, a9, a10] 52
  have hP := hP.new' (g := w.heap.size + 1) (by simp) #[.string nm, .slice ca cl.length cc] 42
  clear hc
  go_enter Tryz.func84, Tryz.ntmps84
  go_upto_region 1 with fail
  generalize World.alloc (World.alloc w _) _ = W0 at hP ⊢
  have HP0 := Lib.hid hP
  obtain ⟨t0, t1, t2, t3, t4, t5, _⟩ := blk11 (hP.blk (b := ⟨w.heap.size, _, _⟩) (List.mem_cons_of_mem _ (List.mem_cons_self ..)))
  obtain ⟨s0, s1, _⟩ := blk2 (hP.blk (b := ⟨w.heap.size + 1, _, _⟩) (List.mem_cons_self ..))
  clear hP
  go_wp2_with fail
  refine (HCC.out W0 HP0.out.below).mono ?_
  rintro e w1 ⟨v1, rfl, ho, hb⟩
  obtain ⟨a1', c1, rfl, _⟩ := ho.shape
  have HP1 := Lib.hid (HP0.out.bel hb)
  have HO1 := Lib.hid ho
  have hz1 : w.heap.size ≤ W0.heap.size := HP0.out.size
  clear ho hb t0 t1 t2 t3 t4 t5 s0 s1
  dsimp only
  go_wp2_with fail
  refine (cloneV (M := NoM) (.slice none 0 0) [] w1 (RowsR.nil ..) (by simp)).mono ?_
  rintro e w2 ⟨v2, rfl, ho, hb⟩
  obtain ⟨a2', c2, rfl, _⟩ := ho.shape
  have HP2 := Lib.hid (HP1.out.bel hb)
  have HO2 := Lib.hid (RowsO.kept HO1.out (Keep.bel (M := NoM) hb) (fun _ _ h => h) fun _ _ _ h => h)
  have HF2 : Hid (FrmR (Old w.heap.size) w2 (newFrm cl) [.string ⟨#[78, 69, 87]⟩, .bool true, .slice a1' cl.length c1, .slice a2' ([] : List Val).length c2]) := Lib.hid ⟨_, _, _, _, rfl, HO2.out.rows fun k h1 _ h2 => by unfold Old at h2; omega⟩
  have hz2 := HP2.out.size
  clear ho hb
  dsimp only
  go_wp2_with (at_builtin; go_loud (refine wpList_app rfl _ _ 162 rfl 205 _ 4 72 Tryz.underlying162 infoFrame rfl (by decide) (R := FrmR (Old w.heap.size) w2) (M := NoM) w.heap.size (.slice none 0 0) (.slice (some ⟨w2.heap.size, 0, none⟩) 1 1) [] [newFrm cl] rfl rfl (RowsO.nil ..) (rows_one (newFrm cl) rfl id rfl HF2.out) (fun y _ cs h => frm_one1 y cs h) (by simp) (by simp [maxLen]) (by simp; omega) ?_; intro v9 w9 ho hk _; have HO9 := Lib.hid ho; have HK9 := Lib.hid (bel_nil hk); clear ho hk))
  go_ret
  have hb9 : Below w2.heap.size w2 w9 := ((Below.refl _ w2).alloc (Nat.le_refl _) _).trans (HK9.out.mono (by simp))
  exact ⟨v9, rfl, (HO9.out.imp fun y _ cs hc => frmR_later hc (.bel hb9)).rows fun _ _ _ h => h, (HP2.out.bel hb9).below⟩
end Go.Proofs.YtkhlmofcdchccaaGreatDoor
