/- What the tape's Query has laid in memory on its way: the place's box, the result's cells, the schema, the inner place, the query. -/
import Derived.Test.YtppiaaolggpjdaaDoorS12
import Derived.Test.YtppiaaolggpjdaaDoorKD2
namespace Go.Proofs.YtppiaaolggpjdaaDoor
open Go.RowKit

/-- The place's box and the result's cells, behind tape calls. -/
def LocQ (T : Nat) (vf vt : Value) (w wi : World) : Prop :=
  TapeOk T wi ∧ Keep (At T) w wi ∧ wi.heap[w.heap.size]? = some (.cells #[vf, vt] 45 (0, 0)) ∧
    wi.heap[w.heap.size + 1]? = some (.cells #[.bool false, .slice none 0 0, .string ⟨#[]⟩, .slice none 0 0] 37 (0, 0))

section
variable {T : Nat} {vf vt : Value} {w wi wj : World}
theorem LocQ.lt (h : LocQ T vf vt w wi) : w.heap.size + 1 < wi.heap.size := (Array.getElem?_eq_some_iff.1 h.2.2.2).1
theorem LocQ.then {N : Nat → Prop} (h : LocQ T vf vt w wi) (ht : TapeOk T wj) (k : Keep N wi wj) (hN : ∀ i, i ≤ w.heap.size + 1 → N i → i = T) (hT : T < w.heap.size) : LocQ T vf vt w wj :=
  ⟨ht, h.2.1.then k fun i hi hh => hN i (by omega) hh, (k.block _ (by have := h.lt; omega) fun hh => by have := hN _ (by omega) hh; omega).trans h.2.2.1, (k.block _ h.lt fun hh => by have := hN _ (by omega) hh; omega).trans h.2.2.2⟩
theorem LocQ.step (h : LocQ T vf vt w wi) (hT : T < w.heap.size) (ht : TapeOk T wj) (hk : Keep (At T) wi wj) : LocQ T vf vt w wj := h.then ht hk (fun _ _ hh => hh) hT
theorem LocQ.bel (h : LocQ T vf vt w wi) (hT : T < w.heap.size) (hb : Below wi.heap.size wi wj) : LocQ T vf vt w wj := h.step hT (h.1.bel hb) (.bel hb)
theorem LocQ.alloc (h : LocQ T vf vt w wi) (hT : T < w.heap.size) (o : Obj) : LocQ T vf vt w (wi.alloc o) := h.bel hT ((Below.refl _ _).alloc (Nat.le_refl _) o)
theorem LocQ.drew (h : LocQ T vf vt w wi) : LocQ T vf vt w wi.drew := ⟨h.1, h.2.1.drew, h.2.2.1, h.2.2.2⟩
/-- What is written later does not touch it. -/
theorem LocQ.late {N : Nat → Prop} (h : LocQ T vf vt w wi) (hT : T < w.heap.size) (k : Keep N wi wj) (hN : ∀ i, i ≤ w.heap.size + 1 → ¬ N i) : LocQ T vf vt w wj :=
  h.then (h.1.keep k fun i hi => hN i (by omega)) k (fun i hi hh => absurd hh (hN i hi)) hT
theorem LocQ.set (h : LocQ T vf vt w wi) (hT : T < w.heap.size) {g i : Nat} (hg : w.heap.size + 1 < g) (u : Value) : LocQ T vf vt w (wi.setCell ⟨g, i, none⟩ u) :=
  h.late hT ((Keep.refl (At g) wi).setCell (p := ⟨g, i, none⟩) (fun _ => rfl) u) fun k hk hh => by unfold At at hh; omega
theorem LocQ.tape (h : LocQ T vf vt w wi) : TapeOk T wi := h.1
theorem LocQ.kept (h : LocQ T vf vt w wi) : Keep (At T) w wi := h.2.1
theorem LocQ.place (h : LocQ T vf vt w wi) : wi.cell? ⟨w.heap.size, 0, none⟩ = some vf ∧ wi.cell? ⟨w.heap.size, 1, none⟩ = some vt ∧ w.heap.size < wi.heap.size := by
  obtain ⟨a, b, _, _, c⟩ := blk2 h.2.2.1
  exact ⟨a, b, c⟩
theorem LocQ.res (h : LocQ T vf vt w wi) : wi.cell? ⟨w.heap.size + 1, 0, none⟩ = some (.bool false) ∧ wi.cell? ⟨w.heap.size + 1, 1, none⟩ = some (.slice none 0 0) ∧ wi.cell? ⟨w.heap.size + 1, 2, none⟩ = some (.string ⟨#[]⟩) ∧ wi.cell? ⟨w.heap.size + 1, 3, none⟩ = some (.slice none 0 0) ∧ (∀ i, wi.frozen? ⟨w.heap.size + 1, i, none⟩ = false) := by
  obtain ⟨a, b, c, d, _, _, _⟩ := blk4 h.2.2.2
  exact ⟨a, b, c, d, fun i => by simp [World.frozen?, h.2.2.2]⟩
end

theorem frz {w : World} {S : Nat} {cs : Array Value} {e : TypeId} (h : w.heap[S]? = some (.cells cs e (0, 0))) : ∀ i, w.frozen? ⟨S, i, none⟩ = false := fun i => by simp [World.frozen?, h]

/-- The schema that was chosen, in a box. -/
def SchBoxQ (T : Nat) (vf vt : Value) (ss : List Sch) (w : World) (c : Value) (wx : World) : Prop :=
  ∃ g s ca cc, c = .pointer (some ⟨g, 0, none⟩) ∧ s ∈ ss ∧ w.heap.size + 1 < g ∧ wx.heap[g]? = some (.cells #[.string s.name, .slice ca s.cols.length cc] 98 (0, 0)) ∧ ColsR (At T) wx (.slice ca s.cols.length cc) s.cols ∧ LocQ T vf vt w wx

/-- The query that is being made (block h), its place (block p); no condition yet. -/
def QL (T : Nat) (vf vt : Value) (w W : World) (p h : Nat) (pv : Value) (fs : List Frm) (st : Bool) (frm : ByteArray) (vi : Value) (items : List Ex) : Prop :=
  LocQ T vf vt w W ∧ w.heap.size + 1 < p ∧ p < h ∧ W.heap[p]? = some (.cells #[pv, vt] 45 (0, 0)) ∧ FrmsR (TOr T p) W pv fs ∧
    W.heap[h]? = some (.cells #[.bool st, vi, .string frm, .slice none 0 0] 37 (0, 0)) ∧ RowsG (h + 1) W 27 10 (fun M w (e : Ex) cs => EC M w e cs) vi items

section
variable {T p h : Nat} {vf vt pv vi : Value} {w W W' : World} {fs : List Frm} {st : Bool} {frm : ByteArray} {items : List Ex}
theorem QL.hlt (q : QL T vf vt w W p h pv fs st frm vi items) : h < W.heap.size := (Array.getElem?_eq_some_iff.1 q.2.2.2.2.2.1).1
theorem QL.step (q : QL T vf vt w W p h pv fs st frm vi items) (hT : T < w.heap.size) (ht : TapeOk T W') (hk : Keep (At T) W W') : QL T vf vt w W' p h pv fs st frm vi items := by
  obtain ⟨hL, h1, h2, h3, h4, h5, h6⟩ := q
  have hn : ∀ k, w.heap.size ≤ k → ¬ At T k := fun k hk h => by unfold At at h; omega
  exact ⟨hL.step hT ht hk, h1, h2, (hk.block _ (Array.getElem?_eq_some_iff.1 h3).1 (hn _ (by omega))).trans h3, h4.keep (hk.weak fun k _ h => .inl h), (hk.block _ (Array.getElem?_eq_some_iff.1 h5).1 (hn _ (by omega))).trans h5, h6.keep ecStable hk fun k h1 _ => hn k (by omega)⟩
theorem QL.bel (q : QL T vf vt w W p h pv fs st frm vi items) (hT : T < w.heap.size) (hb : Below W.heap.size W W') : QL T vf vt w W' p h pv fs st frm vi items := q.step hT (q.1.1.bel hb) (.bel hb)
theorem QL.alloc (q : QL T vf vt w W p h pv fs st frm vi items) (hT : T < w.heap.size) (o : Obj) : QL T vf vt w (W.alloc o) p h pv fs st frm vi items := q.bel hT ((Below.refl _ _).alloc (Nat.le_refl _) o)
theorem QL.drew (q : QL T vf vt w W p h pv fs st frm vi items) : QL T vf vt w W.drew p h pv fs st frm vi items := by
  obtain ⟨hL, h1, h2, h3, h4, h5, h6⟩ := q
  exact ⟨hL.drew, h1, h2, h3, h4.keep ((Keep.refl _ W).drew), h5, h6.keep ecStable ((Keep.refl (fun _ => False) W).drew) fun _ _ _ => id⟩
theorem QL.box (q : QL T vf vt w W p h pv fs st frm vi items) : W.cell? ⟨p, 0, none⟩ = some pv ∧ W.cell? ⟨p, 1, none⟩ = some vt ∧ p < W.heap.size := by
  obtain ⟨a, b, _, _, c⟩ := blk2 q.2.2.2.1
  exact ⟨a, b, c⟩
theorem QL.cells (q : QL T vf vt w W p h pv fs st frm vi items) : W.cell? ⟨h, 0, none⟩ = some (.bool st) ∧ W.cell? ⟨h, 1, none⟩ = some vi ∧ W.cell? ⟨h, 2, none⟩ = some (.string frm) ∧ W.cell? ⟨h, 3, none⟩ = some (.slice none 0 0) ∧ (∀ i, W.frozen? ⟨h, i, none⟩ = false) ∧ h < W.heap.size := by
  obtain ⟨a, b, c, d, _, _, z⟩ := blk4 q.2.2.2.2.2.1
  exact ⟨a, b, c, d, fun i => by simp [World.frozen?, q.2.2.2.2.2.1], z⟩
/-- An append to the items has been stored. -/
theorem QL.add {v' : Value} {x : Ex} (q : QL T vf vt w W p h pv fs st frm vi items) (hT : T < w.heap.size) (hg : RowsG (h + 1) W' 27 10 (fun M w (e : Ex) cs => EC M w e cs) v' (items ++ [x])) (hk : Keep (OwnB vi) W W') :
    QL T vf vt w (W'.setCell ⟨h, 1, none⟩ v') p h pv fs st frm v' (items ++ [x]) := by
  obtain ⟨hL, h1, h2, h3, h4, h5, h6⟩ := q
  have hlt : ∀ k, OwnB vi k → h + 1 ≤ k := fun k hk => (RowsO.lt h6 hk).1
  have ks : Keep (At h) W' (W'.setCell ⟨h, 1, none⟩ v') := (Keep.refl (At h) W').setCell (p := ⟨h, 1, none⟩) (fun _ => rfl) v'
  have hz := hk.size
  have z3 := (Array.getElem?_eq_some_iff.1 h3).1
  have z5 := (Array.getElem?_eq_some_iff.1 h5).1
  have h5' : W'.heap[h]? = some (.cells #[.bool st, vi, .string frm, .slice none 0 0] 37 (0, 0)) := (hk.block _ z5 fun hh => by have := hlt _ hh; omega).trans h5
  refine ⟨(hL.late hT hk fun i hi hh => by have := hlt _ hh; omega).late hT ks fun i hi hh => by unfold At at hh; omega, h1, h2, ?_, ?_, ?_, ?_⟩
  · exact (ks.block _ (by omega) fun hh => by unfold At at hh; omega).trans ((hk.block _ z3 fun hh => by have := hlt _ hh; omega).trans h3)
  · exact (h4.keep (hk.weak fun k _ h => .inr (by have := hlt _ h; omega))).keep (ks.weak fun k _ h => .inr (by unfold At at h; omega))
  · simp [World.setCell, Array.getElem?_modify, h5']
  · exact hg.keep ecStable ks fun k h1 _ hh => by unfold At at hh; omega
end

theorem ql_new {T : Nat} {vf vt pv : Value} {w w6 : World} {fs : List Frm} {st : Bool} {frm : ByteArray} {p : Nat} (hL : LocQ T vf vt w w6) (hT : T < w.heap.size) (hp : w.heap.size + 1 < p) (h3 : w6.heap[p]? = some (.cells #[pv, vt] 45 (0, 0))) (hf : FrmsR (TOr T p) w6 pv fs) :
    QL T vf vt w (w6.alloc (.cells #[.bool st, .slice none 0 0, .string frm, .slice none 0 0] 37)) p w6.heap.size pv fs st frm (.slice none 0 0) [] :=
  ⟨hL.alloc hT _, hp, (Array.getElem?_eq_some_iff.1 h3).1, (heap_alloc_old _ _ (Array.getElem?_eq_some_iff.1 h3).1).trans h3, hf.keep ((Keep.refl _ w6).alloc _), heap_alloc_new w6 _, RowsG.nil ..⟩

theorem ql_expr {n T p h : Nat} {vf vi : Value} {w W : World} {a6 ta : Option Addr} {c6 tc : Nat} {look : List UInt8 → List Col} {fs : List Frm} {s : Sch} {ss : List Sch} {st : Bool} {frm : ByteArray} {items : List Ex} (hE : ExprOk n) (hw : WordsOk T w) (hs : SchsR (At T) w (.slice ta ss.length tc) ss)
    (hP : PlaceP look (fs ++ [frmOf s]) ss n) (q : QL T vf (.slice ta ss.length tc) w W p h (.slice a6 (fs.length + 1) c6) (fs ++ [frmOf s]) st frm vi items) (dp want : Int) (h1 : dp ≤ n) (h2 : -10 ≤ dp) (h3 : 1 ≤ want) (h4 : want ≤ 3) :
    Calls Tryd.prog 19 #[.pointer (some ⟨T, 0, none⟩), .agg #[.slice a6 (fs.length + 1) c6, .slice ta ss.length tc], .int .i64 want, .int .i64 dp] W (Gives T W (ExQ (Mk ss (fs ++ [frmOf s]) want n) W)) := by
  have hl : (fs ++ [frmOf s]).length = fs.length + 1 := by simp
  have hf := q.2.2.2.2.1
  rw [← hl] at hf ⊢
  exact hE T dp want a6 ta c6 tc look _ ss W h1 h2 h3 h4 q.1.1 (hw.at q.1.2.1) (hf.weak fun k _ h => .inl h) (hs.keep q.1.2.1) hP

/-- What Query gives: queries nested at most so deep, of few items. -/
def QryQ (n : Nat) (w : World) (v : Value) (W : World) : Prop := ∃ q vi vw, v = .agg #[.bool q.star, vi, .string q.frm, vw] ∧ ExsR (Old w.heap.size) W vi q.items ∧ ExsR (Old w.heap.size) W vw q.whr ∧ depQ q ≤ n + 1 ∧ q.items.length ≤ 3

theorem depL_max {n : Nat} : ∀ {l : List Ex}, (∀ x ∈ l, dep x ≤ n) → depL l ≤ n
  | [], _ => by simp [depL]
  | x :: l, h => by
    rw [depL]
    have := h x (by simp)
    have := depL_max fun y hy => h y (List.mem_cons_of_mem x hy)
    omega

/-- The call's end, without a condition. -/
theorem ql_fin0 {T p h n : Nat} {vf vt pv vi : Value} {w W W' : World} {fs : List Frm} {st : Bool} {frm : ByteArray} {items : List Ex} (q : QL T vf vt w W p h pv fs st frm vi items) (hT : T < w.heap.size) (hd : ∀ x ∈ items, dep x ≤ n) (hl : items.length ≤ 3) (ks : Keep (At (w.heap.size + 1)) W W') :
    Gives T w (QryQ n w) (.returned (.agg #[.bool st, vi, .string frm, .slice none 0 0])) W' := by
  obtain ⟨hL, h1, h2, h3, h4, h5, h6⟩ := q
  refine gives_set hT hL.2.1 hL.1 ks ⟨.mk st items frm [], vi, _, rfl, ?_, RowsR.nil .., ?_, hl⟩
  · have hr : ExsR (Old (h + 1)) W vi items := RowsG.rows ecStable h6
    exact ExsR.weak (fun k _ hk => by unfold Old at hk ⊢; omega) (ExsR.keep hr (ks.weak fun k _ hk => by unfold At at hk; unfold Old; omega))
  · rw [depQ_eq]
    have := depL_max hd
    show max (depL items) (depL []) + 1 ≤ n + 1
    rw [depL]
    omega
/-- The call's end, with a condition that lies in a block of its own. -/
theorem ql_fin1 {T p h n lo : Nat} {vf vt pv vi : Value} {w W W' W9 : World} {fs : List Frm} {st : Bool} {frm : ByteArray} {items : List Ex} {x : Ex} {a s : Option Addr} {ac sc : Nat} (q : QL T vf vt w W p h pv fs st frm vi items) (hT : T < w.heap.size) (hd : ∀ x ∈ items, dep x ≤ n) (hl : items.length ≤ 3) (hdx : dep x ≤ n)
    (hx : ExV (Old lo) W x (.agg #[.int .i64 x.kind, .int .i64 x.op, .bool x.no, .int .i64 x.val.kind, .int .i64 x.val.int, .string x.val.text, .string x.table, .string x.name, .slice a x.args.length ac, .slice s x.sub.length sc])) (hlo : h < lo)
    (h9 : W9 = (W.setCell ⟨h, 3, none⟩ (.slice (some ⟨W.heap.size, 0, none⟩) 1 1)).alloc (.cells #[.int .i64 x.kind, .int .i64 x.op, .bool x.no, .int .i64 x.val.kind, .int .i64 x.val.int, .string x.val.text, .string x.table, .string x.name, .slice a x.args.length ac, .slice s x.sub.length sc] 27))
    (ks : Keep (At (w.heap.size + 1)) W9 W') :
    Gives T w (QryQ n w) (.returned (.agg #[.bool st, vi, .string frm, .slice (some ⟨W.heap.size, 0, none⟩) 1 1])) W' := by
  obtain ⟨hL, h1, h2, h3, h4, h5, h6⟩ := q
  have z5 := (Array.getElem?_eq_some_iff.1 h5).1
  have k9 : Keep (At h) W W9 := by rw [h9]; exact ((Keep.refl (At h) W).setCell (p := ⟨h, 3, none⟩) (fun _ => rfl) _).alloc _
  have hT9 : TapeOk T W9 := hL.1.keep k9 fun k hk hh => by unfold At at hh; omega
  refine gives_set hT (hL.2.1.then k9 fun k hk hh => by unfold At at hh; omega) hT9 ks ⟨.mk st items frm [x], vi, _, rfl, ?_, ?_, ?_, hl⟩
  · have hr : ExsR (Old (h + 1)) W vi items := RowsG.rows ecStable h6
    exact ExsR.weak (fun k _ hk => by unfold Old at hk ⊢; omega) (ExsR.keep (ExsR.keep hr (k9.weak fun k _ hk => by unfold At at hk; unfold Old; omega)) (ks.weak fun k _ hk => by unfold At at hk; unfold Old; omega))
  · have hr : ExsR (Old (h + 1)) W9 (.slice (some ⟨W.heap.size, 0, none⟩) 1 1) [x] := by
      rw [h9]
      refine rows_one (R := EC _ _) x (by simp) (by unfold Old; simp; omega) rfl ?_
      exact EC.keep ((((Keep.refl (At h) W).setCell (p := ⟨h, 3, none⟩) (fun _ => rfl) _).alloc _).weak fun k _ hk => by unfold At at hk; unfold Old; omega) _ _ (EC.weak (fun k _ hk => by unfold Old at hk ⊢; omega) _ _ (exv_cs hx))
    exact ExsR.weak (fun k _ hk => by unfold Old at hk ⊢; omega) (ExsR.keep hr (ks.weak fun k _ hk => by unfold At at hk; unfold Old; omega))
  · rw [depQ_eq]
    have := depL_max hd
    show max (depL items) (depL [x]) + 1 ≤ n + 1
    rw [depL, depL]
    omega
theorem ql_cells9 {T p h : Nat} {vf vt pv vi vx : Value} {w W : World} {fs : List Frm} {st : Bool} {frm : ByteArray} {items : List Ex} {o : Obj} (q : QL T vf vt w W p h pv fs st frm vi items) (hT : T < w.heap.size) :
    ((W.setCell ⟨h, 3, none⟩ vx).alloc o).heap[h]? = some (.cells #[.bool st, vi, .string frm, vx] 37 (0, 0)) ∧ LocQ T vf vt w ((W.setCell ⟨h, 3, none⟩ vx).alloc o) := by
  obtain ⟨hL, h1, h2, h3, h4, h5, h6⟩ := q
  have z5 := (Array.getElem?_eq_some_iff.1 h5).1
  refine ⟨(heap_alloc_old _ _ (by simpa using z5)).trans (by simp [World.setCell, Array.getElem?_modify, h5]), (hL.set hT (by omega) _).alloc hT _⟩
theorem keep_set4q (S : Nat) (w : World) (a0 a1 a2 a3 : Value) : Keep (At S) w ((((w.setCell ⟨S, 0, none⟩ a0).setCell ⟨S, 1, none⟩ a1).setCell ⟨S, 2, none⟩ a2).setCell ⟨S, 3, none⟩ a3) :=
  ((((Keep.refl (At S) w).setCell (p := ⟨S, 0, none⟩) (fun _ => rfl) a0).setCell (p := ⟨S, 1, none⟩) (fun _ => rfl) a1).setCell (p := ⟨S, 2, none⟩) (fun _ => rfl) a2).setCell (p := ⟨S, 3, none⟩) (fun _ => rfl) a3
end Go.Proofs.YtppiaaolggpjdaaDoor
