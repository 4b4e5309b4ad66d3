/- An expression with a query from the tape: the contract of query, over a contract of Expr. -/
import Derived.Test.YtiheioajnfggmaaDoorD6
namespace Go.Proofs.YtiheioajnfggmaaDoor
open Go.RowKit

/-- What Expr does up to a depth. -/
def ExprOk (n : Nat) : Prop := ∀ (T : Nat) (depth want : Int) (fa ta : Option Addr) (fc tc : Nat) (look : List UInt8 → List Col) (fs : List Frm) (ss : List Sch) (w : World), depth ≤ n → -10 ≤ depth → 1 ≤ want → want ≤ 3 → TapeOk T w → WordsOk T w →
  FrmsR (At T) w (.slice fa fs.length fc) fs → SchsR (At T) w (.slice ta ss.length tc) ss → PlaceP look fs ss n →
  Calls Tryd.prog 23 #[.pointer (some ⟨T, 0, none⟩), .agg #[.slice fa fs.length fc, .slice ta ss.length tc], .int .i64 want, .int .i64 depth] w (Gives T w (ExQ (Mk ss fs want n) w))

theorem schs_at {M : Nat → Prop} {w : World} {a : Option Addr} {n c : Nat} {ss : List Sch} (h : SchsR M w (.slice a n c) ss) (hne : ss ≠ []) : ∃ b o, a = some ⟨b, o, none⟩ ∧ n = ss.length ∧ ¬ M b ∧ b < w.heap.size ∧
    ∀ (i : Nat) (s : Sch), ss[i]? = some s → ∃ vc, w.cell? ⟨b, o + i * 2, none⟩ = some (.string s.name) ∧ w.cell? ⟨b, o + i * 2 + 1, none⟩ = some vc ∧ ColsR M w vc s.cols := by
  rcases h.open with ⟨_, h⟩ | ⟨b, o, cap, hv, hbT, hbs, hl, hm, hx⟩
  · exact absurd h hne
  · simp only [Value.slice.injEq] at hv
    obtain ⟨rfl, rfl, rfl⟩ := hv
    refine ⟨b, o, rfl, rfl, hbT, hbs, fun i s hi => ?_⟩
    obtain ⟨cs, ⟨vc, rfl, hc⟩, _, hcs⟩ := hx i s hi
    exact ⟨vc, hcs.c2.1, hcs.c2.2, hc⟩

/-- The same, the columns' places as functions of the index. -/
theorem schs_fun {M : Nat → Prop} {w : World} {a : Option Addr} {n c : Nat} {ss : List Sch} (h : SchsR M w (.slice a n c) ss) (hne : ss ≠ []) : ∃ (b o : Nat) (F : Nat → Option Addr) (L G : Nat → Nat) (N : Nat → ByteArray), a = some ⟨b, o, none⟩ ∧ n = ss.length ∧ ¬ M b ∧ b < w.heap.size ∧
    (∀ i : Nat, i < ss.length → w.cell? ⟨b, o + i * 2, none⟩ = some (.string (N i))) ∧ (∀ i : Nat, i < ss.length → w.cell? ⟨b, o + i * 2 + 1, none⟩ = some (.slice (F i) (L i) (G i))) ∧
    ∀ (i : Nat) (s : Sch), ss[i]? = some s → N i = s.name ∧ L i = s.cols.length ∧ ColsR M w (.slice (F i) (L i) (G i)) s.cols := by
  obtain ⟨b, o, h1, h2, h3, h4, h5⟩ := schs_at h hne
  have hF : ∀ i : Nat, ∃ p : Option Addr × Nat, ∀ s : Sch, ss[i]? = some s → w.cell? ⟨b, o + i * 2, none⟩ = some (.string s.name) ∧ w.cell? ⟨b, o + i * 2 + 1, none⟩ = some (.slice p.1 s.cols.length p.2) ∧ ColsR M w (.slice p.1 s.cols.length p.2) s.cols := by
    intro i
    cases hs : ss[i]? with
    | none => exact ⟨(none, 0), fun s h => by cases h⟩
    | some s =>
      obtain ⟨vc, e0, e1, hc⟩ := h5 i s hs
      obtain ⟨ca, cc, rfl, _⟩ := hc.shape
      exact ⟨(ca, cc), fun s' h' => by cases h'; exact ⟨e0, e1, hc⟩⟩
  obtain ⟨f, hf⟩ := Classical.axiomOfChoice hF
  have hN : ∀ (i : Nat) (s : Sch), ss[i]? = some s → ((ss[i]?.map Sch.name).getD ⟨#[]⟩) = s.name ∧ ((ss[i]?.map fun s : Sch => s.cols.length).getD 0) = s.cols.length := fun i s hs => by rw [hs]; exact ⟨rfl, rfl⟩
  refine ⟨b, o, fun i => (f i).1, fun i => (ss[i]?.map fun s : Sch => s.cols.length).getD 0, fun i => (f i).2, fun i => (ss[i]?.map Sch.name).getD ⟨#[]⟩, h1, h2, h3, h4, fun i hi => ?_, fun i hi => ?_, fun i s hs => ⟨(hN i s hs).1, (hN i s hs).2, ?_⟩⟩
  · have hs := List.getElem?_eq_getElem hi
    simp only [(hN i _ hs).1]
    exact (hf i _ hs).1
  · have hs := List.getElem?_eq_getElem hi
    simp only [(hN i _ hs).2]
    exact (hf i _ hs).2.1
  · simp only [(hN i _ hs).2]
    exact (hf i s hs).2.2

theorem blk2_sets {w : World} {S : Nat} {a b x y : Value} {e : TypeId} (h : w.heap[S]? = some (.cells #[a, b] e (0, 0))) : ((w.setCell ⟨S, 0, none⟩ x).setCell ⟨S, 1, none⟩ y).heap[S]? = some (.cells #[x, y] e (0, 0)) := by
  simp [World.setCell, Array.getElem?_modify, h]

/-- The schema that was chosen, in a box. -/
def SchBox (T : Nat) (vf vt : Value) (ss : List Sch) (w : World) (c : Value) (wx : World) : Prop :=
  ∃ g s ca cc, c = .pointer (some ⟨g, 0, none⟩) ∧ s ∈ ss ∧ w.heap.size + 1 < g ∧ wx.heap[g]? = some (.cells #[.string s.name, .slice ca s.cols.length cc] 29 (0, 0)) ∧ ColsR (At T) wx (.slice ca s.cols.length cc) s.cols ∧ Loc T vf vt w wx

def qWant (k : Int) : Int := if k = 8 then 2 else 1

/-- Block T, and all from p on. -/
def TOr (T p k : Nat) : Prop := k = T ∨ p ≤ k

/-- The query that is being made (block h), and its place (block p). -/
def QB (T : Nat) (vf vt : Value) (w W : World) (p h : Nat) (pv : Value) (fs : List Frm) (st : Bool) (frm : ByteArray) (items whr : List Ex) : Prop :=
  Loc T vf vt w W ∧ w.heap.size + 1 < p ∧ p < h ∧ W.heap[p]? = some (.cells #[pv, vt] 57 (0, 0)) ∧ FrmsR (TOr T p) W pv fs ∧
    ∃ ia ic wa wc, W.heap[h]? = some (.cells #[.bool st, .slice ia items.length ic, .string frm, .slice wa whr.length wc] 72 (0, 0)) ∧ ExsR (Old (h + 1)) W (.slice ia items.length ic) items ∧ ExsR (Old (h + 1)) W (.slice wa whr.length wc) whr

section
variable {T p h : Nat} {vf vt pv : Value} {w W W' : World} {fs : List Frm} {st : Bool} {frm : ByteArray} {items whr : List Ex}
theorem QB.step (q : QB T vf vt w W p h pv fs st frm items whr) (hT : T < w.heap.size) (ht : TapeOk T W') (hk : Keep (At T) W W') : QB T vf vt w W' p h pv fs st frm items whr := by
  obtain ⟨hL, h1, h2, h3, h4, ia, ic, wa, wc, h5, h6, h7⟩ := q
  have hn : ∀ k, w.heap.size ≤ k → ¬ At T k := fun k hk h => by unfold At at h; omega
  refine ⟨hL.step hT ht hk, h1, h2, (hk.block _ (Array.getElem?_eq_some_iff.1 h3).1 (hn _ (by omega))).trans h3, h4.keep (hk.weak fun k _ h => .inl h), ia, ic, wa, wc, (hk.block _ (Array.getElem?_eq_some_iff.1 h5).1 (hn _ (by omega))).trans h5, h6.keep (hk.weak fun k _ h => ?_), h7.keep (hk.weak fun k _ h => ?_)⟩
  all_goals
    unfold At at h
    unfold Old
    omega

theorem qb_set (i : Nat) (u : Value) (arr : Array Value) (t : TypeId) (q : QB T vf vt w W p h pv fs st frm items whr) (hT : T < w.heap.size) :
    Loc T vf vt w ((W.setCell ⟨h, i, none⟩ u).alloc (.cells arr t)) ∧ ((W.setCell ⟨h, i, none⟩ u).alloc (.cells arr t)).heap[p]? = some (.cells #[pv, vt] 57 (0, 0)) ∧ FrmsR (TOr T p) ((W.setCell ⟨h, i, none⟩ u).alloc (.cells arr t)) pv fs ∧
      (∀ v l, ExsR (Old (h + 1)) W v l → ExsR (Old (h + 1)) ((W.setCell ⟨h, i, none⟩ u).alloc (.cells arr t)) v l) ∧ ((W.setCell ⟨h, i, none⟩ u).alloc (.cells arr t)).heap[h]? = (W.setCell ⟨h, i, none⟩ u).heap[h]? ∧
      (∀ lo e v, h < lo → ExV (Old lo) W e v → ExV (Old (h + 1)) ((W.setCell ⟨h, i, none⟩ u).alloc (.cells arr t)) e v) := by
  obtain ⟨hL, h1, h2, h3, h4, ia, ic, wa, wc, h5, h6, h7⟩ := q
  have hz := (Array.getElem?_eq_some_iff.1 h5).1
  have ks : Keep (At h) W ((W.setCell ⟨h, i, none⟩ u).alloc (.cells arr t)) := ((Keep.refl (At h) W).setCell (p := ⟨h, i, none⟩) (fun _ => rfl) u).alloc _
  refine ⟨(hL.set hT (by omega) u).alloc hT _, (ks.block _ (Array.getElem?_eq_some_iff.1 h3).1 fun h => by unfold At at h; omega).trans h3, h4.keep (ks.weak fun k _ h => .inr (by unfold At at h; omega)), fun v l hl => ExsR.keep hl (ks.weak fun k _ h => by unfold At at h; unfold Old; omega), heap_alloc_old _ _ (by simpa using hz), fun lo e v hlo hx => ?_⟩
  exact (hx.keep (ks.weak fun k _ h => by unfold At at h; unfold Old; omega)).weak fun k _ h => by unfold Old at h ⊢; omega

theorem QB.addItem {e : Ex} {lo : Nat} {a s : Option Addr} {ac sc : Nat} (q : QB T vf vt w W p h pv fs st frm [] whr) (hT : T < w.heap.size) (hx : ExV (Old lo) W e (.agg #[.int .i64 e.kind, .int .i64 e.op, .bool e.no, .int .i64 e.val.kind, .int .i64 e.val.int, .string e.val.text, .string e.table, .string e.name, .slice a e.args.length ac, .slice s e.sub.length sc])) (hlo : h < lo) :
    QB T vf vt w ((W.setCell ⟨h, 1, none⟩ (.slice (some ⟨W.heap.size, 0, none⟩) 1 1)).alloc (.cells #[.int .i64 e.kind, .int .i64 e.op, .bool e.no, .int .i64 e.val.kind, .int .i64 e.val.int, .string e.val.text, .string e.table, .string e.name, .slice a e.args.length ac, .slice s e.sub.length sc] 52)) p h pv fs st frm [e] whr := by
  obtain ⟨g1, g2, g3, g4, g5, g6⟩ := qb_set 1 (.slice (some ⟨W.heap.size, 0, none⟩) 1 1) #[.int .i64 e.kind, .int .i64 e.op, .bool e.no, .int .i64 e.val.kind, .int .i64 e.val.int, .string e.val.text, .string e.table, .string e.name, .slice a e.args.length ac, .slice s e.sub.length sc] 52 q hT
  obtain ⟨hL, h1, h2, h3, h4, ia, ic, wa, wc, h5, h6, h7⟩ := q
  have hz := (Array.getElem?_eq_some_iff.1 h5).1
  obtain ⟨cs, hcs, hec⟩ := (g6 lo e _ hlo hx).ec
  simp only [Value.agg.injEq] at hcs
  obtain rfl : cs = [.int .i64 e.kind, .int .i64 e.op, .bool e.no, .int .i64 e.val.kind, .int .i64 e.val.int, .string e.val.text, .string e.table, .string e.name, .slice a e.args.length ac, .slice s e.sub.length sc] := by simpa using (congrArg Array.toList hcs).symm
  refine ⟨g1, h1, h2, g2, g3, some ⟨W.heap.size, 0, none⟩, 1, wa, wc, g5.trans (blk4_set1 h5), ?_, g4 _ _ h7⟩
  exact rows_one (R := EC _ _) e (by simp) (old_new (by simp; omega)) (by simp) hec

theorem QB.addWhr {e : Ex} {lo : Nat} {a s : Option Addr} {ac sc : Nat} (q : QB T vf vt w W p h pv fs st frm items []) (hT : T < w.heap.size) (hx : ExV (Old lo) W e (.agg #[.int .i64 e.kind, .int .i64 e.op, .bool e.no, .int .i64 e.val.kind, .int .i64 e.val.int, .string e.val.text, .string e.table, .string e.name, .slice a e.args.length ac, .slice s e.sub.length sc])) (hlo : h < lo) :
    QB T vf vt w ((W.setCell ⟨h, 3, none⟩ (.slice (some ⟨W.heap.size, 0, none⟩) 1 1)).alloc (.cells #[.int .i64 e.kind, .int .i64 e.op, .bool e.no, .int .i64 e.val.kind, .int .i64 e.val.int, .string e.val.text, .string e.table, .string e.name, .slice a e.args.length ac, .slice s e.sub.length sc] 52)) p h pv fs st frm items [e] := by
  obtain ⟨g1, g2, g3, g4, g5, g6⟩ := qb_set 3 (.slice (some ⟨W.heap.size, 0, none⟩) 1 1) #[.int .i64 e.kind, .int .i64 e.op, .bool e.no, .int .i64 e.val.kind, .int .i64 e.val.int, .string e.val.text, .string e.table, .string e.name, .slice a e.args.length ac, .slice s e.sub.length sc] 52 q hT
  obtain ⟨hL, h1, h2, h3, h4, ia, ic, wa, wc, h5, h6, h7⟩ := q
  have hz := (Array.getElem?_eq_some_iff.1 h5).1
  obtain ⟨cs, hcs, hec⟩ := (g6 lo e _ hlo hx).ec
  simp only [Value.agg.injEq] at hcs
  obtain rfl : cs = [.int .i64 e.kind, .int .i64 e.op, .bool e.no, .int .i64 e.val.kind, .int .i64 e.val.int, .string e.val.text, .string e.table, .string e.name, .slice a e.args.length ac, .slice s e.sub.length sc] := by simpa using (congrArg Array.toList hcs).symm
  refine ⟨g1, h1, h2, g2, g3, ia, ic, some ⟨W.heap.size, 0, none⟩, 1, g5.trans (by simp [World.setCell, Array.getElem?_modify, h5]), g4 _ _ h6, ?_⟩
  exact rows_one (R := EC _ _) e (by simp) (old_new (by simp; omega)) (by simp) hec
theorem QB.loc (q : QB T vf vt w W p h pv fs st frm items whr) : Loc T vf vt w W := q.1
theorem QB.box (q : QB T vf vt w W p h pv fs st frm items whr) : W.cell? ⟨p, 0, none⟩ = some pv ∧ W.cell? ⟨p, 1, none⟩ = some vt ∧ p < W.heap.size := by
  obtain ⟨a, b, _, _, c⟩ := blk2 q.2.2.2.1
  exact ⟨a, b, c⟩
theorem QB.cells (q : QB T vf vt w W p h pv fs st frm items whr) : ∃ ia ic wa wc, W.cell? ⟨h, 0, none⟩ = some (.bool st) ∧ W.cell? ⟨h, 1, none⟩ = some (.slice ia items.length ic) ∧ W.cell? ⟨h, 2, none⟩ = some (.string frm) ∧ W.cell? ⟨h, 3, none⟩ = some (.slice wa whr.length wc) ∧
    W.frozen? ⟨h, 1, none⟩ = false ∧ W.frozen? ⟨h, 3, none⟩ = false ∧ h < W.heap.size ∧ Hid (ExsR (Old (h + 1)) W (.slice ia items.length ic) items ∧ ExsR (Old (h + 1)) W (.slice wa whr.length wc) whr) := by
  obtain ⟨hL, h1, h2, h3, h4, ia, ic, wa, wc, h5, h6, h7⟩ := q
  obtain ⟨a, b, c, d, _, f3, z⟩ := blk4 h5
  obtain ⟨_, f1⟩ := blk4f h5
  exact ⟨ia, ic, wa, wc, a, b, c, d, f1, f3, z, Lib.hid ⟨h6, h7⟩⟩
end

theorem qb_new {T : Nat} {vf vt pv : Value} {w w6 : World} {fs : List Frm} {st : Bool} {frm : ByteArray} (hT : T < w.heap.size) (hL : Loc T vf vt w w6) (hz : w.heap.size + 1 < w6.heap.size) (hf : FrmsR (At T) w6 pv fs) :
    QB T vf vt w ((w6.alloc (.cells #[pv, vt] 57)).alloc (.cells #[.bool st, .slice none 0 0, .string frm, .slice none 0 0] 72)) w6.heap.size (w6.heap.size + 1) pv fs st frm [] [] := by
  have hf' : FrmsR (TOr T w6.heap.size) w6 pv fs := hf.weak fun k hk h => h.elim id fun h => by omega
  refine ⟨(hL.alloc hT _).alloc hT _, hz, by omega, ?_, (hf'.keep ((Keep.refl _ w6).alloc _)).keep ((Keep.refl _ _).alloc _), none, 0, none, 0, heap_new1, RowsR.nil .., RowsR.nil ..⟩
  exact (heap_alloc_old _ _ (by simp)).trans (heap_alloc_new w6 _)

theorem qb_expr {n T p h : Nat} {vf : Value} {w W : World} {a6 ta : Option Addr} {c6 tc : Nat} {look : List UInt8 → List Col} {fs : List Frm} {s : Sch} {ss : List Sch} {st : Bool} {frm : ByteArray} {items whr : List Ex} (hE : ExprOk n) (hw : WordsOk T w) (hs : SchsR (At T) w (.slice ta ss.length tc) ss)
    (hP : PlaceP look (fs ++ [frmOf s]) ss n) (q : QB T vf (.slice ta ss.length tc) w W p h (.slice a6 (fs.length + 1) c6) (fs ++ [frmOf s]) st frm items whr) (dp want : Int) (h1 : dp ≤ n) (h2 : -10 ≤ dp) (h3 : 1 ≤ want) (h4 : want ≤ 3) :
    Calls Tryd.prog 23 #[.pointer (some ⟨T, 0, none⟩), .agg #[.slice a6 (fs.length + 1) c6, .slice ta ss.length tc], .int .i64 want, .int .i64 dp] W (Gives T W (ExQ (Mk ss (fs ++ [frmOf s]) want n) W)) := by
  have hl : (fs ++ [frmOf s]).length = fs.length + 1 := by simp
  have hf := q.2.2.2.2.1
  rw [← hl] at hf ⊢
  exact hE T dp want a6 ta c6 tc look _ ss W h1 h2 h3 h4 q.1.1 (hw.at q.1.2.1) (hf.weak fun k _ h => .inl h) (hs.keep q.1.2.1) hP

theorem dep_query {n : Nat} {k : Int} {st : Bool} {frm : ByteArray} {items whr : List Ex} (h1 : ∀ x ∈ items, dep x ≤ n) (h2 : ∀ x ∈ whr, dep x ≤ n) : dep (opX k 0 false [] [.mk st items frm whr]) ≤ n + 1 := by
  have hl : ∀ l : List Ex, (∀ x ∈ l, dep x ≤ n) → depL l ≤ n := by
    intro l
    induction l with
    | nil => intro _; simp [depL]
    | cons x l ih =>
      intro h
      rw [depL]
      have := h x (by simp)
      have := ih fun y hy => h y (by simp [hy])
      omega
  have a := hl items h1
  have b := hl whr h2
  simp only [opX, dep, depL, depS, depQ]
  omega

theorem qb_mk {n : Nat} {k : Int} {st : Bool} {fs : List Frm} {s : Sch} {ss : List Sch} {items whr : List Ex} (hmem : s ∈ ss) (hi : ((k = 8 ∨ k = 9) ∧ items = []) ∨ ((k = 10 ∨ k = 11 ∨ k = 12) ∧ ∃ x, items = [x] ∧ Mk ss (fs ++ [frmOf s]) 1 n x)) (hw : whr = [] ∨ ∃ x, whr = [x] ∧ Mk ss (fs ++ [frmOf s]) 2 n x) :
    Mk ss fs (qWant k) (n + 1) (opX k 0 false [] [.mk st items s.name whr]) := by
  refine ⟨dep_query (fun x hx => ?_) (fun x hx => ?_), fun ts hts => made_query k st items whr s (hts s hmem) ?_ ?_⟩
  · rcases hi with ⟨_, rfl⟩ | ⟨_, y, rfl, hy⟩
    · cases hx
    · obtain rfl := List.mem_singleton.1 hx; exact hy.1
  · rcases hw with rfl | ⟨y, rfl, hy⟩
    · cases hx
    · obtain rfl := List.mem_singleton.1 hx; exact hy.1
  · rcases hi with h | ⟨h, y, rfl, hy⟩
    · exact .inl h
    · exact .inr ⟨h, y, rfl, hy.2 ts hts⟩
  · rcases hw with rfl | ⟨y, rfl, hy⟩
    · exact .inl rfl
    · exact .inr ⟨y, rfl, hy.2 ts hts⟩

theorem qb_fin {T h : Nat} {vf vt : Value} {w W W1 : World} {k : Int} {st : Bool} {frm : ByteArray} {items whr : List Ex} {ia wa : Option Addr} {ic wc : Nat} {t : TypeId} {P : Ex → Prop} (hT : T < w.heap.size) (hL : Loc T vf vt w W) (hh : w.heap.size + 1 < h) (hx : ExsR (Old (h + 1)) W (.slice ia items.length ic) items ∧ ExsR (Old (h + 1)) W (.slice wa whr.length wc) whr)
    (hP : P (opX k 0 false [] [.mk st items frm whr])) (ks : Keep (At (w.heap.size + 1)) W W1) (hs : W1.heap.size = W.heap.size) :
    Gives T w (ExQ P w) (.returned (.agg #[.int .i64 k, .int .i64 0, .bool false, .int .i64 0, .int .i64 0, .string ⟨#[]⟩, .string ⟨#[]⟩, .string ⟨#[]⟩, .slice none 0 0, .slice (some ⟨W.heap.size, 0, none⟩) 1 1]))
      (W1.alloc (.cells #[.bool st, .slice ia items.length ic, .string frm, .slice wa whr.length wc] t)) := by
  refine ex_fin1 (e := opX k 0 false [] [.mk st items frm whr]) hT hL ks ⟨none, 0, some ⟨W.heap.size, 0, none⟩, 1, rfl, RowsR.nil .., ?_⟩ hP
  have hz : w.heap.size + 1 < W.heap.size := hL.res.2.2.2.2.2.2.2.2.2.2.2
  have up : ∀ v l, ExsR (Old (h + 1)) W v l → ExsR (Old (w.heap.size + 1 + 1)) (W1.alloc (.cells #[.bool st, .slice ia items.length ic, .string frm, .slice wa whr.length wc] t)) v l := fun v l hl =>
    ((ExsR.keep hl (ks.weak fun k _ h => by unfold At at h; unfold Old; omega)).keep ((Keep.refl _ W1).alloc _)).weak fun k _ h => by unfold Old at h ⊢; omega
  rw [← hs]
  exact rows_one (size := 4) (R := QC _ _) (Qu.mk st items frm whr) rfl (old_new (by omega)) rfl ((QC_iff ..).2 ⟨_, _, rfl, up _ _ hx.1, up _ _ hx.2⟩)



set_option maxRecDepth 100000 in
set_option maxHeartbeats 4000000 in
theorem query_any (n : Nat) (hE : ExprOk n) (T : Nat) (k depth : Int) (fa ta : Option Addr) (fc tc : Nat) (look : List UInt8 → List Col) (fs : List Frm) (ss : List Sch) (w : World) (hd : depth ≤ (n : Int) + 1) (hd0 : -5 ≤ depth) (hn : n ≤ 50) (hk8 : 8 ≤ k) (hk12 : k ≤ 12) (ht : TapeOk T w) (hw : WordsOk T w)
    (hf : FrmsR (At T) w (.slice fa fs.length fc) fs) (hs : SchsR (At T) w (.slice ta ss.length tc) ss) (hP : PlaceP look fs ss (n + 1)) :
    Calls Tryd.prog 75 #[.pointer (some ⟨T, 0, none⟩), .agg #[.slice fa fs.length fc, .slice ta ss.length tc], .int .i64 k, .int .i64 depth] w (Gives T w (ExQ (Mk ss fs (qWant k) (n + 1)) w)) := by
  obtain ⟨tb, to', F, L, G, N, rfl, _, htT, htb, hn0, hn1, hsch⟩ := schs_fun hs hP.2.2.2.2.1
  have hTw := ht.lt
  have hss : 1 ≤ ss.length := List.length_pos_iff.2 hP.2.2.2.2.1
  have hss10 : ss.length ≤ 10 := hP.2.2.2.2.2.1
  have HSCH := Lib.hid hsch
  have HN0 := Lib.hid hn0
  have HN1 := Lib.hid hn1
  have HT := Lib.hid ht
  have HW := Lib.hid hw
  have HF := Lib.hid hf
  have HS := Lib.hid hs
  have HP := Lib.hid hP
  have HE := Lib.hid hE
  clear hsch hn0 hn1 ht hw hf hs hP hE
  go_enter Tryd.func75, Tryd.ntmps75
  go_wp2_with fail
  generalize hW : ((w.alloc _).alloc _) = W0
  obtain ⟨s0, s1, hb0, hz0, hr0⟩ := world_2_10 hW
  have hp0 : W0.heap[w.heap.size]? = some (.cells #[.slice fa fs.length fc, .slice (some ⟨tb, to', none⟩) ss.length tc] 57 (0, 0)) := by rw [← hW]; exact ((Keep.refl (fun _ => False) (w.alloc _)).alloc _).block _ (by simp) id |>.trans (heap_alloc_new w _)
  clear hW
  have hL0 : Loc T (.slice fa fs.length fc) (.slice (some ⟨tb, to', none⟩) ss.length tc) w W0 := ⟨HT.out.bel hb0, .bel hb0, hp0, hr0⟩
  have HL0 := Lib.hid hL0
  have hz1 : w.heap.size < W0.heap.size := by omega
  have hz2 : w.heap.size + 1 < W0.heap.size := by omega
  have htb0 : tb < W0.heap.size := by omega
  clear hb0 hz0 hr0 hp0 hL0
  go_cut [9] (fun c wx => SchBox T (.slice fa fs.length fc) (.slice (some ⟨tb, to', none⟩) ss.length tc) ss w c wx)
  case first =>
    have HKS := Lib.hid (fun (w' : World) (h : Loc T (.slice fa fs.length fc) (.slice (some ⟨tb, to', none⟩) ss.length tc) w w') => (show w'.cell? ⟨w.heap.size, 1, none⟩ = some (.slice (some ⟨tb, to', none⟩) ss.length tc) ∧ (∀ i : Nat, i < ss.length → w'.cell? ⟨tb, to' + i * 2, none⟩ = some (.string (N i))) ∧ (∀ i : Nat, i < ss.length → w'.cell? ⟨tb, to' + i * 2 + 1, none⟩ = some (.slice (F i) (L i) (G i))) from ⟨h.place.2.1, fun i hi => (h.kept.cell htb htT).trans (HN0.out i hi), fun i hi => (h.kept.cell htb htT).trans (HN1.out i hi)⟩))
    go_region_held3 (fun w' => w'.cell? ⟨w.heap.size, 1, none⟩ = some (.slice (some ⟨tb, to', none⟩) ss.length tc) ∧ (∀ i : Nat, i < ss.length → w'.cell? ⟨tb, to' + i * 2, none⟩ = some (.string (N i))) ∧ (∀ i : Nat, i < ss.length → w'.cell? ⟨tb, to' + i * 2 + 1, none⟩ = some (.slice (F i) (L i) (G i))))
      (first | (refine HKS.out _ ?_; first | with_reducible exact HL5.out | with_reducible exact HL0.out.drew | with_reducible exact (HL0.out.alloc hTw _).drew | with_reducible exact (HL0.out.drew.alloc hTw _) | with_reducible exact HL5.out.alloc hTw _ | exact (HL5.out.set hTw (by omega) _).set hTw (by omega) _) | fail)
      ((go_at_call 21; go_loud (refine (next_any T ss.length _ (by omega) (by omega) (by first | with_reducible exact HL0.out.drew.tape | with_reducible exact (HL0.out.alloc hTw _).drew.tape | with_reducible exact (HL0.out.drew.alloc hTw _).tape)).mono ?_; rintro e w5 ⟨v, rfl, ⟨r, rfl, hr0, hr1⟩, ht5, hk5⟩; obtain ⟨i, rfl⟩ := Int.eq_ofNat_of_zero_le hr0; have hi : i < ss.length := (by omega); have hL5 : Loc T (.slice fa fs.length fc) (.slice (some ⟨tb, to', none⟩) ss.length tc) w w5 := (by first | exact HL0.out.drew.step hTw ht5 hk5 | exact (HL0.out.alloc hTw _).drew.step hTw ht5 hk5); have z5 := hk5.size; (try simp only [World.size_alloc, World.size_drew] at z5); (first | (have hx5 := ((hk5.block W0.heap.size (by simp) (fun h => by unfold At at h; omega)).trans (show _ = some (.cells #[.string ⟨#[]⟩, .slice none 0 0] 29 (0, 0)) from heap_alloc_new W0 _)); obtain ⟨x0, x1, xf0, xf1, xz⟩ := blk2 hx5; have HX5 := Lib.hid hx5; clear hx5) | skip); have HL5 := Lib.hid hL5; clear ht5 hk5 hL5)))
    all_goals go_wp2_with fail
    all_goals
      obtain ⟨en, el, hc⟩ := HSCH.out i _ (List.getElem?_eq_getElem hi)
      have hmem : ss[i] ∈ ss := List.getElem_mem hi
      generalize ss[i] = s at en el hc hmem
      rw [el] at hc
      have HC5 := Lib.hid hc
      go_meet
    · exact ⟨w5.heap.size, s, F i, G i, rfl, hmem, by omega, by rw [← en, ← el]; exact heap_alloc_new _ _, HC5.out.keep (HL5.out.alloc hTw _).kept, HL5.out.alloc hTw _⟩
    · exact ⟨W0.heap.size, s, F i, G i, rfl, hmem, by omega, by rw [← en, ← el]; exact blk2_sets HX5.out, HC5.out.keep ((HL5.out.set hTw (by omega) _).set hTw (by omega) _).kept, (HL5.out.set hTw (by omega) _).set hTw (by omega) _⟩
  case rest =>
    obtain ⟨g, s, ca, cc, rfl, hmem, hg, hgb, hc, hL⟩ := hcut
    obtain ⟨p0, p1, pz⟩ := hL.place
    obtain ⟨x0, x1, _, _, gz⟩ := blk2 hgb
    have hbx : T < wc.heap.size := Nat.lt_trans hTw pz
    have HFc := Lib.hid (HF.out.keep hL.kept)
    have HSc := Lib.hid (HS.out.keep hL.kept)
    have hP2 := HP.out.inside hmem
    have hfl : fs.length ≤ 100 := by have := HP.out.2.1; omega
    have HP2 := Lib.hid hP2
    have HC := Lib.hid hc
    have HL := Lib.hid hL
    have HGB := Lib.hid hgb
    have HMEM := Lib.hid hmem
    have HNE := Lib.hid HP.out.2.2.2.2.2.2
    clear hc hL hgb hmem hP2
    have HEX := Lib.hid (fun (W : World) (p h : Nat) (a6 : Option Addr) (c6 : Nat) (st : Bool) (frm : ByteArray) (items whr : List Ex) (q : QB T (.slice fa fs.length fc) (.slice (some ⟨tb, to', none⟩) ss.length tc) w W p h (.slice a6 (fs.length + 1) c6) (fs ++ [frmOf s]) st frm items whr) => qb_expr HE.out HW.out HS.out HP2.out q)
    clear HE HW HS HP HF HT HSCH
    by_cases hk10 : 10 ≤ k
    · go_wp2_with (go_at_call 92; go_loud (refine (inside_w (M := At T) (.slice fa fs.length fc) (.slice (some ⟨tb, to', none⟩) ss.length tc) fs s.name (.slice ca s.cols.length cc) s.cols _ _ _ _ rfl HFc.out HC.out (fun k h1 h2 => by unfold At at h2; omega) HNE.out (by omega)).mono ?_; rintro e w6 ⟨a6, c6, rfl, h6, hb6⟩; rw [show (fs ++ [Frm.mk s.name false s.cols]).length = fs.length + 1 by simp] at h6 ⊢; have HL6 := Lib.hid (HL.out.bel hTw hb6); have z6 := hb6.size; have hg6 := ((hb6.block _ gz).trans HGB.out); obtain ⟨y0, y1, yf0, yf1, yz⟩ := blk2 hg6; have HF6 := Lib.hid h6; clear h6 hb6 hg6))
      have hz6 : w.heap.size + 1 < w6.heap.size := by omega
      have HQ7 := Lib.hid (qb_new (st := (k == 8)) (frm := s.name) hTw HL6.out hz6 HF6.out)
      clear y0 y1 yf0 yf1 x0 x1 p0 p1
      generalize hW7 : ((w6.alloc _).alloc _) = W7
      rw [hW7] at HQ7
      clear hW7
      refine (HEX.out _ _ _ _ _ _ _ _ _ HQ7.out (depth - 2) 1 (by omega) (by omega) (by omega) (by omega)).mono ?_
      rintro e w8 ⟨v, rfl, ⟨x, hx, hmk⟩, ht, hk⟩
      have hx0 := hx
      obtain ⟨a1, ac1, s1, sc1, rfl, _, _⟩ := hx0
      have z8 := hk.size
      have HQ8 := Lib.hid (HQ7.out.step hTw ht hk)
      obtain ⟨i8, ic8, wa8, wc8, c80, c81, c82, c83, f81, f83, z8h, _⟩ := HQ8.out.cells
      have HXX := Lib.hid hx
      have HMK := Lib.hid hmk
      clear hx hmk ht hk
      dsimp only
      go_wp2_with fail
      have hlo : w6.heap.size + 1 < W7.heap.size := by obtain ⟨_, _, _, _, _, _, _, _, _, _, h, _⟩ := HQ7.out.cells; exact h
      have HQ9 := Lib.hid (HQ8.out.addItem hTw HXX.out hlo)
      clear c80 c81 c82 c83 f81 f83
      generalize hW9 : ((w8.setCell _ _).alloc _) = W9
      rw [hW9] at HQ9
      clear hW9
      have hi : ((k = 8 ∨ k = 9) ∧ [x] = []) ∨ ((k = 10 ∨ k = 11 ∨ k = 12) ∧ ∃ y, [x] = [y] ∧ Mk ss (fs ++ [frmOf s]) 1 n y) := .inr ⟨by omega, x, rfl, HMK.out⟩
      have HI := Lib.hid hi
      clear hi
      go_upto_region 8 with (first
        | (go_at_call 62; go_loud (refine (bool_any T 3 _ (by omega) (by omega) HQ9.out.loc.tape).mono ?_; rintro e w10 ⟨v, rfl, ⟨b, rfl⟩, ht, hk⟩; have HQ10 := Lib.hid (HQ9.out.step hTw ht hk); obtain ⟨b0, b1, bz⟩ := HQ10.out.box; clear ht hk; cases b))
        | (go_at_call 23; go_loud (refine (HEX.out _ _ _ _ _ _ _ _ _ HQ10.out (depth - 1) 2 (by omega) (by omega) (by omega) (by omega)).mono ?_; rintro e w11 ⟨v, rfl, ⟨x2, hx2, hmk2⟩, ht, hk⟩; have hx0 := hx2; obtain ⟨a2, ac2, s2, sc2, rfl, _, _⟩ := hx0; have HQ11 := Lib.hid (HQ10.out.step hTw ht hk); obtain ⟨i11, ic11, wa11, wc11, c0, c1, c2, c3, f1, f3, zh, _⟩ := HQ11.out.cells; have HX2 := Lib.hid hx2; have HMK2 := Lib.hid hmk2; clear hx2 hmk2 ht hk)))
      · have hlo2 : w6.heap.size + 1 < w10.heap.size := by obtain ⟨_, _, _, _, _, _, _, _, _, _, h, _⟩ := HQ10.out.cells; exact h
        have HQ12 := Lib.hid (HQ11.out.addWhr hTw HX2.out hlo2)
        clear c0 c1 c2 c3 f1 f3
        generalize hW12 : ((w11.setCell _ _).alloc _) = W12
        rw [hW12] at HQ12
        clear hW12
        have HM := Lib.hid (qb_mk (n := n) (k := k) (st := (k == 8)) (fs := fs) HMEM.out HI.out (.inr ⟨x2, rfl, HMK2.out⟩))
        obtain ⟨ia, ic, wa, wc', d0, d1, d2, d3, _, _, dz, dx⟩ := HQ12.out.cells
        obtain ⟨r0, r1, r2, r3, r4, r5, r6, r7, r8, r9, rf, rz⟩ := HQ12.out.loc.res
        repeat (first | go_values | go_skip | go_guarded | go_step | go_upon)
        refine bodyPost_ret (v := .agg #[.int .i64 k, .int .i64 0, .bool false, .int .i64 0, .int .i64 0, .string ⟨#[]⟩, .string ⟨#[]⟩, .string ⟨#[]⟩, .slice none 0 0, .slice (some ⟨W12.heap.size, 0, none⟩) 1 1]) (by simp [results, Tryd.results75, go_sem, r0, r1, r2, r3, r4, r5, r6, r7, r8, r9, rz]) rfl ?_
        have FIN := @qb_fin T (w6.heap.size + 1) (.slice fa fs.length fc) (.slice (some ⟨tb, to', none⟩) ss.length tc) w W12 _ k (k == 8) s.name [x] [x2] ia wa ic wc' 72 _ hTw HQ12.out.loc (by omega) dx.out HM.out (keep_set10 _ _ (.int .i64 k) (.int .i64 0) (.bool false) (.int .i64 0) (.int .i64 0) (.string ⟨#[]⟩) (.string ⟨#[]⟩) (.string ⟨#[]⟩) (.slice none 0 0) (.slice (some ⟨W12.heap.size, 0, none⟩) 1 1)) (by simp)
        exact FIN
      · have HM := Lib.hid (qb_mk (n := n) (k := k) (st := (k == 8)) (fs := fs) HMEM.out HI.out (.inl rfl))
        obtain ⟨ia, ic, wa, wc', d0, d1, d2, d3, _, _, dz, dx⟩ := HQ10.out.cells
        obtain ⟨r0, r1, r2, r3, r4, r5, r6, r7, r8, r9, rf, rz⟩ := HQ10.out.loc.res
        repeat (first | go_values | go_skip | go_guarded | go_step | go_upon)
        refine bodyPost_ret (v := .agg #[.int .i64 k, .int .i64 0, .bool false, .int .i64 0, .int .i64 0, .string ⟨#[]⟩, .string ⟨#[]⟩, .string ⟨#[]⟩, .slice none 0 0, .slice (some ⟨w10.heap.size, 0, none⟩) 1 1]) (by simp [results, Tryd.results75, go_sem, r0, r1, r2, r3, r4, r5, r6, r7, r8, r9, rz]) rfl ?_
        have FIN := @qb_fin T (w6.heap.size + 1) (.slice fa fs.length fc) (.slice (some ⟨tb, to', none⟩) ss.length tc) w w10 _ k (k == 8) s.name [x] [] ia wa ic wc' 72 _ hTw HQ10.out.loc (by omega) dx.out HM.out (keep_set10 _ _ (.int .i64 k) (.int .i64 0) (.bool false) (.int .i64 0) (.int .i64 0) (.string ⟨#[]⟩) (.string ⟨#[]⟩) (.string ⟨#[]⟩) (.slice none 0 0) (.slice (some ⟨w10.heap.size, 0, none⟩) 1 1)) (by simp)
        exact FIN
    · go_wp2_with (go_at_call 92; go_loud (refine (inside_w (M := At T) (.slice fa fs.length fc) (.slice (some ⟨tb, to', none⟩) ss.length tc) fs s.name (.slice ca s.cols.length cc) s.cols _ _ _ _ rfl HFc.out HC.out (fun k h1 h2 => by unfold At at h2; omega) HNE.out (by omega)).mono ?_; rintro e w6 ⟨a6, c6, rfl, h6, hb6⟩; rw [show (fs ++ [Frm.mk s.name false s.cols]).length = fs.length + 1 by simp] at h6 ⊢; have HL6 := Lib.hid (HL.out.bel hTw hb6); have z6 := hb6.size; have hg6 := ((hb6.block _ gz).trans HGB.out); obtain ⟨y0, y1, yf0, yf1, yz⟩ := blk2 hg6; have HF6 := Lib.hid h6; clear h6 hb6 hg6))
      have hz6 : w.heap.size + 1 < w6.heap.size := by omega
      have HQ7 := Lib.hid (qb_new (st := (k == 8)) (frm := s.name) hTw HL6.out hz6 HF6.out)
      clear y0 y1 yf0 yf1 x0 x1 p0 p1
      generalize hW7 : ((w6.alloc _).alloc _) = W7
      rw [hW7] at HQ7
      clear hW7
      go_upto_region 8 with (first
        | (go_at_call 62; go_loud (refine (bool_any T 3 _ (by omega) (by omega) HQ7.out.loc.tape).mono ?_; rintro e w10 ⟨v, rfl, ⟨b, rfl⟩, ht, hk⟩; have HQ10 := Lib.hid (HQ7.out.step hTw ht hk); obtain ⟨b0, b1, bz⟩ := HQ10.out.box; clear ht hk; cases b))
        | (go_at_call 23; go_loud (refine (HEX.out _ _ _ _ _ _ _ _ _ HQ10.out (depth - 1) 2 (by omega) (by omega) (by omega) (by omega)).mono ?_; rintro e w11 ⟨v, rfl, ⟨x2, hx2, hmk2⟩, ht, hk⟩; have hx0 := hx2; obtain ⟨a2, ac2, s2, sc2, rfl, _, _⟩ := hx0; have HQ11 := Lib.hid (HQ10.out.step hTw ht hk); obtain ⟨i11, ic11, wa11, wc11, c0, c1, c2, c3, f1, f3, zh, _⟩ := HQ11.out.cells; have HX2 := Lib.hid hx2; have HMK2 := Lib.hid hmk2; clear hx2 hmk2 ht hk)))
      · have hlo2 : w6.heap.size + 1 < w10.heap.size := by obtain ⟨_, _, _, _, _, _, _, _, _, _, h, _⟩ := HQ10.out.cells; exact h
        have HQ12 := Lib.hid (HQ11.out.addWhr hTw HX2.out hlo2)
        clear c0 c1 c2 c3 f1 f3
        generalize hW12 : ((w11.setCell _ _).alloc _) = W12
        rw [hW12] at HQ12
        clear hW12
        have HM := Lib.hid (qb_mk (n := n) (k := k) (st := (k == 8)) (fs := fs) HMEM.out (.inl ⟨by omega, rfl⟩) (.inr ⟨x2, rfl, HMK2.out⟩))
        obtain ⟨ia, ic, wa, wc', d0, d1, d2, d3, _, _, dz, dx⟩ := HQ12.out.cells
        obtain ⟨r0, r1, r2, r3, r4, r5, r6, r7, r8, r9, rf, rz⟩ := HQ12.out.loc.res
        repeat (first | go_values | go_skip | go_guarded | go_step | go_upon)
        refine bodyPost_ret (v := .agg #[.int .i64 k, .int .i64 0, .bool false, .int .i64 0, .int .i64 0, .string ⟨#[]⟩, .string ⟨#[]⟩, .string ⟨#[]⟩, .slice none 0 0, .slice (some ⟨W12.heap.size, 0, none⟩) 1 1]) (by simp [results, Tryd.results75, go_sem, r0, r1, r2, r3, r4, r5, r6, r7, r8, r9, rz]) rfl ?_
        have FIN := @qb_fin T (w6.heap.size + 1) (.slice fa fs.length fc) (.slice (some ⟨tb, to', none⟩) ss.length tc) w W12 _ k (k == 8) s.name [] [x2] ia wa ic wc' 72 _ hTw HQ12.out.loc (by omega) dx.out HM.out (keep_set10 _ _ (.int .i64 k) (.int .i64 0) (.bool false) (.int .i64 0) (.int .i64 0) (.string ⟨#[]⟩) (.string ⟨#[]⟩) (.string ⟨#[]⟩) (.slice none 0 0) (.slice (some ⟨W12.heap.size, 0, none⟩) 1 1)) (by simp)
        exact FIN
      · have HM := Lib.hid (qb_mk (n := n) (k := k) (st := (k == 8)) (fs := fs) HMEM.out (.inl ⟨by omega, rfl⟩) (.inl rfl))
        obtain ⟨ia, ic, wa, wc', d0, d1, d2, d3, _, _, dz, dx⟩ := HQ10.out.cells
        obtain ⟨r0, r1, r2, r3, r4, r5, r6, r7, r8, r9, rf, rz⟩ := HQ10.out.loc.res
        repeat (first | go_values | go_skip | go_guarded | go_step | go_upon)
        refine bodyPost_ret (v := .agg #[.int .i64 k, .int .i64 0, .bool false, .int .i64 0, .int .i64 0, .string ⟨#[]⟩, .string ⟨#[]⟩, .string ⟨#[]⟩, .slice none 0 0, .slice (some ⟨w10.heap.size, 0, none⟩) 1 1]) (by simp [results, Tryd.results75, go_sem, r0, r1, r2, r3, r4, r5, r6, r7, r8, r9, rz]) rfl ?_
        have FIN := @qb_fin T (w6.heap.size + 1) (.slice fa fs.length fc) (.slice (some ⟨tb, to', none⟩) ss.length tc) w w10 _ k (k == 8) s.name [] [] ia wa ic wc' 72 _ hTw HQ10.out.loc (by omega) dx.out HM.out (keep_set10 _ _ (.int .i64 k) (.int .i64 0) (.bool false) (.int .i64 0) (.int .i64 0) (.string ⟨#[]⟩) (.string ⟨#[]⟩) (.string ⟨#[]⟩) (.slice none 0 0) (.slice (some ⟨w10.heap.size, 0, none⟩) 1 1)) (by simp)
        exact FIN

end Go.Proofs.YtiheioajnfggmaaDoor
