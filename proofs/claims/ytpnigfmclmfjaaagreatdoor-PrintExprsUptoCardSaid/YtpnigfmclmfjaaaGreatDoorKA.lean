/- What AnyExpr has laid in memory on its way: the result's cells, the expression, its query. Any well-formed expression from the tape: the contract of AnyExpr. -/
import Derived.Test.YtpnigfmclmfjaaaGreatDoorKD2
import Derived.Test.YtpnigfmclmfjaaaGreatDoorKC4
import Derived.Test.YtpnigfmclmfjaaaGreatDoorKL
import Derived.Test.YtpnigfmclmfjaaaGreatDoorD8
import Derived.Test.YtpnigfmclmfjaaaGreatDoorKV2b
namespace Go.Proofs.YtpnigfmclmfjaaaGreatDoor
open Go.RowKit

theorem gives_set0 {T : Nat} {w w5 W' : World} {Q : Value → World → Prop} {v : Value} (hT : T < w.heap.size) (k5 : Keep (At T) w w5) (ht : TapeOk T w5) (ks : Keep (At w.heap.size) w5 W') (hq : Q v W') : Gives T w Q (.returned v) W' :=
  ⟨v, rfl, hq, ht.keep ks fun k hk h => by unfold At at h; omega, k5.then ks fun k hk h => by unfold At at h; omega⟩

/-- The result's cells, behind tape calls. -/
def ResA (T : Nat) (w wi : World) : Prop :=
  TapeOk T wi ∧ Keep (At T) w wi ∧ wi.heap[w.heap.size]? = some (.cells #[.int .i64 0, .int .i64 0, .bool false, .int .i64 0, .int .i64 0, .string ⟨#[]⟩, .string ⟨#[]⟩, .string ⟨#[]⟩, .slice none 0 0, .slice none 0 0] 57 (0, 0))

section
variable {T : Nat} {w wi wj : World}
theorem ResA.step (h : ResA T w wi) (hT : T < w.heap.size) (ht : TapeOk T wj) (hk : Keep (At T) wi wj) : ResA T w wj :=
  ⟨ht, h.2.1.trans hk, (hk.block _ (Array.getElem?_eq_some_iff.1 h.2.2).1 fun h => by unfold At at h; omega).trans h.2.2⟩
theorem ResA.bel (h : ResA T w wi) (hT : T < w.heap.size) (hb : Below wi.heap.size wi wj) : ResA T w wj := h.step hT (h.1.bel hb) (.bel hb)
theorem ResA.alloc (h : ResA T w wi) (hT : T < w.heap.size) (o : Obj) : ResA T w (wi.alloc o) := h.bel hT ((Below.refl _ _).alloc (Nat.le_refl _) o)
theorem ResA.drew (h : ResA T w wi) : ResA T w wi.drew := ⟨h.1, h.2.1.drew, h.2.2⟩
theorem ResA.then {M : Nat → Prop} (h : ResA T w wi) (hT : T < w.heap.size) (k : Keep M wi wj) (hM : ∀ i, i ≤ w.heap.size → ¬ M i) : ResA T w wj :=
  ⟨h.1.keep k fun i hi => hM i (by omega), h.2.1.then k fun i hi hh => absurd hh (hM i (by omega)), (k.block _ (Array.getElem?_eq_some_iff.1 h.2.2).1 (hM _ (Nat.le_refl _))).trans h.2.2⟩
theorem ResA.tape (h : ResA T w wi) : TapeOk T wi := h.1
theorem ResA.kept (h : ResA T w wi) : Keep (At T) w wi := h.2.1
theorem ResA.lt (h : ResA T w wi) : w.heap.size < wi.heap.size := (Array.getElem?_eq_some_iff.1 h.2.2).1
theorem ResA.res (h : ResA T w wi) : wi.cell? ⟨w.heap.size, 0, none⟩ = some (.int .i64 0) ∧ wi.cell? ⟨w.heap.size, 1, none⟩ = some (.int .i64 0) ∧ wi.cell? ⟨w.heap.size, 2, none⟩ = some (.bool false) ∧ wi.cell? ⟨w.heap.size, 3, none⟩ = some (.int .i64 0) ∧ wi.cell? ⟨w.heap.size, 4, none⟩ = some (.int .i64 0) ∧
    wi.cell? ⟨w.heap.size, 5, none⟩ = some (.string ⟨#[]⟩) ∧ wi.cell? ⟨w.heap.size, 6, none⟩ = some (.string ⟨#[]⟩) ∧ wi.cell? ⟨w.heap.size, 7, none⟩ = some (.string ⟨#[]⟩) ∧ wi.cell? ⟨w.heap.size, 8, none⟩ = some (.slice none 0 0) ∧ wi.cell? ⟨w.heap.size, 9, none⟩ = some (.slice none 0 0) ∧
    (∀ i, wi.frozen? ⟨w.heap.size, i, none⟩ = false) ∧ w.heap.size < wi.heap.size := blk10 h.2.2
end

/-- The call's end: the expression stored into the result's cells. -/
theorem resA_fin {T lo : Nat} {v : Value} {w wk W' : World} {e : Ex} {P : Ex → Prop} (hT : T < w.heap.size) (L : ResA T w wk) (hx : ExV (Old lo) wk e v) (hlo : w.heap.size < lo) (ks : Keep (At w.heap.size) wk W') (hP : P e) : Gives T w (ExQ P w) (.returned v) W' := by
  refine gives_set0 hT L.2.1 L.1 ks ⟨e, (hx.keep (ks.weak fun k _ h => ?_)).weak fun k _ h => ?_, hP⟩
  · unfold At at h; unfold Old; omega
  · unfold Old at h ⊢; omega

/-- The expression in block p. -/
def EA (T : Nat) (w W : World) (p : Nat) (k o : Int) (no : Bool) (va vs : Value) : Prop :=
  ResA T w W ∧ w.heap.size < p ∧ W.heap[p]? = some (.cells #[.int .i64 k, .int .i64 o, .bool no, .int .i64 0, .int .i64 0, .string ⟨#[]⟩, .string ⟨#[]⟩, .string ⟨#[]⟩, va, vs] 57 (0, 0))

section
variable {T p : Nat} {w W W' : World} {k o : Int} {no : Bool} {va vs : Value}
theorem EA.then {M : Nat → Prop} (h : EA T w W p k o no va vs) (hT : T < w.heap.size) (kp : Keep M W W') (hM : ∀ i, i ≤ p → ¬ M i) : EA T w W' p k o no va vs :=
  ⟨h.1.then hT kp fun i hi => hM i (by have := h.2.1; omega), h.2.1, (kp.block _ (Array.getElem?_eq_some_iff.1 h.2.2).1 (hM _ (Nat.le_refl _))).trans h.2.2⟩
theorem EA.step (h : EA T w W p k o no va vs) (hT : T < w.heap.size) (ht : TapeOk T W') (hk : Keep (At T) W W') : EA T w W' p k o no va vs :=
  ⟨h.1.step hT ht hk, h.2.1, (hk.block _ (Array.getElem?_eq_some_iff.1 h.2.2).1 fun hh => by unfold At at hh; have := h.2.1; omega).trans h.2.2⟩
theorem EA.drew (h : EA T w W p k o no va vs) : EA T w W.drew p k o no va vs := ⟨h.1.drew, h.2⟩
theorem EA.alloc (h : EA T w W p k o no va vs) (hT : T < w.heap.size) (ob : Obj) : EA T w (W.alloc ob) p k o no va vs := h.then hT (M := fun _ => False) ((Keep.refl _ W).alloc ob) fun _ _ => id
theorem EA.cells (h : EA T w W p k o no va vs) : W.cell? ⟨p, 0, none⟩ = some (.int .i64 k) ∧ W.cell? ⟨p, 1, none⟩ = some (.int .i64 o) ∧ W.cell? ⟨p, 2, none⟩ = some (.bool no) ∧ W.cell? ⟨p, 3, none⟩ = some (.int .i64 0) ∧ W.cell? ⟨p, 4, none⟩ = some (.int .i64 0) ∧
    W.cell? ⟨p, 5, none⟩ = some (.string ⟨#[]⟩) ∧ W.cell? ⟨p, 6, none⟩ = some (.string ⟨#[]⟩) ∧ W.cell? ⟨p, 7, none⟩ = some (.string ⟨#[]⟩) ∧ W.cell? ⟨p, 8, none⟩ = some va ∧ W.cell? ⟨p, 9, none⟩ = some vs ∧ (∀ i, W.frozen? ⟨p, i, none⟩ = false) ∧ p < W.heap.size := blk10 h.2.2
/-- A field is stored. -/
theorem EA.keepSet (h : EA T w W p k o no va vs) (hT : T < w.heap.size) (i : Nat) (u : Value) : ResA T w (W.setCell ⟨p, i, none⟩ u) :=
  h.1.then hT ((Keep.refl (At p) W).setCell (p := ⟨p, i, none⟩) (fun _ => rfl) u) fun j hj hh => by unfold At at hh; have := h.2.1; omega
theorem EA.set1 (h : EA T w W p k o no va vs) (hT : T < w.heap.size) (u : Int) : EA T w (W.setCell ⟨p, 1, none⟩ (.int .i64 u)) p k u no va vs :=
  ⟨h.keepSet hT 1 _, h.2.1, by simp [World.setCell, Array.getElem?_modify, h.2.2]⟩
theorem EA.set2 (h : EA T w W p k o no va vs) (hT : T < w.heap.size) (u : Bool) : EA T w (W.setCell ⟨p, 2, none⟩ (.bool u)) p k o u va vs :=
  ⟨h.keepSet hT 2 _, h.2.1, by simp [World.setCell, Array.getElem?_modify, h.2.2]⟩
theorem EA.set8 (h : EA T w W p k o no va vs) (hT : T < w.heap.size) (u : Value) : EA T w (W.setCell ⟨p, 8, none⟩ u) p k o no u vs :=
  ⟨h.keepSet hT 8 _, h.2.1, by simp [World.setCell, Array.getElem?_modify, h.2.2]⟩
theorem EA.set9 (h : EA T w W p k o no va vs) (hT : T < w.heap.size) (u : Value) : EA T w (W.setCell ⟨p, 9, none⟩ u) p k o no va u :=
  ⟨h.keepSet hT 9 _, h.2.1, by simp [World.setCell, Array.getElem?_modify, h.2.2]⟩
end

/-- Its query in block h. -/
def QA (T : Nat) (w W : World) (p h : Nat) (k : Int) (st : Bool) (frm : ByteArray) (items whr : List Ex) : Prop :=
  EA T w W p k 0 false (.slice none 0 0) (.slice none 0 0) ∧ p < h ∧
    ∃ ia ic wa wc, W.heap[h]? = some (.cells #[.bool st, .slice ia items.length ic, .string frm, .slice wa whr.length wc] 32 (0, 0)) ∧ ExsR (Old (h + 1)) W (.slice ia items.length ic) items ∧ ExsR (Old (h + 1)) W (.slice wa whr.length wc) whr

section
variable {T p h : Nat} {w W W' : World} {k : Int} {st : Bool} {frm : ByteArray} {items whr : List Ex}
theorem QA.step (q : QA T w W p h k st frm items whr) (hT : T < w.heap.size) (ht : TapeOk T W') (hk : Keep (At T) W W') : QA T w W' p h k st frm items whr := by
  obtain ⟨hL, h1, ia, ic, wa, wc, h5, h6, h7⟩ := q
  have hp := hL.2.1
  refine ⟨hL.step hT ht hk, h1, ia, ic, wa, wc, (hk.block _ (Array.getElem?_eq_some_iff.1 h5).1 (fun h => by unfold At at h; omega)).trans h5, h6.keep (hk.weak fun k _ h => ?_), h7.keep (hk.weak fun k _ h => ?_)⟩
  all_goals
    unfold At at h
    unfold Old
    omega

theorem qa_set (i : Nat) (u : Value) (arr : Array Value) (t : TypeId) (q : QA T w W p h k st frm items whr) (hT : T < w.heap.size) :
    EA T w ((W.setCell ⟨h, i, none⟩ u).alloc (.cells arr t)) p k 0 false (.slice none 0 0) (.slice none 0 0) ∧
      (∀ v l, ExsR (Old (h + 1)) W v l → ExsR (Old (h + 1)) ((W.setCell ⟨h, i, none⟩ u).alloc (.cells arr t)) v l) ∧ ((W.setCell ⟨h, i, none⟩ u).alloc (.cells arr t)).heap[h]? = (W.setCell ⟨h, i, none⟩ u).heap[h]? ∧
      (∀ lo e v, h < lo → ExV (Old lo) W e v → ExV (Old (h + 1)) ((W.setCell ⟨h, i, none⟩ u).alloc (.cells arr t)) e v) := by
  obtain ⟨hL, h1, ia, ic, wa, wc, h5, h6, h7⟩ := q
  have hz := (Array.getElem?_eq_some_iff.1 h5).1
  have ks : Keep (At h) W ((W.setCell ⟨h, i, none⟩ u).alloc (.cells arr t)) := ((Keep.refl (At h) W).setCell (p := ⟨h, i, none⟩) (fun _ => rfl) u).alloc _
  refine ⟨hL.then hT ks fun j hj hh => by unfold At at hh; omega, fun v l hl => ExsR.keep hl (ks.weak fun k _ h => by unfold At at h; unfold Old; omega), heap_alloc_old _ _ (by simpa using hz), fun lo e v hlo hx => ?_⟩
  exact (hx.keep (ks.weak fun k _ h => by unfold At at h; unfold Old; omega)).weak fun k _ h => by unfold Old at h ⊢; omega

theorem exv_list {lo : Nat} {W : World} {e : Ex} {a s : Option Addr} {ac sc : Nat} (h : ExV (Old lo) W e (.agg #[.int .i64 e.kind, .int .i64 e.op, .bool e.no, .int .i64 e.val.kind, .int .i64 e.val.int, .string e.val.text, .string e.table, .string e.name, .slice a e.args.length ac, .slice s e.sub.length sc])) :
    EC (Old lo) W e [.int .i64 e.kind, .int .i64 e.op, .bool e.no, .int .i64 e.val.kind, .int .i64 e.val.int, .string e.val.text, .string e.table, .string e.name, .slice a e.args.length ac, .slice s e.sub.length sc] := by
  obtain ⟨cs, hcs, hec⟩ := h.ec
  simp only [Value.agg.injEq] at hcs
  obtain rfl : cs = [.int .i64 e.kind, .int .i64 e.op, .bool e.no, .int .i64 e.val.kind, .int .i64 e.val.int, .string e.val.text, .string e.table, .string e.name, .slice a e.args.length ac, .slice s e.sub.length sc] := by simpa using (congrArg Array.toList hcs).symm
  exact hec

theorem QA.addItem {e : Ex} {lo : Nat} {a s : Option Addr} {ac sc : Nat} (q : QA T w W p h k st frm [] whr) (hT : T < w.heap.size) (hx : ExV (Old lo) W e (.agg #[.int .i64 e.kind, .int .i64 e.op, .bool e.no, .int .i64 e.val.kind, .int .i64 e.val.int, .string e.val.text, .string e.table, .string e.name, .slice a e.args.length ac, .slice s e.sub.length sc])) (hlo : h < lo) :
    QA T w ((W.setCell ⟨h, 1, none⟩ (.slice (some ⟨W.heap.size, 0, none⟩) 1 1)).alloc (.cells #[.int .i64 e.kind, .int .i64 e.op, .bool e.no, .int .i64 e.val.kind, .int .i64 e.val.int, .string e.val.text, .string e.table, .string e.name, .slice a e.args.length ac, .slice s e.sub.length sc] 57)) p h k st frm [e] whr := by
  obtain ⟨g1, g4, g5, g6⟩ := qa_set 1 (.slice (some ⟨W.heap.size, 0, none⟩) 1 1) #[.int .i64 e.kind, .int .i64 e.op, .bool e.no, .int .i64 e.val.kind, .int .i64 e.val.int, .string e.val.text, .string e.table, .string e.name, .slice a e.args.length ac, .slice s e.sub.length sc] 57 q hT
  obtain ⟨hL, h1, ia, ic, wa, wc, h5, h6, h7⟩ := q
  have hz := (Array.getElem?_eq_some_iff.1 h5).1
  have hec := exv_list (g6 lo e _ hlo hx)
  refine ⟨g1, h1, some ⟨W.heap.size, 0, none⟩, 1, wa, wc, g5.trans (blk4_set1 h5), ?_, g4 _ _ h7⟩
  exact rows_one (R := EC _ _) e (by simp) (old_new (by simp; omega)) (by simp) hec

theorem QA.addWhr {e : Ex} {lo : Nat} {a s : Option Addr} {ac sc : Nat} (q : QA T w W p h k st frm items []) (hT : T < w.heap.size) (hx : ExV (Old lo) W e (.agg #[.int .i64 e.kind, .int .i64 e.op, .bool e.no, .int .i64 e.val.kind, .int .i64 e.val.int, .string e.val.text, .string e.table, .string e.name, .slice a e.args.length ac, .slice s e.sub.length sc])) (hlo : h < lo) :
    QA T w ((W.setCell ⟨h, 3, none⟩ (.slice (some ⟨W.heap.size, 0, none⟩) 1 1)).alloc (.cells #[.int .i64 e.kind, .int .i64 e.op, .bool e.no, .int .i64 e.val.kind, .int .i64 e.val.int, .string e.val.text, .string e.table, .string e.name, .slice a e.args.length ac, .slice s e.sub.length sc] 57)) p h k st frm items [e] := by
  obtain ⟨g1, g4, g5, g6⟩ := qa_set 3 (.slice (some ⟨W.heap.size, 0, none⟩) 1 1) #[.int .i64 e.kind, .int .i64 e.op, .bool e.no, .int .i64 e.val.kind, .int .i64 e.val.int, .string e.val.text, .string e.table, .string e.name, .slice a e.args.length ac, .slice s e.sub.length sc] 57 q hT
  obtain ⟨hL, h1, ia, ic, wa, wc, h5, h6, h7⟩ := q
  have hz := (Array.getElem?_eq_some_iff.1 h5).1
  have hec := exv_list (g6 lo e _ hlo hx)
  refine ⟨g1, h1, ia, ic, some ⟨W.heap.size, 0, none⟩, 1, g5.trans (by simp [World.setCell, Array.getElem?_modify, h5]), g4 _ _ h6, ?_⟩
  exact rows_one (R := EC _ _) e (by simp) (old_new (by simp; omega)) (by simp) hec
theorem QA.tape (q : QA T w W p h k st frm items whr) : TapeOk T W := q.1.1.1
theorem QA.cells (q : QA T w W p h k st frm items whr) : ∃ ia ic wa wc, W.cell? ⟨h, 0, none⟩ = some (.bool st) ∧ W.cell? ⟨h, 1, none⟩ = some (.slice ia items.length ic) ∧ W.cell? ⟨h, 2, none⟩ = some (.string frm) ∧ W.cell? ⟨h, 3, none⟩ = some (.slice wa whr.length wc) ∧
    W.frozen? ⟨h, 1, none⟩ = false ∧ W.frozen? ⟨h, 3, none⟩ = false ∧ h < W.heap.size ∧ Hid (ExsR (Old (h + 1)) W (.slice ia items.length ic) items ∧ ExsR (Old (h + 1)) W (.slice wa whr.length wc) whr) := by
  obtain ⟨hL, h1, ia, ic, wa, wc, h5, h6, h7⟩ := q
  obtain ⟨a, b, c, d, _, f3, z⟩ := blk4 h5
  obtain ⟨_, f1⟩ := blk4f h5
  exact ⟨ia, ic, wa, wc, a, b, c, d, f1, f3, z, Lib.hid ⟨h6, h7⟩⟩
/-- The query is laid into the expression. -/
theorem QA.close {ia wa : Option Addr} {ic wc : Nat} (q : QA T w W p h k st frm items whr) (hT : T < w.heap.size) (hx : ExsR (Old (h + 1)) W (.slice ia items.length ic) items ∧ ExsR (Old (h + 1)) W (.slice wa whr.length wc) whr) :
    let W1 := (W.setCell ⟨p, 9, none⟩ (.slice (some ⟨W.heap.size, 0, none⟩) 1 1)).alloc (.cells #[.bool st, .slice ia items.length ic, .string frm, .slice wa whr.length wc] 32)
    EA T w W1 p k 0 false (.slice none 0 0) (.slice (some ⟨W.heap.size, 0, none⟩) 1 1) ∧ QusR (Old (p + 1)) W1 (.slice (some ⟨W.heap.size, 0, none⟩) 1 1) [.mk st items frm whr] := by
  obtain ⟨hL, h1, _, _, _, _, h5, _, _⟩ := q
  have hz := (Array.getElem?_eq_some_iff.1 h5).1
  have ks : Keep (At p) W ((W.setCell ⟨p, 9, none⟩ (.slice (some ⟨W.heap.size, 0, none⟩) 1 1)).alloc (.cells #[.bool st, .slice ia items.length ic, .string frm, .slice wa whr.length wc] 32)) := ((Keep.refl (At p) W).setCell (p := ⟨p, 9, none⟩) (fun _ => rfl) _).alloc _
  have up : ∀ v l, ExsR (Old (h + 1)) W v l → ExsR (Old (p + 1)) ((W.setCell ⟨p, 9, none⟩ (.slice (some ⟨W.heap.size, 0, none⟩) 1 1)).alloc (.cells #[.bool st, .slice ia items.length ic, .string frm, .slice wa whr.length wc] 32)) v l := fun v l hl =>
    (ExsR.keep hl (ks.weak fun k _ h => by unfold At at h; unfold Old; omega)).weak fun k _ h => by unfold Old at h ⊢; omega
  refine ⟨(hL.set9 hT _).alloc hT _, ?_⟩
  exact rows_one (size := 4) (R := QC _ _) (Qu.mk st items frm whr) (by simp) (old_new (by simp; omega)) rfl ((QC_iff ..).2 ⟨_, _, rfl, up _ _ hx.1, up _ _ hx.2⟩)
end
end Go.Proofs.YtpnigfmclmfjaaaGreatDoor

namespace Go.Proofs.YtpnigfmclmfjaaaGreatDoor
open Go.RowKit

def AnyOk (n : Nat) : Prop := ∀ (T : Nat) (depth : Int) (w : World), depth ≤ n → -10 ≤ depth → TapeOk T w → NamesOk T w → WordsOk T w → Calls Tryz.prog 18 #[.pointer (some ⟨T, 0, none⟩), .int .i64 depth] w (Gives T w (ExQ (AnyX n) w))

def fromAt (i : Nat) : ByteArray := fromL.getD i es
theorem fromAt_mem (i : Nat) (h : i < 5) : fromAt i ∈ fromL := by
  have h5 : i = 0 ∨ i = 1 ∨ i = 2 ∨ i = 3 ∨ i = 4 := by omega
  rcases h5 with rfl | rfl | rfl | rfl | rfl <;> simp [fromAt, fromL]
theorem from_cell (W : World) (t : TypeId) (i : Nat) (h : i < 5) : (W.alloc (.cells #[.string ⟨#[116]⟩, .string ⟨#[117]⟩, .string ⟨#[108, 111, 103]⟩, .string ⟨#[73, 78, 83, 69, 82, 84, 69, 68]⟩, .string ⟨#[68, 69, 76, 69, 84, 69, 68]⟩] t)).cell? ⟨W.heap.size, i, none⟩ = some (.string (fromAt i)) := by
  have h5 : i = 0 ∨ i = 1 ∨ i = 2 ∨ i = 3 ∨ i = 4 := by omega
  rcases h5 with rfl | rfl | rfl | rfl | rfl <;> simp [fromAt, fromL, bs]

def qualAt (i : Nat) : ByteArray := qualL.getD (i + 1) es
theorem qualAt_mem (i : Nat) (h : i < 5) : qualAt i ∈ qualL := by
  have h5 : i = 0 ∨ i = 1 ∨ i = 2 ∨ i = 3 ∨ i = 4 := by omega
  rcases h5 with rfl | rfl | rfl | rfl | rfl <;> simp [qualAt, qualL]
theorem qual_cell (W : World) (t : TypeId) (i : Nat) (h : i < 5) : (W.alloc (.cells #[.string ⟨#[78, 69, 87]⟩, .string ⟨#[79, 76, 68]⟩, .string ⟨#[73, 78, 83, 69, 82, 84, 69, 68]⟩, .string ⟨#[116]⟩, .string ⟨#[117]⟩] t)).cell? ⟨W.heap.size, i, none⟩ = some (.string (qualAt i)) := by
  have h5 : i = 0 ∨ i = 1 ∨ i = 2 ∨ i = 3 ∨ i = 4 := by omega
  rcases h5 with rfl | rfl | rfl | rfl | rfl <;> simp [qualAt, qualL, bs]

theorem rowsG_drew {lo : Nat} {w : World} {e : TypeId} {size : Nat} {v : Value} {xs : List Ex} (h : RowsG lo w e size (fun M w e cs => EC M w e cs) v xs) : RowsG lo w.drew e size (fun M w e cs => EC M w e cs) v xs :=
  RowsG.keep exStable h ((Keep.refl (fun _ => False) w).drew) fun _ _ _ => id
theorem any_part {p : Nat} {w : World} {va : Value} {x : Ex} {lo : Nat} {a s : Option Addr} {ac sc : Nat} (hlo : p + 1 ≤ lo) (hown : ∀ k, OwnB va k → k < lo)
    (hx : ExV (Old lo) w x (.agg #[.int .i64 x.kind, .int .i64 x.op, .bool x.no, .int .i64 x.val.kind, .int .i64 x.val.int, .string x.val.text, .string x.table, .string x.name, .slice a x.args.length ac, .slice s x.sub.length sc])) :
    EC (OldOr (p + 1) va) w x [.int .i64 x.kind, .int .i64 x.op, .bool x.no, .int .i64 x.val.kind, .int .i64 x.val.int, .string x.val.text, .string x.table, .string x.name, .slice a x.args.length ac, .slice s x.sub.length sc] :=
  EC.weak (fun k _ h => h.elim (fun h => by unfold Old; omega) fun h => hown k h) x _ (exv_list hx)

set_option maxRecDepth 100000 in
set_option maxHeartbeats 40000000 in
theorem any_expr (n T : Nat) (depth : Int) (w : World) (hE : 0 < depth → ∃ m : Nat, n = m + 1 ∧ AnyOk m) (hn : n ≤ 50) (hd : depth ≤ n) (_hd0 : -10 ≤ depth) (ht : TapeOk T w) (hnm : NamesOk T w) (hw : WordsOk T w) :
    Calls Tryz.prog 18 #[.pointer (some ⟨T, 0, none⟩), .int .i64 depth] w (Gives T w (ExQ (AnyX n) w)) := by
  have hTw := ht.lt
  have HT := Lib.hid ht
  have HN := Lib.hid hnm
  have HW := Lib.hid hw
  have HE := Lib.hid hE
  clear hE ht hnm hw
  go_enter Tryz.func18, Tryz.ntmps18
  go_wp2_with fail
  generalize hW : w.alloc _ = W0
  have hL0 : ResA T w W0 := by rw [← hW]; exact ⟨HT.out.bel ((Below.refl _ w).alloc (Nat.le_refl _) _), .bel ((Below.refl _ w).alloc (Nat.le_refl _) _), heap_alloc_new w _⟩
  clear hW
  have L0 := Lib.hid hL0
  clear hL0
  refine (next_any T 12 _ (by omega) (by omega) L0.out.tape).mono ?_
  rintro e w1 ⟨v, rfl, ⟨k0, rfl, hk0, hk1⟩, ht, hk⟩
  have L1 := Lib.hid (L0.out.step hTw ht hk)
  clear ht hk
  dsimp only
  have ek : IntKind.i64.wrap (1 + k0) = 1 + k0 := IntWalk.i64_in _ (by omega)
  go_upto_region 2 with fail
  have L1' := L1.out
  go_cut [20] (fun c wx => ∃ b : Bool, c = .bool b ∧ (b = false → 0 < depth ∧ 2 < 1 + k0) ∧ ResA T w wx)
  case first =>
    by_cases hd1 : depth ≤ 0
    · go_wp2_with fail
      go_meet
      exact ⟨true, by first | (simp; done) | simp [hd1], by simp, L1.out⟩
    · by_cases hk2 : 1 + k0 ≤ 2
      · go_wp2_with fail
        go_meet
        exact ⟨true, by first | (simp; done) | simp [hk2], by simp, L1.out⟩
      · go_wp2_with fail
        go_meet
        exact ⟨false, by simp <;> omega, fun _ => ⟨by omega, by omega⟩, L1.out⟩
  case rest =>
    obtain ⟨b, rfl, hb, hL⟩ := hcut
    have L2 := Lib.hid hL
    clear hL L1 L1'
    cases b
    · obtain ⟨hd1, hk2⟩ := hb rfl
      clear hb
      obtain ⟨m, rfl, hE⟩ := HE.out hd1
      have HAE := Lib.hid hE
      clear hE
      generalize hkd : 1 + k0 = kd at *
      have hk12 : kd ≤ 12 := by omega
      clear ek hkd hk0 hk1
      go_upto_block 0 with fail
      generalize hW3 : wc.alloc _ = W3
      have hE0 : EA T w W3 wc.heap.size kd 0 false (.slice none 0 0) (.slice none 0 0) := by rw [← hW3]; exact ⟨L2.out.alloc hTw _, L2.out.lt, heap_alloc_new wc _⟩
      generalize hp : wc.heap.size = p at *
      clear hW3 L2
      have E0 := Lib.hid hE0
      clear hE0
      go_cut [9] (fun c wx => ∃ (nargs : Nat) (o : Int) (no : Bool), c = .int .i64 nargs ∧ ((OpShape kd o no nargs ∧ EA T w wx p kd o no (.slice none 0 0) (.slice none 0 0)) ∨ (nargs = 0 ∧ o = 0 ∧ no = false ∧ ∃ s sc q, AnyX (m + 1) (opX kd 0 false [] [q]) ∧ EA T w wx p kd 0 false (.slice none 0 0) (.slice s 1 sc) ∧ QusR (Old (p + 1)) wx (.slice s 1 sc) [q])))
      case first =>
        by_cases h8 : kd ≤ 7
        · have h5 : kd = 3 ∨ kd = 4 ∨ kd = 5 ∨ kd = 6 ∨ kd = 7 := by omega
          rcases h5 with rfl | rfl | rfl | rfl | rfl
          · go_wp2_with fail
            go_meet
            exact ⟨1, 0, false, rfl, .inl ⟨by simp [OpShape], E0.out⟩⟩
          · go_wp2_with fail
            go_meet
            exact ⟨1, 0, false, rfl, .inl ⟨by simp [OpShape], E0.out⟩⟩
          · go_wp2_with fail
            refine (next_any T 13 _ (by omega) (by omega) E0.out.1.tape).mono ?_
            rintro e w4 ⟨v, rfl, ⟨r, rfl, hr0, hr1⟩, ht, hk⟩
            have er : IntKind.i64.wrap (1 + r) = 1 + r := IntWalk.i64_in _ (by omega)
            have E1 := Lib.hid (E0.out.step hTw ht hk)
            obtain ⟨_, _, _, _, _, _, _, _, _, _, pf, pz⟩ := E1.out.cells
            clear ht hk
            dsimp only
            go_wp2_with fail
            go_meet
            exact ⟨2, 1 + r, false, rfl, .inl ⟨by simp [OpShape]; omega, E1.out.set1 hTw _⟩⟩
          · go_wp2_with fail
            refine (bool_any T 2 _ (by omega) (by omega) E0.out.1.tape).mono ?_
            rintro e w4 ⟨v, rfl, ⟨b, rfl⟩, ht, hk⟩
            have E1 := Lib.hid (E0.out.step hTw ht hk)
            obtain ⟨_, _, _, _, _, _, _, _, _, _, pf, pz⟩ := E1.out.cells
            clear ht hk
            dsimp only
            go_wp2_with fail
            go_meet
            exact ⟨1, 0, b, rfl, .inl ⟨by simp [OpShape], E1.out.set2 hTw _⟩⟩
          · go_wp2_with fail
            go_meet
            exact ⟨3, 0, false, rfl, .inl ⟨by simp [OpShape], E0.out⟩⟩
        · have b3 : (kd == 3) = false := by simp; omega
          have b4 : (kd == 4) = false := by simp; omega
          have b5 : (kd == 5) = false := by simp; omega
          have b6 : (kd == 6) = false := by simp; omega
          have b7 : (kd == 7) = false := by simp; omega
          go_wp2_with fail
          refine (next_any T 5 _ (by omega) (by omega) (E0.out.1.tape.alloc _)).mono ?_
          rintro e w4 ⟨v, rfl, ⟨r, rfl, hr0, hr1⟩, ht, hk⟩
          obtain ⟨i, rfl⟩ := Int.eq_ofNat_of_zero_le hr0
          have hi : i < 5 := by omega
          have hfc : w4.cell? ⟨W3.heap.size, i, none⟩ = some (.string (fromAt i)) := (hk.cell (by simp) (fun h => by have := E0.out.cells.2.2.2.2.2.2.2.2.2.2.2; have := E0.out.2.1; unfold At at h; omega)).trans (from_cell W3 _ i hi)
          have E4 := Lib.hid ((E0.out.alloc hTw _).step hTw ht hk)
          clear ht hk
          dsimp only
          go_upto_region 16 with fail
          have hq5 : QA T w (w4.alloc (.cells #[.bool (kd == 8), .slice none 0 0, .string (fromAt i), .slice none 0 0] 32)) p w4.heap.size kd (kd == 8) (fromAt i) [] [] := ⟨E4.out.alloc hTw _, E4.out.cells.2.2.2.2.2.2.2.2.2.2.2, none, 0, none, 0, heap_alloc_new _ _, RowsR.nil .., RowsR.nil ..⟩
          generalize w4.alloc (.cells #[.bool (kd == 8), .slice none 0 0, .string (fromAt i), .slice none 0 0] 32) = W5 at *
          generalize w4.heap.size = h at *
          clear hfc E4
          have HQ5 := Lib.hid hq5
          clear hq5
          by_cases h10 : 10 ≤ kd
          · go_wp2_with fail
            refine (HAE.out T (depth - 2) _ (by omega) (by omega) HQ5.out.tape (HN.out.at HQ5.out.1.1.kept) (HW.out.at HQ5.out.1.1.kept)).mono ?_
            rintro e w8 ⟨v, rfl, ⟨x, hx, hm⟩, ht, hk⟩
            have hx0 := hx
            obtain ⟨a1, ac1, s1, sc1, rfl, _, _⟩ := hx0
            have HQ8 := Lib.hid (HQ5.out.step hTw ht hk)
            have hlo1 : h < W5.heap.size := by obtain ⟨_, _, _, _, _, _, _, _, _, _, h, _⟩ := HQ5.out.cells; exact h
            have HXX := Lib.hid hx
            have HM := Lib.hid hm
            obtain ⟨i8, ic8, wa8, wc8, c0, c1, c2, c3, f1, f3, zh, _⟩ := HQ8.out.cells
            clear hx hm ht hk
            dsimp only
            go_upto_region 18 with fail
            have HQ9 := Lib.hid (HQ8.out.addItem hTw HXX.out hlo1)
            clear c0 c1 c2 c3 f1 f3 zh hlo1
            generalize hW9 : ((w8.setCell _ _).alloc _) = W9
            rw [hW9] at HQ9
            clear hW9
            go_wp2_with fail
            refine (bool_any T 2 _ (by omega) (by omega) HQ9.out.tape).mono ?_
            rintro e w10 ⟨v, rfl, ⟨b, rfl⟩, ht, hk⟩
            have HQ10 := Lib.hid (HQ9.out.step hTw ht hk)
            clear ht hk
            dsimp only
            cases b
            · obtain ⟨ia, ic, wa, wc', d0, d1, d2, d3, _, _, dz, dx⟩ := HQ10.out.cells
              obtain ⟨_, _, _, _, _, _, _, _, _, _, pf, pz⟩ := HQ10.out.1.cells
              go_wp2_with fail
              go_meet
              exact ⟨0, 0, false, rfl, .inr ⟨rfl, rfl, rfl, _, _, .mk (kd == 8) [x] (fromAt i) [], .sub m kd (fromAt i) [x] [] (fromAt_mem i hi) (.inr ⟨by omega, rfl⟩) (by simp) (by simpa using HM.out) (by simp), HQ10.out.close hTw dx.out⟩⟩
            · go_wp2_with fail
              refine (HAE.out T (depth - 2) _ (by omega) (by omega) HQ10.out.tape (HN.out.at HQ10.out.1.1.kept) (HW.out.at HQ10.out.1.1.kept)).mono ?_
              rintro e w11 ⟨v, rfl, ⟨x2, hx2, hm2⟩, ht, hk⟩
              have hx0 := hx2
              obtain ⟨a2, ac2, s2, sc2, rfl, _, _⟩ := hx0
              have HQ11 := Lib.hid (HQ10.out.step hTw ht hk)
              have hlo : h < w10.heap.size := by obtain ⟨_, _, _, _, _, _, _, _, _, _, h, _⟩ := HQ10.out.cells; exact h
              have HX2 := Lib.hid hx2
              have HM2 := Lib.hid hm2
              obtain ⟨i11, ic11, wa11, wc11, c0, c1, c2, c3, f1, f3, zh, _⟩ := HQ11.out.cells
              clear hx2 hm2 ht hk
              dsimp only
              go_upto_region 20 with fail
              have HQ12 := Lib.hid (HQ11.out.addWhr hTw HX2.out hlo)
              clear c0 c1 c2 c3 f1 f3
              generalize hW12 : ((w11.setCell _ _).alloc _) = W12
              rw [hW12] at HQ12
              clear hW12
              obtain ⟨ia, ic, wa, wc', d0, d1, d2, d3, _, _, dz, dx⟩ := HQ12.out.cells
              obtain ⟨_, _, _, _, _, _, _, _, _, _, pf, pz⟩ := HQ12.out.1.cells
              go_wp2_with fail
              go_meet
              exact ⟨0, 0, false, rfl, .inr ⟨rfl, rfl, rfl, _, _, .mk (kd == 8) [x] (fromAt i) [x2], .sub m kd (fromAt i) [x] [x2] (fromAt_mem i hi) (.inr ⟨by omega, rfl⟩) (by simp) (by simpa using HM.out) (by simpa using HM2.out), HQ12.out.close hTw dx.out⟩⟩
          · go_wp2_with fail
            refine (bool_any T 2 _ (by omega) (by omega) HQ5.out.tape).mono ?_
            rintro e w10 ⟨v, rfl, ⟨b, rfl⟩, ht, hk⟩
            have HQ10 := Lib.hid (HQ5.out.step hTw ht hk)
            clear ht hk
            dsimp only
            cases b
            · obtain ⟨ia, ic, wa, wc', d0, d1, d2, d3, _, _, dz, dx⟩ := HQ10.out.cells
              obtain ⟨_, _, _, _, _, _, _, _, _, _, pf, pz⟩ := HQ10.out.1.cells
              go_wp2_with fail
              go_meet
              exact ⟨0, 0, false, rfl, .inr ⟨rfl, rfl, rfl, _, _, .mk (kd == 8) [] (fromAt i) [], .sub m kd (fromAt i) [] [] (fromAt_mem i hi) (.inl ⟨by omega, rfl⟩) (by simp) (by simp) (by simp), HQ10.out.close hTw dx.out⟩⟩
            · go_wp2_with fail
              refine (HAE.out T (depth - 2) _ (by omega) (by omega) HQ10.out.tape (HN.out.at HQ10.out.1.1.kept) (HW.out.at HQ10.out.1.1.kept)).mono ?_
              rintro e w11 ⟨v, rfl, ⟨x2, hx2, hm2⟩, ht, hk⟩
              have hx0 := hx2
              obtain ⟨a2, ac2, s2, sc2, rfl, _, _⟩ := hx0
              have HQ11 := Lib.hid (HQ10.out.step hTw ht hk)
              have hlo : h < w10.heap.size := by obtain ⟨_, _, _, _, _, _, _, _, _, _, h, _⟩ := HQ10.out.cells; exact h
              have HX2 := Lib.hid hx2
              have HM2 := Lib.hid hm2
              obtain ⟨i11, ic11, wa11, wc11, c0, c1, c2, c3, f1, f3, zh, _⟩ := HQ11.out.cells
              clear hx2 hm2 ht hk
              dsimp only
              go_upto_region 20 with fail
              have HQ12 := Lib.hid (HQ11.out.addWhr hTw HX2.out hlo)
              clear c0 c1 c2 c3 f1 f3
              generalize hW12 : ((w11.setCell _ _).alloc _) = W12
              rw [hW12] at HQ12
              clear hW12
              obtain ⟨ia, ic, wa, wc', d0, d1, d2, d3, _, _, dz, dx⟩ := HQ12.out.cells
              obtain ⟨_, _, _, _, _, _, _, _, _, _, pf, pz⟩ := HQ12.out.1.cells
              go_wp2_with fail
              go_meet
              exact ⟨0, 0, false, rfl, .inr ⟨rfl, rfl, rfl, _, _, .mk (kd == 8) [] (fromAt i) [x2], .sub m kd (fromAt i) [] [x2] (fromAt_mem i hi) (.inl ⟨by omega, rfl⟩) (by simp) (by simp) (by simpa using HM2.out), HQ12.out.close hTw dx.out⟩⟩
      case rest =>
        obtain ⟨nargs, o, no, rfl, hcase⟩ := hcut
        clear E0
        rcases hcase with ⟨hsh, hE⟩ | ⟨rfl, rfl, rfl, s, sc, q, hany, hE, hq⟩
        · have E1 := Lib.hid hE
          clear hE
          have hn3 : nargs ≤ 3 := (opShape_kind hsh).2.2
          go_wp2_with fail
          go_loopw [11] (fun i wr => ∃ (j : Nat) (va : Value) (xs : List Ex), j ≤ nargs ∧ i = .int .i64 j ∧ xs.length = j ∧ (∀ x ∈ xs, AnyX m x) ∧ EA T w wr p kd o no va (.slice none 0 0) ∧ RowsG (p + 1) wr 57 10 (fun M w e cs => EC M w e cs) va xs) (fun i _ => nargs - (intOf i).toNat)
          case atStart => exact ⟨0, _, [], Nat.zero_le _, rfl, rfl, fun x hx => (by cases hx), E1.out, RowsG.nil ..⟩
          case round =>
            rename World => wr
            obtain ⟨j, va, xs, hj, rfl, hxl, hxs, hE, hG⟩ := hrel
            have EE := Lib.hid hE
            have GG := Lib.hid hG
            have HXS := Lib.hid hxs
            clear hE hG hxs
            by_cases hlt : j < nargs
            · have ed : IntKind.i64.wrap (depth - 1) = depth - 1 := IntWalk.i64_in _ (by omega)
              go_wp2_with fail
              obtain ⟨_, _, _, _, _, _, _, _, d8, _, _, dz⟩ := EE.out.drew.cells
              have tok1 : Hid True := trivial
              go_region_law (first
                | (refine step_app (by rfl) _ _ _ (by rfl) 57 _ 10 136 Tryz.underlying27 infoExpr (by rfl) (by decide) (R := fun e cs => EC (OldOr (p + 1) va) w8 e cs) (M := fun _ => False) (p + 1) va (.slice (some ⟨w8.heap.size, 0, none⟩) 1 1) xs [x] (by rfl) (by rfl) (RowsO.kept GG8.out ((Keep.refl (fun _ => False) w8).alloc _) (fun _ _ => id) fun _ _ _ h => h) (rows_one x rfl id rfl (any_part (by have := EE.out.cells.2.2.2.2.2.2.2.2.2.2.2; simp; omega) (fun k h => by have := (RowsO.lt GG.out h).2; simpa using this) HX.out)) (by simp) (fun y _ cs h => exStable.one h) (by simp; omega) (by simp [maxLen]; omega) (by simp; omega) ?_; intro v9 w9 ho hk hat; have gg9 := RowsG.snoc exStable ho hk hat; obtain ⟨xa9, xc9, hv9, _⟩ := gg9.shape; obtain ⟨n9, hn9⟩ : ∃ n, n = (xs ++ [x]).length := ⟨_, rfl⟩; rw [← hn9] at hv9; subst hv9; have GG9 := Lib.hid gg9; clear gg9 hn9; have EE9 := Lib.hid ((EE8.out.alloc hTw _).then hTw hk fun i hi hO => by have := (RowsO.lt GG8.out hO).1; omega); obtain ⟨_, _, _, _, _, _, _, _, g8, _, gf, gz⟩ := EE9.out.cells; clear ho hk hat)
                | (go_simp; go_at_call 18; go_loud (refine (HAE.out T (depth - 1) _ (by omega) (by omega) EE.out.drew.1.tape (HN.out.at EE.out.drew.1.kept) (HW.out.at EE.out.drew.1.kept)).mono ?_; rintro e w8 ⟨v, rfl, ⟨x, hx, hm⟩, ht, hk⟩; have hx0 := hx; obtain ⟨a1, ac1, s1, sc1, rfl, _, _⟩ := hx0; have EE8 := Lib.hid (EE.out.drew.step hTw ht hk); have GG8 := Lib.hid (RowsG.keep exStable (rowsG_drew GG.out) hk (fun k h1 _ h2 => by unfold At at h2; have := EE.out.2.1; omega)); have HX := Lib.hid hx; have HM := Lib.hid hm; have z8 := hk.size; obtain ⟨_, _, _, _, _, _, _, _, f8, _, ff, fz⟩ := EE8.out.cells; clear hx hm ht hk); dsimp only))
              all_goals
                go_wp2_with fail
                go_roundw
                case rel =>
                  refine ⟨j + 1, .slice xa9 n9 xc9, xs ++ [x], by omega, by go_num, by simp [hxl], fun y hy => ?_, EE9.out.set8 hTw _, RowsG.keep exStable GG9.out ((Keep.refl (At p) w9).setCell (p := ⟨p, 8, none⟩) (fun _ => rfl) _) (fun k h1 _ h2 => by unfold At at h2; omega)⟩
                  rcases List.mem_append.1 hy with hy | hy
                  · exact HXS.out y hy
                  · obtain rfl := List.mem_singleton.1 hy; exact HM.out
                case measure => simp [intOf]; omega
            · obtain rfl : j = nargs := by omega
              subst hxl
              go_upto_region 36 with fail
              obtain ⟨xa, xc, rfl, _⟩ := GG.out.shape
              obtain ⟨e0, e1, e2, e3, e4, e5, e6, e7, e8, e9, pf, pz⟩ := EE.out.cells
              obtain ⟨r0, r1, r2, r3, r4, r5, r6, r7, r8, r9, rf, rz⟩ := EE.out.1.res
              repeat (first | go_values | go_skip | go_guarded | go_step | go_upon)
              refine bodyPost_ret (v := .agg #[.int .i64 kd, .int .i64 o, .bool no, .int .i64 0, .int .i64 0, .string ⟨#[]⟩, .string ⟨#[]⟩, .string ⟨#[]⟩, .slice xa xs.length xc, .slice none 0 0]) (by simp [results, Tryz.results18, go_sem, r0, r1, r2, r3, r4, r5, r6, r7, r8, r9]) rfl ?_
              have HX : ExV (Old (p + 1)) wr (opX kd o no xs []) (.agg #[.int .i64 kd, .int .i64 o, .bool no, .int .i64 0, .int .i64 0, .string ⟨#[]⟩, .string ⟨#[]⟩, .string ⟨#[]⟩, .slice xa xs.length xc, .slice none 0 0]) := ⟨xa, xc, none, 0, rfl, GG.out.rows exStable, RowsR.nil ..⟩
              have FIN := resA_fin (P := AnyX (m + 1)) hTw EE.out.1 HX (by have := EE.out.2.1; omega) (keep_set10 _ _ (.int .i64 kd) (.int .i64 o) (.bool no) (.int .i64 0) (.int .i64 0) (.string ⟨#[]⟩) (.string ⟨#[]⟩) (.string ⟨#[]⟩) (.slice xa xs.length xc) (.slice none 0 0)) (.ops m kd o no xs hsh HXS.out)
              exact FIN
        · have EE := Lib.hid hE
          have HQ := Lib.hid hq
          have HANY := Lib.hid hany
          clear hE hq hany
          go_wp2_with fail
          refine wp_loop_rounds 1 ?_
          rw [rounds_succ]
          go_upto_region 36 with fail
          obtain ⟨e0, e1, e2, e3, e4, e5, e6, e7, e8, e9, pf, pz⟩ := EE.out.cells
          obtain ⟨r0, r1, r2, r3, r4, r5, r6, r7, r8, r9, rf, rz⟩ := EE.out.1.res
          repeat (first | go_values | go_skip | go_guarded | go_step | go_upon)
          refine bodyPost_ret (v := .agg #[.int .i64 kd, .int .i64 0, .bool false, .int .i64 0, .int .i64 0, .string ⟨#[]⟩, .string ⟨#[]⟩, .string ⟨#[]⟩, .slice none 0 0, .slice s 1 sc]) (by simp [results, Tryz.results18, go_sem, r0, r1, r2, r3, r4, r5, r6, r7, r8, r9]) rfl ?_
          have HX : ExV (Old (p + 1)) wc (opX kd 0 false [] [q]) (.agg #[.int .i64 kd, .int .i64 0, .bool false, .int .i64 0, .int .i64 0, .string ⟨#[]⟩, .string ⟨#[]⟩, .string ⟨#[]⟩, .slice none 0 0, .slice s 1 sc]) := ⟨none, 0, s, sc, rfl, RowsR.nil .., HQ.out⟩
          have FIN := resA_fin (P := AnyX (m + 1)) hTw EE.out.1 HX (by have := EE.out.2.1; omega) (keep_set10 _ _ (.int .i64 kd) (.int .i64 0) (.bool false) (.int .i64 0) (.int .i64 0) (.string ⟨#[]⟩) (.string ⟨#[]⟩) (.string ⟨#[]⟩) (.slice none 0 0) (.slice s 1 sc)) HANY.out
          exact FIN
    · clear hb HE hd hn
      go_wp2_with fail
      refine (bool_any T 2 _ (by omega) (by omega) L2.out.tape).mono ?_
      rintro e w4 ⟨v, rfl, ⟨b, rfl⟩, ht, hk⟩
      have L4 := Lib.hid (L2.out.step hTw ht hk)
      clear ht hk
      dsimp only
      cases b
      · go_wp2_with fail
        refine (value_any T _ L4.out.tape (HW.out.at L4.out.kept)).mono ?_
        rintro e w5 ⟨v, rfl, ⟨x, rfl, hx⟩, ht, hk⟩
        have L5 := Lib.hid (L4.out.step hTw ht hk)
        clear ht hk
        obtain ⟨k, i, s⟩ := x
        unfold valOf
        dsimp only
        have HX := Lib.hid hx
        have hz5 : w.heap.size < w5.heap.size := L5.out.lt
        by_cases hneg : k = 1 ∧ i < 0
        · obtain ⟨rfl, hneg⟩ := hneg
          have hs : s = ⟨#[]⟩ := by
            rcases hx with ⟨h, _⟩ | ⟨_, _, h⟩ | ⟨h, _⟩ | ⟨h, _⟩
            · cases h
            · exact h
            · cases h
            · cases h
          subst hs
          clear hx
          go_wp2_with fail
          generalize hq : w5.heap.size = q at *
          have hb5 : (w5.alloc (.cells #[.int .i64 1, .int .i64 i, .string ⟨#[]⟩] 55)).heap[q]? = some (.cells #[.int .i64 1, .int .i64 i, .string ⟨#[]⟩] 55 (0, 0)) := by rw [← hq]; exact heap_alloc_new w5 _
          have L5' := Lib.hid (L5.out.alloc hTw (.cells #[.int .i64 1, .int .i64 i, .string ⟨#[]⟩] 55))
          generalize w5.alloc (.cells #[.int .i64 1, .int .i64 i, .string ⟨#[]⟩] 55) = W5 at *
          have HB5 := Lib.hid hb5
          clear hb5 L5 HX
          refine (next_any T 9 _ (by omega) (by omega) L5'.out.tape).mono ?_
          rintro e w6 ⟨v, rfl, ⟨r, rfl, hr0, hr1⟩, ht, hk⟩
          have L6 := Lib.hid (L5'.out.step hTw ht hk)
          have hb6 := (hk.block q (Array.getElem?_eq_some_iff.1 HB5.out).1 fun h => by unfold At at h; omega).trans HB5.out
          clear ht hk
          obtain ⟨x0, x1, x2, xf, xz⟩ := blk3 hb6
          have L6' := Lib.hid (L6.out.then hTw ((Keep.refl (At q) w6).setCell (p := ⟨q, 1, none⟩) (fun _ => rfl) (.int .i64 r)) fun j hj hh => by unfold At at hh; omega)
          dsimp only
          go_wp2_with fail
          refine (lit_any _ _ _ _).mono ?_
          rintro e w7 ⟨rfl, hb⟩
          have L7 := Lib.hid (L6'.out.bel hTw hb)
          clear hb
          obtain ⟨r0, r1, r2, r3, r4, r5, r6, r7, r8, r9, rf, rz⟩ := L7.out.res
          dsimp only
          repeat (first | go_values | go_skip | go_guarded | go_step | go_upon)
          refine bodyPost_ret (v := .agg #[.int .i64 1, .int .i64 0, .bool false, .int .i64 1, .int .i64 r, .string ⟨#[]⟩, .string ⟨#[]⟩, .string ⟨#[]⟩, .slice none 0 0, .slice none 0 0]) (by simp [results, Tryz.results18, go_sem, r0, r1, r2, r3, r4, r5, r6, r7, r8, r9]) rfl ?_
          have HX7 : ExV (Old w7.heap.size) w7 (litX ⟨1, r, ⟨#[]⟩⟩) (.agg #[.int .i64 1, .int .i64 0, .bool false, .int .i64 1, .int .i64 r, .string ⟨#[]⟩, .string ⟨#[]⟩, .string ⟨#[]⟩, .slice none 0 0, .slice none 0 0]) := ⟨none, 0, none, 0, rfl, RowsR.nil .., RowsR.nil ..⟩
          have FIN := resA_fin (P := AnyX n) hTw L7.out HX7 rz (keep_set10 _ _ (.int .i64 1) (.int .i64 0) (.bool false) (.int .i64 1) (.int .i64 r) (.string ⟨#[]⟩) (.string ⟨#[]⟩) (.string ⟨#[]⟩) (.slice none 0 0) (.slice none 0 0)) (.lit n ⟨1, r, ⟨#[]⟩⟩ (.inr (.inl ⟨rfl, ⟨by show -9223372036854775808 ≤ r; omega, by show r ≤ 9223372036854775807; omega⟩, rfl⟩)) (fun _ => hr0))
          exact FIN
        · have hor : k ≠ 1 ∨ (k = 1 ∧ ¬ i < 0) := by omega
          have hv0 : k = 1 → 0 ≤ i := by omega
          clear hx hneg
          have L6 := Lib.hid (L5.out.alloc hTw (.cells #[.int .i64 k, .int .i64 i, .string s] 55))
          rcases hor with hk1 | ⟨rfl, hi0⟩
          · have bk : (k == 1) = false := by simpa using hk1
            go_wp2_with fail
            refine (lit_any _ _ _ _).mono ?_
            rintro e w7 ⟨rfl, hb⟩
            have L7 := Lib.hid (L6.out.bel hTw hb)
            clear hb
            obtain ⟨r0, r1, r2, r3, r4, r5, r6, r7, r8, r9, rf, rz⟩ := L7.out.res
            dsimp only
            repeat (first | go_values | go_skip | go_guarded | go_step | go_upon)
            refine bodyPost_ret (v := .agg #[.int .i64 1, .int .i64 0, .bool false, .int .i64 k, .int .i64 i, .string s, .string ⟨#[]⟩, .string ⟨#[]⟩, .slice none 0 0, .slice none 0 0]) (by simp [results, Tryz.results18, go_sem, r0, r1, r2, r3, r4, r5, r6, r7, r8, r9]) rfl ?_
            have HX7 : ExV (Old w7.heap.size) w7 (litX ⟨k, i, s⟩) (.agg #[.int .i64 1, .int .i64 0, .bool false, .int .i64 k, .int .i64 i, .string s, .string ⟨#[]⟩, .string ⟨#[]⟩, .slice none 0 0, .slice none 0 0]) := ⟨none, 0, none, 0, rfl, RowsR.nil .., RowsR.nil ..⟩
            have FIN := resA_fin (P := AnyX n) hTw L7.out HX7 rz (keep_set10 _ _ (.int .i64 1) (.int .i64 0) (.bool false) (.int .i64 k) (.int .i64 i) (.string s) (.string ⟨#[]⟩) (.string ⟨#[]⟩) (.slice none 0 0) (.slice none 0 0)) (.lit n ⟨k, i, s⟩ HX.out hv0)
            exact FIN
          · go_wp2_with fail
            refine (lit_any _ _ _ _).mono ?_
            rintro e w7 ⟨rfl, hb⟩
            have L7 := Lib.hid (L6.out.bel hTw hb)
            clear hb
            obtain ⟨r0, r1, r2, r3, r4, r5, r6, r7, r8, r9, rf, rz⟩ := L7.out.res
            dsimp only
            repeat (first | go_values | go_skip | go_guarded | go_step | go_upon)
            refine bodyPost_ret (v := .agg #[.int .i64 1, .int .i64 0, .bool false, .int .i64 1, .int .i64 i, .string s, .string ⟨#[]⟩, .string ⟨#[]⟩, .slice none 0 0, .slice none 0 0]) (by simp [results, Tryz.results18, go_sem, r0, r1, r2, r3, r4, r5, r6, r7, r8, r9]) rfl ?_
            have HX7 : ExV (Old w7.heap.size) w7 (litX ⟨1, i, s⟩) (.agg #[.int .i64 1, .int .i64 0, .bool false, .int .i64 1, .int .i64 i, .string s, .string ⟨#[]⟩, .string ⟨#[]⟩, .slice none 0 0, .slice none 0 0]) := ⟨none, 0, none, 0, rfl, RowsR.nil .., RowsR.nil ..⟩
            have FIN := resA_fin (P := AnyX n) hTw L7.out HX7 rz (keep_set10 _ _ (.int .i64 1) (.int .i64 0) (.bool false) (.int .i64 1) (.int .i64 i) (.string s) (.string ⟨#[]⟩) (.string ⟨#[]⟩) (.slice none 0 0) (.slice none 0 0)) (.lit n ⟨1, i, s⟩ HX.out fun _ => hv0 trivial)
            exact FIN
      · go_wp2_with fail
        refine (bool_any T 3 _ (by omega) (by omega) L4.out.tape).mono ?_
        rintro e w5 ⟨v, rfl, ⟨b, rfl⟩, ht, hk⟩
        have L5 := Lib.hid (L4.out.step hTw ht hk)
        clear ht hk
        dsimp only
        cases b
        · go_wp2_with fail
          refine (name_any T _ L5.out.tape (HN.out.at L5.out.kept)).mono ?_
          rintro e w16 ⟨v, rfl, ⟨i, hi, rfl⟩, ht, hk⟩
          have L16 := Lib.hid (L5.out.step hTw ht hk)
          clear ht hk
          dsimp only
          go_wp2_with fail
          refine (col_any _ _ _).mono ?_
          rintro e w7 ⟨rfl, hb⟩
          have L7 := Lib.hid (L16.out.bel hTw hb)
          clear hb
          obtain ⟨r0, r1, r2, r3, r4, r5, r6, r7, r8, r9, rf, rz⟩ := L7.out.res
          dsimp only
          repeat (first | go_values | go_skip | go_guarded | go_step | go_upon)
          refine bodyPost_ret (v := .agg #[.int .i64 2, .int .i64 0, .bool false, .int .i64 0, .int .i64 0, .string ⟨#[]⟩, .string ⟨#[]⟩, .string (nameAt i), .slice none 0 0, .slice none 0 0]) (by simp [results, Tryz.results18, go_sem, r0, r1, r2, r3, r4, r5, r6, r7, r8, r9]) rfl ?_
          have HX : ExV (Old w7.heap.size) w7 (colX ⟨#[]⟩ (nameAt i)) (.agg #[.int .i64 2, .int .i64 0, .bool false, .int .i64 0, .int .i64 0, .string ⟨#[]⟩, .string ⟨#[]⟩, .string (nameAt i), .slice none 0 0, .slice none 0 0]) := ⟨none, 0, none, 0, rfl, RowsR.nil .., RowsR.nil ..⟩
          have FIN := resA_fin (P := AnyX n) hTw L7.out HX rz (keep_set10 _ _ (.int .i64 2) (.int .i64 0) (.bool false) (.int .i64 0) (.int .i64 0) (.string ⟨#[]⟩) (.string ⟨#[]⟩) (.string (nameAt i)) (.slice none 0 0) (.slice none 0 0)) (.col n ⟨#[]⟩ i (by simp [qualL, es]) hi)
          exact FIN
        · go_wp2_with fail
          refine (next_any T 5 _ (by omega) (by omega) (L5.out.tape.alloc _)).mono ?_
          rintro e w6 ⟨v, rfl, ⟨r, rfl, hr0, hr1⟩, ht, hk⟩
          obtain ⟨j, rfl⟩ := Int.eq_ofNat_of_zero_le hr0
          have hj : j < 5 := by omega
          have hfc : w6.cell? ⟨w5.heap.size, j, none⟩ = some (.string (qualAt j)) := (hk.cell (by simp) (fun h => by have := L5.out.lt; unfold At at h; omega)).trans (qual_cell w5 _ j hj)
          have L6 := Lib.hid ((L5.out.alloc hTw _).step hTw ht hk)
          clear ht hk
          dsimp only
          go_wp2_with fail
          refine (name_any T _ L6.out.tape (HN.out.at L6.out.kept)).mono ?_
          rintro e w16 ⟨v, rfl, ⟨i, hi, rfl⟩, ht, hk⟩
          have L16 := Lib.hid (L6.out.step hTw ht hk)
          clear ht hk
          dsimp only
          go_wp2_with fail
          refine (col_any _ _ _).mono ?_
          rintro e w7 ⟨rfl, hb⟩
          have L7 := Lib.hid (L16.out.bel hTw hb)
          clear hb
          obtain ⟨r0, r1, r2, r3, r4, r5, r6, r7, r8, r9, rf, rz⟩ := L7.out.res
          dsimp only
          repeat (first | go_values | go_skip | go_guarded | go_step | go_upon)
          refine bodyPost_ret (v := .agg #[.int .i64 2, .int .i64 0, .bool false, .int .i64 0, .int .i64 0, .string ⟨#[]⟩, .string (qualAt j), .string (nameAt i), .slice none 0 0, .slice none 0 0]) (by simp [results, Tryz.results18, go_sem, r0, r1, r2, r3, r4, r5, r6, r7, r8, r9]) rfl ?_
          have HX : ExV (Old w7.heap.size) w7 (colX (qualAt j) (nameAt i)) (.agg #[.int .i64 2, .int .i64 0, .bool false, .int .i64 0, .int .i64 0, .string ⟨#[]⟩, .string (qualAt j), .string (nameAt i), .slice none 0 0, .slice none 0 0]) := ⟨none, 0, none, 0, rfl, RowsR.nil .., RowsR.nil ..⟩
          have FIN := resA_fin (P := AnyX n) hTw L7.out HX rz (keep_set10 _ _ (.int .i64 2) (.int .i64 0) (.bool false) (.int .i64 0) (.int .i64 0) (.string ⟨#[]⟩) (.string (qualAt j)) (.string (nameAt i)) (.slice none 0 0) (.slice none 0 0)) (.col n (qualAt j) i (qualAt_mem j hj) hi)
          exact FIN

theorem any_ok : ∀ n : Nat, n ≤ 50 → AnyOk n
  | 0, _ => fun T depth w hd hd0 ht hn hw => any_expr 0 T depth w (fun h => by omega) (by omega) hd hd0 ht hn hw
  | n + 1, hn => fun T depth w hd hd0 ht hnm hw => any_expr (n + 1) T depth w (fun _ => ⟨n, rfl, any_ok n (by omega)⟩) hn hd hd0 ht hnm hw
end Go.Proofs.YtpnigfmclmfjaaaGreatDoor
