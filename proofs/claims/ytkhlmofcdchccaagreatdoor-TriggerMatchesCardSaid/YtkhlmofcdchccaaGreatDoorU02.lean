/- What the row of TriggerMatches needs: the last step of a statement's row, the listed table of words. (Drawn by genRTM.py out of R0, O1, RL2.) Statements as plain data, and how they lie in memory. Values la plain data: which are valid, their order and their texts. No program is named here. Which values are valid: contracts of value.plain, value.Valid and the reference's Valid. The order of values: contracts of cmp.Compare, cmp.Or, strings.Compare, value.Compare, Same and the reference's Compare. Which expressions are well-formed, over plain trees. No program is named here. Which texts are names: contract of schema.ValidName. Contracts of Go's library at this translation, as the shelf's own command lays them. Contracts of Go's library at this translation, as the shelf's own command lays them. -/
import Derived.Test.YtkhlmofcdchccaaGreatDoorKC1
import Derived.Test.YtkhlmofcdchccaaGreatDoorU01
import Derived.Test.YtkhlmofcdchccaaGreatDoorCards
import Derived.Test.YtkhlmofcdchccaaGreatDoorTie
import Derived.WalkKit
import Derived.ProofKit
import Derived.OpenShut
import Derived.Deep.DeepHandedRow
import Derived.Lib.LaidTab
import Derived.Lib.Bytealg
import Derived.Lib.Small
import Derived.Lib.Replace
import Derived.Lib.ItoaMem
import Derived.WalkLawsBesides
import Derived.Shelf.Small.Strs
import Derived.Deep.RegionHeld3
import Derived.Laws.IdiomStrings
import Derived.Test.YtkhlmofcdchccaaGreatDoorProg
import Derived.Shelf.Strconv.Itoa4
import Derived.Shelf.LaysM
import Derived.Shelf.Strings.Split
import Derived.Shelf.Strings.Replace
import Derived.Shelf.Strings.SplitShaped
namespace Go.Proofs.YtkhlmofcdchccaaGreatDoor
open Go.ChangeShapes Go.WideShapes Go.ChangeAt Go.RowKit

theorem ownKnobs : ownKnob Tryz.prog.godebug = none := by kernel_rfl

section

variable {H : Type} {enc : TypeId × Value → H} {P : Program}

/-- All arguments read as before where only new blocks were made. -/
theorem args_stay (hl : laidOutB P = true) {W W' : World} {sp : Nat → Bool} (hb : Below W.heap.size W W') : ∀ {ts : List TypeId} {vs : List Value} {ds : List (DataW H)} {ps : List MemPlace},
    (∀ t ∈ ts, P.readableRec t = true ∧ t < P.types.size) → DataW.TrodAll enc P W 0 (fun _ => true) true ts vs ds ps → (∀ p ∈ ps, p.block < W.heap.size) → (∀ p ∈ ps, sp p.block = true) → DataW.TrodAll enc P W' 0 sp true ts vs ds ps
  | [], vs, ds, ps, _, h, _, _ => by
    obtain ⟨rfl, rfl, rfl⟩ := trodAll_nil h
    exact trodAll_mk0
  | t :: ts, vs, ds, ps, hts, h, hlt, hs => by
    obtain ⟨v, vs', d, ds', p, q, rfl, rfl, rfl, h1, h2⟩ := trodAll_cons h
    obtain ⟨hr, hrow⟩ := hts t (List.mem_cons_self ..)
    have g1 := Go.WideElems.Trod_stays (sp' := sp) hl hr hrow h1 (fun x hx => hb.same (hlt x (List.mem_append_left _ hx))) (fun x hx => hs x (List.mem_append_left _ hx))
    have g2 := args_stay hl hb (fun t ht => hts t (List.mem_cons_of_mem _ ht)) h2 (fun x hx => hlt x (List.mem_append_right _ hx)) (fun x hx => hs x (List.mem_append_right _ hx))
    exact trodAll_cons_mk g1 g2

/-- WHAT A STATEMENT ASKS, where the call has returned true and made new memory only. -/
theorem law_post {f : Func} {s : ChangeSpec} {W W' : World} {args : Array Value} {ds gs : List (DataW H)} {before : List MemPlace} (hl : laidOutB P = true)
    (hts : (f.params.toList.all fun t => P.readableRec t && decide (t < P.types.size)) = true) (hv : s.vars = []) {boolT : TypeId} (hres : f.resultTypes = #[boolT]) (hbool : P.underlying boolT = some .bool)
    (hfn : (s.fn H (ds ++ gs)).results = [.lit (.bool true)] ∧ (s.fn H (ds ++ gs)).args = ds ∧ (s.fn H (ds ++ gs)).vars = [])
    (hW : DataW.Whole enc P f.params.toList s.vars false W args.toList ds gs before) (hb : Below W.heap.size W W') : s.post enc P f false true false false W args (.bool true) W' := by
  have hlt : ∀ p ∈ before, p.block < W.heap.size := fun p hp => hW.lt p hp
  have hW0 := hW
  obtain ⟨p, q, hA, hV, rfl, _, _⟩ := hW0
  rw [hv] at hV
  obtain ⟨rfl, rfl⟩ := trodVars_none hV
  obtain ⟨e1, e2, e3⟩ := hfn
  refine ⟨ds, [], _, [], p, [], hW, ?_, ?_, ?_, World.keptBut_mono (fun x hx => ⟨hx, ?_⟩) (hb.frame (· ∈ p ++ [])), fun h => by cases h⟩
  · rw [e1, hres]
    exact trodAll_mk1 (shut_bool hbool true)
  · rw [e2]
    refine args_stay hl hb (fun t ht => ?_) hA (fun x hx => hlt x (by simp [hx])) (fun x hx => by simpa using hlt x (by simp [hx]))
    simpa using List.all_eq_true.1 hts t ht
  · rw [e3, hv]
    rfl
  · exact .inr (.inl (by simpa using hx))

end

/-- The cells of a table of texts. -/
theorem cells_of_strs {H : Type} {enc : TypeId × Value → H} {P : Program} {w : World} {base : Nat} {sp : Nat → Bool} {held : Bool} {fuel : Nat} {t e : TypeId} {n : Nat} {cs : List Value} {ss : List (List UInt8)} {p : List MemPlace}
    (ht : P.underlying t = some (.array n e)) (he : P.underlying e = some .string) (hce : P.cellsOf e = 1) (hn : ss.length = n)
    (h : DataW.trod enc P w base sp held fuel t cs = some (.agg (ss.map fun s => .lit (Lit.string s)), p)) : ∀ (i : Nat) (s : List UInt8), ss[i]? = some s → cs[i]? = some (.string ⟨s.toArray⟩) := by
  obtain ⟨xs, m, rfl, hx, hlen, hn3, hel⟩ := DataW.trod_array ht h
  simp only [Prod.mk.injEq, DataW.agg.injEq] at hx
  intro i s hi
  have hlt : i < n := by rw [← hn]; exact (List.getElem?_eq_some_iff.1 hi).1
  have hxi : xs[i]? = some xs[i] := List.getElem?_eq_getElem (by omega)
  have h0 := hel i hlt
  rw [hce, Nat.mul_one, hxi] at h0
  obtain ⟨s', hc, hx', _⟩ := DataW.trod_string he h0
  have h1 := congrArg (·[i]?) hx.1
  simp only [List.getElem?_map, hi, hxi, Option.map_some, hx', Option.some.injEq, DataW.lit.injEq, Lit.string.injEq] at h1
  have h2 := congrArg (·[0]?) hc
  simp only [List.getElem?_take, List.getElem?_drop] at h2
  simp at h2
  rw [h2, h1]

/-- FROM A ROW's LIST TO A TABLE's CELLS: the table stands first on the list. -/
theorem strs_of_head {P : Program} {W : World} {name : String} {ss : List (List UInt8)} {rest : List (String × DataW Unit)} {g : Nat} {t e : TypeId} {n : Nat}
    (hg : P.globalNamed name = some g) (hty : (P.globals[g]?).map (·.type) = some t) (ht : P.underlying t = some (.array n e)) (he : P.underlying e = some .string) (hce : P.cellsOf e = 1) (hn : ss.length = n)
    (h : laidMet P ((name, .agg (ss.map fun s => .lit (Lit.string s))) :: rest) W) : ∀ (i : Nat) (s : List UInt8), ss[i]? = some s → W.cell? ⟨g, i, none⟩ = some (.string ⟨s.toArray⟩) := by
  obtain ⟨ps, ⟨g', t', cs, fuel, p, q, hg', ht', hvar, hd, _, _⟩, _⟩ := h
  obtain rfl := Option.some.inj (hg.symm.trans hg')
  obtain rfl := Option.some.inj (hty.symm.trans ht')
  intro i s hi
  have h1 := cells_of_strs ht he hce hn hd i s hi
  have h2 := World.var?_cell hg hvar i
  rw [h2]
  simpa using h1

theorem ints_of_trod {H : Type} {enc : TypeId × Value → H} {P : Program} {W : World} {t e : TypeId} {a : Option Addr} {len cap : Nat} {d : DataW H} {ps : List MemPlace}
    (ht : P.underlying t = some (.slice e)) (he : P.underlying e = some (.int .i64)) (hc : P.cellsOf e = 1) (h : DataW.Trod enc P W 0 (fun _ => true) true t (.slice a len cap) d ps) (_hlt : ∀ p ∈ ps, p.block < W.heap.size) : IntsAt W (.slice a len cap) := by
  obtain ⟨fuel, hf⟩ := h
  have hf' : DataW.trod enc P W 0 (fun _ => true) true fuel t [.slice a len cap] = some (d, ps) := hf
  rcases open_ints ht he hc hf' with ⟨hcs, hx⟩ | ⟨a', len', cap', zs, hcs, _, hl, hm, hz, hx, hcell, hwz⟩
  · simp only [List.cons.injEq, Value.slice.injEq, and_true] at hcs
    obtain ⟨rfl, rfl, rfl⟩ := hcs
    exact ⟨none, 0, 0, rfl, Nat.zero_le _, Nat.le_refl _, .inl rfl⟩
  · simp only [List.cons.injEq, Value.slice.injEq, and_true] at hcs
    obtain ⟨rfl, rfl, rfl⟩ := hcs
    simp only [if_true] at hz
    by_cases h0 : len = 0
    · exact ⟨_, len, cap, rfl, by omega, hl, .inl h0⟩
    · obtain ⟨b, off, rfl, hb⟩ := ints_at hcell (by omega)
      refine ⟨_, len, cap, rfl, by omega, hl, .inr ⟨b, off, rfl, ?_, fun i hi => ⟨_, hb i (by omega)⟩⟩⟩
      exact World.block_lt_of_cell? _ _ (hb 0 (by omega))

def setTab (cs : Array Value) : Obj → Obj
  | .cells _ t f => .cells cs t f
  | o => o

/-- A world for the witnesses: the settled one, with the tables names and words as their initialisers lay them. -/
noncomputable def laidWorld (os : Os) : World :=
  { World.holding Tryz.prog os ⟨#[], #[], []⟩ with heap := ((World.holding Tryz.prog os ⟨#[], #[], []⟩).heap).modify 1 (setTab (wordList.map fun s => Value.string ⟨s.toArray⟩).toArray) }

theorem gWords : Tryz.prog.globalNamed "triggerstore/triggerstoreworld.words" = some 1 := by kernel_rfl

theorem tWords : (Tryz.prog.globals[1]?).map (·.type) = some 256 := by kernel_rfl

theorem cStr : Tryz.prog.cellsOf 9 = 1 := by kernel_rfl

theorem cInt : Tryz.prog.cellsOf 3 = 1 := by kernel_rfl

theorem laidOut : laidOutB Tryz.prog = true := by kernel_rfl

theorem words_of {W : World} {rest : List (String × DataW Unit)} (h : laidMet Tryz.prog (("triggerstore/triggerstoreworld.words", Rows.laid_triggerstore_triggerstoreworld_words) :: rest) W) : WordsOk W.heap.size W := by
  have hh := strs_of_head (ss := wordList) gWords tWords Tryz.underlying256 Tryz.underlying9 cStr rfl h
  exact ⟨World.block_lt_of_cell? _ _ (hh 0 _ rfl), fun i hi => hh i _ (by match i, hi with | 0, _ => rfl | 1, _ => rfl | 2, _ => rfl | 3, _ => rfl | 4, _ => rfl | 5, _ => rfl)⟩

section
variable {H : Type} {enc : TypeId × Value → H} {P : Program} {W : World}
/-- The cells read as this datum. -/
def Rd (enc : TypeId × Value → H) (P : Program) (W : World) (t : TypeId) (cs : List Value) (d : DataW H) : Prop := ∃ fuel ps, DataW.trod enc P W 0 (fun _ => true) true fuel t cs = some (d, ps)

/-- The arguments one by one. -/
theorem trod_all {ts : List TypeId} {vs : List Value} {ds : List (DataW H)} {ps : List MemPlace} (h : DataW.TrodAll enc P W 0 (fun _ => true) true ts vs ds ps) :
    vs.length = ts.length ∧ ds.length = ts.length ∧ ∀ (i : Nat) (t : TypeId) (v : Value) (d : DataW H), ts[i]? = some t → vs[i]? = some v → ds[i]? = some d → Rd enc P W t v.cells.toList d := by
  induction ts generalizing vs ds ps with
  | nil =>
    obtain ⟨rfl, rfl, _⟩ := Go.ChangeShapes.trodAll_nil h
    exact ⟨rfl, rfl, by simp⟩
  | cons t ts ih =>
    obtain ⟨v, vs', d, ds', p, q, rfl, rfl, _, h1, h2⟩ := Go.ChangeShapes.trodAll_cons h
    obtain ⟨l1, l2, hr⟩ := ih h2
    refine ⟨by simp [l1], by simp [l2], fun i t' v' d' ht hv hd => ?_⟩
    cases i with
    | zero =>
      simp at ht hv hd
      subst ht; subst hv; subst hd
      obtain ⟨n, hn⟩ := h1
      exact ⟨n, _, hn⟩
    | succ i => exact hr i t' v' d' (by simpa using ht) (by simpa using hv) (by simpa using hd)

end
theorem list2 {α : Type} {l : List α} (h : l.length = 2) : ∃ a b, l = [a, b] := by
  match l, h with
  | [a, b], _ => exact ⟨a, b, rfl⟩

end Go.Proofs.YtkhlmofcdchccaaGreatDoor
namespace Go.Proofs.YtkhlmofcdchccaaGreatDoor
open Go.RowKit

structure SetX where
  col : ByteArray
  ex : Ex
structure RankX where
  table : ByteArray
  col : ByteArray
  low : Int
  high : Int
structure ActX where
  kind : Int
  table : ByteArray
  rows : List (List Ex)
  query : List Qu
  sets : List SetX
  whr : List Ex
  text : ByteArray
structure TrgX where
  name : ByteArray
  table : ByteArray
  before : Bool
  event : Int
  ofs : List ByteArray
  each : Bool
  prec : List ByteArray
  foll : List ByteArray
  rank : List RankX
  cond : List Ex
  acts : List ActX
structure StmX where
  kind : Int
  sch : Sch
  name : ByteArray
  trg : TrgX
  qry : Qu
  act : ActX

def ExLR (M : Nat → Prop) (w : World) (l : List Ex) (cs : List Value) : Prop := ∃ v, cs = [v] ∧ ExsR M w v l
def SetC (M : Nat → Prop) (w : World) (s : SetX) (cs : List Value) : Prop := ∃ ce, cs = .string s.col :: ce ∧ EC M w s.ex ce
def RankC (r : RankX) (cs : List Value) : Prop := cs = [.string r.table, .string r.col, .int .i64 r.low, .int .i64 r.high]
def StrsR (M : Nat → Prop) (w : World) (v : Value) (l : List ByteArray) : Prop := RowsR M w 1 StrR v l
def RanksR (M : Nat → Prop) (w : World) (v : Value) (l : List RankX) : Prop := RowsR M w 4 RankC v l
def ExLsR (M : Nat → Prop) (w : World) (v : Value) (l : List (List Ex)) : Prop := RowsR M w 1 (ExLR M w) v l
def SetsR (M : Nat → Prop) (w : World) (v : Value) (l : List SetX) : Prop := RowsR M w 11 (SetC M w) v l
def actCells (a : ActX) (vr vq vs vw : Value) : List Value := [.int .i64 a.kind, .string a.table, vr, vq, vs, vw, .string a.text]
def ActC (M : Nat → Prop) (w : World) (a : ActX) (cs : List Value) : Prop := ∃ vr vq vs vw, cs = actCells a vr vq vs vw ∧ ExLsR M w vr a.rows ∧ QusR M w vq a.query ∧ SetsR M w vs a.sets ∧ ExsR M w vw a.whr
def ActsR (M : Nat → Prop) (w : World) (v : Value) (l : List ActX) : Prop := RowsR M w 7 (ActC M w) v l
def trgCells (t : TrgX) (vo vp vf vr vw va : Value) : List Value := [.string t.name, .string t.table, .bool t.before, .int .i64 t.event, vo, .bool t.each, vp, vf, vr, vw, va]
def TrgC (M : Nat → Prop) (w : World) (t : TrgX) (cs : List Value) : Prop := ∃ vo vp vf vr vw va, cs = trgCells t vo vp vf vr vw va ∧ StrsR M w vo t.ofs ∧ StrsR M w vp t.prec ∧ StrsR M w vf t.foll ∧ RanksR M w vr t.rank ∧ ExsR M w vw t.cond ∧ ActsR M w va t.acts
def StmC (M : Nat → Prop) (w : World) (s : StmX) (cs : List Value) : Prop := ∃ c1 ct cq ca, cs = .int .i64 s.kind :: (c1 ++ .string s.name :: (ct ++ cq ++ ca)) ∧ SchR M w s.sch c1 ∧ TrgC M w s.trg ct ∧ QC M w s.qry cq ∧ ActC M w s.act ca

section
variable {M : Nat → Prop} {w w' : World} (k : Keep M w w')
include k
theorem ExLR.keep {l : List Ex} {cs : List Value} (h : ExLR M w l cs) : ExLR M w' l cs := let ⟨v, a, b⟩ := h; ⟨v, a, b.keep k⟩
theorem SetC.keep {s : SetX} {cs : List Value} (h : SetC M w s cs) : SetC M w' s cs := let ⟨ce, a, b⟩ := h; ⟨ce, a, EC.keep k _ _ b⟩
theorem StrsR.keep {v : Value} {l : List ByteArray} (h : StrsR M w v l) : StrsR M w' v l := RowsR.map h k fun _ _ _ h => h
theorem RanksR.keep {v : Value} {l : List RankX} (h : RanksR M w v l) : RanksR M w' v l := RowsR.map h k fun _ _ _ h => h
theorem ExLsR.keep {v : Value} {l : List (List Ex)} (h : ExLsR M w v l) : ExLsR M w' v l := RowsR.map h k fun _ _ _ h => ExLR.keep k h
theorem SetsR.keep {v : Value} {l : List SetX} (h : SetsR M w v l) : SetsR M w' v l := RowsR.map h k fun _ _ _ h => SetC.keep k h
theorem ActC.keep {a : ActX} {cs : List Value} (h : ActC M w a cs) : ActC M w' a cs := by
  obtain ⟨vr, vq, vs, vw, h0, h1, h2, h3, h4⟩ := h
  exact ⟨vr, vq, vs, vw, h0, ExLsR.keep k h1, QusR.keep h2 k, SetsR.keep k h3, ExsR.keep h4 k⟩
theorem ActsR.keep {v : Value} {l : List ActX} (h : ActsR M w v l) : ActsR M w' v l := RowsR.map h k fun _ _ _ h => ActC.keep k h
theorem TrgC.keep {t : TrgX} {cs : List Value} (h : TrgC M w t cs) : TrgC M w' t cs := by
  obtain ⟨vo, vp, vf, vr, vw, va, h0, h1, h2, h3, h4, h5, h6⟩ := h
  exact ⟨vo, vp, vf, vr, vw, va, h0, StrsR.keep k h1, StrsR.keep k h2, StrsR.keep k h3, RanksR.keep k h4, ExsR.keep h5 k, ActsR.keep k h6⟩
theorem StmC.keep {s : StmX} {cs : List Value} (h : StmC M w s cs) : StmC M w' s cs := by
  obtain ⟨c1, ct, cq, ca, h0, h1, h2, h3, h4⟩ := h
  exact ⟨c1, ct, cq, ca, h0, h1.keep k, TrgC.keep k h2, QC.keep k h3, ActC.keep k h4⟩
end
section
variable {M M' : Nat → Prop} {w : World} (hM : ∀ k, k < w.heap.size → M' k → M k)
include hM
theorem ExLR.weak {l : List Ex} {cs : List Value} (h : ExLR M w l cs) : ExLR M' w l cs := let ⟨v, a, b⟩ := h; ⟨v, a, ExsR.weak hM b⟩
theorem SetC.weak {s : SetX} {cs : List Value} (h : SetC M w s cs) : SetC M' w s cs := let ⟨ce, a, b⟩ := h; ⟨ce, a, EC.weak hM _ _ b⟩
theorem StrsR.weak {v : Value} {l : List ByteArray} (h : StrsR M w v l) : StrsR M' w v l := RowsR.weak h hM fun _ _ _ h => h
theorem RanksR.weak {v : Value} {l : List RankX} (h : RanksR M w v l) : RanksR M' w v l := RowsR.weak h hM fun _ _ _ h => h
theorem ExLsR.weak {v : Value} {l : List (List Ex)} (h : ExLsR M w v l) : ExLsR M' w v l := RowsR.weak h hM fun _ _ _ h => ExLR.weak hM h
theorem SetsR.weak {v : Value} {l : List SetX} (h : SetsR M w v l) : SetsR M' w v l := RowsR.weak h hM fun _ _ _ h => SetC.weak hM h
theorem ActC.weak {a : ActX} {cs : List Value} (h : ActC M w a cs) : ActC M' w a cs := by
  obtain ⟨vr, vq, vs, vw, h0, h1, h2, h3, h4⟩ := h
  exact ⟨vr, vq, vs, vw, h0, ExLsR.weak hM h1, QusR.weak hM h2, SetsR.weak hM h3, ExsR.weak hM h4⟩
theorem ActsR.weak {v : Value} {l : List ActX} (h : ActsR M w v l) : ActsR M' w v l := RowsR.weak h hM fun _ _ _ h => ActC.weak hM h
theorem TrgC.weak {t : TrgX} {cs : List Value} (h : TrgC M w t cs) : TrgC M' w t cs := by
  obtain ⟨vo, vp, vf, vr, vw, va, h0, h1, h2, h3, h4, h5, h6⟩ := h
  exact ⟨vo, vp, vf, vr, vw, va, h0, StrsR.weak hM h1, StrsR.weak hM h2, StrsR.weak hM h3, RanksR.weak hM h4, ExsR.weak hM h5, ActsR.weak hM h6⟩
theorem StmC.weak {s : StmX} {cs : List Value} (h : StmC M w s cs) : StmC M' w s cs := by
  obtain ⟨c1, ct, cq, ca, h0, h1, h2, h3, h4⟩ := h
  exact ⟨c1, ct, cq, ca, h0, SchR.weak hM h1, TrgC.weak hM h2, QC.weak hM h3, ActC.weak hM h4⟩
end

end Go.Proofs.YtkhlmofcdchccaaGreatDoor
namespace Go.Proofs.YtkhlmofcdchccaaGreatDoor
open Go.RowKit

/-- An order la Go's comparing functions give it. -/
structure Ord3 {α : Type} (c : α → α → Int) : Prop where
  neg : ∀ a b, c a b = - c b a
  le : ∀ a b d, c a b ≤ 0 → c b d ≤ 0 → c a d ≤ 0
  eq : ∀ a b, c a b = 0 → a = b

section
variable {α β : Type} {c : α → α → Int} {d : β → β → Int}
theorem Ord3.refl (h : Ord3 c) (a : α) : c a a = 0 := by have := h.neg a a; omega
/-- First by c, then by the rest. -/
def thenC (x y : Int) : Int := if x ≠ 0 then x else y

def lexC (c : α → α → Int) : List α → List α → Int
  | [], [] => 0
  | [], _ :: _ => -1
  | _ :: _, [] => 1
  | a :: la, b :: lb => thenC (c a b) (lexC c la lb)

end

theorem intOrd : Ord3 Lib.compareInt where
  neg a b := by unfold Lib.compareInt; split <;> split <;> (first | omega | (split <;> omega))
  le a b d h1 h2 := by
    unfold Lib.compareInt at h1 h2 ⊢
    split at h1 <;> split at h2 <;> (try split at h1) <;> (try split at h2) <;> split <;> (first | omega | (split <;> omega))
  eq a b h := by
    unfold Lib.compareInt at h
    split at h
    · omega
    · split at h <;> omega

/-- The order of values. -/
def cmpV (a b : Val) : Int := thenC (Lib.compareInt a.kind b.kind) (thenC (Lib.compareInt a.int b.int) (Lib.compareBytes a.text.data.toList b.text.data.toList))

/-- Which texts a value may have. -/
def chrOk (c : UInt8) : Bool := decide (32 ≤ c.toNat) && decide (c.toNat ≤ 126)
def textOk (l : List UInt8) : Bool := l.all chrOk
def plainB (s : ByteArray) : Bool := textOk s.data.toList && decide (s.size ≤ 64)
def noText (s : ByteArray) : Bool := s.toList == []

def validV (v : Val) : Bool :=
  if v.kind = 0 then decide (v.int = 0) && noText v.text
  else if v.kind = 1 then noText v.text
  else if v.kind = 2 then (decide (v.int = 0) || decide (v.int = 1)) && noText v.text
  else if v.kind = 3 then decide (v.int = 0) && plainB v.text
  else false

end Go.Proofs.YtkhlmofcdchccaaGreatDoor

namespace Go.Proofs.YtkhlmofcdchccaaGreatDoor
open Go.RowKit

theorem ret_b {a b : Bool} (h : a = b) : Ending.returned (.bool a) = .returned (.bool b) := by rw [h]

theorem chr_lo {c : UInt8} (h : (c.toNat : Int) < 32) : chrOk c = false := by unfold chrOk; simp; omega
theorem chr_hi {c : UInt8} (h : (126 : Int) < (c.toNat : Int)) : chrOk c = false := by unfold chrOk; simp; omega
theorem chr_in {c : UInt8} (h : ¬ (c.toNat : Int) < 32) (k : ¬ (126 : Int) < (c.toNat : Int)) : chrOk c = true := by unfold chrOk; simp; omega

/-- A text's bytes, by their places. -/
theorem textOk_no (s : ByteArray) (k : Nat) (h : k < s.size) (hc : chrOk s[k] = false) : textOk s.data.toList = false := by
  unfold textOk
  rw [List.all_eq_false]
  exact ⟨s[k], List.mem_iff_getElem.2 ⟨k, by simpa using h, rfl⟩, by simp [hc]⟩
theorem textOk_yes (s : ByteArray) (h : ∀ (j : Nat) (hj : j < s.size), chrOk s[j] = true) : textOk s.data.toList = true := by
  unfold textOk
  rw [List.all_eq_true]
  intro c hc
  obtain ⟨j, hj, rfl⟩ := List.mem_iff_getElem.1 hc
  exact h j (by simpa using hj)

set_option maxHeartbeats 400000 in
theorem plain_any (s : ByteArray) (w : World) (hs : s.size ≤ maxLen) : Calls Tryz.prog 100 #[.string s] w fun e w' => e = .returned (.bool (plainB s)) ∧ w = w' := by
  unfold maxLen at hs
  go_enter Tryz.func100, Tryz.ntmps100
  go_wp2
  go_loop [6] (fun i => ∃ k : Nat, k ≤ s.size ∧ i = .int .i64 k ∧ ∀ (j : Nat) (hj : j < s.size), j < k → chrOk s[j] = true) (fun i => s.size - (intOf i).toNat)
  case atStart => exact ⟨0, Nat.zero_le _, rfl, fun j _ h => absurd h (by omega)⟩
  case round =>
    obtain ⟨k, hk, rfl, hno⟩ := hrel
    have HN := Lib.hid hno
    clear hno
    by_cases hlt : k < s.size
    · by_cases h32 : (s[k].toNat : Int) < 32
      · go_wp2
        go_ret
        refine ⟨ret_b ?_, rfl⟩
        rw [plainB, textOk_no s k hlt (chr_lo h32), Bool.false_and]
      · by_cases h126 : (126 : Int) < (s[k].toNat : Int)
        · go_wp2
          go_ret
          refine ⟨ret_b ?_, rfl⟩
          rw [plainB, textOk_no s k hlt (chr_hi h126), Bool.false_and]
        · go_wp2
          go_round
          case rel =>
            refine ⟨k + 1, by omega, by go_num, fun j hj hjk => ?_⟩
            by_cases e : j = k
            · subst e; exact chr_in h32 h126
            · exact HN.out j hj (by omega)
          case measure => simp [intOf]; omega
    · go_wp2
      go_ret
      refine ⟨ret_b ?_, rfl⟩
      rw [plainB, textOk_yes s fun j hj => HN.out j hj (by omega), Bool.true_and]
      simp; omega


theorem bel1 (w : World) (o : Obj) : Below w.heap.size w (w.alloc o) := (Below.refl _ _).alloc (Nat.le_refl _) _

section
variable (n : Int) (s : ByteArray) (w : World)

set_option maxHeartbeats 1000000 in
theorem valid_0 : Calls Tryz.prog 51 #[.agg #[.int .i64 0, .int .i64 n, .string s]] w (RetBel (.bool (validV ⟨0, n, s⟩)) w) := by
  go_enter Tryz.func51, Tryz.ntmps51
  go_wp2
  all_goals go_ret
  all_goals
    refine ⟨ret_b ?_, bel1 _ _⟩
    simp_all [validV, noText]

set_option maxHeartbeats 1000000 in
theorem valid_1 : Calls Tryz.prog 51 #[.agg #[.int .i64 1, .int .i64 n, .string s]] w (RetBel (.bool (validV ⟨1, n, s⟩)) w) := by
  go_enter Tryz.func51, Tryz.ntmps51
  go_wp2
  all_goals go_ret
  all_goals
    refine ⟨ret_b ?_, bel1 _ _⟩
    simp_all [validV, noText]

set_option maxHeartbeats 1000000 in
theorem valid_2 : Calls Tryz.prog 51 #[.agg #[.int .i64 2, .int .i64 n, .string s]] w (RetBel (.bool (validV ⟨2, n, s⟩)) w) := by
  go_enter Tryz.func51, Tryz.ntmps51
  go_wp2
  all_goals go_ret
  all_goals
    refine ⟨ret_b ?_, bel1 _ _⟩
    simp_all [validV, noText]

set_option maxHeartbeats 1000000 in
theorem valid_3 (hs : s.size ≤ maxLen) : Calls Tryz.prog 51 #[.agg #[.int .i64 3, .int .i64 n, .string s]] w (RetBel (.bool (validV ⟨3, n, s⟩)) w) := by
  go_enter Tryz.func51, Tryz.ntmps51
  go_wp2_with (go_at_call 100; refine (plain_any _ _ hs).mono ?_; rintro e w1 ⟨rfl, rfl⟩)
  all_goals go_ret
  all_goals
    refine ⟨ret_b ?_, bel1 _ _⟩
    simp_all [validV]

set_option maxHeartbeats 1000000 in
theorem rvalid_0 : Calls Tryz.prog 174 #[.agg #[.int .i64 0, .int .i64 n, .string s]] w (RetBel (.bool (validV ⟨0, n, s⟩)) w) := by
  go_enter Tryz.func174, Tryz.ntmps174
  go_wp2
  all_goals go_ret
  all_goals
    refine ⟨ret_b ?_, bel1 _ _⟩
    simp_all [validV, noText]

set_option maxHeartbeats 1000000 in
theorem rvalid_1 : Calls Tryz.prog 174 #[.agg #[.int .i64 1, .int .i64 n, .string s]] w (RetBel (.bool (validV ⟨1, n, s⟩)) w) := by
  go_enter Tryz.func174, Tryz.ntmps174
  go_wp2
  all_goals go_ret
  all_goals
    refine ⟨ret_b ?_, bel1 _ _⟩
    simp_all [validV, noText]

set_option maxHeartbeats 1000000 in
theorem rvalid_2 : Calls Tryz.prog 174 #[.agg #[.int .i64 2, .int .i64 n, .string s]] w (RetBel (.bool (validV ⟨2, n, s⟩)) w) := by
  go_enter Tryz.func174, Tryz.ntmps174
  go_wp2
  all_goals go_ret
  all_goals
    refine ⟨ret_b ?_, bel1 _ _⟩
    simp_all [validV, noText]


set_option maxHeartbeats 1000000 in
theorem valid_x (k : Int) (h0 : k ≠ 0) (h1 : k ≠ 1) (h2 : k ≠ 2) (h3 : k ≠ 3) : Calls Tryz.prog 51 #[.agg #[.int .i64 k, .int .i64 n, .string s]] w (RetBel (.bool (validV ⟨k, n, s⟩)) w) := by
  have b0 : (k == 0) = false := by simpa using h0
  have b1 : (k == 1) = false := by simpa using h1
  have b2 : (k == 2) = false := by simpa using h2
  have b3 : (k == 3) = false := by simpa using h3
  have HR : Hid (validV ⟨k, n, s⟩ = false) := Lib.hid (by simp [validV, h0, h1, h2, h3])
  clear h0 h1 h2 h3
  go_enter Tryz.func51, Tryz.ntmps51
  go_wp2
  go_ret
  exact ⟨ret_b HR.out.symm, bel1 _ _⟩

set_option maxHeartbeats 1000000 in
theorem rvalid_x (k : Int) (h0 : k ≠ 0) (h1 : k ≠ 1) (h2 : k ≠ 2) (h3 : k ≠ 3) : Calls Tryz.prog 174 #[.agg #[.int .i64 k, .int .i64 n, .string s]] w (RetBel (.bool (validV ⟨k, n, s⟩)) w) := by
  have b0 : (k == 0) = false := by simpa using h0
  have b1 : (k == 1) = false := by simpa using h1
  have b2 : (k == 2) = false := by simpa using h2
  have b3 : (k == 3) = false := by simpa using h3
  have HR : Hid (validV ⟨k, n, s⟩ = false) := Lib.hid (by simp [validV, h0, h1, h2, h3])
  clear h0 h1 h2 h3
  go_enter Tryz.func174, Tryz.ntmps174
  go_wp2
  go_ret
  exact ⟨ret_b HR.out.symm, bel1 _ _⟩

set_option maxHeartbeats 1000000 in
theorem rvalid_3 (hs : s.size ≤ maxLen) : Calls Tryz.prog 174 #[.agg #[.int .i64 3, .int .i64 n, .string s]] w (RetBel (.bool (validV ⟨3, n, s⟩)) w) := by
  unfold maxLen at hs
  by_cases h1 : n = 0
  · subst h1
    by_cases h2 : s.size ≤ 64
    · have HP : Hid (validV ⟨3, 0, s⟩ = textOk s.data.toList) := Lib.hid (by simp [validV, plainB, h2])
      have h3 : ¬ 64 < (s.size : Int) := by omega
      go_enter Tryz.func174, Tryz.ntmps174
      go_wp2
      go_loop [3] (fun i => ∃ k : Nat, k ≤ s.size ∧ i = .int .i64 k ∧ ∀ (j : Nat) (hj : j < s.size), j < k → chrOk s[j] = true) (fun i => s.size - (intOf i).toNat)
      case atStart => exact ⟨0, Nat.zero_le _, rfl, fun j _ h => absurd h (by omega)⟩
      case round =>
        obtain ⟨k, hk, rfl, hno⟩ := hrel
        have HN := Lib.hid hno
        clear hno
        by_cases hlt : k < s.size
        · by_cases h32 : (s[k].toNat : Int) < 32
          · go_wp2
            go_ret
            exact ⟨ret_b (by rw [HP.out, textOk_no s k hlt (chr_lo h32)]), bel1 _ _⟩
          · by_cases h126 : (126 : Int) < (s[k].toNat : Int)
            · go_wp2
              go_ret
              exact ⟨ret_b (by rw [HP.out, textOk_no s k hlt (chr_hi h126)]), bel1 _ _⟩
            · go_wp2
              go_round
              case rel =>
                refine ⟨k + 1, by omega, by go_num, fun j hj hjk => ?_⟩
                by_cases e : j = k
                · subst e; exact chr_in h32 h126
                · exact HN.out j hj (by omega)
              case measure => simp [intOf]; omega
        · go_wp2
          go_ret
          exact ⟨ret_b (by rw [HP.out, textOk_yes s fun j hj => HN.out j hj (by omega)]), bel1 _ _⟩
    · have HP : Hid (validV ⟨3, 0, s⟩ = false) := Lib.hid (by simp [validV, plainB, h2])
      have h3 : 64 < (s.size : Int) := by omega
      go_enter Tryz.func174, Tryz.ntmps174
      go_wp2
      go_ret
      exact ⟨ret_b HP.out.symm, bel1 _ _⟩
  · have b1 : (n == 0) = false := by simpa using h1
    have b2 : (n != 0) = true := by simpa using h1
    have HP : Hid (validV ⟨3, n, s⟩ = false) := Lib.hid (by simp [validV, h1])
    clear h1
    go_enter Tryz.func174, Tryz.ntmps174
    go_wp2
    go_ret
    exact ⟨ret_b HP.out.symm, bel1 _ _⟩
end

def valOf (v : Val) : Value := .agg #[.int .i64 v.kind, .int .i64 v.int, .string v.text]

theorem valid_any (v : Val) (w : World) (hs : v.text.size ≤ maxLen) : Calls Tryz.prog 51 #[valOf v] w (RetBel (.bool (validV v)) w) := by
  obtain ⟨k, n, s⟩ := v
  by_cases h0 : k = 0
  · subst h0; exact valid_0 n s w
  by_cases h1 : k = 1
  · subst h1; exact valid_1 n s w
  by_cases h2 : k = 2
  · subst h2; exact valid_2 n s w
  by_cases h3 : k = 3
  · subst h3; exact valid_3 n s w hs
  exact valid_x n s w k h0 h1 h2 h3

theorem rvalid_any (v : Val) (w : World) (hs : v.text.size ≤ maxLen) : Calls Tryz.prog 174 #[valOf v] w (RetBel (.bool (validV v)) w) := by
  obtain ⟨k, n, s⟩ := v
  by_cases h0 : k = 0
  · subst h0; exact rvalid_0 n s w
  by_cases h1 : k = 1
  · subst h1; exact rvalid_1 n s w
  by_cases h2 : k = 2
  · subst h2; exact rvalid_2 n s w
  by_cases h3 : k = 3
  · subst h3; exact rvalid_3 n s w hs
  exact rvalid_x n s w k h0 h1 h2 h3

end Go.Proofs.YtkhlmofcdchccaaGreatDoor

namespace Go.Proofs.YtkhlmofcdchccaaGreatDoor
open Go.RowKit

theorem ret_int {k : IntKind} {a b : Int} (h : a = b) : Ending.returned (.int k a) = .returned (.int k b) := by rw [h]

theorem cmpInt_lt {a b : Int} (h : a < b) : Lib.compareInt a b = -1 := by unfold Lib.compareInt; rw [if_pos h]
theorem cmpInt_gt {a b : Int} (h : b < a) : Lib.compareInt a b = 1 := by unfold Lib.compareInt; rw [if_neg (by omega), if_pos h]
theorem cmpInt_eq {a b : Int} (h : b ≤ a) (k : a ≤ b) : Lib.compareInt a b = 0 := by unfold Lib.compareInt; rw [if_neg (by omega), if_neg (by omega)]

end Go.Proofs.YtkhlmofcdchccaaGreatDoor
namespace Go.Proofs.YtkhlmofcdchccaaGreatDoor
open Go.RowKit

def letB (c : UInt8) : Bool := decide (97 ≤ c.toNat) && decide (c.toNat ≤ 122)
def digB (c : UInt8) : Bool := decide (48 ≤ c.toNat) && decide (c.toNat ≤ 57)
def nchB (c : UInt8) : Bool := letB c || digB c || c.toNat == 95
/-- A name. -/
def nameB (s : ByteArray) : Bool := decide (1 ≤ s.size) && decide (s.size ≤ 12) && s.data.toList.all nchB && (s.data.toList.head?.any letB)
def kwIns : List UInt8 := [73, 78, 83, 69, 82, 84, 69, 68]
def kwDel : List UInt8 := [68, 69, 76, 69, 84, 69, 68]
def sourceB (s : ByteArray) : Bool := nameB s || s.toList == kwIns || s.toList == kwDel
def columnB (t n : ByteArray) : Bool := (t.toList == [] || t.toList == [78, 69, 87] || t.toList == [79, 76, 68] || t.toList == kwIns || t.toList == kwDel || nameB t) && nameB n
def valZ (v : Val) : Bool := decide (v.kind = 0) && decide (v.int = 0) && noText v.text
def nameZ (t n : ByteArray) : Bool := noText t && noText n

mutual
def validP : Ex → Bool
  | .mk k o no v t nm args sub =>
    if k = 1 then decide (o = 0) && !no && nameZ t nm && decide (args.length = 0) && decide (sub.length = 0) && validV v && !(decide (v.kind = 1) && decide (v.int < 0))
    else if k = 2 then decide (o = 0) && !no && valZ v && decide (args.length = 0) && decide (sub.length = 0) && columnB t nm
    else if 8 ≤ k ∧ k ≤ 12 then decide (o = 0) && !no && valZ v && nameZ t nm && decide (args.length = 0) && decide (sub.length = 1) && validS k sub
    else if k = 5 then decide (1 ≤ o) && decide (o ≤ 13) && !no && valZ v && nameZ t nm && decide (sub.length = 0) && decide (args.length = 2) && validL args
    else if k = 6 then decide (o = 0) && valZ v && nameZ t nm && decide (sub.length = 0) && decide (args.length = 1) && validL args
    else decide (o = 0) && !no && valZ v && nameZ t nm && decide (sub.length = 0) && decide ((args.length : Int) = if k = 3 ∨ k = 4 then 1 else if k = 7 then 3 else -1) && validL args
def validS (k : Int) : List Qu → Bool
  | [] => true
  | .mk st items f whr :: qs => (st == decide (k = 8)) && decide (items.length = if k = 8 ∨ k = 9 then 0 else 1) && sourceB f && decide (whr.length ≤ 1) && validL items && validL whr && validS k qs
def validL : List Ex → Bool
  | [] => true
  | e :: es => validP e && validL es
end

theorem validL_all : ∀ l : List Ex, validL l = l.all validP
  | [] => by simp [validL]
  | e :: l => by rw [validL, validL_all l, List.all_cons]

theorem validP_eq (e : Ex) : validP e =
    if e.kind = 1 then decide (e.op = 0) && !e.no && nameZ e.table e.name && decide (e.args.length = 0) && decide (e.sub.length = 0) && validV e.val && !(decide (e.val.kind = 1) && decide (e.val.int < 0))
    else if e.kind = 2 then decide (e.op = 0) && !e.no && valZ e.val && decide (e.args.length = 0) && decide (e.sub.length = 0) && columnB e.table e.name
    else if 8 ≤ e.kind ∧ e.kind ≤ 12 then decide (e.op = 0) && !e.no && valZ e.val && nameZ e.table e.name && decide (e.args.length = 0) && decide (e.sub.length = 1) && validS e.kind e.sub
    else if e.kind = 5 then decide (1 ≤ e.op) && decide (e.op ≤ 13) && !e.no && valZ e.val && nameZ e.table e.name && decide (e.sub.length = 0) && decide (e.args.length = 2) && validL e.args
    else if e.kind = 6 then decide (e.op = 0) && valZ e.val && nameZ e.table e.name && decide (e.sub.length = 0) && decide (e.args.length = 1) && validL e.args
    else decide (e.op = 0) && !e.no && valZ e.val && nameZ e.table e.name && decide (e.sub.length = 0) && decide ((e.args.length : Int) = if e.kind = 3 ∨ e.kind = 4 then 1 else if e.kind = 7 then 3 else -1) && validL e.args := by
  obtain ⟨k, o, no, v, t, nm, args, sub⟩ := e
  rw [validP]
  rfl

/-- Texts that a machine can hold. -/
inductive TxtOk : Ex → Prop
  | mk (e : Ex) (hv : e.val.text.size ≤ maxLen) (ht : e.table.size ≤ maxLen) (hn : e.name.size ≤ maxLen) (ha : ∀ a ∈ e.args, TxtOk a) (hq : ∀ q ∈ e.sub, q.frm.size ≤ maxLen) (hi : ∀ q ∈ e.sub, ∀ x ∈ q.items, TxtOk x) (hw : ∀ q ∈ e.sub, ∀ x ∈ q.whr, TxtOk x) : TxtOk e
end Go.Proofs.YtkhlmofcdchccaaGreatDoor

namespace Go.Proofs.YtkhlmofcdchccaaGreatDoor
open Go.RowKit

set_option maxHeartbeats 1000000 in
theorem validName_any (s : ByteArray) (w : World) (hs : s.size ≤ maxLen) : Calls Tryz.prog 101 #[.string s] w (RetBel (.bool (nameB s)) w) := by
  unfold maxLen at hs
  by_cases h0 : s.size < 1
  · have hn : Hid (nameB s = false) := Lib.hid (by unfold nameB; simp; omega)
    have h0' : ((s.size : Int) < 1) := by omega
    clear h0
    go_enter Tryz.func101, Tryz.ntmps101
    go_wp2_with fail
    go_ret
    exact ⟨ret_b hn.out.symm, Below.refl _ _⟩
  · by_cases h12 : 12 < s.size
    · have hn : Hid (nameB s = false) := Lib.hid (by unfold nameB; simp; omega)
      have h12' : ((12 : Int) < s.size) := by omega
      go_enter Tryz.func101, Tryz.ntmps101
      go_wp2_with fail
      go_ret
      exact ⟨ret_b hn.out.symm, Below.refl _ _⟩
    · have h0' : ¬ ((s.size : Int) < 1) := by omega
      have h12' : ¬ ((12 : Int) < s.size) := by omega
      have hz : 0 < s.size := by omega
      have hL : s.data.toList = s[0] :: s.data.toList.tail := by
        rcases hd : s.data.toList with _ | ⟨c, l⟩
        · have h1 := congrArg List.length hd
          rw [Array.length_toList] at h1
          exact absurd (show s.size = 0 from h1) (by omega)
        · have h1 : s.data.toList[0]? = some c := by rw [hd]; rfl
          have h2 : s.data.toList[0]? = some s[0] := by simp [hz]; rfl
          rw [h1] at h2
          cases h2
          rfl
      have hN : nameB s = (decide (97 ≤ s[0].toNat) && s.data.toList.all nchB) := by
        have e1 : decide (1 ≤ s.size) = true := decide_eq_true (by omega)
        have e2 : decide (s.size ≤ 12) = true := decide_eq_true (by omega)
        unfold nameB
        rw [e1, e2, hL]
        generalize s[0] = c
        generalize s.data.toList.tail = l
        simp only [List.all_cons, List.head?_cons, Option.any_some, Bool.true_and]
        cases hl : l.all nchB
        · simp
        · simp only [Bool.and_true, nchB, letB, digB]
          cases h97 : decide (97 ≤ c.toNat)
          · simp
          · have h97' : 97 ≤ c.toNat := by simpa using h97
            have h57 : decide (c.toNat ≤ 57) = false := by simp; omega
            have h95 : (c.toNat == 95) = false := by simp; omega
            simp [h57, h95]
      by_cases ha : (s[0].toNat : Int) < 97
      · have hn : Hid (nameB s = false) := Lib.hid (by rw [hN]; simp; omega)
        clear hN hL
        go_enter Tryz.func101, Tryz.ntmps101
        go_wp2_with fail
        go_ret
        exact ⟨ret_b hn.out.symm, Below.refl _ _⟩
      · have HN := Lib.hid hN
        have hconv := run_bytes_of_string (P := Tryz.prog) w 9 65 5 s Tryz.underlying9 Tryz.underlying65 Tryz.underlying5
        generalize hcap : grownCap w s.size 0 5 = cap at hconv
        have hcell : ∀ j (h : j < s.size), (bytesRow s cap)[j]? = some (.int .u8 (s[j].toNat : Int)) := fun j h => bytesRow_at s cap j h
        generalize bytesRow s cap = C at hconv hcell
        have HC := Lib.hid hcell
        have h95 : ((s[0].toNat : Int) != 95) = true := by simp; omega
        clear hN hL hcell
        go_enter Tryz.func101, Tryz.ntmps101
        go_wp2_with fail
        clear hconv
        generalize hW : World.drew _ = W2
        have hB2 : Below w.heap.size w W2 := by rw [← hW]; exact ((Below.refl _ _).alloc (Nat.le_refl _) _).drew
        have hc2 : ∀ j (h : j < s.size), W2.cell? ⟨w.heap.size, j, none⟩ = some (.int .u8 (s[j].toNat : Int)) := fun j h => by rw [← hW]; exact (cell_of_row (w.alloc _) w.heap.size j C 5 _ (heap_alloc_new w _)).trans (by simpa using HC.out j h)
        have HB2 := Lib.hid hB2
        have HC2 := Lib.hid hc2
        clear hW hB2 hc2 HC
        go_loopw [21] (fun i wr => ∃ j : Nat, j ≤ s.size ∧ i = .int .i64 j ∧ wr = W2 ∧ ∀ (m : Nat) (hm : m < s.size), m < j → nchB s[m] = true) (fun i _ => s.size - (intOf i).toNat)
        case atStart => exact ⟨0, Nat.zero_le _, rfl, rfl, fun m _ h => absurd h (by omega)⟩
        case round =>
          obtain ⟨j, hj, rfl, rfl, hno⟩ := hrel
          have HNO := Lib.hid hno
          clear hno
          by_cases hlt : j < s.size
          · have c0 := HC2.out j hlt
            have HQ : Hid (∀ b, ((decide (97 ≤ s[j].toNat) && decide (s[j].toNat ≤ 122)) || (decide (48 ≤ s[j].toNat) && decide (s[j].toNat ≤ 57)) || s[j].toNat == 95) = b → nchB s[j] = b) := Lib.hid fun b h => h
            have HS : Hid (nchB s[j] = false → nameB s = false) := Lib.hid fun h => by
              rw [HN.out, show s.data.toList.all nchB = false from List.all_eq_false.2 ⟨s[j], List.mem_iff_getElem.2 ⟨j, by simpa using hlt, rfl⟩, by simp [h]⟩, Bool.and_false]
            generalize hnc : nchB s[j] = nc at HQ HS
            have HNC := Lib.hid hnc
            clear hnc
            generalize s[j].toNat = ch at c0 HQ
            go_wp2_with fail
            all_goals first
              | (go_ret
                 refine ⟨ret_b (HS.out (HQ.out false ?_)).symm, HB2.out⟩
                 simp_all <;> omega)
              | (go_roundw
                 case rel =>
                   refine ⟨j + 1, by omega, by go_num, trivial, fun m hm h => ?_⟩
                   by_cases e : m = j
                   · subst e
                     rw [HNC.out]
                     refine HQ.out true ?_
                     simp_all <;> omega
                   · exact HNO.out m hm (by omega)
                 case measure => simp [intOf]; omega)
          · obtain rfl : j = s.size := by omega
            have hall : s.data.toList.all nchB = true := by
              rw [List.all_eq_true]
              intro c hc
              obtain ⟨m, hm, rfl⟩ := List.mem_iff_getElem.1 hc
              exact HNO.out m (by simpa using hm) (by simpa using hm)
            have hn : Hid (nameB s = true) := Lib.hid (by rw [HN.out, hall]; simp; omega)
            clear hall
            go_wp2_with fail
            go_ret
            exact ⟨ret_b hn.out.symm, HB2.out⟩
end Go.Proofs.YtkhlmofcdchccaaGreatDoor
namespace Go.Proofs
open Go.Shelf
def Tryz.lays106_ren : Go.Shelf.Ren := ⟨fun | 106 => 177 | 213 => 204 | 265 => 219 | n => n, fun | 9 => 9 | 3 => 3 | n => n, fun | n => n⟩
theorem Tryz.lays106 : Go.Proofs.Lays.n106 Tryz.prog Tryz.lays106_ren := {
  mixed := by kernel_rfl
  f106 := Tryz.func177.trans (congrArg some (by kernel_rfl))
  f213 := Tryz.func204.trans (congrArg some (by kernel_rfl))
  f265 := Tryz.func219.trans (congrArg some (by kernel_rfl))
  t3 := Tryz.underlying3
  a3 := Tryz.isAgg3
  z3 := Tryz.sizeOf3
  v3 := Tryz.zeroValue3
  t9 := Tryz.underlying9
  a9 := Tryz.isAgg9
  z9 := Tryz.sizeOf9
  v9 := Tryz.zeroValue9 }
open Go.RowKit in
/-- strings.Compare: "Compare returns an integer comparing two strings lexicographically. The result will be 0 if a == b, -1 if a < b, and +1 if a > b.": IT RETURNS 'Lib.compareBytes a b'; the world is as it was. (LAID: no walk: one application.) -/
theorem Tryz.strings_Compare (a b : ByteArray) (w : World) :
    Calls Tryz.prog 177 #[.string a, .string b] w fun e w' => e = .returned (.int .i64 (Lib.compareBytes a.data.toList b.data.toList)) ∧ w' = w := Any.strings_Compare Tryz.lays106 a b w
end Go.Proofs
namespace Go.Proofs
open Go.Shelf
end Go.Proofs
