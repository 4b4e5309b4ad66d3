/- The data of this seat's walks as plain Lean types (values, columns, schemas, frames, tables, expressions, queries), and which cells hold them. No program is named here. -/
import Derived.Test.YtiheioajnfggmaaDoorB0
namespace Go.Proofs.YtiheioajnfggmaaDoor
open Go.RowKit

structure Val where
  kind : Int
  int : Int
  text : ByteArray

structure Col where
  name : ByteArray
  type : Int
  notNull : Bool
  key : Bool

structure Sch where
  name : ByteArray
  cols : List Col

structure Frm where
  name : ByteArray
  strict : Bool
  cols : List Col

mutual
inductive Ex where
  | mk (kind op : Int) (no : Bool) (val : Val) (table name : ByteArray) (args : List Ex) (sub : List Qu)
inductive Qu where
  | mk (star : Bool) (items : List Ex) (frm : ByteArray) (whr : List Ex)
end

def Ex.kind : Ex → Int | .mk k _ _ _ _ _ _ _ => k
def Ex.op : Ex → Int | .mk _ o _ _ _ _ _ _ => o
def Ex.no : Ex → Bool | .mk _ _ n _ _ _ _ _ => n
def Ex.val : Ex → Val | .mk _ _ _ v _ _ _ _ => v
def Ex.table : Ex → ByteArray | .mk _ _ _ _ t _ _ _ => t
def Ex.name : Ex → ByteArray | .mk _ _ _ _ _ n _ _ => n
def Ex.args : Ex → List Ex | .mk _ _ _ _ _ _ a _ => a
def Ex.sub : Ex → List Qu | .mk _ _ _ _ _ _ _ s => s
def Qu.star : Qu → Bool | .mk s _ _ _ => s
def Qu.items : Qu → List Ex | .mk _ i _ _ => i
def Qu.frm : Qu → ByteArray | .mk _ _ f _ => f
def Qu.whr : Qu → List Ex | .mk _ _ _ w => w

theorem Ex.eta (e : Ex) : e = .mk e.kind e.op e.no e.val e.table e.name e.args e.sub := by cases e; rfl
theorem Qu.eta (q : Qu) : q = .mk q.star q.items q.frm q.whr := by cases q; rfl

theorem Ex.ind_aux {P : Ex → Prop} (h : ∀ e : Ex, (∀ a ∈ e.args, P a) → (∀ q ∈ e.sub, (∀ x ∈ q.items, P x) ∧ (∀ x ∈ q.whr, P x)) → P e) : ∀ (n : Nat) (e : Ex), SizeOf.sizeOf e ≤ n → P e := by
  intro n
  induction n with
  | zero => intro e he; cases e; simp at he
  | succ n ih =>
    intro e he
    cases e with
    | mk k o no v t nm args sub =>
      simp only [Ex.mk.sizeOf_spec] at he
      refine h _ (fun a ha => ih a ?_) (fun q hq => ⟨fun x hx => ih x ?_, fun x hx => ih x ?_⟩)
      · have := List.sizeOf_lt_of_mem (show a ∈ args from ha); omega
      · have h1 := List.sizeOf_lt_of_mem (show q ∈ sub from hq)
        cases q with
        | mk s it f wh =>
          have h2 := List.sizeOf_lt_of_mem (show x ∈ it from hx)
          simp only [Qu.mk.sizeOf_spec] at h1
          omega
      · have h1 := List.sizeOf_lt_of_mem (show q ∈ sub from hq)
        cases q with
        | mk s it f wh =>
          have h2 := List.sizeOf_lt_of_mem (show x ∈ wh from hx)
          simp only [Qu.mk.sizeOf_spec] at h1
          omega

/-- Induction on an expression: what holds of all its arguments and of all items and conditions of its queries. -/
theorem Ex.ind {P : Ex → Prop} (h : ∀ e : Ex, (∀ a ∈ e.args, P a) → (∀ q ∈ e.sub, (∀ x ∈ q.items, P x) ∧ (∀ x ∈ q.whr, P x)) → P e) (e : Ex) : P e := Ex.ind_aux h _ e (Nat.le_refl _)

def valCells (v : Val) : List Value := [.int .i64 v.kind, .int .i64 v.int, .string v.text]
def colCells (c : Col) : List Value := [.string c.name, .int .i64 c.type, .bool c.notNull, .bool c.key]

def ColR (c : Col) (cs : List Value) : Prop := cs = colCells c
def ValR (v : Val) (cs : List Value) : Prop := cs = valCells v
def IntR (n : Int) (cs : List Value) : Prop := cs = [.int .i64 n]
def StrR (s : ByteArray) (cs : List Value) : Prop := cs = [.string s]

def ColsR (M : Nat → Prop) (w : World) (v : Value) (l : List Col) : Prop := RowsR M w 4 ColR v l
def SchR (M : Nat → Prop) (w : World) (s : Sch) (cs : List Value) : Prop := ∃ vc, cs = [.string s.name, vc] ∧ ColsR M w vc s.cols
def FrmR (M : Nat → Prop) (w : World) (f : Frm) (cs : List Value) : Prop := ∃ vc a n c, cs = [.string f.name, .bool f.strict, vc, .slice a n c] ∧ ColsR M w vc f.cols
def TblR (M : Nat → Prop) (w : World) (s : Sch) (cs : List Value) : Prop := ∃ vc n a l c, cs = [.string s.name, vc, .int .i64 n, .slice a l c] ∧ ColsR M w vc s.cols
def FrmsR (M : Nat → Prop) (w : World) (v : Value) (l : List Frm) : Prop := RowsR M w 4 (FrmR M w) v l
def TblsR (M : Nat → Prop) (w : World) (v : Value) (l : List Sch) : Prop := RowsR M w 4 (TblR M w) v l
def SchsR (M : Nat → Prop) (w : World) (v : Value) (l : List Sch) : Prop := RowsR M w 2 (SchR M w) v l

section
variable {M : Nat → Prop} {w w' : World}
theorem ColsR.keep {v : Value} {l : List Col} (h : ColsR M w v l) (k : Keep M w w') : ColsR M w' v l := RowsR.map h k fun _ _ _ h => h
theorem SchR.keep {s : Sch} {cs : List Value} (h : SchR M w s cs) (k : Keep M w w') : SchR M w' s cs := let ⟨vc, a, b⟩ := h; ⟨vc, a, b.keep k⟩
theorem FrmR.keep {s : Frm} {cs : List Value} (h : FrmR M w s cs) (k : Keep M w w') : FrmR M w' s cs := let ⟨vc, x, n, c, a, b⟩ := h; ⟨vc, x, n, c, a, b.keep k⟩
theorem TblR.keep {s : Sch} {cs : List Value} (h : TblR M w s cs) (k : Keep M w w') : TblR M w' s cs := let ⟨vc, n, x, l, c, a, b⟩ := h; ⟨vc, n, x, l, c, a, b.keep k⟩
theorem FrmsR.keep {v : Value} {l : List Frm} (h : FrmsR M w v l) (k : Keep M w w') : FrmsR M w' v l := RowsR.map h k fun _ _ _ h => h.keep k
theorem TblsR.keep {v : Value} {l : List Sch} (h : TblsR M w v l) (k : Keep M w w') : TblsR M w' v l := RowsR.map h k fun _ _ _ h => h.keep k
theorem SchsR.keep {v : Value} {l : List Sch} (h : SchsR M w v l) (k : Keep M w w') : SchsR M w' v l := RowsR.map h k fun _ _ _ h => h.keep k
end

section
variable {M M' : Nat → Prop} {w : World} (hM : ∀ k, k < w.heap.size → M' k → M k)
include hM
theorem ColsR.weak {v : Value} {l : List Col} (h : ColsR M w v l) : ColsR M' w v l := RowsR.weak h hM fun _ _ _ h => h
theorem SchR.weak {s : Sch} {cs : List Value} (h : SchR M w s cs) : SchR M' w s cs := let ⟨vc, a, b⟩ := h; ⟨vc, a, b.weak hM⟩
theorem FrmR.weak {s : Frm} {cs : List Value} (h : FrmR M w s cs) : FrmR M' w s cs := let ⟨vc, x, n, c, a, b⟩ := h; ⟨vc, x, n, c, a, b.weak hM⟩
theorem TblR.weak {s : Sch} {cs : List Value} (h : TblR M w s cs) : TblR M' w s cs := let ⟨vc, n, x, l, c, a, b⟩ := h; ⟨vc, n, x, l, c, a, b.weak hM⟩
theorem FrmsR.weak {v : Value} {l : List Frm} (h : FrmsR M w v l) : FrmsR M' w v l := RowsR.weak h hM fun _ _ _ h => h.weak hM
theorem TblsR.weak {v : Value} {l : List Sch} (h : TblsR M w v l) : TblsR M' w v l := RowsR.weak h hM fun _ _ _ h => h.weak hM
theorem SchsR.weak {v : Value} {l : List Sch} (h : SchsR M w v l) : SchsR M' w v l := RowsR.weak h hM fun _ _ _ h => h.weak hM
end

def exCells (k o : Int) (no : Bool) (v : Val) (t nm : ByteArray) (va vs : Value) : List Value :=
  [.int .i64 k, .int .i64 o, .bool no, .int .i64 v.kind, .int .i64 v.int, .string v.text, .string t, .string nm, va, vs]

mutual
def EC (M : Nat → Prop) (w : World) : Ex → List Value → Prop
  | .mk k o no v t nm args sub, cs => ∃ va vs, cs = exCells k o no v t nm va vs ∧ (∃ css, SliceOf M w 10 va css ∧ ECs M w args css) ∧ (∃ css, SliceOf M w 4 vs css ∧ QCs M w sub css)
def QC (M : Nat → Prop) (w : World) : Qu → List Value → Prop
  | .mk s items f whr, cs => ∃ vi vw, cs = [.bool s, vi, .string f, vw] ∧ (∃ css, SliceOf M w 10 vi css ∧ ECs M w items css) ∧ (∃ css, SliceOf M w 10 vw css ∧ ECs M w whr css)
def ECs (M : Nat → Prop) (w : World) : List Ex → List (List Value) → Prop
  | [], css => css = []
  | e :: es, css => ∃ c cs, css = c :: cs ∧ EC M w e c ∧ ECs M w es cs
def QCs (M : Nat → Prop) (w : World) : List Qu → List (List Value) → Prop
  | [], css => css = []
  | e :: es, css => ∃ c cs, css = c :: cs ∧ QC M w e c ∧ QCs M w es cs
end

theorem ECs_iff (M : Nat → Prop) (w : World) : ∀ (es : List Ex) (css : List (List Value)), ECs M w es css ↔ css.length = es.length ∧ ∀ (i : Nat) (x : Ex) (cs : List Value), es[i]? = some x → css[i]? = some cs → EC M w x cs
  | [], css => by simp [ECs]
  | e :: es, css => by
    constructor
    · rintro ⟨c, cs, rfl, h1, h2⟩
      obtain ⟨hl, hh⟩ := (ECs_iff M w es cs).1 h2
      refine ⟨by simp [hl], fun i x d hi hd => ?_⟩
      cases i with
      | zero => simp at hi hd; subst hi; subst hd; exact h1
      | succ i => exact hh i x d (by simpa using hi) (by simpa using hd)
    · rintro ⟨hl, hh⟩
      match css, hl with
      | c :: cs, hl =>
        refine ⟨c, cs, rfl, hh 0 e c rfl rfl, (ECs_iff M w es cs).2 ⟨by simpa using hl, fun i x d hi hd => hh (i + 1) x d (by simpa using hi) (by simpa using hd)⟩⟩

theorem QCs_iff (M : Nat → Prop) (w : World) : ∀ (es : List Qu) (css : List (List Value)), QCs M w es css ↔ css.length = es.length ∧ ∀ (i : Nat) (x : Qu) (cs : List Value), es[i]? = some x → css[i]? = some cs → QC M w x cs
  | [], css => by simp [QCs]
  | e :: es, css => by
    constructor
    · rintro ⟨c, cs, rfl, h1, h2⟩
      obtain ⟨hl, hh⟩ := (QCs_iff M w es cs).1 h2
      refine ⟨by simp [hl], fun i x d hi hd => ?_⟩
      cases i with
      | zero => simp at hi hd; subst hi; subst hd; exact h1
      | succ i => exact hh i x d (by simpa using hi) (by simpa using hd)
    · rintro ⟨hl, hh⟩
      match css, hl with
      | c :: cs, hl =>
        refine ⟨c, cs, rfl, hh 0 e c rfl rfl, (QCs_iff M w es cs).2 ⟨by simpa using hl, fun i x d hi hd => hh (i + 1) x d (by simpa using hi) (by simpa using hd)⟩⟩

def ExsR (M : Nat → Prop) (w : World) (v : Value) (l : List Ex) : Prop := RowsR M w 10 (EC M w) v l
def QusR (M : Nat → Prop) (w : World) (v : Value) (l : List Qu) : Prop := RowsR M w 4 (QC M w) v l

theorem EC_iff (M : Nat → Prop) (w : World) (e : Ex) (cs : List Value) : EC M w e cs ↔ ∃ va vs, cs = exCells e.kind e.op e.no e.val e.table e.name va vs ∧ ExsR M w va e.args ∧ QusR M w vs e.sub := by
  cases e with
  | mk k o no v t nm args sub =>
    simp only [EC, ECs_iff, QCs_iff]
    rfl

theorem QC_iff (M : Nat → Prop) (w : World) (q : Qu) (cs : List Value) : QC M w q cs ↔ ∃ vi vw, cs = [.bool q.star, vi, .string q.frm, vw] ∧ ExsR M w vi q.items ∧ ExsR M w vw q.whr := by
  cases q with
  | mk s it f wh =>
    simp only [QC, ECs_iff]
    rfl

theorem EC.keep {M : Nat → Prop} {w w' : World} (k : Keep M w w') (e : Ex) : ∀ cs, EC M w e cs → EC M w' e cs := by
  refine Ex.ind (P := fun e => ∀ cs, EC M w e cs → EC M w' e cs) (fun e ha hq cs h => ?_) e
  obtain ⟨va, vs, h1, h2, h3⟩ := (EC_iff ..).1 h
  refine (EC_iff ..).2 ⟨va, vs, h1, RowsR.map h2 k fun x hx cs hc => ha x hx cs hc, RowsR.map h3 k fun q hqm cs hc => ?_⟩
  obtain ⟨vi, vw, g1, g2, g3⟩ := (QC_iff ..).1 hc
  exact (QC_iff ..).2 ⟨vi, vw, g1, RowsR.map g2 k fun x hx cs hc => (hq q hqm).1 x hx cs hc, RowsR.map g3 k fun x hx cs hc => (hq q hqm).2 x hx cs hc⟩

theorem ExsR.keep {M : Nat → Prop} {w w' : World} {v : Value} {l : List Ex} (h : ExsR M w v l) (k : Keep M w w') : ExsR M w' v l := RowsR.map h k fun x _ cs hc => EC.keep k x cs hc

theorem QC.keep {M : Nat → Prop} {w w' : World} (k : Keep M w w') {q : Qu} {cs : List Value} (h : QC M w q cs) : QC M w' q cs := by
  obtain ⟨vi, vw, g1, g2, g3⟩ := (QC_iff ..).1 h
  exact (QC_iff ..).2 ⟨vi, vw, g1, g2.keep k, g3.keep k⟩

theorem QusR.keep {M : Nat → Prop} {w w' : World} {v : Value} {l : List Qu} (h : QusR M w v l) (k : Keep M w w') : QusR M w' v l := RowsR.map h k fun _ _ _ hc => QC.keep k hc

theorem EC.weak {M M' : Nat → Prop} {w : World} (hM : ∀ k, k < w.heap.size → M' k → M k) (e : Ex) : ∀ cs, EC M w e cs → EC M' w e cs := by
  refine Ex.ind (P := fun e => ∀ cs, EC M w e cs → EC M' w e cs) (fun e ha hq cs h => ?_) e
  obtain ⟨va, vs, h1, h2, h3⟩ := (EC_iff ..).1 h
  refine (EC_iff ..).2 ⟨va, vs, h1, RowsR.weak h2 hM fun x hx cs hc => ha x hx cs hc, RowsR.weak h3 hM fun q hqm cs hc => ?_⟩
  obtain ⟨vi, vw, g1, g2, g3⟩ := (QC_iff ..).1 hc
  exact (QC_iff ..).2 ⟨vi, vw, g1, RowsR.weak g2 hM fun x hx cs hc => (hq q hqm).1 x hx cs hc, RowsR.weak g3 hM fun x hx cs hc => (hq q hqm).2 x hx cs hc⟩

theorem ExsR.weak {M M' : Nat → Prop} {w : World} (hM : ∀ k, k < w.heap.size → M' k → M k) {v : Value} {l : List Ex} (h : ExsR M w v l) : ExsR M' w v l := RowsR.weak h hM fun x _ cs hc => EC.weak hM x cs hc

theorem QC.weak {M M' : Nat → Prop} {w : World} (hM : ∀ k, k < w.heap.size → M' k → M k) {q : Qu} {cs : List Value} (h : QC M w q cs) : QC M' w q cs := by
  obtain ⟨vi, vw, g1, g2, g3⟩ := (QC_iff ..).1 h
  exact (QC_iff ..).2 ⟨vi, vw, g1, g2.weak hM, g3.weak hM⟩

theorem QusR.weak {M M' : Nat → Prop} {w : World} (hM : ∀ k, k < w.heap.size → M' k → M k) {v : Value} {l : List Qu} (h : QusR M w v l) : QusR M' w v l := RowsR.weak h hM fun _ _ _ hc => QC.weak hM hc

theorem cols_new {M : Nat → Prop} {w : World} {arr : Array Value} {e : TypeId} {g n c : Nat} (xs : List Col) (hg : g = w.heap.size) (hT : ¬ M w.heap.size) (ha : arr.toList = (xs.map colCells).flatten) (hn : n = xs.length) (hc : n ≤ c) (hm : c ≤ maxLen) :
    ColsR M (w.alloc (.cells arr e)) (.slice (some ⟨g, 0, none⟩) n c) xs := by
  refine RowsR.new (xs.map colCells) hg hT ha (fun cs h => ?_) (by simp [hn]) hc hm (by simp) (fun i x cs hi hc => ?_)
  · obtain ⟨x, _, rfl⟩ := List.mem_map.1 h
    rfl
  · simp only [List.getElem?_map, hi, Option.map_some, Option.some.injEq] at hc
    exact hc.symm

end Go.Proofs.YtiheioajnfggmaaDoor
