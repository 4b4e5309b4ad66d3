/- What the rows of this seat need: the last step of each statement's row, the listed tables. (Drawn by genRPL.py out of R0, RLaid, RT0.) -/
import Derived.Test.YtkhlmofcdchccaaGreatDoorCards
import Derived.Test.YtkhlmofcdchccaaGreatDoorTie
import Derived.Test.YtkhlmofcdchccaaGreatDoorP0
import Derived.WalkKit
import Derived.ProofKit
import Derived.OpenShut
import Derived.Deep.DeepHandedRow
import Derived.Lib.LaidTab
import Derived.LaidLaws
namespace Go.Proofs.YtkhlmofcdchccaaGreatDoor
open Go.ChangeShapes Go.WideShapes Go.ChangeAt Go.RowKit

theorem ownKnobs : ownKnob Tryz.prog.godebug = none := by kernel_rfl

section

variable {H : Type} {enc : TypeId × Value → H} {P : Program}

/-- All arguments read as before where only new blocks were made. -/
theorem args_stay (hl : laidOutB P = true) {W W' : World} {sp : Nat → Bool} (hb : Below W.heap.size W W') : ∀ {ts : List TypeId} {vs : List Value} {ds : List (DataW H)} {ps : List MemPlace},
    (∀ t ∈ ts, P.readableRec t = true ∧ t < P.types.size) → DataW.TrodAll enc P W 0 (fun _ => true) true ts vs ds ps → (∀ p ∈ ps, p.block < W.heap.size) → (∀ p ∈ ps, sp p.block = true) → DataW.TrodAll enc P W' 0 sp true ts vs ds ps
  | [], vs, ds, ps, _, h, _, _ => by
    obtain ⟨rfl, rfl, rfl⟩ := trodAll_nil h
    exact trodAll_mk0
  | t :: ts, vs, ds, ps, hts, h, hlt, hs => by
    obtain ⟨v, vs', d, ds', p, q, rfl, rfl, rfl, h1, h2⟩ := trodAll_cons h
    obtain ⟨hr, hrow⟩ := hts t (List.mem_cons_self ..)
    have g1 := Go.WideElems.Trod_stays (sp' := sp) hl hr hrow h1 (fun x hx => hb.same (hlt x (List.mem_append_left _ hx))) (fun x hx => hs x (List.mem_append_left _ hx))
    have g2 := args_stay hl hb (fun t ht => hts t (List.mem_cons_of_mem _ ht)) h2 (fun x hx => hlt x (List.mem_append_right _ hx)) (fun x hx => hs x (List.mem_append_right _ hx))
    exact trodAll_cons_mk g1 g2

/-- WHAT A STATEMENT ASKS, where the call has returned true and made new memory only. -/
theorem law_post {f : Func} {s : ChangeSpec} {W W' : World} {args : Array Value} {ds gs : List (DataW H)} {before : List MemPlace} (hl : laidOutB P = true)
    (hts : (f.params.toList.all fun t => P.readableRec t && decide (t < P.types.size)) = true) (hv : s.vars = []) {boolT : TypeId} (hres : f.resultTypes = #[boolT]) (hbool : P.underlying boolT = some .bool)
    (hfn : (s.fn H (ds ++ gs)).results = [.lit (.bool true)] ∧ (s.fn H (ds ++ gs)).args = ds ∧ (s.fn H (ds ++ gs)).vars = [])
    (hW : DataW.Whole enc P f.params.toList s.vars false W args.toList ds gs before) (hb : Below W.heap.size W W') : s.post enc P f false true false false W args (.bool true) W' := by
  have hlt : ∀ p ∈ before, p.block < W.heap.size := fun p hp => hW.lt p hp
  have hW0 := hW
  obtain ⟨p, q, hA, hV, rfl, _, _⟩ := hW0
  rw [hv] at hV
  obtain ⟨rfl, rfl⟩ := trodVars_none hV
  obtain ⟨e1, e2, e3⟩ := hfn
  refine ⟨ds, [], _, [], p, [], hW, ?_, ?_, ?_, World.keptBut_mono (fun x hx => ⟨hx, ?_⟩) (hb.frame (· ∈ p ++ [])), fun h => by cases h⟩
  · rw [e1, hres]
    exact trodAll_mk1 (shut_bool hbool true)
  · rw [e2]
    refine args_stay hl hb (fun t ht => ?_) hA (fun x hx => hlt x (by simp [hx])) (fun x hx => by simpa using hlt x (by simp [hx]))
    simpa using List.all_eq_true.1 hts t ht
  · rw [e3, hv]
    rfl
  · exact .inr (.inl (by simpa using hx))

end

theorem laid_tail {P : Program} {x : String × DataW Unit} {r : List (String × DataW Unit)} {w : World} (h : laidMet P (x :: r) w) : laidMet P r w := by
  obtain ⟨ps, ⟨g, t, cs, fuel, p, q, _, _, _, _, hr, rfl⟩, hnd, hz⟩ := h
  exact ⟨q, hr, (List.nodup_append.1 hnd).2.1, fun b off hm => hz b off (by simp [hm])⟩

def setTab (cs : Array Value) : Obj → Obj
  | .cells _ t f => .cells cs t f
  | o => o

theorem laidOut : laidOutB Tryz.prog = true := by kernel_rfl

section
variable {H : Type} {enc : TypeId × Value → H} {P : Program} {W : World}
/-- The cells read as this datum. -/
def Rd (enc : TypeId × Value → H) (P : Program) (W : World) (t : TypeId) (cs : List Value) (d : DataW H) : Prop := ∃ fuel ps, DataW.trod enc P W 0 (fun _ => true) true fuel t cs = some (d, ps)

/-- The arguments one by one. -/
theorem trod_all {ts : List TypeId} {vs : List Value} {ds : List (DataW H)} {ps : List MemPlace} (h : DataW.TrodAll enc P W 0 (fun _ => true) true ts vs ds ps) :
    vs.length = ts.length ∧ ds.length = ts.length ∧ ∀ (i : Nat) (t : TypeId) (v : Value) (d : DataW H), ts[i]? = some t → vs[i]? = some v → ds[i]? = some d → Rd enc P W t v.cells.toList d := by
  induction ts generalizing vs ds ps with
  | nil =>
    obtain ⟨rfl, rfl, _⟩ := Go.ChangeShapes.trodAll_nil h
    exact ⟨rfl, rfl, by simp⟩
  | cons t ts ih =>
    obtain ⟨v, vs', d, ds', p, q, rfl, rfl, _, h1, h2⟩ := Go.ChangeShapes.trodAll_cons h
    obtain ⟨l1, l2, hr⟩ := ih h2
    refine ⟨by simp [l1], by simp [l2], fun i t' v' d' ht hv hd => ?_⟩
    cases i with
    | zero =>
      simp at ht hv hd
      subst ht; subst hv; subst hd
      obtain ⟨n, hn⟩ := h1
      exact ⟨n, _, hn⟩
    | succ i => exact hr i t' v' d' (by simpa using ht) (by simpa using hv) (by simpa using hd)

end
theorem list2 {α : Type} {l : List α} (h : l.length = 2) : ∃ a b, l = [a, b] := by
  match l, h with
  | [a, b], _ => exact ⟨a, b, rfl⟩

def litCells1 : DataW Unit → List Value
  | .lit (.int k z) => [.int k z]
  | .lit (.string s) => [.string ⟨s.toArray⟩]
  | _ => []

def litCells2 : DataW Unit → List Value
  | .lit l => litCells1 (.lit l)
  | .agg xs => xs.flatMap litCells1
  | _ => []

def litCells : DataW Unit → Array Value
  | .agg xs => (xs.flatMap litCells2).toArray
  | _ => #[]

theorem tPow : (Tryz.prog.globals[4]?).map (·.type) = some 287 := by kernel_rfl

theorem pow_of {W : World} {rest : List (String × DataW Unit)} (h : laidMet Tryz.prog (("internal/strconv.uint64pow10", Rows.laid_internal_strconv_uint64pow10) :: rest) W) : Lib.TabIs Tryz.prog W "internal/strconv.uint64pow10" .u64 Lib.pow10Tab :=
  Lib.tabIs_of_head (zs := Lib.pow10Tab) gPow tPow Tryz.underlying287 Tryz.underlying118 (by kernel_rfl) (by kernel_rfl) h

theorem size3 {W : World} {rest : List (String × DataW Unit)} (h : laidMet Tryz.prog (("internal/strconv.uint64pow10", Rows.laid_internal_strconv_uint64pow10) :: rest) W) : 4 < W.heap.size :=
  World.block_lt_of_cell? _ _ ((pow_of h).cell gPow 0 (by decide))

theorem err_of {P : Program} {W : World} {name nm : String} {d : DataW Unit} {rest : List (String × DataW Unit)} {g : Nat} {t : TypeId} {ms : Array (String × TypeId)}
    (hg : P.globalNamed name = some g) (hty : (P.globals[g]?).map (·.type) = some t) (ht : P.underlying t = some (.interface ms)) (h : laidMet P ((name, .iface nm d) :: rest) W) : ∃ te pe, W.cell? ⟨g, 0, none⟩ = some (.iface te pe) := by
  obtain ⟨ps, ⟨g', t', cs, fuel, p, q, hg', ht', hvar, hd, _, _⟩, _⟩ := h
  obtain rfl := Option.some.inj (hg.symm.trans hg')
  obtain rfl := Option.some.inj (hty.symm.trans ht')
  obtain ⟨l⟩ := cs
  obtain ⟨f1, u, v, rfl, _, _⟩ := iface_of_trod ht hd
  exact ⟨u, v, by have h2 := World.var?_cell hg hvar 0; rw [h2]; rfl⟩

theorem gSyn : Tryz.prog.globalNamed "strconv.ErrSyntax" = some 2 := by kernel_rfl

theorem gRng : Tryz.prog.globalNamed "strconv.ErrRange" = some 3 := by kernel_rfl

theorem tSyn : (Tryz.prog.globals[2]?).map (·.type) = some 70 := by kernel_rfl

theorem tRng : (Tryz.prog.globals[3]?).map (·.type) = some 70 := by kernel_rfl

theorem tok_of {W : World} {r1 r2 r3 : List (String × DataW Unit)} (h1 : laidMet Tryz.prog (("internal/strconv.uint64pow10", Rows.laid_internal_strconv_uint64pow10) :: r1) W) (h2 : laidMet Tryz.prog (("strconv.ErrRange", Rows.laid_strconv_ErrRange) :: r2) W) (h3 : laidMet Tryz.prog (("strconv.ErrSyntax", Rows.laid_strconv_ErrSyntax) :: r3) W) : TokOk W := by
  have e2 := err_of gRng tRng Tryz.underlying70 h2
  have e3 := err_of gSyn tSyn Tryz.underlying70 h3
  refine ⟨pow_of h1, e3, e2, ?_⟩
  exact size3 h1

def synS : ByteArray := ⟨#[105, 110, 118, 97, 108, 105, 100, 32, 115, 121, 110, 116, 97, 120]⟩

def rngS : ByteArray := ⟨#[118, 97, 108, 117, 101, 32, 111, 117, 116, 32, 111, 102, 32, 114, 97, 110, 103, 101]⟩

noncomputable def lowT : Nat := (World.holding Tryz.prog default ⟨#[], #[], []⟩).heap.size

/-- The settled world with the tables that TokenPlaces lists, as their initialisers lay them. -/
noncomputable def laidTok (os : Os) : World :=
  let w0 := World.holding Tryz.prog os ⟨#[.cells #[.string synS] 292, .cells #[.string rngS] 292], #[], []⟩
  { w0 with heap := (((((w0.heap.modify 5 (setTab (litCells Rows.laid_math_bits_deBruijn32tab))).modify 6 (setTab (litCells Rows.laid_math_bits_deBruijn64tab))).modify 4 (setTab (litCells Rows.laid_internal_strconv_uint64pow10))).modify 3 (setTab #[.iface 290 (.pointer (some ⟨lowT + 1, 0, none⟩))])).modify 2 (setTab #[.iface 290 (.pointer (some ⟨lowT, 0, none⟩))])) }

theorem size6 {d : DataW Unit} {W : World} {rest : List (String × DataW Unit)} (h : laidMet Tryz.prog (("math/bits.deBruijn64tab", d) :: rest) W) : 6 < W.heap.size := by
  obtain ⟨ps, ⟨g', t', cs, fuel, p, q, hg', ht', hvar, hd, _, _⟩, _⟩ := h
  have hg : Tryz.prog.globalNamed "math/bits.deBruijn64tab" = some 6 := by kernel_rfl
  simp only [World.var?, hg, Option.bind_some] at hvar
  split at hvar
  · rename_i h
    exact (Array.getElem?_eq_some_iff.1 h).1
  · cases hvar

end Go.Proofs.YtkhlmofcdchccaaGreatDoor
