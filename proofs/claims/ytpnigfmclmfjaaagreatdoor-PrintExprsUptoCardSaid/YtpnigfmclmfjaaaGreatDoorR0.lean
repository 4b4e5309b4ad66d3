/- The last step of each statement's row: the call returned true and made new memory only. And what a row's listed tables of texts give. -/
import Derived.Test.YtpnigfmclmfjaaaGreatDoorCards
import Derived.Test.YtpnigfmclmfjaaaGreatDoorTie
import Derived.Test.YtpnigfmclmfjaaaGreatDoorKC1
import Derived.WalkKit
import Derived.ProofKit
import Derived.OpenShut
import Derived.Deep.DeepHandedRow
import Derived.Lib.LaidTab
namespace Go.Proofs.YtpnigfmclmfjaaaGreatDoor
open Go.ChangeShapes Go.WideShapes Go.ChangeAt Go.RowKit

theorem ownKnobs : ownKnob Tryz.prog.godebug = none := by kernel_rfl

theorem same_of_below {W W' : World} (hb : Below W.heap.size W W') {p : MemPlace} (h : p.block < W.heap.size) : W.sameAt W' p := hb.same h

section
variable {H : Type} {enc : TypeId × Value → H} {P : Program}

/-- All arguments read as before where only new blocks were made. -/
theorem args_stay (hl : laidOutB P = true) {W W' : World} {sp : Nat → Bool} (hb : Below W.heap.size W W') : ∀ {ts : List TypeId} {vs : List Value} {ds : List (DataW H)} {ps : List MemPlace},
    (∀ t ∈ ts, P.readableRec t = true ∧ t < P.types.size) → DataW.TrodAll enc P W 0 (fun _ => true) true ts vs ds ps → (∀ p ∈ ps, p.block < W.heap.size) → (∀ p ∈ ps, sp p.block = true) → DataW.TrodAll enc P W' 0 sp true ts vs ds ps
  | [], vs, ds, ps, _, h, _, _ => by
    obtain ⟨rfl, rfl, rfl⟩ := trodAll_nil h
    exact trodAll_mk0
  | t :: ts, vs, ds, ps, hts, h, hlt, hs => by
    obtain ⟨v, vs', d, ds', p, q, rfl, rfl, rfl, h1, h2⟩ := trodAll_cons h
    obtain ⟨hr, hrow⟩ := hts t (List.mem_cons_self ..)
    have g1 := Go.WideElems.Trod_stays (sp' := sp) hl hr hrow h1 (fun x hx => hb.same (hlt x (List.mem_append_left _ hx))) (fun x hx => hs x (List.mem_append_left _ hx))
    have g2 := args_stay hl hb (fun t ht => hts t (List.mem_cons_of_mem _ ht)) h2 (fun x hx => hlt x (List.mem_append_right _ hx)) (fun x hx => hs x (List.mem_append_right _ hx))
    exact trodAll_cons_mk g1 g2

/-- WHAT A STATEMENT ASKS, where the call has returned true and made new memory only. -/
theorem law_post {f : Func} {s : ChangeSpec} {W W' : World} {args : Array Value} {ds gs : List (DataW H)} {before : List MemPlace} (hl : laidOutB P = true)
    (hts : (f.params.toList.all fun t => P.readableRec t && decide (t < P.types.size)) = true) (hv : s.vars = []) {boolT : TypeId} (hres : f.resultTypes = #[boolT]) (hbool : P.underlying boolT = some .bool)
    (hfn : (s.fn H (ds ++ gs)).results = [.lit (.bool true)] ∧ (s.fn H (ds ++ gs)).args = ds ∧ (s.fn H (ds ++ gs)).vars = [])
    (hW : DataW.Whole enc P f.params.toList s.vars false W args.toList ds gs before) (hb : Below W.heap.size W W') : s.post enc P f false true false false W args (.bool true) W' := by
  have hlt : ∀ p ∈ before, p.block < W.heap.size := fun p hp => hW.lt p hp
  have hW0 := hW
  obtain ⟨p, q, hA, hV, rfl, _, _⟩ := hW0
  rw [hv] at hV
  obtain ⟨rfl, rfl⟩ := trodVars_none hV
  obtain ⟨e1, e2, e3⟩ := hfn
  refine ⟨ds, [], _, [], p, [], hW, ?_, ?_, ?_, World.keptBut_mono (fun x hx => ⟨hx, ?_⟩) (hb.frame (· ∈ p ++ [])), fun h => by cases h⟩
  · rw [e1, hres]
    exact trodAll_mk1 (shut_bool hbool true)
  · rw [e2]
    refine args_stay hl hb (fun t ht => ?_) hA (fun x hx => hlt x (by simp [hx])) (fun x hx => by simpa using hlt x (by simp [hx]))
    simpa using List.all_eq_true.1 hts t ht
  · rw [e3, hv]
    rfl
  · exact .inr (.inl (by simpa using hx))
end

/-- The cells of a table of texts. -/
theorem cells_of_strs {H : Type} {enc : TypeId × Value → H} {P : Program} {w : World} {base : Nat} {sp : Nat → Bool} {held : Bool} {fuel : Nat} {t e : TypeId} {n : Nat} {cs : List Value} {ss : List (List UInt8)} {p : List MemPlace}
    (ht : P.underlying t = some (.array n e)) (he : P.underlying e = some .string) (hce : P.cellsOf e = 1) (hn : ss.length = n)
    (h : DataW.trod enc P w base sp held fuel t cs = some (.agg (ss.map fun s => .lit (Lit.string s)), p)) : ∀ (i : Nat) (s : List UInt8), ss[i]? = some s → cs[i]? = some (.string ⟨s.toArray⟩) := by
  obtain ⟨xs, m, rfl, hx, hlen, hn3, hel⟩ := DataW.trod_array ht h
  simp only [Prod.mk.injEq, DataW.agg.injEq] at hx
  intro i s hi
  have hlt : i < n := by rw [← hn]; exact (List.getElem?_eq_some_iff.1 hi).1
  have hxi : xs[i]? = some xs[i] := List.getElem?_eq_getElem (by omega)
  have h0 := hel i hlt
  rw [hce, Nat.mul_one, hxi] at h0
  obtain ⟨s', hc, hx', _⟩ := DataW.trod_string he h0
  have h1 := congrArg (·[i]?) hx.1
  simp only [List.getElem?_map, hi, hxi, Option.map_some, hx', Option.some.injEq, DataW.lit.injEq, Lit.string.injEq] at h1
  have h2 := congrArg (·[0]?) hc
  simp only [List.getElem?_take, List.getElem?_drop] at h2
  simp at h2
  rw [h2, h1]

/-- FROM A ROW's LIST TO A TABLE's CELLS: the table stands first on the list. -/
theorem strs_of_head {P : Program} {W : World} {name : String} {ss : List (List UInt8)} {rest : List (String × DataW Unit)} {g : Nat} {t e : TypeId} {n : Nat}
    (hg : P.globalNamed name = some g) (hty : (P.globals[g]?).map (·.type) = some t) (ht : P.underlying t = some (.array n e)) (he : P.underlying e = some .string) (hce : P.cellsOf e = 1) (hn : ss.length = n)
    (h : laidMet P ((name, .agg (ss.map fun s => .lit (Lit.string s))) :: rest) W) : ∀ (i : Nat) (s : List UInt8), ss[i]? = some s → W.cell? ⟨g, i, none⟩ = some (.string ⟨s.toArray⟩) := by
  obtain ⟨ps, ⟨g', t', cs, fuel, p, q, hg', ht', hvar, hd, _, _⟩, _⟩ := h
  obtain rfl := Option.some.inj (hg.symm.trans hg')
  obtain rfl := Option.some.inj (hty.symm.trans ht')
  intro i s hi
  have h1 := cells_of_strs ht he hce hn hd i s hi
  have h2 := World.var?_cell hg hvar i
  rw [h2]
  simpa using h1

theorem laid_tail {P : Program} {x : String × DataW Unit} {r : List (String × DataW Unit)} {w : World} (h : laidMet P (x :: r) w) : laidMet P r w := by
  obtain ⟨ps, ⟨g, t, cs, fuel, p, q, _, _, _, _, hr, rfl⟩, hnd, hz⟩ := h
  exact ⟨q, hr, (List.nodup_append.1 hnd).2.1, fun b off hm => hz b off (by simp [hm])⟩

theorem ints_of_trod {H : Type} {enc : TypeId × Value → H} {P : Program} {W : World} {t e : TypeId} {a : Option Addr} {len cap : Nat} {d : DataW H} {ps : List MemPlace}
    (ht : P.underlying t = some (.slice e)) (he : P.underlying e = some (.int .i64)) (hc : P.cellsOf e = 1) (h : DataW.Trod enc P W 0 (fun _ => true) true t (.slice a len cap) d ps) (_hlt : ∀ p ∈ ps, p.block < W.heap.size) : IntsAt W (.slice a len cap) := by
  obtain ⟨fuel, hf⟩ := h
  have hf' : DataW.trod enc P W 0 (fun _ => true) true fuel t [.slice a len cap] = some (d, ps) := hf
  rcases open_ints ht he hc hf' with ⟨hcs, hx⟩ | ⟨a', len', cap', zs, hcs, _, hl, hm, hz, hx, hcell, hwz⟩
  · simp only [List.cons.injEq, Value.slice.injEq, and_true] at hcs
    obtain ⟨rfl, rfl, rfl⟩ := hcs
    exact ⟨none, 0, 0, rfl, Nat.zero_le _, Nat.le_refl _, .inl rfl⟩
  · simp only [List.cons.injEq, Value.slice.injEq, and_true] at hcs
    obtain ⟨rfl, rfl, rfl⟩ := hcs
    simp only [if_true] at hz
    by_cases h0 : len = 0
    · exact ⟨_, len, cap, rfl, by omega, hl, .inl h0⟩
    · obtain ⟨b, off, rfl, hb⟩ := ints_at hcell (by omega)
      refine ⟨_, len, cap, rfl, by omega, hl, .inr ⟨b, off, rfl, ?_, fun i hi => ⟨_, hb i (by omega)⟩⟩⟩
      exact World.block_lt_of_cell? _ _ (hb 0 (by omega))

def setTab (cs : Array Value) : Obj → Obj
  | .cells _ t f => .cells cs t f
  | o => o
/-- A world for the witnesses: the settled one, with the tables names and words as their initialisers lay them. -/
noncomputable def laidWorld (os : Os) : World :=
  { World.holding Tryz.prog os ⟨#[], #[], []⟩ with heap := ((World.holding Tryz.prog os ⟨#[], #[], []⟩).heap.modify 2 (setTab (nameList.map fun s => Value.string ⟨s.toArray⟩).toArray)).modify 6 (setTab (wordList.map fun s => Value.string ⟨s.toArray⟩).toArray) }

theorem gNames : Tryz.prog.globalNamed "triggerstore/triggerstoreworld.names" = some 2 := by kernel_rfl
theorem tNames : (Tryz.prog.globals[2]?).map (·.type) = some 107 := by kernel_rfl
theorem gWords : Tryz.prog.globalNamed "triggerstore/triggerstoreworld.words" = some 6 := by kernel_rfl
theorem tWords : (Tryz.prog.globals[6]?).map (·.type) = some 271 := by kernel_rfl
theorem cStr : Tryz.prog.cellsOf 9 = 1 := by kernel_rfl
theorem cInt : Tryz.prog.cellsOf 3 = 1 := by kernel_rfl
theorem laidOut : laidOutB Tryz.prog = true := by kernel_rfl

/-- What the row's list gives, where names stands first. -/
theorem names_of {W : World} {rest : List (String × DataW Unit)} (h : laidMet Tryz.prog (("triggerstore/triggerstoreworld.names", Rows.laid_triggerstore_triggerstoreworld_names) :: rest) W) : NamesOk W.heap.size W := by
  have hh := strs_of_head (ss := nameList) gNames tNames Tryz.underlying107 Tryz.underlying9 cStr rfl h
  exact ⟨World.block_lt_of_cell? _ _ (hh 0 _ rfl), fun i hi => hh i _ (by match i, hi with | 0, _ => rfl | 1, _ => rfl | 2, _ => rfl | 3, _ => rfl | 4, _ => rfl | 5, _ => rfl | 6, _ => rfl | 7, _ => rfl)⟩
theorem words_of {W : World} {rest : List (String × DataW Unit)} (h : laidMet Tryz.prog (("triggerstore/triggerstoreworld.words", Rows.laid_triggerstore_triggerstoreworld_words) :: rest) W) : WordsOk W.heap.size W := by
  have hh := strs_of_head (ss := wordList) gWords tWords Tryz.underlying271 Tryz.underlying9 cStr rfl h
  exact ⟨World.block_lt_of_cell? _ _ (hh 0 _ rfl), fun i hi => hh i _ (by match i, hi with | 0, _ => rfl | 1, _ => rfl | 2, _ => rfl | 3, _ => rfl | 4, _ => rfl | 5, _ => rfl)⟩

end Go.Proofs.YtpnigfmclmfjaaaGreatDoor
