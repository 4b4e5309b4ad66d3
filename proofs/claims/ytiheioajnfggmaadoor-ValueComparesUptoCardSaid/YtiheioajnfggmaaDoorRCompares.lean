/- ValueCompares returns true for all values, rows and lists of numbers; the arguments read as before. (The listed tables are tied to the program's text by the card.) -/
import Derived.Test.YtiheioajnfggmaaDoorRL2
import Derived.Test.YtiheioajnfggmaaDoorV12
import Derived.Test.YtiheioajnfggmaaDoorO2
import Derived.Test.YtiheioajnfggmaaDoorU1
namespace Go.Proofs.YtiheioajnfggmaaDoor.valueCompares
open Go.ChangeShapes Go.WideShapes Go.ChangeAt Go.RowKit

set_option maxRecDepth 100000 in
theorem contract (H : Type) (enc : TypeId × Value → H) (W : World) (base : Nat) (args : Array Value) (ds gs : List (DataW H)) (before : List MemPlace)
    (hval : ∀ (j : Nat) t v, Tryd.f13.params[j]? = some t → args[j]? = some v → Value.okWide Tryd.prog W .any base t v)
    (hW : DataW.Whole enc Tryd.prog Tryd.f13.params.toList Rows.valueComparesSpec.vars false W args.toList ds gs before)
    (hc : ∀ k, (Rows.OpenSpec.upto Rows.valueComparesSpec).cond = some k → k H (ds ++ gs) = true)
    (hL : laidMetH Tryd.prog Rows.valueComparesUptoRow.laid W) (hsh : W.ShapedOpen Tryd.prog) :
    Calls Tryd.prog 13 args W fun e W' => ∃ v, e = .returned v ∧ Rows.valueComparesSpec.post enc Tryd.prog Tryd.f13 false true false false W args v W' := by
  have hW' := hW
  obtain ⟨p, q, hA0, hV, rfl, hfz, hnd⟩ := hW
  have hA : DataW.TrodAll enc Tryd.prog W 0 (fun _ => true) true Tryd.f13.params.toList args.toList ds p := hA0
  rw [Tryd.params13] at hA hval
  obtain ⟨l1, l2, hr⟩ := trod_all hA
  obtain ⟨vs⟩ := args
  obtain ⟨v0, v1, v2, v3, v4, rfl⟩ := list5 l1
  obtain ⟨d0, d1, d2, d3, d4, rfl⟩ := list5 l2
  obtain ⟨rfl, rfl⟩ := trodVars_none hV
  have hc' : Rows.uptoBulkAll ([d0, d1, d2, d3, d4] ++ []) ≤ 1048576 := of_decide_eq_true (hc _ rfl)
  simp only [List.append_nil, Rows.uptoBulkAll] at hc'
  obtain ⟨⟨w0⟩, rfl, z0⟩ := okWide_struct Tryd.underlying48 (hval 0 48 v0 rfl rfl)
  obtain ⟨⟨w1⟩, rfl, z1⟩ := okWide_struct Tryd.underlying48 (hval 1 48 v1 rfl rfl)
  obtain ⟨a2, n2, c2, rfl⟩ := okWide_slice Tryd.underlying31 (hval 2 31 v2 rfl rfl)
  obtain ⟨a3, n3, c3, rfl⟩ := okWide_slice Tryd.underlying31 (hval 3 31 v3 rfl rfl)
  obtain ⟨a4, n4, c4, rfl⟩ := okWide_slice Tryd.underlying22 (hval 4 22 v4 rfl rfl)
  obtain ⟨x0, e0, ok0⟩ := rd_val (hr 0 48 _ d0 rfl rfl rfl)
  obtain rfl : w0 = valCells x0 := e0
  obtain ⟨x1, e1, ok1⟩ := rd_val (hr 1 48 _ d1 rfl rfl rfl)
  obtain rfl : w1 = valCells x1 := e1
  obtain ⟨l2, hr2, _, hq2⟩ := rd_vals_bulk (hr 2 31 _ d2 rfl rfl rfl)
  obtain ⟨l3, hr3, _, hq3⟩ := rd_vals_bulk (hr 3 31 _ d3 rfl rfl rfl)
  have hI4 := rd_tape (hr 4 22 _ d4 rfl rfl rfl)
  refine (compares_any x0 x1 _ _ _ l2 l3 W hr2 hr3 (by omega) hI4 (words_of (laid_tail (laid_tail (laid_tail (laid_tail hL))))) (lib_of (laid_tail (laid_tail hL)) hsh) (size3 (laid_tail (laid_tail hL)))).mono fun e W' ⟨he, hb⟩ => ?_
  subst he
  exact ⟨_, rfl, law_post laidOut (by kernel_rfl) rfl rfl Tryd.underlying4 ⟨rfl, rfl, rfl⟩ hW' hb⟩

theorem laid_met (os : Os) : laidMet Tryd.prog Rows.valueComparesUptoRow.laid ((laidAll os).forCall (fun _ _ => 0) ⟨#[], #[.agg #[.int .i64 0, .int .i64 0, .string ⟨#[]⟩], .agg #[.int .i64 0, .int .i64 0, .string ⟨#[]⟩], .slice none 0 0, .slice none 0 0, .slice none 0 0], []⟩).memory :=
  laidMet_of_run' 8 (by kernel_rfl) (by kernel_rfl)
theorem reads (os : Os) {H : Type} (enc : TypeId × Value → H) : ∃ places, DataW.whole enc Tryd.prog ((laidAll os).forCall (fun _ _ => 0) ⟨#[], #[.agg #[.int .i64 0, .int .i64 0, .string ⟨#[]⟩], .agg #[.int .i64 0, .int .i64 0, .string ⟨#[]⟩], .slice none 0 0, .slice none 0 0, .slice none 0 0], []⟩).memory Tryd.f13.params.toList Rows.valueComparesSpec.vars false (#[.agg #[.int .i64 0, .int .i64 0, .string ⟨#[]⟩], .agg #[.int .i64 0, .int .i64 0, .string ⟨#[]⟩], .slice none 0 0, .slice none 0 0, .slice none 0 0] : Array Value).toList 8 = some ([.agg [.lit (.int .i64 0), .lit (.int .i64 0), .lit (.string [])], .agg [.lit (.int .i64 0), .lit (.int .i64 0), .lit (.string [])], .nil, .nil, .nil], [], places) :=
  ⟨[], by kernel_rfl⟩

set_option maxRecDepth 100000 in
theorem lifted (os : Os) (started : os.Started) (H : Type) (enc : TypeId × Value → H) (F : Stop.Interp) :
    ReturnsInHanded {} Tryd.checked os 13 .any ((Rows.OpenSpec.upto Rows.valueComparesSpec).preRow enc Tryd.prog Tryd.f13 Rows.valueComparesUptoRow.domain false Rows.valueComparesUptoRow.laid) (((Rows.OpenSpec.upto Rows.valueComparesSpec).at F).post enc Tryd.prog Tryd.f13 false true false false) := by
  obtain ⟨places, hx⟩ := reads os enc
  refine returnsInHanded_of_row (C := Tryd.checked) (s := Rows.OpenSpec.upto Rows.valueComparesSpec) ownKnobs started (by kernel_rfl) Tryd.func13
    (witness_row_at (enc := enc) (C := Tryd.checked) false (laidAll os) #[.agg #[.int .i64 0, .int .i64 0, .string ⟨#[]⟩], .agg #[.int .i64 0, .int .i64 0, .string ⟨#[]⟩], .slice none 0 0, .slice none 0 0, .slice none 0 0] rfl (by kernel_rfl) (by kernel_rfl) (by kernel_rfl)
      (OpenSpec.preRow_of_cond 8 hx (by kernel_rfl) (fun k hk => by cases hk; kernel_rfl) (by kernel_rfl) (laid_met os))) ?_
  intro W base args ds gs before hval hW _ hc _ hL hsh _
  exact contract H enc W base args ds gs before hval hW hc hL hsh

theorem said : Rows.ValueComparesUptoSaid :=
  OpenClaim.holds_of_cond 13 Tryd.f13 rfl rfl rfl rfl rfl rfl rfl ⟨rfl, rfl, rfl, rfl, rfl⟩ rfl rfl rfl rfl rfl (by kernel_rfl) Tryd.func13 (by kernel_rfl)
    (of_decide_eq_true (by kernel_rfl)) (by unfold Func.isWrapper; first | (rw [if_pos (by decide +kernel)]; kernel_rfl) | (rw [if_neg (by decide +kernel)]; exact ⟨rfl, rfl⟩))
    (fun os started H enc _ F => by rw [OpenClaim.pre_eq_preRow]; exact lifted os started H enc F)

theorem plain (f : FuncId) (fn : Func) (hf : Tryd.pinned.checked.prog.funcNamed "triggerstore/triggerstorelaw1.ValueCompares" = some f) (hfn : Tryd.pinned.checked.prog.funcs[f]? = some fn) :
    false = Tryd.pinned.checked.prog.looks [] ∧ ∀ (j : Nat) t, fn.params[j]? = some t → Tryd.pinned.checked.prog.wantsStandIn t = false := by
  obtain rfl : f = 13 := Option.some.inj ((show Tryd.prog.funcNamed "triggerstore/triggerstorelaw1.ValueCompares" = some 13 by kernel_rfl).symm.trans hf) |>.symm
  obtain rfl : fn = Tryd.f13 := (Option.some.inj (Tryd.func13.symm.trans hfn)).symm
  refine ⟨by kernel_rfl, fun j t ht => ?_⟩
  rw [Tryd.params13] at ht
  have hall : ([48, 48, 31, 31, 22] : List TypeId).all (fun t => !Tryd.prog.wantsStandIn t) = true := by kernel_rfl
  have h2 : (!Tryd.prog.wantsStandIn t) = true := List.all_eq_true.1 hall t (Array.mem_of_getElem? ht).val
  have h3 : Tryd.prog.wantsStandIn t = false := by
    cases h : Tryd.prog.wantsStandIn t with
    | false => rfl
    | true => rw [h] at h2; cases h2
  exact h3

theorem card : Rows.ValueComparesUptoCardSaid :=
  Claim7.holds_tied_plain_at .later [] _ _ _ _ said (fun _ h => by cases h) (by kernel_rfl) (fun _ h => by cases h) valueComparesUpto_row_tie rfl ⟨rfl, rfl⟩ (by kernel_rfl) rfl plain (by kernel_rfl)
end Go.Proofs.YtiheioajnfggmaaDoor.valueCompares
