/- PrintExprs returns true for every expression, every list of numbers and every depth, where what is read is of bulk at most 1048576; the arguments read as before. (The variables names, words, operators and the library's tables are tied to the program's text by the card.) -/
import Derived.Test.YtpnigfmclmfjaaaGreatDoorRP0
import Derived.Test.YtpnigfmclmfjaaaGreatDoorS17
import Derived.Test.YtpnigfmclmfjaaaGreatDoorKY3
namespace Go.Proofs.YtpnigfmclmfjaaaGreatDoor.printExprs
open Go.ChangeShapes Go.WideShapes Go.ChangeAt Go.RowKit

set_option maxRecDepth 100000 in
theorem contract (H : Type) (enc : TypeId × Value → H) (W : World) (base : Nat) (args : Array Value) (ds gs : List (DataW H)) (before : List MemPlace)
    (hval : ∀ (j : Nat) t v, Tryz.f4.params[j]? = some t → args[j]? = some v → Value.okWide Tryz.prog W .any base t v)
    (hW : DataW.Whole enc Tryz.prog Tryz.f4.params.toList Rows.printExprsSpec.vars false W args.toList ds gs before)
    (hc : ∀ k, (Rows.OpenSpec.upto Rows.printExprsSpec).cond = some k → k H (ds ++ gs) = true)
    (hL : laidMetH Tryz.prog Rows.printExprsUptoRow.laid W) (hsh : W.ShapedOpen Tryz.prog) :
    Calls Tryz.prog 4 args W fun e W' => ∃ v, e = .returned v ∧ Rows.printExprsSpec.post enc Tryz.prog Tryz.f4 false true false false W args v W' := by
  have hW' := hW
  obtain ⟨p, q, hA0, hV, rfl, hfz, hnd⟩ := hW
  have hA : DataW.TrodAll enc Tryz.prog W 0 (fun _ => true) true Tryz.f4.params.toList args.toList ds p := hA0
  rw [Tryz.params4] at hA hval
  obtain ⟨l1, l2, hr⟩ := trod_all hA
  obtain ⟨vs⟩ := args
  obtain ⟨v0, v1, v2, rfl⟩ := list3 l1
  obtain ⟨d0, d1, d2, rfl⟩ := list3 l2
  obtain ⟨rfl, rfl⟩ := trodVars_none hV
  have hc' : Rows.uptoBulkAll ([d0, d1, d2] ++ []) ≤ 1048576 := of_decide_eq_true (hc _ rfl)
  simp only [List.append_nil, Rows.uptoBulkAll] at hc'
  obtain ⟨⟨w0⟩, rfl, z0⟩ := okWide_struct Tryz.underlying57 (hval 0 57 v0 rfl rfl)
  obtain ⟨a1, n1, c1, rfl⟩ := okWide_slice Tryz.underlying40 (hval 1 40 v1 rfl rfl)
  obtain ⟨n2, rfl⟩ := okWide_int Tryz.underlying3 (hval 2 3 v2 rfl rfl)
  obtain ⟨x0, e0, hd0, hn0⟩ := rd_exN (Rows.uptoBulk d0) _ d0 (hr 0 57 _ d0 rfl rfl rfl) (Nat.le_refl _)
  have e0' : EC NoM W x0 w0 := e0
  have hI1 := rd_tape (hr 1 40 _ d1 rfl rfl rfl)
  have hg0 : GoodX x0 := ⟨hd0.1.txt, by omega, fun hv => valid_vx x0 hv hd0.2⟩
  refine (printExprs_any x0 w0 n2 _ W e0' hg0 hI1 (names_of (laid_tail (laid_tail (laid_tail (laid_tail (laid_tail (laid_tail hL))))))) (words_of (laid_tail (laid_tail (laid_tail (laid_tail (laid_tail hL)))))) (lib_of (laid_tail (laid_tail hL)) hsh) (size3 (laid_tail (laid_tail hL))) (ops_of (laid_tail (laid_tail (laid_tail (laid_tail hL)))))).mono fun e W' ⟨he, hb⟩ => ?_
  subst he
  exact ⟨_, rfl, law_post laidOut (by kernel_rfl) rfl rfl Tryz.underlying4 ⟨rfl, rfl, rfl⟩ hW' hb⟩

theorem laid_met (os : Os) : laidMet Tryz.prog Rows.printExprsUptoRow.laid ((laidPr os).forCall (fun _ _ => 0) ⟨#[], #[.agg #[.int .i64 0, .int .i64 0, .bool false, .int .i64 0, .int .i64 0, .string ⟨#[]⟩, .string ⟨#[]⟩, .string ⟨#[]⟩, .slice none 0 0, .slice none 0 0], .slice none 0 0, .int .i64 0], []⟩).memory :=
  laidMet_of_run' 8 (by kernel_rfl) (by kernel_rfl)
theorem reads (os : Os) {H : Type} (enc : TypeId × Value → H) : ∃ places, DataW.whole enc Tryz.prog ((laidPr os).forCall (fun _ _ => 0) ⟨#[], #[.agg #[.int .i64 0, .int .i64 0, .bool false, .int .i64 0, .int .i64 0, .string ⟨#[]⟩, .string ⟨#[]⟩, .string ⟨#[]⟩, .slice none 0 0, .slice none 0 0], .slice none 0 0, .int .i64 0], []⟩).memory Tryz.f4.params.toList Rows.printExprsSpec.vars false (#[.agg #[.int .i64 0, .int .i64 0, .bool false, .int .i64 0, .int .i64 0, .string ⟨#[]⟩, .string ⟨#[]⟩, .string ⟨#[]⟩, .slice none 0 0, .slice none 0 0], .slice none 0 0, .int .i64 0] : Array Value).toList 8 = some ([.agg [.lit (.int .i64 0), .lit (.int .i64 0), .lit (.bool false), .agg [.lit (.int .i64 0), .lit (.int .i64 0), .lit (.string [])], .lit (.string []), .lit (.string []), .nil, .nil], .nil, .lit (.int .i64 0)], [], places) :=
  ⟨[], by kernel_rfl⟩

set_option maxRecDepth 100000 in
theorem lifted (os : Os) (started : os.Started) (H : Type) (enc : TypeId × Value → H) (F : Stop.Interp) :
    ReturnsInHanded {} Tryz.checked os 4 .any ((Rows.OpenSpec.upto Rows.printExprsSpec).preRow enc Tryz.prog Tryz.f4 Rows.printExprsUptoRow.domain false Rows.printExprsUptoRow.laid) (((Rows.OpenSpec.upto Rows.printExprsSpec).at F).post enc Tryz.prog Tryz.f4 false true false false) := by
  obtain ⟨places, hx⟩ := reads os enc
  refine returnsInHanded_of_row (C := Tryz.checked) (s := Rows.OpenSpec.upto Rows.printExprsSpec) ownKnobs started (by kernel_rfl) Tryz.func4
    (witness_row_at (enc := enc) (C := Tryz.checked) false (laidPr os) #[.agg #[.int .i64 0, .int .i64 0, .bool false, .int .i64 0, .int .i64 0, .string ⟨#[]⟩, .string ⟨#[]⟩, .string ⟨#[]⟩, .slice none 0 0, .slice none 0 0], .slice none 0 0, .int .i64 0] rfl (by kernel_rfl) (by kernel_rfl) (by kernel_rfl)
      (OpenSpec.preRow_of_cond 8 hx (by kernel_rfl) (fun k hk => by cases hk; kernel_rfl) (by kernel_rfl) (laid_met os))) ?_
  intro W base args ds gs before hval hW _ hc _ hL hsh _
  exact contract H enc W base args ds gs before hval hW hc hL hsh

set_option maxHeartbeats 0 in
set_option maxRecDepth 100000 in
theorem closed : joinedFacts Tryz.pinned.checked.prog 4 Tryz.f4 (Rows.OpenSpec.upto Rows.printExprsSpec).bare Rows.printExprsUptoRow = true := by
  unfold joinedFacts
  simp only [Bool.and_eq_true]
  repeat' (with_reducible refine And.intro ?_ ?_)
  all_goals (as_aux_lemma => kernel_rfl)

theorem said : Rows.PrintExprsUptoSaid :=
  OpenClaim.holds_of_cond 4 Tryz.f4 rfl rfl rfl rfl rfl rfl rfl ⟨rfl, rfl, rfl, rfl, rfl⟩ rfl rfl rfl rfl rfl (by as_aux_lemma => kernel_rfl) Tryz.func4 closed
    (of_decide_eq_true (by kernel_rfl)) (by unfold Func.isWrapper; first | (rw [if_pos (by decide +kernel)]; kernel_rfl) | (rw [if_neg (by decide +kernel)]; exact ⟨rfl, rfl⟩))
    (fun os started H enc _ F => by rw [OpenClaim.pre_eq_preRow]; exact lifted os started H enc F)

theorem plain (f : FuncId) (fn : Func) (hf : Tryz.pinned.checked.prog.funcNamed "triggerstore/triggerstorelaw12.PrintExprs" = some f) (hfn : Tryz.pinned.checked.prog.funcs[f]? = some fn) :
    true = Tryz.pinned.checked.prog.looks [] ∧ ∀ (j : Nat) t, fn.params[j]? = some t → Tryz.pinned.checked.prog.wantsStandIn t = false := by
  obtain rfl : f = 4 := Option.some.inj ((show Tryz.prog.funcNamed "triggerstore/triggerstorelaw12.PrintExprs" = some 4 by kernel_rfl).symm.trans hf) |>.symm
  obtain rfl : fn = Tryz.f4 := (Option.some.inj (Tryz.func4.symm.trans hfn)).symm
  refine ⟨by kernel_rfl, fun j t ht => ?_⟩
  rw [Tryz.params4] at ht
  have hall : ([57, 40, 3] : List TypeId).all (fun t => !Tryz.prog.wantsStandIn t) = true := by kernel_rfl
  have h2 : (!Tryz.prog.wantsStandIn t) = true := List.all_eq_true.1 hall t (Array.mem_of_getElem? ht).val
  have h3 : Tryz.prog.wantsStandIn t = false := by
    cases h : Tryz.prog.wantsStandIn t with
    | false => rfl
    | true => rw [h] at h2; cases h2
  exact h3

theorem card : Rows.PrintExprsUptoCardSaid :=
  Claim7.holds_tied_plain_at .later [] _ _ _ _ said (fun _ h => by cases h) (by kernel_rfl) (fun _ h => by cases h) printExprsUpto_row_tie rfl ⟨rfl, rfl⟩ (by kernel_rfl) rfl plain (by kernel_rfl)
end Go.Proofs.YtpnigfmclmfjaaaGreatDoor.printExprs
