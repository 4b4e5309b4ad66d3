/- ValueForms returns true for all values, numbers, texts and lists of numbers; the arguments read as before. (The listed tables are tied to the program's text by the card.) -/
import Derived.Test.YtiheioajnfggmaaDoorRL2
import Derived.Test.YtiheioajnfggmaaDoorV11
import Derived.Test.YtiheioajnfggmaaDoorO2
namespace Go.Proofs.YtiheioajnfggmaaDoor.valueForms
open Go.ChangeShapes Go.WideShapes Go.ChangeAt Go.RowKit

set_option maxRecDepth 100000 in
theorem contract (H : Type) (enc : TypeId × Value → H) (W : World) (base : Nat) (args : Array Value) (ds gs : List (DataW H)) (before : List MemPlace)
    (hval : ∀ (j : Nat) t v, Tryd.f9.params[j]? = some t → args[j]? = some v → Value.okWide Tryd.prog W .any base t v)
    (hW : DataW.Whole enc Tryd.prog Tryd.f9.params.toList Rows.valueFormsSpec.vars false W args.toList ds gs before)
    (hL : laidMetH Tryd.prog Rows.valueFormsRow.laid W) (hsh : W.ShapedOpen Tryd.prog) :
    Calls Tryd.prog 9 args W fun e W' => ∃ v, e = .returned v ∧ Rows.valueFormsSpec.post enc Tryd.prog Tryd.f9 false true false false W args v W' := by
  have hW' := hW
  obtain ⟨p, q, hA0, hV, rfl, hfz, hnd⟩ := hW
  have hA : DataW.TrodAll enc Tryd.prog W 0 (fun _ => true) true Tryd.f9.params.toList args.toList ds p := hA0
  rw [Tryd.params9] at hA hval
  obtain ⟨l1, l2, hr⟩ := trod_all hA
  obtain ⟨vs⟩ := args
  obtain ⟨v0, v1, v2, v3, rfl⟩ := list4 l1
  obtain ⟨d0, d1, d2, d3, rfl⟩ := list4 l2
  obtain ⟨rfl, rfl⟩ := trodVars_none hV
  obtain ⟨⟨w0⟩, rfl, z0⟩ := okWide_struct Tryd.underlying48 (hval 0 48 v0 rfl rfl)
  obtain ⟨n1, rfl⟩ := okWide_int Tryd.underlying2 (hval 1 2 v1 rfl rfl)
  obtain ⟨s2, rfl⟩ := okWide_string Tryd.underlying9 (hval 2 9 v2 rfl rfl)
  obtain ⟨a3, n3, c3, rfl⟩ := okWide_slice Tryd.underlying22 (hval 3 22 v3 rfl rfl)
  obtain ⟨x0, e0, ok0⟩ := rd_val (hr 0 48 _ d0 rfl rfl rfl)
  obtain rfl : w0 = valCells x0 := e0
  obtain ⟨_, en1, wn1⟩ := rd_int Tryd.underlying2 (hr 1 2 _ d1 rfl rfl rfl)
  cases en1
  have hn1 := wf_i64 wn1
  obtain ⟨_, es2, hs2⟩ := rd_string Tryd.underlying9 (hr 2 9 _ d2 rfl rfl rfl)
  cases es2
  have hI3 := rd_tape (hr 3 22 _ d3 rfl rfl rfl)
  refine (forms_any x0 n1 s2 _ W ok0 hn1 hs2 hI3 (words_of (laid_tail (laid_tail (laid_tail (laid_tail hL))))) (lib_of (laid_tail (laid_tail hL)) hsh) (size3 (laid_tail (laid_tail hL)))).mono fun e W' ⟨he, hb⟩ => ?_
  subst he
  exact ⟨_, rfl, law_post laidOut (by kernel_rfl) rfl rfl Tryd.underlying4 ⟨rfl, rfl, rfl⟩ hW' hb⟩

theorem laid_met (os : Os) : laidMet Tryd.prog Rows.valueFormsRow.laid ((laidAll os).forCall (fun _ _ => 0) ⟨#[], #[.agg #[.int .i64 0, .int .i64 0, .string ⟨#[]⟩], .int .i64 0, .string ⟨#[]⟩, .slice none 0 0], []⟩).memory :=
  laidMet_of_run' 8 (by kernel_rfl) (by kernel_rfl)
theorem reads (os : Os) {H : Type} (enc : TypeId × Value → H) : ∃ places, DataW.whole enc Tryd.prog ((laidAll os).forCall (fun _ _ => 0) ⟨#[], #[.agg #[.int .i64 0, .int .i64 0, .string ⟨#[]⟩], .int .i64 0, .string ⟨#[]⟩, .slice none 0 0], []⟩).memory Tryd.f9.params.toList Rows.valueFormsSpec.vars false (#[.agg #[.int .i64 0, .int .i64 0, .string ⟨#[]⟩], .int .i64 0, .string ⟨#[]⟩, .slice none 0 0] : Array Value).toList 8 = some ([.agg [.lit (.int .i64 0), .lit (.int .i64 0), .lit (.string [])], .lit (.int .i64 0), .lit (.string []), .nil], [], places) :=
  ⟨[], by kernel_rfl⟩

set_option maxRecDepth 100000 in
theorem lifted (os : Os) (started : os.Started) (H : Type) (enc : TypeId × Value → H) (F : Stop.Interp) :
    ReturnsInHanded {} Tryd.checked os 9 .any ((OpenSpec.ofChange Rows.valueFormsSpec).preRow enc Tryd.prog Tryd.f9 Rows.valueFormsRow.domain false Rows.valueFormsRow.laid) (((OpenSpec.ofChange Rows.valueFormsSpec).at F).post enc Tryd.prog Tryd.f9 false true false false) := by
  obtain ⟨places, hx⟩ := reads os enc
  refine returnsInHanded_of_row (C := Tryd.checked) (s := OpenSpec.ofChange Rows.valueFormsSpec) ownKnobs started (by kernel_rfl) Tryd.func9
    (witness_row_at (enc := enc) (C := Tryd.checked) false (laidAll os) #[.agg #[.int .i64 0, .int .i64 0, .string ⟨#[]⟩], .int .i64 0, .string ⟨#[]⟩, .slice none 0 0] rfl (by kernel_rfl) (by kernel_rfl) (by kernel_rfl)
      (OpenSpec.preRow_of_cond 8 hx (by kernel_rfl) (fun k hk => by cases hk) (by kernel_rfl) (laid_met os))) ?_
  intro W base args ds gs before hval hW _ _ _ hL hsh _
  exact contract H enc W base args ds gs before hval hW hL hsh

theorem said : Rows.ValueFormsSaid :=
  OpenClaim.holds_of_cond 9 Tryd.f9 rfl rfl rfl rfl rfl rfl rfl ⟨rfl, rfl, rfl, rfl, rfl⟩ rfl rfl rfl rfl rfl (by kernel_rfl) Tryd.func9 (by kernel_rfl)
    (of_decide_eq_true (by kernel_rfl)) (by unfold Func.isWrapper; first | (rw [if_pos (by decide +kernel)]; kernel_rfl) | (rw [if_neg (by decide +kernel)]; exact ⟨rfl, rfl⟩))
    (fun os started H enc _ F => by rw [OpenClaim.pre_eq_preRow]; exact lifted os started H enc F)

theorem plain (f : FuncId) (fn : Func) (hf : Tryd.pinned.checked.prog.funcNamed "triggerstore/triggerstorelaw1.ValueForms" = some f) (hfn : Tryd.pinned.checked.prog.funcs[f]? = some fn) :
    false = Tryd.pinned.checked.prog.looks [] ∧ ∀ (j : Nat) t, fn.params[j]? = some t → Tryd.pinned.checked.prog.wantsStandIn t = false := by
  obtain rfl : f = 9 := Option.some.inj ((show Tryd.prog.funcNamed "triggerstore/triggerstorelaw1.ValueForms" = some 9 by kernel_rfl).symm.trans hf) |>.symm
  obtain rfl : fn = Tryd.f9 := (Option.some.inj (Tryd.func9.symm.trans hfn)).symm
  refine ⟨by kernel_rfl, fun j t ht => ?_⟩
  rw [Tryd.params9] at ht
  have hall : ([48, 2, 9, 22] : List TypeId).all (fun t => !Tryd.prog.wantsStandIn t) = true := by kernel_rfl
  have h2 : (!Tryd.prog.wantsStandIn t) = true := List.all_eq_true.1 hall t (Array.mem_of_getElem? ht).val
  have h3 : Tryd.prog.wantsStandIn t = false := by
    cases h : Tryd.prog.wantsStandIn t with
    | false => rfl
    | true => rw [h] at h2; cases h2
  exact h3

theorem card : Rows.ValueFormsCardSaid :=
  Claim7.holds_tied_plain_at .later [] _ _ _ _ said (fun _ h => by cases h) (by kernel_rfl) (fun _ h => by cases h) valueForms_row_tie rfl ⟨rfl, rfl⟩ (by kernel_rfl) rfl plain (by kernel_rfl)
end Go.Proofs.YtiheioajnfggmaaDoor.valueForms
