/- ScopeResolves returns true for all frames, tables, names, types and lists of numbers; all of them read as before. (The variable names is tied to the program's text by the card.) -/
import Derived.Test.YtiheioajnfggmaaDoorR0
import Derived.Test.YtiheioajnfggmaaDoorE4
import Derived.Test.YtiheioajnfggmaaDoorO2
namespace Go.Proofs.YtiheioajnfggmaaDoor.scopeResolves
open Go.ChangeShapes Go.WideShapes Go.ChangeAt Go.RowKit

set_option maxRecDepth 100000 in
theorem contract (H : Type) (enc : TypeId × Value → H) (W : World) (base : Nat) (args : Array Value) (ds gs : List (DataW H)) (before : List MemPlace)
    (hval : ∀ (j : Nat) t v, Tryd.f5.params[j]? = some t → args[j]? = some v → Value.okWide Tryd.prog W .any base t v)
    (hW : DataW.Whole enc Tryd.prog Tryd.f5.params.toList Rows.scopeResolvesSpec.vars false W args.toList ds gs before)
    (hsz : (DataW.weightsEach Tryd.prog (Tryd.f5.params.toList ++ (OpenSpec.ofChange Rows.scopeResolvesSpec).bare.plain.varTypes Tryd.prog) (ds ++ gs)).all (· ≤ reachBytes) = true) (hL : laidMetH Tryd.prog Rows.scopeResolvesRow.laid W) :
    Calls Tryd.prog 5 args W fun e W' => ∃ v, e = .returned v ∧ Rows.scopeResolvesSpec.post enc Tryd.prog Tryd.f5 false true false false W args v W' := by
  have hW' := hW
  obtain ⟨p, q, hA0, hV, rfl, hfz, hnd⟩ := hW
  have hA : DataW.TrodAll enc Tryd.prog W 0 (fun _ => true) true Tryd.f5.params.toList args.toList ds p := hA0
  rw [Tryd.params5] at hA hval hsz
  obtain ⟨l1, l2, hr⟩ := trod_all hA
  obtain ⟨vs⟩ := args
  obtain ⟨v0, v1, v2, v3, v4, v5, v6, rfl⟩ := list7 l1
  obtain ⟨d0, d1, d2, d3, d4, d5, d6, rfl⟩ := list7 l2
  obtain ⟨rfl, rfl⟩ := trodVars_none hV
  obtain ⟨a0, n0, c0, rfl⟩ := okWide_slice Tryd.underlying25 (hval 0 25 v0 rfl rfl)
  obtain ⟨a1, n1, c1, rfl⟩ := okWide_slice Tryd.underlying41 (hval 1 41 v1 rfl rfl)
  obtain ⟨s2, rfl⟩ := okWide_string Tryd.underlying9 (hval 2 9 v2 rfl rfl)
  obtain ⟨s3, rfl⟩ := okWide_string Tryd.underlying9 (hval 3 9 v3 rfl rfl)
  obtain ⟨x4, rfl⟩ := okWide_int Tryd.underlying3 (hval 4 3 v4 rfl rfl)
  obtain ⟨x5, rfl⟩ := okWide_int Tryd.underlying3 (hval 5 3 v5 rfl rfl)
  obtain ⟨a6, n6, c6, rfl⟩ := okWide_slice Tryd.underlying22 (hval 6 22 v6 rfl rfl)
  obtain ⟨lf, hf⟩ := rd_frms (hr 0 25 _ d0 rfl rfl rfl)
  obtain ⟨lt, ht, hs⟩ := rd_tbls (hr 1 41 _ d1 rfl rfl rfl) (fit_arg hsz (j := 1) rfl rfl)
  have hI := rd_tape (hr 6 22 _ d6 rfl rfl rfl)
  refine (resolves_any _ _ _ _ _ _ _ W lf lt hf ht hs hI (names_of hL)).mono fun e W' ⟨he, hb⟩ => ?_
  subst he
  exact ⟨_, rfl, law_post laidOut (by kernel_rfl) rfl rfl Tryd.underlying4 ⟨rfl, rfl, rfl⟩ hW' hb⟩

theorem laid_met (os : Os) : laidMet Tryd.prog Rows.scopeResolvesRow.laid ((laidWorld os).forCall (fun _ _ => 0) ⟨#[], #[.slice none 0 0, .slice none 0 0, .string ⟨#[]⟩, .string ⟨#[]⟩, .int .i64 0, .int .i64 0, .slice none 0 0], []⟩).memory :=
  laidMet_of_run' 8 (by kernel_rfl) (by kernel_rfl)
theorem reads (os : Os) {H : Type} (enc : TypeId × Value → H) : ∃ places, DataW.whole enc Tryd.prog ((laidWorld os).forCall (fun _ _ => 0) ⟨#[], #[.slice none 0 0, .slice none 0 0, .string ⟨#[]⟩, .string ⟨#[]⟩, .int .i64 0, .int .i64 0, .slice none 0 0], []⟩).memory Tryd.f5.params.toList Rows.scopeResolvesSpec.vars false (#[.slice none 0 0, .slice none 0 0, .string ⟨#[]⟩, .string ⟨#[]⟩, .int .i64 0, .int .i64 0, .slice none 0 0] : Array Value).toList 8 = some ([.nil, .nil, .lit (.string []), .lit (.string []), .lit (.int .i64 0), .lit (.int .i64 0), .nil], [], places) :=
  ⟨[], by kernel_rfl⟩

set_option maxRecDepth 100000 in
theorem lifted (os : Os) (started : os.Started) (H : Type) (enc : TypeId × Value → H) (F : Stop.Interp) :
    ReturnsInHanded {} Tryd.checked os 5 .any ((OpenSpec.ofChange Rows.scopeResolvesSpec).preRow enc Tryd.prog Tryd.f5 Rows.scopeResolvesRow.domain false Rows.scopeResolvesRow.laid) (((OpenSpec.ofChange Rows.scopeResolvesSpec).at F).post enc Tryd.prog Tryd.f5 false true false false) := by
  obtain ⟨places, hx⟩ := reads os enc
  refine returnsInHanded_of_row (C := Tryd.checked) (s := OpenSpec.ofChange Rows.scopeResolvesSpec) ownKnobs started (by kernel_rfl) Tryd.func5
    (witness_row_at (enc := enc) (C := Tryd.checked) false (laidWorld os) #[.slice none 0 0, .slice none 0 0, .string ⟨#[]⟩, .string ⟨#[]⟩, .int .i64 0, .int .i64 0, .slice none 0 0] rfl (by kernel_rfl) (by kernel_rfl) (by kernel_rfl)
      (OpenSpec.preRow_of_cond 8 hx (by kernel_rfl) (fun k hk => by cases hk) (by kernel_rfl) (laid_met os))) ?_
  intro W base args ds gs before hval hW _ _ hsz hL _ _
  exact contract H enc W base args ds gs before hval hW hsz hL

theorem said : Rows.ScopeResolvesSaid :=
  OpenClaim.holds_of_cond 5 Tryd.f5 rfl rfl rfl rfl rfl rfl rfl ⟨rfl, rfl, rfl, rfl, rfl⟩ rfl rfl rfl rfl rfl (by kernel_rfl) Tryd.func5 (by kernel_rfl)
    (of_decide_eq_true (by kernel_rfl)) (by unfold Func.isWrapper; first | (rw [if_pos (by decide +kernel)]; kernel_rfl) | (rw [if_neg (by decide +kernel)]; exact ⟨rfl, rfl⟩))
    (fun os started H enc _ F => by rw [OpenClaim.pre_eq_preRow]; exact lifted os started H enc F)

theorem plain (f : FuncId) (fn : Func) (hf : Tryd.pinned.checked.prog.funcNamed "triggerstore/triggerstorelaw14.ScopeResolves" = some f) (hfn : Tryd.pinned.checked.prog.funcs[f]? = some fn) :
    false = Tryd.pinned.checked.prog.looks [] ∧ ∀ (j : Nat) t, fn.params[j]? = some t → Tryd.pinned.checked.prog.wantsStandIn t = false := by
  obtain rfl : f = 5 := Option.some.inj ((show Tryd.prog.funcNamed "triggerstore/triggerstorelaw14.ScopeResolves" = some 5 by kernel_rfl).symm.trans hf) |>.symm
  obtain rfl : fn = Tryd.f5 := (Option.some.inj (Tryd.func5.symm.trans hfn)).symm
  refine ⟨by kernel_rfl, fun j t ht => ?_⟩
  rw [Tryd.params5] at ht
  have hm : t ∈ [25, 41, 9, 3, 22] := by
    have := Array.mem_of_getElem? ht
    simp at this ⊢
    omega
  have hall : [25, 41, 9, 3, 22].all (fun t => !Tryd.prog.wantsStandIn t) = true := by kernel_rfl
  have h2 : (!Tryd.prog.wantsStandIn t) = true := List.all_eq_true.1 hall t hm
  have h3 : Tryd.prog.wantsStandIn t = false := by
    cases h : Tryd.prog.wantsStandIn t with
    | false => rfl
    | true => rw [h] at h2; cases h2
  exact h3

theorem card : Rows.ScopeResolvesCardSaid :=
  Claim7.holds_tied_plain_at .later [] _ _ _ _ said (fun _ h => by cases h) (by kernel_rfl) (fun _ h => by cases h) scopeResolves_row_tie rfl ⟨rfl, rfl⟩ (by kernel_rfl) rfl plain (by kernel_rfl)
end Go.Proofs.YtiheioajnfggmaaDoor.scopeResolves
