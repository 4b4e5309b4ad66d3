/- TokenAgain returns true for every text, every list of numbers and every number; the arguments read as before. -/
import Derived.Test.YtgepbohjmgaojaaGreatDoorU25
set_option linter.all false
set_option maxRecDepth 100000
namespace Go.Proofs.YtgepbohjmgaojaaGreatDoor.tokenAgain
open Go.ChangeShapes Go.WideShapes Go.ChangeAt Go.RowKit
theorem Uzs(H:Type)(enc:TypeId×Value→H)(W:World)(base:Nat)(args:Array Value)(ds gs:List (DataW H))(before:List MemPlace)
 (hval:∀(j:Nat) t v,Tryz.f3.params[j]?=some t→args[j]?=some v→Value.okWide Tryz.prog W .any base t v)
 (hW:DataW.Whole enc Tryz.prog Tryz.f3.params.toList Rows.tokenAgainSpec.vars false W args.toList ds gs before)
 (hL:laidMetH Tryz.prog Rows.tokenAgainRow.laid W)(_hsh:W.ShapedOpen Tryz.prog):
 Calls Tryz.prog 3 args W fun e W'=>∃v,e=.returned v∧Rows.tokenAgainSpec.post enc Tryz.prog Tryz.f3 false true false false W args v W':=by
 have hW':=hW;obtain⟨p,q,hA0,hV,rfl,hfz,hnd⟩:=hW;have hA:DataW.TrodAll enc Tryz.prog W 0 (fun _=>true) true Tryz.f3.params.toList args.toList ds p:=hA0;rw[Tryz.params3] at hA hval;obtain⟨l1,l2,hr⟩:=Uxk hA;obtain⟨vs⟩:=args;obtain⟨v0,v1,v2,rfl⟩:=Uy0 l1;obtain⟨d0,d1,d2,rfl⟩:=Uy0 l2;obtain⟨rfl,rfl⟩:=trodVars_none hV;obtain⟨s0,rfl⟩:=okWide_string Tryz.underlying9 (hval 0 9 v0 rfl rfl);obtain⟨a1,n1,c1,rfl⟩:=okWide_slice Tryz.underlying22 (hval 1 22 v1 rfl rfl);obtain⟨_,es0,hs0⟩:=Uq0 Tryz.underlying9 (hr 0 9 _ d0 rfl rfl rfl);cases es0;have hI1:=Uwh (hr 1 22 _ d1 rfl rfl rfl);obtain⟨n2,rfl⟩:=okWide_int Tryz.underlying3 (hval 2 3 v2 rfl rfl);have L1:=Kzp hL;have L2:=Kzp L1;have L3:=Kzp L2;have L4:=Kzp L3;have L5:=Kzp L4;have L6:=Kzp L5;have L7:=Kzp L6;have L8:=Kzp L7;have L9:=Kzp L8;have L10:=Kzp L9;have L11:=Kzp L10;have TK:=Kqs L2 L4 L5
 have hE:Uzf W.heap.size W:=⟨Kzy L11,Kzz L10,Uk7 L9,⟨Kz7 L6,Yk4 L7,Yjl L8,Kqr L2 _hsh⟩,TK.2.2.2,Zz _,Za _ _ (Kz7 L6 0 (by decide)),Za _ _ (Yk4 L7 1 (by decide) (by decide)),Za _ _ (Yjl L8 1 (by decide) (by decide))⟩
 refine(Jyx s0 _ n2 W hs0 hI1 hE TK).mono fun e W' ⟨he,hb⟩=>?_;subst he;exact⟨_,rfl,Kzw Kz0 (by kernel_rfl) rfl rfl Tryz.underlying4 ⟨rfl,rfl,rfl⟩ hW' hb⟩
theorem Uzt(os:Os):laidMet Tryz.prog Rows.tokenAgainRow.laid ((Ywv os).forCall (fun _ _=>0) ⟨#[],#["",(),"0"],[]⟩).memory:=
 laidMet_of_run' 8 (by kernel_rfl) (by kernel_rfl)
theorem Kjt(os:Os){H:Type}(enc:TypeId×Value→H):∃places,DataW.whole enc Tryz.prog ((Ywv os).forCall (fun _ _=>0) ⟨#[],#["",(),"0"],[]⟩).memory Tryz.f3.params.toList Rows.tokenAgainSpec.vars false (#["",(),"0"]:Array Value).toList 8=some ([.lit (.string []),.nil,.lit (.int .i64 0)],[],places):=
 ⟨[],by kernel_rfl⟩
theorem Kqg(os:Os)(started:os.Started)(H:Type)(enc:TypeId×Value→H)(F:Stop.Interp):
 ReturnsInHanded {} Tryz.checked os 3 .any ((OpenSpec.ofChange Rows.tokenAgainSpec).preRow enc Tryz.prog Tryz.f3 Rows.tokenAgainRow.domain false Rows.tokenAgainRow.laid) (((OpenSpec.ofChange Rows.tokenAgainSpec).at F).post enc Tryz.prog Tryz.f3 false true false false):=by
 obtain⟨places,hx⟩:=Kjt os enc
 refine returnsInHanded_of_row (C:=Tryz.checked) (s:=OpenSpec.ofChange Rows.tokenAgainSpec) Kzv started (by kernel_rfl) Tryz.func3
  (witness_row_at (enc:=enc) (C:=Tryz.checked) false (Ywv os) #["",(),"0"] rfl (by kernel_rfl) (by kernel_rfl) (by kernel_rfl)
    (OpenSpec.preRow_of_cond 8 hx (by kernel_rfl) (fun k hk=>by cases hk) (by kernel_rfl) (Uzt os))) ?_
 intro W base args ds gs before hval hW _ _ _ hL hsh _;exact Uzs H enc W base args ds gs before hval hW hL hsh
theorem Kj5:Rows.TokenAgainSaid:=
 OpenClaim.holds_of_cond 3 Tryz.f3 rfl rfl rfl rfl rfl rfl rfl ⟨rfl,rfl,rfl,rfl,rfl⟩ rfl rfl rfl rfl rfl (by kernel_rfl) Tryz.func3 (by kernel_rfl)
  (of_decide_eq_true (by kernel_rfl)) (by unfold Func.isWrapper;first|(rw[if_pos (by decide+kernel)];kernel_rfl)|(rw[if_neg (by decide+kernel)];exact⟨rfl,rfl⟩))
  (fun os started H enc _ F=>by rw[OpenClaim.pre_eq_preRow];exact Kqg os started H enc F)
theorem Kju(f:FuncId)(fn:Func)(hf:Tryz.pinned.checked.prog.funcNamed "triggerstore/triggerstorelaw10.TokenAgain"=some f)(hfn:Tryz.pinned.checked.prog.funcs[f]?=some fn):
 true=Tryz.pinned.checked.prog.looks []∧∀(j:Nat) t,fn.params[j]?=some t→Tryz.pinned.checked.prog.wantsStandIn t=false:=by
 obtain rfl:f=3:=Jf ((show Tryz.prog.funcNamed "triggerstore/triggerstorelaw10.TokenAgain"=some 3 by kernel_rfl).symm.trans hf) |>.symm;obtain rfl:fn=Tryz.f3:=(Jf (Tryz.func3.symm.trans hfn)).symm;refine⟨by kernel_rfl,fun j t ht=>?_⟩;rw[Tryz.params3] at ht;have hall:([9,22,3]:List TypeId).all (fun t=>!Tryz.prog.wantsStandIn t)=true:=by kernel_rfl
 have h2:(!Tryz.prog.wantsStandIn t)=true:=Yn.1 hall t (Array.mem_of_getElem? ht).val
 have h3:Tryz.prog.wantsStandIn t=false:=by
  cases h:Tryz.prog.wantsStandIn t with
  |false=>rfl
  |true=>rw[h] at h2;cases h2
 exact h3
theorem card:Rows.TokenAgainCardSaid:=
 Claim7.holds_tied_plain_at .later [] _ _ _ _ Kj5 (fun _ h=>by cases h) (by kernel_rfl) (fun _ h=>by cases h) tokenAgain_row_tie rfl ⟨rfl,rfl⟩ (by kernel_rfl) rfl Kju (by kernel_rfl)
end Go.Proofs.YtgepbohjmgaojaaGreatDoor.tokenAgain
