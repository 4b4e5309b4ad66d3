/- Expressions from the tape: the contract of Expr. -/
import Derived.Test.YtgepbohjmgaojaaGreatDoorU10
set_option linter.all false
namespace Go.Proofs.YtgepbohjmgaojaaGreatDoor
open Value renaming slice→Qv
open Go.Proofs.Tryz
open Lib(hid)
open Go.RowKit
theorem Jv3{k o:Int}{no:Bool}{x:Val}{t nm:ByteArray}:dep (.mk k o no x t nm [] [])=0:=by simp[dep,Qvr,Yvr]
theorem Jqi{ss:List Sch}{fs:List Frm}{want:Int}{n:Nat}(x:Val)(hv:Qxz x)(h0:x.kind=1→0≤x.int)(h:x.kind=0∨x.kind=want):Mk ss fs want n (.mk 1 0 false x ⟨#[]⟩ ⟨#[]⟩ [] []):=⟨⟨by rw[Jv3];omega,.lit n x hv h0⟩,fun ts _=>Jwo ts fs want x h⟩
theorem Yjm{ss:List Sch}{fs:List Frm}{n:Nat}(m:Int)(h1:-1000≤m:=by omega)(h2:m≤1000:=by omega):Mk ss fs 1 n (Qqi m):=by
 refine⟨⟨?_,.num n m h1 h2⟩,fun ts _=>Uxq ts fs m⟩;unfold Qqi
 split<;>simp[Uz7,Qkk,dep,Qvr,Yvr]
theorem Uyw{look:List UInt8→List Col}{fs:List Frm}{ss:List Sch}{want:Int}{n:Nat}(h:Jzv look fs ss)(hN:Uzn fs ss):∀j f c,fs[j]?=some f→c∈f.cols→c.type=want→Mk ss fs want n (Qqp f.name c.name)∧(f.strict=false→j+1=fs.length→Mk ss fs want n (Qqp ⟨#[]⟩ c.name)):=by
 intro j f c hf hc ht;subst ht;have hcn:=hN.1 f (Yk hf) c hc;refine⟨⟨⟨by simp[Qqp,Jv3],.col n _ _ hcn⟩,fun ts _=>Uq4 h (Yk hf) hc⟩,fun hs hj=>⟨⟨by simp[Qqp,Jv3],.col n _ _ (Qwt hcn)⟩,fun ts _=>?_⟩⟩;have hlt:=(Yq.1 hf).1
 have he:fs=fs.take j++[f]:=by
  have h1:=Jh (l:=fs) (i:=j);rw[hf,hj,Jo] at h1;exact h1
 rw[he] at h⊢;exact Uq5 h hs hc
def opT(r:Int):Int:=if r=0∨r=3 then 9 else if r=1 then 10 else if r=2 then 11 else if r=4 then 12 else 13
theorem Jk4(r:Int):9≤opT r:=by unfold opT;split<;>(try split)<;>(try split)<;>(try split)<;>omega
theorem Jq8(r:Int):opT r≤13:=by unfold opT;split<;>(try split)<;>(try split)<;>(try split)<;>omega
theorem Jqj(W:World)(r:Int)(h0:0≤r)(h1:r<6):(W.alloc (.cells #["9",.int .i64 10,.int .i64 11,"9",.int .i64 12,.int .i64 13] 3)).cell? ⟨W.heap.size,r.toNat,none⟩=some (.int .i64 (opT r)):=by
 have h:r=0∨r=1∨r=2∨r=3∨r=4∨r=5:=by omega
 rcases h with rfl|rfl|rfl|rfl|rfl|rfl<;>simp[opT]
theorem Qqy{P:Program}{md:Region.Mode}{ops:Array Oper}{Q:Exit→Act→World→Prop}{S S':World→Prop}(hS:∀w,S' w→S w):∀(fuel:Nat) (listed:Array Bool) (a:Act) (w:World),wpAnyH P md ops Q S' fuel listed a w→wpAnyH P md ops Q S fuel listed a w
 |0,_,_,_,h=>h
 |fuel+1,_,_,_,h=>⟨h.1,fun i hi=>wpOp_mono (fun a' w' h'=>⟨hS _ h'.1,Qqy hS fuel _ a' w' h'.2⟩) (h.2 i hi)⟩
set_option maxRecDepth 100000 in
set_option maxHeartbeats 8000000 in
theorem Yz6(n:Nat)(T:Nat)(depth want:Int)(fa ta:Option Addr)(fc tc:Nat)(look:List UInt8→List Col)(fs:List Frm)(ss:List Sch)(w:World)(hE:0<depth→∃m:Nat,n=m+1∧Qwn m)(hn:n≤50)(hd:depth≤(n:Int))(hd0:-10≤depth)(hw0:1≤want)(hw3:want≤3)(ht:Qql T w)(hw:Qjh T w)
 (hf:Qqz (At T) w (Qv fa fs.length fc) fs)(hs:Qjt (At T) w (Qv ta ss.length tc) ss)(hP:Qzm look fs ss n):
 Calls prog 93 #[.pointer (some ⟨T,0,none⟩),.agg #[Qv fa fs.length fc,Qv ta ss.length tc],want,depth] w (Qjp T w (ExQ (Mk ss fs want n) w)):=by
 have hTw:=ht.lt;have HT:=hid ht;have HW:=hid hw;have HF:=hid hf;have HS:=hid hs;have HP:=hid hP;have HE:=hid hE;clear hE ht hw hf hs hP;go_enter func93,ntmps93;go_wp2_with fail
 generalize hW:((w.alloc _).alloc _)=W0;obtain⟨s0,s1,hb0,hz0,hr0⟩:=Qw4 hW;have hp0:W0.heap[w.heap.size]?=some (.cells #[Qv fa fs.length fc,Qv ta ss.length tc] 122 (0,0)):=by rw[←hW];exact((Qqb.refl (fun _=>False) (w.alloc _)).alloc _).block _ (by simp) id |>.trans (Zw w _)
 clear hW
 have hL0:Loc T (Qv fa fs.length fc) (Qv ta ss.length tc) w W0:=⟨HT.out.bel hb0,.bel hb0,hp0,hr0⟩
 have L0:=hid hL0;clear hb0 hz0 hr0 hp0 hL0 s0 s1
 go_upto_region 2 with(go_at_call 12;go_loud (refine(Qqk T 6 _ (by omega) (by omega) L0.out.tape).mono ?_;rintro e w1 ⟨v,rfl,⟨k0,rfl,hk0,hk1⟩,ht,hk⟩;have L1:=hid (L0.out.step hTw ht hk);clear ht hk))
 have L1':=L1.out
 go_cut [19] (fun c wx=>∃b:Bool,c=.bool b∧Loc T (Qv fa fs.length fc) (Qv ta ss.length tc) w wx)
 case first=>
  by_cases h4:4≤k0
  ·have h4':decide (4≤k0)=true:=by simpa using h4
   go_wp2_with fail
   all_goals go_meet
   all_goals exact⟨_,rfl,L1.out⟩
  ·have h4':decide (4≤k0)=false:=by simpa using h4
   go_wp2_with fail
   all_goals go_meet
   all_goals exact⟨_,rfl,L1.out⟩
 case rest=>
 obtain⟨b19,rfl,hL1⟩:=hcut;have L1:=hid hL1;clear hL1 L1';rename World=>w1c
 go_upto_if 19 with(fail)
 go_cut [9] (fun c wx=>∃k:Int,c=.int .i64 k∧0≤k∧k<6∧Loc T (Qv fa fs.length fc) (Qv ta ss.length tc) w wx)
 case first=>
  cases b19
  all_goals go_wp2_with(go_at_call 12;go_loud (refine(Qqk T 4 _ (by omega) (by omega) L1.out.tape).mono ?_;rintro e w2 ⟨v,rfl,⟨k2,rfl,hk20,hk21⟩,ht,hk⟩;have L2:=hid (L1.out.step hTw ht hk);clear ht hk))
  all_goals go_meet
  all_goals first|exact⟨k2,rfl,hk20,by omega,L2.out⟩|exact⟨k0,rfl,hk0,hk1,L1.out⟩
 case rest=>
  obtain⟨k,rfl,hk0,hk6,hLC⟩:=hcut;have LC:=hid hLC;obtain⟨p0,p1,pz⟩:=hLC.place;clear hLC;by_cases hleaf:depth≤0∨3≤k
  ·rcases Int.lt_or_le 0 depth with hdp|hdp
   ·have hk3:3≤k:=by omega
    clear hleaf;go_wp2_with fail
    refine(Jql (fun p=>Mk ss fs want n (Qqp p.1 p.2)) T _ _ ta ss.length tc fs want _ rfl LC.out.tape (HF.out.keep LC.out.kept) (by have:=HP.out.2.1;omega) HP.out.2.2.1 (Uyw HP.out.1 HP.out.2.2.2.2.2.2)).mono ?_;rintro e w3 ⟨v,rfl,hq,ht,hk⟩;have L3:=hid (LC.out.step hTw ht hk);clear ht hk
    rcases hq with rfl|⟨qn,nm,rfl,hp⟩
    ·dsimp only;go_wp2_with fail
     refine(Qq2 T 8 _ (by omega) (by omega) (L3.out.alloc hTw _).tape).mono ?_;rintro e w4 ⟨v,rfl,⟨b8,rfl⟩,ht,hk⟩;have L4:=hid ((L3.out.alloc hTw _).step hTw ht hk);clear ht hk;cases b8
     ·by_cases hw1:want=1
      ·subst hw1;dsimp only;go_wp2_with fail
       refine(Qv3 T _ L4.out.tape).mono ?_;rintro e w5 ⟨v,rfl,⟨m,rfl,hm0,hm1⟩,ht,hk⟩;have L5:=hid (L4.out.step hTw ht hk);clear ht hk;dsimp only;go_wp2_with fail
       refine(Qkh m (by omega) _).mono ?_;rintro e w6 ⟨v,rfl,hv,hb⟩;have hv0:=hv;obtain⟨a1,ac1,s1,sc1,rfl,_,_⟩:=hv0;have L6:=hid (L5.out.bel hTw hb);have HV:=hid hv;clear hv hb;dsimp only;obtain⟨r0,r1,r2,r3,r4,r5,r6,r7,r8,r9,rf,rz⟩:=L6.out.res
       repeat(first|go_values|go_skip|go_guarded|go_step|go_upon)
       refine Zh (v:=.agg #[.int .i64 (Qqi m).kind,.int .i64 (Qqi m).op,.bool (Qqi m).no,.int .i64 (Qqi m).val.kind,.int .i64 (Qqi m).val.int,.string (Qqi m).val.text,.string (Qqi m).table,.string (Qqi m).name,.slice a1 (Qqi m).args.length ac1,.slice s1 (Qqi m).sub.length sc1]) (by simp[results,results93,go_sem,r0,r1,r2,r3,r4,r5,r6,r7,r8,r9]) rfl ?_;have FIN:=Qzv (P:=Mk ss fs 1 n) hTw L6.out HV.out (by have:=L5.out.res.2.2.2.2.2.2.2.2.2.2.2;omega) (Qqh _ _ (.int .i64 (Qqi m).kind) (.int .i64 (Qqi m).op) (.bool (Qqi m).no) (.int .i64 (Qqi m).val.kind) (.int .i64 (Qqi m).val.int) (.string (Qqi m).val.text) (.string (Qqi m).table) (.string (Qqi m).name) (.slice a1 (Qqi m).args.length ac1) (.slice s1 (Qqi m).sub.length sc1)) (Yjm m);exact FIN
      ·have hw1':(want==1)=false:=by simpa using hw1
       dsimp only;go_wp2_with fail
       refine(Qk8 T want _ L4.out.tape (HW.out.at L4.out.kept)).mono ?_;rintro e w5 ⟨v,rfl,⟨x,rfl,hx1,hx2⟩,ht,hk⟩;have L5:=hid (L4.out.step hTw ht hk);have HX2:=hid hx2;have HX1:=hid hx1;clear ht hk hx1 hx2;dsimp only;go_wp2_with fail
       refine(Qxd _ _ _ _).mono ?_;rintro e w6 ⟨rfl,hb⟩;have L6:=hid (L5.out.bel hTw hb);clear hb;dsimp only;obtain⟨r0,r1,r2,r3,r4,r5,r6,r7,r8,r9,rf,rz⟩:=L6.out.res
       repeat(first|go_values|go_skip|go_guarded|go_step|go_upon)
       refine Zh (v:=.agg #["1","0",false,x.kind,x.int,x.text,"","",(),()]) (by simp[results,results93,go_sem,r0,r1,r2,r3,r4,r5,r6,r7,r8,r9]) rfl ?_;have FIN:=Qzv (lo:=w.heap.size+1+1) (P:=Mk ss fs want n) hTw L6.out (Qxy 1 0 false x ⟨#[]⟩ ⟨#[]⟩) (by omega) (Qqh _ _ (.int .i64 1) (.int .i64 0) false x.kind x.int x.text "" "" () ()) (Jqi x HX1.out (fun h=>by have:=HX2.out;omega) (HX2.out.elim .inr fun h=>by omega));exact FIN
     ·dsimp only;go_wp2_with fail
      refine(Qxd _ _ _ _).mono ?_;rintro e w6 ⟨rfl,hb⟩;have L6:=hid (L4.out.bel hTw hb);clear hb;dsimp only;obtain⟨r0,r1,r2,r3,r4,r5,r6,r7,r8,r9,rf,rz⟩:=L6.out.res
      repeat(first|go_values|go_skip|go_guarded|go_step|go_upon)
      refine Zh (v:=.agg #["1","0",false,"0","0","","","",(),()]) (by simp[results,results93,go_sem,r0,r1,r2,r3,r4,r5,r6,r7,r8,r9]) rfl ?_;have FIN:=Qzv (lo:=w.heap.size+1+1) (P:=Mk ss fs want n) hTw L6.out (Qxy 1 0 false Qvs ⟨#[]⟩ ⟨#[]⟩) (by omega) (Qqh _ _ (.int .i64 1) (.int .i64 0) false (.int .i64 0) (.int .i64 0) "" "" "" () ()) (Jqi Qvs (.inl ⟨rfl,rfl,rfl⟩) (fun h=>by cases h) (.inl rfl));exact FIN
    ·dsimp only;have HPC:=hid hp;clear hp;go_wp2_with fail
     refine(Qq2 T 3 _ (by omega) (by omega) (L3.out.alloc hTw _).tape).mono ?_;rintro e w7 ⟨v,rfl,⟨b3,rfl⟩,ht,hk⟩;have hx7:=(hk.block w3.heap.size (by simp) (fun h=>by have:=L3.out.place.2.2;unfold At at h;omega)).trans (Zw w3 _);have L7:=hid ((L3.out.alloc hTw _).step hTw ht hk);have HX7:=hid hx7;clear ht hk hx7;cases b3
     ·obtain⟨y0,y1,y2,y3,y4,y5,y6,y7,y8,y9,yf,yz⟩:=Qq5 HX7.out;dsimp only;clear yf;obtain⟨r0,r1,r2,r3,r4,r5,r6,r7,r8,r9,rf,rz⟩:=L7.out.res
      repeat(first|go_values|go_skip|go_guarded|go_step|go_upon)
      refine Zh (v:=.agg #["2","0",false,"0","0","",qn,nm,(),()]) (by simp[results,results93,go_sem,r0,r1,r2,r3,r4,r5,r6,r7,r8,r9]) rfl ?_;have FIN:=Qzv (lo:=w.heap.size+1+1) (P:=Mk ss fs want n) hTw L7.out (Qxy 2 0 false Qvs qn nm) (by omega) (Qqh _ _ (.int .i64 2) (.int .i64 0) false (.int .i64 0) (.int .i64 0) "" (.string qn) nm () ()) HPC.out;exact FIN
     ·dsimp only;go_wp2_with fail
      refine(Qq2 T 8 _ (by omega) (by omega) (L7.out).tape).mono ?_;rintro e w4 ⟨v,rfl,⟨b8,rfl⟩,ht,hk⟩;have L4:=hid ((L7.out).step hTw ht hk);clear ht hk;cases b8
      ·by_cases hw1:want=1
       ·subst hw1;dsimp only;go_wp2_with fail
        refine(Qv3 T _ L4.out.tape).mono ?_;rintro e w5 ⟨v,rfl,⟨m,rfl,hm0,hm1⟩,ht,hk⟩;have L5:=hid (L4.out.step hTw ht hk);clear ht hk;dsimp only;go_wp2_with fail
        refine(Qkh m (by omega) _).mono ?_;rintro e w6 ⟨v,rfl,hv,hb⟩;have hv0:=hv;obtain⟨a1,ac1,s1,sc1,rfl,_,_⟩:=hv0;have L6:=hid (L5.out.bel hTw hb);have HV:=hid hv;clear hv hb;dsimp only;obtain⟨r0,r1,r2,r3,r4,r5,r6,r7,r8,r9,rf,rz⟩:=L6.out.res
        repeat(first|go_values|go_skip|go_guarded|go_step|go_upon)
        refine Zh (v:=.agg #[.int .i64 (Qqi m).kind,.int .i64 (Qqi m).op,.bool (Qqi m).no,.int .i64 (Qqi m).val.kind,.int .i64 (Qqi m).val.int,.string (Qqi m).val.text,.string (Qqi m).table,.string (Qqi m).name,.slice a1 (Qqi m).args.length ac1,.slice s1 (Qqi m).sub.length sc1]) (by simp[results,results93,go_sem,r0,r1,r2,r3,r4,r5,r6,r7,r8,r9]) rfl ?_;have FIN:=Qzv (P:=Mk ss fs 1 n) hTw L6.out HV.out (by have:=L5.out.res.2.2.2.2.2.2.2.2.2.2.2;omega) (Qqh _ _ (.int .i64 (Qqi m).kind) (.int .i64 (Qqi m).op) (.bool (Qqi m).no) (.int .i64 (Qqi m).val.kind) (.int .i64 (Qqi m).val.int) (.string (Qqi m).val.text) (.string (Qqi m).table) (.string (Qqi m).name) (.slice a1 (Qqi m).args.length ac1) (.slice s1 (Qqi m).sub.length sc1)) (Yjm m);exact FIN
       ·have hw1':(want==1)=false:=by simpa using hw1
        dsimp only;go_wp2_with fail
        refine(Qk8 T want _ L4.out.tape (HW.out.at L4.out.kept)).mono ?_;rintro e w5 ⟨v,rfl,⟨x,rfl,hx1,hx2⟩,ht,hk⟩;have L5:=hid (L4.out.step hTw ht hk);have HX2:=hid hx2;have HX1:=hid hx1;clear ht hk hx1 hx2;dsimp only;go_wp2_with fail
        refine(Qxd _ _ _ _).mono ?_;rintro e w6 ⟨rfl,hb⟩;have L6:=hid (L5.out.bel hTw hb);clear hb;dsimp only;obtain⟨r0,r1,r2,r3,r4,r5,r6,r7,r8,r9,rf,rz⟩:=L6.out.res
        repeat(first|go_values|go_skip|go_guarded|go_step|go_upon)
        refine Zh (v:=.agg #["1","0",false,x.kind,x.int,x.text,"","",(),()]) (by simp[results,results93,go_sem,r0,r1,r2,r3,r4,r5,r6,r7,r8,r9]) rfl ?_;have FIN:=Qzv (lo:=w.heap.size+1+1) (P:=Mk ss fs want n) hTw L6.out (Qxy 1 0 false x ⟨#[]⟩ ⟨#[]⟩) (by omega) (Qqh _ _ (.int .i64 1) (.int .i64 0) false x.kind x.int x.text "" "" () ()) (Jqi x HX1.out (fun h=>by have:=HX2.out;omega) (HX2.out.elim .inr fun h=>by omega));exact FIN
      ·dsimp only;go_wp2_with fail
       refine(Qxd _ _ _ _).mono ?_;rintro e w6 ⟨rfl,hb⟩;have L6:=hid (L4.out.bel hTw hb);clear hb;dsimp only;obtain⟨r0,r1,r2,r3,r4,r5,r6,r7,r8,r9,rf,rz⟩:=L6.out.res
       repeat(first|go_values|go_skip|go_guarded|go_step|go_upon)
       refine Zh (v:=.agg #["1","0",false,"0","0","","","",(),()]) (by simp[results,results93,go_sem,r0,r1,r2,r3,r4,r5,r6,r7,r8,r9]) rfl ?_;have FIN:=Qzv (lo:=w.heap.size+1+1) (P:=Mk ss fs want n) hTw L6.out (Qxy 1 0 false Qvs ⟨#[]⟩ ⟨#[]⟩) (by omega) (Qqh _ _ (.int .i64 1) (.int .i64 0) false (.int .i64 0) (.int .i64 0) "" "" "" () ()) (Jqi Qvs (.inl ⟨rfl,rfl,rfl⟩) (fun h=>by cases h) (.inl rfl));exact FIN
   ·clear hleaf;go_wp2_with fail
    refine(Jql (fun p=>Mk ss fs want n (Qqp p.1 p.2)) T _ _ ta ss.length tc fs want _ rfl LC.out.tape (HF.out.keep LC.out.kept) (by have:=HP.out.2.1;omega) HP.out.2.2.1 (Uyw HP.out.1 HP.out.2.2.2.2.2.2)).mono ?_;rintro e w3 ⟨v,rfl,hq,ht,hk⟩;have L3:=hid (LC.out.step hTw ht hk);clear ht hk
    rcases hq with rfl|⟨qn,nm,rfl,hp⟩
    ·dsimp only;go_wp2_with fail
     refine(Qq2 T 8 _ (by omega) (by omega) (L3.out.alloc hTw _).tape).mono ?_;rintro e w4 ⟨v,rfl,⟨b8,rfl⟩,ht,hk⟩;have L4:=hid ((L3.out.alloc hTw _).step hTw ht hk);clear ht hk;cases b8
     ·by_cases hw1:want=1
      ·subst hw1;dsimp only;go_wp2_with fail
       refine(Qv3 T _ L4.out.tape).mono ?_;rintro e w5 ⟨v,rfl,⟨m,rfl,hm0,hm1⟩,ht,hk⟩;have L5:=hid (L4.out.step hTw ht hk);clear ht hk;dsimp only;go_wp2_with fail
       refine(Qkh m (by omega) _).mono ?_;rintro e w6 ⟨v,rfl,hv,hb⟩;have hv0:=hv;obtain⟨a1,ac1,s1,sc1,rfl,_,_⟩:=hv0;have L6:=hid (L5.out.bel hTw hb);have HV:=hid hv;clear hv hb;dsimp only;obtain⟨r0,r1,r2,r3,r4,r5,r6,r7,r8,r9,rf,rz⟩:=L6.out.res
       repeat(first|go_values|go_skip|go_guarded|go_step|go_upon)
       refine Zh (v:=.agg #[.int .i64 (Qqi m).kind,.int .i64 (Qqi m).op,.bool (Qqi m).no,.int .i64 (Qqi m).val.kind,.int .i64 (Qqi m).val.int,.string (Qqi m).val.text,.string (Qqi m).table,.string (Qqi m).name,.slice a1 (Qqi m).args.length ac1,.slice s1 (Qqi m).sub.length sc1]) (by simp[results,results93,go_sem,r0,r1,r2,r3,r4,r5,r6,r7,r8,r9]) rfl ?_;have FIN:=Qzv (P:=Mk ss fs 1 n) hTw L6.out HV.out (by have:=L5.out.res.2.2.2.2.2.2.2.2.2.2.2;omega) (Qqh _ _ (.int .i64 (Qqi m).kind) (.int .i64 (Qqi m).op) (.bool (Qqi m).no) (.int .i64 (Qqi m).val.kind) (.int .i64 (Qqi m).val.int) (.string (Qqi m).val.text) (.string (Qqi m).table) (.string (Qqi m).name) (.slice a1 (Qqi m).args.length ac1) (.slice s1 (Qqi m).sub.length sc1)) (Yjm m);exact FIN
      ·have hw1':(want==1)=false:=by simpa using hw1
       dsimp only;go_wp2_with fail
       refine(Qk8 T want _ L4.out.tape (HW.out.at L4.out.kept)).mono ?_;rintro e w5 ⟨v,rfl,⟨x,rfl,hx1,hx2⟩,ht,hk⟩;have L5:=hid (L4.out.step hTw ht hk);have HX2:=hid hx2;have HX1:=hid hx1;clear ht hk hx1 hx2;dsimp only;go_wp2_with fail
       refine(Qxd _ _ _ _).mono ?_;rintro e w6 ⟨rfl,hb⟩;have L6:=hid (L5.out.bel hTw hb);clear hb;dsimp only;obtain⟨r0,r1,r2,r3,r4,r5,r6,r7,r8,r9,rf,rz⟩:=L6.out.res
       repeat(first|go_values|go_skip|go_guarded|go_step|go_upon)
       refine Zh (v:=.agg #["1","0",false,x.kind,x.int,x.text,"","",(),()]) (by simp[results,results93,go_sem,r0,r1,r2,r3,r4,r5,r6,r7,r8,r9]) rfl ?_;have FIN:=Qzv (lo:=w.heap.size+1+1) (P:=Mk ss fs want n) hTw L6.out (Qxy 1 0 false x ⟨#[]⟩ ⟨#[]⟩) (by omega) (Qqh _ _ (.int .i64 1) (.int .i64 0) false x.kind x.int x.text "" "" () ()) (Jqi x HX1.out (fun h=>by have:=HX2.out;omega) (HX2.out.elim .inr fun h=>by omega));exact FIN
     ·dsimp only;go_wp2_with fail
      refine(Qxd _ _ _ _).mono ?_;rintro e w6 ⟨rfl,hb⟩;have L6:=hid (L4.out.bel hTw hb);clear hb;dsimp only;obtain⟨r0,r1,r2,r3,r4,r5,r6,r7,r8,r9,rf,rz⟩:=L6.out.res
      repeat(first|go_values|go_skip|go_guarded|go_step|go_upon)
      refine Zh (v:=.agg #["1","0",false,"0","0","","","",(),()]) (by simp[results,results93,go_sem,r0,r1,r2,r3,r4,r5,r6,r7,r8,r9]) rfl ?_;have FIN:=Qzv (lo:=w.heap.size+1+1) (P:=Mk ss fs want n) hTw L6.out (Qxy 1 0 false Qvs ⟨#[]⟩ ⟨#[]⟩) (by omega) (Qqh _ _ (.int .i64 1) (.int .i64 0) false (.int .i64 0) (.int .i64 0) "" "" "" () ()) (Jqi Qvs (.inl ⟨rfl,rfl,rfl⟩) (fun h=>by cases h) (.inl rfl));exact FIN
    ·dsimp only;have HPC:=hid hp;clear hp;go_wp2_with fail
     refine(Qq2 T 3 _ (by omega) (by omega) (L3.out.alloc hTw _).tape).mono ?_;rintro e w7 ⟨v,rfl,⟨b3,rfl⟩,ht,hk⟩;have hx7:=(hk.block w3.heap.size (by simp) (fun h=>by have:=L3.out.place.2.2;unfold At at h;omega)).trans (Zw w3 _);have L7:=hid ((L3.out.alloc hTw _).step hTw ht hk);have HX7:=hid hx7;clear ht hk hx7;cases b3
     ·obtain⟨y0,y1,y2,y3,y4,y5,y6,y7,y8,y9,yf,yz⟩:=Qq5 HX7.out;dsimp only;clear yf;obtain⟨r0,r1,r2,r3,r4,r5,r6,r7,r8,r9,rf,rz⟩:=L7.out.res
      repeat(first|go_values|go_skip|go_guarded|go_step|go_upon)
      refine Zh (v:=.agg #["2","0",false,"0","0","",qn,nm,(),()]) (by simp[results,results93,go_sem,r0,r1,r2,r3,r4,r5,r6,r7,r8,r9]) rfl ?_;have FIN:=Qzv (lo:=w.heap.size+1+1) (P:=Mk ss fs want n) hTw L7.out (Qxy 2 0 false Qvs qn nm) (by omega) (Qqh _ _ (.int .i64 2) (.int .i64 0) false (.int .i64 0) (.int .i64 0) "" (.string qn) nm () ()) HPC.out;exact FIN
     ·dsimp only;go_wp2_with fail
      refine(Qq2 T 8 _ (by omega) (by omega) (L7.out).tape).mono ?_;rintro e w4 ⟨v,rfl,⟨b8,rfl⟩,ht,hk⟩;have L4:=hid ((L7.out).step hTw ht hk);clear ht hk;cases b8
      ·by_cases hw1:want=1
       ·subst hw1;dsimp only;go_wp2_with fail
        refine(Qv3 T _ L4.out.tape).mono ?_;rintro e w5 ⟨v,rfl,⟨m,rfl,hm0,hm1⟩,ht,hk⟩;have L5:=hid (L4.out.step hTw ht hk);clear ht hk;dsimp only;go_wp2_with fail
        refine(Qkh m (by omega) _).mono ?_;rintro e w6 ⟨v,rfl,hv,hb⟩;have hv0:=hv;obtain⟨a1,ac1,s1,sc1,rfl,_,_⟩:=hv0;have L6:=hid (L5.out.bel hTw hb);have HV:=hid hv;clear hv hb;dsimp only;obtain⟨r0,r1,r2,r3,r4,r5,r6,r7,r8,r9,rf,rz⟩:=L6.out.res
        repeat(first|go_values|go_skip|go_guarded|go_step|go_upon)
        refine Zh (v:=.agg #[.int .i64 (Qqi m).kind,.int .i64 (Qqi m).op,.bool (Qqi m).no,.int .i64 (Qqi m).val.kind,.int .i64 (Qqi m).val.int,.string (Qqi m).val.text,.string (Qqi m).table,.string (Qqi m).name,.slice a1 (Qqi m).args.length ac1,.slice s1 (Qqi m).sub.length sc1]) (by simp[results,results93,go_sem,r0,r1,r2,r3,r4,r5,r6,r7,r8,r9]) rfl ?_;have FIN:=Qzv (P:=Mk ss fs 1 n) hTw L6.out HV.out (by have:=L5.out.res.2.2.2.2.2.2.2.2.2.2.2;omega) (Qqh _ _ (.int .i64 (Qqi m).kind) (.int .i64 (Qqi m).op) (.bool (Qqi m).no) (.int .i64 (Qqi m).val.kind) (.int .i64 (Qqi m).val.int) (.string (Qqi m).val.text) (.string (Qqi m).table) (.string (Qqi m).name) (.slice a1 (Qqi m).args.length ac1) (.slice s1 (Qqi m).sub.length sc1)) (Yjm m);exact FIN
       ·have hw1':(want==1)=false:=by simpa using hw1
        dsimp only;go_wp2_with fail
        refine(Qk8 T want _ L4.out.tape (HW.out.at L4.out.kept)).mono ?_;rintro e w5 ⟨v,rfl,⟨x,rfl,hx1,hx2⟩,ht,hk⟩;have L5:=hid (L4.out.step hTw ht hk);have HX2:=hid hx2;have HX1:=hid hx1;clear ht hk hx1 hx2;dsimp only;go_wp2_with fail
        refine(Qxd _ _ _ _).mono ?_;rintro e w6 ⟨rfl,hb⟩;have L6:=hid (L5.out.bel hTw hb);clear hb;dsimp only;obtain⟨r0,r1,r2,r3,r4,r5,r6,r7,r8,r9,rf,rz⟩:=L6.out.res
        repeat(first|go_values|go_skip|go_guarded|go_step|go_upon)
        refine Zh (v:=.agg #["1","0",false,x.kind,x.int,x.text,"","",(),()]) (by simp[results,results93,go_sem,r0,r1,r2,r3,r4,r5,r6,r7,r8,r9]) rfl ?_;have FIN:=Qzv (lo:=w.heap.size+1+1) (P:=Mk ss fs want n) hTw L6.out (Qxy 1 0 false x ⟨#[]⟩ ⟨#[]⟩) (by omega) (Qqh _ _ (.int .i64 1) (.int .i64 0) false x.kind x.int x.text "" "" () ()) (Jqi x HX1.out (fun h=>by have:=HX2.out;omega) (HX2.out.elim .inr fun h=>by omega));exact FIN
      ·dsimp only;go_wp2_with fail
       refine(Qxd _ _ _ _).mono ?_;rintro e w6 ⟨rfl,hb⟩;have L6:=hid (L4.out.bel hTw hb);clear hb;dsimp only;obtain⟨r0,r1,r2,r3,r4,r5,r6,r7,r8,r9,rf,rz⟩:=L6.out.res
       repeat(first|go_values|go_skip|go_guarded|go_step|go_upon)
       refine Zh (v:=.agg #["1","0",false,"0","0","","","",(),()]) (by simp[results,results93,go_sem,r0,r1,r2,r3,r4,r5,r6,r7,r8,r9]) rfl ?_;have FIN:=Qzv (lo:=w.heap.size+1+1) (P:=Mk ss fs want n) hTw L6.out (Qxy 1 0 false Qvs ⟨#[]⟩ ⟨#[]⟩) (by omega) (Qqh _ _ (.int .i64 1) (.int .i64 0) false (.int .i64 0) (.int .i64 0) "" "" "" () ()) (Jqi Qvs (.inl ⟨rfl,rfl,rfl⟩) (fun h=>by cases h) (.inl rfl));exact FIN
  ·have hdp:0<depth:=by omega
   have hk3:k<3:=by omega
   clear hleaf;obtain⟨m,rfl,hEm⟩:=HE.out hdp;have HEX:=hid (fun(W:World) (q:Loc T (Qv fa fs.length fc) (Qv ta ss.length tc) w W)=>Jw7 hEm HW.out HF.out HS.out HP.out q);have HQY:=hid (fun(W:World) (q:Loc T (Qv fa fs.length fc) (Qv ta ss.length tc) w W) (kk:Int) (h8:8≤kk) (h12:kk≤12)=>Uqh m hEm T kk depth fa ta fc tc look fs ss W (by omega) (by omega) (by omega) h8 h12 q.tape (HW.out.at q.kept) (HF.out.keep q.kept) (HS.out.keep q.kept) HP.out);have HCN:=hid (fun(W:World) (q:Loc T (Qv fa fs.length fc) (Qv ta ss.length tc) w W)=>Jw8 m hEm T depth fa ta fc tc look fs ss W (by omega) (by omega) (by omega) q.tape (HW.out.at q.kept) (HF.out.keep q.kept) (HS.out.keep q.kept) HP.out);have HKS:=hid (fun(w':World) (h:Loc T (Qv fa fs.length fc) (Qv ta ss.length tc) w w')=>(show w'.cell? ⟨w.heap.size,0,none⟩=some (Qv fa fs.length fc)∧w'.cell? ⟨w.heap.size,1,none⟩=some (Qv ta ss.length tc) from⟨h.place.1,h.place.2.1⟩));have HKR:=hid (fun(wi w':World) (h:Loc T (Qv fa fs.length fc) (Qv ta ss.length tc) w wi) (ks:Qqb (At (w.heap.size+1)) wi w')=>(show w'.cell? ⟨w.heap.size,0,none⟩=some (Qv fa fs.length fc)∧w'.cell? ⟨w.heap.size,1,none⟩=some (Qv ta ss.length tc) from⟨(ks.cell h.place.2.2 (by unfold At;omega)).trans h.place.1,(ks.cell h.place.2.2 (by unfold At;omega)).trans h.place.2.1⟩));have HKA:=hid (fun(wi w1:World) (h:Loc T (Qv fa fs.length fc) (Qv ta ss.length tc) w wi) (ks:Qqb (At (w.heap.size+1)) wi w1) (o:Obj)=>HKR.out wi (w1.alloc o) h (ks.alloc o));have hss:1≤ss.length:=Jn.2 HP.out.2.2.2.2.1;have ed:IntKind.i64.wrap (depth-1)=depth-1:=Zp _ (by omega);have ED:=hid ed;clear ed hEm HE;have tok3:Hid True:=trivial;have tok4:Hid True:=trivial;have h3:want=1∨want=2∨want=3:=by omega
   rcases h3 with rfl|rfl|rfl
   ·by_cases hk00:k=0
    ·subst hk00;go_wp2_with fail
     go_region_held3 (fun w'=>w'.cell? ⟨w.heap.size,0,none⟩=some (Qv fa fs.length fc)∧w'.cell? ⟨w.heap.size,1,none⟩=some (Qv ta ss.length tc))
      (first|(with_reducible refine HKS.out _ ?_;first|with_reducible exact L3.out|with_reducible exact L2.out|with_reducible exact LC.out.drew|with_reducible exact L3.out.alloc hTw _)|(with_reducible refine HKA.out _ _ L3.out ?_ _;with_reducible exact Qqh _ _ _ _ _ _ _ _ _ _ _ _)|(with_reducible refine HKR.out _ _ L3.out ?_;with_reducible exact Qqh _ _ _ _ _ _ _ _ _ _ _ _))
      (first
        |(go_at_call 12;go_loud (refine(Qqk T 4 _ (by omega) (by omega) (LC.out.drew).tape).mono ?_;rintro e w2 ⟨v,rfl,⟨o,rfl,ho0,ho1⟩,ht,hk⟩;have eo:IntKind.i64.wrap (9+o)=9+o:=Zp _ (by omega);have L2:=hid ((LC.out.drew).step hTw ht hk);clear ht hk))
        |(go_at_call 123;go_loud (refine(HQY.out _ L2.out (9+o) (by omega) (by omega)).mono ?_;rintro e w3 ⟨v,rfl,⟨x,hx,hmk⟩,ht,hk⟩;have hx0:=hx;obtain⟨a1,ac1,s1,sc1,rfl,_,_⟩:=hx0;have L3:=hid ((L2.out).step hTw ht hk);have HX:=hid hx;have HM:=hid hmk;obtain⟨r0,r1,r2,r3,r4,r5,r6,r7,r8,r9,rf,rz⟩:=L3.out.res;clear hx hmk ht hk)))
     repeat(first|go_values|go_skip|go_guarded|go_step|go_upon)
     refine Zh (v:=.agg #[x.kind,x.op,x.no,x.val.kind,x.val.int,x.val.text,x.table,x.name,Qv a1 x.args.length ac1,Qv s1 x.sub.length sc1]) (by simp[results,results93,go_sem,r0,r1,r2,r3,r4,r5,r6,r7,r8,r9]) rfl ?_;have hq1:Ywz (9+o)=1:=by unfold Ywz;rw[if_neg (by omega)]
     have HMX:=HM.out;rw[hq1] at HMX;have FIN:=Qzv (P:=Mk ss fs 1 (m+1)) hTw L3.out HX.out (by have:=L2.out.res.2.2.2.2.2.2.2.2.2.2.2;omega) (Qqh _ _ x.kind x.op x.no x.val.kind x.val.int x.val.text x.table x.name (Qv a1 x.args.length ac1) (Qv s1 x.sub.length sc1)) HMX;exact FIN
    ·have hk01:(k==0)=false:=by simpa using hk00
     clear hk00;go_wp2_with fail
     refine(Qq2 T 6 _ (by omega) (by omega) LC.out.tape).mono ?_;rintro e w2 ⟨v,rfl,⟨b6,rfl⟩,ht,hk⟩;have L2:=hid (LC.out.step hTw ht hk);obtain⟨p0',p1',pz'⟩:=L2.out.place;clear ht hk;cases b6
     ·dsimp only;go_wp2_with fail
      have ed:=ED.out;refine Kg ?_;refine Kj (S:=fun w'=>w'.cell? ⟨w.heap.size,0,none⟩=some (Qv fa fs.length fc)∧w'.cell? ⟨w.heap.size,1,none⟩=some (Qv ta ss.length tc)) (by kernel_rfl) ?_ (fun hHeld=>?_)
      ·exact HKS.out _ L2.out.drew
      refine tk 1 ?_
      (try simp only[Act.put,Zj])
      refine tk 5 ?_
      (try simp only[Act.put])
      refine tk 6 ?_
      (try simp only[Act.put])
      refine tk 7 ?_
      (try simp only[Act.put])
      refine tk 8 ?_
      (try simp only[Act.put])
      refine tk 9 ?_
      (try simp only[Act.put])
      refine tk 11 ?_
      (try simp only[Act.put])
      refine tk 12 ?_
      (try simp only[Act.put])
      refine tk 13 ?_
      (try simp only[Act.put])
      refine tk 14 ?_
      (try simp only[Act.put])
      refine tk 15 ?_
      (try simp only[Act.put])
      refine Zc (rs:=[0,2]) (by kernel_rfl) (by simp) ?_;refine Zy (o:=_) rfl (fun K hK=>?_) ?_
      ·go_simp
       refine hK.out _ _ ?_ (fun hHeld=>?_)
       ·(try dsimp only)
        exact HKS.out _ ((L2.out.alloc hTw _).drew)
       clear hK K
       (try simp only[Act.put,Zj,Zx,Zk])
       refine Zc (rs:=[2]) (by kernel_rfl) (by simp) ?_;refine Zy (o:=_) rfl (fun K hK=>?_) ?_
       ·go_simp
        refine(Qqk T 6 _ (by omega) (by omega) ((L2.out.alloc hTw _).drew).tape).mono ?_;rintro e w3 ⟨v,rfl,⟨r,rfl,ho0,ho1⟩,ht,hk⟩;have L3:=hid (((L2.out.alloc hTw _).drew).step hTw ht hk);have z3:=hk.size
        (try simp only[Zn,Yl] at z3)
        have gc3:w3.cell? ⟨w2.heap.size,r.toNat,none⟩=some (.int .i64 (opT r)):=(hk.cell (b:=w2.heap.size) (by simp) (fun h=>by have:=L2.out.place.2.2;unfold At at h;omega)).trans (Jqj w2 r ho0 ho1);have GC3:=hid gc3;clear gc3;clear ht hk;dsimp only;refine hK.out _ _ ?_ (fun hHeld=>?_)
        ·(try dsimp only)
         exact HKS.out _ L3.out
        clear hK K
        (try simp only[Act.put,Zj,Zx,Zk])
        have hG:(w3).cell? ⟨w2.heap.size,r.toNat,none⟩=some (.int .i64 (opT r)):=GC3.out;refine Qqy (S:=fun w'=>w'.cell? ⟨w.heap.size,0,none⟩=some (Qv fa fs.length fc)∧w'.cell? ⟨w.heap.size,1,none⟩=some (Qv ta ss.length tc)) (S':=fun w'=>w'.cell? ⟨w.heap.size,0,none⟩=some (Qv fa fs.length fc)∧w'.cell? ⟨w.heap.size,1,none⟩=some (Qv ta ss.length tc)∧w'.cell? ⟨w2.heap.size,r.toNat,none⟩=some (.int .i64 (opT r))) (fun _ h=>⟨h.1,h.2.1⟩) _ _ _ _ ?_;clear hHeld
        have hHeld:(w3).cell? ⟨w.heap.size,0,none⟩=some (Qv fa fs.length fc)∧(w3).cell? ⟨w.heap.size,1,none⟩=some (Qv ta ss.length tc)∧(w3).cell? ⟨w2.heap.size,r.toNat,none⟩=some (.int .i64 (opT r)):=⟨(HKS.out _ (L3.out)).1,(HKS.out _ (L3.out)).2,hG⟩
        clear hG;refine tk 3 ?_
        (try simp only[Act.put,Zj])
        refine tk 4 ?_
        (try simp only[Act.put])
        refine Zc (rs:=[10]) (by kernel_rfl) (by simp) ?_;refine Zy (o:=_) rfl (fun K hK=>?_) ?_
        ·go_simp
         refine(HEX.out _ (L3.out) (depth-1) 1 (by omega) (by omega) (by omega) (by omega)).mono ?_;rintro e w4 ⟨v,rfl,⟨x,hx,hmk⟩,ht,hk⟩;have hx0:=hx;obtain⟨a1,ac1,s1,sc1,rfl,_,_⟩:=hx0;have L4:=hid ((L3.out).step hTw ht hk);have zw4:=hk.size
         (try simp only[Zn] at zw4)
         have GC4:=hid ((hk.cell (b:=w2.heap.size) (by first|omega|(simp;done)|(simp;omega)) (fun h=>by unfold At at h;omega)).trans GC3.out);have HX1:=hid hx;have HM1:=hid hmk;have HK1:=hid hk;clear hx hmk ht hk;dsimp only;refine hK.out _ _ ?_ (fun hHeld=>?_)
         ·(try dsimp only)
          exact⟨(HKS.out _ L4.out).1,(HKS.out _ L4.out).2,GC4.out⟩
         clear hK K
         (try simp only[Act.put,Zj,Zx,Zk])
         refine Zc (rs:=[16]) (by kernel_rfl) (by simp) ?_;refine Zy (o:=_) rfl (fun K hK=>?_) ?_
         ·go_simp
          refine(HEX.out _ (L4.out) (depth-1) 1 (by omega) (by omega) (by omega) (by omega)).mono ?_;rintro e w5 ⟨v,rfl,⟨y,hx,hmk⟩,ht,hk⟩;have hx0:=hx;obtain⟨a2,ac2,s2,sc2,rfl,_,_⟩:=hx0;have L5:=hid ((L4.out).step hTw ht hk);have zw5:=hk.size
          (try simp only[Zn] at zw5)
          have GC5:=hid ((hk.cell (b:=w2.heap.size) (by first|omega|(simp;done)|(simp;omega)) (fun h=>by unfold At at h;omega)).trans GC4.out);have HX2:=hid hx;have HM2:=hid hmk;have HK2:=hid hk;clear hx hmk ht hk;dsimp only;refine hK.out _ _ ?_ (fun hHeld=>?_)
          ·(try dsimp only)
           exact⟨(HKS.out _ L5.out).1,(HKS.out _ L5.out).2,GC5.out⟩
          clear hK K
          (try simp only[Act.put,Zj,Zx,Zk])
          refine Zc (rs:=[17]) (by kernel_rfl) (by simp) ?_;refine Zy (o:=_) rfl (fun K hK=>?_) ?_
          ·go_simp
           refine(Qvm (lo:=w.heap.size+1+1) (opT r) (Qz6 (lo:=w2.heap.size) (Qww (by have:=L2.out.place.2.2;omega) (Qz6 HX1.out (by first|omega|(simp;done)|(simp;omega))) HK2.out) (by have:=L2.out.res.2.2.2.2.2.2.2.2.2.2.2;omega)) (Qz6 (lo:=w2.heap.size) (Qz6 HX2.out (by first|omega|(simp;done)|(simp;omega))) (by have:=L2.out.res.2.2.2.2.2.2.2.2.2.2.2;omega)) (by have:=L2.out.res.2.2.2.2.2.2.2.2.2.2.2;first|omega|(simp only[Zn];omega))).mono ?_;rintro e w6 ⟨v,rfl,hv,hb⟩;have hv0:=hv;obtain⟨a9,ac9,s9,sc9,rfl,_,_⟩:=hv0;have L6:=hid ((L5.out).bel hTw hb);have HV:=hid hv;have z6:=hb.size
           (try simp only[Zn] at z6)
           have GC6:=hid ((hb.cell (p:=⟨w2.heap.size,r.toNat,none⟩) (by first|(simp only[];omega)|(simp;done)|(simp;omega))).trans GC5.out);obtain⟨r0,r1,r2,r3,r4,r5,r6,r7,r8,r9,rf,rz⟩:=L6.out.res;clear hv hb;dsimp only;refine hK.out _ _ ?_ (fun hHeld=>?_)
           ·(try dsimp only)
            exact⟨(HKS.out _ L6.out).1,(HKS.out _ L6.out).2,GC6.out⟩
           clear hK K
           (try simp only[Act.put,Zj,Zx,Zk])
           refine Zc (rs:=[18]) (by kernel_rfl) (by simp) ?_;refine Zy (o:=_) rfl (fun K hK=>?_) ?_
           ·go_simp
            refine hK.out _ _ ?_ (fun hHeld=>?_)
            ·(try dsimp only)
             exact⟨(HKR.out _ _ L6.out (Qqh _ _ (.int .i64 (Qqc (opT r) x y).kind) (.int .i64 (Qqc (opT r) x y).op) (.bool (Qqc (opT r) x y).no) (.int .i64 (Qqc (opT r) x y).val.kind) (.int .i64 (Qqc (opT r) x y).val.int) (.string (Qqc (opT r) x y).val.text) (.string (Qqc (opT r) x y).table) (.string (Qqc (opT r) x y).name) (.slice a9 (Qqc (opT r) x y).args.length ac9) (.slice s9 (Qqc (opT r) x y).sub.length sc9))).1,(HKR.out _ _ L6.out (Qqh _ _ (.int .i64 (Qqc (opT r) x y).kind) (.int .i64 (Qqc (opT r) x y).op) (.bool (Qqc (opT r) x y).no) (.int .i64 (Qqc (opT r) x y).val.kind) (.int .i64 (Qqc (opT r) x y).val.int) (.string (Qqc (opT r) x y).val.text) (.string (Qqc (opT r) x y).table) (.string (Qqc (opT r) x y).name) (.slice a9 (Qqc (opT r) x y).args.length ac9) (.slice s9 (Qqc (opT r) x y).sub.length sc9))).2,((Qqh _ _ (.int .i64 (Qqc (opT r) x y).kind) (.int .i64 (Qqc (opT r) x y).op) (.bool (Qqc (opT r) x y).no) (.int .i64 (Qqc (opT r) x y).val.kind) (.int .i64 (Qqc (opT r) x y).val.int) (.string (Qqc (opT r) x y).val.text) (.string (Qqc (opT r) x y).table) (.string (Qqc (opT r) x y).name) (.slice a9 (Qqc (opT r) x y).args.length ac9) (.slice s9 (Qqc (opT r) x y).sub.length sc9)).cell (by have:=L2.out.res.2.2.2.2.2.2.2.2.2.2.2;omega) (fun h=>by unfold At at h;have:=L2.out.res.2.2.2.2.2.2.2.2.2.2.2;omega)).trans GC6.out⟩
            clear hK K
            (try simp only[Act.put,Zj,Zx,Zk])
            refine Kz (by kernel_rfl) ?_ _;refine Jd ?_
            repeat(first|go_values|go_skip|go_guarded|go_step|go_upon)
            refine Zh (v:=.agg #[.int .i64 (Qqc (opT r) x y).kind,.int .i64 (Qqc (opT r) x y).op,.bool (Qqc (opT r) x y).no,.int .i64 (Qqc (opT r) x y).val.kind,.int .i64 (Qqc (opT r) x y).val.int,.string (Qqc (opT r) x y).val.text,.string (Qqc (opT r) x y).table,.string (Qqc (opT r) x y).name,.slice a9 (Qqc (opT r) x y).args.length ac9,.slice s9 (Qqc (opT r) x y).sub.length sc9]) (by simp[results,results93,go_sem,r0,r1,r2,r3,r4,r5,r6,r7,r8,r9]) rfl ?_;have FIN:=Qzv (P:=Mk ss fs 1 (m+1)) hTw L6.out HV.out (by omega) (Qqh _ _ (.int .i64 (Qqc (opT r) x y).kind) (.int .i64 (Qqc (opT r) x y).op) (.bool (Qqc (opT r) x y).no) (.int .i64 (Qqc (opT r) x y).val.kind) (.int .i64 (Qqc (opT r) x y).val.int) (.string (Qqc (opT r) x y).val.text) (.string (Qqc (opT r) x y).table) (.string (Qqc (opT r) x y).name) (.slice a9 (Qqc (opT r) x y).args.length ac9) (.slice s9 (Qqc (opT r) x y).sub.length sc9)) (Jzw (k:=5) (o:=(opT r)) (no:=false) (args:=[x,y]) (hsh:=.inr (.inr (.inl ⟨rfl,by have:=Jk4 r;omega,by have:=Jq8 r;omega,rfl,rfl⟩))) (fun z hz=>by simp at hz;rcases hz with rfl|rfl;exact HM1.out.1;exact HM2.out.1) fun ts hts=>Jqp _ (Jk4 r) (Jq8 r) (HM1.out.2 ts hts) (HM2.out.2 ts hts));exact FIN
           exact Zf
          exact Zf
         exact Zf
        exact Zf
       exact Zf
      refine Zy (o:=_) rfl (fun K hK=>?_) ?_
      ·go_simp
       refine(Qqk T 6 _ (by omega) (by omega) (L2.out.drew).tape).mono ?_;rintro e w3 ⟨v,rfl,⟨r,rfl,ho0,ho1⟩,ht,hk⟩;have L3:=hid ((L2.out.drew).step hTw ht hk);have z3:=hk.size
       (try simp only[Yl] at z3)
       clear ht hk;dsimp only;refine hK.out _ _ ?_ (fun hHeld=>?_)
       ·(try dsimp only)
        exact HKS.out _ L3.out
       clear hK K
       (try simp only[Act.put,Zj,Zx,Zk])
       refine Zc (rs:=[0,10]) (by kernel_rfl) (by simp) ?_;refine Zy (o:=_) rfl (fun K hK=>?_) ?_
       ·go_simp
        refine hK.out _ _ ?_ (fun hHeld=>?_)
        ·(try dsimp only)
         exact HKS.out _ (L3.out.alloc hTw _)
        clear hK K
        (try simp only[Act.put,Zj,Zx,Zk])
        have hG:(w3.alloc (.cells #["9",.int .i64 10,.int .i64 11,"9",.int .i64 12,.int .i64 13] 3)).cell? ⟨w3.heap.size,r.toNat,none⟩=some (.int .i64 (opT r)):=Jqj w3 r ho0 ho1;refine Qqy (S:=fun w'=>w'.cell? ⟨w.heap.size,0,none⟩=some (Qv fa fs.length fc)∧w'.cell? ⟨w.heap.size,1,none⟩=some (Qv ta ss.length tc)) (S':=fun w'=>w'.cell? ⟨w.heap.size,0,none⟩=some (Qv fa fs.length fc)∧w'.cell? ⟨w.heap.size,1,none⟩=some (Qv ta ss.length tc)∧w'.cell? ⟨w3.heap.size,r.toNat,none⟩=some (.int .i64 (opT r))) (fun _ h=>⟨h.1,h.2.1⟩) _ _ _ _ ?_;clear hHeld
        have hHeld:(w3.alloc (.cells #["9",.int .i64 10,.int .i64 11,"9",.int .i64 12,.int .i64 13] 3)).cell? ⟨w.heap.size,0,none⟩=some (Qv fa fs.length fc)∧(w3.alloc (.cells #["9",.int .i64 10,.int .i64 11,"9",.int .i64 12,.int .i64 13] 3)).cell? ⟨w.heap.size,1,none⟩=some (Qv ta ss.length tc)∧(w3.alloc (.cells #["9",.int .i64 10,.int .i64 11,"9",.int .i64 12,.int .i64 13] 3)).cell? ⟨w3.heap.size,r.toNat,none⟩=some (.int .i64 (opT r)):=⟨(HKS.out _ (L3.out.alloc hTw _)).1,(HKS.out _ (L3.out.alloc hTw _)).2,hG⟩
        clear hG;refine tk 3 ?_
        (try simp only[Act.put,Zj])
        refine tk 4 ?_
        (try simp only[Act.put])
        refine Zc (rs:=[10]) (by kernel_rfl) (by simp) ?_;refine Zy (o:=_) rfl (fun K hK=>?_) ?_
        ·go_simp
         refine(HEX.out _ (L3.out.alloc hTw _) (depth-1) 1 (by omega) (by omega) (by omega) (by omega)).mono ?_;rintro e w4 ⟨v,rfl,⟨x,hx,hmk⟩,ht,hk⟩;have hx0:=hx;obtain⟨a1,ac1,s1,sc1,rfl,_,_⟩:=hx0;have L4:=hid ((L3.out.alloc hTw _).step hTw ht hk);have zw4:=hk.size
         (try simp only[Zn] at zw4)
         have GC4:=hid ((hk.cell (b:=w3.heap.size) (by first|omega|(simp;done)|(simp;omega)) (fun h=>by unfold At at h;omega)).trans (Jqj w3 r ho0 ho1));have HX1:=hid hx;have HM1:=hid hmk;have HK1:=hid hk;clear hx hmk ht hk;dsimp only;refine hK.out _ _ ?_ (fun hHeld=>?_)
         ·(try dsimp only)
          exact⟨(HKS.out _ L4.out).1,(HKS.out _ L4.out).2,GC4.out⟩
         clear hK K
         (try simp only[Act.put,Zj,Zx,Zk])
         refine Zc (rs:=[16]) (by kernel_rfl) (by simp) ?_;refine Zy (o:=_) rfl (fun K hK=>?_) ?_
         ·go_simp
          refine(HEX.out _ (L4.out) (depth-1) 1 (by omega) (by omega) (by omega) (by omega)).mono ?_;rintro e w5 ⟨v,rfl,⟨y,hx,hmk⟩,ht,hk⟩;have hx0:=hx;obtain⟨a2,ac2,s2,sc2,rfl,_,_⟩:=hx0;have L5:=hid ((L4.out).step hTw ht hk);have zw5:=hk.size
          (try simp only[Zn] at zw5)
          have GC5:=hid ((hk.cell (b:=w3.heap.size) (by first|omega|(simp;done)|(simp;omega)) (fun h=>by unfold At at h;omega)).trans GC4.out);have HX2:=hid hx;have HM2:=hid hmk;have HK2:=hid hk;clear hx hmk ht hk;dsimp only;refine hK.out _ _ ?_ (fun hHeld=>?_)
          ·(try dsimp only)
           exact⟨(HKS.out _ L5.out).1,(HKS.out _ L5.out).2,GC5.out⟩
          clear hK K
          (try simp only[Act.put,Zj,Zx,Zk])
          refine Zc (rs:=[17]) (by kernel_rfl) (by simp) ?_;refine Zy (o:=_) rfl (fun K hK=>?_) ?_
          ·go_simp
           refine(Qvm (lo:=w.heap.size+1+1) (opT r) (Qz6 (lo:=w2.heap.size) (Qww (by have:=L2.out.place.2.2;omega) (Qz6 HX1.out (by first|omega|(simp;done)|(simp;omega))) HK2.out) (by have:=L2.out.res.2.2.2.2.2.2.2.2.2.2.2;omega)) (Qz6 (lo:=w2.heap.size) (Qz6 HX2.out (by first|omega|(simp;done)|(simp;omega))) (by have:=L2.out.res.2.2.2.2.2.2.2.2.2.2.2;omega)) (by have:=L2.out.res.2.2.2.2.2.2.2.2.2.2.2;first|omega|(simp only[Zn];omega))).mono ?_;rintro e w6 ⟨v,rfl,hv,hb⟩;have hv0:=hv;obtain⟨a9,ac9,s9,sc9,rfl,_,_⟩:=hv0;have L6:=hid ((L5.out).bel hTw hb);have HV:=hid hv;have z6:=hb.size
           (try simp only[Zn] at z6)
           have GC6:=hid ((hb.cell (p:=⟨w3.heap.size,r.toNat,none⟩) (by first|(simp only[];omega)|(simp;done)|(simp;omega))).trans GC5.out);obtain⟨r0,r1,r2,r3,r4,r5,r6,r7,r8,r9,rf,rz⟩:=L6.out.res;clear hv hb;dsimp only;refine hK.out _ _ ?_ (fun hHeld=>?_)
           ·(try dsimp only)
            exact⟨(HKS.out _ L6.out).1,(HKS.out _ L6.out).2,GC6.out⟩
           clear hK K
           (try simp only[Act.put,Zj,Zx,Zk])
           refine Zc (rs:=[18]) (by kernel_rfl) (by simp) ?_;refine Zy (o:=_) rfl (fun K hK=>?_) ?_
           ·go_simp
            refine hK.out _ _ ?_ (fun hHeld=>?_)
            ·(try dsimp only)
             exact⟨(HKR.out _ _ L6.out (Qqh _ _ (.int .i64 (Qqc (opT r) x y).kind) (.int .i64 (Qqc (opT r) x y).op) (.bool (Qqc (opT r) x y).no) (.int .i64 (Qqc (opT r) x y).val.kind) (.int .i64 (Qqc (opT r) x y).val.int) (.string (Qqc (opT r) x y).val.text) (.string (Qqc (opT r) x y).table) (.string (Qqc (opT r) x y).name) (.slice a9 (Qqc (opT r) x y).args.length ac9) (.slice s9 (Qqc (opT r) x y).sub.length sc9))).1,(HKR.out _ _ L6.out (Qqh _ _ (.int .i64 (Qqc (opT r) x y).kind) (.int .i64 (Qqc (opT r) x y).op) (.bool (Qqc (opT r) x y).no) (.int .i64 (Qqc (opT r) x y).val.kind) (.int .i64 (Qqc (opT r) x y).val.int) (.string (Qqc (opT r) x y).val.text) (.string (Qqc (opT r) x y).table) (.string (Qqc (opT r) x y).name) (.slice a9 (Qqc (opT r) x y).args.length ac9) (.slice s9 (Qqc (opT r) x y).sub.length sc9))).2,((Qqh _ _ (.int .i64 (Qqc (opT r) x y).kind) (.int .i64 (Qqc (opT r) x y).op) (.bool (Qqc (opT r) x y).no) (.int .i64 (Qqc (opT r) x y).val.kind) (.int .i64 (Qqc (opT r) x y).val.int) (.string (Qqc (opT r) x y).val.text) (.string (Qqc (opT r) x y).table) (.string (Qqc (opT r) x y).name) (.slice a9 (Qqc (opT r) x y).args.length ac9) (.slice s9 (Qqc (opT r) x y).sub.length sc9)).cell (by have:=L2.out.res.2.2.2.2.2.2.2.2.2.2.2;omega) (fun h=>by unfold At at h;have:=L2.out.res.2.2.2.2.2.2.2.2.2.2.2;omega)).trans GC6.out⟩
            clear hK K
            (try simp only[Act.put,Zj,Zx,Zk])
            refine Kz (by kernel_rfl) ?_ _;refine Jd ?_
            repeat(first|go_values|go_skip|go_guarded|go_step|go_upon)
            refine Zh (v:=.agg #[.int .i64 (Qqc (opT r) x y).kind,.int .i64 (Qqc (opT r) x y).op,.bool (Qqc (opT r) x y).no,.int .i64 (Qqc (opT r) x y).val.kind,.int .i64 (Qqc (opT r) x y).val.int,.string (Qqc (opT r) x y).val.text,.string (Qqc (opT r) x y).table,.string (Qqc (opT r) x y).name,.slice a9 (Qqc (opT r) x y).args.length ac9,.slice s9 (Qqc (opT r) x y).sub.length sc9]) (by simp[results,results93,go_sem,r0,r1,r2,r3,r4,r5,r6,r7,r8,r9]) rfl ?_;have FIN:=Qzv (P:=Mk ss fs 1 (m+1)) hTw L6.out HV.out (by omega) (Qqh _ _ (.int .i64 (Qqc (opT r) x y).kind) (.int .i64 (Qqc (opT r) x y).op) (.bool (Qqc (opT r) x y).no) (.int .i64 (Qqc (opT r) x y).val.kind) (.int .i64 (Qqc (opT r) x y).val.int) (.string (Qqc (opT r) x y).val.text) (.string (Qqc (opT r) x y).table) (.string (Qqc (opT r) x y).name) (.slice a9 (Qqc (opT r) x y).args.length ac9) (.slice s9 (Qqc (opT r) x y).sub.length sc9)) (Jzw (k:=5) (o:=(opT r)) (no:=false) (args:=[x,y]) (hsh:=.inr (.inr (.inl ⟨rfl,by have:=Jk4 r;omega,by have:=Jq8 r;omega,rfl,rfl⟩))) (fun z hz=>by simp at hz;rcases hz with rfl|rfl;exact HM1.out.1;exact HM2.out.1) fun ts hts=>Jqp _ (Jk4 r) (Jq8 r) (HM1.out.2 ts hts) (HM2.out.2 ts hts));exact FIN
           exact Zf
          exact Zf
         exact Zf
        exact Zf
       refine Zy (o:=_) rfl (fun K hK=>?_) ?_
       ·go_simp
        refine(HEX.out _ (L3.out) (depth-1) 1 (by omega) (by omega) (by omega) (by omega)).mono ?_;rintro e w4 ⟨v,rfl,⟨x,hx,hmk⟩,ht,hk⟩;have hx0:=hx;obtain⟨a1,ac1,s1,sc1,rfl,_,_⟩:=hx0;have L4:=hid ((L3.out).step hTw ht hk);have zw4:=hk.size
        (try simp only[Zn] at zw4)
        have HX1:=hid hx;have HM1:=hid hmk;have HK1:=hid hk;clear hx hmk ht hk;dsimp only;refine hK.out _ _ ?_ (fun hHeld=>?_)
        ·(try dsimp only)
         exact HKS.out _ L4.out
        clear hK K
        (try simp only[Act.put,Zj,Zx,Zk])
        refine Zc (rs:=[0,16]) (by kernel_rfl) (by simp) ?_;refine Zy (o:=_) rfl (fun K hK=>?_) ?_
        ·go_simp
         refine hK.out _ _ ?_ (fun hHeld=>?_)
         ·(try dsimp only)
          exact HKS.out _ (L4.out.alloc hTw _)
         clear hK K
         (try simp only[Act.put,Zj,Zx,Zk])
         have hG:(w4.alloc (.cells #["9",.int .i64 10,.int .i64 11,"9",.int .i64 12,.int .i64 13] 3)).cell? ⟨w4.heap.size,r.toNat,none⟩=some (.int .i64 (opT r)):=Jqj w4 r ho0 ho1;refine Qqy (S:=fun w'=>w'.cell? ⟨w.heap.size,0,none⟩=some (Qv fa fs.length fc)∧w'.cell? ⟨w.heap.size,1,none⟩=some (Qv ta ss.length tc)) (S':=fun w'=>w'.cell? ⟨w.heap.size,0,none⟩=some (Qv fa fs.length fc)∧w'.cell? ⟨w.heap.size,1,none⟩=some (Qv ta ss.length tc)∧w'.cell? ⟨w4.heap.size,r.toNat,none⟩=some (.int .i64 (opT r))) (fun _ h=>⟨h.1,h.2.1⟩) _ _ _ _ ?_;clear hHeld
         have hHeld:(w4.alloc (.cells #["9",.int .i64 10,.int .i64 11,"9",.int .i64 12,.int .i64 13] 3)).cell? ⟨w.heap.size,0,none⟩=some (Qv fa fs.length fc)∧(w4.alloc (.cells #["9",.int .i64 10,.int .i64 11,"9",.int .i64 12,.int .i64 13] 3)).cell? ⟨w.heap.size,1,none⟩=some (Qv ta ss.length tc)∧(w4.alloc (.cells #["9",.int .i64 10,.int .i64 11,"9",.int .i64 12,.int .i64 13] 3)).cell? ⟨w4.heap.size,r.toNat,none⟩=some (.int .i64 (opT r)):=⟨(HKS.out _ (L4.out.alloc hTw _)).1,(HKS.out _ (L4.out.alloc hTw _)).2,hG⟩
         clear hG;refine tk 3 ?_
         (try simp only[Act.put,Zj])
         refine tk 4 ?_
         (try simp only[Act.put])
         refine Zc (rs:=[16]) (by kernel_rfl) (by simp) ?_;refine Zy (o:=_) rfl (fun K hK=>?_) ?_
         ·go_simp
          refine(HEX.out _ (L4.out.alloc hTw _) (depth-1) 1 (by omega) (by omega) (by omega) (by omega)).mono ?_;rintro e w5 ⟨v,rfl,⟨y,hx,hmk⟩,ht,hk⟩;have hx0:=hx;obtain⟨a2,ac2,s2,sc2,rfl,_,_⟩:=hx0;have L5:=hid ((L4.out.alloc hTw _).step hTw ht hk);have zw5:=hk.size
          (try simp only[Zn] at zw5)
          have GC5:=hid ((hk.cell (b:=w4.heap.size) (by first|omega|(simp;done)|(simp;omega)) (fun h=>by unfold At at h;omega)).trans (Jqj w4 r ho0 ho1));have HX2:=hid hx;have HM2:=hid hmk;have HK2:=hid hk;clear hx hmk ht hk;dsimp only;refine hK.out _ _ ?_ (fun hHeld=>?_)
          ·(try dsimp only)
           exact⟨(HKS.out _ L5.out).1,(HKS.out _ L5.out).2,GC5.out⟩
          clear hK K
          (try simp only[Act.put,Zj,Zx,Zk])
          refine Zc (rs:=[17]) (by kernel_rfl) (by simp) ?_;refine Zy (o:=_) rfl (fun K hK=>?_) ?_
          ·go_simp
           refine(Qvm (lo:=w.heap.size+1+1) (opT r) (Qz6 (lo:=w2.heap.size) (Qww (by have:=L2.out.place.2.2;omega) (Qz6 (ExV.keep HX1.out ((Qqb.refl _ w4).alloc _)) (by first|omega|(simp;done)|(simp;omega))) HK2.out) (by have:=L2.out.res.2.2.2.2.2.2.2.2.2.2.2;omega)) (Qz6 (lo:=w2.heap.size) (Qz6 HX2.out (by first|omega|(simp;done)|(simp;omega))) (by have:=L2.out.res.2.2.2.2.2.2.2.2.2.2.2;omega)) (by have:=L2.out.res.2.2.2.2.2.2.2.2.2.2.2;first|omega|(simp only[Zn];omega))).mono ?_;rintro e w6 ⟨v,rfl,hv,hb⟩;have hv0:=hv;obtain⟨a9,ac9,s9,sc9,rfl,_,_⟩:=hv0;have L6:=hid ((L5.out).bel hTw hb);have HV:=hid hv;have z6:=hb.size
           (try simp only[Zn] at z6)
           have GC6:=hid ((hb.cell (p:=⟨w4.heap.size,r.toNat,none⟩) (by first|(simp only[];omega)|(simp;done)|(simp;omega))).trans GC5.out);obtain⟨r0,r1,r2,r3,r4,r5,r6,r7,r8,r9,rf,rz⟩:=L6.out.res;clear hv hb;dsimp only;refine hK.out _ _ ?_ (fun hHeld=>?_)
           ·(try dsimp only)
            exact⟨(HKS.out _ L6.out).1,(HKS.out _ L6.out).2,GC6.out⟩
           clear hK K
           (try simp only[Act.put,Zj,Zx,Zk])
           refine Zc (rs:=[18]) (by kernel_rfl) (by simp) ?_;refine Zy (o:=_) rfl (fun K hK=>?_) ?_
           ·go_simp
            refine hK.out _ _ ?_ (fun hHeld=>?_)
            ·(try dsimp only)
             exact⟨(HKR.out _ _ L6.out (Qqh _ _ (.int .i64 (Qqc (opT r) x y).kind) (.int .i64 (Qqc (opT r) x y).op) (.bool (Qqc (opT r) x y).no) (.int .i64 (Qqc (opT r) x y).val.kind) (.int .i64 (Qqc (opT r) x y).val.int) (.string (Qqc (opT r) x y).val.text) (.string (Qqc (opT r) x y).table) (.string (Qqc (opT r) x y).name) (.slice a9 (Qqc (opT r) x y).args.length ac9) (.slice s9 (Qqc (opT r) x y).sub.length sc9))).1,(HKR.out _ _ L6.out (Qqh _ _ (.int .i64 (Qqc (opT r) x y).kind) (.int .i64 (Qqc (opT r) x y).op) (.bool (Qqc (opT r) x y).no) (.int .i64 (Qqc (opT r) x y).val.kind) (.int .i64 (Qqc (opT r) x y).val.int) (.string (Qqc (opT r) x y).val.text) (.string (Qqc (opT r) x y).table) (.string (Qqc (opT r) x y).name) (.slice a9 (Qqc (opT r) x y).args.length ac9) (.slice s9 (Qqc (opT r) x y).sub.length sc9))).2,((Qqh _ _ (.int .i64 (Qqc (opT r) x y).kind) (.int .i64 (Qqc (opT r) x y).op) (.bool (Qqc (opT r) x y).no) (.int .i64 (Qqc (opT r) x y).val.kind) (.int .i64 (Qqc (opT r) x y).val.int) (.string (Qqc (opT r) x y).val.text) (.string (Qqc (opT r) x y).table) (.string (Qqc (opT r) x y).name) (.slice a9 (Qqc (opT r) x y).args.length ac9) (.slice s9 (Qqc (opT r) x y).sub.length sc9)).cell (by have:=L2.out.res.2.2.2.2.2.2.2.2.2.2.2;omega) (fun h=>by unfold At at h;have:=L2.out.res.2.2.2.2.2.2.2.2.2.2.2;omega)).trans GC6.out⟩
            clear hK K
            (try simp only[Act.put,Zj,Zx,Zk])
            refine Kz (by kernel_rfl) ?_ _;refine Jd ?_
            repeat(first|go_values|go_skip|go_guarded|go_step|go_upon)
            refine Zh (v:=.agg #[.int .i64 (Qqc (opT r) x y).kind,.int .i64 (Qqc (opT r) x y).op,.bool (Qqc (opT r) x y).no,.int .i64 (Qqc (opT r) x y).val.kind,.int .i64 (Qqc (opT r) x y).val.int,.string (Qqc (opT r) x y).val.text,.string (Qqc (opT r) x y).table,.string (Qqc (opT r) x y).name,.slice a9 (Qqc (opT r) x y).args.length ac9,.slice s9 (Qqc (opT r) x y).sub.length sc9]) (by simp[results,results93,go_sem,r0,r1,r2,r3,r4,r5,r6,r7,r8,r9]) rfl ?_;have FIN:=Qzv (P:=Mk ss fs 1 (m+1)) hTw L6.out HV.out (by omega) (Qqh _ _ (.int .i64 (Qqc (opT r) x y).kind) (.int .i64 (Qqc (opT r) x y).op) (.bool (Qqc (opT r) x y).no) (.int .i64 (Qqc (opT r) x y).val.kind) (.int .i64 (Qqc (opT r) x y).val.int) (.string (Qqc (opT r) x y).val.text) (.string (Qqc (opT r) x y).table) (.string (Qqc (opT r) x y).name) (.slice a9 (Qqc (opT r) x y).args.length ac9) (.slice s9 (Qqc (opT r) x y).sub.length sc9)) (Jzw (k:=5) (o:=(opT r)) (no:=false) (args:=[x,y]) (hsh:=.inr (.inr (.inl ⟨rfl,by have:=Jk4 r;omega,by have:=Jq8 r;omega,rfl,rfl⟩))) (fun z hz=>by simp at hz;rcases hz with rfl|rfl;exact HM1.out.1;exact HM2.out.1) fun ts hts=>Jqp _ (Jk4 r) (Jq8 r) (HM1.out.2 ts hts) (HM2.out.2 ts hts));exact FIN
           exact Zf
          exact Zf
         exact Zf
        refine Zy (o:=_) rfl (fun K hK=>?_) ?_
        ·go_simp
         refine(HEX.out _ (L4.out) (depth-1) 1 (by omega) (by omega) (by omega) (by omega)).mono ?_;rintro e w5 ⟨v,rfl,⟨y,hx,hmk⟩,ht,hk⟩;have hx0:=hx;obtain⟨a2,ac2,s2,sc2,rfl,_,_⟩:=hx0;have L5:=hid ((L4.out).step hTw ht hk);have zw5:=hk.size
         (try simp only[Zn] at zw5)
         have HX2:=hid hx;have HM2:=hid hmk;have HK2:=hid hk;clear hx hmk ht hk;dsimp only;refine hK.out _ _ ?_ (fun hHeld=>?_)
         ·(try dsimp only)
          exact HKS.out _ L5.out
         clear hK K
         (try simp only[Act.put,Zj,Zx,Zk])
         refine Zc (rs:=[0]) (by kernel_rfl) (by simp) ?_;refine Zy (o:=_) rfl (fun K hK=>?_) ?_
         ·go_simp
          refine hK.out _ _ ?_ (fun hHeld=>?_)
          ·(try dsimp only)
           exact HKS.out _ (L5.out.alloc hTw _)
          clear hK K
          (try simp only[Act.put,Zj,Zx,Zk])
          have hG:(w5.alloc (.cells #["9",.int .i64 10,.int .i64 11,"9",.int .i64 12,.int .i64 13] 3)).cell? ⟨w5.heap.size,r.toNat,none⟩=some (.int .i64 (opT r)):=Jqj w5 r ho0 ho1;refine Qqy (S:=fun w'=>w'.cell? ⟨w.heap.size,0,none⟩=some (Qv fa fs.length fc)∧w'.cell? ⟨w.heap.size,1,none⟩=some (Qv ta ss.length tc)) (S':=fun w'=>w'.cell? ⟨w.heap.size,0,none⟩=some (Qv fa fs.length fc)∧w'.cell? ⟨w.heap.size,1,none⟩=some (Qv ta ss.length tc)∧w'.cell? ⟨w5.heap.size,r.toNat,none⟩=some (.int .i64 (opT r))) (fun _ h=>⟨h.1,h.2.1⟩) _ _ _ _ ?_;clear hHeld
          have hHeld:(w5.alloc (.cells #["9",.int .i64 10,.int .i64 11,"9",.int .i64 12,.int .i64 13] 3)).cell? ⟨w.heap.size,0,none⟩=some (Qv fa fs.length fc)∧(w5.alloc (.cells #["9",.int .i64 10,.int .i64 11,"9",.int .i64 12,.int .i64 13] 3)).cell? ⟨w.heap.size,1,none⟩=some (Qv ta ss.length tc)∧(w5.alloc (.cells #["9",.int .i64 10,.int .i64 11,"9",.int .i64 12,.int .i64 13] 3)).cell? ⟨w5.heap.size,r.toNat,none⟩=some (.int .i64 (opT r)):=⟨(HKS.out _ (L5.out.alloc hTw _)).1,(HKS.out _ (L5.out.alloc hTw _)).2,hG⟩
          clear hG;refine tk 3 ?_
          (try simp only[Act.put,Zj])
          refine tk 4 ?_
          (try simp only[Act.put])
          refine Zc (rs:=[17]) (by kernel_rfl) (by simp) ?_;refine Zy (o:=_) rfl (fun K hK=>?_) ?_
          ·go_simp
           refine(Qvm (lo:=w.heap.size+1+1) (opT r) (ExV.keep (Qz6 (lo:=w2.heap.size) (Qww (by have:=L2.out.place.2.2;omega) (Qz6 HX1.out (by first|omega|(simp;done)|(simp;omega))) HK2.out) (by have:=L2.out.res.2.2.2.2.2.2.2.2.2.2.2;omega)) ((Qqb.refl _ w5).alloc _)) (ExV.keep (Qz6 (lo:=w2.heap.size) (Qz6 HX2.out (by first|omega|(simp;done)|(simp;omega))) (by have:=L2.out.res.2.2.2.2.2.2.2.2.2.2.2;omega)) ((Qqb.refl _ w5).alloc _)) (by have:=L2.out.res.2.2.2.2.2.2.2.2.2.2.2;first|omega|(simp only[Zn];omega))).mono ?_;rintro e w6 ⟨v,rfl,hv,hb⟩;have hv0:=hv;obtain⟨a9,ac9,s9,sc9,rfl,_,_⟩:=hv0;have L6:=hid ((L5.out.alloc hTw _).bel hTw hb);have HV:=hid hv;have z6:=hb.size
           (try simp only[Zn] at z6)
           have GC6:=hid ((hb.cell (p:=⟨w5.heap.size,r.toNat,none⟩) (by first|(simp only[];omega)|(simp;done)|(simp;omega))).trans (Jqj w5 r ho0 ho1));obtain⟨r0,r1,r2,r3,r4,r5,r6,r7,r8,r9,rf,rz⟩:=L6.out.res;clear hv hb;dsimp only;refine hK.out _ _ ?_ (fun hHeld=>?_)
           ·(try dsimp only)
            exact⟨(HKS.out _ L6.out).1,(HKS.out _ L6.out).2,GC6.out⟩
           clear hK K
           (try simp only[Act.put,Zj,Zx,Zk])
           refine Zc (rs:=[18]) (by kernel_rfl) (by simp) ?_;refine Zy (o:=_) rfl (fun K hK=>?_) ?_
           ·go_simp
            refine hK.out _ _ ?_ (fun hHeld=>?_)
            ·(try dsimp only)
             exact⟨(HKR.out _ _ L6.out (Qqh _ _ (.int .i64 (Qqc (opT r) x y).kind) (.int .i64 (Qqc (opT r) x y).op) (.bool (Qqc (opT r) x y).no) (.int .i64 (Qqc (opT r) x y).val.kind) (.int .i64 (Qqc (opT r) x y).val.int) (.string (Qqc (opT r) x y).val.text) (.string (Qqc (opT r) x y).table) (.string (Qqc (opT r) x y).name) (.slice a9 (Qqc (opT r) x y).args.length ac9) (.slice s9 (Qqc (opT r) x y).sub.length sc9))).1,(HKR.out _ _ L6.out (Qqh _ _ (.int .i64 (Qqc (opT r) x y).kind) (.int .i64 (Qqc (opT r) x y).op) (.bool (Qqc (opT r) x y).no) (.int .i64 (Qqc (opT r) x y).val.kind) (.int .i64 (Qqc (opT r) x y).val.int) (.string (Qqc (opT r) x y).val.text) (.string (Qqc (opT r) x y).table) (.string (Qqc (opT r) x y).name) (.slice a9 (Qqc (opT r) x y).args.length ac9) (.slice s9 (Qqc (opT r) x y).sub.length sc9))).2,((Qqh _ _ (.int .i64 (Qqc (opT r) x y).kind) (.int .i64 (Qqc (opT r) x y).op) (.bool (Qqc (opT r) x y).no) (.int .i64 (Qqc (opT r) x y).val.kind) (.int .i64 (Qqc (opT r) x y).val.int) (.string (Qqc (opT r) x y).val.text) (.string (Qqc (opT r) x y).table) (.string (Qqc (opT r) x y).name) (.slice a9 (Qqc (opT r) x y).args.length ac9) (.slice s9 (Qqc (opT r) x y).sub.length sc9)).cell (by have:=L2.out.res.2.2.2.2.2.2.2.2.2.2.2;omega) (fun h=>by unfold At at h;have:=L2.out.res.2.2.2.2.2.2.2.2.2.2.2;omega)).trans GC6.out⟩
            clear hK K
            (try simp only[Act.put,Zj,Zx,Zk])
            refine Kz (by kernel_rfl) ?_ _;refine Jd ?_
            repeat(first|go_values|go_skip|go_guarded|go_step|go_upon)
            refine Zh (v:=.agg #[.int .i64 (Qqc (opT r) x y).kind,.int .i64 (Qqc (opT r) x y).op,.bool (Qqc (opT r) x y).no,.int .i64 (Qqc (opT r) x y).val.kind,.int .i64 (Qqc (opT r) x y).val.int,.string (Qqc (opT r) x y).val.text,.string (Qqc (opT r) x y).table,.string (Qqc (opT r) x y).name,.slice a9 (Qqc (opT r) x y).args.length ac9,.slice s9 (Qqc (opT r) x y).sub.length sc9]) (by simp[results,results93,go_sem,r0,r1,r2,r3,r4,r5,r6,r7,r8,r9]) rfl ?_;have FIN:=Qzv (P:=Mk ss fs 1 (m+1)) hTw L6.out HV.out (by omega) (Qqh _ _ (.int .i64 (Qqc (opT r) x y).kind) (.int .i64 (Qqc (opT r) x y).op) (.bool (Qqc (opT r) x y).no) (.int .i64 (Qqc (opT r) x y).val.kind) (.int .i64 (Qqc (opT r) x y).val.int) (.string (Qqc (opT r) x y).val.text) (.string (Qqc (opT r) x y).table) (.string (Qqc (opT r) x y).name) (.slice a9 (Qqc (opT r) x y).args.length ac9) (.slice s9 (Qqc (opT r) x y).sub.length sc9)) (Jzw (k:=5) (o:=(opT r)) (no:=false) (args:=[x,y]) (hsh:=.inr (.inr (.inl ⟨rfl,by have:=Jk4 r;omega,by have:=Jq8 r;omega,rfl,rfl⟩))) (fun z hz=>by simp at hz;rcases hz with rfl|rfl;exact HM1.out.1;exact HM2.out.1) fun ts hts=>Jqp _ (Jk4 r) (Jq8 r) (HM1.out.2 ts hts) (HM2.out.2 ts hts));exact FIN
           exact Zf
          exact Zf
         exact Zf
        exact Zf
       exact Zf
      exact Zf
     ·dsimp only;go_wp2_with fail
      refine(HEX.out _ L2.out (depth-1) 1 (by omega) (by omega) (by omega) (by omega)).mono ?_;rintro e w3 ⟨v,rfl,⟨x,hx,hmk⟩,ht,hk⟩;have hx0:=hx;obtain⟨a1,ac1,s1,sc1,rfl,_,_⟩:=hx0;have L3:=hid (L2.out.step hTw ht hk);have HX:=hid hx;have HM:=hid hmk;clear hx hmk ht hk;dsimp only;obtain⟨r0,r1,r2,r3,r4,r5,r6,r7,r8,r9,rf,rz⟩:=L3.out.res
      repeat(first|go_values|go_skip|go_guarded|go_step|go_upon)
      refine Zh (v:=.agg #["4","0",false,"0","0","","","",Qv (some ⟨w3.heap.size,0,none⟩) 1 1,()]) (by simp[results,results93,go_sem,r0,r1,r2,r3,r4,r5,r6,r7,r8,r9,rz]) rfl ?_;have FIN:=Yzj (k:=4) (o:=0) (no:=false) (P:=Mk ss fs 1 (m+1)) hTw L3.out HX.out (by have:=L2.out.res.2.2.2.2.2.2.2.2.2.2.2;omega) (Jzw (fun y hy=>by obtain rfl:=Zd.1 hy;exact HM.out.1) fun ts hts=>Yxv (HM.out.2 ts hts)) (Qqh _ _ (.int .i64 4) (.int .i64 0) false (.int .i64 0) (.int .i64 0) "" "" "" (Qv (some ⟨w3.heap.size,0,none⟩) 1 1) ()) (by simp);exact FIN
   ·by_cases hk00:k=0
    ·subst hk00;go_wp2_with fail
     refine(Qq2 T 2 _ (by omega) (by omega) LC.out.tape).mono ?_;rintro e w2 ⟨v,rfl,⟨b2,rfl⟩,ht,hk⟩;have L2:=hid (LC.out.step hTw ht hk);obtain⟨p0',p1',pz'⟩:=L2.out.place;clear ht hk;cases b2
     ·dsimp only;go_wp2_with fail
      refine(HCN.out _ L2.out).mono ?_;rintro e w3 ⟨v,rfl,⟨x,hx,hmk⟩,ht,hk⟩;have hx0:=hx;obtain⟨a1,ac1,s1,sc1,rfl,_,_⟩:=hx0;have L3:=hid ((L2.out).step hTw ht hk);have HX:=hid hx;have HM:=hid hmk;clear hx hmk ht hk;dsimp only;obtain⟨r0,r1,r2,r3,r4,r5,r6,r7,r8,r9,rf,rz⟩:=L3.out.res
      repeat(first|go_values|go_skip|go_guarded|go_step|go_upon)
      refine Zh (v:=.agg #[x.kind,x.op,x.no,x.val.kind,x.val.int,x.val.text,x.table,x.name,Qv a1 x.args.length ac1,Qv s1 x.sub.length sc1]) (by simp[results,results93,go_sem,r0,r1,r2,r3,r4,r5,r6,r7,r8,r9]) rfl ?_;have FIN:=Qzv (P:=Mk ss fs 2 (m+1)) hTw L3.out HX.out (by have:=(L2.out).res.2.2.2.2.2.2.2.2.2.2.2;omega) (Qqh _ _ x.kind x.op x.no x.val.kind x.val.int x.val.text x.table x.name (Qv a1 x.args.length ac1) (Qv s1 x.sub.length sc1)) HM.out;exact FIN
     ·dsimp only;go_wp2_with fail
      refine(HQY.out _ L2.out 8 (by omega) (by omega)).mono ?_;rintro e w3 ⟨v,rfl,⟨x,hx,hmk⟩,ht,hk⟩;have hx0:=hx;obtain⟨a1,ac1,s1,sc1,rfl,_,_⟩:=hx0;have L3:=hid (L2.out.step hTw ht hk);have HX:=hid hx;have HM:=hid hmk;clear hx hmk ht hk;dsimp only;obtain⟨r0,r1,r2,r3,r4,r5,r6,r7,r8,r9,rf,rz⟩:=L3.out.res
      repeat(first|go_values|go_skip|go_guarded|go_step|go_upon)
      refine Zh (v:=.agg #[x.kind,x.op,x.no,x.val.kind,x.val.int,x.val.text,x.table,x.name,Qv a1 x.args.length ac1,Qv s1 x.sub.length sc1]) (by simp[results,results93,go_sem,r0,r1,r2,r3,r4,r5,r6,r7,r8,r9]) rfl ?_;have FIN:=Qzv (P:=Mk ss fs 2 (m+1)) hTw L3.out HX.out (by have:=L2.out.res.2.2.2.2.2.2.2.2.2.2.2;omega) (Qqh _ _ x.kind x.op x.no x.val.kind x.val.int x.val.text x.table x.name (Qv a1 x.args.length ac1) (Qv s1 x.sub.length sc1)) HM.out;exact FIN
    ·have hk01:(k==0)=false:=by simpa using hk00
     clear hk00;go_wp2_with fail
     refine(HCN.out _ LC.out).mono ?_;rintro e w3 ⟨v,rfl,⟨x,hx,hmk⟩,ht,hk⟩;have hx0:=hx;obtain⟨a1,ac1,s1,sc1,rfl,_,_⟩:=hx0;have L3:=hid ((LC.out).step hTw ht hk);have HX:=hid hx;have HM:=hid hmk;clear hx hmk ht hk;dsimp only;obtain⟨r0,r1,r2,r3,r4,r5,r6,r7,r8,r9,rf,rz⟩:=L3.out.res
     repeat(first|go_values|go_skip|go_guarded|go_step|go_upon)
     refine Zh (v:=.agg #[x.kind,x.op,x.no,x.val.kind,x.val.int,x.val.text,x.table,x.name,Qv a1 x.args.length ac1,Qv s1 x.sub.length sc1]) (by simp[results,results93,go_sem,r0,r1,r2,r3,r4,r5,r6,r7,r8,r9]) rfl ?_;have FIN:=Qzv (P:=Mk ss fs 2 (m+1)) hTw L3.out HX.out (by have:=(LC.out).res.2.2.2.2.2.2.2.2.2.2.2;omega) (Qqh _ _ x.kind x.op x.no x.val.kind x.val.int x.val.text x.table x.name (Qv a1 x.args.length ac1) (Qv s1 x.sub.length sc1)) HM.out;exact FIN
   ·go_wp2_with fail
    refine(Qk8 T 3 _ LC.out.tape (HW.out.at LC.out.kept)).mono ?_;rintro e w5 ⟨v,rfl,⟨x,rfl,hx1,hx2⟩,ht,hk⟩;have L5:=hid (LC.out.step hTw ht hk);have HX2:=hid hx2;have HX1:=hid hx1;clear ht hk hx1 hx2;dsimp only;go_wp2_with fail
    refine(Qxd _ _ _ _).mono ?_;rintro e w6 ⟨rfl,hb⟩;have L6:=hid (L5.out.bel hTw hb);clear hb;dsimp only;obtain⟨r0,r1,r2,r3,r4,r5,r6,r7,r8,r9,rf,rz⟩:=L6.out.res
    repeat(first|go_values|go_skip|go_guarded|go_step|go_upon)
    refine Zh (v:=.agg #["1","0",false,x.kind,x.int,x.text,"","",(),()]) (by simp[results,results93,go_sem,r0,r1,r2,r3,r4,r5,r6,r7,r8,r9]) rfl ?_;have FIN:=Qzv (lo:=w.heap.size+1+1) (P:=Mk ss fs 3 (m+1)) hTw L6.out (Qxy 1 0 false x ⟨#[]⟩ ⟨#[]⟩) (by omega) (Qqh _ _ (.int .i64 1) (.int .i64 0) false x.kind x.int x.text "" "" () ()) (Jqi x HX1.out (fun h=>by have:=HX2.out;omega) (HX2.out.elim .inr fun h=>by omega));exact FIN
end Go.Proofs.YtgepbohjmgaojaaGreatDoor
