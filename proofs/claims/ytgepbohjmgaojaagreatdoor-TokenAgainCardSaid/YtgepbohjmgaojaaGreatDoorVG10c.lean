/- An action of a trigger: an arm of its switch (number 3). -/
import Derived.Test.YtgepbohjmgaojaaGreatDoorVG10b
set_option linter.all false
namespace Go.Proofs.YtgepbohjmgaojaaGreatDoor
open World renaming setCells→Qy
open Value renaming slice→Qv
open Lib(hid)
open Go.RowKit
theorem Kxe{α:Type}{l:List α}{n:Nat}(h:l.length=n+1):∃u t,l=u::t∧t.length=n:=by
 cases l with
 |nil=>simp at h
 |cons u t=>exact⟨u,t,rfl,by simpa using h⟩
def Qvd(n:Nat):Code→Option Code
 | .cond c a b=>match c with
   | .tmp m=>if m=n then some a else match Qvd n a with
     |some o=>some o
     |none=>Qvd n b
   |_=>match Qvd n a with
    |some o=>some o
    |none=>Qvd n b
 | .seq a b=>match Qvd n a with
   |some o=>some o
   |none=>Qvd n b
 | .block _ a=>Qvd n a
 | .loop a=>Qvd n a
 | .scope a=>Qvd n a
 |_=>none
set_option maxRecDepth 100000 in
set_option maxHeartbeats 40000000 in
theorem Yy1{Q:Exit→Act→World→Prop}{c:Code}(hc:(Tryz.f94.body).bind (Qvd 145)=some c){T ti:Nat}(hti:ti<8){s:Sch}{ev:Int}{o1 o2 o3 o4 o5 o6:Option Addr}{l1 l2 l3 l4 l5 l6 c1 c2 c3 c4 c5 c6:Nat}{fa ta:Option Addr}{cc fc tc xb xo:Nat}{look:List UInt8→List Col}{fs:List Frm}{ss:List Sch}{w w9:World}{nb:Nat}{x:Ex}(hTw:T<w.heap.size)(HW:Hid (Qjh T w))(HF:Hid (Qqz (At T) w (Qv fa fs.length fc) fs))(HS:Hid (Qjt (At T) w (Qv ta ss.length tc) ss))(HP:Hid (Qzm look fs ss 4))(HIN:Hid (∀s∈Qq3,s∈ss))(HX8:Hid (Jxm x))(hz4:w.heap.size+1+1+1<nb)(hnb:nb<w9.heap.size)(HO9:Hid (OB T w w9 (⟨nb,#[x.kind,x.op,x.no,x.val.kind,x.val.int,x.val.text,x.table,x.name,(),()],80⟩::[⟨w.heap.size+1+1+1,#["0","",(),(),(),(),""],42⟩,⟨w.heap.size+1+1,#[Qv fa fs.length fc,Qv ta ss.length tc],122⟩,⟨w.heap.size+1,#[s.name,Qv (some ⟨xb,xo,none⟩) s.cols.length cc],29⟩,⟨w.heap.size,#[(Qqe ti),s.name,false,ev,Qv o1 l1 c1,true,Qv o2 l2 c2,Qv o3 l3 c3,Qv o4 l4 c4,Qv o5 l5 c5,Qv o6 l6 c6],35⟩]))){a:Act}(hz:a.tmps.size=187)(hd:a.defers=[])(B0:a.tmps[0]?=some (.pointer (some ⟨T,0,none⟩)))(B5:a.tmps[5]?=some (.pointer (some ⟨w.heap.size,0,none⟩)))(B7:a.tmps[7]?=some (.pointer (some ⟨w.heap.size+1+1,0,none⟩)))(B8:a.tmps[8]?=some (.pointer (some ⟨w.heap.size+1+1+1,0,none⟩)))(B10:a.tmps[10]?=some (.pointer (some ⟨nb,0,none⟩)))
 (hret:∀a W,bodyPost Tryz.prog Tryz.f94 (Qjp T w (Jjx 3 (fun a=>Qxa false true ev a.kind=true) w)) .ret a W→Q .ret a W):
 c.wp Tryz.prog Q a w9:=by
 obtain⟨⟨l⟩,d⟩:=a;dsimp only at hd;subst hd
 replace hz:l.length=187:=hz
 iterate 187 (have h2:=Kxe hz;clear hz;obtain⟨u,t,rfl,hz⟩:=h2)
 obtain rfl:=Jc.1 hz;clear hz;obtain rfl:=Jf (show some _=some _ from B0);clear B0;obtain rfl:=Jf (show some _=some _ from B5);clear B5;obtain rfl:=Jf (show some _=some _ from B7);clear B7;obtain rfl:=Jf (show some _=some _ from B8);clear B8;obtain rfl:=Jf (show some _=some _ from B10);clear B10;have h:(Tryz.f94.body).bind (Qvd 145)=some _:=rfl;obtain rfl:=Jf (hc.symm.trans h);clear hc h
 let FT:Exit→Act→World→Prop:=bodyPost Tryz.prog Tryz.f94 fun _ _=>True
 obtain⟨e0,e1,e2,e3,e4,e5,e6,e7,e8,e9,_⟩:=Qq5 (HO9.out.blk (Zv ..));obtain⟨p0,p1,pf0,pf1,pz⟩:=Qjk (HO9.out.blk (b:=⟨w.heap.size+1+1,#[Qv fa fs.length fc,Qv ta ss.length tc],122⟩) (by simp));dsimp only at e0 e1 e2 e3 e4 e5 e6 e7 e8 e9 p0 p1 pz;clear pf0 pf1;obtain⟨x0,x1,x2,x3,_⟩:=Qjw (HO9.out.blk (b:=⟨w.heap.size,#[(Qqe ti),s.name,false,ev,Qv o1 l1 c1,true,Qv o2 l2 c2,Qv o3 l3 c3,Qv o4 l4 c4,Qv o5 l5 c5,Qv o6 l6 c6],35⟩) (by simp));dsimp only at x1 x3;have x5:=x0;go_upto_region 20 with fail
 go_upto_if 148 with(fail)
 go_cut [14] (fun v wx=>∃q,v=.string q∧Qjj q ⟨#[105,100]⟩=true∧OB T w wx (⟨nb,#[x.kind,x.op,x.no,x.val.kind,x.val.int,x.val.text,x.table,x.name,(),()],80⟩::[⟨w.heap.size+1+1+1,#["0","",(),(),(),(),""],42⟩,⟨w.heap.size+1+1,#[Qv fa fs.length fc,Qv ta ss.length tc],122⟩,⟨w.heap.size+1,#[s.name,Qv (some ⟨xb,xo,none⟩) s.cols.length cc],29⟩,⟨w.heap.size,#[(Qqe ti),s.name,false,ev,Qv o1 l1 c1,true,Qv o2 l2 c2,Qv o3 l3 c3,Qv o4 l4 c4,Qv o5 l5 c5,Qv o6 l6 c6],35⟩]))
 case first=>
  by_cases he:ev=3
  ·have he3:(ev==3)=true:=by simpa using he
   clear he;go_wp2_with fail
   go_meet
   exact⟨_,rfl,(by decide+kernel),HO9.out⟩
  ·go_wp2_with fail
   go_meet
   exact⟨_,rfl,(by decide+kernel),HO9.out⟩
 case rest=>
  obtain⟨q,rfl,hq,hO⟩:=hcut;rename World=>w10;have HO10:=hid hO;have HQC:=hid hq;have hTw:=HO10.out.lo;have hnS:w.heap.size+1+1+1<nb:=hz4;clear hO hq HO9 e0 e1 e2 e3 e4 e5 e6 e7 e8 e9 p0 p1 pz x5 x1 x3;go_wp2_with fail
  have hO11:=HO10.out.alloc (.cells #[.string ⟨#[116]⟩,.string ⟨#[117]⟩] 9);have htu0:=Uk9 w10 9;have hz10:=HO10.out.size;generalize hW11:World.alloc w10 _=w11 at hO11 htu0⊢;have hz11:w10.heap.size<w11.heap.size:=by rw[←hW11];simp
  generalize w10.heap.size=tg at htu0 hz11 hz10⊢;have HO11:=hid hO11;have HTU:=hid htu0;clear hW11 hO11 htu0 HO10;refine(Qqk T 2 _ (by omega) (by omega) HO11.out.tape).mono ?_;rintro e w12 ⟨v,rfl,⟨j,rfl,hj0,hj1⟩,ht,hk⟩;obtain⟨j,rfl⟩:=Zt hj0;have hj:j<2:=by omega
  have hnm:w12.cell? ⟨tg,j,none⟩=some (.string (tuS j).name):=(hk.cell hz11 (fun h=>by unfold At at h;omega)).trans (HTU.out j hj);have HO12:=hid (HO11.out.step ht hk);have HS2:=hid (Uy4 j hj);clear ht hk HO11 HTU;generalize tuS j=s2 at hnm HS2;dsimp only;go_wp2_with fail
  refine(Qkl ⟨#[]⟩ ⟨#[105,100]⟩ _).mono ?_;rintro e w13 ⟨rfl,hb⟩;have HO13:=hid (HO12.out.bel hb);clear hb HO12 hnm;dsimp only;go_wp2_with fail
  refine(Qkl q ⟨#[105,100]⟩ _).mono ?_;rintro e w14 ⟨rfl,hb⟩;have HO14:=hid (HO13.out.bel hb);have hz14:nb<w14.heap.size:=(HO13.out.bel hb).blt (Zv ..);clear hb HO13;dsimp only;go_wp2_with fail
  refine(Qvm (lo:=w.heap.size+1+1+1+1) (a:=Qqp ⟨#[]⟩ ⟨#[105,100]⟩) (b:=Qqp q ⟨#[105,100]⟩) 3 ⟨none,0,none,0,rfl,Qqa.nil ..,Qqa.nil ..⟩ ⟨none,0,none,0,rfl,Qqa.nil ..,Qqa.nil ..⟩ (by omega)).mono ?_;rintro e w15 ⟨v,rfl,hv,hb⟩;obtain⟨ab,abc,sb,sbc,rfl,hva,hvs⟩:=hv;have HV15:=hid (Ze hva hvs);have HO15:=hid (HO14.out.bel hb);have hz15:nb<w15.heap.size:=(HO14.out.bel hb).blt (Zv ..);clear hva hvs hb HO14 hz14;dsimp only;go_wp2_with fail
  have hO16:=HO15.out.new' rfl #[.int .i64 (Qqc 3 (Qqp ⟨#[]⟩ ⟨#[105,100]⟩) (Qqp q ⟨#[105,100]⟩)).kind,.int .i64 (Qqc 3 (Qqp ⟨#[]⟩ ⟨#[105,100]⟩) (Qqp q ⟨#[105,100]⟩)).op,.bool (Qqc 3 (Qqp ⟨#[]⟩ ⟨#[105,100]⟩) (Qqp q ⟨#[105,100]⟩)).no,.int .i64 (Qqc 3 (Qqp ⟨#[]⟩ ⟨#[105,100]⟩) (Qqp q ⟨#[105,100]⟩)).val.kind,.int .i64 (Qqc 3 (Qqp ⟨#[]⟩ ⟨#[105,100]⟩) (Qqp q ⟨#[105,100]⟩)).val.int,.string (Qqc 3 (Qqp ⟨#[]⟩ ⟨#[105,100]⟩) (Qqp q ⟨#[105,100]⟩)).val.text,.string (Qqc 3 (Qqp ⟨#[]⟩ ⟨#[105,100]⟩) (Qqp q ⟨#[105,100]⟩)).table,.string (Qqc 3 (Qqp ⟨#[]⟩ ⟨#[105,100]⟩) (Qqp q ⟨#[105,100]⟩)).name,.slice ab (Qqc 3 (Qqp ⟨#[]⟩ ⟨#[105,100]⟩) (Qqp q ⟨#[105,100]⟩)).args.length abc,.slice sb (Qqc 3 (Qqp ⟨#[]⟩ ⟨#[105,100]⟩) (Qqp q ⟨#[105,100]⟩)).sub.length sbc] 80;have hV16:=Qq8 (M:=MG (Old (w.heap.size+1+1+1+1)) w15.heap.size) ((Qqb.refl _ w15).alloc (.cells #[.int .i64 (Qqc 3 (Qqp ⟨#[]⟩ ⟨#[105,100]⟩) (Qqp q ⟨#[105,100]⟩)).kind,.int .i64 (Qqc 3 (Qqp ⟨#[]⟩ ⟨#[105,100]⟩) (Qqp q ⟨#[105,100]⟩)).op,.bool (Qqc 3 (Qqp ⟨#[]⟩ ⟨#[105,100]⟩) (Qqp q ⟨#[105,100]⟩)).no,.int .i64 (Qqc 3 (Qqp ⟨#[]⟩ ⟨#[105,100]⟩) (Qqp q ⟨#[105,100]⟩)).val.kind,.int .i64 (Qqc 3 (Qqp ⟨#[]⟩ ⟨#[105,100]⟩) (Qqp q ⟨#[105,100]⟩)).val.int,.string (Qqc 3 (Qqp ⟨#[]⟩ ⟨#[105,100]⟩) (Qqp q ⟨#[105,100]⟩)).val.text,.string (Qqc 3 (Qqp ⟨#[]⟩ ⟨#[105,100]⟩) (Qqp q ⟨#[105,100]⟩)).table,.string (Qqc 3 (Qqp ⟨#[]⟩ ⟨#[105,100]⟩) (Qqp q ⟨#[105,100]⟩)).name,.slice ab (Qqc 3 (Qqp ⟨#[]⟩ ⟨#[105,100]⟩) (Qqp q ⟨#[105,100]⟩)).args.length abc,.slice sb (Qqc 3 (Qqp ⟨#[]⟩ ⟨#[105,100]⟩) (Qqp q ⟨#[105,100]⟩)).sub.length sbc] 80)) (Qvc (fun k hk h=>by rcases h with h|h;(exact h);omega) HV15.out);generalize World.alloc w15 _=w16 at hO16 hV16⊢;generalize w15.heap.size=bx at hO16 hV16 hz15⊢;have HO16:=hid hO16;have HV16:=hid hV16;clear hO16 hV16 HO15 HV15;refine(Qq2 T 3 _ (by omega) (by omega) HO16.out.tape).mono ?_;rintro e w17 ⟨v,rfl,⟨b,rfl⟩,ht,hk⟩;have HO17:=hid (HO16.out.step ht hk);have HV17:=hid (Qq8 (hk.weak fun k _ h=>.inl (by unfold At at h;unfold Old;omega)) HV16.out);have hbx:bx<w17.heap.size:=(HO16.out.step ht hk).blt (Zv ..);have HGY:=hid (show GX 1 (Qqc 3 (Qqp ⟨#[]⟩ ⟨#[105,100]⟩) (Qqp q ⟨#[105,100]⟩)) from Jj6 (by omega) (by omega) (.col 0 _ _ (by decide+kernel)) (.col 0 _ _ HQC.out));clear ht hk HO16 HV16;dsimp only
  go_upto_if 159 with(fail)
  go_cut [] (fun wx=>∃(y:Ex) (ya ys:Option Addr) (yac ysc:Nat),GX 3 y∧(Qqq (Old (w.heap.size+1+1+1+1)) wx (Qv ya y.args.length yac) y.args∧Qz1 (Old (w.heap.size+1+1+1+1)) wx (Qv ys y.sub.length ysc) y.sub)∧OB T w wx (⟨bx,#[y.kind,y.op,y.no,y.val.kind,y.val.int,y.val.text,y.table,y.name,Qv ya y.args.length yac,Qv ys y.sub.length ysc],80⟩::(⟨nb,#[x.kind,x.op,x.no,x.val.kind,x.val.int,x.val.text,x.table,x.name,(),()],80⟩::[⟨w.heap.size+1+1+1,#["0","",(),(),(),(),""],42⟩,⟨w.heap.size+1+1,#[Qv fa fs.length fc,Qv ta ss.length tc],122⟩,⟨w.heap.size+1,#[s.name,Qv (some ⟨xb,xo,none⟩) s.cols.length cc],29⟩,⟨w.heap.size,#[(Qqe ti),s.name,false,ev,Qv o1 l1 c1,true,Qv o2 l2 c2,Qv o3 l3 c3,Qv o4 l4 c4,Qv o5 l5 c5,Qv o6 l6 c6],35⟩])))
  case first=>
   cases b
   case false=>
    go_wp2_with fail
    go_meet
    exact⟨(Qqc 3 (Qqp ⟨#[]⟩ ⟨#[105,100]⟩) (Qqp q ⟨#[105,100]⟩)),ab,sb,abc,sbc,HGY.out.up (by omega),Qvc (fun k _ h=>.inl h) HV17.out,HO17.out⟩
   case true=>
    have HKS:=hid (fun(W:World) (h:OB T w W (⟨nb,#[x.kind,x.op,x.no,x.val.kind,x.val.int,x.val.text,x.table,x.name,(),()],80⟩::[⟨w.heap.size+1+1+1,#["0","",(),(),(),(),""],42⟩,⟨w.heap.size+1+1,#[Qv fa fs.length fc,Qv ta ss.length tc],122⟩,⟨w.heap.size+1,#[s.name,Qv (some ⟨xb,xo,none⟩) s.cols.length cc],29⟩,⟨w.heap.size,#[(Qqe ti),s.name,false,ev,Qv o1 l1 c1,true,Qv o2 l2 c2,Qv o3 l3 c3,Qv o4 l4 c4,Qv o5 l5 c5,Qv o6 l6 c6],35⟩]))=>(show W.cell? ⟨w.heap.size+1+1,0,none⟩=some (Qv fa fs.length fc)∧W.cell? ⟨w.heap.size+1+1,1,none⟩=some (Qv ta ss.length tc) from⟨(Qjk (h.blk (b:=⟨w.heap.size+1+1,#[Qv fa fs.length fc,Qv ta ss.length tc],122⟩) (by simp))).1,(Qjk (h.blk (b:=⟨w.heap.size+1+1,#[Qv fa fs.length fc,Qv ta ss.length tc],122⟩) (by simp))).2.1⟩));have hfl:fs.length≤100:=by have:=HP.out.2.1;omega
    have HP2:=hid ((HP.out.mono (m:=3) (by omega)).inside (HIN.out s2 HS2.out));have hLb:∀b∈((⟨nb,#[x.kind,x.op,x.no,x.val.kind,x.val.int,x.val.text,x.table,x.name,(),()],80⟩::[⟨w.heap.size+1+1+1,#["0","",(),(),(),(),""],42⟩,⟨w.heap.size+1+1,#[Qv fa fs.length fc,Qv ta ss.length tc],122⟩,⟨w.heap.size+1,#[s.name,Qv (some ⟨xb,xo,none⟩) s.cols.length cc],29⟩,⟨w.heap.size,#[(Qqe ti),s.name,false,ev,Qv o1 l1 c1,true,Qv o2 l2 c2,Qv o3 l3 c3,Qv o4 l4 c4,Qv o5 l5 c5,Qv o6 l6 c6],35⟩]):List Qqx),b.pos≠bx:=by simp;omega
    have HO18:=hid HO17.out.drew;have HV18:=hid (Qq8 (Qqb.refl _ w17).drew HV17.out);go_upto_region 26 with fail
    refine Kg ?_;refine Kj (S:=fun w'=>w'.cell? ⟨w.heap.size+1+1,0,none⟩=some (Qv fa fs.length fc)∧w'.cell? ⟨w.heap.size+1+1,1,none⟩=some (Qv ta ss.length tc)) (by kernel_rfl) ?_ (fun hHeld=>?_)
    ·exact HKS.out _ (Qzw HO18.out)
    refine Jk6 (fuel':=9) (listed':=#[false,false,false,false,false,false,false,false,false]) (by kernel_rfl) (by kernel_rfl) ?_;refine Yk8 (by kernel_rfl) T (w.heap.size+1+1+1) bx (w.heap.size+1+1) w _ (⟨nb,#[x.kind,x.op,x.no,x.val.kind,x.val.int,x.val.text,x.table,x.name,(),()],80⟩::[⟨w.heap.size+1+1+1,#["0","",(),(),(),(),""],42⟩,⟨w.heap.size+1+1,#[Qv fa fs.length fc,Qv ta ss.length tc],122⟩,⟨w.heap.size+1,#[s.name,Qv (some ⟨xb,xo,none⟩) s.cols.length cc],29⟩,⟨w.heap.size,#[(Qqe ti),s.name,false,ev,Qv o1 l1 c1,true,Qv o2 l2 c2,Qv o3 l3 c3,Qv o4 l4 c4,Qv o5 l5 c5,Qv o6 l6 c6],35⟩]) _ fs ss fa ta fc tc s2 HS2.out (Qqc 3 (Qqp ⟨#[]⟩ ⟨#[105,100]⟩) (Qqp q ⟨#[105,100]⟩)) ab sb abc sbc hTw (by omega) (by omega) HO18 hLb HV18 HKS HW HF HS HP2 hfl _ rfl rfl rfl rfl rfl ?_;intro u160 u161 u162 u163 u164 u165 u166 u167 W z za zs zac zsc hg hzz hC
    (try simp only[Act.put,Zj,Zx,Zk])
    have HC9:=hid hC;have HZZ:=hid hzz;have HGZ:=hid hg;clear hC hzz hg;go_wp2_with fail
    go_meet
    exact⟨(Qqc 2 (Qqc 3 (Qqp ⟨#[]⟩ ⟨#[105,100]⟩) (Qqp q ⟨#[105,100]⟩)) z),za,zs,zac,zsc,Jj6 (by omega) (by omega) (HGY.out.up (by omega)) HGZ.out,HZZ.out,HC9.out⟩
  case rest=>
   obtain⟨y,ya,ys,yac,ysc,hgy,hye,hO⟩:=hcut;rename World=>w18;have HO18:=hid hO;have HYE:=hid hye;have HGY2:=hid hgy;clear hO hye hgy HO17 HV17 HGY;obtain⟨e0,e1,e2,e3,e4,e5,e6,e7,e8,e9,_⟩:=Qq5 (HO18.out.blk (b:=⟨nb,#[x.kind,x.op,x.no,x.val.kind,x.val.int,x.val.text,x.table,x.name,(),()],80⟩) (by simp));obtain⟨y0,y1,y2,y3,y4,y5,y6,y7,y8,y9,_⟩:=Qq5 (HO18.out.blk (Zv ..));obtain⟨r0,r1,r2,r3,r4,r5,r6,rf,rz⟩:=Qze (HO18.out.blk (b:=⟨w.heap.size+1+1+1,#["0","",(),(),(),(),""],42⟩) (by simp));dsimp only at e0 e1 e2 e3 e4 e5 e6 e7 e8 e9 y0 y1 y2 y3 y4 y5 y6 y7 y8 y9 r0 r1 r2 r3 r4 r5 r6 rf rz;have s1:w.heap.size+1+1+1<w18.heap.size+1:=by omega
   have s2':w.heap.size+1+1+1<w18.heap.size+1+1:=by omega
   have s3:w.heap.size+1+1+1≠w18.heap.size:=by omega
   have s4:w.heap.size+1+1+1≠w18.heap.size+1:=by omega
   repeat(first|go_values|go_skip|go_guarded|go_step|go_upon)
   have ks:Qqb (Old (w.heap.size+1+1+1+1)) w18 (w18.setCells (w.heap.size+1+1+1) 0 ["2",s2.name,(),(),Qv (some ⟨w18.heap.size,0,none⟩) 1 1,Qv (some ⟨w18.heap.size+1,0,none⟩) 1 1,""]):=(Qqj ["2",s2.name,(),(),Qv (some ⟨w18.heap.size,0,none⟩) 1 1,Qv (some ⟨w18.heap.size+1,0,none⟩) 1 1,""] 0 w18).weak fun k _ hk=>by unfold At at hk;unfold Old;omega
   have hS7:Qzb (Old (w.heap.size+1+1+1+1)) ((w18.setCells (w.heap.size+1+1+1) 0 ["2",s2.name,(),(),Qv (some ⟨w18.heap.size,0,none⟩) 1 1,Qv (some ⟨w18.heap.size+1,0,none⟩) 1 1,""]).alloc (.cells #[.string ⟨#[110]⟩,x.kind,x.op,x.no,x.val.kind,x.val.int,x.val.text,x.table,x.name,(),()] 155)) (Qv (some ⟨w18.heap.size,0,none⟩) 1 1) [⟨⟨#[110]⟩,x⟩]:=Qq6 (R:=Jxc _ _) ⟨⟨#[110]⟩,x⟩ (by simp[Qy]) (fun h=>by simp only[Qy,Ja] at h;unfold Old at h;omega) rfl ⟨_,rfl,Yjn HX8.out⟩;have hS8:=Qzb.keep ((Qqb.refl _ _).alloc (.cells #[y.kind,y.op,y.no,y.val.kind,y.val.int,y.val.text,y.table,y.name,Qv ya y.args.length yac,Qv ys y.sub.length ysc] 80)) hS7;have hE7:=Qvn (M:=Old (w.heap.size+1+1+1+1)) (W:=(w18.setCells (w.heap.size+1+1+1) 0 ["2",s2.name,(),(),Qv (some ⟨w18.heap.size,0,none⟩) 1 1,Qv (some ⟨w18.heap.size+1,0,none⟩) 1 1,""]).alloc (.cells #[.string ⟨#[110]⟩,x.kind,x.op,x.no,x.val.kind,x.val.int,x.val.text,x.table,x.name,(),()] 155)) (e:=80) (x:=y) (a:=ya) (s:=ys) (ac:=yac) (sc:=ysc) (g:=w18.heap.size+1) (by simp[Qy]) (fun h=>by simp only[Qy,Ja,Zn] at h;unfold Old at h;omega) (Qq8 (ks.alloc _) HYE.out);have hC7:=(((Qzw (Qzw HO18.out)).puts 0 ["2",s2.name,(),(),Qv (some ⟨w18.heap.size,0,none⟩) 1 1,Qv (some ⟨w18.heap.size+1,0,none⟩) 1 1,""] (by intro b hb;simp only[Zs,Zo,Yu] at hb;rcases hb with rfl|rfl|rfl<;>dsimp only<;>omega) (c':=#[.int .i64 2,.string s2.name,Qv none 0 0,Qv none 0 0,Qv (some ⟨w18.heap.size,0,none⟩) 1 1,Qv (some ⟨w18.heap.size+1,0,none⟩) 1 1,.string ⟨#[]⟩]) rfl).alloc (.cells #[.string ⟨#[110]⟩,x.kind,x.op,x.no,x.val.kind,x.val.int,x.val.text,x.table,x.name,(),()] 155)).alloc (.cells #[y.kind,y.op,y.no,y.val.kind,y.val.int,y.val.text,y.table,y.name,Qv ya y.args.length yac,Qv ys y.sub.length ysc] 80);clear hS7 ks;dsimp only[World.setCells] at hE7 hS8 hC7;generalize hW7:World.alloc (World.alloc _ _) _=w7' at hE7 hS8 hC7⊢;clear hW7 r0 r1 r2 r3 r4 r5 r6;have HC7:=hid hC7;have HE7:=hid hE7;have HS7:=hid hS8;obtain⟨r0,r1,r2,r3,r4,r5,r6,rf,rz⟩:=Qze (hC7.blk (Zv ..));dsimp only at r0 r1 r2 r3 r4 r5 r6 rf rz;clear hC7 hE7 hS8;refine Zh (v:=.agg #["2",s2.name,(),(),Qv (some ⟨w18.heap.size,0,none⟩) 1 1,Qv (some ⟨w18.heap.size+1,0,none⟩) 1 1,""]) (by simp[results,Tryz.results94,go_sem,r0,r1,r2,r3,r4,r5,r6]) rfl ?_;have HNM:=hid (Qv8 s2 HS2.out).2.2.2.1;have FIN:=Jj7 (n:=3) (P:=fun a=>Qxa false true ev a.kind=true) HC7.out (lo:=w.heap.size+1+1+1+1) (by omega) ⟨2,s2.name,[],[],[⟨⟨#[110]⟩,x⟩],[y],⟨#[]⟩⟩ (Qv none 0 0) () (Qv (some ⟨w18.heap.size,0,none⟩) 1 1) (Qv (some ⟨w18.heap.size+1,0,none⟩) 1 1) (.inl ⟨rfl,rfl⟩) (Qqa.nil ..) HS7.out HE7.out (.update _ _ _ HNM.out (by simp) (by simp) (fun z hz=>by rw[Zd.1 hz];exact⟨(show Qqo ⟨#[110]⟩=true by decide+kernel),HX8.out.2.2.up (by omega)⟩) rfl (by simp) (fun z hz=>by rw[Zd.1 hz];exact HGY2.out)) (Qzz (by simp));exact FIN
end Go.Proofs.YtgepbohjmgaojaaGreatDoor
