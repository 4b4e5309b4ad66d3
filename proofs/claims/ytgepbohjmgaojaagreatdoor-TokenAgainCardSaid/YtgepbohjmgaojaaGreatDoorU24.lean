/- The reference's text of a statement, joined. What AnyExpr makes is well-formed. The tape's statements: their words are tokens, and they are well-formed. -/
import Derived.Test.YtgepbohjmgaojaaGreatDoorVRW9
import Derived.Test.YtgepbohjmgaojaaGreatDoorU18
set_option linter.all false
namespace Go.Proofs.YtgepbohjmgaojaaGreatDoor
open Go.RowKit
structure Uk1(s:Qvu):Prop where
 k1:1≤s.kind
 k6:s.kind≤6
 cols:s.kind=1→∀c∈s.sch.cols,1≤c.type∧c.type≤3
 name:s.kind=2∨s.kind=4→Qqo s.name=true∧s.name.size≤1000
 trg:s.kind=3→Yvq s.trg
 qry:s.kind=5→(∀x∈s.qry.items,Qxb x)∧(∀x∈s.qry.whr,Qxb x)∧s.qry.whr.length≤1∧(s.qry.star=true→s.qry.items=[])
 act:s.kind=6→Uyo s.act
 len:(Qwj s).length≤400000000
 sum:((Qwj s).map fun t=>t.size+1).sum≤1000000000000
set_option maxHeartbeats 4000000 in
theorem Uza(s:Qvu)(cs:List Value)(w:World)(h:Jy8 NoM w s cs)(ht:Yvp s)(hk:Uk1 s)(hL:Qzf w)(hs:10<w.heap.size)(hO:Jxj w)(hT:Yz1 w)(hE:Yxg w):
 Calls Tryz.prog 6 #[.agg cs.toArray] w (Qqd (.tuple #[.string (if Jzt s=true then bs (Qxe none (Qwj s)) else⟨#[]⟩),.bool (Jzt s)]) w):=by
 have HVAL:=fun wx (kb:Below w.heap.size w wx)=>Uqp s _ wx (Jy8.keep (.bel kb) h) ht;generalize Jzt s=ok at HVAL⊢;obtain⟨c1,ct,cq,ca,rfl,h1,h2,h3,h4⟩:=h;have k2:=h2;have k4:=h4;obtain⟨g1,g6,gc,gn,gt,gq,ga,glen,gsum⟩:=hk;obtain⟨vc,rfl,hcols⟩:=h1;obtain⟨vo,vp,vf,vr,vw,va,rfl,ho,hp,hf,hr,hwc,ha⟩:=h2;obtain⟨k,sch,nm,trg,qry,act⟩:=s;dsimp only at*;obtain⟨st,items,qf,qw⟩:=qry;obtain⟨vi,vj,rfl,hi,hj⟩:=(Qxg ..).1 h3;obtain⟨xr,xq,xs,xw,rfl,hxr,hxq,hxs,hxw⟩:=h4;obtain⟨sa,sc,rfl,_⟩:=hcols.shape;obtain⟨oa,oc,rfl,_⟩:=Qqa.shape ho;obtain⟨pa,pc,rfl,_⟩:=Qqa.shape hp;obtain⟨fa,fc,rfl,_⟩:=Qqa.shape hf;obtain⟨ra,rc,rfl,_⟩:=Qqa.shape hr;obtain⟨wa,wc,rfl,_⟩:=Qqa.shape hwc;obtain⟨aa,ac,rfl,_⟩:=Qqa.shape ha;obtain⟨ia,ic,rfl,_⟩:=Qqa.shape hi;obtain⟨ja,jc,rfl,_⟩:=Qqa.shape hj;obtain⟨b1,d1,rfl,_⟩:=Qqa.shape hxr;obtain⟨b2,d2,rfl,_⟩:=Qqa.shape hxq;obtain⟨b3,d3,rfl,_⟩:=Qqa.shape hxs;obtain⟨b4,d4,rfl,_⟩:=Qqa.shape hxw;simp only[Qu.items,Qu.whr,Qu.frm,Qu.star] at gq;have hk:k=1∨k=2∨k=3∨k=4∨k=5∨k=6:=by omega
 refine Kxa w ok _ (Qqw (sch.cols.map Qj8)) hL hs HVAL (fun _=>hk) (fun e=>?_) (fun e=>?_) (fun e=>?_) (fun e=>?_) (fun e=>?_) (fun e=>?_) gsum<;>subst e
 ·have e:Qwj ⟨1,sch,nm,trg,.mk st items qf qw,act⟩=[kCREATE,Qkf,sch.name,Qq7]++(Qqw (sch.cols.map Qj8)++[Qjq]):=by simp[Qwj,Jyf]
  rw[e] at glen;have hl:(Qqw (sch.cols.map Qj8)).length≤400000000:=by simp only[Zr] at glen;omega
  exact⟨e,hl,fun wx kb=>Yz2 sch.cols _ wx (hcols.keep (.bel kb)) (gc rfl) (hT.bel kb) hl⟩
 ·exact⟨by simp[Qwj],gn (.inl rfl)⟩
 ·exact⟨by simp[Qwj],gn (.inr rfl)⟩
 ·have e:Qwj ⟨3,sch,nm,trg,.mk st items qf qw,act⟩=Qkw trg:=by simp[Qwj]
  rw[e];exact fun wx kb=>Yjw trg _ wx (Jks.keep (.bel kb) k2) (gt rfl) (hL.belB kb hs) (Zm hs kb.size) (hO.bel kb) (hE.bel kb)
 ·have e:Qwj ⟨5,sch,nm,trg,.mk st items qf qw,act⟩=Qxw (.mk st items qf qw):=by simp[Qwj]
  rw[e] at glen⊢;obtain⟨q1,q2,q3,q4⟩:=gq rfl;refine fun wx kb=>Jyt st items qw qf _ _ wx (Qqq.keep hi (.bel kb)) (Qqq.keep hj (.bel kb)) q3 q1 q2 ?_ ?_ (hL.belB kb hs) (Zm hs kb.size) (hO.bel kb)
  ·cases st
   ·have:(Qxw (.mk false items qf qw)).length=1+((Qqw (Qzd items)).length+(Jzz (.mk false items qf qw)).length):=by
     unfold Qxw;simp only[Qu.star,Qu.items,Bool.false_eq_true,if_false,Zb,Zr];omega
    omega
   ·rw[q4 rfl];show(0:Nat)≤400000000;omega
  ·have h2:(Jzz (.mk st items qf qw)).length≤(Qxw (.mk st items qf qw)).length:=by
    unfold Qxw;simp only[Zb,Zr];omega
   have:(Jzz (.mk st items qf qw)).length=2+(Qjd (Qzd qw)).length:=by
    unfold Jzz;simp only[Qu.whr,Zb];omega
   omega
 ·have e:Qwj ⟨6,sch,nm,trg,.mk st items qf qw,act⟩=Qqv act:=by simp[Qwj]
  rw[e];exact fun wx kb=>Jvq act _ wx (Qv5.keep (.bel kb) k4) (ga rfl) (hL.belB kb hs) (Zm hs kb.size) (hO.bel kb)
theorem Jqx(i:Nat)(h:i<8):Qqo (Qjf i)=true:=by
 have h8:i=0∨i=1∨i=2∨i=3∨i=4∨i=5∨i=6∨i=7:=by omega
 rcases h8 with rfl|rfl|rfl|rfl|rfl|rfl|rfl|rfl<;>decide+kernel
def Yz3(ws:List ByteArray):Prop:=∀w∈ws,IsT w
theorem Yz3.nil:Yz3 []:=fun _ h=>by cases h
theorem Yz3.cons{w:ByteArray}{ws:List ByteArray}(h:IsT w)(hs:Yz3 ws):Yz3 (w::ws):=fun x hx=>(Zs.1 hx).elim (fun e=>e▸h) (hs x)
theorem Yz3.app{a b:List ByteArray}(ha:Yz3 a)(hb:Yz3 b):Yz3 (a++b):=fun x hx=>(Yf.1 hx).elim (ha x) (hb x)
end Go.Proofs.YtgepbohjmgaojaaGreatDoor
