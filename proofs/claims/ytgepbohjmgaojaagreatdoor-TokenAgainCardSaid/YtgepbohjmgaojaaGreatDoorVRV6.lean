/- Which triggers are well-formed in the reference. -/
import Derived.Test.YtgepbohjmgaojaaGreatDoorVRV5
set_option linter.all false
namespace Go.Proofs.YtgepbohjmgaojaaGreatDoor
open Value renaming slice→Qv
open Lib(hid)
open Go.RowKit
theorem Jza{α:Type}{p:α→Bool}{l:List α}{i:Nat}{y:α}(h:l[i]?=some y)(hn:p y=false):l.all p=false:=by
 refine Ko.2 fun ha=>?_;have:=Yn.1 ha y (Yk h);rw[hn] at this;cases this
theorem Yju{α:Type}{p:α→Bool}{l:List α}(h:∀(i:Nat) (y:α),i<l.length→l[i]?=some y→p y=true):l.all p=true:=
 Yn.2 fun x hx=>by
  obtain⟨i,hi,rfl⟩:=Yt.1 hx;exact h i _ hi (Zg hi)
theorem Qqr.c7{w:World}{b o:Nat}{a0 a1 a2 a3 a4 a5 a6:Value}(h:Qqr w b o [a0,a1,a2,a3,a4,a5,a6]):
 w.cell? ⟨b,o,none⟩=some a0∧w.cell? ⟨b,o+1,none⟩=some a1∧w.cell? ⟨b,o+2,none⟩=some a2∧w.cell? ⟨b,o+3,none⟩=some a3∧w.cell? ⟨b,o+4,none⟩=some a4∧w.cell? ⟨b,o+5,none⟩=some a5∧w.cell? ⟨b,o+6,none⟩=some a6:=
 ⟨h 0 _ rfl,h 1 _ rfl,h 2 _ rfl,h 3 _ rfl,h 4 _ rfl,h 5 _ rfl,h 6 _ rfl⟩
theorem Qx7{α:Type}{M:Nat→Prop}{w:World}{sz:Nat}{R:α→List Value→Prop}{a:Option Addr}{n c j:Nat}{l:List α}(h:Qqa M w sz R (Qv a n c) l)(hj:j<l.length):
 ∃x b o cs,l[j]?=some x∧x∈l∧a=some ⟨b,o,none⟩∧b<w.heap.size∧R x cs∧Qqr w b (o+j*sz) cs∧l.length≤c∧c≤maxLen:=by
 rcases Qqa.open h with⟨_,h0⟩|⟨b,o,cap,hv,_,hb,hc,hm,hx⟩
 ·rw[h0] at hj;simp at hj
 ·simp only[Yz] at hv;obtain⟨cs,hr,_,hcs⟩:=hx j _ (Zg hj);exact⟨l[j],b,o,cs,Zg hj,Yo hj,hv.1,hb,hr,hcs,hv.2.2▸hc,hv.2.2▸hm⟩
structure Yjv(t:Qks):Prop where
 name:t.name.size≤maxLen
 table:t.table.size≤maxLen
 ofs:∀s∈t.ofs,s.size≤maxLen
 prec:∀s∈t.prec,s.size≤maxLen
 foll:∀s∈t.foll,s.size≤maxLen
 rank:∀r∈t.rank,r.table.size≤maxLen∧r.col.size≤maxLen
 cond:∀e∈t.cond,Qxo e
 acts:∀a∈t.acts,Jwb a
set_option maxRecDepth 100000 in
set_option maxHeartbeats 8000000 in
theorem Jy1{M:Nat→Prop}(t:Qks)(cs:List Value)(w:World)(h:Jks M w t cs)(ht:Yjv t):Calls Tryz.prog 39 #[.agg cs.toArray] w (Qqd (.bool (Qyg t)) w):=by
 obtain⟨vo,vp,vf,vr,vw,va,rfl,ho,hp,hf,hr,hwc,ha⟩:=h;obtain⟨t1,t2,t3,t4,t5,t6,t7,t8⟩:=ht;obtain⟨nm,tb,bf,ev,ofs,each,prec,foll,rank,cond,acts⟩:=t;dsimp only at*;obtain⟨oa,oc,rfl,hmo⟩:=Qqa.shape ho;obtain⟨pa,pc,rfl,hmp⟩:=Qqa.shape hp;obtain⟨fa,fc,rfl,hmf⟩:=Qqa.shape hf;obtain⟨ra,rc,rfl,hmr⟩:=Qqa.shape hr;obtain⟨wa,qcc,rfl,hmw⟩:=Qqa.shape hwc;obtain⟨aa,ac,rfl,hma⟩:=Qqa.shape ha;unfold maxLen at hmo hmp hmf hmr hmw hma;simp only[Jx4];have HN1:=hid fun wx=>Qjr nm wx t1;have HN2:=hid fun wx=>Qjr tb wx t2;have HO:=hid fun wx (k:Below w.heap.size w wx)=>Jjz ofs _ wx (Qjm.keep (.bel k) ho) t3;have HP:=hid fun wx (k:Below w.heap.size w wx)=>Jjz prec _ wx (Qjm.keep (.bel k) hp) t4;have HF:=hid fun wx (k:Below w.heap.size w wx)=>Jjz foll _ wx (Qjm.keep (.bel k) hf) t5;have HW:=hid fun wx (k:Below w.heap.size w wx)=>Qwe cond (fun e _=>Qvy e) t7 _ wx (Qqq.keep hwc (.bel k))
 have HR:=hid fun j (hj:j<rank.length)=>(show ∃r b o,rank[j]?=some r∧r.table.size≤maxLen∧r.col.size≤maxLen∧ra=some ⟨b,o,none⟩∧b<w.heap.size∧Qqr w b (o+j*4) [r.table,r.col,r.low,r.high]∧rank.length≤rc∧rc≤maxLen from by
  obtain⟨r,b,o,cs,h1,h2,h3,h4,rfl,h6,h7⟩:=Qx7 hr hj
  exact⟨r,b,o,h1,(t6 r h2).1,(t6 r h2).2,h3,h4,h6,h7⟩)
 have HA:=hid fun j (hj:j<acts.length)=>(show ∃a b o a1 c1 a2 c2 a3 c3 a4 c4,acts[j]?=some a∧aa=some ⟨b,o,none⟩∧b<w.heap.size∧Qqr w b (o+j*7) [a.kind,a.table,Qv a1 a.rows.length c1,Qv a2 a.query.length c2,Qv a3 a.sets.length c3,Qv a4 a.whr.length c4,a.text]∧(∀wx,Below w.heap.size w wx→Calls Tryz.prog 41 #[.agg #[a.kind,a.table,Qv a1 a.rows.length c1,Qv a2 a.query.length c2,Qv a3 a.sets.length c3,Qv a4 a.whr.length c4,a.text]] wx (Qqd (.bool (Qzh a)) wx))∧acts.length≤ac∧ac≤maxLen from by
  obtain⟨a,b,o,cs,h1,h2,h3,h4,h5,h6,h7⟩:=Qx7 ha hj;have h5':=h5;obtain⟨vr,vq,vs,vw,rfl,hr,hq,hs,hw⟩:=h5';obtain⟨a1,c1,rfl,_⟩:=Qqa.shape hr;obtain⟨a2,c2,rfl,_⟩:=Qqa.shape hq;obtain⟨a3,c3,rfl,_⟩:=Qqa.shape hs;obtain⟨a4,c4,rfl,_⟩:=Qqa.shape hw
  exact⟨a,b,o,a1,c1,a2,c2,a3,c3,a4,c4,h1,h3,h4,h6,fun wx k=>Jxq a _ wx (Qv5.keep (.bel k) h5) (t8 a h2),h7⟩)
 have HV:Hid (Qyg ⟨nm,tb,bf,ev,ofs,each,prec,foll,rank,cond,acts⟩=(Qqo nm&&Qqo tb&&decide (1≤ev)&&decide (ev≤3)&&(decide (ofs.length=0)||decide (ev=2))&&Qv6 ofs&&Qv6 prec&&Qv6 foll&&
  decide (rank.length≤1)&&(decide (rank.length=0)||!bf)&&rank.all Jx5&&(decide (cond.length≤1)&&Qjc cond)&&decide (1≤acts.length)&&decide (acts.length≤4)&&acts.all (fun a=>Qzh a&&Jxd ⟨nm,tb,bf,ev,ofs,each,prec,foll,rank,cond,acts⟩ a.kind))):=hid rfl
 have HAL:Hid (∀k,Jxd ⟨nm,tb,bf,ev,ofs,each,prec,foll,rank,cond,acts⟩ k=if k=4 then true else if k=5 then bf&&each&&!decide (ev=3) else !bf):=hid fun _=>rfl;generalize Qyg ⟨nm,tb,bf,ev,ofs,each,prec,foll,rank,cond,acts⟩=V at HV⊢;generalize Jxd ⟨nm,tb,bf,ev,ofs,each,prec,foll,rank,cond,acts⟩=AL at HV HAL;generalize Qqo nm=nb1 at HN1 HV;generalize Qqo tb=nb2 at HN2 HV;generalize Qv6 ofs=ob at HO HV;generalize Qv6 prec=pb at HP HV;generalize Qv6 foll=fb at HF HV;generalize Qjc cond=wb at HW HV;clear ho hp hf hr hwc ha t1 t2 t3 t4 t5 t6 t7 t8;generalize ofs.length=no at HO HV hmo⊢;generalize prec.length=np at HP HV hmp⊢;generalize foll.length=nf at HF HV hmf⊢;generalize cond.length=nw at HW HV hmw⊢;have HRL:Hid (∀i,i<rank.length↔i<rank.length):=hid fun _=>Iff.rfl
 obtain⟨nr,hnr⟩:∃n,rank.length=n:=⟨_,rfl⟩
 obtain⟨na,hna⟩:∃n,acts.length=n:=⟨_,rfl⟩
 rw[hnr] at HR HV hmr⊢;rw[hna] at HA HV hma⊢;have HNR:=hid hnr;have HNA:=hid hna;clear hnr hna HRL;go_enter Tryz.func39,Tryz.ntmps39;go_upto_region 1 with fail
 generalize hW0:World.alloc w _=W1;have hb0:W1.heap[w.heap.size]?=some (.cells #[nm,tb,bf,ev,Qv oa no oc,each,Qv pa np pc,Qv fa nf fc,Qv ra nr rc,Qv wa nw qcc,Qv aa na ac] 35 (0,0)):=by rw[←hW0];exact Zw w _
 have HB1:=hid (show Below w.heap.size w W1 from by rw[←hW0];exact(Below.refl _ _).alloc (Zz _) _);have hz1:=(Zq.1 hb0).1;have HC1:=hid hb0;clear hW0 hb0;obtain⟨x0,x1,x2,x3,x4,x5,x6,x7,x8,x9,x10,_⟩:=Qjw HC1.out
 go_cut [38] (fun v wx=>wx=W1∧∃c,v=.bool c∧c=!(nb1&&nb2&&decide (1≤ev)&&decide (ev≤3)&&(decide (no=0)||decide (ev=2))))
 case first=>
  go_wp2_with fail
  refine(HN1.out _).mono ?_;rintro e wy ⟨rfl,rfl⟩;dsimp only;cases nb1
  case false=>
   go_wp2_with fail
   go_meet
   exact⟨rfl,true,rfl,rfl⟩
  case true=>
   go_wp2_with fail
   refine(HN2.out _).mono ?_;rintro e wy ⟨rfl,rfl⟩;dsimp only;cases nb2
   case false=>
    go_wp2_with fail
    go_meet
    exact⟨rfl,true,rfl,rfl⟩
   case true=>
    by_cases v1:ev<1
    ·go_wp2_with fail
     go_meet
     exact⟨rfl,true,rfl,by(first|(simp;done)|(simp;omega)|(simp;intros;omega)|(simp;exact .inl (by omega))|(simp;exact .inl (.inl (by omega)))|(simp;exact .inl (.inr (by omega)))|(simp;exact .inr (.inl (by omega)))|(simp;exact .inr (by omega)))⟩
    ·by_cases v3:3<ev
     ·go_wp2_with fail
      go_meet
      exact⟨rfl,true,rfl,by(first|(simp;done)|(simp;omega)|(simp;intros;omega)|(simp;exact .inl (by omega))|(simp;exact .inl (.inl (by omega)))|(simp;exact .inl (.inr (by omega)))|(simp;exact .inr (.inl (by omega)))|(simp;exact .inr (by omega)))⟩
     ·by_cases v2:ev=2
      ·subst v2;go_wp2_with fail
       go_meet
       exact⟨rfl,false,rfl,by simp⟩
      ·have e2:(ev==2)=false:=by simpa using v2
       have f2:(ev !=2)=true:=by simp[bne,e2]
       by_cases p0:(0:Int)<(no:Int)
       ·have p0n:0<no:=by omega
        go_wp2_with fail
        go_meet
        exact⟨rfl,true,rfl,by(first|(simp;done)|(simp;omega)|(simp;intros;omega)|(simp;exact .inl (by omega))|(simp;exact .inl (.inl (by omega)))|(simp;exact .inl (.inr (by omega)))|(simp;exact .inr (.inl (by omega)))|(simp;exact .inr (by omega)))⟩
       ·obtain rfl:no=0:=by omega
        go_wp2_with fail
        go_meet
        exact⟨rfl,false,rfl,by(first|(simp;done)|(simp;omega)|(simp;intros;omega)|(simp;exact .inl (by omega))|(simp;exact .inl (.inl (by omega)))|(simp;exact .inl (.inr (by omega)))|(simp;exact .inr (.inl (by omega)))|(simp;exact .inr (by omega)))⟩
 case rest=>
  obtain⟨rfl,c,rfl,hc⟩:=hcut;cases c
  case true=>
   go_wp2_with fail
   go_ret;refine⟨?_,HB1.out⟩;rw[HV.out]
   have hc':(nb1&&nb2&&decide (1≤ev)&&decide (ev≤3)&&(decide (no=0)||decide (ev=2)))=false:=by
    generalize(nb1&&nb2&&decide (1≤ev)&&decide (ev≤3)&&(decide (no=0)||decide (ev=2)))=z at hc;cases z
    ·rfl
    ·cases hc
   rw[hc'];rfl
  case false=>
   have hc':(nb1&&nb2&&decide (1≤ev)&&decide (ev≤3)&&(decide (no=0)||decide (ev=2)))=true:=by
    generalize(nb1&&nb2&&decide (1≤ev)&&decide (ev≤3)&&(decide (no=0)||decide (ev=2)))=z at hc;cases z
    ·cases hc
    ·rfl
   have HV1:Hid (V=(ob&&pb&&fb&&decide (nr≤1)&&(decide (nr=0)||!bf)&&rank.all Jx5&&(decide (nw≤1)&&wb)&&decide (1≤na)&&decide (na≤4)&&acts.all (fun a=>Qzh a&&AL a.kind))):=hid (by
    rw[HV.out,hc']
    rfl)
   clear hc hc' HV HN1 HN2;go_upto_region 3 with fail
   go_cut [82] (fun v wx=>Below w.heap.size w wx∧wx.heap[w.heap.size]?=some (.cells #[nm,tb,bf,ev,Qv oa no oc,each,Qv pa np pc,Qv fa nf fc,Qv ra nr rc,Qv wa nw qcc,Qv aa na ac] 35 (0,0))∧∃c,v=.bool c∧c=!(ob&&pb&&fb&&decide (nr≤1)&&(decide (nr=0)||!bf)&&(decide (nw≤1)&&wb)))
   case first=>
    go_wp2_with fail
    clear x0 x1 x2 x3 x4 x5 x6 x7 x8 x9 x10;refine(HO.out _ HB1.out).mono ?_;rintro e w2 ⟨rfl,hb⟩;have HB2:=hid (HB1.out.trans (hb.mono HB1.out.size));have HC2:=hid ((hb.block _ hz1).trans HC1.out);clear hb;dsimp only;obtain⟨x0,x1,x2,x3,x4,x5,x6,x7,x8,x9,x10,_⟩:=Qjw HC2.out;cases ob
    case false=>
     go_wp2_with fail
     go_meet
     exact⟨HB2.out,HC2.out,true,rfl,rfl⟩
    case true=>
     go_wp2_with fail
     clear x0 x1 x2 x3 x4 x5 x6 x7 x8 x9 x10;refine(HP.out _ HB2.out).mono ?_;rintro e w3 ⟨rfl,hb⟩;have HB3:=hid (HB2.out.trans (hb.mono HB2.out.size));have HC3:=hid ((hb.block _ (Zq.1 HC2.out).1).trans HC2.out);clear hb;dsimp only;obtain⟨x0,x1,x2,x3,x4,x5,x6,x7,x8,x9,x10,_⟩:=Qjw HC3.out;cases pb
     case false=>
      go_wp2_with fail
      go_meet
      exact⟨HB3.out,HC3.out,true,rfl,rfl⟩
     case true=>
      go_wp2_with fail
      clear x0 x1 x2 x3 x4 x5 x6 x7 x8 x9 x10;refine(HF.out _ HB3.out).mono ?_;rintro e w4 ⟨rfl,hb⟩;have HB4:=hid (HB3.out.trans (hb.mono HB3.out.size));have HC4:=hid ((hb.block _ (Zq.1 HC3.out).1).trans HC3.out);clear hb;dsimp only;obtain⟨x0,x1,x2,x3,x4,x5,x6,x7,x8,x9,x10,_⟩:=Qjw HC4.out;cases fb
      case false=>
       go_wp2_with fail
       go_meet
       exact⟨HB4.out,HC4.out,true,rfl,rfl⟩
      case true=>
       by_cases p1:(1:Int)<(nr:Int)
       ·go_wp2_with fail
        go_meet
        exact⟨HB4.out,HC4.out,true,rfl,by(first|(simp;done)|(simp;omega)|(simp;intros;omega)|(simp;exact .inl (by omega))|(simp;exact .inl (.inl (by omega)))|(simp;exact .inl (.inr (by omega)))|(simp;exact .inr (.inl (by omega)))|(simp;exact .inr (by omega)))⟩
       ·have d1:decide (nr≤1)=true:=by simp;omega
        have KEY:∀(hbr:(decide (nr=0)||!bf)=true),True:=fun _=>trivial;cases bf
        case true=>
         by_cases q1:(0:Int)<(nr:Int)
         ·have q1n:0<nr:=by omega
          go_wp2_with fail
          go_meet
          exact⟨HB4.out,HC4.out,true,rfl,by(first|(simp;done)|(simp;omega)|(simp;intros;omega)|(simp;exact .inl (by omega))|(simp;exact .inl (.inl (by omega)))|(simp;exact .inl (.inr (by omega)))|(simp;exact .inr (.inl (by omega)))|(simp;exact .inr (by omega)))⟩
         ·have d0:decide (nr=0)=true:=by simp;omega
          have q1n:¬0<nr:=by omega
          by_cases w1:(1:Int)<(nw:Int)
          ·go_wp2_with fail
           go_meet
           exact⟨HB4.out,HC4.out,true,rfl,by(first|(simp;done)|(simp;omega)|(simp;intros;omega)|(simp;exact .inl (by omega))|(simp;exact .inl (.inl (by omega)))|(simp;exact .inl (.inr (by omega)))|(simp;exact .inr (.inl (by omega)))|(simp;exact .inr (by omega)))⟩
          ·have dw:decide (nw≤1)=true:=by simp;omega
           go_wp2_with fail
           refine(HW.out _ HB4.out).mono ?_;rintro e w5 ⟨rfl,hb⟩;have HB5:=hid (HB4.out.trans (hb.mono HB4.out.size));have HC5:=hid ((hb.block _ (Zq.1 HC4.out).1).trans HC4.out);clear hb x0 x1 x2 x3 x4 x5 x6 x7 x8 x9 x10;dsimp only;cases wb
           ·go_wp2_with fail
            go_meet
            exact⟨HB5.out,HC5.out,true,rfl,by(first|(simp;done)|(simp;omega)|(simp;intros;omega)|(simp;exact .inl (by omega))|(simp;exact .inl (.inl (by omega)))|(simp;exact .inl (.inr (by omega)))|(simp;exact .inr (.inl (by omega)))|(simp;exact .inr (by omega)))⟩
           ·go_wp2_with fail
            go_meet
            exact⟨HB5.out,HC5.out,false,rfl,by rw[d1,d0,dw];rfl⟩
        case false=>
         by_cases w1:(1:Int)<(nw:Int)
         ·go_wp2_with fail
          go_meet
          exact⟨HB4.out,HC4.out,true,rfl,by(first|(simp;done)|(simp;omega)|(simp;intros;omega)|(simp;exact .inl (by omega))|(simp;exact .inl (.inl (by omega)))|(simp;exact .inl (.inr (by omega)))|(simp;exact .inr (.inl (by omega)))|(simp;exact .inr (by omega)))⟩
         ·have dw:decide (nw≤1)=true:=by simp;omega
          go_wp2_with fail
          refine(HW.out _ HB4.out).mono ?_;rintro e w5 ⟨rfl,hb⟩;have HB5:=hid (HB4.out.trans (hb.mono HB4.out.size));have HC5:=hid ((hb.block _ (Zq.1 HC4.out).1).trans HC4.out);clear hb x0 x1 x2 x3 x4 x5 x6 x7 x8 x9 x10;dsimp only;cases wb
          ·go_wp2_with fail
           go_meet
           exact⟨HB5.out,HC5.out,true,rfl,by(first|(simp;done)|(simp;omega)|(simp;intros;omega)|(simp;exact .inl (by omega))|(simp;exact .inl (.inl (by omega)))|(simp;exact .inl (.inr (by omega)))|(simp;exact .inr (.inl (by omega)))|(simp;exact .inr (by omega)))⟩
          ·go_wp2_with fail
           go_meet
           exact⟨HB5.out,HC5.out,false,rfl,by rw[d1,dw];simp⟩
   case rest=>
    obtain⟨hbel,hblk,c,rfl,hc⟩:=hcut;rename World=>w5;have HB5:=hid hbel;have HC5:=hid hblk;clear hbel hblk x0 x1 x2 x3 x4 x5 x6 x7 x8 x9 x10;have HV2:Hid (V=((ob&&pb&&fb&&decide (nr≤1)&&(decide (nr=0)||!bf))&&rank.all Jx5&&(decide (nw≤1)&&wb)&&decide (1≤na)&&decide (na≤4)&&acts.all (fun a=>Qzh a&&AL a.kind))):=hid HV1.out;clear HV1;generalize(ob&&pb&&fb&&decide (nr≤1)&&(decide (nr=0)||!bf))=A at hc HV2;generalize(decide (nw≤1)&&wb)=B at hc HV2;cases c
    case true=>
     go_wp2_with fail
     go_ret;refine⟨?_,HB5.out⟩;rw[HV2.out];cases A<;>cases B<;>simp at hc⊢
    case false=>
     have HV:Hid (V=(rank.all Jx5&&decide (1≤na)&&decide (na≤4)&&acts.all (fun a=>Qzh a&&AL a.kind))):=hid (by
      rw[HV2.out]
      cases A<;>cases B<;>simp at hc⊢)
     clear HV2 hc HO HP HF HW;obtain⟨x0,x1,x2,x3,x4,x5,x6,x7,x8,x9,x10,_⟩:=Qjw HC5.out;go_wp2_with fail
     go_loopw[86] (fun i wr=>∃j:Nat,j≤nr∧i=.int .i64 (j:Int)∧Below w.heap.size w wr∧wr.heap[w.heap.size]?=some (.cells #[nm,tb,bf,ev,Qv oa no oc,each,Qv pa np pc,Qv fa nf fc,Qv ra nr rc,Qv wa nw qcc,Qv aa na ac] 35 (0,0))∧∀i y,i<j→rank[i]?=some y→Jx5 y=true) (fun i _=>nr-(intOf i).toNat)
     case atStart=>exact⟨0,Zi _,rfl,HB5.out,HC5.out,fun i y hi=>by omega⟩
     case round=>
      rename World=>wr;obtain⟨j,hj,rfl,hbel,hblk,hn⟩:=hrel;have HN:=hid hn;have HB:=hid hbel;have HC:=hid hblk;have hz0:=hbel.size;have hzr:=(Zq.1 hblk).1;clear hn hbel hblk;by_cases hlt:j<nr
      ·obtain⟨r,b,o,hxj,hs1,hs2,rfl,hbz,hcs,hcap,hcm⟩:=HR.out j hlt;unfold maxLen at hcm;obtain⟨c0,c1,c2,c3⟩:=Qqr.c4 (hcs.keep (M:=NoM) (.bel HB.out) id);have HM1:=hid fun wx=>Qjr r.table wx hs1;have HM2:=hid fun wx=>Qjr r.col wx hs2;have HXJ:=hid hxj;have HRV:Hid (Jx5 r=(Qqo r.table&&Qqo r.col&&!decide (r.low=-9223372036854775808)&&!decide (r.high=-9223372036854775808))):=hid rfl;clear hcs hxj hs1 hs2;obtain⟨rt,rcn,lo,hi⟩:=r;dsimp only at*;have i0:(0:Int)≤(j:Int):=by omega
       have i1:(j:Int)<(nr:Int):=by omega
       go_wp2_with fail
       generalize hW:World.alloc wr _=wb';have hb0:wb'.heap[wr.heap.size]?=some (.cells #[rt,rcn,lo,.int .i64 hi] 110 (0,0)):=by rw[←hW];exact Zw wr _
       have HBB:=hid (show Below w.heap.size w wb' from by rw[←hW];exact HB.out.alloc HB.out.size _);have HCB:=hid (show wb'.heap[w.heap.size]?=some (.cells #[nm,tb,bf,ev,Qv oa no oc,each,Qv pa np pc,Qv fa nf fc,Qv (some ⟨b,o,none⟩) nr rc,Qv wa nw qcc,Qv aa na ac] 35 (0,0)) from by rw[←hW];exact(Jy wr _ hzr).trans HC.out);have hzb:=(Zq.1 hb0).1;obtain⟨d0,d1,d2,d3,_⟩:=Qzo hb0;clear hW c0 c1 c2 c3 hb0;refine(HM1.out _).mono ?_;rintro e w2 ⟨rfl,rfl⟩;dsimp only;generalize Qqo rt=m1 at HRV;generalize Qqo rcn=m2 at HM2 HRV;cases m1
       case false=>
        go_wp2_with fail
        go_ret;exact⟨by rw[HV.out,Jza HXJ.out (by rw[HRV.out];rfl)];rfl,HBB.out⟩
       case true=>
        go_wp2_with fail
        refine(HM2.out _).mono ?_;rintro e w2 ⟨rfl,rfl⟩;dsimp only;cases m2
        case false=>
         go_wp2_with fail
         go_ret;exact⟨by rw[HV.out,Jza HXJ.out (by rw[HRV.out];rfl)];rfl,HBB.out⟩
        case true=>
         cases l1:(lo==-9223372036854775808)
         case true=>
          go_wp2_with fail
          go_ret;exact⟨by rw[HV.out,Jza HXJ.out (by rw[HRV.out];have:lo=-9223372036854775808:=(by simpa using l1);simp[this])];rfl,HBB.out⟩
         case false=>
          cases l2:(hi==-9223372036854775808)
          case true=>
           go_wp2_with fail
           go_ret;exact⟨by rw[HV.out,Jza HXJ.out (by rw[HRV.out];have:hi=-9223372036854775808:=(by simpa using l2);simp[this])];rfl,HBB.out⟩
          case false=>
           have l1':¬lo=-9223372036854775808:=by simpa using l1
           have l2':¬hi=-9223372036854775808:=by simpa using l2
           have HL:=hid (Ze l1' l2');clear l1' l2';go_wp2_with fail
           go_roundw
           case rel=>
            refine⟨j+1,by omega,by go_num,HBB.out,HCB.out,fun i y hi hy=>?_⟩;by_cases e:i=j
            ·subst e;rw[HXJ.out] at hy;cases hy;rw[HRV.out];simp[HL.out.1,HL.out.2]
            ·exact HN.out i y (by omega) hy
           case measure=>simp[intOf];omega
      ·obtain rfl:j=nr:=by omega
       have HVA:Hid (V=(decide (1≤na)&&decide (na≤4)&&acts.all (fun a=>Qzh a&&AL a.kind))):=hid (by
        rw[HV.out,Yju (fun i y hi hy=>HN.out i y (by rw[HNR.out] at hi;exact hi) hy)]
        rfl)
       clear HV HN HR;have HV:=HVA;clear HVA;obtain⟨x0,x1,x2,x3,x4,x5,x6,x7,x8,x9,x10,_⟩:=Qjw HC.out;go_wp2_with fail
       go_loopw[114] (fun i w3=>∃m:Nat,m≤na∧i=.int .i64 (m:Int)∧Below w.heap.size w w3∧w3.heap[w.heap.size]?=some (.cells #[nm,tb,bf,ev,Qv oa no oc,each,Qv pa np pc,Qv fa nf fc,Qv ra j rc,Qv wa nw qcc,Qv aa na ac] 35 (0,0))∧∀i y,i<m→acts[i]?=some y→(Qzh y&&AL y.kind)=true) (fun i _=>na-(intOf i).toNat)
       case atStart=>exact⟨0,Zi _,rfl,HB.out,HC.out,fun i y hi=>by omega⟩
       case round=>
        rename World=>w3;clear x0 x1 x2 x3 x4 x5 x6 x7 x8 x9 x10;obtain⟨m,hm,rfl,hbel,hblk,hn⟩:=hrel;have HN:=hid hn;have HB3:=hid hbel;have HC3:=hid hblk;have hz3:=hbel.size;have hzr3:=(Zq.1 hblk).1;clear hn hbel hblk;obtain⟨x0,x1,x2,x3,x4,x5,x6,x7,x8,x9,x10,_⟩:=Qjw HC3.out;by_cases hlt:m<na
        ·obtain⟨a,b,o,a1,k1,a2,k2,a3,k3,a4,k4,hxj,rfl,hbz,hcs,hact,hcap,hcm⟩:=HA.out m hlt;unfold maxLen at hcm;obtain⟨c0,c1,c2,c3,c4,c5,c6⟩:=Qqr.c7 (hcs.keep (M:=NoM) (.bel HB3.out) id);have HXJ:=hid hxj;have HACT:=hid hact;clear hcs hxj hact;have i0:(0:Int)≤(m:Int):=by omega
         have i1:(m:Int)<(na:Int):=by omega
         generalize hav:Qzh a=av at HACT;have HAV:=hid hav;clear hav;generalize a.rows.length=z1 at HACT c2;generalize a.query.length=z2 at HACT c3;generalize a.sets.length=z3 at HACT c4;generalize a.whr.length=z4 at HACT c5
         obtain⟨ak,hak⟩:∃k,a.kind=k:=⟨_,rfl⟩
         rw[hak] at HACT c0;have HAK:=hid hak;clear hak;go_wp2_with fail
         generalize hW:World.alloc w3 _=wb';have hb0:wb'.heap[w3.heap.size]?=some (.cells #[ak,a.table,Qv a1 z1 k1,Qv a2 z2 k2,Qv a3 z3 k3,Qv a4 z4 k4,a.text] 42 (0,0)):=by rw[←hW];exact Zw w3 _
         have HBB:=hid (show Below w.heap.size w wb' from by rw[←hW];exact HB3.out.alloc HB3.out.size _);have HCB:=hid (show wb'.heap[w.heap.size]?=some (.cells #[nm,tb,bf,ev,Qv oa no oc,each,Qv pa np pc,Qv fa nf fc,Qv ra j rc,Qv wa nw qcc,Qv (some ⟨b,o,none⟩) na ac] 35 (0,0)) from by rw[←hW];exact(Jy w3 _ hzr3).trans HC3.out);have hzb:=(Zq.1 hb0).1;have hzc:=(Zq.1 HCB.out).1;have HD:=hid hb0;clear hW c0 c1 c2 c3 c4 c5 c6 hb0 x0 x1 x2 x3 x4 x5 x6 x7 x8 x9 x10;refine(HACT.out _ HBB.out).mono ?_;rintro e w4 ⟨rfl,hb⟩;have HB4:=hid (HBB.out.trans (hb.mono HBB.out.size));have HC4:=hid ((hb.block _ hzc).trans HCB.out);obtain⟨d0,d1,d2,d3,d4,d5,d6,_⟩:=Qze ((hb.block _ hzb).trans HD.out);obtain⟨x0,x1,x2,x3,x4,x5,x6,x7,x8,x9,x10,_⟩:=Qjw HC4.out;clear hb HD;dsimp only
         have KEYF:∀(c:Bool),(av&&AL ak)=false→V=false:=fun _ hf=>by
          rw[HV.out,Jza HXJ.out (by rw[HAV.out,HAK.out];exact hf)];simp
         have KF:=hid KEYF
         have KEYT:(av&&AL ak)=true→∀(i:Nat) (y:Qzq),i<m+1→acts[i]?=some y→(Qzh y&&AL y.kind)=true:=fun ht i y hi hy=>by
          by_cases e:i=m
          ·subst e;rw[HXJ.out] at hy;cases hy;rw[HAV.out,HAK.out];exact ht
          ·exact HN.out i y (by omega) hy
         have KT:=hid KEYT;clear KEYF KEYT;cases av
         ·go_wp2_with fail
          go_ret;exact⟨by rw[KF.out true (by rfl)];rfl,HB4.out⟩
         ·cases k4:(ak==4)
          ·have f4:(ak !=4)=true:=by simp[bne,k4]
           have k4v:¬ak=4:=by simpa using k4
           cases k5:(ak==5)
           ·have k5v:¬ak=5:=by simpa using k5
            cases bf
            ·go_wp2_with fail
             go_roundw
             case rel=>exact⟨m+1,by omega,by go_num,HB4.out,HC4.out,KT.out (by rw[HAL.out];simp[k4v,k5v])⟩
             case measure=>simp[intOf];omega
            ·go_wp2_with fail
             go_ret;exact⟨by rw[KF.out true (by rw[HAL.out];simp[k4v,k5v])];rfl,HB4.out⟩
           ·have k5v:ak=5:=by simpa using k5
            cases bf
            ·go_wp2_with fail
             go_ret;exact⟨by rw[KF.out true (by rw[HAL.out];simp[k5v])];rfl,HB4.out⟩
            ·cases each
             ·go_wp2_with fail
              go_ret;exact⟨by rw[KF.out true (by rw[HAL.out];simp[k5v])];rfl,HB4.out⟩
             ·cases e3:(ev==3)
              ·have e3v:¬ev=3:=by simpa using e3
               go_wp2_with fail
               go_roundw
               case rel=>exact⟨m+1,by omega,by go_num,HB4.out,HC4.out,KT.out (by rw[HAL.out];simp[k5v,e3v])⟩
               case measure=>simp[intOf];omega
              ·have e3v:ev=3:=by simpa using e3
               go_wp2_with fail
               go_ret;exact⟨by rw[KF.out true (by rw[HAL.out];simp[k5v,e3v])];rfl,HB4.out⟩
          ·have f4:(ak !=4)=false:=by simp[bne,k4]
           have k4v:ak=4:=by simpa using k4
           have k5:(ak==5)=false:=by rw[k4v];rfl
           cases bf
           ·go_wp2_with fail
            go_roundw
            case rel=>exact⟨m+1,by omega,by go_num,HB4.out,HC4.out,KT.out (by rw[HAL.out];simp[k4v])⟩
            case measure=>simp[intOf];omega
           ·go_wp2_with fail
            go_roundw
            case rel=>exact⟨m+1,by omega,by go_num,HB4.out,HC4.out,KT.out (by rw[HAL.out];simp[k4v])⟩
            case measure=>simp[intOf];omega
        ·obtain rfl:m=na:=by omega
         have HVE:Hid (V=(decide (1≤m)&&decide (m≤4))):=hid (by
          rw[HV.out,Yju (fun i y hi hy=>HN.out i y (by rw[HNA.out] at hi;exact hi) hy),Kb])
         by_cases g1:(1:Int)≤(m:Int)
         ·by_cases g4:(m:Int)≤4
          ·go_wp2_with fail
           go_ret;exact⟨by rw[HVE.out];simp;omega,HB3.out⟩
          ·go_wp2_with fail
           go_ret;exact⟨by rw[HVE.out];simp;omega,HB3.out⟩
         ·go_wp2_with fail
          go_ret;exact⟨by rw[HVE.out];simp;omega,HB3.out⟩
end Go.Proofs.YtgepbohjmgaojaaGreatDoor
