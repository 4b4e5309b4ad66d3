/- A column of a type from the tape: the contract of column. What the expressions from the tape look like in memory; the contract of Num for every small number. -/
import Derived.Test.YtgepbohjmgaojaaGreatDoorU05
set_option linter.all false
set_option maxHeartbeats 4000000
set_option maxRecDepth 100000
namespace Go.Proofs.YtgepbohjmgaojaaGreatDoor
open Value renaming slice→Qv
open Go.Proofs.Tryz
open Lib(hid)
open Go.RowKit
def Kjr(q n:ByteArray):List Value:=[.int .i64 2,.int .i64 0,.bool false,.int .i64 0,.int .i64 0,.string ⟨#[]⟩,.string q,.string n,Qv none 0 0,Qv none 0 0]
def Qy1(p:ByteArray×ByteArray)(cs:List Value):Prop:=cs=Kjr p.1 p.2
theorem Jj9(p:ByteArray×ByteArray)(cs:List Value)(h:Qy1 p cs):∀u∈cs,u.oneCell'=true:=by
 unfold Qy1 at h;subst h;simp[Kjr,Value.oneCell']
theorem Qxk:(prog.info? 80).map (fun i=>(i.zero,i.size,i.bytes))=some (some (.agg #["0","0",false,"0","0","","","",(),()]),10,136):=by kernel_rfl
def Kj4(P:ByteArray×ByteArray→Prop)(v:Value)(_:World):Prop:=
 v=.tuple #[.agg #["0","0",false,"0","0","","","",(),()],false]∨
 ∃q n,v=.tuple #[.agg #["2","0",false,"0","0","",.string q,.string n,(),()],true]∧P (q,n)
theorem Qw4{w W:World}{a b:Value}{t1 t2:TypeId}{cs:Array Value}(h:(w.alloc (.cells #[a,b] t1)).alloc (.cells cs t2)=W):
 W.cell? ⟨w.heap.size,0,none⟩=some a∧W.cell? ⟨w.heap.size,1,none⟩=some b∧Below w.heap.size w W∧W.heap.size=w.heap.size+1+1∧W.heap[w.heap.size+1]?=some (.cells cs t2 (0,0)):=by
 subst h;exact⟨by simp,by simp,by go_grown,by simp,Jkn⟩
theorem Qq5{w:World}{S:Nat}{a0 a1 a2 a3 a4 a5 a6 a7 a8 a9:Value}{e:TypeId}(h:w.heap[S]?=some (.cells #[a0,a1,a2,a3,a4,a5,a6,a7,a8,a9] e (0,0))):
 w.cell? ⟨S,0,none⟩=some a0∧w.cell? ⟨S,1,none⟩=some a1∧w.cell? ⟨S,2,none⟩=some a2∧w.cell? ⟨S,3,none⟩=some a3∧w.cell? ⟨S,4,none⟩=some a4∧w.cell? ⟨S,5,none⟩=some a5∧w.cell? ⟨S,6,none⟩=some a6∧w.cell? ⟨S,7,none⟩=some a7∧w.cell? ⟨S,8,none⟩=some a8∧w.cell? ⟨S,9,none⟩=some a9∧
 (∀i,w.frozen? ⟨S,i,none⟩=false)∧S<w.heap.size:=by
 refine⟨by simp[World.cell?,h],by simp[World.cell?,h],by simp[World.cell?,h],by simp[World.cell?,h],by simp[World.cell?,h],by simp[World.cell?,h],by simp[World.cell?,h],by simp[World.cell?,h],by simp[World.cell?,h],by simp[World.cell?,h],fun i=>by simp[World.frozen?,h],(Zq.1 h).1⟩
theorem Qqh(S:Nat)(w:World)(a0 a1 a2 a3 a4 a5 a6 a7 a8 a9:Value):Qqb (At S) w ((((((((((w.setCell ⟨S,0,none⟩ a0).setCell ⟨S,1,none⟩ a1).setCell ⟨S,2,none⟩ a2).setCell ⟨S,3,none⟩ a3).setCell ⟨S,4,none⟩ a4).setCell ⟨S,5,none⟩ a5).setCell ⟨S,6,none⟩ a6).setCell ⟨S,7,none⟩ a7).setCell ⟨S,8,none⟩ a8).setCell ⟨S,9,none⟩ a9):=
 ((((((((((Qqb.refl (At S) w).setCell (p:=⟨S,0,none⟩) (fun _=>rfl) a0).setCell (p:=⟨S,1,none⟩) (fun _=>rfl) a1).setCell (p:=⟨S,2,none⟩) (fun _=>rfl) a2).setCell (p:=⟨S,3,none⟩) (fun _=>rfl) a3).setCell (p:=⟨S,4,none⟩) (fun _=>rfl) a4).setCell (p:=⟨S,5,none⟩) (fun _=>rfl) a5).setCell (p:=⟨S,6,none⟩) (fun _=>rfl) a6).setCell (p:=⟨S,7,none⟩) (fun _=>rfl) a7).setCell (p:=⟨S,8,none⟩) (fun _=>rfl) a8).setCell (p:=⟨S,9,none⟩) (fun _=>rfl) a9
theorem Qy2{T:Nat}{w w5 W':World}{Q:Value→World→Prop}{v:Value}(hT:T<w.heap.size)(k5:Qqb (At T) w w5)(ht:Qql T w5)(ks:Qqb (At (w.heap.size+1)) w5 W')(hq:Q v W'):Qjp T w Q (.returned v) W':=
 ⟨v,rfl,hq,ht.keep ks fun k hk h=>by unfold At at h;omega,k5.then ks fun k hk h=>by unfold At at h;omega⟩
theorem Jql(P:ByteArray×ByteArray→Prop)(T:Nat)(vf vt:Value)(ta:Option Addr)(tn tc:Nat)(fs:List Frm)(want:Int)(w:World)(hvt:vt=Qv ta tn tc)(ht:Qql T w)(hf:Qqz (At T) w vf fs)(hN:fs.length≤1000)(hC:∀f∈fs,f.cols.length≤10)
 (hP:∀j f c,fs[j]?=some f→c∈f.cols→c.type=want→P (f.name,c.name)∧(f.strict=false→j+1=fs.length→P (⟨#[]⟩,c.name))):
 Calls prog 122 #[.pointer (some ⟨T,0,none⟩),.agg #[vf,vt],want] w (Qjp T w (Kj4 P)):=by
 subst hvt;obtain⟨fa,fc,rfl,hfm⟩:=hf.shape;have hTw:=ht.lt;have HT:=hid ht;have HF:=hid hf;have HC:=hid hC;have HP:=hid hP;clear ht hf hC hP;go_enter func122,ntmps122;go_wp2_with fail
 generalize hW:((w.alloc _).alloc _)=W0;obtain⟨s0,s1,hb0,hz0,hr0⟩:=Qw4 hW;clear hW;have hT0:T<W0.heap.size:=by omega
 have HB0:=hid hb0;have HR0:=hid hr0;have HZ0:=hid hz0;have hz1:w.heap.size<W0.heap.size:=by omega
 have hz2:w.heap.size+1<W0.heap.size:=by omega
 clear hb0 hr0 hz0
 go_loopw[8,16] (fun l i wr=>∃(j:Nat) (xs:List (ByteArray×ByteArray)),j≤fs.length∧i=.int .i64 j∧Qqf W0.heap.size wr 80 10 Qy1 l xs∧(∀x∈xs,P x)∧xs.length≤j*20∧Below W0.heap.size W0 wr) (fun _ i _=>fs.length-(intOf i).toNat)
 case atStart=>exact⟨0,[],Zi _,rfl,Qqf.nil ..,by simp,by simp,Below.refl _ _⟩
 case round=>
  rename World=>wo;obtain⟨j,xs,hj,rfl,hO,hall,hlen,hb⟩:=hrel;obtain⟨la,lp,rfl,hlm⟩:=hO.shape;have s0':=(hb.cell (p:=⟨w.heap.size,0,none⟩) hz1).trans s0;have hzr:=hb.size;have HO:=hid hO;have HALL:=hid hall;have HB:=hid hb;clear hO hall hb;by_cases hlt:j<fs.length
  ·rcases HF.out.open with⟨h,h'⟩|⟨b',o',cap',hv',hbT,hbs,hl,hm',hx⟩
   ·subst h';simp at hlt
   ·simp only[Yz] at hv';obtain⟨rfl,_,rfl⟩:=hv';have hxj:fs[j]?=some fs[j]:=Zg hlt;obtain⟨cs,⟨vc,va,vn,vp,rfl,hcols⟩,_,hcs⟩:=hx j _ hxj;have hcl:=HC.out fs[j] (Yo hlt);generalize fs[j]=f at hxj hcs hcols hcl;obtain⟨ca,cc,rfl,hcm⟩:=hcols.shape;have hcs':=hcs.keep (M:=NoM) ((Qqb.bel HB0.out).below HB.out) id;obtain⟨c0,c1,c2,c3⟩:=hcs'.c4;have HX:=hid hxj;have HCOL:=hid hcols;clear hx hcs hcs' hxj hcols;obtain⟨fn,fst,fcols⟩:=f;simp only at hcl hcm c0 c1 c2;go_wp2_with fail
    generalize hW:wo.alloc _=W1;have g1:W1.heap[wo.heap.size]?=some (.cells #[fn,fst,Qv ca fcols.length cc,Qv va vn vp] 196 (0,0)):=by rw[←hW];exact Zw wo _
    have hB1:Below wo.heap.size wo W1:=by rw[←hW];exact(Below.refl _ _).alloc (Zz _) _
    have hz1':W1.heap.size=wo.heap.size+1:=by rw[←hW];simp
    clear hW;have G1:=hid g1;have HB1:=hid hB1;have HB01:=hid (HB.out.trans (hB1.mono hzr));clear g1 hB1
    go_loopw[8,24] (fun l i wx=>∃(k:Nat) (ys:List (ByteArray×ByteArray)),k≤fcols.length∧i=.int .i64 k∧Qqf W0.heap.size wx 80 10 Qy1 l ys∧(∀x∈ys,P x)∧ys.length≤j*20+2*k∧Below W0.heap.size W0 wx∧
     wx.heap[wo.heap.size]?=some (.cells #[fn,fst,Qv ca fcols.length cc,Qv va vn vp] 196 (0,0))∧(∀m,Qq4 l m→m≠wo.heap.size)) (fun _ i _=>fcols.length-(intOf i).toNat)
    case atStart=>
     refine⟨0,xs,Zi _,rfl,Qqf.kept HO.out (M:=fun _=>False) (.bel HB1.out) (fun _ _=>id) fun _ _ _ h=>h,HALL.out,by omega,HB01.out,G1.out,fun m h=>?_⟩;have:=(Qqf.lt HO.out h).2;omega
    case round=>
     obtain⟨k,ys,hk,rfl,hO,hall,hlen2,hb,hg,hne⟩:=hrel;obtain⟨la2,lp2,rfl,hlm2⟩:=hO.shape;obtain⟨f0,f1,f2,f3,_,_,fz⟩:=Qzo hg;have hzx:=hb.size;have s0x:=(hb.cell (p:=⟨w.heap.size,0,none⟩) hz1).trans s0;have HO2:=hid hO;have HALL2:=hid hall;have HB2:=hid hb;have HG2:=hid hg;have HNE2:=hid hne;have HLE2:=hid hlen2;clear hO hall hb hg hne;by_cases hltk:k<fcols.length
     ·rcases HCOL.out.open with⟨h,h'⟩|⟨b2,o2,cap2,hv2,hbT2,hbs2,hl2,hm2,hx2⟩
      ·rw[h'] at hltk;simp at hltk
      ·simp only[Yz] at hv2;obtain⟨rfl,_,rfl⟩:=hv2;have hxk:fcols[k]?=some fcols[k]:=Zg hltk;obtain⟨cs2,rfl,_,hcs2⟩:=hx2 k _ hxk;have hmem:fcols[k]∈fcols:=Yo hltk;generalize fcols[k]=c at hxk hcs2 hmem;have hcs2':=hcs2.keep (M:=NoM) ((Qqb.bel HB0.out).below HB2.out) id;obtain⟨d0,d1,d2,d3⟩:=hcs2'.c4;have HMEM:=hid hmem;clear hx2 hcs2 hcs2' hxk hmem;by_cases hty:c.type=want
       ·have hne:(c.type !=want)=false:=by simp[hty]
        have HPJ:=hid (HP.out j _ c HX.out HMEM.out hty);clear hty;go_wp2_with fail
        generalize hW2:wr.alloc _=W2;have q1:W2.heap[wr.heap.size]?=some (.cells #[c.name,c.type,c.notNull,c.key] 106 (0,0)):=by rw[←hW2];exact Zw wr _
        have q2:Below wr.heap.size wr W2:=by rw[←hW2];exact(Below.refl _ _).alloc (Zz _) _
        have q3:W2.heap.size=wr.heap.size+1:=by rw[←hW2];simp
        clear hW2;refine(Qkl _ _ _).mono ?_;rintro e w3 ⟨rfl,hb3⟩;have q4:=hb3.size;have q5:w3.heap[wr.heap.size]?=some (.cells #[c.name,c.type,c.notNull,c.key] 106 (0,0)):=(hb3.block _ (by omega)).trans q1;have q6:Below wr.heap.size wr w3:=q2.trans (hb3.mono (by omega));have q7:=(q6.block _ fz).trans HG2.out;have Q5:=hid q5;have Q6:=hid q6;have Q7:=hid q7;have HO3:=hid (Qqf.kept HO2.out (M:=fun _=>False) (.bel q6) (fun _ _=>id) fun _ _ _ h=>h);have q8:wr.heap.size<w3.heap.size:=by omega
        clear q1 q2 q3 q4 q5 q6 q7 hb3 d0 d1 d2 d3 f0 f1 f2 f3 s0x s0';have tok1:Hid True:=trivial
        cases hst:fst with
        |true=>
         subst hst
         go_wp2_with((at_builtin;go_loud (refine Qje rfl _ _ 32 rfl 80 _ 10 136 underlying32 Qxk rfl (by decide) (R:=Qy1) (M:=NoM) W0.heap.size (Qv la2 ys.length lp2) (Qv (some ⟨w3.heap.size,0,none⟩) 1 1) ys [(fn,c.name)] rfl rfl (Qqf.kept HO3.out ((Qqb.refl (fun _=>False) w3).alloc _) (fun _ _=>id) fun _ _ _ h=>h) (Qq6 (size:=10) (R:=Qy1) (fn,c.name) rfl id rfl rfl) (fun y _ cs h=>Jj9 y cs h) (by have:=HLE2.out;simp;omega) (by have:=HLE2.out;simp[maxLen];omega) (by simp;omega) ?_;intro v4 w4 ho hk hat;have HO4:=hid ho;have HK4:=hid (((Qqb.refl _ w3).alloc _).trans hk);have HAT4:=hid (hat (by simp));clear ho hk hat));have hO:∀m,Qq4 (Qv la2 ys.length lp2) m→W0.heap.size≤m∧m<wr.heap.size∧m≠wo.heap.size:=(fun m h=>⟨(Qqf.lt HO2.out h).1,(Qqf.lt HO2.out h).2,HNE2.out m h⟩);have p7:=(HK4.out.block wo.heap.size (by omega) (fun h=>(hO _ h).2.2 rfl)).trans Q7.out;have p5:=(HK4.out.block wr.heap.size q8 (fun h=>by have:=(hO _ h).2.1;omega)).trans Q5.out;obtain⟨f0,f1,f2,f3,ff2,ff3,fz4⟩:=Qzo p7;obtain⟨d0,d1,d2,d3,df2,df3,dz⟩:=Qzo p5;have b4:Below W0.heap.size W0 w4:=(HB2.out.trans (Q6.out.mono hzx)).trans (HK4.out.toBelow (B:=W0.heap.size) (by omega) fun m hm h=>by have:=(hO m h).1;omega);have s0x:=(b4.cell (p:=⟨w.heap.size,0,none⟩) hz1).trans s0;obtain⟨la4,lp4,hv4,_⟩:=HO4.out.shape;rw[show(ys++[(fn,c.name)]).length=ys.length+1 by simp] at hv4;subst hv4;have HB4:=hid b4;have HG4:=hid p7;have H5:=hid p5;have HNE4:=hid (fun m (h:Qq4 (Qv la4 (ys.length+1) lp4) m)=>show m≠wo.heap.size from(HAT4.out m h).elim (fun h=>(hO m h).2.2) (fun h=>by have:=q8;simp at h;omega));clear hO p7 p5 b4 tok1)
         go_roundw
         case rel=>
          refine⟨k+1,ys++[(fn,c.name)],by omega,by go_num,by simpa using HO4.out,fun x hx=>?_,by have:=HLE2.out;simp;omega,HB4.out,HG4.out,HNE4.out⟩;rcases Yf.1 hx with hx|hx
          ·exact HALL2.out x hx
          ·obtain rfl:=Zd.1 hx;exact HPJ.out.1
         case measure=>simp[intOf];omega
        |false=>
         subst hst;by_cases hlast:j+1=fs.length
         ·have hl2:((j:Int)==(fs.length:Int)-1)=true:=by simp;omega
          have HP2:=hid (HPJ.out.2 rfl hlast);clear hlast
          go_wp2_with(first|(have _t:=tok1;(at_builtin;go_loud (refine Qje rfl _ _ 32 rfl 80 _ 10 136 underlying32 Qxk rfl (by decide) (R:=Qy1) (M:=NoM) W0.heap.size (Qv la2 ys.length lp2) (Qv (some ⟨w3.heap.size,0,none⟩) 1 1) ys [(fn,c.name)] rfl rfl (Qqf.kept HO3.out ((Qqb.refl (fun _=>False) w3).alloc _) (fun _ _=>id) fun _ _ _ h=>h) (Qq6 (size:=10) (R:=Qy1) (fn,c.name) rfl id rfl rfl) (fun y _ cs h=>Jj9 y cs h) (by have:=HLE2.out;simp;omega) (by have:=HLE2.out;simp[maxLen];omega) (by simp;omega) ?_;intro v4 w4 ho hk hat;have HO4:=hid ho;have HK4:=hid (((Qqb.refl _ w3).alloc _).trans hk);have HAT4:=hid (hat (by simp));clear ho hk hat));have hO:∀m,Qq4 (Qv la2 ys.length lp2) m→W0.heap.size≤m∧m<wr.heap.size∧m≠wo.heap.size:=(fun m h=>⟨(Qqf.lt HO2.out h).1,(Qqf.lt HO2.out h).2,HNE2.out m h⟩);have p7:=(HK4.out.block wo.heap.size (by omega) (fun h=>(hO _ h).2.2 rfl)).trans Q7.out;have p5:=(HK4.out.block wr.heap.size q8 (fun h=>by have:=(hO _ h).2.1;omega)).trans Q5.out;obtain⟨f0,f1,f2,f3,ff2,ff3,fz4⟩:=Qzo p7;obtain⟨d0,d1,d2,d3,df2,df3,dz⟩:=Qzo p5;have b4:Below W0.heap.size W0 w4:=(HB2.out.trans (Q6.out.mono hzx)).trans (HK4.out.toBelow (B:=W0.heap.size) (by omega) fun m hm h=>by have:=(hO m h).1;omega);have s0x:=(b4.cell (p:=⟨w.heap.size,0,none⟩) hz1).trans s0;obtain⟨la4,lp4,hv4,_⟩:=HO4.out.shape;rw[show(ys++[(fn,c.name)]).length=ys.length+1 by simp] at hv4;subst hv4;have HB4:=hid b4;have HG4:=hid p7;have H5:=hid p5;have HNE4:=hid (fun m (h:Qq4 (Qv la4 (ys.length+1) lp4) m)=>show m≠wo.heap.size from(HAT4.out m h).elim (fun h=>(hO m h).2.2) (fun h=>by have:=q8;simp at h;omega));clear hO p7 p5 b4 tok1))
          refine(Qkl _ _ _).mono ?_;rintro e w5 ⟨rfl,hb5⟩;have q4:=hb5.size;have z40:=HB4.out.size;have z4:wo.heap.size<w4.heap.size:=(Zq.1 HG4.out).1;have HG5:=hid ((hb5.block _ z4).trans HG4.out);have HB5:=hid (HB4.out.trans (hb5.mono z40));have HO5:=hid (Qqf.kept HO4.out (M:=fun _=>False) (.bel hb5) (fun _ _=>id) fun _ _ _ h=>h);clear hb5 f0 f1 f2 f3 ff2 ff3 fz4 d0 d1 d2 d3 df2 df3 dz s0x
          go_wp2_with((at_builtin;go_loud (refine Qje rfl _ _ 32 rfl 80 _ 10 136 underlying32 Qxk rfl (by decide) (R:=Qy1) (M:=NoM) W0.heap.size (Qv la4 (ys.length+1) lp4) (Qv (some ⟨w5.heap.size,0,none⟩) 1 1) (ys++[(fn,c.name)]) [((⟨#[]⟩:ByteArray),c.name)] rfl rfl (Qqf.kept HO5.out ((Qqb.refl (fun _=>False) w5).alloc _) (fun _ _=>id) fun _ _ _ h=>h) (Qq6 (size:=10) (R:=Qy1) ((⟨#[]⟩:ByteArray),c.name) rfl id rfl rfl) (fun y _ cs h=>Jj9 y cs h) (by have:=HLE2.out;simp;omega) (by have:=HLE2.out;simp[maxLen];omega) (by simp;omega) ?_;intro v6 w6 ho hk hat;have HO6:=hid ho;have HK6:=hid (((Qqb.refl _ w5).alloc _).trans hk);have HAT6:=hid (hat (by simp));clear ho hk hat));have hO:∀m,Qq4 (Qv la4 (ys.length+1) lp4) m→W0.heap.size≤m∧m<w4.heap.size∧m≠wo.heap.size:=(fun m h=>⟨(Qqf.lt HO4.out h).1,(Qqf.lt HO4.out h).2,HNE4.out m h⟩);have p7:=(HK6.out.block wo.heap.size (by omega) (fun h=>(hO _ h).2.2 rfl)).trans HG5.out;have b6:Below W0.heap.size W0 w6:=HB5.out.trans (HK6.out.toBelow (B:=W0.heap.size) (by omega) fun m hm h=>by have:=(hO m h).1;omega);obtain⟨la6,lp6,hv6,_⟩:=HO6.out.shape;rw[show(ys++[(fn,c.name)]++[((⟨#[]⟩:ByteArray),c.name)]).length=ys.length+1+1 by simp] at hv6;subst hv6;have HB6:=hid b6;have HG6:=hid p7;have HNE6:=hid (fun m (h:Qq4 (Qv la6 (ys.length+1+1) lp6) m)=>show m≠wo.heap.size from(HAT6.out m h).elim (fun h=>(hO m h).2.2) (fun h=>by simp at h;omega));clear hO p7 b6)
          go_roundw
          case rel=>
           refine⟨k+1,ys++[(fn,c.name)]++[((⟨#[]⟩:ByteArray),c.name)],by omega,by go_num,by simpa using HO6.out,fun x hx=>?_,by have:=HLE2.out;simp;omega,HB6.out,HG6.out,HNE6.out⟩;rcases Yf.1 hx with hx|hx
           ·rcases Yf.1 hx with hx|hx
            ·exact HALL2.out x hx
            ·obtain rfl:=Zd.1 hx;exact HPJ.out.1
           ·obtain rfl:=Zd.1 hx;exact HP2.out
          case measure=>simp[intOf];omega
         ·have hl2:((j:Int)==(fs.length:Int)-1)=false:=by simp;omega
          clear hlast
          go_wp2_with((at_builtin;go_loud (refine Qje rfl _ _ 32 rfl 80 _ 10 136 underlying32 Qxk rfl (by decide) (R:=Qy1) (M:=NoM) W0.heap.size (Qv la2 ys.length lp2) (Qv (some ⟨w3.heap.size,0,none⟩) 1 1) ys [(fn,c.name)] rfl rfl (Qqf.kept HO3.out ((Qqb.refl (fun _=>False) w3).alloc _) (fun _ _=>id) fun _ _ _ h=>h) (Qq6 (size:=10) (R:=Qy1) (fn,c.name) rfl id rfl rfl) (fun y _ cs h=>Jj9 y cs h) (by have:=HLE2.out;simp;omega) (by have:=HLE2.out;simp[maxLen];omega) (by simp;omega) ?_;intro v4 w4 ho hk hat;have HO4:=hid ho;have HK4:=hid (((Qqb.refl _ w3).alloc _).trans hk);have HAT4:=hid (hat (by simp));clear ho hk hat));have hO:∀m,Qq4 (Qv la2 ys.length lp2) m→W0.heap.size≤m∧m<wr.heap.size∧m≠wo.heap.size:=(fun m h=>⟨(Qqf.lt HO2.out h).1,(Qqf.lt HO2.out h).2,HNE2.out m h⟩);have p7:=(HK4.out.block wo.heap.size (by omega) (fun h=>(hO _ h).2.2 rfl)).trans Q7.out;have p5:=(HK4.out.block wr.heap.size q8 (fun h=>by have:=(hO _ h).2.1;omega)).trans Q5.out;obtain⟨f0,f1,f2,f3,ff2,ff3,fz4⟩:=Qzo p7;obtain⟨d0,d1,d2,d3,df2,df3,dz⟩:=Qzo p5;have b4:Below W0.heap.size W0 w4:=(HB2.out.trans (Q6.out.mono hzx)).trans (HK4.out.toBelow (B:=W0.heap.size) (by omega) fun m hm h=>by have:=(hO m h).1;omega);have s0x:=(b4.cell (p:=⟨w.heap.size,0,none⟩) hz1).trans s0;obtain⟨la4,lp4,hv4,_⟩:=HO4.out.shape;rw[show(ys++[(fn,c.name)]).length=ys.length+1 by simp] at hv4;subst hv4;have HB4:=hid b4;have HG4:=hid p7;have H5:=hid p5;have HNE4:=hid (fun m (h:Qq4 (Qv la4 (ys.length+1) lp4) m)=>show m≠wo.heap.size from(HAT4.out m h).elim (fun h=>(hO m h).2.2) (fun h=>by have:=q8;simp at h;omega));clear hO p7 p5 b4 tok1)
          go_roundw
          case rel=>
           refine⟨k+1,ys++[(fn,c.name)],by omega,by go_num,by simpa using HO4.out,fun x hx=>?_,by have:=HLE2.out;simp;omega,HB4.out,HG4.out,HNE4.out⟩;rcases Yf.1 hx with hx|hx
           ·exact HALL2.out x hx
           ·obtain rfl:=Zd.1 hx;exact HPJ.out.1
          case measure=>simp[intOf];omega
       ·have hne:(c.type !=want)=true:=by simpa using hty
        clear hty;go_wp2_with fail
        go_roundw
        case rel=>exact⟨k+1,ys,by omega,by go_num,Qqf.kept HO2.out ((Qqb.refl (fun _=>False) wr).alloc _) (fun _ _=>id) fun _ _ _ h=>h,HALL2.out,by omega,HB2.out.alloc hzx _,(Jy _ _ fz).trans HG2.out,HNE2.out⟩
        case measure=>simp[intOf];omega
     ·go_wp2_with fail
      go_roundw
      case rel=>exact⟨j+1,ys,by omega,by go_num,HO2.out,HALL2.out,by omega,HB2.out⟩
      case measure=>simp[intOf];omega
  ·have hr:=(HB.out.block _ hz2).trans HR0.out;obtain⟨r0,r1,r2,r3,r4,r5,r6,r7,r8,r9,rf,rz⟩:=Qq5 hr;have HRR:=hid hr;have HTR:=hid (Qql.bel (HT.out.bel HB0.out) HB.out);have HKR:Hid (Qqb (At T) w wo):=hid ((Qqb.bel HB0.out).below HB.out);clear hr;by_cases h0:xs.length=0
   ·have h0':((xs.length:Int)==0)=true:=by simp[h0]
    clear h0;go_wp2_with fail
    refine Zh (v:=.tuple #[.agg #["0","0",false,"0","0","","","",(),()],false]) (by simp[results,results122,go_sem,r0,r1,r2,r3,r4,r5,r6,r7,r8,r9]) rfl ?_;exact Qy2 hTw HKR.out HTR.out (Qqh _ _ _ _ _ _ _ _ _ _ _ _) (.inl rfl)
   ·have h0':((xs.length:Int)==0)=false:=by simpa using h0
    clear r0 r1 r2 r3 r4 r5 r6 r7 r8 r9 rf
    rcases(HO.out.rows (M:=fun k=>k<W0.heap.size) fun k h1 _ h2=>by omega).open with⟨_,h⟩|⟨b3,o3,cap3,hv3,hbT3,hbs3,hl3,hm3,hx3⟩
    ·rw[h] at h0;simp at h0
    ·simp only[Yz] at hv3;obtain⟨rfl,_,rfl⟩:=hv3;have HX3:=hid hx3;have hb3T:¬At T b3:=by unfold At;omega
     clear hx3
     go_wp2_with(go_at_call 12;refine(Qqk T xs.length _ (by omega) (by omega) HTR.out).mono ?_;rintro e w5 ⟨v,rfl,⟨r,rfl,hr0,hr1⟩,ht,hk⟩;obtain⟨i,rfl⟩:=Zt hr0;have hi:i<xs.length:=(by omega);have hxi:xs[i]?=some xs[i]:=Zg hi;have hmem:xs[i]∈xs:=Yo hi;obtain⟨cs,hcs0,_,hcs⟩:=HX3.out i _ hxi;unfold Qy1 at hcs0;subst hcs0;generalize xs[i]=x at hcs hmem;have hcs':=hcs.keep hk hb3T;obtain⟨e0,e1,e2,e3,e4,e5,e6,e7,e8,e9⟩:=Qqr.c10 hcs';have hr:=(hk.block _ rz (fun h=>by unfold At at h;omega)).trans HRR.out;obtain⟨r0,r1,r2,r3,r4,r5,r6,r7,r8,r9,rf,rz5⟩:=Qq5 hr;have HT5:=hid ht;have HK5:=hid (HKR.out.trans hk);have HM:=hid (HALL.out x hmem);clear hcs hcs' hxi hmem ht hk hr)
     refine Zh (v:=.tuple #[.agg #["2","0",false,"0","0","",.string x.1,.string x.2,(),()],true]) (by simp[results,results122,go_sem,r0,r1,r2,r3,r4,r5,r6,r7,r8,r9]) rfl ?_;exact Qy2 hTw HK5.out HT5.out (Qqh _ _ _ _ _ _ _ _ _ _ _ _) (.inr ⟨_,_,rfl,HM.out⟩)
def ExV(M:Nat→Prop)(w:World)(e:Ex)(v:Value):Prop:=
 ∃a ac s sc,v=.agg #[e.kind,e.op,e.no,e.val.kind,e.val.int,e.val.text,e.table,e.name,Qv a e.args.length ac,Qv s e.sub.length sc]∧
  Qqq M w (Qv a e.args.length ac) e.args∧Qz1 M w (Qv s e.sub.length sc) e.sub
theorem ExV.ec{M:Nat→Prop}{w:World}{e:Ex}{v:Value}(h:ExV M w e v):∃cs,v=.agg cs.toArray∧EC M w e cs:=by
 obtain⟨a,ac,s,sc,rfl,h1,h2⟩:=h;exact⟨_,rfl,(Qji ..).2 ⟨_,_,rfl,h1,h2⟩⟩
theorem ExV.keep{M:Nat→Prop}{w w':World}{e:Ex}{v:Value}(h:ExV M w e v)(k:Qqb M w w'):ExV M w' e v:=by
 obtain⟨a,ac,s,sc,rfl,h1,h2⟩:=h;exact⟨a,ac,s,sc,rfl,h1.keep k,h2.keep k⟩
theorem ExV.weak{M M':Nat→Prop}{w:World}{e:Ex}{v:Value}(hM:∀k,k<w.heap.size→M' k→M k)(h:ExV M w e v):ExV M' w e v:=by
 obtain⟨a,ac,s,sc,rfl,h1,h2⟩:=h;exact⟨a,ac,s,sc,rfl,h1.weak hM,h2.weak hM⟩
theorem Qxy{M:Nat→Prop}{w:World}(k o:Int)(no:Bool)(x:Val)(t n:ByteArray):ExV M w (.mk k o no x t n [] []) (.agg #[k,o,no,x.kind,x.int,x.text,t,n,(),()]):=
 ⟨none,0,none,0,rfl,Qqa.nil ..,Qqa.nil ..⟩
def ExQ(P:Ex→Prop)(w:World)(v:Value)(w':World):Prop:=∃e,ExV (Old w.heap.size) w' e v∧P e
def Qqe(i:Nat):ByteArray:=⟨#[97+UInt8.ofNat i,97+UInt8.ofNat i]⟩
inductive GX:Nat→Ex→Prop
 |col (n:Nat) (t nm:ByteArray) (h:Qjj t nm=true):GX n (Qqp t nm)
 |lit (n:Nat) (v:Val) (hv:Qxz v) (h0:v.kind=1→0≤v.int):GX n (Qkk v)
 |num (n:Nat) (m:Int) (h1:-1000≤m) (h2:m≤1000):GX n (Qqi m)
 |txt (n i:Nat) (hi:i<8):GX n (Qkk ⟨3,0,Qqe i⟩)
 |ops (n:Nat) (k o:Int) (no:Bool) (args:List Ex) (hk:Qzg k o no args.length) (ha:∀x∈args,GX n x):GX (n+1) (opX k o no args [])
 |sub (n:Nat) (k:Int) (f:ByteArray) (items whr:List Ex) (hf:Qju f=true) (hi:((k=8∨k=9)∧items=[])∨((k=10∨k=11∨k=12)∧items.length=1)) (hw:whr.length≤1) (h1:∀x∈items,GX n x) (h2:∀x∈whr,GX n x):
  GX (n+1) (opX k 0 false [] [.mk (k==8) items f whr])
theorem GX.up{n m:Nat}{e:Ex}(h:GX n e)(hm:n≤m):GX m e:=by
 induction h generalizing m with
 |col n t nm h=>exact .col m t nm h
 |lit n v hv h0=>exact .lit m v hv h0
 |num n u h1 h2=>exact .num m u h1 h2
 |txt n i hi=>exact .txt m i hi
 |ops n k o no args hk _ ih=>
  obtain⟨m,rfl⟩:∃j,m=j+1:=⟨m-1,by omega⟩
  exact .ops m k o no args hk fun x hx=>ih x hx (by omega)
 |sub n k f items whr hf hi hw _ _ ih1 ih2=>
  obtain⟨m,rfl⟩:∃j,m=j+1:=⟨m-1,by omega⟩
  exact .sub m k f items whr hf hi hw (fun x hx=>ih1 x hx (by omega)) fun x hx=>ih2 x hx (by omega)
def Uzn(fs:List Frm)(ss:List Sch):Prop:=(∀f∈fs,∀c∈f.cols,Qjj f.name c.name=true)∧∀s∈ss,Qju s.name=true∧∀c∈s.cols,Qjj s.name c.name=true
theorem Qwt{t n:ByteArray}(h:Qjj t n=true):Qjj ⟨#[]⟩ n=true:=by
 unfold Qjj at h⊢;simp only[Yx] at h⊢;exact⟨by simp[Yp],h.2⟩
def Mk(ss:List Sch)(fs:List Frm)(want:Int)(n:Nat)(e:Ex):Prop:=(dep e≤n∧GX n e)∧∀ts,(∀s∈ss,Jvy ts s.name=some s)→Qxv ts fs want e
theorem Mk.mono{ss:List Sch}{fs:List Frm}{want:Int}{n m:Nat}{e:Ex}(h:Mk ss fs want n e)(hn:n≤m):Mk ss fs want m e:=⟨⟨Ya h.1.1 hn,h.1.2.up hn⟩,h.2⟩
def Qzm(look:List UInt8→List Col)(fs:List Frm)(ss:List Sch)(n:Nat):Prop:=
 Jzv look fs ss∧fs.length+n≤100∧(∀f∈fs,f.cols.length≤10)∧(∀s∈ss,s.cols.length≤10)∧ss≠[]∧ss.length≤10∧Uzn fs ss
theorem Qzm.mono{look:List UInt8→List Col}{fs:List Frm}{ss:List Sch}{n m:Nat}(h:Qzm look fs ss n)(hn:m≤n):Qzm look fs ss m:=⟨h.1,by have:=h.2.1;omega,h.2.2⟩
theorem Qzm.inside{look:List UInt8→List Col}{fs:List Frm}{ss:List Sch}{n:Nat}{s:Sch}(h:Qzm look fs ss (n+1))(hs:s∈ss):Qzm look (fs++[Qj6 s]) ss n:=by
 obtain⟨h1,h2,h3,h4,h5,h6,h7⟩:=h;refine⟨h1.inside hs,by simp;omega,fun f hf=>?_,h4,h5,h6,fun f hf=>?_,h7.2⟩
 ·rcases Yf.1 hf with hf|hf
  ·exact h3 f hf
  ·simp at hf;subst hf;exact h4 s hs
 ·rcases Yf.1 hf with hf|hf
  ·exact h7.1 f hf
  ·simp at hf;subst hf;exact(h7.2 s hs).2
def Loc(T:Nat)(vf vt:Value)(w wi:World):Prop:=
 Qql T wi∧Qqb (At T) w wi∧wi.heap[w.heap.size]?=some (.cells #[vf,vt] 122 (0,0))∧
  wi.heap[w.heap.size+1]?=some (.cells #["0","0",false,"0","0","","","",(),()] 80 (0,0))
section
variable{T:Nat} {vf vt:Value} {w wi wj:World}
theorem Loc.step(h:Loc T vf vt w wi)(hT:T<w.heap.size)(ht:Qql T wj)(hk:Qqb (At T) wi wj):Loc T vf vt w wj:=
 ⟨ht,h.2.1.trans hk,(hk.block _ (Zq.1 h.2.2.1).1 fun h=>by unfold At at h;omega).trans h.2.2.1,(hk.block _ (Zq.1 h.2.2.2).1 fun h=>by unfold At at h;omega).trans h.2.2.2⟩
theorem Loc.bel(h:Loc T vf vt w wi)(hT:T<w.heap.size)(hb:Below wi.heap.size wi wj):Loc T vf vt w wj:=h.step hT (h.1.bel hb) (.bel hb)
theorem Loc.alloc(h:Loc T vf vt w wi)(hT:T<w.heap.size)(o:Obj):Loc T vf vt w (wi.alloc o):=h.bel hT ((Below.refl _ _).alloc (Zz _) o)
theorem Loc.drew(h:Loc T vf vt w wi):Loc T vf vt w wi.drew:=⟨h.1,h.2.1.drew,h.2.2.1,h.2.2.2⟩
theorem Loc.set(h:Loc T vf vt w wi)(hT:T<w.heap.size){g i:Nat}(hg:w.heap.size+1<g)(u:Value):Loc T vf vt w (wi.setCell ⟨g,i,none⟩ u):=
 ⟨h.1.keep ((Qqb.refl (At g) wi).setCell (p:=⟨g,i,none⟩) (fun _=>rfl) u) fun k hk hh=>by unfold At at hh;omega,h.2.1.setCell (p:=⟨g,i,none⟩) (fun hh=>by simp at hh;omega) u,
  (Below.heap_setCell _ _ _ _ (by simp;omega)).trans h.2.2.1,(Below.heap_setCell _ _ _ _ (by simp;omega)).trans h.2.2.2⟩
theorem Loc.tape(h:Loc T vf vt w wi):Qql T wi:=h.1
theorem Loc.kept(h:Loc T vf vt w wi):Qqb (At T) w wi:=h.2.1
theorem Loc.place(h:Loc T vf vt w wi):wi.cell? ⟨w.heap.size,0,none⟩=some vf∧wi.cell? ⟨w.heap.size,1,none⟩=some vt∧w.heap.size<wi.heap.size:=by
 obtain⟨a,b,_,_,c⟩:=Qjk h.2.2.1;exact⟨a,b,c⟩
theorem Loc.res(h:Loc T vf vt w wi):wi.cell? ⟨w.heap.size+1,0,none⟩=some (.int .i64 0)∧wi.cell? ⟨w.heap.size+1,1,none⟩=some (.int .i64 0)∧wi.cell? ⟨w.heap.size+1,2,none⟩=some (.bool false)∧wi.cell? ⟨w.heap.size+1,3,none⟩=some (.int .i64 0)∧wi.cell? ⟨w.heap.size+1,4,none⟩=some (.int .i64 0)∧
 wi.cell? ⟨w.heap.size+1,5,none⟩=some (.string ⟨#[]⟩)∧wi.cell? ⟨w.heap.size+1,6,none⟩=some (.string ⟨#[]⟩)∧wi.cell? ⟨w.heap.size+1,7,none⟩=some (.string ⟨#[]⟩)∧wi.cell? ⟨w.heap.size+1,8,none⟩=some (Qv none 0 0)∧wi.cell? ⟨w.heap.size+1,9,none⟩=some (Qv none 0 0)∧
 (∀i,wi.frozen? ⟨w.heap.size+1,i,none⟩=false)∧w.heap.size+1<wi.heap.size:=Qq5 h.2.2.2
end
theorem Qzv{T lo:Nat}{vf vt v:Value}{w wk W':World}{e:Ex}{P:Ex→Prop}(hT:T<w.heap.size)(L:Loc T vf vt w wk)(hx:ExV (Old lo) wk e v)(hlo:w.heap.size+1<lo)(ks:Qqb (At (w.heap.size+1)) wk W')(hP:P e):Qjp T w (ExQ P w) (.returned v) W':=by
 refine Qy2 hT L.2.1 L.1 ks ⟨e,(hx.keep (ks.weak fun k _ h=>?_)).weak fun k _ h=>?_,hP⟩
 ·unfold At at h;unfold Old;omega
 ·unfold Old at h⊢;omega
theorem Yjp{T:Nat}{vf vt v:Value}{w wk W1:World}{o:Obj}{e:Ex}{P:Ex→Prop}(hT:T<w.heap.size)(L:Loc T vf vt w wk)(ks:Qqb (At (w.heap.size+1)) wk W1)(hx:ExV (Old (w.heap.size+1+1)) (W1.alloc o) e v)(hP:P e):Qjp T w (ExQ P w) (.returned v) (W1.alloc o):=
 ⟨v,rfl,⟨e,hx.weak fun k _ h=>by unfold Old at h⊢;omega,hP⟩,(L.1.keep ks fun k hk h=>by unfold At at h;omega).alloc _,(L.2.1.then ks fun k hk h=>by unfold At at h;omega).alloc _⟩
theorem Jvv{lo:Nat}{va:Value}{w wk W1:World}{o:Obj}{a:Ex}(hx:ExV (Old lo) wk a va)(hlo:w.heap.size+1+1≤lo)(ks:Qqb (At (w.heap.size+1)) wk W1):ExV (Old (w.heap.size+1+1)) (W1.alloc o) a va:=
 ((hx.keep (ks.weak fun k _ h=>by unfold At at h;unfold Old;omega)).keep ((Qqb.refl _ W1).alloc _)).weak fun k _ h=>by unfold Old at h⊢;omega
def Yjq(n:Int)(w:World)(e:Ending)(w':World):Prop:=∃v,e=.returned v∧ExV (Old w.heap.size) w' (Qqi n) v∧Below w.heap.size w w'
theorem Qz7{s:Nat}{w:World}(h:s≤w.heap.size):¬Old s w.heap.size:=by unfold Old;omega
theorem Uvg{n:Int}{w w1 W1:World}{e:TypeId}(h:n<0)(hz:w.heap.size<w1.heap.size)(hb:Below w.heap.size w w1)(ks:Qqb (At w.heap.size) w1 W1)(hs:W1.heap.size=w1.heap.size):
 Yjq n w (.returned (.agg #["4","0",false,"0","0","","","",Qv (some ⟨w1.heap.size,0,none⟩) 1 1,()]))
  (W1.alloc (.cells #["1","0",false,"1",.int .i64 (-n),"","","",(),()] e)):=by
 have hb1:Below w.heap.size w W1:=hb.trans (ks.toBelow hb.size fun k hk h=>by unfold At at h;omega);refine⟨_,rfl,?_,hb1.alloc hb1.size _⟩;rw[Qqi,if_pos h,←hs];exact⟨_,1,none,0,rfl,Qq6 (R:=EC _ _) (Qkk ⟨1, -n,es⟩) rfl (Qz7 (by omega)) rfl (Kqo ..),Qqa.nil ..⟩
theorem Uvh(n:Int)(h:n<0)(h2:-1000≤n)(w:World):Calls prog 100 #[n] w (Yjq n w):=by
 go_enter func100,ntmps100;go_wp2_with fail
 generalize hW:w.alloc _=W0;have g0:W0.heap[w.heap.size]?=some (.cells #["0","0",false,"0","0","","","",(),()] 80 (0,0)):=by rw[←hW];exact Zw w _
 have g1:Below w.heap.size w W0:=by rw[←hW];exact(Below.refl _ _).alloc (Zz _) _
 have g2:W0.heap.size=w.heap.size+1:=by rw[←hW];simp
 clear hW;refine(Yw4 (-n) (by omega) _).mono ?_;rintro e w1 ⟨rfl,hb⟩;have hs:=hb.size;have h0:=(hb.block w.heap.size (by omega)).trans g0;obtain⟨r0,r1,r2,r3,r4,r5,r6,r7,r8,r9,rf,rz⟩:=Qq5 h0;have HB:=hid (g1.trans (hb.mono (by omega)));clear g0 g1 g2 hb h0;dsimp only
 repeat(first|go_values|go_skip|go_guarded|go_step|go_upon)
 refine Zh (v:=.agg #["4","0",false,"0","0","","","",Qv (some ⟨w1.heap.size,0,none⟩) 1 1,()]) (by simp[results,results100,go_sem,r0,r1,r2,r3,r4,r5,r6,r7,r8,r9,rz]) rfl ?_;exact Uvg h rz HB.out (Qqh _ _ _ _ _ _ _ _ _ _ _ _) (by simp)
theorem Qkh(n:Int)(h:-1000≤n)(w:World):Calls prog 100 #[n] w (Yjq n w):=by
 by_cases h0:n<0
 ·exact Uvh n h0 h w
 ·refine(Yw4 n (by omega) w).mono ?_;rintro e w1 ⟨rfl,hb⟩;refine⟨_,rfl,?_,hb⟩;rw[Qqi,if_neg h0];exact Qxy ..
def Qwn(n:Nat):Prop:=∀(T:Nat) (depth want:Int) (fa ta:Option Addr) (fc tc:Nat) (look:List UInt8→List Col) (fs:List Frm) (ss:List Sch) (w:World),depth≤n→-10≤depth→1≤want→want≤3→Qql T w→Qjh T w→
 Qqz (At T) w (Qv fa fs.length fc) fs→Qjt (At T) w (Qv ta ss.length tc) ss→Qzm look fs ss n→
 Calls prog 93 #[.pointer (some ⟨T,0,none⟩),.agg #[Qv fa fs.length fc,Qv ta ss.length tc],want,depth] w (Qjp T w (ExQ (Mk ss fs want n) w))
theorem Uvi{M:Nat→Prop}{w:World}{a:Option Addr}{n c:Nat}{ss:List Sch}(h:Qjt M w (Qv a n c) ss)(hne:ss≠[]):∃b o,a=some ⟨b,o,none⟩∧n=ss.length∧¬M b∧b<w.heap.size∧
 ∀(i:Nat) (s:Sch),ss[i]?=some s→∃vc,w.cell? ⟨b,o+i*2,none⟩=some (.string s.name)∧w.cell? ⟨b,o+i*2+1,none⟩=some vc∧Qq1 M w vc s.cols:=by
 rcases h.open with⟨_,h⟩|⟨b,o,cap,hv,hbT,hbs,hl,hm,hx⟩
 ·exact absurd h hne
 ·simp only[Yz] at hv;obtain⟨rfl,rfl,rfl⟩:=hv;refine⟨b,o,rfl,rfl,hbT,hbs,fun i s hi=>?_⟩;obtain⟨cs,⟨vc,rfl,hc⟩,_,hcs⟩:=hx i s hi;exact⟨vc,hcs.c2.1,hcs.c2.2,hc⟩
theorem Jv8{M:Nat→Prop}{w:World}{a:Option Addr}{n c:Nat}{ss:List Sch}(h:Qjt M w (Qv a n c) ss)(hne:ss≠[]):∃(b o:Nat) (F:Nat→Option Addr) (L G:Nat→Nat) (N:Nat→ByteArray),a=some ⟨b,o,none⟩∧n=ss.length∧¬M b∧b<w.heap.size∧
 (∀i:Nat,i<ss.length→w.cell? ⟨b,o+i*2,none⟩=some (.string (N i)))∧(∀i:Nat,i<ss.length→w.cell? ⟨b,o+i*2+1,none⟩=some (Qv (F i) (L i) (G i)))∧
 ∀(i:Nat) (s:Sch),ss[i]?=some s→N i=s.name∧L i=s.cols.length∧Qq1 M w (Qv (F i) (L i) (G i)) s.cols:=by
 obtain⟨b,o,h1,h2,h3,h4,h5⟩:=Uvi h hne
 have hF:∀i:Nat,∃p:Option Addr×Nat,∀s:Sch,ss[i]?=some s→w.cell? ⟨b,o+i*2,none⟩=some (.string s.name)∧w.cell? ⟨b,o+i*2+1,none⟩=some (Qv p.1 s.cols.length p.2)∧Qq1 M w (Qv p.1 s.cols.length p.2) s.cols:=by
  intro i
  cases hs:ss[i]? with
  |none=>exact⟨(none,0),fun s h=>by cases h⟩
  |some s=>
   obtain⟨vc,e0,e1,hc⟩:=h5 i s hs;obtain⟨ca,cc,rfl,_⟩:=hc.shape;exact⟨(ca,cc),fun s' h'=>by cases h';exact⟨e0,e1,hc⟩⟩
 obtain⟨f,hf⟩:=Classical.axiomOfChoice hF;have hN:∀(i:Nat) (s:Sch),ss[i]?=some s→((ss[i]?.map Sch.name).getD ⟨#[]⟩)=s.name∧((ss[i]?.map fun s:Sch=>s.cols.length).getD 0)=s.cols.length:=fun i s hs=>by rw[hs];exact⟨rfl,rfl⟩
 refine⟨b,o,fun i=>(f i).1,fun i=>(ss[i]?.map fun s:Sch=>s.cols.length).getD 0,fun i=>(f i).2,fun i=>(ss[i]?.map Sch.name).getD ⟨#[]⟩,h1,h2,h3,h4,fun i hi=>?_,fun i hi=>?_,fun i s hs=>⟨(hN i s hs).1,(hN i s hs).2,?_⟩⟩
 ·have hs:=Zg hi;simp only[(hN i _ hs).1];exact(hf i _ hs).1
 ·have hs:=Zg hi;simp only[(hN i _ hs).2];exact(hf i _ hs).2.1
 ·simp only[(hN i _ hs).2];exact(hf i s hs).2.2
theorem Jkg{w:World}{S:Nat}{a b x y:Value}{e:TypeId}(h:w.heap[S]?=some (.cells #[a,b] e (0,0))):((w.setCell ⟨S,0,none⟩ x).setCell ⟨S,1,none⟩ y).heap[S]?=some (.cells #[x,y] e (0,0)):=by
 simp[World.setCell,Yh,h]
def Uy8(T:Nat)(vf vt:Value)(ss:List Sch)(w:World)(c:Value)(wx:World):Prop:=
 ∃g s ca cc,c=.pointer (some ⟨g,0,none⟩)∧s∈ss∧w.heap.size+1<g∧wx.heap[g]?=some (.cells #[s.name,Qv ca s.cols.length cc] 29 (0,0))∧Qq1 (At T) wx (Qv ca s.cols.length cc) s.cols∧Loc T vf vt w wx
def Ywz(k:Int):Int:=if k=8 then 2 else 1
def TOr(T p k:Nat):Prop:=k=T∨p≤k
def QB(T:Nat)(vf vt:Value)(w W:World)(p h:Nat)(pv:Value)(fs:List Frm)(st:Bool)(frm:ByteArray)(items whr:List Ex):Prop:=
 Loc T vf vt w W∧w.heap.size+1<p∧p<h∧W.heap[p]?=some (.cells #[pv,vt] 122 (0,0))∧Qqz (TOr T p) W pv fs∧
  ∃ia ic wa wc,W.heap[h]?=some (.cells #[st,Qv ia items.length ic,frm,Qv wa whr.length wc] 37 (0,0))∧Qqq (Old (h+1)) W (Qv ia items.length ic) items∧Qqq (Old (h+1)) W (Qv wa whr.length wc) whr
section
variable{T p h:Nat} {vf vt pv:Value} {w W W':World} {fs:List Frm} {st:Bool} {frm:ByteArray} {items whr:List Ex}
theorem QB.step(q:QB T vf vt w W p h pv fs st frm items whr)(hT:T<w.heap.size)(ht:Qql T W')(hk:Qqb (At T) W W'):QB T vf vt w W' p h pv fs st frm items whr:=by
 obtain⟨hL,h1,h2,h3,h4,ia,ic,wa,wc,h5,h6,h7⟩:=q;have hn:∀k,w.heap.size≤k→¬At T k:=fun k hk h=>by unfold At at h;omega
 refine⟨hL.step hT ht hk,h1,h2,(hk.block _ (Zq.1 h3).1 (hn _ (by omega))).trans h3,h4.keep (hk.weak fun k _ h=>.inl h),ia,ic,wa,wc,(hk.block _ (Zq.1 h5).1 (hn _ (by omega))).trans h5,h6.keep (hk.weak fun k _ h=>?_),h7.keep (hk.weak fun k _ h=>?_)⟩
 all_goals
  unfold At at h;unfold Old;omega
theorem Uzo(i:Nat)(u:Value)(arr:Array Value)(t:TypeId)(q:QB T vf vt w W p h pv fs st frm items whr)(hT:T<w.heap.size):
 Loc T vf vt w ((W.setCell ⟨h,i,none⟩ u).alloc (.cells arr t))∧((W.setCell ⟨h,i,none⟩ u).alloc (.cells arr t)).heap[p]?=some (.cells #[pv,vt] 122 (0,0))∧Qqz (TOr T p) ((W.setCell ⟨h,i,none⟩ u).alloc (.cells arr t)) pv fs∧
  (∀v l,Qqq (Old (h+1)) W v l→Qqq (Old (h+1)) ((W.setCell ⟨h,i,none⟩ u).alloc (.cells arr t)) v l)∧((W.setCell ⟨h,i,none⟩ u).alloc (.cells arr t)).heap[h]?=(W.setCell ⟨h,i,none⟩ u).heap[h]?∧
  (∀lo e v,h<lo→ExV (Old lo) W e v→ExV (Old (h+1)) ((W.setCell ⟨h,i,none⟩ u).alloc (.cells arr t)) e v):=by
 obtain⟨hL,h1,h2,h3,h4,ia,ic,wa,wc,h5,h6,h7⟩:=q;have hz:=(Zq.1 h5).1;have ks:Qqb (At h) W ((W.setCell ⟨h,i,none⟩ u).alloc (.cells arr t)):=((Qqb.refl (At h) W).setCell (p:=⟨h,i,none⟩) (fun _=>rfl) u).alloc _;refine⟨(hL.set hT (by omega) u).alloc hT _,(ks.block _ (Zq.1 h3).1 fun h=>by unfold At at h;omega).trans h3,h4.keep (ks.weak fun k _ h=>.inr (by unfold At at h;omega)),fun v l hl=>Qqq.keep hl (ks.weak fun k _ h=>by unfold At at h;unfold Old;omega),Jy _ _ (by simpa using hz),fun lo e v hlo hx=>?_⟩;exact(hx.keep (ks.weak fun k _ h=>by unfold At at h;unfold Old;omega)).weak fun k _ h=>by unfold Old at h⊢;omega
theorem QB.addItem{e:Ex}{lo:Nat}{a s:Option Addr}{ac sc:Nat}(q:QB T vf vt w W p h pv fs st frm [] whr)(hT:T<w.heap.size)(hx:ExV (Old lo) W e (.agg #[e.kind,e.op,e.no,e.val.kind,e.val.int,e.val.text,e.table,e.name,Qv a e.args.length ac,Qv s e.sub.length sc]))(hlo:h<lo):
 QB T vf vt w ((W.setCell ⟨h,1,none⟩ (Qv (some ⟨W.heap.size,0,none⟩) 1 1)).alloc (.cells #[e.kind,e.op,e.no,e.val.kind,e.val.int,e.val.text,e.table,e.name,Qv a e.args.length ac,Qv s e.sub.length sc] 80)) p h pv fs st frm [e] whr:=by
 obtain⟨g1,g2,g3,g4,g5,g6⟩:=Uzo 1 (Qv (some ⟨W.heap.size,0,none⟩) 1 1) #[e.kind,e.op,e.no,e.val.kind,e.val.int,e.val.text,e.table,e.name,Qv a e.args.length ac,Qv s e.sub.length sc] 80 q hT;obtain⟨hL,h1,h2,h3,h4,ia,ic,wa,wc,h5,h6,h7⟩:=q;have hz:=(Zq.1 h5).1;obtain⟨cs,hcs,hec⟩:=(g6 lo e _ hlo hx).ec;simp only[Value.agg.injEq] at hcs;obtain rfl:cs=[.int .i64 e.kind,.int .i64 e.op,.bool e.no,.int .i64 e.val.kind,.int .i64 e.val.int,.string e.val.text,.string e.table,.string e.name,Qv a e.args.length ac,Qv s e.sub.length sc]:=by simpa using(congrArg Array.toList hcs).symm
 refine⟨g1,h1,h2,g2,g3,some ⟨W.heap.size,0,none⟩,1,wa,wc,g5.trans (Jzi h5),?_,g4 _ _ h7⟩;exact Qq6 (R:=EC _ _) e (by simp) (Qz7 (by simp;omega)) (by simp) hec
theorem QB.addWhr{e:Ex}{lo:Nat}{a s:Option Addr}{ac sc:Nat}(q:QB T vf vt w W p h pv fs st frm items [])(hT:T<w.heap.size)(hx:ExV (Old lo) W e (.agg #[e.kind,e.op,e.no,e.val.kind,e.val.int,e.val.text,e.table,e.name,Qv a e.args.length ac,Qv s e.sub.length sc]))(hlo:h<lo):
 QB T vf vt w ((W.setCell ⟨h,3,none⟩ (Qv (some ⟨W.heap.size,0,none⟩) 1 1)).alloc (.cells #[e.kind,e.op,e.no,e.val.kind,e.val.int,e.val.text,e.table,e.name,Qv a e.args.length ac,Qv s e.sub.length sc] 80)) p h pv fs st frm items [e]:=by
 obtain⟨g1,g2,g3,g4,g5,g6⟩:=Uzo 3 (Qv (some ⟨W.heap.size,0,none⟩) 1 1) #[e.kind,e.op,e.no,e.val.kind,e.val.int,e.val.text,e.table,e.name,Qv a e.args.length ac,Qv s e.sub.length sc] 80 q hT;obtain⟨hL,h1,h2,h3,h4,ia,ic,wa,wc,h5,h6,h7⟩:=q;have hz:=(Zq.1 h5).1;obtain⟨cs,hcs,hec⟩:=(g6 lo e _ hlo hx).ec;simp only[Value.agg.injEq] at hcs;obtain rfl:cs=[.int .i64 e.kind,.int .i64 e.op,.bool e.no,.int .i64 e.val.kind,.int .i64 e.val.int,.string e.val.text,.string e.table,.string e.name,Qv a e.args.length ac,Qv s e.sub.length sc]:=by simpa using(congrArg Array.toList hcs).symm
 refine⟨g1,h1,h2,g2,g3,ia,ic,some ⟨W.heap.size,0,none⟩,1,g5.trans (by simp[World.setCell,Yh,h5]),g4 _ _ h6,?_⟩;exact Qq6 (R:=EC _ _) e (by simp) (Qz7 (by simp;omega)) (by simp) hec
theorem QB.loc(q:QB T vf vt w W p h pv fs st frm items whr):Loc T vf vt w W:=q.1
theorem QB.box(q:QB T vf vt w W p h pv fs st frm items whr):W.cell? ⟨p,0,none⟩=some pv∧W.cell? ⟨p,1,none⟩=some vt∧p<W.heap.size:=by
 obtain⟨a,b,_,_,c⟩:=Qjk q.2.2.2.1;exact⟨a,b,c⟩
theorem QB.cells(q:QB T vf vt w W p h pv fs st frm items whr):∃ia ic wa wc,W.cell? ⟨h,0,none⟩=some (.bool st)∧W.cell? ⟨h,1,none⟩=some (Qv ia items.length ic)∧W.cell? ⟨h,2,none⟩=some (.string frm)∧W.cell? ⟨h,3,none⟩=some (Qv wa whr.length wc)∧
 W.frozen? ⟨h,1,none⟩=false∧W.frozen? ⟨h,3,none⟩=false∧h<W.heap.size∧Hid (Qqq (Old (h+1)) W (Qv ia items.length ic) items∧Qqq (Old (h+1)) W (Qv wa whr.length wc) whr):=by
 obtain⟨hL,h1,h2,h3,h4,ia,ic,wa,wc,h5,h6,h7⟩:=q;obtain⟨a,b,c,d,_,f3,z⟩:=Qzo h5;obtain⟨_,f1⟩:=Yxy h5;exact⟨ia,ic,wa,wc,a,b,c,d,f1,f3,z,hid ⟨h6,h7⟩⟩
end
theorem Uzp{T:Nat}{vf vt pv:Value}{w w6:World}{fs:List Frm}{st:Bool}{frm:ByteArray}(hT:T<w.heap.size)(hL:Loc T vf vt w w6)(hz:w.heap.size+1<w6.heap.size)(hf:Qqz (At T) w6 pv fs):
 QB T vf vt w ((w6.alloc (.cells #[pv,vt] 122)).alloc (.cells #[st,(),frm,()] 37)) w6.heap.size (w6.heap.size+1) pv fs st frm [] []:=by
 have hf':Qqz (TOr T w6.heap.size) w6 pv fs:=hf.weak fun k hk h=>h.elim id fun h=>by omega
 refine⟨(hL.alloc hT _).alloc hT _,hz,by omega,?_,(hf'.keep ((Qqb.refl _ w6).alloc _)).keep ((Qqb.refl _ _).alloc _),none,0,none,0,Jkn,Qqa.nil ..,Qqa.nil ..⟩;exact(Jy _ _ (by simp)).trans (Zw w6 _)
theorem Uvj{n T p h:Nat}{vf:Value}{w W:World}{a6 ta:Option Addr}{c6 tc:Nat}{look:List UInt8→List Col}{fs:List Frm}{s:Sch}{ss:List Sch}{st:Bool}{frm:ByteArray}{items whr:List Ex}(hE:Qwn n)(hw:Qjh T w)(hs:Qjt (At T) w (Qv ta ss.length tc) ss)
 (hP:Qzm look (fs++[Qj6 s]) ss n)(q:QB T vf (Qv ta ss.length tc) w W p h (Qv a6 (fs.length+1) c6) (fs++[Qj6 s]) st frm items whr)(dp want:Int)(h1:dp≤n)(h2:-10≤dp)(h3:1≤want)(h4:want≤3):
 Calls prog 93 #[.pointer (some ⟨T,0,none⟩),.agg #[Qv a6 (fs.length+1) c6,Qv ta ss.length tc],want,dp] W (Qjp T W (ExQ (Mk ss (fs++[Qj6 s]) want n) W)):=by
 have hl:(fs++[Qj6 s]).length=fs.length+1:=by simp
 have hf:=q.2.2.2.2.1;rw[←hl] at hf⊢;exact hE T dp want a6 ta c6 tc look _ ss W h1 h2 h3 h4 q.1.1 (hw.at q.1.2.1) (hf.weak fun k _ h=>.inl h) (hs.keep q.1.2.1) hP
theorem Uqg{n:Nat}{k:Int}{st:Bool}{frm:ByteArray}{items whr:List Ex}(h1:∀x∈items,dep x≤n)(h2:∀x∈whr,dep x≤n):dep (opX k 0 false [] [.mk st items frm whr])≤n+1:=by
 have hl:∀l:List Ex,(∀x∈l,dep x≤n)→Qvr l≤n:=by
  intro l
  induction l with
  |nil=>intro _;simp[Qvr]
  |cons x l ih=>
   intro h;rw[Qvr];have:=h x (by simp);have:=ih fun y hy=>h y (by simp[hy]);omega
 have a:=hl items h1;have b:=hl whr h2;simp only[opX,dep,Qvr,Yvr,Uqu];omega
theorem Yw0{n:Nat}{k:Int}{st:Bool}{fs:List Frm}{s:Sch}{ss:List Sch}{items whr:List Ex}(hmem:s∈ss)(hst:st=(k==8))(hsn:Qju s.name=true)(hi:((k=8∨k=9)∧items=[])∨((k=10∨k=11∨k=12)∧∃x,items=[x]∧Mk ss (fs++[Qj6 s]) 1 n x))(hw:whr=[]∨∃x,whr=[x]∧Mk ss (fs++[Qj6 s]) 2 n x):
 Mk ss fs (Ywz k) (n+1) (opX k 0 false [] [.mk st items s.name whr]):=by
 subst hst;refine⟨⟨Uqg (fun x hx=>?_) (fun x hx=>?_),.sub n k s.name items whr hsn ?_ ?_ (fun x hx=>?_) (fun x hx=>?_)⟩,fun ts hts=>Yvw k (k==8) items whr s (hts s hmem) ?_ ?_⟩
 ·rcases hi with⟨_,rfl⟩|⟨_,y,rfl,hy⟩
  ·cases hx
  ·obtain rfl:=Zd.1 hx;exact hy.1.1
 ·rcases hw with rfl|⟨y,rfl,hy⟩
  ·cases hx
  ·obtain rfl:=Zd.1 hx;exact hy.1.1
 ·rcases hi with h|⟨h,y,rfl,hy⟩
  ·exact .inl h
  ·exact .inr ⟨h,rfl⟩
 ·rcases hw with rfl|⟨y,rfl,hy⟩
  ·exact Zi _
  ·exact Zz _
 ·rcases hi with⟨_,rfl⟩|⟨_,y,rfl,hy⟩
  ·cases hx
  ·obtain rfl:=Zd.1 hx;exact hy.1.2
 ·rcases hw with rfl|⟨y,rfl,hy⟩
  ·cases hx
  ·obtain rfl:=Zd.1 hx;exact hy.1.2
 ·rcases hi with h|⟨h,y,rfl,hy⟩
  ·exact .inl h
  ·exact .inr ⟨h,y,rfl,hy.2 ts hts⟩
 ·rcases hw with rfl|⟨y,rfl,hy⟩
  ·exact .inl rfl
  ·exact .inr ⟨y,rfl,hy.2 ts hts⟩
theorem Yjr{T h:Nat}{vf vt:Value}{w W W1:World}{k:Int}{st:Bool}{frm:ByteArray}{items whr:List Ex}{ia wa:Option Addr}{ic wc:Nat}{t:TypeId}{P:Ex→Prop}(hT:T<w.heap.size)(hL:Loc T vf vt w W)(hh:w.heap.size+1<h)(hx:Qqq (Old (h+1)) W (Qv ia items.length ic) items∧Qqq (Old (h+1)) W (Qv wa whr.length wc) whr)
 (hP:P (opX k 0 false [] [.mk st items frm whr]))(ks:Qqb (At (w.heap.size+1)) W W1)(hs:W1.heap.size=W.heap.size):
 Qjp T w (ExQ P w) (.returned (.agg #[.int .i64 k,"0",false,"0","0","","","",(),Qv (some ⟨W.heap.size,0,none⟩) 1 1]))
  (W1.alloc (.cells #[st,Qv ia items.length ic,frm,Qv wa whr.length wc] t)):=by
 refine Yjp (e:=opX k 0 false [] [.mk st items frm whr]) hT hL ks ⟨none,0,some ⟨W.heap.size,0,none⟩,1,rfl,Qqa.nil ..,?_⟩ hP;have hz:w.heap.size+1<W.heap.size:=hL.res.2.2.2.2.2.2.2.2.2.2.2
 have up:∀v l,Qqq (Old (h+1)) W v l→Qqq (Old (w.heap.size+1+1)) (W1.alloc (.cells #[st,Qv ia items.length ic,frm,Qv wa whr.length wc] t)) v l:=fun v l hl=>
  ((Qqq.keep hl (ks.weak fun k _ h=>by unfold At at h;unfold Old;omega)).keep ((Qqb.refl _ W1).alloc _)).weak fun k _ h=>by unfold Old at h⊢;omega
 rw[←hs];exact Qq6 (size:=4) (R:=QC _ _) (Qu.mk st items frm whr) rfl (Qz7 (by omega)) rfl ((Qxg ..).2 ⟨_,_,rfl,up _ _ hx.1,up _ _ hx.2⟩)
theorem Uqh(n:Nat)(hE:Qwn n)(T:Nat)(k depth:Int)(fa ta:Option Addr)(fc tc:Nat)(look:List UInt8→List Col)(fs:List Frm)(ss:List Sch)(w:World)(hd:depth≤(n:Int)+1)(hd0:-5≤depth)(hn:n≤50)(hk8:8≤k)(hk12:k≤12)(ht:Qql T w)(hw:Qjh T w)
 (hf:Qqz (At T) w (Qv fa fs.length fc) fs)(hs:Qjt (At T) w (Qv ta ss.length tc) ss)(hP:Qzm look fs ss (n+1)):
 Calls prog 123 #[.pointer (some ⟨T,0,none⟩),.agg #[Qv fa fs.length fc,Qv ta ss.length tc],.int .i64 k,depth] w (Qjp T w (ExQ (Mk ss fs (Ywz k) (n+1)) w)):=by
 obtain⟨tb,to',F,L,G,N,rfl,_,htT,htb,hn0,hn1,hsch⟩:=Jv8 hs hP.2.2.2.2.1;have hTw:=ht.lt;have hss:1≤ss.length:=Jn.2 hP.2.2.2.2.1;have hss10:ss.length≤10:=hP.2.2.2.2.2.1;have HSCH:=hid hsch;have HN0:=hid hn0;have HN1:=hid hn1;have HT:=hid ht;have HW:=hid hw;have HF:=hid hf;have HS:=hid hs;have HP:=hid hP;have HE:=hid hE;clear hsch hn0 hn1 ht hw hf hs hP hE;go_enter func123,ntmps123;go_wp2_with fail
 generalize hW:((w.alloc _).alloc _)=W0;obtain⟨s0,s1,hb0,hz0,hr0⟩:=Qw4 hW;have hp0:W0.heap[w.heap.size]?=some (.cells #[Qv fa fs.length fc,Qv (some ⟨tb,to',none⟩) ss.length tc] 122 (0,0)):=by rw[←hW];exact((Qqb.refl (fun _=>False) (w.alloc _)).alloc _).block _ (by simp) id |>.trans (Zw w _)
 clear hW
 have hL0:Loc T (Qv fa fs.length fc) (Qv (some ⟨tb,to',none⟩) ss.length tc) w W0:=⟨HT.out.bel hb0,.bel hb0,hp0,hr0⟩
 have HL0:=hid hL0;have hz1:w.heap.size<W0.heap.size:=by omega
 have hz2:w.heap.size+1<W0.heap.size:=by omega
 have htb0:tb<W0.heap.size:=by omega
 clear hb0 hz0 hr0 hp0 hL0
 go_cut [9] (fun c wx=>Uy8 T (Qv fa fs.length fc) (Qv (some ⟨tb,to',none⟩) ss.length tc) ss w c wx)
 case first=>
  have HKS:=hid (fun(w':World) (h:Loc T (Qv fa fs.length fc) (Qv (some ⟨tb,to',none⟩) ss.length tc) w w')=>(show w'.cell? ⟨w.heap.size,1,none⟩=some (Qv (some ⟨tb,to',none⟩) ss.length tc)∧(∀i:Nat,i<ss.length→w'.cell? ⟨tb,to'+i*2,none⟩=some (.string (N i)))∧(∀i:Nat,i<ss.length→w'.cell? ⟨tb,to'+i*2+1,none⟩=some (Qv (F i) (L i) (G i))) from⟨h.place.2.1,fun i hi=>(h.kept.cell htb htT).trans (HN0.out i hi),fun i hi=>(h.kept.cell htb htT).trans (HN1.out i hi)⟩))
  go_region_held3 (fun w'=>w'.cell? ⟨w.heap.size,1,none⟩=some (Qv (some ⟨tb,to',none⟩) ss.length tc)∧(∀i:Nat,i<ss.length→w'.cell? ⟨tb,to'+i*2,none⟩=some (.string (N i)))∧(∀i:Nat,i<ss.length→w'.cell? ⟨tb,to'+i*2+1,none⟩=some (Qv (F i) (L i) (G i))))
   (first|(refine HKS.out _ ?_;first|with_reducible exact HL5.out|with_reducible exact HL0.out.drew|with_reducible exact(HL0.out.alloc hTw _).drew|with_reducible exact(HL0.out.drew.alloc hTw _)|with_reducible exact HL5.out.alloc hTw _|exact(HL5.out.set hTw (by omega) _).set hTw (by omega) _)|fail)
   ((go_at_call 12;go_loud (refine(Qqk T ss.length _ (by omega) (by omega) (by first|with_reducible exact HL0.out.drew.tape|with_reducible exact(HL0.out.alloc hTw _).drew.tape|with_reducible exact(HL0.out.drew.alloc hTw _).tape)).mono ?_;rintro e w5 ⟨v,rfl,⟨r,rfl,hr0,hr1⟩,ht5,hk5⟩;obtain⟨i,rfl⟩:=Zt hr0;have hi:i<ss.length:=(by omega);have hL5:Loc T (Qv fa fs.length fc) (Qv (some ⟨tb,to',none⟩) ss.length tc) w w5:=(by first|exact HL0.out.drew.step hTw ht5 hk5|exact(HL0.out.alloc hTw _).drew.step hTw ht5 hk5);have z5:=hk5.size;(try simp only[Zn,Yl] at z5);(first|(have hx5:=((hk5.block W0.heap.size (by simp) (fun h=>by unfold At at h;omega)).trans (show _=some (.cells #["",()] 29 (0,0)) from Zw W0 _));obtain⟨x0,x1,xf0,xf1,xz⟩:=Qjk hx5;have HX5:=hid hx5;clear hx5)|skip);have HL5:=hid hL5;clear ht5 hk5 hL5)))
  all_goals go_wp2_with fail
  all_goals
   obtain⟨en,el,hc⟩:=HSCH.out i _ (Zg hi);have hmem:ss[i]∈ss:=Yo hi;generalize ss[i]=s at en el hc hmem;rw[el] at hc;have HC5:=hid hc
   go_meet
  ·exact⟨w5.heap.size,s,F i,G i,rfl,hmem,by omega,by rw[←en,←el];exact Zw _ _,HC5.out.keep (HL5.out.alloc hTw _).kept,HL5.out.alloc hTw _⟩
  ·exact⟨W0.heap.size,s,F i,G i,rfl,hmem,by omega,by rw[←en,←el];exact Jkg HX5.out,HC5.out.keep ((HL5.out.set hTw (by omega) _).set hTw (by omega) _).kept,(HL5.out.set hTw (by omega) _).set hTw (by omega) _⟩
 case rest=>
  obtain⟨g,s,ca,cc,rfl,hmem,hg,hgb,hc,hL⟩:=hcut;obtain⟨p0,p1,pz⟩:=hL.place;obtain⟨x0,x1,_,_,gz⟩:=Qjk hgb;have hbx:T<wc.heap.size:=Nat.lt_trans hTw pz;have HFc:=hid (HF.out.keep hL.kept);have HSc:=hid (HS.out.keep hL.kept);have hP2:=HP.out.inside hmem;have hfl:fs.length≤100:=by have:=HP.out.2.1;omega
  have HP2:=hid hP2;have HC:=hid hc;have HL:=hid hL;have HGB:=hid hgb;have HMEM:=hid hmem;have HSN:=hid (HP.out.2.2.2.2.2.2.2 s hmem).1;clear hc hL hgb hmem hP2;have HEX:=hid (fun(W:World) (p h:Nat) (a6:Option Addr) (c6:Nat) (st:Bool) (frm:ByteArray) (items whr:List Ex) (q:QB T (Qv fa fs.length fc) (Qv (some ⟨tb,to',none⟩) ss.length tc) w W p h (Qv a6 (fs.length+1) c6) (fs++[Qj6 s]) st frm items whr)=>Uvj HE.out HW.out HS.out HP2.out q);clear HE HW HS HP HF HT HSCH;by_cases hk10:10≤k
  ·go_wp2_with(go_at_call 96;go_loud (refine(Qw8 (M:=At T) (Qv fa fs.length fc) (Qv (some ⟨tb,to',none⟩) ss.length tc) fs s.name (Qv ca s.cols.length cc) s.cols _ _ _ _ rfl HFc.out HC.out (fun k h1 h2=>by unfold At at h2;omega) (by omega)).mono ?_;rintro e w6 ⟨a6,c6,rfl,h6,hb6⟩;rw[show(fs++[Frm.mk s.name false s.cols]).length=fs.length+1 by simp] at h6⊢;have HL6:=hid (HL.out.bel hTw hb6);have z6:=hb6.size;have hg6:=((hb6.block _ gz).trans HGB.out);obtain⟨y0,y1,yf0,yf1,yz⟩:=Qjk hg6;have HF6:=hid h6;clear h6 hb6 hg6))
   have hz6:w.heap.size+1<w6.heap.size:=by omega
   have HQ7:=hid (Uzp (st:=(k==8)) (frm:=s.name) hTw HL6.out hz6 HF6.out);clear y0 y1 yf0 yf1 x0 x1 p0 p1;generalize hW7:((w6.alloc _).alloc _)=W7;rw[hW7] at HQ7;clear hW7;refine(HEX.out _ _ _ _ _ _ _ _ _ HQ7.out (depth-2) 1 (by omega) (by omega) (by omega) (by omega)).mono ?_;rintro e w8 ⟨v,rfl,⟨x,hx,hmk⟩,ht,hk⟩;have hx0:=hx;obtain⟨a1,ac1,s1,sc1,rfl,_,_⟩:=hx0;have z8:=hk.size;have HQ8:=hid (HQ7.out.step hTw ht hk);obtain⟨i8,ic8,wa8,wc8,c80,c81,c82,c83,f81,f83,z8h,_⟩:=HQ8.out.cells;have HXX:=hid hx;have HMK:=hid hmk;clear hx hmk ht hk;dsimp only;go_wp2_with fail
   have hlo:w6.heap.size+1<W7.heap.size:=by obtain⟨_,_,_,_,_,_,_,_,_,_,h,_⟩:=HQ7.out.cells;exact h
   have HQ9:=hid (HQ8.out.addItem hTw HXX.out hlo);clear c80 c81 c82 c83 f81 f83;generalize hW9:((w8.setCell _ _).alloc _)=W9;rw[hW9] at HQ9;clear hW9;have hi:((k=8∨k=9)∧[x]=[])∨((k=10∨k=11∨k=12)∧∃y,[x]=[y]∧Mk ss (fs++[Qj6 s]) 1 n y):=.inr ⟨by omega,x,rfl,HMK.out⟩;have HI:=hid hi;clear hi
   go_upto_region 8 with(first
    |(go_at_call 56;go_loud (refine(Qq2 T 3 _ (by omega) (by omega) HQ9.out.loc.tape).mono ?_;rintro e w10 ⟨v,rfl,⟨b,rfl⟩,ht,hk⟩;have HQ10:=hid (HQ9.out.step hTw ht hk);obtain⟨b0,b1,bz⟩:=HQ10.out.box;clear ht hk;cases b))
    |(go_at_call 93;go_loud (refine(HEX.out _ _ _ _ _ _ _ _ _ HQ10.out (depth-1) 2 (by omega) (by omega) (by omega) (by omega)).mono ?_;rintro e w11 ⟨v,rfl,⟨x2,hx2,hmk2⟩,ht,hk⟩;have hx0:=hx2;obtain⟨a2,ac2,s2,sc2,rfl,_,_⟩:=hx0;have HQ11:=hid (HQ10.out.step hTw ht hk);obtain⟨i11,ic11,wa11,wc11,c0,c1,c2,c3,f1,f3,zh,_⟩:=HQ11.out.cells;have HX2:=hid hx2;have HMK2:=hid hmk2;clear hx2 hmk2 ht hk)))
   ·have hlo2:w6.heap.size+1<w10.heap.size:=by obtain⟨_,_,_,_,_,_,_,_,_,_,h,_⟩:=HQ10.out.cells;exact h
    have HQ12:=hid (HQ11.out.addWhr hTw HX2.out hlo2);clear c0 c1 c2 c3 f1 f3;generalize hW12:((w11.setCell _ _).alloc _)=W12;rw[hW12] at HQ12;clear hW12;have HM:=hid (Yw0 (n:=n) (k:=k) (st:=(k==8)) (fs:=fs) HMEM.out rfl HSN.out HI.out (.inr ⟨x2,rfl,HMK2.out⟩));obtain⟨ia,ic,wa,wc',d0,d1,d2,d3,_,_,dz,dx⟩:=HQ12.out.cells;obtain⟨r0,r1,r2,r3,r4,r5,r6,r7,r8,r9,rf,rz⟩:=HQ12.out.loc.res
    repeat(first|go_values|go_skip|go_guarded|go_step|go_upon)
    refine Zh (v:=.agg #[.int .i64 k,"0",false,"0","0","","","",(),Qv (some ⟨W12.heap.size,0,none⟩) 1 1]) (by simp[results,results123,go_sem,r0,r1,r2,r3,r4,r5,r6,r7,r8,r9,rz]) rfl ?_;have FIN:=@Yjr T (w6.heap.size+1) (Qv fa fs.length fc) (Qv (some ⟨tb,to',none⟩) ss.length tc) w W12 _ k (k==8) s.name [x] [x2] ia wa ic wc' 37 _ hTw HQ12.out.loc (by omega) dx.out HM.out (Qqh _ _ (.int .i64 k) (.int .i64 0) false (.int .i64 0) (.int .i64 0) "" "" "" () (Qv (some ⟨W12.heap.size,0,none⟩) 1 1)) (by simp);exact FIN
   ·have HM:=hid (Yw0 (n:=n) (k:=k) (st:=(k==8)) (fs:=fs) HMEM.out rfl HSN.out HI.out (.inl rfl));obtain⟨ia,ic,wa,wc',d0,d1,d2,d3,_,_,dz,dx⟩:=HQ10.out.cells;obtain⟨r0,r1,r2,r3,r4,r5,r6,r7,r8,r9,rf,rz⟩:=HQ10.out.loc.res
    repeat(first|go_values|go_skip|go_guarded|go_step|go_upon)
    refine Zh (v:=.agg #[.int .i64 k,"0",false,"0","0","","","",(),Qv (some ⟨w10.heap.size,0,none⟩) 1 1]) (by simp[results,results123,go_sem,r0,r1,r2,r3,r4,r5,r6,r7,r8,r9,rz]) rfl ?_;have FIN:=@Yjr T (w6.heap.size+1) (Qv fa fs.length fc) (Qv (some ⟨tb,to',none⟩) ss.length tc) w w10 _ k (k==8) s.name [x] [] ia wa ic wc' 37 _ hTw HQ10.out.loc (by omega) dx.out HM.out (Qqh _ _ (.int .i64 k) (.int .i64 0) false (.int .i64 0) (.int .i64 0) "" "" "" () (Qv (some ⟨w10.heap.size,0,none⟩) 1 1)) (by simp);exact FIN
  ·go_wp2_with(go_at_call 96;go_loud (refine(Qw8 (M:=At T) (Qv fa fs.length fc) (Qv (some ⟨tb,to',none⟩) ss.length tc) fs s.name (Qv ca s.cols.length cc) s.cols _ _ _ _ rfl HFc.out HC.out (fun k h1 h2=>by unfold At at h2;omega) (by omega)).mono ?_;rintro e w6 ⟨a6,c6,rfl,h6,hb6⟩;rw[show(fs++[Frm.mk s.name false s.cols]).length=fs.length+1 by simp] at h6⊢;have HL6:=hid (HL.out.bel hTw hb6);have z6:=hb6.size;have hg6:=((hb6.block _ gz).trans HGB.out);obtain⟨y0,y1,yf0,yf1,yz⟩:=Qjk hg6;have HF6:=hid h6;clear h6 hb6 hg6))
   have hz6:w.heap.size+1<w6.heap.size:=by omega
   have HQ7:=hid (Uzp (st:=(k==8)) (frm:=s.name) hTw HL6.out hz6 HF6.out);clear y0 y1 yf0 yf1 x0 x1 p0 p1;generalize hW7:((w6.alloc _).alloc _)=W7;rw[hW7] at HQ7;clear hW7
   go_upto_region 8 with(first
    |(go_at_call 56;go_loud (refine(Qq2 T 3 _ (by omega) (by omega) HQ7.out.loc.tape).mono ?_;rintro e w10 ⟨v,rfl,⟨b,rfl⟩,ht,hk⟩;have HQ10:=hid (HQ7.out.step hTw ht hk);obtain⟨b0,b1,bz⟩:=HQ10.out.box;clear ht hk;cases b))
    |(go_at_call 93;go_loud (refine(HEX.out _ _ _ _ _ _ _ _ _ HQ10.out (depth-1) 2 (by omega) (by omega) (by omega) (by omega)).mono ?_;rintro e w11 ⟨v,rfl,⟨x2,hx2,hmk2⟩,ht,hk⟩;have hx0:=hx2;obtain⟨a2,ac2,s2,sc2,rfl,_,_⟩:=hx0;have HQ11:=hid (HQ10.out.step hTw ht hk);obtain⟨i11,ic11,wa11,wc11,c0,c1,c2,c3,f1,f3,zh,_⟩:=HQ11.out.cells;have HX2:=hid hx2;have HMK2:=hid hmk2;clear hx2 hmk2 ht hk)))
   ·have hlo2:w6.heap.size+1<w10.heap.size:=by obtain⟨_,_,_,_,_,_,_,_,_,_,h,_⟩:=HQ10.out.cells;exact h
    have HQ12:=hid (HQ11.out.addWhr hTw HX2.out hlo2);clear c0 c1 c2 c3 f1 f3;generalize hW12:((w11.setCell _ _).alloc _)=W12;rw[hW12] at HQ12;clear hW12;have HM:=hid (Yw0 (n:=n) (k:=k) (st:=(k==8)) (fs:=fs) HMEM.out rfl HSN.out (.inl ⟨by omega,rfl⟩) (.inr ⟨x2,rfl,HMK2.out⟩));obtain⟨ia,ic,wa,wc',d0,d1,d2,d3,_,_,dz,dx⟩:=HQ12.out.cells;obtain⟨r0,r1,r2,r3,r4,r5,r6,r7,r8,r9,rf,rz⟩:=HQ12.out.loc.res
    repeat(first|go_values|go_skip|go_guarded|go_step|go_upon)
    refine Zh (v:=.agg #[.int .i64 k,"0",false,"0","0","","","",(),Qv (some ⟨W12.heap.size,0,none⟩) 1 1]) (by simp[results,results123,go_sem,r0,r1,r2,r3,r4,r5,r6,r7,r8,r9,rz]) rfl ?_;have FIN:=@Yjr T (w6.heap.size+1) (Qv fa fs.length fc) (Qv (some ⟨tb,to',none⟩) ss.length tc) w W12 _ k (k==8) s.name [] [x2] ia wa ic wc' 37 _ hTw HQ12.out.loc (by omega) dx.out HM.out (Qqh _ _ (.int .i64 k) (.int .i64 0) false (.int .i64 0) (.int .i64 0) "" "" "" () (Qv (some ⟨W12.heap.size,0,none⟩) 1 1)) (by simp);exact FIN
   ·have HM:=hid (Yw0 (n:=n) (k:=k) (st:=(k==8)) (fs:=fs) HMEM.out rfl HSN.out (.inl ⟨by omega,rfl⟩) (.inl rfl));obtain⟨ia,ic,wa,wc',d0,d1,d2,d3,_,_,dz,dx⟩:=HQ10.out.cells;obtain⟨r0,r1,r2,r3,r4,r5,r6,r7,r8,r9,rf,rz⟩:=HQ10.out.loc.res
    repeat(first|go_values|go_skip|go_guarded|go_step|go_upon)
    refine Zh (v:=.agg #[.int .i64 k,"0",false,"0","0","","","",(),Qv (some ⟨w10.heap.size,0,none⟩) 1 1]) (by simp[results,results123,go_sem,r0,r1,r2,r3,r4,r5,r6,r7,r8,r9,rz]) rfl ?_;have FIN:=@Yjr T (w6.heap.size+1) (Qv fa fs.length fc) (Qv (some ⟨tb,to',none⟩) ss.length tc) w w10 _ k (k==8) s.name [] [] ia wa ic wc' 37 _ hTw HQ10.out.loc (by omega) dx.out HM.out (Qqh _ _ (.int .i64 k) (.int .i64 0) false (.int .i64 0) (.int .i64 0) "" "" "" () (Qv (some ⟨w10.heap.size,0,none⟩) 1 1)) (by simp);exact FIN
end Go.Proofs.YtgepbohjmgaojaaGreatDoor
