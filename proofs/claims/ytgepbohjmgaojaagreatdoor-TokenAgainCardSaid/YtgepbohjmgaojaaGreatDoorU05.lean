/- Blocks behind allocs, and behind tape calls. Values from the tape: contracts of Small, Number, Word and Typed. A place within a query: the contract of Inside. -/
import Derived.Test.YtgepbohjmgaojaaGreatDoorU04
set_option linter.all false
set_option maxHeartbeats 4000000
set_option maxRecDepth 100000
namespace Go.Proofs.YtgepbohjmgaojaaGreatDoor
open Value renaming slice→Qv
open Go.Proofs.Tryz
open Lib(hid)
open Go.RowKit
theorem Qjn{B:Nat}{a w:World}(h:Below B a w):Below B a w.drew:=⟨h.os,h.tape,h.output,h.size,h.block⟩
theorem Jkn{w:World}{o1 o2:Obj}:((w.alloc o1).alloc o2).heap[w.heap.size+1]?=some o2:=by
 have:=Zw (w.alloc o1) o2;rw[Zn] at this;exact this
theorem Yqq{w:World}{o1 o2 o3:Obj}:(((w.alloc o1).alloc o2).alloc o3).heap[w.heap.size+1+1]?=some o3:=by
 have:=Zw ((w.alloc o1).alloc o2) o3;rw[Zn,Zn] at this;exact this
theorem Jxx{w:World}{o1 o2 o3:Obj}:(((w.alloc o1).alloc o2).alloc o3).heap[w.heap.size+1]?=some o2:=by
 have h:=((Qqb.refl (fun _=>False) ((w.alloc o1).alloc o2)).alloc o3).block (w.heap.size+1) (by simp) id;exact h.trans Jkn
def Uwk(n:Int):Prop:=-9223372036854775808≤n∧n≤9223372036854775807
def Kqt(v:Value)(_:World):Prop:=∃n:Int,v=.int .i64 n∧-3≤n∧n≤12
def Yyc(v:Value)(_:World):Prop:=∃n:Int,v=.int .i64 n∧Uwk n
def Kjy(v:Value)(_:World):Prop:=∃i:Nat,i<6∧v=.string (Qvh i)
theorem Qv3(T:Nat)(w:World)(ht:Qql T w):Calls prog 101 #[.pointer (some ⟨T,0,none⟩)] w (Qjp T w Kqt):=by
 have H:=hid ht;clear ht;go_enter func101,ntmps101
 go_wp2_with(go_at_call 12;refine(Qqk T 16 w (by omega) (by omega) H.out).mono ?_;rintro e w' ⟨v,rfl,⟨r,rfl,hr0,hr1⟩,ht,hk⟩;have H2:=hid ht;have H3:=hid hk;clear ht hk)
 go_ret;exact⟨_,rfl,⟨_,rfl,by omega,by omega⟩,H2.out,H3.out⟩
theorem Yxx(T:Nat)(w:World)(ht:Qql T w)(hn:Qjh T w):
 Calls prog 125 #[.pointer (some ⟨T,0,none⟩)] w (Qjp T w Kjy):=by
 have H:=hid ht;have HN:=hid hn;clear ht hn;go_enter func125,ntmps125;go_wp2_with fail
 refine(Qqk T 6 w (by omega) (by omega) H.out).mono ?_;rintro e w' ⟨v,rfl,⟨r,rfl,hr0,hr1⟩,ht,hk⟩;obtain⟨i,rfl⟩:=Zt hr0;have hi:i<6:=by omega
 have hc:=(HN.out.at hk).2 i hi;have H2:=hid ht;have H3:=hid hk;clear ht hk;go_wp2_with fail
 go_ret;exact⟨_,rfl,⟨i,hi,rfl⟩,H2.out,H3.out⟩
theorem Yvx{T:Nat}{w w':World}{n:Int}(h:Uwk n)(ht:Qql T w')(hk:Qqb (At T) w w'):Qjp T w Yyc (.returned n) w':=⟨_,rfl,⟨_,rfl,h⟩,ht,hk⟩
theorem Yvy(T:Nat)(w:World)(ht:Qql T w):Calls prog 127 #[.pointer (some ⟨T,0,none⟩)] w (Qjp T w Yyc):=by
 have H:=hid ht;have tok1:Hid True:=trivial;clear ht;go_enter func127,ntmps127
 go_wp2_with(first
  |(go_at_call 12;have _t:=tok1;refine(Qqk T 8 w (by omega) (by omega) H.out).mono ?_;rintro e w1 ⟨v,rfl,⟨r,rfl,hr0,hr1⟩,ht,hk⟩;have H2:=hid ht;have H3:=hid hk;clear ht hk tok1)
  |(go_at_call 12;refine(Qqk T _ w1 (by omega) (by omega) H2.out).mono ?_;rintro e w2 ⟨v,rfl,⟨s,rfl,hs0,hs1⟩,ht,hk⟩;have H4:=hid ht;have H5:=hid (H3.out.trans hk);clear ht hk))
 all_goals go_ret
 all_goals exact Yvx ⟨by omega,by omega⟩ H4.out H5.out
def Qxz(v:Val):Prop:=(v.kind=0∧v.int=0∧v.text=⟨#[]⟩)∨(v.kind=1∧Uwk v.int∧v.text=⟨#[]⟩)∨(v.kind=2∧0≤v.int∧v.int≤1∧v.text=⟨#[]⟩)∨(v.kind=3∧v.int=0∧∃i:Nat,i<6∧v.text=Qvh i)
def Uxt(k:Int)(v:Value)(_:World):Prop:=∃x:Val,v=.agg #[x.kind,x.int,x.text]∧Qxz x∧(x.kind=k∨(x.kind=0∧(k<1∨3<k)))
theorem Jzf{T:Nat}{w w':World}(x:Val)(k:Int)(h:Qxz x)(hk:x.kind=k∨(x.kind=0∧(k<1∨3<k)))(ht:Qql T w')(hb:Qqb (At T) w w'):Qjp T w (Uxt k) (.returned (.agg #[x.kind,x.int,x.text])) w':=⟨_,rfl,⟨x,rfl,h,hk⟩,ht,hb⟩
theorem Jzg{T S:Nat}{w:World}{a b c:Value}(h:Qql T w)(hS:T<S):Qql T (((w.setCell ⟨S,0,none⟩ a).setCell ⟨S,1,none⟩ b).setCell ⟨S,2,none⟩ c):=
 h.keep ((((Qqb.refl (At S) w).setCell (p:=⟨S,0,none⟩) (fun _=>rfl) _).setCell (p:=⟨S,1,none⟩) (fun _=>rfl) _).setCell (p:=⟨S,2,none⟩) (fun _=>rfl) _) fun k hk h=>by unfold At at h;omega
theorem Jzh{T:Nat}{w0 w:World}{a b c:Value}(h:Qqb (At T) w0 w):Qqb (At T) w0 (((w.setCell ⟨w0.heap.size,0,none⟩ a).setCell ⟨w0.heap.size,1,none⟩ b).setCell ⟨w0.heap.size,2,none⟩ c):=
 ((h.setCell (fun h=>by simp at h) _).setCell (fun h=>by simp at h) _).setCell (fun h=>by simp at h) _
theorem Qk8(T:Nat)(k:Int)(w:World)(ht:Qql T w)(hn:Qjh T w):Calls prog 99 #[.pointer (some ⟨T,0,none⟩),k] w (Qjp T w (Uxt k)):=by
 have hT:=ht.lt;have hT2:w.heap.size≠T:=by omega
 have H:=hid ht;have HN:=hid hn;clear ht hn;go_enter func99,ntmps99
 go_wp2_with(first
  |(go_at_call 127;refine(Yvy T _ (H.out.alloc _)).mono ?_;rintro e w1 ⟨v,rfl,⟨n,rfl,hn⟩,ht,hk⟩;obtain⟨k1,k2⟩:=Jwk hk;simp only[Zn] at k1 k2;have c0:w1.cell? ⟨w.heap.size,0,none⟩=some (.int .i64 0):=(k1 _ _ (by omega) hT2).trans (by simp);have c1:w1.cell? ⟨w.heap.size,1,none⟩=some (.int .i64 0):=(k1 _ _ (by omega) hT2).trans (by simp);have c2:w1.cell? ⟨w.heap.size,2,none⟩=some (.string ⟨#[]⟩):=(k1 _ _ (by omega) hT2).trans (by simp);have k4:=hk.size;simp only[Zn] at k4;have H2:=hid ht;have H3:=hid (((Qqb.refl (At T) w).alloc _).trans hk);have HI:=hid hn;clear ht hk hn)
  |(go_at_call 12;refine(Qqk T 2 _ (by omega) (by omega) (H.out.alloc _)).mono ?_;rintro e w1 ⟨v,rfl,⟨n,rfl,hn0,hn1⟩,ht,hk⟩;obtain⟨k1,k2⟩:=Jwk hk;simp only[Zn] at k1 k2;have c0:w1.cell? ⟨w.heap.size,0,none⟩=some (.int .i64 0):=(k1 _ _ (by omega) hT2).trans (by simp);have c1:w1.cell? ⟨w.heap.size,1,none⟩=some (.int .i64 0):=(k1 _ _ (by omega) hT2).trans (by simp);have c2:w1.cell? ⟨w.heap.size,2,none⟩=some (.string ⟨#[]⟩):=(k1 _ _ (by omega) hT2).trans (by simp);have k4:=hk.size;simp only[Zn] at k4;have H2:=hid ht;have H3:=hid (((Qqb.refl (At T) w).alloc _).trans hk);clear ht hk)
  |(go_at_call 125;refine(Yxx T _ (H.out.alloc _) (HN.out.at ((Qqb.refl (At T) w).alloc _))).mono ?_;rintro e w1 ⟨v,rfl,⟨i,hi,rfl⟩,ht,hk⟩;obtain⟨k1,k2⟩:=Jwk hk;simp only[Zn] at k1 k2;have c0:w1.cell? ⟨w.heap.size,0,none⟩=some (.int .i64 0):=(k1 _ _ (by omega) hT2).trans (by simp);have c1:w1.cell? ⟨w.heap.size,1,none⟩=some (.int .i64 0):=(k1 _ _ (by omega) hT2).trans (by simp);have c2:w1.cell? ⟨w.heap.size,2,none⟩=some (.string ⟨#[]⟩):=(k1 _ _ (by omega) hT2).trans (by simp);have k4:=hk.size;simp only[Zn] at k4;have H2:=hid ht;have H3:=hid (((Qqb.refl (At T) w).alloc _).trans hk);clear ht hk))
 ·refine Zh (v:=.agg #["1",n,""]) (by simp[results,results99,go_sem,c0,c1,c2]) rfl (Jzf ⟨1,n,⟨#[]⟩⟩ k (.inr (.inl ⟨rfl,HI.out,rfl⟩)) (.inl (by simp_all)) (Jzg H2.out hT) (Jzh H3.out))
 ·refine Zh (v:=.agg #["2",n,""]) (by simp[results,results99,go_sem,c0,c1,c2]) rfl (Jzf ⟨2,n,⟨#[]⟩⟩ k (.inr (.inr (.inl ⟨rfl,hn0,Int.le_of_lt_add_one hn1,rfl⟩))) (.inl (by simp_all)) (Jzg H2.out hT) (Jzh H3.out))
 ·refine Zh (v:=.agg #["3","0",(Qvh i)]) (by simp[results,results99,go_sem,c0,c1,c2]) rfl (Jzf ⟨3,0,Qvh i⟩ k (.inr (.inr (.inr ⟨rfl,rfl,i,hi,rfl⟩))) (.inl (by simp_all)) (Jzg H2.out hT) (Jzh H3.out))
 ·rename_i g1 g2 g3
  have hk:k<1∨3<k:=by simp at g1 g2 g3;omega
  clear g1 g2 g3;refine Zh (v:=.agg #["0","0",""]) (by simp[results,results99,go_sem]) rfl (Jzf ⟨0,0,⟨#[]⟩⟩ k (.inl ⟨rfl,rfl,rfl⟩) (.inr ⟨rfl,hk⟩) (H.out.alloc _) ((Qqb.refl (At T) w).alloc _))
theorem Yvz{w:World}{o1 o2 o3:Obj}:(((w.alloc o1).alloc o2).alloc o3).heap[w.heap.size]?=some o1:=by
 have h:=((Qqb.refl (fun _=>False) (w.alloc o1)).alloc o2 |>.alloc o3).block w.heap.size (by simp) id;exact h.trans (Zw w o1)
theorem Kqu{w W:World}{a b c d e f:Value}{t1 t2 t3:TypeId}(h:((w.alloc (.cells #[a,b] t1)).alloc (.cells #[c,d] t2)).alloc (.cells #[e,f] t3)=W):
 W.cell? ⟨w.heap.size,0,none⟩=some a∧W.cell? ⟨w.heap.size,1,none⟩=some b∧W.cell? ⟨w.heap.size+1,0,none⟩=some c∧W.cell? ⟨w.heap.size+1,1,none⟩=some d∧Below w.heap.size w W∧W.heap.size=w.heap.size+3∧W.heap[w.heap.size+1+1]?=some (.cells #[e,f] t3 (0,0)):=by
 subst h;obtain⟨p1,p2,_⟩:=Qjk (Yvz (w:=w) (o1:=.cells #[a,b] t1) (o2:=.cells #[c,d] t2) (o3:=.cells #[e,f] t3));obtain⟨q1,q2,_⟩:=Qjk (Jxx (w:=w) (o1:=.cells #[a,b] t1) (o2:=.cells #[c,d] t2) (o3:=.cells #[e,f] t3));exact⟨p1,p2,q1,q2,by go_grown,by simp,Yqq⟩
def Uxu(M:Nat→Prop)(fs:List Frm)(vt:Value)(w:World)(e:Ending)(w':World):Prop:=∃a c,e=.returned (.agg #[Qv a fs.length c,vt])∧Qqz M w' (Qv a fs.length c) fs∧Below w.heap.size w w'
def MOr(M:Nat→Prop)(s lo:Nat)(k:Nat):Prop:=M k∨(s≤k∧k<lo)
theorem Kqv{M:Nat→Prop}{lo:Nat}{w w8:World}{v8:Value}{fs:List Frm}(h:Qqf lo w8 196 4 (Qvb M w) v8 fs)(hlo:w.heap.size≤lo)(hb:Below w.heap.size w w8)(hM:∀k,w.heap.size≤k→¬M k):
 ∃a p,v8=Qv a fs.length p∧Qqz (MOr M w.heap.size lo) w8 (Qv a fs.length p) fs:=by
 have h':=h.imp (R':=Qvb (MOr M w.heap.size lo) w8) fun x _ cs hc=>Qvb.keep (hc.weak fun k hk h=>h.elim id fun h=>by omega) (.bel hb);obtain⟨a,p,rfl,_⟩:=h'.shape;exact⟨a,p,rfl,h'.rows fun k h1 _ h=>h.elim (hM k (by omega)) fun h=>by omega⟩
theorem Kqw{M:Nat→Prop}{w w8:World}{a:Option Addr}{p:Nat}{fs:List Frm}{u1 u2 vt:Value}(h:Qqz (MOr M w.heap.size (w.heap.size+1+1+1)) w8 (Qv a fs.length p) fs)(hb:Below w.heap.size w w8):
 Uxu M fs vt w (.returned (.agg #[Qv a fs.length p,vt])) ((w8.setCell ⟨w.heap.size+1+1,0,none⟩ u1).setCell ⟨w.heap.size+1+1,1,none⟩ u2):=by
 have ks:Qqb (At (w.heap.size+1+1)) w8 ((w8.setCell ⟨w.heap.size+1+1,0,none⟩ u1).setCell ⟨w.heap.size+1+1,1,none⟩ u2):=((Qqb.refl (At (w.heap.size+1+1)) w8).setCell (p:=⟨w.heap.size+1+1,0,none⟩) (fun _=>rfl) _).setCell (p:=⟨w.heap.size+1+1,1,none⟩) (fun _=>rfl) _;refine⟨a,p,rfl,(h.keep (ks.weak fun k _ h=>.inr (by unfold At at h;omega))).weak fun k _ h=>.inl h,hb.trans (ks.toBelow hb.size fun k hk h=>by unfold At at h;omega)⟩
theorem Qw8{M:Nat→Prop}(vf vt:Value)(fs:List Frm)(nm:ByteArray)(vc:Value)(cols:List Col)(ta:Option Addr)(tn tc:Nat)(w:World)(hvt:vt=Qv ta tn tc)(hf:Qqz M w vf fs)(hc:Qq1 M w vc cols)(hM:∀k,w.heap.size≤k→¬M k)(hN:fs.length≤1000):
 Calls prog 96 #[.agg #[vf,vt],.agg #[nm,vc]] w (Uxu M (fs++[⟨nm,false,cols⟩]) vt w):=by
 subst hvt;obtain⟨a2,p2,rfl,_⟩:=hf.shape;obtain⟨ca,cc,rfl,_⟩:=hc.shape;have HF:=hid hf;have HC:=hid hc;have HM:=hid hM;have tok1:Hid True:=trivial;clear hf hc hM;go_enter func96,ntmps96;go_wp2_with fail
 generalize hW:(((w.alloc _).alloc _).alloc _)=W0;obtain⟨s0,s0b,s1,s2,hb0,hz0,hr0⟩:=Kqu hW;have hz1:w.heap.size<W0.heap.size:=by omega
 have hz2:w.heap.size+1<W0.heap.size:=by omega
 have hz3:w.heap.size+1+1<W0.heap.size:=by omega
 have HB0:=hid hb0;have HR0:=hid hr0;have HZ0:=hid hz0;clear hW hb0 hz0 hr0
 go_region_held3 (fun w'=>w'.cell? ⟨w.heap.size,0,none⟩=some (Qv a2 fs.length p2)∧w'.cell? ⟨w.heap.size+1,0,none⟩=some (.string nm)∧w'.cell? ⟨w.heap.size+1,1,none⟩=some (Qv ca cols.length cc))
  (first|(go_split_ands;first|with_reducible exact⟨x0,x1,x2⟩|with_reducible exact⟨u0,u1,u2⟩|with_reducible exact⟨s0,s1,s2⟩)|go_keep)
  (first
    |(have _t:=tok1;refine Uq3 (α:=Frm) (by rfl) _ _ _ (by rfl) 196 _ 4 72 underlying119 Qv0 (by rfl) (by decide) (R:=Qvb M w) (M:=M) (w.heap.size+1+1+1) () (Qv a2 fs.length p2) [] fs (by rfl) (by rfl) (Qqf.nil ..) (Yxs HF.out (.bel (by first|exact Qjn HB0.out|exact Qjn (HB0.out.alloc (Jt hz1) _)|exact(Qjn HB0.out).alloc (Jt hz1) _))) (fun y _ cs h=>Jxv _ y cs h) (by simp;omega) (by simp[maxLen];omega) (by have:=HZ0.out;simp;omega) ?_;intro v7 w7 ho hk;have hb7:=Qyo hk;have hz7:=hb7.size;(try simp only[Yl,Zn] at hb7 hz7);have hB7:Below w.heap.size w w7:=Below.trans (B:=w.heap.size) (by first|exact Qjn HB0.out|exact Qjn (HB0.out.alloc (Jt hz1) _)|exact(Qjn HB0.out).alloc (Jt hz1) _) (hb7.mono (by omega));have hB7':Below W0.heap.size W0 w7:=Below.trans (B:=W0.heap.size) (by first|exact Qjn (Below.refl _ _)|exact Qjn ((Below.refl _ _).alloc (Zz _) _)|exact(Qjn (Below.refl _ _)).alloc (Zz _) _) (hb7.mono (by omega));have u0:=(hB7'.cell (p:=⟨w.heap.size,0,none⟩) hz1).trans s0;have u0b:=(hB7'.cell (p:=⟨w.heap.size,1,none⟩) hz1).trans s0b;have u1:=(hB7'.cell (p:=⟨w.heap.size+1,0,none⟩) hz2).trans s1;have u2:=(hB7'.cell (p:=⟨w.heap.size+1,1,none⟩) hz2).trans s2;(first|have HX7:=hid ((hb7.block W0.heap.size (by omega)).trans (show _=some (.cells #[nm,false,Qv ca cols.length cc,()] 196 (0,0)) by first|exact Zw W0 _|exact Zw W0.drew _))|skip);have HR7:=hid ((hB7'.block (w.heap.size+1+1) hz3).trans HR0.out);have HO7:=hid ho;have HB7:=hid hB7;have HB7':=hid hB7';clear ho hk hb7 hB7 hB7' tok1)
    |(go_loud (refine Qkv (α:=Frm) (by rfl) _ _ _ (by rfl) 196 _ 4 72 underlying119 Qv0 (by rfl) (by decide) (R:=Qvb M w) (M:=M) (w.heap.size+1+1+1) v7 (Qv (some ⟨w7.heap.size,0,none⟩) 1 1) fs [⟨nm,false,cols⟩] (by rfl) (by rfl) (Qqf.kept HO7.out ((Qqb.refl (fun _=>False) w7).alloc _) (fun _ _=>id) fun _ _ _ h=>h) (Jve (size:=4) (R:=Qvb M w) (arr:=#[.string nm,.bool false,Qv ca cols.length cc,Qv none 0 0]) (e:=196) (Frm.mk nm false cols) (Zw w7 _) (HM.out _ (by omega)) rfl (Qwy HC.out)) (by simp) (fun y _ cs h=>Jxv _ y cs h) (by simp;omega) (by simp[maxLen];omega) (by simp;omega) ?_;intro v8 w8 ho hk _;have HO8:=hid ho;have HK8:=hid (((Qqb.refl (Qq4 v7) w7).alloc _).trans hk);have hO7:∀k,Qq4 v7 k→w.heap.size+1+1+1≤k:=(fun k h=>(Qqf.lt HO7.out h).1);have K8:=HK8.out;have x0:=(K8.cell (b:=w.heap.size) (o:=0) (by omega) (fun h=>by have:=hO7 _ h;omega)).trans u0;have x0b:=(K8.cell (b:=w.heap.size) (o:=1) (by omega) (fun h=>by have:=hO7 _ h;omega)).trans u0b;have x1:=(K8.cell (b:=w.heap.size+1) (o:=0) (by omega) (fun h=>by have:=hO7 _ h;omega)).trans u1;have x2:=(K8.cell (b:=w.heap.size+1) (o:=1) (by omega) (fun h=>by have:=hO7 _ h;omega)).trans u2;have hr8:=(K8.block (w.heap.size+1+1) (by omega) (fun h=>by have:=hO7 _ h;omega)).trans HR7.out;have HR8:=hid hr8;have HB8:=hid (HB7.out.trans (K8.toBelow (B:=w.heap.size) (by omega) fun k hk h=>by have:=hO7 k h;omega));clear ho hk hO7 K8 hr8))
    |(go_loud (refine Qkv (α:=Frm) (by rfl) _ _ _ (by rfl) 196 _ 4 72 underlying119 Qv0 (by rfl) (by decide) (R:=Qvb M w) (M:=M) (w.heap.size+1+1+1) v7 (Qv (some ⟨W0.heap.size,0,none⟩) 1 1) fs [⟨nm,false,cols⟩] (by rfl) (by rfl) HO7.out (Jve (size:=4) (R:=Qvb M w) (Frm.mk nm false cols) HX7.out (HM.out _ (Jt hz1)) rfl (Qwy HC.out)) (by simp) (fun y _ cs h=>Jxv _ y cs h) (by simp;omega) (by simp[maxLen];omega) (by omega) ?_;intro v8 w8 ho hk _;have HO8:=hid ho;have HK8:=hid hk;have hO7:∀k,Qq4 v7 k→w.heap.size+1+1+1≤k:=(fun k h=>(Qqf.lt HO7.out h).1);have K8:=HK8.out;have x0:=(K8.cell (b:=w.heap.size) (o:=0) (by omega) (fun h=>by have:=hO7 _ h;omega)).trans u0;have x0b:=(K8.cell (b:=w.heap.size) (o:=1) (by omega) (fun h=>by have:=hO7 _ h;omega)).trans u0b;have x1:=(K8.cell (b:=w.heap.size+1) (o:=0) (by omega) (fun h=>by have:=hO7 _ h;omega)).trans u1;have x2:=(K8.cell (b:=w.heap.size+1) (o:=1) (by omega) (fun h=>by have:=hO7 _ h;omega)).trans u2;have hr8:=(K8.block (w.heap.size+1+1) (by omega) (fun h=>by have:=hO7 _ h;omega)).trans HR7.out;have HR8:=hid hr8;have HB8:=hid (HB7.out.trans (K8.toBelow (B:=w.heap.size) (by omega) fun k hk h=>by have:=hO7 k h;omega));clear ho hk hO7 K8 hr8)))
 all_goals
  obtain⟨a8,p8,hv8,hf8⟩:=Kqv HO8.out (by omega) HB8.out HM.out;have hlen:(fs++[Frm.mk nm false cols]).length=fs.length+1:=by simp
  rw[hlen] at hv8 hf8;subst hv8;obtain⟨r0,r1,rf0,rf1,rz⟩:=Qjk HR8.out;have HF8:=hid hf8;have HL:=hid hlen;clear hf8 hlen;go_wp2_with fail
  refine Zh (v:=.agg #[Qv a8 (fs.length+1) p8,Qv ta tn tc]) (by simp[results,results96,go_sem,r0,r1]) rfl ?_;rw[←HL.out];exact Kqw (by rw[HL.out];exact HF8.out) HB8.out
def Qjy(c:Col):Col:=⟨c.name,c.type,false,false⟩
theorem Yj7(w:World):Calls prog 164 #[()] w fun e w'=>e=.returned ()∧w=w':=by
 go_enter func164,ntmps164
 go_wp2
 go_rounds 1
 go_ret;exact⟨rfl,rfl⟩
def Yyd(s:Sch)(w:World)(e:Ending)(w':World):Prop:=∃vc,e=.returned (.agg #[s.name,vc,"1",()])∧Qq1 (Out w.heap.size w'.heap.size) w' vc s.cols∧Below w.heap.size w w'
theorem Jzi{w:World}{S:Nat}{a b c d v:Value}{e:TypeId}(h:w.heap[S]?=some (.cells #[a,b,c,d] e (0,0))):(w.setCell ⟨S,1,none⟩ v).heap[S]?=some (.cells #[a,v,c,d] e (0,0)):=by
 simp[World.setCell,Yh,h]
theorem Yxy{w:World}{S:Nat}{a b c d:Value}{e:TypeId}(h:w.heap[S]?=some (.cells #[a,b,c,d] e (0,0))):w.frozen? ⟨S,0,none⟩=false∧w.frozen? ⟨S,1,none⟩=false:=by
 simp[World.frozen?,h]
theorem Jy4{w wr w':World}{B:Nat}{v v':Value}{e:TypeId}{nm:ByteArray}{xs:List Col}(hB:w.heap.size+1<B)(hS:wr.heap[B]?=some (.cells #[nm,v,"1",()] e (0,0)))(hR:wr.heap[w.heap.size+1]?=some (.cells #["",(),"0",()] e (0,0)))
 (hO:∀k,Qq4 v k→B+1≤k)(hk:Qqb (Qq4 v) wr w')(hG:Qqn (B+1) w' 106 4 Jzu v' xs)(hb:Below w.heap.size w wr):
 (w'.setCell ⟨B,1,none⟩ v').heap[B]?=some (.cells #[nm,v',"1",()] e (0,0))∧(w'.setCell ⟨B,1,none⟩ v').heap[w.heap.size+1]?=some (.cells #["",(),"0",()] e (0,0))∧
   Qqn (B+1) (w'.setCell ⟨B,1,none⟩ v') 106 4 Jzu v' xs∧Below w.heap.size w (w'.setCell ⟨B,1,none⟩ v'):=by
 have ks:Qqb (At B) w' (w'.setCell ⟨B,1,none⟩ v'):=(Qqb.refl (At B) w').setCell (p:=⟨B,1,none⟩) (fun _=>rfl) _;have hS':w'.heap[B]?=some (.cells #[nm,v,"1",()] e (0,0)):=(hk.block _ (Zq.1 hS).1 fun h=>by have:=hO _ h;omega).trans hS;have hR':w'.heap[w.heap.size+1]?=some (.cells #["",(),"0",()] e (0,0)):=(hk.block _ (Zq.1 hR).1 fun h=>by have:=hO _ h;omega).trans hR;refine⟨Jzi hS',?_,hG.keep Qxp ks fun k h1 _ h=>by unfold At at h;omega,?_⟩
 ·rw[Below.heap_setCell _ _ _ _ (by simp;omega)];exact hR'
 ·have h1:Below w.heap.size w w':=hb.trans (hk.toBelow hb.size fun k hk h=>by have:=hO _ h;omega);exact h1.setCell (by simp;omega) _
theorem Jwr{w w' w'':World}{B:Nat}{v:Value}{nm:ByteArray}{xs:List Col}(hG:Qqn (B+1) w' 106 4 Jzu v xs)(hB:w.heap.size+1<B)(hb:Below w.heap.size w w')(hk:Qqb (At (w.heap.size+1)) w' w''):
 Yyd ⟨nm,xs⟩ w (.returned (.agg #[nm,v,"1",()])) w'':=by
 refine⟨v,rfl,?_,hb.trans (hk.toBelow hb.size fun k h1 h=>by unfold At at h;omega)⟩;have h1:=hG.keep Qxp hk fun k h1 _ h=>by unfold At at h;omega
 have h2:=h1.rows Qxp;refine Qqa.weak h2 (fun k hk' h=>?_) fun _ _ _ h=>h;unfold Out at h;unfold Old;omega
theorem Qvi(nm s:ByteArray)(vc:Value)(cols:List Col)(w:World)(hc:Qq1 NoM w vc cols)(hN:cols.length≤1000):
 Calls prog 146 #[nm,.agg #[s,vc],()] w (Yyd ⟨nm,cols.map Qjy⟩ w):=by
 obtain⟨ca,cc,rfl,hm⟩:=hc.shape;unfold maxLen at hm;have HC:=hid hc;clear hc;go_enter func146,ntmps146
 go_wp2_with(go_at_call 164;refine(Yj7 _).mono ?_;rintro e w1 ⟨rfl,rfl⟩)
 have g0:(((w.alloc (.cells #[s,Qv ca cols.length cc] 29)).alloc (.cells #["",(),"0",()] 189)).alloc (.cells #[nm,(),"1",()] 189)).heap[w.heap.size+1+1]?=some (.cells #[nm,(),"1",()] 189 (0,0)):=Yqq;have g1:(((w.alloc (.cells #[s,Qv ca cols.length cc] 29)).alloc (.cells #["",(),"0",()] 189)).alloc (.cells #[nm,(),"1",()] 189)).heap[w.heap.size+1]?=some (.cells #["",(),"0",()] 189 (0,0)):=Jxx;have G0:=hid g0;have G1:=hid g1;clear g0 g1
 go_loopw[18] (fun i wr=>∃(j:Nat) (v:Value),j≤cols.length∧i=.int .i64 j∧wr.heap[w.heap.size+1+1]?=some (.cells #[nm,v,"1",()] 189 (0,0))∧wr.heap[w.heap.size+1]?=some (.cells #["",(),"0",()] 189 (0,0))∧
  Qqn (w.heap.size+1+1+1) wr 106 4 Jzu v ((cols.take j).map Qjy)∧Below w.heap.size w wr) (fun i _=>cols.length-(intOf i).toNat)
 case atStart=>exact⟨0,Qv none 0 0,Zi _,rfl,G0.out,G1.out,Qqn.nil ..,by go_grown⟩
 case round=>
  obtain⟨j,v,hj,rfl,hB,hR,hG,hb⟩:=hrel;obtain⟨va,vp,rfl,hvm⟩:=hG.shape;have hlj:((cols.take j).map Qjy).length=j:=by simp;omega
  rw[hlj] at hB hG hvm;obtain⟨b0,b1,b2,b3,bf2,bf3,bz⟩:=Qzo hB;obtain⟨bf0,bf1⟩:=Yxy hB;obtain⟨r0,r1,r2,r3,rf2,rf3,rz⟩:=Qzo hR;obtain⟨rf0,rf1⟩:=Yxy hR;have HB:=hid hb;have HG:=hid hG;have HBB:=hid hB;have HRR:=hid hR;clear hb hG hB hR;by_cases hlt:j<cols.length
  ·rcases HC.out.open with⟨h,h'⟩|⟨b',o',cap',hv',hbT,hbs,hl,hm',hx⟩
   ·subst h';simp at hlt
   ·simp only[Yz] at hv';obtain⟨rfl,_,rfl⟩:=hv';have hxj:cols[j]?=some cols[j]:=Zg hlt;obtain⟨cs,rfl,_,hcs⟩:=hx j _ hxj;generalize cols[j]=c at hxj hcs;have hcs':=hcs.keep (M:=NoM) (.bel HB.out) id;obtain⟨c0,c1,c2,c3⟩:=hcs'.c4;have HX:=hid hxj;have hz:w.heap.size≤wr.heap.size:=HB.out.size;clear hx hcs hcs' hxj;have HLEN:=hid hlj;clear hlj;generalize hxs:(cols.take j).map Qjy=xs at HG HLEN;have HXS:=hid hxs;clear hxs
    go_wp2_with(at_builtin;go_loud (refine Qzj (w:=wr.alloc (.cells #[c.name,c.type,c.notNull,c.key] 106)) Qxp rfl _ _ 27 rfl 106 _ 4 32 underlying27 Jqn rfl (by decide) (w.heap.size+1+1+1) (Qv va j vp) (wr.heap.size+1) #[c.name,c.type,false,false] xs (Qjy c) rfl rfl (by simp) (HG.out.bel Qxp ((Below.refl _ _).alloc (Zz _) _)) rfl rfl ?_ ?_ ?_ ?_;(focus(have:=HLEN.out;omega));(focus(have:=HLEN.out;unfold maxLen;omega));(focus(simp;omega));intro v2 w2 ho hk;obtain⟨va2,vp2,rfl,hvm2⟩:=ho.shape;simp only[Zr,Jp] at ho;have hO:∀k,Qq4 (Qv va j vp) k→w.heap.size+1+1+1≤k:=fun k h=>(Qqf.lt HG.out h).1;have HO:=hid hO;have hB2:=((((Qqb.refl _ wr).alloc _).trans hk).block _ bz (fun h=>by have:=hO _ h;omega)).trans HBB.out;obtain⟨d0,d1,d2,d3,df2,df3,dz⟩:=Qzo hB2;obtain⟨df0,df1⟩:=Yxy hB2;have HK:=hid (((Qqb.refl _ wr).alloc _).trans hk);have HG2:=hid ho;clear ho hO hk hB2))
    obtain⟨e1,e2,e3,e4⟩:=Jy4 (nm:=nm) (by omega:w.heap.size+1<w.heap.size+1+1) HBB.out HRR.out HO.out HK.out HG2.out HB.out;go_roundw
    case rel=>
     refine⟨j+1,_,by omega,by go_num,e1,e2,?_,e4⟩;rw[Jh,HX.out,Ke,HXS.out];exact e3
    case measure=>simp[intOf];omega
  ·obtain rfl:j=cols.length:=by omega
   go_wp2_with fail
   refine Zh (v:=.agg #[nm,Qv va cols.length vp,"1",()]) (by simp[results,results146,go_sem,r0,r1,r2,r3]) rfl ?_;rw[Jo] at HG;exact Jwr HG.out (by omega) HB.out (((((Qqb.refl (At (w.heap.size+1)) wr).setCell (p:=⟨w.heap.size+1,0,none⟩) (fun _=>rfl) _).setCell (p:=⟨w.heap.size+1,1,none⟩) (fun _=>rfl) _).setCell (p:=⟨w.heap.size+1,2,none⟩) (fun _=>rfl) _).setCell (p:=⟨w.heap.size+1,3,none⟩) (fun _=>rfl) _)
def Qvj:ByteArray:=⟨#[73,78,83,69,82,84,69,68]⟩
def Qvk:ByteArray:=⟨#[68,69,76,69,84,69,68]⟩
def Jws(r:Int)(cols:List Col):List Sch:=if r=0 then[⟨Qvj,cols.map Qjy⟩] else if r=1 then[⟨Qvk,cols.map Qjy⟩,⟨Qvj,cols.map Qjy⟩] else[⟨Qvk,cols.map Qjy⟩]
def Qy8(l:List Sch)(w:World)(e:Ending)(w':World):Prop:=∃v,e=.returned v∧Qw5 (Out w.heap.size w'.heap.size) w' v l∧Below w.heap.size w w'
theorem Yye{lo:Nat}{w:World}(h:lo≤w.heap.size)(o:Obj):¬Out lo (w.alloc o).heap.size w.heap.size:=by unfold Out;simp;omega
theorem Yyf{w w1:World}{v:Value}{s:Sch}(h:Qq1 (Out w.heap.size w1.heap.size) w1 v s.cols)(hb:Below w.heap.size w w1):
 Qw5 (Out w.heap.size (w1.alloc (.cells #[s.name,v,"1",()] 189)).heap.size) (w1.alloc (.cells #[s.name,v,"1",()] 189)) (Qv (some ⟨w1.heap.size,0,none⟩) 1 1) [s]:=
 Qq6 (R:=Yjy _ _) s rfl (Yye hb.size _) rfl ⟨v,1,none,0,0,rfl,(h.keep ((Qqb.refl _ w1).alloc _)).weak fun k hk h=>by simp[Out] at h hk⊢;omega⟩
theorem Uwl{w w2:World}{v1 v2:Value}{s1 s2:Sch}(h1:Qq1 (Out w.heap.size w2.heap.size) w2 v1 s1.cols)(h2:Qq1 (Out w.heap.size w2.heap.size) w2 v2 s2.cols)(hb:Below w.heap.size w w2):
 Qw5 (Out w.heap.size (w2.alloc (.cells #[s1.name,v1,"1",(),s2.name,v2,"1",()] 189)).heap.size) (w2.alloc (.cells #[s1.name,v1,"1",(),s2.name,v2,"1",()] 189)) (Qv (some ⟨w2.heap.size,0,none⟩) 2 2) [s1,s2]:=
 Yxn (R:=Yjy _ _) s1 s2 [s1.name,v1,"1",()] [s2.name,v2,"1",()] rfl (Yye hb.size _) rfl rfl rfl
  ⟨v1,1,none,0,0,rfl,(h1.keep ((Qqb.refl _ w2).alloc _)).weak fun k hk h=>by simp[Out] at h hk⊢;omega⟩ ⟨v2,1,none,0,0,rfl,(h2.keep ((Qqb.refl _ w2).alloc _)).weak fun k hk h=>by simp[Out] at h hk⊢;omega⟩
def Kzg(v:Value)(_:World):Prop:=∃x:Val,v=Qkt x∧Qxz x
theorem Uq6(i:Nat)(hi:i<6):(Qvh i).size≤4:=by
 have:∀i,i<6→(Qvh i).size≤4:=by decide+kernel
 exact this i hi
theorem Yxz{x:Val}(h:Qxz x):Jvb x∧x.text.size≤4:=by
 unfold Qxz Uwk at h
 have ht:x.text.size≤4:=by
  rcases h with⟨_,_,h⟩|⟨_,_,h⟩|⟨_,_,_,h⟩|⟨_,_,i,hi,h⟩
  ·rw[h];decide
  ·rw[h];decide
  ·rw[h];decide
  ·rw[h];exact Uq6 i hi
 unfold Jvb maxLen;refine⟨⟨by omega,?_,?_,?_,?_⟩,ht⟩<;>rcases h with h|h|h|h<;>omega
theorem Uq7(T:Nat)(w:World)(ht:Qql T w)(hn:Qjh T w):Calls prog 59 #[.pointer (some ⟨T,0,none⟩)] w (Qjp T w Kzg):=by
 have hT:=ht.lt;have hT2:w.heap.size≠T:=by omega
 have H:=hid ht;have HN:=hid hn;clear ht hn;go_enter func59,ntmps59;go_wp2_with fail
 refine(Qqk T 4 _ (by omega) (by omega) (H.out.alloc _)).mono ?_;rintro e w1 ⟨v,rfl,⟨r,rfl,hr0,hr1⟩,ht,hk⟩;have H2:=hid ht;have H3:=hid (((Qqb.refl (At T) w).alloc _).trans hk);have HN2:=hid (HN.out.at H3.out);obtain⟨k1,k2⟩:=Jwk hk;simp only[Zn] at k1 k2;have k4:=hk.size;simp only[Zn] at k4;have c0:Hid (w1.cell? ⟨w.heap.size,0,none⟩=some (.int .i64 0)):=hid ((k1 _ _ (by omega) hT2).trans (by simp));have c1:Hid (w1.cell? ⟨w.heap.size,1,none⟩=some (.int .i64 0)):=hid ((k1 _ _ (by omega) hT2).trans (by simp));have c2:Hid (w1.cell? ⟨w.heap.size,2,none⟩=some (.string ⟨#[]⟩)):=hid ((k1 _ _ (by omega) hT2).trans (by simp));have cf:Hid (∀i,w1.frozen? ⟨w.heap.size,i,none⟩=false):=hid fun i=>(k2 _ _ (by omega) hT2).trans (by simp);clear ht hk k1 k2;dsimp only;go_wp2_with fail
 refine(Qk8 T r w1 H2.out HN2.out).mono ?_;rintro e w2 ⟨v,rfl,⟨x,rfl,hx,_⟩,ht,hk⟩;have k5:=hk.size;have d0:=Jz8 hk c0.out hT2;have d1:=Jz8 hk c1.out hT2;have d2:=Jz8 hk c2.out hT2;have df:=fun i=>((Jwk hk).2 w.heap.size i (by omega) hT2).trans (cf.out i);have H4:=hid ht;have H5:=hid (H3.out.trans hk);have HX:=hid hx;clear ht hk hx;dsimp only;go_wp2_with fail
 refine Zh (v:=Qkt x) (by simp[Qkt,results,results59,go_sem,d0,d1,d2]) rfl ⟨_,rfl,⟨x,rfl,HX.out⟩,Jzg H4.out hT,Jzh H5.out⟩
theorem Yv0{w:World}{S:Nat}{a b c:Value}{e:TypeId}(h:w.heap[S]?=some (.cells #[a,b,c] e (0,0))):w.cell? ⟨S,0,none⟩=some a∧w.cell? ⟨S,1,none⟩=some b∧w.cell? ⟨S,2,none⟩=some c∧(∀i,w.frozen? ⟨S,i,none⟩=false)∧S<w.heap.size:=
 ⟨by simp[World.cell?,h],by simp[World.cell?,h],by simp[World.cell?,h],fun i=>by simp[World.frozen?,h],(Zq.1 h).1⟩
def OL(T:Nat)(w wi:World)(S:Nat)(x:Val):Prop:=
 Qql T wi∧Qqb (At T) w wi∧wi.heap[w.heap.size]?=some (.cells #["0","0",""] 78 (0,0))∧wi.heap[S]?=some (.cells #[x.kind,x.int,x.text] 78 (0,0))∧w.heap.size<S
section
variable{T S:Nat} {w wi wj:World} {x:Val}
theorem OL.step(h:OL T w wi S x)(hT:T<w.heap.size)(ht:Qql T wj)(hk:Qqb (At T) wi wj):OL T w wj S x:=
 ⟨ht,h.2.1.trans hk,(hk.block _ (Zq.1 h.2.2.1).1 fun h=>by unfold At at h;omega).trans h.2.2.1,(hk.block _ (Zq.1 h.2.2.2.1).1 fun hh=>by have:=h.2.2.2.2;unfold At at hh;omega).trans h.2.2.2.1,h.2.2.2.2⟩
theorem OL.drew(h:OL T w wi S x):OL T w wi.drew S x:=⟨h.1,h.2.1.drew,h.2.2.1,h.2.2.2.1,h.2.2.2.2⟩
theorem OL.alloc(h:OL T w wi S x)(hT:T<w.heap.size)(o:Obj):OL T w (wi.alloc o) S x:=h.step hT (h.1.alloc o) ((Qqb.refl _ _).alloc o)
theorem OL.cells(h:OL T w wi S x):wi.cell? ⟨S,0,none⟩=some (.int .i64 x.kind)∧wi.cell? ⟨S,1,none⟩=some (.int .i64 x.int)∧wi.cell? ⟨S,2,none⟩=some (.string x.text)∧(∀i,wi.frozen? ⟨S,i,none⟩=false)∧S<wi.heap.size:=Yv0 h.2.2.2.1
theorem OL.res(h:OL T w wi S x):wi.cell? ⟨w.heap.size,0,none⟩=some (.int .i64 0)∧wi.cell? ⟨w.heap.size,1,none⟩=some (.int .i64 0)∧wi.cell? ⟨w.heap.size,2,none⟩=some (.string ⟨#[]⟩)∧(∀i,wi.frozen? ⟨w.heap.size,i,none⟩=false)∧w.heap.size<wi.heap.size:=Yv0 h.2.2.1
theorem OL.write(h:OL T w wi S x)(hT:T<w.heap.size){W:World}{y:Val}(ks:Qqb (At S) wi W)(hc:W.heap[S]?=some (.cells #[y.kind,y.int,y.text] 78 (0,0))):OL T w W S y:=
 ⟨h.1.keep ks fun k hk hh=>by have:=h.2.2.2.2;unfold At at hh;omega,h.2.1.then ks fun k hk hh=>by have:=h.2.2.2.2;unfold At at hh;omega,(ks.block _ (Zq.1 h.2.2.1).1 fun hh=>by have:=h.2.2.2.2;unfold At at hh;omega).trans h.2.2.1,hc,h.2.2.2.2⟩
end
theorem Kqx{w:World}{S:Nat}{a b c u:Value}{e:TypeId}(h:w.heap[S]?=some (.cells #[a,b,c] e (0,0))):(w.setCell ⟨S,1,none⟩ u).heap[S]?=some (.cells #[a,u,c] e (0,0)):=by simp[World.setCell,Yh,h]
theorem Kqy{w:World}{S:Nat}{a b c u:Value}{e:TypeId}(h:w.heap[S]?=some (.cells #[a,b,c] e (0,0))):(w.setCell ⟨S,2,none⟩ u).heap[S]?=some (.cells #[a,b,u] e (0,0)):=by simp[World.setCell,Yh,h]
theorem Yyg{w:World}{S i:Nat}{u:Value}:Qqb (At S) w (w.setCell ⟨S,i,none⟩ u):=(Qqb.refl (At S) w).setCell (p:=⟨S,i,none⟩) (fun _=>rfl) u
theorem OL.set1{T S:Nat}{w wi:World}{x:Val}(h:OL T w wi S x)(hT:T<w.heap.size)(n:Int):OL T w (wi.setCell ⟨S,1,none⟩ (.int .i64 n)) S ⟨x.kind,n,x.text⟩:=h.write hT Yyg (Kqx h.2.2.2.1)
theorem OL.set2{T S:Nat}{w wi:World}{x:Val}(h:OL T w wi S x)(hT:T<w.heap.size)(s:ByteArray):OL T w (wi.setCell ⟨S,2,none⟩ (.string s)) S ⟨x.kind,x.int,s⟩:=h.write hT Yyg (Kqy h.2.2.2.1)
theorem Jz4.bel{w w':World}{v:Value}(h:Jz4 w v)(k:Below w.heap.size w w'):Jz4 w' v:=by
 obtain⟨a,n,cap,rfl,h1,h2,h3⟩:=h;refine⟨a,n,cap,rfl,h1,h2,?_⟩
 rcases h3 with h3|⟨b,o,rfl,hb,hi⟩
 ·exact .inl h3
 ·refine .inr ⟨b,o,rfl,Zm hb k.size,fun i hi'=>?_⟩;obtain⟨z,hz⟩:=hi i hi';exact⟨z,(k.cell (p:=⟨b,o+i,none⟩) hb).trans hz⟩
def Yyh(w:World)(b o:Nat)(x:Val):Prop:=w.cell? ⟨b,o,none⟩=some (.int .i64 x.kind)∧w.cell? ⟨b,o+1,none⟩=some (.int .i64 x.int)∧w.cell? ⟨b,o+2,none⟩=some (.string x.text)
def Yv1(w:World)(b o:Nat)(l:List Val):Prop:=b<w.heap.size∧∀(j:Nat) (x:Val),l[j]?=some x→Yyh w b (o+j*3) x
theorem Yyh.bel{w w':World}{b o:Nat}{x:Val}(h:Yyh w b o x)(hb:b<w.heap.size)(k:Below w.heap.size w w'):Yyh w' b o x:=
 ⟨(k.cell (p:=⟨b,o,none⟩) hb).trans h.1,(k.cell (p:=⟨b,o+1,none⟩) hb).trans h.2.1,(k.cell (p:=⟨b,o+2,none⟩) hb).trans h.2.2⟩
theorem Yv1.bel{w w':World}{b o:Nat}{l:List Val}(h:Yv1 w b o l)(k:Below w.heap.size w w'):Yv1 w' b o l:=
 ⟨Zm h.1 k.size,fun j x hx=>(h.2 j x hx).bel h.1 k⟩
end Go.Proofs.YtgepbohjmgaojaaGreatDoor
