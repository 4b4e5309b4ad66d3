/- Types that fit: contracts of fits, all and operation. A frame more: contract of scope.inside. Tables found: contracts of scope.Source. -/
import Derived.Test.YtgepbohjmgaojaaGreatDoorU02
import Derived.Test.YtgepbohjmgaojaaGreatDoorVSh
import Derived.Deep.Fields
set_option linter.all false
set_option maxHeartbeats 2000000
set_option maxRecDepth 100000
namespace Go.Proofs.YtgepbohjmgaojaaGreatDoor
open Value renaming slice→Qv
open Go.Proofs.Tryz
open Lib(hid)
open Go.RowKit
def Uxg(M:Nat→Prop)(w:World)(v:Value)(l:List Int):Prop:=Qqa M w 1 Kj7 v l
theorem Uxg.keep{M:Nat→Prop}{w w':World}{v:Value}{l:List Int}(h:Uxg M w v l)(k:Qqb M w w'):Uxg M w' v l:=Qqa.map h k fun _ _ _ h=>h
section
variable{M:Nat→Prop} (k o:Int) (no:Bool) (vk vi:Int) (vt t nm:ByteArray) (va vs v:Value) (l:List Int) (w:World)
end
def NoM:Nat→Prop:=fun _=>False
theorem Jxv{M:Nat→Prop}(w:World)(x:Frm)(cs:List Value)(h:Qvb M w x cs):∀u∈cs,u.oneCell'=true:=by
 obtain⟨vc,a,n,c,rfl,hc⟩:=h;obtain⟨a',c',rfl,_⟩:=hc.shape;simp[Value.oneCell']
theorem Jjh(_:World)(x:Col)(cs:List Value)(h:Uv4 x cs):∀u∈cs,u.oneCell'=true:=by
 rw[h];simp[Qwg,Value.oneCell']
theorem Jwi(w:World):Calls prog 145 #[()] w fun e w'=>e=.returned ()∧w=w':=by
 go_enter func145,ntmps145
 go_wp2_with(at_builtin;refine wpList_append_own_none rfl _ _ 194 rfl 0 78 _ 3 underlying194 rfl _ 0 [] rfl (World.ownsRow_nil ..) rfl ?_)
 go_ret;exact⟨rfl,rfl⟩
def Jqo(cols:List Col):Frm:=⟨bs [79,76,68],true,cols⟩
def Jji(cols:List Col):Frm:=⟨bs [78,69,87],true,cols⟩
theorem Qxn:Qx8 Qvb where
 keep h k:=Qvb.keep h k
 weak h hM:=Qvb.weak hM h
 one h:=Jxv _ _ _ h
def Qv2(fs:List Frm)(w:World)(e:Ending)(w':World):Prop:=∃v,e=.returned v∧Qqn w.heap.size w' 196 4 Qvb v fs∧Below w.heap.size w w'
theorem Qwy{M:Nat→Prop}{w:World}{nm:ByteArray}{s:Bool}{cols:List Col}{a:Option Addr}{n c:Nat}(h:Qq1 M w (Qv a n c) cols):Qvb M w ⟨nm,s,cols⟩ [nm,s,Qv a n c,()]:=⟨_,_,_,_,rfl,h⟩
theorem Qyq{k:Nat}(h:Qq4 () k):False:=by cases h
theorem Jvz{α:Type}{lo s:Nat}{w0 w w' wx:World}{e:TypeId}{size:Nat}{R:α→List Value→Prop}{v:Value}{xs:List α}(h:Below s w0 w)(ho:Qqf lo wx e size R v xs)(hs:s≤lo)(hsz:s≤w.heap.size)(k:Qqb (Qq4 v) w w'):Below s w0 w':=
 h.trans (k.toBelow hsz fun b hb hx=>by have:=(ho.lt hx).1;omega)
theorem Jzc{α:Type}{lo:Nat}{w w' wx:World}{e:TypeId}{size:Nat}{R:α→List Value→Prop}{v:Value}{xs:List α}(ho:Qqf lo wx e size R v xs)(k:Qqb (Qq4 v) w w')(hs:lo≤w.heap.size):∀b o,b<lo→w'.cell? ⟨b,o,none⟩=w.cell? ⟨b,o,none⟩:=
 fun b o h=>k.cell (by omega) fun hx=>by have:=(ho.lt hx).1;omega
section
variable(n1 n2:ByteArray) (bf:Bool) (o1 o2 o3 o4 o5 o6:Option Addr) (l1 l2 l3 l4 l5 l6 c1 c2 c3 c4 c5 c6:Nat) (s:ByteArray) (vc:Value) (cols:List Col) (w:World) (hc:Qq1 NoM w vc cols) (hN:cols.length≤1000000)
include hc hN in
theorem Uxh:Calls prog 120 #[.agg #[n1,n2,bf,"1",Qv o1 l1 c1,true,Qv o2 l2 c2,Qv o3 l3 c3,Qv o4 l4 c4,Qv o5 l5 c5,Qv o6 l6 c6],.agg #[s,vc],(),()] w (Qv2 [Jji cols] w):=by
 obtain⟨ca,cc,rfl,_⟩:=hc.shape;have tok1:Hid True:=trivial;have HC:=hid (fun(w':World) (hb:Below w.heap.size w w')=>hc.keep (.bel hb));have HN:=hid hN;clear hc hN;go_enter func120,ntmps120
 go_wp2_with(first
  |(at_builtin;have _t:=tok1;refine Qje rfl _ _ 27 rfl 106 _ 4 32 underlying27 Jqn rfl (by decide) (w.heap.size+1+1) () (Qv ca cols.length cc) [] cols rfl rfl (Qqf.nil ..) (HC.out _ (by go_grown)) (fun y _ cs h=>Jjh default y cs h) (by have:=HN.out;simp;omega) (by have:=HN.out;simp[maxLen];omega) (by simp) ?_;intro vx w1 ho hk hat;have hb:=Qyo hk;obtain⟨a1,p1,rfl,_⟩:=ho.shape;have hbw:Below w.heap.size w w1:=Below.trans (by go_grown) (hb.mono (by simp<;>omega));have hc1:Qq1 (Qjl (w.heap.size+1+1) ()) w1 (Qv a1 cols.length p1) cols:=ho.rows (fun k h1 h2 h=>h.elim (fun h=>by(try(have h8:=HB2.out.size));omega) (fun h=>by first|exact(Qyq h).elim|(have h9:=(Qqf.lt HO2.out h).2;omega)));obtain⟨k1,k2,k3⟩:=Jq2 hb;(try simp only[Zn] at k1 k2 k3);have k4:w.heap.size<w1.heap.size:=(by(try(have h8:=HB2.out.size));omega);have k5:w.heap.size+1<w1.heap.size:=(by(try(have h8:=HB2.out.size));omega);have HC1:=hid hc1;have HB1:=hid hbw;have HKw1:=hid hk;clear ho hk hat hb hbw hc1 tok1)
  |(go_at_call 145;refine(Jwi _).mono ?_;rintro e w9 ⟨rfl,rfl⟩)
  |(at_builtin;refine Qzj (w:=w1) Qxn rfl _ _ 119 rfl 196 _ 4 72 underlying119 Qv0 rfl (by decide) (w.heap.size+1+1) () w1.heap.size (#[.string ⟨#[78,69,87]⟩,true,Qv a1 cols.length p1,()]) [] (Jji cols) rfl rfl rfl (Qqn.nil (w.heap.size+1+1) w1 196 4 Qvb) rfl (Qwy HC1.out) ?_ ?_ ?_ ?_;(focus(simp;done));(focus(simp[maxLen];done));(focus omega);intro v2 w2 ho hk;have hb2:=Jvz (lo:=w.heap.size+1+1) (s:=w.heap.size) HB1.out (Qqn.nil (w.heap.size+1+1) w1 196 4 Qvb) (by omega) HB1.out.size hk;have j1:=Jzc (lo:=w.heap.size+1+1) (Qqn.nil (w.heap.size+1+1) w1 196 4 Qvb) hk (by omega);have j4:w.heap.size<w.heap.size+1+1:=(by omega);have j5:=hk.size;have HO2:=hid ho;have HB2:=hid hb2;clear ho hk hb2))
 go_ret;exact⟨_,rfl,Qqn.of Qxn HO2.out (by omega) fun k _ h=>h.imp (fun h=>by omega) id,HB2.out⟩
include hc hN in
theorem Uxi:Calls prog 120 #[.agg #[n1,n2,bf,"3",Qv o1 l1 c1,true,Qv o2 l2 c2,Qv o3 l3 c3,Qv o4 l4 c4,Qv o5 l5 c5,Qv o6 l6 c6],.agg #[s,vc],(),()] w (Qv2 [Jqo cols] w):=by
 obtain⟨ca,cc,rfl,_⟩:=hc.shape;have tok1:Hid True:=trivial;have HC:=hid (fun(w':World) (hb:Below w.heap.size w w')=>hc.keep (.bel hb));have HN:=hid hN;clear hc hN;go_enter func120,ntmps120
 go_wp2_with(first
  |(at_builtin;have _t:=tok1;refine Qje rfl _ _ 27 rfl 106 _ 4 32 underlying27 Jqn rfl (by decide) (w.heap.size+1+1) () (Qv ca cols.length cc) [] cols rfl rfl (Qqf.nil ..) (HC.out _ (by go_grown)) (fun y _ cs h=>Jjh default y cs h) (by have:=HN.out;simp;omega) (by have:=HN.out;simp[maxLen];omega) (by simp) ?_;intro vx w1 ho hk hat;have hb:=Qyo hk;obtain⟨a1,p1,rfl,_⟩:=ho.shape;have hbw:Below w.heap.size w w1:=Below.trans (by go_grown) (hb.mono (by simp<;>omega));have hc1:Qq1 (Qjl (w.heap.size+1+1) ()) w1 (Qv a1 cols.length p1) cols:=ho.rows (fun k h1 h2 h=>h.elim (fun h=>by(try(have h8:=HB2.out.size));omega) (fun h=>by first|exact(Qyq h).elim|(have h9:=(Qqf.lt HO2.out h).2;omega)));obtain⟨k1,k2,k3⟩:=Jq2 hb;(try simp only[Zn] at k1 k2 k3);have k4:w.heap.size<w1.heap.size:=(by(try(have h8:=HB2.out.size));omega);have k5:w.heap.size+1<w1.heap.size:=(by(try(have h8:=HB2.out.size));omega);have HC1:=hid hc1;have HB1:=hid hbw;have HKw1:=hid hk;clear ho hk hat hb hbw hc1 tok1)
  |(go_at_call 145;refine(Jwi _).mono ?_;rintro e w9 ⟨rfl,rfl⟩)
  |(at_builtin;refine Qzj (w:=w1) Qxn rfl _ _ 119 rfl 196 _ 4 72 underlying119 Qv0 rfl (by decide) (w.heap.size+1+1) () w1.heap.size (#[.string ⟨#[79,76,68]⟩,true,Qv a1 cols.length p1,()]) [] (Jqo cols) rfl rfl rfl (Qqn.nil (w.heap.size+1+1) w1 196 4 Qvb) rfl (Qwy HC1.out) ?_ ?_ ?_ ?_;(focus(simp;done));(focus(simp[maxLen];done));(focus omega);intro v2 w2 ho hk;have hb2:=Jvz (lo:=w.heap.size+1+1) (s:=w.heap.size) HB1.out (Qqn.nil (w.heap.size+1+1) w1 196 4 Qvb) (by omega) HB1.out.size hk;have j1:=Jzc (lo:=w.heap.size+1+1) (Qqn.nil (w.heap.size+1+1) w1 196 4 Qvb) hk (by omega);have j4:w.heap.size<w.heap.size+1+1:=(by omega);have j5:=hk.size;have HO2:=hid ho;have HB2:=hid hb2;clear ho hk hb2))
 go_ret;exact⟨_,rfl,Qqn.of Qxn HO2.out (by omega) fun k _ h=>h.imp (fun h=>by omega) id,HB2.out⟩
include hc hN in
theorem Uxj:Calls prog 120 #[.agg #[n1,n2,bf,"2",Qv o1 l1 c1,true,Qv o2 l2 c2,Qv o3 l3 c3,Qv o4 l4 c4,Qv o5 l5 c5,Qv o6 l6 c6],.agg #[s,vc],(),()] w (Qv2 [Jqo cols,Jji cols] w):=by
 obtain⟨ca,cc,rfl,_⟩:=hc.shape;have tok1:Hid True:=trivial;have tok2:Hid True:=trivial;have tok3:Hid True:=trivial;have HC:=hid (fun(w':World) (hb:Below w.heap.size w w')=>hc.keep (.bel hb));have HN:=hid hN;clear hc hN;go_enter func120,ntmps120
 go_wp2_with(first
  |(at_builtin;have _t:=tok1;refine Qje rfl _ _ 27 rfl 106 _ 4 32 underlying27 Jqn rfl (by decide) (w.heap.size+1+1) () (Qv ca cols.length cc) [] cols rfl rfl (Qqf.nil ..) (HC.out _ (by go_grown)) (fun y _ cs h=>Jjh default y cs h) (by have:=HN.out;simp;omega) (by have:=HN.out;simp[maxLen];omega) (by simp) ?_;intro vx w1 ho hk hat;have hb:=Qyo hk;obtain⟨a1,p1,rfl,_⟩:=ho.shape;have hbw:Below w.heap.size w w1:=Below.trans (by go_grown) (hb.mono (by simp<;>omega));have hc1:Qq1 (Qjl (w.heap.size+1+1) ()) w1 (Qv a1 cols.length p1) cols:=ho.rows (fun k h1 h2 h=>h.elim (fun h=>by(try(have h8:=HB2.out.size));omega) (fun h=>by first|exact(Qyq h).elim|(have h9:=(Qqf.lt HO2.out h).2;omega)));obtain⟨k1,k2,k3⟩:=Jq2 hb;(try simp only[Zn] at k1 k2 k3);have k4:w.heap.size<w1.heap.size:=(by(try(have h8:=HB2.out.size));omega);have k5:w.heap.size+1<w1.heap.size:=(by(try(have h8:=HB2.out.size));omega);have HC1:=hid hc1;have HB1:=hid hbw;have HKw1:=hid hk;clear ho hk hat hb hbw hc1 tok1)
  |(go_at_call 145;refine(Jwi _).mono ?_;rintro e w9 ⟨rfl,rfl⟩)
  |(at_builtin;have _t:=tok2;refine Qzj (w:=w1) Qxn rfl _ _ 119 rfl 196 _ 4 72 underlying119 Qv0 rfl (by decide) (w.heap.size+1+1) () w1.heap.size (#[.string ⟨#[79,76,68]⟩,true,Qv a1 cols.length p1,()]) [] (Jqo cols) rfl rfl rfl (Qqn.nil (w.heap.size+1+1) w1 196 4 Qvb) rfl (Qwy HC1.out) ?_ ?_ ?_ ?_;(focus(simp;done));(focus(simp[maxLen];done));(focus omega);intro v2 w2 ho hk;have hb2:=Jvz (lo:=w.heap.size+1+1) (s:=w.heap.size) HB1.out (Qqn.nil (w.heap.size+1+1) w1 196 4 Qvb) (by omega) HB1.out.size hk;have j1:=Jzc (lo:=w.heap.size+1+1) (Qqn.nil (w.heap.size+1+1) w1 196 4 Qvb) hk (by omega);have j4:w.heap.size<w.heap.size+1+1:=(by omega);have j5:=hk.size;have HO2:=hid ho;have HB2:=hid hb2;clear ho hk hb2;clear tok2)
  |(at_builtin;have _t:=tok3;refine Qje rfl _ _ 27 rfl 106 _ 4 32 underlying27 Jqn rfl (by decide) w2.heap.size () (Qv ca cols.length cc) [] cols rfl rfl (Qqf.nil ..) (HC.out _ HB2.out) (fun y _ cs h=>Jjh default y cs h) (by have:=HN.out;simp;omega) (by have:=HN.out;simp[maxLen];omega) (by simp) ?_;intro vx w3 ho hk hat;have hb:=Qyo hk;obtain⟨a3,p3,rfl,_⟩:=ho.shape;have hbw:Below w.heap.size w w3:=HB2.out.trans (hb.mono HB2.out.size);have hc1:Qq1 (Qjl (w.heap.size+1+1) v2) w3 (Qv a3 cols.length p3) cols:=ho.rows (fun k h1 h2 h=>h.elim (fun h=>by(try(have h8:=HB2.out.size));omega) (fun h=>by first|exact(Qyq h).elim|(have h9:=(Qqf.lt HO2.out h).2;omega)));obtain⟨k1,k2,k3⟩:=Jq2 hb;(try simp only[Zn] at k1 k2 k3);have k4:w.heap.size<w3.heap.size:=(by(try(have h8:=HB2.out.size));omega);have k5:w.heap.size+1<w3.heap.size:=(by(try(have h8:=HB2.out.size));omega);have HC3:=hid hc1;have HB3:=hid hbw;have HKw3:=hid hk;clear ho hk hat hb hbw hc1 tok3)
  |(at_builtin;refine Qzj (w:=w3) Qxn rfl _ _ 119 rfl 196 _ 4 72 underlying119 Qv0 rfl (by decide) (w.heap.size+1+1) v2 w3.heap.size (#[.string ⟨#[78,69,87]⟩,true,Qv a3 cols.length p3,()]) [Jqo cols] (Jji cols) rfl rfl rfl (Qqn.bel Qxn HO2.out (Qyo HKw3.out)) rfl (Qwy HC3.out) ?_ ?_ ?_ ?_;(focus(simp;done));(focus(simp[maxLen];done));(focus omega);intro v4 w4 ho hk;have hb2:=Jvz (lo:=w.heap.size+1+1) (s:=w.heap.size) HB3.out (Qqn.bel Qxn HO2.out (Qyo HKw3.out)) (by omega) HB3.out.size hk;have j1:=Jzc (lo:=w.heap.size+1+1) (Qqn.bel Qxn HO2.out (Qyo HKw3.out)) hk (by omega);have j4:w.heap.size<w.heap.size+1+1:=(by omega);have j5:=hk.size;have HO4:=hid ho;have HB4:=hid hb2;clear ho hk hb2))
 go_ret;exact⟨_,rfl,Qqn.of Qxn HO4.out (by omega) fun k _ h=>h.imp (fun h=>by omega) id,HB4.out⟩
end
def Yw9(r:Int)(cols:List Col):List Frm:=if r=0 then[Jji cols] else if r=1 then[Jqo cols,Jji cols] else[Jqo cols]
theorem Uqy(r:Int)(h0:0≤r)(h1:r<3)(n1 n2:ByteArray)(bf:Bool)(o1 o2 o3 o4 o5 o6:Option Addr)(l1 l2 l3 l4 l5 l6 c1 c2 c3 c4 c5 c6:Nat)(s:ByteArray)(vc:Value)(cols:List Col)(w:World)(hc:Qq1 NoM w vc cols)(hN:cols.length≤1000000):
 Calls prog 120 #[.agg #[n1,n2,bf,.int .i64 (1+r),Qv o1 l1 c1,true,Qv o2 l2 c2,Qv o3 l3 c3,Qv o4 l4 c4,Qv o5 l5 c5,Qv o6 l6 c6],.agg #[s,vc],(),()] w (Qv2 (Yw9 r cols) w):=by
 have h:r=0∨r=1∨r=2:=by omega
 rcases h with rfl|rfl|rfl
 ·exact Uxh _ _ _ _ _ _ _ _ _ _ _ _ _ _ _ _ _ _ _ _ _ _ _ _ _ hc hN
 ·exact Uxj _ _ _ _ _ _ _ _ _ _ _ _ _ _ _ _ _ _ _ _ _ _ _ _ _ hc hN
 ·exact Uxi _ _ _ _ _ _ _ _ _ _ _ _ _ _ _ _ _ _ _ _ _ _ _ _ _ hc hN
theorem Uqz{α:Type}{lo:Nat}{w:World}{arr:Array Value}{e:TypeId}{size g:Nat}{R:α→List Value→Prop}(x:α)(hg:g=w.heap.size)(hlo:lo≤w.heap.size)(hs:arr.toList.length=size)(hR:R x arr.toList):
 Qqf lo (w.alloc (.cells arr e)) e size R (Qv (some ⟨g,0,none⟩) 1 1) [x]:=by
 subst hg;refine⟨[arr.toList],⟨by simpa using hs,.inr ⟨w.heap.size,1,arr,rfl,hlo,Zw w _,Zz _,by unfold maxLen;omega,by simpa using hs,?_⟩⟩,rfl,by simpa using hs,fun i y cs hi hc=>?_⟩
 ·have:(1:Nat)*size=arr.toList.length:=by rw[hs];omega
  simp only[Jp,this,Yr,List.flatten_nil,Jb,Jo]
 ·match i with
  |0=>simp at hi hc;subst hi;subst hc;exact hR
  |i+1=>simp at hi
theorem Yxs{α:Type}{M:Nat→Prop}{w w':World}{size:Nat}{R:α→List Value→Prop}{v:Value}{xs:List α}(h:Qqa M w size R v xs)(k:Qqb M w w'):Qqa M w' size R v xs:=Qqa.map h k fun _ _ _ h=>h
theorem Qql.own{T:Nat}{w w' wx:World}{α:Type}{lo:Nat}{e:TypeId}{size:Nat}{R:(Nat→Prop)→World→α→List Value→Prop}{v:Value}{xs:List α}(h:Qql T w)(ho:Qqn lo wx e size R v xs)(hT:T<lo)(hk:Qqb (Qq4 v) w w'):Qql T w':=
 h.keep hk fun k hk hx=>by have:=(Qqf.lt ho hx).1;omega
theorem Qqb.own{T:Nat}{w0 w w' wx:World}{α:Type}{e:TypeId}{size:Nat}{R:(Nat→Prop)→World→α→List Value→Prop}{v:Value}{xs:List α}{lo:Nat}(h:Qqb (At T) w0 w)(ho:Qqn lo wx e size R v xs)(hlo:w0.heap.size≤lo)(hk:Qqb (Qq4 v) w w'):Qqb (At T) w0 w':=
 h.then hk fun k hk hx=>by have:=(Qqf.lt ho hx).1;omega
section
variable(o:Int) (no:Bool) (vk vi:Int) (vt t nm:ByteArray) (a s:Option Addr) (n m ac sc:Nat) (w:World)
end
theorem Qqr.c10{w:World}{b o:Nat}{a0 a1 a2 a3 a4 a5 a6 a7 a8 a9:Value}(h:Qqr w b o [a0,a1,a2,a3,a4,a5,a6,a7,a8,a9]):
 w.cell? ⟨b,o,none⟩=some a0∧w.cell? ⟨b,o+1,none⟩=some a1∧w.cell? ⟨b,o+2,none⟩=some a2∧w.cell? ⟨b,o+3,none⟩=some a3∧w.cell? ⟨b,o+4,none⟩=some a4∧
 w.cell? ⟨b,o+5,none⟩=some a5∧w.cell? ⟨b,o+6,none⟩=some a6∧w.cell? ⟨b,o+7,none⟩=some a7∧w.cell? ⟨b,o+8,none⟩=some a8∧w.cell? ⟨b,o+9,none⟩=some a9:=
 ⟨h 0 _ rfl,h 1 _ rfl,h 2 _ rfl,h 3 _ rfl,h 4 _ rfl,h 5 _ rfl,h 6 _ rfl,h 7 _ rfl,h 8 _ rfl,h 9 _ rfl⟩
def Yqi(ts:List Sch):Prop:=∀s∈ts,s.cols.length*32≤140737488355328
def Jjj(W:World)(L:List (Nat×Nat×Value)):Prop:=∀p∈L,W.cell? ⟨p.1,p.2.1,none⟩=some p.2.2
theorem Jjj.nil(W:World):Jjj W []:=fun _ h=>by cases h
theorem Jjj.cons{W:World}{b o:Nat}{v:Value}{L:List (Nat×Nat×Value)}(h:W.cell? ⟨b,o,none⟩=some v)(hl:Jjj W L):Jjj W ((b,o,v)::L):=by
 intro p hp;rcases Zs.1 hp with rfl|hp
 ·exact h
 ·exact hl p hp
theorem Jjj.bel{W W':World}{L:List (Nat×Nat×Value)}(h:Jjj W L)(hb:Below W.heap.size W W'):Jjj W' L:=fun p hp=>by
 have:=h p hp;exact(hb.cell (Za _ _ this)).trans this
theorem Jjj.alloc{W:World}{L:List (Nat×Nat×Value)}(h:Jjj W L)(o:Obj):Jjj (W.alloc o) L:=h.bel ((Below.refl _ _).alloc (Zz _) o)
section
variable(ts:List Sch) (k o:Int) (no:Bool) (vk vi:Int) (vt t nm:ByteArray) (a sa:Option Addr) (an ac:Nat) (sc sb so:Nat) (star:Bool) (frm:ByteArray) (ia wa:Option Addr) (ic wc:Nat) (items whr:List Ex) (fs:List Frm) (vf vtb:Value) (w:World)
 (hsb:sb<w.heap.size) (q0:w.cell? ⟨sb,so,none⟩=some (.bool star)) (q1:w.cell? ⟨sb,so+1,none⟩=some (Qv ia items.length ic)) (q2:w.cell? ⟨sb,so+2,none⟩=some (.string frm)) (q3:w.cell? ⟨sb,so+3,none⟩=some (Qv wa whr.length wc))
 (hts:Qw5 NoM w vtb ts) (hsm:Yqi ts)
include hsb q0 q1 q2 q3 hts in
end
section
variable(ts:List Sch) (k o:Int) (no:Bool) (vk vi:Int) (vt t nm:ByteArray) (a sa:Option Addr) (an ac:Nat) (sc sb so:Nat) (star:Bool) (frm:ByteArray) (ib io:Nat) (wa:Option Addr) (ic wc:Nat) (x:Ex) (whr:List Ex) (fs:List Frm) (vf vtb:Value) (w:World)
 (hsb:sb<w.heap.size) (q0:w.cell? ⟨sb,so,none⟩=some (.bool star)) (q1:w.cell? ⟨sb,so+1,none⟩=some (Qv (some ⟨ib,io,none⟩) 1 ic)) (q2:w.cell? ⟨sb,so+2,none⟩=some (.string frm)) (q3:w.cell? ⟨sb,so+3,none⟩=some (Qv wa whr.length wc))
 (hts:Qw5 NoM w vtb ts) (hsm:Yqi ts)
include hsb q0 q1 q2 q3 hts hsm in
end
section
variable{H:Type} {enc:TypeId×Value→H} {P:Program} {W:World} {t e:TypeId} {size:Nat} {v:Value} {d:DataW H}
def Rd(enc:TypeId×Value→H)(P:Program)(W:World)(t:TypeId)(cs:List Value)(d:DataW H):Prop:=∃fuel ps,DataW.trod enc P W 0 (fun _=>true) true fuel t cs=some (d,ps)
theorem Uq0{cs:List Value}(ht:P.underlying t=some .string)(h:Rd enc P W t cs d):∃s:ByteArray,cs=[.string s]∧s.size≤maxLen:=by
 obtain⟨fuel,ps,h⟩:=h;obtain⟨s,h1,_,h2⟩:=DataW.trod_string ht h;exact⟨s,h1,h2⟩
theorem Uwg{a:Option Addr}{len cap:Nat}(ht:P.underlying t=some (.slice e))(he:P.underlying e=some (.int .i64))(hc:P.cellsOf e=1)(h:Rd enc P W t [Qv a len cap] d):
 len≤maxLen∧len≤cap∧(len=0∨∃b o,a=some ⟨b,o,none⟩∧b<W.heap.size∧∀i,i<len→∃z:Int,W.cell? ⟨b,o+i,none⟩=some (.int .i64 z)):=by
 obtain⟨fuel,ps,h⟩:=h
 rcases Go.ChangeShapes.open_ints ht he hc h with⟨hcs,_⟩|⟨a',len',cap',zs,hcs,_,hl,hm,hz,_,hcell,_⟩
 ·simp only[List.cons.injEq,Yz,and_true] at hcs;obtain⟨rfl,rfl,rfl⟩:=hcs;exact⟨Zi _,Zz _,.inl rfl⟩
 ·simp only[List.cons.injEq,Yz,and_true] at hcs;obtain⟨rfl,rfl,rfl⟩:=hcs;simp only[if_true] at hz;by_cases h0:len=0
  ·exact⟨by omega,hl,.inl h0⟩
  ·obtain⟨b,off,rfl,hb⟩:=ints_at hcell (by omega);exact⟨by omega,hl,.inr ⟨b,off,rfl,Za _ _ (hb 0 (by omega)),fun i hi=>⟨_,hb i (by omega)⟩⟩⟩
theorem Uxk{ts:List TypeId}{vs:List Value}{ds:List (DataW H)}{ps:List MemPlace}(h:DataW.TrodAll enc P W 0 (fun _=>true) true ts vs ds ps):
 vs.length=ts.length∧ds.length=ts.length∧∀(i:Nat) (t:TypeId) (v:Value) (d:DataW H),ts[i]?=some t→vs[i]?=some v→ds[i]?=some d→Rd enc P W t v.cells.toList d:=by
 induction ts generalizing vs ds ps with
 |nil=>
  obtain⟨rfl,rfl,_⟩:=Go.ChangeShapes.trodAll_nil h;exact⟨rfl,rfl,by simp⟩
 |cons t ts ih=>
  obtain⟨v,vs',d,ds',p,q,rfl,rfl,_,h1,h2⟩:=Go.ChangeShapes.trodAll_cons h;obtain⟨l1,l2,hr⟩:=ih h2;refine⟨by simp[l1],by simp[l2],fun i t' v' d' ht hv hd=>?_⟩
  cases i with
  |zero=>
   simp at ht hv hd;subst ht;subst hv;subst hd;obtain⟨n,hn⟩:=h1;exact⟨n,_,hn⟩
  |succ i=>exact hr i t' v' d' (by simpa using ht) (by simpa using hv) (by simpa using hd)
end
theorem Kj8:prog.cellsOf 3=1:=by kernel_rfl
theorem Uy0{α:Type}{l:List α}(h:l.length=3):∃a b c,l=[a,b,c]:=by
 match l,h with
 |[a,b,c],_=>exact⟨a,b,c,rfl⟩
section
variable{H:Type} {enc:TypeId×Value→H} {W:World} {d:DataW H} {cs:List Value} {v:Value}
def Jvb(v:Val):Prop:=v.text.size≤maxLen∧-9223372036854775808≤v.int∧v.int≤9223372036854775807∧-9223372036854775808≤v.kind∧v.kind≤9223372036854775807
theorem Uwh{a:Option Addr}{len cap:Nat}(h:Rd enc prog W 22 [Qv a len cap] d):Jz4 W (Qv a len cap):=by
 obtain⟨h1,h2,h3⟩:=Uwg underlying22 underlying3 Kj8 h;exact⟨a,len,cap,rfl,h1,h2,h3⟩
end
def Yqj(M:Nat→Prop)(w:World)(v:Value)(l:List Val):Prop:=Qqa M w 3 Kj6 v l
theorem Yqj.keep{M:Nat→Prop}{w w':World}{v:Value}{l:List Val}(h:Yqj M w v l)(k:Qqb M w w'):Yqj M w' v l:=Qqa.map h k fun _ _ _ h=>h
theorem Yqj.weak{M M':Nat→Prop}{w:World}{v:Value}{l:List Val}(h:Yqj M w v l)(hM:∀k,k<w.heap.size→M' k→M k):Yqj M' w v l:=Qqa.weak h hM fun _ _ _ h=>h
theorem Qqr.vals{w:World}{b o:Nat}{v:Val}(h:Qqr w b o (Yxi v)):w.cell? ⟨b,o,none⟩=some (.int .i64 v.kind)∧w.cell? ⟨b,o+1,none⟩=some (.int .i64 v.int)∧w.cell? ⟨b,o+2,none⟩=some (.string v.text):=⟨h 0 _ rfl,h 1 _ rfl,h 2 _ rfl⟩
open Go.RowKit Go.Sort
def Qzf(w:World):Prop:=Lib.TabIs prog w "internal/strconv.uint64pow10" .u64 Lib.pow10Tab∧∃m:Int,w.cell? ⟨6,0,none⟩=some (.int .i64 m)
theorem Kjw:prog.globalNamed "internal/strconv.uint64pow10"=some 8:=by kernel_rfl
theorem Qzf.keep{M:Nat→Prop}{w w':World}(h:Qzf w)(k:Qqb M w w')(hM:∀k,k≤10→¬M k)(hs:10<w.heap.size):Qzf w':=by
 obtain⟨h1,m,h2⟩:=h;refine⟨?_,m,(k.cell (Za _ _ h2) (hM _ (by decide))).trans h2⟩;unfold Lib.TabIs World.var? at h1⊢;simp only[Kjw,Option.bind_some] at h1⊢;rw[k.block 8 (by omega) (hM _ (by decide))];exact h1
theorem Qzf.bel{w w':World}(h:Qzf w)(hb:Below w.heap.size w w')(hs:10<w.heap.size):Qzf w':=h.keep (M:=fun _=>False) (.bel hb) (fun _ _=>id) hs
theorem Yxt{w w':World}{k:Nat}{os:Array Obj}(h:w'=grow (w.drewN k) os):Below w.heap.size w w':=by
 subst h;refine⟨rfl,rfl,rfl,by simp[grow,World.drewN],fun i hi=>?_⟩;show(w.heap++os)[i]?=w.heap[i]?;rw[Array.getElem?_append_left hi]
theorem Qk0{a b:ByteArray}(h:a=b):Ending.returned a=.returned b:=by rw[h]
def txt(l:List UInt8):ByteArray:=⟨l.toArray⟩
theorem Jwj(n:Int)(h0:-9223372036854775808≤n)(h1:n≤9223372036854775807)(w:World)(h:Qzf w):Calls prog 66 #[n,.int .i64 10] w (Qqd (.string (txt (Lib.itoa n))) w):=
 (Tryz.strconv_FormatInt_10 n h0 h1 w h.1).mono fun _ _ ⟨he,_,_,hw⟩=>⟨he,Yxt hw⟩
theorem Yqk(s:ByteArray)(hs:s.size≤64)(w:World)(h:Qzf w):Calls prog 67 #[s,.string ⟨#[39]⟩,.string ⟨#[39,39]⟩] w (Qqd (.string (txt (Lib.replaceAll s.data.toList [39] [39,39]))) w):=by
 obtain⟨_,m,hm⟩:=h;refine(Tryz.strings_ReplaceAll s ⟨#[39]⟩ ⟨#[39,39]⟩ m w (by omega) hm (by decide) ?_).mono fun _ _ h=>h;have h1:Lib.countB s ⟨#[39]⟩*1≤s.size:=Lib.countB_mul_le ⟨#[39]⟩ (by decide) s.size s (Zz _);have h2:(⟨#[39,39]⟩:ByteArray).size=2:=rfl;rw[h2];omega
theorem Jxw(old new:List UInt8):∀(k:Nat) (s:List UInt8),(Lib.replaceK old new k s).length≤s.length+k*new.length
 |0,s=>by simp[Lib.replaceK]
 |k+1,s=>by
  rw[Lib.replaceK]
  split
  ·omega
  ·have:=Jxw old new k (s.drop ((Lib.index s old).toNat+old.length));simp only[Zr,Jm,List.length_drop] at this⊢;rw[Nat.succ_mul];omega
theorem Jjk(s:ByteArray)(hs:s.size≤64):(txt (Lib.replaceAll s.data.toList [39] [39,39])).size≤1000:=by
 show(Lib.replaceAll s.data.toList [39] [39,39]).length≤1000;have hc:Lib.countB s ⟨#[39]⟩≤s.size:=Lib.countB_le ⟨#[39]⟩ (by decide) s.size s (Zz _);have hc2:Lib.count s.data.toList [39]≤64:=Ya hc hs;have hl:s.data.toList.length=s.size:=by simp
 unfold Lib.replaceAll Lib.replace;rw[if_neg (by decide)];have:=Jxw [39] [39,39] (Lib.replaceNum s.data.toList [39] (-1)) s.data.toList
 have h2:Lib.replaceNum s.data.toList [39] (-1)≤64:=by
  unfold Lib.replaceNum;rw[if_pos (by simp)];exact hc2
 simp only[Zb,Yw] at this;omega
theorem Uxl(l:List UInt8):(⟨#[39]⟩:ByteArray)++txt l++⟨#[39]⟩=txt (39::(l++[39])):=by
 apply Qv1;unfold txt;rw[ByteArray.mk_append_mk,ByteArray.mk_append_mk];simp
theorem Uxm(v:Val)(hv:Jvb v)(w:World)(h:Qzf w)(hs:10<w.heap.size):Calls prog 25 #[Qkt v] w (Qqd (.string (txt (Qzt v))) w):=by
 obtain⟨k,n,s⟩:=v;have hval:=fun w'=>Uqw ⟨k,n,s⟩ w' hv.1;cases hb:Qqs ⟨k,n,s⟩
 ·rw[hb] at hval;have HF:Hid (Qzt ⟨k,n,s⟩=[63]):=hid (by simp[Qzt,hb]);unfold Qkt at hval⊢;have HV:=hid hval;clear hval hb;generalize Qzt ⟨k,n,s⟩=r at HF⊢;go_enter func25,ntmps25;go_wp2_with fail
  refine(HV.out _).mono ?_;rintro e w1 ⟨rfl,hb⟩;have HB:=hid hb;clear hb;dsimp only;go_wp2_with fail
  go_ret;exact⟨Qk0 (by rw[HF.out];rfl),((Below.refl _ w).alloc (Zz _) _).trans (HB.out.mono (by simp))⟩
 ·rw[hb] at hval;unfold Qkt at hval⊢;have HV:=hid hval;have HB:=hid hb;have HOK:=hid hv;have HL:=hid h;clear hval hv h;go_enter func25,ntmps25;go_wp2_with fail
  refine(HV.out _).mono ?_;rintro e w1 ⟨rfl,hb1⟩;obtain⟨k1,k2,k3⟩:=Jq2 hb1;simp only[Zn] at k1 k2 k3;have c0:w1.cell? ⟨w.heap.size,0,none⟩=some (.int .i64 k):=(k1 _ _ (by omega)).trans (by simp);have c1:w1.cell? ⟨w.heap.size,1,none⟩=some (.int .i64 n):=(k1 _ _ (by omega)).trans (by simp);have c2:w1.cell? ⟨w.heap.size,2,none⟩=some (.string s):=(k1 _ _ (by omega)).trans (by simp);have HW:=hid (((Below.refl _ w).alloc (Zz _) _).trans (hb1.mono (by simp)));have HL1:=hid (HL.out.bel HW.out hs);clear k1 k2 hb1;dsimp only
  have hk:k=0∨k=1∨k=2∨k=3:=by
   have:=HB.out;unfold Qqs at this;simp only at this;by_cases h0:k=0
   ·exact .inl h0
   by_cases h1:k=1
   ·exact .inr (.inl h1)
   by_cases h2:k=2
   ·exact .inr (.inr (.inl h2))
   by_cases h3:k=3
   ·exact .inr (.inr (.inr h3))
   simp[h0,h1,h2,h3] at this
  rcases hk with rfl|rfl|rfl|rfl
  ·have HF:Hid (Qzt ⟨0,n,s⟩=[78,85,76,76]):=hid (by simp[Qzt,HB.out]);go_wp2_with fail
   go_ret;exact⟨Qk0 (by rw[HF.out];rfl),HW.out⟩
  ·have HF:Hid (Qzt ⟨1,n,s⟩=Lib.itoa n):=hid (by simp[Qzt,HB.out]);go_wp2_with fail
   refine(Jwj n HOK.out.2.1 HOK.out.2.2.1 _ HL1.out).mono ?_;rintro e w2 ⟨rfl,hb2⟩;have HB2:=hid (Qqu HW.out hb2);clear hb2;dsimp only;go_wp2_with fail
   go_ret;exact⟨Qk0 (by rw[HF.out]),HB2.out⟩
  ·have hn:n=0∨n=1:=by
    have:=HB.out;simp[Qqs] at this;exact this.1
   have i0:∀w,(Instr.index 135 (.agg #[.string ⟨#[70,65,76,83,69]⟩,.string ⟨#[84,82,85,69]⟩]) (.int .i64 0)).run prog w=.ok (.string ⟨#[70,65,76,83,69]⟩) w:=fun _=>by kernel_rfl
   have i1:∀w,(Instr.index 135 (.agg #[.string ⟨#[70,65,76,83,69]⟩,.string ⟨#[84,82,85,69]⟩]) (.int .i64 1)).run prog w=.ok (.string ⟨#[84,82,85,69]⟩) w:=fun _=>by kernel_rfl
   rcases hn with rfl|rfl
   ·have HF:Hid (Qzt ⟨2,0,s⟩=[70,65,76,83,69]):=hid (by simp[Qzt,HB.out]);go_wp2_with fail
    go_ret;exact⟨Qk0 (by rw[HF.out];rfl),HW.out⟩
   ·have HF:Hid (Qzt ⟨2,1,s⟩=[84,82,85,69]):=hid (by simp[Qzt,HB.out]);go_wp2_with fail
    go_ret;exact⟨Qk0 (by rw[HF.out];rfl),HW.out⟩
  ·have HF:Hid (Qzt ⟨3,n,s⟩=39::(Lib.replaceAll s.data.toList [39] [39,39]++[39])):=hid (by simp[Qzt,HB.out])
   have hs64:s.size≤64:=by
    have:=HB.out;simp[Qqs,Qj2] at this;exact this.2.2
   have hr:=Jjk s hs64;have HQ:=hid (Uxl (Lib.replaceAll s.data.toList [39] [39,39]));go_wp2_with fail
   refine(Yqk s hs64 _ HL1.out).mono ?_;rintro e w2 ⟨rfl,hb2⟩;have HB2:=hid (Qqu HW.out hb2);clear hb2;dsimp only;go_wp2_with fail
   go_ret;exact⟨Qk0 (by rw[HF.out];exact HQ.out),HB2.out⟩
theorem Jkl(v:Val)(hv:Jvb v)(w:World)(h:Qzf w)(hs:10<w.heap.size):Calls prog 50 #[Qkt v] w (Qqd (.string (txt (Qzt v))) w):=by
 obtain⟨k,n,s⟩:=v;have hval:=fun w'=>Jz6 ⟨k,n,s⟩ w' hv.1;cases hb:Qqs ⟨k,n,s⟩
 ·rw[hb] at hval;have HF:Hid (Qzt ⟨k,n,s⟩=[63]):=hid (by simp[Qzt,hb]);unfold Qkt at hval⊢;have HV:=hid hval;clear hval hb;generalize Qzt ⟨k,n,s⟩=r at HF⊢;go_enter func50,ntmps50;go_wp2_with fail
  refine(HV.out _).mono ?_;rintro e w1 ⟨rfl,hb⟩;have HB:=hid hb;clear hb;dsimp only;go_wp2_with fail
  go_ret;exact⟨Qk0 (by rw[HF.out];rfl),((Below.refl _ w).alloc (Zz _) _).trans (HB.out.mono (by simp))⟩
 ·rw[hb] at hval;unfold Qkt at hval⊢;have HV:=hid hval;have HB:=hid hb;have HOK:=hid hv;have HL:=hid h;clear hval hv h;go_enter func50,ntmps50;go_wp2_with fail
  refine(HV.out _).mono ?_;rintro e w1 ⟨rfl,hb1⟩;obtain⟨k1,k2,k3⟩:=Jq2 hb1;simp only[Zn] at k1 k2 k3;have c0:w1.cell? ⟨w.heap.size,0,none⟩=some (.int .i64 k):=(k1 _ _ (by omega)).trans (by simp);have c1:w1.cell? ⟨w.heap.size,1,none⟩=some (.int .i64 n):=(k1 _ _ (by omega)).trans (by simp);have c2:w1.cell? ⟨w.heap.size,2,none⟩=some (.string s):=(k1 _ _ (by omega)).trans (by simp);have HW:=hid (((Below.refl _ w).alloc (Zz _) _).trans (hb1.mono (by simp)));have HL1:=hid (HL.out.bel HW.out hs);clear k1 k2 hb1;dsimp only
  have hk:k=0∨k=1∨k=2∨k=3:=by
   have:=HB.out;unfold Qqs at this;simp only at this;by_cases h0:k=0
   ·exact .inl h0
   by_cases h1:k=1
   ·exact .inr (.inl h1)
   by_cases h2:k=2
   ·exact .inr (.inr (.inl h2))
   by_cases h3:k=3
   ·exact .inr (.inr (.inr h3))
   simp[h0,h1,h2,h3] at this
  rcases hk with rfl|rfl|rfl|rfl
  ·have HF:Hid (Qzt ⟨0,n,s⟩=[78,85,76,76]):=hid (by simp[Qzt,HB.out]);go_wp2_with fail
   go_ret;exact⟨Qk0 (by rw[HF.out];rfl),HW.out⟩
  ·have HF:Hid (Qzt ⟨1,n,s⟩=Lib.itoa n):=hid (by simp[Qzt,HB.out]);go_wp2_with fail
   refine(Jwj n HOK.out.2.1 HOK.out.2.2.1 _ HL1.out).mono ?_;rintro e w2 ⟨rfl,hb2⟩;have HB2:=hid (Qqu HW.out hb2);clear hb2;dsimp only;go_wp2_with fail
   go_ret;exact⟨Qk0 (by rw[HF.out]),HB2.out⟩
  ·have hn:n=0∨n=1:=by
    have:=HB.out;simp[Qqs] at this;exact this.1
   have i0:∀w,(Instr.index 135 (.agg #[.string ⟨#[70,65,76,83,69]⟩,.string ⟨#[84,82,85,69]⟩]) (.int .i64 0)).run prog w=.ok (.string ⟨#[70,65,76,83,69]⟩) w:=fun _=>by kernel_rfl
   have i1:∀w,(Instr.index 135 (.agg #[.string ⟨#[70,65,76,83,69]⟩,.string ⟨#[84,82,85,69]⟩]) (.int .i64 1)).run prog w=.ok (.string ⟨#[84,82,85,69]⟩) w:=fun _=>by kernel_rfl
   rcases hn with rfl|rfl
   ·have HF:Hid (Qzt ⟨2,0,s⟩=[70,65,76,83,69]):=hid (by simp[Qzt,HB.out]);go_wp2_with fail
    go_ret;exact⟨Qk0 (by rw[HF.out];rfl),HW.out⟩
   ·have HF:Hid (Qzt ⟨2,1,s⟩=[84,82,85,69]):=hid (by simp[Qzt,HB.out]);go_wp2_with fail
    go_ret;exact⟨Qk0 (by rw[HF.out];rfl),HW.out⟩
  ·have HF:Hid (Qzt ⟨3,n,s⟩=39::(Lib.replaceAll s.data.toList [39] [39,39]++[39])):=hid (by simp[Qzt,HB.out])
   have hs64:s.size≤64:=by
    have:=HB.out;simp[Qqs,Qj2] at this;exact this.2.2
   have hr:=Jjk s hs64;have HQ:=hid (Uxl (Lib.replaceAll s.data.toList [39] [39,39]));go_wp2_with fail
   refine(Yqk s hs64 _ HL1.out).mono ?_;rintro e w2 ⟨rfl,hb2⟩;have HB2:=hid (Qqu HW.out hb2);clear hb2;dsimp only;go_wp2_with fail
   go_ret;exact⟨Qk0 (by rw[HF.out];exact HQ.out),HB2.out⟩
def Yql:DataW Unit→List Value
 | .lit (.int k z)=>[.int k z]
 | .lit (.string s)=>[.string ⟨s.toArray⟩]
 |_=>[]
def Uq1:DataW Unit→List Value
 | .lit l=>Yql (.lit l)
 | .agg xs=>xs.flatMap Yql
 |_=>[]
def Qx9:DataW Unit→Array Value
 | .agg xs=>(xs.flatMap Uq1).toArray
 |_=>#[]
theorem Kj9:(prog.globals[8]?).map (·.type)=some 224:=by kernel_rfl
theorem Uxn{W:World}{rest:List (String×DataW Unit)}(h:laidMet prog (("internal/strconv.uint64pow10",Rows.laid_internal_strconv_uint64pow10)::rest) W):Lib.TabIs prog W "internal/strconv.uint64pow10" .u64 Lib.pow10Tab:=
 Lib.tabIs_of_head (zs:=Lib.pow10Tab) Kjw Kj9 underlying224 underlying142 (by kernel_rfl) (by kernel_rfl) h
theorem Kqr{W:World}{rest:List (String×DataW Unit)}(h:laidMet prog (("internal/strconv.uint64pow10",Rows.laid_internal_strconv_uint64pow10)::rest) W)(hsh:W.ShapedOpen prog):Qzf W:=⟨Uxn h,Tryz.laysM155.s1_3 W hsh⟩
def WM(b:Nat)(w:World)(k:Nat):Prop:=k=b∨∃v,w.cell? ⟨b,0,none⟩=some v∧Qq4 v k
theorem Kj1{b:Nat}{w:World}{v:Value}{t:TypeId}(h:w.heap[b]?=some (.cells #[v] t (0,0))):w.cell? ⟨b,0,none⟩=some v∧(∀i,w.frozen? ⟨b,i,none⟩=false)∧b<w.heap.size:=
 ⟨by simp[World.cell?,h],fun i=>by simp[World.frozen?,h],(Zq.1 h).1⟩
theorem WM.of{b:Nat}{w:World}{v:Value}{t:TypeId}(h:w.heap[b]?=some (.cells #[v] t (0,0)))(k:Nat):WM b w k↔k=b∨Qq4 v k:=by
 unfold WM;rw[(Kj1 h).1];simp
theorem Qwc:(prog.info? 9).map (fun i=>(i.zero,i.size,i.bytes))=some (some (.string ⟨#[]⟩),1,16):=by kernel_rfl
theorem Qky(y:ByteArray)(cs:List Value)(h:Qjz y cs):∀u∈cs,u.oneCell'=true:=by
 subst h;simp[Value.oneCell']
def Jy2(c:UInt8):Bool:=decide (97≤c.toNat)&&decide (c.toNat≤122)
def Yvs(c:UInt8):Bool:=decide (48≤c.toNat)&&decide (c.toNat≤57)
def Jjl(c:UInt8):Bool:=Jy2 c||Yvs c||c.toNat==95
def Qqo(s:ByteArray):Bool:=decide (1≤s.size)&&decide (s.size≤12)&&s.data.toList.all Jjl&&(s.data.toList.head?.any Jy2)
def Jvc:List UInt8:=[73,78,83,69,82,84,69,68]
def Jvd:List UInt8:=[68,69,76,69,84,69,68]
def Qju(s:ByteArray):Bool:=Qqo s||s.toList==Jvc||s.toList==Jvd
def Qjj(t n:ByteArray):Bool:=(t.toList==[]||t.toList==[78,69,87]||t.toList==[79,76,68]||t.toList==Jvc||t.toList==Jvd||Qqo t)&&Qqo n
def Qw7(v:Val):Bool:=decide (v.kind=0)&&decide (v.int=0)&&Qq0 v.text
def Qvv(t n:ByteArray):Bool:=Qq0 t&&Qq0 n
mutual
def Qzn:Ex→Bool
 | .mk k o no v t nm args sub=>
   if k=1 then decide (o=0)&&!no&&Qvv t nm&&decide (args.length=0)&&decide (sub.length=0)&&Qqs v&&!(decide (v.kind=1)&&decide (v.int<0))
   else if k=2 then decide (o=0)&&!no&&Qw7 v&&decide (args.length=0)&&decide (sub.length=0)&&Qjj t nm
   else if 8≤k∧k≤12 then decide (o=0)&&!no&&Qw7 v&&Qvv t nm&&decide (args.length=0)&&decide (sub.length=1)&&Jz7 k sub
   else if k=5 then decide (1≤o)&&decide (o≤13)&&!no&&Qw7 v&&Qvv t nm&&decide (sub.length=0)&&decide (args.length=2)&&Qjc args
   else if k=6 then decide (o=0)&&Qw7 v&&Qvv t nm&&decide (sub.length=0)&&decide (args.length=1)&&Qjc args
   else decide (o=0)&&!no&&Qw7 v&&Qvv t nm&&decide (sub.length=0)&&decide ((args.length:Int)=if k=3∨k=4 then 1 else if k=7 then 3 else -1)&&Qjc args
def Jz7(k:Int):List Qu→Bool
 |[]=>true
 | .mk st items f whr::qs=>(st==decide (k=8))&&decide (items.length=if k=8∨k=9 then 0 else 1)&&Qju f&&decide (whr.length≤1)&&Qjc items&&Qjc whr&&Jz7 k qs
def Qjc:List Ex→Bool
 |[]=>true
 |e::es=>Qzn e&&Qjc es
end
theorem Qk2:∀l:List Ex,Qjc l=l.all Qzn
 |[]=>by simp[Qjc]
 |e::l=>by rw[Qjc,Qk2 l,List.all_cons]
theorem Qx2(e:Ex):Qzn e=
 if e.kind=1 then decide (e.op=0)&&!e.no&&Qvv e.table e.name&&decide (e.args.length=0)&&decide (e.sub.length=0)&&Qqs e.val&&!(decide (e.val.kind=1)&&decide (e.val.int<0))
 else if e.kind=2 then decide (e.op=0)&&!e.no&&Qw7 e.val&&decide (e.args.length=0)&&decide (e.sub.length=0)&&Qjj e.table e.name
 else if 8≤e.kind∧e.kind≤12 then decide (e.op=0)&&!e.no&&Qw7 e.val&&Qvv e.table e.name&&decide (e.args.length=0)&&decide (e.sub.length=1)&&Jz7 e.kind e.sub
 else if e.kind=5 then decide (1≤e.op)&&decide (e.op≤13)&&!e.no&&Qw7 e.val&&Qvv e.table e.name&&decide (e.sub.length=0)&&decide (e.args.length=2)&&Qjc e.args
 else if e.kind=6 then decide (e.op=0)&&Qw7 e.val&&Qvv e.table e.name&&decide (e.sub.length=0)&&decide (e.args.length=1)&&Qjc e.args
 else decide (e.op=0)&&!e.no&&Qw7 e.val&&Qvv e.table e.name&&decide (e.sub.length=0)&&decide ((e.args.length:Int)=if e.kind=3∨e.kind=4 then 1 else if e.kind=7 then 3 else -1)&&Qjc e.args:=by
 obtain⟨k,o,no,v,t,nm,args,sub⟩:=e;rw[Qzn];rfl
inductive Qxo:Ex→Prop
 |mk (e:Ex) (hv:e.val.text.size≤maxLen) (ht:e.table.size≤maxLen) (hn:e.name.size≤maxLen) (ha:∀a∈e.args,Qxo a) (hq:∀q∈e.sub,q.frm.size≤maxLen) (hi:∀q∈e.sub,∀x∈q.items,Qxo x) (hw:∀q∈e.sub,∀x∈q.whr,Qxo x):Qxo e
theorem Jy3(s:ByteArray)(w:World)(hs:s.size≤maxLen):Calls prog 107 #[s] w (Qqd (.bool (Qqo s)) w):=by
 unfold maxLen at hs;by_cases h0:s.size<1
 ·have hn:Hid (Qqo s=false):=hid (by unfold Qqo;simp;omega);have h0':((s.size:Int)<1):=by omega
  clear h0;go_enter func107,ntmps107;go_wp2_with fail
  go_ret;exact⟨Qzx hn.out.symm,Below.refl _ _⟩
 ·by_cases h12:12<s.size
  ·have hn:Hid (Qqo s=false):=hid (by unfold Qqo;simp;omega);have h12':((12:Int)<s.size):=by omega
   go_enter func107,ntmps107;go_wp2_with fail
   go_ret;exact⟨Qzx hn.out.symm,Below.refl _ _⟩
  ·have h0':¬((s.size:Int)<1):=by omega
   have h12':¬((12:Int)<s.size):=by omega
   have hz:0<s.size:=by omega
   have hL:s.data.toList=s[0]::s.data.toList.tail:=by
    rcases hd:s.data.toList with _|⟨c,l⟩
    ·have h1:=congrArg List.length hd;rw[Kt] at h1;exact absurd (show s.size=0 from h1) (by omega)
    ·have h1:s.data.toList[0]?=some c:=by rw[hd];rfl
     have h2:s.data.toList[0]?=some s[0]:=by simp[hz];rfl
     rw[h1] at h2;cases h2;rfl
   have hN:Qqo s=(decide (97≤s[0].toNat)&&s.data.toList.all Jjl):=by
    have e1:decide (1≤s.size)=true:=Yv (by omega);have e2:decide (s.size≤12)=true:=Yv (by omega);unfold Qqo;rw[e1,e2,hL];generalize s[0]=c;generalize s.data.toList.tail=l;simp only[List.all_cons,List.head?_cons,Option.any_some,Kk];cases hl:l.all Jjl
    ·simp
    ·simp only[Kb,Jjl,Jy2,Yvs];cases h97:decide (97≤c.toNat)
     ·simp
     ·have h97':97≤c.toNat:=by simpa using h97
      have h57:decide (c.toNat≤57)=false:=by simp;omega
      have h95:(c.toNat==95)=false:=by simp;omega
      simp[h57,h95]
   by_cases ha:(s[0].toNat:Int)<97
   ·have hn:Hid (Qqo s=false):=hid (by rw[hN];simp;omega);clear hN hL;go_enter func107,ntmps107;go_wp2_with fail
    go_ret;exact⟨Qzx hn.out.symm,Below.refl _ _⟩
   ·have HN:=hid hN;have hconv:=run_bytes_of_string (P:=prog) w 9 56 5 s underlying9 underlying56 underlying5;generalize hcap:grownCap w s.size 0 5=cap at hconv;have hcell:∀j (h:j<s.size),(bytesRow s cap)[j]?=some (.int .u8 (s[j].toNat:Int)):=fun j h=>bytesRow_at s cap j h;generalize bytesRow s cap=C at hconv hcell;have HC:=hid hcell;have h95:((s[0].toNat:Int)!=95)=true:=by simp;omega
    clear hN hL hcell;go_enter func107,ntmps107;go_wp2_with fail
    clear hconv;generalize hW:World.drew _=W2;have hB2:Below w.heap.size w W2:=by rw[←hW];exact((Below.refl _ _).alloc (Zz _) _).drew
    have hc2:∀j (h:j<s.size),W2.cell? ⟨w.heap.size,j,none⟩=some (.int .u8 (s[j].toNat:Int)):=fun j h=>by rw[←hW];exact(cell_of_row (w.alloc _) w.heap.size j C 5 _ (Zw w _)).trans (by simpa using HC.out j h)
    have HB2:=hid hB2;have HC2:=hid hc2;clear hW hB2 hc2 HC
    go_loopw[21] (fun i wr=>∃j:Nat,j≤s.size∧i=.int .i64 j∧wr=W2∧∀(m:Nat) (hm:m<s.size),m<j→Jjl s[m]=true) (fun i _=>s.size-(intOf i).toNat)
    case atStart=>exact⟨0,Zi _,rfl,rfl,fun m _ h=>absurd h (by omega)⟩
    case round=>
     obtain⟨j,hj,rfl,rfl,hno⟩:=hrel;have HNO:=hid hno;clear hno;by_cases hlt:j<s.size
     ·have c0:=HC2.out j hlt;have HQ:Hid (∀b,((decide (97≤s[j].toNat)&&decide (s[j].toNat≤122))||(decide (48≤s[j].toNat)&&decide (s[j].toNat≤57))||s[j].toNat==95)=b→Jjl s[j]=b):=hid fun b h=>h
      have HS:Hid (Jjl s[j]=false→Qqo s=false):=hid fun h=>by
       rw[HN.out,show s.data.toList.all Jjl=false from List.all_eq_false.2 ⟨s[j],Yt.2 ⟨j,by simpa using hlt,rfl⟩,by simp[h]⟩,Bool.and_false]
      generalize hnc:Jjl s[j]=nc at HQ HS;have HNC:=hid hnc;clear hnc;generalize s[j].toNat=ch at c0 HQ;go_wp2_with fail
      all_goals first
       |(go_ret
         refine⟨Qzx (HS.out (HQ.out false ?_)).symm,HB2.out⟩
         simp_all<;>omega)
       |(go_roundw
         case rel=>
          refine⟨j+1,by omega,by go_num,trivial,fun m hm h=>?_⟩;by_cases e:m=j
          ·subst e;rw[HNC.out];refine HQ.out true ?_;simp_all<;>omega
          ·exact HNO.out m hm (by omega)
         case measure=>simp[intOf];omega)
     ·obtain rfl:j=s.size:=by omega
      have hall:s.data.toList.all Jjl=true:=by
       rw[Yn];intro c hc;obtain⟨m,hm,rfl⟩:=Yt.1 hc;exact HNO.out m (by simpa using hm) (by simpa using hm)
      have hn:Hid (Qqo s=true):=hid (by rw[HN.out,hall];simp;omega);clear hall;go_wp2_with fail
      go_ret;exact⟨Qzx hn.out.symm,HB2.out⟩
end Go.Proofs.YtgepbohjmgaojaaGreatDoor
