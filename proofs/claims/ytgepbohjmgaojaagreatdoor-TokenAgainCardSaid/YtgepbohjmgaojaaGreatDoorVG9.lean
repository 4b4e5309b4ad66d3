/- A change that fits a table (Change). -/
import Derived.Test.YtgepbohjmgaojaaGreatDoorVG8
import Derived.Test.YtgepbohjmgaojaaGreatDoorU13
set_option linter.all false
namespace Go.Proofs.YtgepbohjmgaojaaGreatDoor
open World renaming alloc→Qw
open Value renaming slice→Qv
open Go.Proofs.Tryz
open Lib(hid)
open Go.RowKit
theorem OB.puts{T g:Nat}{w W:World}{c c':Array Value}{e:TypeId}{L:List Qqx}(h:OB T w W (⟨g,c,e⟩::L))(i:Nat)(cs:List Value)(hL:∀b∈L,b.pos≠g)(hc:c'.toList=Qyj c.toList i cs):OB T w (W.setCells g i cs) (⟨g,c',e⟩::L):=by
 obtain⟨cur,h1,h2⟩:=Qkx cs i W c (h.blk (Zv ..));have hcur:cur=c':=Array.toList_inj.1 (by rw[h2,hc]);have hg:w.heap.size≤g:=(h.blks _ (Zv ..)).1;exact((h.sub (L':=L) fun b hb=>Zl _ hb).then (Qqj cs i W) (fun j hj e=>by unfold At at e;omega) (fun b hb e=>hL b hb e)).add hg (hcur▸h1)
structure CX(T:Nat)(w W7:World)(p:Nat)(L:List Qqx)(W:World):Prop where
 ob:OB T w W L
 kp:Qqb (TOr T p) W7 W
section
variable{T p:Nat} {w W7 W W':World} {L L':List Qqx}
theorem CX.step(h:CX T w W7 p L W)(ht:Qql T W')(k:Qqb (At T) W W'):CX T w W7 p L W':=⟨h.ob.step ht k,h.kp.trans (k.weak fun _ _ h=>.inl h)⟩
theorem CX.bel(h:CX T w W7 p L W)(hb:Below W.heap.size W W'):CX T w W7 p L W':=h.step (h.ob.tape.bel hb) (.bel hb)
theorem CX.alloc(h:CX T w W7 p L W)(o:Obj):CX T w W7 p L (W.alloc o):=h.bel ((Below.refl _ _).alloc (Zz _) o)
theorem CX.new'(h:CX T w W7 p L W){g:Nat}(hg:g=W.heap.size)(cs:Array Value)(e:TypeId):CX T w W7 p (⟨g,cs,e⟩::L) (W.alloc (.cells cs e)):=⟨h.ob.new' hg cs e,(h.alloc _).kp⟩
theorem CX.drew(h:CX T w W7 p L W):CX T w W7 p L W.drew:=⟨h.ob.drew,h.kp.drew⟩
theorem CX.sub(h:CX T w W7 p L W)(hL:∀b∈L',b∈L):CX T w W7 p L' W:=⟨h.ob.sub hL,h.kp⟩
theorem CX.tl{b:Qqx}(h:CX T w W7 p (b::L) W):CX T w W7 p L W:=h.sub fun _ hb=>Zl _ hb
theorem CX.then{N:Nat→Prop}(h:CX T w W7 p L W)(k:Qqb N W W')(hN:∀i,N i→p≤i)(hp:w.heap.size≤p)(hL:∀b∈L,¬N b.pos):CX T w W7 p L W':=
 ⟨h.ob.then k (fun i hi hn=>by have:=hN i hn;omega) hL,h.kp.trans (k.weak fun i _ hn=>.inr (hN i hn))⟩
theorem CX.puts{g:Nat}{c c':Array Value}{e:TypeId}(h:CX T w W7 p (⟨g,c,e⟩::L) W)(hg:p≤g)(i:Nat)(cs:List Value)(hL:∀b∈L,b.pos≠g)(hc:c'.toList=Qyj c.toList i cs):CX T w W7 p (⟨g,c',e⟩::L) (W.setCells g i cs):=
 ⟨h.ob.puts i cs hL hc,h.kp.trans ((Qqj cs i W).weak fun j _ hj=>.inr (by unfold At at hj;omega))⟩
end
theorem Qve{T n lo S:Nat}{P:Qzq→Prop}{w W W':World}{L:List Qqx}(O:OB T w W L)(ks:Qqb (At S) W W')(hlo:S<lo)(a:Qzq)(vr vq vs vw:Value)(h1:Qkq (Old lo) W vr a.rows)(h2:Qz1 (Old lo) W vq a.query)(h3:Qzb (Old lo) W vs a.sets)(h4:Qqq (Old lo) W vw a.whr)(hg:Qk3 n a)(hS:w.heap.size≤S)(hp:P a):
 Qjp T w (Jjx n P w) (.returned (.agg #[a.kind,a.table,vr,vq,vs,vw,a.text])) W':=by
 have O':=(O.sub (L':=[]) (fun b h=>by cases h)).then ks (fun i hi e=>by unfold At at e;omega) (fun b h=>by cases h);have k':Qqb (Old lo) W W':=ks.weak fun k _ hk=>by unfold At at hk;unfold Old;omega
 have hM:∀k,k<W'.heap.size→Old w.heap.size k→Old lo k:=fun k _ h=>by unfold Old at h⊢;omega
 exact O'.gives ⟨a,vr,vq,vs,vw,rfl,(h1.keep k').weak hM,(h2.keep k').weak hM,Qzb.weak hM (Qzb.keep k' h3),(h4.keep k').weak hM,hg,hp⟩
theorem Uy6{M:Nat→Prop}{W:World}{e:TypeId}{x:Qu}{vi vw:Value}{g:Nat}(hg:g=W.heap.size)(hM:¬M W.heap.size)(h1:Qqq M W vi x.items)(h2:Qqq M W vw x.whr):
 Qz1 M (W.alloc (.cells #[x.star,vi,x.frm,vw] e)) (Qv (some ⟨g,0,none⟩) 1 1) [x]:=
 Qq6 (size:=4) (R:=QC _ _) x hg hM rfl ((Qxg ..).2 ⟨_,_,rfl,h1.keep ((Qqb.refl _ W).alloc _),h2.keep ((Qqb.refl _ W).alloc _)⟩)
theorem Qxj(S:Nat)(w:World)(a0 a1 a2 a3 a4 a5 a6:Value):Qqb (At S) w (((((((w.setCell ⟨S,0,none⟩ a0).setCell ⟨S,1,none⟩ a1).setCell ⟨S,2,none⟩ a2).setCell ⟨S,3,none⟩ a3).setCell ⟨S,4,none⟩ a4).setCell ⟨S,5,none⟩ a5).setCell ⟨S,6,none⟩ a6):=Qqj [a0,a1,a2,a3,a4,a5,a6] 0 w
theorem Uve:(prog.info? 32).map (fun i=>(i.zero,i.size,i.bytes))=some (some (Qv none 0 0),1,24):=by kernel_rfl
theorem Jv6{lo:Nat}{w:World}{vr:Value}{x:List Ex}{e:Ex}{n:Nat}(hn:x.length=n)(h:Qqn lo w 80 10 (fun M w (e:Ex) cs=>EC M w e cs) vr (x++[e])):∃g cap u0 u1 u2 u3 u4 u5 u6 u7 u8 u9,vr=Qv (some ⟨g,0,none⟩) (n+1) cap∧lo≤g∧g<w.heap.size∧(∀i,w.frozen? ⟨g,i,none⟩=false)∧
 w.cell? ⟨g,n*10,none⟩=some u0∧w.cell? ⟨g,n*10+1,none⟩=some u1∧w.cell? ⟨g,n*10+2,none⟩=some u2∧w.cell? ⟨g,n*10+3,none⟩=some u3∧w.cell? ⟨g,n*10+4,none⟩=some u4∧w.cell? ⟨g,n*10+5,none⟩=some u5∧w.cell? ⟨g,n*10+6,none⟩=some u6∧w.cell? ⟨g,n*10+7,none⟩=some u7∧w.cell? ⟨g,n*10+8,none⟩=some u8∧w.cell? ⟨g,n*10+9,none⟩=some u9:=by
 subst hn;obtain⟨g,cap,hv,hg,hgz,hf⟩:=Qqf.at h (by simp);obtain⟨css,hs,hl,hR⟩:=Qqf.rows (M:=fun _=>False) h fun _ _ _=>id
 rcases hs with⟨⟨a,hv'⟩,rfl⟩|⟨b,o,cap',hv',_,_,_,_,hc⟩
 ·simp at hl
 ·rw[hv] at hv';simp only[Yz,Ym,Kf,and_true] at hv';obtain⟨⟨rfl,rfl⟩,_,rfl⟩:=hv';have hi:x.length<css.length:=by rw[hl];simp
  obtain⟨c10,hat⟩:=hc x.length css[x.length] (Zg hi);rw[Ye] at hat
  have hu:∀j,j<10→∃u,w.cell? ⟨g,x.length*10+j,none⟩=some u:=fun j hj=>⟨_,hat j _ (Zg (by omega))⟩
  obtain⟨u0,h0⟩:=hu 0 (by omega);obtain⟨u1,h1⟩:=hu 1 (by omega);obtain⟨u2,h2⟩:=hu 2 (by omega);obtain⟨u3,h3⟩:=hu 3 (by omega);obtain⟨u4,h4⟩:=hu 4 (by omega);obtain⟨u5,h5⟩:=hu 5 (by omega);obtain⟨u6,h6⟩:=hu 6 (by omega);obtain⟨u7,h7⟩:=hu 7 (by omega);obtain⟨u8,h8⟩:=hu 8 (by omega);obtain⟨u9,h9⟩:=hu 9 (by omega);exact⟨g,cap,u0,u1,u2,u3,u4,u5,u6,u7,u8,u9,by rw[hv];simp,hg,hgz,hf,h0,h1,h2,h3,h4,h5,h6,h7,h8,h9⟩
theorem Yxa{lo:Nat}{w:World}{x:List Ex}{e:Ex}{n g cap:Nat}(hn:x.length=n)(h:Qqn lo w 80 10 (fun M w (e:Ex) cs=>EC M w e cs) (Qv (some ⟨g,0,none⟩) (n+1) cap) (x++[e])):∃u0 u1 u2 u3 u4 u5 u6 u7 u8 u9,lo≤g∧g<w.heap.size∧(∀i,w.frozen? ⟨g,i,none⟩=false)∧
 w.cell? ⟨g,n*10,none⟩=some u0∧w.cell? ⟨g,n*10+1,none⟩=some u1∧w.cell? ⟨g,n*10+2,none⟩=some u2∧w.cell? ⟨g,n*10+3,none⟩=some u3∧w.cell? ⟨g,n*10+4,none⟩=some u4∧w.cell? ⟨g,n*10+5,none⟩=some u5∧w.cell? ⟨g,n*10+6,none⟩=some u6∧w.cell? ⟨g,n*10+7,none⟩=some u7∧w.cell? ⟨g,n*10+8,none⟩=some u8∧w.cell? ⟨g,n*10+9,none⟩=some u9:=by
 obtain⟨g',cap',u0,u1,u2,u3,u4,u5,u6,u7,u8,u9,hv,h'⟩:=Jv6 hn h;simp only[Yz,Ym,Kf,and_true,true_and] at hv;obtain⟨rfl,_⟩:=hv;exact⟨u0,u1,u2,u3,u4,u5,u6,u7,u8,u9,h'⟩
theorem Uzi{n T:Nat}{w W:World}{L:List Qqx}{fa ta:Option Addr}{fc tc:Nat}{look:List UInt8→List Col}{fs:List Frm}{ss:List Sch}(hE:Qwn n)(hw:Qjh T w)(hs:Qjt (At T) w (Qv ta ss.length tc) ss)
 (hP:Qzm look fs ss n)(O:OB T w W L)(hf:Qqz (At T) w (Qv fa fs.length fc) fs)(dp want:Int)(h1:dp≤n)(h2:-10≤dp)(h3:1≤want)(h4:want≤3):
 Calls prog 93 #[.pointer (some ⟨T,0,none⟩),.agg #[Qv fa fs.length fc,Qv ta ss.length tc],want,dp] W (Qjp T W (ExQ (Mk ss fs want n) W)):=
 hE T dp want fa ta fc tc look fs ss W h1 h2 h3 h4 O.tape (hw.at O.kept) (hf.keep O.kept) (hs.keep O.kept) hP
theorem Qyt.len{lo:Nat}{W:World}{va:Value}{vals:List Value}{rows:List (List Ex)}(h:Qyt lo W va vals rows):vals.length=rows.length:=by
 rcases h.2 with⟨rfl,rfl,_⟩|⟨r0,rest,v0,vs,g0,c0,arr,rfl,rfl,_,_,_,_,_,_,h7⟩
 ·rfl
 ·simp[h7.1]
structure RX(T:Nat)(w W7 wo:World)(p:Nat)(L:List Qqx)(vr:Value)(x:List Ex)(W:World):Prop where
 cx:CX T w W7 p L W
 kp:Qqb (At T) wo W
 rows:Qqn wo.heap.size W 80 10 (fun M w (e:Ex) cs=>EC M w e cs) vr x
section
variable{T p:Nat} {w W7 wo W W':World} {L L':List Qqx} {vr:Value} {x:List Ex}
theorem RX.step(h:RX T w W7 wo p L vr x W)(hT:T<wo.heap.size)(ht:Qql T W')(k:Qqb (At T) W W'):RX T w W7 wo p L vr x W':=⟨h.cx.step ht k,h.kp.trans k,Qqn.keep Qjs h.rows k fun k h1 _ hh=>by unfold At at hh;omega⟩
theorem RX.bel(h:RX T w W7 wo p L vr x W)(hT:T<wo.heap.size)(hb:Below W.heap.size W W'):RX T w W7 wo p L vr x W':=h.step hT (h.cx.ob.tape.bel hb) (.bel hb)
theorem RX.alloc(h:RX T w W7 wo p L vr x W)(hT:T<wo.heap.size)(o:Obj):RX T w W7 wo p L vr x (W.alloc o):=h.bel hT ((Below.refl _ _).alloc (Zz _) o)
theorem RX.new'(h:RX T w W7 wo p L vr x W)(hT:T<wo.heap.size){g:Nat}(hg:g=W.heap.size)(cs:Array Value)(e:TypeId):RX T w W7 wo p (⟨g,cs,e⟩::L) vr x (W.alloc (.cells cs e)):=⟨h.cx.new' hg cs e,(h.alloc hT _).kp,(h.alloc hT _).rows⟩
theorem RX.tl{b:Qqx}(h:RX T w W7 wo p (b::L) vr x W):RX T w W7 wo p L vr x W:=⟨h.cx.tl,h.kp,h.rows⟩
theorem RX.app{y:Ex}{vr':Value}(h:RX T w W7 wo p L vr x W)(hk:Qqb (Qq4 vr) W W')(ho:Qqn wo.heap.size W' 80 10 (fun M w (e:Ex) cs=>EC M w e cs) vr' (x++[y]))(hp:p≤wo.heap.size)(hw:w.heap.size≤p)(hL:∀b∈L,¬Qq4 vr b.pos):RX T w W7 wo p L vr' (x++[y]) W':=
 ⟨h.cx.then hk (fun i hi=>by have:=(Qqf.lt h.rows hi).1;omega) hw hL,h.kp.then hk (fun i hi hn=>by have:=(Qqf.lt h.rows hn).1;omega),ho⟩
theorem RX.set{g n cap:Nat}{y z:Ex}{cs:List Value}(h:RX T w W7 wo p L (Qv (some ⟨g,0,none⟩) n cap) (x++[y]) W)(hcs:cs.length=10)(hz:EC (Qjl wo.heap.size (Qv (some ⟨g,0,none⟩) n cap)) W z cs)(hp:p≤wo.heap.size)(hw:w.heap.size≤p)(hL:∀b∈L,b.pos≠g):
 RX T w W7 wo p L (Qv (some ⟨g,0,none⟩) n cap) (x++[z]) (W.setCells g (x.length*10) cs):=by
 have hg:=(Qqf.lt h.rows (k:=g) rfl).1;have hr:=Qqn.set1 Qjs h.rows (k:=x.length) (by simp) hcs hz;rw[show(x++[y]).set x.length z=x++[z] by simp] at hr;exact⟨h.cx.then (Qqj cs (x.length*10) W) (fun i hi=>by unfold At at hi;omega) hw (fun b hb e=>hL b hb e),h.kp.then (Qqj cs (x.length*10) W) (fun i hi hn=>by unfold At at hn;omega),hr⟩
end
theorem Qk6:Qx8 (fun M w (x:Qx4) cs=>Jxc M w x cs) where
 keep h k:=Jxc.keep k h
 weak h hM:=Jxc.weak hM h
 one h u hu:=by
  obtain⟨ce,rfl,h⟩:=h;rcases Zs.1 hu with rfl|hu
  ·rfl
  ·exact Qjs.one h u hu
theorem Uvf:(prog.info? 155).map (fun i=>(i.zero,i.size,i.bytes))=some (some (.agg #["","0","0",false,"0","0","","","",(),()]),11,152):=by kernel_rfl
structure UX(T:Nat)(w W7:World)(p lo:Nat)(L:List Qqx)(vs:Value)(sets:List Qx4)(W:World):Prop where
 cx:CX T w W7 p L W
 rows:Qqn lo W 155 11 (fun M w (x:Qx4) cs=>Jxc M w x cs) vs sets
section
variable{T p lo:Nat} {w W7 W W':World} {L L':List Qqx} {vs:Value} {sets:List Qx4}
theorem UX.step(h:UX T w W7 p lo L vs sets W)(hT:T<lo)(ht:Qql T W')(k:Qqb (At T) W W'):UX T w W7 p lo L vs sets W':=⟨h.cx.step ht k,Qqn.keep Qk6 h.rows k fun k h1 _ hh=>by unfold At at hh;omega⟩
theorem UX.bel(h:UX T w W7 p lo L vs sets W)(hT:T<lo)(hb:Below W.heap.size W W'):UX T w W7 p lo L vs sets W':=h.step hT (h.cx.ob.tape.bel hb) (.bel hb)
theorem UX.alloc(h:UX T w W7 p lo L vs sets W)(hT:T<lo)(o:Obj):UX T w W7 p lo L vs sets (W.alloc o):=h.bel hT ((Below.refl _ _).alloc (Zz _) o)
theorem UX.drew(h:UX T w W7 p lo L vs sets W)(hT:T<lo):UX T w W7 p lo L vs sets W.drew:=h.step hT h.cx.ob.tape.drew (Qqb.refl _ W).drew
theorem UX.new'(h:UX T w W7 p lo L vs sets W)(hT:T<lo){g:Nat}(hg:g=W.heap.size)(cs:Array Value)(e:TypeId):UX T w W7 p lo (⟨g,cs,e⟩::L) vs sets (W.alloc (.cells cs e)):=⟨h.cx.new' hg cs e,(h.alloc hT _).rows⟩
theorem UX.sub(h:UX T w W7 p lo L vs sets W)(hL:∀b∈L',b∈L):UX T w W7 p lo L' vs sets W:=⟨h.cx.sub hL,h.rows⟩
theorem UX.tl{b:Qqx}(h:UX T w W7 p lo (b::L) vs sets W):UX T w W7 p lo L vs sets W:=⟨h.cx.tl,h.rows⟩
theorem UX.own(h:UX T w W7 p lo L vs sets W){k:Nat}(hk:Qq4 vs k):lo≤k∧k<W.heap.size:=Qqf.lt h.rows hk
theorem UX.puts{g:Nat}{c c':Array Value}{e:TypeId}(h:UX T w W7 p lo (⟨g,c,e⟩::L) vs sets W)(hg:p≤g)(i:Nat)(cs:List Value)(hL:∀b∈L,b.pos≠g)(hc:c'.toList=Qyj c.toList i cs)(hlo:g<lo):UX T w W7 p lo (⟨g,c',e⟩::L) vs sets (W.setCells g i cs):=
 ⟨h.cx.puts hg i cs hL hc,Qqn.keep Qk6 h.rows (Qqj cs i W) fun k h1 _ hh=>by unfold At at hh;omega⟩
end
def Jq1:Col:=⟨⟨#[]⟩,0,false,false⟩
def Ywy(s:Sch)(i:Nat):ByteArray:=(s.cols.getD (i%s.cols.length) Jq1).name
def SX(T:Nat)(w W7 wo:World)(p n:Nat)(L:List Qqx)(nm:ByteArray)(c:Nat)(W:World):Prop:=
 ∃(x:Ex) (a t:Option Addr) (ac tc:Nat),CX T w W7 p (⟨c,#[nm,x.kind,x.op,x.no,x.val.kind,x.val.int,x.val.text,x.table,x.name,Qv a x.args.length ac,Qv t x.sub.length tc],155⟩::L) W∧Qqb (At T) wo W∧wo.heap.size≤c∧(Qqq (fun k=>k<wo.heap.size∨k=c) W (Qv a x.args.length ac) x.args∧Qz1 (fun k=>k<wo.heap.size∨k=c) W (Qv t x.sub.length tc) x.sub)∧GX n x
section
variable{T p n c:Nat} {w W7 wo W W':World} {L L':List Qqx} {nm:ByteArray}
theorem SX.step(H:SX T w W7 wo p n L nm c W)(hT:T<wo.heap.size)(ht:Qql T W')(k:Qqb (At T) W W'):SX T w W7 wo p n L nm c W':=by
 obtain⟨x,a,t,ac,tc,h1,h2,h3,h4,h5⟩:=H;have kk:Qqb (fun k=>k<wo.heap.size∨k=c) W W':=k.weak fun j _ hj=>.inl (by unfold At at hj;omega);exact⟨x,a,t,ac,tc,h1.step ht k,h2.trans k,h3,⟨h4.1.keep kk,h4.2.keep kk⟩,h5⟩
theorem SX.tape(H:SX T w W7 wo p n L nm c W):Qql T W:=by obtain⟨x,a,t,ac,tc,h1,_⟩:=H;exact h1.ob.tape
theorem SX.bel(H:SX T w W7 wo p n L nm c W)(hT:T<wo.heap.size)(hb:Below W.heap.size W W'):SX T w W7 wo p n L nm c W':=H.step hT (H.tape.bel hb) (.bel hb)
theorem SX.drew(H:SX T w W7 wo p n L nm c W)(hT:T<wo.heap.size):SX T w W7 wo p n L nm c W.drew:=H.step hT H.tape.drew (Qqb.refl _ W).drew
theorem SX.blk(H:SX T w W7 wo p n L nm c W){b:Qqx}(hb:b∈L):W.heap[b.pos]?=some (.cells b.cells b.ty (0,0)):=by
 obtain⟨x,a,t,ac,tc,h1,_⟩:=H;exact h1.ob.blk (Zl _ hb)
theorem SX.item(H:SX T w W7 wo p n L nm c W)(hp:p≤wo.heap.size)(hL:∀b∈L,b.pos≠c){m1:Nat}(x:Ex)(a t:Option Addr)(ac tc:Nat)(hm:c<m1)(hx:Qqq (Old m1) W (Qv a x.args.length ac) x.args∧Qz1 (Old m1) W (Qv t x.sub.length tc) x.sub)(hd:GX n x):
 SX T w W7 wo p n L nm c (W.setCells c 1 [x.kind,x.op,x.no,x.val.kind,x.val.int,x.val.text,x.table,x.name,Qv a x.args.length ac,Qv t x.sub.length tc]):=by
 obtain⟨y,b,u,bc,uc,h1,h2,h3,h4,h5⟩:=H;have ks:=Qqj [x.kind,x.op,x.no,x.val.kind,x.val.int,x.val.text,x.table,x.name,Qv a x.args.length ac,Qv t x.sub.length tc] 1 W (C:=c);have k1:Qqb (Old m1) W (W.setCells c 1 [x.kind,x.op,x.no,x.val.kind,x.val.int,x.val.text,x.table,x.name,Qv a x.args.length ac,Qv t x.sub.length tc]):=ks.weak fun k _ hk=>by unfold At at hk;unfold Old;omega
 have hM:∀k,(k<wo.heap.size∨k=c)→Old m1 k:=fun k hk=>by unfold Old;omega
 exact⟨x,a,t,ac,tc,h1.puts (by omega) 1 _ hL rfl,h2.then ks (fun i hi hn=>by unfold At at hn;omega),h3,⟨(hx.1.keep k1).weak fun k _ hk=>hM k hk,(hx.2.keep k1).weak fun k _ hk=>hM k hk⟩,hd⟩
theorem SX.frz(H:SX T w W7 wo p n L nm c W):∃b0 b1 b2 b3 b4 b5 b6 b7 b8 b9 b10:Value,W.cell? ⟨c,0,none⟩=some b0∧W.cell? ⟨c,1,none⟩=some b1∧W.cell? ⟨c,2,none⟩=some b2∧W.cell? ⟨c,3,none⟩=some b3∧W.cell? ⟨c,4,none⟩=some b4∧W.cell? ⟨c,5,none⟩=some b5∧W.cell? ⟨c,6,none⟩=some b6∧W.cell? ⟨c,7,none⟩=some b7∧W.cell? ⟨c,8,none⟩=some b8∧W.cell? ⟨c,9,none⟩=some b9∧W.cell? ⟨c,10,none⟩=some b10∧(∀i,W.frozen? ⟨c,i,none⟩=false)∧c<W.heap.size:=by
 obtain⟨x,a,t,ac,tc,h1,_⟩:=H;exact⟨_,_,_,_,_,_,_,_,_,_,_,Qjw (h1.ob.blk (Zv ..))⟩
end
theorem Uzj:∀s∈Qq3,2≤s.cols.length∧∀f<s.cols.length,∀j<3,Qx6 [] ((List.range j).map fun i=>Ywy s (f+i))=true:=by decide+kernel
def Uy7(T:Nat)(s:Sch)(L:List Qqx)(w W7:World)(m:Nat)(c:Value)(wx:World):Prop:=
 ∃g k,c=.pointer (some ⟨g,0,none⟩)∧(k=1∨k=2∨k=3)∧m<g∧CX T w W7 m (⟨g,#[.int .i64 k,s.name,(),(),(),(),""],42⟩::L) wx
theorem Qze{w:World}{S:Nat}{a0 a1 a2 a3 a4 a5 a6:Value}{e:TypeId}(h:w.heap[S]?=some (.cells #[a0,a1,a2,a3,a4,a5,a6] e (0,0))):
 w.cell? ⟨S,0,none⟩=some a0∧w.cell? ⟨S,1,none⟩=some a1∧w.cell? ⟨S,2,none⟩=some a2∧w.cell? ⟨S,3,none⟩=some a3∧w.cell? ⟨S,4,none⟩=some a4∧w.cell? ⟨S,5,none⟩=some a5∧w.cell? ⟨S,6,none⟩=some a6∧(∀i,w.frozen? ⟨S,i,none⟩=false)∧S<w.heap.size:=
 ⟨by simp[World.cell?,h],by simp[World.cell?,h],by simp[World.cell?,h],by simp[World.cell?,h],by simp[World.cell?,h],by simp[World.cell?,h],by simp[World.cell?,h],fun i=>by simp[World.frozen?,h],(Zq.1 h).1⟩
set_option maxRecDepth 100000 in
set_option maxHeartbeats 40000000 in
theorem Qk1(n:Nat)(hE:Qwn n)(T:Nat)(depth:Int)(fa ta:Option Addr)(fc tc:Nat)(look:List UInt8→List Col)(fs:List Frm)(ss:List Sch)(w:World)(hd:depth≤(n:Int))(hd0:-10≤depth)(hn:n≤50)(hn1:1≤n)(ht:Qql T w)(hw:Qjh T w)
 (hf:Qqz (At T) w (Qv fa fs.length fc) fs)(hs:Qjt (At T) w (Qv ta ss.length tc) ss)(hP:Qzm look fs ss (n+1))(hin:∀s∈Qq3,s∈ss):
 Calls prog 55 #[.pointer (some ⟨T,0,none⟩),.agg #[Qv fa fs.length fc,Qv ta ss.length tc],depth] w (Qjp T w (Jjx n (fun a=>a.kind≤3) w)):=by
 have hTw:=ht.lt;have HT:=hid ht;have HW:=hid hw;have HF:=hid hf;have HS:=hid hs;have HP:=hid hP;have HE:=hid hE;have HIN:=hid hin;clear ht hw hf hs hP hE hin;go_enter func55,ntmps55;go_wp2_with fail
 generalize hW:((w.alloc _).alloc _)=W0
 have hO:OB T w W0 [⟨w.heap.size+1,#["0","",(),(),(),(),""],42⟩,⟨w.heap.size,#[Qv fa fs.length fc,Qv ta ss.length tc],122⟩]:=by
  rw[←hW];exact((OB.start HT.out).new' rfl _ _).new' (by simp) _ _
 have hz0:w.heap.size+1<W0.heap.size:=by rw[←hW];simp
 have HO:=hid hO;clear hW hO;refine(Jkr T _ HO.out.tape).mono ?_;rintro e w1 ⟨v,rfl,⟨s,hs3,rfl⟩,ht,hk⟩;have HO1:=hid (HO.out.step ht hk);have hz1:=hk.size;have HS3:=hid hs3;clear ht hk HO hs3;dsimp only;go_wp2_with fail
 refine(Qyd s HS3.out _).mono ?_;rintro e w2 ⟨vc,rfl,hc,hb⟩;obtain⟨ca,cc,rfl,_⟩:=hc.shape;have hO2:=HO1.out.bel hb;have HC2:=hid (Qq1.weak (M':=At T) (fun k hk h=>by unfold Out;unfold At at h;omega) hc);have hz2:=hb.size;have HO2:=hid hO2;clear hc hb hO2 HO1;dsimp only;go_upto_region 2 with fail
 have hO3:=HO2.out.new' rfl #[s.name,Qv ca s.cols.length cc] 29;have hC3:=HC2.out.keep ((Qqb.refl (At T) w2).alloc (.cells #[s.name,Qv ca s.cols.length cc] 29));generalize hW3:Qw w2 _=w3 at hO3 hC3⊢;have hz3:w2.heap.size<w3.heap.size:=by rw[←hW3];simp
 generalize w2.heap.size=q at hO3 hz3 hz2⊢;have HO3:=hid hO3;have HC3:=hid hC3;obtain⟨s0,s1,_,_,sz⟩:=Qjk (hO3.blk (b:=⟨q,#[s.name,Qv ca s.cols.length cc],29⟩) (by simp));obtain⟨p0,p1,_,_,pz⟩:=Qjk (hO3.blk (b:=⟨w.heap.size,#[Qv fa fs.length fc,Qv ta ss.length tc],122⟩) (by simp));dsimp only at s0 s1 sz p0 p1 pz;clear hW3 hO3 hC3 HO2 HC2;have hfl:fs.length≤100:=by have:=HP.out.2.1;omega
 have HFc:=hid (HF.out.keep HO3.out.kept)
 go_upto_region 3 with(go_at_call 96;go_loud (refine(Qw8 (M:=At T) (Qv fa fs.length fc) (Qv ta ss.length tc) fs s.name (Qv ca s.cols.length cc) s.cols _ _ _ _ rfl HFc.out HC3.out (fun k h1 h2=>by unfold At at h2;omega) (by omega)).mono ?_;rintro e w6 ⟨a6,c6,rfl,h6,hb6⟩;rw[show(fs++[Frm.mk s.name false s.cols]).length=fs.length+1 by simp] at h6⊢;have HO6:=hid (HO3.out.bel hb6);have HF6:=hid h6;have HC6:=hid (HC3.out.keep (.bel hb6));have hz6:=hb6.size;clear h6 hb6))
 have hO7:=HO6.out.new' rfl #[Qv a6 (fs.length+1) c6,Qv ta ss.length tc] 122;have hf7:=Qqz.keep (Qqz.weak (M':=TOr T w6.heap.size) (fun k hk h=>by unfold TOr at h;rcases h with h|h;exact h;omega) HF6.out) ((Qqb.refl _ w6).alloc (.cells #[Qv a6 (fs.length+1) c6,Qv ta ss.length tc] 122));have hC7:=Qq1.keep (Qq1.weak (M':=TOr T w6.heap.size) (fun k hk h=>by unfold TOr at h;rcases h with h|h;exact h;omega) HC6.out) ((Qqb.refl _ w6).alloc (.cells #[Qv a6 (fs.length+1) c6,Qv ta ss.length tc] 122));generalize hW7:Qw w6 _=W7 at hO7 hf7 hC7⊢;have hz7:w6.heap.size<W7.heap.size:=by rw[←hW7];simp
 generalize w6.heap.size=p at hO7 hz6 hz7 hf7 hC7⊢;have HO7:=hid (show CX T w W7 p (⟨p,#[Qv a6 (fs.length+1) c6,Qv ta ss.length tc],122⟩::⟨q,#[s.name,Qv ca s.cols.length cc],29⟩::[⟨w.heap.size+1,#["0","",(),(),(),(),""],42⟩,⟨w.heap.size,#[Qv fa fs.length fc,Qv ta ss.length tc],122⟩]) W7 from⟨hO7,.refl _ _⟩);have HF7:=hid hf7;have HC7:=hid hC7;clear hW7 hO7 hf7 hC7 HO6 HF6 HC6 HO3 HC3 HFc s0 s1 sz p0 p1 pz;obtain⟨s0,s1,_,_,sz⟩:=Qjk (HO7.out.ob.blk (b:=⟨q,#[s.name,Qv ca s.cols.length cc],29⟩) (by simp));dsimp only at s0 s1 sz;have HKS:=hid (fun(W':World) (h:CX T w W7 p (⟨p,#[Qv a6 (fs.length+1) c6,Qv ta ss.length tc],122⟩::⟨q,#[s.name,Qv ca s.cols.length cc],29⟩::[⟨w.heap.size+1,#["0","",(),(),(),(),""],42⟩,⟨w.heap.size,#[Qv fa fs.length fc,Qv ta ss.length tc],122⟩]) W')=>(show W'.cell? ⟨q,0,none⟩=some (.string s.name) from(Qjk (h.ob.blk (b:=⟨q,#[s.name,Qv ca s.cols.length cc],29⟩) (by simp))).1))
 go_cut [9] (fun c wx=>Uy7 T s (⟨p,#[Qv a6 (fs.length+1) c6,Qv ta ss.length tc],122⟩::⟨q,#[s.name,Qv ca s.cols.length cc],29⟩::[⟨w.heap.size+1,#["0","",(),(),(),(),""],42⟩,⟨w.heap.size,#[Qv fa fs.length fc,Qv ta ss.length tc],122⟩]) w W7 p c wx)
 case first=>
  have tok1:Hid True:=trivial
  go_region_held3 (fun W'=>W'.cell? ⟨q,0,none⟩=some (.string s.name))
   (first|with_reducible exact HKS.out _ HO7.out|with_reducible exact HKS.out _ HO7.out.drew|with_reducible exact HKS.out _ (HO7.out.alloc _)|with_reducible exact HKS.out _ (HO7.out.drew.alloc _)|with_reducible exact HKS.out _ (HO7.out.alloc _).drew|with_reducible exact HKS.out _ HO8.out|with_reducible exact HKS.out _ (HO8.out.alloc _)|exact HKS.out _ ((CX.puts HZ.out (by omega) 0 [.int .i64 (1+r),s.name,(),(),(),(),""] (by simp;omega) (c':=#[.int .i64 (1+r),.string s.name,Qv none 0 0,Qv none 0 0,Qv none 0 0,Qv none 0 0,.string ⟨#[]⟩]) rfl).sub fun b hb=>Zl _ hb)|(trace_state;fail))
   ((go_at_call 12;go_loud (refine(Qqk T 3 _ (by omega) (by omega) (by first|with_reducible exact HO7.out.drew.ob.tape|with_reducible exact(HO7.out.alloc _).drew.ob.tape|with_reducible exact(HO7.out.drew.alloc _).ob.tape)).mono ?_;rintro e w8 ⟨v,rfl,⟨r,rfl,hr0,hr1⟩,ht,hk⟩;have e8:IntKind.i64.wrap (1+r)=1+r:=Zp _ (by omega);have hz8:=hk.size;(try simp only[Zn,Yl] at hz8);(first|(have hZ:CX T w W7 p (⟨W7.heap.size,#["0","",(),(),(),(),""],42⟩::(⟨p,#[Qv a6 (fs.length+1) c6,Qv ta ss.length tc],122⟩::⟨q,#[s.name,Qv ca s.cols.length cc],29⟩::[⟨w.heap.size+1,#["0","",(),(),(),(),""],42⟩,⟨w.heap.size,#[Qv fa fs.length fc,Qv ta ss.length tc],122⟩])) w8:=(by first|exact((HO7.out.new' rfl _ _).drew).step ht hk|exact(HO7.out.drew.new' rfl _ _).step ht hk);obtain⟨y0,y1,y2,y3,y4,y5,y6,f8,zy⟩:=Qze (hZ.ob.blk (Zv ..));dsimp only at y0 y1 y2 y3 y4 y5 y6 f8 zy;have F0:=f8 0;have F1:=f8 1;have F2:=f8 2;have F3:=f8 3;have F4:=f8 4;have F5:=f8 5;have F6:=f8 6;have HZ:=hid hZ;clear f8;have HO8:=hid (show CX T w W7 p (⟨p,#[Qv a6 (fs.length+1) c6,Qv ta ss.length tc],122⟩::⟨q,#[s.name,Qv ca s.cols.length cc],29⟩::[⟨w.heap.size+1,#["0","",(),(),(),(),""],42⟩,⟨w.heap.size,#[Qv fa fs.length fc,Qv ta ss.length tc],122⟩]) w8 from hZ.sub fun b hb=>Zl _ hb);clear hZ)|(have HO8:=hid (show CX T w W7 p (⟨p,#[Qv a6 (fs.length+1) c6,Qv ta ss.length tc],122⟩::⟨q,#[s.name,Qv ca s.cols.length cc],29⟩::[⟨w.heap.size+1,#["0","",(),(),(),(),""],42⟩,⟨w.heap.size,#[Qv fa fs.length fc,Qv ta ss.length tc],122⟩]) w8 from HO7.out.drew.step ht hk)));clear ht hk)))
  all_goals go_wp2_with fail
  all_goals go_meet
  ·exact⟨w8.heap.size,1+r,rfl,by omega,by omega,HO8.out.new' rfl _ _⟩
  ·exact⟨W7.heap.size,1+r,rfl,by omega,by omega,CX.puts HZ.out (by omega) 0 [.int .i64 (1+r),s.name,(),(),(),(),""] (by simp;omega) rfl⟩
 case rest=>
  obtain⟨g,k,rfl,hk,hpg,hO⟩:=hcut;have HO:=hid hO;have hwp:w.heap.size≤p:=by omega
  have hFact:=Qv8 s HS3.out;have hc0:=hFact.2.1;have hcl:=hFact.2.2.1;have HNM:=hid hFact.2.2.2.1;have HCN:=hid hFact.1;have HDI:=hid hFact.2.2.2.2;have HCT:=hid (fun c (hc:c∈s.cols)=>(show 1≤c.type∧c.type≤3 from⟨(HCN.out c hc).2.2.2.2.2.1,(HCN.out c hc).2.2.2.2.2.2⟩));have HP2:=hid (HP.out.inside (HIN.out s HS3.out));have HP1:=hid (HP.out.mono (m:=n) (by omega));clear hFact hO HO7 HKS s0 s1 sz;obtain⟨g0,g1,g2,g3,g4,g5,g6,gf,gz⟩:=Qze (HO.out.ob.blk (Zv ..));dsimp only at g0 g1 g2 g3 g4 g5 g6 gf gz;rcases hk with rfl|rfl|rfl
  ·go_wp2_with fail
   refine(Qq2 T 4 _ (by omega) (by omega) HO.out.ob.tape).mono ?_;rintro e w9 ⟨v,rfl,⟨b,rfl⟩,ht,hk⟩;have HO9:=hid (HO.out.step ht hk);clear ht hk HO g0 g1 g2 g3 g4 g5 g6 gf gz;obtain⟨g0,g1,g2,g3,g4,g5,g6,gf,gz⟩:=Qze (HO9.out.ob.blk (Zv ..));obtain⟨s0,s1,_,_,sz⟩:=Qjk (HO9.out.ob.blk (b:=⟨q,#[s.name,Qv ca s.cols.length cc],29⟩) (by simp));obtain⟨p0,p1,_,_,pz⟩:=Qjk (HO9.out.ob.blk (b:=⟨w.heap.size,#[Qv fa fs.length fc,Qv ta ss.length tc],122⟩) (by simp));dsimp only at g0 g1 g2 g3 g4 g5 g6 gf gz s0 s1 sz p0 p1 pz;dsimp only;cases b
   case true=>
    go_wp2_with fail
    have hC9:=(HC7.out.keep HO9.out.kp).weak (M':=At T) fun k _ h=>.inl h;refine(Yva n HE.out T depth fa ta fc tc look fs ss s.name (Qv ca s.cols.length cc) s.cols _ hd hd0 hn hn1 HO9.out.ob.tape (HW.out.at HO9.out.ob.kept) (HF.out.keep HO9.out.ob.kept) (HS.out.keep HO9.out.ob.kept) HP.out hC9 HCT.out (by omega) hc0).mono ?_;rintro e w10 ⟨v,rfl,⟨qq,vi,vw,rfl,hqi,hqw,hqd,hql,hqg⟩,ht,hk⟩;obtain⟨ia,ic,rfl,_⟩:=hqi.shape;obtain⟨wa,wc,rfl,_⟩:=hqw.shape;have HO10:=hid (HO9.out.step ht hk);have hz10:g<w10.heap.size:=Zm gz hk.size;have HQI:=hid (hqi.weak (M':=Old (g+1)) fun k _ h=>by unfold Old at h⊢;omega);have HQW:=hid (hqw.weak (M':=Old (g+1)) fun k _ h=>by unfold Old at h⊢;omega);have HQG:=hid (Ze hqg hql);clear ht hk hqi hqw hqd hql hqg HO9 g0 g1 g2 g3 g4 g5 g6 gf gz s0 s1 sz p0 p1 pz;obtain⟨g0,g1,g2,g3,g4,g5,g6,gf,gz⟩:=Qze (HO10.out.ob.blk (Zv ..));dsimp only at g0 g1 g2 g3 g4 g5 g6 gf gz;dsimp only;go_upto_region 8 with fail
    have hO11:=(HO10.out.puts (by omega) 3 [Qv (some ⟨w10.heap.size,0,none⟩) 1 1] (by simp;omega) (c':=#[.int .i64 1,.string s.name,Qv none 0 0,Qv (some ⟨w10.heap.size,0,none⟩) 1 1,Qv none 0 0,Qv none 0 0,.string ⟨#[]⟩]) rfl).alloc (.cells #[qq.star,Qv ia qq.items.length ic,qq.frm,Qv wa qq.whr.length wc] 37);have hQ11:=Uy6 (M:=Old (g+1)) (W:=w10.setCell ⟨g,3,none⟩ (Qv (some ⟨w10.heap.size,0,none⟩) 1 1)) (e:=37) (x:=qq) (g:=w10.heap.size) (by simp) (by unfold Old;simp;omega) (HQI.out.keep ((Qqb.refl (Old (g+1)) w10).setCell (p:=⟨g,3,none⟩) (fun _=>by unfold Old;dsimp only;omega) _)) (HQW.out.keep ((Qqb.refl (Old (g+1)) w10).setCell (p:=⟨g,3,none⟩) (fun _=>by unfold Old;dsimp only;omega) _));dsimp only[World.setCells] at hO11;generalize hW11:Qw (World.setCell _ _ _) _=W11 at hO11 hQ11⊢;generalize w10.heap.size=qn at hO11 hQ11 hz10⊢;have HO11:=hid hO11;have HQ11:=hid hQ11;clear hW11 hO11 hQ11 HO10 g0 g1 g2 g3 g4 g5 g6 gf gz HQI HQW;obtain⟨g0,g1,g2,g3,g4,g5,g6,gf,gz⟩:=Qze (HO11.out.ob.blk (Zv ..));obtain⟨r0,r1,r2,r3,r4,r5,r6,rf,rz⟩:=Qze (HO11.out.ob.blk (b:=⟨w.heap.size+1,#["0","",(),(),(),(),""],42⟩) (by simp));dsimp only at g0 g1 g2 g3 g4 g5 g6 gf gz r0 r1 r2 r3 r4 r5 r6 rf rz
    repeat(first|go_values|go_skip|go_guarded|go_step|go_upon)
    refine Zh (v:=.agg #["1",s.name,(),Qv (some ⟨qn,0,none⟩) 1 1,(),(),""]) (by simp[results,results55,go_sem,r0,r1,r2,r3,r4,r5,r6]) rfl ?_;have FIN:=Qve (n:=n) (P:=fun a=>a.kind≤3) HO11.out.ob (Qxj (w.heap.size+1) W11 (.int .i64 1) s.name () (Qv (some ⟨qn,0,none⟩) 1 1) () () "") (lo:=g+1) (by omega) ⟨1,s.name,[],[qq],[],[],⟨#[]⟩⟩ (Qv none 0 0) (Qv (some ⟨qn,0,none⟩) 1 1) () () (.inl ⟨rfl,rfl⟩) HQ11.out (Qqa.nil ..) (Qqa.nil ..) (.query s.name qq HNM.out HQG.out.1 (by have:=HQG.out.2;omega)) (by omega) (by simp);exact FIN
   case false=>
    obtain⟨xb,xo,rfl,hxT,hxz,hxf⟩:=Jjb HC7.out hc0;have HXF:=hid hxf;clear hxf;go_wp2_with fail
    refine(Qqk T 3 _ (by omega) (by omega) HO9.out.ob.tape).mono ?_;rintro e w10 ⟨v,rfl,⟨r,rfl,hr0,hr1⟩,ht,hk⟩;obtain⟨r,rfl⟩:=Zt hr0;have e10:IntKind.i64.wrap (1+(r:Int))=((r+1:Nat):Int):=by rw[Zp _ (by omega)];omega
    have HO10:=hid (HO9.out.step ht hk);clear ht hk HO9 g0 g1 g2 g3 g4 g5 g6 gf gz s0 s1 sz p0 p1 pz hr0;dsimp only;go_wp2_with fail
    go_loopw[10] (fun i wr=>∃(m:Nat) (va:Value) (vals:List Value) (rows:List (List Ex)),i=.int .i64 m∧m+rows.length=r+1∧CX T w W7 p (⟨g,#["1",s.name,va,(),(),(),""],42⟩::(⟨p,#[Qv a6 (fs.length+1) c6,Qv ta ss.length tc],122⟩::⟨q,#[s.name,Qv (some ⟨xb,xo,none⟩) s.cols.length cc],29⟩::[⟨w.heap.size+1,#["0","",(),(),(),(),""],42⟩,⟨w.heap.size,#[Qv fa fs.length fc,Qv ta ss.length tc],122⟩])) wr∧Qyt (g+1) wr va vals rows∧∀x∈rows,1≤x.length∧x.length≤4∧∀y∈x,GX n y) (fun i _=>(intOf i).toNat)
    case atStart=>exact⟨r+1,_,[],[],by first|rfl|(simp;omega),rfl,HO10.out,Qyt.nil ..,fun x hx=>by cases hx⟩
    case round=>
     clear HO10;rename World=>wr;obtain⟨m,va,vals,rows,rfl,hm,hO,hB,hR⟩:=hrel;have HO:=hid hO;have HB:=hid hB;have HR:=hid hR;clear hO hB hR;obtain⟨oa,oc,rfl⟩:=HB.out.fin.shape;by_cases hm0:m=0
     ·
      subst hm0;have HRL:=hid (show rows.length=r+1 by omega);clear hm;obtain⟨g0,g1,g2,g3,g4,g5,g6,gf,gz⟩:=Qze (HO.out.ob.blk (Zv ..));obtain⟨r0,r1,r2,r3,r4,r5,r6,rf,rz⟩:=Qze (HO.out.ob.blk (b:=⟨w.heap.size+1,#["0","",(),(),(),(),""],42⟩) (by simp));dsimp only at g0 g1 g2 g3 g4 g5 g6 gf gz r0 r1 r2 r3 r4 r5 r6 rf rz;go_upto_region 23 with fail
      repeat(first|go_values|go_skip|go_guarded|go_step|go_upon)
      refine Zh (v:=.agg #["1",s.name,Qv oa rows.length oc,(),(),(),""]) (by simp[results,results55,go_sem,r0,r1,r2,r3,r4,r5,r6]) rfl ?_;have FIN:=Qve (n:=n) (P:=fun a=>a.kind≤3) HO.out.ob (Qxj (w.heap.size+1) wr (.int .i64 1) s.name (Qv oa rows.length oc) () () () "") (lo:=g+1) (by omega) ⟨1,s.name,rows,[],[],[],⟨#[]⟩⟩ (Qv oa rows.length oc) () () () HB.out.fin (Qqa.nil ..) (Qqa.nil ..) (Qqa.nil ..) (.rows s.name rows HNM.out (by have:=HRL.out;omega) (by have:=HRL.out;omega) HR.out) (by omega) (by simp);exact FIN
     ·obtain⟨k,rfl⟩:∃k,m=k+1:=⟨m-1,by omega⟩
      obtain⟨s0,s1,_,_,sz⟩:=Qjk (HO.out.ob.blk (b:=⟨q,#[s.name,Qv (some ⟨xb,xo,none⟩) s.cols.length cc],29⟩) (by simp));dsimp only at s0 s1 sz;have gz0:g<wr.heap.size:=HO.out.ob.blt (Zv ..);rename World=>wo;go_wp2_with fail
      go_loopw[11,54] (fun vz jx wr=>∃(vr:Value) (j:Nat) (x:List Ex),vr=vz∧jx=.int .i64 j∧j≤s.cols.length∧x.length=j∧CX T w W7 p (⟨g,#["1",s.name,Qv oa rows.length oc,(),(),(),""],42⟩::(⟨p,#[Qv a6 (fs.length+1) c6,Qv ta ss.length tc],122⟩::⟨q,#[s.name,Qv (some ⟨xb,xo,none⟩) s.cols.length cc],29⟩::[⟨w.heap.size+1,#["0","",(),(),(),(),""],42⟩,⟨w.heap.size,#[Qv fa fs.length fc,Qv ta ss.length tc],122⟩])) wr∧Qqb (At T) wo wr∧Qqn wo.heap.size wr 80 10 (fun M w (e:Ex) cs=>EC M w e cs) vr x∧∀y∈x,GX n y) (fun _ j _=>s.cols.length-(intOf j).toNat)
      case atStart=>exact⟨_,0,[],rfl,rfl,Zi _,rfl,HO.out,.refl _ _,Qqn.nil ..,fun x hx=>by cases hx⟩
      case round=>
       rename World=>wi;obtain⟨vr,j,x,rfl,rfl,hj,hx,hO,hk,hr,hd⟩:=hrel;have HX:=hid (show RX T w W7 wo p (⟨g,#["1",s.name,Qv oa rows.length oc,(),(),(),""],42⟩::(⟨p,#[Qv a6 (fs.length+1) c6,Qv ta ss.length tc],122⟩::⟨q,#[s.name,Qv (some ⟨xb,xo,none⟩) s.cols.length cc],29⟩::[⟨w.heap.size+1,#["0","",(),(),(),(),""],42⟩,⟨w.heap.size,#[Qv fa fs.length fc,Qv ta ss.length tc],122⟩])) vr x wi from⟨hO,hk,hr⟩);have HD:=hid hd;have hTo:T<wo.heap.size:=by omega
       have hpo:p≤wo.heap.size:=by omega
       have hoi:=hk.size;clear hO hk hr hd s0 s1 sz;by_cases hjl:j=s.cols.length
       ·
        subst hjl;obtain⟨ra,rc,hvr,_⟩:=Qqn.shape HX.out.rows;rw[hx] at hvr;subst hvr;have hlen:vals.length=rows.length:=HB.out.len;have hva:∀k,Qq4 (Qv oa rows.length oc) k→g+1≤k∧k<wo.heap.size:=fun k hk=>Qqf.lt HB.out.1 hk;have ka:Qqb (At T) wi (wi.alloc (.cells #[Qv ra s.cols.length rc] 32)):=(Qqb.refl (At T) wi).alloc _;have HVA:Hid (Qqf (g+1) (wi.alloc (.cells #[Qv ra s.cols.length rc] 32)) 32 1 VR (Qv oa rows.length oc) vals):=hid (Qqf.kept HB.out.1 (HX.out.kp.trans ka) (fun j hj hh=>by have:=hva j hj;unfold At at hh;omega) fun _ _ _ h=>h);have HXA:=hid (HX.out.alloc hTo (.cells #[Qv ra s.cols.length rc] 32));have HVO:=hid hva;have HNO:=hid (fun(b:Qqx) (hb:b∈⟨g,#["1",s.name,Qv oa rows.length oc,(),(),(),""],42⟩::(⟨p,#[Qv a6 (fs.length+1) c6,Qv ta ss.length tc],122⟩::⟨q,#[s.name,Qv (some ⟨xb,xo,none⟩) s.cols.length cc],29⟩::[⟨w.heap.size+1,#["0","",(),(),(),(),""],42⟩,⟨w.heap.size,#[Qv fa fs.length fc,Qv ta ss.length tc],122⟩])) (h:Qq4 (Qv oa rows.length oc) b.pos)=>(show False from by have:=HVO.out _ h;simp only[Zs,Zo,Yu] at hb;rcases hb with rfl|rfl|rfl|rfl|rfl<;>dsimp only at this<;>omega));have HNE:=hid (show x≠[] from fun e=>by rw[e] at hx;exact hc0 (Jc.1 hx.symm));have hgo:g+1≤wo.heap.size:=by omega
        have hTg:T<g+1:=by omega
        clear hva ka;have hga:=HXA.out.cx.ob.blk (Zv ..);dsimp only at hga;obtain⟨g0,g1,g2,g3,g4,g5,g6,gf,gz⟩:=Qze (HX.out.cx.ob.blk (Zv ..));dsimp only at g0 g1 g2 g3 g4 g5 g6 gf gz;clear hga;have tok8:Hid True:=trivial
        go_upto_region 11 with(at_builtin;have _t:=tok8;refine Qje (w:=wi.alloc (.cells #[Qv ra s.cols.length rc] 32)) rfl _ _ 38 rfl 32 _ 1 24 underlying38 Uve rfl (by decide) (R:=VR) (M:=fun _=>False) (g+1) (Qv oa rows.length oc) (Qv (some ⟨wi.heap.size,0,none⟩) 1 1) vals [Qv ra s.cols.length rc] rfl rfl HVA.out (Qq6 _ rfl id rfl ⟨rfl,rfl⟩) (fun y _ cs h=>Kq6 y cs h) (by simp;omega) (by unfold maxLen;simp;omega) (by simp;omega) ?_;intro v' w5 ho hk hat;have hB5:=HB.out.add HXA.out.kp hTg hgo HXA.out.rows HNE.out ho hk (fun k h=>(hat (by simp) k h).imp id fun h=>by omega);obtain⟨na,nc,hv'⟩:=hB5.fin.shape;rw[Zr,Jp] at hv';subst hv';have HB5:=hid hB5;have hX5:=HXA.out.cx.then hk (fun i hi=>by have:=HVO.out i hi;omega) hwp HNO.out;have HX5:=hid hX5;clear tok8 g0 g1 g2 g3 g4 g5 g6 gf gz;obtain⟨g0,g1,g2,g3,g4,g5,g6,gf,gz⟩:=Qze (hX5.ob.blk (Zv ..));dsimp only at g0 g1 g2 g3 g4 g5 g6 gf gz;clear ho hk hat hB5 hX5)
        go_wp2_with fail
        go_roundw
        case rel=>
         have hX6:=HX5.out.puts (by omega) 2 [Qv na (rows.length+1) nc] (by simp;omega) (c':=#[.int .i64 1,.string s.name,Qv na (rows.length+1) nc,Qv none 0 0,Qv none 0 0,Qv none 0 0,.string ⟨#[]⟩]) rfl;refine⟨k,_,_,rows++[x],by go_num,by simp;omega,hX6,HB5.out.keep ((Qqb.refl (At g) w5).setCell (p:=⟨g,2,none⟩) (fun _=>rfl) _) (fun k hk _ h=>by unfold At at h;omega),fun z hz=>?_⟩;rcases Yf.1 hz with hz|hz
         ·exact HR.out z hz
         ·rw[Zd.1 hz];exact⟨by have:0<s.cols.length:=Jn.2 hc0;omega,by omega,HD.out⟩
        case measure=>simp[intOf]
       ·have hjl':j<s.cols.length:=by omega
        obtain⟨y,hy⟩:∃y,s.cols[j]?=some y:=⟨_,Zg hjl'⟩
        have hyt:=HCT.out y (Yk hy);obtain⟨k0,k1,k2,k3⟩:=HXF.out j y hy;have k0:=(HX.out.cx.kp.cell hxz hxT).trans k0;have k1:=(HX.out.cx.kp.cell hxz hxT).trans k1;have k2:=(HX.out.cx.kp.cell hxz hxT).trans k2;have k3:=(HX.out.cx.kp.cell hxz hxT).trans k3;have hxr:xb<wi.heap.size:=Zm hxz HX.out.cx.kp.size;go_upto_region 16 with fail
        have hX1:=HX.out.new' hTo rfl #[y.name,y.type,y.notNull,y.key] 106;have hown:∀k,Qq4 vr k→wo.heap.size≤k∧k<wi.heap.size:=fun k hk=>Qqf.lt HX.out.rows hk;generalize hW1:Qw wi _=w1 at hX1⊢;have hc1:wi.heap.size<w1.heap.size:=by rw[←hW1];simp
        generalize wi.heap.size=c at hX1 hown hc1 hoi⊢;have HX1:=hid hX1;have HOW:=hid hown;have HOL:=hid (fun(b:Qqx) (hb:b∈⟨g,#["1",s.name,Qv oa rows.length oc,(),(),(),""],42⟩::(⟨p,#[Qv a6 (fs.length+1) c6,Qv ta ss.length tc],122⟩::⟨q,#[s.name,Qv (some ⟨xb,xo,none⟩) s.cols.length cc],29⟩::[⟨w.heap.size+1,#["0","",(),(),(),(),""],42⟩,⟨w.heap.size,#[Qv fa fs.length fc,Qv ta ss.length tc],122⟩]))=>(show b.pos<wo.heap.size from by simp only[Zs,Zo,Yu] at hb;rcases hb with rfl|rfl|rfl|rfl|rfl<;>dsimp only<;>omega));have HNO:=hid (fun(b:Qqx) (hb:b∈(⟨c,#[y.name,y.type,y.notNull,y.key],106⟩::⟨g,#["1",s.name,Qv oa rows.length oc,(),(),(),""],42⟩::(⟨p,#[Qv a6 (fs.length+1) c6,Qv ta ss.length tc],122⟩::⟨q,#[s.name,Qv (some ⟨xb,xo,none⟩) s.cols.length cc],29⟩::[⟨w.heap.size+1,#["0","",(),(),(),(),""],42⟩,⟨w.heap.size,#[Qv fa fs.length fc,Qv ta ss.length tc],122⟩]))) (h:Qq4 vr b.pos)=>(show False from by have:=HOW.out _ h;simp only[Zs,Zo,Yu] at hb;rcases hb with rfl|rfl|rfl|rfl|rfl|rfl<;>dsimp only at this<;>omega));clear hW1 hX1 hown k0 k1 k2 k3 hxr HX;obtain⟨k0,k1,k2,k3,_,_,kz⟩:=Qzo (HX1.out.cx.ob.blk (Zv ..));dsimp only at k0 k1 k2 k3 kz
        go_cut [63] (fun v wx=>∃b,v=.bool b∧RX T w W7 wo p (⟨c,#[y.name,y.type,y.notNull,y.key],106⟩::⟨g,#["1",s.name,Qv oa rows.length oc,(),(),(),""],42⟩::(⟨p,#[Qv a6 (fs.length+1) c6,Qv ta ss.length tc],122⟩::⟨q,#[s.name,Qv (some ⟨xb,xo,none⟩) s.cols.length cc],29⟩::[⟨w.heap.size+1,#["0","",(),(),(),(),""],42⟩,⟨w.heap.size,#[Qv fa fs.length fc,Qv ta ss.length tc],122⟩])) vr x wx)
        case first=>
         cases hky:y.key
         case true=>
          go_wp2_with fail
          go_meet
          exact⟨true,rfl,HX1.out⟩
         case false=>
          go_wp2_with fail
          refine(Qq2 T 3 _ (by omega) (by omega) HX1.out.cx.ob.tape).mono ?_;rintro e w2 ⟨v,rfl,⟨b,rfl⟩,ht,hk⟩;have HX2:=hid (HX1.out.step hTo ht hk);clear ht hk;dsimp only;go_wp2_with fail
          go_meet
          exact⟨b,rfl,HX2.out⟩
        case rest=>
         obtain⟨b,rfl,hX2⟩:=hcut;rename World=>w2;have HX2:=hid hX2;clear hX2 k0 k1 k2 k3 kz HX1;obtain⟨k0,k1,k2,k3,_,_,kz⟩:=Qzo (HX2.out.cx.ob.blk (Zv ..));dsimp only at k0 k1 k2 k3 kz;cases b
         case true=>
          by_cases h1:y.type=1
          ·
           have H1:=hid h1;clear h1;go_wp2_with fail
           refine(Qk8 T y.type _ HX2.out.cx.ob.tape (HW.out.at HX2.out.cx.ob.kept)).mono ?_;rintro e w3 ⟨v,rfl,⟨xv,rfl,hxv,hxk⟩,ht,hk⟩;have HX3:=hid (HX2.out.step hTo ht hk);clear ht hk hxv hxk k0 k1 k2 k3 kz HX2;dsimp only;go_wp2_with fail
           refine(Qxd xv.kind xv.int xv.text _).mono ?_;rintro e w4 ⟨rfl,hb⟩;have HX4:=hid (HX3.out.bel hTo hb);clear hb HX3;have tok7:Hid True:=trivial;dsimp only
           go_wp2_with(at_builtin;have _t:=tok7;refine Qzj (w:=w4) Qjs rfl _ _ 32 rfl 80 _ 10 136 underlying32 Qxk rfl (by decide) wo.heap.size vr w4.heap.size (#["1","0",false,xv.kind,xv.int,xv.text,"","",(),()]) x (Qkk xv) rfl rfl rfl HX4.out.rows rfl ((Qji ..).2 ⟨_,_,rfl,Qqa.nil ..,Qqa.nil ..⟩) (by omega) (by unfold maxLen;omega) (by have:=HX4.out.kp.size;omega) ?_;intro v' w5 ho hk;obtain⟨gx,cap,u0,u1,u2,u3,u4,u5,u6,u7,u8,u9,rfl,hgx,hgz,hgf,q0,q1,q2,q3,q4,q5,q6,q7,q8,q9⟩:=Jv6 hx ho;have HX5:=hid (HX4.out.app hk ho hpo hwp HNO.out);obtain⟨k0,k1,k2,k3,_,_,kz⟩:=Qzo (HX5.out.cx.ob.blk (Zv ..));dsimp only at k0 k1 k2 k3 kz;have h1:=H1.out;clear tok7 ho hk)
           refine(Qv3 T _ HX5.out.cx.ob.tape).mono ?_;rintro e w6 ⟨v,rfl,⟨n6,rfl,hn60,hn61⟩,ht,hk⟩;have HX6:=hid (HX5.out.step hTo ht hk);have HNG:=hid (fun(b:Qqx) (hb:b∈⟨g,#["1",s.name,Qv oa rows.length oc,(),(),(),""],42⟩::(⟨p,#[Qv a6 (fs.length+1) c6,Qv ta ss.length tc],122⟩::⟨q,#[s.name,Qv (some ⟨xb,xo,none⟩) s.cols.length cc],29⟩::[⟨w.heap.size+1,#["0","",(),(),(),(),""],42⟩,⟨w.heap.size,#[Qv fa fs.length fc,Qv ta ss.length tc],122⟩]))=>(show b.pos≠gx from by have:=HOL.out b hb;omega));clear ht hk HX5 k0 k1 k2 k3 kz hgz hgf q0 q1 q2 q3 q4 q5 q6 q7 q8 q9 h1;dsimp only;go_wp2_with fail
           refine(Qkh n6 (by omega) _).mono ?_;rintro e w7 ⟨v,rfl,hv,hb⟩;obtain⟨na,nac,ns,nsc,rfl,hva,hvs⟩:=hv;have HX7:=hid (HX6.out.bel hTo hb);have hlt:∀k,Qjl wo.heap.size (Qv (some ⟨gx,0,none⟩) (j+1) cap) k→Old w6.heap.size k:=fun k hk=>hk.elim (fun hk=>by have:=HX6.out.kp.size;unfold Old;omega) fun hk=>(Qqf.lt HX6.out.rows hk).2;have HVN:=hid (Ze (hva.weak (M':=Qjl wo.heap.size (Qv (some ⟨gx,0,none⟩) (j+1) cap)) fun k _ hk=>hlt k hk) (hvs.weak (M':=Qjl wo.heap.size (Qv (some ⟨gx,0,none⟩) (j+1) cap)) fun k _ hk=>hlt k hk));clear hlt hva hvs hb HX6;obtain⟨u0,u1,u2,u3,u4,u5,u6,u7,u8,u9,_,hgz,hgf,q0,q1,q2,q3,q4,q5,q6,q7,q8,q9⟩:=Yxa hx HX7.out.rows;have f0:=hgf (j*10);have f1:=hgf (j*10+1);have f2:=hgf (j*10+2);have f3:=hgf (j*10+3);have f4:=hgf (j*10+4);have f5:=hgf (j*10+5);have f6:=hgf (j*10+6);have f7:=hgf (j*10+7);have f8:=hgf (j*10+8);have f9:=hgf (j*10+9);clear hgf;dsimp only;go_wp2_with fail
           go_roundw
           case rel=>
            have hX8:=(HX7.out.tl.set (z:=Qqi n6) (cs:=[.int .i64 (Qqi n6).kind,.int .i64 (Qqi n6).op,.bool (Qqi n6).no,.int .i64 (Qqi n6).val.kind,.int .i64 (Qqi n6).val.int,.string (Qqi n6).val.text,.string (Qqi n6).table,.string (Qqi n6).name,.slice na (Qqi n6).args.length nac,.slice ns (Qqi n6).sub.length nsc]) rfl ((Qji ..).2 ⟨_,_,rfl,HVN.out.1,HVN.out.2⟩) hpo hwp HNG.out)
            rw[hx] at hX8;exact⟨_,j+1,x++[Qqi n6],rfl,by go_num,by omega,by simp[hx],hX8.cx,hX8.kp,hX8.rows,fun z hz=>(Yf.1 hz).elim (HD.out z) fun hz=>by rw[Zd.1 hz];exact .num n n6 (by omega) (by omega)⟩
           case measure=>simp[intOf];omega
          ·have H1:=hid h1;clear h1;go_wp2_with fail
           refine(Qk8 T y.type _ HX2.out.cx.ob.tape (HW.out.at HX2.out.cx.ob.kept)).mono ?_;rintro e w3 ⟨v,rfl,⟨xv,rfl,hxv,hxk⟩,ht,hk⟩;have HX3:=hid (HX2.out.step hTo ht hk);have HXV:=hid (show GX n (Qkk xv) from .lit n xv hxv fun e=>by have:=H1.out;omega);clear ht hk hxv hxk k0 k1 k2 k3 kz HX2;dsimp only;go_wp2_with fail
           refine(Qxd xv.kind xv.int xv.text _).mono ?_;rintro e w4 ⟨rfl,hb⟩;have HX4:=hid (HX3.out.bel hTo hb);clear hb HX3;have tok7:Hid True:=trivial;dsimp only
           go_wp2_with(at_builtin;have _t:=tok7;refine Qzj (w:=w4) Qjs rfl _ _ 32 rfl 80 _ 10 136 underlying32 Qxk rfl (by decide) wo.heap.size vr w4.heap.size (#["1","0",false,xv.kind,xv.int,xv.text,"","",(),()]) x (Qkk xv) rfl rfl rfl HX4.out.rows rfl ((Qji ..).2 ⟨_,_,rfl,Qqa.nil ..,Qqa.nil ..⟩) (by omega) (by unfold maxLen;omega) (by have:=HX4.out.kp.size;omega) ?_;intro v' w5 ho hk;have HX5:=hid (HX4.out.app hk ho hpo hwp HNO.out);obtain⟨k0,k1,k2,k3,_,_,kz⟩:=Qzo (HX5.out.cx.ob.blk (Zv ..));dsimp only at k0 k1 k2 k3 kz;have h1:=H1.out;clear tok7 ho hk)
           go_roundw
           case rel=>exact⟨_,j+1,x++[Qkk xv],rfl,by go_num,by omega,by simp[hx],HX5.out.tl.cx,HX5.out.kp,HX5.out.rows,fun z hz=>(Yf.1 hz).elim (HD.out z) fun hz=>by rw[Zd.1 hz];exact HXV.out⟩
           case measure=>simp[intOf];omega
         case false=>
          obtain⟨p0,p1,_,_,pz⟩:=Qjk (HX2.out.cx.ob.blk (b:=⟨w.heap.size,#[Qv fa fs.length fc,Qv ta ss.length tc],122⟩) (by simp));dsimp only at p0 p1 pz;go_wp2_with fail
          refine(Uzi HE.out HW.out HS.out HP1.out HX2.out.cx.ob HF.out depth y.type (by omega) (by omega) hyt.1 hyt.2).mono ?_;rintro e w3 ⟨v,rfl,⟨ex,hex,hmk⟩,ht,hk⟩;obtain⟨ya,yac,ys,ysc,rfl,hya,hys⟩:=hex;have HX3:=hid (HX2.out.step hTo ht hk);have hlt:∀k,Qjl wo.heap.size vr k→Old w2.heap.size k:=fun k hk=>hk.elim (fun hk=>by unfold Old;omega) fun hk=>by have:=(HOW.out _ hk).2;unfold Old;omega
          have HYA:=hid (Ze (hya.weak (M':=Qjl wo.heap.size vr) fun k _ hk=>hlt k hk) (hys.weak (M':=Qjl wo.heap.size vr) fun k _ hk=>hlt k hk));have HMK:=hid hmk;clear hlt ht hk hya hys hmk k0 k1 k2 k3 kz p0 p1 pz HX2;have tok7:Hid True:=trivial;dsimp only
          go_wp2_with(at_builtin;have _t:=tok7;refine Qzj (w:=w3) Qjs rfl _ _ 32 rfl 80 _ 10 136 underlying32 Qxk rfl (by decide) wo.heap.size vr w3.heap.size (#[ex.kind,ex.op,ex.no,ex.val.kind,ex.val.int,ex.val.text,ex.table,ex.name,Qv ya ex.args.length yac,Qv ys ex.sub.length ysc]) x (ex) rfl rfl rfl HX3.out.rows rfl ((Qji ..).2 ⟨_,_,rfl,HYA.out.1,HYA.out.2⟩) (by omega) (by unfold maxLen;omega) (by have:=HX3.out.kp.size;omega) ?_;intro v' w5 ho hk;have HX5:=hid (HX3.out.app hk ho hpo hwp HNO.out);clear tok7 ho hk)
          go_roundw
          case rel=>exact⟨_,j+1,x++[ex],rfl,by go_num,by omega,by simp[hx],HX5.out.tl.cx,HX5.out.kp,HX5.out.rows,fun z hz=>(Yf.1 hz).elim (HD.out z) fun hz=>by rw[Zd.1 hz];exact HMK.out.1.2⟩
          case measure=>simp[intOf];omega
  ·
   obtain⟨xb,xo,rfl,hxT,hxz,hxf⟩:=Jjb HC7.out hc0;have HXF:=hid hxf;have hcd:=Uzj s HS3.out;have hc2:=hcd.1;have HCD:=hid hcd.2;clear hxf hcd;obtain⟨s0,s1,_,_,sz⟩:=Qjk (HO.out.ob.blk (b:=⟨q,#[s.name,Qv (some ⟨xb,xo,none⟩) s.cols.length cc],29⟩) (by simp));dsimp only at s0 s1 sz;go_wp2_with fail
   refine(Qqk T s.cols.length _ (by omega) (by omega) HO.out.ob.tape).mono ?_;rintro e w9 ⟨v,rfl,⟨f,rfl,hf0,hf1⟩,ht,hk⟩;obtain⟨f,rfl⟩:=Zt hf0;have HO9:=hid (HO.out.step ht hk);have hf:f<s.cols.length:=by omega
   have hTg:T<g+1:=by omega
   clear ht hk HO g0 g1 g2 g3 g4 g5 g6 gf gz s0 s1 sz hf0 hf1;dsimp only;go_wp2_with fail
   go_loopw[15] (fun i wr=>∃(j:Nat) (vs:Value) (sets:List Qx4),i=.int .i64 j∧j≤2∧sets.length=j∧UX T w W7 p (g+1) (⟨g,#["2",s.name,(),(),vs,(),""],42⟩::(⟨p,#[Qv a6 (fs.length+1) c6,Qv ta ss.length tc],122⟩::⟨q,#[s.name,Qv (some ⟨xb,xo,none⟩) s.cols.length cc],29⟩::[⟨w.heap.size+1,#["0","",(),(),(),(),""],42⟩,⟨w.heap.size,#[Qv fa fs.length fc,Qv ta ss.length tc],122⟩])) vs sets wr∧(∀x∈sets,Qqo x.col=true∧GX n x.ex)∧sets.map Qx4.col=(List.range j).map fun i=>Ywy s (f+i)) (fun i _=>2-(intOf i).toNat)
   case atStart=>exact⟨0,_,[],rfl,by omega,rfl,⟨HO9.out,Qqn.nil ..⟩,fun x hx=>(by cases hx),rfl⟩
   case round=>
    clear HO9;rename World=>wr;obtain⟨j,vs,sets,rfl,hj2,hsl,hU,hG,hC⟩:=hrel;obtain⟨sa,sc,hvs,_⟩:=Qqn.shape hU.rows;subst hvs;have HU:=hid hU;have HG:=hid hG;have HC:=hid hC;have hs2:sets.length≤2:=by omega
    have HSL:=hid hsl;clear hU hG hC hsl;go_wp2_with fail
    refine(Qqk T 2 _ (by omega) (by omega) HU.out.cx.ob.tape).mono ?_;rintro e w10 ⟨v,rfl,⟨r2,rfl,h20,h21⟩,ht,hk⟩;have e10:IntKind.i64.wrap (1+r2)=1+r2:=Zp _ (by omega);have HU10:=hid (HU.out.step hTg ht hk);clear ht hk HU;dsimp only;obtain⟨s0,s1,_,_,sz⟩:=Qjk (HU10.out.cx.ob.blk (b:=⟨q,#[s.name,Qv (some ⟨xb,xo,none⟩) s.cols.length cc],29⟩) (by simp));dsimp only at s0 s1 sz;by_cases hc:(j:Int)<1+r2
    ·have hj1:j≤1:=by omega
     have hjl:j<s.cols.length:=by omega
     have hm0:(f+j)%s.cols.length<s.cols.length:=Nat.mod_lt _ (by omega)
     obtain⟨y,hy⟩:∃y,s.cols[(f+j)%s.cols.length]?=some y:=⟨_,Zg hm0⟩
     have HYN:=hid (show Ywy s (f+j)=y.name by unfold Ywy;rw[Jl,hy];rfl);have hyt:=HCT.out y (Yk hy);have HNB:=hid (HCN.out y (Yk hy)).2.2.2.2.1;have HYB:=hid (Qwt (HCN.out y (Yk hy)).1);obtain⟨k0,k1,k2,k3⟩:=HXF.out _ y hy;have k0:=(HU10.out.cx.kp.cell hxz hxT).trans k0;have k1:=(HU10.out.cx.kp.cell hxz hxT).trans k1;have k2:=(HU10.out.cx.kp.cell hxz hxT).trans k2;have k3:=(HU10.out.cx.kp.cell hxz hxT).trans k3;have hxr:xb<w10.heap.size:=Zm hxz HU10.out.cx.kp.size;have ea:IntKind.i64.wrap ((f:Int)+(j:Int))=(f:Int)+(j:Int):=Zp _ (by omega);have eb:((f:Int)+(j:Int)).tmod (s.cols.length:Int)=(((f+j)%s.cols.length:Nat):Int):=by rw[Int.tmod_eq_emod_of_nonneg (by omega)];simp
     have ec:(0:Int)≤(((f+j)%s.cols.length:Nat):Int):=by omega
     have ed:(((f+j)%s.cols.length:Nat):Int)<(s.cols.length:Int):=by omega
     have e0:(s.cols.length:Int)≠0:=by omega
     have HIDX:∃idx,Hid ((f+j)%s.cols.length=idx):=⟨_,hid rfl⟩
     obtain⟨idx,HIDX⟩:=HIDX;rw[HIDX.out] at hy hm0 k0 k1 k2 k3 eb ec ed;have HXI:=hid (HXF.out idx y hy);clear hy;go_upto_region 29 with fail
     go_cut [16] (fun v wx=>∃c,v=.pointer (some ⟨c,0,none⟩)∧w10.heap.size≤c∧CX T w W7 p (⟨c,#[y.name,y.type,y.notNull,y.key],106⟩::⟨g,#["2",s.name,(),(),Qv sa sets.length sc,(),""],42⟩::(⟨p,#[Qv a6 (fs.length+1) c6,Qv ta ss.length tc],122⟩::⟨q,#[s.name,Qv (some ⟨xb,xo,none⟩) s.cols.length cc],29⟩::[⟨w.heap.size+1,#["0","",(),(),(),(),""],42⟩,⟨w.heap.size,#[Qv fa fs.length fc,Qv ta ss.length tc],122⟩])) wx∧Qqb (At T) w10 wx)
     case first=>
      have HKS:=hid (fun(W':World) (h:CX T w W7 p (⟨g,#["2",s.name,(),(),Qv sa sets.length sc,(),""],42⟩::(⟨p,#[Qv a6 (fs.length+1) c6,Qv ta ss.length tc],122⟩::⟨q,#[s.name,Qv (some ⟨xb,xo,none⟩) s.cols.length cc],29⟩::[⟨w.heap.size+1,#["0","",(),(),(),(),""],42⟩,⟨w.heap.size,#[Qv fa fs.length fc,Qv ta ss.length tc],122⟩])) W')=>(show W'.cell? ⟨q,1,none⟩=some (Qv (some ⟨xb,xo,none⟩) s.cols.length cc)∧W'.cell? ⟨xb,xo+idx*4,none⟩=some (.string y.name)∧W'.cell? ⟨xb,xo+idx*4+1,none⟩=some (.int .i64 y.type)∧W'.cell? ⟨xb,xo+idx*4+2,none⟩=some (.bool y.notNull)∧W'.cell? ⟨xb,xo+idx*4+3,none⟩=some (.bool y.key) from⟨(Qjk (h.ob.blk (b:=⟨q,#[s.name,Qv (some ⟨xb,xo,none⟩) s.cols.length cc],29⟩) (by simp))).2.1,(h.kp.cell hxz hxT).trans HXI.out.1,(h.kp.cell hxz hxT).trans HXI.out.2.1,(h.kp.cell hxz hxT).trans HXI.out.2.2.1,(h.kp.cell hxz hxT).trans HXI.out.2.2.2⟩))
      go_region_held3 (fun W'=>W'.cell? ⟨q,1,none⟩=some (Qv (some ⟨xb,xo,none⟩) s.cols.length cc)∧W'.cell? ⟨xb,xo+idx*4,none⟩=some (.string y.name)∧W'.cell? ⟨xb,xo+idx*4+1,none⟩=some (.int .i64 y.type)∧W'.cell? ⟨xb,xo+idx*4+2,none⟩=some (.bool y.notNull)∧W'.cell? ⟨xb,xo+idx*4+3,none⟩=some (.bool y.key))
       (first|with_reducible exact HKS.out _ HU10.out.cx|with_reducible exact HKS.out _ HU10.out.cx.drew|with_reducible exact HKS.out _ (HU10.out.cx.alloc _)|with_reducible exact HKS.out _ (HU10.out.cx.drew.alloc _)|with_reducible exact HKS.out _ (HU10.out.cx.alloc _).drew|(trace_state;fail))
       (fail)
      all_goals go_wp2_with fail
      all_goals go_meet
      all_goals exact⟨w10.heap.size,rfl,Zz _,(HU10.out.cx.new' rfl _ _).drew,((Qqb.refl _ _).alloc _).drew⟩
     case rest=>
      obtain⟨c,rfl,hcz,hO,hkr⟩:=hcut;rename World=>w11;have HO11:=hid hO;have HK11:=hid hkr;have hTo:T<w10.heap.size:=Zm hTw HU10.out.cx.ob.size;have hpo:p≤w10.heap.size:=by have:=HU10.out.cx.kp.size;omega
      have HOL:=hid (fun(b:Qqx) (hb:b∈⟨g,#["2",s.name,(),(),Qv sa sets.length sc,(),""],42⟩::(⟨p,#[Qv a6 (fs.length+1) c6,Qv ta ss.length tc],122⟩::⟨q,#[s.name,Qv (some ⟨xb,xo,none⟩) s.cols.length cc],29⟩::[⟨w.heap.size+1,#["0","",(),(),(),(),""],42⟩,⟨w.heap.size,#[Qv fa fs.length fc,Qv ta ss.length tc],122⟩]))=>(show b.pos<w10.heap.size from HU10.out.cx.ob.blt hb));have hz11:w10.heap.size≤w11.heap.size:=hkr.size;have hcz1:c<w11.heap.size:=hO.ob.blt (Zv ..);have HNE:=hid (fun(d:Nat) (hd:w11.heap.size≤d) (b:Qqx) (hb:b∈⟨c,#[y.name,y.type,y.notNull,y.key],106⟩::⟨g,#["2",s.name,(),(),Qv sa sets.length sc,(),""],42⟩::(⟨p,#[Qv a6 (fs.length+1) c6,Qv ta ss.length tc],122⟩::⟨q,#[s.name,Qv (some ⟨xb,xo,none⟩) s.cols.length cc],29⟩::[⟨w.heap.size+1,#["0","",(),(),(),(),""],42⟩,⟨w.heap.size,#[Qv fa fs.length fc,Qv ta ss.length tc],122⟩]))=>(show b.pos≠d from by rcases Zs.1 hb with rfl|hb;(dsimp only;omega);(have:=HOL.out b hb;omega)));clear hO hkr k0 k1 k2 k3 s0 s1 sz hxr;obtain⟨k0,k1,k2,k3,kf0,kf1,kz⟩:=Qzo (HO11.out.ob.blk (Zv ..));obtain⟨p0,p1,pf0,pf1,pz⟩:=Qjk (HO11.out.ob.blk (b:=⟨p,#[Qv a6 (fs.length+1) c6,Qv ta ss.length tc],122⟩) (by simp));dsimp only at k0 k1 k2 k3 kz p0 p1 pz;clear kf0 kf1 pf0 pf1;go_upto_region 30 with fail
      go_cut [17] (fun v wx=>∃d,v=.pointer (some ⟨d,0,none⟩)∧SX T w W7 w10 p n (⟨c,#[y.name,y.type,y.notNull,y.key],106⟩::⟨g,#["2",s.name,(),(),Qv sa sets.length sc,(),""],42⟩::(⟨p,#[Qv a6 (fs.length+1) c6,Qv ta ss.length tc],122⟩::⟨q,#[s.name,Qv (some ⟨xb,xo,none⟩) s.cols.length cc],29⟩::[⟨w.heap.size+1,#["0","",(),(),(),(),""],42⟩,⟨w.heap.size,#[Qv fa fs.length fc,Qv ta ss.length tc],122⟩])) y.name d wx)
      case first=>
       have HKS:=hid (fun(W':World) (h:CX T w W7 p (⟨c,#[y.name,y.type,y.notNull,y.key],106⟩::⟨g,#["2",s.name,(),(),Qv sa sets.length sc,(),""],42⟩::(⟨p,#[Qv a6 (fs.length+1) c6,Qv ta ss.length tc],122⟩::⟨q,#[s.name,Qv (some ⟨xb,xo,none⟩) s.cols.length cc],29⟩::[⟨w.heap.size+1,#["0","",(),(),(),(),""],42⟩,⟨w.heap.size,#[Qv fa fs.length fc,Qv ta ss.length tc],122⟩])) W')=>(show W'.cell? ⟨c,0,none⟩=some (.string y.name)∧W'.cell? ⟨c,1,none⟩=some (.int .i64 y.type)∧W'.cell? ⟨p,0,none⟩=some (Qv a6 (fs.length+1) c6)∧W'.cell? ⟨p,1,none⟩=some (Qv ta ss.length tc) from⟨(Qzo (h.ob.blk (Zv ..))).1,(Qzo (h.ob.blk (Zv ..))).2.1,(Qjk (h.ob.blk (b:=⟨p,#[Qv a6 (fs.length+1) c6,Qv ta ss.length tc],122⟩) (by simp))).1,(Qjk (h.ob.blk (b:=⟨p,#[Qv a6 (fs.length+1) c6,Qv ta ss.length tc],122⟩) (by simp))).2.1⟩));have HFF:=hid (fun(W':World) (h:CX T w W7 p (⟨c,#[y.name,y.type,y.notNull,y.key],106⟩::⟨g,#["2",s.name,(),(),Qv sa sets.length sc,(),""],42⟩::(⟨p,#[Qv a6 (fs.length+1) c6,Qv ta ss.length tc],122⟩::⟨q,#[s.name,Qv (some ⟨xb,xo,none⟩) s.cols.length cc],29⟩::[⟨w.heap.size+1,#["0","",(),(),(),(),""],42⟩,⟨w.heap.size,#[Qv fa fs.length fc,Qv ta ss.length tc],122⟩])) W')=>(show Qqz (At T) W' (Qv a6 (fs.length+1) c6) (fs++[Qj6 s]) from Qqz.weak (fun k _ h=>.inl h) (Qqz.keep HF7.out h.kp)))
       go_region_held3 (fun W'=>W'.cell? ⟨c,0,none⟩=some (.string y.name)∧W'.cell? ⟨c,1,none⟩=some (.int .i64 y.type)∧W'.cell? ⟨p,0,none⟩=some (Qv a6 (fs.length+1) c6)∧W'.cell? ⟨p,1,none⟩=some (Qv ta ss.length tc))
        (first|with_reducible exact HKS.out _ HO12.out|with_reducible exact HKS.out _ HO11.out|with_reducible exact HKS.out _ HO11.out.drew|with_reducible exact HKS.out _ (HO11.out.alloc _)|with_reducible exact HKS.out _ (HO11.out.drew.alloc _)|with_reducible exact HKS.out _ (HO11.out.alloc _).drew|with_reducible exact HKS.out _ (HO12.out.alloc _)|exact HKS.out _ ((CX.puts HZ.out (by omega) 0 [y.name,ex.kind,ex.op,ex.no,ex.val.kind,ex.val.int,ex.val.text,ex.table,ex.name,Qv ya ex.args.length yac,Qv ys ex.sub.length ysc] (HNE.out _ (Zz _)) (c':=#[.string y.name,.int .i64 ex.kind,.int .i64 ex.op,.bool ex.no,.int .i64 ex.val.kind,.int .i64 ex.val.int,.string ex.val.text,.string ex.table,.string ex.name,Qv ya ex.args.length yac,Qv ys ex.sub.length ysc]) rfl).tl)|(trace_state;fail))
        ((go_at_call 93;go_loud ((first|refine(Jxp HE.out HW.out HS.out HP2.out HO11.out.drew.ob (HFF.out _ HO11.out.drew) depth y.type (by omega) (by omega) hyt.1 hyt.2).mono ?_|refine(Jxp HE.out HW.out HS.out HP2.out (HO11.out.alloc _).drew.ob (HFF.out _ (HO11.out.alloc _).drew) depth y.type (by omega) (by omega) hyt.1 hyt.2).mono ?_|refine(Jxp HE.out HW.out HS.out HP2.out (HO11.out.drew.alloc _).ob (HFF.out _ (HO11.out.drew.alloc _)) depth y.type (by omega) (by omega) hyt.1 hyt.2).mono ?_);rintro e w12 ⟨v,rfl,⟨ex,hex,hmk⟩,ht,hk⟩;obtain⟨ya,yac,ys,ysc,rfl,hya,hys⟩:=hex;have hz12:=hk.size;(try simp only[Zn,Yl] at hz12 hya hys);have HYA:=hid (Ze hya hys);have HMK:=hid hmk.1.2;(first|(have hZ:CX T w W7 p (⟨w11.heap.size,#["","0","0",false,"0","0","","","",(),()],155⟩::⟨c,#[y.name,y.type,y.notNull,y.key],106⟩::⟨g,#["2",s.name,(),(),Qv sa sets.length sc,(),""],42⟩::(⟨p,#[Qv a6 (fs.length+1) c6,Qv ta ss.length tc],122⟩::⟨q,#[s.name,Qv (some ⟨xb,xo,none⟩) s.cols.length cc],29⟩::[⟨w.heap.size+1,#["0","",(),(),(),(),""],42⟩,⟨w.heap.size,#[Qv fa fs.length fc,Qv ta ss.length tc],122⟩])) w12:=(by first|exact((HO11.out.new' rfl _ _).drew).step ht hk|exact(HO11.out.drew.new' rfl _ _).step ht hk);obtain⟨y0,y1,y2,y3,y4,y5,y6,y7,y8,y9,y10,f8,zy⟩:=Qjw (hZ.ob.blk (Zv ..));dsimp only at y0 y1 y2 y3 y4 y5 y6 y7 y8 y9 y10 f8 zy;have F0:=f8 0;have F1:=f8 1;have F2:=f8 2;have F3:=f8 3;have F4:=f8 4;have F5:=f8 5;have F6:=f8 6;have F7:=f8 7;have F8:=f8 8;have F9:=f8 9;have F10:=f8 10;have HZ:=hid hZ;clear f8;have HO12:=hid (show CX T w W7 p (⟨c,#[y.name,y.type,y.notNull,y.key],106⟩::⟨g,#["2",s.name,(),(),Qv sa sets.length sc,(),""],42⟩::(⟨p,#[Qv a6 (fs.length+1) c6,Qv ta ss.length tc],122⟩::⟨q,#[s.name,Qv (some ⟨xb,xo,none⟩) s.cols.length cc],29⟩::[⟨w.heap.size+1,#["0","",(),(),(),(),""],42⟩,⟨w.heap.size,#[Qv fa fs.length fc,Qv ta ss.length tc],122⟩])) w12 from hZ.tl);have HK12:=hid (HK11.out.trans (by first|exact(((Qqb.refl (At T) w11).alloc _).drew).trans hk|exact((Qqb.refl (At T) w11).drew.alloc _).trans hk));clear hZ)|(have HO12:=hid (show CX T w W7 p (⟨c,#[y.name,y.type,y.notNull,y.key],106⟩::⟨g,#["2",s.name,(),(),Qv sa sets.length sc,(),""],42⟩::(⟨p,#[Qv a6 (fs.length+1) c6,Qv ta ss.length tc],122⟩::⟨q,#[s.name,Qv (some ⟨xb,xo,none⟩) s.cols.length cc],29⟩::[⟨w.heap.size+1,#["0","",(),(),(),(),""],42⟩,⟨w.heap.size,#[Qv fa fs.length fc,Qv ta ss.length tc],122⟩])) w12 from HO11.out.drew.step ht hk);have HK12:=hid (HK11.out.trans ((Qqb.refl (At T) w11).drew.trans hk))));clear ht hk hya hys hmk)))
       all_goals go_wp2_with fail
       all_goals go_meet
       ·exact⟨w12.heap.size,rfl,ex,ya,ys,yac,ysc,HO12.out.new' rfl _ _,HK12.out.trans ((Qqb.refl _ _).alloc _),HK12.out.size,⟨(HYA.out.1.weak fun k _ hk=>by unfold Old;omega).keep ((Qqb.refl _ _).alloc _),(HYA.out.2.weak fun k _ hk=>by unfold Old;omega).keep ((Qqb.refl _ _).alloc _)⟩,HMK.out⟩
       ·have ks:=Qqj [y.name,ex.kind,ex.op,ex.no,ex.val.kind,ex.val.int,ex.val.text,ex.table,ex.name,Qv ya ex.args.length yac,Qv ys ex.sub.length ysc] 0 w12 (C:=w11.heap.size);have k1:Qqb (Old (w11.heap.size+1)) w12 _:=ks.weak fun k _ hk=>by unfold At at hk;unfold Old;omega
        exact⟨w11.heap.size,rfl,ex,ya,ys,yac,ysc,CX.puts HZ.out (by omega) 0 [y.name,ex.kind,ex.op,ex.no,ex.val.kind,ex.val.int,ex.val.text,ex.table,ex.name,Qv ya ex.args.length yac,Qv ys ex.sub.length ysc] (HNE.out _ (Zz _)) rfl,HK12.out.then ks (fun i hi hn=>by unfold At at hn;omega),hz11,⟨(HYA.out.1.keep k1).weak fun k _ hk=>by unfold Old;omega,(HYA.out.2.keep k1).weak fun k _ hk=>by unfold Old;omega⟩,HMK.out⟩
      case rest=>
       obtain⟨d,rfl,hS⟩:=hcut;rename World=>w13;have HS13:=hid hS;clear hS HO11 HK11 k0 k1 k2 k3 kz p0 p1 pz;obtain⟨k0,k1,k2,k3,kf0,kf1,kz⟩:=Qzo (HS13.out.blk (b:=⟨c,#[y.name,y.type,y.notNull,y.key],106⟩) (Zv ..));dsimp only at k0 k1 k2 k3 kz;clear kf0 kf1;go_upto_region 31 with fail
       go_cut [147] (fun v wx=>∃b,v=.bool b∧SX T w W7 w10 p n (⟨c,#[y.name,y.type,y.notNull,y.key],106⟩::⟨g,#["2",s.name,(),(),Qv sa sets.length sc,(),""],42⟩::(⟨p,#[Qv a6 (fs.length+1) c6,Qv ta ss.length tc],122⟩::⟨q,#[s.name,Qv (some ⟨xb,xo,none⟩) s.cols.length cc],29⟩::[⟨w.heap.size+1,#["0","",(),(),(),(),""],42⟩,⟨w.heap.size,#[Qv fa fs.length fc,Qv ta ss.length tc],122⟩])) y.name d wx)
       case first=>
        by_cases h1:y.type=1
        ·rw[h1] at k1;go_wp2_with fail
         refine(Qq2 T 2 _ (by omega) (by omega) HS13.out.tape).mono ?_;rintro e w14 ⟨v,rfl,⟨b,rfl⟩,ht,hk⟩;have HS14:=hid (HS13.out.step hTo ht hk);clear ht hk;dsimp only;go_wp2_with fail
         go_meet
         exact⟨b,rfl,HS14.out⟩
        ·go_wp2_with fail
         go_meet
         exact⟨false,rfl,HS13.out⟩
       case rest=>
        obtain⟨b,rfl,hS⟩:=hcut;rename World=>w14;have HS14:=hid hS;clear hS HS13 k0 k1 k2 k3 kz
        go_upto_if 147 with(fail)
        go_cut [17] (fun v wx=>v=.pointer (some ⟨d,0,none⟩)∧SX T w W7 w10 p n (⟨c,#[y.name,y.type,y.notNull,y.key],106⟩::⟨g,#["2",s.name,(),(),Qv sa sets.length sc,(),""],42⟩::(⟨p,#[Qv a6 (fs.length+1) c6,Qv ta ss.length tc],122⟩::⟨q,#[s.name,Qv (some ⟨xb,xo,none⟩) s.cols.length cc],29⟩::[⟨w.heap.size+1,#["0","",(),(),(),(),""],42⟩,⟨w.heap.size,#[Qv fa fs.length fc,Qv ta ss.length tc],122⟩])) y.name d wx)
        case first=>
         cases b
         case false=>
          go_wp2_with fail
          go_meet
          exact⟨rfl,HS14.out⟩
         case true=>
          have HKS:=hid (fun(W':World) (H:SX T w W7 w10 p n (⟨c,#[y.name,y.type,y.notNull,y.key],106⟩::⟨g,#["2",s.name,(),(),Qv sa sets.length sc,(),""],42⟩::(⟨p,#[Qv a6 (fs.length+1) c6,Qv ta ss.length tc],122⟩::⟨q,#[s.name,Qv (some ⟨xb,xo,none⟩) s.cols.length cc],29⟩::[⟨w.heap.size+1,#["0","",(),(),(),(),""],42⟩,⟨w.heap.size,#[Qv fa fs.length fc,Qv ta ss.length tc],122⟩])) y.name d W')=>(show W'.cell? ⟨c,0,none⟩=some (.string y.name) from(Qzo (H.blk (b:=⟨c,#[y.name,y.type,y.notNull,y.key],106⟩) (Zv ..))).1));have HCB:=hid HYB.out;obtain⟨_,_,_,_,_,hcd,_,hwd,_⟩:=HS14.out;have hdz:=hcd.ob.blt (Zv ..);dsimp only at hdz
          have hne:c≠d:=fun e=>by
           have h1:=hcd.ob.blk (Zv ..);have h2:=hcd.ob.blk (b:=⟨c,#[y.name,y.type,y.notNull,y.key],106⟩) (by simp);dsimp only at h1 h2;rw[e,h1] at h2;simp at h2
          have HNE2:=hid (fun(b:Qqx) (hb:b∈⟨c,#[y.name,y.type,y.notNull,y.key],106⟩::⟨g,#["2",s.name,(),(),Qv sa sets.length sc,(),""],42⟩::(⟨p,#[Qv a6 (fs.length+1) c6,Qv ta ss.length tc],122⟩::⟨q,#[s.name,Qv (some ⟨xb,xo,none⟩) s.cols.length cc],29⟩::[⟨w.heap.size+1,#["0","",(),(),(),(),""],42⟩,⟨w.heap.size,#[Qv fa fs.length fc,Qv ta ss.length tc],122⟩]))=>(show b.pos≠d from by rcases Zs.1 hb with rfl|hb;(exact hne);(have:=HOL.out b hb;omega)));clear hne;clear hcd;have k0:=HKS.out _ HS14.out;go_upto_region 32 with fail
          generalize hQ:Exit.then _ _=QQ;have tokA:Hid True:=trivial
          go_region_held3 (fun W'=>W'.cell? ⟨c,0,none⟩=some (.string y.name))
           (first|with_reducible exact HKS.out _ HS18.out|exact HKS.out _ (SX.item HS18.out hpo HNE2.out (Qqc (9+r3) (Qqp ⟨#[]⟩ y.name) (Qqi r4)) ab sb abc sbc (m1:=d+1) (by omega) HV18.out (Yjo hn1 (by omega) (by omega) HCB.out (by omega) (by omega)))|with_reducible exact HKS.out _ HS17.out|with_reducible exact HKS.out _ HS16.out|with_reducible exact HKS.out _ HS15.out|with_reducible exact HKS.out _ HS13.out|with_reducible exact HKS.out _ HS14.out|with_reducible exact HKS.out _ (HS14.out.drew hTo)|(trace_state;fail))
           (first
             |(go_at_call 12;have _t:=tokA;refine(Qqk T 2 _ (by omega) (by omega) (HS14.out.drew hTo).tape).mono ?_;rintro e w13 ⟨v,rfl,⟨r3,rfl,hr30,hr31⟩,ht,hk⟩;have e13:IntKind.i64.wrap (9+r3)=9+r3:=Zp _ (by omega);have hz13:=hk.size;(try simp only[Yl] at hz13);have HS13:=hid ((HS14.out.drew hTo).step hTo ht hk);clear ht hk tokA)
             |(go_at_call 57;refine(Qkl ⟨#[]⟩ y.name _).mono ?_;rintro e w15 ⟨rfl,hb⟩;have hz15:=hb.size;have HS15:=hid (HS13.out.bel hTo hb);clear hb)
             |(go_at_call 12;refine(Qqk T 4 _ (by omega) (by omega) HS15.out.tape).mono ?_;rintro e w16 ⟨v,rfl,⟨r4,rfl,hr40,hr41⟩,ht,hk⟩;have hz16:=hk.size;have HS16:=hid (HS15.out.step hTo ht hk);clear ht hk)
             |(go_at_call 100;refine(Qkh r4 (by omega) _).mono ?_;rintro e w17 ⟨v,rfl,hv,hb⟩;have HV17:=hid (hv.weak (M':=Old (d+1)) fun k _ h=>by unfold Old at h⊢;omega);have hz17:=hb.size;have HS17:=hid (HS16.out.bel hTo hb);clear hv hb)
             |(go_at_call 102;refine(Qvm (lo:=d+1) (a:=Qqp ⟨#[]⟩ y.name) (9+r3) ⟨none,0,none,0,rfl,Qqa.nil ..,Qqa.nil ..⟩ HV17.out (by omega)).mono ?_;rintro e w18 ⟨v,rfl,hv,hb⟩;obtain⟨ab,abc,sb,sbc,rfl,hva,hvs⟩:=hv;have HV18:=hid (Ze hva hvs);have hz18:=hb.size;have hB9:=HS17.out.bel hTo hb;obtain⟨v0,v1,v2,v3,v4,v5,v6,v7,v8,v9,v10,y0,y1,y2,y3,y4,y5,y6,y7,y8,y9,y10,f9,z9⟩:=hB9.frz;have F0:=f9 0;have F1:=f9 1;have F2:=f9 2;have F3:=f9 3;have F4:=f9 4;have F5:=f9 5;have F6:=f9 6;have F7:=f9 7;have F8:=f9 8;have F9:=f9 9;have F10:=f9 10;have HS18:=hid hB9;clear hva hvs hb hB9 f9))
          all_goals rw[←hQ]
          all_goals go_wp2_with fail
          all_goals go_meet
          all_goals exact⟨rfl,SX.item HS18.out hpo HNE2.out (Qqc (9+r3) (Qqp ⟨#[]⟩ y.name) (Qqi r4)) ab sb abc sbc (m1:=d+1) (by omega) HV18.out (Yjo hn1 (by omega) (by omega) HCB.out (by omega) (by omega))⟩
        case rest=>
         obtain⟨rfl,hS⟩:=hcut;rename World=>w20;obtain⟨x,a,t,ac,uc,h1,h2,h3,h4,h5⟩:=hS;have hR20:=Qqn.keep Qk6 HU10.out.rows h2 (fun k h1 _ hh=>by unfold At at hh;omega);have hown:∀k,Qq4 (Qv sa sets.length sc) k→g+1≤k∧k<w10.heap.size:=fun k hk=>HU10.out.own hk;have hgw:g+1≤w10.heap.size:=HOL.out _ (Zv ..);have hM:∀k,Qjl (g+1) (Qv sa sets.length sc) k→k<w10.heap.size∨k=d:=fun k hk=>hk.elim (fun hk=>by omega) fun hk=>.inl (hown k hk).2;have HX20:=hid (Ze (h4.1.weak (M':=Qjl (g+1) (Qv sa sets.length sc)) fun k _ hk=>hM k hk) (h4.2.weak (M':=Qjl (g+1) (Qv sa sets.length sc)) fun k _ hk=>hM k hk));have HO20:=hid h1.tl.tl;have HG20:=hid h5;have HR20:=hid hR20;have HNO:=hid (fun(b:Qqx) (hb:b∈⟨g,#["2",s.name,(),(),Qv sa sets.length sc,(),""],42⟩::(⟨p,#[Qv a6 (fs.length+1) c6,Qv ta ss.length tc],122⟩::⟨q,#[s.name,Qv (some ⟨xb,xo,none⟩) s.cols.length cc],29⟩::[⟨w.heap.size+1,#["0","",(),(),(),(),""],42⟩,⟨w.heap.size,#[Qv fa fs.length fc,Qv ta ss.length tc],122⟩])) (h:Qq4 (Qv sa sets.length sc) b.pos)=>(show False from by have:=hown _ h;simp only[Zs,Zo,Yu] at hb;rcases hb with rfl|rfl|rfl|rfl|rfl<;>dsimp only at this<;>omega));have HVO:=hid hown;obtain⟨x0,x1,x2,x3,x4,x5,x6,x7,x8,x9,x10,_,xz⟩:=Qjw (h1.ob.blk (Zv ..));obtain⟨g0,g1,g2,g3,g4,g5,g6,gf,gz⟩:=Qze (h1.ob.blk (b:=⟨g,#["2",s.name,(),(),Qv sa sets.length sc,(),""],42⟩) (by simp));dsimp only at x0 x1 x2 x3 x4 x5 x6 x7 x8 x9 x10 xz g0 g1 g2 g3 g4 g5 g6 gf gz;have hz20:=h2.size;clear h1 h2 h3 h4 h5 hM hown hR20 HS14;have tok8:Hid True:=trivial
         go_upto_region 28 with(at_builtin;have _t:=tok8;go_loud (refine Qzj (w:=w20) Qk6 rfl _ _ 40 rfl 155 _ 11 152 underlying40 Uvf rfl (by decide) (g+1) (Qv sa sets.length sc) w20.heap.size (#[y.name,x.kind,x.op,x.no,x.val.kind,x.val.int,x.val.text,x.table,x.name,Qv a x.args.length ac,Qv t x.sub.length uc]) sets ⟨y.name,x⟩ rfl rfl rfl HR20.out rfl ⟨_,rfl,(Qji ..).2 ⟨_,_,rfl,HX20.out.1,HX20.out.2⟩⟩ (by omega) (by unfold maxLen;omega) (by omega) ?_;intro v' w21 ho hk;obtain⟨na,nc,hv',_⟩:=Qqn.shape ho;rw[Zr,Jp] at hv';subst hv';have hU21:=(show UX T w W7 p (g+1) (⟨g,#["2",s.name,(),(),Qv sa sets.length sc,(),""],42⟩::(⟨p,#[Qv a6 (fs.length+1) c6,Qv ta ss.length tc],122⟩::⟨q,#[s.name,Qv (some ⟨xb,xo,none⟩) s.cols.length cc],29⟩::[⟨w.heap.size+1,#["0","",(),(),(),(),""],42⟩,⟨w.heap.size,#[Qv fa fs.length fc,Qv ta ss.length tc],122⟩])) _ _ w21 from⟨HO20.out.then hk (fun i hi=>by have:=HVO.out i hi;omega) hwp HNO.out,ho⟩);clear tok8 ho hk g0 g1 g2 g3 g4 g5 g6 gf gz;obtain⟨g0,g1,g2,g3,g4,g5,g6,gf,gz⟩:=Qze (hU21.cx.ob.blk (Zv ..));dsimp only at g0 g1 g2 g3 g4 g5 g6 gf gz;have HU21:=hid hU21;clear hU21))
         go_wp2_with fail
         go_roundw
         case rel=>
          have hU22:=HU21.out.puts (by omega) 4 [Qv na (sets.length+1) nc] (by simp;omega) (c':=#[.int .i64 2,.string s.name,Qv none 0 0,Qv none 0 0,Qv na (sets.length+1) nc,Qv none 0 0,.string ⟨#[]⟩]) rfl (by omega);refine⟨j+1,_,sets++[⟨y.name,x⟩],by go_num,by omega,by simp[HSL.out],hU22,fun z hz=>?_,?_⟩
          ·rcases Yf.1 hz with hz|hz
           ·exact HG.out z hz
           ·rw[Zd.1 hz];exact⟨HNB.out,HG20.out⟩
          ·rw[Ke,HC.out,List.range_succ,Ke,Yc,Km,Yc,Km,HYN.out]
         case measure=>simp[intOf];omega
    ·
     have hjp:1≤j:=by omega
     have HUS:=hid HU10.out;have HOS:=hid HU10.out.cx;have HDS:=hid (show Qx6 [] (sets.map Qx4.col)=true by rw[HC.out];exact HCD.out f hf j (by omega));have hs1:1≤sets.length:=by have:=HSL.out;omega
     clear s0 s1 sz HU10;go_wp2_with fail
     refine(Qq2 T 4 _ (by omega) (by omega) HOS.out.ob.tape).mono ?_;rintro e w30 ⟨v,rfl,⟨b,rfl⟩,ht,hk⟩;have HO30:=hid (HOS.out.step ht hk);have HR30:=hid (Qqn.keep Qk6 HUS.out.rows hk fun k h1 _ hh=>by unfold At at hh;omega);have HFF:=hid (fun(W':World) (h:CX T w W7 p (⟨g,#["2",s.name,(),(),Qv sa sets.length sc,(),""],42⟩::(⟨p,#[Qv a6 (fs.length+1) c6,Qv ta ss.length tc],122⟩::⟨q,#[s.name,Qv (some ⟨xb,xo,none⟩) s.cols.length cc],29⟩::[⟨w.heap.size+1,#["0","",(),(),(),(),""],42⟩,⟨w.heap.size,#[Qv fa fs.length fc,Qv ta ss.length tc],122⟩])) W')=>(show Qqz (At T) W' (Qv a6 (fs.length+1) c6) (fs++[Qj6 s]) from Qqz.weak (fun k _ h=>.inl h) (Qqz.keep HF7.out h.kp)));clear ht hk;dsimp only;cases b
     case true=>
      obtain⟨g0,g1,g2,g3,g4,g5,g6,gf,gz⟩:=Qze (HO30.out.ob.blk (Zv ..));obtain⟨r0,r1,r2,r3,r4,r5,r6,rf,rz⟩:=Qze (HO30.out.ob.blk (b:=⟨w.heap.size+1,#["0","",(),(),(),(),""],42⟩) (by simp));dsimp only at g0 g1 g2 g3 g4 g5 g6 gf gz r0 r1 r2 r3 r4 r5 r6 rf rz;go_upto_region 36 with fail
      repeat(first|go_values|go_skip|go_guarded|go_step|go_upon)
      refine Zh (v:=.agg #["2",s.name,(),(),Qv sa sets.length sc,(),""]) (by simp[results,results55,go_sem,r0,r1,r2,r3,r4,r5,r6]) rfl ?_;have FIN:=Qve (n:=n) (P:=fun a=>a.kind≤3) HO30.out.ob (Qxj (w.heap.size+1) w30 (.int .i64 2) s.name () () (Qv sa sets.length sc) () "") (lo:=g+1) (by omega) ⟨2,s.name,[],[],sets,[],⟨#[]⟩⟩ (Qv none 0 0) () (Qv sa sets.length sc) () (.inl ⟨rfl,rfl⟩) (Qqa.nil ..) (Qqn.rows Qk6 HR30.out) (Qqa.nil ..) (.update s.name sets [] HNM.out hs1 hs2 HG.out HDS.out (by simp) (fun x hx=>by cases hx)) (by omega) (by simp);exact FIN
     case false=>
      obtain⟨p0,p1,_,_,pz⟩:=Qjk (HO30.out.ob.blk (b:=⟨p,#[Qv a6 (fs.length+1) c6,Qv ta ss.length tc],122⟩) (by simp));dsimp only at p0 p1 pz;go_wp2_with fail
      refine(Jxp HE.out HW.out HS.out HP2.out HO30.out.ob (HFF.out _ HO30.out) depth 2 (by omega) (by omega) (by omega) (by omega)).mono ?_;rintro e w31 ⟨v,rfl,⟨x,hx,hmk⟩,ht,hk⟩;obtain⟨ya,yac,ys,ysc,rfl,hya,hys⟩:=hx;have HO31:=hid (HO30.out.step ht hk);have HR31:=hid (Qqn.keep Qk6 HR30.out hk fun k h1 _ hh=>by unfold At at hh;omega);have hgz:g<w30.heap.size:=HO30.out.ob.blt (Zv ..);have HYA:=hid (Ze (hya.weak (M':=Old (g+1)) fun k _ h=>by unfold Old at h⊢;omega) (hys.weak (M':=Old (g+1)) fun k _ h=>by unfold Old at h⊢;omega));have hz31:=hk.size;have HMK:=hid hmk.1.2;clear ht hk hya hys hmk p0 p1 pz;obtain⟨g0,g1,g2,g3,g4,g5,g6,gf,gz⟩:=Qze (HO31.out.ob.blk (Zv ..));dsimp only at g0 g1 g2 g3 g4 g5 g6 gf gz;dsimp only;go_upto_region 36 with fail
      have ks5:Qqb (Old (g+1)) w31 (w31.setCell ⟨g,5,none⟩ (Qv (some ⟨w31.heap.size,0,none⟩) 1 1)):=(Qqb.refl (Old (g+1)) w31).setCell (p:=⟨g,5,none⟩) (fun _=>by unfold Old;dsimp only;omega) _;have hO32:=(HO31.out.puts (by omega) 5 [Qv (some ⟨w31.heap.size,0,none⟩) 1 1] (by simp;omega) (c':=#[.int .i64 2,.string s.name,Qv none 0 0,Qv none 0 0,Qv sa sets.length sc,Qv (some ⟨w31.heap.size,0,none⟩) 1 1,.string ⟨#[]⟩]) rfl).alloc (.cells #[x.kind,x.op,x.no,x.val.kind,x.val.int,x.val.text,x.table,x.name,Qv ya x.args.length yac,Qv ys x.sub.length ysc] 80);have hE32:=Qvn (M:=Old (g+1)) (W:=w31.setCell ⟨g,5,none⟩ (Qv (some ⟨w31.heap.size,0,none⟩) 1 1)) (e:=80) (x:=x) (g:=w31.heap.size) (by simp) (by unfold Old;simp;omega) (Qq8 ks5 HYA.out);have hK32:=ks5.alloc (.cells #[x.kind,x.op,x.no,x.val.kind,x.val.int,x.val.text,x.table,x.name,Qv ya x.args.length yac,Qv ys x.sub.length ysc] 80);dsimp only[World.setCells] at hO32;generalize hW32:Qw (World.setCell _ _ _) _=w32 at hO32 hE32 hK32⊢;generalize w31.heap.size=xn at hO32 hE32⊢;have HR32:=hid (Qzb.keep hK32 (Qqa.weak (Qqn.rows Qk6 HR31.out) (fun k _ h=>h) fun _ _ _ h=>h));have HO32:=hid hO32;have HE32:=hid hE32;clear hW32 hK32 ks5 hO32 hE32 g0 g1 g2 g3 g4 g5 g6 gf gz HO31;obtain⟨g0,g1,g2,g3,g4,g5,g6,gf,gz⟩:=Qze (HO32.out.ob.blk (Zv ..));obtain⟨r0,r1,r2,r3,r4,r5,r6,rf,rz⟩:=Qze (HO32.out.ob.blk (b:=⟨w.heap.size+1,#["0","",(),(),(),(),""],42⟩) (by simp));dsimp only at g0 g1 g2 g3 g4 g5 g6 gf gz r0 r1 r2 r3 r4 r5 r6 rf rz
      repeat(first|go_values|go_skip|go_guarded|go_step|go_upon)
      refine Zh (v:=.agg #["2",s.name,(),(),Qv sa sets.length sc,Qv (some ⟨xn,0,none⟩) 1 1,""]) (by simp[results,results55,go_sem,r0,r1,r2,r3,r4,r5,r6]) rfl ?_;have FIN:=Qve (n:=n) (P:=fun a=>a.kind≤3) HO32.out.ob (Qxj (w.heap.size+1) w32 (.int .i64 2) s.name () () (Qv sa sets.length sc) (Qv (some ⟨xn,0,none⟩) 1 1) "") (lo:=g+1) (by omega) ⟨2,s.name,[],[],sets,[x],⟨#[]⟩⟩ (Qv none 0 0) () (Qv sa sets.length sc) (Qv (some ⟨xn,0,none⟩) 1 1) (.inl ⟨rfl,rfl⟩) (Qqa.nil ..) HR32.out HE32.out (.update s.name sets [x] HNM.out hs1 hs2 HG.out HDS.out (by simp) (fun y hy=>by rw[Zd.1 hy];exact HMK.out)) (by omega) (by simp);exact FIN
  ·
   go_wp2_with fail
   refine(Qq2 T 4 _ (by omega) (by omega) HO.out.ob.tape).mono ?_;rintro e w30 ⟨v,rfl,⟨b,rfl⟩,ht,hk⟩;have HO30:=hid (HO.out.step ht hk);have HFF:=hid (fun(W':World) (h:CX T w W7 p (⟨g,#["3",s.name,(),(),(),(),""],42⟩::(⟨p,#[Qv a6 (fs.length+1) c6,Qv ta ss.length tc],122⟩::⟨q,#[s.name,Qv ca s.cols.length cc],29⟩::[⟨w.heap.size+1,#["0","",(),(),(),(),""],42⟩,⟨w.heap.size,#[Qv fa fs.length fc,Qv ta ss.length tc],122⟩])) W')=>(show Qqz (At T) W' (Qv a6 (fs.length+1) c6) (fs++[Qj6 s]) from Qqz.weak (fun k _ h=>.inl h) (Qqz.keep HF7.out h.kp)));clear ht hk;dsimp only;cases b
   case true=>
    obtain⟨g0,g1,g2,g3,g4,g5,g6,gf,gz⟩:=Qze (HO30.out.ob.blk (Zv ..));obtain⟨r0,r1,r2,r3,r4,r5,r6,rf,rz⟩:=Qze (HO30.out.ob.blk (b:=⟨w.heap.size+1,#["0","",(),(),(),(),""],42⟩) (by simp));dsimp only at g0 g1 g2 g3 g4 g5 g6 gf gz r0 r1 r2 r3 r4 r5 r6 rf rz;go_upto_region 36 with fail
    repeat(first|go_values|go_skip|go_guarded|go_step|go_upon)
    refine Zh (v:=.agg #["3",s.name,(),(),(),(),""]) (by simp[results,results55,go_sem,r0,r1,r2,r3,r4,r5,r6]) rfl ?_;have FIN:=Qve (n:=n) (P:=fun a=>a.kind≤3) HO30.out.ob (Qxj (w.heap.size+1) w30 (.int .i64 3) s.name () () () () "") (lo:=g+1) (by omega) ⟨3,s.name,[],[],[],[],⟨#[]⟩⟩ (Qv none 0 0) () () () (.inl ⟨rfl,rfl⟩) (Qqa.nil ..) (Qqa.nil ..) (Qqa.nil ..) (.delete s.name [] HNM.out (by simp) (fun x hx=>by cases hx)) (by omega) (by simp);exact FIN
   case false=>
    obtain⟨p0,p1,_,_,pz⟩:=Qjk (HO30.out.ob.blk (b:=⟨p,#[Qv a6 (fs.length+1) c6,Qv ta ss.length tc],122⟩) (by simp));dsimp only at p0 p1 pz;go_wp2_with fail
    refine(Jxp HE.out HW.out HS.out HP2.out HO30.out.ob (HFF.out _ HO30.out) depth 2 (by omega) (by omega) (by omega) (by omega)).mono ?_;rintro e w31 ⟨v,rfl,⟨x,hx,hmk⟩,ht,hk⟩;obtain⟨ya,yac,ys,ysc,rfl,hya,hys⟩:=hx;have HO31:=hid (HO30.out.step ht hk);have hgz:g<w30.heap.size:=HO30.out.ob.blt (Zv ..);have HYA:=hid (Ze (hya.weak (M':=Old (g+1)) fun k _ h=>by unfold Old at h⊢;omega) (hys.weak (M':=Old (g+1)) fun k _ h=>by unfold Old at h⊢;omega));have hz31:=hk.size;have HMK:=hid hmk.1.2;clear ht hk hya hys hmk p0 p1 pz;obtain⟨g0,g1,g2,g3,g4,g5,g6,gf,gz⟩:=Qze (HO31.out.ob.blk (Zv ..));dsimp only at g0 g1 g2 g3 g4 g5 g6 gf gz;dsimp only;go_upto_region 36 with fail
    have ks5:Qqb (Old (g+1)) w31 (w31.setCell ⟨g,5,none⟩ (Qv (some ⟨w31.heap.size,0,none⟩) 1 1)):=(Qqb.refl (Old (g+1)) w31).setCell (p:=⟨g,5,none⟩) (fun _=>by unfold Old;dsimp only;omega) _;have hO32:=(HO31.out.puts (by omega) 5 [Qv (some ⟨w31.heap.size,0,none⟩) 1 1] (by simp;omega) (c':=#[.int .i64 3,.string s.name,Qv none 0 0,Qv none 0 0,Qv none 0 0,Qv (some ⟨w31.heap.size,0,none⟩) 1 1,.string ⟨#[]⟩]) rfl).alloc (.cells #[x.kind,x.op,x.no,x.val.kind,x.val.int,x.val.text,x.table,x.name,Qv ya x.args.length yac,Qv ys x.sub.length ysc] 80);have hE32:=Qvn (M:=Old (g+1)) (W:=w31.setCell ⟨g,5,none⟩ (Qv (some ⟨w31.heap.size,0,none⟩) 1 1)) (e:=80) (x:=x) (g:=w31.heap.size) (by simp) (by unfold Old;simp;omega) (Qq8 ks5 HYA.out);have hK32:=ks5.alloc (.cells #[x.kind,x.op,x.no,x.val.kind,x.val.int,x.val.text,x.table,x.name,Qv ya x.args.length yac,Qv ys x.sub.length ysc] 80);dsimp only[World.setCells] at hO32;generalize hW32:Qw (World.setCell _ _ _) _=w32 at hO32 hE32 hK32⊢;generalize w31.heap.size=xn at hO32 hE32⊢;have HO32:=hid hO32;have HE32:=hid hE32;clear hW32 hK32 ks5 hO32 hE32 g0 g1 g2 g3 g4 g5 g6 gf gz HO31;obtain⟨g0,g1,g2,g3,g4,g5,g6,gf,gz⟩:=Qze (HO32.out.ob.blk (Zv ..));obtain⟨r0,r1,r2,r3,r4,r5,r6,rf,rz⟩:=Qze (HO32.out.ob.blk (b:=⟨w.heap.size+1,#["0","",(),(),(),(),""],42⟩) (by simp));dsimp only at g0 g1 g2 g3 g4 g5 g6 gf gz r0 r1 r2 r3 r4 r5 r6 rf rz
    repeat(first|go_values|go_skip|go_guarded|go_step|go_upon)
    refine Zh (v:=.agg #["3",s.name,(),(),(),Qv (some ⟨xn,0,none⟩) 1 1,""]) (by simp[results,results55,go_sem,r0,r1,r2,r3,r4,r5,r6]) rfl ?_;have FIN:=Qve (n:=n) (P:=fun a=>a.kind≤3) HO32.out.ob (Qxj (w.heap.size+1) w32 (.int .i64 3) s.name () () () (Qv (some ⟨xn,0,none⟩) 1 1) "") (lo:=g+1) (by omega) ⟨3,s.name,[],[],[],[x],⟨#[]⟩⟩ (Qv none 0 0) () () (Qv (some ⟨xn,0,none⟩) 1 1) (.inl ⟨rfl,rfl⟩) (Qqa.nil ..) (Qqa.nil ..) HE32.out (.delete s.name [x] HNM.out (by simp) (fun y hy=>by rw[Zd.1 hy];exact HMK.out)) (by omega) (by simp);exact FIN
end Go.Proofs.YtgepbohjmgaojaaGreatDoor
