/- A query whose rows fit a table (copies). -/
import Derived.Test.YtgepbohjmgaojaaGreatDoorVZ7
import Derived.Test.YtgepbohjmgaojaaGreatDoorU11
set_option linter.all false
namespace Go.Proofs.YtgepbohjmgaojaaGreatDoor
open World renaming alloc→Qw
open Value renaming slice→Qv
open Lib(hid)
open Go.RowKit
def Uyx(n k:Nat)(w:World)(v:Value)(W:World):Prop:=∃q vi vw,v=.agg #[q.star,vi,q.frm,vw]∧Qqq (Old w.heap.size) W vi q.items∧Qqq (Old w.heap.size) W vw q.whr∧Uqu q≤n+1∧q.items.length=k∧QG n q
def Uvd(T:Nat)(L:List Qqx)(ss:List Sch)(w:World)(m:Nat)(c:Value)(wx:World):Prop:=
 ∃g s ca cc,c=.pointer (some ⟨g,0,none⟩)∧s∈ss∧m<g∧Qq1 (At T) wx (Qv ca s.cols.length cc) s.cols∧OB T w wx (⟨g,#[s.name,Qv ca s.cols.length cc],29⟩::L)
theorem Yy9{w:World}{S:Nat}{a b c d u:Value}{e:TypeId}(h:w.heap[S]?=some (.cells #[a,b,c,d] e (0,0))):(w.setCell ⟨S,3,none⟩ u).heap[S]?=some (.cells #[a,b,c,u] e (0,0)):=by simp[World.setCell,Yh,h]
theorem Jjb{M:Nat→Prop}{w:World}{a:Option Addr}{n c:Nat}{cols:List Col}(h:Qq1 M w (Qv a n c) cols)(hne:cols≠[]):∃(b o:Nat),a=some ⟨b,o,none⟩∧¬M b∧b<w.heap.size∧
 ∀(i:Nat) (x:Col),cols[i]?=some x→w.cell? ⟨b,o+i*4,none⟩=some (.string x.name)∧w.cell? ⟨b,o+i*4+1,none⟩=some (.int .i64 x.type)∧w.cell? ⟨b,o+i*4+2,none⟩=some (.bool x.notNull)∧w.cell? ⟨b,o+i*4+3,none⟩=some (.bool x.key):=by
 obtain⟨css,hs,hl,hR⟩:=h
 rcases hs with⟨_,rfl⟩|⟨b,o,cap,hv,hT,hb,_,_,hc⟩
 ·exact absurd (Jc.1 (by simpa using hl.symm)) hne
 ·injection hv with ha _ _;refine⟨b,o,ha,hT,hb,fun i x hx=>?_⟩;have hi:i<css.length:=by have:=(Yq.1 hx).1;omega
  have hcs:=hR i x css[i] hx (Zg hi);have hat:=(hc i css[i] (Zg hi)).2;unfold Uv4 at hcs;rw[hcs] at hat;exact⟨hat.get 0 (by simp[Qwg]),hat.get 1 (by simp[Qwg]),hat.get 2 (by simp[Qwg]),hat.get 3 (by simp[Qwg])⟩
def Qk5(T n p h:Nat)(w:World)(L:List Qqx)(vf vi:Value)(frs:List Frm)(items:List Ex)(m:Nat)(W:World):Prop:=
 ∃(w2:World) (x:Ex) (a s:Option Addr) (ac sc:Nat),OB T w W (⟨m,#[x.kind,x.op,x.no,x.val.kind,x.val.int,x.val.text,x.table,x.name,Qv a x.args.length ac,Qv s x.sub.length sc],80⟩::L)∧w2.heap.size≤m∧Qqb (At T) w2 W∧Qqz (TOr T p) w2 vf frs∧
  Qqn (h+1) w2 80 10 (fun M w (e:Ex) cs=>EC M w e cs) vi items∧(dep x≤n∧GX n x)∧Qqq (Qjl (h+1) vi) W (Qv a x.args.length ac) x.args∧Qz1 (Qjl (h+1) vi) W (Qv s x.sub.length sc) x.sub
theorem Qw2{T n p h:Nat}{w:World}{L:List Qqx}{vf vi:Value}{frs:List Frm}{items:List Ex}{m:Nat}{W W':World}(H:Qk5 T n p h w L vf vi frs items m W)(hT:T<h)(ht:Qql T W')(k:Qqb (At T) W W'):Qk5 T n p h w L vf vi frs items m W':=by
 obtain⟨w2,x,a,s,ac,sc,h1,h2,h3,h4,h5,h6,h7,h8⟩:=H;have kk:Qqb (Qjl (h+1) vi) W W':=k.weak fun j _ hj=>.inl (by unfold At at hj;omega);exact⟨w2,x,a,s,ac,sc,h1.step ht k,h2,h3.trans k,h4,h5,h6,h7.keep kk,h8.keep kk⟩
theorem Jk8{T n p h:Nat}{w:World}{L:List Qqx}{vf vi:Value}{frs:List Frm}{items:List Ex}{m:Nat}{W:World}(H:Qk5 T n p h w L vf vi frs items m W)(hT:T<h)(o:Obj):Qk5 T n p h w L vf vi frs items m (W.alloc o):=by
 have ht:Qql T W:=by obtain⟨w2,x,a,s,ac,sc,h1,_⟩:=H;exact h1.tape
 exact Qw2 H hT (ht.alloc _) ((Qqb.refl _ W).alloc o)
theorem Yz8{w:World}{S:Nat}{a0 a1 a2 a3 a4 a5 a6 a7 a8 a9 b0 b1 b2 b3 b4 b5 b6 b7 b8 b9:Value}{e:TypeId}(h:w.heap[S]?=some (.cells #[a0,a1,a2,a3,a4,a5,a6,a7,a8,a9] e (0,0))):
 ((((((((((w.setCell ⟨S,0,none⟩ b0).setCell ⟨S,1,none⟩ b1).setCell ⟨S,2,none⟩ b2).setCell ⟨S,3,none⟩ b3).setCell ⟨S,4,none⟩ b4).setCell ⟨S,5,none⟩ b5).setCell ⟨S,6,none⟩ b6).setCell ⟨S,7,none⟩ b7).setCell ⟨S,8,none⟩ b8).setCell ⟨S,9,none⟩ b9).heap[S]?=some (.cells #[b0,b1,b2,b3,b4,b5,b6,b7,b8,b9] e (0,0)):=by
 simp[World.setCell,Yh,h]
theorem Jv5{T n p h m1:Nat}{w:World}{L:List Qqx}{vf vi:Value}{frs:List Frm}{items:List Ex}{m:Nat}{W:World}(H:Qk5 T n p h w L vf vi frs items m W)(hL:∀b∈L,b.pos≠m)(hw:w.heap.size≤m)(x:Ex)(a s:Option Addr)(ac sc:Nat)(hm:m<m1)(hh:h+1≤m1)
 (hx:Qqq (Old m1) W (Qv a x.args.length ac) x.args∧Qz1 (Old m1) W (Qv s x.sub.length sc) x.sub)(hd:dep x≤n∧GX n x):
 Qk5 T n p h w L vf vi frs items m ((((((((((W.setCell ⟨m,0,none⟩ (.int .i64 x.kind)).setCell ⟨m,1,none⟩ (.int .i64 x.op)).setCell ⟨m,2,none⟩ (.bool x.no)).setCell ⟨m,3,none⟩ (.int .i64 x.val.kind)).setCell ⟨m,4,none⟩ (.int .i64 x.val.int)).setCell ⟨m,5,none⟩ (.string x.val.text)).setCell ⟨m,6,none⟩ (.string x.table)).setCell ⟨m,7,none⟩ (.string x.name)).setCell ⟨m,8,none⟩ (Qv a x.args.length ac)).setCell ⟨m,9,none⟩ (Qv s x.sub.length sc)):=by
 obtain⟨w2,y,b,t,bc,tc,h1,h2,h3,h4,h5,h6,h7,h8⟩:=H;have ks:=Qqh m W x.kind x.op x.no x.val.kind x.val.int x.val.text x.table x.name (Qv a x.args.length ac) (Qv s x.sub.length sc);have hb:=Yz8 (b0:=.int .i64 x.kind) (b1:=.int .i64 x.op) (b2:=.bool x.no) (b3:=.int .i64 x.val.kind) (b4:=.int .i64 x.val.int) (b5:=.string x.val.text) (b6:=.string x.table) (b7:=.string x.name) (b8:=Qv a x.args.length ac) (b9:=Qv s x.sub.length sc) (h1.blk (Zv ..));dsimp only at hb;generalize World.setCell _ _ _=W' at ks hb⊢;have h1':=((h1.sub (L':=L) fun b hb=>Zl _ hb).then ks (fun i hi e=>by unfold At at e;omega) (fun b hb e=>hL b hb e)).add hw hb;have hv:∀k,k<W.heap.size→Qjl (h+1) vi k→Old m1 k:=fun k _ hk=>hk.elim (fun hk=>by unfold Old;omega) fun hk=>by have:=(Qqf.lt h5 hk).2;unfold Old;omega
 have k1:Qqb (Old m1) W W':=ks.weak fun k _ hk=>by unfold At at hk;unfold Old;omega
 exact⟨w2,x,a,s,ac,sc,h1',h2,h3.then ks (fun i hi e=>by unfold At at e;omega),h4,h5,hd,(hx.1.keep k1).weak fun k hk hk'=>hk'.elim (fun hk'=>by unfold Old;omega) fun hk'=>by have:=(Qqf.lt h5 hk').2;unfold Old;omega,(hx.2.keep k1).weak fun k hk hk'=>hk'.elim (fun hk'=>by unfold Old;omega) fun hk'=>by have:=(Qqf.lt h5 hk').2;unfold Old;omega⟩
theorem Jz1{T n p h:Nat}{w:World}{L:List Qqx}{vf vi:Value}{frs:List Frm}{items:List Ex}{m:Nat}{W:World}(H:Qk5 T n p h w L vf vi frs items m W):Qql T W:=by obtain⟨w2,x,a,s,ac,sc,h1,_⟩:=H;exact h1.tape
theorem Yqe{T n p h:Nat}{w:World}{L:List Qqx}{vf vi:Value}{frs:List Frm}{items:List Ex}{m:Nat}{W W':World}(H:Qk5 T n p h w L vf vi frs items m W)(hT:T<h)(hb:Below W.heap.size W W'):Qk5 T n p h w L vf vi frs items m W':=Qw2 H hT ((Jz1 H).bel hb) (.bel hb)
theorem Jz2{T n p h:Nat}{w:World}{L:List Qqx}{vf vi:Value}{frs:List Frm}{items:List Ex}{m:Nat}{W:World}(H:Qk5 T n p h w L vf vi frs items m W)(hT:T<h):Qk5 T n p h w L vf vi frs items m W.drew:=Qw2 H hT (Jz1 H).drew (Qqb.refl _ W).drew
theorem Uqa{T n p h:Nat}{w:World}{L:List Qqx}{vf vi:Value}{frs:List Frm}{items:List Ex}{m:Nat}{W:World}(H:Qk5 T n p h w L vf vi frs items m W)(hT:T<h)(cs:Array Value)(e:TypeId){g:Nat}(hg:g=W.heap.size):Qk5 T n p h w (⟨g,cs,e⟩::L) vf vi frs items m (W.alloc (.cells cs e)):=by
 obtain⟨w2,x,a,s,ac,sc,h1,h2,h3,h4,h5,h6,h7,h8⟩:=Jk8 H hT (.cells cs e);obtain⟨_,_,_,_,_,_,g1,_⟩:=H;refine⟨w2,x,a,s,ac,sc,h1.join (L':=[⟨g,cs,e⟩]) ((g1.new' hg cs e).sub fun b hb=>by rw[Zd.1 hb];exact Zv ..) |>.sub fun b hb=>?_,h2,h3,h4,h5,h6,h7,h8⟩;simp only[Zs,Yf,Zo,Yu] at hb⊢;rcases hb with hb|hb|hb
 ·exact .inl (.inl hb)
 ·exact .inr hb
 ·exact .inl (.inr hb)
theorem Uqb{T n p h:Nat}{w:World}{L:List Qqx}{b:Qqx}{vf vi:Value}{frs:List Frm}{items:List Ex}{m:Nat}{W:World}(H:Qk5 T n p h w (b::L) vf vi frs items m W):Qk5 T n p h w L vf vi frs items m W:=by
 obtain⟨w2,x,a,s,ac,sc,h1,hr⟩:=H;refine⟨w2,x,a,s,ac,sc,h1.sub fun c hc=>?_,hr⟩;simp only[Zs] at hc⊢;exact hc.elim .inl fun h=>.inr (.inr h)
theorem Yqf{T n p h:Nat}{w:World}{L:List Qqx}{vf vi:Value}{frs:List Frm}{items:List Ex}{m:Nat}{W:World}(H:Qk5 T n p h w L vf vi frs items m W){b:Qqx}(hb:b∈L):W.heap[b.pos]?=some (.cells b.cells b.ty (0,0)):=by
 obtain⟨w2,x,a,s,ac,sc,h1,_⟩:=H;exact h1.blk (Zl _ hb)
theorem Uqc{T n p h:Nat}{w:World}{L:List Qqx}{vf vi:Value}{frs:List Frm}{items:List Ex}{m:Nat}{W:World}(H:Qk5 T n p h w L vf vi frs items m W):∃b0 b1 b2 b3 b4 b5 b6 b7 b8 b9:Value,W.cell? ⟨m,0,none⟩=some b0∧W.cell? ⟨m,1,none⟩=some b1∧W.cell? ⟨m,2,none⟩=some b2∧W.cell? ⟨m,3,none⟩=some b3∧W.cell? ⟨m,4,none⟩=some b4∧W.cell? ⟨m,5,none⟩=some b5∧W.cell? ⟨m,6,none⟩=some b6∧W.cell? ⟨m,7,none⟩=some b7∧W.cell? ⟨m,8,none⟩=some b8∧W.cell? ⟨m,9,none⟩=some b9∧(∀i,W.frozen? ⟨m,i,none⟩=false)∧m<W.heap.size:=by
 obtain⟨w2,x,a,s,ac,sc,h1,_⟩:=H;exact⟨_,_,_,_,_,_,_,_,_,_,Qq5 (h1.blk (Zv ..))⟩
theorem Yjo{n:Nat}{o k:Int}{q nm:ByteArray}(hn:1≤n)(ho:1≤o)(ho2:o≤13)(hc:Qjj q nm=true)(hk:-1000≤k)(hk2:k≤1000):GX n (Qqc o (Qqp q nm) (Qqi k)):=by
 obtain⟨m,rfl⟩:∃m,n=m+1:=⟨n-1,by omega⟩
 exact .ops m 5 o false [Qqp q nm,Qqi k] (by simp[Qzg,ho,ho2]) fun x hx=>by
  simp only[Zs,Zo,Yu] at hx;rcases hx with rfl|rfl
  ·exact .col m q nm hc
  ·exact .num m k hk hk2
theorem Ywx{n:Nat}{o k:Int}{q nm:ByteArray}(hn:1≤n)(hk:0≤k):dep (Qqc o (Qqp q nm) (Qqi k))≤n:=by
 rw[Qqi,if_neg (by omega)];refine Ya ?_ hn;simp[Qqc,Qqp,Qkk,dep,Qvr,Yvr]
theorem Uqd{M:Nat→Prop}{w:World}{a:Option Addr}{c:Nat}{fs:List Frm}{f:Frm}(h:Qqz M w (Qv a (fs.length+1) c) (fs++[f])):∃b o,a=some ⟨b,o,none⟩∧fs.length+1≤c∧c≤maxLen∧Qqz M w (Qv (some ⟨b,o+fs.length*4,none⟩) 1 (c-fs.length)) [f]:=by
 obtain⟨css,hs,hl,hR⟩:=h;have hl':css.length=fs.length+1:=by rw[hl];simp
 rcases hs with⟨_,rfl⟩|⟨b,o,cap,hv,hT,hb,hlc,hm,hc⟩
 ·simp at hl'
 ·injection hv with ha hn hcc;subst ha hcc;refine⟨b,o,rfl,by omega,hm,?_⟩
  have h2:Qqz M w (Qv (some ⟨b,o,none⟩) (fs.length+1) c) (fs++[f]):=⟨css,.inr ⟨b,o,c,by rw[hl'],hT,hb,hlc,hm,hc⟩,hl,hR⟩
  have h3:=Qqa.drop h2 fs.length (by omega);rw[List.drop_left,show fs.length+1-fs.length=1 by omega] at h3;exact h3
theorem Jxp{n T:Nat}{w W:World}{L:List Qqx}{a6 ta:Option Addr}{c6 tc:Nat}{look:List UInt8→List Col}{fs:List Frm}{s:Sch}{ss:List Sch}(hE:Qwn n)(hw:Qjh T w)(hs:Qjt (At T) w (Qv ta ss.length tc) ss)
 (hP:Qzm look (fs++[Qj6 s]) ss n)(O:OB T w W L)(hf:Qqz (At T) W (Qv a6 (fs.length+1) c6) (fs++[Qj6 s]))(dp want:Int)(h1:dp≤n)(h2:-10≤dp)(h3:1≤want)(h4:want≤3):
 Calls Tryz.prog 93 #[.pointer (some ⟨T,0,none⟩),.agg #[Qv a6 (fs.length+1) c6,Qv ta ss.length tc],want,dp] W (Qjp T W (ExQ (Mk ss (fs++[Qj6 s]) want n) W)):=by
 have hl:(fs++[Qj6 s]).length=fs.length+1:=by simp
 rw[←hl] at hf⊢;exact hE T dp want a6 ta c6 tc look _ ss W h1 h2 h3 h4 O.tape (hw.at O.kept) hf (hs.keep O.kept) hP
theorem Yz9{T S n k:Nat}{w W W':World}{L:List Qqx}{nm:ByteArray}{vi vw:Value}{items whr:List Ex}(O:OB T w W L)(ks:Qqb (At S) W W')(hS:w.heap.size≤S)(hr:Qqq (Old (S+1)) W vi items)(hx:Qqq (Old (S+1)) W vw whr)(hsn:Qju nm=true)
 (hd:∀x∈items,dep x≤n∧GX n x)(hdw:∀x∈whr,dep x≤n∧GX n x)(hwl:whr.length≤1)(hk0:k≠0)(hl:items.length=k):Qjp T w (Uyx n k w) (.returned (.agg #[false,vi,nm,vw])) W':=by
 have O':=(O.sub (L':=[]) (fun b h=>by cases h)).then ks (fun i hi e=>by unfold At at e;omega) (fun b h=>by cases h);have kw:∀{v:Value} {l:List Ex},Qqq (Old (S+1)) W v l→Qqq (Old w.heap.size) W' v l:=fun h=>Qqq.weak (fun k _ hk=>by unfold Old at hk⊢;omega) (Qqq.keep h (ks.weak fun k _ hk=>by unfold At at hk;unfold Old;omega));refine O'.gives ⟨.mk false items nm whr,vi,vw,rfl,kw hr,kw hx,?_,hl,fun x hx=>(hd x hx).2,fun x hx=>(hdw x hx).2,hwl,hsn,?_⟩
 ·rw[Yj3];have:=Jjt fun x hx=>(hd x hx).1;have:=Jjt fun x hx=>(hdw x hx).1;show max (Qvr items) (Qvr whr)+1≤n+1;omega
 ·show false=(items.length==0);rw[hl];simp[hk0]
set_option maxRecDepth 100000 in
set_option maxHeartbeats 40000000 in
theorem Yva(n:Nat)(hE:Qwn n)(T:Nat)(depth:Int)(fa ta:Option Addr)(fc tc:Nat)(look:List UInt8→List Col)(fs:List Frm)(ss:List Sch)(sn:ByteArray)(vc:Value)(cols:List Col)(w:World)(hd:depth≤(n:Int))(hd0:-10≤depth)(hn:n≤50)(hn1:1≤n)(ht:Qql T w)(hw:Qjh T w)
 (hf:Qqz (At T) w (Qv fa fs.length fc) fs)(hs:Qjt (At T) w (Qv ta ss.length tc) ss)(hP:Qzm look fs ss (n+1))(hc:Qq1 (At T) w vc cols)(hct:∀c∈cols,1≤c.type∧c.type≤3)(hcl:cols.length≤10)(hc0:cols≠[]):
 Calls Tryz.prog 98 #[.pointer (some ⟨T,0,none⟩),.agg #[Qv fa fs.length fc,Qv ta ss.length tc],.agg #[sn,vc],depth] w (Qjp T w (Uyx n cols.length w)):=by
 obtain⟨xa,xc,rfl,_⟩:=hc.shape;obtain⟨xb,xo,rfl,hxT,hxz,hxf⟩:=Jjb hc hc0;have HXF:=hid hxf;clear hxf;obtain⟨tb,to',F,L,G,N,rfl,_,htT,htb,hn0,hn1,hsch⟩:=Jv8 hs hP.2.2.2.2.1;have hTw:=ht.lt;have hss:1≤ss.length:=Jn.2 hP.2.2.2.2.1;have hss10:ss.length≤10:=hP.2.2.2.2.2.1;have HSCH:=hid hsch;have HN0:=hid hn0;have HN1:=hid hn1;have HT:=hid ht;have HW:=hid hw;have HF:=hid hf;have HS:=hid hs;have HP:=hid hP;have HE:=hid hE;have HXC:=hid hc;have HCT:=hid hct;clear hsch hn0 hn1 ht hw hf hs hP hE hc hct;go_enter Tryz.func98,Tryz.ntmps98;go_wp2_with fail
 generalize hW:(((w.alloc _).alloc _).alloc _)=W0
 have hO:OB T w W0 [⟨w.heap.size+1+1,#[false,(),"",()],37⟩,⟨w.heap.size+1,#[sn,Qv (some ⟨xb,xo,none⟩) cols.length xc],29⟩,⟨w.heap.size,#[Qv fa fs.length fc,Qv (some ⟨tb,to',none⟩) ss.length tc],122⟩]:=by
  rw[←hW];exact(((OB.start HT.out).new' rfl _ _).new' (by simp) _ _).new' (by simp) _ _
 have hz0:w.heap.size+1+1<W0.heap.size:=by rw[←hW];simp
 have HO:=hid hO;have p0:=(Qjk (hO.blk (b:=⟨w.heap.size,#[Qv fa fs.length fc,Qv (some ⟨tb,to',none⟩) ss.length tc],122⟩) (by simp))).1;have p1:=(Qjk (hO.blk (b:=⟨w.heap.size,#[Qv fa fs.length fc,Qv (some ⟨tb,to',none⟩) ss.length tc],122⟩) (by simp))).2.1;have htb0:tb<W0.heap.size:=by omega
 clear hW hO
 go_cut [9] (fun c wx=>Uvd T [⟨w.heap.size+1+1,#[false,(),"",()],37⟩,⟨w.heap.size+1,#[sn,Qv (some ⟨xb,xo,none⟩) cols.length xc],29⟩,⟨w.heap.size,#[Qv fa fs.length fc,Qv (some ⟨tb,to',none⟩) ss.length tc],122⟩] ss w (w.heap.size+1+1) c wx)
 case first=>
  have HKS:=hid (fun(w':World) (h:OB T w w' [⟨w.heap.size+1+1,#[false,(),"",()],37⟩,⟨w.heap.size+1,#[sn,Qv (some ⟨xb,xo,none⟩) cols.length xc],29⟩,⟨w.heap.size,#[Qv fa fs.length fc,Qv (some ⟨tb,to',none⟩) ss.length tc],122⟩])=>(show w'.cell? ⟨w.heap.size,1,none⟩=some (Qv (some ⟨tb,to',none⟩) ss.length tc)∧(∀i:Nat,i<ss.length→w'.cell? ⟨tb,to'+i*2,none⟩=some (.string (N i)))∧(∀i:Nat,i<ss.length→w'.cell? ⟨tb,to'+i*2+1,none⟩=some (Qv (F i) (L i) (G i))) from⟨(Qjk (h.blk (b:=⟨w.heap.size,#[Qv fa fs.length fc,Qv (some ⟨tb,to',none⟩) ss.length tc],122⟩) (by simp))).2.1,fun i hi=>(h.kept.cell htb htT).trans (HN0.out i hi),fun i hi=>(h.kept.cell htb htT).trans (HN1.out i hi)⟩))
  go_region_held3 (fun w'=>w'.cell? ⟨w.heap.size,1,none⟩=some (Qv (some ⟨tb,to',none⟩) ss.length tc)∧(∀i:Nat,i<ss.length→w'.cell? ⟨tb,to'+i*2,none⟩=some (.string (N i)))∧(∀i:Nat,i<ss.length→w'.cell? ⟨tb,to'+i*2+1,none⟩=some (Qv (F i) (L i) (G i))))
   (first|(refine HKS.out _ ?_;first|with_reducible exact HO5.out|with_reducible exact HO.out.drew|with_reducible exact(HO.out.alloc _).drew|with_reducible exact HO.out.drew.alloc _|with_reducible exact HO5.out.alloc _|exact(Ux9 HO5.out (by omega) (by simp;omega) _ _))|fail)
   ((go_at_call 12;go_loud (refine(Qqk T ss.length _ (by omega) (by omega) (by first|with_reducible exact HO.out.drew.tape|with_reducible exact(HO.out.alloc _).drew.tape|with_reducible exact(HO.out.drew.alloc _).tape)).mono ?_;rintro e w5 ⟨v,rfl,⟨r,rfl,hr0,hr1⟩,ht5,hk5⟩;obtain⟨i,rfl⟩:=Zt hr0;have hi:i<ss.length:=(by omega);have hO5:OB T w w5 [⟨w.heap.size+1+1,#[false,(),"",()],37⟩,⟨w.heap.size+1,#[sn,Qv (some ⟨xb,xo,none⟩) cols.length xc],29⟩,⟨w.heap.size,#[Qv fa fs.length fc,Qv (some ⟨tb,to',none⟩) ss.length tc],122⟩]:=(by first|exact HO.out.drew.step ht5 hk5|exact(HO.out.alloc _).drew.step ht5 hk5);have z5:=hk5.size;(try simp only[Zn,Yl] at z5);(first|(have hx5:=((hk5.block W0.heap.size (by simp) (fun h=>by unfold At at h;omega)).trans (show _=some (.cells #["",()] 29 (0,0)) from Zw W0 _));obtain⟨x0,x1,xf0,xf1,xz⟩:=Qjk hx5;have HX5:=hid hx5;clear hx5)|skip);have HO5:=hid hO5;clear ht5 hk5 hO5)))
  all_goals go_wp2_with fail
  all_goals
   obtain⟨en,el,hc⟩:=HSCH.out i _ (Zg hi);have hmem:ss[i]∈ss:=Yo hi;generalize ss[i]=s at en el hc hmem;rw[el] at hc;have HC5:=hid hc
   go_meet
  ·exact⟨w5.heap.size,s,F i,G i,rfl,hmem,by omega,HC5.out.keep (HO5.out.alloc _).kept,by rw[←en,←el];exact HO5.out.new' rfl _ _⟩
  ·have O6:=Ux9 HO5.out (i:=0) (k:=1) (p:=W0.heap.size) (by omega) (by simp;omega) (.string (N i)) (Qv (F i) (L i) (G i));exact⟨W0.heap.size,s,F i,G i,rfl,hmem,by omega,HC5.out.keep O6.kept,by rw[←en,←el];exact O6.add (by omega) (Jkg HX5.out)⟩
 case rest=>
  obtain⟨g,s,ca,cc,rfl,hmem,hg,hc,hO⟩:=hcut;have HSN:=hid (HP.out.2.2.2.2.2.2.2 s hmem).1;have HP2:=hid (HP.out.inside hmem);have hfl:fs.length≤100:=by have:=HP.out.2.1;omega
  have HFc:=hid (HF.out.keep hO.kept);have HC:=hid hc;obtain⟨x0,x1,_,_,gz⟩:=Qjk (hO.blk (Zv ..));obtain⟨p0,p1,_,_,pz⟩:=Qjk (hO.blk (b:=⟨w.heap.size,#[Qv fa fs.length fc,Qv (some ⟨tb,to',none⟩) ss.length tc],122⟩) (by simp));have HO:=hid hO;clear hO hc HSCH HN0 HN1;dsimp only at x0 x1 gz p0 p1 pz
  go_upto_region 3 with(go_at_call 96;go_loud (refine(Qw8 (M:=At T) (Qv fa fs.length fc) (Qv (some ⟨tb,to',none⟩) ss.length tc) fs s.name (Qv ca s.cols.length cc) s.cols _ _ _ _ rfl HFc.out HC.out (fun k h1 h2=>by unfold At at h2;omega) (by omega)).mono ?_;rintro e w6 ⟨a6,c6,rfl,h6,hb6⟩;rw[show(fs++[Frm.mk s.name false s.cols]).length=fs.length+1 by simp] at h6⊢;have HO6:=hid (HO.out.bel hb6);have HF6:=hid h6;clear h6 hb6))
  have hz6:=HO6.out.blt (Zv ..);have hO7:=HO6.out.new' rfl #[Qv a6 (fs.length+1) c6,Qv (some ⟨tb,to',none⟩) ss.length tc] 122;have hf7:=Qqz.keep (Qqz.weak (M':=TOr T w6.heap.size) (fun k hk h=>by unfold TOr at h;rcases h with h|h;exact h;omega) HF6.out) ((Qqb.refl _ w6).alloc (.cells #[Qv a6 (fs.length+1) c6,Qv (some ⟨tb,to',none⟩) ss.length tc] 122));have hpz:w6.heap.size<(w6.alloc (.cells #[Qv a6 (fs.length+1) c6,Qv (some ⟨tb,to',none⟩) ss.length tc] 122)).heap.size:=by simp
  generalize hW7:Qw w6 _=W7 at hO7 hf7 hpz⊢;dsimp only at hz6;generalize w6.heap.size=p at hO7 hz6 hpz hf7⊢;have HO7:=hid hO7;have HF7:=hid hf7;obtain⟨x0,x1,_,_,gz⟩:=Qjk (hO7.blk (b:=⟨g,#[s.name,Qv ca s.cols.length cc],29⟩) (by simp));obtain⟨p0,p1,_,_,pz⟩:=Qjk (hO7.blk (b:=⟨p,#[Qv a6 (fs.length+1) c6,Qv (some ⟨tb,to',none⟩) ss.length tc],122⟩) (by simp));dsimp only at x0 x1 gz p0 p1 pz;clear hW7 hO7 hf7 HO6 HF6;go_upto_region 4 with fail
  have hO8:=HO7.out.new' rfl #[false,(),s.name,()] 37;have hf8:=HF7.out.keep ((Qqb.refl (TOr T p) W7).alloc (.cells #[false,(),s.name,()] 37));generalize hW8:Qw W7 _=W8 at hO8 hf8⊢;generalize W7.heap.size=h at hO8 hpz⊢;have HO8:=hid hO8;have HF8:=hid hf8;clear hW8 hO8 hf8 HO7 HF7 x0 x1 gz p0 p1 pz;obtain⟨b0,b1,_,_,_⟩:=Qjk (HO8.out.blk (b:=⟨w.heap.size+1,#[sn,Qv (some ⟨xb,xo,none⟩) cols.length xc],29⟩) (by simp));dsimp only at b0 b1;go_wp2_with fail
  go_loopw[35] (fun i wr=>∃(j:Nat) (vi:Value) (items:List Ex),i=.int .i64 j∧j≤cols.length∧items.length=j∧OB T w wr (⟨h,#[false,vi,s.name,()],37⟩::⟨p,#[Qv a6 (fs.length+1) c6,Qv (some ⟨tb,to',none⟩) ss.length tc],122⟩::⟨g,#[s.name,Qv ca s.cols.length cc],29⟩::[⟨w.heap.size+1+1,#[false,(),"",()],37⟩,⟨w.heap.size+1,#[sn,Qv (some ⟨xb,xo,none⟩) cols.length xc],29⟩,⟨w.heap.size,#[Qv fa fs.length fc,Qv (some ⟨tb,to',none⟩) ss.length tc],122⟩])∧Qqz (TOr T p) wr (Qv a6 (fs.length+1) c6) (fs++[Qj6 s])∧Qqn (h+1) wr 80 10 (fun M w (e:Ex) cs=>EC M w e cs) vi items∧∀x∈items,dep x≤n∧GX n x) (fun i _=>cols.length-(intOf i).toNat)
  case atStart=>exact⟨0,_,[],rfl,Zi _,rfl,HO8.out,HF8.out,Qqn.nil ..,fun x hx=>by cases hx⟩
  case round=>
   clear HO8 HF8 b0 b1;rename World=>wr;obtain⟨j,vi,items,rfl,hj,hlen,hO,hfr,hrows,hd⟩:=hrel;have HO:=hid hO;have HFR:=hid hfr;have HRW:=hid hrows;have HD:=hid hd;clear hO hfr hrows hd;by_cases hjl:j=cols.length
   ·obtain⟨va,vc,hvi,_⟩:=Qqn.shape HRW.out;rw[hlen,hjl] at hvi;subst hvi;go_wp2_with fail
    refine(Qq2 T 2 _ (by omega) (by omega) HO.out.tape).mono ?_;rintro e w10 ⟨v,rfl,⟨b,rfl⟩,ht,hk⟩;have HO10:=hid (HO.out.step ht hk);have HR10:Hid (Qqn (h+1) w10 80 10 (fun M w (e:Ex) cs=>EC M w e cs) (Qv va cols.length vc) items):=hid (Qqn.keep Qjs HRW.out hk fun k h1 _ hh=>by unfold At at hh;omega);have HF10:=hid (HFR.out.keep (hk.weak fun k _ h=>.inl h));clear ht hk;obtain⟨c0,c1,c2,c3,_,_,cz⟩:=Qzo (HO10.out.blk (Zv ..));obtain⟨r0,r1,r2,r3,_,_,rz⟩:=Qzo (HO10.out.blk (b:=⟨w.heap.size+1+1,#[false,(),"",()],37⟩) (by simp));have rf:=frz (HO10.out.blk (b:=⟨w.heap.size+1+1,#[false,(),"",()],37⟩) (by simp));dsimp only at c0 c1 c2 c3 cz r0 r1 r2 r3 rz rf⊢;obtain⟨q0,q1,_,_,qz⟩:=Qjk (HO10.out.blk (b:=⟨p,#[Qv a6 (fs.length+1) c6,Qv (some ⟨tb,to',none⟩) ss.length tc],122⟩) (by simp));dsimp only at q0 q1 qz;have hk0:cols.length≠0:=fun e=>hc0 (Jc.1 e);have hh:w.heap.size+1+1<h:=by omega
    cases b
    case false=>
     repeat(first|go_values|go_skip|go_guarded|go_step|go_upon)
     refine Zh (v:=.agg #[false,Qv va cols.length vc,s.name,()]) (by simp[results,Tryz.results98,go_sem,r0,r1,r2,r3]) rfl ?_;have FIN:=Yz9 (n:=n) HO10.out (Qkd (w.heap.size+1+1) w10 false (Qv va cols.length vc) s.name ()) (by omega) (Qqq.weak (fun k _ hk=>by unfold Old at hk⊢;omega) (Qqn.rows Qjs HR10.out)) (Qqa.nil ..) HSN.out HD.out (fun x hx=>by cases hx) (Zi _) hk0 (hlen.trans hjl);exact FIN
    case true=>
     go_wp2_with fail
     refine(Jxp HE.out HW.out HS.out HP2.out HO10.out (HF10.out.weak fun k _ h=>.inl h) depth 2 (by omega) (by omega) (by omega) (by omega)).mono ?_;rintro e w11 ⟨v,rfl,⟨x,hx,hmk⟩,ht,hk⟩;obtain⟨ya,yac,ys,ysc,rfl,hya,hys⟩:=hx;have HO11:=hid (HO10.out.step ht hk);have HR11:Hid (Qqn (h+1) w11 80 10 (fun M w (e:Ex) cs=>EC M w e cs) (Qv va cols.length vc) items):=hid (Qqn.keep Qjs HR10.out hk fun k h1 _ hh=>by unfold At at hh;omega);have HXX:=hid (Ze hya hys);have HMK:=hid hmk;have hz11:=hk.size;clear ht hk hya hys hmk c0 c1 c2 c3 r0 r1 r2 r3 rf q0 q1;obtain⟨c0,c1,c2,c3,_,_,cz⟩:=Qzo (HO11.out.blk (Zv ..));have cf:=frz (HO11.out.blk (Zv ..));dsimp only at c0 c1 c2 c3 cz cf⊢;go_upto_region 16 with fail
     have hO12:=(HO11.out.put 3 (Qv (some ⟨w11.heap.size,0,none⟩) 1 1) (Yy9 (HO11.out.blk (Zv ..))) (by simp;omega)).alloc (.cells #[x.kind,x.op,x.no,x.val.kind,x.val.int,x.val.text,x.table,x.name,Qv ya x.args.length yac,Qv ys x.sub.length ysc] 80);have hE12:=Qvn (M:=Old (h+1)) (W:=w11.setCell ⟨h,3,none⟩ (Qv (some ⟨w11.heap.size,0,none⟩) 1 1)) (e:=80) (x:=x) (g:=w11.heap.size) (by simp) (by unfold Old;simp;omega) (Qq8 ((Qqb.refl (Old (h+1)) w11).setCell (p:=⟨h,3,none⟩) (fun _=>by unfold Old;dsimp only;omega) _) ⟨HXX.out.1.weak fun k _ hk=>by unfold Old at hk⊢;omega,HXX.out.2.weak fun k _ hk=>by unfold Old at hk⊢;omega⟩);have hR12:Qqq (Old (h+1)) ((w11.setCell ⟨h,3,none⟩ (Qv (some ⟨w11.heap.size,0,none⟩) 1 1)).alloc (.cells #[x.kind,x.op,x.no,x.val.kind,x.val.int,x.val.text,x.table,x.name,Qv ya x.args.length yac,Qv ys x.sub.length ysc] 80)) (Qv va cols.length vc) items:=Qqq.keep (Qqn.rows Qjs HR11.out) (((Qqb.refl (Old (h+1)) w11).setCell (p:=⟨h,3,none⟩) (fun _=>by unfold Old;dsimp only;omega) _).alloc _);generalize hW12:Qw (World.setCell _ _ _) _=W12 at hO12 hE12 hR12⊢;have HO12:=hid hO12;have HE12:=hid hE12;have HR12:=hid hR12;clear hW12 c0 c1 c2 c3 cz cf;obtain⟨c0,c1,c2,c3,_,_,cz⟩:=Qzo (hO12.blk (Zv ..));obtain⟨r0,r1,r2,r3,_,_,rz⟩:=Qzo (hO12.blk (b:=⟨w.heap.size+1+1,#[false,(),"",()],37⟩) (by simp));have rf:=frz (hO12.blk (b:=⟨w.heap.size+1+1,#[false,(),"",()],37⟩) (by simp));dsimp only at c0 c1 c2 c3 cz r0 r1 r2 r3 rz rf⊢;clear hO12 hE12 hR12
     repeat(first|go_values|go_skip|go_guarded|go_step|go_upon)
     refine Zh (v:=.agg #[false,Qv va cols.length vc,s.name,Qv (some ⟨w11.heap.size,0,none⟩) 1 1]) (by simp[results,Tryz.results98,go_sem,r0,r1,r2,r3]) rfl ?_;have FIN:=Yz9 (n:=n) HO12.out (Qkd (w.heap.size+1+1) W12 false (Qv va cols.length vc) s.name (Qv (some ⟨w11.heap.size,0,none⟩) 1 1)) (by omega) (Qqq.weak (fun k _ hk=>by unfold Old at hk⊢;omega) HR12.out) (Qqq.weak (fun k _ hk=>by unfold Old at hk⊢;omega) HE12.out) HSN.out HD.out (fun y hy=>by rw[Zd.1 hy];exact HMK.out.1) (Zz _) hk0 (hlen.trans hjl);exact FIN
   ·have hjl':j<cols.length:=by omega
    obtain⟨y,hy⟩:∃y,cols[j]?=some y:=⟨cols[j],Zg hjl'⟩
    have hyt:=HCT.out y (Yk hy);obtain⟨k0,k1,k2,k3⟩:=HXF.out j y hy;have k0:=(HO.out.kept.cell hxz hxT).trans k0;have k1:=(HO.out.kept.cell hxz hxT).trans k1;have k2:=(HO.out.kept.cell hxz hxT).trans k2;have k3:=(HO.out.kept.cell hxz hxT).trans k3;have hxr:xb<wr.heap.size:=Zm hxz HO.out.size;go_upto_region 7 with fail
    have hm:h<wr.heap.size:=HO.out.blt (Zv ..);have hO1:=HO.out.new' rfl #[y.name,y.type,y.notNull,y.key] 106;have hF1:=HFR.out.keep ((Qqb.refl (TOr T p) wr).alloc (.cells #[y.name,y.type,y.notNull,y.key] 106));have hR1:=Qqn.keep Qjs HRW.out ((Qqb.refl (At T) wr).alloc (.cells #[y.name,y.type,y.notNull,y.key] 106)) (fun k h1 _ hh=>by unfold At at hh;omega);generalize hW1:Qw wr _=w1 at hO1 hF1 hR1⊢;generalize wr.heap.size=m at hO1 hm⊢;have HO1:=hid hO1;have HF1:=hid hF1;have HR1:=hid hR1;clear hW1 hO1 hF1 hR1 k0 k1 k2 k3 hxr HRW HFR HO;obtain⟨k0,k1,k2,k3,_,_,kz⟩:=Qzo (HO1.out.blk (Zv ..));obtain⟨q0,q1,_,_,qz⟩:=Qjk (HO1.out.blk (b:=⟨p,#[Qv a6 (fs.length+1) c6,Qv (some ⟨tb,to',none⟩) ss.length tc],122⟩) (by simp));dsimp only at k0 k1 k2 k3 kz q0 q1 qz;go_wp2_with fail
    refine(Jxp HE.out HW.out HS.out HP2.out HO1.out (HF1.out.weak fun k _ h=>.inl h) depth y.type (by omega) (by omega) hyt.1 hyt.2).mono ?_;rintro e w2 ⟨v,rfl,⟨x,hx,hmk⟩,ht,hk⟩;obtain⟨ya,yac,ys,ysc,rfl,hya,hys⟩:=hx;have hm1:h+1≤w1.heap.size:=by omega
    have hO2:=HO1.out.step ht hk;have hF2:=HF1.out.keep (hk.weak fun k _ h=>.inl h);have hR2:=Qqn.keep Qjs HR1.out hk (fun k h1 _ hh=>by unfold At at hh;omega);have HMK:=hid hmk;have hlt:∀k,Qjl (h+1) vi k→Old w1.heap.size k:=fun k hk=>hk.elim (fun hk=>by unfold Old;omega) fun hk=>(Qqf.lt HR1.out hk).2;have hX2:=Ze (hya.weak (M':=Qjl (h+1) vi) fun k _ hk=>hlt k hk) (hys.weak (M':=Qjl (h+1) vi) fun k _ hk=>hlt k hk);clear hlt;have HX2:=hid hX2;have HO2:=hid hO2;have HF2:=hid hF2;have HR2:=hid hR2;have hz2:=hk.size;clear ht hk hya hys hmk hX2 hO2 hF2 hR2 HO1 HF1 HR1 k0 k1 k2 k3 kz q0 q1 qz;dsimp only;go_upto_region 8 with fail
    have k2w:Qqb (Qjl (h+1) vi) w2 (w2.alloc (.cells #[x.kind,x.op,x.no,x.val.kind,x.val.int,x.val.text,x.table,x.name,Qv ya x.args.length yac,Qv ys x.sub.length ysc] 80)):=(Qqb.refl _ w2).alloc _;have kTw:Qqb (At T) w2 (w2.alloc (.cells #[x.kind,x.op,x.no,x.val.kind,x.val.int,x.val.text,x.table,x.name,Qv ya x.args.length yac,Qv ys x.sub.length ysc] 80)):=(Qqb.refl _ w2).alloc _
    have hB3:Qk5 T n p h w (⟨m,#[y.name,y.type,y.notNull,y.key],106⟩::⟨h,#[false,vi,s.name,()],37⟩::⟨p,#[Qv a6 (fs.length+1) c6,Qv (some ⟨tb,to',none⟩) ss.length tc],122⟩::⟨g,#[s.name,Qv ca s.cols.length cc],29⟩::[⟨w.heap.size+1+1,#[false,(),"",()],37⟩,⟨w.heap.size+1,#[sn,Qv (some ⟨xb,xo,none⟩) cols.length xc],29⟩,⟨w.heap.size,#[Qv fa fs.length fc,Qv (some ⟨tb,to',none⟩) ss.length tc],122⟩]) (Qv a6 (fs.length+1) c6) vi (fs++[Qj6 s]) items w2.heap.size (w2.alloc (.cells #[x.kind,x.op,x.no,x.val.kind,x.val.int,x.val.text,x.table,x.name,Qv ya x.args.length yac,Qv ys x.sub.length ysc] 80)):=
     ⟨w2,x,ya,ys,yac,ysc,HO2.out.new' rfl _ _,Zz _,kTw,HF2.out,HR2.out,HMK.out.1,HX2.out.1.keep k2w,HX2.out.2.keep k2w⟩
    have hm2:m<w2.heap.size:=HO2.out.blt (Zv ..);generalize hW3:Qw w2 _=w3 at hB3⊢;generalize w2.heap.size=m2 at hB3 hm2⊢;have HB3:=hid hB3;clear hW3 k2w kTw hB3 HO2 HF2 HR2 HX2 HMK;obtain⟨_,x3,a3,s3,ac3,sc3,hO3,_⟩:=HB3.out;obtain⟨k0,k1,k2,k3,_,_,kz⟩:=Qzo (hO3.blk (b:=⟨m,#[y.name,y.type,y.notNull,y.key],106⟩) (by simp));dsimp only at k0 k1 k2 k3 kz;clear hO3
    go_upto_if 46 with(fail)
    go_cut [14] (fun v wx=>v=.pointer (some ⟨m2,0,none⟩)∧Qk5 T n p h w (⟨m,#[y.name,y.type,y.notNull,y.key],106⟩::⟨h,#[false,vi,s.name,()],37⟩::⟨p,#[Qv a6 (fs.length+1) c6,Qv (some ⟨tb,to',none⟩) ss.length tc],122⟩::⟨g,#[s.name,Qv ca s.cols.length cc],29⟩::[⟨w.heap.size+1+1,#[false,(),"",()],37⟩,⟨w.heap.size+1,#[sn,Qv (some ⟨xb,xo,none⟩) cols.length xc],29⟩,⟨w.heap.size,#[Qv fa fs.length fc,Qv (some ⟨tb,to',none⟩) ss.length tc],122⟩]) (Qv a6 (fs.length+1) c6) vi (fs++[Qj6 s]) items m2 wx)
    case first=>
     cases hky:y.key
     case false=>
      go_wp2_with fail
      go_meet
      exact⟨rfl,HB3.out⟩
     case true=>
      obtain⟨w20,x3,a3,s3,ac3,sc3,hO3,hm3,hk3,hF3,_⟩:=HB3.out;obtain⟨fb,fo,rfl,hfc0,hfc1,hFL⟩:=Uqd ((hF3.keep (hk3.weak fun k _ h=>.inl h)).weak fun k _ h=>.inl h);obtain⟨q0,q1,_,_,qz⟩:=Qjk (hO3.blk (b:=⟨p,#[Qv (some ⟨fb,fo,none⟩) (fs.length+1) c6,Qv (some ⟨tb,to',none⟩) ss.length tc],122⟩) (by simp));dsimp only at q0 q1 qz;have hcl:¬c6=fs.length:=by omega
      have HFL:=hid hFL;have HT3:=hid hO3.tape;have hz3:=hO3.blt (Zv ..);dsimp only at hz3;clear hO3 hF3 hm3 hk3 hFL;have HC1:=hid (fun f (hf:f∈[Qj6 s])=>(show f.cols.length≤10 by rw[Zd.1 hf];exact HP.out.2.2.2.1 s hmem))
      have HC2:=hid (fun(j:Nat) (f:Frm) (c:Col) (hj:[Qj6 s][j]?=some f) (hc:c∈f.cols) (_:c.type=1)=>(show Qjj f.name c.name=true∧(f.strict=false→j+1=1→Qjj ⟨#[]⟩ c.name=true) by
       obtain rfl:=Zd.1 (Yk hj);have:=(HP.out.2.2.2.2.2.2.2 s hmem).2 c hc
       exact⟨this,fun _ _=>Qwt this⟩))
      go_wp2_with fail
      refine(Jql (fun p=>Qjj p.1 p.2=true) T _ _ none 0 0 [Qj6 s] 1 _ rfl HT3.out HFL.out (by simp) HC1.out HC2.out).mono ?_;rintro e w5 ⟨v,rfl,hq,ht,hk⟩;have hz5:=hk.size;have HB5:=hid (Qw2 HB3.out (by omega) ht hk);clear ht hk HT3 HFL HB3 HC1 HC2 q0 q1 qz
      rcases hq with rfl|⟨q,nm,rfl,hcol⟩
      ·dsimp only;go_wp2_with fail
       go_meet
       exact⟨rfl,Jk8 HB5.out (by omega) _⟩
      ·dsimp only;go_upto_region 10 with fail
       have hB6:=Uqa HB5.out (by omega) #["2","0",false,"0","0","",q,nm,(),()] 80 rfl;generalize hW6:Qw w5 _=W6 at hB6⊢;have hz6:w5.heap.size<W6.heap.size:=by rw[←hW6];simp
       generalize w5.heap.size=xg at hB6 hz5 hz6⊢;clear hW6 HB5;have HB6:=hid hB6;have hTh:T<h:=by omega
       have HKS:=hid (fun(W':World) (H:Qk5 T n p h w (⟨xg,#["2","0",false,"0","0","",q,nm,(),()],80⟩::⟨m,#[y.name,y.type,y.notNull,y.key],106⟩::⟨h,#[false,vi,s.name,()],37⟩::⟨p,#[Qv (some ⟨fb,fo,none⟩) (fs.length+1) c6,Qv (some ⟨tb,to',none⟩) ss.length tc],122⟩::⟨g,#[s.name,Qv ca s.cols.length cc],29⟩::[⟨w.heap.size+1+1,#[false,(),"",()],37⟩,⟨w.heap.size+1,#[sn,Qv (some ⟨xb,xo,none⟩) cols.length xc],29⟩,⟨w.heap.size,#[Qv fa fs.length fc,Qv (some ⟨tb,to',none⟩) ss.length tc],122⟩]) (Qv (some ⟨fb,fo,none⟩) (fs.length+1) c6) vi (fs++[Qj6 s]) items m2 W')=>(show W'.cell? ⟨xg,0,none⟩=some (.int .i64 2)∧W'.cell? ⟨xg,1,none⟩=some (.int .i64 0)∧W'.cell? ⟨xg,2,none⟩=some (.bool false)∧W'.cell? ⟨xg,3,none⟩=some (.int .i64 0)∧W'.cell? ⟨xg,4,none⟩=some (.int .i64 0)∧W'.cell? ⟨xg,5,none⟩=some (.string ⟨#[]⟩)∧W'.cell? ⟨xg,6,none⟩=some (.string q)∧W'.cell? ⟨xg,7,none⟩=some (.string nm)∧W'.cell? ⟨xg,8,none⟩=some (Qv none 0 0)∧W'.cell? ⟨xg,9,none⟩=some (Qv none 0 0) from by
        obtain⟨x0,x1,x2,x3,x4,x5,x6,x7,x8,x9,_⟩:=Qq5 (Yqf H (Zv ..))
        exact⟨x0,x1,x2,x3,x4,x5,x6,x7,x8,x9⟩))
       obtain⟨x0,x1,x2,x3,x4,x5,x6,x7,x8,x9,_⟩:=Qq5 (Yqf hB6 (Zv ..));dsimp only at x0 x1 x2 x3 x4 x5 x6 x7 x8 x9;clear hB6;go_upto_region 11 with fail
       generalize hQ:Exit.then _ _=QQ
       go_region_held3 (fun W'=>W'.cell? ⟨xg,0,none⟩=some (.int .i64 2)∧W'.cell? ⟨xg,1,none⟩=some (.int .i64 0)∧W'.cell? ⟨xg,2,none⟩=some (.bool false)∧W'.cell? ⟨xg,3,none⟩=some (.int .i64 0)∧W'.cell? ⟨xg,4,none⟩=some (.int .i64 0)∧W'.cell? ⟨xg,5,none⟩=some (.string ⟨#[]⟩)∧W'.cell? ⟨xg,6,none⟩=some (.string q)∧W'.cell? ⟨xg,7,none⟩=some (.string nm)∧W'.cell? ⟨xg,8,none⟩=some (Qv none 0 0)∧W'.cell? ⟨xg,9,none⟩=some (Qv none 0 0))
        (first|with_reducible exact HKS.out _ (Jv5 HB9.out (by simp;omega) (by omega) (Qqc 9 (Qqp q nm) (Qqi (10+r))) ab sb abc sbc (m1:=xg) (by omega) (by omega) HV9.out ⟨Ywx hn1 (by omega),Yjo hn1 (by omega) (by omega) hcol (by omega) (by omega)⟩)|with_reducible exact HKS.out _ HB9.out|with_reducible exact HKS.out _ HB8.out|with_reducible exact HKS.out _ HB7.out|with_reducible exact HKS.out _ HB6.out|with_reducible exact HKS.out _ (Jz2 HB6.out hTh)|(trace_state;fail))
        (first
          |(go_at_call 12;refine(Qqk T 20 _ (by omega) (by omega) (Jz1 (Jz2 HB6.out hTh))).mono ?_;rintro e w7 ⟨v,rfl,⟨r,rfl,hr0,hr1⟩,ht,hk⟩;have e7:IntKind.i64.wrap (10+r)=10+r:=Zp _ (by omega);have hz7:=hk.size;(try simp only[Yl] at hz7);have HB7:=hid (Qw2 (Jz2 HB6.out hTh) hTh ht hk);clear ht hk)
          |(go_at_call 100;refine(Qkh (10+r) (by omega) _).mono ?_;rintro e w8 ⟨v,rfl,hv,hb⟩;have HV8:=hid (hv.weak (M':=Old xg) fun k _ h=>by unfold Old at h⊢;omega);have hz8:=hb.size;have HB8:=hid (Yqe HB7.out hTh hb);clear hv hb)
          |(go_at_call 102;refine(Qvm (lo:=xg) (a:=Qqp q nm) 9 ⟨none,0,none,0,rfl,Qqa.nil ..,Qqa.nil ..⟩ HV8.out (by omega)).mono ?_;rintro e w9 ⟨v,rfl,hv,hb⟩;obtain⟨ab,abc,sb,sbc,rfl,hva,hvs⟩:=hv;have HV9:=hid (Ze hva hvs);have hz9:=hb.size;have hB9:=Yqe HB8.out hTh hb;obtain⟨u0,u1,u2,u3,u4,u5,u6,u7,u8,u9,y0,y1,y2,y3,y4,y5,y6,y7,y8,y9,f9,z9⟩:=Uqc hB9;have F0:=f9 0;have F1:=f9 1;have F2:=f9 2;have F3:=f9 3;have F4:=f9 4;have F5:=f9 5;have F6:=f9 6;have F7:=f9 7;have F8:=f9 8;have F9:=f9 9;have HB9:=hid hB9;clear hva hvs hb hB9 f9))
       all_goals rw[←hQ]
       all_goals go_wp2_with fail
       all_goals go_meet
       all_goals exact⟨rfl,Uqb (Jv5 HB9.out (by simp;omega) (by omega) (Qqc 9 (Qqp q nm) (Qqi (10+r))) ab sb abc sbc (m1:=xg) (by omega) (by omega) HV9.out ⟨Ywx hn1 (by omega),Yjo hn1 (by omega) (by omega) hcol (by omega) (by omega)⟩)⟩
    case rest=>
     obtain⟨rfl,hB⟩:=hcut;rename World=>w4;obtain⟨w20,x4,a4,s4,ac4,sc4,hO4,hm4,hk4,hF4,hR4,hd4,hX4,hQ4⟩:=hB;have hF4:=hF4.keep (hk4.weak fun k _ h=>.inl h);have hR4:=Qqn.keep Qjs hR4 hk4 (fun k h1 _ hh=>by unfold At at hh;omega);clear hm4 hk4;obtain⟨va,vc,hvi,_⟩:=Qqn.shape hR4;rw[hlen] at hvi;subst hvi;have hlt:∀k,Qq4 (Qv va j vc) k→h+1≤k:=fun k hk=>(Qqf.lt hR4 hk).1;obtain⟨e0,e1,e2,e3,e4,e5,e6,e7,e8,e9,_⟩:=Qq5 (hO4.blk (Zv ..));have hqb:=hO4.blk (b:=⟨h,#[false,Qv va j vc,s.name,()],37⟩) (by simp);have hz4:=hO4.blt (b:=⟨h,#[false,Qv va j vc,s.name,()],37⟩) (by simp);obtain⟨c0,c1,c2,c3,_,_,cz⟩:=Qzo hqb;dsimp only at e0 e1 e2 e3 e4 e5 e6 e7 e8 e9 c0 c1 c2 c3 cz hz4 hqb;have HO4:=hid hO4;have HF4:=hid hF4;have HR4:=hid hR4;have HX4:=hid (Ze hX4 hQ4);have HD4:=hid hd4;have HQB:=hid hqb;have HLT:=hid hlt;clear hO4 hF4 hR4 hX4 hQ4 hd4 hqb hlt HB3 k0 k1 k2 k3;have tok7:Hid True:=trivial
     go_wp2_with(at_builtin;have _t:=tok7;refine Qzj (w:=w4) Qjs rfl _ _ 32 rfl 80 _ 10 136 Tryz.underlying32 Qxk rfl (by decide) (h+1) (Qv va j vc) w4.heap.size (#[x4.kind,x4.op,x4.no,x4.val.kind,x4.val.int,x4.val.text,x4.table,x4.name,Qv a4 x4.args.length ac4,Qv s4 x4.sub.length sc4]) items x4 rfl rfl rfl HR4.out rfl ((Qji ..).2 ⟨_,_,rfl,HX4.out.1,HX4.out.2⟩) (by omega) (by unfold maxLen;omega) (by omega) ?_;intro v' w5 ho hk;obtain⟨na,nc,hv',_⟩:=Qqn.shape ho;simp only[Zr,Zb,Yw,Ye,hlen] at hv';subst hv';have hqb5:=(hk.block h hz4 (fun hh=>by have:=HLT.out _ hh;omega)).trans HQB.out;obtain⟨c0,c1,c2,c3,_,_,cz⟩:=Qzo hqb5;have cf:=frz hqb5;have HQ5:=hid hqb5;have HO5:=hid ho;have HK5:=hid hk;clear tok7 ho hk hqb5)
     have O5:=(HO4.out.sub (L':=⟨p,#[Qv a6 (fs.length+1) c6,Qv (some ⟨tb,to',none⟩) ss.length tc],122⟩::⟨g,#[s.name,Qv ca s.cols.length cc],29⟩::[⟨w.heap.size+1+1,#[false,(),"",()],37⟩,⟨w.heap.size+1,#[sn,Qv (some ⟨xb,xo,none⟩) cols.length xc],29⟩,⟨w.heap.size,#[Qv fa fs.length fc,Qv (some ⟨tb,to',none⟩) ss.length tc],122⟩]) (fun b hb=>Zl _ (Zl _ (Zl _ hb)))).then HK5.out (fun i hi hh=>by have:=HLT.out _ hh;omega) (fun b hb hh=>by have:=HLT.out _ hh;simp at hb;rcases hb with rfl|rfl|rfl|rfl|rfl<;>dsimp only at this<;>omega);have O6:=(O5.add (g:=h) (by omega) HQ5.out).put 1 (Qv na (j+1) nc) (Jzi HQ5.out) (by simp;omega);have ks:Qqb (At h) w5 (w5.setCell ⟨h,1,none⟩ (Qv na (j+1) nc)):=(Qqb.refl (At h) w5).setCell (p:=⟨h,1,none⟩) (fun _=>rfl) _;go_roundw
     case rel=>exact⟨j+1,_,items++[x4],by go_num,hjl',by simp[hlen],O6,(HF4.out.keep (HK5.out.weak fun k _ hh=>.inr (by have:=HLT.out _ hh;omega))).keep (ks.weak fun k _ hh=>.inr (by unfold At at hh;omega)),Qqn.keep Qjs HO5.out ks (fun k h1 _ hh=>by unfold At at hh;omega),fun z hz=>(Yf.1 hz).elim (HD.out z) fun hz=>by rw[Zd.1 hz];exact HD4.out⟩
     case measure=>
      simp[intOf];omega
end Go.Proofs.YtgepbohjmgaojaaGreatDoor
