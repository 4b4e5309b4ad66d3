/- An action of a trigger: lemmas; the region of the action that counts up (region 14). -/
import Derived.Test.YtgepbohjmgaojaaGreatDoorVG9
import Derived.Test.YtgepbohjmgaojaaGreatDoorU14
set_option linter.all false
namespace Go.Proofs.YtgepbohjmgaojaaGreatDoor
open World renaming alloc→Qw
open Value renaming slice→Qv
open Lib(hid)
open Go.RowKit
def Qxa(bf each:Bool)(ev k:Int):Bool:=if k=4 then true else if k=5 then bf&&each&&!decide (ev=3) else !bf
theorem Jv4:∀i<6,Qj2 (Qvh i)=true∧(Qvh i).size≤12:=by decide+kernel
def Jxm(x:Ex):Prop:=x.args=[]∧x.sub=[]∧GX 0 x
def Jk5(x:Ex):List Value:=[.int .i64 x.kind,.int .i64 x.op,.bool x.no,.int .i64 x.val.kind,.int .i64 x.val.int,.string x.val.text,.string x.table,.string x.name,Qv none 0 0,Qv none 0 0]
theorem Jk6{P:Program}{md:Region.Mode}{ops:Array Oper}{Q:Exit→Act→World→Prop}{S:World→Prop}{fuel fuel':Nat}{listed listed':Array Bool}{a:Act}{w:World}(hf:fuel'=fuel)(hl:listed'=listed)(h:wpAnyH P md ops Q S fuel' listed' a w):wpAnyH P md ops Q S fuel listed a w:=by
 subst hf hl;exact h
def NMC(lo p:Nat)(W:World):Prop:=lo≤p∧p<W.heap.size∧∀j,j<2→W.cell? ⟨p,j,none⟩=some (.string (Qqg j))
theorem NMC.new{lo:Nat}{W:World}{t:TypeId}(h:lo≤W.heap.size):NMC lo W.heap.size (W.alloc (.cells #[.string ⟨#[110]⟩,.string ⟨#[109]⟩] t)):=⟨h,by simp,fun j hj=>Yzm W t j hj⟩
theorem NMC.then{lo p:Nat}{W W':World}{N:Nat→Prop}(h:NMC lo p W)(k:Qqb N W W')(hN:¬N p):NMC lo p W':=⟨h.1,Zm h.2.1 k.size,fun j hj=>(k.cell h.2.1 hN).trans (h.2.2 j hj)⟩
theorem NMC.step{lo p T:Nat}{W W':World}(h:NMC lo p W)(hT:T<lo)(k:Qqb (At T) W W'):NMC lo p W':=h.then k fun e=>by have:=h.1;unfold At at e;omega
theorem NMC.bel{lo p:Nat}{W W':World}(h:NMC lo p W)(hb:Below W.heap.size W W'):NMC lo p W':=h.then (N:=fun _=>False) (.bel hb) id
theorem NMC.alloc{lo p:Nat}{W:World}(h:NMC lo p W)(o:Obj):NMC lo p (W.alloc o):=h.bel ((Below.refl _ _).alloc (Zz _) o)
theorem NMC.sets{lo p g:Nat}{W:World}(h:NMC lo p W)(hg:g<lo)(cs:List Value):NMC lo p (W.setCells g 0 cs):=h.then (Qqj cs 0 W) fun e=>by have:=h.1;unfold At at e;omega
theorem Uk8{M:Nat→Prop}{va vb:Value}{w:World}{a b:Ex}(o:Int)(ha:ExV M w a va)(hb:ExV M w b vb)(hM:∀k,w.heap.size≤k→¬M k):Calls Tryz.prog 102 #[o,va,vb] w (fun e w'=>∃v,e=.returned v∧ExV M w' (Qqc o a b) v∧Below w.heap.size w w'):=by
 obtain⟨ca,rfl,hca⟩:=ha.ec;obtain⟨cb,rfl,hcb⟩:=hb.ec;refine(Yw5 (M:=M) o a b ca cb w hca hcb hM).mono ?_;rintro e w' ⟨cs,rfl,hx,hbel⟩;exact⟨_,rfl,Uka hx,hbel⟩
theorem Qzw{T:Nat}{w W:World}{b:Qqx}{L:List Qqx}(h:OB T w W (b::L)):OB T w W L:=h.sub fun _ hb=>Zl _ hb
def tuS(j:Nat):Sch:=if j=0 then Jzo else Jzp
theorem Uk9(W:World)(t:TypeId)(j:Nat)(h:j<2):(W.alloc (.cells #[.string ⟨#[116]⟩,.string ⟨#[117]⟩] t)).cell? ⟨W.heap.size,j,none⟩=some (.string (tuS j).name):=by
 have h':j=0∨j=1:=by omega
 rcases h' with rfl|rfl<;>simp[tuS,Jzo,Jzp]<;>rfl
theorem Uy4(j:Nat)(h:j<2):tuS j∈Qq3:=by
 have h':j=0∨j=1:=by omega
 rcases h' with rfl|rfl<;>simp[tuS,Qq3]
theorem Yjn{M:Nat→Prop}{W:World}{x:Ex}(h:Jxm x):EC M W x (Jk5 x):=by
 obtain⟨h1,h2,_⟩:=h;exact(Qji ..).2 ⟨Qv none 0 0,Qv none 0 0,rfl,by rw[h1];exact Qqa.nil ..,by rw[h2];exact Qqa.nil ..⟩
theorem Uzg{M:Nat→Prop}{W:World}{x:Ex}(h:Jxm x):ExV M W x (.agg #[x.kind,x.op,x.no,x.val.kind,x.val.int,x.val.text,x.table,x.name,(),()]):=by
 obtain⟨h1,h2,_⟩:=h;refine⟨none,0,none,0,by rw[h1,h2];rfl,?_,?_⟩
 ·rw[h1];exact Qqa.nil ..
 ·rw[h2];exact Qqa.nil ..
theorem Jj6{n:Nat}{o:Int}{a b:Ex}(h1:1≤o)(h2:o≤13)(ha:GX n a)(hb:GX n b):GX (n+1) (Qqc o a b):=
 .ops n 5 o false [a,b] (by simp[Qzg,h1,h2]) fun y hy=>by
  simp only[Zs,Zo,Yu] at hy;rcases hy with rfl|rfl
  ·exact ha
  ·exact hb
theorem Yk6{M M':Nat→Prop}{W W':World}{x y:Ex}{t:TypeId}{arr:Array Value}(hx:Jxm x)(hy:Jxm y)(hM:¬M W.heap.size)(ha:arr.toList=Jk5 x++Jk5 y):Qqa M (W.alloc (.cells arr t)) 10 (EC M' W') (Qv (some ⟨W.heap.size,0,none⟩) 2 2) [x,y]:=
 Qqa.new [Jk5 x,Jk5 y] rfl hM (by simpa using ha) (by simp[Jk5]) rfl (Zz _) (by unfold maxLen;omega) rfl fun i z cs hi hc=>by
  match i with
  |0=>simp at hi hc;subst hi;subst hc;exact Yjn hx
  |1=>simp at hi hc;subst hi;subst hc;exact Yjn hy
  |n+2=>simp at hi
theorem Yy0{M:Nat→Prop}{W:World}{x y:Ex}{arr:Array Value}(hx:Jxm x)(hy:Jxm y)(hM:∀k,W.heap.size≤k→¬M k)(ha:arr.toList=Jk5 x++Jk5 y):
 Qkq M ((W.alloc (.cells arr 80)).alloc (.cells #[Qv (some ⟨W.heap.size,0,none⟩) 2 2] 32)) (Qv (some ⟨W.heap.size+1,0,none⟩) 1 1) [[x,y]]:=by
 have h0:=hM _ (Zz _);refine .inr ⟨[x,y],[],_,[],W.heap.size,2,arr,rfl,by simp,h0,rfl,(Jy _ _ (by simp)).trans (Zw W _),?_,?_,Jzs.nil ..⟩
 ·exact Qqa.map (Yk6 hx hy h0 ha) ((Qqb.refl M _).alloc _) fun _ _ _ hc=>hc
 ·exact Qqa.new [[Qv (some ⟨W.heap.size,0,none⟩) 2 2]] (by simp) (by simp only[Zn];exact fun h=>h.elim (hM _ (by omega)) fun h=>by omega) rfl (by simp) rfl (Zz _) (by unfold maxLen;omega) rfl fun i z cs hi hc=>by
   match i with
   |0=>simp at hi hc;subst hi;subst hc;exact⟨rfl,rfl⟩
theorem Qzz{each:Bool}{ev k:Int}(h:k≤3):Qxa false each ev k=true:=by
 unfold Qxa;rw[if_neg (by omega),if_neg (by omega)];rfl
theorem Jj7{T n lo:Nat}{P:Qzq→Prop}{w W:World}{L:List Qqx}(O:OB T w W L)(hlo:w.heap.size≤lo)(a:Qzq)(vr vq vs vw:Value)(h1:Qkq (Old lo) W vr a.rows)(h2:Qz1 (Old lo) W vq a.query)(h3:Qzb (Old lo) W vs a.sets)(h4:Qqq (Old lo) W vw a.whr)(hg:Qk3 n a)(hp:P a):
 Qjp T w (Jjx n P w) (.returned (.agg #[a.kind,a.table,vr,vq,vs,vw,a.text])) W:=by
 have hM:∀k,k<W.heap.size→Old w.heap.size k→Old lo k:=fun k _ h=>by unfold Old at h⊢;omega
 exact O.gives ⟨a,vr,vq,vs,vw,rfl,h1.weak hM,h2.weak hM,Qzb.weak hM h3,h4.weak hM,hg,hp⟩
theorem Qvc{M M':Nat→Prop}{W:World}{x:Ex}{va vs:Value}(hM:∀k,k<W.heap.size→M' k→M k)(h:Qqq M W va x.args∧Qz1 M W vs x.sub):Qqq M' W va x.args∧Qz1 M' W vs x.sub:=⟨h.1.weak hM,h.2.weak hM⟩
def Jq9(n:Nat):Code→Option (Array Oper)
 | .region id ops _=>if id=n then some ops else none
 | .seq a b=>match Jq9 n a with
   |some o=>some o
   |none=>Jq9 n b
 | .cond _ a b=>match Jq9 n a with
   |some o=>some o
   |none=>Jq9 n b
 | .block _ a=>Jq9 n a
 | .loop a=>Jq9 n a
 | .scope a=>Jq9 n a
 |_=>none
set_option maxRecDepth 100000 in
set_option maxHeartbeats 40000000 in
theorem Yk7{QQ:Exit→Act→World→Prop}{ops:Array Oper}(hops:(Tryz.f94.body).bind (Jq9 14)=some ops)(T Sx:Nat)(w w10:World)(L1:List Qqx)(hTS:T<Sx)(HO10:Hid (OB T w w10 (⟨Sx,#["0","",(),(),(),(),""],42⟩::L1)))(hL1:∀b∈L1,b.pos≠Sx)
 (a0:Act)(hz:a0.tmps.size=187)(B0:a0.tmps[0]?=some (.pointer (some ⟨T,0,none⟩)))(B8:a0.tmps[8]?=some (.pointer (some ⟨Sx,0,none⟩)))
 (hQ:∀(u89 u90 u91 u92 u93 u94 u95 u96 u97 u98 u99 u100 u101 u102 u103 u104 u105 u106 u107 u108 u109 u110:Value) (W:World) (gs j1 j2:Nat) (o d:Int),j1<2→j2<2→0≤o→o<2→0≤d→d<3→OB T w W (⟨Sx,#["2",.string ⟨#[117]⟩,(),(),Qv (some ⟨gs,0,none⟩) 1 1,(),""],42⟩::L1)→Qzb (Old (Sx+1)) W (Qv (some ⟨gs,0,none⟩) 1 1) [⟨Qqg j1,(Qqc (9+o) (Qqp ⟨#[]⟩ (Qqg j2)) (Qqi (1+d)))⟩]→QQ .normal ((((((((((((((((((((((a0.put (some 89) u89).put (some 90) u90).put (some 91) u91).put (some 92) u92).put (some 93) u93).put (some 94) u94).put (some 95) u95).put (some 96) u96).put (some 97) u97).put (some 98) u98).put (some 99) u99).put (some 100) u100).put (some 101) u101).put (some 102) u102).put (some 103) u103).put (some 104) u104).put (some 105) u105).put (some 106) u106).put (some 107) u107).put (some 108) u108).put (some 109) u109).put (some 110) u110) W):
 wpAnyH Tryz.prog .any ops (NoPanic QQ) (fun _=>True) 23 #[false,false,false,false,false,false,false,false,false,false,false,false,false,false,false,false,false,false,false,false,false,false,false] a0 w10:=by
 have h:(Tryz.f94.body).bind (Jq9 14)=some _:=rfl;obtain rfl:=Jf (hops.symm.trans h);clear hops h;apply Uyg (a0:=a0) (A:=fun(W:World) (pa:Nat) (pb:Nat) (j1:Nat) (o:Int) (j2:Nat) (d:Int) (vN:Value) (ab:Option Addr) (sb:Option Addr) (abc:Nat) (sbc:Nat)=>j1<2∧0≤o∧o<2∧j2<2∧0≤d∧d<3∧Hid (OB T w W (⟨Sx,#["0","",(),(),(),(),""],42⟩::L1))∧Hid (NMC (Sx+1) pa W)∧Hid (NMC (Sx+1) pb W)∧Hid (Qqq (Old (Sx+1)) W (.slice ab (Qqc (9+o) (Qqp ⟨#[]⟩ (Qqg j2)) (Qqi (1+d))).args.length abc) (Qqc (9+o) (Qqp ⟨#[]⟩ (Qqg j2)) (Qqi (1+d))).args∧Qz1 (Old (Sx+1)) W (.slice sb (Qqc (9+o) (Qqp ⟨#[]⟩ (Qqg j2)) (Qqi (1+d))).sub.length sbc) (Qqc (9+o) (Qqp ⟨#[]⟩ (Qqg j2)) (Qqi (1+d))).sub));intro KEY7TT;apply Uyf (a0:=a0) (A:=fun(W:World) (pb:Nat) (j1:Nat) (o:Int) (j2:Nat) (d:Int) (vN:Value) (ab:Option Addr) (sb:Option Addr) (abc:Nat) (sbc:Nat)=>j1<2∧0≤o∧o<2∧j2<2∧0≤d∧d<3∧Hid (OB T w W (⟨Sx,#["0","",(),(),(),(),""],42⟩::L1))∧Hid (NMC (Sx+1) pb W)∧Hid (Qqq (Old (Sx+1)) W (.slice ab (Qqc (9+o) (Qqp ⟨#[]⟩ (Qqg j2)) (Qqi (1+d))).args.length abc) (Qqc (9+o) (Qqp ⟨#[]⟩ (Qqg j2)) (Qqi (1+d))).args∧Qz1 (Old (Sx+1)) W (.slice sb (Qqc (9+o) (Qqp ⟨#[]⟩ (Qqg j2)) (Qqi (1+d))).sub.length sbc) (Qqc (9+o) (Qqp ⟨#[]⟩ (Qqg j2)) (Qqi (1+d))).sub));intro KEY7FT;apply Kq7 (a0:=a0) (A:=fun(W:World) (pa:Nat) (pb:Nat) (j1:Nat) (o:Int) (j2:Nat) (d:Int) (vN:Value)=>j1<2∧0≤o∧o<2∧j2<2∧0≤d∧d<3∧Hid (OB T w W (⟨Sx,#["0","",(),(),(),(),""],42⟩::L1))∧Hid (NMC (Sx+1) pa W)∧Hid (NMC (Sx+1) pb W)∧Hid (ExV (Old (Sx+1)) W (Qqi (1+d)) vN));intro KEY6TT;apply Yzt (a0:=a0) (A:=fun(W:World) (pb:Nat) (j1:Nat) (o:Int) (j2:Nat) (d:Int) (vN:Value)=>j1<2∧0≤o∧o<2∧j2<2∧0≤d∧d<3∧Hid (OB T w W (⟨Sx,#["0","",(),(),(),(),""],42⟩::L1))∧Hid (NMC (Sx+1) pb W)∧Hid (ExV (Old (Sx+1)) W (Qqi (1+d)) vN));intro KEY6FT;apply Yzt (a0:=a0) (A:=fun(W:World) (pa:Nat) (pb:Nat) (j1:Nat) (o:Int) (j2:Nat) (d:Int)=>j1<2∧0≤o∧o<2∧j2<2∧0≤d∧d<3∧Hid (OB T w W (⟨Sx,#["0","",(),(),(),(),""],42⟩::L1))∧Hid (NMC (Sx+1) pa W)∧Hid (NMC (Sx+1) pb W));intro KEY5TT;apply Ywi (a0:=a0) (A:=fun(W:World) (pb:Nat) (j1:Nat) (o:Int) (j2:Nat) (d:Int)=>j1<2∧0≤o∧o<2∧j2<2∧0≤d∧d<3∧Hid (OB T w W (⟨Sx,#["0","",(),(),(),(),""],42⟩::L1))∧Hid (NMC (Sx+1) pb W));intro KEY5FT;apply Ywi (a0:=a0) (A:=fun(W:World) (pa:Nat) (pb:Nat) (j1:Nat) (o:Int) (j2:Nat)=>j1<2∧0≤o∧o<2∧j2<2∧Hid (OB T w W (⟨Sx,#["0","",(),(),(),(),""],42⟩::L1))∧Hid (NMC (Sx+1) pa W)∧Hid (NMC (Sx+1) pb W));intro KEY4TT;apply Jkw (a0:=a0) (A:=fun(W:World) (pb:Nat) (j1:Nat) (o:Int) (j2:Nat)=>j1<2∧0≤o∧o<2∧j2<2∧Hid (OB T w W (⟨Sx,#["0","",(),(),(),(),""],42⟩::L1))∧Hid (NMC (Sx+1) pb W));intro KEY4FT;apply Ywi (a0:=a0) (A:=fun(W:World) (pa:Nat) (pb:Nat) (j1:Nat) (o:Int) (j2:Nat)=>j1<2∧0≤o∧o<2∧j2<2∧Hid (OB T w W (⟨Sx,#["0","",(),(),(),(),""],42⟩::L1))∧Hid (NMC (Sx+1) pa W)∧Hid (NMC (Sx+1) pb W));intro KEY3TT;apply Jkw (a0:=a0) (A:=fun(W:World) (pb:Nat) (j1:Nat) (o:Int) (j2:Nat)=>j1<2∧0≤o∧o<2∧j2<2∧Hid (OB T w W (⟨Sx,#["0","",(),(),(),(),""],42⟩::L1))∧Hid (NMC (Sx+1) pb W));intro KEY3FT;apply Jkw (a0:=a0) (A:=fun(W:World) (pa:Nat) (j1:Nat) (o:Int) (j2:Nat)=>j1<2∧0≤o∧o<2∧j2<2∧Hid (OB T w W (⟨Sx,#["0","",(),(),(),(),""],42⟩::L1))∧Hid (NMC (Sx+1) pa W));intro KEY3TF;apply Yzs (a0:=a0) (A:=fun(W:World) (j1:Nat) (o:Int) (j2:Nat)=>j1<2∧0≤o∧o<2∧j2<2∧Hid (OB T w W (⟨Sx,#["0","",(),(),(),(),""],42⟩::L1)));intro KEY3FF;apply Jkw (a0:=a0) (A:=fun(W:World) (pa:Nat) (pb:Nat) (j1:Nat) (o:Int)=>j1<2∧0≤o∧o<2∧Hid (OB T w W (⟨Sx,#["0","",(),(),(),(),""],42⟩::L1))∧Hid (NMC (Sx+1) pa W)∧Hid (NMC (Sx+1) pb W));intro KEY2TT;apply Yzs (a0:=a0) (A:=fun(W:World) (pb:Nat) (j1:Nat) (o:Int)=>j1<2∧0≤o∧o<2∧Hid (OB T w W (⟨Sx,#["0","",(),(),(),(),""],42⟩::L1))∧Hid (NMC (Sx+1) pb W));intro KEY2FT;apply Yzs (a0:=a0) (A:=fun(W:World) (pa:Nat) (j1:Nat) (o:Int)=>j1<2∧0≤o∧o<2∧Hid (OB T w W (⟨Sx,#["0","",(),(),(),(),""],42⟩::L1))∧Hid (NMC (Sx+1) pa W));intro KEY2TF;apply Jkv (a0:=a0) (A:=fun(W:World) (j1:Nat) (o:Int)=>j1<2∧0≤o∧o<2∧Hid (OB T w W (⟨Sx,#["0","",(),(),(),(),""],42⟩::L1)));intro KEY2FF;apply Yzs (a0:=a0) (A:=fun(W:World) (pa:Nat) (pb:Nat) (j1:Nat)=>j1<2∧Hid (OB T w W (⟨Sx,#["0","",(),(),(),(),""],42⟩::L1))∧Hid (NMC (Sx+1) pa W)∧Hid (NMC (Sx+1) pb W));intro KEY1TT;apply Jkv (a0:=a0) (A:=fun(W:World) (pb:Nat) (j1:Nat)=>j1<2∧Hid (OB T w W (⟨Sx,#["0","",(),(),(),(),""],42⟩::L1))∧Hid (NMC (Sx+1) pb W));intro KEY1FT;apply Jkv (a0:=a0) (A:=fun(W:World) (pa:Nat) (j1:Nat)=>j1<2∧Hid (OB T w W (⟨Sx,#["0","",(),(),(),(),""],42⟩::L1))∧Hid (NMC (Sx+1) pa W));intro KEY1TF;apply Ywh (a0:=a0) (A:=fun(W:World) (j1:Nat)=>j1<2∧Hid (OB T w W (⟨Sx,#["0","",(),(),(),(),""],42⟩::L1)));intro KEY1FF;apply Jkv (a0:=a0) (A:=fun(W:World) (pa:Nat) (pb:Nat)=>Hid (OB T w W (⟨Sx,#["0","",(),(),(),(),""],42⟩::L1))∧Hid (NMC (Sx+1) pa W)∧Hid (NMC (Sx+1) pb W));intro KEY0TT;apply Ywh (a0:=a0) (A:=fun(W:World) (pb:Nat)=>Hid (OB T w W (⟨Sx,#["0","",(),(),(),(),""],42⟩::L1))∧Hid (NMC (Sx+1) pb W));intro KEY0FT;apply Ywh (a0:=a0) (A:=fun(W:World) (pa:Nat)=>Hid (OB T w W (⟨Sx,#["0","",(),(),(),(),""],42⟩::L1))∧Hid (NMC (Sx+1) pa W));intro KEY0TF;apply Ywg (a0:=a0) (A:=fun(W:World)=>Hid (OB T w W (⟨Sx,#["0","",(),(),(),(),""],42⟩::L1)));intro KEY0FF;refine Jyj fun a ha=>?_;have HFR:=hid (show Fr a0 [] a from ha▸Fr.start a0);clear ha
 obtain⟨w1,hw1⟩:∃x,x=w10:=⟨_,rfl⟩
 have HO1:Hid (OB T w w1 (⟨Sx,#["0","",(),(),(),(),""],42⟩::L1)):=by rw[hw1];exact HO10
 have hHeld:True:=trivial;rw[←hw1];clear hw1;have E0:=HFR.out.off B0 rfl;refine tkF 1 HFR hz (by assumption) fun a HFR=>?_;clear E0;have E0:=HFR.out.off B0 rfl;refine tkF 5 HFR hz (by assumption) fun a HFR=>?_;clear E0;have E0:=HFR.out.off B0 rfl;refine tkF 9 HFR hz (by assumption) fun a HFR=>?_;clear E0;have E0:=HFR.out.off B0 rfl;refine tkF 14 HFR hz (by assumption) fun a HFR=>?_;clear E0
 (try simp only[Zj,Zx,Zk])
 (try simp only[Qj9,Nat.reduceLT,↓reduceIte] at HFR)
 exact KEY0FF a w1 HFR HO1
 ·rintro a w0 HFR HO;have hHeld:True:=trivial;refine Zc (rs:=[0,2,8]) (by kernel_rfl) (by simp) ?_;refine Zy (o:=_) rfl (fun K hK=>?_) ?_
  ·go_simp
   have hO:=HO.out.alloc (.cells #[.string ⟨#[110]⟩,.string ⟨#[109]⟩] 9);have hN:=NMC.new (lo:=Sx+1) (W:=w0) (t:=9) (by have:=HO.out.blt (b:=⟨Sx,#["0","",(),(),(),(),""],42⟩) (by simp);dsimp only at this;omega);generalize w0.heap.size=pa at hN⊢;generalize Qw w0 _=w1 at hO hN⊢;have HO1:=hid hO;have GA1:=hid hN;clear hO hN;refine goF hK (trivial) HFR hz rfl rfl fun a hHeld HFR=>?_
   (try simp only[Zj,Zx,Zk])
   (try simp only[Qj9,Nat.reduceLT,↓reduceIte] at HFR)
   exact KEY0TF a w1 pa HFR ⟨HO1,GA1⟩
  refine Zy (o:=_) rfl (fun K hK=>?_) ?_
  ·have E90:=HFR.out.get (k:=90) rfl
   go_simp
   refine(Qqk T 2 _ (by omega) (by omega) HO.out.tape).mono ?_;rintro e w1 ⟨v,rfl,⟨j1,rfl,hj10,hj11⟩,ht,hk⟩;obtain⟨j1,rfl⟩:=Zt hj10;have hj1:j1<2:=by omega
   have HO1:=hid (HO.out.step ht hk);clear ht hk;dsimp only;refine goF hK (trivial) HFR hz rfl rfl fun a hHeld HFR=>?_
   (try simp only[Zj,Zx,Zk])
   (try simp only[Qj9,Nat.reduceLT,↓reduceIte] at HFR)
   exact KEY1FF a w1 j1 HFR ⟨hj1,HO1⟩
  refine Zy (o:=_) rfl (fun K hK=>?_) ?_
  ·go_simp
   have hO:=HO.out.alloc (.cells #[.string ⟨#[110]⟩,.string ⟨#[109]⟩] 9);have hN:=NMC.new (lo:=Sx+1) (W:=w0) (t:=9) (by have:=HO.out.blt (b:=⟨Sx,#["0","",(),(),(),(),""],42⟩) (by simp);dsimp only at this;omega);generalize w0.heap.size=pb at hN⊢;generalize Qw w0 _=w1 at hO hN⊢;have HO1:=hid hO;have GB1:=hid hN;clear hO hN;refine goF hK (trivial) HFR hz rfl rfl fun a hHeld HFR=>?_
   (try simp only[Zj,Zx,Zk])
   (try simp only[Qj9,Nat.reduceLT,↓reduceIte] at HFR)
   exact KEY0FT a w1 pb HFR ⟨HO1,GB1⟩
  exact Zf
 ·rintro a w0 pa HFR ⟨HO,GA⟩;have hHeld:True:=trivial;refine Zc (rs:=[2,8]) (by kernel_rfl) (by simp) ?_;refine Zy (o:=_) rfl (fun K hK=>?_) ?_
  ·have E90:=HFR.out.get (k:=90) rfl
   go_simp
   refine(Qqk T 2 _ (by omega) (by omega) HO.out.tape).mono ?_;rintro e w1 ⟨v,rfl,⟨j1,rfl,hj10,hj11⟩,ht,hk⟩;obtain⟨j1,rfl⟩:=Zt hj10;have hj1:j1<2:=by omega
   have HO1:=hid (HO.out.step ht hk);have GA1:=hid (GA.out.step (by omega) hk);clear ht hk;dsimp only;refine goF hK (trivial) HFR hz rfl rfl fun a hHeld HFR=>?_;refine Qqy (S:=fun w'=>True) (S':=fun w'=>w'.cell? ⟨pa,j1,none⟩=some (.string (Qqg j1))) (fun _ _=>trivial) _ _ _ _ ?_;have hHeld:w1.cell? ⟨pa,j1,none⟩=some (.string (Qqg j1)):=GA1.out.2.2 j1 hj1;have E89:=HFR.out.get (k:=89) rfl;have E91:=HFR.out.get (k:=91) rfl;refine tkF 3 HFR hz (by assumption) fun a HFR=>?_;clear E89 E91;have E92:=HFR.out.get (k:=92) rfl;refine tkF 4 HFR hz (by assumption) fun a HFR=>?_;clear E92
   (try simp only[Zj,Zx,Zk])
   (try simp only[Qj9,Nat.reduceLT,↓reduceIte] at HFR)
   exact KEY1TF a w1 pa j1 HFR ⟨hj1,HO1,GA1⟩
  refine Zy (o:=_) rfl (fun K hK=>?_) ?_
  ·go_simp
   have hO:=HO.out.alloc (.cells #[.string ⟨#[110]⟩,.string ⟨#[109]⟩] 9);have hN:=NMC.new (lo:=Sx+1) (W:=w0) (t:=9) (by have:=HO.out.blt (b:=⟨Sx,#["0","",(),(),(),(),""],42⟩) (by simp);dsimp only at this;omega);have hA:=GA.out.alloc (.cells #[.string ⟨#[110]⟩,.string ⟨#[109]⟩] 9);generalize w0.heap.size=pb at hN⊢;generalize Qw w0 _=w1 at hO hN hA⊢;have HO1:=hid hO;have GB1:=hid hN;have GA1:=hid hA;clear hO hN hA;refine goF hK (trivial) HFR hz rfl rfl fun a hHeld HFR=>?_
   (try simp only[Zj,Zx,Zk])
   (try simp only[Qj9,Nat.reduceLT,↓reduceIte] at HFR)
   exact KEY0TT a w1 pa pb HFR ⟨HO1,GA1,GB1⟩
  exact Zf
 ·rintro a w0 pb HFR ⟨HO,GB⟩;have hHeld:True:=trivial;refine Zc (rs:=[0,2]) (by kernel_rfl) (by simp) ?_;refine Zy (o:=_) rfl (fun K hK=>?_) ?_
  ·go_simp
   have hO:=HO.out.alloc (.cells #[.string ⟨#[110]⟩,.string ⟨#[109]⟩] 9);have hN:=NMC.new (lo:=Sx+1) (W:=w0) (t:=9) (by have:=HO.out.blt (b:=⟨Sx,#["0","",(),(),(),(),""],42⟩) (by simp);dsimp only at this;omega);have hB:=GB.out.alloc (.cells #[.string ⟨#[110]⟩,.string ⟨#[109]⟩] 9);generalize w0.heap.size=pa at hN⊢;generalize Qw w0 _=w1 at hO hN hB⊢;have HO1:=hid hO;have GA1:=hid hN;have GB1:=hid hB;clear hO hN hB;refine goF hK (trivial) HFR hz rfl rfl fun a hHeld HFR=>?_
   (try simp only[Zj,Zx,Zk])
   (try simp only[Qj9,Nat.reduceLT,↓reduceIte] at HFR)
   exact KEY0TT a w1 pa pb HFR ⟨HO1,GA1,GB1⟩
  refine Zy (o:=_) rfl (fun K hK=>?_) ?_
  ·have E90:=HFR.out.get (k:=90) rfl
   go_simp
   refine(Qqk T 2 _ (by omega) (by omega) HO.out.tape).mono ?_;rintro e w1 ⟨v,rfl,⟨j1,rfl,hj10,hj11⟩,ht,hk⟩;obtain⟨j1,rfl⟩:=Zt hj10;have hj1:j1<2:=by omega
   have HO1:=hid (HO.out.step ht hk);have GB1:=hid (GB.out.step (by omega) hk);clear ht hk;dsimp only;refine goF hK (trivial) HFR hz rfl rfl fun a hHeld HFR=>?_
   (try simp only[Zj,Zx,Zk])
   (try simp only[Qj9,Nat.reduceLT,↓reduceIte] at HFR)
   exact KEY1FT a w1 pb j1 HFR ⟨hj1,HO1,GB1⟩
  exact Zf
 ·rintro a w0 pa pb HFR ⟨HO,GA,GB⟩;have hHeld:True:=trivial;refine Zc (rs:=[2]) (by kernel_rfl) (by simp) ?_;refine Zy (o:=_) rfl (fun K hK=>?_) ?_
  ·have E90:=HFR.out.get (k:=90) rfl
   go_simp
   refine(Qqk T 2 _ (by omega) (by omega) HO.out.tape).mono ?_;rintro e w1 ⟨v,rfl,⟨j1,rfl,hj10,hj11⟩,ht,hk⟩;obtain⟨j1,rfl⟩:=Zt hj10;have hj1:j1<2:=by omega
   have HO1:=hid (HO.out.step ht hk);have GA1:=hid (GA.out.step (by omega) hk);have GB1:=hid (GB.out.step (by omega) hk);clear ht hk;dsimp only;refine goF hK (trivial) HFR hz rfl rfl fun a hHeld HFR=>?_;refine Qqy (S:=fun w'=>True) (S':=fun w'=>w'.cell? ⟨pa,j1,none⟩=some (.string (Qqg j1))) (fun _ _=>trivial) _ _ _ _ ?_;have hHeld:w1.cell? ⟨pa,j1,none⟩=some (.string (Qqg j1)):=GA1.out.2.2 j1 hj1;have E89:=HFR.out.get (k:=89) rfl;have E91:=HFR.out.get (k:=91) rfl;refine tkF 3 HFR hz (by assumption) fun a HFR=>?_;clear E89 E91;have E92:=HFR.out.get (k:=92) rfl;refine tkF 4 HFR hz (by assumption) fun a HFR=>?_;clear E92
   (try simp only[Zj,Zx,Zk])
   (try simp only[Qj9,Nat.reduceLT,↓reduceIte] at HFR)
   exact KEY1TT a w1 pa pb j1 HFR ⟨hj1,HO1,GA1,GB1⟩
  exact Zf
 ·rintro a w0 j1 HFR ⟨hj1,HO⟩;have hHeld:True:=trivial;have hj10:(0:Int)≤(j1:Int):=by omega
  have hj11:(j1:Int)<2:=by omega
  refine Zc (rs:=[0,6,8]) (by kernel_rfl) (by simp) ?_;refine Zy (o:=_) rfl (fun K hK=>?_) ?_
  ·go_simp
   have hO:=HO.out.alloc (.cells #[.string ⟨#[110]⟩,.string ⟨#[109]⟩] 9);have hN:=NMC.new (lo:=Sx+1) (W:=w0) (t:=9) (by have:=HO.out.blt (b:=⟨Sx,#["0","",(),(),(),(),""],42⟩) (by simp);dsimp only at this;omega);generalize w0.heap.size=pa at hN⊢;generalize Qw w0 _=w1 at hO hN⊢;have HO1:=hid hO;have GA1:=hid hN;clear hO hN;refine goF hK (trivial) HFR hz rfl rfl fun a hHeld HFR=>?_;refine Qqy (S:=fun w'=>True) (S':=fun w'=>w'.cell? ⟨pa,j1,none⟩=some (.string (Qqg j1))) (fun _ _=>trivial) _ _ _ _ ?_;have hHeld:w1.cell? ⟨pa,j1,none⟩=some (.string (Qqg j1)):=GA1.out.2.2 j1 hj1;have E89:=HFR.out.get (k:=89) rfl;have E91:=HFR.out.get (k:=91) rfl;refine tkF 3 HFR hz (by assumption) fun a HFR=>?_;clear E89 E91;have E92:=HFR.out.get (k:=92) rfl;refine tkF 4 HFR hz (by assumption) fun a HFR=>?_;clear E92
   (try simp only[Zj,Zx,Zk])
   (try simp only[Qj9,Nat.reduceLT,↓reduceIte] at HFR)
   exact KEY1TF a w1 pa j1 HFR ⟨hj1,HO1,GA1⟩
  refine Zy (o:=_) rfl (fun K hK=>?_) ?_
  ·have E94:=HFR.out.get (k:=94) rfl
   go_simp
   refine(Qqk T 2 _ (by omega) (by omega) HO.out.tape).mono ?_;rintro e w1 ⟨v,rfl,⟨o,rfl,ho0,ho1⟩,ht,hk⟩;have eo:IntKind.i64.wrap (9+o)=9+o:=Zp _ (by omega);have HO1:=hid (HO.out.step ht hk);clear ht hk;dsimp only;refine goF hK (trivial) HFR hz rfl rfl fun a hHeld HFR=>?_;have E95:=HFR.out.get (k:=95) rfl;refine tkF 7 HFR hz (by assumption) fun a HFR=>?_;clear E95
   (try simp only[Zj,Zx,Zk])
   (try simp only[Qj9,Nat.reduceLT,↓reduceIte] at HFR)
   exact KEY2FF a w1 j1 o HFR ⟨hj1,ho0,ho1,HO1⟩
  refine Zy (o:=_) rfl (fun K hK=>?_) ?_
  ·go_simp
   have hO:=HO.out.alloc (.cells #[.string ⟨#[110]⟩,.string ⟨#[109]⟩] 9);have hN:=NMC.new (lo:=Sx+1) (W:=w0) (t:=9) (by have:=HO.out.blt (b:=⟨Sx,#["0","",(),(),(),(),""],42⟩) (by simp);dsimp only at this;omega);generalize w0.heap.size=pb at hN⊢;generalize Qw w0 _=w1 at hO hN⊢;have HO1:=hid hO;have GB1:=hid hN;clear hO hN;refine goF hK (trivial) HFR hz rfl rfl fun a hHeld HFR=>?_
   (try simp only[Zj,Zx,Zk])
   (try simp only[Qj9,Nat.reduceLT,↓reduceIte] at HFR)
   exact KEY1FT a w1 pb j1 HFR ⟨hj1,HO1,GB1⟩
  exact Zf
 ·rintro a w0 pa j1 HFR ⟨hj1,HO,GA⟩;have hHeld:w0.cell? ⟨pa,j1,none⟩=some (.string (Qqg j1)):=GA.out.2.2 j1 hj1;have hj10:(0:Int)≤(j1:Int):=by omega
  have hj11:(j1:Int)<2:=by omega
  refine Zc (rs:=[6,8]) (by kernel_rfl) (by simp) ?_;refine Zy (o:=_) rfl (fun K hK=>?_) ?_
  ·have E94:=HFR.out.get (k:=94) rfl
   go_simp
   refine(Qqk T 2 _ (by omega) (by omega) HO.out.tape).mono ?_;rintro e w1 ⟨v,rfl,⟨o,rfl,ho0,ho1⟩,ht,hk⟩;have eo:IntKind.i64.wrap (9+o)=9+o:=Zp _ (by omega);have HO1:=hid (HO.out.step ht hk);have GA1:=hid (GA.out.step (by omega) hk);clear ht hk;dsimp only;refine goF hK (GA1.out.2.2 j1 hj1) HFR hz rfl rfl fun a hHeld HFR=>?_;have E95:=HFR.out.get (k:=95) rfl;refine tkF 7 HFR hz (by assumption) fun a HFR=>?_;clear E95
   (try simp only[Zj,Zx,Zk])
   (try simp only[Qj9,Nat.reduceLT,↓reduceIte] at HFR)
   exact KEY2TF a w1 pa j1 o HFR ⟨hj1,ho0,ho1,HO1,GA1⟩
  refine Zy (o:=_) rfl (fun K hK=>?_) ?_
  ·go_simp
   have hO:=HO.out.alloc (.cells #[.string ⟨#[110]⟩,.string ⟨#[109]⟩] 9);have hN:=NMC.new (lo:=Sx+1) (W:=w0) (t:=9) (by have:=HO.out.blt (b:=⟨Sx,#["0","",(),(),(),(),""],42⟩) (by simp);dsimp only at this;omega);have hA:=GA.out.alloc (.cells #[.string ⟨#[110]⟩,.string ⟨#[109]⟩] 9);generalize w0.heap.size=pb at hN⊢;generalize Qw w0 _=w1 at hO hN hA⊢;have HO1:=hid hO;have GB1:=hid hN;have GA1:=hid hA;clear hO hN hA;refine goF hK (GA1.out.2.2 j1 hj1) HFR hz rfl rfl fun a hHeld HFR=>?_
   (try simp only[Zj,Zx,Zk])
   (try simp only[Qj9,Nat.reduceLT,↓reduceIte] at HFR)
   exact KEY1TT a w1 pa pb j1 HFR ⟨hj1,HO1,GA1,GB1⟩
  exact Zf
 ·rintro a w0 pb j1 HFR ⟨hj1,HO,GB⟩;have hHeld:True:=trivial;have hj10:(0:Int)≤(j1:Int):=by omega
  have hj11:(j1:Int)<2:=by omega
  refine Zc (rs:=[0,6]) (by kernel_rfl) (by simp) ?_;refine Zy (o:=_) rfl (fun K hK=>?_) ?_
  ·go_simp
   have hO:=HO.out.alloc (.cells #[.string ⟨#[110]⟩,.string ⟨#[109]⟩] 9);have hN:=NMC.new (lo:=Sx+1) (W:=w0) (t:=9) (by have:=HO.out.blt (b:=⟨Sx,#["0","",(),(),(),(),""],42⟩) (by simp);dsimp only at this;omega);have hB:=GB.out.alloc (.cells #[.string ⟨#[110]⟩,.string ⟨#[109]⟩] 9);generalize w0.heap.size=pa at hN⊢;generalize Qw w0 _=w1 at hO hN hB⊢;have HO1:=hid hO;have GA1:=hid hN;have GB1:=hid hB;clear hO hN hB;refine goF hK (trivial) HFR hz rfl rfl fun a hHeld HFR=>?_;refine Qqy (S:=fun w'=>True) (S':=fun w'=>w'.cell? ⟨pa,j1,none⟩=some (.string (Qqg j1))) (fun _ _=>trivial) _ _ _ _ ?_;have hHeld:w1.cell? ⟨pa,j1,none⟩=some (.string (Qqg j1)):=GA1.out.2.2 j1 hj1;have E89:=HFR.out.get (k:=89) rfl;have E91:=HFR.out.get (k:=91) rfl;refine tkF 3 HFR hz (by assumption) fun a HFR=>?_;clear E89 E91;have E92:=HFR.out.get (k:=92) rfl;refine tkF 4 HFR hz (by assumption) fun a HFR=>?_;clear E92
   (try simp only[Zj,Zx,Zk])
   (try simp only[Qj9,Nat.reduceLT,↓reduceIte] at HFR)
   exact KEY1TT a w1 pa pb j1 HFR ⟨hj1,HO1,GA1,GB1⟩
  refine Zy (o:=_) rfl (fun K hK=>?_) ?_
  ·have E94:=HFR.out.get (k:=94) rfl
   go_simp
   refine(Qqk T 2 _ (by omega) (by omega) HO.out.tape).mono ?_;rintro e w1 ⟨v,rfl,⟨o,rfl,ho0,ho1⟩,ht,hk⟩;have eo:IntKind.i64.wrap (9+o)=9+o:=Zp _ (by omega);have HO1:=hid (HO.out.step ht hk);have GB1:=hid (GB.out.step (by omega) hk);clear ht hk;dsimp only;refine goF hK (trivial) HFR hz rfl rfl fun a hHeld HFR=>?_;have E95:=HFR.out.get (k:=95) rfl;refine tkF 7 HFR hz (by assumption) fun a HFR=>?_;clear E95
   (try simp only[Zj,Zx,Zk])
   (try simp only[Qj9,Nat.reduceLT,↓reduceIte] at HFR)
   exact KEY2FT a w1 pb j1 o HFR ⟨hj1,ho0,ho1,HO1,GB1⟩
  exact Zf
 ·rintro a w0 pa pb j1 HFR ⟨hj1,HO,GA,GB⟩;have hHeld:w0.cell? ⟨pa,j1,none⟩=some (.string (Qqg j1)):=GA.out.2.2 j1 hj1;have hj10:(0:Int)≤(j1:Int):=by omega
  have hj11:(j1:Int)<2:=by omega
  refine Zc (rs:=[6]) (by kernel_rfl) (by simp) ?_;refine Zy (o:=_) rfl (fun K hK=>?_) ?_
  ·have E94:=HFR.out.get (k:=94) rfl
   go_simp
   refine(Qqk T 2 _ (by omega) (by omega) HO.out.tape).mono ?_;rintro e w1 ⟨v,rfl,⟨o,rfl,ho0,ho1⟩,ht,hk⟩;have eo:IntKind.i64.wrap (9+o)=9+o:=Zp _ (by omega);have HO1:=hid (HO.out.step ht hk);have GA1:=hid (GA.out.step (by omega) hk);have GB1:=hid (GB.out.step (by omega) hk);clear ht hk;dsimp only;refine goF hK (GA1.out.2.2 j1 hj1) HFR hz rfl rfl fun a hHeld HFR=>?_;have E95:=HFR.out.get (k:=95) rfl;refine tkF 7 HFR hz (by assumption) fun a HFR=>?_;clear E95
   (try simp only[Zj,Zx,Zk])
   (try simp only[Qj9,Nat.reduceLT,↓reduceIte] at HFR)
   exact KEY2TT a w1 pa pb j1 o HFR ⟨hj1,ho0,ho1,HO1,GA1,GB1⟩
  exact Zf
 ·rintro a w0 j1 o HFR ⟨hj1,ho0,ho1,HO⟩;have hHeld:True:=trivial;have hj10:(0:Int)≤(j1:Int):=by omega
  have hj11:(j1:Int)<2:=by omega
  have eo:IntKind.i64.wrap (9+o)=9+o:=Zp _ (by omega);refine Zc (rs:=[0,8,10]) (by kernel_rfl) (by simp) ?_;refine Zy (o:=_) rfl (fun K hK=>?_) ?_
  ·go_simp
   have hO:=HO.out.alloc (.cells #[.string ⟨#[110]⟩,.string ⟨#[109]⟩] 9);have hN:=NMC.new (lo:=Sx+1) (W:=w0) (t:=9) (by have:=HO.out.blt (b:=⟨Sx,#["0","",(),(),(),(),""],42⟩) (by simp);dsimp only at this;omega);generalize w0.heap.size=pa at hN⊢;generalize Qw w0 _=w1 at hO hN⊢;have HO1:=hid hO;have GA1:=hid hN;clear hO hN;refine goF hK (trivial) HFR hz rfl rfl fun a hHeld HFR=>?_;refine Qqy (S:=fun w'=>True) (S':=fun w'=>w'.cell? ⟨pa,j1,none⟩=some (.string (Qqg j1))) (fun _ _=>trivial) _ _ _ _ ?_;have hHeld:w1.cell? ⟨pa,j1,none⟩=some (.string (Qqg j1)):=GA1.out.2.2 j1 hj1;have E89:=HFR.out.get (k:=89) rfl;have E91:=HFR.out.get (k:=91) rfl;refine tkF 3 HFR hz (by assumption) fun a HFR=>?_;clear E89 E91;have E92:=HFR.out.get (k:=92) rfl;refine tkF 4 HFR hz (by assumption) fun a HFR=>?_;clear E92
   (try simp only[Zj,Zx,Zk])
   (try simp only[Qj9,Nat.reduceLT,↓reduceIte] at HFR)
   exact KEY2TF a w1 pa j1 o HFR ⟨hj1,ho0,ho1,HO1,GA1⟩
  refine Zy (o:=_) rfl (fun K hK=>?_) ?_
  ·go_simp
   have hO:=HO.out.alloc (.cells #[.string ⟨#[110]⟩,.string ⟨#[109]⟩] 9);have hN:=NMC.new (lo:=Sx+1) (W:=w0) (t:=9) (by have:=HO.out.blt (b:=⟨Sx,#["0","",(),(),(),(),""],42⟩) (by simp);dsimp only at this;omega);generalize w0.heap.size=pb at hN⊢;generalize Qw w0 _=w1 at hO hN⊢;have HO1:=hid hO;have GB1:=hid hN;clear hO hN;refine goF hK (trivial) HFR hz rfl rfl fun a hHeld HFR=>?_
   (try simp only[Zj,Zx,Zk])
   (try simp only[Qj9,Nat.reduceLT,↓reduceIte] at HFR)
   exact KEY2FT a w1 pb j1 o HFR ⟨hj1,ho0,ho1,HO1,GB1⟩
  refine Zy (o:=_) rfl (fun K hK=>?_) ?_
  ·have E98:=HFR.out.get (k:=98) rfl
   go_simp
   refine(Qqk T 2 _ (by omega) (by omega) HO.out.tape).mono ?_;rintro e w1 ⟨v,rfl,⟨j2,rfl,hj20,hj21⟩,ht,hk⟩;obtain⟨j2,rfl⟩:=Zt hj20;have hj2:j2<2:=by omega
   have HO1:=hid (HO.out.step ht hk);clear ht hk;dsimp only;refine goF hK (trivial) HFR hz rfl rfl fun a hHeld HFR=>?_
   (try simp only[Zj,Zx,Zk])
   (try simp only[Qj9,Nat.reduceLT,↓reduceIte] at HFR)
   exact KEY3FF a w1 j1 o j2 HFR ⟨hj1,ho0,ho1,hj2,HO1⟩
  exact Zf
 ·rintro a w0 pa j1 o HFR ⟨hj1,ho0,ho1,HO,GA⟩;have hHeld:w0.cell? ⟨pa,j1,none⟩=some (.string (Qqg j1)):=GA.out.2.2 j1 hj1;have hj10:(0:Int)≤(j1:Int):=by omega
  have hj11:(j1:Int)<2:=by omega
  have eo:IntKind.i64.wrap (9+o)=9+o:=Zp _ (by omega);refine Zc (rs:=[8,10]) (by kernel_rfl) (by simp) ?_;refine Zy (o:=_) rfl (fun K hK=>?_) ?_
  ·go_simp
   have hO:=HO.out.alloc (.cells #[.string ⟨#[110]⟩,.string ⟨#[109]⟩] 9);have hN:=NMC.new (lo:=Sx+1) (W:=w0) (t:=9) (by have:=HO.out.blt (b:=⟨Sx,#["0","",(),(),(),(),""],42⟩) (by simp);dsimp only at this;omega);have hA:=GA.out.alloc (.cells #[.string ⟨#[110]⟩,.string ⟨#[109]⟩] 9);generalize w0.heap.size=pb at hN⊢;generalize Qw w0 _=w1 at hO hN hA⊢;have HO1:=hid hO;have GB1:=hid hN;have GA1:=hid hA;clear hO hN hA;refine goF hK (GA1.out.2.2 j1 hj1) HFR hz rfl rfl fun a hHeld HFR=>?_
   (try simp only[Zj,Zx,Zk])
   (try simp only[Qj9,Nat.reduceLT,↓reduceIte] at HFR)
   exact KEY2TT a w1 pa pb j1 o HFR ⟨hj1,ho0,ho1,HO1,GA1,GB1⟩
  refine Zy (o:=_) rfl (fun K hK=>?_) ?_
  ·have E98:=HFR.out.get (k:=98) rfl
   go_simp
   refine(Qqk T 2 _ (by omega) (by omega) HO.out.tape).mono ?_;rintro e w1 ⟨v,rfl,⟨j2,rfl,hj20,hj21⟩,ht,hk⟩;obtain⟨j2,rfl⟩:=Zt hj20;have hj2:j2<2:=by omega
   have HO1:=hid (HO.out.step ht hk);have GA1:=hid (GA.out.step (by omega) hk);clear ht hk;dsimp only;refine goF hK (GA1.out.2.2 j1 hj1) HFR hz rfl rfl fun a hHeld HFR=>?_
   (try simp only[Zj,Zx,Zk])
   (try simp only[Qj9,Nat.reduceLT,↓reduceIte] at HFR)
   exact KEY3TF a w1 pa j1 o j2 HFR ⟨hj1,ho0,ho1,hj2,HO1,GA1⟩
  exact Zf
 ·rintro a w0 pb j1 o HFR ⟨hj1,ho0,ho1,HO,GB⟩;have hHeld:True:=trivial;have hj10:(0:Int)≤(j1:Int):=by omega
  have hj11:(j1:Int)<2:=by omega
  have eo:IntKind.i64.wrap (9+o)=9+o:=Zp _ (by omega);refine Zc (rs:=[0,10]) (by kernel_rfl) (by simp) ?_;refine Zy (o:=_) rfl (fun K hK=>?_) ?_
  ·go_simp
   have hO:=HO.out.alloc (.cells #[.string ⟨#[110]⟩,.string ⟨#[109]⟩] 9);have hN:=NMC.new (lo:=Sx+1) (W:=w0) (t:=9) (by have:=HO.out.blt (b:=⟨Sx,#["0","",(),(),(),(),""],42⟩) (by simp);dsimp only at this;omega);have hB:=GB.out.alloc (.cells #[.string ⟨#[110]⟩,.string ⟨#[109]⟩] 9);generalize w0.heap.size=pa at hN⊢;generalize Qw w0 _=w1 at hO hN hB⊢;have HO1:=hid hO;have GA1:=hid hN;have GB1:=hid hB;clear hO hN hB;refine goF hK (trivial) HFR hz rfl rfl fun a hHeld HFR=>?_;refine Qqy (S:=fun w'=>True) (S':=fun w'=>w'.cell? ⟨pa,j1,none⟩=some (.string (Qqg j1))) (fun _ _=>trivial) _ _ _ _ ?_;have hHeld:w1.cell? ⟨pa,j1,none⟩=some (.string (Qqg j1)):=GA1.out.2.2 j1 hj1;have E89:=HFR.out.get (k:=89) rfl;have E91:=HFR.out.get (k:=91) rfl;refine tkF 3 HFR hz (by assumption) fun a HFR=>?_;clear E89 E91;have E92:=HFR.out.get (k:=92) rfl;refine tkF 4 HFR hz (by assumption) fun a HFR=>?_;clear E92
   (try simp only[Zj,Zx,Zk])
   (try simp only[Qj9,Nat.reduceLT,↓reduceIte] at HFR)
   exact KEY2TT a w1 pa pb j1 o HFR ⟨hj1,ho0,ho1,HO1,GA1,GB1⟩
  refine Zy (o:=_) rfl (fun K hK=>?_) ?_
  ·have E98:=HFR.out.get (k:=98) rfl
   go_simp
   refine(Qqk T 2 _ (by omega) (by omega) HO.out.tape).mono ?_;rintro e w1 ⟨v,rfl,⟨j2,rfl,hj20,hj21⟩,ht,hk⟩;obtain⟨j2,rfl⟩:=Zt hj20;have hj2:j2<2:=by omega
   have HO1:=hid (HO.out.step ht hk);have GB1:=hid (GB.out.step (by omega) hk);clear ht hk;dsimp only;refine goF hK (trivial) HFR hz rfl rfl fun a hHeld HFR=>?_;refine Qqy (S:=fun w'=>True) (S':=fun w'=>w'.cell? ⟨pb,j2,none⟩=some (.string (Qqg j2))) (fun _ _=>trivial) _ _ _ _ ?_;have hHeld:w1.cell? ⟨pb,j2,none⟩=some (.string (Qqg j2)):=GB1.out.2.2 j2 hj2;have E97:=HFR.out.get (k:=97) rfl;have E99:=HFR.out.get (k:=99) rfl;refine tkF 11 HFR hz (by assumption) fun a HFR=>?_;clear E97 E99;have E100:=HFR.out.get (k:=100) rfl;refine tkF 12 HFR hz (by assumption) fun a HFR=>?_;clear E100
   (try simp only[Zj,Zx,Zk])
   (try simp only[Qj9,Nat.reduceLT,↓reduceIte] at HFR)
   exact KEY3FT a w1 pb j1 o j2 HFR ⟨hj1,ho0,ho1,hj2,HO1,GB1⟩
  exact Zf
 ·rintro a w0 pa pb j1 o HFR ⟨hj1,ho0,ho1,HO,GA,GB⟩;have hHeld:w0.cell? ⟨pa,j1,none⟩=some (.string (Qqg j1)):=GA.out.2.2 j1 hj1;have hj10:(0:Int)≤(j1:Int):=by omega
  have hj11:(j1:Int)<2:=by omega
  have eo:IntKind.i64.wrap (9+o)=9+o:=Zp _ (by omega);refine Zc (rs:=[10]) (by kernel_rfl) (by simp) ?_;refine Zy (o:=_) rfl (fun K hK=>?_) ?_
  ·have E98:=HFR.out.get (k:=98) rfl
   go_simp
   refine(Qqk T 2 _ (by omega) (by omega) HO.out.tape).mono ?_;rintro e w1 ⟨v,rfl,⟨j2,rfl,hj20,hj21⟩,ht,hk⟩;obtain⟨j2,rfl⟩:=Zt hj20;have hj2:j2<2:=by omega
   have HO1:=hid (HO.out.step ht hk);have GA1:=hid (GA.out.step (by omega) hk);have GB1:=hid (GB.out.step (by omega) hk);clear ht hk;dsimp only;refine goF hK (GA1.out.2.2 j1 hj1) HFR hz rfl rfl fun a hHeld HFR=>?_;refine Qqy (S:=fun w'=>w'.cell? ⟨pa,j1,none⟩=some (.string (Qqg j1))) (S':=fun w'=>w'.cell? ⟨pa,j1,none⟩=some (.string (Qqg j1))∧w'.cell? ⟨pb,j2,none⟩=some (.string (Qqg j2))) (fun _ h=>h.1) _ _ _ _ ?_
   have hHeld:w1.cell? ⟨pa,j1,none⟩=some (.string (Qqg j1))∧w1.cell? ⟨pb,j2,none⟩=some (.string (Qqg j2)):=⟨GA1.out.2.2 j1 hj1,GB1.out.2.2 j2 hj2⟩
   have E97:=HFR.out.get (k:=97) rfl;have E99:=HFR.out.get (k:=99) rfl;refine tkF 11 HFR hz (by assumption) fun a HFR=>?_;clear E97 E99;have E100:=HFR.out.get (k:=100) rfl;refine tkF 12 HFR hz (by assumption) fun a HFR=>?_;clear E100
   (try simp only[Zj,Zx,Zk])
   (try simp only[Qj9,Nat.reduceLT,↓reduceIte] at HFR)
   exact KEY3TT a w1 pa pb j1 o j2 HFR ⟨hj1,ho0,ho1,hj2,HO1,GA1,GB1⟩
  exact Zf
 ·rintro a w0 j1 o j2 HFR ⟨hj1,ho0,ho1,hj2,HO⟩;have hHeld:True:=trivial;have hj10:(0:Int)≤(j1:Int):=by omega
  have hj11:(j1:Int)<2:=by omega
  have hj20:(0:Int)≤(j2:Int):=by omega
  have hj21:(j2:Int)<2:=by omega
  have eo:IntKind.i64.wrap (9+o)=9+o:=Zp _ (by omega);refine Zc (rs:=[0,8]) (by kernel_rfl) (by simp) ?_;refine Zy (o:=_) rfl (fun K hK=>?_) ?_
  ·go_simp
   have hO:=HO.out.alloc (.cells #[.string ⟨#[110]⟩,.string ⟨#[109]⟩] 9);have hN:=NMC.new (lo:=Sx+1) (W:=w0) (t:=9) (by have:=HO.out.blt (b:=⟨Sx,#["0","",(),(),(),(),""],42⟩) (by simp);dsimp only at this;omega);generalize w0.heap.size=pa at hN⊢;generalize Qw w0 _=w1 at hO hN⊢;have HO1:=hid hO;have GA1:=hid hN;clear hO hN;refine goF hK (trivial) HFR hz rfl rfl fun a hHeld HFR=>?_;refine Qqy (S:=fun w'=>True) (S':=fun w'=>w'.cell? ⟨pa,j1,none⟩=some (.string (Qqg j1))) (fun _ _=>trivial) _ _ _ _ ?_;have hHeld:w1.cell? ⟨pa,j1,none⟩=some (.string (Qqg j1)):=GA1.out.2.2 j1 hj1;have E89:=HFR.out.get (k:=89) rfl;have E91:=HFR.out.get (k:=91) rfl;refine tkF 3 HFR hz (by assumption) fun a HFR=>?_;clear E89 E91;have E92:=HFR.out.get (k:=92) rfl;refine tkF 4 HFR hz (by assumption) fun a HFR=>?_;clear E92
   (try simp only[Zj,Zx,Zk])
   (try simp only[Qj9,Nat.reduceLT,↓reduceIte] at HFR)
   exact KEY3TF a w1 pa j1 o j2 HFR ⟨hj1,ho0,ho1,hj2,HO1,GA1⟩
  refine Zy (o:=_) rfl (fun K hK=>?_) ?_
  ·go_simp
   have hO:=HO.out.alloc (.cells #[.string ⟨#[110]⟩,.string ⟨#[109]⟩] 9);have hN:=NMC.new (lo:=Sx+1) (W:=w0) (t:=9) (by have:=HO.out.blt (b:=⟨Sx,#["0","",(),(),(),(),""],42⟩) (by simp);dsimp only at this;omega);generalize w0.heap.size=pb at hN⊢;generalize Qw w0 _=w1 at hO hN⊢;have HO1:=hid hO;have GB1:=hid hN;clear hO hN;refine goF hK (trivial) HFR hz rfl rfl fun a hHeld HFR=>?_;refine Qqy (S:=fun w'=>True) (S':=fun w'=>w'.cell? ⟨pb,j2,none⟩=some (.string (Qqg j2))) (fun _ _=>trivial) _ _ _ _ ?_;have hHeld:w1.cell? ⟨pb,j2,none⟩=some (.string (Qqg j2)):=GB1.out.2.2 j2 hj2;have E97:=HFR.out.get (k:=97) rfl;have E99:=HFR.out.get (k:=99) rfl;refine tkF 11 HFR hz (by assumption) fun a HFR=>?_;clear E97 E99;have E100:=HFR.out.get (k:=100) rfl;refine tkF 12 HFR hz (by assumption) fun a HFR=>?_;clear E100
   (try simp only[Zj,Zx,Zk])
   (try simp only[Qj9,Nat.reduceLT,↓reduceIte] at HFR)
   exact KEY3FT a w1 pb j1 o j2 HFR ⟨hj1,ho0,ho1,hj2,HO1,GB1⟩
  exact Zf
 ·rintro a w0 pa j1 o j2 HFR ⟨hj1,ho0,ho1,hj2,HO,GA⟩;have hHeld:w0.cell? ⟨pa,j1,none⟩=some (.string (Qqg j1)):=GA.out.2.2 j1 hj1;have hj10:(0:Int)≤(j1:Int):=by omega
  have hj11:(j1:Int)<2:=by omega
  have hj20:(0:Int)≤(j2:Int):=by omega
  have hj21:(j2:Int)<2:=by omega
  have eo:IntKind.i64.wrap (9+o)=9+o:=Zp _ (by omega);refine Zc (rs:=[8]) (by kernel_rfl) (by simp) ?_;refine Zy (o:=_) rfl (fun K hK=>?_) ?_
  ·go_simp
   have hO:=HO.out.alloc (.cells #[.string ⟨#[110]⟩,.string ⟨#[109]⟩] 9);have hN:=NMC.new (lo:=Sx+1) (W:=w0) (t:=9) (by have:=HO.out.blt (b:=⟨Sx,#["0","",(),(),(),(),""],42⟩) (by simp);dsimp only at this;omega);have hA:=GA.out.alloc (.cells #[.string ⟨#[110]⟩,.string ⟨#[109]⟩] 9);generalize w0.heap.size=pb at hN⊢;generalize Qw w0 _=w1 at hO hN hA⊢;have HO1:=hid hO;have GB1:=hid hN;have GA1:=hid hA;clear hO hN hA;refine goF hK (GA1.out.2.2 j1 hj1) HFR hz rfl rfl fun a hHeld HFR=>?_;refine Qqy (S:=fun w'=>w'.cell? ⟨pa,j1,none⟩=some (.string (Qqg j1))) (S':=fun w'=>w'.cell? ⟨pa,j1,none⟩=some (.string (Qqg j1))∧w'.cell? ⟨pb,j2,none⟩=some (.string (Qqg j2))) (fun _ h=>h.1) _ _ _ _ ?_
   have hHeld:w1.cell? ⟨pa,j1,none⟩=some (.string (Qqg j1))∧w1.cell? ⟨pb,j2,none⟩=some (.string (Qqg j2)):=⟨GA1.out.2.2 j1 hj1,GB1.out.2.2 j2 hj2⟩
   have E97:=HFR.out.get (k:=97) rfl;have E99:=HFR.out.get (k:=99) rfl;refine tkF 11 HFR hz (by assumption) fun a HFR=>?_;clear E97 E99;have E100:=HFR.out.get (k:=100) rfl;refine tkF 12 HFR hz (by assumption) fun a HFR=>?_;clear E100
   (try simp only[Zj,Zx,Zk])
   (try simp only[Qj9,Nat.reduceLT,↓reduceIte] at HFR)
   exact KEY3TT a w1 pa pb j1 o j2 HFR ⟨hj1,ho0,ho1,hj2,HO1,GA1,GB1⟩
  exact Zf
 ·rintro a w0 pb j1 o j2 HFR ⟨hj1,ho0,ho1,hj2,HO,GB⟩;have hHeld:w0.cell? ⟨pb,j2,none⟩=some (.string (Qqg j2)):=GB.out.2.2 j2 hj2;have hj10:(0:Int)≤(j1:Int):=by omega
  have hj11:(j1:Int)<2:=by omega
  have hj20:(0:Int)≤(j2:Int):=by omega
  have hj21:(j2:Int)<2:=by omega
  have eo:IntKind.i64.wrap (9+o)=9+o:=Zp _ (by omega);refine Zc (rs:=[0,13]) (by kernel_rfl) (by simp) ?_;refine Zy (o:=_) rfl (fun K hK=>?_) ?_
  ·go_simp
   have hO:=HO.out.alloc (.cells #[.string ⟨#[110]⟩,.string ⟨#[109]⟩] 9);have hN:=NMC.new (lo:=Sx+1) (W:=w0) (t:=9) (by have:=HO.out.blt (b:=⟨Sx,#["0","",(),(),(),(),""],42⟩) (by simp);dsimp only at this;omega);have hB:=GB.out.alloc (.cells #[.string ⟨#[110]⟩,.string ⟨#[109]⟩] 9);generalize w0.heap.size=pa at hN⊢;generalize Qw w0 _=w1 at hO hN hB⊢;have HO1:=hid hO;have GA1:=hid hN;have GB1:=hid hB;clear hO hN hB;refine goF hK (GB1.out.2.2 j2 hj2) HFR hz rfl rfl fun a hHeld HFR=>?_;refine Qqy (S:=fun w'=>w'.cell? ⟨pb,j2,none⟩=some (.string (Qqg j2))) (S':=fun w'=>w'.cell? ⟨pa,j1,none⟩=some (.string (Qqg j1))∧w'.cell? ⟨pb,j2,none⟩=some (.string (Qqg j2))) (fun _ h=>h.2) _ _ _ _ ?_
   have hHeld:w1.cell? ⟨pa,j1,none⟩=some (.string (Qqg j1))∧w1.cell? ⟨pb,j2,none⟩=some (.string (Qqg j2)):=⟨GA1.out.2.2 j1 hj1,GB1.out.2.2 j2 hj2⟩
   have E89:=HFR.out.get (k:=89) rfl;have E91:=HFR.out.get (k:=91) rfl;refine tkF 3 HFR hz (by assumption) fun a HFR=>?_;clear E89 E91;have E92:=HFR.out.get (k:=92) rfl;refine tkF 4 HFR hz (by assumption) fun a HFR=>?_;clear E92
   (try simp only[Zj,Zx,Zk])
   (try simp only[Qj9,Nat.reduceLT,↓reduceIte] at HFR)
   exact KEY3TT a w1 pa pb j1 o j2 HFR ⟨hj1,ho0,ho1,hj2,HO1,GA1,GB1⟩
  refine Zy (o:=_) rfl (fun K hK=>?_) ?_
  ·have E101:=HFR.out.get (k:=101) rfl
   go_simp
   refine(Qkl ⟨#[]⟩ (Qqg j2) _).mono ?_;rintro e w1 ⟨rfl,hb⟩;have HO1:=hid (HO.out.bel hb);have GB1:=hid (GB.out.bel hb);clear hb;dsimp only;refine goF hK (GB1.out.2.2 j2 hj2) HFR hz rfl rfl fun a hHeld HFR=>?_
   (try simp only[Zj,Zx,Zk])
   (try simp only[Qj9,Nat.reduceLT,↓reduceIte] at HFR)
   exact KEY4FT a w1 pb j1 o j2 HFR ⟨hj1,ho0,ho1,hj2,HO1,GB1⟩
  exact Zf
 ·rintro a w0 pa pb j1 o j2 HFR ⟨hj1,ho0,ho1,hj2,HO,GA,GB⟩
  have hHeld:w0.cell? ⟨pa,j1,none⟩=some (.string (Qqg j1))∧w0.cell? ⟨pb,j2,none⟩=some (.string (Qqg j2)):=⟨GA.out.2.2 j1 hj1,GB.out.2.2 j2 hj2⟩
  have hj10:(0:Int)≤(j1:Int):=by omega
  have hj11:(j1:Int)<2:=by omega
  have hj20:(0:Int)≤(j2:Int):=by omega
  have hj21:(j2:Int)<2:=by omega
  have eo:IntKind.i64.wrap (9+o)=9+o:=Zp _ (by omega);refine Zc (rs:=[13]) (by kernel_rfl) (by simp) ?_;refine Zy (o:=_) rfl (fun K hK=>?_) ?_
  ·have E101:=HFR.out.get (k:=101) rfl
   go_simp
   refine(Qkl ⟨#[]⟩ (Qqg j2) _).mono ?_;rintro e w1 ⟨rfl,hb⟩;have HO1:=hid (HO.out.bel hb);have GA1:=hid (GA.out.bel hb);have GB1:=hid (GB.out.bel hb);clear hb;dsimp only;refine goF hK (⟨GA1.out.2.2 j1 hj1,GB1.out.2.2 j2 hj2⟩) HFR hz rfl rfl fun a hHeld HFR=>?_
   (try simp only[Zj,Zx,Zk])
   (try simp only[Qj9,Nat.reduceLT,↓reduceIte] at HFR)
   exact KEY4TT a w1 pa pb j1 o j2 HFR ⟨hj1,ho0,ho1,hj2,HO1,GA1,GB1⟩
  exact Zf
 ·rintro a w0 pb j1 o j2 HFR ⟨hj1,ho0,ho1,hj2,HO,GB⟩;have hHeld:w0.cell? ⟨pb,j2,none⟩=some (.string (Qqg j2)):=GB.out.2.2 j2 hj2;have hj10:(0:Int)≤(j1:Int):=by omega
  have hj11:(j1:Int)<2:=by omega
  have hj20:(0:Int)≤(j2:Int):=by omega
  have hj21:(j2:Int)<2:=by omega
  have eo:IntKind.i64.wrap (9+o)=9+o:=Zp _ (by omega);refine Zc (rs:=[0,15]) (by kernel_rfl) (by simp) ?_;refine Zy (o:=_) rfl (fun K hK=>?_) ?_
  ·go_simp
   have hO:=HO.out.alloc (.cells #[.string ⟨#[110]⟩,.string ⟨#[109]⟩] 9);have hN:=NMC.new (lo:=Sx+1) (W:=w0) (t:=9) (by have:=HO.out.blt (b:=⟨Sx,#["0","",(),(),(),(),""],42⟩) (by simp);dsimp only at this;omega);have hB:=GB.out.alloc (.cells #[.string ⟨#[110]⟩,.string ⟨#[109]⟩] 9);generalize w0.heap.size=pa at hN⊢;generalize Qw w0 _=w1 at hO hN hB⊢;have HO1:=hid hO;have GA1:=hid hN;have GB1:=hid hB;clear hO hN hB;refine goF hK (GB1.out.2.2 j2 hj2) HFR hz rfl rfl fun a hHeld HFR=>?_;refine Qqy (S:=fun w'=>w'.cell? ⟨pb,j2,none⟩=some (.string (Qqg j2))) (S':=fun w'=>w'.cell? ⟨pa,j1,none⟩=some (.string (Qqg j1))∧w'.cell? ⟨pb,j2,none⟩=some (.string (Qqg j2))) (fun _ h=>h.2) _ _ _ _ ?_
   have hHeld:w1.cell? ⟨pa,j1,none⟩=some (.string (Qqg j1))∧w1.cell? ⟨pb,j2,none⟩=some (.string (Qqg j2)):=⟨GA1.out.2.2 j1 hj1,GB1.out.2.2 j2 hj2⟩
   have E89:=HFR.out.get (k:=89) rfl;have E91:=HFR.out.get (k:=91) rfl;refine tkF 3 HFR hz (by assumption) fun a HFR=>?_;clear E89 E91;have E92:=HFR.out.get (k:=92) rfl;refine tkF 4 HFR hz (by assumption) fun a HFR=>?_;clear E92
   (try simp only[Zj,Zx,Zk])
   (try simp only[Qj9,Nat.reduceLT,↓reduceIte] at HFR)
   exact KEY4TT a w1 pa pb j1 o j2 HFR ⟨hj1,ho0,ho1,hj2,HO1,GA1,GB1⟩
  refine Zy (o:=_) rfl (fun K hK=>?_) ?_
  ·have E103:=HFR.out.get (k:=103) rfl
   go_simp
   refine(Qqk T 3 _ (by omega) (by omega) HO.out.tape).mono ?_;rintro e w1 ⟨v,rfl,⟨d,rfl,hd0,hd1⟩,ht,hk⟩;have ed:IntKind.i64.wrap (1+d)=1+d:=Zp _ (by omega);have HO1:=hid (HO.out.step ht hk);have GB1:=hid (GB.out.step (by omega) hk);clear ht hk;dsimp only;refine goF hK (GB1.out.2.2 j2 hj2) HFR hz rfl rfl fun a hHeld HFR=>?_;have E104:=HFR.out.get (k:=104) rfl;refine tkF 16 HFR hz (by assumption) fun a HFR=>?_;clear E104
   (try simp only[Zj,Zx,Zk])
   (try simp only[Qj9,Nat.reduceLT,↓reduceIte] at HFR)
   exact KEY5FT a w1 pb j1 o j2 d HFR ⟨hj1,ho0,ho1,hj2,hd0,hd1,HO1,GB1⟩
  exact Zf
 ·rintro a w0 pa pb j1 o j2 HFR ⟨hj1,ho0,ho1,hj2,HO,GA,GB⟩
  have hHeld:w0.cell? ⟨pa,j1,none⟩=some (.string (Qqg j1))∧w0.cell? ⟨pb,j2,none⟩=some (.string (Qqg j2)):=⟨GA.out.2.2 j1 hj1,GB.out.2.2 j2 hj2⟩
  have hj10:(0:Int)≤(j1:Int):=by omega
  have hj11:(j1:Int)<2:=by omega
  have hj20:(0:Int)≤(j2:Int):=by omega
  have hj21:(j2:Int)<2:=by omega
  have eo:IntKind.i64.wrap (9+o)=9+o:=Zp _ (by omega);refine Zc (rs:=[15]) (by kernel_rfl) (by simp) ?_;refine Zy (o:=_) rfl (fun K hK=>?_) ?_
  ·have E103:=HFR.out.get (k:=103) rfl
   go_simp
   refine(Qqk T 3 _ (by omega) (by omega) HO.out.tape).mono ?_;rintro e w1 ⟨v,rfl,⟨d,rfl,hd0,hd1⟩,ht,hk⟩;have ed:IntKind.i64.wrap (1+d)=1+d:=Zp _ (by omega);have HO1:=hid (HO.out.step ht hk);have GA1:=hid (GA.out.step (by omega) hk);have GB1:=hid (GB.out.step (by omega) hk);clear ht hk;dsimp only;refine goF hK (⟨GA1.out.2.2 j1 hj1,GB1.out.2.2 j2 hj2⟩) HFR hz rfl rfl fun a hHeld HFR=>?_;have E104:=HFR.out.get (k:=104) rfl;refine tkF 16 HFR hz (by assumption) fun a HFR=>?_;clear E104
   (try simp only[Zj,Zx,Zk])
   (try simp only[Qj9,Nat.reduceLT,↓reduceIte] at HFR)
   exact KEY5TT a w1 pa pb j1 o j2 d HFR ⟨hj1,ho0,ho1,hj2,hd0,hd1,HO1,GA1,GB1⟩
  exact Zf
 ·rintro a w0 pb j1 o j2 d HFR ⟨hj1,ho0,ho1,hj2,hd0,hd1,HO,GB⟩;have hHeld:w0.cell? ⟨pb,j2,none⟩=some (.string (Qqg j2)):=GB.out.2.2 j2 hj2;have hj10:(0:Int)≤(j1:Int):=by omega
  have hj11:(j1:Int)<2:=by omega
  have hj20:(0:Int)≤(j2:Int):=by omega
  have hj21:(j2:Int)<2:=by omega
  have eo:IntKind.i64.wrap (9+o)=9+o:=Zp _ (by omega);have ed:IntKind.i64.wrap (1+d)=1+d:=Zp _ (by omega);refine Zc (rs:=[0,17]) (by kernel_rfl) (by simp) ?_;refine Zy (o:=_) rfl (fun K hK=>?_) ?_
  ·go_simp
   have hO:=HO.out.alloc (.cells #[.string ⟨#[110]⟩,.string ⟨#[109]⟩] 9);have hN:=NMC.new (lo:=Sx+1) (W:=w0) (t:=9) (by have:=HO.out.blt (b:=⟨Sx,#["0","",(),(),(),(),""],42⟩) (by simp);dsimp only at this;omega);have hB:=GB.out.alloc (.cells #[.string ⟨#[110]⟩,.string ⟨#[109]⟩] 9);generalize w0.heap.size=pa at hN⊢;generalize Qw w0 _=w1 at hO hN hB⊢;have HO1:=hid hO;have GA1:=hid hN;have GB1:=hid hB;clear hO hN hB;refine goF hK (GB1.out.2.2 j2 hj2) HFR hz rfl rfl fun a hHeld HFR=>?_;refine Qqy (S:=fun w'=>w'.cell? ⟨pb,j2,none⟩=some (.string (Qqg j2))) (S':=fun w'=>w'.cell? ⟨pa,j1,none⟩=some (.string (Qqg j1))∧w'.cell? ⟨pb,j2,none⟩=some (.string (Qqg j2))) (fun _ h=>h.2) _ _ _ _ ?_
   have hHeld:w1.cell? ⟨pa,j1,none⟩=some (.string (Qqg j1))∧w1.cell? ⟨pb,j2,none⟩=some (.string (Qqg j2)):=⟨GA1.out.2.2 j1 hj1,GB1.out.2.2 j2 hj2⟩
   have E89:=HFR.out.get (k:=89) rfl;have E91:=HFR.out.get (k:=91) rfl;refine tkF 3 HFR hz (by assumption) fun a HFR=>?_;clear E89 E91;have E92:=HFR.out.get (k:=92) rfl;refine tkF 4 HFR hz (by assumption) fun a HFR=>?_;clear E92
   (try simp only[Zj,Zx,Zk])
   (try simp only[Qj9,Nat.reduceLT,↓reduceIte] at HFR)
   exact KEY5TT a w1 pa pb j1 o j2 d HFR ⟨hj1,ho0,ho1,hj2,hd0,hd1,HO1,GA1,GB1⟩
  refine Zy (o:=_) rfl (fun K hK=>?_) ?_
  ·have E105:=HFR.out.get (k:=105) rfl
   go_simp
   refine(Qkh (1+d) (by omega) _).mono ?_;rintro e w1 ⟨vN,rfl,hv,hb⟩;have HV1:=hid (hv.weak (M':=Old (Sx+1)) fun k _ h=>by unfold Old at h⊢;have:=HO.out.blt (b:=⟨Sx,#["0","",(),(),(),(),""],42⟩) (by simp);dsimp only at this;omega);clear hv;have HO1:=hid (HO.out.bel hb);have GB1:=hid (GB.out.bel hb);clear hb;dsimp only;refine goF hK (GB1.out.2.2 j2 hj2) HFR hz rfl rfl fun a hHeld HFR=>?_
   (try simp only[Zj,Zx,Zk])
   (try simp only[Qj9,Nat.reduceLT,↓reduceIte] at HFR)
   exact KEY6FT a w1 pb j1 o j2 d vN HFR ⟨hj1,ho0,ho1,hj2,hd0,hd1,HO1,GB1,HV1⟩
  exact Zf
 ·rintro a w0 pa pb j1 o j2 d HFR ⟨hj1,ho0,ho1,hj2,hd0,hd1,HO,GA,GB⟩
  have hHeld:w0.cell? ⟨pa,j1,none⟩=some (.string (Qqg j1))∧w0.cell? ⟨pb,j2,none⟩=some (.string (Qqg j2)):=⟨GA.out.2.2 j1 hj1,GB.out.2.2 j2 hj2⟩
  have hj10:(0:Int)≤(j1:Int):=by omega
  have hj11:(j1:Int)<2:=by omega
  have hj20:(0:Int)≤(j2:Int):=by omega
  have hj21:(j2:Int)<2:=by omega
  have eo:IntKind.i64.wrap (9+o)=9+o:=Zp _ (by omega);have ed:IntKind.i64.wrap (1+d)=1+d:=Zp _ (by omega);refine Zc (rs:=[17]) (by kernel_rfl) (by simp) ?_;refine Zy (o:=_) rfl (fun K hK=>?_) ?_
  ·have E105:=HFR.out.get (k:=105) rfl
   go_simp
   refine(Qkh (1+d) (by omega) _).mono ?_;rintro e w1 ⟨vN,rfl,hv,hb⟩;have HV1:=hid (hv.weak (M':=Old (Sx+1)) fun k _ h=>by unfold Old at h⊢;have:=HO.out.blt (b:=⟨Sx,#["0","",(),(),(),(),""],42⟩) (by simp);dsimp only at this;omega);clear hv;have HO1:=hid (HO.out.bel hb);have GA1:=hid (GA.out.bel hb);have GB1:=hid (GB.out.bel hb);clear hb;dsimp only;refine goF hK (⟨GA1.out.2.2 j1 hj1,GB1.out.2.2 j2 hj2⟩) HFR hz rfl rfl fun a hHeld HFR=>?_
   (try simp only[Zj,Zx,Zk])
   (try simp only[Qj9,Nat.reduceLT,↓reduceIte] at HFR)
   exact KEY6TT a w1 pa pb j1 o j2 d vN HFR ⟨hj1,ho0,ho1,hj2,hd0,hd1,HO1,GA1,GB1,HV1⟩
  exact Zf
 ·rintro a w0 pb j1 o j2 d vN HFR ⟨hj1,ho0,ho1,hj2,hd0,hd1,HO,GB,HV⟩;have hHeld:w0.cell? ⟨pb,j2,none⟩=some (.string (Qqg j2)):=GB.out.2.2 j2 hj2;have hj10:(0:Int)≤(j1:Int):=by omega
  have hj11:(j1:Int)<2:=by omega
  have hj20:(0:Int)≤(j2:Int):=by omega
  have hj21:(j2:Int)<2:=by omega
  have eo:IntKind.i64.wrap (9+o)=9+o:=Zp _ (by omega);have ed:IntKind.i64.wrap (1+d)=1+d:=Zp _ (by omega);refine Zc (rs:=[0,18]) (by kernel_rfl) (by simp) ?_;refine Zy (o:=_) rfl (fun K hK=>?_) ?_
  ·go_simp
   have hO:=HO.out.alloc (.cells #[.string ⟨#[110]⟩,.string ⟨#[109]⟩] 9);have hN:=NMC.new (lo:=Sx+1) (W:=w0) (t:=9) (by have:=HO.out.blt (b:=⟨Sx,#["0","",(),(),(),(),""],42⟩) (by simp);dsimp only at this;omega);have hB:=GB.out.alloc (.cells #[.string ⟨#[110]⟩,.string ⟨#[109]⟩] 9);have hV:=ExV.keep HV.out ((Qqb.refl _ w0).alloc (.cells #[.string ⟨#[110]⟩,.string ⟨#[109]⟩] 9));generalize w0.heap.size=pa at hN⊢;generalize Qw w0 _=w1 at hO hN hB hV⊢;have HO1:=hid hO;have GA1:=hid hN;have GB1:=hid hB;have HV1:=hid hV;clear hO hN hB hV;refine goF hK (GB1.out.2.2 j2 hj2) HFR hz rfl rfl fun a hHeld HFR=>?_;refine Qqy (S:=fun w'=>w'.cell? ⟨pb,j2,none⟩=some (.string (Qqg j2))) (S':=fun w'=>w'.cell? ⟨pa,j1,none⟩=some (.string (Qqg j1))∧w'.cell? ⟨pb,j2,none⟩=some (.string (Qqg j2))) (fun _ h=>h.2) _ _ _ _ ?_
   have hHeld:w1.cell? ⟨pa,j1,none⟩=some (.string (Qqg j1))∧w1.cell? ⟨pb,j2,none⟩=some (.string (Qqg j2)):=⟨GA1.out.2.2 j1 hj1,GB1.out.2.2 j2 hj2⟩
   have E89:=HFR.out.get (k:=89) rfl;have E91:=HFR.out.get (k:=91) rfl;refine tkF 3 HFR hz (by assumption) fun a HFR=>?_;clear E89 E91;have E92:=HFR.out.get (k:=92) rfl;refine tkF 4 HFR hz (by assumption) fun a HFR=>?_;clear E92
   (try simp only[Zj,Zx,Zk])
   (try simp only[Qj9,Nat.reduceLT,↓reduceIte] at HFR)
   exact KEY6TT a w1 pa pb j1 o j2 d vN HFR ⟨hj1,ho0,ho1,hj2,hd0,hd1,HO1,GA1,GB1,HV1⟩
  refine Zy (o:=_) rfl (fun K hK=>?_) ?_
  ·have E96:=HFR.out.get (k:=96) rfl;have E102:=HFR.out.get (k:=102) rfl;have E106:=HFR.out.get (k:=106) rfl
   go_simp
   refine(Qvm (lo:=Sx+1) (a:=Qqp ⟨#[]⟩ (Qqg j2)) (9+o) ⟨none,0,none,0,rfl,Qqa.nil ..,Qqa.nil ..⟩ HV.out (by have:=HO.out.blt (b:=⟨Sx,#["0","",(),(),(),(),""],42⟩) (by simp);dsimp only at this;omega)).mono ?_;rintro e w1 ⟨v,rfl,hv,hb⟩;obtain⟨ab,abc,sb,sbc,rfl,hva,hvs⟩:=hv;have HV1:=hid (Ze hva hvs);clear hva hvs;have HO1:=hid (HO.out.bel hb);have GB1:=hid (GB.out.bel hb);clear hb;dsimp only;refine goF hK (GB1.out.2.2 j2 hj2) HFR hz rfl rfl fun a hHeld HFR=>?_
   (try simp only[Zj,Zx,Zk])
   (try simp only[Qj9,Nat.reduceLT,↓reduceIte] at HFR)
   exact KEY7FT a w1 pb j1 o j2 d vN ab sb abc sbc HFR ⟨hj1,ho0,ho1,hj2,hd0,hd1,HO1,GB1,HV1⟩
  exact Zf
 ·rintro a w0 pa pb j1 o j2 d vN HFR ⟨hj1,ho0,ho1,hj2,hd0,hd1,HO,GA,GB,HV⟩
  have hHeld:w0.cell? ⟨pa,j1,none⟩=some (.string (Qqg j1))∧w0.cell? ⟨pb,j2,none⟩=some (.string (Qqg j2)):=⟨GA.out.2.2 j1 hj1,GB.out.2.2 j2 hj2⟩
  have hj10:(0:Int)≤(j1:Int):=by omega
  have hj11:(j1:Int)<2:=by omega
  have hj20:(0:Int)≤(j2:Int):=by omega
  have hj21:(j2:Int)<2:=by omega
  have eo:IntKind.i64.wrap (9+o)=9+o:=Zp _ (by omega);have ed:IntKind.i64.wrap (1+d)=1+d:=Zp _ (by omega);refine Zc (rs:=[18]) (by kernel_rfl) (by simp) ?_;refine Zy (o:=_) rfl (fun K hK=>?_) ?_
  ·have E96:=HFR.out.get (k:=96) rfl;have E102:=HFR.out.get (k:=102) rfl;have E106:=HFR.out.get (k:=106) rfl
   go_simp
   refine(Qvm (lo:=Sx+1) (a:=Qqp ⟨#[]⟩ (Qqg j2)) (9+o) ⟨none,0,none,0,rfl,Qqa.nil ..,Qqa.nil ..⟩ HV.out (by have:=HO.out.blt (b:=⟨Sx,#["0","",(),(),(),(),""],42⟩) (by simp);dsimp only at this;omega)).mono ?_;rintro e w1 ⟨v,rfl,hv,hb⟩;obtain⟨ab,abc,sb,sbc,rfl,hva,hvs⟩:=hv;have HV1:=hid (Ze hva hvs);clear hva hvs;have HO1:=hid (HO.out.bel hb);have GA1:=hid (GA.out.bel hb);have GB1:=hid (GB.out.bel hb);clear hb;dsimp only;refine goF hK (⟨GA1.out.2.2 j1 hj1,GB1.out.2.2 j2 hj2⟩) HFR hz rfl rfl fun a hHeld HFR=>?_;have E93:=HFR.out.get (k:=93) rfl;have E107:=HFR.out.get (k:=107) rfl;refine tkF 19 HFR hz (by assumption) fun a HFR=>?_;clear E93 E107
   (try simp only[Zj,Zx,Zk])
   (try simp only[Qj9,Nat.reduceLT,↓reduceIte] at HFR)
   exact KEY7TT a w1 pa pb j1 o j2 d vN ab sb abc sbc HFR ⟨hj1,ho0,ho1,hj2,hd0,hd1,HO1,GA1,GB1,HV1⟩
  exact Zf
 ·rintro a w0 pb j1 o j2 d vN ab sb abc sbc HFR ⟨hj1,ho0,ho1,hj2,hd0,hd1,HO,GB,HV⟩;have hHeld:w0.cell? ⟨pb,j2,none⟩=some (.string (Qqg j2)):=GB.out.2.2 j2 hj2;have hj10:(0:Int)≤(j1:Int):=by omega
  have hj11:(j1:Int)<2:=by omega
  have hj20:(0:Int)≤(j2:Int):=by omega
  have hj21:(j2:Int)<2:=by omega
  have eo:IntKind.i64.wrap (9+o)=9+o:=Zp _ (by omega);have ed:IntKind.i64.wrap (1+d)=1+d:=Zp _ (by omega);refine Zc (rs:=[0]) (by kernel_rfl) (by simp) ?_;refine Zy (o:=_) rfl (fun K hK=>?_) ?_
  ·go_simp
   have hO:=HO.out.alloc (.cells #[.string ⟨#[110]⟩,.string ⟨#[109]⟩] 9);have hN:=NMC.new (lo:=Sx+1) (W:=w0) (t:=9) (by have:=HO.out.blt (b:=⟨Sx,#["0","",(),(),(),(),""],42⟩) (by simp);dsimp only at this;omega);have hB:=GB.out.alloc (.cells #[.string ⟨#[110]⟩,.string ⟨#[109]⟩] 9);have hV:=Qq8 ((Qqb.refl _ w0).alloc (.cells #[.string ⟨#[110]⟩,.string ⟨#[109]⟩] 9)) HV.out;generalize w0.heap.size=pa at hN⊢;generalize Qw w0 _=w1 at hO hN hB hV⊢;have HO1:=hid hO;have GA1:=hid hN;have GB1:=hid hB;have HV1:=hid hV;clear hO hN hB hV;refine goF hK (GB1.out.2.2 j2 hj2) HFR hz rfl rfl fun a hHeld HFR=>?_;refine Qqy (S:=fun w'=>w'.cell? ⟨pb,j2,none⟩=some (.string (Qqg j2))) (S':=fun w'=>w'.cell? ⟨pa,j1,none⟩=some (.string (Qqg j1))∧w'.cell? ⟨pb,j2,none⟩=some (.string (Qqg j2))) (fun _ h=>h.2) _ _ _ _ ?_
   have hHeld:w1.cell? ⟨pa,j1,none⟩=some (.string (Qqg j1))∧w1.cell? ⟨pb,j2,none⟩=some (.string (Qqg j2)):=⟨GA1.out.2.2 j1 hj1,GB1.out.2.2 j2 hj2⟩
   have E89:=HFR.out.get (k:=89) rfl;have E91:=HFR.out.get (k:=91) rfl;refine tkF 3 HFR hz (by assumption) fun a HFR=>?_;clear E89 E91;have E92:=HFR.out.get (k:=92) rfl;refine tkF 4 HFR hz (by assumption) fun a HFR=>?_;clear E92;have E93:=HFR.out.get (k:=93) rfl;have E107:=HFR.out.get (k:=107) rfl;refine tkF 19 HFR hz (by assumption) fun a HFR=>?_;clear E93 E107
   (try simp only[Zj,Zx,Zk])
   (try simp only[Qj9,Nat.reduceLT,↓reduceIte] at HFR)
   exact KEY7TT a w1 pa pb j1 o j2 d vN ab sb abc sbc HFR ⟨hj1,ho0,ho1,hj2,hd0,hd1,HO1,GA1,GB1,HV1⟩
  exact Zf
 ·rintro a w0 pa pb j1 o j2 d vN ab sb abc sbc HFR ⟨hj1,ho0,ho1,hj2,hd0,hd1,HO,GA,GB,HV⟩
  have hHeld:w0.cell? ⟨pa,j1,none⟩=some (.string (Qqg j1))∧w0.cell? ⟨pb,j2,none⟩=some (.string (Qqg j2)):=⟨GA.out.2.2 j1 hj1,GB.out.2.2 j2 hj2⟩
  have hj10:(0:Int)≤(j1:Int):=by omega
  have hj11:(j1:Int)<2:=by omega
  have hj20:(0:Int)≤(j2:Int):=by omega
  have hj21:(j2:Int)<2:=by omega
  have eo:IntKind.i64.wrap (9+o)=9+o:=Zp _ (by omega);have ed:IntKind.i64.wrap (1+d)=1+d:=Zp _ (by omega);refine Zc (rs:=[20]) (by kernel_rfl) (by simp) ?_;refine Zy (o:=_) rfl (fun K hK=>?_) ?_
  ·have E108:=HFR.out.get (k:=108) rfl
   go_simp
   have hS:=Jzm (M:=Old (Sx+1)) (W:=w0) (e:=155) (nm:=Qqg j1) (x:=(Qqc (9+o) (Qqp ⟨#[]⟩ (Qqg j2)) (Qqi (1+d)))) (a:=ab) (s:=sb) (ac:=abc) (sc:=sbc) (g:=w0.heap.size) rfl (by unfold Old;have:=HO.out.blt (b:=⟨Sx,#["0","",(),(),(),(),""],42⟩) (by simp);dsimp only at this;omega) HV.out;have hO:=HO.out.alloc (.cells #[(Qqg j1),.int .i64 (Qqc (9+o) (Qqp ⟨#[]⟩ (Qqg j2)) (Qqi (1+d))).kind,.int .i64 (Qqc (9+o) (Qqp ⟨#[]⟩ (Qqg j2)) (Qqi (1+d))).op,.bool (Qqc (9+o) (Qqp ⟨#[]⟩ (Qqg j2)) (Qqi (1+d))).no,.int .i64 (Qqc (9+o) (Qqp ⟨#[]⟩ (Qqg j2)) (Qqi (1+d))).val.kind,.int .i64 (Qqc (9+o) (Qqp ⟨#[]⟩ (Qqg j2)) (Qqi (1+d))).val.int,.string (Qqc (9+o) (Qqp ⟨#[]⟩ (Qqg j2)) (Qqi (1+d))).val.text,.string (Qqc (9+o) (Qqp ⟨#[]⟩ (Qqg j2)) (Qqi (1+d))).table,.string (Qqc (9+o) (Qqp ⟨#[]⟩ (Qqg j2)) (Qqi (1+d))).name,.slice ab (Qqc (9+o) (Qqp ⟨#[]⟩ (Qqg j2)) (Qqi (1+d))).args.length abc,.slice sb (Qqc (9+o) (Qqp ⟨#[]⟩ (Qqg j2)) (Qqi (1+d))).sub.length sbc] 155);have hA:=GA.out.alloc (.cells #[(Qqg j1),.int .i64 (Qqc (9+o) (Qqp ⟨#[]⟩ (Qqg j2)) (Qqi (1+d))).kind,.int .i64 (Qqc (9+o) (Qqp ⟨#[]⟩ (Qqg j2)) (Qqi (1+d))).op,.bool (Qqc (9+o) (Qqp ⟨#[]⟩ (Qqg j2)) (Qqi (1+d))).no,.int .i64 (Qqc (9+o) (Qqp ⟨#[]⟩ (Qqg j2)) (Qqi (1+d))).val.kind,.int .i64 (Qqc (9+o) (Qqp ⟨#[]⟩ (Qqg j2)) (Qqi (1+d))).val.int,.string (Qqc (9+o) (Qqp ⟨#[]⟩ (Qqg j2)) (Qqi (1+d))).val.text,.string (Qqc (9+o) (Qqp ⟨#[]⟩ (Qqg j2)) (Qqi (1+d))).table,.string (Qqc (9+o) (Qqp ⟨#[]⟩ (Qqg j2)) (Qqi (1+d))).name,.slice ab (Qqc (9+o) (Qqp ⟨#[]⟩ (Qqg j2)) (Qqi (1+d))).args.length abc,.slice sb (Qqc (9+o) (Qqp ⟨#[]⟩ (Qqg j2)) (Qqi (1+d))).sub.length sbc] 155);have hB:=GB.out.alloc (.cells #[(Qqg j1),.int .i64 (Qqc (9+o) (Qqp ⟨#[]⟩ (Qqg j2)) (Qqi (1+d))).kind,.int .i64 (Qqc (9+o) (Qqp ⟨#[]⟩ (Qqg j2)) (Qqi (1+d))).op,.bool (Qqc (9+o) (Qqp ⟨#[]⟩ (Qqg j2)) (Qqi (1+d))).no,.int .i64 (Qqc (9+o) (Qqp ⟨#[]⟩ (Qqg j2)) (Qqi (1+d))).val.kind,.int .i64 (Qqc (9+o) (Qqp ⟨#[]⟩ (Qqg j2)) (Qqi (1+d))).val.int,.string (Qqc (9+o) (Qqp ⟨#[]⟩ (Qqg j2)) (Qqi (1+d))).val.text,.string (Qqc (9+o) (Qqp ⟨#[]⟩ (Qqg j2)) (Qqi (1+d))).table,.string (Qqc (9+o) (Qqp ⟨#[]⟩ (Qqg j2)) (Qqi (1+d))).name,.slice ab (Qqc (9+o) (Qqp ⟨#[]⟩ (Qqg j2)) (Qqi (1+d))).args.length abc,.slice sb (Qqc (9+o) (Qqp ⟨#[]⟩ (Qqg j2)) (Qqi (1+d))).sub.length sbc] 155);generalize Qw w0 _=w1 at hS hO hA hB⊢;generalize w0.heap.size=gs at hS⊢;have HO1:=hid hO;have GA1:=hid hA;have GB1:=hid hB;have HS1:=hid hS;clear hS hO hA hB;refine goF hK (⟨GA1.out.2.2 j1 hj1,GB1.out.2.2 j2 hj2⟩) HFR hz rfl rfl fun a hHeld HFR=>?_;clear E108;have E109:=HFR.out.get (k:=109) rfl;refine tkF 21 HFR hz (by assumption) fun a HFR=>?_;clear E109;obtain⟨r0,r1,r2,r3,r4,r5,r6,rf,rz⟩:=Qze (HO1.out.blk (b:=⟨Sx,#["0","",(),(),(),(),""],42⟩) (by simp));dsimp only at r0 r1 r2 r3 r4 r5 r6 rf rz;have F0:=rf 0;have F1:=rf 1;have F2:=rf 2;have F3:=rf 3;have F4:=rf 4;have F5:=rf 5;have F6:=rf 6;clear rf;have E8:=HFR.out.off B8 rfl;have E110:=HFR.out.get (k:=110) rfl;have hA:=GA1.out.sets (g:=Sx) (by omega) ["2",.string ⟨#[117]⟩,(),(),Qv (some ⟨gs,0,none⟩) 1 1,(),""];have hB:=GB1.out.sets (g:=Sx) (by omega) ["2",.string ⟨#[117]⟩,(),(),Qv (some ⟨gs,0,none⟩) 1 1,(),""];dsimp only[World.setCells] at hA hB;refine Zc (rs:=[22]) (by kernel_rfl) (by simp) ?_;refine Zy (o:=_) rfl (fun K hK=>?_) ?_
   ·go_simp
    refine hK.out _ _ (⟨hA.2.2 j1 hj1,hB.2.2 j2 hj2⟩) (fun hHeld=>?_);clear hA hB hK K;refine Kz (by kernel_rfl) ?_ _;refine Jd ?_
    (try simp only[Qj9,Nat.reduceLT,↓reduceIte] at HFR)
    (try simp only[Act.put])
    rw[HFR.out.eqA (n:=187) rfl hz rfl];simp only[List.foldl_cons,List.foldl_nil];have ks:Qqb (Old (Sx+1)) w1 (w1.setCells Sx 0 ["2",.string ⟨#[117]⟩,(),(),Qv (some ⟨gs,0,none⟩) 1 1,(),""]):=(Qqj ["2",.string ⟨#[117]⟩,(),(),Qv (some ⟨gs,0,none⟩) 1 1,(),""] 0 w1).weak fun k _ hk=>by unfold At at hk;unfold Old;omega
    have hC7:=(HO1.out.puts 0 ["2",.string ⟨#[117]⟩,(),(),Qv (some ⟨gs,0,none⟩) 1 1,(),""] (fun b hb=>hL1 b hb) (c':=#[.int .i64 2,.string ⟨#[117]⟩,Qv none 0 0,Qv none 0 0,Qv (some ⟨gs,0,none⟩) 1 1,Qv none 0 0,.string ⟨#[]⟩]) rfl)
    have hS7:=Qzb.keep ks HS1.out;dsimp only[World.setCells] at hC7 hS7;exact hQ _ _ _ _ _ _ _ _ _ _ _ _ _ _ _ _ _ _ _ _ _ _ _ gs j1 j2 o d hj1 hj2 ho0 ho1 hd0 hd1 hC7 hS7
   exact Zf
  exact Zf
end Go.Proofs.YtgepbohjmgaojaaGreatDoor
