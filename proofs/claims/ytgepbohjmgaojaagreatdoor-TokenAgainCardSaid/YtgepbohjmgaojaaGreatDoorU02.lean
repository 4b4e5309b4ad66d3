/- The tape of choices: the contracts of Mod, Next, Bool and New. The schemas of the tables log, t and u, and the names: contracts of Name, Schemas, Schema. -/
import Derived.Test.YtgepbohjmgaojaaGreatDoorU01
import Derived.Test.YtgepbohjmgaojaaGreatDoorU01
import Derived.BigQuiet
import Derived.Test.YtgepbohjmgaojaaGreatDoorCards
import Derived.Test.YtgepbohjmgaojaaGreatDoorTie
import Derived.Deep.DeepHandedRow
import Derived.Lib.Small
import Derived.Lib.Replace
import Derived.Lib.ItoaMem
import Derived.Shelf.Small.Strs
set_option linter.all false
set_option maxHeartbeats 1000000
namespace Go.Proofs.YtgepbohjmgaojaaGreatDoor
open Value renaming slice→Qv
open Go.Proofs.Tryz
open Lib(hid)
open Go.RowKit
theorem Uzy(v n:Int)(h1:1≤n)(h:v.tmod n<0):v.tmod n+n=v%n:=by
 rw[Int.tmod_eq_emod] at h⊢
 split at h
 ·have:=Int.emod_nonneg v (show n≠0 by omega);omega
 ·rw[if_neg (by assumption)];have:(n.natAbs:Int)=n:=by omega
  omega
theorem Uzz(v n:Int)(h1:1≤n)(h:¬v.tmod n<0):v.tmod n=v%n:=by
 rw[Int.tmod_eq_emod] at h⊢
 split at h
 ·rw[if_pos (by assumption)];omega
 ·have:=Int.emod_lt_of_pos v (show 0<n by omega);have e:(n.natAbs:Int)=n:=by omega
  omega
theorem Yw2(v n:Int)(w:World)(h1:1≤n)(h2:n≤1000000):
 Calls prog 9 #[v,n] w fun e w'=>e=.returned (.int .i64 (v%n))∧w=w':=by
 by_cases h:v.tmod n<0
 ·have hb:=Int.lt_tmod_of_pos v (show 0<n by omega);have H:=hid (Uzy v n h1 h);go_enter func9,ntmps9
  go_wp2
  go_ret;rw[←H.out];exact⟨rfl,rfl⟩
 ·have H:=hid (Uzz v n h1 h);go_enter func9,ntmps9
  go_wp2
  go_ret;rw[←H.out];exact⟨rfl,rfl⟩
def Qql(T:Nat)(w:World):Prop:=
 ∃(a:Option Addr) (n cap k:Nat),w.cell? ⟨T,0,none⟩=some (Qv a n cap)∧w.cell? ⟨T,1,none⟩=some (.int .i64 k)∧w.frozen? ⟨T,1,none⟩=false∧k≤n∧n≤500∧
  (n=0∨∃b o,a=some ⟨b,o,none⟩∧b<T∧∀i,i<n→∃z:Int,w.cell? ⟨b,o+i,none⟩=some (.int .i64 z))
theorem Qql.lt{T:Nat}{w:World}(h:Qql T w):T<w.heap.size:=by
 obtain⟨a,n,cap,k,h1,_⟩:=h;exact Za _ _ h1
theorem Qql.keep{M:Nat→Prop}{T:Nat}{w w':World}(h:Qql T w)(hb:Qqb M w w')(hM:∀k,k≤T→¬M k):Qql T w':=by
 have hT:=h.lt;obtain⟨a,n,cap,k,h1,h2,h3,h4,h5,h6⟩:=h;refine⟨a,n,cap,k,(hb.cell hT (hM T (Zz _))).trans h1,(hb.cell hT (hM T (Zz _))).trans h2,(World.frozen?_of_block (hb.block T hT (hM T (Zz _)))).trans h3,h4,h5,?_⟩
 rcases h6 with h6|⟨b,o,ha,hbT,hi⟩
 ·exact .inl h6
 ·exact .inr ⟨b,o,ha,hbT,fun i hin=>let⟨z,hz⟩:=hi i hin;⟨z,(hb.cell (Za _ _ hz) (hM b (by omega))).trans hz⟩⟩
theorem Qql.bel{T:Nat}{w w':World}(h:Qql T w)(hb:Below w.heap.size w w'):Qql T w':=
 h.keep (M:=fun _=>False) (.bel hb) fun _ _=>id
theorem Qql.alloc{T:Nat}{w:World}(h:Qql T w)(o:Obj):Qql T (w.alloc o):=h.bel ((Below.refl _ _).alloc (Zz _) o)
theorem Qql.drewN{T:Nat}{w:World}(h:Qql T w)(n:Nat):Qql T (w.drewN n):=h
theorem Qql.drew{T:Nat}{w:World}(h:Qql T w):Qql T w.drew:=h
theorem Uqs(p n:Int)(T:Nat)(a:Option Addr)(l c:Nat)(w:World)
 (hl:w.cell? ⟨T,0,none⟩=some (Qv a l c))(hp:w.cell? ⟨T,1,none⟩=some (.int .i64 p))(hlp:(l:Int)≤p):
  Calls prog 12 #[.pointer (some ⟨T,0,none⟩),n] w fun e w'=>e=.returned (.int .i64 0)∧∃k,w.drewN k=w':=by
 go_enter func12,ntmps12
 go_wp2
 go_quiet (fail)
 go_wp2
 go_ret;exact⟨rfl,_,rfl⟩
theorem Uqt(n z:Int)(T b o l c k:Nat)(w:World)(h1:1≤n)(h2:n≤1000000)(hbT:b<T)
 (hl:w.cell? ⟨T,0,none⟩=some (Qv (some ⟨b,o,none⟩) l c))(hp:w.cell? ⟨T,1,none⟩=some (.int .i64 k))(hf:w.frozen? ⟨T,1,none⟩=false)(hlp:k<l)(hlm:l≤500)
 (hz:w.cell? ⟨b,o+k,none⟩=some (.int .i64 z)):
  Calls prog 12 #[.pointer (some ⟨T,0,none⟩),n] w fun e w'=>e=.returned (.int .i64 (z%n))∧∃i j,((w.drewN i).setCell ⟨T,1,none⟩ (.int .i64 ((k+1:Nat):Int))).drewN j=w':=by
 go_enter func12,ntmps12
 go_wp2
 go_quiet (fail)
 go_wp2
 go_quiet ((go_at_call 9;exact Calls.quiet_of_same ((Yw2 _ _ _ (by omega) (by omega)).mono fun _ _ h=>⟨h.1,h.2.symm⟩)))
 go_wp2
 go_ret;exact⟨rfl,_,_,rfl⟩
def Qjp(T:Nat)(w:World)(Q:Value→World→Prop)(e:Ending)(w':World):Prop:=∃v,e=.returned v∧Q v w'∧Qql T w'∧Qqb (At T) w w'
def Kjv(n:Int)(v:Value)(_:World):Prop:=∃r:Int,v=.int .i64 r∧0≤r∧r<n
theorem Qqk(T:Nat)(n:Int)(w:World)(h1:1≤n)(h2:n≤1000000)(ht:Qql T w):
 Calls prog 12 #[.pointer (some ⟨T,0,none⟩),n] w (Qjp T w (Kjv n)):=by
 have ht0:=ht;obtain⟨a,l,c,k,g1,g2,g3,g4,g5,g6⟩:=ht;by_cases hk:l≤k
 ·refine(Uqs k n T a l c w g1 g2 (by omega)).mono ?_;rintro e w' ⟨rfl,i,rfl⟩;exact⟨_,rfl,⟨0,rfl,by omega,by omega⟩,ht0,(Qqb.refl _ _).drewN i⟩
 ·rcases g6 with g6|⟨b,o,rfl,hbT,hz⟩
  ·omega
  ·obtain⟨z,hz0⟩:=hz k (by omega);refine(Uqt n z T b o l c k w h1 h2 hbT g1 g2 g3 (by omega) g5 hz0).mono ?_;rintro e w' ⟨rfl,i,j,rfl⟩;refine⟨_,rfl,⟨_,rfl,Int.emod_nonneg z (by omega),Int.emod_lt_of_pos z (by omega)⟩,?_,((((Qqb.refl (At T) _).drewN i).setCell (p:=⟨T,1,none⟩) (fun _=>rfl) _).drewN j)⟩;have hT:=ht0.lt
   have hne:∀b' o',b'≠T∨o'≠1→(((w.drewN i).setCell ⟨T,1,none⟩ (.int .i64 ((k+1:Nat):Int))).drewN j).cell? ⟨b',o',none⟩=w.cell? ⟨b',o',none⟩:=by
    intro b' o' h;show((w.drewN i).setCell ⟨T,1,none⟩ (.int .i64 ((k+1:Nat):Int))).cell? ⟨b',o',none⟩=_;rw[World.cell?_setCell_other]
    ·rfl
    ·simp;omega
   refine⟨_,l,c,k+1,(hne T 0 (.inr (by omega))).trans g1,?_,?_,by omega,g5,.inr ⟨b,o,rfl,hbT,fun i' hi'=>?_⟩⟩
   ·exact World.cell?_setCell_same _ _ _ g2
   ·exact(World.frozen?_setCell _ _ _ _).trans g3
   ·obtain⟨z',hz'⟩:=hz i' hi';exact⟨z',(hne b _ (.inl (by omega))).trans hz'⟩
def Uz0(v:Value)(_:World):Prop:=∃r:Bool,v=.bool r
theorem Qq2(T:Nat)(n:Int)(w:World)(h1:1≤n)(h2:n≤1000000)(ht:Qql T w):
 Calls prog 56 #[.pointer (some ⟨T,0,none⟩),n] w (Qjp T w Uz0):=by
 have H:=hid ht;clear ht;go_enter func56,ntmps56;go_wp2_with fail
 refine(Qqk T n w h1 h2 H.out).mono ?_;rintro e w' ⟨v,rfl,⟨r,rfl,hr0,hr1⟩,ht,hk⟩;have H2:=hid ht;have H3:=hid hk;clear ht hk;go_wp2_with fail
 go_ret;exact⟨_,rfl,⟨_,rfl⟩,H2.out,H3.out⟩
def Jz4(w:World)(v:Value):Prop:=∃(a:Option Addr) (n cap:Nat),v=Qv a n cap∧n≤maxLen∧n≤cap∧
    (n=0∨∃b o,a=some ⟨b,o,none⟩∧b<w.heap.size∧∀i,i<n→∃z:Int,w.cell? ⟨b,o+i,none⟩=some (.int .i64 z))
def Uv5(w:World)(e:Ending)(w':World):Prop:=e=.returned (.pointer (some ⟨w.heap.size,0,none⟩))∧Qql w.heap.size w'∧Below w.heap.size w w'
theorem Uv6(v:Value)(w:World)(h:Jz4 w v):Calls prog 5 #[v] w (Uv5 w):=by
 obtain⟨a,n,cap,rfl,hm,hnc,hi⟩:=h;unfold maxLen at hm;have H:=hid hi;clear hi;by_cases h5:500<n
 ·have h6:500≤cap:=by omega
  go_enter func5,ntmps5
  go_wp2
  go_ret;refine⟨rfl,⟨a,500,cap,0,?_,?_,?_,by omega,by omega,?_⟩,(Below.refl _ _).alloc (Zz _) _⟩
  ·simp
  ·simp
  ·simp
  ·rcases H.out with h|⟨b,o,rfl,hb,hz⟩
   ·omega
   ·refine .inr ⟨b,o,rfl,hb,fun i hi=>?_⟩;obtain⟨z,hz⟩:=hz i (by omega);exact⟨z,by rw[Js _ _ _ hb];exact hz⟩
 ·go_enter func5,ntmps5
  go_wp2
  go_ret;refine⟨rfl,⟨a,n,cap,0,?_,?_,?_,by omega,by omega,?_⟩,(Below.refl _ _).alloc (Zz _) _⟩
  ·simp
  ·simp
  ·simp
  ·rcases H.out with h|⟨b,o,rfl,hb,hz⟩
   ·exact .inl h
   ·refine .inr ⟨b,o,rfl,hb,fun i hi=>?_⟩;obtain⟨z,hz⟩:=hz i hi;exact⟨z,by rw[Js _ _ _ hb];exact hz⟩
def bs(l:List UInt8):ByteArray:=⟨l.toArray⟩
def Uz1:List (List UInt8):=[[105,100],[110],[109],[98],[115],[120],[97,49,95],[97,98,99,100,101,102,103,104,105,106,107,108]]
def Qjf(i:Nat):ByteArray:=bs (Uz1.getD i [])
def Qkj(T:Nat)(w:World):Prop:=5<T∧∀i:Nat,i<8→w.cell? ⟨5,i,none⟩=some (.string (Qjf i))
theorem Qkj.keep{M:Nat→Prop}{T:Nat}{w w':World}(h:Qkj T w)(k:Qqb M w w')(hM:∀k,k<T→¬M k):Qkj T w':=by
 refine⟨h.1,fun i hi=>?_⟩;have:=h.2 i hi;rw[k.cell (Za _ _ this) (hM _ h.1)];exact this
theorem Qkj.at{T:Nat}{w w':World}(h:Qkj T w)(k:Qqb (At T) w w'):Qkj T w':=h.keep k fun k hk h=>by unfold At at h;omega
def Jxr(n:List UInt8)(t:Int)(nn k:Bool):Col:=⟨bs n,t,nn,k⟩
def Qvg:Sch:=⟨bs [108,111,103],[Jxr [110] 1 false false,Jxr [115] 3 false false]⟩
def Jzo:Sch:=⟨bs [116],[Jxr [105,100] 1 true true,Jxr [110] 1 false false,Jxr [98] 2 false false,Jxr [115] 3 false false]⟩
def Jzp:Sch:=⟨bs [117],[Jxr [105,100] 1 true true,Jxr [110] 1 true false,Jxr [109] 1 false false]⟩
def Qq3:List Sch:=[Qvg,Jzo,Jzp]
def Uz2(v:Value)(_:World):Prop:=∃i:Nat,i<8∧v=.string (Qjf i)
theorem Jwd(T:Nat)(w:World)(ht:Qql T w)(hn:Qkj T w):
 Calls prog 58 #[.pointer (some ⟨T,0,none⟩)] w (Qjp T w Uz2):=by
 have H:=hid ht;have HN:=hid hn;clear ht hn;go_enter func58,ntmps58;go_wp2_with fail
 refine(Qqk T 8 w (by omega) (by omega) H.out).mono ?_;rintro e w' ⟨v,rfl,⟨r,rfl,hr0,hr1⟩,ht,hk⟩;obtain⟨i,rfl⟩:=Zt hr0;have hi:i<8:=by omega
 have hc:=(HN.out.at hk).2 i hi;have H2:=hid ht;have H3:=hid hk;clear ht hk;go_wp2_with fail
 go_ret;exact⟨_,rfl,⟨i,hi,rfl⟩,H2.out,H3.out⟩
def Uz3(w:World)(e:Ending)(w':World):Prop:=∃v,e=.returned v∧Qjt (Out w.heap.size w'.heap.size) w' v Qq3∧Below w.heap.size w w'
theorem Qyp(w:World):Calls prog 97 #[] w (Uz3 w):=by
 go_enter func97,ntmps97
 go_wp2
 go_ret;refine⟨_,rfl,?_,by go_grown⟩;simp only[Zn];have hM:∀j,j<4→¬Out w.heap.size (w.heap.size+1+1+1+1) (w.heap.size+j):=fun j hj=>by unfold Out;omega
 generalize Out w.heap.size (w.heap.size+1+1+1+1)=M at hM⊢;show Qjt M _ (Qv (some ⟨w.heap.size+1+1+1,0,none⟩) 3 3) Qq3
 refine Qqa.new [[Qvg.name,Qv (some ⟨w.heap.size,0,none⟩) 2 2],[Jzo.name,Qv (some ⟨w.heap.size+1,0,none⟩) 4 4],[Jzp.name,Qv (some ⟨w.heap.size+1+1,0,none⟩) 3 3]]
  (by simp) (by simp only[Zn];exact hM 3 (by omega)) rfl (by simp) rfl (by decide) (by unfold maxLen;omega) rfl ?_
 intro i x cs hi hc;have hi3:i<3:=(Yq.1 hi).1
 match i,hi3 with
 |0,_=>
  obtain rfl:Qvg=x:=by simpa[Qq3] using hi
  obtain rfl:[_,_]=cs:=by simpa using hc
  refine⟨_,rfl,Qq1.keep ?_ ((((Qqb.refl M (w.alloc (.cells _ _))).alloc _).alloc _).alloc _)⟩;exact Qy4 Qvg.cols rfl (hM 0 (by omega)) rfl rfl (by decide) (by unfold maxLen;omega)
 |1,_=>
  obtain rfl:Jzo=x:=by simpa[Qq3] using hi
  obtain rfl:[_,_]=cs:=by simpa using hc
  refine⟨_,rfl,Qq1.keep ?_ (((Qqb.refl M ((w.alloc _).alloc (.cells _ _))).alloc _).alloc _)⟩;exact Qy4 Jzo.cols (by simp) (by simp only[Zn];exact hM 1 (by omega)) rfl rfl (by decide) (by unfold maxLen;omega)
 |2,_=>
  obtain rfl:Jzp=x:=by simpa[Qq3] using hi
  obtain rfl:[_,_]=cs:=by simpa using hc
  refine⟨_,rfl,Qq1.keep ?_ ((Qqb.refl M (((w.alloc _).alloc _).alloc (.cells _ _))).alloc _)⟩;exact Qy4 Jzp.cols (by simp) (by simp only[Zn];exact hM 2 (by omega)) rfl rfl (by decide) (by unfold maxLen;omega)
def Jvx(s:Sch)(w:World)(e:Ending)(w':World):Prop:=∃vc,e=.returned (.agg #[s.name,vc])∧Qq1 (Out w.heap.size w'.heap.size) w' vc s.cols∧Below w.heap.size w w'
theorem Jz5{M:Nat→Prop}{w:World}{v:Value}(h:Qjt M w v Qq3):∃b o cap vc0 vc1 vc2,v=Qv (some ⟨b,o,none⟩) 3 cap∧b<w.heap.size∧Qq1 M w vc0 Qvg.cols∧Qq1 M w vc1 Jzo.cols∧Qq1 M w vc2 Jzp.cols∧
 w.cell? ⟨b,o,none⟩=some (.string ⟨#[108,111,103]⟩)∧w.cell? ⟨b,o+1,none⟩=some vc0∧w.cell? ⟨b,o+2,none⟩=some (.string ⟨#[116]⟩)∧w.cell? ⟨b,o+2+1,none⟩=some vc1∧
 w.cell? ⟨b,o+4,none⟩=some (.string ⟨#[117]⟩)∧w.cell? ⟨b,o+4+1,none⟩=some vc2:=by
 rcases h.open with⟨_,h⟩|⟨b,o,cap,rfl,hbT,hbs,hl,hm,hx⟩
 ·simp[Qq3] at h
 ·obtain⟨cs0,⟨vc0,rfl,hc0⟩,_,g0⟩:=hx 0 Qvg rfl;obtain⟨cs1,⟨vc1,rfl,hc1⟩,_,g1⟩:=hx 1 Jzo rfl;obtain⟨cs2,⟨vc2,rfl,hc2⟩,_,g2⟩:=hx 2 Jzp rfl;rw[Jr,Je] at g0;exact⟨b,o,cap,vc0,vc1,vc2,rfl,hbs,hc0,hc1,hc2,g0.c2.1,g0.c2.2,g1.c2.1,g1.c2.2,g2.c2.1,g2.c2.2⟩
theorem Uz4(w:World):Calls prog 90 #[.string ⟨#[116]⟩] w (Jvx Jzo w):=by
 go_enter func90,ntmps90;go_wp2_with fail
 refine(Qyp _).mono ?_;rintro e w1 ⟨v,rfl,hs,hb⟩;obtain⟨b,o,cap,vc0,vc1,vc2,rfl,hbs,hc0,hc1,hc2,a0,a1,a2,a3,a4,a5⟩:=Jz5 hs;obtain⟨x0,y0,rfl,_⟩:=hc0.shape;obtain⟨x1,y1,rfl,_⟩:=hc1.shape;obtain⟨x2,y2,rfl,_⟩:=hc2.shape;obtain⟨k1,k2,k3⟩:=Jq2 hb;simp only[Zn] at k1 k2 k3;have k4:w.heap.size<w1.heap.size:=by omega
 have HB:=hid hb;have H1:=hid hc1;clear hs hb hc0 hc1 hc2;go_wp2_with fail
 go_rounds 3
 refine Zh (v:=.agg #[.string ⟨#[116]⟩,Qv x1 Jzo.cols.length y1]) (by simp[results,results90,go_sem,k1,k4]) rfl ⟨_,rfl,?_,?_⟩
 ·refine Qq1.weak (M:=Out (w.heap.size+1) w1.heap.size) ?_ (Qq1.keep (w:=w1) (by simpa using H1.out) ?_)
  ·intro k hk h;unfold Out at h⊢;simp at h hk;omega
  ·refine Qqb.alloc (Qqb.alloc (Qqb.setCell (Qqb.setCell (Qqb.refl _ _) ?_ _) ?_ _) _) _<;>(intro _;unfold Out;simp)
 ·have:=HB.out;have h0:Below w.heap.size w w1:=((Below.refl _ w).alloc (Zz _) _).trans (this.mono (by simp));clear k1 k2
  go_grown
theorem Uz5(w:World):Calls prog 90 #[.string ⟨#[117]⟩] w (Jvx Jzp w):=by
 go_enter func90,ntmps90;go_wp2_with fail
 refine(Qyp _).mono ?_;rintro e w1 ⟨v,rfl,hs,hb⟩;obtain⟨b,o,cap,vc0,vc1,vc2,rfl,hbs,hc0,hc1,hc2,a0,a1,a2,a3,a4,a5⟩:=Jz5 hs;obtain⟨x0,y0,rfl,_⟩:=hc0.shape;obtain⟨x1,y1,rfl,_⟩:=hc1.shape;obtain⟨x2,y2,rfl,_⟩:=hc2.shape;obtain⟨k1,k2,k3⟩:=Jq2 hb;simp only[Zn] at k1 k2 k3;have k4:w.heap.size<w1.heap.size:=by omega
 have k5:w.heap.size<w1.heap.size+1:=by omega
 have k6:w.heap.size<w1.heap.size+1+1:=by omega
 have HB:=hid hb;have H1:=hid hc2;clear hs hb hc0 hc1 hc2;go_wp2_with fail
 go_rounds 3
 refine Zh (v:=.agg #[.string ⟨#[117]⟩,Qv x2 Jzp.cols.length y2]) (by simp[results,results90,go_sem,k1,k4,k5,k6]) rfl ⟨_,rfl,?_,?_⟩
 ·refine Qq1.weak (M:=Out (w.heap.size+1) w1.heap.size) ?_ (Qq1.keep (w:=w1) (by simpa using H1.out) ?_)
  ·intro k hk h;unfold Out at h⊢;simp at h hk;omega
  ·refine Qqb.alloc (Qqb.alloc (Qqb.alloc (Qqb.setCell (Qqb.setCell (Qqb.refl _ _) ?_ _) ?_ _) _) _) _<;>(intro _;unfold Out;simp)
 ·have:=HB.out;have h0:Below w.heap.size w w1:=((Below.refl _ w).alloc (Zz _) _).trans (this.mono (by simp));clear k1 k2
  go_grown
def Yj0:Option Nat→Int|some i=>i|none=>-1
theorem Jqm{α:Type}{p:α→Bool}{xs:List α}{k:Nat}{x:α}(hx:xs[k]?=some x)(hp:p x=true)(hn:∀i y,i<k→xs[i]?=some y→p y=false):xs.findIdx? p=some k:=by
 rw[Kv];obtain⟨hlt,rfl⟩:=Yq.1 hx;exact⟨hlt,hp,fun j hj=>by simp[hn j _ hj (Zg (by omega))]⟩
theorem Jxs{α:Type}{p:α→Bool}{xs:List α}(hn:∀i y,i<xs.length→xs[i]?=some y→p y=false):xs.findIdx? p=none:=by
 rw[List.findIdx?_eq_none_iff];intro y hy;obtain⟨i,hi,rfl⟩:=Yt.1 hy;exact hn i _ hi (Zg hi)
def Jjf(c:ByteArray)(x:Col):Bool:=x.name.toList==c.toList
def Qx5(l:List Col)(c:ByteArray):Option Nat:=l.findIdx? (Jjf c)
def Qqd(v:Value)(w:World)(e:Ending)(w':World):Prop:=e=.returned v∧Below w.heap.size w w'
def Yxj(q:ByteArray)(f:Frm):Bool:=!((q.toList==[])&&f.strict||!(q.toList==[])&&!(f.name.toList==q.toList))
def Qxm(q n:ByteArray)(f:Frm):Option Nat:=if Yxj q f then Qx5 f.cols n else none
def resolve(q n:ByteArray):List Frm→Option (Nat×Nat)
 |[]=>none
 |f::fs=>match resolve q n fs with
  |some (i,k)=>some (i+1,k)
  |none=>(Qxm q n f).map fun k=>(0,k)
theorem Yj1(q n:ByteArray)(l:List Frm)(f:Frm):resolve q n (l++[f])=match Qxm q n f with|some k=>some (l.length,k)|none=>resolve q n l:=by
 induction l with
 |nil=>cases h:Qxm q n f<;>simp[resolve,h]
 |cons g l ih=>
  simp only[Ji,resolve,ih];cases h:Qxm q n f<;>simp
def Uz6:List (List UInt8):=[[],[97],[98],[105,116,39,115],[90,32,122],[126]]
def Qvh(i:Nat):ByteArray:=bs (Uz6.getD i [])
def Qjh(T:Nat)(w:World):Prop:=7<T∧∀i:Nat,i<6→w.cell? ⟨7,i,none⟩=some (.string (Qvh i))
theorem Qjh.keep{M:Nat→Prop}{T:Nat}{w w':World}(h:Qjh T w)(k:Qqb M w w')(hM:∀k,k<T→¬M k):Qjh T w':=by
 refine⟨h.1,fun i hi=>?_⟩;have:=h.2 i hi;rw[k.cell (Za _ _ this) (hM _ h.1)];exact this
theorem Qjh.at{T:Nat}{w w':World}(h:Qjh T w)(k:Qqb (At T) w w'):Qjh T w':=h.keep k fun k hk h=>by unfold At at h;omega
def Jwe(a b:Int):Bool:=a==0||b==0||a==b
def Yj2(ts:List Int)(want:Int):Bool:=ts.all fun t=>Jwe t want
def Yxk(ts:List Int):Bool:=(List.range ts.length).all fun i=>Yj2 (ts.take i) (ts.getD i 0)
def Yxl(items:Nat):List Qu→Bool
 |[q]=>q.items.length==items&&decide (q.whr.length≤1)
 |_=>false
def Qvz(e:Ex):Bool:=
 if e.kind=1∨e.kind=2 then e.args.length==0&&e.sub.length==0
 else if e.kind=3∨e.kind=4∨e.kind=6 then e.args.length==1&&e.sub.length==0
 else if e.kind=5 then decide (1≤e.op)&&decide (e.op≤13)&&e.args.length==2&&e.sub.length==0
 else if e.kind=7 then e.args.length==3&&e.sub.length==0
 else if e.kind=8∨e.kind=9 then e.args.length==0&&Yxl 0 e.sub
 else if e.kind=10∨e.kind=11∨e.kind=12 then e.args.length==0&&Yxl 1 e.sub
 else false
def Qxu(k o:Int)(ts:List Int):Int×Int:=
 if k=6 then(2,0)
 else if k=3∨(k=5∧o≤2) then(if Yj2 ts 2 then(2,0) else(0,5))
 else if k=4∨(k=5∧9≤o) then(if Yj2 ts 1 then(1,0) else(0,5))
 else if Yxk ts then(2,0) else(0,5)
def Jvy(ts:List Sch)(n:ByteArray):Option Sch:=ts.find? fun s=>s.name.toList==n.toList
def Qj6(s:Sch):Frm:=⟨s.name,false,s.cols⟩
def Uv7(k item:Int):Int×Int:=
 if k=10∧Jwe item 1=false then(0,5)
 else if k=8 then(2,0)
 else if k=9∨k=10 then(1,0)
 else(item,0)
def Uyz:Int×Int→Int
 |(t,c)=>if c=0∧Jwe t 2=false then 5 else c
def Jxt(fs:List Frm)(i k:Nat):Int:=((((fs[i]?).map Frm.cols).getD [])[k]?.map Col.type).getD 0
mutual
def Qkp(ts:List Sch):Ex→List Frm→Int×Int
 | .mk k o no v t nm args sub,fs=>
   if Qvz (.mk k o no v t nm args sub)=false then(0,17)
   else if k=1 then(v.kind,0)
   else if k=2 then(match resolve t nm fs with|some (i,j)=>(Jxt fs i j,0)|none=>(0,3))
   else if 8≤k then Jxu ts k sub fs
   else match Jq3 ts args fs with
    | .error c=>(0,c)
    | .ok l=>Qxu k o l
def Jq3(ts:List Sch):List Ex→List Frm→Except Int (List Int)
 |[],_=>.ok []
 |e::es,fs=>if(Qkp ts e fs).2≠0 then .error (Qkp ts e fs).2
  else match Jq3 ts es fs with
   | .error c=>.error c
   | .ok l=>.ok ((Qkp ts e fs).1::l)
def Yxm(ts:List Sch):List Ex→List Frm→Int
 |[],_=>0
 |e::_,fs=>Uyz (Qkp ts e fs)
def Yw3(ts:List Sch)(k:Int):Qu→List Frm→Int×Int
 | .mk _ items frm whr,fs=>
   match Jvy ts frm with
   |none=>(0,3)
   |some s=>match Jq3 ts items (fs++[Qj6 s]) with
    | .error c=>(0,c)
    | .ok l=>if Yxm ts whr (fs++[Qj6 s])≠0 then(0,Yxm ts whr (fs++[Qj6 s])) else Uv7 k (l.getLastD 0)
def Jxu(ts:List Sch)(k:Int):List Qu→List Frm→Int×Int
 |[],_=>(0,17)
 |q::_,fs=>Yw3 ts k q fs
end
mutual
def dep:Ex→Nat
 | .mk _ _ _ _ _ _ args sub=>max (Qvr args) (Yvr sub)
def Qvr:List Ex→Nat
 |[]=>0
 |e::es=>max (dep e) (Qvr es)
def Uqu:Qu→Nat
 | .mk _ items _ whr=>max (Qvr items) (Qvr whr)+1
def Yvr:List Qu→Nat
 |[]=>0
 |q::qs=>max (Uqu q) (Yvr qs)
end
theorem Yj3(q:Qu):Uqu q=max (Qvr q.items) (Qvr q.whr)+1:=by cases q;rw[Uqu];rfl
theorem Jqn:(prog.info? 106).map (fun i=>(i.zero,i.size,i.bytes))=some (some (.agg #["","0",false,false]),4,32):=by kernel_rfl
theorem Qv0:(prog.info? 196).map (fun i=>(i.zero,i.size,i.bytes))=some (some (.agg #["",false,(),()]),4,72):=by kernel_rfl
def es:ByteArray:=⟨#[]⟩
def Qvs:Val:=⟨0,0,es⟩
def Qkk(v:Val):Ex:=.mk 1 0 false v es es [] []
def Qqp(t n:ByteArray):Ex:=.mk 2 0 false Qvs t n [] []
def Qqc(o:Int)(a b:Ex):Ex:=.mk 5 o false Qvs es es [a,b] []
def Uz7(a:Ex):Ex:=.mk 4 0 false Qvs es es [a] []
theorem Kqo{M:Nat→Prop}{w:World}(k o:Int)(no:Bool)(v:Val)(t nm:ByteArray):EC M w (.mk k o no v t nm [] []) (Qjg k o no v t nm () ()):=
 (Qji ..).2 ⟨_,_,rfl,Qqa.nil ..,Qqa.nil ..⟩
theorem Qxd(k i:Int)(s:ByteArray)(w:World):Calls prog 60 #[.agg #[k,i,s]] w (Qqd (.agg #["1","0",false,k,i,s,"","",(),()]) w):=by
 go_enter func60,ntmps60
 go_wp2
 go_returns
 exact⟨rfl,by go_grown⟩
theorem Qkl(t n:ByteArray)(w:World):Calls prog 57 #[t,n] w (Qqd (.agg #["2","0",false,"0","0","",t,n,(),()]) w):=by
 go_enter func57,ntmps57
 go_wp2
 go_returns
 exact⟨rfl,by go_grown⟩
theorem Yw4(n:Int)(h:0≤n)(w:World):Calls prog 100 #[n] w (Qqd (.agg #["1","0",false,"1",n,"","","",(),()]) w):=by
 go_enter func100,ntmps100
 go_wp2_with(go_at_call 60;refine(Qxd _ _ _ _).mono ?_;rintro e w1 ⟨rfl,hb⟩;obtain⟨k1,k2,k3⟩:=Jq2 hb;simp only[Zn] at k1 k2 k3;have k4:w.heap.size<w1.heap.size:=(by omega);have HB:=hid hb;clear hb)
 refine Zh (v:=.agg #["1","0",false,"1",n,"","","",(),()]) (by simp[results,results100,go_sem,k1]) rfl ⟨rfl,?_⟩;clear k1 k2;have h0:Below w.heap.size w w1:=Below.trans (by go_grown) (HB.out.mono (by simp))
 go_grown
theorem Qy5:Qx8 (fun M w e cs=>EC M w e cs) where
 keep h k:=EC.keep k _ _ h
 weak h hM:=EC.weak hM _ _ h
 one h u hu:=by
  obtain⟨va,vs,rfl,ha,hs⟩:=(Qji ..).1 h;obtain⟨a,c,rfl,_⟩:=ha.shape;obtain⟨a',c',rfl,_⟩:=hs.shape;simp[Qjg] at hu;rcases hu with rfl|rfl|rfl|rfl|rfl|rfl|rfl|rfl|rfl|rfl<;>rfl
theorem Yxn{α:Type}{M:Nat→Prop}{w:World}{arr:Array Value}{e:TypeId}{size g:Nat}{R:α→List Value→Prop}(x y:α)(cx cy:List Value)(hg:g=w.heap.size)(hT:¬M w.heap.size)(ha:arr.toList=cx++cy)(hx:cx.length=size)(hy:cy.length=size)(h1:R x cx)(h2:R y cy):
 Qqa M (w.alloc (.cells arr e)) size R (Qv (some ⟨g,0,none⟩) 2 2) [x,y]:=
 Qqa.new [cx,cy] hg hT (by simpa using ha) (by simp[hx,hy]) rfl (Zz _) (by unfold maxLen;omega) rfl fun i z cs hi hc=>by
  match i with
  |0=>simp at hi hc;subst hi;subst hc;exact h1
  |1=>simp at hi hc;subst hi;subst hc;exact h2
  |i+2=>simp at hi
def Uv8(M:Nat→Prop)(o:Int)(a b:Ex)(w:World)(e:Ending)(w':World):Prop:=∃cs,e=.returned (.agg cs.toArray)∧EC M w' (Qqc o a b) cs∧Below w.heap.size w w'
theorem Yw5{M:Nat→Prop}(o:Int)(a b:Ex)(ca cb:List Value)(w:World)(ha:EC M w a ca)(hb:EC M w b cb)(hM:∀k,w.heap.size≤k→¬M k):Calls prog 102 #[o,.agg ca.toArray,.agg cb.toArray] w (Uv8 M o a b w):=by
 have HA:=hid ha;have HB:=hid hb;have HM:=hid hM;obtain⟨va,vs,rfl,ha1,ha2⟩:=(Qji ..).1 ha;obtain⟨a1,a2,rfl,_⟩:=ha1.shape;obtain⟨a3,a4,rfl,_⟩:=ha2.shape;obtain⟨va,vs,rfl,hb1,hb2⟩:=(Qji ..).1 hb;obtain⟨b1,b2,rfl,_⟩:=hb1.shape;obtain⟨b3,b4,rfl,_⟩:=hb2.shape;clear ha hb hM ha1 ha2 hb1 hb2;simp only[Qjg];go_enter func102,ntmps102
 go_wp2
 go_returns
 refine⟨Qjg 5 o false Qvs es es (Qv (some ⟨w.heap.size+1+1+1,0,none⟩) 2 2) (),rfl,(Qji ..).2 ⟨_,_,rfl,?_,Qqa.nil ..⟩,by go_grown⟩
 have k:=((((Qqb.refl M w).alloc (.cells #[a.kind,a.op,a.no,a.val.kind,a.val.int,a.val.text,a.table,a.name,Qv a1 a.args.length a2,Qv a3 a.sub.length a4] 80)).alloc
  (.cells #[b.kind,b.op,b.no,b.val.kind,b.val.int,b.val.text,b.table,b.name,Qv b1 b.args.length b2,Qv b3 b.sub.length b4] 80)).alloc
  (.cells #["5",o,false,"0","0","","","",Qv (some ⟨w.heap.size+1+1+1,0,none⟩) 2 2,()] 80)).alloc
  (.cells #[a.kind,a.op,a.no,a.val.kind,a.val.int,a.val.text,a.table,a.name,Qv a1 a.args.length a2,Qv a3 a.sub.length a4,b.kind,b.op,b.no,b.val.kind,b.val.int,b.val.text,b.table,b.name,Qv b1 b.args.length b2,Qv b3 b.sub.length b4] 80)
 exact Yxn (R:=EC M _) a b _ _ (by simp) (HM.out _ (by simp;omega)) rfl rfl rfl (EC.keep k a _ HA.out) (EC.keep k b _ HB.out)
open Go.ChangeShapes Go.WideShapes Go.ChangeAt Go.RowKit
theorem Kzv:ownKnob prog.godebug=none:=by kernel_rfl
section
variable{H:Type} {enc:TypeId×Value→H} {P:Program}
theorem Kzt(hl:laidOutB P=true){W W':World}{sp:Nat→Bool}(hb:Below W.heap.size W W'):∀{ts:List TypeId} {vs:List Value} {ds:List (DataW H)} {ps:List MemPlace},
 (∀t∈ts,P.readableRec t=true∧t<P.types.size)→DataW.TrodAll enc P W 0 (fun _=>true) true ts vs ds ps→(∀p∈ps,p.block<W.heap.size)→(∀p∈ps,sp p.block=true)→DataW.TrodAll enc P W' 0 sp true ts vs ds ps
 |[],vs,ds,ps,_,h,_,_=>by
  obtain⟨rfl,rfl,rfl⟩:=trodAll_nil h;exact trodAll_mk0
 |t::ts,vs,ds,ps,hts,h,hlt,hs=>by
  obtain⟨v,vs',d,ds',p,q,rfl,rfl,rfl,h1,h2⟩:=trodAll_cons h;obtain⟨hr,hrow⟩:=hts t (Zv ..);have g1:=Go.WideElems.Trod_stays (sp':=sp) hl hr hrow h1 (fun x hx=>hb.same (hlt x (List.mem_append_left _ hx))) (fun x hx=>hs x (List.mem_append_left _ hx));have g2:=Kzt hl hb (fun t ht=>hts t (Zl _ ht)) h2 (fun x hx=>hlt x (List.mem_append_right _ hx)) (fun x hx=>hs x (List.mem_append_right _ hx));exact trodAll_cons_mk g1 g2
theorem Kzw{f:Func}{s:ChangeSpec}{W W':World}{args:Array Value}{ds gs:List (DataW H)}{before:List MemPlace}(hl:laidOutB P=true)
 (hts:(f.params.toList.all fun t=>P.readableRec t&&decide (t<P.types.size))=true)(hv:s.vars=[]){boolT:TypeId}(hres:f.resultTypes=#[boolT])(hbool:P.underlying boolT=some .bool)
 (hfn:(s.fn H (ds++gs)).results=[.lit (.bool true)]∧(s.fn H (ds++gs)).args=ds∧(s.fn H (ds++gs)).vars=[])
 (hW:DataW.Whole enc P f.params.toList s.vars false W args.toList ds gs before)(hb:Below W.heap.size W W'):s.post enc P f false true false false W args true W':=by
 have hlt:∀p∈before,p.block<W.heap.size:=fun p hp=>hW.lt p hp;have hW0:=hW;obtain⟨p,q,hA,hV,rfl,_,_⟩:=hW0;rw[hv] at hV;obtain⟨rfl,rfl⟩:=trodVars_none hV;obtain⟨e1,e2,e3⟩:=hfn;refine⟨ds,[],_,[],p,[],hW,?_,?_,?_,World.keptBut_mono (fun x hx=>⟨hx,?_⟩) (hb.frame (·∈p++[])),fun h=>by cases h⟩
 ·rw[e1,hres];exact trodAll_mk1 (shut_bool hbool true)
 ·rw[e2];refine Kzt hl hb (fun t ht=>?_) hA (fun x hx=>hlt x (by simp[hx])) (fun x hx=>by simpa using hlt x (by simp[hx]));simpa using Yn.1 hts t ht
 ·rw[e3,hv];rfl
 ·exact .inr (.inl (by simpa using hx))
end
theorem Kzs{H:Type}{enc:TypeId×Value→H}{P:Program}{w:World}{base:Nat}{sp:Nat→Bool}{held:Bool}{fuel:Nat}{t e:TypeId}{n:Nat}{cs:List Value}{ss:List (List UInt8)}{p:List MemPlace}
 (ht:P.underlying t=some (.array n e))(he:P.underlying e=some .string)(hce:P.cellsOf e=1)(hn:ss.length=n)
 (h:DataW.trod enc P w base sp held fuel t cs=some (.agg (ss.map fun s=>.lit (Lit.string s)),p)):∀(i:Nat) (s:List UInt8),ss[i]?=some s→cs[i]?=some (.string ⟨s.toArray⟩):=by
 obtain⟨xs,m,rfl,hx,hlen,hn3,hel⟩:=DataW.trod_array ht h;simp only[Prod.mk.injEq,DataW.agg.injEq] at hx;intro i s hi;have hlt:i<n:=by rw[←hn];exact(Yq.1 hi).1
 have hxi:xs[i]?=some xs[i]:=Zg (by omega);have h0:=hel i hlt;rw[hce,Ks,hxi] at h0;obtain⟨s',hc,hx',_⟩:=DataW.trod_string he h0;have h1:=congrArg (·[i]?) hx.1;simp only[Yi,hi,hxi,Option.map_some,hx',Ym,DataW.lit.injEq,Lit.string.injEq] at h1;have h2:=congrArg (·[0]?) hc;simp only[List.getElem?_take,List.getElem?_drop] at h2;simp at h2;rw[h2,h1]
theorem Kzq{P:Program}{W:World}{name:String}{ss:List (List UInt8)}{rest:List (String×DataW Unit)}{g:Nat}{t e:TypeId}{n:Nat}
 (hg:P.globalNamed name=some g)(hty:(P.globals[g]?).map (·.type)=some t)(ht:P.underlying t=some (.array n e))(he:P.underlying e=some .string)(hce:P.cellsOf e=1)(hn:ss.length=n)
 (h:laidMet P ((name,.agg (ss.map fun s=>.lit (Lit.string s)))::rest) W):∀(i:Nat) (s:List UInt8),ss[i]?=some s→W.cell? ⟨g,i,none⟩=some (.string ⟨s.toArray⟩):=by
 obtain⟨ps,⟨g',t',cs,fuel,p,q,hg',ht',hvar,hd,_,_⟩,_⟩:=h;obtain rfl:=Jf (hg.symm.trans hg');obtain rfl:=Jf (hty.symm.trans ht');intro i s hi;have h1:=Kzs ht he hce hn hd i s hi;have h2:=World.var?_cell hg hvar i;rw[h2];simpa using h1
theorem Kzp{P:Program}{x:String×DataW Unit}{r:List (String×DataW Unit)}{w:World}(h:laidMet P (x::r) w):laidMet P r w:=by
 obtain⟨ps,⟨g,t,cs,fuel,p,q,_,_,_,_,hr,rfl⟩,hnd,hz⟩:=h;exact⟨q,hr,(List.nodup_append.1 hnd).2.1,fun b off hm=>hz b off (by simp[hm])⟩
def Kzr(cs:Array Value):Obj→Obj
 | .cells _ t f=>.cells cs t f
 |o=>o
theorem Kz2:prog.globalNamed "triggerstore/triggerstoreworld.names"=some 5:=by kernel_rfl
theorem Kz3:(prog.globals[5]?).map (·.type)=some 117:=by kernel_rfl
theorem Kz4:prog.globalNamed "triggerstore/triggerstoreworld.words"=some 7:=by kernel_rfl
theorem Kz5:(prog.globals[7]?).map (·.type)=some 216:=by kernel_rfl
theorem Kzx:prog.cellsOf 9=1:=by kernel_rfl
theorem Kz0:laidOutB prog=true:=by kernel_rfl
theorem Kzy{W:World}{rest:List (String×DataW Unit)}(h:laidMet prog (("triggerstore/triggerstoreworld.names",Rows.laid_triggerstore_triggerstoreworld_names)::rest) W):Qkj W.heap.size W:=by
 have hh:=Kzq (ss:=Uz1) Kz2 Kz3 underlying117 underlying9 Kzx rfl h;exact⟨Za _ _ (hh 0 _ rfl),fun i hi=>hh i _ (by match i,hi with|0,_=>rfl|1,_=>rfl|2,_=>rfl|3,_=>rfl|4,_=>rfl|5,_=>rfl|6,_=>rfl|7,_=>rfl)⟩
theorem Kzz{W:World}{rest:List (String×DataW Unit)}(h:laidMet prog (("triggerstore/triggerstoreworld.words",Rows.laid_triggerstore_triggerstoreworld_words)::rest) W):Qjh W.heap.size W:=by
 have hh:=Kzq (ss:=Uz6) Kz4 Kz5 underlying216 underlying9 Kzx rfl h;exact⟨Za _ _ (hh 0 _ rfl),fun i hi=>hh i _ (by match i,hi with|0,_=>rfl|1,_=>rfl|2,_=>rfl|3,_=>rfl|4,_=>rfl|5,_=>rfl)⟩
structure Jwf{α:Type}(c:α→α→Int):Prop where
 neg:∀a b,c a b=-c b a
 le:∀a b d,c a b≤0→c b d≤0→c a d≤0
 eq:∀a b,c a b=0→a=b
section
variable{α β:Type} {c:α→α→Int} {d:β→β→Int}
theorem Jwf.refl(h:Jwf c)(a:α):c a a=0:=by have:=h.neg a a;omega
theorem Jwf.lt_le(h:Jwf c){a b e:α}(h1:c a b<0)(h2:c b e≤0):c a e<0:=by
 have h3:=h.le a b e (by omega) h2;rcases Int.lt_or_eq_of_le h3 with h4|h4
 ·exact h4
 ·have:=h.eq _ _ h4;subst this;have:=h.neg a b;omega
def Yxo(x y:Int):Int:=if x≠0 then x else y
def Qy6(c:α→α→Int):List α→List α→Int
 |[],[]=>0
 |[],_::_=>-1
 |_::_,[]=>1
 |a::la,b::lb=>Yxo (c a b) (Qy6 c la lb)
theorem Yxp(h:Jwf c):∀x y:List α,Qy6 c x y=-Qy6 c y x
 |[],[]=>rfl
 |[],_::_=>rfl
 |_::_,[]=>rfl
 |a::la,b::lb=>by
  have h1:=h.neg a b;have h2:=Yxp h la lb;simp only[Qy6,Yxo];by_cases hz:c a b=0
  ·rw[if_neg (by omega),if_neg (by omega)];exact h2
  ·rw[if_pos hz,if_pos (by omega)];exact h1
theorem Yw6(h:Jwf c):∀x y:List α,Qy6 c x y=0→x=y
 |[],[],_=>rfl
 |[],_::_,h1=>by simp[Qy6] at h1
 |_::_,[],h1=>by simp[Qy6] at h1
 |a::la,b::lb,h1=>by
  simp only[Qy6,Yxo] at h1;by_cases hz:c a b=0
  ·rw[if_neg (by omega)] at h1;rw[h.eq _ _ hz,Yw6 h la lb h1]
  ·rw[if_pos hz] at h1;omega
theorem Yw7(h:Jwf c):∀x y z:List α,Qy6 c x y≤0→Qy6 c y z≤0→Qy6 c x z≤0
 |[],_,[],_,_=>by simp[Qy6]
 |[],_,_::_,_,_=>by simp[Qy6]
 |_::_,[],_,h1,_=>by simp[Qy6] at h1
 |_::_,_::_,[],_,h2=>by simp[Qy6] at h2
 |a::la,b::lb,e::es,h1,h2=>by
  simp only[Qy6,Yxo] at h1 h2⊢;by_cases hz:c a b=0
  ·have he:=h.eq _ _ hz;rw[if_neg (by omega)] at h1;by_cases hz2:c b e=0
   ·have he2:=h.eq _ _ hz2;rw[if_neg (by omega)] at h2;rw[he,he2,h.refl,if_neg (by omega)];exact Yw7 h la lb es h1 h2
   ·rw[if_pos hz2] at h2;rw[he,if_pos hz2];exact h2
  ·rw[if_pos hz] at h1
   have h3:c b e≤0:=by
    by_cases hz2:c b e=0
    ·omega
    ·rw[if_pos hz2] at h2;exact h2
   have h4:=h.lt_le (show c a b<0 by omega) h3;rw[if_pos (by omega)];omega
theorem Kqp(h:Jwf c):Jwf (Qy6 c):=⟨Yxp h,Yw7 h,Yw6 h⟩
end
def Jwg(a b:UInt8):Int:=if a<b then -1 else if b<a then 1 else 0
theorem Uv9:Jwf Jwg where
 neg a b:=by
  unfold Jwg;simp only[UInt8.lt_iff_toNat_lt]
  split<;>split<;>(first|omega|(split<;>omega))
 le a b d h1 h2:=by
  unfold Jwg at h1 h2⊢;simp only[UInt8.lt_iff_toNat_lt] at h1 h2⊢
  split at h1<;>split at h2<;>(try split at h1)<;>(try split at h2)<;>split<;>(first|omega|(split<;>omega))
 eq a b h:=by
  unfold Jwg at h;simp only[UInt8.lt_iff_toNat_lt] at h;refine UInt8.toNat_inj.1 ?_
  split at h
  ·omega
  ·split at h<;>omega
theorem Qy7:∀a b:List UInt8,Lib.compareBytes a b=Qy6 Jwg a b
 |[],[]=>rfl
 |[],_::_=>rfl
 |_::_,[]=>rfl
 |a::la,b::lb=>by
  simp only[Lib.compareBytes,Qy6,Jwg,Yxo];rw[Qy7 la lb]
  split
  ·rfl
  ·split<;>rfl
theorem Yxq:Jwf Lib.compareBytes:=by
 have:Lib.compareBytes=Qy6 Jwg:=by funext a b;exact Qy7 a b
 rw[this];exact Kqp Uv9
theorem Qv1{a b:ByteArray}(h:a.data.toList=b.data.toList):a=b:=by
 cases a;cases b;simp only at h;congr 1;exact Array.toList_inj.1 h
theorem Qw6:∀a b:List UInt8,Lib.compareBytes a b=-1∨Lib.compareBytes a b=0∨Lib.compareBytes a b=1
 |[],[]=>by simp[Lib.compareBytes]
 |[],_::_=>by simp[Lib.compareBytes]
 |_::_,[]=>by simp[Lib.compareBytes]
 |a::la,b::lb=>by
  rw[Lib.compareBytes]
  split
  ·simp
  ·split
   ·simp
   ·exact Qw6 la lb
def Jjg(c:UInt8):Bool:=decide (32≤c.toNat)&&decide (c.toNat≤126)
def Jkj(l:List UInt8):Bool:=l.all Jjg
def Qj2(s:ByteArray):Bool:=Jkj s.data.toList&&decide (s.size≤64)
def Qq0(s:ByteArray):Bool:=s.toList==[]
def Qqs(v:Val):Bool:=
 if v.kind=0 then decide (v.int=0)&&Qq0 v.text
 else if v.kind=1 then Qq0 v.text
 else if v.kind=2 then(decide (v.int=0)||decide (v.int=1))&&Qq0 v.text
 else if v.kind=3 then decide (v.int=0)&&Qj2 v.text
 else false
def Qzt(v:Val):List UInt8:=
 if Qqs v=false then[63]
 else if v.kind=0 then[78,85,76,76]
 else if v.kind=1 then Lib.itoa v.int
 else if v.kind=2 then(if v.int=1 then[84,82,85,69] else[70,65,76,83,69])
 else 39::(Lib.replaceAll v.text.data.toList [39] [39,39]++[39])
theorem Qzx{a b:Bool}(h:a=b):Ending.returned a=.returned b:=by rw[h]
theorem Uz8{c:UInt8}(h:(c.toNat:Int)<32):Jjg c=false:=by unfold Jjg;simp;omega
theorem Uz9{c:UInt8}(h:(126:Int)<(c.toNat:Int)):Jjg c=false:=by unfold Jjg;simp;omega
theorem Uxa{c:UInt8}(h:¬(c.toNat:Int)<32)(k:¬(126:Int)<(c.toNat:Int)):Jjg c=true:=by unfold Jjg;simp;omega
theorem Jzb(s:ByteArray)(k:Nat)(h:k<s.size)(hc:Jjg s[k]=false):Jkj s.data.toList=false:=by
 unfold Jkj;rw[List.all_eq_false];exact⟨s[k],Yt.2 ⟨k,by simpa using h,rfl⟩,by simp[hc]⟩
theorem Jwh(s:ByteArray)(h:∀(j:Nat) (hj:j<s.size),Jjg s[j]=true):Jkj s.data.toList=true:=by
 unfold Jkj;rw[Yn];intro c hc;obtain⟨j,hj,rfl⟩:=Yt.1 hc;exact h j (by simpa using hj)
theorem Uqv(s:ByteArray)(w:World)(hs:s.size≤maxLen):Calls prog 110 #[s] w fun e w'=>e=.returned (.bool (Qj2 s))∧w=w':=by
 unfold maxLen at hs;go_enter func110,ntmps110
 go_wp2
 go_loop [6] (fun i=>∃k:Nat,k≤s.size∧i=.int .i64 k∧∀(j:Nat) (hj:j<s.size),j<k→Jjg s[j]=true) (fun i=>s.size-(intOf i).toNat)
 case atStart=>exact⟨0,Zi _,rfl,fun j _ h=>absurd h (by omega)⟩
 case round=>
  obtain⟨k,hk,rfl,hno⟩:=hrel;have HN:=hid hno;clear hno;by_cases hlt:k<s.size
  ·by_cases h32:(s[k].toNat:Int)<32
   ·go_wp2
    go_ret;refine⟨Qzx ?_,rfl⟩;rw[Qj2,Jzb s k hlt (Uz8 h32),Bool.false_and]
   ·by_cases h126:(126:Int)<(s[k].toNat:Int)
    ·go_wp2
     go_ret;refine⟨Qzx ?_,rfl⟩;rw[Qj2,Jzb s k hlt (Uz9 h126),Bool.false_and]
    ·go_wp2
     go_round
     case rel=>
      refine⟨k+1,by omega,by go_num,fun j hj hjk=>?_⟩;by_cases e:j=k
      ·subst e;exact Uxa h32 h126
      ·exact HN.out j hj (by omega)
     case measure=>simp[intOf];omega
  ·go_wp2
   go_ret;refine⟨Qzx ?_,rfl⟩;rw[Qj2,Jwh s fun j hj=>HN.out j hj (by omega),Kk];simp;omega
theorem Jzq(w:World)(o:Obj):Below w.heap.size w (w.alloc o):=(Below.refl _ _).alloc (Zz _) _
section
variable(n:Int) (s:ByteArray) (w:World)
theorem Uwa:Calls prog 65 #[.agg #["0",n,s]] w (Qqd (.bool (Qqs ⟨0,n,s⟩)) w):=by
 go_enter func65,ntmps65
 go_wp2
 all_goals go_ret
 all_goals
  refine⟨Qzx ?_,Jzq _ _⟩;simp_all [Qqs,Qq0]
theorem Uwb:Calls prog 65 #[.agg #["1",n,s]] w (Qqd (.bool (Qqs ⟨1,n,s⟩)) w):=by
 go_enter func65,ntmps65
 go_wp2
 all_goals go_ret
 all_goals
  refine⟨Qzx ?_,Jzq _ _⟩;simp_all [Qqs,Qq0]
theorem Uwc:Calls prog 65 #[.agg #["2",n,s]] w (Qqd (.bool (Qqs ⟨2,n,s⟩)) w):=by
 go_enter func65,ntmps65
 go_wp2
 all_goals go_ret
 all_goals
  refine⟨Qzx ?_,Jzq _ _⟩;simp_all [Qqs,Qq0]
theorem Yw8(hs:s.size≤maxLen):Calls prog 65 #[.agg #["3",n,s]] w (Qqd (.bool (Qqs ⟨3,n,s⟩)) w):=by
 go_enter func65,ntmps65
 go_wp2_with(go_at_call 110;refine(Uqv _ _ hs).mono ?_;rintro e w1 ⟨rfl,rfl⟩)
 all_goals go_ret
 all_goals
  refine⟨Qzx ?_,Jzq _ _⟩;simp_all [Qqs]
theorem Uxb:Calls prog 84 #[.agg #["0",n,s]] w (Qqd (.bool (Qqs ⟨0,n,s⟩)) w):=by
 go_enter func84,ntmps84
 go_wp2
 all_goals go_ret
 all_goals
  refine⟨Qzx ?_,Jzq _ _⟩;simp_all [Qqs,Qq0]
theorem Uxc:Calls prog 84 #[.agg #["1",n,s]] w (Qqd (.bool (Qqs ⟨1,n,s⟩)) w):=by
 go_enter func84,ntmps84
 go_wp2
 all_goals go_ret
 all_goals
  refine⟨Qzx ?_,Jzq _ _⟩;simp_all [Qqs,Qq0]
theorem Uxd:Calls prog 84 #[.agg #["2",n,s]] w (Qqd (.bool (Qqs ⟨2,n,s⟩)) w):=by
 go_enter func84,ntmps84
 go_wp2
 all_goals go_ret
 all_goals
  refine⟨Qzx ?_,Jzq _ _⟩;simp_all [Qqs,Qq0]
theorem Uwd(k:Int)(h0:k≠0)(h1:k≠1)(h2:k≠2)(h3:k≠3):Calls prog 65 #[.agg #[k,n,s]] w (Qqd (.bool (Qqs ⟨k,n,s⟩)) w):=by
 have b0:(k==0)=false:=by simpa using h0
 have b1:(k==1)=false:=by simpa using h1
 have b2:(k==2)=false:=by simpa using h2
 have b3:(k==3)=false:=by simpa using h3
 have HR:Hid (Qqs ⟨k,n,s⟩=false):=hid (by simp[Qqs,h0,h1,h2,h3]);clear h0 h1 h2 h3;go_enter func65,ntmps65
 go_wp2
 go_ret;exact⟨Qzx HR.out.symm,Jzq _ _⟩
theorem Uxe(k:Int)(h0:k≠0)(h1:k≠1)(h2:k≠2)(h3:k≠3):Calls prog 84 #[.agg #[k,n,s]] w (Qqd (.bool (Qqs ⟨k,n,s⟩)) w):=by
 have b0:(k==0)=false:=by simpa using h0
 have b1:(k==1)=false:=by simpa using h1
 have b2:(k==2)=false:=by simpa using h2
 have b3:(k==3)=false:=by simpa using h3
 have HR:Hid (Qqs ⟨k,n,s⟩=false):=hid (by simp[Qqs,h0,h1,h2,h3]);clear h0 h1 h2 h3;go_enter func84,ntmps84
 go_wp2
 go_ret;exact⟨Qzx HR.out.symm,Jzq _ _⟩
theorem Uxf(hs:s.size≤maxLen):Calls prog 84 #[.agg #["3",n,s]] w (Qqd (.bool (Qqs ⟨3,n,s⟩)) w):=by
 unfold maxLen at hs;by_cases h1:n=0
 ·subst h1;by_cases h2:s.size≤64
  ·have HP:Hid (Qqs ⟨3,0,s⟩=Jkj s.data.toList):=hid (by simp[Qqs,Qj2,h2]);have h3:¬64<(s.size:Int):=by omega
   go_enter func84,ntmps84
   go_wp2
   go_loop [3] (fun i=>∃k:Nat,k≤s.size∧i=.int .i64 k∧∀(j:Nat) (hj:j<s.size),j<k→Jjg s[j]=true) (fun i=>s.size-(intOf i).toNat)
   case atStart=>exact⟨0,Zi _,rfl,fun j _ h=>absurd h (by omega)⟩
   case round=>
    obtain⟨k,hk,rfl,hno⟩:=hrel;have HN:=hid hno;clear hno;by_cases hlt:k<s.size
    ·by_cases h32:(s[k].toNat:Int)<32
     ·go_wp2
      go_ret;exact⟨Qzx (by rw[HP.out,Jzb s k hlt (Uz8 h32)]),Jzq _ _⟩
     ·by_cases h126:(126:Int)<(s[k].toNat:Int)
      ·go_wp2
       go_ret;exact⟨Qzx (by rw[HP.out,Jzb s k hlt (Uz9 h126)]),Jzq _ _⟩
      ·go_wp2
       go_round
       case rel=>
        refine⟨k+1,by omega,by go_num,fun j hj hjk=>?_⟩;by_cases e:j=k
        ·subst e;exact Uxa h32 h126
        ·exact HN.out j hj (by omega)
       case measure=>simp[intOf];omega
    ·go_wp2
     go_ret;exact⟨Qzx (by rw[HP.out,Jwh s fun j hj=>HN.out j hj (by omega)]),Jzq _ _⟩
  ·have HP:Hid (Qqs ⟨3,0,s⟩=false):=hid (by simp[Qqs,Qj2,h2]);have h3:64<(s.size:Int):=by omega
   go_enter func84,ntmps84
   go_wp2
   go_ret;exact⟨Qzx HP.out.symm,Jzq _ _⟩
 ·have b1:(n==0)=false:=by simpa using h1
  have b2:(n !=0)=true:=by simpa using h1
  have HP:Hid (Qqs ⟨3,n,s⟩=false):=hid (by simp[Qqs,h1]);clear h1;go_enter func84,ntmps84
  go_wp2
  go_ret;exact⟨Qzx HP.out.symm,Jzq _ _⟩
end
def Qkt(v:Val):Value:=.agg #[v.kind,v.int,v.text]
theorem Uqw(v:Val)(w:World)(hs:v.text.size≤maxLen):Calls prog 65 #[Qkt v] w (Qqd (.bool (Qqs v)) w):=by
 obtain⟨k,n,s⟩:=v;by_cases h0:k=0
 ·subst h0;exact Uwa n s w
 by_cases h1:k=1
 ·subst h1;exact Uwb n s w
 by_cases h2:k=2
 ·subst h2;exact Uwc n s w
 by_cases h3:k=3
 ·subst h3;exact Yw8 n s w hs
 exact Uwd n s w k h0 h1 h2 h3
theorem Jz6(v:Val)(w:World)(hs:v.text.size≤maxLen):Calls prog 84 #[Qkt v] w (Qqd (.bool (Qqs v)) w):=by
 obtain⟨k,n,s⟩:=v;by_cases h0:k=0
 ·subst h0;exact Uxb n s w
 by_cases h1:k=1
 ·subst h1;exact Uxc n s w
 by_cases h2:k=2
 ·subst h2;exact Uxd n s w
 by_cases h3:k=3
 ·subst h3;exact Uxf n s w hs
 exact Uxe n s w k h0 h1 h2 h3
def Kqq(v:Val)(w:World)(e:Ending)(w':World):Prop:=e=.returned (Qkt v)∧Below w.heap.size w w'
def Uwe(v:Val)(b:Bool)(w:World)(e:Ending)(w':World):Prop:=e=.returned (.tuple #[Qkt v,b])∧Below w.heap.size w w'
theorem Uqx(n:Int)(w:World):Calls prog 86 #[n] w (Kqq ⟨1,n,⟨#[]⟩⟩ w):=by
 go_enter func86,ntmps86
 go_wp2
 refine Zh (v:=Qkt ⟨1,n,⟨#[]⟩⟩) (by simp[Qkt,results,results86,go_sem]) rfl ⟨rfl,Jzq _ _⟩
def Jkk(s:ByteArray):Val:=if Qj2 s then⟨3,0,s⟩ else⟨0,0,⟨#[]⟩⟩
theorem Uwf(s:ByteArray)(w:World)(hs:s.size≤maxLen):Calls prog 104 #[s] w (Uwe (Jkk s) (Qj2 s) w):=by
 have hv:=fun w'=>Yw8 0 s w' hs;rw[show Qqs ⟨3,0,s⟩=Qj2 s by simp[Qqs]] at hv;cases hp:Qj2 s
 ·rw[hp] at hv;have HV:=hid hv;have HR:Hid (Jkk s=⟨0,0,⟨#[]⟩⟩):=hid (by simp[Jkk,hp]);clear hv hp;go_enter func104,ntmps104
  go_wp2_with(go_at_call 65;refine(HV.out _).mono ?_;rintro e w1 ⟨rfl,hb⟩;obtain⟨k1,k2,k3⟩:=Jq2 hb;simp only[Zn] at k1 k2 k3;have k4:w.heap.size<w1.heap.size:=(by omega);have k5:w.heap.size+1<w1.heap.size:=(by omega);have c0:w1.cell? ⟨w.heap.size,0,none⟩=some (.int .i64 0):=(k1 _ _ (by omega)).trans (by simp);have c1:w1.cell? ⟨w.heap.size,1,none⟩=some (.int .i64 0):=(k1 _ _ (by omega)).trans (by simp);have c2:w1.cell? ⟨w.heap.size,2,none⟩=some (.string ⟨#[]⟩):=(k1 _ _ (by omega)).trans (by simp);have HB:=hid hb;clear hb)
  refine Zh (v:=.tuple #[Qkt ⟨0,0,⟨#[]⟩⟩,false]) (by simp[Qkt,results,results104,go_sem,c0,c1,c2]) rfl ⟨by rw[HR.out],?_⟩;clear k1 k2 c0 c1 c2;have h0:Below w.heap.size w w1:=Below.trans (by go_grown) (HB.out.mono (by simp<;>omega))
  go_grown
 ·rw[hp] at hv;have HV:=hid hv;have HR:Hid (Jkk s=⟨3,0,s⟩):=hid (by simp[Jkk,hp]);clear hv hp;go_enter func104,ntmps104
  go_wp2_with(go_at_call 65;refine(HV.out _).mono ?_;rintro e w1 ⟨rfl,hb⟩;obtain⟨k1,k2,k3⟩:=Jq2 hb;simp only[Zn] at k1 k2 k3;have k4:w.heap.size<w1.heap.size:=(by omega);have k5:w.heap.size+1<w1.heap.size:=(by omega);have c0:w1.cell? ⟨w.heap.size,0,none⟩=some (.int .i64 0):=(k1 _ _ (by omega)).trans (by simp);have c1:w1.cell? ⟨w.heap.size,1,none⟩=some (.int .i64 0):=(k1 _ _ (by omega)).trans (by simp);have c2:w1.cell? ⟨w.heap.size,2,none⟩=some (.string ⟨#[]⟩):=(k1 _ _ (by omega)).trans (by simp);have HB:=hid hb;clear hb)
  refine Zh (v:=.tuple #[Qkt ⟨3,0,s⟩,true]) (by simp[Qkt,results,results104,go_sem,c0,c1,c2]) rfl ⟨by rw[HR.out],?_⟩;clear k1 k2 c0 c1 c2;have h0:Below w.heap.size w w1:=Below.trans (by go_grown) (HB.out.mono (by simp<;>omega))
  go_grown
theorem Yxr:∀a b:List UInt8,Op.bytesLess a b=decide (Lib.compareBytes a b=-1)
 |_,[]=>by
  rename_i a
  cases a<;>simp[Op.bytesLess,Lib.compareBytes]
 |[],_::_=>by simp[Op.bytesLess,Lib.compareBytes]
 |a::x,b::y=>by
  rw[Op.bytesLess,Lib.compareBytes,Yxr x y];by_cases h1:a<b
  ·simp[h1]
  ·by_cases h2:b<a
   ·have hne:(a==b)=false:=by
     rw[Jw];rintro rfl;exact h1 h2
    simp[h1,h2,hne]
   ·have he:a=b:=by
     simp only[UInt8.lt_iff_toNat_lt] at h1 h2;exact UInt8.toNat_inj.1 (by omega)
    subst he;simp[h1]
def Qyy(a b:ByteArray):Int:=Lib.compareBytes a.data.toList b.data.toList
end Go.Proofs.YtgepbohjmgaojaaGreatDoor
