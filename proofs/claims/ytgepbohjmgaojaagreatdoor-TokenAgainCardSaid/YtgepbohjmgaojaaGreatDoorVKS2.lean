/- Levels in the reference: LevelsOf over arguments. Levels in the reference: LevelsOf, for every well-formed expression. -/
import Derived.Test.YtgepbohjmgaojaaGreatDoorVKS
set_option linter.all false
set_option maxHeartbeats 20000000
set_option maxRecDepth 100000
namespace Go.Proofs.YtgepbohjmgaojaaGreatDoor
open World renaming alloc→Qw
open Value renaming slice→Qv
open Go.Proofs.Tryz
open Lib(hid)
open Go.RowKit
theorem Qki(t:ByteArray):(t=⟨#[]⟩∧Qq0 t=true)∨(t.toList.isEmpty=false∧Qq0 t=false):=by
 by_cases h:t.toList=[]
 ·refine .inl ⟨?_,by simp[Qq0,h]⟩;obtain⟨d⟩:=t;rw[Yp] at h;simpa using h
 ·exact .inr ⟨by simpa using h,by simpa[Qq0] using h⟩
section
variable(k o:Int) (no:Bool) (vk vi:Int) (vt t nm:ByteArray) (a s:Option Addr) (an ac sn sc:Nat) (w:World)
theorem Uvl(hs:∀wx,Below w.heap.size w wx→Calls prog 138 #[.agg #[k,o,no,vk,vi,vt,t,nm,Qv a an ac,Qv s sn sc]] wx (Qqd false wx)):
 Calls prog 117 #[.agg #[k,o,no,vk,vi,vt,t,nm,Qv a an ac,Qv s sn sc]] w (Qqd (.bool (false)) w):=by
 have HS:=hid hs;clear hs;go_enter func117,ntmps117;go_upto_region 1 with fail
 generalize hW:Qw w _=W1;have hk0:W1.heap[w.heap.size]?=some (.cells #[k,o,no,vk,vi,vt,t,nm,Qv a an ac,Qv s sn sc] 80 (0,0)):=by rw[←hW];exact Zw w _
 have hb1:Below w.heap.size w W1:=by rw[←hW];exact(Below.refl _ _).alloc (Zz _) _
 have hz:w.heap.size<W1.heap.size:=by rw[←hW];simp
 have HQ:Hid (∀wx,Below W1.heap.size W1 wx→_):=hid fun wx hb=>Qq5 ((hb.block w.heap.size hz).trans hk0);have HB1:=hid hb1;obtain⟨x0,x1,x2,x3,x4,x5,x6,x7,x8,x9,xf,_⟩:=HQ.out _ (Below.refl _ _);clear hW hb1 hk0;go_wp2_with fail
 refine(HS.out _ HB1.out).mono ?_;rintro e w1 ⟨rfl,hb⟩;have HLw1:=hid (hb);clear hb x0 x1 x2 x3 x4 x5 x6 x7 x8 x9 xf;obtain⟨x0,x1,x2,x3,x4,x5,x6,x7,x8,x9,xf,_⟩:=HQ.out _ HLw1.out;dsimp only;go_wp2_with fail
 go_ret;exact⟨rfl,HB1.out.trans (HLw1.out.mono HB1.out.size)⟩
theorem Uvm(hs:∀wx,Below w.heap.size w wx→Calls prog 138 #[.agg #[k,o,no,vk,vi,vt,t,nm,Qv a an ac,Qv s sn sc]] wx (Qqd true wx))(h5:k≠5)(ho:o≠0):
 Calls prog 117 #[.agg #[k,o,no,vk,vi,vt,t,nm,Qv a an ac,Qv s sn sc]] w (Qqd (.bool (false)) w):=by
 have HS:=hid hs;have e5:(k !=5)=true:=by simpa using h5
 have eo:(o !=0)=true:=by simpa using ho
 clear hs h5 ho;go_enter func117,ntmps117;go_upto_region 1 with fail
 generalize hW:Qw w _=W1;have hk0:W1.heap[w.heap.size]?=some (.cells #[k,o,no,vk,vi,vt,t,nm,Qv a an ac,Qv s sn sc] 80 (0,0)):=by rw[←hW];exact Zw w _
 have hb1:Below w.heap.size w W1:=by rw[←hW];exact(Below.refl _ _).alloc (Zz _) _
 have hz:w.heap.size<W1.heap.size:=by rw[←hW];simp
 have HQ:Hid (∀wx,Below W1.heap.size W1 wx→_):=hid fun wx hb=>Qq5 ((hb.block w.heap.size hz).trans hk0);have HB1:=hid hb1;obtain⟨x0,x1,x2,x3,x4,x5,x6,x7,x8,x9,xf,_⟩:=HQ.out _ (Below.refl _ _);clear hW hb1 hk0;go_wp2_with fail
 refine(HS.out _ HB1.out).mono ?_;rintro e w1 ⟨rfl,hb⟩;have HLw1:=hid (hb);clear hb x0 x1 x2 x3 x4 x5 x6 x7 x8 x9 xf;obtain⟨x0,x1,x2,x3,x4,x5,x6,x7,x8,x9,xf,_⟩:=HQ.out _ HLw1.out;dsimp only;go_wp2_with fail
 go_ret;exact⟨rfl,HB1.out.trans (HLw1.out.mono HB1.out.size)⟩
theorem Uvn(hs:∀wx,Below w.heap.size w wx→Calls prog 138 #[.agg #[k,o,no,vk,vi,vt,t,nm,Qv a an ac,Qv s sn sc]] wx (Qqd true wx))(h5:k=5∨o=0)(h6:k≠6)(hno:no=true):
 Calls prog 117 #[.agg #[k,o,no,vk,vi,vt,t,nm,Qv a an ac,Qv s sn sc]] w (Qqd (.bool (false)) w):=by
 have HS:=hid hs;have e6:(k !=6)=true:=by simpa using h6
 clear hs h6;subst hno;rcases h5 with rfl|rfl
 ·go_enter func117,ntmps117;go_upto_region 1 with fail
  generalize hW:Qw w _=W1;have hk0:W1.heap[w.heap.size]?=some (.cells #["5",o,true,vk,vi,vt,t,nm,Qv a an ac,Qv s sn sc] 80 (0,0)):=by rw[←hW];exact Zw w _
  have hb1:Below w.heap.size w W1:=by rw[←hW];exact(Below.refl _ _).alloc (Zz _) _
  have hz:w.heap.size<W1.heap.size:=by rw[←hW];simp
  have HQ:Hid (∀wx,Below W1.heap.size W1 wx→_):=hid fun wx hb=>Qq5 ((hb.block w.heap.size hz).trans hk0);have HB1:=hid hb1;obtain⟨x0,x1,x2,x3,x4,x5,x6,x7,x8,x9,xf,_⟩:=HQ.out _ (Below.refl _ _);clear hW hb1 hk0;go_wp2_with fail
  refine(HS.out _ HB1.out).mono ?_;rintro e w1 ⟨rfl,hb⟩;have HLw1:=hid (hb);clear hb x0 x1 x2 x3 x4 x5 x6 x7 x8 x9 xf;obtain⟨x0,x1,x2,x3,x4,x5,x6,x7,x8,x9,xf,_⟩:=HQ.out _ HLw1.out;dsimp only;go_wp2_with fail
  go_ret;exact⟨rfl,HB1.out.trans (HLw1.out.mono HB1.out.size)⟩
 ·by_cases hk5:k=5
  ·subst hk5;go_enter func117,ntmps117;go_upto_region 1 with fail
   generalize hW:Qw w _=W1;have hk0:W1.heap[w.heap.size]?=some (.cells #["5","0",true,vk,vi,vt,t,nm,Qv a an ac,Qv s sn sc] 80 (0,0)):=by rw[←hW];exact Zw w _
   have hb1:Below w.heap.size w W1:=by rw[←hW];exact(Below.refl _ _).alloc (Zz _) _
   have hz:w.heap.size<W1.heap.size:=by rw[←hW];simp
   have HQ:Hid (∀wx,Below W1.heap.size W1 wx→_):=hid fun wx hb=>Qq5 ((hb.block w.heap.size hz).trans hk0);have HB1:=hid hb1;obtain⟨x0,x1,x2,x3,x4,x5,x6,x7,x8,x9,xf,_⟩:=HQ.out _ (Below.refl _ _);clear hW hb1 hk0;go_wp2_with fail
   refine(HS.out _ HB1.out).mono ?_;rintro e w1 ⟨rfl,hb⟩;have HLw1:=hid (hb);clear hb x0 x1 x2 x3 x4 x5 x6 x7 x8 x9 xf;obtain⟨x0,x1,x2,x3,x4,x5,x6,x7,x8,x9,xf,_⟩:=HQ.out _ HLw1.out;dsimp only;go_wp2_with fail
   go_ret;exact⟨rfl,HB1.out.trans (HLw1.out.mono HB1.out.size)⟩
  ·have e5:(k !=5)=true:=by simpa using hk5
   clear hk5;go_enter func117,ntmps117;go_upto_region 1 with fail
   generalize hW:Qw w _=W1;have hk0:W1.heap[w.heap.size]?=some (.cells #[k,"0",true,vk,vi,vt,t,nm,Qv a an ac,Qv s sn sc] 80 (0,0)):=by rw[←hW];exact Zw w _
   have hb1:Below w.heap.size w W1:=by rw[←hW];exact(Below.refl _ _).alloc (Zz _) _
   have hz:w.heap.size<W1.heap.size:=by rw[←hW];simp
   have HQ:Hid (∀wx,Below W1.heap.size W1 wx→_):=hid fun wx hb=>Qq5 ((hb.block w.heap.size hz).trans hk0);have HB1:=hid hb1;obtain⟨x0,x1,x2,x3,x4,x5,x6,x7,x8,x9,xf,_⟩:=HQ.out _ (Below.refl _ _);clear hW hb1 hk0;go_wp2_with fail
   refine(HS.out _ HB1.out).mono ?_;rintro e w1 ⟨rfl,hb⟩;have HLw1:=hid (hb);clear hb x0 x1 x2 x3 x4 x5 x6 x7 x8 x9 xf;obtain⟨x0,x1,x2,x3,x4,x5,x6,x7,x8,x9,xf,_⟩:=HQ.out _ HLw1.out;dsimp only;go_wp2_with fail
   go_ret;exact⟨rfl,HB1.out.trans (HLw1.out.mono HB1.out.size)⟩
theorem Uy9(hs:∀wx,Below w.heap.size w wx→Calls prog 138 #[.agg #[k,o,no,vk,vi,vt,t,nm,Qv a an ac,Qv s sn sc]] wx (Qqd true wx))(hg:k=1∧o=0∧no=false)(b2:Bool)(hv:∀wx,Calls prog 84 #[.agg #[vk,vi,vt]] wx (Qqd b2 wx)):
 Calls prog 117 #[.agg #[k,o,no,vk,vi,vt,t,nm,Qv a an ac,Qv s sn sc]] w (Qqd (.bool (b2&&!(decide (vk=1)&&decide (vi<0))&&(Qq0 t&&Qq0 nm))) w):=by
 obtain⟨rfl,rfl,rfl⟩:=hg;have HS:=hid hs;have HV:=hid hv;clear hs hv;go_enter func117,ntmps117;go_upto_region 1 with fail
 generalize hW:Qw w _=W1;have hk0:W1.heap[w.heap.size]?=some (.cells #["1","0",false,vk,vi,vt,t,nm,Qv a an ac,Qv s sn sc] 80 (0,0)):=by rw[←hW];exact Zw w _
 have hb1:Below w.heap.size w W1:=by rw[←hW];exact(Below.refl _ _).alloc (Zz _) _
 have hz:w.heap.size<W1.heap.size:=by rw[←hW];simp
 have HQ:Hid (∀wx,Below W1.heap.size W1 wx→_):=hid fun wx hb=>Qq5 ((hb.block w.heap.size hz).trans hk0);have HB1:=hid hb1;obtain⟨x0,x1,x2,x3,x4,x5,x6,x7,x8,x9,xf,_⟩:=HQ.out _ (Below.refl _ _);clear hW hb1 hk0;go_wp2_with fail
 refine(HS.out _ HB1.out).mono ?_;rintro e w1 ⟨rfl,hb⟩;have HLw1:=hid (hb);clear hb x0 x1 x2 x3 x4 x5 x6 x7 x8 x9 xf;obtain⟨x0,x1,x2,x3,x4,x5,x6,x7,x8,x9,xf,_⟩:=HQ.out _ HLw1.out;dsimp only;go_wp2_with fail
 refine(HV.out _).mono ?_;rintro e w2 ⟨rfl,hb⟩;have HLw2:=hid (HLw1.out.trans (hb.mono HLw1.out.size));clear hb x0 x1 x2 x3 x4 x5 x6 x7 x8 x9 xf;obtain⟨x0,x1,x2,x3,x4,x5,x6,x7,x8,x9,xf,_⟩:=HQ.out _ HLw2.out;dsimp only;cases b2
 ·go_wp2_with fail
  go_ret;exact⟨by simp,HB1.out.trans (HLw2.out.mono HB1.out.size)⟩
 ·by_cases hv1:vk=1
  ·obtain rfl:=hv1;by_cases hi:vi<0
   ·have hi':¬(0:Int)≤vi:=by omega
    have HI:=hid hi;clear hi;go_wp2_with fail
    go_ret;exact⟨by simp[HI.out],HB1.out.trans (HLw2.out.mono HB1.out.size)⟩
   ·have hi':(0:Int)≤vi:=by omega
    have HI:=hid hi;clear hi
    rcases Qki t with⟨rfl,ht⟩|⟨ht0,ht⟩
    all_goals have HT:=hid ht
    all_goals clear ht
    ·rcases Qki nm with⟨rfl,hn⟩|⟨hn0,hn⟩
     all_goals have HN:=hid hn
     all_goals clear hn
     ·go_wp2_with fail
      go_ret;exact⟨by simp[HT.out,HN.out,HI.out],HB1.out.trans (HLw2.out.mono HB1.out.size)⟩
     ·go_wp2_with fail
      go_ret;exact⟨by simp[HT.out,HN.out,HI.out],HB1.out.trans (HLw2.out.mono HB1.out.size)⟩
    ·go_wp2_with fail
     go_ret;exact⟨by simp[HT.out,HI.out],HB1.out.trans (HLw2.out.mono HB1.out.size)⟩
  ·have hv1':(vk !=1)=true:=by simpa using hv1
   have HI:=hid hv1;clear hv1
   rcases Qki t with⟨rfl,ht⟩|⟨ht0,ht⟩
   all_goals have HT:=hid ht
   all_goals clear ht
   ·rcases Qki nm with⟨rfl,hn⟩|⟨hn0,hn⟩
    all_goals have HN:=hid hn
    all_goals clear hn
    ·go_wp2_with fail
     go_ret;exact⟨by simp[HT.out,HN.out,HI.out],HB1.out.trans (HLw2.out.mono HB1.out.size)⟩
    ·go_wp2_with fail
     go_ret;exact⟨by simp[HT.out,HN.out,HI.out],HB1.out.trans (HLw2.out.mono HB1.out.size)⟩
   ·go_wp2_with fail
    go_ret;exact⟨by simp[HT.out,HI.out],HB1.out.trans (HLw2.out.mono HB1.out.size)⟩
theorem Kqa(hs:∀wx,Below w.heap.size w wx→Calls prog 138 #[.agg #[k,o,no,vk,vi,vt,t,nm,Qv a an ac,Qv s sn sc]] wx (Qqd true wx))(hg:k=2∧o=0∧no=false)(sb nb tb:Bool)(htb:(Qq0 t||sb||t.toList==[78,69,87]||t.toList==[79,76,68])=tb)(hso:∀wx,Calls prog 81 #[t] wx fun e w'=>e=.returned sb∧wx=w')(hn:∀wx,Calls prog 38 #[nm] wx fun e w'=>e=.returned nb∧wx=w'):
 Calls prog 117 #[.agg #[k,o,no,vk,vi,vt,t,nm,Qv a an ac,Qv s sn sc]] w (Qqd (.bool (tb&&nb&&Qw7 ⟨vk,vi,vt⟩)) w):=by
 obtain⟨rfl,rfl,rfl⟩:=hg;have HS:=hid hs;have HSO:=hid hso;have HN:=hid hn;have HTB:=hid htb;clear hs hso hn htb;go_enter func117,ntmps117;go_upto_region 1 with fail
 generalize hW:Qw w _=W1;have hk0:W1.heap[w.heap.size]?=some (.cells #["2","0",false,vk,vi,vt,t,nm,Qv a an ac,Qv s sn sc] 80 (0,0)):=by rw[←hW];exact Zw w _
 have hb1:Below w.heap.size w W1:=by rw[←hW];exact(Below.refl _ _).alloc (Zz _) _
 have hz:w.heap.size<W1.heap.size:=by rw[←hW];simp
 have HQ:Hid (∀wx,Below W1.heap.size W1 wx→_):=hid fun wx hb=>Qq5 ((hb.block w.heap.size hz).trans hk0);have HB1:=hid hb1;obtain⟨x0,x1,x2,x3,x4,x5,x6,x7,x8,x9,xf,_⟩:=HQ.out _ (Below.refl _ _);clear hW hb1 hk0;go_wp2_with fail
 refine(HS.out _ HB1.out).mono ?_;rintro e w1 ⟨rfl,hb⟩;have HLw1:=hid (hb);clear hb x0 x1 x2 x3 x4 x5 x6 x7 x8 x9 xf;obtain⟨x0,x1,x2,x3,x4,x5,x6,x7,x8,x9,xf,_⟩:=HQ.out _ HLw1.out;dsimp only;go_upto_region 7 with fail
 go_cut [3] (fun v wx=>v=.bool tb∧Below W1.heap.size W1 wx)
 case first=>
  rcases Qki t with⟨rfl,ht⟩|⟨ht0,ht⟩
  all_goals have HT:=hid ht
  all_goals clear ht
  ·go_wp2_with fail
   go_meet
   exact⟨by rw[←HTB.out,HT.out];simp,HLw1.out⟩
  ·go_wp2_with fail
   refine(HSO.out _).mono ?_;rintro e w2 ⟨rfl,rfl⟩;dsimp only;cases sb
   ·cases e2:(t.toList==[78,69,87])
    ·cases e3:(t.toList==[79,76,68])
     ·go_wp2_with fail
      go_meet
      exact⟨by rw[←HTB.out,HT.out,e2,e3];simp,HLw1.out⟩
     ·go_wp2_with fail
      go_meet
      exact⟨by rw[←HTB.out,HT.out,e2,e3];simp,HLw1.out⟩
    ·go_wp2_with fail
     go_meet
     exact⟨by rw[←HTB.out,HT.out,e2];simp,HLw1.out⟩
   ·go_wp2_with fail
    go_meet
    exact⟨by rw[←HTB.out,HT.out];simp,HLw1.out⟩
 case rest=>
  obtain⟨rfl,hbc⟩:=hcut;have HLc:=hid hbc;clear hbc x0 x1 x2 x3 x4 x5 x6 x7 x8 x9 xf;obtain⟨x0,x1,x2,x3,x4,x5,x6,x7,x8,x9,xf,_⟩:=HQ.out _ HLc.out;clear HTB;cases tb
  ·go_wp2_with fail
   go_ret;exact⟨by simp,HB1.out.trans (HLc.out.mono HB1.out.size)⟩
  ·go_wp2_with fail
   refine(HN.out _).mono ?_;rintro e w3 ⟨rfl,rfl⟩;dsimp only;cases nb
   ·go_wp2_with fail
    go_ret;exact⟨by simp,HB1.out.trans (HLc.out.mono HB1.out.size)⟩
   ·by_cases hvk:vk=0
    ·subst hvk;by_cases hvi:vi=0
     ·subst hvi
      rcases Qki vt with⟨rfl,hx⟩|⟨hx0,hx⟩
      all_goals have HX:=hid hx
      all_goals clear hx
      ·go_wp2_with fail
       go_ret;exact⟨by simp[Qw7,HX.out],HB1.out.trans (HLc.out.mono HB1.out.size)⟩
      ·go_wp2_with fail
       go_ret;exact⟨by simp[Qw7,HX.out],HB1.out.trans (HLc.out.mono HB1.out.size)⟩
     ·go_wp2_with fail
      go_ret;exact⟨by simp[Qw7,hvi],HB1.out.trans (HLc.out.mono HB1.out.size)⟩
    ·go_wp2_with fail
     go_ret;exact⟨by simp[Qw7,hvk],HB1.out.trans (HLc.out.mono HB1.out.size)⟩
end
section
variable(k o:Int) (no:Bool) (vk vi:Int) (vt t nm:ByteArray) (a s:Option Addr) (an ac sn sc:Nat) (w:World)
theorem Uvo(hs:∀wx,Below w.heap.size w wx→Calls prog 138 #[.agg #[k,o,no,vk,vi,vt,t,nm,Qv a an ac,Qv s sn sc]] wx (Qqd true wx))(hg:k=5∧no=false∧sn=0)(pb ab:Bool)(hp:∀wx,Calls prog 139 #[.agg #[k,o,no,vk,vi,vt,t,nm,Qv a an ac,Qv s sn sc]] wx (Qqd pb wx))(ha:∀wx,Below w.heap.size w wx→Calls prog 80 #[Qv a an ac] wx (Qqd ab wx)):
 Calls prog 117 #[.agg #[k,o,no,vk,vi,vt,t,nm,Qv a an ac,Qv s sn sc]] w (Qqd (.bool (pb&&ab)) w):=by
 obtain⟨rfl,rfl,rfl⟩:=hg;have HS:=hid hs;have HP:=hid hp;have HA:=hid ha;clear hs hp ha;go_enter func117,ntmps117;go_upto_region 1 with fail
 generalize hW:Qw w _=W1;have hk0:W1.heap[w.heap.size]?=some (.cells #["5",o,false,vk,vi,vt,t,nm,Qv a an ac,Qv s 0 sc] 80 (0,0)):=by rw[←hW];exact Zw w _
 have hb1:Below w.heap.size w W1:=by rw[←hW];exact(Below.refl _ _).alloc (Zz _) _
 have hz:w.heap.size<W1.heap.size:=by rw[←hW];simp
 have HQ:Hid (∀wx,Below W1.heap.size W1 wx→_):=hid fun wx hb=>Qq5 ((hb.block w.heap.size hz).trans hk0);have HB1:=hid hb1;obtain⟨x0,x1,x2,x3,x4,x5,x6,x7,x8,x9,xf,_⟩:=HQ.out _ (Below.refl _ _);clear hW hb1 hk0;go_wp2_with fail
 refine(HS.out _ HB1.out).mono ?_;rintro e w1 ⟨rfl,hb⟩;have HLw1:=hid (hb);clear hb x0 x1 x2 x3 x4 x5 x6 x7 x8 x9 xf;obtain⟨x0,x1,x2,x3,x4,x5,x6,x7,x8,x9,xf,_⟩:=HQ.out _ HLw1.out;dsimp only;go_wp2_with fail
 refine(HP.out _).mono ?_;rintro e w2 ⟨rfl,hb⟩;have HLw2:=hid (HLw1.out.trans (hb.mono HLw1.out.size));clear hb x0 x1 x2 x3 x4 x5 x6 x7 x8 x9 xf;obtain⟨x0,x1,x2,x3,x4,x5,x6,x7,x8,x9,xf,_⟩:=HQ.out _ HLw2.out;dsimp only;cases pb
 ·go_wp2_with fail
  go_ret;exact⟨by simp,HB1.out.trans (HLw2.out.mono HB1.out.size)⟩
 ·go_wp2_with fail
  refine(HA.out _ (HB1.out.trans (HLw2.out.mono HB1.out.size))).mono ?_;rintro e w3 ⟨rfl,hb⟩;have HLw3:=hid (HLw2.out.trans (hb.mono HLw2.out.size));clear hb x0 x1 x2 x3 x4 x5 x6 x7 x8 x9 xf;obtain⟨x0,x1,x2,x3,x4,x5,x6,x7,x8,x9,xf,_⟩:=HQ.out _ HLw3.out;dsimp only;cases ab
  ·go_wp2_with fail
   go_ret;exact⟨by simp,HB1.out.trans (HLw3.out.mono HB1.out.size)⟩
  ·go_wp2_with fail
   refine Ky 1 ?_;rw[Kp];go_wp2_with fail
   go_ret;exact⟨by simp,HB1.out.trans (HLw3.out.mono HB1.out.size)⟩
theorem Uvp(hs:∀wx,Below w.heap.size w wx→Calls prog 138 #[.agg #[k,o,no,vk,vi,vt,t,nm,Qv a an ac,Qv s sn sc]] wx (Qqd true wx))(hg:k=6∧o=0∧sn=0)(pb ab:Bool)(hp:∀wx,Calls prog 139 #[.agg #[k,o,no,vk,vi,vt,t,nm,Qv a an ac,Qv s sn sc]] wx (Qqd pb wx))(ha:∀wx,Below w.heap.size w wx→Calls prog 80 #[Qv a an ac] wx (Qqd ab wx)):
 Calls prog 117 #[.agg #[k,o,no,vk,vi,vt,t,nm,Qv a an ac,Qv s sn sc]] w (Qqd (.bool (pb&&ab)) w):=by
 obtain⟨rfl,rfl,rfl⟩:=hg;have HS:=hid hs;have HP:=hid hp;have HA:=hid ha;clear hs hp ha;go_enter func117,ntmps117;go_upto_region 1 with fail
 generalize hW:Qw w _=W1;have hk0:W1.heap[w.heap.size]?=some (.cells #["6","0",no,vk,vi,vt,t,nm,Qv a an ac,Qv s 0 sc] 80 (0,0)):=by rw[←hW];exact Zw w _
 have hb1:Below w.heap.size w W1:=by rw[←hW];exact(Below.refl _ _).alloc (Zz _) _
 have hz:w.heap.size<W1.heap.size:=by rw[←hW];simp
 have HQ:Hid (∀wx,Below W1.heap.size W1 wx→_):=hid fun wx hb=>Qq5 ((hb.block w.heap.size hz).trans hk0);have HB1:=hid hb1;obtain⟨x0,x1,x2,x3,x4,x5,x6,x7,x8,x9,xf,_⟩:=HQ.out _ (Below.refl _ _);clear hW hb1 hk0;go_wp2_with fail
 refine(HS.out _ HB1.out).mono ?_;rintro e w1 ⟨rfl,hb⟩;have HLw1:=hid (hb);clear hb x0 x1 x2 x3 x4 x5 x6 x7 x8 x9 xf;obtain⟨x0,x1,x2,x3,x4,x5,x6,x7,x8,x9,xf,_⟩:=HQ.out _ HLw1.out;dsimp only;go_wp2_with fail
 refine(HP.out _).mono ?_;rintro e w2 ⟨rfl,hb⟩;have HLw2:=hid (HLw1.out.trans (hb.mono HLw1.out.size));clear hb x0 x1 x2 x3 x4 x5 x6 x7 x8 x9 xf;obtain⟨x0,x1,x2,x3,x4,x5,x6,x7,x8,x9,xf,_⟩:=HQ.out _ HLw2.out;dsimp only;cases pb
 ·go_wp2_with fail
  go_ret;exact⟨by simp,HB1.out.trans (HLw2.out.mono HB1.out.size)⟩
 ·go_wp2_with fail
  refine(HA.out _ (HB1.out.trans (HLw2.out.mono HB1.out.size))).mono ?_;rintro e w3 ⟨rfl,hb⟩;have HLw3:=hid (HLw2.out.trans (hb.mono HLw2.out.size));clear hb x0 x1 x2 x3 x4 x5 x6 x7 x8 x9 xf;obtain⟨x0,x1,x2,x3,x4,x5,x6,x7,x8,x9,xf,_⟩:=HQ.out _ HLw3.out;dsimp only;cases ab
  ·go_wp2_with fail
   go_ret;exact⟨by simp,HB1.out.trans (HLw3.out.mono HB1.out.size)⟩
  ·go_wp2_with fail
   refine Ky 1 ?_;rw[Kp];go_wp2_with fail
   go_ret;exact⟨by simp,HB1.out.trans (HLw3.out.mono HB1.out.size)⟩
theorem Uvq(hs:∀wx,Below w.heap.size w wx→Calls prog 138 #[.agg #[k,o,no,vk,vi,vt,t,nm,Qv a an ac,Qv s sn sc]] wx (Qqd true wx))(e1:(k==1)=false)(e2:(k==2)=false)(e5:(k !=5)=true)(e6:(k !=6)=true)(hg:o=0∧no=false∧sn=0)(pb ab:Bool)(hp:∀wx,Calls prog 139 #[.agg #[k,o,no,vk,vi,vt,t,nm,Qv a an ac,Qv s sn sc]] wx (Qqd pb wx))(ha:∀wx,Below w.heap.size w wx→Calls prog 80 #[Qv a an ac] wx (Qqd ab wx)):
 Calls prog 117 #[.agg #[k,o,no,vk,vi,vt,t,nm,Qv a an ac,Qv s sn sc]] w (Qqd (.bool (pb&&ab)) w):=by
 obtain⟨rfl,rfl,rfl⟩:=hg;have HS:=hid hs;have HP:=hid hp;have HA:=hid ha;clear hs hp ha;go_enter func117,ntmps117;go_upto_region 1 with fail
 generalize hW:Qw w _=W1;have hk0:W1.heap[w.heap.size]?=some (.cells #[k,"0",false,vk,vi,vt,t,nm,Qv a an ac,Qv s 0 sc] 80 (0,0)):=by rw[←hW];exact Zw w _
 have hb1:Below w.heap.size w W1:=by rw[←hW];exact(Below.refl _ _).alloc (Zz _) _
 have hz:w.heap.size<W1.heap.size:=by rw[←hW];simp
 have HQ:Hid (∀wx,Below W1.heap.size W1 wx→_):=hid fun wx hb=>Qq5 ((hb.block w.heap.size hz).trans hk0);have HB1:=hid hb1;obtain⟨x0,x1,x2,x3,x4,x5,x6,x7,x8,x9,xf,_⟩:=HQ.out _ (Below.refl _ _);clear hW hb1 hk0;go_wp2_with fail
 refine(HS.out _ HB1.out).mono ?_;rintro e w1 ⟨rfl,hb⟩;have HLw1:=hid (hb);clear hb x0 x1 x2 x3 x4 x5 x6 x7 x8 x9 xf;obtain⟨x0,x1,x2,x3,x4,x5,x6,x7,x8,x9,xf,_⟩:=HQ.out _ HLw1.out;dsimp only;go_wp2_with fail
 refine(HP.out _).mono ?_;rintro e w2 ⟨rfl,hb⟩;have HLw2:=hid (HLw1.out.trans (hb.mono HLw1.out.size));clear hb x0 x1 x2 x3 x4 x5 x6 x7 x8 x9 xf;obtain⟨x0,x1,x2,x3,x4,x5,x6,x7,x8,x9,xf,_⟩:=HQ.out _ HLw2.out;dsimp only;cases pb
 ·go_wp2_with fail
  go_ret;exact⟨by simp,HB1.out.trans (HLw2.out.mono HB1.out.size)⟩
 ·go_wp2_with fail
  refine(HA.out _ (HB1.out.trans (HLw2.out.mono HB1.out.size))).mono ?_;rintro e w3 ⟨rfl,hb⟩;have HLw3:=hid (HLw2.out.trans (hb.mono HLw2.out.size));clear hb x0 x1 x2 x3 x4 x5 x6 x7 x8 x9 xf;obtain⟨x0,x1,x2,x3,x4,x5,x6,x7,x8,x9,xf,_⟩:=HQ.out _ HLw3.out;dsimp only;cases ab
  ·go_wp2_with fail
   go_ret;exact⟨by simp,HB1.out.trans (HLw3.out.mono HB1.out.size)⟩
  ·go_wp2_with fail
   refine Ky 1 ?_;rw[Kp];go_wp2_with fail
   go_ret;exact⟨by simp,HB1.out.trans (HLw3.out.mono HB1.out.size)⟩
theorem Kqb(hs:∀wx,Below w.heap.size w wx→Calls prog 138 #[.agg #[k,o,no,vk,vi,vt,t,nm,Qv a an ac,Qv s sn sc]] wx (Qqd true wx))(pb ab:Bool)(hp:∀wx,Calls prog 139 #[.agg #[k,o,no,vk,vi,vt,t,nm,Qv a an ac,Qv s sn sc]] wx (Qqd pb wx))(ha:∀wx,Below w.heap.size w wx→Calls prog 80 #[Qv a an ac] wx (Qqd ab wx))(qb qo:Nat)(st:Bool)(f:ByteArray)(ia wa:Option Addr)(il wl ic wc:Nat)(hqb:qb<w.heap.size)(sb ib wb:Bool)
 (c0:w.cell? ⟨qb,qo,none⟩=some (.bool st))(c1:w.cell? ⟨qb,qo+1,none⟩=some (Qv ia il ic))(c2:w.cell? ⟨qb,qo+2,none⟩=some (.string f))(c3:w.cell? ⟨qb,qo+3,none⟩=some (Qv wa wl wc))
 (hso:∀wx,Calls prog 81 #[f] wx fun e w'=>e=.returned sb∧wx=w')
 (hi:∀wx,Below w.heap.size w wx→Calls prog 80 #[Qv ia il ic] wx (Qqd ib wx))
 (hw:∀wx,Below w.heap.size w wx→Calls prog 80 #[Qv wa wl wc] wx (Qqd wb wx))(hg:o=0∧no=false∧st=true∧s=some ⟨qb,qo,none⟩∧sn=1∧an=0∧k=8):
 Calls prog 117 #[.agg #[k,o,no,vk,vi,vt,t,nm,Qv a an ac,Qv s sn sc]] w (Qqd (.bool (pb&&ab&&(sb&&ib&&wb))) w):=by
 obtain⟨rfl,rfl,rfl,rfl,rfl,rfl,rfl⟩:=hg;have HS:=hid hs;have HP:=hid hp;have HA:=hid ha;clear hs hp ha;have HSO:=hid hso;have HI:=hid hi;have HW:=hid hw;clear hso hi hw;have HD:Hid (∀wx,Below w.heap.size w wx→_):=hid fun wx hb=>Ze ((hb.cell (p:=⟨qb,qo,none⟩) hqb).trans c0) (Ze ((hb.cell (p:=⟨qb,qo+1,none⟩) hqb).trans c1) (Ze ((hb.cell (p:=⟨qb,qo+2,none⟩) hqb).trans c2) ((hb.cell (p:=⟨qb,qo+3,none⟩) hqb).trans c3)));clear c0 c1 c2 c3;go_enter func117,ntmps117;go_upto_region 1 with fail
 generalize hW:Qw w _=W1;have hk0:W1.heap[w.heap.size]?=some (.cells #["8","0",false,vk,vi,vt,t,nm,Qv a 0 ac,Qv (some ⟨qb,qo,none⟩) 1 sc] 80 (0,0)):=by rw[←hW];exact Zw w _
 have hb1:Below w.heap.size w W1:=by rw[←hW];exact(Below.refl _ _).alloc (Zz _) _
 have hz:w.heap.size<W1.heap.size:=by rw[←hW];simp
 have HQ:Hid (∀wx,Below W1.heap.size W1 wx→_):=hid fun wx hb=>Qq5 ((hb.block w.heap.size hz).trans hk0);have HB1:=hid hb1;obtain⟨x0,x1,x2,x3,x4,x5,x6,x7,x8,x9,xf,_⟩:=HQ.out _ (Below.refl _ _);clear hW hb1 hk0;go_wp2_with fail
 refine(HS.out _ HB1.out).mono ?_;rintro e w1 ⟨rfl,hb⟩;have HLw1:=hid (hb);clear hb x0 x1 x2 x3 x4 x5 x6 x7 x8 x9 xf;obtain⟨x0,x1,x2,x3,x4,x5,x6,x7,x8,x9,xf,_⟩:=HQ.out _ HLw1.out;dsimp only;go_wp2_with fail
 refine(HP.out _).mono ?_;rintro e w2 ⟨rfl,hb⟩;have HLw2:=hid (HLw1.out.trans (hb.mono HLw1.out.size));clear hb x0 x1 x2 x3 x4 x5 x6 x7 x8 x9 xf;obtain⟨x0,x1,x2,x3,x4,x5,x6,x7,x8,x9,xf,_⟩:=HQ.out _ HLw2.out;dsimp only;cases pb
 ·go_wp2_with fail
  go_ret;exact⟨by simp,HB1.out.trans (HLw2.out.mono HB1.out.size)⟩
 ·go_wp2_with fail
  refine(HA.out _ (HB1.out.trans (HLw2.out.mono HB1.out.size))).mono ?_;rintro e w3 ⟨rfl,hb⟩;have HLw3:=hid (HLw2.out.trans (hb.mono HLw2.out.size));clear hb x0 x1 x2 x3 x4 x5 x6 x7 x8 x9 xf;obtain⟨x0,x1,x2,x3,x4,x5,x6,x7,x8,x9,xf,_⟩:=HQ.out _ HLw3.out;dsimp only;cases ab
  ·go_wp2_with fail
   go_ret;exact⟨by simp,HB1.out.trans (HLw3.out.mono HB1.out.size)⟩
  ·obtain⟨d0,d1,d2,d3⟩:=HD.out _ (HB1.out.trans (HLw3.out.mono HB1.out.size));go_wp2_with fail
   refine Ky 2 ?_;rw[Kp];go_wp2_with fail
   generalize hW4:Qw w3 _=W4
   have hq4:∀wx,Below W4.heap.size W4 wx→wx.cell? ⟨w3.heap.size,0,none⟩=some (.bool true)∧wx.cell? ⟨w3.heap.size,1,none⟩=some (Qv ia il ic)∧wx.cell? ⟨w3.heap.size,2,none⟩=some (.string f)∧wx.cell? ⟨w3.heap.size,3,none⟩=some (Qv wa wl wc):=by
    intro wx hb;have hz4:w3.heap.size<W4.heap.size:=by rw[←hW4];simp
    rw[hb.cell (p:=⟨w3.heap.size,0,none⟩) hz4,hb.cell (p:=⟨w3.heap.size,1,none⟩) hz4,hb.cell (p:=⟨w3.heap.size,2,none⟩) hz4,hb.cell (p:=⟨w3.heap.size,3,none⟩) hz4,←hW4];refine⟨?_,?_,?_,?_⟩<;>simp
   have hb4:Below w.heap.size w W4:=by rw[←hW4];exact(HB1.out.trans (HLw3.out.mono HB1.out.size)).alloc (HB1.out.trans (HLw3.out.mono HB1.out.size)).size _
   have HQ4:=hid hq4;have HB4:=hid hb4;clear hq4 hb4 hW4 x0 x1 x2 x3 x4 x5 x6 x7 x8 x9 xf d0 d1 d2 d3;obtain⟨y0,y1,y2,y3⟩:=HQ4.out _ (Below.refl _ _);refine(HSO.out _).mono ?_;rintro e w4 ⟨rfl,rfl⟩;dsimp only;cases sb
   ·go_wp2_with fail
    go_ret;exact⟨by simp,HB4.out⟩
   ·go_wp2_with fail
    refine(HI.out _ HB4.out).mono ?_;rintro e w5 ⟨rfl,hb⟩;have HL5:=hid hb;have HB5:=hid (HB4.out.trans (hb.mono HB4.out.size));clear hb y0 y1 y2 y3;obtain⟨y0,y1,y2,y3⟩:=HQ4.out _ HL5.out;dsimp only;cases ib
    ·go_wp2_with fail
     go_ret;exact⟨by simp,HB5.out⟩
    ·go_wp2_with fail
     refine(HW.out _ HB5.out).mono ?_;rintro e w6 ⟨rfl,hb⟩;have HB6:=hid (HB5.out.trans (hb.mono HB5.out.size));clear hb y0 y1 y2 y3;dsimp only;cases wb
     ·go_wp2_with fail
      go_ret;exact⟨by simp,HB6.out⟩
     ·go_wp2_with fail
      rw[Kp];go_wp2_with fail
      go_ret;exact⟨by simp,HB6.out⟩
theorem Kqc(hs:∀wx,Below w.heap.size w wx→Calls prog 138 #[.agg #[k,o,no,vk,vi,vt,t,nm,Qv a an ac,Qv s sn sc]] wx (Qqd true wx))(pb ab:Bool)(hp:∀wx,Calls prog 139 #[.agg #[k,o,no,vk,vi,vt,t,nm,Qv a an ac,Qv s sn sc]] wx (Qqd pb wx))(ha:∀wx,Below w.heap.size w wx→Calls prog 80 #[Qv a an ac] wx (Qqd ab wx))(qb qo:Nat)(st:Bool)(f:ByteArray)(ia wa:Option Addr)(il wl ic wc:Nat)(hqb:qb<w.heap.size)(sb ib wb:Bool)
 (c0:w.cell? ⟨qb,qo,none⟩=some (.bool st))(c1:w.cell? ⟨qb,qo+1,none⟩=some (Qv ia il ic))(c2:w.cell? ⟨qb,qo+2,none⟩=some (.string f))(c3:w.cell? ⟨qb,qo+3,none⟩=some (Qv wa wl wc))
 (hso:∀wx,Calls prog 81 #[f] wx fun e w'=>e=.returned sb∧wx=w')
 (hi:∀wx,Below w.heap.size w wx→Calls prog 80 #[Qv ia il ic] wx (Qqd ib wx))
 (hw:∀wx,Below w.heap.size w wx→Calls prog 80 #[Qv wa wl wc] wx (Qqd wb wx))(hg:o=0∧no=false∧st=false∧s=some ⟨qb,qo,none⟩∧sn=1∧an=0∧k=8):
 Calls prog 117 #[.agg #[k,o,no,vk,vi,vt,t,nm,Qv a an ac,Qv s sn sc]] w (Qqd (.bool (pb&&ab&&false)) w):=by
 obtain⟨rfl,rfl,rfl,rfl,rfl,rfl,rfl⟩:=hg;have HS:=hid hs;have HP:=hid hp;have HA:=hid ha;clear hs hp ha;have HSO:=hid hso;have HI:=hid hi;have HW:=hid hw;clear hso hi hw;have HD:Hid (∀wx,Below w.heap.size w wx→_):=hid fun wx hb=>Ze ((hb.cell (p:=⟨qb,qo,none⟩) hqb).trans c0) (Ze ((hb.cell (p:=⟨qb,qo+1,none⟩) hqb).trans c1) (Ze ((hb.cell (p:=⟨qb,qo+2,none⟩) hqb).trans c2) ((hb.cell (p:=⟨qb,qo+3,none⟩) hqb).trans c3)));clear c0 c1 c2 c3;go_enter func117,ntmps117;go_upto_region 1 with fail
 generalize hW:Qw w _=W1;have hk0:W1.heap[w.heap.size]?=some (.cells #["8","0",false,vk,vi,vt,t,nm,Qv a 0 ac,Qv (some ⟨qb,qo,none⟩) 1 sc] 80 (0,0)):=by rw[←hW];exact Zw w _
 have hb1:Below w.heap.size w W1:=by rw[←hW];exact(Below.refl _ _).alloc (Zz _) _
 have hz:w.heap.size<W1.heap.size:=by rw[←hW];simp
 have HQ:Hid (∀wx,Below W1.heap.size W1 wx→_):=hid fun wx hb=>Qq5 ((hb.block w.heap.size hz).trans hk0);have HB1:=hid hb1;obtain⟨x0,x1,x2,x3,x4,x5,x6,x7,x8,x9,xf,_⟩:=HQ.out _ (Below.refl _ _);clear hW hb1 hk0;go_wp2_with fail
 refine(HS.out _ HB1.out).mono ?_;rintro e w1 ⟨rfl,hb⟩;have HLw1:=hid (hb);clear hb x0 x1 x2 x3 x4 x5 x6 x7 x8 x9 xf;obtain⟨x0,x1,x2,x3,x4,x5,x6,x7,x8,x9,xf,_⟩:=HQ.out _ HLw1.out;dsimp only;go_wp2_with fail
 refine(HP.out _).mono ?_;rintro e w2 ⟨rfl,hb⟩;have HLw2:=hid (HLw1.out.trans (hb.mono HLw1.out.size));clear hb x0 x1 x2 x3 x4 x5 x6 x7 x8 x9 xf;obtain⟨x0,x1,x2,x3,x4,x5,x6,x7,x8,x9,xf,_⟩:=HQ.out _ HLw2.out;dsimp only;cases pb
 ·go_wp2_with fail
  go_ret;exact⟨by simp,HB1.out.trans (HLw2.out.mono HB1.out.size)⟩
 ·go_wp2_with fail
  refine(HA.out _ (HB1.out.trans (HLw2.out.mono HB1.out.size))).mono ?_;rintro e w3 ⟨rfl,hb⟩;have HLw3:=hid (HLw2.out.trans (hb.mono HLw2.out.size));clear hb x0 x1 x2 x3 x4 x5 x6 x7 x8 x9 xf;obtain⟨x0,x1,x2,x3,x4,x5,x6,x7,x8,x9,xf,_⟩:=HQ.out _ HLw3.out;dsimp only;cases ab
  ·go_wp2_with fail
   go_ret;exact⟨by simp,HB1.out.trans (HLw3.out.mono HB1.out.size)⟩
  ·obtain⟨d0,d1,d2,d3⟩:=HD.out _ (HB1.out.trans (HLw3.out.mono HB1.out.size));go_wp2_with fail
   refine Ky 2 ?_;rw[Kp];go_wp2_with fail
   go_ret;exact⟨by simp,(HB1.out.trans (HLw3.out.mono HB1.out.size)).alloc (HB1.out.trans (HLw3.out.mono HB1.out.size)).size _⟩
theorem Kqd(hs:∀wx,Below w.heap.size w wx→Calls prog 138 #[.agg #[k,o,no,vk,vi,vt,t,nm,Qv a an ac,Qv s sn sc]] wx (Qqd true wx))(pb ab:Bool)(hp:∀wx,Calls prog 139 #[.agg #[k,o,no,vk,vi,vt,t,nm,Qv a an ac,Qv s sn sc]] wx (Qqd pb wx))(ha:∀wx,Below w.heap.size w wx→Calls prog 80 #[Qv a an ac] wx (Qqd ab wx))(qb qo:Nat)(st:Bool)(f:ByteArray)(ia wa:Option Addr)(il wl ic wc:Nat)(hqb:qb<w.heap.size)(sb ib wb:Bool)
 (c0:w.cell? ⟨qb,qo,none⟩=some (.bool st))(c1:w.cell? ⟨qb,qo+1,none⟩=some (Qv ia il ic))(c2:w.cell? ⟨qb,qo+2,none⟩=some (.string f))(c3:w.cell? ⟨qb,qo+3,none⟩=some (Qv wa wl wc))
 (hso:∀wx,Calls prog 81 #[f] wx fun e w'=>e=.returned sb∧wx=w')
 (hi:∀wx,Below w.heap.size w wx→Calls prog 80 #[Qv ia il ic] wx (Qqd ib wx))
 (hw:∀wx,Below w.heap.size w wx→Calls prog 80 #[Qv wa wl wc] wx (Qqd wb wx))(hg:o=0∧no=false∧st=false∧s=some ⟨qb,qo,none⟩∧sn=1∧an=0)(e1:(k==1)=false)(e2:(k==2)=false)(e5:(k !=5)=true)(e6:(k !=6)=true)(e8:(k==8)=false):
 Calls prog 117 #[.agg #[k,o,no,vk,vi,vt,t,nm,Qv a an ac,Qv s sn sc]] w (Qqd (.bool (pb&&ab&&(sb&&ib&&wb))) w):=by
 obtain⟨rfl,rfl,rfl,rfl,rfl,rfl⟩:=hg;have HS:=hid hs;have HP:=hid hp;have HA:=hid ha;clear hs hp ha;have HSO:=hid hso;have HI:=hid hi;have HW:=hid hw;clear hso hi hw;have HD:Hid (∀wx,Below w.heap.size w wx→_):=hid fun wx hb=>Ze ((hb.cell (p:=⟨qb,qo,none⟩) hqb).trans c0) (Ze ((hb.cell (p:=⟨qb,qo+1,none⟩) hqb).trans c1) (Ze ((hb.cell (p:=⟨qb,qo+2,none⟩) hqb).trans c2) ((hb.cell (p:=⟨qb,qo+3,none⟩) hqb).trans c3)));clear c0 c1 c2 c3;go_enter func117,ntmps117;go_upto_region 1 with fail
 generalize hW:Qw w _=W1;have hk0:W1.heap[w.heap.size]?=some (.cells #[k,"0",false,vk,vi,vt,t,nm,Qv a 0 ac,Qv (some ⟨qb,qo,none⟩) 1 sc] 80 (0,0)):=by rw[←hW];exact Zw w _
 have hb1:Below w.heap.size w W1:=by rw[←hW];exact(Below.refl _ _).alloc (Zz _) _
 have hz:w.heap.size<W1.heap.size:=by rw[←hW];simp
 have HQ:Hid (∀wx,Below W1.heap.size W1 wx→_):=hid fun wx hb=>Qq5 ((hb.block w.heap.size hz).trans hk0);have HB1:=hid hb1;obtain⟨x0,x1,x2,x3,x4,x5,x6,x7,x8,x9,xf,_⟩:=HQ.out _ (Below.refl _ _);clear hW hb1 hk0;go_wp2_with fail
 refine(HS.out _ HB1.out).mono ?_;rintro e w1 ⟨rfl,hb⟩;have HLw1:=hid (hb);clear hb x0 x1 x2 x3 x4 x5 x6 x7 x8 x9 xf;obtain⟨x0,x1,x2,x3,x4,x5,x6,x7,x8,x9,xf,_⟩:=HQ.out _ HLw1.out;dsimp only;go_wp2_with fail
 refine(HP.out _).mono ?_;rintro e w2 ⟨rfl,hb⟩;have HLw2:=hid (HLw1.out.trans (hb.mono HLw1.out.size));clear hb x0 x1 x2 x3 x4 x5 x6 x7 x8 x9 xf;obtain⟨x0,x1,x2,x3,x4,x5,x6,x7,x8,x9,xf,_⟩:=HQ.out _ HLw2.out;dsimp only;cases pb
 ·go_wp2_with fail
  go_ret;exact⟨by simp,HB1.out.trans (HLw2.out.mono HB1.out.size)⟩
 ·go_wp2_with fail
  refine(HA.out _ (HB1.out.trans (HLw2.out.mono HB1.out.size))).mono ?_;rintro e w3 ⟨rfl,hb⟩;have HLw3:=hid (HLw2.out.trans (hb.mono HLw2.out.size));clear hb x0 x1 x2 x3 x4 x5 x6 x7 x8 x9 xf;obtain⟨x0,x1,x2,x3,x4,x5,x6,x7,x8,x9,xf,_⟩:=HQ.out _ HLw3.out;dsimp only;cases ab
  ·go_wp2_with fail
   go_ret;exact⟨by simp,HB1.out.trans (HLw3.out.mono HB1.out.size)⟩
  ·obtain⟨d0,d1,d2,d3⟩:=HD.out _ (HB1.out.trans (HLw3.out.mono HB1.out.size));go_wp2_with fail
   refine Ky 2 ?_;rw[Kp];go_wp2_with fail
   generalize hW4:Qw w3 _=W4
   have hq4:∀wx,Below W4.heap.size W4 wx→wx.cell? ⟨w3.heap.size,0,none⟩=some (.bool false)∧wx.cell? ⟨w3.heap.size,1,none⟩=some (Qv ia il ic)∧wx.cell? ⟨w3.heap.size,2,none⟩=some (.string f)∧wx.cell? ⟨w3.heap.size,3,none⟩=some (Qv wa wl wc):=by
    intro wx hb;have hz4:w3.heap.size<W4.heap.size:=by rw[←hW4];simp
    rw[hb.cell (p:=⟨w3.heap.size,0,none⟩) hz4,hb.cell (p:=⟨w3.heap.size,1,none⟩) hz4,hb.cell (p:=⟨w3.heap.size,2,none⟩) hz4,hb.cell (p:=⟨w3.heap.size,3,none⟩) hz4,←hW4];refine⟨?_,?_,?_,?_⟩<;>simp
   have hb4:Below w.heap.size w W4:=by rw[←hW4];exact(HB1.out.trans (HLw3.out.mono HB1.out.size)).alloc (HB1.out.trans (HLw3.out.mono HB1.out.size)).size _
   have HQ4:=hid hq4;have HB4:=hid hb4;clear hq4 hb4 hW4 x0 x1 x2 x3 x4 x5 x6 x7 x8 x9 xf d0 d1 d2 d3;obtain⟨y0,y1,y2,y3⟩:=HQ4.out _ (Below.refl _ _);refine(HSO.out _).mono ?_;rintro e w4 ⟨rfl,rfl⟩;dsimp only;cases sb
   ·go_wp2_with fail
    go_ret;exact⟨by simp,HB4.out⟩
   ·go_wp2_with fail
    refine(HI.out _ HB4.out).mono ?_;rintro e w5 ⟨rfl,hb⟩;have HL5:=hid hb;have HB5:=hid (HB4.out.trans (hb.mono HB4.out.size));clear hb y0 y1 y2 y3;obtain⟨y0,y1,y2,y3⟩:=HQ4.out _ HL5.out;dsimp only;cases ib
    ·go_wp2_with fail
     go_ret;exact⟨by simp,HB5.out⟩
    ·go_wp2_with fail
     refine(HW.out _ HB5.out).mono ?_;rintro e w6 ⟨rfl,hb⟩;have HB6:=hid (HB5.out.trans (hb.mono HB5.out.size));clear hb y0 y1 y2 y3;dsimp only;cases wb
     ·go_wp2_with fail
      go_ret;exact⟨by simp,HB6.out⟩
     ·go_wp2_with fail
      rw[Kp];go_wp2_with fail
      go_ret;exact⟨by simp,HB6.out⟩
theorem Kqe(hs:∀wx,Below w.heap.size w wx→Calls prog 138 #[.agg #[k,o,no,vk,vi,vt,t,nm,Qv a an ac,Qv s sn sc]] wx (Qqd true wx))(pb ab:Bool)(hp:∀wx,Calls prog 139 #[.agg #[k,o,no,vk,vi,vt,t,nm,Qv a an ac,Qv s sn sc]] wx (Qqd pb wx))(ha:∀wx,Below w.heap.size w wx→Calls prog 80 #[Qv a an ac] wx (Qqd ab wx))(qb qo:Nat)(st:Bool)(f:ByteArray)(ia wa:Option Addr)(il wl ic wc:Nat)(hqb:qb<w.heap.size)(sb ib wb:Bool)
 (c0:w.cell? ⟨qb,qo,none⟩=some (.bool st))(c1:w.cell? ⟨qb,qo+1,none⟩=some (Qv ia il ic))(c2:w.cell? ⟨qb,qo+2,none⟩=some (.string f))(c3:w.cell? ⟨qb,qo+3,none⟩=some (Qv wa wl wc))
 (hso:∀wx,Calls prog 81 #[f] wx fun e w'=>e=.returned sb∧wx=w')
 (hi:∀wx,Below w.heap.size w wx→Calls prog 80 #[Qv ia il ic] wx (Qqd ib wx))
 (hw:∀wx,Below w.heap.size w wx→Calls prog 80 #[Qv wa wl wc] wx (Qqd wb wx))(hg:o=0∧no=false∧st=true∧s=some ⟨qb,qo,none⟩∧sn=1∧an=0)(e1:(k==1)=false)(e2:(k==2)=false)(e5:(k !=5)=true)(e6:(k !=6)=true)(e8:(k==8)=false):
 Calls prog 117 #[.agg #[k,o,no,vk,vi,vt,t,nm,Qv a an ac,Qv s sn sc]] w (Qqd (.bool (pb&&ab&&false)) w):=by
 obtain⟨rfl,rfl,rfl,rfl,rfl,rfl⟩:=hg;have HS:=hid hs;have HP:=hid hp;have HA:=hid ha;clear hs hp ha;have HSO:=hid hso;have HI:=hid hi;have HW:=hid hw;clear hso hi hw;have HD:Hid (∀wx,Below w.heap.size w wx→_):=hid fun wx hb=>Ze ((hb.cell (p:=⟨qb,qo,none⟩) hqb).trans c0) (Ze ((hb.cell (p:=⟨qb,qo+1,none⟩) hqb).trans c1) (Ze ((hb.cell (p:=⟨qb,qo+2,none⟩) hqb).trans c2) ((hb.cell (p:=⟨qb,qo+3,none⟩) hqb).trans c3)));clear c0 c1 c2 c3;go_enter func117,ntmps117;go_upto_region 1 with fail
 generalize hW:Qw w _=W1;have hk0:W1.heap[w.heap.size]?=some (.cells #[k,"0",false,vk,vi,vt,t,nm,Qv a 0 ac,Qv (some ⟨qb,qo,none⟩) 1 sc] 80 (0,0)):=by rw[←hW];exact Zw w _
 have hb1:Below w.heap.size w W1:=by rw[←hW];exact(Below.refl _ _).alloc (Zz _) _
 have hz:w.heap.size<W1.heap.size:=by rw[←hW];simp
 have HQ:Hid (∀wx,Below W1.heap.size W1 wx→_):=hid fun wx hb=>Qq5 ((hb.block w.heap.size hz).trans hk0);have HB1:=hid hb1;obtain⟨x0,x1,x2,x3,x4,x5,x6,x7,x8,x9,xf,_⟩:=HQ.out _ (Below.refl _ _);clear hW hb1 hk0;go_wp2_with fail
 refine(HS.out _ HB1.out).mono ?_;rintro e w1 ⟨rfl,hb⟩;have HLw1:=hid (hb);clear hb x0 x1 x2 x3 x4 x5 x6 x7 x8 x9 xf;obtain⟨x0,x1,x2,x3,x4,x5,x6,x7,x8,x9,xf,_⟩:=HQ.out _ HLw1.out;dsimp only;go_wp2_with fail
 refine(HP.out _).mono ?_;rintro e w2 ⟨rfl,hb⟩;have HLw2:=hid (HLw1.out.trans (hb.mono HLw1.out.size));clear hb x0 x1 x2 x3 x4 x5 x6 x7 x8 x9 xf;obtain⟨x0,x1,x2,x3,x4,x5,x6,x7,x8,x9,xf,_⟩:=HQ.out _ HLw2.out;dsimp only;cases pb
 ·go_wp2_with fail
  go_ret;exact⟨by simp,HB1.out.trans (HLw2.out.mono HB1.out.size)⟩
 ·go_wp2_with fail
  refine(HA.out _ (HB1.out.trans (HLw2.out.mono HB1.out.size))).mono ?_;rintro e w3 ⟨rfl,hb⟩;have HLw3:=hid (HLw2.out.trans (hb.mono HLw2.out.size));clear hb x0 x1 x2 x3 x4 x5 x6 x7 x8 x9 xf;obtain⟨x0,x1,x2,x3,x4,x5,x6,x7,x8,x9,xf,_⟩:=HQ.out _ HLw3.out;dsimp only;cases ab
  ·go_wp2_with fail
   go_ret;exact⟨by simp,HB1.out.trans (HLw3.out.mono HB1.out.size)⟩
  ·obtain⟨d0,d1,d2,d3⟩:=HD.out _ (HB1.out.trans (HLw3.out.mono HB1.out.size));go_wp2_with fail
   refine Ky 2 ?_;rw[Kp];go_wp2_with fail
   go_ret;exact⟨by simp,(HB1.out.trans (HLw3.out.mono HB1.out.size)).alloc (HB1.out.trans (HLw3.out.mono HB1.out.size)).size _⟩
end
theorem Qwf{k o:Int}{an:Nat}{sub:List Qu}(h:Qwo k o an sub=true):
 ((k=1∨k=2)→an=0∧sub=[])∧((k=3∨k=4∨k=6)→an=1∧sub=[])∧(k=5→1≤o∧o≤13∧an=2∧sub=[])∧(k=7→an=3∧sub=[])∧
   ((8≤k∧k≤12)→an=0∧∃q,sub=[q]∧q.items.length=(if k=8∨k=9 then 0 else 1)∧q.whr.length≤1)∧1≤k∧k≤12:=by
 unfold Qwo at h;by_cases h1:k=1∨k=2
 ·rw[if_pos h1] at h;simp only[Yx,Zu,Jc] at h;exact⟨fun _=>h,fun _=>by omega,fun _=>by omega,fun _=>by omega,fun _=>by omega,by omega,by omega⟩
 rw[if_neg h1] at h;by_cases h3:k=3∨k=4∨k=6
 ·rw[if_pos h3] at h;simp only[Yx,Zu,Jc] at h;exact⟨fun _=>by omega,fun _=>h,fun _=>by omega,fun _=>by omega,fun _=>by omega,by omega,by omega⟩
 rw[if_neg h3] at h;by_cases h5:k=5
 ·rw[if_pos h5] at h;simp only[Yx,Zu,Jc] at h;exact⟨fun _=>by omega,fun _=>by omega,fun _=>⟨h.1.1.1,h.1.1.2,h.1.2,h.2⟩,fun _=>by omega,fun _=>by omega,by omega,by omega⟩
 rw[if_neg h5] at h;by_cases h7:k=7
 ·rw[if_pos h7] at h;simp only[Yx,Zu,Jc] at h;exact⟨fun _=>by omega,fun _=>by omega,fun _=>by omega,fun _=>h,fun _=>by omega,by omega,by omega⟩
 rw[if_neg h7] at h;by_cases h8:8≤k∧k≤12
 ·rw[if_pos h8] at h;simp only[Yx,Zu] at h;refine⟨fun _=>by omega,fun _=>by omega,fun _=>by omega,fun _=>by omega,fun _=>⟨h.1,?_⟩,by omega,by omega⟩;have hs:=h.2
  rcases sub with _|⟨q,_|⟨q2,l⟩⟩
  ·cases hs
  ·simp only[Jjd,Yx,Zu] at hs;exact⟨q,rfl,hs⟩
  ·cases hs
 ·rw[if_neg h8] at h;cases h
theorem Jwa{e:Ex}(h:Qzn e=true):Qwo e.kind e.op e.args.length e.sub=true:=by
 rw[Qx2] at h;unfold Qwo;by_cases h1:e.kind=1
 ·rw[if_pos h1] at h;simp only[Yx,Zu] at h;rw[if_pos (.inl h1),h.1.1.1.2,h.1.1.2];rfl
 rw[if_neg h1] at h;by_cases h2:e.kind=2
 ·rw[if_pos h2] at h;simp only[Yx,Zu] at h;rw[if_pos (.inr h2),h.1.1.2,h.1.2];rfl
 rw[if_neg h2] at h;rw[if_neg (by omega:¬(e.kind=1∨e.kind=2))];by_cases h8:8≤e.kind∧e.kind≤12
 ·rw[if_pos h8] at h;simp only[Yx,Zu] at h;rw[if_neg (by omega),if_neg (by omega),if_neg (by omega),if_pos h8,h.1.1.2];have hl:=h.1.2;have hv:=h.2;obtain⟨q,hq⟩:=List.length_eq_one_iff.1 hl;rw[hq] at hv⊢;obtain⟨st,it,f,wh⟩:=q;rw[Jz7] at hv;simp only[Yx,Zu] at hv;simp only[Jjd,Yx,Zu];exact⟨trivial,hv.1.1.1.1.1.2,hv.1.1.1.2⟩
 rw[if_neg h8] at h;by_cases h5:e.kind=5
 ·rw[if_pos h5] at h;simp only[Yx,Zu] at h;rw[if_neg (by omega),if_pos h5];simp only[Yx,Zu];exact⟨⟨⟨h.1.1.1.1.1.1.1,h.1.1.1.1.1.1.2⟩,h.1.2⟩,h.1.1.2⟩
 rw[if_neg h5] at h;by_cases h6:e.kind=6
 ·rw[if_pos h6] at h;simp only[Yx,Zu] at h;rw[if_pos (by omega),h.1.1.2,h.1.2];rfl
 rw[if_neg h6] at h;simp only[Yx,Zu] at h;have hl:=h.1.2;by_cases h3:e.kind=3∨e.kind=4
 ·rw[if_pos h3] at hl;rw[if_pos (by omega),h.1.1.2,show e.args.length=1 by omega];rfl
 ·rw[if_neg h3] at hl;by_cases h7:e.kind=7
  ·rw[if_pos h7] at hl;rw[if_neg (by omega),if_neg (by omega),if_pos h7,h.1.1.2,show e.args.length=3 by omega];rfl
  ·rw[if_neg h7] at hl;omega
theorem Yxc{e:Ex}(h:Qzn e=true):(e.kind≠5→e.op=0)∧(e.kind≠6→e.no=false):=by
 rw[Qx2] at h;by_cases h1:e.kind=1
 ·rw[if_pos h1] at h;simp only[Yx,Zu,Kr] at h;exact⟨fun _=>h.1.1.1.1.1.1,fun _=>h.1.1.1.1.1.2⟩
 rw[if_neg h1] at h;by_cases h2:e.kind=2
 ·rw[if_pos h2] at h;simp only[Yx,Zu,Kr] at h;exact⟨fun _=>h.1.1.1.1.1,fun _=>h.1.1.1.1.2⟩
 rw[if_neg h2] at h;by_cases h8:8≤e.kind∧e.kind≤12
 ·rw[if_pos h8] at h;simp only[Yx,Zu,Kr] at h;exact⟨fun _=>h.1.1.1.1.1.1,fun _=>h.1.1.1.1.1.2⟩
 rw[if_neg h8] at h;by_cases h5:e.kind=5
 ·rw[if_pos h5] at h;simp only[Yx,Zu,Kr] at h;exact⟨fun h=>absurd h5 h,fun _=>h.1.1.1.1.1.2⟩
 rw[if_neg h5] at h;by_cases h6:e.kind=6
 ·rw[if_pos h6] at h;simp only[Yx,Zu] at h;exact⟨fun _=>h.1.1.1.1.1,fun h=>absurd h6 h⟩
 rw[if_neg h6] at h;simp only[Yx,Zu,Kr] at h;exact⟨fun _=>h.1.1.1.1.1.1,fun _=>h.1.1.1.1.1.2⟩
theorem Kqf{b:Bool}(h:b=true→False):b=false:=by cases b;rfl;exact absurd rfl h
theorem Uqk{e:Ex}(hs:Qwo e.kind e.op e.args.length e.sub=true)(ho:e.op=0)(hn:e.no=false)(hk:e.kind=1):
 Qzn e=(Qqs e.val&&!(decide (e.val.kind=1)&&decide (e.val.int<0))&&(Qq0 e.table&&Qq0 e.name)):=by
 obtain⟨ha,hq⟩:=(Qwf hs).1 (.inl hk);rw[Qx2,if_pos hk,ho,hn,ha,hq,Qvv];simp only[Yw,decide_true,Qk,Kk,Kb];rw[Bool.and_assoc,Bool.and_comm]
theorem Uql(t n:ByteArray):Qjj t n=((Qq0 t||Qju t||t.toList==[78,69,87]||t.toList==[79,76,68])&&Qqo n):=by
 unfold Qjj Qju Qq0;rw[show(t.toList==[])=t.toList.isEmpty by cases t.toList<;>rfl];cases t.toList.isEmpty<;>cases(t.toList==[78,69,87])<;>cases(t.toList==[79,76,68])<;>cases(t.toList==Jvc)<;>cases(t.toList==Jvd)<;>cases Qqo t<;>rfl
theorem Uqm{e:Ex}(hs:Qwo e.kind e.op e.args.length e.sub=true)(ho:e.op=0)(hn:e.no=false)(hk:e.kind=2):
 Qzn e=((Qq0 e.table||Qju e.table||e.table.toList==[78,69,87]||e.table.toList==[79,76,68])&&Qqo e.name&&Qw7 e.val):=by
 obtain⟨ha,hq⟩:=(Qwf hs).1 (.inr hk);rw[Qx2,if_neg (by omega),if_pos hk,ho,hn,ha,hq,←Uql];simp only[Yw,decide_true,Qk,Kk,Kb];rw[Bool.and_comm]
theorem Uqn{e:Ex}(hs:Qwo e.kind e.op e.args.length e.sub=true)(ho:e.kind≠5→e.op=0)(hn:e.kind≠6→e.no=false)(hk:3≤e.kind∧e.kind≤7):
 Qzn e=((Qw7 e.val&&Qvv e.table e.name)&&Qjc e.args):=by
 obtain⟨_,f3,f5,f7,_,_,_⟩:=Qwf hs;rw[Qx2,if_neg (by omega),if_neg (by omega),if_neg (by omega)];by_cases h5:e.kind=5
 ·obtain⟨o1,o2,a2,s0⟩:=f5 h5;rw[if_pos h5,hn (by omega),a2,s0];simp only[Yw,decide_true,Qk,Kk,Kb,Yv o1,Yv o2]
 ·rw[if_neg h5];by_cases h6:e.kind=6
  ·obtain⟨a2,s0⟩:=f3 (by omega);rw[if_pos h6,ho h5,a2,s0];simp only[Yw,decide_true,Kk,Kb]
  ·rw[if_neg h6,ho h5,hn h6];by_cases h7:e.kind=7
   ·obtain⟨a2,s0⟩:=f7 h7;rw[a2,s0,if_neg (by omega),if_pos h7,show decide (((3:Nat):Int)=3)=true from rfl];simp only[Yw,decide_true,Qk,Kk,Kb]
   ·obtain⟨a2,s0⟩:=f3 (by omega);rw[a2,s0,if_pos (by omega),show decide (((1:Nat):Int)=1)=true from rfl];simp only[Yw,decide_true,Qk,Kk,Kb]
theorem Yxd{e:Ex}{q:Qu}(hs:Qwo e.kind e.op e.args.length e.sub=true)(ho:e.op=0)(hn:e.no=false)(hk:8≤e.kind∧e.kind≤12)(hq:e.sub=[q]):
 Qzn e=((Qw7 e.val&&Qvv e.table e.name)&&((q.star==decide (e.kind=8))&&(Qju q.frm&&Qjc q.items&&Qjc q.whr))):=by
 obtain⟨ha,q',hq',hi,hw⟩:=(Qwf hs).2.2.2.2.1 hk;rw[hq] at hq';cases hq';rw[Qx2,if_neg (by omega),if_neg (by omega),if_pos hk,ho,hn,ha,hq];obtain⟨st,it,f,wh⟩:=q;simp only[Jz7]
 replace hi:it.length=(if e.kind=8∨e.kind=9 then 0 else 1):=hi
 replace hw:wh.length≤1:=hw
 rw[Yv hi,Yv hw];show _=(_&&((st==decide (e.kind=8))&&(Qju f&&Qjc it&&Qjc wh)));simp only[Jp,decide_true,Qk,Kk,Kb,Bool.and_assoc]
theorem Qvy{M:Nat→Prop}(e:Ex):Uzr M e:=by
 refine Ex.ind (P:=Uzr M) (fun e hargs hsub=>?_) e;intro cs w he htx;have he0:=he;obtain⟨va,vs,rfl,ha,hs⟩:=(Qji ..).1 he
 obtain⟨hv,ht,hn,hta,htf,hti,htw⟩:e.val.text.size≤maxLen∧e.table.size≤maxLen∧e.name.size≤maxLen∧(∀a∈e.args,Qxo a)∧(∀q∈e.sub,q.frm.size≤maxLen)∧(∀q∈e.sub,∀x∈q.items,Qxo x)∧(∀q∈e.sub,∀x∈q.whr,Qxo x):=by
  cases htx;exact⟨by assumption,by assumption,by assumption,by assumption,by assumption,by assumption,by assumption⟩
 have hx:∀wx,Below w.heap.size w wx→Qqq M wx va e.args:=fun wx kb=>Qqa.map ha (Qqb.bel kb) fun x _ cs h=>EC.keep (.bel kb) x cs h;have hsh0:=fun wx (kb:Below w.heap.size w wx)=>Yvh (M:=M) e _ wx (EC.keep (M:=M) (.bel kb) e _ he0);obtain⟨a,ac,rfl,_⟩:=ha.shape;obtain⟨s,sc,rfl,_⟩:=hs.shape;have hsh:∀wx,Below w.heap.size w wx→Calls prog 138 #[.agg #[e.kind,e.op,e.no,e.val.kind,e.val.int,e.val.text,e.table,e.name,Qv a e.args.length ac,Qv s e.sub.length sc]] wx (Qqd (.bool (Qwo e.kind e.op e.args.length e.sub)) wx):=hsh0;have hp:=fun wx=>Yvg e.kind e.op e.no e.val.kind e.val.int e.val.text e.table e.name (Qv a e.args.length ac) (Qv s e.sub.length sc) wx;have hl:=fun wx kb=>Qwe (M:=M) e.args hargs hta _ wx (hx wx kb);show Calls _ _ #[.agg #[e.kind,e.op,e.no,e.val.kind,e.val.int,e.val.text,e.table,e.name,Qv a e.args.length ac,Qv s e.sub.length sc]] w _
 cases hS:Qwo e.kind e.op e.args.length e.sub with
 |false=>
  rw[hS] at hsh;rw[Kqf (b:=Qzn e) fun h=>by rw[Jwa h] at hS;cases hS];exact Uvl _ _ _ _ _ _ _ _ _ _ _ _ _ _ w hsh
 |true=>
  rw[hS] at hsh;by_cases h5:e.kind≠5∧e.op≠0
  ·rw[Kqf (b:=Qzn e) fun h=>h5.2 ((Yxc h).1 h5.1)];exact Uvm _ _ _ _ _ _ _ _ _ _ _ _ _ _ w hsh h5.1 h5.2
  have ho:e.kind≠5→e.op=0:=fun h=>by
   by_cases h0:e.op=0
   ·exact h0
   ·exact absurd ⟨h,h0⟩ h5
  by_cases h6:e.kind≠6∧e.no=true
  ·rw[Kqf (b:=Qzn e) fun h=>by rw[(Yxc h).2 h6.1] at h6;cases h6.2];refine Uvn _ _ _ _ _ _ _ _ _ _ _ _ _ _ w hsh ?_ h6.1 h6.2;by_cases h:e.kind=5
   ·exact .inl h
   ·exact .inr (ho h)
  have hno:e.kind≠6→e.no=false:=fun h=>by
   cases h0:e.no with
   |false=>rfl
   |true=>exact absurd ⟨h,h0⟩ h6
  obtain⟨f1,f3,f5,f7,f8,g1,g2⟩:=Qwf hS;by_cases k1:e.kind=1
  ·rw[Uqk hS (ho (by omega)) (hno (by omega)) k1];exact Uy9 _ _ _ _ _ _ _ _ _ _ _ _ _ _ w hsh ⟨k1,ho (by omega),hno (by omega)⟩ _ (fun wx=>Jz6 e.val wx hv)
  by_cases k2:e.kind=2
  ·rw[Uqm hS (ho (by omega)) (hno (by omega)) k2];exact Kqa _ _ _ _ _ _ _ _ _ _ _ _ _ _ w hsh ⟨k2,ho (by omega),hno (by omega)⟩ _ _ _ rfl (fun wx=>Jv9 e.table wx ht) (fun wx=>Qjr e.name wx hn)
  by_cases k8:8≤e.kind
  ·obtain⟨a0,q,hq,_,_⟩:=f8 ⟨k8,g2⟩;have hqm:q∈e.sub:=by rw[hq];exact Zd.2 rfl
   rw[Yxd hS (ho (by omega)) (hno (by omega)) ⟨k8,g2⟩ hq];have hl0:Qjc e.args=true:=by rw[Yd a0];simp[Qjc]
   rw[hl0] at hl;rw[hq] at hs
   rcases hs.open with⟨_,h⟩|⟨ab,ao,cap,hv',_,hab,_,_,hx'⟩
   ·cases h
   obtain⟨cs,hc,_,hcs⟩:=hx' 0 _ rfl;obtain⟨vi',vw,rfl,hvi,hvw⟩:=(Qxg ..).1 hc;have hi:=fun wx (kb:Below w.heap.size w wx)=>Qwe (M:=M) q.items (hsub q hqm).1 (hti q hqm) vi' wx (Qqa.map hvi (Qqb.bel kb) fun x _ cs h=>EC.keep (.bel kb) x cs h);have hw:=fun wx (kb:Below w.heap.size w wx)=>Qwe (M:=M) q.whr (hsub q hqm).2 (htw q hqm) vw wx (Qqa.map hvw (Qqb.bel kb) fun x _ cs h=>EC.keep (.bel kb) x cs h);obtain⟨ia,iac,rfl,_⟩:=hvi.shape;obtain⟨wa,wac,rfl,_⟩:=hvw.shape;rw[Jr,Je] at hcs;obtain⟨c0,c1,c2,c3⟩:=hcs.c4;simp only[Yz] at hv';obtain⟨hs',hn',_⟩:=hv';have hsn:e.sub.length=1:=by rw[hq];rfl
   have hrs:=fun wx=>Jv9 q.frm wx (htf q hqm);by_cases k88:e.kind=8
   ·rw[Yv k88]
    cases hst:q.star with
    |true=>
     rw[hst] at c0;have hm:=Kqb _ _ _ _ _ _ _ _ _ _ _ _ _ _ w hsh _ _ hp hl ab ao q.star q.frm ia wa _ _ iac wac hab _ _ _ (by rw[hst];exact c0) c1 c2 c3 hrs hi hw ⟨ho (by omega),hno (by omega),hst,hs',hsn,a0,k88⟩;simpa using hm
    |false=>
     have hm:=Kqc _ _ _ _ _ _ _ _ _ _ _ _ _ _ w hsh _ _ hp hl ab ao q.star q.frm ia wa _ _ iac wac hab _ _ _ c0 c1 c2 c3 hrs hi hw ⟨ho (by omega),hno (by omega),hst,hs',hsn,a0,k88⟩;simpa using hm
   ·rw[Yb k88];have e1:(e.kind==1)=false:=by simp;omega
    have e2:(e.kind==2)=false:=by simp;omega
    have e5:(e.kind !=5)=true:=by simp;omega
    have e6:(e.kind !=6)=true:=by simp;omega
    have e8:(e.kind==8)=false:=by simp;omega
    cases hst:q.star with
    |true=>
     have hm:=Kqe _ _ _ _ _ _ _ _ _ _ _ _ _ _ w hsh _ _ hp hl ab ao q.star q.frm ia wa _ _ iac wac hab _ _ _ c0 c1 c2 c3 hrs hi hw ⟨ho (by omega),hno (by omega),hst,hs',hsn,a0⟩ e1 e2 e5 e6 e8;simpa using hm
    |false=>
     have hm:=Kqd _ _ _ _ _ _ _ _ _ _ _ _ _ _ w hsh _ _ hp hl ab ao q.star q.frm ia wa _ _ iac wac hab _ _ _ c0 c1 c2 c3 hrs hi hw ⟨ho (by omega),hno (by omega),hst,hs',hsn,a0⟩ e1 e2 e5 e6 e8;simpa using hm
  ·have s0:e.sub.length=0:=by
    by_cases k5:e.kind=5
    ·rw[(f5 k5).2.2.2];rfl
    ·by_cases k7:e.kind=7
     ·rw[(f7 k7).2];rfl
     ·rw[(f3 (by omega)).2];rfl
   rw[Uqn hS ho hno (by omega)];by_cases k5:e.kind=5
   ·exact Uvo _ _ _ _ _ _ _ _ _ _ _ _ _ _ w hsh ⟨k5,hno (by omega),s0⟩ _ _ hp hl
   by_cases k6:e.kind=6
   ·exact Uvp _ _ _ _ _ _ _ _ _ _ _ _ _ _ w hsh ⟨k6,ho k5,s0⟩ _ _ hp hl
   exact Uvq _ _ _ _ _ _ _ _ _ _ _ _ _ _ w hsh (by simp;omega) (by simp;omega) (by simpa using k5) (by simpa using k6) ⟨ho k5,hno k6,s0⟩ _ _ hp hl
end Go.Proofs.YtgepbohjmgaojaaGreatDoor
