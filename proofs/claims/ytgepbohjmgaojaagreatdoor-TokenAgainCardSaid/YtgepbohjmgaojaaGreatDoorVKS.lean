/- Names, tables of queries and plain fields: contracts of the references' Letter, Digit, ValidName, source and plain. -/
import Derived.Test.YtgepbohjmgaojaaGreatDoorU06
set_option linter.all false
set_option maxHeartbeats 10000000
set_option maxRecDepth 100000
namespace Go.Proofs.YtgepbohjmgaojaaGreatDoor
open Value renaming slice→Qv
open Go.Proofs.Tryz
open Lib(hid)
open Go.RowKit
theorem Jjc(c:UInt8)(w:World):Calls prog 77 #[.int .u8 (c.toNat:Int)] w fun e w'=>e=.returned (.bool (Jy2 c))∧w=w':=by
 have HQ:Hid (∀r,(decide (97≤c.toNat)&&decide (c.toNat≤122))=r→Jy2 c=r):=hid fun _ h=>h;generalize Jy2 c=r at HQ⊢;generalize c.toNat=n at HQ⊢;go_enter func77,ntmps77
 go_wp2
 all_goals
  go_ret;refine⟨?_,rfl⟩;rw[HQ.out _ rfl]
  first
   |(simp_all;done)
   |(rw[show decide (97≤n)=false from Yb (by omega),Bool.false_and];rfl)
   |(rw[show decide (97≤n)=true from Yv (by omega),Kk];exact congrArg (fun b=>Ending.returned (.bool b)) (decide_eq_decide.2 (by omega)))
theorem Yve(c:UInt8)(w:World):Calls prog 78 #[.int .u8 (c.toNat:Int)] w fun e w'=>e=.returned (.bool (Yvs c))∧w=w':=by
 have HQ:Hid (∀r,(decide (48≤c.toNat)&&decide (c.toNat≤57))=r→Yvs c=r):=hid fun _ h=>h;generalize Yvs c=r at HQ⊢;generalize c.toNat=n at HQ⊢;go_enter func78,ntmps78
 go_wp2
 all_goals
  go_ret;refine⟨?_,rfl⟩;rw[HQ.out _ rfl]
  first
   |(simp_all;done)
   |(rw[show decide (48≤n)=false from Yb (by omega),Bool.false_and];rfl)
   |(rw[show decide (48≤n)=true from Yv (by omega),Kk];exact congrArg (fun b=>Ending.returned (.bool b)) (decide_eq_decide.2 (by omega)))
theorem Yvf(s:ByteArray)(h1:1≤s.size)(h12:s.size≤12):Qqo s=(Jy2 s[0]&&s.data.toList.all Jjl):=by
 have hz:0<s.size:=by omega
 have hL:s.data.toList=s[0]::s.data.toList.tail:=by
  rcases hd:s.data.toList with _|⟨c,l⟩
  ·have h1:=congrArg List.length hd;rw[Kt] at h1;exact absurd (show s.size=0 from h1) (by omega)
  ·have h1:s.data.toList[0]?=some c:=by rw[hd];rfl
   have h2:s.data.toList[0]?=some s[0]:=by simp[hz];rfl
   rw[h1] at h2;cases h2;rfl
 have e1:decide (1≤s.size)=true:=Yv (by omega);have e2:decide (s.size≤12)=true:=Yv (by omega);unfold Qqo;rw[e1,e2,hL];generalize s[0]=c;generalize s.data.toList.tail=l;simp only[List.all_cons,List.head?_cons,Option.any_some,Kk];rw[Bool.and_comm]
theorem Qjr(s:ByteArray)(w:World)(hs:s.size≤maxLen):Calls prog 38 #[s] w fun e w'=>e=.returned (.bool (Qqo s))∧w=w':=by
 unfold maxLen at hs;by_cases h0:s.size<1
 ·have hn:Hid (Qqo s=false):=hid (by unfold Qqo;simp;omega);have h0':((s.size:Int)<1):=by omega
  clear h0;go_enter func38,ntmps38;go_wp2_with fail
  go_ret;exact⟨Qzx hn.out.symm,rfl⟩
 ·by_cases h12:12<s.size
  ·have hn:Hid (Qqo s=false):=hid (by unfold Qqo;simp;omega);have h12':((12:Int)<s.size):=by omega
   go_enter func38,ntmps38;go_wp2_with fail
   go_ret;exact⟨Qzx hn.out.symm,rfl⟩
  ·have h0':¬((s.size:Int)<1):=by omega
   have h12':¬((12:Int)<s.size):=by omega
   have hz:0<s.size:=by omega
   have HN:=hid (Yvf s (by omega) (by omega));cases hl:Jy2 s[0]
   ·have hn:Hid (Qqo s=false):=hid (by rw[HN.out,hl];rfl);have HL:=hid hl;clear hl;go_enter func38,ntmps38;go_wp2_with fail
    refine(Jjc _ _).mono ?_;rintro e w1 ⟨rfl,rfl⟩;dsimp only;rw[HL.out];go_wp2_with fail
    go_ret;exact⟨Qzx hn.out.symm,rfl⟩
   ·have HL:=hid hl;clear hl;go_enter func38,ntmps38;go_wp2_with fail
    refine(Jjc _ _).mono ?_;rintro e w1 ⟨rfl,rfl⟩;dsimp only;rw[HL.out];go_wp2_with fail
    go_loop [3] (fun i=>∃j:Nat,j≤s.size∧i=.int .i64 j∧∀(m:Nat) (hm:m<s.size),m<j→Jjl s[m]=true) (fun i=>s.size-(intOf i).toNat)
    case atStart=>exact⟨0,Zi _,rfl,fun m _ h=>absurd h (by omega)⟩
    case round=>
     obtain⟨j,hj,rfl,hno⟩:=hrel;have HNO:=hid hno;clear hno;by_cases hlt:j<s.size
     ·have HQ:Hid (∀b,(Jy2 s[j]||Yvs s[j]||s[j].toNat==95)=b→Jjl s[j]=b):=hid fun b h=>h
      have HS:Hid (Jjl s[j]=false→Qqo s=false):=hid fun h=>by
       rw[HN.out,show s.data.toList.all Jjl=false from List.all_eq_false.2 ⟨s[j],Yt.2 ⟨j,by simpa using hlt,rfl⟩,by simp[h]⟩,Bool.and_false]
      have HA:=hid fun wx=>Jjc s[j] wx;have HD:=hid fun wx=>Yve s[j] wx;generalize hnc:Jjl s[j]=nc at HQ HS;have HNC:=hid hnc;clear hnc;generalize Jy2 s[j]=bl at HA HQ;generalize Yvs s[j]=bd at HD HQ;cases bl
      ·cases bd
       ·go_wp2_with(first
         |((go_at_call 77);(refine(HA.out _).mono ?_);rintro e w2 ⟨rfl,rfl⟩)
         |((go_at_call 78);(refine(HD.out _).mono ?_);rintro e w2 ⟨rfl,rfl⟩))
        all_goals first
         |(go_ret
           refine⟨Qzx (HS.out (HQ.out false ?_)).symm,rfl⟩
           simp_all<;>omega)
         |(go_round
           case rel=>
            refine⟨j+1,by omega,by go_num,fun m hm h=>?_⟩;by_cases e:m=j
            ·subst e;rw[HNC.out];refine HQ.out true ?_;simp_all<;>omega
            ·exact HNO.out m hm (by omega)
           case measure=>simp[intOf];omega)
       ·go_wp2_with(first
         |((go_at_call 77);(refine(HA.out _).mono ?_);rintro e w2 ⟨rfl,rfl⟩)
         |((go_at_call 78);(refine(HD.out _).mono ?_);rintro e w2 ⟨rfl,rfl⟩))
        go_round
        case rel=>
         refine⟨j+1,by omega,by go_num,fun m hm h=>?_⟩;by_cases e:m=j
         ·subst e;rw[HNC.out];exact HQ.out true (by simp)
         ·exact HNO.out m hm (by omega)
        case measure=>simp[intOf];omega
      ·go_wp2_with(first
        |((go_at_call 77);(refine(HA.out _).mono ?_);rintro e w2 ⟨rfl,rfl⟩)
        |((go_at_call 78);(refine(HD.out _).mono ?_);rintro e w2 ⟨rfl,rfl⟩))
       go_round
       case rel=>
        refine⟨j+1,by omega,by go_num,fun m hm h=>?_⟩;by_cases e:m=j
        ·subst e;rw[HNC.out];exact HQ.out true (by simp)
        ·exact HNO.out m hm (by omega)
       case measure=>simp[intOf];omega
     ·have hall:s.data.toList.all Jjl=true:=by
       rw[Yn];intro c hc;obtain⟨m,hm,rfl⟩:=Yt.1 hc
       exact HNO.out m (by simpa using hm) (by have:m<s.size:=by simpa using hm
                                               omega)
      have hn:Hid (Qqo s=true):=hid (by rw[HN.out,hall,HL.out];rfl);clear hall;go_wp2_with fail
      go_ret;exact⟨Qzx hn.out.symm,rfl⟩
theorem Jv9(s:ByteArray)(w:World)(hs:s.size≤maxLen):Calls prog 81 #[s] w fun e w'=>e=.returned (.bool (Qju s))∧w=w':=by
 have HV:=hid fun wx=>Qjr s wx hs;have HS:Hid (Qju s=(Qqo s||s.toList==Jvc||s.toList==Jvd)):=hid rfl;generalize Qqo s=b at HV HS;cases b
 all_goals
  go_enter func81,ntmps81
  go_wp2_with((go_at_call 38);(refine(HV.out _).mono ?_);rintro e w1 ⟨rfl,rfl⟩)
  all_goals go_ret
  all_goals
   refine⟨Qzx ?_,rfl⟩;rw[HS.out];simp_all [Jvc,Jvd]
theorem Yvg(k o:Int)(no:Bool)(vk vi:Int)(vt t nm:ByteArray)(va vs:Value)(w:World):
 Calls prog 139 #[.agg #[k,o,no,vk,vi,vt,t,nm,va,vs]] w (Qqd (.bool (Qw7 ⟨vk,vi,vt⟩&&Qvv t nm)) w):=by
 have HQ:Hid (∀b,(decide (vk=0)&&decide (vi=0)&&(vt.toList==[])&&((t.toList==[])&&(nm.toList==[])))=b→(Qw7 ⟨vk,vi,vt⟩&&Qvv t nm)=b):=hid fun b h=>h;generalize(Qw7 ⟨vk,vi,vt⟩&&Qvv t nm)=r at HQ;go_enter func139,ntmps139
 go_wp2
 all_goals
  go_ret;refine⟨Qzx ?_,by go_grown⟩;rw[HQ.out _ rfl];simp_all
def Jjd(k:Int):List Qu→Bool
 |[q]=>decide (q.items.length=if k=8∨k=9 then 0 else 1)&&decide (q.whr.length≤1)
 |_=>false
def Qwo(k o:Int)(an:Nat)(sub:List Qu):Bool:=
 if k=1∨k=2 then decide (an=0)&&decide (sub.length=0)
 else if k=3∨k=4∨k=6 then decide (an=1)&&decide (sub.length=0)
 else if k=5 then decide (1≤o)&&decide (o≤13)&&decide (an=2)&&decide (sub.length=0)
 else if k=7 then decide (an=3)&&decide (sub.length=0)
 else if 8≤k∧k≤12 then decide (an=0)&&Jjd k sub
 else false
section
variable(o:Int) (no:Bool) (vk vi:Int) (vt t nm:ByteArray) (a s:Option Addr) (an ac sn sc:Nat) (w:World)
theorem Kjs(n:Nat)(m:Nat):((n:Int)==(m:Int))=decide (n=m):=by
 by_cases h:n=m
 ·subst h;simp
 ·have h2:((n:Int)==(m:Int))=false:=by simp;omega
  rw[h2,Yb h]
theorem Yjs(k:Int)(m:Nat)(h:(k=1∧m=0)∨(k=2∧m=0)∨(k=3∧m=1)∨(k=4∧m=1)∨(k=6∧m=1)∨(k=7∧m=3)):
 Calls prog 138 #[.agg #[k,o,no,vk,vi,vt,t,nm,Qv a an ac,Qv s sn sc]] w (Qqd (.bool (decide (an=m)&&decide (sn=0))) w):=by
 have e1:=Kjs an m;have e2:=Kjs sn 0;by_cases h1:an=m
 ·by_cases h2:sn=0
  ·subst h1 h2;clear e1 e2
   rcases h with⟨rfl,rfl⟩|⟨rfl,rfl⟩|⟨rfl,rfl⟩|⟨rfl,rfl⟩|⟨rfl,rfl⟩|⟨rfl,rfl⟩
   all_goals
    go_enter func138,ntmps138;go_wp2_with fail
    go_ret;exact⟨rfl,by go_grown⟩
  ·have h2':((sn:Int)==0)=false:=by simp;omega
   rw[show(decide (an=m)&&decide (sn=0))=false by rw[Yb h2,Bool.and_false]];subst h1;clear e1 e2 h2
   rcases h with⟨rfl,rfl⟩|⟨rfl,rfl⟩|⟨rfl,rfl⟩|⟨rfl,rfl⟩|⟨rfl,rfl⟩|⟨rfl,rfl⟩
   all_goals
    go_enter func138,ntmps138;go_wp2_with fail
    go_ret;exact⟨rfl,by go_grown⟩
 ·rw[show(decide (an=m)&&decide (sn=0))=false by rw[Yb h1,Bool.false_and]];have e3:((an:Int)==(m:Int))=false:=by rw[e1,Yb h1]
  clear e1 e2 h1
  rcases h with⟨rfl,rfl⟩|⟨rfl,rfl⟩|⟨rfl,rfl⟩|⟨rfl,rfl⟩|⟨rfl,rfl⟩|⟨rfl,rfl⟩
  all_goals
   first|rw[Int.natCast_zero] at e3|rw[Int.natCast_one] at e3|rw[Int.cast_ofNat_Int] at e3
   go_enter func138,ntmps138;go_wp2_with fail
   go_ret;exact⟨rfl,by go_grown⟩
theorem Uvk(k:Int)(hk:k=5):Calls prog 138 #[.agg #[k,o,no,vk,vi,vt,t,nm,Qv a an ac,Qv s sn sc]] w (Qqd (.bool (decide (1≤o)&&decide (o≤13)&&decide (an=2)&&decide (sn=0))) w):=by
 subst hk;by_cases h1:1≤o
 ·by_cases h13:o≤13
  ·rw[Yv h1,Yv h13];have h1':¬o<1:=by omega
   have h13':¬13<o:=by omega
   by_cases h2:an=2
   ·subst h2;by_cases h3:sn=0
    ·subst h3;go_enter func138,ntmps138;go_wp2_with fail
     go_ret;exact⟨rfl,by go_grown⟩
    ·have h3':((sn:Int)==0)=false:=by simp;omega
     rw[Yb h3];clear h3;go_enter func138,ntmps138;go_wp2_with fail
     go_ret;exact⟨rfl,by go_grown⟩
   ·have h2':((an:Int)==2)=false:=by simp;omega
    rw[Yb h2];clear h2;go_enter func138,ntmps138;go_wp2_with fail
    go_ret;exact⟨by simp,by go_grown⟩
  ·have h13':13<o:=by omega
   have h1':¬o<1:=by omega
   rw[Yb h13];go_enter func138,ntmps138;go_wp2_with fail
   go_ret;exact⟨by simp,by go_grown⟩
 ·have h1':o<1:=by omega
  rw[Yb h1];go_enter func138,ntmps138;go_wp2_with fail
  go_ret;exact⟨by simp,by go_grown⟩
theorem Uzq(k:Int)(hk:¬(1≤k∧k≤12)):Calls prog 138 #[.agg #[k,o,no,vk,vi,vt,t,nm,Qv a an ac,Qv s sn sc]] w (Qqd false w):=by
 have ek1:(k==1)=false:=by simp;omega
 have ek2:(k==2)=false:=by simp;omega
 have ek3:(k==3)=false:=by simp;omega
 have ek4:(k==4)=false:=by simp;omega
 have ek5:(k==5)=false:=by simp;omega
 have ek6:(k==6)=false:=by simp;omega
 have ek7:(k==7)=false:=by simp;omega
 have ek8:(k==8)=false:=by simp;omega
 have ek9:(k==9)=false:=by simp;omega
 have ek10:(k==10)=false:=by simp;omega
 have ek11:(k==11)=false:=by simp;omega
 have ek12:(k==12)=false:=by simp;omega
 clear hk;go_enter func138,ntmps138;go_wp2_with fail
 go_ret;exact⟨rfl,by go_grown⟩
theorem Uqi(k:Int)(hk:8≤k∧k≤12)(h:an≠0∨sn≠1):Calls prog 138 #[.agg #[k,o,no,vk,vi,vt,t,nm,Qv a an ac,Qv s sn sc]] w (Qqd false w):=by
 have h5:k=8∨k=9∨k=10∨k=11∨k=12:=by omega
 by_cases h0:an=0
 ·have h1:((sn:Int)==1)=false:=by simp;omega
  subst h0;clear hk h;rcases h5 with rfl|rfl|rfl|rfl|rfl
  all_goals
   go_enter func138,ntmps138;go_wp2_with fail
   go_ret;exact⟨rfl,by go_grown⟩
 ·have h1:((an:Int)==0)=false:=by simp;omega
  clear hk h h0;rcases h5 with rfl|rfl|rfl|rfl|rfl
  all_goals
   go_enter func138,ntmps138;go_wp2_with fail
   go_ret;exact⟨rfl,by go_grown⟩
theorem Uqj(k:Int)(hk:8≤k∧k≤12)(ab ao:Nat)(ia wa:Option Addr)(il wl ic wc:Nat)
 (c1:w.cell? ⟨ab,ao+1,none⟩=some (Qv ia il ic))(c3:w.cell? ⟨ab,ao+3,none⟩=some (Qv wa wl wc))(hab:ab<w.heap.size):
 Calls prog 138 #[.agg #[k,o,no,vk,vi,vt,t,nm,Qv a 0 ac,Qv (some ⟨ab,ao,none⟩) 1 sc]] w (Qqd (.bool (decide (il=if k=8∨k=9 then 0 else 1)&&decide (wl≤1))) w):=by
 have h2:(k=8∨k=9)∧(if k=8∨k=9 then 0 else 1)=0∨(k=10∨k=11∨k=12)∧(if k=8∨k=9 then 0 else 1)=1:=by
  by_cases h:k=8∨k=9
  ·exact .inl ⟨h,if_pos h⟩
  ·exact .inr ⟨by omega,if_neg h⟩
 clear hk
 rcases h2 with⟨hk,hm⟩|⟨hk,hm⟩
 ·rw[hm];clear hm;by_cases hi:il=0
  ·subst hi;by_cases hw:wl≤1
   ·have hw':(wl:Int)≤1:=by omega
    rw[Yv hw];clear hw;rcases hk with rfl|rfl
    all_goals
     go_enter func138,ntmps138;go_wp2_with fail
     go_ret;exact⟨by simp,by go_grown⟩
   ·have hw':¬(wl:Int)≤1:=by omega
    rw[Yb hw];clear hw;rcases hk with rfl|rfl
    all_goals
     go_enter func138,ntmps138;go_wp2_with fail
     go_ret;exact⟨by simp,by go_grown⟩
  ·have hi':((il:Int)==0)=false:=by simp;omega
   rw[Yb hi];clear hi;rcases hk with rfl|rfl
   all_goals
    go_enter func138,ntmps138;go_wp2_with fail
    go_ret;exact⟨by simp,by go_grown⟩
 ·rw[hm];clear hm;by_cases hi:il=1
  ·subst hi;by_cases hw:wl≤1
   ·have hw':(wl:Int)≤1:=by omega
    rw[Yv hw];clear hw;rcases hk with rfl|rfl|rfl
    all_goals
     go_enter func138,ntmps138;go_wp2_with fail
     go_ret;exact⟨by simp,by go_grown⟩
   ·have hw':¬(wl:Int)≤1:=by omega
    rw[Yb hw];clear hw;rcases hk with rfl|rfl|rfl
    all_goals
     go_enter func138,ntmps138;go_wp2_with fail
     go_ret;exact⟨by simp,by go_grown⟩
  ·have hi':((il:Int)==1)=false:=by simp;omega
   rw[Yb hi];clear hi;rcases hk with rfl|rfl|rfl
   all_goals
    go_enter func138,ntmps138;go_wp2_with fail
    go_ret;exact⟨by simp,by go_grown⟩
end
theorem Yvh{M:Nat→Prop}(e:Ex)(cs:List Value)(w:World)(he:EC M w e cs):Calls prog 138 #[.agg cs.toArray] w (Qqd (.bool (Qwo e.kind e.op e.args.length e.sub)) w):=by
 obtain⟨va,vs,rfl,ha,hs⟩:=(Qji ..).1 he;obtain⟨a,ac,rfl,_⟩:=ha.shape;obtain⟨s,sc,rfl,_⟩:=hs.shape;show Calls _ _ #[.agg #[e.kind,e.op,e.no,e.val.kind,e.val.int,e.val.text,e.table,e.name,Qv a e.args.length ac,Qv s e.sub.length sc]] w _;unfold Qwo;by_cases h1:e.kind=1∨e.kind=2
 ·rw[if_pos h1];exact Yjs _ _ _ _ _ _ _ _ _ _ _ _ _ w _ 0 (by omega)
 rw[if_neg h1];by_cases h3:e.kind=3∨e.kind=4∨e.kind=6
 ·rw[if_pos h3];exact Yjs _ _ _ _ _ _ _ _ _ _ _ _ _ w _ 1 (by omega)
 rw[if_neg h3];by_cases h5:e.kind=5
 ·rw[if_pos h5];exact Uvk _ _ _ _ _ _ _ _ _ _ _ _ _ w _ h5
 rw[if_neg h5];by_cases h7:e.kind=7
 ·rw[if_pos h7];exact Yjs _ _ _ _ _ _ _ _ _ _ _ _ _ w _ 3 (by omega)
 rw[if_neg h7];by_cases h8:8≤e.kind∧e.kind≤12
 ·rw[if_pos h8];by_cases ho:e.args.length≠0∨e.sub.length≠1
  ·rw[show(decide (e.args.length=0)&&Jjd e.kind e.sub)=false by
    by_cases h0:e.args.length=0
    ·have h2:e.sub.length≠1:=by omega
     rw[show Jjd e.kind e.sub=false by
      rcases hq:e.sub with _|⟨q,_|⟨q2,l⟩⟩
      ·rfl
      ·rw[hq] at h2;exact absurd rfl h2
      ·rfl,Bool.and_false]
    ·rw[Yb h0,Bool.false_and]]
   exact Uqi _ _ _ _ _ _ _ _ _ _ _ _ _ w _ h8 ho
  ·have h0:e.args.length=0:=by omega
   have hl:e.sub.length=1:=by omega
   obtain⟨q,hq⟩:=List.length_eq_one_iff.1 hl;rw[hq] at hs
   rcases hs.open with⟨_,h⟩|⟨ab,ao,cap,hv,_,hab,_,_,hx⟩
   ·cases h
   obtain⟨cs,hc,_,hcs⟩:=hx 0 _ rfl;obtain⟨vi',vw,rfl,hvi,hvw⟩:=(Qxg ..).1 hc;obtain⟨ia,iac,rfl,_⟩:=hvi.shape;obtain⟨wa,wac,rfl,_⟩:=hvw.shape;rw[Jr,Je] at hcs;obtain⟨c0,c1,c2,c3⟩:=hcs.c4;simp only[Yz] at hv;obtain⟨rfl,_,rfl⟩:=hv;rw[h0,hq];exact Uqj _ _ _ _ _ _ _ _ _ sc w _ h8 ab ao ia wa q.items.length q.whr.length iac wac c1 c3 hab
 ·rw[if_neg h8];exact Uzq _ _ _ _ _ _ _ _ _ _ _ _ _ w _ (by omega)
def Qvf(k o:Int)(i:Nat):Int:=if k=3 then 3 else if k=4 then 7 else if k=6∨k=7 then 5 else if k=5 then(if Qzu o=8 then 1 else if Qzu o=4 then 5 else Qzu o+i) else 1
theorem Jkh{k o:Int}{i:Nat}(h:k=5→i≤1):Qvf k o i=Yj8 k o i:=by
 unfold Qvf Yj8 Qwh;have hr:Qzu o=1∨Qzu o=2∨Qzu o=4∨Qzu o=5∨Qzu o=6∨Qzu o=8:=by unfold Qzu;(repeat' split)<;>simp
 by_cases h3:k=3
 ·subst h3;rfl
 by_cases h4:k=4
 ·subst h4;rfl
 by_cases h6:k=6∨k=7
 ·rcases h6 with rfl|rfl<;>rfl
 by_cases h5:k=5
 ·subst h5;have hi:=h rfl;have hm:min i 1=i:=by omega
  rcases hr with h|h|h|h|h|h<;>simp[h,hm]
 ·simp[h3,h4,h6,h5]
section
variable(o:Int) (no:Bool) (vk vi:Int) (vt t nm:ByteArray) (va vs:Value) (w:World)
theorem Yqg(k:Int):Calls prog 143 #[.agg #[k,o,no,vk,vi,vt,t,nm,va,vs]] w (Qqd (.int .i64 (Qwh k o)) w):=by
 by_cases h4:k=3∨k=4∨k=6∨k=7
 ·rcases h4 with rfl|rfl|rfl|rfl
  all_goals
   go_enter func143,ntmps143;go_wp2_with fail
   go_ret;exact⟨rfl,by go_grown⟩
 by_cases h5:k=5
 ·subst h5;have HP:=hid (show Qwh 5 o=Qzu o from rfl);have HO:=hid (show Qzu o=(if o=1 then 1 else if o=2 then 2 else if 3≤o∧o≤8 then 4 else if o=9∨o=10 then 5 else if 11≤o∧o≤13 then 6 else 8) from rfl);generalize Qwh 5 o=p at HP;generalize Qzu o=q at HP HO;have h7:o=1∨o=2∨(3≤o∧o≤8)∨o=9∨o=10∨(11≤o∧o≤13)∨(o<1∨13<o):=by omega
  clear h4;rcases h7 with rfl|rfl|⟨h3,h8⟩|rfl|rfl|⟨h11,h13⟩|h
  ·obtain rfl:p=1:=by rw[HP.out,HO.out];rfl
   go_enter func143,ntmps143;go_wp2_with fail
   go_ret;exact⟨rfl,by go_grown⟩
  ·obtain rfl:p=2:=by rw[HP.out,HO.out];rfl
   go_enter func143,ntmps143;go_wp2_with fail
   go_ret;exact⟨rfl,by go_grown⟩
  ·obtain rfl:p=4:=by rw[HP.out,HO.out,if_neg (by omega),if_neg (by omega),if_pos ⟨h3,h8⟩]
   have e1:(o==1)=false:=by simp;omega
   have e2:(o==2)=false:=by simp;omega
   go_enter func143,ntmps143;go_wp2_with fail
   go_ret;exact⟨rfl,by go_grown⟩
  ·obtain rfl:p=5:=by rw[HP.out,HO.out];rfl
   go_enter func143,ntmps143;go_wp2_with fail
   go_ret;exact⟨rfl,by go_grown⟩
  ·obtain rfl:p=5:=by rw[HP.out,HO.out];rfl
   go_enter func143,ntmps143;go_wp2_with fail
   go_ret;exact⟨rfl,by go_grown⟩
  ·obtain rfl:p=6:=by rw[HP.out,HO.out,if_neg (by omega),if_neg (by omega),if_neg (by omega),if_neg (by omega),if_pos ⟨h11,h13⟩]
   have e1:(o==1)=false:=by simp;omega
   have e2:(o==2)=false:=by simp;omega
   have e9:(o==9)=false:=by simp;omega
   have e10:(o==10)=false:=by simp;omega
   have h3:(3:Int)≤o:=by omega
   have h8:¬o≤8:=by omega
   go_enter func143,ntmps143;go_wp2_with fail
   go_ret;exact⟨rfl,by go_grown⟩
  ·obtain rfl:p=8:=by rw[HP.out,HO.out,if_neg (by omega),if_neg (by omega),if_neg (by omega),if_neg (by omega),if_neg (by omega)]
   have e1:(o==1)=false:=by simp;omega
   have e2:(o==2)=false:=by simp;omega
   have e9:(o==9)=false:=by simp;omega
   have e10:(o==10)=false:=by simp;omega
   rcases h with h|h
   ·have h3:¬(3:Int)≤o:=by omega
    have h11:¬(11:Int)≤o:=by omega
    go_enter func143,ntmps143;go_wp2_with fail
    go_ret;exact⟨rfl,by go_grown⟩
   ·have h3:(3:Int)≤o:=by omega
    have h8:¬o≤8:=by omega
    have h11:(11:Int)≤o:=by omega
    have h13:¬o≤13:=by omega
    go_enter func143,ntmps143;go_wp2_with fail
    go_ret;exact⟨rfl,by go_grown⟩
 ·have hp:Qwh k o=8:=by
   unfold Qwh;rw[if_neg (by omega),if_neg (by omega),if_neg (by omega),if_neg h5]
  rw[hp];have e3:(k==3)=false:=by simp;omega
  have e4:(k==4)=false:=by simp;omega
  have e5:(k==5)=false:=by simp;omega
  have e6:(k==6)=false:=by simp;omega
  have e7:(k==7)=false:=by simp;omega
  clear hp h4 h5;go_enter func143,ntmps143;go_wp2_with fail
  go_ret;exact⟨rfl,by go_grown⟩
theorem Yvi(k:Int)(i:Nat)(hi:i≤1000000):Calls prog 144 #[.agg #[k,o,no,vk,vi,vt,t,nm,va,vs],i] w (Qqd (.int .i64 (Qvf k o i)) w):=by
 by_cases h4:k=3∨k=4∨k=6∨k=7
 ·rcases h4 with rfl|rfl|rfl|rfl
  all_goals
   go_enter func144,ntmps144;go_wp2_with fail
   go_ret;exact⟨rfl,by go_grown⟩
 by_cases h5:k=5
 ·subst h5;have hr:Qzu o=1∨Qzu o=2∨Qzu o=4∨Qzu o=5∨Qzu o=6∨Qzu o=8:=by unfold Qzu;(repeat' split)<;>simp
  have HL:=hid (show Qvf 5 o i=(if Qzu o=8 then 1 else if Qzu o=4 then 5 else Qzu o+i) from rfl);have hp:=fun wx=>Yqg o no vk vi vt t nm va vs wx 5;rw[show Qwh 5 o=Qzu o from rfl] at hp;generalize Qvf 5 o i=r at HL⊢;generalize Qzu o=p at HL hp hr;clear h4;have HP:=hid hp;clear hp;rcases hr with rfl|rfl|rfl|rfl|rfl|rfl
  all_goals
   go_enter func144,ntmps144;go_wp2_with fail
   refine(HP.out _).mono ?_;rintro e w1 ⟨rfl,hb⟩;have HB:=hid (((Below.refl _ w).alloc (Zz _) _).trans (hb.mono (by simp)));clear hb;dsimp only;go_wp2_with fail
   go_ret;exact⟨by rw[HL.out];first|rfl|(simp;done)|(simp;omega),HB.out⟩
 ·have hp:Qvf k o i=1:=by
   unfold Qvf;rw[if_neg (by omega),if_neg (by omega),if_neg (by omega),if_neg h5]
  rw[hp];have e3:(k==3)=false:=by simp;omega
  have e4:(k==4)=false:=by simp;omega
  have e5:(k==5)=false:=by simp;omega
  have e6:(k==6)=false:=by simp;omega
  have e7:(k==7)=false:=by simp;omega
  clear hp h4 h5;go_enter func144,ntmps144;go_wp2_with fail
  go_ret;exact⟨rfl,by go_grown⟩
end
theorem Yjt(k o:Int)(no:Bool)(vk vi:Int)(vt t nm:ByteArray)(ab ao an ac:Nat)(vs:Value)(i:Nat)(xk xo:Int)(xn:Bool)(xvk xvi:Int)(xvt xt xnm:ByteArray)(xva xvs:Value)(w:World)(hi:i<an)(hi6:i≤1000000)(hab:ab<w.heap.size)
 (hc:w.cell? ⟨ab,ao+i*10,none⟩=some (.int .i64 xk)∧w.cell? ⟨ab,ao+i*10+1,none⟩=some (.int .i64 xo)∧w.cell? ⟨ab,ao+i*10+2,none⟩=some (.bool xn)∧w.cell? ⟨ab,ao+i*10+3,none⟩=some (.int .i64 xvk)∧w.cell? ⟨ab,ao+i*10+4,none⟩=some (.int .i64 xvi)∧w.cell? ⟨ab,ao+i*10+5,none⟩=some (.string xvt)∧w.cell? ⟨ab,ao+i*10+6,none⟩=some (.string xt)∧w.cell? ⟨ab,ao+i*10+7,none⟩=some (.string xnm)∧w.cell? ⟨ab,ao+i*10+8,none⟩=some (xva)∧w.cell? ⟨ab,ao+i*10+9,none⟩=some (xvs)):
 Calls prog 119 #[.agg #[k,o,no,vk,vi,vt,t,nm,Qv (some ⟨ab,ao,none⟩) an ac,vs],i] w (Qqd (.bool (decide (Qwh xk xo<Qvf k o i))) w):=by
 have HP:=hid fun wx=>Yqg xo xn xvk xvi xvt xt xnm xva xvs wx xk;have HL:=hid fun wx=>Yvi o no vk vi vt t nm (Qv (some ⟨ab,ao,none⟩) an ac) vs wx k i hi6;have HD:=hid (show decide (Qwh xk xo<Qvf k o i)=decide (Qwh xk xo<Qvf k o i) from rfl);generalize Qwh xk xo=p at HP HD⊢;generalize Qvf k o i=q at HL HD⊢;generalize hd:decide (p<q)=r at HD⊢;clear HD;have HD:=hid hd;have i0:(0:Int)≤(i:Int):=by omega
 have i1:(i:Int)<(an:Int):=by omega
 obtain⟨y0,y1,y2,y3,y4,y5,y6,y7,y8,y9⟩:=hc;go_enter func119,ntmps119;go_wp2_with fail
 generalize hW:World.alloc w _=W1;have hk0:=Qq5 (show W1.heap[w.heap.size]?=some (.cells #[k,o,no,vk,vi,vt,t,nm,Qv (some ⟨ab,ao,none⟩) an ac,vs] 80 (0,0)) by rw[←hW];exact Zw w _);obtain⟨c0,c1,c2,c3,c4,c5,c6,c7,c8,c9,_,xz⟩:=hk0;have hb1:Below w.heap.size w W1:=by rw[←hW];exact(Below.refl _ _).alloc (Zz _) _
 have HB1:=hid hb1
 have HSQ:Hid (∀wx,Below W1.heap.size W1 wx→(wx.cell? ⟨w.heap.size,0,none⟩=some (.int .i64 k)∧wx.cell? ⟨w.heap.size,1,none⟩=some (.int .i64 o)∧wx.cell? ⟨w.heap.size,2,none⟩=some (.bool no)∧wx.cell? ⟨w.heap.size,3,none⟩=some (.int .i64 vk)∧wx.cell? ⟨w.heap.size,4,none⟩=some (.int .i64 vi)∧wx.cell? ⟨w.heap.size,5,none⟩=some (.string vt)∧wx.cell? ⟨w.heap.size,6,none⟩=some (.string t)∧wx.cell? ⟨w.heap.size,7,none⟩=some (.string nm)∧wx.cell? ⟨w.heap.size,8,none⟩=some (Qv (some ⟨ab,ao,none⟩) an ac)∧wx.cell? ⟨w.heap.size,9,none⟩=some (vs))∧(wx.cell? ⟨ab,ao+i*10,none⟩=some (.int .i64 xk)∧wx.cell? ⟨ab,ao+i*10+1,none⟩=some (.int .i64 xo)∧wx.cell? ⟨ab,ao+i*10+2,none⟩=some (.bool xn)∧wx.cell? ⟨ab,ao+i*10+3,none⟩=some (.int .i64 xvk)∧wx.cell? ⟨ab,ao+i*10+4,none⟩=some (.int .i64 xvi)∧wx.cell? ⟨ab,ao+i*10+5,none⟩=some (.string xvt)∧wx.cell? ⟨ab,ao+i*10+6,none⟩=some (.string xt)∧wx.cell? ⟨ab,ao+i*10+7,none⟩=some (.string xnm)∧wx.cell? ⟨ab,ao+i*10+8,none⟩=some (xva)∧wx.cell? ⟨ab,ao+i*10+9,none⟩=some (xvs))):=hid fun wx hb=>by
  have hx:∀j,wx.cell? ⟨ab,j,none⟩=w.cell? ⟨ab,j,none⟩:=fun j=>(hb.cell (p:=⟨ab,j,none⟩) (Zm hab hb1.size)).trans (hb1.cell (p:=⟨ab,j,none⟩) hab);have hy:∀j,wx.cell? ⟨w.heap.size,j,none⟩=W1.cell? ⟨w.heap.size,j,none⟩:=fun j=>hb.cell (p:=⟨w.heap.size,j,none⟩) xz;simp only[hx,hy];exact⟨⟨c0,c1,c2,c3,c4,c5,c6,c7,c8,c9⟩,⟨y0,y1,y2,y3,y4,y5,y6,y7,y8,y9⟩⟩
 clear hW hb1 y0 y1 y2 y3 y4 y5 y6 y7 y8 y9 hd;refine Kg ?_;refine Kj (S:=fun w'=>(w'.cell? ⟨w.heap.size,0,none⟩=some (.int .i64 k)∧w'.cell? ⟨w.heap.size,1,none⟩=some (.int .i64 o)∧w'.cell? ⟨w.heap.size,2,none⟩=some (.bool no)∧w'.cell? ⟨w.heap.size,3,none⟩=some (.int .i64 vk)∧w'.cell? ⟨w.heap.size,4,none⟩=some (.int .i64 vi)∧w'.cell? ⟨w.heap.size,5,none⟩=some (.string vt)∧w'.cell? ⟨w.heap.size,6,none⟩=some (.string t)∧w'.cell? ⟨w.heap.size,7,none⟩=some (.string nm)∧w'.cell? ⟨w.heap.size,8,none⟩=some (Qv (some ⟨ab,ao,none⟩) an ac)∧w'.cell? ⟨w.heap.size,9,none⟩=some (vs))∧(w'.cell? ⟨ab,ao+i*10,none⟩=some (.int .i64 xk)∧w'.cell? ⟨ab,ao+i*10+1,none⟩=some (.int .i64 xo)∧w'.cell? ⟨ab,ao+i*10+2,none⟩=some (.bool xn)∧w'.cell? ⟨ab,ao+i*10+3,none⟩=some (.int .i64 xvk)∧w'.cell? ⟨ab,ao+i*10+4,none⟩=some (.int .i64 xvi)∧w'.cell? ⟨ab,ao+i*10+5,none⟩=some (.string xvt)∧w'.cell? ⟨ab,ao+i*10+6,none⟩=some (.string xt)∧w'.cell? ⟨ab,ao+i*10+7,none⟩=some (.string xnm)∧w'.cell? ⟨ab,ao+i*10+8,none⟩=some (xva)∧w'.cell? ⟨ab,ao+i*10+9,none⟩=some (xvs))) (by kernel_rfl) (HSQ.out _ (Qjn (Below.refl _ _))) (fun hHeld=>?_);refine tk 0 ?_;simp only[Act.put,Yy,Yj,Zj,Zx,Zk];refine tk 1 ?_;simp only[Act.put,Yy,Yg,Yj,Zj,Zx,Zk];refine tk 2 ?_;simp only[Act.put,Yy,Yg,Yj,Zj,Zx,Zk];refine tk 3 ?_;simp only[Act.put,Yy,Yg,Yj,Zj,Zx,Zk];refine tk 4 ?_;simp only[Act.put,Yy,Yg,Yj,Zj,Zx,Zk];refine tk 6 ?_;simp only[Act.put,Yy,Yg,Yj,Zj,Zx,Zk];refine tk 7 ?_;simp only[Act.put,Yy,Yg,Yj,Zj,Zx,Zk];clear c0 c1 c2 c3 c4 c5 c6 c7 c8 c9;refine Zc (rs:=[5]) (by kernel_rfl) (by simp) ?_;refine Zy (o:=_) rfl (fun K hK=>?_) Zf
 go_simp
 refine(HP.out _).mono ?_;rintro e wy1 ⟨rfl,hb⟩;have HC1:=hid ((Qjn (Below.refl W1.heap.size W1)).trans (hb.mono (Zz _)));dsimp only;refine hK.out _ _ (HSQ.out _ HC1.out) (fun hHeld=>?_);clear hK K hb;refine Zc (rs:=[8]) (by kernel_rfl) (by simp) ?_;refine Zy (o:=_) rfl (fun K hK=>?_) Zf
 go_simp
 refine(HL.out _).mono ?_;rintro e wy2 ⟨rfl,hb⟩;have HC2:=hid (HC1.out.trans (hb.mono HC1.out.size));dsimp only;refine hK.out _ _ (HSQ.out _ HC2.out) (fun hHeld=>?_);clear hK K hb;refine tk 9 ?_;simp only[Act.put,Yy,Yg,Yj,Zj,Zx,Zk];refine tk 10 ?_;simp only[Act.put,Yy,Yg,Yj,Zj,Zx,Zk];refine Kz (by kernel_rfl) ?_ _;refine Jd ?_;go_wp2_with fail
 go_ret;exact⟨by rw[←HD.out];first|rfl|simp,HB1.out.trans (HC2.out.mono HB1.out.size)⟩
def Uzr(M:Nat→Prop)(e:Ex):Prop:=∀(cs:List Value) (w:World),EC M w e cs→Qxo e→Calls prog 117 #[.agg cs.toArray] w (Qqd (.bool (Qzn e)) w)
theorem Qwe{M:Nat→Prop}(l:List Ex)(hall:∀e∈l,Uzr M e)(htx:∀e∈l,Qxo e)(v:Value)(w:World)(h:Qqq M w v l):
 Calls prog 80 #[v] w (Qqd (.bool (Qjc l)) w):=by
 obtain⟨a,c,rfl,hm⟩:=h.shape;unfold maxLen at hm;have HA:=hid h;have HALL:=hid hall;have HTX:=hid htx;clear h hall htx;go_enter func80,ntmps80;go_wp2_with fail
 go_loopw[7] (fun i wr=>∃j:Nat,j≤l.length∧i=.int .i64 j∧Below w.heap.size w wr∧∀i y,i<j→l[i]?=some y→Yko y=false) (fun i _=>l.length-(intOf i).toNat)
 case atStart=>exact⟨0,Zi _,rfl,Below.refl _ _,fun i y hi=>by omega⟩
 case round=>
  rename World=>wr;obtain⟨j,hj,rfl,hbel,hno⟩:=hrel;have HNO:=hid hno;clear hno;by_cases hlt:j<l.length
  ·rcases HA.out.open with⟨_,h⟩|⟨ab,ao,cap',hv',_,hab,_,_,hx⟩
   ·rw[h] at hlt;simp at hlt
   simp only[Yz] at hv';obtain⟨rfl,_,rfl⟩:=hv';have hxj:l[j]?=some l[j]:=Zg hlt;obtain⟨cs,hc,_,hcs⟩:=hx j _ hxj;have hmem:=Yk hxj;generalize l[j]=x at hxj hc hmem;have hcs':=hcs.keep (M:=NoM) (Qqb.bel hbel) id;have hlx:=fun wx (k:Below w.heap.size w wx)=>HALL.out x hmem cs wx (EC.keep (M:=M) (.bel k) x cs hc) (HTX.out x hmem);obtain⟨va,vs,rfl,hva,hvs⟩:=(Qji ..).1 hc;obtain⟨xa,xac,rfl,_⟩:=hva.shape;obtain⟨xs,xsc,rfl,_⟩:=hvs.shape;obtain⟨c0,c1,c2,c3,c4,c5,c6,c7,c8,c9⟩:=Qqr.c10 hcs';simp only[Qjg] at hlx;have HLX:=hid hlx;have HXJ:=hid hxj;have HBE:=hid hbel;have HLT:=hid hlt;have i0:(0:Int)≤(j:Int):=by omega
   have i1:(j:Int)<(l.length:Int):=by omega
   clear hlx hbel hx hc hcs hcs' hva hvs hmem hxj;have HP:=hid (show Yko x=!Qzn x from rfl);generalize Qzn x=b at HLX HP;cases b
   ·go_wp2_with fail
    refine(HLX.out _ (HBE.out.alloc HBE.out.size _)).mono ?_;rintro e w2 ⟨rfl,hb⟩;have HB2:=hid ((HBE.out.alloc HBE.out.size _).trans (hb.mono (by have:=HBE.out.size;simp;omega)));clear hb;dsimp only;go_wp2_with fail
    go_ret;refine⟨?_,HB2.out⟩;rw[Ujw (show l.findIdx? Yko=some j from Jqm HXJ.out HP.out HNO.out)];rfl
   ·go_wp2_with fail
    refine(HLX.out _ (HBE.out.alloc HBE.out.size _)).mono ?_;rintro e w2 ⟨rfl,hb⟩;have HB2:=hid ((HBE.out.alloc HBE.out.size _).trans (hb.mono (by have:=HBE.out.size;simp;omega)));clear hb;dsimp only;go_wp2_with fail
    go_roundw
    case rel=>
     have hlt2:=HLT.out;refine⟨j+1,by omega,by go_num,HB2.out,fun i y hi hy=>?_⟩;by_cases e:i=j
     ·subst e;rw[HXJ.out] at hy;cases hy;exact HP.out
     ·exact HNO.out i y (by omega) hy
    case measure=>
     have hlt2:=HLT.out;simp[intOf];omega
  ·have HBE:=hid hbel;clear hbel;go_wp2_with fail
   go_ret;refine⟨?_,HBE.out⟩;rw[Ujv (show l.findIdx? Yko=none from Jxs fun i y hi hy=>HNO.out i y (by omega) hy)];rfl
end Go.Proofs.YtgepbohjmgaojaaGreatDoor
