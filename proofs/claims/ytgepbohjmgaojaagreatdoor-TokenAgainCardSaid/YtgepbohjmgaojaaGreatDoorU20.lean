/- Which lists of names and which assignments are well-formed in the reference. Which assignments, queries and inserts are well-formed in the reference. -/
import Derived.Test.YtgepbohjmgaojaaGreatDoorU19
import Derived.Test.YtgepbohjmgaojaaGreatDoorVKS2
import Derived.Test.YtgepbohjmgaojaaGreatDoorVG9
set_option linter.all false
set_option maxHeartbeats 8000000
set_option maxRecDepth 100000
namespace Go.Proofs.YtgepbohjmgaojaaGreatDoor
open Value renaming slice→Qv
open Go.Proofs.Tryz
open Lib(hid)
open Go.RowKit
theorem Ykr{M:Nat→Prop}{w:World}{a:Option Addr}{n c j:Nat}{l:List ByteArray}{s:ByteArray}(h:Qjm M w (Qv a n c) l)(hj:l[j]?=some s):∃b o,a=some ⟨b,o,none⟩∧b<w.heap.size∧w.cell? ⟨b,o+j,none⟩=some (.string s)∧l.length≤c∧c≤maxLen:=by
 rcases Qqa.open h with⟨_,h0⟩|⟨b,o,cap,hv,_,hb,hc,hm,hx⟩
 ·rw[h0] at hj;simp at hj
 ·simp only[Yz] at hv;obtain⟨cs,rfl,_,hcs⟩:=hx j s hj;have h1:=hcs.c1;rw[Ks] at h1;exact⟨b,o,hv.1,hb,h1,hv.2.2▸hc,hv.2.2▸hm⟩
theorem Jjz{M:Nat→Prop}(l:List ByteArray)(v:Value)(w:World)(h:Qjm M w v l)(hs:∀s∈l,s.size≤maxLen):Calls prog 79 #[v] w (Qqd (.bool (Qv6 l)) w):=by
 obtain⟨a,c,rfl,hm⟩:=Qqa.shape h;unfold maxLen at hm;have HA:=hid h;have HS:=hid hs;have HV:Hid (Qv6 l=(decide (l.length≤8)&&l.all Qqo&&Qx6 [] l)):=hid rfl;clear h hs;by_cases h8:l.length≤8
 case neg=>
  go_enter func79,ntmps79;go_wp2_with fail
  go_ret;exact⟨by rw[HV.out];simp[h8],.refl _ _⟩
 go_enter func79,ntmps79;go_wp2_with fail
 go_loopw[12] (fun i wr=>∃j:Nat,j≤l.length∧i=.int .i64 (j:Int)∧Below w.heap.size w wr∧(∀i y,i<j→l[i]?=some y→Qqo y=true)∧∀i k x y,i<k→k<j→l[i]?=some x→l[k]?=some y→(x.toList==y.toList)=false) (fun i _=>l.length-(intOf i).toNat)
 case atStart=>exact⟨0,Zi _,rfl,.refl _ _,fun i y hi=>by omega,fun i k x y _ hk=>by omega⟩
 case round=>
  rename World=>wr;obtain⟨j,hj,rfl,hbel,hn,hd⟩:=hrel;have HN:=hid hn;have HD:=hid hd;have HB:=hid hbel;clear hn hd hbel;by_cases hlt:j<l.length
  ·have hxj:l[j]?=some l[j]:=Zg hlt;obtain⟨b,o,rfl,hbz,hc,hcap,hcm⟩:=Ykr HA.out hxj;unfold maxLen at hcm;have HSZ:=hid (HS.out _ (Yo hlt));generalize l[j]=s at hxj hc HSZ;have HC:=hid (fun W (k:Below w.heap.size w W)=>(k.cell (p:=⟨b,o+j,none⟩) hbz).trans hc);have HXJ:=hid hxj;have c0:=HC.out _ HB.out;clear hxj hc;have i0:(0:Int)≤(j:Int):=by omega
   have i1:(j:Int)<(l.length:Int):=by omega
   have i4:(j:Int)≤(c:Int):=by omega
   go_wp2_with fail
   refine(Qjr s _ HSZ.out).mono ?_;rintro e w2 ⟨rfl,rfl⟩;dsimp only;cases hb:Qqo s
   ·go_wp2_with fail
    go_ret;exact⟨by rw[HV.out,Uku HXJ.out hb];simp,HB.out⟩
   ·have HBS:=hid hb;clear hb;go_wp2_with fail
    go_loopw[24] (fun i w3=>∃m:Nat,m≤j∧i=.int .i64 (m:Int)∧w3=wr∧∀i x,i<m→l[i]?=some x→(x.toList==s.toList)=false) (fun i _=>j-(intOf i).toNat)
    case atStart=>exact⟨0,Zi _,rfl,rfl,fun i y hi=>by omega⟩
    case round=>
     rename World=>w3;obtain⟨m,hm2,rfl,rfl,hno⟩:=hrel;have HNO:=hid hno;clear hno;by_cases hlt2:m<j
     ·have hxm:l[m]?=some l[m]:=Zg (by omega);obtain⟨b',o',hbo,hbz',hc',_⟩:=Ykr HA.out hxm;simp only[Ym,Kf,and_true] at hbo;obtain⟨rfl,rfl⟩:=hbo;generalize l[m]=x at hxm hc';have c1:=(HB.out.cell (p:=⟨b,o+m,none⟩) hbz).trans hc';have HXM:=hid hxm;clear hxm hc';have i2:(0:Int)≤(m:Int):=by omega
      have i3:(m:Int)<(j:Int):=by omega
      cases he:(x.toList==s.toList)
      ·go_wp2_with fail
       go_roundw
       case rel=>
        refine⟨m+1,by omega,by go_num,(by first|rfl|trivial),fun i y hi hy=>?_⟩;by_cases e:i=m
        ·subst e;rw[HXM.out] at hy;cases hy;exact he
        ·exact HNO.out i y (by omega) hy
       case measure=>simp[intOf];omega
      ·go_wp2_with fail
       go_ret;exact⟨by rw[HV.out,Yzx hlt2 HXM.out HXJ.out he];simp,HB.out⟩
     ·obtain rfl:m=j:=by omega
      go_wp2_with fail
      go_roundw
      case rel=>
       refine⟨m+1,by omega,by go_num,HB.out,fun i y hi hy=>?_,fun i k x y hik hk hx hy=>?_⟩
       ·by_cases e:i=m
        ·subst e;rw[HXJ.out] at hy;cases hy;exact HBS.out
        ·exact HN.out i y (by omega) hy
       ·by_cases e:k=m
        ·subst e;rw[HXJ.out] at hy;cases hy;exact HNO.out i x hik hx
        ·exact HD.out i k x y hik (by omega) hx hy
      case measure=>simp[intOf];omega
  ·obtain rfl:j=l.length:=by omega
   go_wp2_with fail
   go_ret;exact⟨by rw[HV.out,Ukt (fun i y hi hy=>HN.out i y hi hy),Jyp (fun i k x y h1 h2 h3 h4=>HD.out i k x y h1 h2 h3 h4)];simp[h8],HB.out⟩
theorem Qqr.c11{w:World}{b o:Nat}{a0 a1 a2 a3 a4 a5 a6 a7 a8 a9 a10:Value}(h:Qqr w b o [a0,a1,a2,a3,a4,a5,a6,a7,a8,a9,a10]):
 w.cell? ⟨b,o,none⟩=some a0∧w.cell? ⟨b,o+1,none⟩=some a1∧w.cell? ⟨b,o+2,none⟩=some a2∧w.cell? ⟨b,o+3,none⟩=some a3∧w.cell? ⟨b,o+4,none⟩=some a4∧
 w.cell? ⟨b,o+5,none⟩=some a5∧w.cell? ⟨b,o+6,none⟩=some a6∧w.cell? ⟨b,o+7,none⟩=some a7∧w.cell? ⟨b,o+8,none⟩=some a8∧w.cell? ⟨b,o+9,none⟩=some a9∧w.cell? ⟨b,o+10,none⟩=some a10:=
 ⟨h 0 _ rfl,h 1 _ rfl,h 2 _ rfl,h 3 _ rfl,h 4 _ rfl,h 5 _ rfl,h 6 _ rfl,h 7 _ rfl,h 8 _ rfl,h 9 _ rfl,h 10 _ rfl⟩
theorem Jyq{M:Nat→Prop}{w:World}{a:Option Addr}{n c j:Nat}{l:List Qx4}{s:Qx4}(h:Qzb M w (Qv a n c) l)(hj:l[j]?=some s):
 ∃b o a1 c1 a2 c2,a=some ⟨b,o,none⟩∧b<w.heap.size∧EC M w s.ex (Qjg s.ex.kind s.ex.op s.ex.no s.ex.val s.ex.table s.ex.name (Qv a1 s.ex.args.length c1) (Qv a2 s.ex.sub.length c2))∧Qqr w b (o+j*11) (.string s.col::Qjg s.ex.kind s.ex.op s.ex.no s.ex.val s.ex.table s.ex.name (Qv a1 s.ex.args.length c1) (Qv a2 s.ex.sub.length c2))∧l.length≤c∧c≤maxLen:=by
 rcases Qqa.open h with⟨_,h0⟩|⟨b,o,cap,hv,_,hb,hc,hm,hx⟩
 ·rw[h0] at hj;simp at hj
 ·simp only[Yz] at hv;obtain⟨cs,⟨ce,rfl,he⟩,_,hcs⟩:=hx j s hj;have he0:=he;obtain⟨va,vs,rfl,hva,hvs⟩:=(Qji ..).1 he;obtain⟨a1,c1,rfl,_⟩:=hva.shape;obtain⟨a2,c2,rfl,_⟩:=hvs.shape;exact⟨b,o,a1,c1,a2,c2,hv.1,hb,he0,hcs,hv.2.2▸hc,hv.2.2▸hm⟩
theorem Yyu{l:List Qx4}{i:Nat}{y:Qx4}(h:l[i]?=some y)(hn:(Qqo y.col&&Qzn y.ex)=false):l.all (fun s=>Qqo s.col&&Qzn s.ex)=false:=by
 refine Ko.2 fun ha=>?_;have:=Yn.1 ha y (Yk h);rw[hn] at this;cases this
theorem Uyj{l:List Qx4}(h:∀(i:Nat) (y:Qx4),i<l.length→l[i]?=some y→(Qqo y.col&&Qzn y.ex)=true):l.all (fun s=>Qqo s.col&&Qzn s.ex)=true:=
 Yn.2 fun x hx=>by
  obtain⟨i,hi,rfl⟩:=Yt.1 hx;exact h i _ hi (Zg hi)
theorem Yyv{l:List Qx4}{i:Nat}{x:Qx4}(h:l[i]?=some x):(l.map Qx4.col)[i]?=some x.col:=by rw[Yi,h];rfl
theorem Ywo{M:Nat→Prop}(l:List Qx4)(v:Value)(w:World)(h:Qzb M w v l)(hs:∀s∈l,s.col.size≤maxLen∧Qxo s.ex):Calls prog 83 #[v] w (Qqd (.bool (Jzy l)) w):=by
 obtain⟨a,c,rfl,hm⟩:=Qqa.shape h;unfold maxLen at hm;have HA:=hid h;have HS:=hid hs;have HV:Hid (Jzy l=(l.all (fun s=>Qqo s.col&&Qzn s.ex)&&Qx6 [] (l.map Qx4.col))):=hid rfl;clear h hs;go_enter func83,ntmps83;go_wp2_with fail
 go_loopw[9] (fun i wr=>∃j:Nat,j≤l.length∧i=.int .i64 (j:Int)∧Below w.heap.size w wr∧(∀i y,i<j→l[i]?=some y→(Qqo y.col&&Qzn y.ex)=true)∧∀i k x y,i<k→k<j→l[i]?=some x→l[k]?=some y→(x.col.toList==y.col.toList)=false) (fun i _=>l.length-(intOf i).toNat)
 case atStart=>exact⟨0,Zi _,rfl,.refl _ _,fun i y hi=>by omega,fun i k x y _ hk=>by omega⟩
 case round=>
  rename World=>wr;obtain⟨j,hj,rfl,hbel,hn,hd⟩:=hrel;have HN:=hid hn;have HD:=hid hd;have HB:=hid hbel;have hz0:=hbel.size;clear hn hd hbel;by_cases hlt:j<l.length
  ·have hxj:l[j]?=some l[j]:=Zg hlt;have hsm:=HS.out _ (Yo hlt);generalize l[j]=s at hxj hsm;obtain⟨b,o,a1,n1,a2,n2,rfl,hbz,hec,hcs,hcap,hcm⟩:=Jyq HA.out hxj;unfold maxLen at hcm;have hlx:=fun wx (k:Below w.heap.size w wx)=>Qvy s.ex _ wx (EC.keep (M:=M) (.bel k) s.ex _ hec) hsm.2;simp only[Qjg] at hlx hcs;obtain⟨c0,c1,c2,c3,c4,c5,c6,c7,c8,c9,c10⟩:=(hcs.keep (M:=NoM) (.bel HB.out) id).c11;have HXJ:=hid hxj;have HSM:=hid hsm;have HLX:=hid hlx;clear hxj hsm hec hcs hlx;have i0:(0:Int)≤(j:Int):=by omega
   have i1:(j:Int)<(l.length:Int):=by omega
   go_wp2_with fail
   generalize hW:World.alloc wr _=wb;have hb0:wb.heap[wr.heap.size]?=some (.cells #[s.col,s.ex.kind,s.ex.op,s.ex.no,s.ex.val.kind,s.ex.val.int,s.ex.val.text,s.ex.table,s.ex.name,Qv a1 s.ex.args.length n1,Qv a2 s.ex.sub.length n2] 155 (0,0)):=by rw[←hW];exact Zw wr _
   have HBB:=hid (show Below w.heap.size w wb from by rw[←hW];exact HB.out.alloc HB.out.size _);have hzb:=(Zq.1 hb0).1;have HB0:=hid hb0;clear hW c0 c1 c2 c3 c4 c5 c6 c7 c8 c9 c10 hb0;refine(Qjr s.col _ HSM.out.1).mono ?_;rintro e w2 ⟨rfl,rfl⟩;dsimp only;cases hnb:Qqo s.col
   ·go_wp2_with fail
    go_ret;exact⟨by rw[HV.out,Yyu HXJ.out (by rw[hnb];rfl)];simp,HBB.out⟩
   ·obtain⟨d0,d1,d2,d3,d4,d5,d6,d7,d8,d9,d10,_⟩:=Qjw HB0.out;have HNB:=hid hnb;clear hnb;go_wp2_with fail
    refine(HLX.out _ HBB.out).mono ?_;rintro e w4 ⟨rfl,hb4⟩;have HB4:=hid hb4;have HBW:=hid (HBB.out.trans (hb4.mono HBB.out.size));have h4:=(hb4.block _ hzb).trans HB0.out;have hz4:=(Zq.1 h4).1;have HB40:=hid h4;clear hb4 h4 d0 d1 d2 d3 d4 d5 d6 d7 d8 d9 d10 HB0;dsimp only;cases hvb:Qzn s.ex
    ·go_wp2_with fail
     go_ret;exact⟨by rw[HV.out,Yyu HXJ.out (by rw[hvb,Bool.and_false])];simp,HBW.out⟩
    ·have HVB:=hid hvb;clear hvb;go_wp2_with fail
     go_loopw[28] (fun i w3=>∃m:Nat,m≤j∧i=.int .i64 (m:Int)∧Below w4.heap.size w4 w3∧∀i x,i<m→l[i]?=some x→(x.col.toList==s.col.toList)=false) (fun i _=>j-(intOf i).toNat)
     case atStart=>exact⟨0,Zi _,rfl,.refl _ _,fun i y hi=>by omega⟩
     case round=>
      rename World=>w3;obtain⟨m,hm2,rfl,hb3,hno⟩:=hrel;have HNO:=hid hno;have HB3:=hid hb3;have HBW3:=hid (HBW.out.trans (hb3.mono HBW.out.size));have hz3:=hb3.size;have HB30:=hid ((hb3.block _ hz4).trans HB40.out);clear hno hb3;by_cases hlt2:m<j
      ·have hxm:l[m]?=some l[m]:=Zg (by omega);generalize l[m]=x at hxm;obtain⟨b',o',a1',n1',a2',n2',hbo,hbz',_,hcs',_⟩:=Jyq HA.out hxm;simp only[Ym,Kf,and_true] at hbo;obtain⟨rfl,rfl⟩:=hbo;simp only[Qjg] at hcs';obtain⟨c0,c1,c2,c3,c4,c5,c6,c7,c8,c9,c10⟩:=(hcs'.keep (M:=NoM) (.bel HBW3.out) id).c11;obtain⟨d0,_⟩:=Qjw HB30.out;have HXM:=hid hxm;clear hxm hcs';have i2:(0:Int)≤(m:Int):=by omega
       have i3:(m:Int)<(j:Int):=by omega
       cases he:(x.col.toList==s.col.toList)
       ·go_wp2_with fail
        go_roundw
        case rel=>
         refine⟨m+1,by omega,by go_num,HB3.out.alloc hz3 _,fun i y hi hy=>?_⟩;by_cases e:i=m
         ·subst e;rw[HXM.out] at hy;cases hy;exact he
         ·exact HNO.out i y (by omega) hy
        case measure=>simp[intOf];omega
       ·go_wp2_with fail
        go_ret;exact⟨by rw[HV.out,Yzx hlt2 (Yyv HXM.out) (Yyv HXJ.out) he];simp,HBW3.out.alloc HBW3.out.size _⟩
      ·obtain rfl:m=j:=by omega
       go_wp2_with fail
       go_roundw
       case rel=>
        refine⟨m+1,by omega,by go_num,HBW3.out,fun i y hi hy=>?_,fun i k x y hik hk hx hy=>?_⟩
        ·by_cases e:i=m
         ·subst e;rw[HXJ.out] at hy;cases hy;rw[HNB.out,HVB.out];rfl
         ·exact HN.out i y (by omega) hy
        ·by_cases e:k=m
         ·subst e;rw[HXJ.out] at hy;cases hy;exact HNO.out i x hik hx
         ·exact HD.out i k x y hik (by omega) hx hy
       case measure=>simp[intOf];omega
  ·obtain rfl:j=l.length:=by omega
   go_wp2_with fail
   go_ret;refine⟨?_,HB.out⟩;rw[HV.out,Uyj (fun i y hi hy=>HN.out i y hi hy),Jyp (fun i k x y h1 h2 h3 h4=>?_)]
   ·rfl
   ·rw[Ys] at h2;rw[Yi] at h3 h4;obtain⟨x',hx',rfl⟩:=Ju.1 h3;obtain⟨y',hy',rfl⟩:=Ju.1 h4;exact HD.out i k x' y' h1 h2 hx' hy'
theorem Jvn{M:Nat→Prop}(st:Bool)(items whr:List Ex)(f:ByteArray)(vi vw:Value)(w:World)(hi:Qqq M w vi items)(hw:Qqq M w vw whr)(ha:∀e∈items,Qxo e)(hb:∀e∈whr,Qxo e)(hf:f.size≤maxLen):
 Calls prog 40 #[.agg #[st,vi,f,vw]] w (Qqd (.bool (Qv7 (.mk st items f whr))) w):=by
 obtain⟨ia,ic,rfl,hmi⟩:=hi.shape;obtain⟨wa,wc,rfl,hmw⟩:=hw.shape;unfold maxLen at hmi hmw;have HI:=hid fun W (k:Below w.heap.size w W)=>Qwe items (fun e _=>Qvy e) ha _ W (Qqq.keep hi (.bel k));have HW:=hid fun W (k:Below w.heap.size w W)=>Qwe whr (fun e _=>Qvy e) hb _ W (Qqq.keep hw (.bel k));have HF:=hid hf;have HV:Hid (Qv7 (.mk st items f whr)=(Qju f&&decide (items.length≤8)&&(st==decide (items.length=0))&&Qjc items&&(decide (whr.length≤1)&&Qjc whr))):=hid rfl;clear hi hw ha hb hf;go_enter func40,ntmps40;go_wp2_with fail
 generalize hW0:World.alloc w _=W;have hS:W.heap[w.heap.size]?=some (.cells #[st,Qv ia items.length ic,f,Qv wa whr.length wc] 37 (0,0)):=by rw[←hW0];exact Zw w _
 have HBW:=hid (show Below w.heap.size w W from by rw[←hW0];exact(Below.refl _ _).alloc (Zz _) _);have hz:=(Zq.1 hS).1;obtain⟨q0,q1,q2,q3,_⟩:=Qzo hS;have HS:=hid hS;clear hW0 hS;refine(Jv9 f _ HF.out).mono ?_;rintro e w1 ⟨rfl,rfl⟩;dsimp only;cases hsb:Qju f
 ·go_wp2_with fail
  go_ret;exact⟨by rw[HV.out,hsb];rfl,HBW.out⟩
 ·by_cases h1:whr.length≤1
  case neg=>
   have p1:(1:Int)<(whr.length:Int):=by omega
   go_wp2_with fail
   go_ret;exact⟨by rw[HV.out];simp[h1],HBW.out⟩
  have n1:¬((1:Int)<(whr.length:Int)):=by omega
  by_cases h8:items.length≤8
  case neg=>
   have p8:(8:Int)<(items.length:Int):=by omega
   go_wp2_with fail
   go_ret;exact⟨by rw[HV.out];simp[h8],HBW.out⟩
  have n8:¬((8:Int)<(items.length:Int)):=by omega
  cases hst:(st==decide (items.length=0))
  ·by_cases h0:items.length=0
   ·have z0:((items.length:Int)==0)=true:=by simpa using h0
    cases st
    ·go_wp2_with fail
     go_ret;exact⟨by rw[HV.out,hst];simp,HBW.out⟩
    ·simp[h0] at hst
   ·have z0:((items.length:Int)==0)=false:=by simpa using h0
    cases st
    ·simp[h0] at hst
    ·go_wp2_with fail
     go_ret;exact⟨by rw[HV.out,hst];simp,HBW.out⟩
  ·have HR:Hid (Qv7 (.mk st items f whr)=(Qjc items&&Qjc whr)):=hid (by rw[HV.out,hsb,hst];simp[h1,h8])
   have hgo:(st=true∧items.length=0)∨(st=false∧items.length≠0):=by
    cases st
    ·right;exact⟨rfl,by simpa using hst⟩
    ·left;exact⟨rfl,by simpa using hst⟩
   clear HV hst hsb
   rcases hgo with⟨rfl,h0⟩|⟨rfl,h0⟩
   ·have z0:((items.length:Int)==0)=true:=by simpa using h0
    clear h0;go_wp2_with fail
    refine(HI.out _ HBW.out).mono ?_;rintro e w2 ⟨rfl,hb2⟩;have HB2:=hid (HBW.out.trans (hb2.mono HBW.out.size));obtain⟨q0',q1',q2',q3',_⟩:=Qzo ((hb2.block _ hz).trans HS.out);clear hb2 q0 q1 q2 q3;dsimp only;cases hvi:Qjc items
    ·go_wp2_with fail
     go_ret;exact⟨by rw[HR.out,hvi];rfl,HB2.out⟩
    ·go_wp2_with fail
     refine(HW.out _ HB2.out).mono ?_;rintro e w3 ⟨rfl,hb3⟩;have HB3:=hid (HB2.out.trans (hb3.mono HB2.out.size));clear hb3;dsimp only;go_wp2_with fail
     go_ret;exact⟨by rw[HR.out,hvi];rfl,HB3.out⟩
   ·have z0:((items.length:Int)==0)=false:=by simpa using h0
    clear h0;go_wp2_with fail
    refine(HI.out _ HBW.out).mono ?_;rintro e w2 ⟨rfl,hb2⟩;have HB2:=hid (HBW.out.trans (hb2.mono HBW.out.size));obtain⟨q0',q1',q2',q3',_⟩:=Qzo ((hb2.block _ hz).trans HS.out);clear hb2 q0 q1 q2 q3;dsimp only;cases hvi:Qjc items
    ·go_wp2_with fail
     go_ret;exact⟨by rw[HR.out,hvi];rfl,HB2.out⟩
    ·go_wp2_with fail
     refine(HW.out _ HB2.out).mono ?_;rintro e w3 ⟨rfl,hb3⟩;have HB3:=hid (HB2.out.trans (hb3.mono HB2.out.size));clear hb3;dsimp only;go_wp2_with fail
     go_ret;exact⟨by rw[HR.out,hvi];rfl,HB3.out⟩
def Jyr(r:List Ex):Bool:=decide (1≤r.length)&&decide (r.length≤6)&&Qjc r
def Qyv(a:Qzq):Bool:=Jyb a.rows&&(if a.rows.length=0 then decide (a.query.length=1)&&a.query.all Qv7 else Qzc a.query)
theorem Yzy{l:List (List Ex)}{i:Nat}{r:List Ex}(h:l[i]?=some r)(hn:Jyr r=false):l.all Jyr=false:=by
 refine Ko.2 fun ha=>?_;have:=Yn.1 ha r (Yk h);rw[hn] at this;cases this
theorem Uyk{l:List (List Ex)}(h:∀(i:Nat) (r:List Ex),i<l.length→l[i]?=some r→Jyr r=true):l.all Jyr=true:=
 Yn.2 fun x hx=>by
  obtain⟨i,hi,rfl⟩:=Yt.1 hx;exact h i _ hi (Zg hi)
theorem Yzz{M:Nat→Prop}(a:Qzq)(vr vq:Value)(sa aw:Option Addr)(ns cs nw cw:Nat)(w:World)(hr:Jqc M w vr a.rows)(hq:Qz1 M w vq a.query)
 (htr:∀r∈a.rows,∀e∈r,Qxo e)(htq:∀q∈a.query,(∀e∈q.items,Qxo e)∧(∀e∈q.whr,Qxo e)∧q.frm.size≤maxLen):
 Calls prog 82 #[.agg #[a.kind,a.table,vr,vq,Qv sa ns cs,Qv aw nw cw,a.text]] w (Qqd (.bool (Qyv a)) w):=by
 obtain⟨ra,rc,rfl,hmr⟩:=Qqa.shape hr;obtain⟨qa,qc,rfl,hmq⟩:=Qqa.shape hq;unfold maxLen at hmr hmq;have HR:=hid hr;have HQ:=hid hq;have HTR:=hid htr;have HTQ:=hid htq;have HV:Hid (Qyv a=(decide (a.rows.length≤8)&&a.rows.all Jyr&&(if a.rows.length=0 then decide (a.query.length=1)&&a.query.all Qv7 else Qzc a.query))):=hid rfl;clear hr hq htr htq;generalize hrows:a.rows=rows at HR HTR HV hmr;generalize hqs:a.query=qs at HQ HTQ HV hmq;have HAE:=hid (Ze hrows hqs);clear hrows hqs
 rcases qs with _|⟨q,_|⟨q2,ql⟩⟩
 ·by_cases h0:rows.length=0
  ·obtain rfl:rows=[]:=Yd h0;go_enter func82,ntmps82;go_wp2_with fail
   go_ret;exact⟨by rw[HV.out];rfl,(Below.refl _ _).alloc (Zz _) _⟩
  have p0:(0:Int)<(rows.length:Int):=by omega
  by_cases h8:rows.length≤8
  case neg=>
   have p8:(8:Int)<(rows.length:Int):=by omega
   go_enter func82,ntmps82;go_wp2_with fail
   go_ret;exact⟨by rw[HV.out];simp[h8],(Below.refl _ _).alloc (Zz _) _⟩
  have n8:¬((8:Int)<(rows.length:Int)):=by omega
  have HV1:Hid (Qyv a=rows.all Jyr):=hid (by rw[HV.out];simp[h8,h0,Qzc]);clear h0 HV;have HV:=HV1;clear HV1;go_enter func82,ntmps82;go_wp2_with fail
  generalize hW0:World.alloc w _=W;have hS:W.heap[w.heap.size]?=some (.cells #[a.kind,a.table,Qv ra rows.length rc,Qv qa 0 qc,Qv sa ns cs,Qv aw nw cw,a.text] 42 (0,0)):=by rw[←hW0];exact Zw w _
  have HBW:=hid (show Below w.heap.size w W from by rw[←hW0];exact(Below.refl _ _).alloc (Zz _) _);have hz:=(Zq.1 hS).1;have HS:=hid hS;clear hW0 hS
  go_loopw[29] (fun i wr=>∃j:Nat,j≤rows.length∧i=.int .i64 (j:Int)∧Below W.heap.size W wr∧∀i y,i<j→rows[i]?=some y→Jyr y=true) (fun i _=>rows.length-(intOf i).toNat)
  case atStart=>exact⟨0,Zi _,rfl,Below.refl _ _,fun i y hi=>by omega⟩
  case round=>
   rename World=>wr;obtain⟨j,hj,rfl,hbel,hn⟩:=hrel;have HN:=hid hn;have HBR:=hid hbel;have HB:=hid (HBW.out.trans (hbel.mono HBW.out.size));obtain⟨x0,x1,x2,x3,x4,x5,x6,_⟩:=Qze ((hbel.block _ hz).trans HS.out);have hzr:=hbel.size;clear hn hbel;by_cases hlt:j<rows.length
   ·have hxj:rows[j]?=some rows[j]:=Zg hlt;have hmem:=Yo hlt;generalize rows[j]=r at hxj hmem
    rcases Qqa.open HR.out with⟨_,h0⟩|⟨b,o,cap,hv,_,hbz,_,_,hx⟩
    ·rw[h0] at hlt;simp at hlt
    simp only[Yz] at hv;obtain⟨rfl,_,rfl⟩:=hv;obtain⟨ds,⟨v,rfl,hex⟩,_,hds⟩:=hx j _ hxj;obtain⟨xa,xc,rfl,hxm⟩:=hex.shape;unfold maxLen at hxm;have c0:=(hds.keep (M:=NoM) (.bel HB.out) id).c1;simp only[Ks] at c0;have HAL:=hid fun W (k:Below w.heap.size w W)=>Qwe r (fun e _=>Qvy e) (HTR.out r hmem) _ W (Qqq.keep hex (.bel k));have HXJ:=hid hxj;have i0:(0:Int)≤(j:Int):=by omega
    have i1:(j:Int)<(rows.length:Int):=by omega
    clear hx hds hex hxj hmem;by_cases h1:1≤r.length
    case neg=>
     have p1:(r.length:Int)<1:=by omega
     go_wp2_with fail
     go_ret;exact⟨by rw[HV.out,Yzy HXJ.out (by simp[Jyr,h1])];simp,HB.out⟩
    have n1:¬((r.length:Int)<1):=by omega
    by_cases h6:r.length≤6
    case neg=>
     have p6:(6:Int)<(r.length:Int):=by omega
     go_wp2_with fail
     go_ret;exact⟨by rw[HV.out,Yzy HXJ.out (by simp[Jyr,h6])];simp,HB.out⟩
    have n6:¬((6:Int)<(r.length:Int)):=by omega
    go_wp2_with fail
    refine(HAL.out _ HB.out).mono ?_;rintro e w2 ⟨rfl,hb2⟩;have HB2:=hid (HB.out.trans (hb2.mono HB.out.size));have HBR2:=hid (HBR.out.trans (hb2.mono hzr));clear hb2;dsimp only;cases hvl:Qjc r
    ·go_wp2_with fail
     go_ret;exact⟨by rw[HV.out,Yzy HXJ.out (by simp[Jyr,hvl])];simp,HB2.out⟩
    ·have HVL:=hid hvl;clear hvl;go_wp2_with fail
     go_roundw
     case rel=>
      refine⟨j+1,by omega,by go_num,HBR2.out,fun i y hi hy=>?_⟩;by_cases e:i=j
      ·subst e;rw[HXJ.out] at hy;cases hy;simp[Jyr,h1,h6,HVL.out]
      ·exact HN.out i y (by omega) hy
     case measure=>simp[intOf];omega
   ·obtain rfl:j=rows.length:=by omega
    go_wp2_with fail
    go_ret;exact⟨by rw[HV.out,Uyk (fun i y hi hy=>HN.out i y hi hy)];simp,HB.out⟩
 ·by_cases h0:rows.length=0
  ·obtain rfl:rows=[]:=Yd h0;have HQV:Hid (Qyv a=Qv7 q):=hid (by rw[HV.out];simp);obtain⟨st,items,f,whr⟩:=q;obtain⟨ht1,ht2,ht3⟩:=HTQ.out (.mk st items f whr) (by simp);simp only[Qu.items,Qu.whr,Qu.frm] at ht1 ht2 ht3
   rcases Qqa.open HQ.out with⟨_,hn⟩|⟨b,o,cap,hv,_,hbz,_,_,hx⟩
   ·cases hn
   simp only[Yz] at hv;obtain⟨rfl,_,rfl⟩:=hv;obtain⟨ds,hqc,_,hds⟩:=hx 0 _ rfl;obtain⟨vi,vw,rfl,hi,hwh⟩:=(Qxg ..).1 hqc;obtain⟨ia,ic,rfl,_⟩:=hi.shape;obtain⟨wa,wc,rfl,_⟩:=hwh.shape;have HI:=hid (show Qqq M w (Qv ia items.length ic) items from hi);have HWH:=hid (show Qqq M w (Qv wa whr.length wc) whr from hwh);have HDS:=hid (show Qqr w b (o+0*4) [st,Qv ia items.length ic,f,Qv wa whr.length wc] from hds);have HT1:=hid ht1;have HT2:=hid ht2;have HT3:=hid ht3;clear hx hqc hds hi hwh ht1 ht2 ht3 HTQ HV h0;simp only[Yw,Zb,Ye];go_enter func82,ntmps82;go_wp2_with fail
   generalize hW0:World.alloc w _=W;have hS:W.heap[w.heap.size]?=some (.cells #[a.kind,a.table,Qv ra 0 rc,Qv (some ⟨b,o,none⟩) 1 qc,Qv sa ns cs,Qv aw nw cw,a.text] 42 (0,0)):=by rw[←hW0];exact Zw w _
   have HBW:=hid (show Below w.heap.size w W from by rw[←hW0];exact(Below.refl _ _).alloc (Zz _) _);obtain⟨x0,x1,x2,x3,x4,x5,x6,_⟩:=Qze hS;obtain⟨q0,q1,q2,q3⟩:=Qqr.c4 (HDS.out.keep (M:=NoM) (.bel HBW.out) id);simp only[Jr,Je] at q0 q1 q2 q3;clear hW0 hS hbz hmr hmq;have i0:(0:Int)≤0:=by omega
   go_loopw[29] (fun i wr=>i=.int .i64 0∧wr=W) (fun _ _=>0)
   case atStart=>exact⟨rfl,rfl⟩
   case round=>
    rename World=>wr;obtain⟨rfl,rfl⟩:=hrel;go_wp2_with fail
    refine(Jvn st items whr f _ _ _ (Qqq.keep HI.out (.bel HBW.out)) (Qqq.keep HWH.out (.bel HBW.out)) HT1.out HT2.out HT3.out).mono ?_;rintro e w2 ⟨rfl,hb2⟩;have HB2:=hid (HBW.out.trans (hb2.mono HBW.out.size));clear hb2;dsimp only;go_wp2_with fail
    go_ret;exact⟨by rw[HQV.out];simp,HB2.out⟩
  ·have p0:(0:Int)<(rows.length:Int):=by omega
   go_enter func82,ntmps82;go_wp2_with fail
   go_ret;refine⟨?_,(Below.refl _ _).alloc (Zz _) _⟩;rw[HV.out];simp[h0,Qzc]
 ·go_enter func82,ntmps82;have p1:(1:Int)<((ql.length:Int)+1+1):=by omega
  go_wp2_with fail
  go_ret;refine⟨?_,(Below.refl _ _).alloc (Zz _) _⟩;rw[HV.out];have hn:Qzc (q::q2::ql)=false:=by simp[Qzc]
  split<;>simp[hn]
theorem Yks(st:Bool)(ia wa:Option Addr)(n1 c1 n2 c2:Nat)(f:ByteArray)(w:World):
 Calls prog 35 #[.agg #[st,Qv ia n1 c1,f,Qv wa n2 c2]] w (Qqd (.bool (!st&&((n1:Int)==0)&&(f.toList==([]:List UInt8))&&((n2:Int)==0))) w):=by
 cases st
 case true=>
  go_enter func35,ntmps35;go_wp2_with fail
  go_ret;exact⟨rfl,(Below.refl _ _).alloc (Zz _) _⟩
 go_enter func35,ntmps35;cases h1:((n1:Int)==0)
 ·go_wp2_with fail
  go_ret;exact⟨by simp[h1],(Below.refl _ _).alloc (Zz _) _⟩
 ·cases h2:(f.toList==([]:List UInt8))
  ·go_wp2_with fail
   go_ret;exact⟨by simp[h2],(Below.refl _ _).alloc (Zz _) _⟩
  ·cases h3:((n2:Int)==0)
   ·go_wp2_with fail
    go_ret;exact⟨by simp[h3],(Below.refl _ _).alloc (Zz _) _⟩
   ·go_wp2_with fail
    go_ret;exact⟨by simp[h1,h2,h3],(Below.refl _ _).alloc (Zz _) _⟩
theorem Yz0(k:Int)(t x:ByteArray)(a1 a2 a3 a4:Option Addr)(n1 c1 n2 c2 n3 c3 n4 c4:Nat)(w:World):
 Calls prog 36 #[.agg #[k,t,Qv a1 n1 c1,Qv a2 n2 c2,Qv a3 n3 c3,Qv a4 n4 c4,x]] w (Qqd (.bool ((k==0)&&(t.toList==([]:List UInt8))&&((n1:Int)==0)&&((n2:Int)==0)&&((n3:Int)==0)&&((n4:Int)==0)&&(x.toList==([]:List UInt8)))) w):=by
 go_enter func36,ntmps36;cases h0:(k==0)
 ·go_wp2_with fail
  go_ret;exact⟨by simp[h0],(Below.refl _ _).alloc (Zz _) _⟩
 ·cases h1:(t.toList==([]:List UInt8))
  ·go_wp2_with fail
   go_ret;exact⟨by simp[h1],(Below.refl _ _).alloc (Zz _) _⟩
  ·cases h2:((n1:Int)==0)
   ·go_wp2_with fail
    go_ret;exact⟨by simp[h2],(Below.refl _ _).alloc (Zz _) _⟩
   ·cases h3:((n2:Int)==0)
    ·go_wp2_with fail
     go_ret;exact⟨by simp[h3],(Below.refl _ _).alloc (Zz _) _⟩
    ·cases h4:((n3:Int)==0)
     ·go_wp2_with fail
      go_ret;exact⟨by simp[h4],(Below.refl _ _).alloc (Zz _) _⟩
     ·cases h5:((n4:Int)==0)
      ·go_wp2_with fail
       go_ret;exact⟨by simp[h5],(Below.refl _ _).alloc (Zz _) _⟩
      ·cases h6:(x.toList==([]:List UInt8))
       ·go_wp2_with fail
        go_ret;exact⟨by simp[h6],(Below.refl _ _).alloc (Zz _) _⟩
       ·go_wp2_with fail
        go_ret;exact⟨by simp[h0,h1,h2,h3,h4,h5,h6],(Below.refl _ _).alloc (Zz _) _⟩
theorem Yqa(nm tb:ByteArray)(bf each:Bool)(ev:Int)(a1 a2 a3 a4 a5 a6:Option Addr)(n1 c1 n2 c2 n3 c3 n4 c4 n5 c5 n6 c6:Nat)(w:World)(hn:n1+n2+n3+n4+n5+n6≤9000000000000000000):
 Calls prog 34 #[.agg #[nm,tb,bf,ev,Qv a1 n1 c1,each,Qv a2 n2 c2,Qv a3 n3 c3,Qv a4 n4 c4,Qv a5 n5 c5,Qv a6 n6 c6]] w
  (Qqd (.bool ((nm.toList==([]:List UInt8))&&(tb.toList==([]:List UInt8))&&!bf&&(ev==0)&&!each&&(((n1:Int)+n2+n3+n4+n5+n6)==0))) w):=by
 have w1:IntKind.i64.wrap ((n1:Int)+n2)=(n1:Int)+n2:=Zp _ (by omega);have w2:IntKind.i64.wrap ((n1:Int)+n2+n3)=(n1:Int)+n2+n3:=Zp _ (by omega);have w3:IntKind.i64.wrap ((n1:Int)+n2+n3+n4)=(n1:Int)+n2+n3+n4:=Zp _ (by omega);have w4:IntKind.i64.wrap ((n1:Int)+n2+n3+n4+n5)=(n1:Int)+n2+n3+n4+n5:=Zp _ (by omega);have w5:IntKind.i64.wrap ((n1:Int)+n2+n3+n4+n5+n6)=(n1:Int)+n2+n3+n4+n5+n6:=Zp _ (by omega);clear hn;go_enter func34,ntmps34;cases h0:(nm.toList==([]:List UInt8))
 ·go_wp2_with fail
  go_ret;exact⟨by simp[h0],(Below.refl _ _).alloc (Zz _) _⟩
 ·cases h1:(tb.toList==([]:List UInt8))
  ·go_wp2_with fail
   go_ret;exact⟨by simp[h1],(Below.refl _ _).alloc (Zz _) _⟩
  ·cases h2:!bf
   ·go_wp2_with fail
    go_ret;exact⟨by simp[h2],(Below.refl _ _).alloc (Zz _) _⟩
   ·cases h3:(ev==0)
    ·go_wp2_with fail
     go_ret;exact⟨by simp[h3],(Below.refl _ _).alloc (Zz _) _⟩
    ·cases h4:!each
     ·go_wp2_with fail
      go_ret;exact⟨by simp[h4],(Below.refl _ _).alloc (Zz _) _⟩
     ·cases h5:(((n1:Int)+n2+n3+n4+n5+n6)==0)
      ·go_wp2_with fail
       go_ret;exact⟨by simp[h5],(Below.refl _ _).alloc (Zz _) _⟩
      ·go_wp2_with fail
       go_ret;exact⟨by simp[h0,h1,h2,h3,h4,h5],(Below.refl _ _).alloc (Zz _) _⟩
end Go.Proofs.YtgepbohjmgaojaaGreatDoor
