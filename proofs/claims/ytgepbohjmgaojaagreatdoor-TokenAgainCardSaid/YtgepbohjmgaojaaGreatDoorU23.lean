/- Which schemas and statements are well-formed in the reference. The reference's words of columns. -/
import Derived.Test.YtgepbohjmgaojaaGreatDoorU22
set_option linter.all false
set_option maxHeartbeats 8000000
set_option maxRecDepth 100000
namespace Go.Proofs.YtgepbohjmgaojaaGreatDoor
open Value renaming slice→Qv
open Go.Proofs.Tryz
open Lib(hid)
open Go.RowKit
theorem Uj7{M:Nat→Prop}(nm:ByteArray)(v:Value)(l:List Col)(c:ByteArray)(w:World)(hv:Qq1 M w v l):
 Calls prog 76 #[.agg #[nm,v],c] w (Qqd (.int .i64 (Yj0 (Qx5 l c))) w):=by
 obtain⟨a,cap,rfl,hm⟩:=hv.shape;unfold maxLen at hm;have HL:=hid fun j (hj:j<l.length)=>Qx7 hv hj
 obtain⟨n,hn⟩:∃n,l.length=n:=⟨_,rfl⟩
 rw[hn] at HL hm⊢;have HNL:=hid hn;clear hv hn;go_enter func76,ntmps76;go_wp2_with fail
 go_loopw[10] (fun i wr=>∃j:Nat,j≤n∧i=.int .i64 (j:Int)∧Below w.heap.size w wr∧∀i y,i<j→l[i]?=some y→Jjf c y=false) (fun i _=>n-(intOf i).toNat)
 case atStart=>exact⟨0,Zi _,rfl,(Below.refl _ _).alloc (Zz _) _,fun i y hi=>by omega⟩
 case round=>
  rename World=>wr;obtain⟨j,hj,rfl,hbel,hnn⟩:=hrel;have HN:=hid hnn;have HB:=hid hbel;have hz0:=hbel.size;clear hnn hbel;by_cases hlt:j<n
  ·obtain⟨x,b,o,cs,hxj,_,rfl,hbz,hcs0,hcs,hcap,hcm⟩:=HL.out j hlt;obtain rfl:cs=[.string x.name,.int .i64 x.type,.bool x.notNull,.bool x.key]:=hcs0;unfold maxLen at hcm;obtain⟨c0,c1,c2,c3⟩:=Qqr.c4 (hcs.keep (M:=NoM) (.bel HB.out) id);have HXJ:=hid hxj;clear hcs hxj;have i0:(0:Int)≤(j:Int):=by omega
   have i1:(j:Int)<(n:Int):=by omega
   cases he:(x.name.toList==c.toList)
   ·go_wp2_with fail
    go_roundw
    case rel=>
     refine⟨j+1,by omega,by go_num,HB.out.alloc HB.out.size _,fun i y hi hy=>?_⟩;by_cases e:i=j
     ·subst e;rw[HXJ.out] at hy;cases hy;exact he
     ·exact HN.out i y (by omega) hy
    case measure=>simp[intOf];omega
   ·go_wp2_with fail
    go_ret;refine⟨?_,HB.out.alloc HB.out.size _⟩;rw[show Qx5 l c=some j from Jqm HXJ.out he HN.out];rfl
  ·obtain rfl:j=n:=by omega
   go_wp2_with fail
   go_ret;refine⟨?_,HB.out⟩;rw[show Qx5 l c=none from Jxs fun i y hi hy=>HN.out i y (by rw[HNL.out] at hi;exact hi) hy];rfl
def Jka(c:Col):Bool:=Qqo c.name&&decide (1≤c.type)&&decide (c.type≤3)&&(!c.key||c.notNull)
def Ywr(s:Sch):Bool:=Qqo s.name&&decide (1≤s.cols.length)&&decide (s.cols.length≤6)&&s.cols.all Jka&&Qx6 [] (s.cols.map Col.name)&&decide ((s.cols.filter Col.key).length≤1)
theorem Yws{l:List Col}{j:Nat}{x:Col}(hx:l[j]?=some x)(h:Qx5 l x.name≠some j):Qx6 [] (l.map Col.name)=false:=by
 unfold Qx5 at h;have hp:Jjf x.name x=true:=by unfold Jjf;simp
 cases hf:l.findIdx? (Jjf x.name) with
 |none=>
  rw[List.findIdx?_eq_none_iff] at hf;have:=hf x (Yk hx);rw[hp] at this;cases this
 |some i=>
  rw[hf] at h;have hf':=hf;rw[Kv] at hf';obtain⟨hi,hpi,hno⟩:=hf'
  have hle:i≤j:=by
   rcases Nat.lt_or_ge j i with hlt|hge
   ·have h2:=hno j hlt;obtain⟨hj,rfl⟩:=Yq.1 hx;rw[hp] at h2;simp at h2
   ·exact hge
  have hne:i≠j:=fun e=>h (by rw[e]);refine Yzx (i:=i) (j:=j) (a:=l[i].name) (b:=x.name) (by omega) (by simp[hi]) (by rw[Yi,hx];rfl) ?_;exact hpi
theorem Ukz{l:List Col}(h:∀(j:Nat) (x:Col),j<l.length→l[j]?=some x→Qx5 l x.name=some j):Qx6 [] (l.map Col.name)=true:=by
 refine Jyp fun i k x y hik hk hx hy=>?_;rw[Ys] at hk;rw[Yi] at hx hy;obtain⟨x',hx',rfl⟩:=Ju.1 hx;obtain⟨y',hy',rfl⟩:=Ju.1 hy;have hf:=h k y' hk hy';unfold Qx5 at hf;rw[Kv] at hf;obtain⟨_,_,hno⟩:=hf;have h2:=hno i hik;obtain⟨hi,rfl⟩:=Yq.1 hx';simpa[Jjf] using h2
theorem Ykx{l:List Col}{j:Nat}{x:Col}(hx:l[j]?=some x):(((l.take (j+1)).filter Col.key).length:Int)=((l.take j).filter Col.key).length+(if x.key then 1 else 0):=by
 rw[Jh,hx,List.filter_append,Zr];cases hk:x.key<;>simp[List.filter_cons,hk]
theorem Uk0{M:Nat→Prop}(s:Sch)(v:Value)(w:World)(hv:Qq1 M w v s.cols)(hs:s.name.size≤maxLen)(hc:∀c∈s.cols,c.name.size≤maxLen):
 Calls prog 37 #[.agg #[s.name,v]] w (Qqd (.bool (Ywr s)) w):=by
 obtain⟨a,cap,rfl,hm⟩:=hv.shape;unfold maxLen at hm;obtain⟨nm,l⟩:=s;dsimp only at*;have HL:=hid fun j (hj:j<l.length)=>Qx7 hv hj;have HFD:=hid fun c wx (k:Below w.heap.size w wx)=>Uj7 nm _ l c wx (Qqa.map hv (.bel (M:=M) k) fun _ _ _ h=>h);have HC:=hid hc;have HV:Hid (Ywr ⟨nm,l⟩=(Qqo nm&&decide (1≤l.length)&&decide (l.length≤6)&&l.all Jka&&Qx6 [] (l.map Col.name)&&decide ((l.filter Col.key).length≤1))):=hid rfl;have HM1:=hid fun wx=>Qjr nm wx hs;generalize Ywr ⟨nm,l⟩=V at HV⊢
 obtain⟨n,hn⟩:∃n,l.length=n:=⟨_,rfl⟩
 rw[hn] at HL HFD HV hm⊢;have HNL:=hid hn;clear hv hn hc hs;generalize Qqo nm=nb at HM1 HV;go_enter func37,ntmps37;go_wp2_with fail
 generalize hW0:World.alloc w _=W1;have hb0:W1.heap[w.heap.size]?=some (.cells #[nm,Qv a n cap] 29 (0,0)):=by rw[←hW0];exact Zw w _
 have HB1:=hid (show Below w.heap.size w W1 from by rw[←hW0];exact(Below.refl _ _).alloc (Zz _) _);have hz1:=(Zq.1 hb0).1;obtain⟨x0,x1,_⟩:=Qjk hb0;have HC1:=hid hb0;clear hW0 hb0;refine(HM1.out _).mono ?_;rintro e wy ⟨rfl,rfl⟩;dsimp only;cases nb
 case false=>
  go_wp2_with fail
  go_ret;exact⟨by rw[HV.out];rfl,HB1.out⟩
 case true=>
  by_cases p1:(n:Int)<1
  ·go_wp2_with fail
   go_ret;refine⟨?_,HB1.out⟩;rw[HV.out,show decide (1≤n)=false by simp;omega];rfl
  ·by_cases p6:(6:Int)<(n:Int)
   ·go_wp2_with fail
    go_ret;refine⟨?_,HB1.out⟩;rw[HV.out,show decide (n≤6)=false by simp;omega];simp
   ·have HV1:Hid (V=(l.all Jka&&Qx6 [] (l.map Col.name)&&decide ((l.filter Col.key).length≤1))):=hid (by
     rw[HV.out,show decide (1≤n)=true by simp;omega,show decide (n≤6)=true by simp;omega]
     rfl)
    clear HV;have HV:=HV1;clear HV1;go_wp2_with fail
    go_loopw[3,25] (fun q i wr=>∃j:Nat,j≤n∧i=.int .i64 (j:Int)∧q=.int .i64 (((l.take j).filter Col.key).length:Int)∧Below w.heap.size w wr∧wr.heap[w.heap.size]?=some (.cells #[nm,Qv a n cap] 29 (0,0))∧∀i y,i<j→l[i]?=some y→Jka y=true∧Qx5 l y.name=some i) (fun _ i _=>n-(intOf i).toNat)
    case atStart=>exact⟨0,Zi _,rfl,rfl,HB1.out,HC1.out,fun i y hi=>by omega⟩
    case round=>
     rename World=>wr;obtain⟨j,hj,rfl,rfl,hbel,hblk,hnn⟩:=hrel;clear x0 x1;obtain⟨x0,x1,_⟩:=Qjk hblk;have HN:=hid hnn;have HB:=hid hbel;have HCR:=hid hblk;have hz0:=hbel.size;have hzr:=(Zq.1 hblk).1;clear hnn hbel hblk;by_cases hlt:j<n
     ·obtain⟨x,b,o,cs,hxj,hmem,hab,hbz,hcs0,hcs,hcap,hcm⟩:=HL.out j hlt;obtain rfl:cs=[.string x.name,.int .i64 x.type,.bool x.notNull,.bool x.key]:=hcs0;unfold maxLen at hcm;obtain⟨c0,c1,c2,c3⟩:=Qqr.c4 (hcs.keep (M:=NoM) (.bel HB.out) id);have HXJ:=hid hxj;have HM2:=hid fun wx=>Qjr x.name wx (HC.out x hmem);have HFJ:=hid (Ykx hxj)
      have hkl:(((l.take j).filter Col.key).length:Int)≤6:=by
       have h1:=List.length_filter_le Col.key (l.take j);have h2:(l.take j).length≤j:=by simp;omega
       omega
      have HCV:Hid (Jka x=(Qqo x.name&&decide (1≤x.type)&&decide (x.type≤3)&&(!x.key||x.notNull))):=hid rfl;have HFX:=hid fun wx k=>HFD.out x.name wx k;have HXN:Hid (∀y,l[j]?=some y→y=x):=hid fun y hy=>by rw[hxj] at hy;cases hy;rfl
      clear hcs hxj hmem;have hkl0:(0:Int)≤(((l.take j).filter Col.key).length:Int):=by omega
      generalize(((l.take j).filter Col.key).length:Int)=kk at hkl hkl0 HFJ⊢;have hwk:IntKind.i64.wrap (kk+1)=kk+1:=Zp _ (by omega)
      have HFXN:Hid (Qx5 l x.name≠some j→V=false):=hid fun h=>by
       rw[HV.out,Yws HXJ.out h];simp
      have HCVN:Hid (Jka x=false→V=false):=hid fun h=>by
       rw[HV.out,Jza HXJ.out h];rfl
      have HSTEP:Hid (Jka x=true→Qx5 l x.name=some j→∀i y,i<j+1→l[i]?=some y→Jka y=true∧Qx5 l y.name=some i):=hid fun h1 h2 i y hi hy=>by
       by_cases e:i=j
       ·subst e;rw[HXN.out y hy];exact⟨h1,h2⟩
       ·exact HN.out i y (by omega) hy
      generalize Jka x=cv at HCV HCVN HSTEP;generalize Qx5 l x.name=fi at HFX HFXN HSTEP;obtain⟨xn,xt,xnn,xk⟩:=x;dsimp only at*;generalize Qqo xn=nn at HM2 HCV;subst hab;have i0:(0:Int)≤(j:Int):=by omega
      have i1:(j:Int)<(n:Int):=by omega
      go_wp2_with fail
      generalize hW:World.alloc wr _=wb;have hb0:wb.heap[wr.heap.size]?=some (.cells #[xn,xt,xnn,xk] 106 (0,0)):=by rw[←hW];exact Zw wr _
      have HBB:=hid (show Below w.heap.size w wb from by rw[←hW];exact HB.out.alloc HB.out.size _);have HCB:=hid (show wb.heap[w.heap.size]?=some (.cells #[nm,Qv (some ⟨b,o,none⟩) n cap] 29 (0,0)) from by rw[←hW];exact(Jy wr _ hzr).trans HCR.out);have hzb:=(Zq.1 hb0).1;have hzc:=(Zq.1 HCB.out).1;obtain⟨d0,d1,d2,d3,_⟩:=Qzo hb0;have HD:=hid hb0;clear hW c0 c1 c2 c3 hb0 x0 x1;obtain⟨x0,x1,_⟩:=Qjk HCB.out;refine(HM2.out _).mono ?_;rintro e wz ⟨rfl,rfl⟩;dsimp only;cases nn
      ·go_wp2_with fail
       go_ret;refine⟨?_,HBB.out⟩;rw[HCVN.out (by rw[HCV.out];rfl)];rfl
      ·by_cases q1:xt<1
       ·go_wp2_with fail
        go_ret;refine⟨?_,HBB.out⟩;rw[HCVN.out (by rw[HCV.out];simp;intros;omega)];rfl
       ·by_cases q3:3<xt
        ·go_wp2_with fail
         go_ret;refine⟨?_,HBB.out⟩;rw[HCVN.out (by rw[HCV.out];simp;intros;omega)];rfl
        ·have gq1:1≤xt:=by omega
         have gq3:xt≤3:=by omega
         cases xk
         ·go_wp2_with fail
          refine(HFX.out _ HBB.out).mono ?_;rintro e w4 ⟨rfl,hb⟩;have HB4:=hid (HBB.out.trans (hb.mono HBB.out.size));have HC4:=hid ((hb.block _ hzc).trans HCB.out);clear d0 d1 d2 d3 x0 x1;obtain⟨d0,d1,d2,d3,_⟩:=Qzo ((hb.block _ hzb).trans HD.out);clear hb;dsimp only;by_cases hfe:fi=some j
          ·have hdi:Yj0 fi=(j:Int):=by rw[hfe];rfl
           rw[hdi];have HFE:=hid hfe;clear hfe hdi;have hjj:((j:Int)!=(j:Int))=false:=by simp
           go_wp2_with fail
           go_roundw
           case rel=>
            refine⟨j+1,by omega,by go_num,?_,HB4.out,HC4.out,HSTEP.out ?_ HFE.out⟩
            ·rw[HFJ.out];simp
            ·rw[HCV.out];simp;omega
           case measure=>simp[intOf];omega
          ·have hne:¬Yj0 fi=(j:Int):=by
            cases fi with
            |none=>show ¬(-1:Int)=(j:Int);omega
            |some i=>exact fun e=>hfe (by have e2:(i:Int)=(j:Int):=e;rw[show i=j by omega])
           have hjj:(Yj0 fi !=(j:Int))=true:=by simp[bne,hne]
           have HFE:=hid hfe;clear hfe;generalize Yj0 fi=fz at hjj hne⊢;go_wp2_with fail
           go_ret;refine⟨?_,HB4.out⟩;rw[HFXN.out HFE.out];rfl
         ·cases xnn
          ·go_wp2_with fail
           go_ret;refine⟨?_,HBB.out⟩;rw[HCVN.out (by rw[HCV.out];simp)];rfl
          ·go_wp2_with fail
           refine(HFX.out _ HBB.out).mono ?_;rintro e w4 ⟨rfl,hb⟩;have HB4:=hid (HBB.out.trans (hb.mono HBB.out.size));have HC4:=hid ((hb.block _ hzc).trans HCB.out);clear d0 d1 d2 d3 x0 x1;obtain⟨d0,d1,d2,d3,_⟩:=Qzo ((hb.block _ hzb).trans HD.out);clear hb;dsimp only;by_cases hfe:fi=some j
           ·have hdi:Yj0 fi=(j:Int):=by rw[hfe];rfl
            rw[hdi];have HFE:=hid hfe;clear hfe hdi;have hjj:((j:Int)!=(j:Int))=false:=by simp
            go_wp2_with fail
            go_roundw
            case rel=>
             refine⟨j+1,by omega,by go_num,?_,HB4.out,HC4.out,HSTEP.out ?_ HFE.out⟩
             ·rw[HFJ.out];simp
             ·rw[HCV.out];simp;omega
            case measure=>simp[intOf];omega
           ·have hne:¬Yj0 fi=(j:Int):=by
             cases fi with
             |none=>show ¬(-1:Int)=(j:Int);omega
             |some i=>exact fun e=>hfe (by have e2:(i:Int)=(j:Int):=e;rw[show i=j by omega])
            have hjj:(Yj0 fi !=(j:Int))=true:=by simp[bne,hne]
            have HFE:=hid hfe;clear hfe;generalize Yj0 fi=fz at hjj hne⊢;go_wp2_with fail
            go_ret;refine⟨?_,HB4.out⟩;rw[HFXN.out HFE.out];rfl
     ·obtain rfl:j=n:=by omega
      have hta:l.take j=l:=Jg (Kn HNL.out);rw[hta]
      have HVE:Hid (V=decide ((l.filter Col.key).length≤1)):=hid (by
       rw[HV.out,Yju (fun i y hi hy=>(HN.out i y (by rw[HNL.out] at hi;exact hi) hy).1),Ukz (fun i y hi hy=>(HN.out i y (by rw[HNL.out] at hi;exact hi) hy).2)]
       rfl)
      clear hta HV HN;generalize(l.filter Col.key).length=kk at HVE⊢;by_cases g:(kk:Int)≤1
      ·go_wp2_with fail
       go_ret;refine⟨?_,HB.out⟩;rw[HVE.out];simp;omega
      ·go_wp2_with fail
       go_ret;refine⟨?_,HB.out⟩;rw[HVE.out];simp;omega
theorem Jj0{ops:Array Oper}{rest:List Oper}{o:Oper}{a:Act}{Q:Exit→Act→World→Prop}{w:World}(hgd:o.guard=none)(s x:Operand)
 (ho:o.op=.call {callee:=.builtin .append,args:=#[s,x],argTypes:=#[30,30]})(lo:Nat)(v:Value)(g n:Nat)(arr:Array Value)(cur ys:List ByteArray)(hs:a.eval s=v)(hx:a.eval x=Qv (some ⟨g,0,none⟩) n n)(hg:g=w.heap.size)(hn:n=ys.length)(ha:arr.toList=ys.map Value.string)
 (hown:Qqf lo w 9 1 Qjz v cur)(hne:ys≠[])(hN:cur.length+ys.length≤1000000000)(hm:ys.length≤1000)(hlo:lo≤w.heap.size)
 (h:∀v' w',Qqf lo w' 9 1 Qjz v' (cur++ys)→Qqb (Qq4 v) w w'→(∀k,Qq4 v' k→Qq4 v k∨w.heap.size≤k)→Below lo w w'→wpList prog ops Q rest (a.put o.dst v') w'):wpList prog ops Q (o::rest) a (w.alloc (.cells arr 9)):=by
 have hO:Qqf lo (w.alloc (.cells arr 9)) 9 1 Qjz v cur:=Qqf.kept hown ((Qqb.refl (fun _=>False) w).alloc _) (fun _ _=>id) fun _ _ _ h=>h;have hS:Qqa NoM (w.alloc (.cells arr 9)) 1 Qjz (Qv (some ⟨g,0,none⟩) n n) ys:=by subst hn;exact Qxr ys hg ha rfl hm _
 refine Qje hgd s x 30 ho 9 _ 1 16 underlying30 Qwc rfl (by decide) (R:=Qjz) (M:=NoM) lo v _ cur ys hs hx hO hS (fun y _ cs h=>Qky y cs h) (by omega) (by unfold maxLen;omega) (by simp;omega) ?_;intro v' w' ho' hk hat;exact h v' w' ho' (((Qqb.refl _ w).alloc _).trans hk) (fun k hk=>(hat hne k hk).imp id fun e=>by rw[e];simp) (((Below.refl _ w).alloc hlo _).trans (Qx3 hO hk (by simp;omega)))
theorem Uj8{ops:Array Oper}{o:Oper}{a:Act}{K:Act→World→Prop}{Q:Exit→Act→World→Prop}{E:Prop}{w:World}(hgd:o.guard=none)(s x:Operand)
 (ho:o.op=.call {callee:=.builtin .append,args:=#[s,x],argTypes:=#[30,30]})(lo:Nat)(v:Value)(g n:Nat)(arr:Array Value)(cur ys:List ByteArray)(hs:a.eval s=v)(hx:a.eval x=Qv (some ⟨g,0,none⟩) n n)(hg:g=w.heap.size)(hn:n=ys.length)(ha:arr.toList=ys.map Value.string)
 (hown:Qqf lo w 9 1 Qjz v cur)(hne:ys≠[])(hN:cur.length+ys.length≤1000000000)(hm:ys.length≤1000)(hlo:lo≤w.heap.size)
 (h:∀v' w',Qqf lo w' 9 1 Qjz v' (cur++ys)→Qqb (Qq4 v) w w'→(∀k,Qq4 v' k→Qq4 v k∨w.heap.size≤k)→Below lo w w'→K (a.put o.dst v') w'):if Region.wanted o (yielded ops a.tmps)=true then Oper.wp prog o a (w.alloc (.cells arr 9)).drew K Q else E:=by
 have hO:Qqf lo (w.alloc (.cells arr 9)).drew 9 1 Qjz v cur:=Qqf.kept hown ((Qqb.refl (fun _=>False) w).alloc _).drew (fun _ _=>id) fun _ _ _ h=>h;have hS0:Qqa NoM (w.alloc (.cells arr 9)) 1 Qjz (Qv (some ⟨g,0,none⟩) n n) ys:=by subst hn;exact Qxr ys hg ha rfl hm _
 have hS:Qqa NoM (w.alloc (.cells arr 9)).drew 1 Qjz (Qv (some ⟨g,0,none⟩) n n) ys:=Qvp hS0 (Qjn (Below.refl _ _));refine Qkv hgd s x 30 ho 9 _ 1 16 underlying30 Qwc rfl (by decide) (R:=Qjz) (M:=NoM) lo v _ cur ys hs hx hO hS hne (fun y _ cs h=>Qky y cs h) (by omega) (by unfold maxLen;omega) (by simp;omega) ?_;intro v' w' ho' hk hat;exact h v' w' ho' (((Qqb.refl _ w).alloc _).drew.trans hk) (fun k hk=>(hat k hk).imp id fun e=>by rw[e];simp) ((Qjn ((Below.refl _ w).alloc hlo _)).trans (Qx3 hO hk (by simp;omega)))
def Yz1(w:World):Prop:=∀i:Nat,1≤i→i<4→w.cell? ⟨1,i,none⟩=some (.string (Jvu (i:Int)))
theorem Yz1.bel{w w':World}(h:Yz1 w)(k:Below w.heap.size w w'):Yz1 w':=fun i h1 hi=>(k.cell (Za _ _ (h i h1 hi))).trans (h i h1 hi)
theorem Uj9{w:World}{i:Int}(h:Yz1 w)(h1:1≤i)(h3:i≤3):w.cell? ⟨1,i.toNat,none⟩=some (.string (Jvu i)):=by
 have:=h i.toNat (by omega) (by omega)
 rwa [Int.toNat_of_nonneg (by omega)] at this
theorem Yz2(l:List Col)(v:Value)(w:World)(hv:Qq1 NoM w v l)(ht:∀c∈l,1≤c.type∧c.type≤3)(hT:Yz1 w)(hN:(Qqw (l.map Qj8)).length≤400000000):
 Calls prog 18 #[v] w (Qkz (Qqw (l.map Qj8)) w):=by
 have HV:=hid hv;obtain⟨a,c,rfl,hm⟩:=Qqa.shape hv;unfold maxLen at hm;have HT:=hid ht;have HTY:=hid hT;have HNN:=hid hN;clear hv ht hT hN
 obtain⟨n,hn⟩:∃n,l.length=n:=⟨_,rfl⟩
 have HROW:=hid fun j (hj:j<n)=>(show ∃x b o,l[j]?=some x∧x∈l∧a=some ⟨b,o,none⟩∧b<w.heap.size∧Qqr w b (o+j*4) [x.name,x.type,x.notNull,x.key]∧n≤c∧c≤maxLen from by
  obtain⟨x,b,o,cs,h1,h2,h3,h4,h5,h6,h7,h8⟩:=Qx7 HV.out (show j<l.length by omega);obtain rfl:cs=[.string x.name,.int .i64 x.type,.bool x.notNull,.bool x.key]:=h5
  exact⟨x,b,o,h1,h2,h3,h4,h6,by omega,h8⟩)
 rw[hn] at hm⊢;have HNL:=hid hn;clear hn HV;go_enter func18,ntmps18;go_wp2_with fail
 go_loopw[3,8] (fun out i wr=>∃j:Nat,j≤n∧i=.int .i64 j∧Qqf w.heap.size wr 9 1 Qjz out (Qqw ((l.map Qj8).take j))∧Below w.heap.size w wr) (fun _ i _=>n-(intOf i).toNat)
 case atStart=>exact⟨0,Zi _,rfl,by simpa[Qqw] using Qqf.nil ..,Below.refl _ _⟩
 case round=>
  rename World=>wr;obtain⟨j,hj,rfl,ho,hb⟩:=hrel;have HO:=hid ho;have HB:=hid hb;obtain⟨oa,oc,rfl,_⟩:=ho.shape;have hzr:=hb.size;clear ho hb;by_cases hlt:j<n
  ·obtain⟨x,b,o,hxj,hmem,rfl,hbz,hcs,hcap,hcm⟩:=HROW.out j hlt;unfold maxLen at hcm;obtain⟨c0,c1,c2,c3⟩:=Qqr.c4 (hcs.keep (M:=NoM) (.bel HB.out) id);have hty:=HT.out x hmem;have hwj:(l.map Qj8)[j]?=some (Qj8 x):=by rw[Yi,hxj];rfl
   have HTK:Hid (Qqw ((l.map Qj8).take (j+1))=(if j=0 then[] else Qqw ((l.map Qj8).take j)++[Qj3])++Qj8 x):=hid (by
    rw[Jh,hwj];show Qqw ((l.map Qj8).take j++[Qj8 x])=_
    rw[Qyw,Jm,Ys,Ka (by have:=HNL.out;omega)])
   have HCL:=hid (Ya (Qw0 (l.map Qj8) j) HNN.out);have hzero:j=0→Qqw ((l.map Qj8).take j)=[]:=fun e=>by rw[e];rfl
   have HZ:=hid hzero;generalize hnx:Qqw ((l.map Qj8).take (j+1))=nx at HTK;have NX:=hid hnx;clear hnx hxj hcs hwj hmem hzero;generalize Qqw ((l.map Qj8).take j)=cur at HO HTK HCL HZ;have HWL:Hid (cur.length+1≤400000001):=hid (by have:=HCL.out;omega);have HCW:Hid (Qj8 x=[x.name,Jvu x.type]++(if x.key then[Jjv,Uki] else if x.notNull then[Jxa,Qys] else[])):=hid rfl;generalize Qj8 x=cw at HTK HCW;obtain⟨cn,ct,cnn,ck⟩:=x;dsimp only at*
   obtain⟨P,hP⟩:∃P,P=(if j=0 then[] else cur++[Qj3]):=⟨_,rfl⟩
   have HPP:=hid hP
   have HPL:Hid (P.length≤400000001):=hid (by
    rw[hP];by_cases h:j=0
    ·rw[if_pos h];simp
    ·rw[if_neg h];simp;have:=HWL.out;omega)
   rw[←hP] at HTK;clear hP;have i0:(0:Int)≤(j:Int):=by omega
   have i1:(j:Int)<(n:Int):=by omega
   go_upto_region 5 with fail
   generalize hW:World.alloc wr _=wb;have hb0:wb.heap[wr.heap.size]?=some (.cells #[cn,ct,cnn,ck] 106 (0,0)):=by rw[←hW];exact Zw wr _
   have HBB:=hid (show Below w.heap.size w wb from by rw[←hW];exact HB.out.alloc hzr _);have HOB:=hid (show Qqf w.heap.size wb 9 1 Qjz (Qv oa cur.length oc) cur from by rw[←hW];exact Qqf.kept HO.out ((Qqb.refl (fun _=>False) wr).alloc _) (fun _ _=>id) fun _ _ _ h=>h);have HK0:Hid (¬Qq4 (Qv oa cur.length oc) wr.heap.size):=hid fun h=>by have:=(Qqf.lt HO.out h).2;omega
   have HX0:=hid hb0;clear hW hb0 c0 c1 c2 c3 HO;have tok1:True:=trivial
   go_upto_if 14 with(fail)
   go_cut [3] (fun v wx=>Qqf w.heap.size wx 9 1 Qjz v P∧Below w.heap.size w wx∧wx.heap[wr.heap.size]?=some (.cells #[cn,ct,cnn,ck] 106 (0,0))∧¬Qq4 v wr.heap.size)
   case first=>
    by_cases hj0:j=0
    ·subst hj0;have hcur:=HZ.out rfl;have hp0:=HPP.out;rw[if_pos rfl] at hp0;go_wp2_with fail
     go_meet
     exact⟨by rw[hp0];have h:=HOB.out;rw[hcur] at h;exact h,HBB.out,HX0.out,by have h:=HK0.out;rw[hcur] at h;exact h⟩
    ·have j0:¬(j:Int)=0:=by omega
     have j1:(0:Int)<(j:Int):=by omega
     have j2:0<j:=by omega
     have hp1:=HPP.out;rw[if_neg hj0] at hp1;have HP1:=hid hp1;clear hj0 hp1
     go_wp2_with(at_builtin;clear tok1;go_loud (refine Jj0 rfl _ _ rfl w.heap.size (Qv oa cur.length oc) _ _ _ cur [Qj3] rfl rfl rfl rfl rfl HOB.out (by simp) (by have:=HWL.out;simp;omega) (by simp) HBB.out.size ?_;intro v2 w2 ho hkk hat hk;have HO2:=hid ho;have HB2:=hid (HBB.out.trans hk);have HX2:=hid ((hkk.block _ (Zq.1 HX0.out).1 HK0.out).trans HX0.out);have HK2:=hid (show ¬Qq4 v2 wr.heap.size from fun h=>(hat _ h).elim HK0.out fun h=>by have:=(Zq.1 HX0.out).1;omega);clear ho hkk hat hk;obtain⟨oa2,oc2,rfl,_⟩:=HO2.out.shape;generalize hc2:cur++[Qj3]=cur2 at HO2 HK2⊢;have HC2:=hid hc2;clear hc2))
     go_meet
     exact⟨by rw[HP1.out,HC2.out];exact HO2.out,HB2.out,HX2.out,HK2.out⟩
   case rest=>
    rename World=>w3;obtain⟨ho3,hb3,hx3,hk3⟩:=hcut;obtain⟨oa3,oc3,rfl,_⟩:=ho3.shape;have HO3:=hid ho3;have HB3:=hid hb3;have HX3:=hid hx3;have HK3:=hid hk3;clear ho3 hb3 hx3 hk3 tok1 HOB HBB HX0 HK0
    have HKS:Hid (∀w',w'.heap[wr.heap.size]?=some (.cells #[cn,ct,cnn,ck] 106 (0,0))→Yz1 w'→w'.cell? ⟨wr.heap.size,0,none⟩=some (.string cn)∧w'.cell? ⟨wr.heap.size,1,none⟩=some (.int .i64 ct)∧w'.cell? ⟨wr.heap.size,2,none⟩=some (.bool cnn)∧w'.cell? ⟨wr.heap.size,3,none⟩=some (.bool ck)∧w'.cell? ⟨1,ct.toNat,none⟩=some (.string (Jvu ct))):=hid fun w' h h2=>by
     obtain⟨e0,e1,e2,e3,_⟩:=Qzo h;exact⟨e0,e1,e2,e3,Uj9 h2 hty.1 hty.2⟩
    have Jvt:True:=trivial;go_upto_region 7 with fail
    have t0:(0:Int)≤ct:=by omega
    have t4:ct<4:=by omega
    have xx0:=HKS.out _ HX3.out (HTY.out.bel HB3.out)
    go_region_held3 (fun w'=>w'.cell? ⟨wr.heap.size,0,none⟩=some (.string cn)∧w'.cell? ⟨wr.heap.size,1,none⟩=some (.int .i64 ct)∧w'.cell? ⟨wr.heap.size,2,none⟩=some (.bool cnn)∧w'.cell? ⟨wr.heap.size,3,none⟩=some (.bool ck)∧w'.cell? ⟨1,ct.toNat,none⟩=some (.string (Jvu ct)))
     (first|with_reducible exact HKS.out _ HX4.out (HTY.out.bel HB4.out)|with_reducible exact HKS.out _ HX3.out (HTY.out.bel HB3.out)|exact HKS.out _ HX3.out (HTY.out.bel (Qjn HB3.out))|exact HKS.out _ ((Jy _ _ (Zq.1 HX3.out).1).trans HX3.out) (HTY.out.bel (HB3.out.alloc HB3.out.size _))|exact HKS.out _ ((Jy _ _ (Zq.1 HX3.out).1).trans HX3.out) (HTY.out.bel ((Qjn HB3.out).alloc HB3.out.size _))|exact HKS.out _ ((Jy _ _ (Zq.1 HX3.out).1).trans HX3.out) (HTY.out.bel (Qjn (HB3.out.alloc HB3.out.size _)))|(trace_state;fail))
     ((clear Jvt;go_loud (refine Uj8 (by rfl) _ _ (by rfl) w.heap.size (Qv oa3 P.length oc3) _ _ _ P [cn,Jvu ct] (by rfl) (by rfl) (by rfl) (by rfl) (by rfl) HO3.out (by simp) (by have:=HPL.out;simp;omega) (by simp) HB3.out.size ?_;intro v4 w4 ho hkk hat hk;have HO4:=hid ho;have HB4:=hid (HB3.out.trans hk);have HX4:=hid ((hkk.block _ (Zq.1 HX3.out).1 HK3.out).trans HX3.out);have HK4:=hid (show ¬Qq4 v4 wr.heap.size from fun h=>(hat _ h).elim HK3.out fun h=>by have:=(Zq.1 HX3.out).1;omega);clear ho hkk hat hk;obtain⟨oa4,oc4,rfl,_⟩:=HO4.out.shape;generalize hc4:P++[cn,Jvu ct]=cur4 at HO4 HK4⊢;have HC4:=hid hc4;clear hc4)))
    all_goals
     (try dsimp only)
     obtain⟨f0,f1,f2,f3,_⟩:=Qzo HX4.out;have tok3:True:=trivial;cases ck
     ·cases cnn
      ·go_wp2_with fail
       go_roundw
       case rel=>exact⟨j+1,by omega,by go_num,by have e:nx=cur4:=(by rw[HTK.out,HCW.out,←HC4.out];simp);rw[NX.out,e];exact HO4.out,HB4.out⟩
       case measure=>simp[intOf];omega
      ·go_wp2_with(at_builtin;clear tok3;go_loud (refine Jj0 rfl _ _ rfl w.heap.size (Qv oa4 cur4.length oc4) _ _ _ cur4 [Jxa,Qys] rfl rfl rfl rfl rfl HO4.out (by simp) (by(have:=HPL.out);(have h2:=congrArg List.length HC4.out);simp at h2;simp;omega) (by simp) HB4.out.size ?_;intro v5 w5 ho hkk hat hk;have HO5:=hid ho;have HB5:=hid (HB4.out.trans hk);have HX5:=hid ((hkk.block _ (Zq.1 HX4.out).1 HK4.out).trans HX4.out);have HK5:=hid (show ¬Qq4 v5 wr.heap.size from fun h=>(hat _ h).elim HK4.out fun h=>by have:=(Zq.1 HX4.out).1;omega);clear ho hkk hat hk;obtain⟨oa5,oc5,rfl,_⟩:=HO5.out.shape;generalize hc5:cur4++[Jxa,Qys]=cur5 at HO5 HK5⊢;have HC5:=hid hc5;clear hc5))
       go_roundw
       case rel=>exact⟨j+1,by omega,by go_num,by have e:nx=cur5:=(by rw[HTK.out,HCW.out,←HC5.out,←HC4.out];simp);rw[NX.out,e];exact HO5.out,HB5.out⟩
       case measure=>simp[intOf];omega
     ·go_wp2_with(at_builtin;clear tok3;go_loud (refine Jj0 rfl _ _ rfl w.heap.size (Qv oa4 cur4.length oc4) _ _ _ cur4 [Jjv,Uki] rfl rfl rfl rfl rfl HO4.out (by simp) (by(have:=HPL.out);(have h2:=congrArg List.length HC4.out);simp at h2;simp;omega) (by simp) HB4.out.size ?_;intro v5 w5 ho hkk hat hk;have HO5:=hid ho;have HB5:=hid (HB4.out.trans hk);have HX5:=hid ((hkk.block _ (Zq.1 HX4.out).1 HK4.out).trans HX4.out);have HK5:=hid (show ¬Qq4 v5 wr.heap.size from fun h=>(hat _ h).elim HK4.out fun h=>by have:=(Zq.1 HX4.out).1;omega);clear ho hkk hat hk;obtain⟨oa5,oc5,rfl,_⟩:=HO5.out.shape;generalize hc5:cur4++[Jjv,Uki]=cur5 at HO5 HK5⊢;have HC5:=hid hc5;clear hc5))
      go_roundw
      case rel=>exact⟨j+1,by omega,by go_num,by have e:nx=cur5:=(by rw[HTK.out,HCW.out,←HC5.out,←HC4.out];simp);rw[NX.out,e];exact HO5.out,HB5.out⟩
      case measure=>simp[intOf];omega
  ·obtain rfl:j=n:=by omega
   rw[show(l.map Qj8).take j=l.map Qj8 from Jg (by rw[Ys];exact Kn HNL.out)] at HO⊢;generalize hcu:Qqw (l.map Qj8)=cur at HO⊢;have HCU:=hid hcu;clear hcu;go_wp2_with fail
   go_ret;exact⟨_,rfl,by rw[HCU.out];simpa using HO.out.rows (M:=NoM) fun _ _ _=>id,HB.out⟩
end Go.Proofs.YtgepbohjmgaojaaGreatDoor
