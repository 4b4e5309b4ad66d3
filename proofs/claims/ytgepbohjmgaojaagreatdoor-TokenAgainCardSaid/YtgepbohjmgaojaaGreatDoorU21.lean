/- The reference's words of statements: names, lists of expressions. The reference's words of operators: lists of words that are made in any order. -/
import Derived.Test.YtgepbohjmgaojaaGreatDoorVRV6
set_option linter.all false
set_option maxHeartbeats 8000000
set_option maxRecDepth 100000
namespace Go.Proofs.YtgepbohjmgaojaaGreatDoor
open World renaming alloc→Qw
open Value renaming slice→Qv
open Go.Proofs.Tryz
open Lib(hid)
open Go.RowKit
theorem Qxf{ops:Array Oper}{rest:List Oper}{o:Oper}{a:Act}{Q:Exit→Act→World→Prop}{w:World}(hgd:o.guard=none)(s x:Operand)
 (ho:o.op=.call {callee:=.builtin .append,args:=#[s,x],argTypes:=#[30,30]})(lo:Nat)(v:Value)(g n:Nat)(arr:Array Value)(cur ys:List ByteArray)(hs:a.eval s=v)(hx:a.eval x=Qv (some ⟨g,0,none⟩) n n)(hg:g=w.heap.size)(hn:n=ys.length)(ha:arr.toList=ys.map Value.string)
 (hown:Qqf lo w 9 1 Qjz v cur)(hN:cur.length+ys.length≤1000000000)(hm:ys.length≤1000)(hlo:lo≤w.heap.size)
 (h:∀v' w',Qqf lo w' 9 1 Qjz v' (cur++ys)→Qqb (Qq4 v) w w'→Below lo w w'→wpList prog ops Q rest (a.put o.dst v') w'):wpList prog ops Q (o::rest) a (w.alloc (.cells arr 9)):=by
 have hO:Qqf lo (w.alloc (.cells arr 9)) 9 1 Qjz v cur:=Qqf.kept hown ((Qqb.refl (fun _=>False) w).alloc _) (fun _ _=>id) fun _ _ _ h=>h;have hS:Qqa NoM (w.alloc (.cells arr 9)) 1 Qjz (Qv (some ⟨g,0,none⟩) n n) ys:=by subst hn;exact Qxr ys hg ha rfl hm _
 refine Qje hgd s x 30 ho 9 _ 1 16 underlying30 Qwc rfl (by decide) (R:=Qjz) (M:=NoM) lo v _ cur ys hs hx hO hS (fun y _ cs h=>Qky y cs h) (by omega) (by unfold maxLen;omega) (by simp;omega) ?_;intro v' w' ho' hk _;exact h v' w' ho' (((Qqb.refl _ w).alloc _).trans hk) (((Below.refl _ w).alloc hlo _).trans (Qx3 hO hk (by simp;omega)))
theorem Jvo{ops:Array Oper}{rest:List Oper}{o:Oper}{a:Act}{Q:Exit→Act→World→Prop}{w:World}(hgd:o.guard=none)(s x:Operand)
 (ho:o.op=.call {callee:=.builtin .append,args:=#[s,x],argTypes:=#[30,30]})(lo:Nat)(v u:Value)(cur ys:List ByteArray)(hs:a.eval s=v)(hx:a.eval x=u)
 (hown:Qqf lo w 9 1 Qjz v cur)(hS:Qqa NoM w 1 Qjz u ys)(hN:cur.length+ys.length≤1000000000)(hlo:lo≤w.heap.size)
 (h:∀v' w',Qqf lo w' 9 1 Qjz v' (cur++ys)→Qqb (Qq4 v) w w'→Below lo w w'→wpList prog ops Q rest (a.put o.dst v') w'):wpList prog ops Q (o::rest) a w:=by
 refine Qje hgd s x 30 ho 9 _ 1 16 underlying30 Qwc rfl (by decide) (R:=Qjz) (M:=NoM) lo v u cur ys hs hx hown hS (fun y _ cs h=>Qky y cs h) (by omega) (by unfold maxLen;omega) hlo ?_;intro v' w' ho' hk _;exact h v' w' ho' hk (Qx3 hown hk hlo)
theorem Yje{lo:Nat}{w w':World}{v:Value}{l:List ByteArray}{t:TypeId}(h:Qqf lo w t 1 Qjz v l)(k:Below w.heap.size w w'):Qqf lo w' t 1 Qjz v l:=Qqf.kept h (.bel (M:=fun _=>False) k) (fun _ _=>id) fun _ _ _ h=>h
theorem Jvp:∀(l:List ByteArray) (k s:ByteArray),Qj4 k (l++[s])=Qj4 k l++[if l.length=0 then k else Qj3,s]
 |[],k,s=>rfl
 |a::l,k,s=>by
  rw[Ji,Qj4,Jvp l Qj3 s,Qj4];by_cases h:l.length=0
  ·simp[h]
  ·simp[h]
theorem Qyk:∀(l:List ByteArray) (k:ByteArray),(Qj4 k l).length=2*l.length
 |[],_=>rfl
 |a::l,k=>by rw[Qj4,Zb,Zb,Qyk l,Zb];omega
theorem Jxk{M:Nat→Prop}(k:ByteArray)(l:List ByteArray)(v:Value)(w:World)(hv:Qqa M w 1 Qjz v l)(hN:l.length≤100000000):
 Calls prog 43 #[k,v] w (Qkz (Qj4 k l) w):=by
 have HV:=hid hv;obtain⟨a,c,rfl,hm⟩:=Qqa.shape hv;unfold maxLen at hm;clear hv;have HROW:=hid fun j (hj:j<l.length)=>Qx7 HV.out hj
 obtain⟨n,hn⟩:∃n,l.length=n:=⟨_,rfl⟩
 rw[hn] at HROW hN hm⊢;have HNL:=hid hn;clear hn HV;go_enter func43,ntmps43;go_wp2_with fail
 go_loopw[5,10] (fun out i wr=>∃j:Nat,j≤n∧i=.int .i64 j∧Qqf w.heap.size wr 9 1 Qjz out (Qj4 k (l.take j))∧Below w.heap.size w wr) (fun _ i _=>n-(intOf i).toNat)
 case atStart=>exact⟨0,Zi _,rfl,by simpa[Qj4] using Qqf.nil ..,Below.refl _ _⟩
 case round=>
  rename World=>wr;obtain⟨j,hj,rfl,ho,hb⟩:=hrel;have HO:=hid ho;have HB:=hid hb;obtain⟨oa,oc,rfl,_⟩:=ho.shape;have hzr:=hb.size;clear ho hb;by_cases hlt:j<n
  ·obtain⟨s,b,o,cs,hxj,_,rfl,hbz,hcs0,hcs,hcap,hcm⟩:=HROW.out j hlt;obtain rfl:cs=[.string s]:=hcs0;unfold maxLen at hcm;have c0:=(hcs.keep (M:=NoM) (.bel HB.out) id).c1;simp only[Ks] at c0
   have HTK:Hid (Qj4 k (l.take (j+1))=Qj4 k (l.take j)++[if j=0 then k else Qj3,s]):=hid (by
    rw[Jh,hxj];show Qj4 k (l.take j++[s])=_
    rw[Jvp,Jm,Ka (by have:=HNL.out;omega)])
   have hcl:(Qj4 k (l.take j)).length=2*j:=by rw[Qyk,Jm,Ka (by have:=HNL.out;omega)]
   have HCL:=hid hcl;generalize hnx:Qj4 k (l.take (j+1))=nx at HTK;have NX:=hid hnx;clear hnx hcl hxj hcs;generalize Qj4 k (l.take j)=cur at HO HTK HCL;have i0:(0:Int)≤(j:Int):=by omega
   have i1:(j:Int)<(n:Int):=by omega
   by_cases hj0:j=0
   ·subst hj0;simp only[Je] at c0;have tok1:True:=trivial;have tok2:True:=trivial
    go_wp2_with(first|(at_builtin;clear tok1;go_loud (refine Qxf rfl _ _ rfl w.heap.size (Qv oa cur.length oc) _ _ _ cur [k] rfl rfl rfl rfl rfl HO.out (by have:=HCL.out;simp;omega) (by simp) hzr ?_;intro v2 w2 ho hkk hk;clear hkk;have HO2:=hid ho;have HB2:=hid (HB.out.trans hk);clear ho hk HO;obtain⟨oa2,oc2,rfl,_⟩:=HO2.out.shape;have hz2:=HB2.out.size;generalize hc2:cur++[k]=cur2 at HO2⊢;have HC2:=hid hc2;clear hc2))|(at_builtin;clear tok2;go_loud (refine Qxf rfl _ _ rfl w.heap.size (Qv oa2 cur2.length oc2) _ _ _ cur2 [s] rfl rfl rfl rfl rfl HO2.out (by have:=HCL.out;rw[←HC2.out];simp;omega) (by simp) hz2 ?_;intro v3 w3 ho hkk hk;clear hkk;have HO3:=hid ho;have HB3:=hid (HB2.out.trans hk);clear ho hk)))
    go_roundw
    case rel=>exact⟨0+1,by omega,by go_num,by rw[NX.out,HTK.out];have h:=HO3.out;rw[←HC2.out] at h;simpa using h,HB3.out⟩
    case measure=>simp[intOf];omega
   ·have j0:¬(j:Int)=0:=by omega
    have HJ0:=hid hj0;clear hj0;have tok1:True:=trivial;have tok2:True:=trivial
    go_wp2_with(first|(at_builtin;clear tok1;go_loud (refine Qxf rfl _ _ rfl w.heap.size (Qv oa cur.length oc) _ _ _ cur [Qj3] rfl rfl rfl rfl rfl HO.out (by have:=HCL.out;simp;omega) (by simp) hzr ?_;intro v2 w2 ho hkk hk;clear hkk;have HO2:=hid ho;have HB2:=hid (HB.out.trans hk);clear ho hk HO;obtain⟨oa2,oc2,rfl,_⟩:=HO2.out.shape;have hz2:=HB2.out.size;generalize hc2:cur++[Qj3]=cur2 at HO2⊢;have HC2:=hid hc2;clear hc2))|(at_builtin;clear tok2;go_loud (refine Qxf rfl _ _ rfl w.heap.size (Qv oa2 cur2.length oc2) _ _ _ cur2 [s] rfl rfl rfl rfl rfl HO2.out (by have:=HCL.out;rw[←HC2.out];simp;omega) (by simp) hz2 ?_;intro v3 w3 ho hkk hk;clear hkk;have HO3:=hid ho;have HB3:=hid (HB2.out.trans hk);clear ho hk)))
    go_roundw
    case rel=>exact⟨j+1,by omega,by go_num,by rw[NX.out,HTK.out,if_neg HJ0.out];have h:=HO3.out;rw[←HC2.out] at h;simpa using h,HB3.out⟩
    case measure=>simp[intOf];omega
  ·obtain rfl:j=n:=by omega
   rw[show l.take j=l from Jg (Kn HNL.out)] at HO⊢;generalize hcu:Qj4 k l=cur at HO⊢;have HCU:=hid hcu;clear hcu;go_wp2_with fail
   go_ret;exact⟨_,rfl,by rw[HCU.out];simpa using HO.out.rows (M:=NoM) fun _ _ _=>id,HB.out⟩
theorem Qyw:∀(ls:List (List ByteArray)) (a:List ByteArray),Qqw (ls++[a])=(if ls.length=0 then[] else Qqw ls++[Qj3])++a
 |[],a=>rfl
 |[x],a=>by simp[Qqw]
 |x::y::ls,a=>by
  have h:=Qyw (y::ls) a;simp only[Ji] at h⊢;show x++Qj3::Qqw (y::(ls++[a]))=_;rw[h];simp[Qqw]
theorem Qw0:∀(ls:List (List ByteArray)) (j:Nat),(Qqw (ls.take j)).length≤(Qqw ls).length
 |[],j=>by simp
 |x::ls,0=>by simp[Qqw]
 |[x],j+1=>by simp
 |x::y::ls,1=>by simp[Qqw]
 |x::y::ls,j+2=>by
  have h:=Qw0 (y::ls) (j+1);simp only[Qj] at h⊢;show(x++Qj3::Qqw (y::ls.take j)).length≤(x++Qj3::Qqw (y::ls)).length;simp only[Zr,Zb] at h⊢;omega
theorem Yjf(l:List Ex)(hall:∀x∈l,Qxb x)(v:Value)(w:World)(hv:Qqq NoM w v l)(hL:Qzf w)(hs:10<w.heap.size)(hO:Jxj w)(hN:(Qqw (Qzd l)).length≤400000000):
 Calls prog 47 #[v] w (Qkz (Qqw (Qzd l)) w):=by
 rw[Qkc] at*;have HV:=hid hv;obtain⟨a,c,rfl,hm⟩:=Qqa.shape hv;unfold maxLen at hm;have HALL:=hid hall;have HL:=hid hL;have HOP:=hid hO;have HNN:=hid hN;clear hv hall hL hO hN;have HROW:=hid fun j (hj:j<l.length)=>Qx7 HV.out hj
 obtain⟨n,hn⟩:∃n,l.length=n:=⟨_,rfl⟩
 rw[hn] at HROW hm⊢;have HNL:=hid hn;clear hn HV;go_enter func47,ntmps47;go_wp2_with fail
 go_loopw[3,8] (fun out i wr=>∃j:Nat,j≤n∧i=.int .i64 j∧Qqf w.heap.size wr 9 1 Qjz out (Qqw ((l.map Qqm).take j))∧Below w.heap.size w wr) (fun _ i _=>n-(intOf i).toNat)
 case atStart=>exact⟨0,Zi _,rfl,by simpa[Qqw] using Qqf.nil ..,Below.refl _ _⟩
 case round=>
  rename World=>wr;obtain⟨j,hj,rfl,ho,hb⟩:=hrel;have HO:=hid ho;have HB:=hid hb;obtain⟨oa,oc,rfl,_⟩:=ho.shape;have hzr:=hb.size;clear ho hb;by_cases hlt:j<n
  ·obtain⟨x,b,o,cs,hxj,hmem,rfl,hbz,hec,hcs,hcap,hcm⟩:=HROW.out j hlt;have HRW:=hid (HALL.out x hmem);have HEC:=hid hec;obtain⟨xva,xvs,rfl,hva,hvs⟩:=(Qji ..).1 hec;obtain⟨xa,xac,rfl,_⟩:=hva.shape;obtain⟨xs,xsc,rfl,_⟩:=hvs.shape;unfold maxLen at hcm;simp only[Qjg] at hcs HEC;obtain⟨c0,c1,c2,c3,c4,c5,c6,c7,c8,c9⟩:=Qqr.c10 (hcs.keep (M:=NoM) (.bel HB.out) id);have hwj:(l.map Qqm)[j]?=some (Qqm x):=by rw[Yi,hxj];rfl
   have HTK:Hid (Qqw ((l.map Qqm).take (j+1))=(if j=0 then[] else Qqw ((l.map Qqm).take j)++[Qj3])++Qqm x):=hid (by
    rw[Jh,hwj];show Qqw ((l.map Qqm).take j++[Qqm x])=_
    rw[Qyw,Jm,Ys,Ka (by have:=HNL.out;omega)])
   have HCL:=hid (Ya (Qw0 (l.map Qqm) j) HNN.out);have HCN:=hid (Ya (Qw0 (l.map Qqm) (j+1)) HNN.out);have hzero:j=0→Qqw ((l.map Qqm).take j)=[]:=fun e=>by rw[e];rfl
   have HZ:=hid hzero;generalize hnx:Qqw ((l.map Qqm).take (j+1))=nx at HTK HCN;have NX:=hid hnx;clear hnx hxj hcs hwj hec hva hvs hmem hzero;generalize Qqw ((l.map Qqm).take j)=cur at HO HTK HCL HZ;have HWL:Hid ((Qqm x).length≤400000000∧cur.length+1≤400000001):=hid ⟨by have h:=HCN.out;rw[HTK.out,Zr] at h;omega,by have:=HCL.out;omega⟩;generalize hws:Qqm x=ws at HTK HWL;have HWS:=hid hws;clear hws;have i0:(0:Int)≤(j:Int):=by omega
   have i1:(j:Int)<(n:Int):=by omega
   go_upto_region 5 with fail
   generalize hW:Qw wr _=wb;have hb0:wb.heap[wr.heap.size]?=some (.cells #[x.kind,x.op,x.no,x.val.kind,x.val.int,x.val.text,x.table,x.name,Qv xa x.args.length xac,Qv xs x.sub.length xsc] 80 (0,0)):=by rw[←hW];exact Zw wr _
   have HBB:=hid (show Below w.heap.size w wb from by rw[←hW];exact HB.out.alloc hzr _);have HOB:=hid (show Qqf w.heap.size wb 9 1 Qjz (Qv oa cur.length oc) cur from by rw[←hW];exact Qqf.kept HO.out ((Qqb.refl (fun _=>False) wr).alloc _) (fun _ _=>id) fun _ _ _ h=>h);have hzb:=(Zq.1 hb0).1;have hzw:=HBB.out.size;have HX0:=hid hb0;clear hW hb0 c0 c1 c2 c3 c4 c5 c6 c7 c8 c9;by_cases hj0:j=0
   ·subst hj0;obtain⟨d0,d1,d2,d3,d4,d5,d6,d7,d8,d9,_⟩:=Qq5 HX0.out;have HCUR:=hid (HZ.out rfl);have tok2:True:=trivial;go_wp2_with fail
    refine(HRW.out _ _ (EC.keep (M:=NoM) (.bel HBB.out) x _ HEC.out) (HL.out.belB HBB.out hs) (Zm hs HBB.out.size) (HOP.out.bel HBB.out) (by rw[HWS.out];have:=HWL.out.1;omega)).mono ?_;rintro e w5 ⟨vw,rfl,hvw,hb5⟩;rw[HWS.out] at hvw;obtain⟨va5,vc5,rfl,_⟩:=hvw.shape;have HVW:=hid hvw;have HO5:=hid (Yje HOB.out hb5);have HB5:=hid (HBB.out.trans (hb5.mono HBB.out.size));clear hvw hb5;dsimp only;have hz5:=HB5.out.size
    go_wp2_with(at_builtin;clear tok2;go_loud (refine Jvo rfl _ _ rfl w.heap.size (Qv oa cur.length oc) (Qv va5 ws.length vc5) cur ws rfl rfl HO5.out HVW.out (by have:=HWL.out;omega) hz5 ?_;intro v6 w6 ho hkk hk;have HO6:=hid ho;have HB6:=hid (HB5.out.trans hk);clear ho hk hkk))
    go_roundw
    case rel=>exact⟨0+1,by omega,by go_num,by rw[NX.out,HTK.out];have h:=HO6.out;rw[HCUR.out] at h;simpa using h,HB6.out⟩
    case measure=>simp[intOf];omega
   ·have j0:¬(j:Int)=0:=by omega
    have j1:(0:Int)<(j:Int):=by omega
    have j2:0<j:=by omega
    have HJ0:=hid hj0;clear hj0;go_upto_region 6 with fail
    have tok1:True:=trivial;have tok2:True:=trivial;have HOW:Hid (¬Qq4 (Qv oa cur.length oc) wr.heap.size):=hid fun h=>by have:=(Qqf.lt HO.out h).2;omega
    clear HO
    go_upto_region 7 with(at_builtin;clear tok1;go_loud (refine Qxf rfl _ _ rfl w.heap.size (Qv oa cur.length oc) _ _ _ cur [Qj3] rfl rfl rfl rfl rfl HOB.out (by have:=HWL.out;simp;omega) (by simp) hzw ?_;intro v2 w2 ho hkk hk;have HO2:=hid ho;have HK2:=hid ((hkk.block _ hzb HOW.out).trans HX0.out);have HB2:=hid (HBB.out.trans hk);clear ho hk hkk;obtain⟨oa2,oc2,rfl,_⟩:=HO2.out.shape;generalize hc2:cur++[Qj3]=cur2 at HO2⊢;have HC2:=hid hc2;clear hc2))
    obtain⟨d0,d1,d2,d3,d4,d5,d6,d7,d8,d9,_⟩:=Qq5 HK2.out;go_wp2_with fail
    refine(HRW.out _ _ (EC.keep (M:=NoM) (.bel HB2.out) x _ HEC.out) (HL.out.belB HB2.out hs) (Zm hs HB2.out.size) (HOP.out.bel HB2.out) (by rw[HWS.out];have:=HWL.out.1;omega)).mono ?_;rintro e w5 ⟨vw,rfl,hvw,hb5⟩;rw[HWS.out] at hvw;obtain⟨va5,vc5,rfl,_⟩:=hvw.shape;have HVW:=hid hvw;have HO5:=hid (Yje HO2.out hb5);have HB5:=hid (HB2.out.trans (hb5.mono HB2.out.size));clear hvw hb5;dsimp only;have hz5:=HB5.out.size
    go_wp2_with(at_builtin;clear tok2;go_loud (refine Jvo rfl _ _ rfl w.heap.size (Qv oa2 cur2.length oc2) (Qv va5 ws.length vc5) cur2 ws rfl rfl HO5.out HVW.out (by have:=HWL.out;(have:=HC2.out;rw[←this,Zr];simp only[Zb,Yw];omega)) hz5 ?_;intro v6 w6 ho hkk hk;have HO6:=hid ho;have HB6:=hid (HB5.out.trans hk);clear ho hk hkk))
    go_roundw
    case rel=>exact⟨j+1,by omega,by go_num,by rw[NX.out,HTK.out,if_neg HJ0.out,HC2.out];exact HO6.out,HB6.out⟩
    case measure=>simp[intOf];omega
  ·obtain rfl:j=n:=by omega
   rw[show(l.map Qqm).take j=l.map Qqm from Jg (by rw[Ys];exact Kn HNL.out)] at HO⊢;generalize hcu:Qqw (l.map Qqm)=cur at HO⊢;have HCU:=hid hcu;clear hcu;go_wp2_with fail
   go_ret;exact⟨_,rfl,by rw[HCU.out];simpa using HO.out.rows (M:=NoM) fun _ _ _=>id,HB.out⟩
def KN(W:World)(l:List (Value×List ByteArray)):Prop:=∀p∈l,Qqa NoM W 1 Qjz p.1 p.2
def STt(W0 W:World)(l:List (Value×List ByteArray)):Prop:=Below W0.heap.size W0 W∧KN W l
theorem STt.base(W:World):STt W W []:=⟨Below.refl _ _,fun p h=>by cases h⟩
theorem STt.bel{W0 W W':World}{l:List (Value×List ByteArray)}(h:STt W0 W l)(k:Below W.heap.size W W'):STt W0 W' l:=⟨Qqu h.1 k,fun p hp=>Qvp (h.2 p hp) k⟩
theorem STt.drew{W0 W:World}{l:List (Value×List ByteArray)}(h:STt W0 W l):STt W0 W.drew l:=h.bel (Qjn (Below.refl _ _))
theorem STt.alloc{W0 W:World}{l:List (Value×List ByteArray)}(h:STt W0 W l)(o:Obj):STt W0 (W.alloc o) l:=h.bel ((Below.refl _ _).alloc (Zz _) o)
theorem STt.strs{W0 W:World}{l:List (Value×List ByteArray)}(h:STt W0 W l)(ys:List ByteArray){arr:Array Value}(ha:arr.toList=ys.map Value.string)(hm:ys.length≤1000)(t:TypeId):
 STt W0 (W.alloc (.cells arr t)) ((Qv (some ⟨W.heap.size,0,none⟩) ys.length ys.length,ys)::l):=by
 refine⟨(h.alloc _).1,fun p hp=>?_⟩;rcases Zs.1 hp with rfl|hp
 ·exact Qxr ys rfl ha rfl hm t
 ·exact(h.alloc _).2 p hp
theorem STt.row{W0 W:World}{l:List (Value×List ByteArray)}(h:STt W0 W l){v:Value}{ys:List ByteArray}(hr:Qqa NoM W 1 Qjz v ys):STt W0 W ((v,ys)::l):=
 ⟨h.1,fun p hp=>by rcases Zs.1 hp with rfl|hp;exact hr;exact h.2 p hp⟩
theorem Qjo{f:FuncId}{args:Array Value}{W0 W:World}{l:List (Value×List ByteArray)}{ys:List ByteArray}{Q:Ending→World→Prop}(hst:STt W0 W l)(hc:STt W0 W l→Calls prog f args W (Qkz ys W))
 (h:∀a c w',STt W0 w' ((Qv a ys.length c,ys)::l)→Q (.returned (Qv a ys.length c)) w'):Calls prog f args W Q:=by
 refine(hc hst).mono ?_;rintro e w' ⟨v,rfl,hv,hb⟩;obtain⟨a,c,rfl,_⟩:=hv.shape;exact h a c w' ((hst.bel hb).row hv)
theorem Yyw{W0 W:World}{l:List (Value×List ByteArray)}(h:STt W0 W l)(ls:List (Value×List ByteArray)){arr:Array Value}(ha:arr.toList=ls.map Prod.fst)(hm:ls.length≤1000)(hl:∀p∈ls,p∈l)(t:TypeId){n g:Nat}(hn:n=ls.length)(hg:g=W.heap.size):
 Qqa NoM (W.alloc (.cells arr t)) 1 (LsR (W.alloc (.cells arr t))) (Qv (some ⟨g,0,none⟩) n n) (ls.map Prod.snd):=by
 subst hn;refine Ywn (ls.map Prod.snd) hg (by simp) (by rw[ha];simp) (by simpa using hm) t fun i y v hi hv=>?_;rw[ha] at hv;simp only[Yi,Ju] at hi hv;obtain⟨p,hp,rfl⟩:=hi;obtain⟨q,hq,rfl⟩:=hv;rw[hp] at hq;cases hq;exact h.2 p (hl p (Yk hp))
theorem Qzy{W0 W:World}{l ls:List (Value×List ByteArray)}{arr:Array Value}{t:TypeId}{n g:Nat}{Q:Ending→World→Prop}(hst:STt W0 W l)(hg:g=W.heap.size)(ha:arr.toList=ls.map Prod.fst)(hl:∀p∈ls,p∈l)(hm:ls.length≤1000)(hn:n=ls.length)
 (hN:((ls.map Prod.snd).map List.length).sum≤1000000000)(h:∀v w',Qqa NoM w' 1 Qjz v (ls.map Prod.snd).flatten→Below W0.heap.size W0 w'→Q (.returned v) w'):
 Calls prog 17 #[Qv (some ⟨g,0,none⟩) n n] (W.alloc (.cells arr t)) Q:=by
 refine(Yzw (ls.map Prod.snd) _ _ (Yyw hst ls ha hm hl t hn hg) hN).mono ?_;rintro e w' ⟨v,rfl,hv,hb⟩;exact h v w' hv (Qqu (hst.alloc _).1 hb)
theorem Jqw{k o:Int}{i:Nat}{x:Ex}(h:(Qqm x).length≤800000000):(Qz9 k o i x).length≤800000002:=by
 unfold Qz9
 split
 ·simp;omega
 ·omega
theorem Qk4(k o:Int)(no:Bool)(args:List Ex)(i:Nat)(x:Ex)(hx:args[i]?=some x)(hok:Qxb x)(hi3:i≤2)(h5:k=5→i≤1)(W:World)(va vs:Value)(hA:Qqq NoM W va args)(hl:Qzf W)(hs:10<W.heap.size)(ho:Jxj W)(hN:(Qqm x).length≤800000000)(W':World)(l:List (Value×List ByteArray))(h:STt W W' l):
 Calls prog 88 #[.agg #[k,o,no,"0","0",es,es,es,va,vs],.int .i64 (i:Int)] W' (Qkz (Qz9 k o i x) W'):=by
 have h1:=Qy0 k o no 0 0 es es es va vs args i x hx hok hi3 W' (Qqa.map hA (.bel h.1) fun x _ cs h'=>EC.keep (.bel h.1) x cs h') (hl.belB h.1 hs) (Zm hs h.1.size) (ho.bel h.1) hN;rw[Jkh h5] at h1;exact h1
theorem Ukv(a:Ex)(ha:Qxb a)(na:(Qqm a).length≤800000000):Qxb (opX 6 0 false [a] []):=by
 intro cs w hE hL hs hO hN;obtain⟨xva,xvs,rfl,hva,hvs⟩:=(Qji ..).1 hE;obtain⟨ea,ec,rfl,_⟩:=hva.shape;obtain⟨sa,sc,rfl,_⟩:=hvs.shape;have HA:=hid (show Qqq NoM w (Qv ea 1 ec) [a] from hva);have HL:=hid hL;have HO:=hid hO;have Ha:=hid ha;have Na:=hid na;rw[Jvm];simp only[Qjg,opX,Ex.kind,Ex.op,Ex.no,Ex.val,Ex.table,Ex.name,Ex.args,Ex.sub,Zb,Yw,Ye,Qvs];clear hE hva hvs hL hO hN ha na;go_enter func45,ntmps45;go_upto_region 15 with fail
 generalize hW:Qw w _=W;have HBW:=hid (show Below w.heap.size w W from by rw[←hW];exact(Below.refl _ _).alloc (Zz _) _);have hS:W.heap[w.heap.size]?=some (.cells #["6","0",false,"0","0",es,es,es,Qv ea 1 ec,Qv sa 0 sc] 80 (0,0)):=by rw[←hW];exact Zw w _
 have hz:=HBW.out.size;obtain⟨e0,e1,e2,e3,e4,e5,e6,e7,e8,e9,_⟩:=Qq5 hS;have HAW:=hid (Qqq.keep HA.out (.bel HBW.out));have HLW:=hid (HL.out.belB HBW.out hs);have HOW:=hid (HO.out.bel HBW.out);have hsW:10<W.heap.size:=by omega
 clear hS hW;have HG0:=hid fun W' l (h:STt W W' l)=>Qk4 6 0 false [a] 0 a rfl Ha.out (by omega) (by omega) W (Qv ea 1 ec) (Qv sa 0 sc) HAW.out HLW.out hsW HOW.out (by have:=Na.out;omega) W' l h;have HN0:=hid (Jqw (k:=6) (o:=0) (i:=0) (x:=a) (by have:=Na.out;omega));generalize hR0:Qz9 6 0 0 a=R0 at HG0 HN0;have HR0:=hid hR0;clear hR0;go_wp2_with fail
 refine Qjo (W0:=W) (STt.base W) (fun h=>HG0.out _ _ h) ?_;intro a1 c1 w1 hst;have ST1:=hid hst;clear hst e0 e1 e2 e3 e4 e5 e6 e7 e8 e9;have ST2:=hid (ST1.out.strs [kIS,Qys] (arr:=#[.string ⟨#[73,83]⟩,.string ⟨#[78,85,76,76]⟩]) rfl (by simp) 9);dsimp only;go_wp2_with fail
 refine Qzy (W0:=W) (ls:=[(Qv a1 R0.length c1,R0),(Qv (some ⟨w1.heap.size,0,none⟩) 2 2,[kIS,Qys])]) ST2.out (by simp) (by rfl) (by intro p hp;simpa[or_assoc,or_comm,or_left_comm] using hp) (by simp) (by rfl) (by have:=HN0.out;simp;omega) ?_;intro v9 w9 hv9 hb9;have HV:=hid hv9;have HB9:=hid (HBW.out.trans (hb9.mono hz));clear hv9 hb9;dsimp only;go_wp2_with fail
 go_ret;exact⟨_,rfl,by rw[HR0.out];simpa using HV.out,HB9.out⟩
theorem Ukw(a:Ex)(ha:Qxb a)(na:(Qqm a).length≤800000000):Qxb (opX 6 0 true [a] []):=by
 intro cs w hE hL hs hO hN;obtain⟨xva,xvs,rfl,hva,hvs⟩:=(Qji ..).1 hE;obtain⟨ea,ec,rfl,_⟩:=hva.shape;obtain⟨sa,sc,rfl,_⟩:=hvs.shape;have HA:=hid (show Qqq NoM w (Qv ea 1 ec) [a] from hva);have HL:=hid hL;have HO:=hid hO;have Ha:=hid ha;have Na:=hid na;rw[Jvl];simp only[Qjg,opX,Ex.kind,Ex.op,Ex.no,Ex.val,Ex.table,Ex.name,Ex.args,Ex.sub,Zb,Yw,Ye,Qvs];clear hE hva hvs hL hO hN ha na;go_enter func45,ntmps45;go_upto_region 14 with fail
 generalize hW:Qw w _=W;have HBW:=hid (show Below w.heap.size w W from by rw[←hW];exact(Below.refl _ _).alloc (Zz _) _);have hS:W.heap[w.heap.size]?=some (.cells #["6","0",true,"0","0",es,es,es,Qv ea 1 ec,Qv sa 0 sc] 80 (0,0)):=by rw[←hW];exact Zw w _
 have hz:=HBW.out.size;obtain⟨e0,e1,e2,e3,e4,e5,e6,e7,e8,e9,_⟩:=Qq5 hS;have HAW:=hid (Qqq.keep HA.out (.bel HBW.out));have HLW:=hid (HL.out.belB HBW.out hs);have HOW:=hid (HO.out.bel HBW.out);have hsW:10<W.heap.size:=by omega
 clear hS hW;have HG0:=hid fun W' l (h:STt W W' l)=>Qk4 6 0 true [a] 0 a rfl Ha.out (by omega) (by omega) W (Qv ea 1 ec) (Qv sa 0 sc) HAW.out HLW.out hsW HOW.out (by have:=Na.out;omega) W' l h;have HN0:=hid (Jqw (k:=6) (o:=0) (i:=0) (x:=a) (by have:=Na.out;omega));generalize hR0:Qz9 6 0 0 a=R0 at HG0 HN0;have HR0:=hid hR0;clear hR0;go_wp2_with fail
 refine Qjo (W0:=W) (STt.base W) (fun h=>HG0.out _ _ h) ?_;intro a1 c1 w1 hst;have ST1:=hid hst;clear hst e0 e1 e2 e3 e4 e5 e6 e7 e8 e9;have ST2:=hid (ST1.out.strs [kIS,Jxa,Qys] (arr:=#[.string ⟨#[73,83]⟩,.string ⟨#[78,79,84]⟩,.string ⟨#[78,85,76,76]⟩]) rfl (by simp) 9);dsimp only;go_wp2_with fail
 refine Qzy (W0:=W) (ls:=[(Qv a1 R0.length c1,R0),(Qv (some ⟨w1.heap.size,0,none⟩) 3 3,[kIS,Jxa,Qys])]) ST2.out (by simp) (by rfl) (by intro p hp;simpa[or_assoc,or_comm,or_left_comm] using hp) (by simp) (by rfl) (by have:=HN0.out;simp;omega) ?_;intro v9 w9 hv9 hb9;have HV:=hid hv9;have HB9:=hid (HBW.out.trans (hb9.mono hz));clear hv9 hb9;dsimp only;go_wp2_with fail
 go_ret;exact⟨_,rfl,by rw[HR0.out];simpa using HV.out,HB9.out⟩
theorem Uj0(f:ByteArray)(whr:List Ex)(hw1:whr.length≤1)(hall:∀x∈whr,Qxb x)(hn:(Qjd (whr.map Qqm)).length≤500000000):Qxb (opX 8 0 false [] [.mk true [] f whr]):=by
 intro cs w hE hL hs hO hN;obtain⟨xva,xvs,rfl,hva,hvs⟩:=(Qji ..).1 hE;obtain⟨ea,ec,rfl,_⟩:=hva.shape
 rcases hvs.open with⟨_,h0⟩|⟨sb,so,sc,rfl,_,hsb,_,_,hx⟩
 ·cases h0
 obtain⟨qs,hq,_,hqs⟩:=hx 0 _ rfl;obtain⟨vi,vw,rfl,hi,hwh⟩:=(Qxg ..).1 hq;obtain⟨ia,ic,rfl,_⟩:=hi.shape;obtain⟨wa,wc,rfl,_⟩:=hwh.shape;have HWH:=hid (show Qqq NoM w (Qv wa whr.length wc) whr from hwh);have HQS:=hid (show Qqr w sb (so+0*4) [true,Qv ia 0 ic,f,Qv wa whr.length wc] from hqs);have HALL:=hid hall;have HN:=hid hn;have HL:=hid hL;have HO:=hid hO
 obtain⟨R,HR⟩:∃R,Hid (R=Qqm (opX 8 0 false [] [.mk true [] f whr])):=⟨_,hid rfl⟩
 rw[←HR.out];simp only[Qjg,opX,Ex.kind,Ex.op,Ex.no,Ex.val,Ex.table,Ex.name,Ex.args,Ex.sub,Zb,Yw,Ye,Qvs];clear hE hva hvs hq hi hwh hqs hx hL hO hN hn hall;go_enter func45,ntmps45;go_upto_region 19 with fail
 generalize hW:Qw w _=W;have HBW:=hid (show Below w.heap.size w W from by rw[←hW];exact(Below.refl _ _).alloc (Zz _) _);have hS:W.heap[w.heap.size]?=some (.cells #["8","0",false,"0","0",es,es,es,Qv ea 0 ec,Qv (some ⟨sb,so,none⟩) 1 sc] 80 (0,0)):=by rw[←hW];exact Zw w _
 have hz:=HBW.out.size;have HS:=hid hS;have hzz:=(Zq.1 hS).1;have HLW:=hid (HL.out.belB HBW.out hs);have HOW:=hid (HO.out.bel HBW.out);have HQW:=hid (HQS.out.keep (M:=NoM) (.bel HBW.out) id);have HWW:=hid (Qqq.keep HWH.out (.bel HBW.out));have hsW:10<W.heap.size:=by omega
 clear hS hW
 have HKS:Hid (∀w' l,STt W w' l→w'.cell? ⟨w.heap.size,0,none⟩=some (.int .i64 8)∧w'.cell? ⟨w.heap.size,1,none⟩=some (.int .i64 0)∧w'.cell? ⟨w.heap.size,2,none⟩=some (.bool false)∧w'.cell? ⟨w.heap.size,3,none⟩=some (.int .i64 0)∧w'.cell? ⟨w.heap.size,4,none⟩=some (.int .i64 0)∧w'.cell? ⟨w.heap.size,5,none⟩=some (.string es)∧w'.cell? ⟨w.heap.size,6,none⟩=some (.string es)∧w'.cell? ⟨w.heap.size,7,none⟩=some (.string es)∧w'.cell? ⟨w.heap.size,8,none⟩=some (Qv ea 0 ec)∧w'.cell? ⟨w.heap.size,9,none⟩=some (Qv (some ⟨sb,so,none⟩) 1 sc)∧w'.cell? ⟨sb,so,none⟩=some (.bool true)∧w'.cell? ⟨sb,so+1,none⟩=some (Qv ia 0 ic)∧w'.cell? ⟨sb,so+2,none⟩=some (.string f)∧w'.cell? ⟨sb,so+3,none⟩=some (Qv wa whr.length wc)):=hid fun w' l h=>by
  obtain⟨e0,e1,e2,e3,e4,e5,e6,e7,e8,e9,_⟩:=Qq5 ((h.1.block _ hzz).trans HS.out);obtain⟨q0,q1,q2,q3⟩:=Qqr.c4 (HQW.out.keep (M:=NoM) (.bel h.1) id);simp only[Jr,Je] at q0 q1 q2 q3;exact⟨e0,e1,e2,e3,e4,e5,e6,e7,e8,e9,q0,q1,q2,q3⟩
 have HFR:=hid fun W' l (h:STt W W' l)=>Jqh true (Qv ia 0 ic) f (Qv wa whr.length wc) whr HALL.out hw1 W' (Qqq.keep HWW.out (.bel h.1)) (HLW.out.belB h.1 hsW) (Zm hsW h.1.size) (HOW.out.bel h.1) (by have:=HN.out;omega);have HRW:Hid (R=[Jxz,Qq7,Qjv,Qya]++((Qzp::f::Qjd (whr.map Qqm))++[Qjq])):=hid (by rw[HR.out,Jzk (by decide)];rfl);generalize hwh:Qjd (whr.map Qqm)=wh at HFR HRW HN;clear hwh HR;have ST1:=hid ((STt.base W).strs [Jxz,Qq7,Qjv,Qya] (arr:=#[.string ⟨#[69,88,73,83,84,83]⟩,.string ⟨#[40]⟩,.string ⟨#[83,69,76,69,67,84]⟩,.string ⟨#[42]⟩]) rfl (by simp) 9);obtain⟨e0,e1,e2,e3,e4,e5,e6,e7,e8,e9,q0,q1,q2,q3⟩:=HKS.out _ _ ST1.out;have i0:(0:Int)≤0:=by omega
 go_wp2_with fail
 refine Qjo (W0:=W) ST1.out (fun h=>HFR.out _ _ h) ?_;intro a1 c1 w1 hst;have ST2:=hid hst;clear hst e0 e1 e2 e3 e4 e5 e6 e7 e8 e9 q0 q1 q2 q3;dsimp only;go_wp2_with fail
 have ST3:=hid (ST2.out.strs [Qjq] (arr:=#[.string ⟨#[41]⟩]) rfl (by simp) 9);refine Qzy (W0:=W) (ls:=[(Qv (some ⟨W.heap.size,0,none⟩) 4 4,[Jxz,Qq7,Qjv,Qya]),(Qv a1 (wh.length+1+1) c1,Qzp::f::wh),(Qv (some ⟨w1.heap.size,0,none⟩) 1 1,[Qjq])]) ST3.out (by simp) (by rfl) (by intro p hp;simpa[or_assoc,or_comm,or_left_comm] using hp) (by simp) (by rfl) (by have:=HN.out;simp;omega) ?_;intro v9 w9 hv9 hb9;have HV:=hid hv9;have HB9:=hid (HBW.out.trans (hb9.mono hz));clear hv9 hb9;dsimp only;go_wp2_with fail
 go_ret;exact⟨_,rfl,by rw[HRW.out];simpa using HV.out,HB9.out⟩
theorem Ukx(f:ByteArray)(whr:List Ex)(hw1:whr.length≤1)(hall:∀x∈whr,Qxb x)(hn:(Qjd (whr.map Qqm)).length≤500000000):Qxb (opX 9 0 false [] [.mk false [] f whr]):=by
 intro cs w hE hL hs hO hN;obtain⟨xva,xvs,rfl,hva,hvs⟩:=(Qji ..).1 hE;obtain⟨ea,ec,rfl,_⟩:=hva.shape
 rcases hvs.open with⟨_,h0⟩|⟨sb,so,sc,rfl,_,hsb,_,_,hx⟩
 ·cases h0
 obtain⟨qs,hq,_,hqs⟩:=hx 0 _ rfl;obtain⟨vi,vw,rfl,hi,hwh⟩:=(Qxg ..).1 hq;obtain⟨ia,ic,rfl,_⟩:=hi.shape;obtain⟨wa,wc,rfl,_⟩:=hwh.shape;have HWH:=hid (show Qqq NoM w (Qv wa whr.length wc) whr from hwh);have HQS:=hid (show Qqr w sb (so+0*4) [false,Qv ia 0 ic,f,Qv wa whr.length wc] from hqs);have HALL:=hid hall;have HN:=hid hn;have HL:=hid hL;have HO:=hid hO
 obtain⟨R,HR⟩:∃R,Hid (R=Qqm (opX 9 0 false [] [.mk false [] f whr])):=⟨_,hid rfl⟩
 rw[←HR.out];simp only[Qjg,opX,Ex.kind,Ex.op,Ex.no,Ex.val,Ex.table,Ex.name,Ex.args,Ex.sub,Zb,Yw,Ye,Qvs];clear hE hva hvs hq hi hwh hqs hx hL hO hN hn hall;go_enter func45,ntmps45;go_upto_region 21 with fail
 generalize hW:Qw w _=W;have HBW:=hid (show Below w.heap.size w W from by rw[←hW];exact(Below.refl _ _).alloc (Zz _) _);have hS:W.heap[w.heap.size]?=some (.cells #["9","0",false,"0","0",es,es,es,Qv ea 0 ec,Qv (some ⟨sb,so,none⟩) 1 sc] 80 (0,0)):=by rw[←hW];exact Zw w _
 have hz:=HBW.out.size;have HS:=hid hS;have hzz:=(Zq.1 hS).1;have HLW:=hid (HL.out.belB HBW.out hs);have HOW:=hid (HO.out.bel HBW.out);have HQW:=hid (HQS.out.keep (M:=NoM) (.bel HBW.out) id);have HWW:=hid (Qqq.keep HWH.out (.bel HBW.out));have hsW:10<W.heap.size:=by omega
 clear hS hW
 have HKS:Hid (∀w' l,STt W w' l→w'.cell? ⟨w.heap.size,0,none⟩=some (.int .i64 9)∧w'.cell? ⟨w.heap.size,1,none⟩=some (.int .i64 0)∧w'.cell? ⟨w.heap.size,2,none⟩=some (.bool false)∧w'.cell? ⟨w.heap.size,3,none⟩=some (.int .i64 0)∧w'.cell? ⟨w.heap.size,4,none⟩=some (.int .i64 0)∧w'.cell? ⟨w.heap.size,5,none⟩=some (.string es)∧w'.cell? ⟨w.heap.size,6,none⟩=some (.string es)∧w'.cell? ⟨w.heap.size,7,none⟩=some (.string es)∧w'.cell? ⟨w.heap.size,8,none⟩=some (Qv ea 0 ec)∧w'.cell? ⟨w.heap.size,9,none⟩=some (Qv (some ⟨sb,so,none⟩) 1 sc)∧w'.cell? ⟨sb,so,none⟩=some (.bool false)∧w'.cell? ⟨sb,so+1,none⟩=some (Qv ia 0 ic)∧w'.cell? ⟨sb,so+2,none⟩=some (.string f)∧w'.cell? ⟨sb,so+3,none⟩=some (Qv wa whr.length wc)):=hid fun w' l h=>by
  obtain⟨e0,e1,e2,e3,e4,e5,e6,e7,e8,e9,_⟩:=Qq5 ((h.1.block _ hzz).trans HS.out);obtain⟨q0,q1,q2,q3⟩:=Qqr.c4 (HQW.out.keep (M:=NoM) (.bel h.1) id);simp only[Jr,Je] at q0 q1 q2 q3;exact⟨e0,e1,e2,e3,e4,e5,e6,e7,e8,e9,q0,q1,q2,q3⟩
 have HFR:=hid fun W' l (h:STt W W' l)=>Jqh false (Qv ia 0 ic) f (Qv wa whr.length wc) whr HALL.out hw1 W' (Qqq.keep HWW.out (.bel h.1)) (HLW.out.belB h.1 hsW) (Zm hsW h.1.size) (HOW.out.bel h.1) (by have:=HN.out;omega);have HRW:Hid (R=[Qq7,Qjv,Jww,Qq7,Qya,Qjq]++((Qzp::f::Qjd (whr.map Qqm))++[Qjq])):=hid (by rw[HR.out,Jzk (by decide)];rfl);generalize hwh:Qjd (whr.map Qqm)=wh at HFR HRW HN;clear hwh HR;have ST1:=hid ((STt.base W).strs [Qq7,Qjv,Jww,Qq7,Qya,Qjq] (arr:=#[.string ⟨#[40]⟩,.string ⟨#[83,69,76,69,67,84]⟩,.string ⟨#[67,79,85,78,84]⟩,.string ⟨#[40]⟩,.string ⟨#[42]⟩,.string ⟨#[41]⟩]) rfl (by simp) 9);obtain⟨e0,e1,e2,e3,e4,e5,e6,e7,e8,e9,q0,q1,q2,q3⟩:=HKS.out _ _ ST1.out;have i0:(0:Int)≤0:=by omega
 go_wp2_with fail
 refine Qjo (W0:=W) ST1.out (fun h=>HFR.out _ _ h) ?_;intro a1 c1 w1 hst;have ST2:=hid hst;clear hst e0 e1 e2 e3 e4 e5 e6 e7 e8 e9 q0 q1 q2 q3;dsimp only;go_wp2_with fail
 have ST3:=hid (ST2.out.strs [Qjq] (arr:=#[.string ⟨#[41]⟩]) rfl (by simp) 9);refine Qzy (W0:=W) (ls:=[(Qv (some ⟨W.heap.size,0,none⟩) 6 6,[Qq7,Qjv,Jww,Qq7,Qya,Qjq]),(Qv a1 (wh.length+1+1) c1,Qzp::f::wh),(Qv (some ⟨w1.heap.size,0,none⟩) 1 1,[Qjq])]) ST3.out (by simp) (by rfl) (by intro p hp;simpa[or_assoc,or_comm,or_left_comm] using hp) (by simp) (by rfl) (by have:=HN.out;simp;omega) ?_;intro v9 w9 hv9 hb9;have HV:=hid hv9;have HB9:=hid (HBW.out.trans (hb9.mono hz));clear hv9 hb9;dsimp only;go_wp2_with fail
 go_ret;exact⟨_,rfl,by rw[HRW.out];simpa using HV.out,HB9.out⟩
theorem Jys(a b:List UInt8):bs (a++b)=bs a++bs b:=by
 apply Qv1;rw[ByteArray.data_append,Array.toList_append];rfl
theorem Jx9(a:List UInt8):(bs a).size=a.length:=by show a.toArray.size=a.length;simp
theorem Uyl(t:ByteArray):bs t.data.toList=t:=rfl
theorem Jzn{M:Nat→Prop}(l:List ByteArray)(v:Value)(w:World)(hv:Qqa M w 1 Qjz v l)(hl:Qzf w)(hs:10<w.heap.size)(hN:(l.map fun t=>t.size+1).sum≤1000000000000):
 Calls prog 16 #[v] w (Qqd (.string (bs (Qxe none l))) w):=by
 have HV:=hid hv;have HL:=hid hl;have HN:=hid hN;obtain⟨a,c,rfl,hm⟩:=hv.shape;unfold maxLen at hm;clear hv hl hN;go_enter func16,ntmps16;go_wp2_with fail
 go_loopw[3,8] (fun out i wr=>∃j:Nat,j≤l.length∧i=.int .i64 j∧out=.string (bs (Qxe none (l.take j)))∧Below w.heap.size w wr) (fun _ i _=>l.length-(intOf i).toNat)
 case atStart=>exact⟨0,Zi _,rfl,rfl,Below.refl _ _⟩
 case round=>
  rename World=>wr;obtain⟨j,hj,rfl,rfl,hbw⟩:=hrel;have HBW:=hid hbw;have HLR:=hid (HL.out.bel hbw hs);clear hbw;by_cases hlt:j<l.length
  ·rcases HV.out.open with⟨_,h0⟩|⟨ab,ao,cap',hv',_,hab,hcap,_,hx⟩
   ·rw[h0] at hlt;simp at hlt
   simp only[Yz] at hv';obtain⟨rfl,_,rfl⟩:=hv';have hxj:l[j]?=some l[j]:=Zg hlt;obtain⟨cs,rfl,_,hcs⟩:=hx j _ hxj;have c0:=(hcs.keep (M:=fun _=>False) (.bel HBW.out) id).c1;simp only[Ks] at c0;have HX:=hid hx;have HTK:=hid (Ywj hxj);have HLE:=hid (Ya (Jkx (l.take (j+1)) none) (Ya (Ukp l (j+1)) HN.out));generalize l[j]=t at hxj c0 HTK;have i0:(0:Int)≤(j:Int):=by omega
   have i1:(j:Int)<(l.length:Int):=by omega
   have HLT:=hid (fun(k:Nat) (t:ByteArray) (h:l[k]?=some t)=>Ywk h);generalize hnx:Qxe none (l.take (j+1))=nx at HTK HLE;have NX:=hid hnx;clear hnx;clear hx hcs;have HCT:=hid (fun w h=>Yzv t w h);generalize Qxe none (l.take j)=cur at HTK;generalize hbc:bs cur=bcur;have HBC:=hid hbc;clear hbc;rcases Nat.eq_zero_or_pos j with rfl|hjp
   ·have HN0:Hid (bs nx=bcur++t):=hid (by rw[HTK.out,←HBC.out,Jys];congr 1)
    have hsz:¬9223372036854775807<bcur.size+t.size:=by
     have h1:=HLE.out;have h2:=congrArg ByteArray.size HN0.out;rw[Kh,Jx9] at h2;omega
    clear HTK HLE HLT HCT;simp only[Je] at c0;go_wp2_with fail
    refine⟨⟨0+1,by omega,by go_num,by rw[NX.out,HN0.out],HBW.out⟩,?_⟩;simp[intOf];omega
   ·obtain⟨k,rfl⟩:∃k,j=k+1:=⟨j-1,by omega⟩
    have hxk:l[k]?=some l[k]:=Zg (by omega);obtain⟨cs,rfl,_,hcs⟩:=HX.out k _ hxk;have p0:=(hcs.keep (M:=fun _=>False) (.bel HBW.out) id).c1;simp only[Ks] at p0;have hlast:=HLT.out k _ hxk;generalize l[k]=pw at hxk p0 hlast;rw[hlast] at HTK;clear hcs hlast;have i2:(k:Int)<(l.length:Int):=by omega
    have i3:(0:Int)≤(k:Int):=by omega
    generalize hcb:Lib.contains [44,59,46,41] t.data.toList=cb at HCT;have HG:Hid (Jjn (some pw) t=(!cb&&!(pw.toList==[40])&&!(pw.toList==[46]))):=hid (by unfold Jjn;rw[hcb]);clear hcb;cases hg:Jjn (some pw) t
    ·have HN0:Hid (bs nx=bcur++t):=hid (by rw[HTK.out,hg,←HBC.out,Jys];congr 1)
     have hcase:cb=true∨(cb=false∧(pw.toList==[40])=true)∨(cb=false∧(pw.toList==[40])=false∧(pw.toList==[46])=true):=by
      have h:=HG.out;rw[hg] at h;exact Uyh _ _ _ h.symm
     have hsz:¬9223372036854775807<bcur.size+t.size:=by
      have h1:=HLE.out;have h2:=congrArg ByteArray.size HN0.out;rw[Kh,Jx9] at h2;omega
     clear HTK HLE HLT hg HG
     rcases hcase with rfl|⟨rfl,h1⟩|⟨rfl,h1,h2⟩
     case' inr.inl=>have h1':(pw.toList !=[40])=false:=by simp[bne,h1]
     case' inr.inr=>
      have h1':(pw.toList !=[40])=true:=by simp[bne,h1]
      have h2':(pw.toList !=[46])=false:=by simp[bne,h2]
     all_goals
      go_wp2_with fail
      refine(HCT.out wr HLR.out).mono ?_;rintro e w2 ⟨rfl,rfl⟩;dsimp only;go_wp2_with fail
      refine⟨⟨k+1+1,by omega,by go_num,by rw[NX.out,HN0.out],HBW.out⟩,?_⟩;simp[intOf];omega
    ·have HN0:Hid (bs nx=bcur++⟨#[32]⟩++t):=hid (by rw[HTK.out,hg,←HBC.out,Jys,if_pos rfl,Jys,←ByteArray.append_assoc];rfl)
     have hcase:cb=false∧(pw.toList==[40])=false∧(pw.toList==[46])=false:=by
      have h:=HG.out;rw[hg] at h;exact Uko _ _ _ h.symm
     have hs1:bcur.size+1+t.size≤1000000000000:=by
      have h1:=HLE.out;have h2:=congrArg ByteArray.size HN0.out;rw[Kh,Kh,Jx9,show ByteArray.size ⟨#[32]⟩=1 from rfl] at h2;omega
     have hsz:¬9223372036854775807<bcur.size+1:=by omega
     have hsz2:¬9223372036854775807<bcur.size+1+t.size:=by omega
     have hsz3:¬9223372036854775807<(bcur++⟨#[32]⟩).size+t.size:=by rw[Kh,show ByteArray.size ⟨#[32]⟩=1 from rfl];omega
     clear HTK HLE HLT hg HG;obtain⟨rfl,h1,h2⟩:=hcase;have h1':(pw.toList !=[40])=true:=by simp[bne,h1]
     have h2':(pw.toList !=[46])=true:=by simp[bne,h2]
     go_wp2_with fail
     refine(HCT.out wr HLR.out).mono ?_;rintro e w2 ⟨rfl,rfl⟩;dsimp only;go_wp2_with fail
     refine⟨⟨k+1+1,by omega,by go_num,by rw[NX.out,HN0.out],HBW.out⟩,?_⟩;simp[intOf];omega
  ·obtain rfl:j=l.length:=by omega
   go_wp2_with fail
   go_ret;exact⟨by rw[Jo];rfl,HBW.out⟩
theorem Jyt(st:Bool)(items whr:List Ex)(f:ByteArray)(vi vw:Value)(w:World)(hi:Qqq NoM w vi items)(hw:Qqq NoM w vw whr)(hw1:whr.length≤1)(hall1:∀x∈items,Qxb x)(hall2:∀x∈whr,Qxb x)
 (hn1:(Qqw (Qzd items)).length≤400000000)(hn2:(Qjd (Qzd whr)).length≤400000000)(hL:Qzf w)(hs:10<w.heap.size)(hO:Jxj w):
 Calls prog 20 #[.agg #[st,vi,f,vw]] w (Qkz (Qxw (.mk st items f whr)) w):=by
 obtain⟨ia,ic,rfl,_⟩:=hi.shape;obtain⟨wa,wc,rfl,_⟩:=hw.shape;have HI:=hid hi;have HWH:=hid hw;have HALL1:=hid hall1;have HALL2:=hid hall2;have HN1:=hid hn1;have hn2':=hn2;rw[Qkc whr] at hn2';have HN2:=hid hn2';have HL:=hid hL;have HO:=hid hO
 obtain⟨R,HR⟩:∃R,Hid (R=Qxw (.mk st items f whr)):=⟨_,hid rfl⟩
 rw[←HR.out];clear hi hw hall1 hall2 hn1 hn2 hn2' hL hO;go_enter func20,ntmps20;cases st
 case true=>
  go_upto_region 2 with fail
  generalize hW:Qw w _=W;have HBW:=hid (show Below w.heap.size w W from by rw[←hW];exact(Below.refl _ _).alloc (Zz _) _);have hS:W.heap[w.heap.size]?=some (.cells #[true,Qv ia items.length ic,f,Qv wa whr.length wc] 37 (0,0)):=by rw[←hW];exact Zw w _
  have hz:=HBW.out.size;have HS:=hid hS;have hzz:=(Zq.1 hS).1;clear hS hW;have HFR:=hid fun W' l (h:STt W W' l)=>Jqh true (Qv ia items.length ic) f (Qv wa whr.length wc) whr HALL2.out hw1 W' (Qqq.keep HWH.out (.bel (Qqu HBW.out h.1))) (HL.out.belB (Qqu HBW.out h.1) hs) (Zm hs (Qqu HBW.out h.1).size) (HO.out.bel (Qqu HBW.out h.1)) (by have:=HN2.out;omega);have HRW:Hid (R=[Qjv,Qya]++(Qzp::f::Qjd (whr.map Qqm))):=hid (by rw[HR.out];show Qjv::([Qya]++(Qzp::f::Qjd (Qzd whr)))=_;rw[Qkc];rfl);generalize hwh:Qjd (whr.map Qqm)=wh at HFR HRW HN2;clear hwh HR;have ST1:=hid ((STt.base W).strs [Qjv,Qya] (arr:=#[.string ⟨#[83,69,76,69,67,84]⟩,.string ⟨#[42]⟩]) rfl (by simp) 9);obtain⟨e0,e1,e2,e3,_⟩:=Qzo ((ST1.out.1.block _ hzz).trans HS.out);go_wp2_with fail
  refine Qjo (W0:=W) ST1.out (fun h=>HFR.out _ _ h) ?_;intro a1 c1 w1 hst;have ST2:=hid hst;clear hst e0 e1 e2 e3;dsimp only;go_wp2_with fail
  refine Qzy (W0:=W) (ls:=[(Qv (some ⟨W.heap.size,0,none⟩) 2 2,[Qjv,Qya]),(Qv a1 (wh.length+1+1) c1,Qzp::f::wh)]) ST2.out (by simp) (by rfl) (by intro p hp;simpa[or_assoc,or_comm,or_left_comm] using hp) (by simp) (by rfl) (by have:=HN2.out;simp;omega) ?_;intro v9 w9 hv9 hb9;have HV:=hid hv9;have HB9:=hid (HBW.out.trans (hb9.mono hz));clear hv9 hb9;dsimp only;go_wp2_with fail
  go_ret;exact⟨_,rfl,by rw[HRW.out];simpa using HV.out,HB9.out⟩
 case false=>
  go_upto_region 3 with fail
  generalize hW:Qw w _=W;have HBW:=hid (show Below w.heap.size w W from by rw[←hW];exact(Below.refl _ _).alloc (Zz _) _);have hS:W.heap[w.heap.size]?=some (.cells #[false,Qv ia items.length ic,f,Qv wa whr.length wc] 37 (0,0)):=by rw[←hW];exact Zw w _
  have hz:=HBW.out.size;have HS:=hid hS;have hzz:=(Zq.1 hS).1;clear hS hW
  have HKS:Hid (∀w' l,STt W w' l→w'.cell? ⟨w.heap.size,0,none⟩=some (.bool false)∧w'.cell? ⟨w.heap.size,1,none⟩=some (Qv ia items.length ic)∧w'.cell? ⟨w.heap.size,2,none⟩=some (.string f)∧w'.cell? ⟨w.heap.size,3,none⟩=some (Qv wa whr.length wc)):=hid fun w' l h=>by
   obtain⟨e0,e1,e2,e3,_⟩:=Qzo ((h.1.block _ hzz).trans HS.out);exact⟨e0,e1,e2,e3⟩
  have HLI:=hid fun W' l (h:STt W W' l)=>Yjf items HALL1.out _ W' (Qqq.keep HI.out (.bel (Qqu HBW.out h.1))) (HL.out.belB (Qqu HBW.out h.1) hs) (Zm hs (Qqu HBW.out h.1).size) (HO.out.bel (Qqu HBW.out h.1)) HN1.out;have HFR:=hid fun W' l (h:STt W W' l)=>Jqh false (Qv ia items.length ic) f (Qv wa whr.length wc) whr HALL2.out hw1 W' (Qqq.keep HWH.out (.bel (Qqu HBW.out h.1))) (HL.out.belB (Qqu HBW.out h.1) hs) (Zm hs (Qqu HBW.out h.1).size) (HO.out.bel (Qqu HBW.out h.1)) (by have:=HN2.out;omega);have HRW:Hid (R=[Qjv]++(Qqw (Qzd items)++(Qzp::f::Qjd (whr.map Qqm)))):=hid (by rw[HR.out];show Qjv::(Qqw (Qzd items)++(Qzp::f::Qjd (Qzd whr)))=_;rw[Qkc whr];rfl);generalize hcm:Qqw (Qzd items)=cm at HLI HRW HN1;generalize hwh:Qjd (whr.map Qqm)=wh at HFR HRW HN2;generalize hff:Qzp::f::wh=ff at HFR HRW;have HFF:Hid (ff.length≤500000002):=hid (by have:=HN2.out;rw[←hff];simp;omega);clear hwh hff hcm HR HALL1 HALL2;have ST0:=hid (STt.base W);have tok0:Hid True:=hid trivial;have tok1:Hid True:=hid trivial;have xx0:=HKS.out _ _ ST0.out
  go_region_held3 (fun w'=>w'.cell? ⟨w.heap.size,0,none⟩=some (.bool false)∧w'.cell? ⟨w.heap.size,1,none⟩=some (Qv ia items.length ic)∧w'.cell? ⟨w.heap.size,2,none⟩=some (.string f)∧w'.cell? ⟨w.heap.size,3,none⟩=some (Qv wa whr.length wc))
   (refine HKS.out _ _ (by repeat(first|with_reducible exact ST9.out|with_reducible exact ST2.out|with_reducible exact ST1.out|with_reducible exact ST0.out|with_reducible apply STt.drew|(apply STt.strs (ys:=[Qjv]);rfl;simp)|apply STt.alloc)))
   (first
     |(go_at_call 47;have _t:=tok0;go_loud (refine Qjo (W0:=W) (by repeat(first|with_reducible exact ST9.out|with_reducible exact ST0.out|with_reducible apply STt.drew|(apply STt.strs (ys:=[Qjv]);rfl;simp)|apply STt.alloc)) (fun h=>HLI.out _ _ h) ?_;intro a1 c1 w1 hst;have ST1:=hid hst;clear hst tok0 _t))
     |(go_at_call 46;have _t:=tok1;go_loud (refine Qjo (W0:=W) (by repeat(first|with_reducible exact ST9.out|with_reducible exact ST1.out|with_reducible exact ST0.out|with_reducible apply STt.drew|(apply STt.strs (ys:=[Qjv]);rfl;simp)|apply STt.alloc)) (fun h=>HFR.out _ _ h) ?_;intro a2 c2 w2 hst;have ST2:=hid hst;clear hst tok1 _t))
     |(go_at_call 17;go_loud (refine Qzy (W0:=W) (ls:=[(_,[Qjv]),(_,cm),(_,ff)]) (by repeat(first|with_reducible exact ST9.out|with_reducible exact ST2.out|with_reducible exact ST1.out|with_reducible exact ST0.out|with_reducible apply STt.drew|(apply STt.strs (ys:=[Qjv]);rfl;simp)|apply STt.alloc)) (by simp) rfl (by simp) (by simp) rfl (by have:=HN1.out;have:=HFF.out;simp;omega) ?_;intro v9 w9 hv9 hb9;have ST9:Hid (STt W w9 []):=hid ⟨hb9,fun p h=>by cases h⟩;have HV:=hid hv9;have HB9:=hid (HBW.out.trans (hb9.mono hz));clear hv9 hb9)))
  all_goals
   (try dsimp only)
   go_wp2_with fail
   go_ret;exact⟨_,rfl,by rw[HRW.out];simpa using HV.out,HB9.out⟩
theorem Uky{n:Int}(h:n<0):Lib.itoa n=45::Lib.itoa (-n):=by
 unfold Lib.itoa;rw[if_pos h,if_neg (by omega),show(-n).toNat=n.natAbs by omega]
theorem Uym(n:Int):Qzt ⟨1,n,⟨#[]⟩⟩=Lib.itoa n:=by
 have h:Qqs ⟨1,n,⟨#[]⟩⟩=true:=by show Qq0 ⟨#[]⟩=true;decide+kernel
 unfold Qzt;rw[h];rfl
theorem Ykt{c:UInt8}{l:List UInt8}{s:ByteArray}(h:s=bs (c::l)):1≤s.size∧s.extract 1 s.size=bs l:=by
 subst h;have hz:(bs (c::l)).size=l.length+1:=by show(c::l).toArray.size=_;simp
 refine⟨by omega,?_⟩;refine ByteArray.ext (Array.toList_inj.1 ?_);rw[Qx,hz];show _=l;simp[bs]
theorem Uj1(n:Int)(h1:-9223372036854775808≤n)(h2:n≤9223372036854775807)(w:World)(hL:Qzf w)(hs:10<w.heap.size):Calls prog 44 #[n] w (Qkz (Jxe n) w):=by
 have HL:=hid hL;have HB0:=hid (Ze h1 h2)
 obtain⟨s,HS⟩:∃s,Hid (s=bs (Lib.itoa n)):=⟨_,hid rfl⟩
 clear hL h1 h2;go_enter func44,ntmps44;go_wp2_with fail
 refine(Uqx n _).mono ?_;rintro e w1 ⟨rfl,hb1⟩;have HB1:=hid hb1;clear hb1;dsimp only;go_wp2_with fail
 refine(Jkl ⟨1,n,⟨#[]⟩⟩ ⟨Zi _,HB0.out.1,HB0.out.2,(by show(-9223372036854775808:Int)≤1;decide),(by show(1:Int)≤9223372036854775807;decide)⟩ _ (HL.out.belB HB1.out hs) (Zm hs HB1.out.size)).mono ?_;rintro e w2 ⟨rfl,hb2⟩;have HB2:=hid (HB1.out.trans (hb2.mono HB1.out.size));rw[show txt (Qzt ⟨1,n,⟨#[]⟩⟩)=s from by rw[Uym,HS.out];rfl];clear hb2;dsimp only;have hz:=HB2.out.size;by_cases hn:n<0
 ·have hx:=Ykt (c:=45) (l:=Lib.itoa (-n)) (s:=s) (by rw[HS.out,Uky hn]);have hx1:=hx.1;have HX:=hid hx.2;have i1:(1:Int)≤(s.size:Int):=by omega
  clear hx;go_wp2_with fail
  go_ret;refine⟨_,rfl,?_,HB2.out.alloc hz _⟩;unfold Jxe;rw[if_pos (by omega),HX.out];exact Qxr [Jqq,bs (Lib.itoa (-n))] rfl rfl rfl (by simp) _
 ·go_wp2_with fail
  go_ret;refine⟨_,rfl,?_,HB2.out.alloc hz _⟩;unfold Jxe;rw[if_neg (by omega),←HS.out];exact Qxr [s] rfl rfl rfl (by simp) _
end Go.Proofs.YtgepbohjmgaojaaGreatDoor
