/- The reference's words of assignments. The reference's words of actions. The reference's words of actions, joined. -/
import Derived.Test.YtgepbohjmgaojaaGreatDoorU21
set_option linter.all false
set_option maxHeartbeats 8000000
set_option maxRecDepth 100000
namespace Go.Proofs.YtgepbohjmgaojaaGreatDoor
open World renaming alloc→Qw
open Value renaming slice→Qv
open Go.Proofs.Tryz
open Lib(hid)
open Go.RowKit
def Kzi(l:List ByteArray)(w:World)(e:Ending)(w':World):Prop:=∃v,e=.returned v∧Qqf w.heap.size w' 9 1 Qjz v l∧Below w.heap.size w w'
theorem Uyn{M:Nat→Prop}(ls:List (List ByteArray))(v:Value)(w:World)(hv:Qqa M w 1 (LsR w) v ls)(hN:(ls.map List.length).sum≤1000000000):
 Calls prog 17 #[v] w (Kzi ls.flatten w):=by
 have HV:=hid hv;have HN:=hid hN;obtain⟨a,c,rfl,hm⟩:=hv.shape;unfold maxLen at hm;clear hv hN;go_enter func17,ntmps17;go_wp2_with fail
 go_loopw[3,8] (fun out i wr=>∃j:Nat,j≤ls.length∧i=.int .i64 j∧Qqf w.heap.size wr 9 1 Qjz out (ls.take j).flatten∧Below w.heap.size w wr) (fun _ i _=>ls.length-(intOf i).toNat)
 case atStart=>exact⟨0,Zi _,rfl,by simpa using Qqf.nil ..,Below.refl _ _⟩
 case round=>
  rename World=>wr;obtain⟨j,hj,rfl,ho,hb⟩:=hrel;have HO:=hid ho;have HB:=hid hb;obtain⟨oa,oc,rfl,_⟩:=ho.shape;have hzr:=hb.size;clear ho hb;by_cases hlt:j<ls.length
  ·rcases HV.out.open with⟨_,h0⟩|⟨ab,ao,cap',hv',_,hab,hcap,_,hx⟩
   ·rw[h0] at hlt;simp at hlt
   simp only[Yz] at hv';obtain⟨rfl,_,rfl⟩:=hv';have hxj:ls[j]?=some ls[j]:=Zg hlt;obtain⟨cs,⟨vl,rfl,hl⟩,_,hcs⟩:=hx j _ hxj;have c0:=(hcs.keep (M:=fun _=>False) (.bel HB.out) id).c1;simp only[Ks] at c0;have HLN:=hid (Ykp ls (j+1));have HTK:Hid ((ls.take (j+1)).flatten=(ls.take j).flatten++ls[j]):=hid (by rw[Jh,hxj,List.flatten_append];simp only[Option.toList,Yr,List.flatten_nil,Jb]);have HLJ:=hid (Qvp hl HB.out);generalize ls[j]=l at hxj c0 HTK HLJ;generalize hnx:(ls.take (j+1)).flatten=nx at HTK HLN;have NX:=hid hnx;clear hnx;generalize(ls.take j).flatten=cur at HO HTK;obtain⟨la,lc,rfl,_⟩:=HLJ.out.shape;have i0:(0:Int)≤(j:Int):=by omega
   have i1:(j:Int)<(ls.length:Int):=by omega
   have HLE:Hid (cur.length+l.length≤1000000000):=hid (by have h1:=HLN.out;have h2:=HN.out;rw[HTK.out,Zr] at h1;omega);clear hx hcs hl hxj HLN
   go_wp2_with(at_builtin;go_loud (refine Qje rfl _ _ 30 rfl 9 _ 1 16 underlying30 Qwc rfl (by decide) (R:=Qjz) (M:=NoM) w.heap.size (Qv oa cur.length oc) (Qv la l.length lc) cur l rfl rfl HO.out HLJ.out (fun y _ cs h=>Qky y cs h) (by have:=HLE.out;omega) (by have:=HLE.out;unfold maxLen;omega) hzr ?_;intro v2 w2 ho hk hat;have HO2:=hid ho;have HB2:=hid (HB.out.trans (Qx3 HO.out hk hzr));clear ho hk hat))
   go_roundw
   case rel=>exact⟨j+1,by omega,by go_num,by rw[NX.out,HTK.out];exact HO2.out,HB2.out⟩
   case measure=>simp[intOf];omega
  ·obtain rfl:j=ls.length:=by omega
   go_wp2_with fail
   go_ret;exact⟨_,rfl,by have h:=HO.out;rw[Jo] at h;simpa using h,HB.out⟩
theorem Qw1{W0 W:World}{l ls:List (Value×List ByteArray)}{arr:Array Value}{t:TypeId}{n g:Nat}{Q:Ending→World→Prop}(hst:STt W0 W l)(hg:g=W.heap.size)(ha:arr.toList=ls.map Prod.fst)(hl:∀p∈ls,p∈l)(hm:ls.length≤1000)(hn:n=ls.length)
 (hN:((ls.map Prod.snd).map List.length).sum≤1000000000)(h:∀v w',Qqf W0.heap.size w' 9 1 Qjz v (ls.map Prod.snd).flatten→Below W0.heap.size W0 w'→Q (.returned v) w'):
 Calls prog 17 #[Qv (some ⟨g,0,none⟩) n n] (W.alloc (.cells arr t)) Q:=by
 refine(Uyn (ls.map Prod.snd) _ _ (Yyw hst ls ha hm hl t hn hg) hN).mono ?_;rintro e w' ⟨v,rfl,hv,hb⟩;exact h v w' (hv.lower (hst.alloc _).1.size) (Qqu (hst.alloc _).1 hb)
theorem Uj2(l:List Qx4)(hall:∀s∈l,Qxb s.ex)(v:Value)(w:World)(hv:Qzb NoM w v l)(hL:Qzf w)(hs:10<w.heap.size)(hO:Jxj w)(hN:(Jqf l).length≤400000000):
 Calls prog 48 #[v] w (Qkz (Jqf l) w):=by
 unfold Jqf at*;have HV:=hid hv;obtain⟨a,c,rfl,hm⟩:=Qqa.shape hv;unfold maxLen at hm;have HALL:=hid hall;have HL0:=hid hL;have HOP0:=hid hO;have HNN:=hid hN;clear hv hall hL hO hN
 obtain⟨n,hn⟩:∃n,l.length=n:=⟨_,rfl⟩
 rw[hn] at hm⊢;have HNL:=hid hn
 have HROW:=hid fun j (hj:j<n)=>(show ∃s b o a1 n1 a2 n2,l[j]?=some s∧s∈l∧a=some ⟨b,o,none⟩∧b<w.heap.size∧EC NoM w s.ex (Qjg s.ex.kind s.ex.op s.ex.no s.ex.val s.ex.table s.ex.name (Qv a1 s.ex.args.length n1) (Qv a2 s.ex.sub.length n2))∧Qqr w b (o+j*11) (.string s.col::Qjg s.ex.kind s.ex.op s.ex.no s.ex.val s.ex.table s.ex.name (Qv a1 s.ex.args.length n1) (Qv a2 s.ex.sub.length n2))∧n≤c∧c≤maxLen from by
  have hj':j<l.length:=by omega
  have hx:=Zg hj';obtain⟨b,o,a1,n1,a2,n2,h1,h2,h3,h4,h5,h6⟩:=Jyq HV.out hx
  exact⟨l[j],b,o,a1,n1,a2,n2,hx,Yo hj',h1,h2,h3,h4,by omega,h6⟩)
 clear hn HV;go_enter func48,ntmps48;go_wp2_with fail
 go_loopw[3,8] (fun out i wr=>∃j:Nat,j≤n∧i=.int .i64 j∧Qqf w.heap.size wr 9 1 Qjz out (Qqw ((l.map Jqe).take j))∧Below w.heap.size w wr) (fun _ i _=>n-(intOf i).toNat)
 case atStart=>exact⟨0,Zi _,rfl,by simpa[Qqw] using Qqf.nil ..,Below.refl _ _⟩
 case round=>
  rename World=>wr;obtain⟨j,hj,rfl,ho,hb⟩:=hrel;have HO:=hid ho;have HB:=hid hb;obtain⟨oa,oc,rfl,_⟩:=ho.shape;have hzr:=hb.size;clear ho hb;by_cases hlt:j<n
  ·obtain⟨s,b,o,a1,n1,a2,n2,hxj,hmem,rfl,hbz,hec,hcs,hcap,hcm⟩:=HROW.out j hlt;have HRW:=hid (HALL.out s hmem);have HL:=HL0;have HOP:=HOP0;unfold maxLen at hcm;simp only[Qjg] at hcs hec;have HEC:=hid hec;obtain⟨c0,c1,c2,c3,c4,c5,c6,c7,c8,c9,c10⟩:=(hcs.keep (M:=NoM) (.bel HB.out) id).c11;have hwj:(l.map Jqe)[j]?=some (Jqe s):=by rw[Yi,hxj];rfl
   have HTK:Hid (Qqw ((l.map Jqe).take (j+1))=(if j=0 then[] else Qqw ((l.map Jqe).take j)++[Qj3])++(s.col::kEq::Qqm s.ex)):=hid (by
    rw[Jh,hwj];show Qqw ((l.map Jqe).take j++[Jqe s])=_;rw[Qyw,Jm,Ys,Ka (by have:=HNL.out;omega)]
    rfl)
   have HCL:=hid (Ya (Qw0 (l.map Jqe) j) HNN.out);have HCN:=hid (Ya (Qw0 (l.map Jqe) (j+1)) HNN.out);have hzero:j=0→Qqw ((l.map Jqe).take j)=[]:=fun e=>by rw[e];rfl
   have HZ:=hid hzero;generalize hnx:Qqw ((l.map Jqe).take (j+1))=nx at HTK HCN;have NX:=hid hnx;clear hnx hxj hcs hwj hec hmem hzero;generalize Qqw ((l.map Jqe).take j)=cur at HO HTK HCL HZ;have HWL:Hid ((Qqm s.ex).length≤400000000∧cur.length+1≤400000001):=hid ⟨by have h:=HCN.out;rw[HTK.out,Zr] at h;simp only[Zb] at h;omega,by have:=HCL.out;omega⟩;generalize hws:Qqm s.ex=ws at HTK HWL;have HWS:=hid hws;clear hws;have i0:(0:Int)≤(j:Int):=by omega
   have i1:(j:Int)<(n:Int):=by omega
   go_upto_region 5 with fail
   generalize hW:Qw wr _=wb;have hb0:wb.heap[wr.heap.size]?=some (.cells #[s.col,s.ex.kind,s.ex.op,s.ex.no,s.ex.val.kind,s.ex.val.int,s.ex.val.text,s.ex.table,s.ex.name,Qv a1 s.ex.args.length n1,Qv a2 s.ex.sub.length n2] 155 (0,0)):=by rw[←hW];exact Zw wr _
   have HBB:=hid (show Below w.heap.size w wb from by rw[←hW];exact HB.out.alloc hzr _);have HOB:=hid (show Qqf w.heap.size wb 9 1 Qjz (Qv oa cur.length oc) cur from by rw[←hW];exact Qqf.kept HO.out ((Qqb.refl (fun _=>False) wr).alloc _) (fun _ _=>id) fun _ _ _ h=>h);have hzb:=(Zq.1 hb0).1;have hzw:=HBB.out.size;have HX0:=hid hb0;clear hW hb0 c0 c1 c2 c3 c4 c5 c6 c7 c8 c9 c10;by_cases hj0:j=0
   ·subst hj0;have HCUR:=hid (HZ.out rfl);go_upto_region 7 with fail
    have hzW:=HBB.out.size;have hzz:=(Zq.1 HX0.out).1
    have HKS:Hid (∀w' l,STt wb w' l→w'.cell? ⟨wr.heap.size,0,none⟩=some (.string s.col)∧w'.cell? ⟨wr.heap.size,1,none⟩=some (.int .i64 s.ex.kind)∧w'.cell? ⟨wr.heap.size,2,none⟩=some (.int .i64 s.ex.op)∧w'.cell? ⟨wr.heap.size,3,none⟩=some (.bool s.ex.no)∧w'.cell? ⟨wr.heap.size,4,none⟩=some (.int .i64 s.ex.val.kind)∧w'.cell? ⟨wr.heap.size,5,none⟩=some (.int .i64 s.ex.val.int)∧w'.cell? ⟨wr.heap.size,6,none⟩=some (.string s.ex.val.text)∧w'.cell? ⟨wr.heap.size,7,none⟩=some (.string s.ex.table)∧w'.cell? ⟨wr.heap.size,8,none⟩=some (.string s.ex.name)∧w'.cell? ⟨wr.heap.size,9,none⟩=some (Qv a1 s.ex.args.length n1)∧w'.cell? ⟨wr.heap.size,10,none⟩=some (Qv a2 s.ex.sub.length n2)):=hid fun w' l h=>by
     obtain⟨e0,e1,e2,e3,e4,e5,e6,e7,e8,e9,e10,_⟩:=Qjw ((h.1.block _ hzz).trans HX0.out);exact⟨e0,e1,e2,e3,e4,e5,e6,e7,e8,e9,e10⟩
    have HXW:=hid fun W' l (h:STt wb W' l)=>(show Calls prog 45 #[.agg #[s.ex.kind,s.ex.op,s.ex.no,s.ex.val.kind,s.ex.val.int,s.ex.val.text,s.ex.table,s.ex.name,Qv a1 s.ex.args.length n1,Qv a2 s.ex.sub.length n2]] W' (Qkz ws W') from by
     have hb:=Qqu HBB.out h.1;have h5:=HRW.out _ W' (EC.keep (M:=NoM) (.bel hb) s.ex _ HEC.out) (HL.out.belB hb hs) (Zm hs hb.size) (HOP.out.bel hb) (by rw[HWS.out];have:=HWL.out.1;omega);rw[HWS.out] at h5
     exact h5)
    have STZ:=hid ((STt.base wb).row (HOB.out.rows (M:=NoM) fun _ _ _=>id));clear HRW HOP HL;have ST0:=STZ;have tok0:Hid True:=hid trivial;have xx0:=HKS.out _ _ ST0.out
    go_region_held3 (fun w'=>w'.cell? ⟨wr.heap.size,0,none⟩=some (.string s.col)∧w'.cell? ⟨wr.heap.size,1,none⟩=some (.int .i64 s.ex.kind)∧w'.cell? ⟨wr.heap.size,2,none⟩=some (.int .i64 s.ex.op)∧w'.cell? ⟨wr.heap.size,3,none⟩=some (.bool s.ex.no)∧w'.cell? ⟨wr.heap.size,4,none⟩=some (.int .i64 s.ex.val.kind)∧w'.cell? ⟨wr.heap.size,5,none⟩=some (.int .i64 s.ex.val.int)∧w'.cell? ⟨wr.heap.size,6,none⟩=some (.string s.ex.val.text)∧w'.cell? ⟨wr.heap.size,7,none⟩=some (.string s.ex.table)∧w'.cell? ⟨wr.heap.size,8,none⟩=some (.string s.ex.name)∧w'.cell? ⟨wr.heap.size,9,none⟩=some (Qv a1 s.ex.args.length n1)∧w'.cell? ⟨wr.heap.size,10,none⟩=some (Qv a2 s.ex.sub.length n2))
     (refine HKS.out _ _ (by repeat(first|with_reducible exact ST9.out|with_reducible exact ST1.out|with_reducible exact ST0.out|with_reducible apply STt.drew|(apply STt.strs (ys:=[s.col,kEq]);rfl;simp)|apply STt.alloc)))
     (first
       |(go_at_call 45;have _t:=tok0;go_loud (refine Qjo (W0:=wb) (by repeat(first|with_reducible exact ST9.out|with_reducible exact ST0.out|with_reducible apply STt.drew|(apply STt.strs (ys:=[s.col,kEq]);rfl;simp)|apply STt.alloc)) (fun h=>HXW.out _ _ h) ?_;intro a1 c1 w1 hst;have ST1:=hid hst;clear hst tok0 _t))
       |(go_at_call 17;go_loud (refine Qw1 (W0:=wb) (ls:=[(_,cur),(_,[s.col,kEq]),(_,ws)]) (by repeat(first|with_reducible exact ST9.out|with_reducible exact ST1.out|with_reducible exact ST0.out|with_reducible apply STt.drew|(apply STt.strs (ys:=[s.col,kEq]);rfl;simp)|apply STt.alloc)) (by simp) rfl (by simp) (by simp) rfl (by have:=HWL.out;simp;omega) ?_;intro v9 w9 hv9 hb9;have ST9:Hid (STt wb w9 []):=hid ⟨hb9,fun p h=>by cases h⟩;have HV:=hid hv9;have HB9:=hid (HBB.out.trans (hb9.mono hzW));clear hv9 hb9)))
    all_goals
     (try dsimp only)
     go_wp2_with fail
     go_roundw
     case rel=>
      refine⟨0+1,by omega,by go_num,?_,HB9.out⟩;rw[NX.out,HTK.out];have h:=HV.out.lower hzW;rw[HCUR.out] at h;simpa using h
     case measure=>simp[intOf];omega
   ·have j0:¬(j:Int)=0:=by omega
    have j1:(0:Int)<(j:Int):=by omega
    have j2:0<j:=by omega
    have HJ0:=hid hj0;clear hj0;go_upto_region 6 with fail
    have tokA:True:=trivial;have HOW:Hid (¬Qq4 (Qv oa cur.length oc) wr.heap.size):=hid fun h=>by have:=(Qqf.lt HO.out h).2;omega
    clear HO
    go_upto_region 7 with(at_builtin;clear tokA;go_loud (refine Qxf rfl _ _ rfl w.heap.size (Qv oa cur.length oc) _ _ _ cur [Qj3] rfl rfl rfl rfl rfl HOB.out (by have:=HWL.out;simp;omega) (by simp) hzw ?_;intro v2 w2 ho hkk hk;have HO2:=hid ho;have HK2:=hid ((hkk.block _ hzb HOW.out).trans HX0.out);have HB2:=hid (HBB.out.trans hk);clear ho hk hkk;obtain⟨oa2,oc2,rfl,_⟩:=HO2.out.shape;generalize hc2:cur++[Qj3]=cur2 at HO2⊢;have HC2:=hid hc2;clear hc2))
    have hzW:=HB2.out.size;have hzz:=(Zq.1 HK2.out).1
    have HKS:Hid (∀w' l,STt w2 w' l→w'.cell? ⟨wr.heap.size,0,none⟩=some (.string s.col)∧w'.cell? ⟨wr.heap.size,1,none⟩=some (.int .i64 s.ex.kind)∧w'.cell? ⟨wr.heap.size,2,none⟩=some (.int .i64 s.ex.op)∧w'.cell? ⟨wr.heap.size,3,none⟩=some (.bool s.ex.no)∧w'.cell? ⟨wr.heap.size,4,none⟩=some (.int .i64 s.ex.val.kind)∧w'.cell? ⟨wr.heap.size,5,none⟩=some (.int .i64 s.ex.val.int)∧w'.cell? ⟨wr.heap.size,6,none⟩=some (.string s.ex.val.text)∧w'.cell? ⟨wr.heap.size,7,none⟩=some (.string s.ex.table)∧w'.cell? ⟨wr.heap.size,8,none⟩=some (.string s.ex.name)∧w'.cell? ⟨wr.heap.size,9,none⟩=some (Qv a1 s.ex.args.length n1)∧w'.cell? ⟨wr.heap.size,10,none⟩=some (Qv a2 s.ex.sub.length n2)):=hid fun w' l h=>by
     obtain⟨e0,e1,e2,e3,e4,e5,e6,e7,e8,e9,e10,_⟩:=Qjw ((h.1.block _ hzz).trans HK2.out);exact⟨e0,e1,e2,e3,e4,e5,e6,e7,e8,e9,e10⟩
    have HXW:=hid fun W' l (h:STt w2 W' l)=>(show Calls prog 45 #[.agg #[s.ex.kind,s.ex.op,s.ex.no,s.ex.val.kind,s.ex.val.int,s.ex.val.text,s.ex.table,s.ex.name,Qv a1 s.ex.args.length n1,Qv a2 s.ex.sub.length n2]] W' (Qkz ws W') from by
     have hb:=Qqu HB2.out h.1;have h5:=HRW.out _ W' (EC.keep (M:=NoM) (.bel hb) s.ex _ HEC.out) (HL.out.belB hb hs) (Zm hs hb.size) (HOP.out.bel hb) (by rw[HWS.out];have:=HWL.out.1;omega);rw[HWS.out] at h5
     exact h5)
    have STZ:=hid ((STt.base w2).row (HO2.out.rows (M:=NoM) fun _ _ _=>id));clear HRW HOP HL;have ST0:=STZ;have tok0:Hid True:=hid trivial;have xx0:=HKS.out _ _ ST0.out
    go_region_held3 (fun w'=>w'.cell? ⟨wr.heap.size,0,none⟩=some (.string s.col)∧w'.cell? ⟨wr.heap.size,1,none⟩=some (.int .i64 s.ex.kind)∧w'.cell? ⟨wr.heap.size,2,none⟩=some (.int .i64 s.ex.op)∧w'.cell? ⟨wr.heap.size,3,none⟩=some (.bool s.ex.no)∧w'.cell? ⟨wr.heap.size,4,none⟩=some (.int .i64 s.ex.val.kind)∧w'.cell? ⟨wr.heap.size,5,none⟩=some (.int .i64 s.ex.val.int)∧w'.cell? ⟨wr.heap.size,6,none⟩=some (.string s.ex.val.text)∧w'.cell? ⟨wr.heap.size,7,none⟩=some (.string s.ex.table)∧w'.cell? ⟨wr.heap.size,8,none⟩=some (.string s.ex.name)∧w'.cell? ⟨wr.heap.size,9,none⟩=some (Qv a1 s.ex.args.length n1)∧w'.cell? ⟨wr.heap.size,10,none⟩=some (Qv a2 s.ex.sub.length n2))
     (refine HKS.out _ _ (by repeat(first|with_reducible exact ST9.out|with_reducible exact ST1.out|with_reducible exact ST0.out|with_reducible apply STt.drew|(apply STt.strs (ys:=[s.col,kEq]);rfl;simp)|apply STt.alloc)))
     (first
       |(go_at_call 45;have _t:=tok0;go_loud (refine Qjo (W0:=w2) (by repeat(first|with_reducible exact ST9.out|with_reducible exact ST0.out|with_reducible apply STt.drew|(apply STt.strs (ys:=[s.col,kEq]);rfl;simp)|apply STt.alloc)) (fun h=>HXW.out _ _ h) ?_;intro a1 c1 w1 hst;have ST1:=hid hst;clear hst tok0 _t))
       |(go_at_call 17;go_loud (refine Qw1 (W0:=w2) (ls:=[(_,cur2),(_,[s.col,kEq]),(_,ws)]) (by repeat(first|with_reducible exact ST9.out|with_reducible exact ST1.out|with_reducible exact ST0.out|with_reducible apply STt.drew|(apply STt.strs (ys:=[s.col,kEq]);rfl;simp)|apply STt.alloc)) (by simp) rfl (by simp) (by simp) rfl (by have:=HWL.out;(have h2:=congrArg List.length HC2.out);simp at h2;simp;omega) ?_;intro v9 w9 hv9 hb9;have ST9:Hid (STt w2 w9 []):=hid ⟨hb9,fun p h=>by cases h⟩;have HV:=hid hv9;have HB9:=hid (HB2.out.trans (hb9.mono hzW));clear hv9 hb9)))
    all_goals
     (try dsimp only)
     go_wp2_with fail
     go_roundw
     case rel=>
      refine⟨j+1,by omega,by go_num,?_,HB9.out⟩;rw[NX.out,HTK.out,if_neg HJ0.out,HC2.out];have h:=HV.out.lower hzW;simpa using h
     case measure=>simp[intOf];omega
  ·obtain rfl:j=n:=by omega
   rw[show(l.map Jqe).take j=l.map Jqe from Jg (by rw[Ys];exact Kn HNL.out)] at HO⊢;generalize hcu:Qqw (l.map Jqe)=cur at HO⊢;have HCU:=hid hcu;clear hcu;go_wp2_with fail
   go_ret;exact⟨_,rfl,by rw[HCU.out];simpa using HO.out.rows (M:=NoM) fun _ _ _=>id,HB.out⟩
theorem Jyu:∀(l:List (List Ex)) (k:ByteArray) (r:List Ex),Qz3 k (l++[r])=Qz3 k l++((if l.length=0 then k else Qj3)::Qq7::(Qqw (Qzd r)++[Qjq]))
 |[],k,r=>rfl
 |a::l,k,r=>by
  rw[Ji,Qz3,Jyu l Qj3 r,Qz3];by_cases h:l.length=0
  ·have:l=[]:=Yd h;subst this;simp[Qz3]
  ·simp[h]
theorem Yku:∀(l:List (List Ex)) (k:ByteArray) (j:Nat),(Qz3 k (l.take j)).length≤(Qz3 k l).length
 |[],k,j=>by simp
 |a::l,k,0=>by simp[Qz3]
 |a::l,k,j+1=>by
  have h:=Yku l Qj3 j;rw[Qj,Qz3,Qz3];simp only[Zb,Zr] at h⊢;omega
def Ykv(f:FuncId)(v:Value)(ys:List ByteArray)(w:World):Prop:=∀wx,Below w.heap.size w wx→Calls prog f #[v] wx (Qkz ys wx)
theorem Uj3(t x:ByteArray)(a1 a2 a3 a4:Option Addr)(n1 c1 n2 c2 n3 c3 n4 c4:Nat)(w:World)(ss ww:List ByteArray)(hs:Ykv 48 (Qv a3 n3 c3) ss w)(hw:Ykv 49 (Qv a4 n4 c4) ww w)(h1:ss.length≤400000000)(h2:ww.length≤400000000):
 Calls prog 21 #[.agg #["2",t,Qv a1 n1 c1,Qv a2 n2 c2,Qv a3 n3 c3,Qv a4 n4 c4,x]] w (Qkz (Qvo::t::Jzr::(ss++ww)) w):=by
 have HSS:=hid hs;have HWW:=hid hw;have HLN:=hid (Ze h1 h2);clear hs hw h1 h2;go_enter func21,ntmps21;go_upto_region 16 with fail
 generalize hW:Qw w _=W;have HBW:=hid (show Below w.heap.size w W from by rw[←hW];exact(Below.refl _ _).alloc (Zz _) _);have hS:W.heap[w.heap.size]?=some (.cells #["2",t,Qv a1 n1 c1,Qv a2 n2 c2,Qv a3 n3 c3,Qv a4 n4 c4,x] 42 (0,0)):=by rw[←hW];exact Zw w _
 have hz:=HBW.out.size;have HS:=hid hS;have hzz:=(Zq.1 hS).1;clear hS hW
 have HKS:Hid (∀w' l,STt W w' l→w'.cell? ⟨w.heap.size,0,none⟩=some (.int .i64 2)∧w'.cell? ⟨w.heap.size,1,none⟩=some (.string t)∧w'.cell? ⟨w.heap.size,2,none⟩=some (Qv a1 n1 c1)∧w'.cell? ⟨w.heap.size,3,none⟩=some (Qv a2 n2 c2)∧w'.cell? ⟨w.heap.size,4,none⟩=some (Qv a3 n3 c3)∧w'.cell? ⟨w.heap.size,5,none⟩=some (Qv a4 n4 c4)∧w'.cell? ⟨w.heap.size,6,none⟩=some (.string x)):=hid fun w' l h=>by
  obtain⟨e0,e1,e2,e3,e4,e5,e6,_⟩:=Qze ((h.1.block _ hzz).trans HS.out);exact⟨e0,e1,e2,e3,e4,e5,e6⟩
 have HX1:=hid fun W' l (h:STt W W' l)=>HSS.out W' (Qqu HBW.out h.1);have HX2:=hid fun W' l (h:STt W W' l)=>HWW.out W' (Qqu HBW.out h.1);have ST0:=hid (STt.base W);have tok0:Hid True:=hid trivial;have tok1:Hid True:=hid trivial;have xx0:=HKS.out _ _ ST0.out
 go_region_held3 (fun w'=>w'.cell? ⟨w.heap.size,0,none⟩=some (.int .i64 2)∧w'.cell? ⟨w.heap.size,1,none⟩=some (.string t)∧w'.cell? ⟨w.heap.size,2,none⟩=some (Qv a1 n1 c1)∧w'.cell? ⟨w.heap.size,3,none⟩=some (Qv a2 n2 c2)∧w'.cell? ⟨w.heap.size,4,none⟩=some (Qv a3 n3 c3)∧w'.cell? ⟨w.heap.size,5,none⟩=some (Qv a4 n4 c4)∧w'.cell? ⟨w.heap.size,6,none⟩=some (.string x))
  (refine HKS.out _ _ (by repeat(first|with_reducible exact ST9.out|with_reducible exact ST2.out|with_reducible exact ST1.out|with_reducible exact ST0.out|with_reducible apply STt.drew|(apply STt.strs (ys:=[Qvo,t,Jzr]);rfl;simp)|apply STt.alloc)))
  (first
    |(go_at_call 48;have _t:=tok0;go_loud (refine Qjo (W0:=W) (by repeat(first|with_reducible exact ST9.out|with_reducible exact ST0.out|with_reducible apply STt.drew|(apply STt.strs (ys:=[Qvo,t,Jzr]);rfl;simp)|apply STt.alloc)) (fun h=>HX1.out _ _ h) ?_;intro a1 c1 w1 hst;have ST1:=hid hst;clear hst tok0 _t))
    |(go_at_call 49;have _t:=tok1;go_loud (refine Qjo (W0:=W) (by repeat(first|with_reducible exact ST9.out|with_reducible exact ST1.out|with_reducible exact ST0.out|with_reducible apply STt.drew|(apply STt.strs (ys:=[Qvo,t,Jzr]);rfl;simp)|apply STt.alloc)) (fun h=>HX2.out _ _ h) ?_;intro a2 c2 w2 hst;have ST2:=hid hst;clear hst tok1 _t))
    |(go_at_call 17;go_loud (refine Qzy (W0:=W) (ls:=[(_,[Qvo,t,Jzr]),(_,ss),(_,ww)]) (by repeat(first|with_reducible exact ST9.out|with_reducible exact ST2.out|with_reducible exact ST1.out|with_reducible exact ST0.out|with_reducible apply STt.drew|(apply STt.strs (ys:=[Qvo,t,Jzr]);rfl;simp)|apply STt.alloc)) (by simp) rfl (fun p hp=>by(simp only[Zs,Zo,Yu] at hp);rcases hp with rfl|rfl|rfl<;>simp) (by simp) rfl (by have:=HLN.out;simp;omega) ?_;intro v9 w9 hv9 hb9;have ST9:Hid (STt W w9 []):=hid ⟨hb9,fun p h=>by cases h⟩;have HV:=hid hv9;have HB9:=hid (HBW.out.trans (hb9.mono hz));clear hv9 hb9)))
 all_goals
  (try dsimp only)
  go_wp2_with fail
  go_ret;exact⟨_,rfl,by simpa using HV.out,HB9.out⟩
theorem Uj4(t x:ByteArray)(a1 a2 a3 a4:Option Addr)(n1 c1 n2 c2 n3 c3 n4 c4:Nat)(w:World)(ww:List ByteArray)(hw:Ykv 49 (Qv a4 n4 c4) ww w)(h2:ww.length≤400000000):
 Calls prog 21 #[.agg #["3",t,Qv a1 n1 c1,Qv a2 n2 c2,Qv a3 n3 c3,Qv a4 n4 c4,x]] w (Qkz (Qwb::Qzp::t::ww) w):=by
 have HWW:=hid hw;have HLN:=hid h2;clear hw h2;go_enter func21,ntmps21;go_upto_region 18 with fail
 generalize hW:Qw w _=W;have HBW:=hid (show Below w.heap.size w W from by rw[←hW];exact(Below.refl _ _).alloc (Zz _) _);have hS:W.heap[w.heap.size]?=some (.cells #["3",t,Qv a1 n1 c1,Qv a2 n2 c2,Qv a3 n3 c3,Qv a4 n4 c4,x] 42 (0,0)):=by rw[←hW];exact Zw w _
 have hz:=HBW.out.size;have HS:=hid hS;have hzz:=(Zq.1 hS).1;clear hS hW
 have HKS:Hid (∀w' l,STt W w' l→w'.cell? ⟨w.heap.size,0,none⟩=some (.int .i64 3)∧w'.cell? ⟨w.heap.size,1,none⟩=some (.string t)∧w'.cell? ⟨w.heap.size,2,none⟩=some (Qv a1 n1 c1)∧w'.cell? ⟨w.heap.size,3,none⟩=some (Qv a2 n2 c2)∧w'.cell? ⟨w.heap.size,4,none⟩=some (Qv a3 n3 c3)∧w'.cell? ⟨w.heap.size,5,none⟩=some (Qv a4 n4 c4)∧w'.cell? ⟨w.heap.size,6,none⟩=some (.string x)):=hid fun w' l h=>by
  obtain⟨e0,e1,e2,e3,e4,e5,e6,_⟩:=Qze ((h.1.block _ hzz).trans HS.out);exact⟨e0,e1,e2,e3,e4,e5,e6⟩
 have HX2:=hid fun W' l (h:STt W W' l)=>HWW.out W' (Qqu HBW.out h.1);have ST0:=hid (STt.base W);have tok0:Hid True:=hid trivial;have xx0:=HKS.out _ _ ST0.out
 go_region_held3 (fun w'=>w'.cell? ⟨w.heap.size,0,none⟩=some (.int .i64 3)∧w'.cell? ⟨w.heap.size,1,none⟩=some (.string t)∧w'.cell? ⟨w.heap.size,2,none⟩=some (Qv a1 n1 c1)∧w'.cell? ⟨w.heap.size,3,none⟩=some (Qv a2 n2 c2)∧w'.cell? ⟨w.heap.size,4,none⟩=some (Qv a3 n3 c3)∧w'.cell? ⟨w.heap.size,5,none⟩=some (Qv a4 n4 c4)∧w'.cell? ⟨w.heap.size,6,none⟩=some (.string x))
  (refine HKS.out _ _ (by repeat(first|with_reducible exact ST9.out|with_reducible exact ST1.out|with_reducible exact ST0.out|with_reducible apply STt.drew|(apply STt.strs (ys:=[Qwb,Qzp,t]);rfl;simp)|apply STt.alloc)))
  (first
    |(go_at_call 49;have _t:=tok0;go_loud (refine Qjo (W0:=W) (by repeat(first|with_reducible exact ST9.out|with_reducible exact ST0.out|with_reducible apply STt.drew|(apply STt.strs (ys:=[Qwb,Qzp,t]);rfl;simp)|apply STt.alloc)) (fun h=>HX2.out _ _ h) ?_;intro a1 c1 w1 hst;have ST1:=hid hst;clear hst tok0 _t))
    |(go_at_call 17;go_loud (refine Qzy (W0:=W) (ls:=[(_,[Qwb,Qzp,t]),(_,ww)]) (by repeat(first|with_reducible exact ST9.out|with_reducible exact ST1.out|with_reducible exact ST0.out|with_reducible apply STt.drew|(apply STt.strs (ys:=[Qwb,Qzp,t]);rfl;simp)|apply STt.alloc)) (by simp) rfl (fun p hp=>by(simp only[Zs,Zo,Yu] at hp);rcases hp with rfl|rfl<;>simp) (by simp) rfl (by have:=HLN.out;simp;omega) ?_;intro v9 w9 hv9 hb9;have ST9:Hid (STt W w9 []):=hid ⟨hb9,fun p h=>by cases h⟩;have HV:=hid hv9;have HB9:=hid (HBW.out.trans (hb9.mono hz));clear hv9 hb9)))
 all_goals
  (try dsimp only)
  go_wp2_with fail
  go_ret;exact⟨_,rfl,by simpa using HV.out,HB9.out⟩
theorem Uj5(t x:ByteArray)(a1 a2 a3 a4:Option Addr)(n1 c1 n2 c2 n3 c3 n4 c4:Nat)(w:World)(ht:x.size≤maxLen)(hL:Qzf w)(hs:10<w.heap.size):
 Calls prog 21 #[.agg #["4",t,Qv a1 n1 c1,Qv a2 n2 c2,Qv a3 n3 c3,Qv a4 n4 c4,x]] w (Qkz [Jkt,bs (Qzt ⟨3,0,x⟩)] w):=by
 have HL:=hid hL;have HT:=hid ht;clear hL ht;go_enter func21,ntmps21;go_upto_region 20 with fail
 generalize hW:Qw w _=W;have HBW:=hid (show Below w.heap.size w W from by rw[←hW];exact(Below.refl _ _).alloc (Zz _) _);have hS:W.heap[w.heap.size]?=some (.cells #["4",t,Qv a1 n1 c1,Qv a2 n2 c2,Qv a3 n3 c3,Qv a4 n4 c4,x] 42 (0,0)):=by rw[←hW];exact Zw w _
 have hz:=HBW.out.size;have HS:=hid hS;have hzz:=(Zq.1 hS).1;clear hS hW
 have HKS:Hid (∀w' l,STt W w' l→w'.cell? ⟨w.heap.size,0,none⟩=some (.int .i64 4)∧w'.cell? ⟨w.heap.size,1,none⟩=some (.string t)∧w'.cell? ⟨w.heap.size,2,none⟩=some (Qv a1 n1 c1)∧w'.cell? ⟨w.heap.size,3,none⟩=some (Qv a2 n2 c2)∧w'.cell? ⟨w.heap.size,4,none⟩=some (Qv a3 n3 c3)∧w'.cell? ⟨w.heap.size,5,none⟩=some (Qv a4 n4 c4)∧w'.cell? ⟨w.heap.size,6,none⟩=some (.string x)):=hid fun w' l h=>by
  obtain⟨e0,e1,e2,e3,e4,e5,e6,_⟩:=Qze ((h.1.block _ hzz).trans HS.out);exact⟨e0,e1,e2,e3,e4,e5,e6⟩
 obtain⟨e0,e1,e2,e3,e4,e5,e6⟩:=HKS.out _ _ (STt.base W);have HF:=hid (show ∀wx,Qzf wx→10<wx.heap.size→Calls prog 50 #[.agg #["3","0",x]] wx (Qqd (.string (txt (Qzt ⟨3,0,x⟩))) wx) from fun wx h h2=>Jkl ⟨3,0,x⟩ ⟨HT.out,by show(-9223372036854775808:Int)≤0;decide,by show(0:Int)≤9223372036854775807;decide,by show(-9223372036854775808:Int)≤3;decide,by show(3:Int)≤9223372036854775807;decide⟩ wx h h2);go_wp2_with fail
 refine(HF.out _ (HL.out.belB HBW.out hs) (Zm hs HBW.out.size)).mono ?_;rintro e w2 ⟨rfl,hb2⟩;have HB2:=hid (HBW.out.trans (hb2.mono hz));have hz2:=HB2.out.size;clear hb2;dsimp only;go_wp2_with fail
 go_ret;exact⟨_,rfl,Qxr [Jkt,bs (Qzt ⟨3,0,x⟩)] rfl rfl rfl (by simp) _,HB2.out.alloc hz2 _⟩
theorem Uj6(t x:ByteArray)(a1 a2 a3 a4:Option Addr)(n1 c1 n2 c2 n3 c3 n4 c4:Nat)(w:World)(ss:List ByteArray)(hs:Ykv 48 (Qv a3 n3 c3) ss w)(h1:ss.length≤400000000):
 Calls prog 21 #[.agg #["5",t,Qv a1 n1 c1,Qv a2 n2 c2,Qv a3 n3 c3,Qv a4 n4 c4,x]] w (Qkz (Jzr::Jyc::Qwq::ss) w):=by
 have HSS:=hid hs;have HLN:=hid h1;clear hs h1;go_enter func21,ntmps21;go_upto_region 21 with fail
 generalize hW:Qw w _=W;have HBW:=hid (show Below w.heap.size w W from by rw[←hW];exact(Below.refl _ _).alloc (Zz _) _);have hS:W.heap[w.heap.size]?=some (.cells #["5",t,Qv a1 n1 c1,Qv a2 n2 c2,Qv a3 n3 c3,Qv a4 n4 c4,x] 42 (0,0)):=by rw[←hW];exact Zw w _
 have hz:=HBW.out.size;have HS:=hid hS;have hzz:=(Zq.1 hS).1;clear hS hW
 have HKS:Hid (∀w' l,STt W w' l→w'.cell? ⟨w.heap.size,0,none⟩=some (.int .i64 5)∧w'.cell? ⟨w.heap.size,1,none⟩=some (.string t)∧w'.cell? ⟨w.heap.size,2,none⟩=some (Qv a1 n1 c1)∧w'.cell? ⟨w.heap.size,3,none⟩=some (Qv a2 n2 c2)∧w'.cell? ⟨w.heap.size,4,none⟩=some (Qv a3 n3 c3)∧w'.cell? ⟨w.heap.size,5,none⟩=some (Qv a4 n4 c4)∧w'.cell? ⟨w.heap.size,6,none⟩=some (.string x)):=hid fun w' l h=>by
  obtain⟨e0,e1,e2,e3,e4,e5,e6,_⟩:=Qze ((h.1.block _ hzz).trans HS.out);exact⟨e0,e1,e2,e3,e4,e5,e6⟩
 have HX1:=hid fun W' l (h:STt W W' l)=>HSS.out W' (Qqu HBW.out h.1);have ST1:=hid ((STt.base W).strs [Jzr,Jyc,Qwq] (arr:=#[.string ⟨#[83,69,84]⟩,.string ⟨#[78,69,87]⟩,.string ⟨#[46]⟩]) rfl (by simp) 9);obtain⟨e0,e1,e2,e3,e4,e5,e6⟩:=HKS.out _ _ ST1.out;go_wp2_with fail
 refine Qjo (W0:=W) ST1.out (fun h=>HX1.out _ _ h) ?_;intro b1 d1 w1 hst;have ST2:=hid hst;clear hst e0 e1 e2 e3 e4 e5 e6;dsimp only;go_wp2_with fail
 refine Qzy (W0:=W) (ls:=[(Qv (some ⟨W.heap.size,0,none⟩) 3 3,[Jzr,Jyc,Qwq]),(Qv b1 ss.length d1,ss)]) ST2.out (by simp) (by rfl) (by intro p hp;simpa[or_assoc,or_comm,or_left_comm] using hp) (by simp) (by rfl) (by have:=HLN.out;simp;omega) ?_;intro v9 w9 hv9 hb9;have HV:=hid hv9;have HB9:=hid (HBW.out.trans (hb9.mono hz));clear hv9 hb9;dsimp only;go_wp2_with fail
 go_ret;exact⟨_,rfl,by simpa using HV.out,HB9.out⟩
theorem Ywp(t x:ByteArray)(a1 a3 a4:Option Addr)(n1 c1 c2 n3 c3 n4 c4 qb qo:Nat)(w:World)(q0 q1 q2 q3:Value)(qw:List ByteArray)(hqb:qb<w.heap.size)(hqc:Qqr w qb qo [q0,q1,q2,q3])(hc2:(1:Int)≤(c2:Int))
 (hq:∀wx,Below w.heap.size w wx→Calls prog 20 #[.agg #[q0,q1,q2,q3]] wx (Qkz qw wx))(hl:qw.length≤900000000):
 Calls prog 21 #[.agg #["1",t,Qv a1 n1 c1,Qv (some ⟨qb,qo,none⟩) 1 c2,Qv a3 n3 c3,Qv a4 n4 c4,x]] w (Qkz (Qxh::Qyh::t::qw) w):=by
 have HQ:=hid hq;have HQC:=hid hqc;have HLN:=hid hl;clear hq hl hqc;go_enter func21,ntmps21;go_upto_region 3 with fail
 generalize hW:Qw w _=W;have HBW:=hid (show Below w.heap.size w W from by rw[←hW];exact(Below.refl _ _).alloc (Zz _) _);have hS:W.heap[w.heap.size]?=some (.cells #["1",t,Qv a1 n1 c1,Qv (some ⟨qb,qo,none⟩) 1 c2,Qv a3 n3 c3,Qv a4 n4 c4,x] 42 (0,0)):=by rw[←hW];exact Zw w _
 have hz:=HBW.out.size;have HS:=hid hS;have hzz:=(Zq.1 hS).1;clear hS hW
 have HKS:Hid (∀w' l,STt W w' l→w'.cell? ⟨w.heap.size,0,none⟩=some (.int .i64 1)∧w'.cell? ⟨w.heap.size,1,none⟩=some (.string t)∧w'.cell? ⟨w.heap.size,2,none⟩=some (Qv a1 n1 c1)∧w'.cell? ⟨w.heap.size,3,none⟩=some (Qv (some ⟨qb,qo,none⟩) 1 c2)∧w'.cell? ⟨w.heap.size,4,none⟩=some (Qv a3 n3 c3)∧w'.cell? ⟨w.heap.size,5,none⟩=some (Qv a4 n4 c4)∧w'.cell? ⟨w.heap.size,6,none⟩=some (.string x)):=hid fun w' l h=>by
  obtain⟨e0,e1,e2,e3,e4,e5,e6,_⟩:=Qze ((h.1.block _ hzz).trans HS.out);exact⟨e0,e1,e2,e3,e4,e5,e6⟩
 obtain⟨e0,e1,e2,e3,e4,e5,e6⟩:=HKS.out _ _ (STt.base W);go_upto_region 4 with fail
 have hst1:=(STt.base W).strs [Qxh,Qyh,t] (arr:=#[.string ⟨#[73,78,83,69,82,84]⟩,.string ⟨#[73,78,84,79]⟩,.string t]) rfl (by simp) 9;generalize hg:W.heap.size=g at hst1⊢;generalize hW1:Qw W _=W1 at hst1⊢;have ST1:=hid hst1;have hz1:=hst1.1.size;clear hW1 hst1 hg e0 e1 e2 e3 e4 e5 e6;obtain⟨e0,e1,e2,e3,e4,e5,e6⟩:=HKS.out _ _ ST1.out;have HX1:=hid fun W' l (h:STt W W' l)=>HQ.out W' (Qqu HBW.out h.1);obtain⟨y0,y1,y2,y3⟩:=Qqr.c4 (HQC.out.keep (M:=NoM) (.bel (Qqu HBW.out ST1.out.1)) id);have i0:(0:Int)≤0:=by omega
 go_wp2_with fail
 refine Qjo (W0:=W) ST1.out (fun h=>HX1.out _ _ h) ?_;intro b1 d1 w1 hst;have ST2:=hid hst;clear hst e0 e1 e2 e3 e4 e5 e6 y0 y1 y2 y3;dsimp only;go_wp2_with fail
 refine Qzy (W0:=W) (ls:=[(Qv (some ⟨g,0,none⟩) 3 3,[Qxh,Qyh,t]),(Qv b1 qw.length d1,qw)]) ST2.out (by simp) (by rfl) (by intro p hp;simpa[or_assoc,or_comm,or_left_comm] using hp) (by simp) (by rfl) (by have:=HLN.out;simp;omega) ?_;intro v9 w9 hv9 hb9;have HV:=hid hv9;have HB9:=hid (HBW.out.trans (hb9.mono hz));clear hv9 hb9;dsimp only;go_wp2_with fail
 go_ret;exact⟨_,rfl,by simpa using HV.out,HB9.out⟩
theorem Ywq(t x:ByteArray)(a1 a2 a3 a4:Option Addr)(c1 c2 n3 c3 n4 c4:Nat)(rows:List (List Ex))(w:World)(hr:Jqc NoM w (Qv a1 rows.length c1) rows)
 (hl:∀r∈rows,∀v,Qqq NoM w v r→Ykv 47 v (Qqw (Qzd r)) w)(hn:(Qz3 Qzr rows).length≤400000000):
 Calls prog 21 #[.agg #["1",t,Qv a1 rows.length c1,Qv a2 0 c2,Qv a3 n3 c3,Qv a4 n4 c4,x]] w (Qkz (Qxh::Qyh::t::Qz3 Qzr rows) w):=by
 have HRO:=hid hr;have HLL:=hid hl;have HNN:=hid hn;obtain⟨_,_,_,hm⟩:=Qqa.shape hr;unfold maxLen at hm;clear hr hl hn
 obtain⟨n1,hn1⟩:∃n,rows.length=n:=⟨_,rfl⟩
 have HROW:=hid fun j (hj:j<n1)=>(show ∃r v b o,rows[j]?=some r∧a1=some ⟨b,o,none⟩∧b<w.heap.size∧w.cell? ⟨b,o+j,none⟩=some v∧Ykv 47 v (Qqw (Qzd r)) w∧(∃va n c,v=Qv va n c)∧n1≤c1∧c1≤maxLen from by
  obtain⟨r,b,o,cs,h1,h2,h3,h4,⟨v,rfl,h5⟩,h6,h7,h8⟩:=Qx7 HRO.out (show j<rows.length by omega);have h6:=h6.c1;rw[Ks] at h6;obtain⟨va,vc,rfl,_⟩:=h5.shape
  exact⟨r,_,b,o,h1,h3,h4,h6,HLL.out r h2 _ h5,⟨va,_,vc,rfl⟩,by omega,h8⟩)
 rw[hn1] at hm⊢;have HNL:=hid hn1;clear hn1 HRO HLL;go_enter func21,ntmps21;go_upto_region 3 with fail
 generalize hW:Qw w _=W;have HBW:=hid (show Below w.heap.size w W from by rw[←hW];exact(Below.refl _ _).alloc (Zz _) _);have hS:W.heap[w.heap.size]?=some (.cells #["1",t,Qv a1 n1 c1,Qv a2 0 c2,Qv a3 n3 c3,Qv a4 n4 c4,x] 42 (0,0)):=by rw[←hW];exact Zw w _
 have hz:=HBW.out.size;have HS:=hid hS;have hzz:=(Zq.1 hS).1;clear hS hW
 have HKS:Hid (∀w' l,STt W w' l→w'.cell? ⟨w.heap.size,0,none⟩=some (.int .i64 1)∧w'.cell? ⟨w.heap.size,1,none⟩=some (.string t)∧w'.cell? ⟨w.heap.size,2,none⟩=some (Qv a1 n1 c1)∧w'.cell? ⟨w.heap.size,3,none⟩=some (Qv a2 0 c2)∧w'.cell? ⟨w.heap.size,4,none⟩=some (Qv a3 n3 c3)∧w'.cell? ⟨w.heap.size,5,none⟩=some (Qv a4 n4 c4)∧w'.cell? ⟨w.heap.size,6,none⟩=some (.string x)):=hid fun w' l h=>by
  obtain⟨e0,e1,e2,e3,e4,e5,e6,_⟩:=Qze ((h.1.block _ hzz).trans HS.out);exact⟨e0,e1,e2,e3,e4,e5,e6⟩
 obtain⟨e0,e1,e2,e3,e4,e5,e6⟩:=HKS.out _ _ (STt.base W);go_upto_region 4 with fail
 have hst1:=(STt.base W).strs [Qxh,Qyh,t] (arr:=#[.string ⟨#[73,78,83,69,82,84]⟩,.string ⟨#[73,78,84,79]⟩,.string t]) rfl (by simp) 9;generalize hg:W.heap.size=g at hst1⊢;generalize hW1:Qw W _=W1 at hst1⊢;have ST1:=hid hst1;have hz1:=hst1.1.size;clear hW1 hst1 hg e0 e1 e2 e3 e4 e5 e6;obtain⟨e0,e1,e2,e3,e4,e5,e6⟩:=HKS.out _ _ ST1.out;go_wp2_with fail
 go_loopw[3,29] (fun out i wr=>∃j:Nat,j≤n1∧i=.int .i64 j∧Qqa NoM wr 1 Qjz out ([Qxh,Qyh,t]++Qz3 Qzr (rows.take j))∧Below W.heap.size W wr) (fun _ i _=>n1-(intOf i).toNat)
 case atStart=>exact⟨0,Zi _,rfl,by simpa[Qz3] using ST1.out.2 _ (Zv ..),ST1.out.1⟩
 case round=>
  rename World=>wr;obtain⟨j,hj,rfl,ho,hb⟩:=hrel;obtain⟨oa,oc,rfl,_⟩:=ho.shape;have HO:=hid ho;have HB:=hid hb;have hzr:=hb.size;clear ho hb;by_cases hlt:j<n1
  ·obtain⟨r,v,b,o,hxj,rfl,hbz,hcv,hwl,⟨va,vn,vc,rfl⟩,hcap,hcm⟩:=HROW.out j hlt;unfold maxLen at hcm;have c0:=(Qqb.bel (M:=NoM) (Qqu HBW.out HB.out)).cell (o:=o+j) hbz (fun h=>h);rw[hcv] at c0
   have HTK:Hid (Qz3 Qzr (rows.take (j+1))=Qz3 Qzr (rows.take j)++((if j=0 then Qzr else Qj3)::Qq7::(Qqw (Qzd r)++[Qjq]))):=hid (by
    rw[Jh,hxj];show Qz3 Qzr (rows.take j++[r])=_
    rw[Jyu,Jm,Ka (by have:=HNL.out;omega)])
   have HCN:=hid (Ya (Yku rows Qzr (j+1)) HNN.out);generalize hnx:Qz3 Qzr (rows.take (j+1))=nx at HTK HCN;have NX:=hid hnx;have HLC:Hid ((Qz3 Qzr (rows.take j)).length+(Qqw (Qzd r)).length≤400000000):=hid (by have h:=HCN.out;rw[HTK.out] at h;simp only[Zr,Zb] at h;omega);have HWL:=hid hwl;generalize hcm2:Qqw (Qzd r)=cm at HTK HLC HWL;clear hnx hxj hcv hwl hcm2;generalize hcu:[Qxh,Qyh,t]++Qz3 Qzr (rows.take j)=cur at HO⊢;have HCU:=hid hcu;have HLC2:Hid (cur.length+cm.length≤400000003):=hid (by rw[←hcu];have:=HLC.out;simp only[Zr,Zb,Yw];omega);clear hcu HLC;have STA:=hid (show STt W wr [(Qv oa cur.length oc,cur)] from⟨HB.out,fun p hp=>by rw[Zd.1 hp];exact HO.out⟩);have HX1:=hid fun W' l (h:STt W W' l)=>HWL.out W' (Qqu HBW.out h.1);have i0:(0:Int)≤(j:Int):=by omega
   have i1:(j:Int)<(n1:Int):=by omega
   by_cases hj0:j=0
   ·subst hj0;simp only[Je] at c0;have STB:=hid (STA.out.strs [Qzr,Qq7] (arr:=#[.string ⟨#[86,65,76,85,69,83]⟩,.string ⟨#[40]⟩]) rfl (by simp) 9);go_wp2_with fail
    refine Qjo (W0:=W) STB.out (fun h=>HX1.out _ _ h) ?_;intro b1 d1 w1 hst;have ST2:=hid hst;clear hst c0 e0 e1 e2 e3 e4 e5 e6;dsimp only;have ST3:=hid (ST2.out.strs [Qjq] (arr:=#[.string ⟨#[41]⟩]) rfl (by simp) 9);go_wp2_with fail
    refine Qzy (W0:=W) (ls:=[(Qv oa cur.length oc,cur),(Qv (some ⟨wr.heap.size,0,none⟩) 2 2,[Qzr,Qq7]),(Qv b1 cm.length d1,cm),(Qv (some ⟨w1.heap.size,0,none⟩) 1 1,[Qjq])]) ST3.out (by simp) (by rfl) (fun p hp=>by(simp only[Zs,Zo,Yu] at hp);rcases hp with rfl|rfl|rfl|rfl<;>simp) (by simp) (by rfl) (by have:=HLC2.out;simp;omega) ?_;intro v9 w9 hv9 hb9;have HV:=hid hv9;have HB9:=hid hb9;clear hv9 hb9;dsimp only;go_wp2_with fail
    go_roundw
    case rel=>
     refine⟨0+1,by omega,by go_num,?_,HB9.out⟩;rw[NX.out,HTK.out];have h:=HV.out;rw[←HCU.out] at h;simpa using h
    case measure=>simp[intOf];omega
   ·have j0:¬(j:Int)=0:=by omega
    have j1:(0:Int)<(j:Int):=by omega
    have j2:0<j:=by omega
    have HJ0:=hid hj0;clear hj0;have STB:=hid (STA.out.strs [Qj3,Qq7] (arr:=#[.string ⟨#[44]⟩,.string ⟨#[40]⟩]) rfl (by simp) 9);go_wp2_with fail
    refine Qjo (W0:=W) STB.out (fun h=>HX1.out _ _ h) ?_;intro b1 d1 w1 hst;have ST2:=hid hst;clear hst c0 e0 e1 e2 e3 e4 e5 e6;dsimp only;have ST3:=hid (ST2.out.strs [Qjq] (arr:=#[.string ⟨#[41]⟩]) rfl (by simp) 9);go_wp2_with fail
    refine Qzy (W0:=W) (ls:=[(Qv oa cur.length oc,cur),(Qv (some ⟨wr.heap.size,0,none⟩) 2 2,[Qj3,Qq7]),(Qv b1 cm.length d1,cm),(Qv (some ⟨w1.heap.size,0,none⟩) 1 1,[Qjq])]) ST3.out (by simp) (by rfl) (fun p hp=>by(simp only[Zs,Zo,Yu] at hp);rcases hp with rfl|rfl|rfl|rfl<;>simp) (by simp) (by rfl) (by have:=HLC2.out;simp;omega) ?_;intro v9 w9 hv9 hb9;have HV:=hid hv9;have HB9:=hid hb9;clear hv9 hb9;dsimp only;go_wp2_with fail
    go_roundw
    case rel=>
     refine⟨j+1,by omega,by go_num,?_,HB9.out⟩;rw[NX.out,HTK.out,if_neg HJ0.out];have h:=HV.out;rw[←HCU.out] at h;simpa using h
    case measure=>simp[intOf];omega
  ·obtain rfl:j=n1:=by omega
   rw[show rows.take j=rows from Jg (Kn HNL.out)] at HO⊢;generalize hcu:[Qxh,Qyh,t]++Qz3 Qzr rows=cur at HO⊢;have HCU:=hid hcu;clear hcu;go_wp2_with fail
   go_ret;refine⟨_,rfl,?_,HBW.out.trans (HB.out.mono hz)⟩;show Qqa NoM _ 1 Qjz _ ([Qxh,Qyh,t]++Qz3 Qzr rows);rw[HCU.out];simpa using HO.out
structure Uyo(a:Qzq):Prop where
 k1:1≤a.kind
 k5:a.kind≤5
 rok:∀r∈a.rows,∀x∈r,Qxb x
 qok:∀q∈a.query,(∀x∈q.items,Qxb x)∧(∀x∈q.whr,Qxb x)∧q.whr.length≤1∧(q.star=true→q.items=[])
 sok:∀s∈a.sets,Qxb s.ex
 wok:∀x∈a.whr,Qxb x
 w1:a.whr.length≤1
 one:a.kind=1→a.query=[]∨(a.rows=[]∧∃q,a.query=[q])
 txt:a.text.size≤maxLen
 len:(Qqv a).length≤400000000
theorem Ykw:∀(l:List (List Ex)) (k:ByteArray) (r:List Ex),r∈l→(Qqw (Qzd r)).length≤(Qz3 k l).length
 |a::l,k,r,h=>by
  rw[Qz3];simp only[Zb,Zr];rcases Zs.1 h with rfl|h
  ·omega
  ·have:=Ykw l Qj3 r h;omega
theorem Jvq(a:Qzq)(cs:List Value)(w:World)(h:Qv5 NoM w a cs)(hv:Uyo a)(hL:Qzf w)(hs:10<w.heap.size)(hO:Jxj w):Calls prog 21 #[.agg cs.toArray] w (Qkz (Qqv a) w):=by
 obtain⟨vr,vq,vs,vw,rfl,hr,hq,hss,hw⟩:=h;obtain⟨g1,g5,rok,qok,sok,wok,w1,one,tok,len⟩:=hv;obtain⟨k,t,rows,query,sets,whr,x⟩:=a;dsimp only at*;obtain⟨ra,rc,rfl,_⟩:=Qqa.shape hr;obtain⟨qa,qc,rfl,_⟩:=Qqa.shape hq;obtain⟨sa,sc,rfl,_⟩:=Qqa.shape hss;obtain⟨wa,wc,rfl,_⟩:=Qqa.shape hw;simp only[Jqd];have HS:(Jqf sets).length≤400000000→Ykv 48 (Qv sa sets.length sc) (Jqf sets) w:=fun hl wx kb=>Uj2 sets sok _ wx (Qzb.keep (.bel kb) hss) (hL.belB kb hs) (Zm hs kb.size) (hO.bel kb) hl
 have HW:(Qjd (Qzd whr)).length≤400000000→Ykv 49 (Qv wa whr.length wc) (Qjd (Qzd whr)) w:=fun hl wx kb=>by
  rw[Qkc] at hl⊢;exact Jyn whr wok w1 _ wx (Qqq.keep hw (.bel kb)) (hL.belB kb hs) (Zm hs kb.size) (hO.bel kb) (by omega)
 have hk:k=1∨k=2∨k=3∨k=4∨k=5:=by omega
 rcases hk with rfl|rfl|rfl|rfl|rfl
 ·rcases one rfl with rfl|⟨rfl,q,rfl⟩
  ·have e:Qqv ⟨1,t,rows,[],sets,whr,x⟩=Qxh::Qyh::t::Qz3 Qzr rows:=by simp[Qqv]
   rw[e] at len⊢;simp only[Zb] at len;refine Ywq t x ra qa sa wa rc qc _ sc _ wc rows w hr (fun r hm v hx wx kb=>?_) (by omega);exact Yjf r (rok r hm) v wx (Qqq.keep hx (.bel kb)) (hL.belB kb hs) (Zm hs kb.size) (hO.bel kb) (by have:=Ykw rows Qzr r hm;omega)
  ·have e:Qqv ⟨1,t,[],[q],sets,whr,x⟩=Qxh::Qyh::t::Qxw q:=by simp[Qqv,Qz3]
   rw[e] at len⊢;simp only[Zb] at len;obtain⟨q1,q2,q3,q4⟩:=qok q (by simp);obtain⟨st,items,f,qw⟩:=q
   rcases Qqa.open hq with⟨_,h0⟩|⟨b,o,cap,hv,_,hbz,hcap,_,hx⟩
   ·cases h0
   simp only[Yz] at hv;obtain⟨rfl,_,rfl⟩:=hv;obtain⟨ds,hqc,_,hds⟩:=hx 0 _ rfl;obtain⟨vi,vj,rfl,hi,hj⟩:=(Qxg ..).1 hqc;simp only[Jr,Je,Qu.items,Qu.whr,Qu.frm,Qu.star] at hds hi hj q1 q2 q3 q4
   have hl2:(Jzz (.mk st items f qw)).length≤(Qxw (.mk st items f qw)).length:=by
    unfold Qxw;simp only[Zb,Zr];omega
   refine Ywp t x ra sa wa _ rc qc _ sc _ wc b o w _ _ _ _ (Qxw (.mk st items f qw)) hbz hds (by simp only[Zb,Yw] at hcap;omega) (fun wx kb=>?_) (by omega);refine Jyt st items qw f vi vj wx (Qqq.keep hi (.bel kb)) (Qqq.keep hj (.bel kb)) q3 q1 q2 ?_ ?_ (hL.belB kb hs) (Zm hs kb.size) (hO.bel kb)
   ·cases st
    ·have:(Qxw (.mk false items f qw)).length=1+((Qqw (Qzd items)).length+(Jzz (.mk false items f qw)).length):=by
      unfold Qxw;simp only[Qu.star,Qu.items,Bool.false_eq_true,if_false,Zb,Zr];omega
     omega
    ·rw[q4 rfl];show(0:Nat)≤400000000;omega
   ·have:(Jzz (.mk st items f qw)).length=2+(Qjd (Qzd qw)).length:=by
     unfold Jzz;simp only[Qu.whr,Zb];omega
    omega
 ·have e:Qqv ⟨2,t,rows,query,sets,whr,x⟩=Qvo::t::Jzr::(Jqf sets++Qjd (Qzd whr)):=by simp[Qqv]
  rw[e] at len⊢;simp only[Zb,Zr] at len;exact Uj3 t x ra qa sa wa _ rc _ qc _ sc _ wc w _ _ (HS (by omega)) (HW (by omega)) (by omega) (by omega)
 ·have e:Qqv ⟨3,t,rows,query,sets,whr,x⟩=Qwb::Qzp::t::Qjd (Qzd whr):=by simp[Qqv]
  rw[e] at len⊢;simp only[Zb] at len;exact Uj4 t x ra qa sa wa _ rc _ qc _ sc _ wc w _ (HW (by omega)) (by omega)
 ·have e:Qqv ⟨4,t,rows,query,sets,whr,x⟩=[Jkt,bs (Qzt ⟨3,0,x⟩)]:=by simp[Qqv]
  rw[e];exact Uj5 t x ra qa sa wa _ rc _ qc _ sc _ wc w tok hL hs
 ·have e:Qqv ⟨5,t,rows,query,sets,whr,x⟩=Jzr::Jyc::Qwq::Jqf sets:=by simp[Qqv]
  rw[e] at len⊢;simp only[Zb] at len;exact Uj6 t x ra qa sa wa _ rc _ qc _ sc _ wc w _ (HS (by omega)) (by omega)
end Go.Proofs.YtgepbohjmgaojaaGreatDoor
