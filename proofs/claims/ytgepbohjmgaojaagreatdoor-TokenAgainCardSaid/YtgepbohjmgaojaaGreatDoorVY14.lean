/- The reference's words of SUM, MIN and MAX. -/
import Derived.Test.YtgepbohjmgaojaaGreatDoorU21
set_option linter.all false
namespace Go.Proofs.YtgepbohjmgaojaaGreatDoor
open Value renaming slice→Qv
open Lib(hid)
open Go.RowKit
def Jyy(k:Int):ByteArray:=bs (if k=11 then[77,73,78] else[83,85,77])
set_option maxRecDepth 100000 in
set_option maxHeartbeats 80000000 in
theorem Kjo(k:Int)(hk:k=10∨k=11∨k=12)(f:ByteArray)(x:Ex)(whr:List Ex)(hx0:Qxb x)(hnx:(Qqm x).length≤200000000)(hw1:whr.length≤1)(hall:∀x∈whr,Qxb x)(hn:(Qjd (whr.map Qqm)).length≤500000000):Qxb (opX k 0 false [] [.mk false [x] f whr]):=by
 intro cs w hE hL hs hO hN;obtain⟨xva,xvs,rfl,hva,hvs⟩:=(Qji ..).1 hE;obtain⟨ea,ec,rfl,_⟩:=hva.shape
 rcases hvs.open with⟨_,h0⟩|⟨sb,so,sc,rfl,_,hsb,_,_,hx⟩
 ·cases h0
 obtain⟨qs,hq,_,hqs⟩:=hx 0 _ rfl;obtain⟨vi,vw,rfl,hi,hwh⟩:=(Qxg ..).1 hq
 rcases hi.open with⟨_,h0⟩|⟨ib,io,ic,rfl,_,hib,_,_,hxi⟩
 ·cases h0
 obtain⟨is,hec,_,his⟩:=hxi 0 _ rfl;have HEC:=hid hec;obtain⟨iva,ivs,rfl,hiva,hivs⟩:=(Qji ..).1 hec;obtain⟨xa,xac,rfl,_⟩:=hiva.shape;obtain⟨xs,xsc,rfl,_⟩:=hivs.shape;simp only[Qjg] at HEC;obtain⟨wa,wc,rfl,_⟩:=hwh.shape;have HWH:=hid (show Qqq NoM w (Qv wa whr.length wc) whr from hwh);have HQS:=hid (show Qqr w sb (so+0*4) [false,Qv (some ⟨ib,io,none⟩) 1 ic,f,Qv wa whr.length wc] from hqs);have HIS:=hid (show Qqr w ib (io+0*10) (Qjg x.kind x.op x.no x.val x.table x.name (Qv xa x.args.length xac) (Qv xs x.sub.length xsc)) from his);have HX:=hid hx0;have HNX:=hid hnx;have HALL:=hid hall;have HN:=hid hn;have HL:=hid hL;have HO:=hid hO
 obtain⟨R,HR⟩:∃R,Hid (R=Qqm (opX k 0 false [] [.mk false [x] f whr])):=⟨_,hid rfl⟩
 rw[←HR.out];simp only[Qjg,opX,Ex.kind,Ex.op,Ex.no,Ex.val,Ex.table,Ex.name,Ex.args,Ex.sub,Zb,Yw,Ye,Qvs];clear hE hva hvs hq hi hwh hqs hx hL hO hN hn hall hx0 hnx hec hiva hivs his hxi;go_enter Tryz.func45,Tryz.ntmps45
 have HRW:Hid (R=[Qq7,Qjv,Jkp k,Qq7]++(Qqm x++([Qjq]++((Qzp::f::Qjd (whr.map Qqm))++[Qjq])))):=hid (by
  rw[HR.out,Jzk (by omega)];unfold Yx6;rw[if_neg (by omega),if_neg (by omega)]
  simp)
 clear HR;have n1:¬k=1:=by omega
 have n2:¬k=2:=by omega
 have n3:¬k=3:=by omega
 have n4:¬k=4:=by omega
 have n5:¬k=5:=by omega
 have n6:¬k=6:=by omega
 have n7:¬k=7:=by omega
 have n8:¬k=8:=by omega
 have n9:¬k=9:=by omega
 go_upto_region 23 with fail
 go_cut [3,93] (fun v t W=>v=.string ⟨#[83,85,77]⟩∧t=.bool (k==11)∧W.heap[w.heap.size]?=some (.cells #[k,"0",false,"0","0",es,es,es,Qv ea 0 ec,Qv (some ⟨sb,so,none⟩) 1 sc] 80 (0,0))∧Below w.heap.size w W)
 case first=>
  go_wp2_with fail
  go_meet
  exact⟨rfl,rfl,Zw w _,(Below.refl _ _).alloc (Zz _) _⟩
 rename World=>V;obtain⟨rfl,rfl,hS,hbw⟩:=hcut;obtain⟨e0,e1,e2,e3,e4,e5,e6,e7,e8,e9,_⟩:=Qq5 hS
 go_upto_if 93 with(fail)
 go_cut [3] (fun v W=>v=.string (Jyy k)∧W=V)
 case first=>
  by_cases h11:k=11
  ·have hs:Jyy k=⟨#[77,73,78]⟩:=by unfold Jyy;rw[if_pos h11];rfl
   have hb:(k==11)=true:=by simpa using h11
   rw[hb];clear hb h11;go_wp2_with fail
   go_meet
   exact⟨by rw[hs],rfl⟩
  ·have hs:Jyy k=⟨#[83,85,77]⟩:=by unfold Jyy;rw[if_neg h11];rfl
   have hb:(k==11)=false:=by simpa using h11
   rw[hb];clear hb h11;go_wp2_with fail
   go_meet
   exact⟨by rw[hs],rfl⟩
 obtain⟨rfl,rfl⟩:=hcut;rename World=>V
 go_upto_if 96 with(fail)
 go_cut [3] (fun v W=>v=.string (Jkp k)∧W=V)
 case first=>
  by_cases h12:k=12
  ·have hs:Jkp k=⟨#[77,65,88]⟩:=by rw[h12];rfl
   have hb:(k==12)=true:=by simpa using h12
   rw[hb];clear hb h12;go_wp2_with fail
   go_meet
   exact⟨by rw[hs],rfl⟩
  ·have hs:Jkp k=Jyy k:=by unfold Jkp Jyy;rcases hk with rfl|rfl|rfl;rfl;rfl;exact absurd rfl h12
   have hb:(k==12)=false:=by simpa using h12
   rw[hb];clear hb h12;go_wp2_with fail
   go_meet
   exact⟨by rw[hs],rfl⟩
 case rest=>
  clear e0 e1 e2 e3 e4 e5 e6 e7 e8 e9;rename World=>W;obtain⟨rfl,rfl⟩:=hcut;go_upto_region 27 with fail
  have HBW:=hid hbw;have hz:=HBW.out.size;have HS:=hid hS;have hzz:=(Zq.1 hS).1;have HLW:=hid (HL.out.belB HBW.out hs);have HOW:=hid (HO.out.bel HBW.out);have HQW:=hid (HQS.out.keep (M:=NoM) (.bel HBW.out) id);have HIW:=hid (HIS.out.keep (M:=NoM) (.bel HBW.out) id);have HWW:=hid (Qqq.keep HWH.out (.bel HBW.out));have HEW:=hid (EC.keep (.bel HBW.out) x _ HEC.out);have hsW:10<W.heap.size:=by omega
  clear hS hbw
  have HKS:Hid (∀w' l,STt W w' l→w'.cell? ⟨w.heap.size,0,none⟩=some (.int .i64 k)∧w'.cell? ⟨w.heap.size,1,none⟩=some (.int .i64 0)∧w'.cell? ⟨w.heap.size,2,none⟩=some (.bool false)∧w'.cell? ⟨w.heap.size,3,none⟩=some (.int .i64 0)∧w'.cell? ⟨w.heap.size,4,none⟩=some (.int .i64 0)∧w'.cell? ⟨w.heap.size,5,none⟩=some (.string es)∧w'.cell? ⟨w.heap.size,6,none⟩=some (.string es)∧w'.cell? ⟨w.heap.size,7,none⟩=some (.string es)∧w'.cell? ⟨w.heap.size,8,none⟩=some (Qv ea 0 ec)∧w'.cell? ⟨w.heap.size,9,none⟩=some (Qv (some ⟨sb,so,none⟩) 1 sc)∧w'.cell? ⟨sb,so,none⟩=some (.bool false)∧w'.cell? ⟨sb,so+1,none⟩=some (Qv (some ⟨ib,io,none⟩) 1 ic)∧w'.cell? ⟨sb,so+2,none⟩=some (.string f)∧w'.cell? ⟨sb,so+3,none⟩=some (Qv wa whr.length wc)∧w'.cell? ⟨ib,io,none⟩=some (.int .i64 x.kind)∧w'.cell? ⟨ib,io+1,none⟩=some (.int .i64 x.op)∧w'.cell? ⟨ib,io+2,none⟩=some (.bool x.no)∧w'.cell? ⟨ib,io+3,none⟩=some (.int .i64 x.val.kind)∧w'.cell? ⟨ib,io+4,none⟩=some (.int .i64 x.val.int)∧w'.cell? ⟨ib,io+5,none⟩=some (.string x.val.text)∧w'.cell? ⟨ib,io+6,none⟩=some (.string x.table)∧w'.cell? ⟨ib,io+7,none⟩=some (.string x.name)∧w'.cell? ⟨ib,io+8,none⟩=some (Qv xa x.args.length xac)∧w'.cell? ⟨ib,io+9,none⟩=some (Qv xs x.sub.length xsc)):=hid fun w' l h=>by
   obtain⟨e0,e1,e2,e3,e4,e5,e6,e7,e8,e9,_⟩:=Qq5 ((h.1.block _ hzz).trans HS.out);obtain⟨q0,q1,q2,q3⟩:=Qqr.c4 (HQW.out.keep (M:=NoM) (.bel h.1) id);obtain⟨c0,c1,c2,c3,c4,c5,c6,c7,c8,c9⟩:=Qqr.c10 (HIW.out.keep (M:=NoM) (.bel h.1) id);simp only[Jr,Je] at q0 q1 q2 q3 c0 c1 c2 c3 c4 c5 c6 c7 c8 c9;exact⟨e0,e1,e2,e3,e4,e5,e6,e7,e8,e9,q0,q1,q2,q3,c0,c1,c2,c3,c4,c5,c6,c7,c8,c9⟩
  have HFR:=hid fun W' l (h:STt W W' l)=>Jqh false (Qv (some ⟨ib,io,none⟩) 1 ic) f (Qv wa whr.length wc) whr HALL.out hw1 W' (Qqq.keep HWW.out (.bel h.1)) (HLW.out.belB h.1 hsW) (Zm hsW h.1.size) (HOW.out.bel h.1) (by have:=HN.out;omega);have HXW:=hid fun W' l (h:STt W W' l)=>HX.out _ W' (EC.keep (.bel h.1) x _ HEW.out) (HLW.out.belB h.1 hsW) (Zm hsW h.1.size) (HOW.out.bel h.1) (by have:=HNX.out;omega);generalize hwx:Qqm x=wx at HXW HRW HNX;generalize hwh:Qjd (whr.map Qqm)=wh at HFR HRW HN;generalize hff:Qzp::f::wh=ff at HFR HRW;have HFF:Hid (ff.length≤500000002):=hid (by have:=HN.out;rw[←hff];simp;omega);clear hwh hwx hff HX HALL;have ST0:=hid (STt.base W);have tok0:Hid True:=hid trivial;have tok1:Hid True:=hid trivial;have x0:=HKS.out _ _ ST0.out
  go_region_held3 (fun w'=>w'.cell? ⟨w.heap.size,0,none⟩=some (.int .i64 k)∧w'.cell? ⟨w.heap.size,1,none⟩=some (.int .i64 0)∧w'.cell? ⟨w.heap.size,2,none⟩=some (.bool false)∧w'.cell? ⟨w.heap.size,3,none⟩=some (.int .i64 0)∧w'.cell? ⟨w.heap.size,4,none⟩=some (.int .i64 0)∧w'.cell? ⟨w.heap.size,5,none⟩=some (.string es)∧w'.cell? ⟨w.heap.size,6,none⟩=some (.string es)∧w'.cell? ⟨w.heap.size,7,none⟩=some (.string es)∧w'.cell? ⟨w.heap.size,8,none⟩=some (Qv ea 0 ec)∧w'.cell? ⟨w.heap.size,9,none⟩=some (Qv (some ⟨sb,so,none⟩) 1 sc)∧w'.cell? ⟨sb,so,none⟩=some (.bool false)∧w'.cell? ⟨sb,so+1,none⟩=some (Qv (some ⟨ib,io,none⟩) 1 ic)∧w'.cell? ⟨sb,so+2,none⟩=some (.string f)∧w'.cell? ⟨sb,so+3,none⟩=some (Qv wa whr.length wc)∧w'.cell? ⟨ib,io,none⟩=some (.int .i64 x.kind)∧w'.cell? ⟨ib,io+1,none⟩=some (.int .i64 x.op)∧w'.cell? ⟨ib,io+2,none⟩=some (.bool x.no)∧w'.cell? ⟨ib,io+3,none⟩=some (.int .i64 x.val.kind)∧w'.cell? ⟨ib,io+4,none⟩=some (.int .i64 x.val.int)∧w'.cell? ⟨ib,io+5,none⟩=some (.string x.val.text)∧w'.cell? ⟨ib,io+6,none⟩=some (.string x.table)∧w'.cell? ⟨ib,io+7,none⟩=some (.string x.name)∧w'.cell? ⟨ib,io+8,none⟩=some (Qv xa x.args.length xac)∧w'.cell? ⟨ib,io+9,none⟩=some (Qv xs x.sub.length xsc))
   (refine HKS.out _ _ (by repeat(first|with_reducible exact ST9.out|with_reducible exact ST2.out|with_reducible exact ST1.out|with_reducible exact ST0.out|with_reducible apply STt.drew|(apply STt.strs (ys:=[Qq7,Qjv,Jkp k,Qq7]);rfl;simp)|(apply STt.strs (ys:=[Qjq]);rfl;simp)|apply STt.alloc)))
   (first
     |(go_at_call 45;have _t:=tok0;go_loud (refine Qjo (W0:=W) (by repeat(first|with_reducible exact ST9.out|with_reducible exact ST0.out|with_reducible apply STt.drew|(apply STt.strs (ys:=[Qq7,Qjv,Jkp k,Qq7]);rfl;simp)|(apply STt.strs (ys:=[Qjq]);rfl;simp)|apply STt.alloc)) (fun h=>HXW.out _ _ h) ?_;intro a1 c1 w1 hst;have ST1:=hid hst;clear hst tok0 _t))
     |(go_at_call 46;have _t:=tok1;go_loud (refine Qjo (W0:=W) (by repeat(first|with_reducible exact ST9.out|with_reducible exact ST1.out|with_reducible exact ST0.out|with_reducible apply STt.drew|(apply STt.strs (ys:=[Qq7,Qjv,Jkp k,Qq7]);rfl;simp)|(apply STt.strs (ys:=[Qjq]);rfl;simp)|apply STt.alloc)) (fun h=>HFR.out _ _ h) ?_;intro a2 c2 w2 hst;have ST2:=hid hst;clear hst tok1 _t))
     |(go_at_call 17;go_loud (refine Qzy (W0:=W) (ls:=[(_,[Qq7,Qjv,Jkp k,Qq7]),(_,wx),(_,[Qjq]),(_,ff),(_,[Qjq])]) (by repeat(first|with_reducible exact ST9.out|with_reducible exact ST2.out|with_reducible exact ST1.out|with_reducible exact ST0.out|with_reducible apply STt.drew|(apply STt.strs (ys:=[Qq7,Qjv,Jkp k,Qq7]);rfl;simp)|(apply STt.strs (ys:=[Qjq]);rfl;simp)|apply STt.alloc)) (by simp) rfl (by simp) (by simp) rfl (by have:=HNX.out;have:=HFF.out;simp;omega) ?_;intro v9 w9 hv9 hb9;have ST9:Hid (STt W w9 []):=hid ⟨hb9,fun p h=>by cases h⟩;have HV:=hid hv9;have HB9:=hid (HBW.out.trans (hb9.mono hz));clear hv9 hb9)))
  all_goals
   (try dsimp only)
   go_wp2_with fail
   go_ret;exact⟨_,rfl,by rw[HRW.out];simpa using HV.out,HB9.out⟩
end Go.Proofs.YtgepbohjmgaojaaGreatDoor
