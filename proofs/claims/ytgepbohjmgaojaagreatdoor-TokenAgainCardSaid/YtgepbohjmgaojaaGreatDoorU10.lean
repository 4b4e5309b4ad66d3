/- Conditions from the tape: the contract of condition, over a contract of Expr. BETWEEN of a column and two numbers. -/
import Derived.Test.YtgepbohjmgaojaaGreatDoorU09
set_option linter.all false
set_option maxHeartbeats 8000000
set_option maxRecDepth 100000
namespace Go.Proofs.YtgepbohjmgaojaaGreatDoor
open Value renaming slice→Qv
open Go.Proofs.Tryz
open Lib(hid)
open Go.RowKit
theorem Uka{M:Nat→Prop}{w:World}{e:Ex}{cs:List Value}(h:EC M w e cs):ExV M w e (.agg cs.toArray):=by
 obtain⟨va,vs,rfl,h1,h2⟩:=(Qji ..).1 h;obtain⟨a,ac,rfl,_⟩:=h1.shape;obtain⟨s,sc,rfl,_⟩:=h2.shape;exact⟨a,ac,s,sc,rfl,h1,h2⟩
def Kq5(lo:Nat)(e0:Ex)(w:World)(e:Ending)(w':World):Prop:=∃v,e=.returned v∧ExV (Old lo) w' e0 v∧Below w.heap.size w w'
theorem Qvm{lo:Nat}{va vb:Value}{w:World}{a b:Ex}(o:Int)(ha:ExV (Old lo) w a va)(hb:ExV (Old lo) w b vb)(hlo:lo≤w.heap.size):Calls prog 102 #[o,va,vb] w (Kq5 lo (Qqc o a b) w):=by
 obtain⟨ca,rfl,hca⟩:=ha.ec;obtain⟨cb,rfl,hcb⟩:=hb.ec;refine(Yw5 (M:=Old lo) o a b ca cb w hca hcb (fun k hk h=>by unfold Old at h;omega)).mono ?_;rintro e w' ⟨cs,rfl,hx,hbel⟩;exact⟨_,rfl,Uka hx,hbel⟩
theorem Jzl{M:Nat→Prop}{w:World}{a:Ex}{a1 s1:Option Addr}{ac1 sc1:Nat}(h:ExV M w a (.agg #[a.kind,a.op,a.no,a.val.kind,a.val.int,a.val.text,a.table,a.name,Qv a1 a.args.length ac1,Qv s1 a.sub.length sc1])):EC M w a [a.kind,a.op,a.no,a.val.kind,a.val.int,a.val.text,a.table,a.name,Qv a1 a.args.length ac1,Qv s1 a.sub.length sc1]:=by
 obtain⟨cs,hcs,hec⟩:=h.ec;simp only[Value.agg.injEq] at hcs;obtain rfl:cs=[.int .i64 a.kind,.int .i64 a.op,.bool a.no,.int .i64 a.val.kind,.int .i64 a.val.int,.string a.val.text,.string a.table,.string a.name,Qv a1 a.args.length ac1,Qv s1 a.sub.length sc1]:=by simpa using(congrArg Array.toList hcs).symm
 exact hec
theorem Yzj{T lo:Nat}{vf vt:Value}{w wk W1:World}{k o:Int}{no:Bool}{a:Ex}{a1 s1:Option Addr}{ac1 sc1:Nat}{P:Ex→Prop}(hT:T<w.heap.size)(L:Loc T vf vt w wk)(hx:ExV (Old lo) wk a (.agg #[a.kind,a.op,a.no,a.val.kind,a.val.int,a.val.text,a.table,a.name,Qv a1 a.args.length ac1,Qv s1 a.sub.length sc1]))(hlo:w.heap.size+1+1≤lo)
 (hP:P (opX k o no [a] []))(ks:Qqb (At (w.heap.size+1)) wk W1)(hs:W1.heap.size=wk.heap.size):
 Qjp T w (ExQ P w) (.returned (.agg #[k,o,no,"0","0","","","",Qv (some ⟨wk.heap.size,0,none⟩) 1 1,()])) (W1.alloc (.cells #[a.kind,a.op,a.no,a.val.kind,a.val.int,a.val.text,a.table,a.name,Qv a1 a.args.length ac1,Qv s1 a.sub.length sc1] 80)):=by
 refine Yjp (e:=opX k o no [a] []) hT L ks ⟨some ⟨wk.heap.size,0,none⟩,1,none,0,rfl,?_,Qqa.nil ..⟩ hP;have hz:w.heap.size+1<wk.heap.size:=L.res.2.2.2.2.2.2.2.2.2.2.2;rw[←hs];exact Qq6 (size:=10) (R:=EC _ _) a rfl (Qz7 (by omega)) rfl (Jzl (Jvv hx hlo ks))
theorem Jw6{α:Type}{M:Nat→Prop}{w:World}{arr:Array Value}{e:TypeId}{size g:Nat}{R:α→List Value→Prop}(x y z:α)(cx cy cz:List Value)(hg:g=w.heap.size)(hT:¬M w.heap.size)(ha:arr.toList=cx++cy++cz)(hx:cx.length=size)(hy:cy.length=size)(hz:cz.length=size)(h1:R x cx)(h2:R y cy)(h3:R z cz):
 Qqa M (w.alloc (.cells arr e)) size R (Qv (some ⟨g,0,none⟩) 3 3) [x,y,z]:=
 Qqa.new [cx,cy,cz] hg hT (by simpa using ha) (by simp[hx,hy,hz]) rfl (Zz _) (by unfold maxLen;omega) rfl fun i u cs hi hc=>by
  match i with
  |0=>simp at hi hc;subst hi;subst hc;exact h1
  |1=>simp at hi hc;subst hi;subst hc;exact h2
  |2=>simp at hi hc;subst hi;subst hc;exact h3
  |i+3=>simp at hi
theorem Uw8{T lo:Nat}{vf vt:Value}{w wk W1:World}{k o:Int}{no:Bool}{a b c:Ex}{a1 s1 a2 s2 a3 s3:Option Addr}{ac1 sc1 ac2 sc2 ac3 sc3:Nat}{P:Ex→Prop}(hT:T<w.heap.size)(L:Loc T vf vt w wk)
 (hx:ExV (Old lo) wk a (.agg #[a.kind,a.op,a.no,a.val.kind,a.val.int,a.val.text,a.table,a.name,Qv a1 a.args.length ac1,Qv s1 a.sub.length sc1]))(hy:ExV (Old lo) wk b (.agg #[b.kind,b.op,b.no,b.val.kind,b.val.int,b.val.text,b.table,b.name,Qv a2 b.args.length ac2,Qv s2 b.sub.length sc2]))(hz:ExV (Old lo) wk c (.agg #[c.kind,c.op,c.no,c.val.kind,c.val.int,c.val.text,c.table,c.name,Qv a3 c.args.length ac3,Qv s3 c.sub.length sc3]))(hlo:w.heap.size+1+1≤lo)
 (hP:P (opX k o no [a,b,c] []))(ks:Qqb (At (w.heap.size+1)) wk W1)(hs:W1.heap.size=wk.heap.size):
 Qjp T w (ExQ P w) (.returned (.agg #[k,o,no,"0","0","","","",Qv (some ⟨wk.heap.size,0,none⟩) 3 3,()])) (W1.alloc (.cells #[a.kind,a.op,a.no,a.val.kind,a.val.int,a.val.text,a.table,a.name,Qv a1 a.args.length ac1,Qv s1 a.sub.length sc1,b.kind,b.op,b.no,b.val.kind,b.val.int,b.val.text,b.table,b.name,Qv a2 b.args.length ac2,Qv s2 b.sub.length sc2,c.kind,c.op,c.no,c.val.kind,c.val.int,c.val.text,c.table,c.name,Qv a3 c.args.length ac3,Qv s3 c.sub.length sc3] 80)):=by
 refine Yjp (e:=opX k o no [a,b,c] []) hT L ks ⟨some ⟨wk.heap.size,0,none⟩,3,none,0,rfl,?_,Qqa.nil ..⟩ hP;have hz':w.heap.size+1<wk.heap.size:=L.res.2.2.2.2.2.2.2.2.2.2.2;rw[←hs];exact Jw6 (size:=10) (R:=EC _ _) a b c [a.kind,a.op,a.no,a.val.kind,a.val.int,a.val.text,a.table,a.name,Qv a1 a.args.length ac1,Qv s1 a.sub.length sc1] [b.kind,b.op,b.no,b.val.kind,b.val.int,b.val.text,b.table,b.name,Qv a2 b.args.length ac2,Qv s2 b.sub.length sc2] [c.kind,c.op,c.no,c.val.kind,c.val.int,c.val.text,c.table,c.name,Qv a3 c.args.length ac3,Qv s3 c.sub.length sc3] rfl (Qz7 (by omega)) rfl rfl rfl rfl (Jzl (Jvv hx hlo ks)) (Jzl (Jvv hy hlo ks)) (Jzl (Jvv hz hlo ks))
theorem Qww{T lo:Nat}{v:Value}{wi wj:World}{e:Ex}(hT:T<lo)(h:ExV (Old lo) wi e v)(hk:Qqb (At T) wi wj):ExV (Old lo) wj e v:=h.keep (hk.weak fun k _ h=>by unfold At at h;unfold Old;omega)
theorem Qz6{lo lo':Nat}{v:Value}{w:World}{e:Ex}(h:ExV (Old lo) w e v)(hl:lo'≤lo):ExV (Old lo') w e v:=h.weak fun k _ h=>by unfold Old at h⊢;omega
theorem Jw7{n T:Nat}{w W:World}{fa ta:Option Addr}{fc tc:Nat}{look:List UInt8→List Col}{fs:List Frm}{ss:List Sch}(hE:Qwn n)(hw:Qjh T w)(hf:Qqz (At T) w (Qv fa fs.length fc) fs)(hs:Qjt (At T) w (Qv ta ss.length tc) ss)
 (hP:Qzm look fs ss (n+1))(q:Loc T (Qv fa fs.length fc) (Qv ta ss.length tc) w W)(dp want:Int)(h1:dp≤n)(h2:-10≤dp)(h3:1≤want)(h4:want≤3):
 Calls prog 93 #[.pointer (some ⟨T,0,none⟩),.agg #[Qv fa fs.length fc,Qv ta ss.length tc],want,dp] W (Qjp T W (ExQ (Mk ss fs want n) W)):=
 hE T dp want fa ta fc tc look fs ss W h1 h2 h3 h4 q.tape (hw.at q.kept) (hf.keep q.kept) (hs.keep q.kept) (hP.mono (Nat.le_succ n))
theorem Jzw{n:Nat}{ss:List Sch}{fs:List Frm}{want:Int}{k o:Int}{no:Bool}{args:List Ex}(hd:∀x∈args,dep x≤n∧GX n x)(h:∀ts,(∀s∈ss,Jvy ts s.name=some s)→Qxv ts fs want (opX k o no args []))(hsh:Qzg k o no args.length:=by first|(simp[Qzg];done)|(simp[Qzg];omega)):Mk ss fs want (n+1) (opX k o no args []):=by
 refine⟨⟨?_,.ops n k o no args hsh fun x hx=>(hd x hx).2⟩,h⟩
 have hl:∀l:List Ex,(∀x∈l,dep x≤n)→Qvr l≤n:=by
  intro l
  induction l with
  |nil=>intro _;simp[Qvr]
  |cons x l ih=>
   intro h;rw[Qvr];have:=h x (by simp);have:=ih fun y hy=>h y (by simp[hy]);omega
 have a:=hl args fun x hx=>(hd x hx).1;simp only[opX,dep,Yvr];omega
theorem Jw8(n:Nat)(hE:Qwn n)(T:Nat)(depth:Int)(fa ta:Option Addr)(fc tc:Nat)(look:List UInt8→List Col)(fs:List Frm)(ss:List Sch)(w:World)(hd:depth≤(n:Int)+1)(hd0:-5≤depth)(hn:n≤50)(ht:Qql T w)(hw:Qjh T w)
 (hf:Qqz (At T) w (Qv fa fs.length fc) fs)(hs:Qjt (At T) w (Qv ta ss.length tc) ss)(hP:Qzm look fs ss (n+1)):
 Calls prog 124 #[.pointer (some ⟨T,0,none⟩),.agg #[Qv fa fs.length fc,Qv ta ss.length tc],depth] w (Qjp T w (ExQ (Mk ss fs 2 (n+1)) w)):=by
 have hTw:=ht.lt;have HEX:=hid (fun(W:World) (q:Loc T (Qv fa fs.length fc) (Qv ta ss.length tc) w W)=>Jw7 hE hw hf hs hP q);have HKS:=hid (fun(w':World) (h:Loc T (Qv fa fs.length fc) (Qv ta ss.length tc) w w')=>(show w'.cell? ⟨w.heap.size,0,none⟩=some (Qv fa fs.length fc)∧w'.cell? ⟨w.heap.size,1,none⟩=some (Qv ta ss.length tc) from⟨h.place.1,h.place.2.1⟩));have HKR:=hid (fun(wi w':World) (h:Loc T (Qv fa fs.length fc) (Qv ta ss.length tc) w wi) (ks:Qqb (At (w.heap.size+1)) wi w')=>(show w'.cell? ⟨w.heap.size,0,none⟩=some (Qv fa fs.length fc)∧w'.cell? ⟨w.heap.size,1,none⟩=some (Qv ta ss.length tc) from⟨(ks.cell h.place.2.2 (by unfold At;omega)).trans h.place.1,(ks.cell h.place.2.2 (by unfold At;omega)).trans h.place.2.1⟩));have HKA:=hid (fun(wi w1:World) (h:Loc T (Qv fa fs.length fc) (Qv ta ss.length tc) w wi) (ks:Qqb (At (w.heap.size+1)) wi w1) (o:Obj)=>HKR.out wi (w1.alloc o) h (ks.alloc o));have HT:=hid ht;clear hE ht hw hf hs hP;have tok1:Hid True:=trivial;have tok2:Hid True:=trivial;have tok3:Hid True:=trivial;have tok4:Hid True:=trivial;have ed:IntKind.i64.wrap (depth-1)=depth-1:=Zp _ (by omega);have ED:=hid ed;clear ed;go_enter func124,ntmps124;go_wp2_with fail
 generalize hW:((w.alloc _).alloc _)=W0;obtain⟨s0,s1,hb0,hz0,hr0⟩:=Qw4 hW;have hp0:W0.heap[w.heap.size]?=some (.cells #[Qv fa fs.length fc,Qv ta ss.length tc] 122 (0,0)):=by rw[←hW];exact((Qqb.refl (fun _=>False) (w.alloc _)).alloc _).block _ (by simp) id |>.trans (Zw w _)
 clear hW
 have hL0:Loc T (Qv fa fs.length fc) (Qv ta ss.length tc) w W0:=⟨HT.out.bel hb0,.bel hb0,hp0,hr0⟩
 have L0:=hid hL0;clear hb0 hz0 hr0 hp0 hL0 s0 s1
 go_wp2_with(first
  |(go_at_call 12;have _t:=tok1;go_loud (refine(Qqk T 3 _ (by omega) (by omega) L0.out.tape).mono ?_;rintro e w1 ⟨v,rfl,⟨q,rfl,hq0,hq1⟩,ht,hk⟩;have L1:=hid (L0.out.step hTw ht hk);clear ht hk tok1))
  |(go_at_call 12;have _t:=tok2;go_loud (refine(Qqk T 6 _ (by omega) (by omega) L1.out.tape).mono ?_;rintro e w2 ⟨v,rfl,⟨r,rfl,hr0,hr1⟩,ht,hk⟩;have L2:=hid (L1.out.step hTw ht hk);obtain⟨p0,p1,pz⟩:=L2.out.place;clear ht hk tok2)))
 ·refine(HEX.out _ L2.out (depth-1) 2 (by omega) (by omega) (by omega) (by omega)).mono ?_;rintro e w3 ⟨v,rfl,⟨x,hx,hmk⟩,ht,hk⟩;have hx0:=hx;obtain⟨a1,ac1,s1,sc1,rfl,_,_⟩:=hx0;have L3:=hid (L2.out.step hTw ht hk);have HX:=hid hx;have HM:=hid hmk;clear hx hmk ht hk;dsimp only;obtain⟨r0,r1,r2,r3,r4,r5,r6,r7,r8,r9,rf,rz⟩:=L3.out.res
  repeat(first|go_values|go_skip|go_guarded|go_step|go_upon)
  refine Zh (v:=.agg #["3","0",false,"0","0","","","",Qv (some ⟨w3.heap.size,0,none⟩) 1 1,()]) (by simp[results,results124,go_sem,r0,r1,r2,r3,r4,r5,r6,r7,r8,r9,rz]) rfl ?_;have FIN:=Yzj (k:=3) (o:=0) (no:=false) (P:=Mk ss fs 2 (n+1)) hTw L3.out HX.out (by have:=L2.out.res.2.2.2.2.2.2.2.2.2.2.2;omega) (Jzw (fun y hy=>by obtain rfl:=Zd.1 hy;exact HM.out.1) fun ts hts=>Uxr (HM.out.2 ts hts)) (Qqh _ _ (.int .i64 3) (.int .i64 0) false (.int .i64 0) (.int .i64 0) "" "" "" (Qv (some ⟨w3.heap.size,0,none⟩) 1 1) ()) (by simp);exact FIN
 ·have ed:=ED.out
  go_region_held3 (fun w'=>w'.cell? ⟨w.heap.size,0,none⟩=some (Qv fa fs.length fc)∧w'.cell? ⟨w.heap.size,1,none⟩=some (Qv ta ss.length tc))
   (first|(with_reducible refine HKS.out _ ?_;first|with_reducible exact L6.out|with_reducible exact L5.out|with_reducible exact L4.out|with_reducible exact L3.out|with_reducible exact L2.out.drew|with_reducible exact L6.out.alloc hTw _)|(with_reducible refine HKA.out _ _ L6.out ?_ _;with_reducible exact Qqh _ _ _ _ _ _ _ _ _ _ _ _)|(with_reducible refine HKR.out _ _ L6.out ?_;with_reducible exact Qqh _ _ _ _ _ _ _ _ _ _ _ _))
   (first
     |(go_at_call 12;go_loud (refine(Qqk T 2 _ (by omega) (by omega) (L2.out.drew).tape).mono ?_;rintro e w3 ⟨v,rfl,⟨o,rfl,ho0,ho1⟩,ht,hk⟩;have eo:IntKind.i64.wrap (1+o)=1+o:=Zp _ (by omega);have L3:=hid ((L2.out.drew).step hTw ht hk);clear ht hk))
     |(go_at_call 93;have _t:=tok3;go_loud (refine(HEX.out _ L3.out (depth-1) 2 (by omega) (by omega) (by omega) (by omega)).mono ?_;rintro e w4 ⟨v,rfl,⟨x,hx,hmk⟩,ht,hk⟩;have hx0:=hx;obtain⟨a1,ac1,s1,sc1,rfl,_,_⟩:=hx0;have L4:=hid ((L3.out).step hTw ht hk);have zw4:=(L3.out).place.2.2;have HX1:=hid hx;have HM1:=hid hmk;have HK1:=hid hk;clear hx hmk ht hk tok3))
     |(go_at_call 93;have _t:=tok4;go_loud (refine(HEX.out _ L4.out (depth-1) 2 (by omega) (by omega) (by omega) (by omega)).mono ?_;rintro e w5 ⟨v,rfl,⟨y,hx,hmk⟩,ht,hk⟩;have hx0:=hx;obtain⟨a2,ac2,s2,sc2,rfl,_,_⟩:=hx0;have L5:=hid ((L4.out).step hTw ht hk);have zw5:=(L4.out).place.2.2;have HX2:=hid hx;have HM2:=hid hmk;have HK2:=hid hk;clear hx hmk ht hk tok4))
     |(go_at_call 102;go_loud (refine(Qvm (lo:=w.heap.size+1+1) (1+o) (Qz6 (Qww (by omega) HX1.out HK2.out) (by have:=L3.out.res.2.2.2.2.2.2.2.2.2.2.2;omega)) (Qz6 HX2.out (by have:=L4.out.res.2.2.2.2.2.2.2.2.2.2.2;omega)) (by have:=L5.out.res.2.2.2.2.2.2.2.2.2.2.2;omega)).mono ?_;rintro e w6 ⟨v,rfl,hv,hb⟩;have hv0:=hv;obtain⟨a9,ac9,s9,sc9,rfl,_,_⟩:=hv0;have L6:=hid (L5.out.bel hTw hb);have HV:=hid hv;obtain⟨r0,r1,r2,r3,r4,r5,r6,r7,r8,r9,rf,rz⟩:=L6.out.res;clear hv hb)))
  clear ed
  repeat(first|go_values|go_skip|go_guarded|go_step|go_upon)
  refine Zh (v:=.agg #[.int .i64 (Qqc (1+o) x y).kind,.int .i64 (Qqc (1+o) x y).op,.bool (Qqc (1+o) x y).no,.int .i64 (Qqc (1+o) x y).val.kind,.int .i64 (Qqc (1+o) x y).val.int,.string (Qqc (1+o) x y).val.text,.string (Qqc (1+o) x y).table,.string (Qqc (1+o) x y).name,.slice a9 (Qqc (1+o) x y).args.length ac9,.slice s9 (Qqc (1+o) x y).sub.length sc9]) (by simp[results,results124,go_sem,r0,r1,r2,r3,r4,r5,r6,r7,r8,r9]) rfl ?_;have FIN:=Qzv (P:=Mk ss fs 2 (n+1)) hTw L6.out HV.out (by omega) (Qqh _ _ (.int .i64 (Qqc (1+o) x y).kind) (.int .i64 (Qqc (1+o) x y).op) (.bool (Qqc (1+o) x y).no) (.int .i64 (Qqc (1+o) x y).val.kind) (.int .i64 (Qqc (1+o) x y).val.int) (.string (Qqc (1+o) x y).val.text) (.string (Qqc (1+o) x y).table) (.string (Qqc (1+o) x y).name) (.slice a9 (Qqc (1+o) x y).args.length ac9) (.slice s9 (Qqc (1+o) x y).sub.length sc9)) (Jzw (k:=5) (o:=(1+o)) (no:=false) (args:=[x,y]) (fun z hz=>by simp at hz;rcases hz with rfl|rfl;exact HM1.out.1;exact HM2.out.1) fun ts hts=>Yvt _ (by omega) (by omega) (HM1.out.2 ts hts) (HM2.out.2 ts hts));exact FIN
 ·have ed:=ED.out
  go_region_held3 (fun w'=>w'.cell? ⟨w.heap.size,0,none⟩=some (Qv fa fs.length fc)∧w'.cell? ⟨w.heap.size,1,none⟩=some (Qv ta ss.length tc))
   (first|(with_reducible refine HKS.out _ ?_;first|with_reducible exact L4.out|with_reducible exact L3.out|with_reducible exact L2.out.drew|with_reducible exact L4.out.alloc hTw _)|(with_reducible refine HKA.out _ _ L4.out ?_ _;with_reducible exact Qqh _ _ _ _ _ _ _ _ _ _ _ _)|(with_reducible refine HKR.out _ _ L4.out ?_;with_reducible exact Qqh _ _ _ _ _ _ _ _ _ _ _ _))
   (first
     |(go_at_call 56;go_loud (refine(Qq2 T 2 _ (by omega) (by omega) (L2.out.drew).tape).mono ?_;rintro e w3 ⟨v,rfl,⟨b,rfl⟩,ht,hk⟩;have L3:=hid ((L2.out.drew).step hTw ht hk);clear ht hk))
     |(go_at_call 93;go_loud (refine(HEX.out _ L3.out (depth-1) (1+q) (by omega) (by omega) (by omega) (by omega)).mono ?_;rintro e w4 ⟨v,rfl,⟨x,hx,hmk⟩,ht,hk⟩;have hx0:=hx;obtain⟨a1,ac1,s1,sc1,rfl,_,_⟩:=hx0;have L4:=hid ((L3.out).step hTw ht hk);have zw4:=(L3.out).place.2.2;have HX1:=hid hx;have HM1:=hid hmk;have HK1:=hid hk;obtain⟨r0,r1,r2,r3,r4,r5,r6,r7,r8,r9,rf,rz⟩:=L4.out.res;clear hx hmk ht hk)))
  clear ed
  repeat(first|go_values|go_skip|go_guarded|go_step|go_upon)
  refine Zh (v:=.agg #["6","0",b,"0","0","","","",Qv (some ⟨w4.heap.size,0,none⟩) 1 1,()]) (by simp[results,results124,go_sem,r0,r1,r2,r3,r4,r5,r6,r7,r8,r9,rz]) rfl ?_;have FIN:=Yzj (k:=6) (o:=0) (no:=b) (P:=Mk ss fs 2 (n+1)) hTw L4.out HX1.out (by have:=L3.out.res.2.2.2.2.2.2.2.2.2.2.2;omega) (Jzw (fun y hy=>by obtain rfl:=Zd.1 hy;exact HM1.out.1) fun ts hts=>Yxw b (HM1.out.2 ts hts)) (Qqh _ _ (.int .i64 6) (.int .i64 0) b (.int .i64 0) (.int .i64 0) "" "" "" (Qv (some ⟨w4.heap.size,0,none⟩) 1 1) ()) (by simp);exact FIN
 ·have ed:=ED.out
  go_region_held3 (fun w'=>w'.cell? ⟨w.heap.size,0,none⟩=some (Qv fa fs.length fc)∧w'.cell? ⟨w.heap.size,1,none⟩=some (Qv ta ss.length tc))
   (first|(with_reducible refine HKS.out _ ?_;first|with_reducible exact L5.out|with_reducible exact L4.out|with_reducible exact L3.out|with_reducible exact L2.out.drew|with_reducible exact L5.out.alloc hTw _)|(with_reducible refine HKA.out _ _ L5.out ?_ _;with_reducible exact Qqh _ _ _ _ _ _ _ _ _ _ _ _)|(with_reducible refine HKR.out _ _ L5.out ?_;with_reducible exact Qqh _ _ _ _ _ _ _ _ _ _ _ _))
   (first
     |(go_at_call 93;have _t:=tok3;go_loud (refine(HEX.out _ L2.out.drew (depth-1) 1 (by omega) (by omega) (by omega) (by omega)).mono ?_;rintro e w3 ⟨v,rfl,⟨x,hx,hmk⟩,ht,hk⟩;have hx0:=hx;obtain⟨a1,ac1,s1,sc1,rfl,_,_⟩:=hx0;have L3:=hid ((L2.out.drew).step hTw ht hk);have zw3:=(L2.out.drew).place.2.2;have HX1:=hid hx;have HM1:=hid hmk;have HK1:=hid hk;clear hx hmk ht hk tok3))
     |(go_at_call 93;have _t:=tok4;go_loud (refine(HEX.out _ L3.out (depth-1) 1 (by omega) (by omega) (by omega) (by omega)).mono ?_;rintro e w4 ⟨v,rfl,⟨y,hx,hmk⟩,ht,hk⟩;have hx0:=hx;obtain⟨a2,ac2,s2,sc2,rfl,_,_⟩:=hx0;have L4:=hid ((L3.out).step hTw ht hk);have zw4:=(L3.out).place.2.2;have HX2:=hid hx;have HM2:=hid hmk;have HK2:=hid hk;clear hx hmk ht hk tok4))
     |(go_at_call 93;go_loud (refine(HEX.out _ L4.out (depth-1) 1 (by omega) (by omega) (by omega) (by omega)).mono ?_;rintro e w5 ⟨v,rfl,⟨z,hx,hmk⟩,ht,hk⟩;have hx0:=hx;obtain⟨a3,ac3,s3,sc3,rfl,_,_⟩:=hx0;have L5:=hid ((L4.out).step hTw ht hk);have zw5:=(L4.out).place.2.2;have HX3:=hid hx;have HM3:=hid hmk;have HK3:=hid hk;obtain⟨r0,r1,r2,r3,r4,r5,r6,r7,r8,r9,rf,rz⟩:=L5.out.res;clear hx hmk ht hk)))
  clear ed
  repeat(first|go_values|go_skip|go_guarded|go_step|go_upon)
  refine Zh (v:=.agg #["7","0",false,"0","0","","","",Qv (some ⟨w5.heap.size,0,none⟩) 3 3,()]) (by simp[results,results124,go_sem,r0,r1,r2,r3,r4,r5,r6,r7,r8,r9,rz]) rfl ?_
  have FIN:=Uw8 (lo:=w.heap.size+1+1) (k:=7) (o:=0) (no:=false) (P:=Mk ss fs 2 (n+1)) hTw L5.out (Qz6 (lo:=w2.heap.size) (Qww (by omega) (Qww (by omega) HX1.out HK2.out) HK3.out) (by have:=L2.out.res.2.2.2.2.2.2.2.2.2.2.2;omega)) (Qz6 (Qww (by omega) HX2.out HK3.out) (by have:=L2.out.res.2.2.2.2.2.2.2.2.2.2.2;have:=L3.out.res.2.2.2.2.2.2.2.2.2.2.2;omega)) (Qz6 HX3.out (by have:=L4.out.res.2.2.2.2.2.2.2.2.2.2.2;omega)) (Zz _)
   (Jzw (fun u hu=>by simp at hu;rcases hu with rfl|rfl|rfl;exact HM1.out.1;exact HM2.out.1;exact HM3.out.1) fun ts hts=>Yj6 (HM1.out.2 ts hts) (HM2.out.2 ts hts) (HM3.out.2 ts hts)) (Qqh _ _ (.int .i64 7) (.int .i64 0) false (.int .i64 0) (.int .i64 0) "" "" "" (Qv (some ⟨w5.heap.size,0,none⟩) 3 3) ()) (by simp)
  exact FIN
 ·have ed:=ED.out
  go_region_held3 (fun w'=>w'.cell? ⟨w.heap.size,0,none⟩=some (Qv fa fs.length fc)∧w'.cell? ⟨w.heap.size,1,none⟩=some (Qv ta ss.length tc))
   (first|(with_reducible refine HKS.out _ ?_;first|with_reducible exact L6.out|with_reducible exact L5.out|with_reducible exact L4.out|with_reducible exact L3.out|with_reducible exact L2.out.drew|with_reducible exact L6.out.alloc hTw _)|(with_reducible refine HKA.out _ _ L6.out ?_ _;with_reducible exact Qqh _ _ _ _ _ _ _ _ _ _ _ _)|(with_reducible refine HKR.out _ _ L6.out ?_;with_reducible exact Qqh _ _ _ _ _ _ _ _ _ _ _ _))
   (first
     |(go_at_call 12;go_loud (refine(Qqk T 6 _ (by omega) (by omega) (L2.out.drew).tape).mono ?_;rintro e w3 ⟨v,rfl,⟨o,rfl,ho0,ho1⟩,ht,hk⟩;have eo:IntKind.i64.wrap (3+o)=3+o:=Zp _ (by omega);have L3:=hid ((L2.out.drew).step hTw ht hk);clear ht hk))
     |(go_at_call 93;have _t:=tok3;go_loud (refine(HEX.out _ L3.out (depth-1) (1+q) (by omega) (by omega) (by omega) (by omega)).mono ?_;rintro e w4 ⟨v,rfl,⟨x,hx,hmk⟩,ht,hk⟩;have hx0:=hx;obtain⟨a1,ac1,s1,sc1,rfl,_,_⟩:=hx0;have L4:=hid ((L3.out).step hTw ht hk);have zw4:=(L3.out).place.2.2;have HX1:=hid hx;have HM1:=hid hmk;have HK1:=hid hk;clear hx hmk ht hk tok3))
     |(go_at_call 93;have _t:=tok4;go_loud (refine(HEX.out _ L4.out (depth-1) (1+q) (by omega) (by omega) (by omega) (by omega)).mono ?_;rintro e w5 ⟨v,rfl,⟨y,hx,hmk⟩,ht,hk⟩;have hx0:=hx;obtain⟨a2,ac2,s2,sc2,rfl,_,_⟩:=hx0;have L5:=hid ((L4.out).step hTw ht hk);have zw5:=(L4.out).place.2.2;have HX2:=hid hx;have HM2:=hid hmk;have HK2:=hid hk;clear hx hmk ht hk tok4))
     |(go_at_call 102;go_loud (refine(Qvm (lo:=w.heap.size+1+1) (3+o) (Qz6 (Qww (by omega) HX1.out HK2.out) (by have:=L3.out.res.2.2.2.2.2.2.2.2.2.2.2;omega)) (Qz6 HX2.out (by have:=L4.out.res.2.2.2.2.2.2.2.2.2.2.2;omega)) (by have:=L5.out.res.2.2.2.2.2.2.2.2.2.2.2;omega)).mono ?_;rintro e w6 ⟨v,rfl,hv,hb⟩;have hv0:=hv;obtain⟨a9,ac9,s9,sc9,rfl,_,_⟩:=hv0;have L6:=hid (L5.out.bel hTw hb);have HV:=hid hv;obtain⟨r0,r1,r2,r3,r4,r5,r6,r7,r8,r9,rf,rz⟩:=L6.out.res;clear hv hb)))
  clear ed
  repeat(first|go_values|go_skip|go_guarded|go_step|go_upon)
  refine Zh (v:=.agg #[.int .i64 (Qqc (3+o) x y).kind,.int .i64 (Qqc (3+o) x y).op,.bool (Qqc (3+o) x y).no,.int .i64 (Qqc (3+o) x y).val.kind,.int .i64 (Qqc (3+o) x y).val.int,.string (Qqc (3+o) x y).val.text,.string (Qqc (3+o) x y).table,.string (Qqc (3+o) x y).name,.slice a9 (Qqc (3+o) x y).args.length ac9,.slice s9 (Qqc (3+o) x y).sub.length sc9]) (by simp[results,results124,go_sem,r0,r1,r2,r3,r4,r5,r6,r7,r8,r9]) rfl ?_;have FIN:=Qzv (P:=Mk ss fs 2 (n+1)) hTw L6.out HV.out (by omega) (Qqh _ _ (.int .i64 (Qqc (3+o) x y).kind) (.int .i64 (Qqc (3+o) x y).op) (.bool (Qqc (3+o) x y).no) (.int .i64 (Qqc (3+o) x y).val.kind) (.int .i64 (Qqc (3+o) x y).val.int) (.string (Qqc (3+o) x y).val.text) (.string (Qqc (3+o) x y).table) (.string (Qqc (3+o) x y).name) (.slice a9 (Qqc (3+o) x y).args.length ac9) (.slice s9 (Qqc (3+o) x y).sub.length sc9)) (Jzw (k:=5) (o:=(3+o)) (no:=false) (args:=[x,y]) (fun z hz=>by simp at hz;rcases hz with rfl|rfl;exact HM1.out.1;exact HM2.out.1) fun ts hts=>Yj5 _ (by omega) (by omega) (HM1.out.2 ts hts) (HM2.out.2 ts hts));exact FIN
def Uw9(c:ByteArray)(lo hi:Int)(w:World)(e:Ending)(w':World):Prop:=∃v,e=.returned v∧ExV (Old w.heap.size) w' (opX 7 0 false [Qqp es c,Qqi lo,Qqi hi] []) v∧Below w.heap.size w w'
theorem Jju(c:ByteArray)(lo hi:Int)(h1:-1000≤lo)(h2:-1000≤hi)(w:World):Calls prog 126 #[c,lo,hi] w (Uw9 c lo hi w):=by
 go_enter func126,ntmps126;go_wp2_with fail
 generalize hW:World.alloc w _=W0;have hr0:W0.heap[w.heap.size]?=some (.cells #["0","0",false,"0","0","","","",(),()] 80 (0,0)):=by rw[←hW];exact Zw w _
 have hb0:Below w.heap.size w W0:=by rw[←hW];exact(Below.refl _ _).alloc (Zz _) _
 have hz0:=(Zq.1 hr0).1;clear hW;refine(Qkl _ _ _).mono ?_;rintro e w1 ⟨rfl,hb⟩;have HB1:=hid (hb0.trans (hb.mono (Jt hz0)));have HR1:=hid ((hb.block _ hz0).trans hr0);have hz1:w.heap.size<w1.heap.size:=Zm hz0 hb.size;clear hb hb0 hr0;dsimp only;go_wp2_with fail
 refine(Qkh lo h1 _).mono ?_;rintro e w2 ⟨v,rfl,hv,hb⟩;have hv0:=hv;obtain⟨a2,ac2,s2,sc2,rfl,_,_⟩:=hv0;have HV2:=hid hv;have HB2:=hid (HB1.out.trans (hb.mono (Jt hz1)));have HR2:=hid ((hb.block _ hz1).trans HR1.out);have hz2:=hb.size;clear hv hb;dsimp only;go_wp2_with fail
 refine(Qkh hi h2 _).mono ?_;rintro e w3 ⟨v,rfl,hv,hb⟩;have hv0:=hv;obtain⟨a3,ac3,s3,sc3,rfl,_,_⟩:=hv0;have HV3:=hid hv;have HV23:=hid (HV2.out.keep (.bel hb));have HB3:=hid (HB2.out.trans (hb.mono (by omega)));have HR3:=hid ((hb.block _ (by omega)).trans HR2.out);have hz3:=hb.size;clear hv hb;obtain⟨r0,r1,r2,r3,r4,r5,r6,r7,r8,r9,rf,rz⟩:=Qq5 HR3.out;dsimp only
 repeat(first|go_values|go_skip|go_guarded|go_step|go_upon)
 refine Zh (v:=.agg #["7","0",false,"0","0","","","",Qv (some ⟨w3.heap.size,0,none⟩) 3 3,()]) (by simp[results,results126,go_sem,r0,r1,r2,r3,r4,r5,r6,r7,r8,r9,rz]) rfl ?_;have ks:=Qqh w.heap.size w3 (.int .i64 7) (.int .i64 0) false (.int .i64 0) (.int .i64 0) "" "" "" (Qv (some ⟨w3.heap.size,0,none⟩) 3 3) ();generalize hW1:World.setCell _ _ _=W1 at ks⊢;have hs1:W1.heap.size=w3.heap.size:=by rw[←hW1];simp
 clear hW1;refine⟨_,rfl,⟨some ⟨w3.heap.size,0,none⟩,3,none,0,rfl,?_,Qqa.nil ..⟩,(HB3.out.trans (ks.toBelow (Jt rz) fun k hk h=>by unfold At at h;omega)).alloc (by omega) _⟩
 have kw:∀{e:Ex} {v:Value} {lo':Nat},w.heap.size+1≤lo'→ExV (Old lo') w3 e v→ExV (Old w.heap.size) (W1.alloc (.cells #["2","0",false,"0","0","","",c,(),(),.int .i64 (Qqi lo).kind,.int .i64 (Qqi lo).op,.bool (Qqi lo).no,.int .i64 (Qqi lo).val.kind,.int .i64 (Qqi lo).val.int,.string (Qqi lo).val.text,.string (Qqi lo).table,.string (Qqi lo).name,.slice a2 (Qqi lo).args.length ac2,.slice s2 (Qqi lo).sub.length sc2,.int .i64 (Qqi hi).kind,.int .i64 (Qqi hi).op,.bool (Qqi hi).no,.int .i64 (Qqi hi).val.kind,.int .i64 (Qqi hi).val.int,.string (Qqi hi).val.text,.string (Qqi hi).table,.string (Qqi hi).name,.slice a3 (Qqi hi).args.length ac3,.slice s3 (Qqi hi).sub.length sc3] 80)) e v:=fun hl h=>
  ((h.keep (ks.weak fun k _ h=>by unfold At at h;unfold Old;omega)).keep ((Qqb.refl _ W1).alloc _)).weak fun k _ h=>by unfold Old at h⊢;omega
 rw[←hs1];exact Jw6 (size:=10) (R:=EC _ _) (Qqp es c) (Qqi lo) (Qqi hi) ["2","0",false,"0","0","","",c,(),()] [.int .i64 (Qqi lo).kind,.int .i64 (Qqi lo).op,.bool (Qqi lo).no,.int .i64 (Qqi lo).val.kind,.int .i64 (Qqi lo).val.int,.string (Qqi lo).val.text,.string (Qqi lo).table,.string (Qqi lo).name,.slice a2 (Qqi lo).args.length ac2,.slice s2 (Qqi lo).sub.length sc2] [.int .i64 (Qqi hi).kind,.int .i64 (Qqi hi).op,.bool (Qqi hi).no,.int .i64 (Qqi hi).val.kind,.int .i64 (Qqi hi).val.int,.string (Qqi hi).val.text,.string (Qqi hi).table,.string (Qqi hi).name,.slice a3 (Qqi hi).args.length ac3,.slice s3 (Qqi hi).sub.length sc3] rfl (Qz7 (by omega)) rfl rfl rfl rfl (Jjs (e:=Qqp es c) (kw (lo':=w.heap.size+1) (Zz _) ⟨none,0,none,0,rfl,Qqa.nil ..,Qqa.nil ..⟩)) (Jjs (kw (by omega) HV23.out)) (Jjs (kw (by omega) HV3.out))
theorem Ywa(w:World):Calls prog 90 #[.string ⟨#[108,111,103]⟩] w (Jvx Qvg w):=by
 go_enter func90,ntmps90;go_wp2_with fail
 refine(Qyp _).mono ?_;rintro e w1 ⟨v,rfl,hs,hb⟩;obtain⟨b,o,cap,vc0,vc1,vc2,rfl,hbs,hc0,hc1,hc2,a0,a1,a2,a3,a4,a5⟩:=Jz5 hs;obtain⟨x0,y0,rfl,_⟩:=hc0.shape;obtain⟨x1,y1,rfl,_⟩:=hc1.shape;obtain⟨x2,y2,rfl,_⟩:=hc2.shape;obtain⟨k1,k2,k3⟩:=Jq2 hb;simp only[Zn] at k1 k2 k3;have k4:w.heap.size<w1.heap.size:=by omega
 have HB:=hid hb;have H0:=hid hc0;clear hs hb hc0 hc1 hc2;go_wp2_with fail
 go_rounds 3
 refine Zh (v:=.agg #[.string ⟨#[108,111,103]⟩,Qv x0 Qvg.cols.length y0]) (by simp[results,results90,go_sem,k1,k4]) rfl ⟨_,rfl,?_,?_⟩
 ·refine Qq1.weak (M:=Out (w.heap.size+1) w1.heap.size) ?_ (Qq1.keep (w:=w1) (by simpa using H0.out) ?_)
  ·intro k hk h;unfold Out at h⊢;simp at h hk;omega
  ·refine Qqb.alloc (Qqb.setCell (Qqb.setCell (Qqb.refl _ _) ?_ _) ?_ _) _<;>(intro _;unfold Out;simp)
 ·have:=HB.out;have h0:Below w.heap.size w w1:=((Below.refl _ w).alloc (Zz _) _).trans (this.mono (by simp));clear k1 k2
  go_grown
theorem Qyd(s:Sch)(hs:s∈Qq3)(w:World):Calls prog 90 #[s.name] w (Jvx s w):=by
 simp only[Qq3,Zs,Zo,Yu] at hs;rcases hs with rfl|rfl|rfl
 ·exact Ywa w
 ·exact Uz4 w
 ·exact Uz5 w
def Yq3(i:Nat):Sch:=if i=0 then Jzo else if i=1 then Jzp else Qvg
theorem Ujj(i:Nat):Yq3 i∈Qq3:=by
 unfold Yq3
 split
 ·simp[Qq3]
 ·split<;>simp[Qq3]
theorem Ukb(W:World)(t:TypeId)(i:Nat)(h:i<3):(W.alloc (.cells #[.string ⟨#[116]⟩,.string ⟨#[117]⟩,.string ⟨#[108,111,103]⟩] t)).cell? ⟨W.heap.size,i,none⟩=some (.string (Yq3 i).name):=by
 have h':i=0∨i=1∨i=2:=by omega
 rcases h' with rfl|rfl|rfl<;>simp[Yq3]<;>rfl
def Kzh(v:Value)(_:World):Prop:=∃s,s∈Qq3∧v=.string s.name
theorem Jkr(T:Nat)(w:World)(ht:Qql T w):Calls prog 89 #[.pointer (some ⟨T,0,none⟩)] w (Qjp T w Kzh):=by
 have hTw:=ht.lt;have HT:=hid ht;clear ht;go_enter func89,ntmps89;go_wp2_with fail
 refine(Qqk T 3 _ (by omega) (by omega) (HT.out.alloc _)).mono ?_;rintro e w1 ⟨v,rfl,⟨r,rfl,hr0,hr1⟩,ht,hk⟩;obtain⟨j,rfl⟩:=Zt hr0;have hj:j<3:=by omega
 have hfc:w1.cell? ⟨w.heap.size,j,none⟩=some (.string (Yq3 j).name):=(hk.cell (by simp) (fun h=>by unfold At at h;omega)).trans (Ukb w _ j hj);have HK:=hid (((Qqb.refl (At T) w).alloc _).trans hk);have HT1:=hid ht;clear ht hk;dsimp only;go_wp2_with fail
 go_ret;exact⟨_,rfl,⟨Yq3 j,Ujj j,rfl⟩,HT1.out,HK.out⟩
theorem Ukc(n1 n2 n3 s:ByteArray)(o1 o2 o3 o4 o5 o6:Option Addr)(l1 l2 l3 l4 l5 l6 c1 c2 c3 c4 c5 c6:Nat)(vc:Value)(cols:List Col)(w:World)(hc:Qq1 NoM w vc cols)(hN:cols.length≤1000):
 Calls prog 121 #[.agg #[n1,n2,false,"1",Qv o1 l1 c1,false,Qv o2 l2 c2,Qv o3 l3 c3,Qv o4 l4 c4,Qv o5 l5 c5,Qv o6 l6 c6],.agg #[s,vc],.agg #[n3,(),(),()]] w (Qy8 [⟨Qvj,cols.map Qjy⟩] w):=by
 obtain⟨ca,cc,rfl,hm⟩:=hc.shape;have HC:=hid fun(w':World) (h:Below w.heap.size w w')=>hc.keep (.bel h);clear hc;go_enter func121,ntmps121;go_wp2_with fail
 refine Ky 1 ?_;rw[Kp]
 go_wp2_with(go_at_call 146;go_loud (refine(Qvi _ _ _ cols _ (HC.out _ (by go_grown)) hN).mono ?_;rintro e w1 ⟨v1,rfl,h1,hb⟩;obtain⟨b1,d1,hv1,_⟩:=h1.shape;rw[show(Sch.cols ⟨_,cols.map Qjy⟩).length=cols.length from Ys ..] at hv1;subst hv1;have hb':Below w.heap.size w w1:=Below.trans (by go_grown) (hb.mono (by simp<;>omega));have HB:=hid hb';have H1:=hid (h1.weak (M':=Out w.heap.size w1.heap.size) fun k hk h=>by unfold Out at h⊢;simp<;>omega);clear h1 hb hb'))
 go_ret;exact⟨_,rfl,Yyf (s:=⟨Qvj,cols.map Qjy⟩) H1.out HB.out,HB.out.alloc HB.out.size _⟩
theorem Ukd(n1 n2 n3 s:ByteArray)(o1 o2 o3 o4 o5 o6:Option Addr)(l1 l2 l3 l4 l5 l6 c1 c2 c3 c4 c5 c6:Nat)(vc:Value)(cols:List Col)(w:World)(hc:Qq1 NoM w vc cols)(hN:cols.length≤1000):
 Calls prog 121 #[.agg #[n1,n2,false,"3",Qv o1 l1 c1,false,Qv o2 l2 c2,Qv o3 l3 c3,Qv o4 l4 c4,Qv o5 l5 c5,Qv o6 l6 c6],.agg #[s,vc],.agg #[n3,(),(),()]] w (Qy8 [⟨Qvk,cols.map Qjy⟩] w):=by
 obtain⟨ca,cc,rfl,hm⟩:=hc.shape;have HC:=hid fun(w':World) (h:Below w.heap.size w w')=>hc.keep (.bel h);clear hc;go_enter func121,ntmps121;go_wp2_with fail
 refine Ky 1 ?_;rw[Kp]
 go_wp2_with(go_at_call 146;go_loud (refine(Qvi _ _ _ cols _ (HC.out _ (by go_grown)) hN).mono ?_;rintro e w1 ⟨v1,rfl,h1,hb⟩;obtain⟨b1,d1,hv1,_⟩:=h1.shape;rw[show(Sch.cols ⟨_,cols.map Qjy⟩).length=cols.length from Ys ..] at hv1;subst hv1;have hb':Below w.heap.size w w1:=Below.trans (by go_grown) (hb.mono (by simp<;>omega));have HB:=hid hb';have H1:=hid (h1.weak (M':=Out w.heap.size w1.heap.size) fun k hk h=>by unfold Out at h⊢;simp<;>omega);clear h1 hb hb'))
 go_ret;exact⟨_,rfl,Yyf (s:=⟨Qvk,cols.map Qjy⟩) H1.out HB.out,HB.out.alloc HB.out.size _⟩
theorem Uke(n1 n2 n3 s:ByteArray)(o1 o2 o3 o4 o5 o6:Option Addr)(l1 l2 l3 l4 l5 l6 c1 c2 c3 c4 c5 c6:Nat)(vc:Value)(cols:List Col)(w:World)(hc:Qq1 NoM w vc cols)(hN:cols.length≤1000):
 Calls prog 121 #[.agg #[n1,n2,false,"2",Qv o1 l1 c1,false,Qv o2 l2 c2,Qv o3 l3 c3,Qv o4 l4 c4,Qv o5 l5 c5,Qv o6 l6 c6],.agg #[s,vc],.agg #[n3,(),(),()]] w (Qy8 [⟨Qvk,cols.map Qjy⟩,⟨Qvj,cols.map Qjy⟩] w):=by
 obtain⟨ca,cc,rfl,hm⟩:=hc.shape;have HC:=hid fun(w':World) (h:Below w.heap.size w w')=>hc.keep (.bel h);have tok1:Hid True:=trivial;clear hc;go_enter func121,ntmps121;go_wp2_with fail
 go_rounds 1
 go_wp2_with fail
 go_region_held3 (fun w'=>w'.cell? ⟨w.heap.size+1,0,none⟩=some (.string s)∧w'.cell? ⟨w.heap.size+1,1,none⟩=some (Qv ca cols.length cc))
  (first|(go_split_ands;first|with_reducible exact⟨p2,q2⟩|with_reducible exact⟨p1,q1⟩)|go_keep)
  (first
    |(go_at_call 146;have _t:=tok1;refine(Qvi _ _ _ cols _ (HC.out _ (by exact Qjn (by go_grown))) hN).mono ?_;rintro e w1 ⟨v1,rfl,h1,hb⟩;obtain⟨b1,d1,hv1,_⟩:=h1.shape;rw[show(Sch.cols ⟨_,cols.map Qjy⟩).length=cols.length from Ys ..] at hv1;subst hv1;have hb':Below w.heap.size w w1:=Below.trans (Qjn (by go_grown)) (hb.mono (by simp;omega));have p1:w1.cell? ⟨w.heap.size+1,0,none⟩=some (.string s):=(hb.cell (by simp)).trans (Qjk Jxx).1;have q1:w1.cell? ⟨w.heap.size+1,1,none⟩=some (Qv ca cols.length cc):=(hb.cell (by simp)).trans (Qjk Jxx).2.1;have z1:=hb.size;simp at z1;have HB:=hid hb';have H1:=hid (h1.weak (M':=Out w.heap.size w1.heap.size) fun k hk h=>by unfold Out at h⊢;simp;omega);clear h1 hb hb' tok1)
    |(go_at_call 146;refine(Qvi _ _ _ cols _ (HC.out _ HB.out) hN).mono ?_;rintro e w2 ⟨v2,rfl,h2,hb⟩;obtain⟨b2,d2,hv2,_⟩:=h2.shape;rw[show(Sch.cols ⟨_,cols.map Qjy⟩).length=cols.length from Ys ..] at hv2;subst hv2;have hb':Below w.heap.size w w2:=Below.trans HB.out (hb.mono HB.out.size);have p2:w2.cell? ⟨w.heap.size+1,0,none⟩=some (.string s):=(hb.cell (by simp;omega)).trans p1;have q2:w2.cell? ⟨w.heap.size+1,1,none⟩=some (Qv ca cols.length cc):=(hb.cell (by simp;omega)).trans q1;have z2:=hb.size;have HB2:=hid hb';have H2:=hid (h2.weak (M':=Out w.heap.size w2.heap.size) fun k hk h=>by unfold Out at h⊢;omega);have H3:=hid ((H1.out.keep (.bel hb)).weak (M':=Out w.heap.size w2.heap.size) fun k hk h=>by unfold Out at h⊢;omega);clear h2 hb hb'))
 go_wp2_with fail
 go_ret;exact⟨_,rfl,Uwl (s1:=⟨Qvk,cols.map Qjy⟩) (s2:=⟨Qvj,cols.map Qjy⟩) H3.out H2.out HB2.out,HB2.out.alloc HB2.out.size _⟩
theorem Ywb(r:Int)(h0:0≤r)(h1:r<3)(n1 n2 n3 s:ByteArray)(o1 o2 o3 o4 o5 o6:Option Addr)(l1 l2 l3 l4 l5 l6 c1 c2 c3 c4 c5 c6:Nat)(vc:Value)(cols:List Col)(w:World)(hc:Qq1 NoM w vc cols)(hN:cols.length≤1000):
 Calls prog 121 #[.agg #[n1,n2,false,.int .i64 (1+r),Qv o1 l1 c1,false,Qv o2 l2 c2,Qv o3 l3 c3,Qv o4 l4 c4,Qv o5 l5 c5,Qv o6 l6 c6],.agg #[s,vc],.agg #[n3,(),(),()]] w (Qy8 (Jws r cols) w):=by
 have h:r=0∨r=1∨r=2:=by omega
 rcases h with rfl|rfl|rfl
 ·exact Ukc _ _ _ _ _ _ _ _ _ _ _ _ _ _ _ _ _ _ _ _ _ _ _ _ _ hc hN
 ·exact Uke _ _ _ _ _ _ _ _ _ _ _ _ _ _ _ _ _ _ _ _ _ _ _ _ _ hc hN
 ·exact Ukd _ _ _ _ _ _ _ _ _ _ _ _ _ _ _ _ _ _ _ _ _ _ _ _ _ hc hN
theorem Ujk(bf each:Bool)(hb:bf=true∨each=true)(ev:Int)(n1 n2 n3 s:ByteArray)(o1 o2 o3 o4 o5 o6:Option Addr)(l1 l2 l3 l4 l5 l6 c1 c2 c3 c4 c5 c6:Nat)(a:Option Addr)(n c:Nat)(w:World):
 Calls prog 121 #[.agg #[n1,n2,bf,ev,Qv o1 l1 c1,each,Qv o2 l2 c2,Qv o3 l3 c3,Qv o4 l4 c4,Qv o5 l5 c5,Qv o6 l6 c6],.agg #[s,Qv a n c],.agg #[n3,(),(),()]] w (Qy8 [] w):=by
 cases bf
 ·obtain rfl:each=true:=by simpa using hb
  go_enter func121,ntmps121;go_wp2_with fail
  go_ret;exact⟨_,rfl,Qqa.nil ..,by go_grown⟩
 ·go_enter func121,ntmps121;go_wp2_with fail
  go_ret;exact⟨_,rfl,Qqa.nil ..,by go_grown⟩
theorem Ujl(n1 n2:ByteArray)(bf:Bool)(ev:Int)(o1 o2 o3 o4 o5 o6:Option Addr)(l1 l2 l3 l4 l5 l6 c1 c2 c3 c4 c5 c6:Nat)(s:ByteArray)(a:Option Addr)(n c:Nat)(w:World):
 Calls prog 120 #[.agg #[n1,n2,bf,ev,Qv o1 l1 c1,false,Qv o2 l2 c2,Qv o3 l3 c3,Qv o4 l4 c4,Qv o5 l5 c5,Qv o6 l6 c6],.agg #[s,Qv a n c],(),()] w (Qv2 [] w):=by
 go_enter func120,ntmps120;go_wp2_with fail
 go_ret;exact⟨_,rfl,Qqn.nil ..,by go_grown⟩
theorem Ujm{α:Type}{w:World}{arr:Array Value}{e:TypeId}{g n size lo:Nat}{R:α→List Value→Prop}{xs:List α}(css:List (List Value))(hg:g=w.heap.size)(ha:arr.toList=css.flatten)(hs:∀cs∈css,cs.length=size)(hn:n=css.length)(hm:n≤1000)(hl:css.length=xs.length)(hlo:lo≤w.heap.size)
 (hR:∀(i:Nat) (x:α) (cs:List Value),xs[i]?=some x→css[i]?=some cs→R x cs):Qqf lo (w.alloc (.cells arr e)) e size R (Qv (some ⟨g,0,none⟩) n n) xs:=by
 subst hn hg;have hf:=Qxl size css hs;refine⟨css,⟨hf,.inr ⟨w.heap.size,css.length,arr,by simp,hlo,Zw w _,by simp,by unfold maxLen;omega,?_,?_⟩⟩,hl,hs,hR⟩
 ·have ha':arr.size=css.flatten.length:=by rw[←ha];simp
  rw[ha',hf]
 ·rw[ha,←hf,Jo]
theorem Uya:(prog.info? 29).map (fun i=>(i.zero,i.size,i.bytes))=some (some (.agg #["",()]),2,40):=by kernel_rfl
theorem Ujn:Qx8 Jje where
 keep h k:=h.keep k
 weak h hM:=h.weak hM
 one h u hu:=by
  obtain⟨vc,rfl,hc⟩:=h;obtain⟨a',c',rfl,_⟩:=hc.shape;simp at hu;rcases hu with rfl|rfl<;>rfl
def Uyb(w:World)(e:Ending)(w':World):Prop:=∃b,e=.returned (Qv (some ⟨b,0,none⟩) 3 3)∧Qqn w.heap.size w' 29 2 Jje (Qv (some ⟨b,0,none⟩) 3 3) Qq3∧Below w.heap.size w w'
theorem Yki(w:World):Calls prog 97 #[] w (Uyb w):=by
 go_enter func97,ntmps97
 go_wp2
 go_ret;refine⟨w.heap.size+1+1+1,by simp,?_,by go_grown⟩
 have hM:∀j,j<3→¬Qjl w.heap.size (Qv (some ⟨w.heap.size+1+1+1,0,none⟩) 3 3) (w.heap.size+j):=fun j hj h=>by
  rcases h with h|h
  ·omega
  ·simp[Qq4,Value.ownBlock] at h;omega
 unfold Qqn;generalize Qjl w.heap.size (Qv (some ⟨w.heap.size+1+1+1,0,none⟩) 3 3)=M at hM⊢
 refine Ujm [[Qvg.name,Qv (some ⟨w.heap.size,0,none⟩) 2 2],[Jzo.name,Qv (some ⟨w.heap.size+1,0,none⟩) 4 4],[Jzp.name,Qv (some ⟨w.heap.size+1+1,0,none⟩) 3 3]]
  (by simp) rfl (by simp) rfl (by decide) rfl (by simp;omega) ?_
 intro i x cs hi hc;have hi3:i<3:=(Yq.1 hi).1
 match i,hi3 with
 |0,_=>
  obtain rfl:Qvg=x:=by simpa[Qq3] using hi
  obtain rfl:[_,_]=cs:=by simpa using hc
  refine⟨_,rfl,Qq1.keep ?_ ((((Qqb.refl M (w.alloc (.cells _ _))).alloc _).alloc _).alloc _)⟩;exact Qy4 Qvg.cols rfl (hM 0 (by omega)) rfl rfl (by decide) (by unfold maxLen;omega)
 |1,_=>
  obtain rfl:Jzo=x:=by simpa[Qq3] using hi
  obtain rfl:[_,_]=cs:=by simpa using hc
  refine⟨_,rfl,Qq1.keep ?_ (((Qqb.refl M ((w.alloc (.cells _ _)).alloc (.cells _ _))).alloc _).alloc _)⟩;exact Qy4 Jzo.cols (by simp) (by simpa using hM 1 (by omega)) rfl rfl (by decide) (by unfold maxLen;omega)
 |2,_=>
  obtain rfl:Jzp=x:=by simpa[Qq3] using hi
  obtain rfl:[_,_]=cs:=by simpa using hc
  refine⟨_,rfl,Qq1.keep ?_ ((Qqb.refl M (((w.alloc (.cells _ _)).alloc (.cells _ _)).alloc (.cells _ _))).alloc _)⟩;exact Qy4 Jzp.cols (by simp) (by simpa using hM 2 (by omega)) rfl rfl (by decide) (by unfold maxLen;omega)
def frT(each:Bool)(r:Int)(cols:List Col):List Frm:=if each=true then Yw9 r cols else[]
def trT(bf each:Bool)(r:Int)(cols:List Col):List Sch:=if bf=true∨each=true then[] else Jws r cols
section
variable(n1 n2 n3:ByteArray) (bf each:Bool) (r:Int) (h0:0≤r) (h1:r<3) (o1 o2 o3 o4 o5 o6:Option Addr) (l1 l2 l3 l4 l5 l6 c1 c2 c3 c4 c5 c6:Nat) (s:ByteArray) (ca:Option Addr) (cc:Nat) (cols:List Col) (w:World) (hc:Qq1 NoM w (Qv ca cols.length cc) cols) (hN:cols.length≤1000)
include h0 h1 hc hN
theorem Ykj:Calls prog 120 #[.agg #[n1,n2,bf,.int .i64 (1+r),Qv o1 l1 c1,each,Qv o2 l2 c2,Qv o3 l3 c3,Qv o4 l4 c4,Qv o5 l5 c5,Qv o6 l6 c6],.agg #[s,Qv ca cols.length cc],(),()] w (Qv2 (frT each r cols) w):=by
 cases each
 ·exact Ujl n1 n2 bf (1+r) o1 o2 o3 o4 o5 o6 l1 l2 l3 l4 l5 l6 c1 c2 c3 c4 c5 c6 s ca _ cc w
 ·exact Uqy r h0 h1 n1 n2 bf o1 o2 o3 o4 o5 o6 l1 l2 l3 l4 l5 l6 c1 c2 c3 c4 c5 c6 s _ cols w hc (by omega)
theorem Ywc:Calls prog 121 #[.agg #[n1,n2,bf,.int .i64 (1+r),Qv o1 l1 c1,each,Qv o2 l2 c2,Qv o3 l3 c3,Qv o4 l4 c4,Qv o5 l5 c5,Qv o6 l6 c6],.agg #[s,Qv ca cols.length cc],.agg #[n3,(),(),()]] w (Qy8 (trT bf each r cols) w):=by
 by_cases hb:bf=true∨each=true
 ·unfold trT;rw[if_pos hb];exact Ujk bf each hb (1+r) n1 n2 n3 s o1 o2 o3 o4 o5 o6 l1 l2 l3 l4 l5 l6 c1 c2 c3 c4 c5 c6 ca _ cc w
 ·unfold trT;rw[if_neg hb];obtain rfl:bf=false:=by cases bf;rfl;exact absurd (.inl rfl) hb
  obtain rfl:each=false:=by cases each;rfl;exact absurd (.inr rfl) hb
  exact Ywb r h0 h1 n1 n2 n3 s o1 o2 o3 o4 o5 o6 l1 l2 l3 l4 l5 l6 c1 c2 c3 c4 c5 c6 _ cols w hc hN
end
end Go.Proofs.YtgepbohjmgaojaaGreatDoor
