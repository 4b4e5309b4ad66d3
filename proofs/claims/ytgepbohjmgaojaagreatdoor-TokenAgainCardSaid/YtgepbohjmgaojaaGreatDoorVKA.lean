/- What AnyExpr has laid in memory on its way: the result's cells, the expression, its query. Any well-formed expression from the tape: the contract of AnyExpr. -/
import Derived.Test.YtgepbohjmgaojaaGreatDoorU10
set_option linter.all false
namespace Go.Proofs.YtgepbohjmgaojaaGreatDoor
open World renaming setCell→Qg
open Value renaming slice→Qv
open Lib(hid)
open Go.RowKit
theorem Yvb{T:Nat}{w w5 W':World}{Q:Value→World→Prop}{v:Value}(hT:T<w.heap.size)(k5:Qqb (At T) w w5)(ht:Qql T w5)(ks:Qqb (At w.heap.size) w5 W')(hq:Q v W'):Qjp T w Q (.returned v) W':=
 ⟨v,rfl,hq,ht.keep ks fun k hk h=>by unfold At at h;omega,k5.then ks fun k hk h=>by unfold At at h;omega⟩
def Qvq(T:Nat)(w wi:World):Prop:=
 Qql T wi∧Qqb (At T) w wi∧wi.heap[w.heap.size]?=some (.cells #["0","0",false,"0","0","","","",(),()] 80 (0,0))
section
variable{T:Nat} {w wi wj:World}
theorem Qvq.step(h:Qvq T w wi)(hT:T<w.heap.size)(ht:Qql T wj)(hk:Qqb (At T) wi wj):Qvq T w wj:=
 ⟨ht,h.2.1.trans hk,(hk.block _ (Zq.1 h.2.2).1 fun h=>by unfold At at h;omega).trans h.2.2⟩
theorem Qvq.bel(h:Qvq T w wi)(hT:T<w.heap.size)(hb:Below wi.heap.size wi wj):Qvq T w wj:=h.step hT (h.1.bel hb) (.bel hb)
theorem Qvq.alloc(h:Qvq T w wi)(hT:T<w.heap.size)(o:Obj):Qvq T w (wi.alloc o):=h.bel hT ((Below.refl _ _).alloc (Zz _) o)
theorem Qvq.drew(h:Qvq T w wi):Qvq T w wi.drew:=⟨h.1,h.2.1.drew,h.2.2⟩
theorem Qvq.then{M:Nat→Prop}(h:Qvq T w wi)(hT:T<w.heap.size)(k:Qqb M wi wj)(hM:∀i,i≤w.heap.size→¬M i):Qvq T w wj:=
 ⟨h.1.keep k fun i hi=>hM i (by omega),h.2.1.then k fun i hi hh=>absurd hh (hM i (by omega)),(k.block _ (Zq.1 h.2.2).1 (hM _ (Zz _))).trans h.2.2⟩
theorem Qvq.tape(h:Qvq T w wi):Qql T wi:=h.1
theorem Qvq.kept(h:Qvq T w wi):Qqb (At T) w wi:=h.2.1
theorem Qvq.lt(h:Qvq T w wi):w.heap.size<wi.heap.size:=(Zq.1 h.2.2).1
theorem Qvq.res(h:Qvq T w wi):wi.cell? ⟨w.heap.size,0,none⟩=some (.int .i64 0)∧wi.cell? ⟨w.heap.size,1,none⟩=some (.int .i64 0)∧wi.cell? ⟨w.heap.size,2,none⟩=some (.bool false)∧wi.cell? ⟨w.heap.size,3,none⟩=some (.int .i64 0)∧wi.cell? ⟨w.heap.size,4,none⟩=some (.int .i64 0)∧
 wi.cell? ⟨w.heap.size,5,none⟩=some (.string ⟨#[]⟩)∧wi.cell? ⟨w.heap.size,6,none⟩=some (.string ⟨#[]⟩)∧wi.cell? ⟨w.heap.size,7,none⟩=some (.string ⟨#[]⟩)∧wi.cell? ⟨w.heap.size,8,none⟩=some (Qv none 0 0)∧wi.cell? ⟨w.heap.size,9,none⟩=some (Qv none 0 0)∧
 (∀i,wi.frozen? ⟨w.heap.size,i,none⟩=false)∧w.heap.size<wi.heap.size:=Qq5 h.2.2
end
theorem Qw3{T lo:Nat}{v:Value}{w wk W':World}{e:Ex}{P:Ex→Prop}(hT:T<w.heap.size)(L:Qvq T w wk)(hx:ExV (Old lo) wk e v)(hlo:w.heap.size<lo)(ks:Qqb (At w.heap.size) wk W')(hP:P e):Qjp T w (ExQ P w) (.returned v) W':=by
 refine Yvb hT L.2.1 L.1 ks ⟨e,(hx.keep (ks.weak fun k _ h=>?_)).weak fun k _ h=>?_,hP⟩
 ·unfold At at h;unfold Old;omega
 ·unfold Old at h⊢;omega
def EA(T:Nat)(w W:World)(p:Nat)(k o:Int)(no:Bool)(va vs:Value):Prop:=
 Qvq T w W∧w.heap.size<p∧W.heap[p]?=some (.cells #[k,o,no,"0","0","","","",va,vs] 80 (0,0))
section
variable{T p:Nat} {w W W':World} {k o:Int} {no:Bool} {va vs:Value}
theorem EA.then{M:Nat→Prop}(h:EA T w W p k o no va vs)(hT:T<w.heap.size)(kp:Qqb M W W')(hM:∀i,i≤p→¬M i):EA T w W' p k o no va vs:=
 ⟨h.1.then hT kp fun i hi=>hM i (by have:=h.2.1;omega),h.2.1,(kp.block _ (Zq.1 h.2.2).1 (hM _ (Zz _))).trans h.2.2⟩
theorem EA.step(h:EA T w W p k o no va vs)(hT:T<w.heap.size)(ht:Qql T W')(hk:Qqb (At T) W W'):EA T w W' p k o no va vs:=
 ⟨h.1.step hT ht hk,h.2.1,(hk.block _ (Zq.1 h.2.2).1 fun hh=>by unfold At at hh;have:=h.2.1;omega).trans h.2.2⟩
theorem EA.drew(h:EA T w W p k o no va vs):EA T w W.drew p k o no va vs:=⟨h.1.drew,h.2⟩
theorem EA.alloc(h:EA T w W p k o no va vs)(hT:T<w.heap.size)(ob:Obj):EA T w (W.alloc ob) p k o no va vs:=h.then hT (M:=fun _=>False) ((Qqb.refl _ W).alloc ob) fun _ _=>id
theorem EA.cells(h:EA T w W p k o no va vs):W.cell? ⟨p,0,none⟩=some (.int .i64 k)∧W.cell? ⟨p,1,none⟩=some (.int .i64 o)∧W.cell? ⟨p,2,none⟩=some (.bool no)∧W.cell? ⟨p,3,none⟩=some (.int .i64 0)∧W.cell? ⟨p,4,none⟩=some (.int .i64 0)∧
 W.cell? ⟨p,5,none⟩=some (.string ⟨#[]⟩)∧W.cell? ⟨p,6,none⟩=some (.string ⟨#[]⟩)∧W.cell? ⟨p,7,none⟩=some (.string ⟨#[]⟩)∧W.cell? ⟨p,8,none⟩=some va∧W.cell? ⟨p,9,none⟩=some vs∧(∀i,W.frozen? ⟨p,i,none⟩=false)∧p<W.heap.size:=Qq5 h.2.2
theorem EA.keepSet(h:EA T w W p k o no va vs)(hT:T<w.heap.size)(i:Nat)(u:Value):Qvq T w (W.setCell ⟨p,i,none⟩ u):=
 h.1.then hT ((Qqb.refl (At p) W).setCell (p:=⟨p,i,none⟩) (fun _=>rfl) u) fun j hj hh=>by unfold At at hh;have:=h.2.1;omega
theorem EA.set1(h:EA T w W p k o no va vs)(hT:T<w.heap.size)(u:Int):EA T w (W.setCell ⟨p,1,none⟩ (.int .i64 u)) p k u no va vs:=
 ⟨h.keepSet hT 1 _,h.2.1,by simp[Qg,Yh,h.2.2]⟩
theorem EA.set2(h:EA T w W p k o no va vs)(hT:T<w.heap.size)(u:Bool):EA T w (W.setCell ⟨p,2,none⟩ (.bool u)) p k o u va vs:=
 ⟨h.keepSet hT 2 _,h.2.1,by simp[Qg,Yh,h.2.2]⟩
theorem EA.set8(h:EA T w W p k o no va vs)(hT:T<w.heap.size)(u:Value):EA T w (W.setCell ⟨p,8,none⟩ u) p k o no u vs:=
 ⟨h.keepSet hT 8 _,h.2.1,by simp[Qg,Yh,h.2.2]⟩
theorem EA.set9(h:EA T w W p k o no va vs)(hT:T<w.heap.size)(u:Value):EA T w (W.setCell ⟨p,9,none⟩ u) p k o no va u:=
 ⟨h.keepSet hT 9 _,h.2.1,by simp[Qg,Yh,h.2.2]⟩
end
def QA(T:Nat)(w W:World)(p h:Nat)(k:Int)(st:Bool)(frm:ByteArray)(items whr:List Ex):Prop:=
 EA T w W p k 0 false () ()∧p<h∧
  ∃ia ic wa wc,W.heap[h]?=some (.cells #[st,Qv ia items.length ic,frm,Qv wa whr.length wc] 37 (0,0))∧Qqq (Old (h+1)) W (Qv ia items.length ic) items∧Qqq (Old (h+1)) W (Qv wa whr.length wc) whr
section
variable{T p h:Nat} {w W W':World} {k:Int} {st:Bool} {frm:ByteArray} {items whr:List Ex}
theorem QA.step(q:QA T w W p h k st frm items whr)(hT:T<w.heap.size)(ht:Qql T W')(hk:Qqb (At T) W W'):QA T w W' p h k st frm items whr:=by
 obtain⟨hL,h1,ia,ic,wa,wc,h5,h6,h7⟩:=q;have hp:=hL.2.1;refine⟨hL.step hT ht hk,h1,ia,ic,wa,wc,(hk.block _ (Zq.1 h5).1 (fun h=>by unfold At at h;omega)).trans h5,h6.keep (hk.weak fun k _ h=>?_),h7.keep (hk.weak fun k _ h=>?_)⟩
 all_goals
  unfold At at h;unfold Old;omega
theorem Uzk(i:Nat)(u:Value)(arr:Array Value)(t:TypeId)(q:QA T w W p h k st frm items whr)(hT:T<w.heap.size):
 EA T w ((W.setCell ⟨h,i,none⟩ u).alloc (.cells arr t)) p k 0 false () ()∧
  (∀v l,Qqq (Old (h+1)) W v l→Qqq (Old (h+1)) ((W.setCell ⟨h,i,none⟩ u).alloc (.cells arr t)) v l)∧((W.setCell ⟨h,i,none⟩ u).alloc (.cells arr t)).heap[h]?=(W.setCell ⟨h,i,none⟩ u).heap[h]?∧
  (∀lo e v,h<lo→ExV (Old lo) W e v→ExV (Old (h+1)) ((W.setCell ⟨h,i,none⟩ u).alloc (.cells arr t)) e v):=by
 obtain⟨hL,h1,ia,ic,wa,wc,h5,h6,h7⟩:=q;have hz:=(Zq.1 h5).1;have ks:Qqb (At h) W ((W.setCell ⟨h,i,none⟩ u).alloc (.cells arr t)):=((Qqb.refl (At h) W).setCell (p:=⟨h,i,none⟩) (fun _=>rfl) u).alloc _;refine⟨hL.then hT ks fun j hj hh=>by unfold At at hh;omega,fun v l hl=>Qqq.keep hl (ks.weak fun k _ h=>by unfold At at h;unfold Old;omega),Jy _ _ (by simpa using hz),fun lo e v hlo hx=>?_⟩;exact(hx.keep (ks.weak fun k _ h=>by unfold At at h;unfold Old;omega)).weak fun k _ h=>by unfold Old at h⊢;omega
theorem Jv7{lo:Nat}{W:World}{e:Ex}{a s:Option Addr}{ac sc:Nat}(h:ExV (Old lo) W e (.agg #[e.kind,e.op,e.no,e.val.kind,e.val.int,e.val.text,e.table,e.name,Qv a e.args.length ac,Qv s e.sub.length sc])):
 EC (Old lo) W e [e.kind,e.op,e.no,e.val.kind,e.val.int,e.val.text,e.table,e.name,Qv a e.args.length ac,Qv s e.sub.length sc]:=by
 obtain⟨cs,hcs,hec⟩:=h.ec;simp only[Value.agg.injEq] at hcs;obtain rfl:cs=[.int .i64 e.kind,.int .i64 e.op,.bool e.no,.int .i64 e.val.kind,.int .i64 e.val.int,.string e.val.text,.string e.table,.string e.name,Qv a e.args.length ac,Qv s e.sub.length sc]:=by simpa using(congrArg Array.toList hcs).symm
 exact hec
theorem QA.addItem{e:Ex}{lo:Nat}{a s:Option Addr}{ac sc:Nat}(q:QA T w W p h k st frm [] whr)(hT:T<w.heap.size)(hx:ExV (Old lo) W e (.agg #[e.kind,e.op,e.no,e.val.kind,e.val.int,e.val.text,e.table,e.name,Qv a e.args.length ac,Qv s e.sub.length sc]))(hlo:h<lo):
 QA T w ((W.setCell ⟨h,1,none⟩ (Qv (some ⟨W.heap.size,0,none⟩) 1 1)).alloc (.cells #[e.kind,e.op,e.no,e.val.kind,e.val.int,e.val.text,e.table,e.name,Qv a e.args.length ac,Qv s e.sub.length sc] 80)) p h k st frm [e] whr:=by
 obtain⟨g1,g4,g5,g6⟩:=Uzk 1 (Qv (some ⟨W.heap.size,0,none⟩) 1 1) #[e.kind,e.op,e.no,e.val.kind,e.val.int,e.val.text,e.table,e.name,Qv a e.args.length ac,Qv s e.sub.length sc] 80 q hT;obtain⟨hL,h1,ia,ic,wa,wc,h5,h6,h7⟩:=q;have hz:=(Zq.1 h5).1;have hec:=Jv7 (g6 lo e _ hlo hx);refine⟨g1,h1,some ⟨W.heap.size,0,none⟩,1,wa,wc,g5.trans (Jzi h5),?_,g4 _ _ h7⟩;exact Qq6 (R:=EC _ _) e (by simp) (Qz7 (by simp;omega)) (by simp) hec
theorem QA.addWhr{e:Ex}{lo:Nat}{a s:Option Addr}{ac sc:Nat}(q:QA T w W p h k st frm items [])(hT:T<w.heap.size)(hx:ExV (Old lo) W e (.agg #[e.kind,e.op,e.no,e.val.kind,e.val.int,e.val.text,e.table,e.name,Qv a e.args.length ac,Qv s e.sub.length sc]))(hlo:h<lo):
 QA T w ((W.setCell ⟨h,3,none⟩ (Qv (some ⟨W.heap.size,0,none⟩) 1 1)).alloc (.cells #[e.kind,e.op,e.no,e.val.kind,e.val.int,e.val.text,e.table,e.name,Qv a e.args.length ac,Qv s e.sub.length sc] 80)) p h k st frm items [e]:=by
 obtain⟨g1,g4,g5,g6⟩:=Uzk 3 (Qv (some ⟨W.heap.size,0,none⟩) 1 1) #[e.kind,e.op,e.no,e.val.kind,e.val.int,e.val.text,e.table,e.name,Qv a e.args.length ac,Qv s e.sub.length sc] 80 q hT;obtain⟨hL,h1,ia,ic,wa,wc,h5,h6,h7⟩:=q;have hz:=(Zq.1 h5).1;have hec:=Jv7 (g6 lo e _ hlo hx);refine⟨g1,h1,ia,ic,some ⟨W.heap.size,0,none⟩,1,g5.trans (by simp[Qg,Yh,h5]),g4 _ _ h6,?_⟩;exact Qq6 (R:=EC _ _) e (by simp) (Qz7 (by simp;omega)) (by simp) hec
theorem QA.tape(q:QA T w W p h k st frm items whr):Qql T W:=q.1.1.1
theorem QA.cells(q:QA T w W p h k st frm items whr):∃ia ic wa wc,W.cell? ⟨h,0,none⟩=some (.bool st)∧W.cell? ⟨h,1,none⟩=some (Qv ia items.length ic)∧W.cell? ⟨h,2,none⟩=some (.string frm)∧W.cell? ⟨h,3,none⟩=some (Qv wa whr.length wc)∧
 W.frozen? ⟨h,1,none⟩=false∧W.frozen? ⟨h,3,none⟩=false∧h<W.heap.size∧Hid (Qqq (Old (h+1)) W (Qv ia items.length ic) items∧Qqq (Old (h+1)) W (Qv wa whr.length wc) whr):=by
 obtain⟨hL,h1,ia,ic,wa,wc,h5,h6,h7⟩:=q;obtain⟨a,b,c,d,_,f3,z⟩:=Qzo h5;obtain⟨_,f1⟩:=Yxy h5;exact⟨ia,ic,wa,wc,a,b,c,d,f1,f3,z,hid ⟨h6,h7⟩⟩
theorem QA.close{ia wa:Option Addr}{ic wc:Nat}(q:QA T w W p h k st frm items whr)(hT:T<w.heap.size)(hx:Qqq (Old (h+1)) W (Qv ia items.length ic) items∧Qqq (Old (h+1)) W (Qv wa whr.length wc) whr):
 let W1:=(W.setCell ⟨p,9,none⟩ (Qv (some ⟨W.heap.size,0,none⟩) 1 1)).alloc (.cells #[st,Qv ia items.length ic,frm,Qv wa whr.length wc] 37)
 EA T w W1 p k 0 false () (Qv (some ⟨W.heap.size,0,none⟩) 1 1)∧Qz1 (Old (p+1)) W1 (Qv (some ⟨W.heap.size,0,none⟩) 1 1) [.mk st items frm whr]:=by
 obtain⟨hL,h1,_,_,_,_,h5,_,_⟩:=q;have hz:=(Zq.1 h5).1;have ks:Qqb (At p) W ((W.setCell ⟨p,9,none⟩ (Qv (some ⟨W.heap.size,0,none⟩) 1 1)).alloc (.cells #[st,Qv ia items.length ic,frm,Qv wa whr.length wc] 37)):=((Qqb.refl (At p) W).setCell (p:=⟨p,9,none⟩) (fun _=>rfl) _).alloc _
 have up:∀v l,Qqq (Old (h+1)) W v l→Qqq (Old (p+1)) ((W.setCell ⟨p,9,none⟩ (Qv (some ⟨W.heap.size,0,none⟩) 1 1)).alloc (.cells #[st,Qv ia items.length ic,frm,Qv wa whr.length wc] 37)) v l:=fun v l hl=>
  (Qqq.keep hl (ks.weak fun k _ h=>by unfold At at h;unfold Old;omega)).weak fun k _ h=>by unfold Old at h⊢;omega
 refine⟨(hL.set9 hT _).alloc hT _,?_⟩;exact Qq6 (size:=4) (R:=QC _ _) (Qu.mk st items frm whr) (by simp) (Qz7 (by simp;omega)) rfl ((Qxg ..).2 ⟨_,_,rfl,up _ _ hx.1,up _ _ hx.2⟩)
end
def Uyy(n:Nat):Prop:=∀(T:Nat) (depth:Int) (w:World),depth≤n→-10≤depth→Qql T w→Qkj T w→Qjh T w→Calls Tryz.prog 23 #[.pointer (some ⟨T,0,none⟩),depth] w (Qjp T w (ExQ (Qyl n) w))
def Qkr(i:Nat):ByteArray:=Yqr.getD i es
theorem Jqk(i:Nat)(h:i<5):Qkr i∈Yqr:=by
 have h5:i=0∨i=1∨i=2∨i=3∨i=4:=by omega
 rcases h5 with rfl|rfl|rfl|rfl|rfl<;>simp[Qkr,Yqr]
theorem Uqe(W:World)(t:TypeId)(i:Nat)(h:i<5):(W.alloc (.cells #[.string ⟨#[116]⟩,.string ⟨#[117]⟩,.string ⟨#[108,111,103]⟩,.string ⟨#[73,78,83,69,82,84,69,68]⟩,.string ⟨#[68,69,76,69,84,69,68]⟩] t)).cell? ⟨W.heap.size,i,none⟩=some (.string (Qkr i)):=by
 have h5:i=0∨i=1∨i=2∨i=3∨i=4:=by omega
 rcases h5 with rfl|rfl|rfl|rfl|rfl<;>simp[Qkr,Yqr,bs]
def Qyx(i:Nat):ByteArray:=Jwt.getD (i+1) es
theorem Yvc(i:Nat)(h:i<5):Qyx i∈Jwt:=by
 have h5:i=0∨i=1∨i=2∨i=3∨i=4:=by omega
 rcases h5 with rfl|rfl|rfl|rfl|rfl<;>simp[Qyx,Jwt]
theorem Uqf(W:World)(t:TypeId)(i:Nat)(h:i<5):(W.alloc (.cells #[.string ⟨#[78,69,87]⟩,.string ⟨#[79,76,68]⟩,.string ⟨#[73,78,83,69,82,84,69,68]⟩,.string ⟨#[116]⟩,.string ⟨#[117]⟩] t)).cell? ⟨W.heap.size,i,none⟩=some (.string (Qyx i)):=by
 have h5:i=0∨i=1∨i=2∨i=3∨i=4:=by omega
 rcases h5 with rfl|rfl|rfl|rfl|rfl<;>simp[Qyx,Jwt,bs]
theorem Yvd{lo:Nat}{w:World}{e:TypeId}{size:Nat}{v:Value}{xs:List Ex}(h:Qqn lo w e size (fun M w e cs=>EC M w e cs) v xs):Qqn lo w.drew e size (fun M w e cs=>EC M w e cs) v xs:=
 Qqn.keep Qy5 h ((Qqb.refl (fun _=>False) w).drew) fun _ _ _=>id
theorem Uzl{p:Nat}{w:World}{va:Value}{x:Ex}{lo:Nat}{a s:Option Addr}{ac sc:Nat}(hlo:p+1≤lo)(hown:∀k,Qq4 va k→k<lo)
 (hx:ExV (Old lo) w x (.agg #[x.kind,x.op,x.no,x.val.kind,x.val.int,x.val.text,x.table,x.name,Qv a x.args.length ac,Qv s x.sub.length sc])):
 EC (Qjl (p+1) va) w x [x.kind,x.op,x.no,x.val.kind,x.val.int,x.val.text,x.table,x.name,Qv a x.args.length ac,Qv s x.sub.length sc]:=
 EC.weak (fun k _ h=>h.elim (fun h=>by unfold Old;omega) fun h=>hown k h) x _ (Jv7 hx)
set_option maxRecDepth 100000 in
set_option maxHeartbeats 40000000 in
theorem Yxb(n T:Nat)(depth:Int)(w:World)(hE:0<depth→∃m:Nat,n=m+1∧Uyy m)(hn:n≤50)(hd:depth≤n)(_hd0:-10≤depth)(ht:Qql T w)(hnm:Qkj T w)(hw:Qjh T w):
 Calls Tryz.prog 23 #[.pointer (some ⟨T,0,none⟩),depth] w (Qjp T w (ExQ (Qyl n) w)):=by
 have hTw:=ht.lt;have HT:=hid ht;have HN:=hid hnm;have HW:=hid hw;have HE:=hid hE;clear hE ht hnm hw;go_enter Tryz.func23,Tryz.ntmps23;go_wp2_with fail
 generalize hW:w.alloc _=W0;have hL0:Qvq T w W0:=by rw[←hW];exact⟨HT.out.bel ((Below.refl _ w).alloc (Zz _) _),.bel ((Below.refl _ w).alloc (Zz _) _),Zw w _⟩
 clear hW;have L0:=hid hL0;clear hL0;refine(Qqk T 12 _ (by omega) (by omega) L0.out.tape).mono ?_;rintro e w1 ⟨v,rfl,⟨k0,rfl,hk0,hk1⟩,ht,hk⟩;have L1:=hid (L0.out.step hTw ht hk);clear ht hk;dsimp only;have ek:IntKind.i64.wrap (1+k0)=1+k0:=Zp _ (by omega);go_upto_region 2 with fail
 have L1':=L1.out
 go_cut [20] (fun c wx=>∃b:Bool,c=.bool b∧(b=false→0<depth∧2<1+k0)∧Qvq T w wx)
 case first=>
  by_cases hd1:depth≤0
  ·go_wp2_with fail
   go_meet
   exact⟨true,by first|(simp;done)|simp[hd1],by simp,L1.out⟩
  ·by_cases hk2:1+k0≤2
   ·go_wp2_with fail
    go_meet
    exact⟨true,by first|(simp;done)|simp[hk2],by simp,L1.out⟩
   ·go_wp2_with fail
    go_meet
    exact⟨false,by simp<;>omega,fun _=>⟨by omega,by omega⟩,L1.out⟩
 case rest=>
  obtain⟨b,rfl,hb,hL⟩:=hcut;have L2:=hid hL;clear hL L1 L1';cases b
  ·obtain⟨hd1,hk2⟩:=hb rfl;clear hb;obtain⟨m,rfl,hE⟩:=HE.out hd1;have HAE:=hid hE;clear hE;generalize hkd:1+k0=kd at*;have hk12:kd≤12:=by omega
   clear ek hkd hk0 hk1
   go_upto_block 0 with fail
   generalize hW3:wc.alloc _=W3;have hE0:EA T w W3 wc.heap.size kd 0 false () ():=by rw[←hW3];exact⟨L2.out.alloc hTw _,L2.out.lt,Zw wc _⟩
   generalize hp:wc.heap.size=p at*;clear hW3 L2;have E0:=hid hE0;clear hE0
   go_cut [9] (fun c wx=>∃(nargs:Nat) (o:Int) (no:Bool),c=.int .i64 nargs∧((Qzg kd o no nargs∧EA T w wx p kd o no () ())∨(nargs=0∧o=0∧no=false∧∃s sc q,Qyl (m+1) (opX kd 0 false [] [q])∧EA T w wx p kd 0 false () (Qv s 1 sc)∧Qz1 (Old (p+1)) wx (Qv s 1 sc) [q])))
   case first=>
    by_cases h8:kd≤7
    ·have h5:kd=3∨kd=4∨kd=5∨kd=6∨kd=7:=by omega
     rcases h5 with rfl|rfl|rfl|rfl|rfl
     ·go_wp2_with fail
      go_meet
      exact⟨1,0,false,rfl,.inl ⟨by simp[Qzg],E0.out⟩⟩
     ·go_wp2_with fail
      go_meet
      exact⟨1,0,false,rfl,.inl ⟨by simp[Qzg],E0.out⟩⟩
     ·go_wp2_with fail
      refine(Qqk T 13 _ (by omega) (by omega) E0.out.1.tape).mono ?_;rintro e w4 ⟨v,rfl,⟨r,rfl,hr0,hr1⟩,ht,hk⟩;have er:IntKind.i64.wrap (1+r)=1+r:=Zp _ (by omega);have E1:=hid (E0.out.step hTw ht hk);obtain⟨_,_,_,_,_,_,_,_,_,_,pf,pz⟩:=E1.out.cells;clear ht hk;dsimp only;go_wp2_with fail
      go_meet
      exact⟨2,1+r,false,rfl,.inl ⟨by simp[Qzg];omega,E1.out.set1 hTw _⟩⟩
     ·go_wp2_with fail
      refine(Qq2 T 2 _ (by omega) (by omega) E0.out.1.tape).mono ?_;rintro e w4 ⟨v,rfl,⟨b,rfl⟩,ht,hk⟩;have E1:=hid (E0.out.step hTw ht hk);obtain⟨_,_,_,_,_,_,_,_,_,_,pf,pz⟩:=E1.out.cells;clear ht hk;dsimp only;go_wp2_with fail
      go_meet
      exact⟨1,0,b,rfl,.inl ⟨by simp[Qzg],E1.out.set2 hTw _⟩⟩
     ·go_wp2_with fail
      go_meet
      exact⟨3,0,false,rfl,.inl ⟨by simp[Qzg],E0.out⟩⟩
    ·have b3:(kd==3)=false:=by simp;omega
     have b4:(kd==4)=false:=by simp;omega
     have b5:(kd==5)=false:=by simp;omega
     have b6:(kd==6)=false:=by simp;omega
     have b7:(kd==7)=false:=by simp;omega
     go_wp2_with fail
     refine(Qqk T 5 _ (by omega) (by omega) (E0.out.1.tape.alloc _)).mono ?_;rintro e w4 ⟨v,rfl,⟨r,rfl,hr0,hr1⟩,ht,hk⟩;obtain⟨i,rfl⟩:=Zt hr0;have hi:i<5:=by omega
     have hfc:w4.cell? ⟨W3.heap.size,i,none⟩=some (.string (Qkr i)):=(hk.cell (by simp) (fun h=>by have:=E0.out.cells.2.2.2.2.2.2.2.2.2.2.2;have:=E0.out.2.1;unfold At at h;omega)).trans (Uqe W3 _ i hi);have E4:=hid ((E0.out.alloc hTw _).step hTw ht hk);clear ht hk;dsimp only;go_upto_region 16 with fail
     have hq5:QA T w (w4.alloc (.cells #[.bool (kd==8),(),(Qkr i),()] 37)) p w4.heap.size kd (kd==8) (Qkr i) [] []:=⟨E4.out.alloc hTw _,E4.out.cells.2.2.2.2.2.2.2.2.2.2.2,none,0,none,0,Zw _ _,Qqa.nil ..,Qqa.nil ..⟩
     generalize w4.alloc (.cells #[.bool (kd==8),(),(Qkr i),()] 37)=W5 at*;generalize w4.heap.size=h at*;clear hfc E4;have HQ5:=hid hq5;clear hq5;by_cases h10:10≤kd
     ·go_wp2_with fail
      refine(HAE.out T (depth-2) _ (by omega) (by omega) HQ5.out.tape (HN.out.at HQ5.out.1.1.kept) (HW.out.at HQ5.out.1.1.kept)).mono ?_;rintro e w8 ⟨v,rfl,⟨x,hx,hm⟩,ht,hk⟩;have hx0:=hx;obtain⟨a1,ac1,s1,sc1,rfl,_,_⟩:=hx0;have HQ8:=hid (HQ5.out.step hTw ht hk);have hlo1:h<W5.heap.size:=by obtain⟨_,_,_,_,_,_,_,_,_,_,h,_⟩:=HQ5.out.cells;exact h
      have HXX:=hid hx;have HM:=hid hm;obtain⟨i8,ic8,wa8,wc8,c0,c1,c2,c3,f1,f3,zh,_⟩:=HQ8.out.cells;clear hx hm ht hk;dsimp only;go_upto_region 18 with fail
      have HQ9:=hid (HQ8.out.addItem hTw HXX.out hlo1);clear c0 c1 c2 c3 f1 f3 zh hlo1;generalize hW9:((w8.setCell _ _).alloc _)=W9;rw[hW9] at HQ9;clear hW9;go_wp2_with fail
      refine(Qq2 T 2 _ (by omega) (by omega) HQ9.out.tape).mono ?_;rintro e w10 ⟨v,rfl,⟨b,rfl⟩,ht,hk⟩;have HQ10:=hid (HQ9.out.step hTw ht hk);clear ht hk;dsimp only;cases b
      ·obtain⟨ia,ic,wa,wc',d0,d1,d2,d3,_,_,dz,dx⟩:=HQ10.out.cells;obtain⟨_,_,_,_,_,_,_,_,_,_,pf,pz⟩:=HQ10.out.1.cells;go_wp2_with fail
       go_meet
       exact⟨0,0,false,rfl,.inr ⟨rfl,rfl,rfl,_,_,.mk (kd==8) [x] (Qkr i) [],.sub m kd (Qkr i) [x] [] (Jqk i hi) (.inr ⟨by omega,rfl⟩) (by simp) (by simpa using HM.out) (by simp),HQ10.out.close hTw dx.out⟩⟩
      ·go_wp2_with fail
       refine(HAE.out T (depth-2) _ (by omega) (by omega) HQ10.out.tape (HN.out.at HQ10.out.1.1.kept) (HW.out.at HQ10.out.1.1.kept)).mono ?_;rintro e w11 ⟨v,rfl,⟨x2,hx2,hm2⟩,ht,hk⟩;have hx0:=hx2;obtain⟨a2,ac2,s2,sc2,rfl,_,_⟩:=hx0;have HQ11:=hid (HQ10.out.step hTw ht hk);have hlo:h<w10.heap.size:=by obtain⟨_,_,_,_,_,_,_,_,_,_,h,_⟩:=HQ10.out.cells;exact h
       have HX2:=hid hx2;have HM2:=hid hm2;obtain⟨i11,ic11,wa11,wc11,c0,c1,c2,c3,f1,f3,zh,_⟩:=HQ11.out.cells;clear hx2 hm2 ht hk;dsimp only;go_upto_region 20 with fail
       have HQ12:=hid (HQ11.out.addWhr hTw HX2.out hlo);clear c0 c1 c2 c3 f1 f3;generalize hW12:((w11.setCell _ _).alloc _)=W12;rw[hW12] at HQ12;clear hW12;obtain⟨ia,ic,wa,wc',d0,d1,d2,d3,_,_,dz,dx⟩:=HQ12.out.cells;obtain⟨_,_,_,_,_,_,_,_,_,_,pf,pz⟩:=HQ12.out.1.cells;go_wp2_with fail
       go_meet
       exact⟨0,0,false,rfl,.inr ⟨rfl,rfl,rfl,_,_,.mk (kd==8) [x] (Qkr i) [x2],.sub m kd (Qkr i) [x] [x2] (Jqk i hi) (.inr ⟨by omega,rfl⟩) (by simp) (by simpa using HM.out) (by simpa using HM2.out),HQ12.out.close hTw dx.out⟩⟩
     ·go_wp2_with fail
      refine(Qq2 T 2 _ (by omega) (by omega) HQ5.out.tape).mono ?_;rintro e w10 ⟨v,rfl,⟨b,rfl⟩,ht,hk⟩;have HQ10:=hid (HQ5.out.step hTw ht hk);clear ht hk;dsimp only;cases b
      ·obtain⟨ia,ic,wa,wc',d0,d1,d2,d3,_,_,dz,dx⟩:=HQ10.out.cells;obtain⟨_,_,_,_,_,_,_,_,_,_,pf,pz⟩:=HQ10.out.1.cells;go_wp2_with fail
       go_meet
       exact⟨0,0,false,rfl,.inr ⟨rfl,rfl,rfl,_,_,.mk (kd==8) [] (Qkr i) [],.sub m kd (Qkr i) [] [] (Jqk i hi) (.inl ⟨by omega,rfl⟩) (by simp) (by simp) (by simp),HQ10.out.close hTw dx.out⟩⟩
      ·go_wp2_with fail
       refine(HAE.out T (depth-2) _ (by omega) (by omega) HQ10.out.tape (HN.out.at HQ10.out.1.1.kept) (HW.out.at HQ10.out.1.1.kept)).mono ?_;rintro e w11 ⟨v,rfl,⟨x2,hx2,hm2⟩,ht,hk⟩;have hx0:=hx2;obtain⟨a2,ac2,s2,sc2,rfl,_,_⟩:=hx0;have HQ11:=hid (HQ10.out.step hTw ht hk);have hlo:h<w10.heap.size:=by obtain⟨_,_,_,_,_,_,_,_,_,_,h,_⟩:=HQ10.out.cells;exact h
       have HX2:=hid hx2;have HM2:=hid hm2;obtain⟨i11,ic11,wa11,wc11,c0,c1,c2,c3,f1,f3,zh,_⟩:=HQ11.out.cells;clear hx2 hm2 ht hk;dsimp only;go_upto_region 20 with fail
       have HQ12:=hid (HQ11.out.addWhr hTw HX2.out hlo);clear c0 c1 c2 c3 f1 f3;generalize hW12:((w11.setCell _ _).alloc _)=W12;rw[hW12] at HQ12;clear hW12;obtain⟨ia,ic,wa,wc',d0,d1,d2,d3,_,_,dz,dx⟩:=HQ12.out.cells;obtain⟨_,_,_,_,_,_,_,_,_,_,pf,pz⟩:=HQ12.out.1.cells;go_wp2_with fail
       go_meet
       exact⟨0,0,false,rfl,.inr ⟨rfl,rfl,rfl,_,_,.mk (kd==8) [] (Qkr i) [x2],.sub m kd (Qkr i) [] [x2] (Jqk i hi) (.inl ⟨by omega,rfl⟩) (by simp) (by simp) (by simpa using HM2.out),HQ12.out.close hTw dx.out⟩⟩
   case rest=>
    obtain⟨nargs,o,no,rfl,hcase⟩:=hcut;clear E0
    rcases hcase with⟨hsh,hE⟩|⟨rfl,rfl,rfl,s,sc,q,hany,hE,hq⟩
    ·have E1:=hid hE;clear hE;have hn3:nargs≤3:=(Jxy hsh).2.2;go_wp2_with fail
     go_loopw[11] (fun i wr=>∃(j:Nat) (va:Value) (xs:List Ex),j≤nargs∧i=.int .i64 j∧xs.length=j∧(∀x∈xs,Qyl m x)∧EA T w wr p kd o no va ()∧Qqn (p+1) wr 80 10 (fun M w e cs=>EC M w e cs) va xs) (fun i _=>nargs-(intOf i).toNat)
     case atStart=>exact⟨0,_,[],Zi _,rfl,rfl,fun x hx=>(by cases hx),E1.out,Qqn.nil ..⟩
     case round=>
      rename World=>wr;obtain⟨j,va,xs,hj,rfl,hxl,hxs,hE,hG⟩:=hrel;have EE:=hid hE;have GG:=hid hG;have HXS:=hid hxs;clear hE hG hxs;by_cases hlt:j<nargs
      ·have ed:IntKind.i64.wrap (depth-1)=depth-1:=Zp _ (by omega);go_wp2_with fail
       obtain⟨_,_,_,_,_,_,_,_,d8,_,_,dz⟩:=EE.out.drew.cells;have tok1:Hid True:=trivial
       go_region_law (first
        |(refine Qkv (by rfl) _ _ _ (by rfl) 80 _ 10 136 Tryz.underlying32 Qxk (by rfl) (by decide) (R:=fun e cs=>EC (Qjl (p+1) va) w8 e cs) (M:=fun _=>False) (p+1) va (Qv (some ⟨w8.heap.size,0,none⟩) 1 1) xs [x] (by rfl) (by rfl) (Qqf.kept GG8.out ((Qqb.refl (fun _=>False) w8).alloc _) (fun _ _=>id) fun _ _ _ h=>h) (Qq6 x rfl id rfl (Uzl (by have:=EE.out.cells.2.2.2.2.2.2.2.2.2.2.2;simp;omega) (fun k h=>by have:=(Qqf.lt GG.out h).2;simpa using this) HX.out)) (by simp) (fun y _ cs h=>Qy5.one h) (by simp;omega) (by simp[maxLen];omega) (by simp;omega) ?_;intro v9 w9 ho hk hat;have gg9:=Qqn.snoc Qy5 ho hk hat;obtain⟨xa9,xc9,hv9,_⟩:=gg9.shape;obtain⟨n9,hn9⟩:∃n,n=(xs++[x]).length:=⟨_,rfl⟩;rw[←hn9] at hv9;subst hv9;have GG9:=hid gg9;clear gg9 hn9;have EE9:=hid ((EE8.out.alloc hTw _).then hTw hk fun i hi hO=>by have:=(Qqf.lt GG8.out hO).1;omega);obtain⟨_,_,_,_,_,_,_,_,g8,_,gf,gz⟩:=EE9.out.cells;clear ho hk hat)
        |(go_simp;go_at_call 23;go_loud (refine(HAE.out T (depth-1) _ (by omega) (by omega) EE.out.drew.1.tape (HN.out.at EE.out.drew.1.kept) (HW.out.at EE.out.drew.1.kept)).mono ?_;rintro e w8 ⟨v,rfl,⟨x,hx,hm⟩,ht,hk⟩;have hx0:=hx;obtain⟨a1,ac1,s1,sc1,rfl,_,_⟩:=hx0;have EE8:=hid (EE.out.drew.step hTw ht hk);have GG8:=hid (Qqn.keep Qy5 (Yvd GG.out) hk (fun k h1 _ h2=>by unfold At at h2;have:=EE.out.2.1;omega));have HX:=hid hx;have HM:=hid hm;have z8:=hk.size;obtain⟨_,_,_,_,_,_,_,_,f8,_,ff,fz⟩:=EE8.out.cells;clear hx hm ht hk);dsimp only))
       all_goals
        go_wp2_with fail
        go_roundw
        case rel=>
         refine⟨j+1,Qv xa9 n9 xc9,xs++[x],by omega,by go_num,by simp[hxl],fun y hy=>?_,EE9.out.set8 hTw _,Qqn.keep Qy5 GG9.out ((Qqb.refl (At p) w9).setCell (p:=⟨p,8,none⟩) (fun _=>rfl) _) (fun k h1 _ h2=>by unfold At at h2;omega)⟩;rcases Yf.1 hy with hy|hy
         ·exact HXS.out y hy
         ·obtain rfl:=Zd.1 hy;exact HM.out
        case measure=>simp[intOf];omega
      ·obtain rfl:j=nargs:=by omega
       subst hxl;go_upto_region 36 with fail
       obtain⟨xa,xc,rfl,_⟩:=GG.out.shape;obtain⟨e0,e1,e2,e3,e4,e5,e6,e7,e8,e9,pf,pz⟩:=EE.out.cells;obtain⟨r0,r1,r2,r3,r4,r5,r6,r7,r8,r9,rf,rz⟩:=EE.out.1.res
       repeat(first|go_values|go_skip|go_guarded|go_step|go_upon)
       refine Zh (v:=.agg #[kd,o,no,"0","0","","","",Qv xa xs.length xc,()]) (by simp[results,Tryz.results23,go_sem,r0,r1,r2,r3,r4,r5,r6,r7,r8,r9]) rfl ?_
       have HX:ExV (Old (p+1)) wr (opX kd o no xs []) (.agg #[kd,o,no,"0","0","","","",Qv xa xs.length xc,()]):=⟨xa,xc,none,0,rfl,GG.out.rows Qy5,Qqa.nil ..⟩
       have FIN:=Qw3 (P:=Qyl (m+1)) hTw EE.out.1 HX (by have:=EE.out.2.1;omega) (Qqh _ _ kd o no (.int .i64 0) (.int .i64 0) "" "" "" (Qv xa xs.length xc) ()) (.ops m kd o no xs hsh HXS.out);exact FIN
    ·have EE:=hid hE;have HQ:=hid hq;have HANY:=hid hany;clear hE hq hany;go_wp2_with fail
     refine Ky 1 ?_;rw[Kp];go_upto_region 36 with fail
     obtain⟨e0,e1,e2,e3,e4,e5,e6,e7,e8,e9,pf,pz⟩:=EE.out.cells;obtain⟨r0,r1,r2,r3,r4,r5,r6,r7,r8,r9,rf,rz⟩:=EE.out.1.res
     repeat(first|go_values|go_skip|go_guarded|go_step|go_upon)
     refine Zh (v:=.agg #[kd,"0",false,"0","0","","","",(),Qv s 1 sc]) (by simp[results,Tryz.results23,go_sem,r0,r1,r2,r3,r4,r5,r6,r7,r8,r9]) rfl ?_
     have HX:ExV (Old (p+1)) wc (opX kd 0 false [] [q]) (.agg #[kd,"0",false,"0","0","","","",(),Qv s 1 sc]):=⟨none,0,s,sc,rfl,Qqa.nil ..,HQ.out⟩
     have FIN:=Qw3 (P:=Qyl (m+1)) hTw EE.out.1 HX (by have:=EE.out.2.1;omega) (Qqh _ _ kd (.int .i64 0) false (.int .i64 0) (.int .i64 0) "" "" "" () (Qv s 1 sc)) HANY.out;exact FIN
  ·clear hb HE hd hn;go_wp2_with fail
   refine(Qq2 T 2 _ (by omega) (by omega) L2.out.tape).mono ?_;rintro e w4 ⟨v,rfl,⟨b,rfl⟩,ht,hk⟩;have L4:=hid (L2.out.step hTw ht hk);clear ht hk;dsimp only;cases b
   ·go_wp2_with fail
    refine(Uq7 T _ L4.out.tape (HW.out.at L4.out.kept)).mono ?_;rintro e w5 ⟨v,rfl,⟨x,rfl,hx⟩,ht,hk⟩;have L5:=hid (L4.out.step hTw ht hk);clear ht hk;obtain⟨k,i,s⟩:=x;unfold Qkt;dsimp only;have HX:=hid hx;have hz5:w.heap.size<w5.heap.size:=L5.out.lt;by_cases hneg:k=1∧i<0
    ·obtain⟨rfl,hneg⟩:=hneg
     have hs:s=⟨#[]⟩:=by
      rcases hx with⟨h,_⟩|⟨_,_,h⟩|⟨h,_⟩|⟨h,_⟩
      ·cases h
      ·exact h
      ·cases h
      ·cases h
     subst hs;clear hx;go_wp2_with fail
     generalize hq:w5.heap.size=q at*;have hb5:(w5.alloc (.cells #["1",.int .i64 i,""] 78)).heap[q]?=some (.cells #["1",.int .i64 i,""] 78 (0,0)):=by rw[←hq];exact Zw w5 _
     have L5':=hid (L5.out.alloc hTw (.cells #["1",.int .i64 i,""] 78));generalize w5.alloc (.cells #["1",.int .i64 i,""] 78)=W5 at*;have HB5:=hid hb5;clear hb5 L5 HX;refine(Qqk T 9 _ (by omega) (by omega) L5'.out.tape).mono ?_;rintro e w6 ⟨v,rfl,⟨r,rfl,hr0,hr1⟩,ht,hk⟩;have L6:=hid (L5'.out.step hTw ht hk);have hb6:=(hk.block q (Zq.1 HB5.out).1 fun h=>by unfold At at h;omega).trans HB5.out;clear ht hk;obtain⟨x0,x1,x2,xf,xz⟩:=Yv0 hb6;have L6':=hid (L6.out.then hTw ((Qqb.refl (At q) w6).setCell (p:=⟨q,1,none⟩) (fun _=>rfl) r) fun j hj hh=>by unfold At at hh;omega);dsimp only;go_wp2_with fail
     refine(Qxd _ _ _ _).mono ?_;rintro e w7 ⟨rfl,hb⟩;have L7:=hid (L6'.out.bel hTw hb);clear hb;obtain⟨r0,r1,r2,r3,r4,r5,r6,r7,r8,r9,rf,rz⟩:=L7.out.res;dsimp only
     repeat(first|go_values|go_skip|go_guarded|go_step|go_upon)
     refine Zh (v:=.agg #["1","0",false,"1",r,"","","",(),()]) (by simp[results,Tryz.results23,go_sem,r0,r1,r2,r3,r4,r5,r6,r7,r8,r9]) rfl ?_
     have HX7:ExV (Old w7.heap.size) w7 (Qkk ⟨1,r,⟨#[]⟩⟩) (.agg #["1","0",false,"1",r,"","","",(),()]):=⟨none,0,none,0,rfl,Qqa.nil ..,Qqa.nil ..⟩
     have FIN:=Qw3 (P:=Qyl n) hTw L7.out HX7 rz (Qqh _ _ (.int .i64 1) (.int .i64 0) false (.int .i64 1) r "" "" "" () ()) (.lit n ⟨1,r,⟨#[]⟩⟩ (.inr (.inl ⟨rfl,⟨by show -9223372036854775808≤r;omega,by show r≤9223372036854775807;omega⟩,rfl⟩)) (fun _=>hr0));exact FIN
    ·have hor:k≠1∨(k=1∧¬i<0):=by omega
     have hv0:k=1→0≤i:=by omega
     clear hx hneg;have L6:=hid (L5.out.alloc hTw (.cells #[.int .i64 k,.int .i64 i,.string s] 78))
     rcases hor with hk1|⟨rfl,hi0⟩
     ·have bk:(k==1)=false:=by simpa using hk1
      go_wp2_with fail
      refine(Qxd _ _ _ _).mono ?_;rintro e w7 ⟨rfl,hb⟩;have L7:=hid (L6.out.bel hTw hb);clear hb;obtain⟨r0,r1,r2,r3,r4,r5,r6,r7,r8,r9,rf,rz⟩:=L7.out.res;dsimp only
      repeat(first|go_values|go_skip|go_guarded|go_step|go_upon)
      refine Zh (v:=.agg #["1","0",false,.int .i64 k,.int .i64 i,.string s,"","",(),()]) (by simp[results,Tryz.results23,go_sem,r0,r1,r2,r3,r4,r5,r6,r7,r8,r9]) rfl ?_
      have HX7:ExV (Old w7.heap.size) w7 (Qkk ⟨k,i,s⟩) (.agg #["1","0",false,.int .i64 k,.int .i64 i,.string s,"","",(),()]):=⟨none,0,none,0,rfl,Qqa.nil ..,Qqa.nil ..⟩
      have FIN:=Qw3 (P:=Qyl n) hTw L7.out HX7 rz (Qqh _ _ (.int .i64 1) (.int .i64 0) false (.int .i64 k) (.int .i64 i) (.string s) "" "" () ()) (.lit n ⟨k,i,s⟩ HX.out hv0);exact FIN
     ·go_wp2_with fail
      refine(Qxd _ _ _ _).mono ?_;rintro e w7 ⟨rfl,hb⟩;have L7:=hid (L6.out.bel hTw hb);clear hb;obtain⟨r0,r1,r2,r3,r4,r5,r6,r7,r8,r9,rf,rz⟩:=L7.out.res;dsimp only
      repeat(first|go_values|go_skip|go_guarded|go_step|go_upon)
      refine Zh (v:=.agg #["1","0",false,"1",.int .i64 i,.string s,"","",(),()]) (by simp[results,Tryz.results23,go_sem,r0,r1,r2,r3,r4,r5,r6,r7,r8,r9]) rfl ?_
      have HX7:ExV (Old w7.heap.size) w7 (Qkk ⟨1,i,s⟩) (.agg #["1","0",false,"1",.int .i64 i,.string s,"","",(),()]):=⟨none,0,none,0,rfl,Qqa.nil ..,Qqa.nil ..⟩
      have FIN:=Qw3 (P:=Qyl n) hTw L7.out HX7 rz (Qqh _ _ (.int .i64 1) (.int .i64 0) false (.int .i64 1) (.int .i64 i) (.string s) "" "" () ()) (.lit n ⟨1,i,s⟩ HX.out fun _=>hv0 trivial);exact FIN
   ·go_wp2_with fail
    refine(Qq2 T 3 _ (by omega) (by omega) L4.out.tape).mono ?_;rintro e w5 ⟨v,rfl,⟨b,rfl⟩,ht,hk⟩;have L5:=hid (L4.out.step hTw ht hk);clear ht hk;dsimp only;cases b
    ·go_wp2_with fail
     refine(Jwd T _ L5.out.tape (HN.out.at L5.out.kept)).mono ?_;rintro e w16 ⟨v,rfl,⟨i,hi,rfl⟩,ht,hk⟩;have L16:=hid (L5.out.step hTw ht hk);clear ht hk;dsimp only;go_wp2_with fail
     refine(Qkl _ _ _).mono ?_;rintro e w7 ⟨rfl,hb⟩;have L7:=hid (L16.out.bel hTw hb);clear hb;obtain⟨r0,r1,r2,r3,r4,r5,r6,r7,r8,r9,rf,rz⟩:=L7.out.res;dsimp only
     repeat(first|go_values|go_skip|go_guarded|go_step|go_upon)
     refine Zh (v:=.agg #["2","0",false,"0","0","","",(Qjf i),(),()]) (by simp[results,Tryz.results23,go_sem,r0,r1,r2,r3,r4,r5,r6,r7,r8,r9]) rfl ?_
     have HX:ExV (Old w7.heap.size) w7 (Qqp ⟨#[]⟩ (Qjf i)) (.agg #["2","0",false,"0","0","","",(Qjf i),(),()]):=⟨none,0,none,0,rfl,Qqa.nil ..,Qqa.nil ..⟩
     have FIN:=Qw3 (P:=Qyl n) hTw L7.out HX rz (Qqh _ _ (.int .i64 2) (.int .i64 0) false (.int .i64 0) (.int .i64 0) "" "" (.string (Qjf i)) () ()) (.col n ⟨#[]⟩ i (by simp[Jwt,es]) hi);exact FIN
    ·go_wp2_with fail
     refine(Qqk T 5 _ (by omega) (by omega) (L5.out.tape.alloc _)).mono ?_;rintro e w6 ⟨v,rfl,⟨r,rfl,hr0,hr1⟩,ht,hk⟩;obtain⟨j,rfl⟩:=Zt hr0;have hj:j<5:=by omega
     have hfc:w6.cell? ⟨w5.heap.size,j,none⟩=some (.string (Qyx j)):=(hk.cell (by simp) (fun h=>by have:=L5.out.lt;unfold At at h;omega)).trans (Uqf w5 _ j hj);have L6:=hid ((L5.out.alloc hTw _).step hTw ht hk);clear ht hk;dsimp only;go_wp2_with fail
     refine(Jwd T _ L6.out.tape (HN.out.at L6.out.kept)).mono ?_;rintro e w16 ⟨v,rfl,⟨i,hi,rfl⟩,ht,hk⟩;have L16:=hid (L6.out.step hTw ht hk);clear ht hk;dsimp only;go_wp2_with fail
     refine(Qkl _ _ _).mono ?_;rintro e w7 ⟨rfl,hb⟩;have L7:=hid (L16.out.bel hTw hb);clear hb;obtain⟨r0,r1,r2,r3,r4,r5,r6,r7,r8,r9,rf,rz⟩:=L7.out.res;dsimp only
     repeat(first|go_values|go_skip|go_guarded|go_step|go_upon)
     refine Zh (v:=.agg #["2","0",false,"0","0","",(Qyx j),(Qjf i),(),()]) (by simp[results,Tryz.results23,go_sem,r0,r1,r2,r3,r4,r5,r6,r7,r8,r9]) rfl ?_
     have HX:ExV (Old w7.heap.size) w7 (Qqp (Qyx j) (Qjf i)) (.agg #["2","0",false,"0","0","",(Qyx j),(Qjf i),(),()]):=⟨none,0,none,0,rfl,Qqa.nil ..,Qqa.nil ..⟩
     have FIN:=Qw3 (P:=Qyl n) hTw L7.out HX rz (Qqh _ _ (.int .i64 2) (.int .i64 0) false (.int .i64 0) (.int .i64 0) "" (.string (Qyx j)) (.string (Qjf i)) () ()) (.col n (Qyx j) i (Yvc j hj) hi);exact FIN
theorem Uzm:∀n:Nat,n≤50→Uyy n
 |0,_=>fun T depth w hd hd0 ht hn hw=>Yxb 0 T depth w (fun h=>by omega) (by omega) hd hd0 ht hn hw
 |n+1,hn=>fun T depth w hd hd0 ht hnm hw=>Yxb (n+1) T depth w (fun _=>⟨n,rfl,Uzm n (by omega)⟩) hn hd hd0 ht hnm hw
end Go.Proofs.YtgepbohjmgaojaaGreatDoor
