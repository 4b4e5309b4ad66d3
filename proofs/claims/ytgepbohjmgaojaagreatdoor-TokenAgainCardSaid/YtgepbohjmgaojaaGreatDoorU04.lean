/- Types of expressions: the contract of scope.Type, for every expression. The contract of scope.Type, for every expression, joined. -/
import Derived.Test.YtgepbohjmgaojaaGreatDoorU03
import Derived.Deep.DeepCutAuto
set_option linter.all false
namespace Go.Proofs.YtgepbohjmgaojaaGreatDoor
open Value renaming slice→Qv
open Go.RowKit
section
end
theorem Qku(ts:List Sch)(e:Ex)(fs:List Frm):Qkp ts e fs=
 if Qvz e=false then((0,17):Int×Int)
 else if e.kind=1 then(e.val.kind,0)
 else if e.kind=2 then(match resolve e.table e.name fs with|some (i,j)=>(Jxt fs i j,0)|none=>(0,3))
 else if 8≤e.kind then Jxu ts e.kind e.sub fs
 else match Jq3 ts e.args fs with
  | .error c=>(0,c)
  | .ok l=>Qxu e.kind e.op l:=by
 obtain⟨k,o,no,v,t,nm,args,sub⟩:=e;rw[Qkp];rfl
theorem Jwk{T:Nat}{w w':World}(k:Qqb (At T) w w'):(∀b o,b<w.heap.size→b≠T→w'.cell? ⟨b,o,none⟩=w.cell? ⟨b,o,none⟩)∧(∀b o,b<w.heap.size→b≠T→w'.frozen? ⟨b,o,none⟩=w.frozen? ⟨b,o,none⟩):=
 ⟨fun _ _ h hT=>k.cell h hT,fun b _ h hT=>World.frozen?_of_block (k.block b h hT)⟩
theorem Jz8{T:Nat}{w w':World}(k:Qqb (At T) w w'){b o:Nat}{x:Value}(h:w.cell? ⟨b,o,none⟩=some x)(hT:b≠T):w'.cell? ⟨b,o,none⟩=some x:=
 (k.cell (Za _ _ h) hT).trans h
theorem Qyr{w:World}{g i b o:Nat}{u:Value}(h:b≠g):(w.setCell ⟨g,i,none⟩ u).cell? ⟨b,o,none⟩=w.cell? ⟨b,o,none⟩:=World.cell?_setCell_other _ _ _ _ (fun e=>h (by injection e with e1;exact e1.symm))
theorem Jwl{w:World}{S:Nat}{x0 x1 x2 x3 a b c d:Value}{e:TypeId}(h:w.heap[S]?=some (.cells #[x0,x1,x2,x3] e (0,0))):
 ((((w.setCell ⟨S,0,none⟩ a).setCell ⟨S,1,none⟩ b).setCell ⟨S,2,none⟩ c).setCell ⟨S,3,none⟩ d).heap[S]?=some (.cells #[a,b,c,d] e (0,0)):=by
 simp[World.setCell,Yh,h]
theorem Uq2{w:World}{S:Nat}{a b a':Value}{e:TypeId}(h:w.heap[S]?=some (.cells #[a,b] e (0,0))):(w.setCell ⟨S,0,none⟩ a').heap[S]?=some (.cells #[a',b] e (0,0)):=by
 simp[World.setCell,Yh,h]
theorem Qzo{w:World}{S:Nat}{a b c d:Value}{e:TypeId}(h:w.heap[S]?=some (.cells #[a,b,c,d] e (0,0))):w.cell? ⟨S,0,none⟩=some a∧w.cell? ⟨S,1,none⟩=some b∧w.cell? ⟨S,2,none⟩=some c∧w.cell? ⟨S,3,none⟩=some d∧w.frozen? ⟨S,2,none⟩=false∧w.frozen? ⟨S,3,none⟩=false∧S<w.heap.size:=by
 refine⟨by simp[World.cell?,h],by simp[World.cell?,h],by simp[World.cell?,h],by simp[World.cell?,h],by simp[World.frozen?,h],by simp[World.frozen?,h],(Zq.1 h).1⟩
theorem Yqm{T S:Nat}{w:World}{a b c d:Value}(h:Qql T w)(hS:T<S):Qql T ((((w.setCell ⟨S,0,none⟩ a).setCell ⟨S,1,none⟩ b).setCell ⟨S,2,none⟩ c).setCell ⟨S,3,none⟩ d):=
 h.keep (M:=At S) (((((Qqb.refl (At S) w).setCell (p:=⟨S,0,none⟩) (fun _=>rfl) _).setCell (p:=⟨S,1,none⟩) (fun _=>rfl) _).setCell (p:=⟨S,2,none⟩) (fun _=>rfl) _).setCell (p:=⟨S,3,none⟩) (fun _=>rfl) _) fun k hk h=>by unfold At at h;omega
theorem Yqn{T S:Nat}{w0 w:World}{a b c d:Value}(h:Qqb (At T) w0 w)(hS:w0.heap.size≤S):Qqb (At T) w0 ((((w.setCell ⟨S,0,none⟩ a).setCell ⟨S,1,none⟩ b).setCell ⟨S,2,none⟩ c).setCell ⟨S,3,none⟩ d):=
 (((h.setCell (p:=⟨S,0,none⟩) (fun h=>absurd h (Nat.not_lt_of_le hS)) _).setCell (p:=⟨S,1,none⟩) (fun h=>absurd h (Nat.not_lt_of_le hS)) _).setCell (p:=⟨S,2,none⟩) (fun h=>absurd h (Nat.not_lt_of_le hS)) _).setCell (p:=⟨S,3,none⟩) (fun h=>absurd h (Nat.not_lt_of_le hS)) _
def Jzu(_:Nat→Prop)(_:World)(c:Col)(cs:List Value):Prop:=Uv4 c cs
theorem Qxp:Qx8 Jzu where
 keep h _:=h
 weak h _:=h
 one h:=Jjh default _ _ h
theorem Qjk{w:World}{S:Nat}{a b:Value}{e:TypeId}(h:w.heap[S]?=some (.cells #[a,b] e (0,0))):w.cell? ⟨S,0,none⟩=some a∧w.cell? ⟨S,1,none⟩=some b∧w.frozen? ⟨S,0,none⟩=false∧w.frozen? ⟨S,1,none⟩=false∧S<w.heap.size:=by
 refine⟨by simp[World.cell?,h],by simp[World.cell?,h],by simp[World.frozen?,h],by simp[World.frozen?,h],(Zq.1 h).1⟩
theorem Jwm{w:World}{S:Nat}{a b v:Value}{e:TypeId}(h:w.heap[S]?=some (.cells #[a,b] e (0,0))):(w.setCell ⟨S,1,none⟩ v).heap[S]?=some (.cells #[a,v] e (0,0)):=by
 simp[World.setCell,Yh,h]
theorem Yqo{T S r:Nat}{w0 wc w':World}{v x:Value}{nm:ByteArray}{er:TypeId}(hk:Qqb (Qq4 v) wc w')(HO:∀k,Qq4 v k→S+1≤k)(hT:T<S)(hr:r<S)(h0:w0.heap.size≤S)(hS:wc.heap[S]?=some (.cells #[nm,x] er (0,0)))
 (hR:wc.heap[r]?=some (.cells #["",()] er (0,0)))(ht:Qql T wc)(hkk:Qqb (At T) w0 wc):
 w'.heap[S]?=some (.cells #[nm,x] er (0,0))∧w'.heap[r]?=some (.cells #["",()] er (0,0))∧Qql T w'∧Qqb (At T) w0 w':=by
 refine⟨(hk.block _ (Zq.1 hS).1 fun h=>?_).trans hS,(hk.block _ (Zq.1 hR).1 fun h=>?_).trans hR,ht.keep hk fun k h1 h2=>?_,hkk.then hk fun k h1 h2=>?_⟩
 ·have:=HO _ h;omega
 ·have:=HO _ h;omega
 ·have:=HO _ h2;omega
 ·have:=HO _ h2;omega
def Yj4(key:Nat)(i:Nat)(c:Col):Prop:=c.name=Qjf ((3*i+key)%8)∧1≤c.type∧c.type≤3∧c.key=decide (key=i)∧(c.key=true→c.notNull=true)
theorem Yya{T S r tot m' key idx:Nat}{w0 w':World}{nm:ByteArray}{x:Value}{a':Option Addr}{n' p':Nat}{cols:List Col}{ty:Int}{nn kk:Bool}(hT:T<S)(hr:r<S)(h0:w0.heap.size≤S)(hnm:cols.length+(m'+1)=tot+1)(hidx:(cols.length*3+key)%8=idx)(h1:1≤ty)(h3:ty≤3)(hkk:kk=decide (key=cols.length))(hnn:kk=true→nn=true)
 (hall:∀i c,cols[i]?=some c→Yj4 key i c)(hS:w'.heap[S]?=some (.cells #[nm,x] 29 (0,0)))(hR:w'.heap[r]?=some (.cells #["",()] 29 (0,0)))
 (hG:Qqn (S+1) w' 106 4 Jzu (Qv a' n' p') (cols++[⟨Qjf idx,ty,nn,kk⟩]))(ht:Qql T w')(hk:Qqb (At T) w0 w'):
 ∃(n m:Nat) (v:Value) (cols:List Col),n+m=tot+1∧Value.int .i64 (m':Int)=.int .i64 m∧cols.length=n∧(∀i c,cols[i]?=some c→Yj4 key i c)∧(w'.setCell ⟨S,1,none⟩ (Qv a' n' p')).heap[S]?=some (.cells #[nm,v] 29 (0,0))∧
  (w'.setCell ⟨S,1,none⟩ (Qv a' n' p')).heap[r]?=some (.cells #["",()] 29 (0,0))∧Qqn (S+1) (w'.setCell ⟨S,1,none⟩ (Qv a' n' p')) 106 4 Jzu v cols∧Qql T (w'.setCell ⟨S,1,none⟩ (Qv a' n' p'))∧Qqb (At T) w0 (w'.setCell ⟨S,1,none⟩ (Qv a' n' p')):=by
 have ks:Qqb (At S) w' (w'.setCell ⟨S,1,none⟩ (Qv a' n' p')):=(Qqb.refl (At S) w').setCell (p:=⟨S,1,none⟩) (fun _=>rfl) _
 refine⟨cols.length+1,m',_,_,by omega,rfl,by simp,fun i c hi=>?_,Jwm hS,?_,hG.keep Qxp ks fun k h1 _ h=>by unfold At at h;omega,ht.keep ks fun k h1 h=>by unfold At at h;omega,
  hk.setCell (p:=⟨S,1,none⟩) (fun h=>absurd h (Nat.not_lt_of_le h0)) _⟩
 ·by_cases hlt:i<cols.length
  ·rw[Jv hlt] at hi;exact hall i c hi
  ·rw[Jj (by omega)] at hi;have h5:=(Yq.1 hi).1;simp at h5;obtain rfl:i=cols.length:=by omega
   simp at hi;subst hi;refine⟨?_,h1,h3,hkk,hnn⟩;rw[←hidx,Nat.mul_comm]
 ·rw[Below.heap_setCell _ _ _ _ (by simp;omega)];exact hR
theorem Uxp{T S r g:Nat}{w0 wr wc:World}{nm:ByteArray}{x v u1 u2:Value}{cols:List Col}(hgS:S<g)(hT:T<S)(hr:r<S)(h0:w0.heap.size≤S)(hO:∀k,Qq4 v k→S+1≤k∧k<wr.heap.size)(hgr:wr.heap.size≤g)(hS:wc.heap[S]?=some (.cells #[nm,x] 29 (0,0)))
 (hR:wc.heap[r]?=some (.cells #["",()] 29 (0,0)))(hG:Qqn (S+1) wc 106 4 Jzu v cols)(ht:Qql T wc)(hk:Qqb (At T) w0 wc):
 ((wc.setCell ⟨g,3,none⟩ u1).setCell ⟨g,2,none⟩ u2).heap[S]?=some (.cells #[nm,x] 29 (0,0))∧((wc.setCell ⟨g,3,none⟩ u1).setCell ⟨g,2,none⟩ u2).heap[r]?=some (.cells #["",()] 29 (0,0))∧
   Qqn (S+1) ((wc.setCell ⟨g,3,none⟩ u1).setCell ⟨g,2,none⟩ u2) 106 4 Jzu v cols∧Qql T ((wc.setCell ⟨g,3,none⟩ u1).setCell ⟨g,2,none⟩ u2)∧Qqb (At T) w0 ((wc.setCell ⟨g,3,none⟩ u1).setCell ⟨g,2,none⟩ u2):=by
 have ks:Qqb (At g) wc ((wc.setCell ⟨g,3,none⟩ u1).setCell ⟨g,2,none⟩ u2):=((Qqb.refl (At g) wc).setCell (p:=⟨g,3,none⟩) (fun _=>rfl) _).setCell (p:=⟨g,2,none⟩) (fun _=>rfl) _;refine⟨(ks.block _ (Zq.1 hS).1 fun h=>?_).trans hS,(ks.block _ (Zq.1 hR).1 fun h=>?_).trans hR,Qqf.kept hG ks (fun k h hg=>?_) fun _ _ _ h=>h,ht.keep ks fun k h1 h=>?_,hk.then ks fun k h1 h=>?_⟩
 all_goals try unfold At at h
 ·omega
 ·omega
 ·unfold At at hg;have:=hO k h;omega
 ·omega
 ·omega
def Jwn(s:Sch):Prop:=(∃i:Nat,i<8∧s.name=Qjf i)∧1≤s.cols.length∧s.cols.length≤5∧∃key:Nat,key<4∧∀i c,s.cols[i]?=some c→Yj4 key i c
def Uwi(w:World)(v:Value)(w':World):Prop:=∃s vc,v=.agg #[s.name,vc]∧Jwn s∧Qq1 (Out w.heap.size w'.heap.size) w' vc s.cols
theorem Qkv{P:Program}{w:World}{ops:Array Oper}{o:Oper}{a:Act}{K:Act→World→Prop}{Q:Exit→Act→World→Prop}{E:Prop}(hgd:o.guard=none)(s x:Operand)(t:TypeId)
 (ho:o.op=.call {callee:=.builtin .append,args:=#[s,x],argTypes:=#[t,t]})
 (e:TypeId)(z:Value)(size bytes:Nat)(ht:P.underlying t=some (.slice e))(hinfo:(P.info? e).map (fun i=>(i.zero,i.size,i.bytes))=some (some z,size,bytes))(hzs:z.cells.size=size)(hsz:0<size)
 {α:Type}{R:α→List Value→Prop}{M:Nat→Prop}(lo:Nat)(v src:Value)(xs ys:List α)(hs:a.eval s=v)(hx:a.eval x=src)(hown:Qqf lo w e size R v xs)(hsrc:Qqa M w size R src ys)(hne:ys≠[])
 (h1:∀y∈ys,∀cs,R y cs→∀u∈cs,u.oneCell'=true)(hN:(xs.length+ys.length)*bytes≤140737488355328)(hN2:xs.length+ys.length≤maxLen)(hlo:lo≤w.heap.size)
 (h:∀v' w',Qqf lo w' e size R v' (xs++ys)→Qqb (Qq4 v) w w'→(∀k,Qq4 v' k→Qq4 v k∨k=w.heap.size)→K (a.put o.dst v') w'):
 if Region.wanted o (yielded ops a.tmps)=true then Oper.wp P o a w K Q else E:=by
 obtain⟨i0,hi0,hz0,hz1,hz2⟩:=info_parts hinfo;obtain⟨css,hro,hl,hcs,hR⟩:=hown;obtain⟨dss,hds,hdl,hRd⟩:=hsrc
 rcases hds with⟨_,hd0⟩|⟨b,of,cap,rfl,hT,hb,hlc,hm,hc⟩
 ·subst hd0;exact absurd (Yd (by simpa using hdl.symm)) hne
 ·have hdsz:∀ds∈dss,ds.length=size:=fun ds h'=>let⟨i,hi⟩:=Kx.1 h';(hc i ds hi).1
  have hone:∀u∈dss.flatten,u.oneCell'=true:=by
   intro u hu;obtain⟨ds,hds,hu⟩:=List.mem_flatten.1 hu;obtain⟨i,hi⟩:=Kx.1 hds;have hlt:i<ys.length:=by rw[←hdl];exact(Yq.1 hi).1
   exact h1 _ (Yo hlt) ds (hRd i _ ds (Zg hlt) hi) u hu
  have hm0:0<dss.length:=by rw[hdl];exact Jn.2 hne
  refine step_append_lies w hgd s x t ho lo e i0 z size bytes ht hi0 hz0 hz1 hz2 hzs hsz v css.length css.flatten hs hro ⟨b,of,none⟩ dss.length cap dss.flatten hx (Qxl size dss hdsz) (Jz3 hc) hone hm0 (by rw[hl,hdl];exact hN2) (by rw[hl,hdl];exact hN) hlo w.heap.size rfl ?_;intro g cp w' how hg hat _
  refine h _ w' ⟨css++dss,by simpa using how,by simp[hl,hdl],fun cs hc=>?_,fun i y cs hi hc=>?_⟩ (Qqb.grownBy hg) fun k hk=>by
   have hk':g=k:=by simpa[Qq4,Value.ownBlock] using hk
   subst hk';exact hat
  ·rcases Yf.1 hc with hc|hc
   ·exact hcs cs hc
   ·exact hdsz cs hc
  ·by_cases hlt:i<xs.length
   ·rw[Jv hlt] at hi;rw[Jv (by omega)] at hc;exact hR i y cs hi hc
   ·rw[Jj (by omega)] at hi;rw[Jj (by omega),hl] at hc;exact hRd _ y cs hi hc
theorem Jve{α:Type}{M:Nat→Prop}{w:World}{arr:Array Value}{e:TypeId}{size g:Nat}{R:α→List Value→Prop}(x:α)(hh:w.heap[g]?=some (.cells arr e (0,0)))(hT:¬M g)(hs:arr.toList.length=size)(hR:R x arr.toList):
 Qqa M w size R (Qv (some ⟨g,0,none⟩) 1 1) [x]:=by
 refine⟨[arr.toList],.inr ⟨g,0,1,rfl,hT,(Zq.1 hh).1,by simp,by unfold maxLen;omega,fun i cs hi=>?_⟩,rfl,fun i y cs hi hc=>?_⟩
 ·match i with
  |0=>
   simp at hi;subst hi;refine⟨hs,fun j u hu=>?_⟩;rw[cell_of_row w g _ arr e (0,0) hh];simpa using hu
  |i+1=>simp at hi
 ·match i with
  |0=>simp at hi hc;subst hi;subst hc;exact hR
  |i+1=>simp at hi
theorem Uq3{P:Program}{w:World}{ops:Array Oper}{o:Oper}{a:Act}{K:Act→World→Prop}{Q:Exit→Act→World→Prop}{E:Prop}(hgd:o.guard=none)(s x:Operand)(t:TypeId)
 (ho:o.op=.call {callee:=.builtin .append,args:=#[s,x],argTypes:=#[t,t]})
 (e:TypeId)(z:Value)(size bytes:Nat)(ht:P.underlying t=some (.slice e))(hinfo:(P.info? e).map (fun i=>(i.zero,i.size,i.bytes))=some (some z,size,bytes))(hzs:z.cells.size=size)(hsz:0<size)
 {α:Type}{R:α→List Value→Prop}{M:Nat→Prop}(lo:Nat)(v src:Value)(xs ys:List α)(hs:a.eval s=v)(hx:a.eval x=src)(hown:Qqf lo w e size R v xs)(hsrc:Qqa M w size R src ys)
 (h1:∀y∈ys,∀cs,R y cs→∀u∈cs,u.oneCell'=true)(hN:(xs.length+ys.length)*bytes≤140737488355328)(hN2:xs.length+ys.length≤maxLen)(hlo:lo≤w.heap.size)
 (h:∀v' w',Qqf lo w' e size R v' (xs++ys)→Qqb (Qq4 v) w w'→K (a.put o.dst v') w'):
 if Region.wanted o (yielded ops a.tmps)=true then Oper.wp P o a w K Q else E:=by
 by_cases hne:ys=[]
 ·subst hne;have hw:Region.wanted o (yielded ops a.tmps)=true:=by simp[Region.wanted,hgd]
  rw[if_pos hw];obtain⟨i0,hi0,hz0,hz1,hz2⟩:=info_parts hinfo;have hown0:=hown;obtain⟨css,hro,hl,hcs,hR⟩:=hown;obtain⟨dss,hds,hdl,_⟩:=hsrc;obtain rfl:dss=[]:=Yd hdl
  have key:∀ad:Addr,∀c,src=Qv (some ad) 0 c→Oper.wp P o a w K Q:=by
   intro ad c hsrc;subst hsrc;obtain⟨v',w',hrun,how,hg,_⟩:=run_append_own w lo t o.type e i0 z size bytes ht hi0 hz0 hz1 hz2 hzs hsz v css.length css.flatten hro ad 0 c [] (by simp) (by simp) (by simp) (by rw[hl];simpa using hN2) (by rw[hl];simpa using hN) hlo;unfold Oper.wp;simp[execOp,ho,Go.resolve,Go.invoke,Go.builtin,hs,hx,hrun,Result.andThen];exact h _ _ (by rw[Jb];exact⟨css,by simpa using how,hl,hcs,hR⟩) (Qqb.grownBy hg)
  rcases hds with⟨⟨A,hA⟩,_⟩|⟨b,of,cap,hA,_⟩
  ·rcases A with _|ad
   ·subst hA;have hrun:=run_append_owned_none (P:=P) (w:=w) lo t o.type e i0 size ht hi0 v css.length css.flatten hro;unfold Oper.wp;simp[execOp,ho,Go.resolve,Go.invoke,Go.builtin,hs,hx,hrun,Result.andThen];exact h _ _ (by rw[Jb];exact hown0) (Qqb.refl _ _)
   ·exact key ad 0 hA
  ·exact key ⟨b,of,none⟩ cap hA
 ·exact Qkv hgd s x t ho e z size bytes ht hinfo hzs hsz lo v src xs ys hs hx hown hsrc hne h1 hN hN2 hlo fun v' w' h1 h2 _=>h v' w' h1 h2
def Qxv(ts:List Sch)(fs:List Frm)(want:Int)(e:Ex):Prop:=(Qkp ts e fs).2=0∧((Qkp ts e fs).1=0∨(Qkp ts e fs).1=want)
def opX(k o:Int)(no:Bool)(args:List Ex)(sub:List Qu):Ex:=.mk k o no Qvs es es args sub
def Qzg(k o:Int)(no:Bool)(n:Nat):Prop:=
 ((k=3∨k=4)∧o=0∧no=false∧n=1)∨(k=6∧o=0∧n=1)∨(k=5∧1≤o∧o≤13∧no=false∧n=2)∨(k=7∧o=0∧no=false∧n=3)
def Qqi(n:Int):Ex:=if n<0 then Uz7 (Qkk ⟨1, -n,es⟩) else Qkk ⟨1,n,es⟩
theorem Jwo(ts:List Sch)(fs:List Frm)(want:Int)(v:Val)(h:v.kind=0∨v.kind=want):Qxv ts fs want (Qkk v):=by
 unfold Qxv;rw[Qku];exact⟨rfl,h⟩
theorem Jzd(ts:List Sch)(fs:List Frm)(a:Ex)(h:(Qkp ts a fs).2=0):Jq3 ts [a] fs=.ok [(Qkp ts a fs).1]:=by simp[Jq3,h]
theorem Jkm(ts:List Sch)(fs:List Frm)(a b:Ex)(h:(Qkp ts a fs).2=0)(h2:(Qkp ts b fs).2=0):Jq3 ts [a,b] fs=.ok [(Qkp ts a fs).1,(Qkp ts b fs).1]:=by simp[Jq3,h,h2]
theorem Yxu(ts:List Sch)(fs:List Frm)(a b c:Ex)(h:(Qkp ts a fs).2=0)(h2:(Qkp ts b fs).2=0)(h3:(Qkp ts c fs).2=0):Jq3 ts [a,b,c] fs=.ok [(Qkp ts a fs).1,(Qkp ts b fs).1,(Qkp ts c fs).1]:=by simp[Jq3,h,h2,h3]
theorem Qk7{t want:Int}(h:t=0∨t=want):Jwe t want=true:=by
 rcases h with rfl|rfl<;>simp[Jwe]
theorem Jze{t s want:Int}(h:t=0∨t=want)(h2:s=0∨s=want):Jwe t s=true:=by
 rcases h with rfl|rfl<;>rcases h2 with rfl|rfl<;>simp[Jwe]
theorem Yxv{ts:List Sch}{fs:List Frm}{a:Ex}(h:Qxv ts fs 1 a):Qxv ts fs 1 (Uz7 a):=by
 unfold Qxv;rw[Qku];have hl:=Jzd ts fs a h.1;simp[Uz7,Qvz,Ex.kind,Ex.args,Ex.sub,Ex.op,hl,Qxu,Yj2,Qk7 h.2]
theorem Uxq(ts:List Sch)(fs:List Frm)(n:Int):Qxv ts fs 1 (Qqi n):=by
 unfold Qqi
 split
 ·exact Yxv (Jwo _ _ _ _ (.inr rfl))
 ·exact Jwo _ _ _ _ (.inr rfl)
theorem Uxr{ts:List Sch}{fs:List Frm}{a:Ex}(h:Qxv ts fs 2 a):Qxv ts fs 2 (opX 3 0 false [a] []):=by
 unfold Qxv;rw[Qku];have hl:=Jzd ts fs a h.1;simp[opX,Qvz,Ex.kind,Ex.args,Ex.sub,Ex.op,hl,Qxu,Yj2,Qk7 h.2]
theorem Yxw{ts:List Sch}{fs:List Frm}{a:Ex}{want:Int}(no:Bool)(h:Qxv ts fs want a):Qxv ts fs 2 (opX 6 0 no [a] []):=by
 unfold Qxv;rw[Qku];have hl:=Jzd ts fs a h.1;simp[opX,Qvz,Ex.kind,Ex.args,Ex.sub,hl,Qxu]
theorem Jqp{ts:List Sch}{fs:List Frm}{a b:Ex}(o:Int)(h1:9≤o)(h2:o≤13)(ha:Qxv ts fs 1 a)(hb:Qxv ts fs 1 b):Qxv ts fs 1 (Qqc o a b):=by
 unfold Qxv;rw[Qku];have hl:=Jkm ts fs a b ha.1 hb.1;have h3:1≤o:=by omega
 have h4:¬o≤2:=by omega
 simp[Qqc,Qvz,Ex.kind,Ex.args,Ex.sub,Ex.op,hl,Qxu,Yj2,Qk7 ha.2,Qk7 hb.2,h1,h2,h3,h4]
theorem Yvt{ts:List Sch}{fs:List Frm}{a b:Ex}(o:Int)(h1:1≤o)(h2:o≤2)(ha:Qxv ts fs 2 a)(hb:Qxv ts fs 2 b):Qxv ts fs 2 (Qqc o a b):=by
 unfold Qxv;rw[Qku];have hl:=Jkm ts fs a b ha.1 hb.1;have h3:o≤13:=by omega
 simp[Qqc,Qvz,Ex.kind,Ex.args,Ex.sub,Ex.op,hl,Qxu,Yj2,Qk7 ha.2,Qk7 hb.2,h1,h2,h3]
theorem Uxs{x y want:Int}(hx:x=0∨x=want)(hy:y=0∨y=want):Yxk [x,y]=true:=by
 simp[Yxk,List.range,List.range.loop,Yj2,Jze hx hy]
theorem Yvu{x y z want:Int}(hx:x=0∨x=want)(hy:y=0∨y=want)(hz:z=0∨z=want):Yxk [x,y,z]=true:=by
 simp[Yxk,List.range,List.range.loop,Yj2,Jze hx hy,Jze hx hz,Jze hy hz]
theorem Yj5{ts:List Sch}{fs:List Frm}{a b:Ex}{want:Int}(o:Int)(h1:3≤o)(h2:o≤8)(ha:Qxv ts fs want a)(hb:Qxv ts fs want b):Qxv ts fs 2 (Qqc o a b):=by
 unfold Qxv;rw[Qku];have hl:=Jkm ts fs a b ha.1 hb.1;have h3:1≤o:=by omega
 have h4:¬o≤2:=by omega
 have h5:¬9≤o:=by omega
 have h6:o≤13:=by omega
 simp[Qqc,Qvz,Ex.kind,Ex.args,Ex.sub,Ex.op,hl,Qxu,Uxs ha.2 hb.2,h3,h4,h5,h6]
theorem Yj6{ts:List Sch}{fs:List Frm}{a b c:Ex}(ha:Qxv ts fs 1 a)(hb:Qxv ts fs 1 b)(hc:Qxv ts fs 1 c):Qxv ts fs 2 (opX 7 0 false [a,b,c] []):=by
 unfold Qxv;rw[Qku];have hl:=Yxu ts fs a b c ha.1 hb.1 hc.1;simp[opX,Qvz,Ex.kind,Ex.args,Ex.sub,Ex.op,hl,Qxu,Yvu ha.2 hb.2 hc.2]
def Uwj(ts:List Sch)(fs:List Frm)(k:Int)(items:List Ex):Prop:=((k=8∨k=9)∧items=[])∨((k=10∨k=11∨k=12)∧∃x,items=[x]∧Qxv ts fs 1 x)
def Yyb(ts:List Sch)(fs:List Frm)(whr:List Ex):Prop:=whr=[]∨∃x,whr=[x]∧Qxv ts fs 2 x
theorem Yvv{ts:List Sch}{fs:List Frm}{whr:List Ex}(h:Yyb ts fs whr):Yxm ts whr fs=0∧whr.length≤1:=by
 rcases h with rfl|⟨x,rfl,hx⟩
 ·exact⟨by simp[Yxm],by simp⟩
 ·refine⟨?_,by simp⟩;rw[Yxm]
  cases h:Qkp ts x fs with
  |mk t c=>
   have h1:=hx.1;have h2:=hx.2;rw[h] at h1 h2;simp only at h1 h2;simp[Uyz,h1,Qk7 h2]
theorem Yvw{ts:List Sch}{fs:List Frm}(k:Int)(st:Bool)(items whr:List Ex)(s:Sch)(hs:Jvy ts s.name=some s)(hi:Uwj ts (fs++[Qj6 s]) k items)(hw:Yyb ts (fs++[Qj6 s]) whr):
 Qxv ts fs (if k=8 then 2 else 1) (opX k 0 false [] [.mk st items s.name whr]):=by
 obtain⟨hw1,hw2⟩:=Yvv hw;unfold Qxv;rw[Qku]
 rcases hi with⟨rfl|rfl,rfl⟩|⟨rfl|rfl|rfl,x,rfl,hx⟩
 ·simp[opX,Qvz,Ex.kind,Ex.args,Ex.sub,Jxu,Yw3,hs,Yxl,Qu.items,Qu.whr,hw2,Jq3,hw1,Uv7]
 ·simp[opX,Qvz,Ex.kind,Ex.args,Ex.sub,Jxu,Yw3,hs,Yxl,Qu.items,Qu.whr,hw2,Jq3,hw1,Uv7]
 all_goals
  have hl:=Jzd ts (fs++[Qj6 s]) x hx.1;have hf:=Qk7 hx.2;simp[opX,Qvz,Ex.kind,Ex.args,Ex.sub,Jxu,Yw3,hs,Yxl,Qu.items,Qu.whr,hw2,hl,hw1,Uv7,hf]
  try exact hx.2
def Jzv(look:List UInt8→List Col)(fs:List Frm)(ss:List Sch):Prop:=
 (∀f∈fs,f.cols=look f.name.toList∧f.name.toList≠[])∧(∀s∈ss,s.cols=look s.name.toList∧s.name.toList≠[])∧(∀(n:List UInt8) (i j:Nat) (a b:Col),(look n)[i]?=some a→(look n)[j]?=some b→a.name.toList=b.name.toList→i=j)
theorem Jzv.inside{look:List UInt8→List Col}{fs:List Frm}{ss:List Sch}{s:Sch}(h:Jzv look fs ss)(hs:s∈ss):Jzv look (fs++[Qj6 s]) ss:=by
 refine⟨fun f hf=>?_,h.2⟩;rcases Yf.1 hf with hf|hf
 ·exact h.1 f hf
 ·simp at hf;subst hf;exact h.2.1 s hs
theorem Jzv.sub{look:List UInt8→List Col}{fs fs':List Frm}{ss ss':List Sch}(h:Jzv look fs ss)(h1:∀f∈fs',f∈fs)(h2:∀s∈ss',s∈ss):Jzv look fs' ss':=
 ⟨fun f hf=>h.1 f (h1 f hf),fun s hs=>h.2.1 s (h2 s hs),h.2.2⟩
theorem Jwp{l:List Col}(hn:∀(i j:Nat) (a b:Col),l[i]?=some a→l[j]?=some b→a.name.toList=b.name.toList→i=j){i:Nat}{c:Col}(hi:l[i]?=some c):Qx5 l c.name=some i:=
 Jqm hi (by simp[Jjf]) fun j y hj hy=>by
  unfold Jjf
  cases h:(y.name.toList==c.name.toList) with
  |false=>rfl
  |true=>have:=hn j i y c hy hi (by simpa using h);omega
theorem Jq4{q n:ByteArray}:∀{fs:List Frm} {i j:Nat},resolve q n fs=some (i,j)→∃f,fs[i]?=some f∧Qxm q n f=some j
 |[],i,j,h=>by simp[resolve] at h
 |f::fs,i,j,h=>by
  rw[resolve] at h
  cases hr:resolve q n fs with
  |some p=>
   obtain⟨i',j'⟩:=p;rw[hr] at h;simp at h;obtain⟨rfl,rfl⟩:=h;obtain⟨g,hg,hk⟩:=Jq4 hr;exact⟨g,by simpa using hg,hk⟩
  |none=>
   rw[hr] at h
   cases hk:Qxm q n f with
   |none=>rw[hk] at h;simp at h
   |some k=>
    rw[hk] at h;simp at h;obtain⟨rfl,rfl⟩:=h;exact⟨f,rfl,hk⟩
theorem Jq5{q n:ByteArray}:∀{fs:List Frm},resolve q n fs=none→∀f∈fs,Qxm q n f=none
 |[],_,f,hf=>by cases hf
 |g::fs,h,f,hf=>by
  rw[resolve] at h
  cases hr:resolve q n fs with
  |some p=>rw[hr] at h;simp at h
  |none=>
   rw[hr] at h;rcases Zs.1 hf with rfl|hf
   ·cases hk:Qxm q n f with
    |none=>rfl
    |some k=>rw[hk] at h;simp at h
   ·exact Jq5 hr f hf
theorem Jwq{fs:List Frm}{i k:Nat}{f:Frm}{c:Col}(hf:fs[i]?=some f)(hc:f.cols[k]?=some c):Jxt fs i k=c.type:=by simp[Jxt,hf,hc]
theorem Yqp{ts:List Sch}{fs:List Frm}{q n:ByteArray}{i k:Nat}{want:Int}(hr:resolve q n fs=some (i,k))(ht:Jxt fs i k=want):Qxv ts fs want (Qqp q n):=by
 unfold Qxv;rw[Qku];simp[Qqp,Qvz,Ex.kind,Ex.args,Ex.sub,Ex.table,Ex.name,hr,ht]
theorem Uq4{look:List UInt8→List Col}{ts:List Sch}{fs:List Frm}{ss:List Sch}{f:Frm}{c:Col}(h:Jzv look fs ss)(hf:f∈fs)(hc:c∈f.cols):Qxv ts fs c.type (Qqp f.name c.name):=by
 obtain⟨k,hk⟩:=Kx.1 hc;have hfn:=h.1 f hf;have hn:=h.2.2 f.name.toList;rw[←hfn.1] at hn;have hff:=Jwp hn hk
 have hfit:Yxj f.name f=true:=by
  have:(f.name.toList==[])=false:=by simp[hfn.2]
  simp[Yxj,this]
 cases hr:resolve f.name c.name fs with
 |none=>
  have:=Jq5 hr f hf;rw[Qxm,if_pos hfit,hff] at this;cases this
 |some p=>
  obtain⟨i,j⟩:=p;obtain⟨g,hg,hk'⟩:=Jq4 hr;have hgm:=h.1 g (Yk hg);unfold Qxm at hk'
  split at hk'
  ·rename_i hfg
   have hname:g.name.toList=f.name.toList:=by
    have:(f.name.toList==[])=false:=by simp[hfn.2]
    simpa[Yxj,this] using hfg
   have hcols:g.cols=f.cols:=by rw[hgm.1,hfn.1,hname]
   rw[hcols,hff] at hk';cases hk';exact Yqp hr (Jwq hg (by rw[hcols];exact hk))
  ·cases hk'
theorem Uq5{look:List UInt8→List Col}{ts:List Sch}{fs:List Frm}{ss:List Sch}{f:Frm}{c:Col}(h:Jzv look (fs++[f]) ss)(hs:f.strict=false)(hc:c∈f.cols):Qxv ts (fs++[f]) c.type (Qqp ⟨#[]⟩ c.name):=by
 obtain⟨k,hk⟩:=Kx.1 hc;have hfn:=h.1 f (by simp);have hn:=h.2.2 f.name.toList;rw[←hfn.1] at hn;have hff:=Jwp hn hk
 have hr:resolve ⟨#[]⟩ c.name (fs++[f])=some (fs.length,k):=by
  rw[Yj1,Qxm,if_pos (by simp[Yxj,hs]),hff]
 exact Yqp hr (Jwq (f:=f) (by simp) hk)
end Go.Proofs.YtgepbohjmgaojaaGreatDoor
