/- Triggers of the tape (Trigger). -/
import Derived.Test.YtgepbohjmgaojaaGreatDoorVG10
set_option linter.all false
namespace Go.Proofs.YtgepbohjmgaojaaGreatDoor
open World renaming setCells→Qy
open Value renaming slice→Qv
open Lib(hid)
open Go.RowKit
instance:CoeDep String "T" (Array Value):=⟨#["","",false,"0",(),false,(),(),(),(),()]⟩
section
variable{P:Program} {ops:Array Oper} {Q:Exit→Act→World→Prop} {md:Region.Mode} {S:World→Prop} {z:Nat}
def Kxf(P:Program)(md:Region.Mode)(ops:Array Oper)(Q:Exit→Act→World→Prop)(S:World→Prop)(z:Nat):Nat→Array Bool→Act→World→Prop
 |0,L,a,w=>Region.ready md ops L=[]∧Q .normal a w
 |n+1,L,a,w=>(Region.ready md ops L=[]→Q .normal a w)∧∀i∈Region.ready md ops L,wpOp P ops Q i (fun a' w'=>((L.setIfInBounds i true).getD z true=true∨S w')∧Kxf P md ops Q S z n (L.setIfInBounds i true) a' w') a w
theorem Kxh:∀(n:Nat) (L:Array Bool) (a:Act) (w:World),Kxf P md ops Q S z n L a w→wpAny P md ops Q n L a w
 |0,_,_,_,h=>h
 |n+1,_,_,_,h=>⟨h.1,fun i hi=>wpOp_mono (fun a' w' h'=>Kxh n _ a' w' h'.2) (h.2 i hi)⟩
def Kxn(md:Region.Mode)(ops:Array Oper)(z i:Nat):Prop:=∃oz e,ops[z]?=some oz∧e∈oz.after∧Region.binds md e=true∧e.on=i
theorem Kxi{i:Nat}{L:Array Bool}(hw:Kxn md ops z i)(hi:L.getD i true=false):z∉Region.ready md ops L:=by
 intro hz;obtain⟨oz,e,ho,he,hb,rfl⟩:=hw;obtain⟨_,o,ho',hall⟩:=mem_ready.1 hz;rw[ho] at ho';cases ho';have h1:=hall e he hb;rcases Nat.lt_or_ge e.on L.size with h'|h'
 ·simp[h'] at hi h1;rw[hi] at h1;cases h1
 ·simp[Array.getElem?_eq_none h'] at hi
theorem Kxj{i:Nat}{oi:Oper}{v:Value}(hi:ops[i]?=some oi)(hsel:∀(j:Nat) (o:Oper) cs b,ops[j]?=some o→o.op≠.select cs b)(hQ:∀c a w,Q (.panic c) (a.put oi.dst v) w→Q (.panic c) a w)(hw:Kxn md ops z i)(hzi:z≠i)(n:Nat):
 ∀(L:Array Bool) (a:Act) (w:World),(∀j oj,ops[j]?=some oj→j≠i→L.getD j true=false→(∀e∈oj.after,Region.binds md e=true→e.on≠i)→oi.apart ops oj=true)→
  i∈Region.ready md ops L→L.getD z true=false→YieldsIf P ops S oi v a→S w→Kxf P md ops Q S z n (L.setIfInBounds i true) (a.put oi.dst v) w→Kxf P md ops Q S z (n+1) L a w:=by
 induction n with
 |zero=>
  intro L a w _ hr _ hy hS H;refine⟨fun h=>(by rw[h] at hr;cases hr),fun j hj=>?_⟩;by_cases hji:j=i
  ·subst hji;exact hy.wpOp hi hS ⟨.inr hS,H⟩
  ·exact absurd (ready_mono hj hji) (by rw[H.1];exact Zo)
 |succ n ih=>
  intro L a w hap hr hz hy hS H;refine⟨fun h=>(by rw[h] at hr;cases hr),fun j hj=>?_⟩;by_cases hji:j=i
  ·subst hji;exact hy.wpOp hi hS ⟨.inr hS,H⟩
  ·have hiL:=(mem_ready.1 hr).1;have hjz:j≠z:=fun h=>Kxi hw hiL (h▸hj);obtain⟨hun,oj,hoj,hall⟩:=mem_ready.1 hj;have hno:∀e∈oj.after,Region.binds md e=true→e.on≠i:=fun e he hb heq=>Kxi (z:=j) ⟨oj,e,hoj,he,hb,heq⟩ hiL hj;refine wpOp_mono (fun a' w' h3=>?_) (wpOp_putIf hoj (hap j oj hoj hji hun hno) (fun cs b=>hsel i oi cs b hi) (fun cs b=>hsel j oj cs b hoj) hQ hy (H.2 j (ready_mono hj hji)));have hzj:(L.setIfInBounds j true).getD z true=false:=by rw[getD_set_ne true hjz];exact hz
   have hSw:S w':=h3.2.1.resolve_left fun h=>by
    rw[getD_set_ne true hjz,getD_set_ne true (Ne.symm hzi),hz] at h;cases h
   refine⟨.inr hSw,ih (L.setIfInBounds j true) a' w' (fun k ok hk hki hu hn=>hap k ok hk hki ?_ hn) (ready_mono hr (Ne.symm hji)) hzj h3.1 hSw (by rw[Array.setIfInBounds_comm _ _ hji];exact h3.2.2)⟩;by_cases hjk:j=k
   ·subst hjk;exact hun
   ·rwa [getD_set_ne true hjk] at hu
theorem tw(i:Nat){oi:Oper}{v:Value}{n:Nat}{L:Array Bool}{a:Act}{w:World}(hS:S w)(h:Kxf P md ops Q S z n (L.setIfInBounds i true) (a.put oi.dst v) w)(hi:ops[i]?=some oi:=by rfl)
 (hc:(Region.noSelect ops&&Region.free md ops L i&&(Region.ready md ops L).contains i&&!(L.getD z true)&&decide (z≠i)&&(match ops[z]? with|some oz=>oz.after.any fun e=>Region.binds md e&&e.on==i|none=>false))=true:=by kernel_rfl)
 (hQ:∀c a w,Q (.panic c) (a.put oi.dst v) w→Q (.panic c) a w:=by exact fun _ _ _ h=>h)
 (hy:YieldsIf P ops S oi v a:=by exact Or.inl ⟨by kernel_rfl,fun wh hwh=>by(try dsimp only at hwh);first|(simp[execOp,go_sem,hwh];done)|(simp[execOp,go_sem,hwh];with_reducible rfl)⟩):Kxf P md ops Q S z (n+1) L a w:=by
 simp only[Yx,Kr,Zu] at hc;obtain⟨⟨⟨⟨⟨h1,h2⟩,h3⟩,h4⟩,h5⟩,h6⟩:=hc
 have hw:Kxn md ops z i:=by
  cases ho:ops[z]? with
  |none=>rw[ho] at h6;cases h6
  |some oz=>
   rw[ho] at h6;obtain⟨e,he,hb⟩:=Array.any_eq_true'.1 h6;simp only[Yx,beq_iff_eq] at hb;exact⟨oz,e,ho,he,hb.1,hb.2⟩
 exact Kxj hi (Region.noSelect_spec h1) hQ hw h5 n L a w (Region.free_spec hi h2) (by simpa using h3) h4 hy hS h
theorem Kxg{i:Nat}{o:Oper}{n:Nat}{L:Array Bool}{a:Act}{w:World}(hr:Region.ready md ops L=[i])(ho:ops[i]?=some o)
 (h:∀K':Act→World→Prop,Shut (∀a w,((L.setIfInBounds i true).getD z true=true∨S w)→Kxf P md ops Q S z n (L.setIfInBounds i true) a w→K' a w)→if Region.wanted o (yielded ops a.tmps)=true then Oper.wp P o a w K' Q else K' (a.put o.dst undef) w):Kxf P md ops Q S z (n+1) L a w:=by
 refine⟨fun h0=>(by rw[hr] at h0;cases h0),fun j hj=>?_⟩;rw[hr] at hj;obtain rfl:=Zd.1 hj;exact wpOp_step ho fun K' hK=>h K' fun a w h1 h2=>hK a w ⟨h1,h2⟩
theorem Kxl{L:Array Bool}{a:Act}{w:World}(hr:Region.ready md ops L=[])(h:Q .normal a w):∀n,Kxf P md ops Q S z n L a w
 |0=>⟨hr,h⟩
 |_+1=>⟨fun _=>h,by rw[hr];simp⟩
theorem Kxm{id:Nat}{a:Act}{w:World}(z:Nat)(S:World→Prop)(hm:P.follows .mixedOrders=true)(h:Kxf P .any ops Q S z ops.size (Array.replicate ops.size false) a w.drew):(Code.region id ops true).wp P Q a w:=
 wp_region_any hm (Kxh _ _ _ _ h)
end
theorem Jj8:Qx8 (fun M w (a:Qzq) cs=>Qv5 M w a cs) where
 keep h k:=Qv5.keep k h
 weak h hM:=Qv5.weak hM h
 one h u hu:=by
  obtain⟨vr,vq,vs,vw,rfl,h1,h2,h3,h4⟩:=h;obtain⟨a1,c1,rfl,_⟩:=h1.shape;obtain⟨a2,c2,rfl,_⟩:=h2.shape;obtain⟨a3,c3,rfl,_⟩:=h3.shape;obtain⟨a4,c4,rfl,_⟩:=h4.shape;simp only[Jqd,Zs,Zo,Yu] at hu;rcases hu with rfl|rfl|rfl|rfl|rfl|rfl|rfl<;>rfl
theorem Uva:(Tryz.prog.info? 42).map (fun i=>(i.zero,i.size,i.bytes))=some (some (.agg #["0","",(),(),(),(),""]),7,136):=by kernel_rfl
theorem Kjp{W:World}{a:Qzq}{vr vq vs vw:Value}{lo:Nat}(h1:Qkq (Old lo) W vr a.rows)(h2:Qz1 (Old lo) W vq a.query)(h3:Qzb (Old lo) W vs a.sets)(h4:Qqq (Old lo) W vw a.whr):Qv5 (Old lo) W a (Jqd a vr vq vs vw):=
 ⟨vr,vq,vs,vw,rfl,h1.exLs,h2,h3,h4⟩
theorem Yqd:∀i<8,Qqo (Qqe i)=true:=by decide+kernel
theorem Yww:∀j<2,Qqo (Qqg j)=true∧Qjj ⟨#[]⟩ (Qqg j)=true:=by decide+kernel
theorem Uvb{j:Nat}{low d k:Int}(hj:j<2)(h1:-3≤low)(h2:low≤12)(h3:0≤d)(h4:d≤11)(h5:1≤k)(h6:k≤3):Qk3 3 (Ykk j low d k):=by
 obtain⟨hn,hc⟩:=Yww j hj;exact .update _ _ _ (by decide+kernel) (by simp) (by simp) (fun z hz=>by rw[Zd.1 hz];exact⟨hn,(Jj6 (by omega) (by omega) (.col 0 _ _ hc) (.num 0 _ (by omega) (by omega))).up (by omega)⟩) rfl (by simp) (fun y hy=>by rw[Zd.1 hy];exact .ops 2 7 0 false _ (by simp[Qzg]) fun z hz=>by simp only[Zs,Zo,Yu] at hz;rcases hz with rfl|rfl|rfl;(exact .col _ _ _ hc);(exact .num _ _ (by omega) (by omega));(exact .num _ _ (by omega) (by omega)))
def Jja(t:Qks)(vo vr vw va:Value):Array Value:=#[.string t.name,.string t.table,.bool t.before,.int .i64 t.event,vo,.bool t.each,Qv none 0 0,Qv none 0 0,vr,vw,va]
def Kjq(n:Nat)(w:World)(v:Value)(W:World):Prop:=∃(t:Qks) (vo vr vw va:Value),v=.agg (Jja t vo vr vw va)∧Qjm (Old w.heap.size) W vo t.ofs∧Qzk (Old w.heap.size) W vr t.rank∧Qqq (Old w.heap.size) W vw t.cond∧Qke (Old w.heap.size) W va t.acts∧Jxf n t
theorem Uzh{T X:Nat}{t:Qks}{vo vw va:Value}{w W W':World}{e:Ending}(hc:Yyo T X t vo () () () vw va W e W')(hT:T<w.heap.size)(hz:w.heap.size+1≤W.heap.size)
 (ho:Qjm (MG (Old (w.heap.size+1)) X) W vo t.ofs)(hw:Qqq (MG (Old (w.heap.size+1)) X) W vw t.cond)(ha:Qke (MG (Old (w.heap.size+1)) X) W va t.acts)(hg:Jxf 3 t)(hr:t.rank=[]):
 e=.returned (.tuple #[])∧Qql T W'∧Qqb (TX T X) W W'∧∃(t':Qks) (vr' vw' va':Value),W'.heap[X]?=some (.cells (Jja t' vo vr' vw' va') 35 (0,0))∧Qjm (Old (w.heap.size+1)) W' vo t'.ofs∧Qzk (Old (w.heap.size+1)) W' vr' t'.rank∧Qqq (Old (w.heap.size+1)) W' vw' t'.cond∧Qke (Old (w.heap.size+1)) W' va' t'.acts∧Jxf 3 t':=by
 obtain⟨h1,h2,hk,h4⟩:=hc
 have k':Qqb (MG (Old (w.heap.size+1)) X) W W':=hk.weak fun k _ h=>by
  unfold TX at h;unfold MG Old;rcases h with h|h
  ·left;omega
  ·right;exact h
 have hM:∀k,k<W'.heap.size→Old (w.heap.size+1) k→MG (Old (w.heap.size+1)) X k:=fun k _ h=>.inl h;have hM2:∀k,k<W'.heap.size→Old (w.heap.size+1) k→Old W.heap.size k:=fun k _ h=>by unfold Old at h⊢;omega
 have ho':=Qjm.weak hM (Qjm.keep k' ho);have hw':=Qqq.weak hM (Qqq.keep hw k');have ha':=Qke.weak hM (Qke.keep k' ha);refine⟨h1,h2,hk,?_⟩
 rcases h4 with h4|⟨hb,j,low,d,vr',hj,hl0,hl1,hd0,hd1,hrk,h4⟩
 ·exact⟨t,Qv none 0 0,vw,va,h4,ho',by rw[hr];exact Qqa.nil ..,hw',ha',hg⟩
 ·have hrk':=Qzk.weak hM2 hrk
  have hrg:∀r∈[Jzx j low d],Qqo r.table=true∧Qqo r.col=true∧-3≤r.low∧r.low≤12∧-3≤r.high∧r.high≤23:=fun r hm=>by
   rw[Zd.1 hm];exact⟨(show Qqo ⟨#[117]⟩=true by decide+kernel),(Yww j hj).1,hl0,hl1,(by show -3≤low+d;omega),(by show low+d≤23;omega)⟩
  rcases h4 with h4|⟨k,va',hk0,hk1,hva,h4⟩
  ·exact⟨{t with rank:=[Jzx j low d]},vr',vw,va,h4,ho',hrk',hw',ha',{hg with rank1:=Zz 1,rank2:=hrg,rank3:=.inr hb}⟩
  ·exact⟨{t with each:=false,rank:=[Jzx j low d],cond:=[],acts:=[Ykk j low d k]},vr',Qv none 0 0,va',h4,ho',hrk',Qqa.nil ..,Qke.weak hM2 hva,
    {hg with rank1:=Zz 1,rank2:=hrg,rank3:=.inr hb,cond1:=Zi 1,cond2:=(fun x hx=>by cases hx),acts1:=Zz 1,acts2:=Nat.le_succ 1,acts3:=fun a hm=>by rw[Zd.1 hm];exact⟨Uvb hj hl0 hl1 hd0 hd1 hk0 hk1,by simp[Jxd,Ykk,hb]⟩}⟩
theorem Uvc{T:Nat}{w W W':World}{t:Qks}{vo vr vw va:Value}(hT:T<w.heap.size)(ht:Qql T W)(hk:Qqb (At T) w W)(ks:Qqb (At w.heap.size) W W')(h1:Qjm (Old (w.heap.size+1)) W vo t.ofs)(h2:Qzk (Old (w.heap.size+1)) W vr t.rank)(h3:Qqq (Old (w.heap.size+1)) W vw t.cond)(h4:Qke (Old (w.heap.size+1)) W va t.acts)(hg:Jxf 3 t):
 Qjp T w (Kjq 3 w) (.returned (.agg (Jja t vo vr vw va))) W':=by
 have ko:Qqb (Old (w.heap.size+1)) W W':=ks.weak fun k _ h=>by unfold At at h;unfold Old;omega
 have hM:∀k,k<W'.heap.size→Old w.heap.size k→Old (w.heap.size+1) k:=fun k _ h=>by unfold Old at h⊢;omega
 exact⟨_,rfl,⟨t,vo,vr,vw,va,rfl,Qjm.weak hM (Qjm.keep ko h1),Qzk.weak hM (Qzk.keep ko h2),Qqq.weak hM (Qqq.keep h3 ko),Qke.weak hM (Qke.keep ko h4),hg⟩,ht.keep ks fun i hi h=>by unfold At at h;omega,hk.then ks fun i hi h=>by unfold At at h;omega⟩
theorem Yy6{α:Type}{w:World}{R:(Nat→Prop)→World→α→List Value→Prop}{P:Program}{ops:Array Oper}{o:Oper}{a:Act}{K:Act→World→Prop}{Q:Exit→Act→World→Prop}{E:Prop}(S:Qx8 R)(hgd:o.guard=none)(s x:Operand)(t:TypeId)
 (ho:o.op=.call {callee:=.builtin .append,args:=#[s,x],argTypes:=#[t,t]})
 (e:TypeId)(z:Value)(size bytes:Nat)(ht:P.underlying t=some (.slice e))(hinfo:(P.info? e).map (fun i=>(i.zero,i.size,i.bytes))=some (some z,size,bytes))(hzs:z.cells.size=size)(hsz:0<size)
 (lo:Nat)(v:Value)(b:Nat)(arr:Array Value)(xs:List α)(y:α)(hs:a.eval s=v)(hx:a.eval x=Qv (some ⟨b,0,none⟩) 1 1)(hb:b=w.heap.size)(hown:Qqn lo w e size R v xs)(hlen:arr.toList.length=size)(hy:R (Qjl lo v) w y arr.toList)
 (hN:(xs.length+1)*bytes≤140737488355328)(hN2:xs.length+1≤maxLen)(hlo:lo≤w.heap.size)
 (h:∀v' w',Qqn lo w' e size R v' (xs++[y])→Qqb (Qq4 v) w w'→K (a.put o.dst v') w'):
 if Region.wanted o (yielded ops a.tmps)=true then Oper.wp P o a (w.alloc (.cells arr e)) K Q else E:=by
 refine Qkv hgd s x t ho e z size bytes ht hinfo hzs hsz (R:=R (Qjl lo v) w) (M:=fun _=>False) lo v _ xs [y] hs hx ?_ (Qq6 y hb id hlen hy) (by simp) (fun _ _ cs hc=>S.one hc) (by simpa using hN) (by simpa using hN2) (by simp;omega) ?_
 ·exact Qqf.kept hown ((Qqb.refl (fun _=>False) w).alloc _) (fun _ _=>id) fun _ _ _ h=>h
 ·intro v' w' ho' hk hat;exact h v' w' (Qqn.snoc S ho' hk hat) (((Qqb.refl _ w).alloc _).trans hk)
structure TGC(T X:Nat)(w W7:World)(L:List Qqx)(W:World):Prop where
 ob:OB T w W L
 kp:Qqb (TX T X) W7 W
section
variable{T X:Nat} {w W7 W W':World} {L L':List Qqx}
theorem TGC.step(h:TGC T X w W7 L W)(ht:Qql T W')(k:Qqb (At T) W W'):TGC T X w W7 L W':=⟨h.ob.step ht k,h.kp.trans (k.weak fun _ _ e=>.inl e)⟩
theorem TGC.bel(h:TGC T X w W7 L W)(hb:Below W.heap.size W W'):TGC T X w W7 L W':=h.step (h.ob.tape.bel hb) (.bel hb)
theorem TGC.alloc(h:TGC T X w W7 L W)(o:Obj):TGC T X w W7 L (W.alloc o):=h.bel ((Below.refl _ _).alloc (Zz _) o)
theorem TGC.drew(h:TGC T X w W7 L W):TGC T X w W7 L W.drew:=⟨h.ob.drew,h.kp.drew⟩
theorem TGC.new'(h:TGC T X w W7 L W){g:Nat}(hg:g=W.heap.size)(cs:Array Value)(e:TypeId):TGC T X w W7 (⟨g,cs,e⟩::L) (W.alloc (.cells cs e)):=⟨h.ob.new' hg cs e,(h.alloc _).kp⟩
theorem TGC.sub(h:TGC T X w W7 L W)(hL:∀b∈L',b∈L):TGC T X w W7 L' W:=⟨h.ob.sub hL,h.kp⟩
theorem TGC.tl{b:Qqx}(h:TGC T X w W7 (b::L) W):TGC T X w W7 L W:=h.sub fun _ hb=>Zl _ hb
theorem TGC.put{c c':Array Value}{e:TypeId}(h:TGC T X w W7 (⟨X,c,e⟩::L) W)(i:Nat)(cs:List Value)(hL:∀b∈L,b.pos≠X)(hc:c'.toList=Qyj c.toList i cs):TGC T X w W7 (⟨X,c',e⟩::L) (W.setCells X i cs):=
 ⟨h.ob.puts i cs hL hc,h.kp.trans ((Qqj cs i W).weak fun _ _ hj=>.inr hj)⟩
theorem TGC.then{N:Nat→Prop}(h:TGC T X w W7 L W)(k:Qqb N W W')(h0:∀i,N i→w.heap.size≤i∧W7.heap.size≤i)(hL:∀b∈L,¬N b.pos):TGC T X w W7 L W':=
 ⟨h.ob.then k (fun i hi hn=>by have:=(h0 i hn).1;omega) hL,h.kp.then k fun i hi hn=>by have:=(h0 i hn).2;omega⟩
end
def MT(z X lo k:Nat):Prop:=k<z∨k=X∨lo≤k
structure TGW(T X lo:Nat)(w W7:World)(L:List Qqx)(vo:Value)(ofs:List ByteArray)(vw:Value)(cond:List Ex)(va:Value)(acts:List Qzq)(W:World):Prop where
 tc:TGC T X w W7 L W
 so:Qjm (MT (w.heap.size+1) X lo) W vo ofs
 sw:Qqq (MT (w.heap.size+1) X lo) W vw cond
 sa:Qqn lo W 42 7 (fun M w (a:Qzq) cs=>Qv5 M w a cs) va acts
 sz:lo≤W.heap.size
section
variable{T X lo:Nat} {w W7 W W':World} {L L':List Qqx} {vo vw va:Value} {ofs:List ByteArray} {cond:List Ex} {acts:List Qzq}
theorem TGW.step(h:TGW T X lo w W7 L vo ofs vw cond va acts W)(hlo:w.heap.size≤lo)(ht:Qql T W')(k:Qqb (At T) W W'):TGW T X lo w W7 L vo ofs vw cond va acts W':=by
 have hT:=h.tc.ob.lo;have k':Qqb (MT (w.heap.size+1) X lo) W W':=k.weak fun i _ e=>by unfold At at e;unfold MT;omega
 exact⟨h.tc.step ht k,Qjm.keep k' h.so,Qqq.keep h.sw k',Qqn.keep Jj8 h.sa k fun k h1 _ hh=>by unfold At at hh;omega,Ya h.sz k.size⟩
theorem TGW.bel(h:TGW T X lo w W7 L vo ofs vw cond va acts W)(hlo:w.heap.size≤lo)(hb:Below W.heap.size W W'):TGW T X lo w W7 L vo ofs vw cond va acts W':=h.step hlo (h.tc.ob.tape.bel hb) (.bel hb)
theorem TGW.alloc(h:TGW T X lo w W7 L vo ofs vw cond va acts W)(hlo:w.heap.size≤lo)(o:Obj):TGW T X lo w W7 L vo ofs vw cond va acts (W.alloc o):=h.bel hlo ((Below.refl _ _).alloc (Zz _) o)
theorem TGW.drew(h:TGW T X lo w W7 L vo ofs vw cond va acts W)(hlo:w.heap.size≤lo):TGW T X lo w W7 L vo ofs vw cond va acts W.drew:=h.step hlo h.tc.ob.tape.drew (Qqb.refl _ W).drew
theorem TGW.app(h:TGW T X lo w W7 L vo ofs vw cond va acts W)(hlo:w.heap.size≤lo)(h7:W7.heap.size≤lo)(hL:∀b∈L,b.pos<lo)(k:Qqb (Qq4 va) W W'){va':Value}{acts':List Qzq}(ha:Qqn lo W' 42 7 (fun M w (a:Qzq) cs=>Qv5 M w a cs) va' acts'):TGW T X lo w W7 L vo ofs vw cond va' acts' W':=by
 have hlt:∀i,Qq4 va i→lo≤i:=fun i hi=>(Qqf.lt h.sa hi).1;have k':Qqb (MT (w.heap.size+1) X lo) W W':=k.weak fun i _ e=>.inr (.inr (hlt i e));exact⟨h.tc.then k (fun i e=>by have:=hlt i e;omega) fun b hb e=>by have:=hlt _ e;have:=hL b hb;omega,Qjm.keep k' h.so,Qqq.keep h.sw k',ha,Ya h.sz k.size⟩
theorem TGW.put{c c':Array Value}{e:TypeId}(h:TGW T X lo w W7 (⟨X,c,e⟩::L) vo ofs vw cond va acts W)(hX:X<lo)(i:Nat)(cs:List Value)(hL:∀b∈L,b.pos≠X)(hc:c'.toList=Qyj c.toList i cs):TGW T X lo w W7 (⟨X,c',e⟩::L) vo ofs vw cond va acts (W.setCells X i cs):=by
 have k:=Qqj cs i W (C:=X);have k':Qqb (MT (w.heap.size+1) X lo) W (W.setCells X i cs):=k.weak fun _ _ e=>by unfold At at e;exact .inr (.inl e)
 exact⟨h.tc.put i cs hL hc,Qjm.keep k' h.so,Qqq.keep h.sw k',Qqn.keep Jj8 h.sa k fun k h1 _ hh=>by unfold At at hh;omega,Ya h.sz k.size⟩
end
set_option maxRecDepth 100000 in
set_option maxHeartbeats 40000000 in
theorem Jk7(T ti:Nat)(hti:ti<8)(w:World)(ht:Qql T w)(hw:Qjh T w):Calls Tryz.prog 52 #[.pointer (some ⟨T,0,none⟩),(Qqe ti),()] w (Qjp T w (Kjq 3 w)):=by
 have hTw:=ht.lt;have HT:=hid ht;have HW:=hid hw;clear ht hw;go_enter Tryz.func52,Tryz.ntmps52;go_wp2_with fail
 have hO:=(OB.start HT.out).new' rfl #["","",false,"0",(),false,(),(),(),(),()] 35;generalize hW:World.alloc w _=W0 at hO⊢;have HO:=hid hO;clear hW hO;refine(Jkr T _ HO.out.tape).mono ?_;rintro e w1 ⟨v,rfl,⟨s,hs3,rfl⟩,ht,hk⟩;have HO1:=hid (HO.out.step ht hk);have HS3:=hid hs3;clear ht hk HO hs3;dsimp only;go_wp2_with fail
 refine(Qqk T 3 _ (by omega) (by omega) HO1.out.tape).mono ?_;rintro e w2 ⟨v,rfl,⟨r,rfl,hr0,hr1⟩,ht,hk⟩;have e2:IntKind.i64.wrap (1+r)=1+r:=Zp _ (by omega);have HO2:=hid (HO1.out.step ht hk);clear ht hk HO1;dsimp only;go_wp2_with fail
 refine(Qq2 T 2 _ (by omega) (by omega) HO2.out.tape).mono ?_;rintro e w3 ⟨v,rfl,⟨each,rfl⟩,ht,hk⟩;have HO3:=hid (HO2.out.step ht hk);clear ht hk HO2;dsimp only;go_wp2_with fail
 refine(Qq2 T 4 _ (by omega) (by omega) HO3.out.tape).mono ?_;rintro e w4 ⟨v,rfl,⟨bf,rfl⟩,ht,hk⟩;have HO4:=hid (HO3.out.step ht hk);have hz4:w.heap.size<w4.heap.size:=HO4.out.blt (Zv ..);clear ht hk HO3;dsimp only;go_wp2_with fail
 have hO5:=HO4.out.new' rfl #[(Qqe ti),s.name,bf,.int .i64 (1+r),(),each,(),(),(),(),()] 35;generalize hW:World.alloc w4 _=w5 at hO5⊢;generalize w4.heap.size=X at hO5 hz4⊢;have HO5:=hid hO5;clear hW hO5 HO4 e2;refine(Qyd s HS3.out _).mono ?_;rintro e w6 ⟨vc,rfl,hc,hb⟩;obtain⟨ca,cc,rfl,_⟩:=hc.shape;have hX5:X<w5.heap.size:=HO5.out.blt (Zv ..);have hc6:=Qq1.weak (M':=TX T X) (fun k hk h=>by have:=HO5.out.size;unfold TX at h;unfold Out;left;omega) hc;have HO6:=hid (HO5.out.bel hb);have hX6:X<w6.heap.size:=HO6.out.blt (Zv ..);clear hc hb HO5 hX5;dsimp only;go_upto_region 3 with fail
 have hO7:=HO6.out.new' rfl #[s.name,Qv ca s.cols.length cc] 29;have hc7:=hc6.keep ((Qqb.refl (TX T X) w6).alloc (.cells #[s.name,Qv ca s.cols.length cc] 29));generalize hW:World.alloc w6 _=w7 at hO7 hc7⊢;generalize w6.heap.size=q at hO7 hX6⊢
 have hT7:TGC T X w w7 [⟨X,#[(Qqe ti),s.name,bf,.int .i64 (1+r),(),each,(),(),(),(),()],35⟩,⟨q,#[s.name,Qv ca s.cols.length cc],29⟩,⟨w.heap.size,"T",35⟩] w7:=⟨hO7.sub (by intro b hb;simp only[Zs,Zo,Yu] at hb⊢;rcases hb with hb|hb|hb;(exact .inr (.inl hb));(exact .inl hb);(exact .inr (.inr hb))),.refl _ _⟩
 have hq7:q<w7.heap.size:=hO7.blt (Zv ..);have HO7:=hid hT7;have HC7:=hid hc7;clear hW hO7 hc7 hc6 HO6 hT7;have HFT:=hid (Qv8 s HS3.out);have hLX:∀b∈([⟨q,#[s.name,Qv ca s.cols.length cc],29⟩,⟨w.heap.size,"T",35⟩]:List Qqx),b.pos≠X:=by simp;omega
 obtain⟨x0,x1,x2,x3,x4,x5,x6,x7,x8,x9,x10,_⟩:=Qjw (HO7.out.ob.blk (b:=⟨X,#[(Qqe ti),s.name,bf,.int .i64 (1+r),(),each,(),(),(),(),()],35⟩) (by simp));dsimp only at x0 x1 x2 x3 x4 x5 x6 x7 x8 x9 x10
 go_cut [31] (fun v wx=>∃b,v=.bool b∧(b=true→r=1)∧TGC T X w w7 [⟨X,#[(Qqe ti),s.name,bf,.int .i64 (1+r),(),each,(),(),(),(),()],35⟩,⟨q,#[s.name,Qv ca s.cols.length cc],29⟩,⟨w.heap.size,"T",35⟩] wx)
 case first=>
  by_cases hr2:r=1
  ·subst hr2;simp only[show(1:Int)+1=2 from rfl] at x3;go_wp2_with fail
   refine(Qq2 T 2 _ (by omega) (by omega) HO7.out.ob.tape).mono ?_;rintro e w8 ⟨v,rfl,⟨b,rfl⟩,ht,hk⟩;have HO8:=hid (HO7.out.step ht hk);clear ht hk x0 x1 x2 x3 x4 x5 x6 x7 x8 x9 x10;dsimp only;go_wp2_with fail
   go_meet
   exact⟨b,rfl,(fun _=>by first|rfl|trivial),HO8.out⟩
  ·have hr3:¬(1+r=2):=by omega
   go_wp2_with fail
   go_meet
   exact⟨false,rfl,(fun h=>by cases h),HO7.out⟩
 case rest=>
 obtain⟨b,rfl,hbr,hO⟩:=hcut;rename World=>w8a;have HO8:=hid hO;clear hO HO7 x0 x1 x2 x3 x4 x5 x6 x7 x8 x9 x10
 go_upto_if 31 with(fail)
 go_cut [] (fun wx=>∃(oa:Option Addr) (oc:Nat) (ofs:List ByteArray),(ofs.length≤1∧(∀n∈ofs,Qqo n=true)∧(ofs=[]∨1+r=2))∧Qjm (MG (Old (w.heap.size+1)) X) wx (Qv oa ofs.length oc) ofs∧TGC T X w w7 [⟨X,#[(Qqe ti),s.name,bf,.int .i64 (1+r),Qv oa ofs.length oc,each,(),(),(),(),()],35⟩,⟨q,#[s.name,Qv ca s.cols.length cc],29⟩,⟨w.heap.size,"T",35⟩] wx)
 case first=>
  cases b
  case false=>
   go_wp2_with fail
   go_meet
   exact⟨none,0,[],⟨by simp,by simp,.inl rfl⟩,Qqa.nil ..,HO8.out⟩
  case true=>
   obtain rfl:r=1:=by first|exact hbr rfl|exact hbr trivial
   obtain⟨xb,xo,rfl,hxT,hxz,hxf⟩:=Jjb HC7.out HFT.out.2.1
   obtain⟨N,hN⟩:∃N:Nat→ByteArray,N=fun i=>(s.cols.getD i Jq1).name:=⟨_,rfl⟩
   have HYC:Hid (∀i:Nat,i<s.cols.length→w7.cell? ⟨xb,xo+i*4,none⟩=some (.string (N i))∧Qqo (N i)=true):=hid fun i hi=>by
    subst hN;have hm:s.cols.getD i Jq1∈s.cols:=by rw[Jl,Zg hi];exact Yo hi
    exact⟨(hxf i _ (by rw[Jl,Zg hi];rfl)).1,(HFT.out.1 _ hm).2.2.2.2.1⟩
   clear hN hxf;have hlc:1≤s.cols.length:=Jn.2 HFT.out.2.1;have hl4:=HFT.out.2.2.1;have HKS:=hid (fun(W:World) (h:TGC T X w w7 [⟨q,#[s.name,Qv (some ⟨xb,xo,none⟩) s.cols.length cc],29⟩,⟨w.heap.size,"T",35⟩] W)=>(show W.cell? ⟨q,1,none⟩=some (Qv (some ⟨xb,xo,none⟩) s.cols.length cc)∧(∀i:Nat,i<s.cols.length→W.cell? ⟨xb,xo+i*4,none⟩=some (.string (N i))) from⟨(Qjk (h.ob.blk (b:=⟨q,#[s.name,Qv (some ⟨xb,xo,none⟩) s.cols.length cc],29⟩) (by simp))).2.1,fun i hi=>(h.kp.cell hxz hxT).trans (HYC.out i hi).1⟩));have HT8:=hid HO8.out.tl;go_upto_region 4 with fail
   obtain⟨q1,qN⟩:=HKS.out _ HT8.out
   go_region_held3 (fun W=>W.cell? ⟨q,1,none⟩=some (Qv (some ⟨xb,xo,none⟩) s.cols.length cc)∧(∀i:Nat,i<s.cols.length→W.cell? ⟨xb,xo+i*4,none⟩=some (.string (N i))))
    (first|with_reducible exact HKS.out _ HT9.out|with_reducible exact HKS.out _ (HT9.out.alloc _)|with_reducible exact HKS.out _ HC9.out.tl|with_reducible exact HKS.out _ HT8.out|with_reducible exact HKS.out _ HT8.out.drew|(trace_state;fail))
    ((go_at_call 12;go_loud (refine(Qqk T s.cols.length _ (by omega) (by omega) HO8.out.drew.ob.tape).mono ?_;rintro e w9 ⟨v,rfl,⟨i,rfl,hi0,hi1⟩,ht,hk⟩;obtain⟨i,rfl⟩:=Zt hi0;have hi:i<s.cols.length:=(by omega);have HO9:=hid (HO8.out.drew.step ht hk);have HT9:=hid (HT8.out.drew.step ht hk);have hC9:=((HO9.out.put 4 [Qv (some ⟨w9.heap.size,0,none⟩) 1 1] hLX (c':=#[(Qqe ti),s.name,bf,.int .i64 (1+1),Qv (some ⟨w9.heap.size,0,none⟩) 1 1,each,(),(),(),(),()]) rfl).alloc (.cells #[(N i)] 9));dsimp only[World.setCells] at hC9;have HC9:=hid hC9;obtain⟨_,_,_,_,_,_,_,_,_,_,_,xf,xz⟩:=Qjw (HO9.out.ob.blk (b:=⟨X,#[(Qqe ti),s.name,bf,.int .i64 (1+1),(),each,(),(),(),(),()],35⟩) (by simp));dsimp only at xf xz;have F4:=xf 4;have s1:X<w9.heap.size+1:=(by omega);have s3:X≠w9.heap.size:=(by omega);clear ht hk hC9 xf)))
   all_goals go_wp2_with fail
   all_goals go_meet
   have hz9:=HO9.out.ob.size;have hr9:Qjm (MG (Old (w.heap.size+1)) X) ((w9.setCells X 4 [Qv (some ⟨w9.heap.size,0,none⟩) 1 1]).alloc (.cells #[(N i)] 9)) (Qv (some ⟨w9.heap.size,0,none⟩) 1 1) [N i]:=Qq6 (R:=Qjz) (N i) (by simp[Qy]) (fun h=>by simp only[Qy,Ja] at h;unfold MG Old at h;omega) rfl rfl;exact⟨some ⟨w9.heap.size,0,none⟩,1,[N i],⟨by simp,fun n hn=>by rw[Zd.1 hn];exact(HYC.out i hi).2,.inr rfl⟩,hr9,HC9.out⟩
 case rest=>
  obtain⟨oa,oc,ofs,hofs,hso,hO⟩:=hcut;rename World=>w8;have HO8:=hid hO;have HSO:=hid hso;have HOFS:=hid hofs;clear hO hso hofs;go_wp2_with fail
  refine(Qqk T 3 _ (by omega) (by omega) HO8.out.ob.tape).mono ?_;rintro e w9 ⟨v,rfl,⟨k3,rfl,hk0,hk1⟩,ht,hk⟩;have HO9:=hid (HO8.out.step ht hk);have HSO9:=hid (Qjm.keep (hk.weak fun _ _ h=>.inl (by unfold At at h;unfold Old;omega)) HSO.out);clear ht hk HO8 HSO;dsimp only
  go_upto_block 0 with fail
  go_cut [] (fun wx=>Qjm (MG (Old (w.heap.size+1)) X) wx (Qv oa ofs.length oc) ofs∧TGC T X w w7 [⟨X,#[(Qqe ti),s.name,bf,.int .i64 (1+r),Qv oa ofs.length oc,each,(),(),(),(),()],35⟩,⟨q,#[s.name,Qv ca s.cols.length cc],29⟩,⟨w.heap.size,"T",35⟩] wx)
  case first=>
   have h3:k3=0∨k3=1∨k3=2:=by omega
   obtain⟨_,_,_,_,_,_,_,_,_,_,_,xf,xz⟩:=Qjw (HO9.out.ob.blk (b:=⟨X,#[(Qqe ti),s.name,bf,.int .i64 (1+r),Qv oa ofs.length oc,each,(),(),(),(),()],35⟩) (by simp));dsimp only at xf xz;have F6:=xf 6;have F7:=xf 7;clear xf hk0 hk1;rcases h3 with rfl|rfl|rfl
   ·go_wp2_with fail
    refine(Yq4 T _).mono ?_;rintro e w10 ⟨rfl,rfl⟩;dsimp only;go_wp2_with fail
    go_meet
    have hC:=HO9.out.put 6 [()] hLX (c':=#[(Qqe ti),s.name,bf,.int .i64 (1+r),Qv oa ofs.length oc,each,(),(),(),(),()]) rfl;exact⟨Qjm.keep ((Qqj [()] 6 _ (C:=X)).weak fun _ _ hj=>.inr hj) HSO9.out,hC⟩
   ·go_wp2_with fail
    refine(Yq4 T _).mono ?_;rintro e w10 ⟨rfl,rfl⟩;dsimp only;go_wp2_with fail
    go_meet
    have hC:=HO9.out.put 7 [()] hLX (c':=#[(Qqe ti),s.name,bf,.int .i64 (1+r),Qv oa ofs.length oc,each,(),(),(),(),()]) rfl;exact⟨Qjm.keep ((Qqj [()] 7 _ (C:=X)).weak fun _ _ hj=>.inr hj) HSO9.out,hC⟩
   ·go_wp2_with fail
    go_meet
    exact⟨HSO9.out,HO9.out⟩
  case rest=>
   obtain⟨hso,hO⟩:=hcut;rename World=>w10;have HO10:=hid hO;have HSO10:=hid hso;clear hO hso HO9 HSO9 hk0 hk1;obtain⟨x0,x1,x2,x3,x4,x5,x6,x7,x8,x9,x10,_,hX10⟩:=Qjw (HO10.out.ob.blk (b:=⟨X,#[(Qqe ti),s.name,bf,.int .i64 (1+r),Qv oa ofs.length oc,each,(),(),(),(),()],35⟩) (by simp));dsimp only at x0 x1 x2 x3 x4 x5 x6 x7 x8 x9 x10 hX10;have hT10:=HO10.out.ob.size;go_wp2_with fail
   refine(Ujp (Qqe ti) bf each r hr0 hr1 oa none none none none none ofs.length 0 0 0 0 0 oc 0 0 0 0 0 s HS3.out _).mono ?_;rintro e w11 ⟨fa,fc,ta,tc,rfl,hfr,hsc,hb⟩;have HP:=hid (Ywf HS3.out bf each r 4 (by omega));have hin:∀t∈Qq3,t∈Qq3++trT bf each r s.cols:=fun t ht=>List.mem_append_left _ ht;have hM:∀k,k<w11.heap.size→TX T X k→Old w10.heap.size k:=fun k _ h=>by unfold TX at h;unfold Old;omega
   have hf11:=Qqz.weak hM hfr;have hs11:=Qjt.weak hM hsc;have HC11:=hid ((HC7.out.keep HO10.out.kp).keep (.bel hb));have HO11:=hid (HO10.out.bel hb);have HSO11:=hid (Qjm.keep (.bel hb) HSO10.out);generalize frT each r s.cols=fs at HP hf11⊢;generalize Qq3++trT bf each r s.cols=ss at HP hs11 hin⊢;have HF11:=hid hf11;have HS11:=hid hs11;have HIN:=hid hin;clear hfr hsc hb hM hin hf11 hs11 HO10 HSO10 HC7 x0 x1 x2 x3 x4 x5 x6 x7 x8 x9 x10 hT10 hX10;dsimp only;go_wp2_with fail
   have hO12:=HO11.out.new' rfl #[Qv fa fs.length fc,Qv ta ss.length tc] 122;have hz11:=HO11.out.ob.blt (b:=⟨X,#[(Qqe ti),s.name,bf,.int .i64 (1+r),Qv oa ofs.length oc,each,(),(),(),(),()],35⟩) (by simp);have hzq:q<w11.heap.size:=HO11.out.ob.blt (b:=⟨q,#[s.name,Qv ca s.cols.length cc],29⟩) (by simp);have k12:∀M:Nat→Prop,Qqb M w11 (w11.alloc (.cells #[Qv fa fs.length fc,Qv ta ss.length tc] 122)):=fun M=>(Qqb.refl M w11).alloc _;have hc12:=HC11.out.keep (k12 _);have hf12:=Qqz.keep HF11.out (k12 _);have hs12:=Qjt.keep HS11.out (k12 _);have hso12:=Qjm.keep (k12 _) HSO11.out;clear k12;generalize hW:World.alloc w11 _=w12 at hO12 hc12 hf12 hs12 hso12⊢;dsimp only at hz11;generalize w11.heap.size=p at hO12 hz11 hzq⊢;have HO12:=hid (show TGC T X w w12 [⟨X,#[(Qqe ti),s.name,bf,.int .i64 (1+r),Qv oa ofs.length oc,each,(),(),(),(),()],35⟩,⟨p,#[Qv fa fs.length fc,Qv ta ss.length tc],122⟩,⟨q,#[s.name,Qv ca s.cols.length cc],29⟩,⟨w.heap.size,"T",35⟩] w12 from⟨hO12.ob.sub (by intro b hb;simp only[Zs,Zo,Yu] at hb⊢;rcases hb with hb|hb|hb|hb;(exact .inr (.inl hb));(exact .inl hb);(exact .inr (.inr (.inl hb)));(exact .inr (.inr (.inr hb)))),.refl _ _⟩);have HC12:=hid hc12;have HF12:=hid hf12;have HS12:=hid hs12;have HSO12:=hid hso12;clear hW hO12 hc12 hf12 hs12 hso12 HO11 HC11 HF11 HS11 HSO11;have HMX:=hid (fun(k:Nat) (h:At T k)=>(show TX T X k from .inl h));refine(Qq2 T 3 _ (by omega) (by omega) HO12.out.ob.tape).mono ?_;rintro e w13 ⟨v,rfl,⟨b,rfl⟩,ht,hk⟩;have HO13:=hid (HO12.out.step ht hk);have HSO13:=hid (Qjm.keep (hk.weak fun _ _ h=>.inl (by unfold At at h;unfold Old;omega)) HSO12.out);have hp12:p<w12.heap.size:=HO12.out.ob.blt (b:=⟨p,#[Qv fa fs.length fc,Qv ta ss.length tc],122⟩) (by simp);clear ht hk HO12 HSO12;dsimp only;have hLX4:∀b∈([⟨p,#[Qv fa fs.length fc,Qv ta ss.length tc],122⟩,⟨q,#[s.name,Qv ca s.cols.length cc],29⟩,⟨w.heap.size,"T",35⟩]:List Qqx),b.pos≠X:=by simp;omega
   go_upto_if 61 with(fail)
   go_cut [] (fun wx=>∃(wa:Option Addr) (wc:Nat) (cond:List Ex),(cond.length≤1∧∀x∈cond,GX 3 x)∧Qqq (MG (Old (w.heap.size+1)) X) wx (Qv wa cond.length wc) cond∧Qjm (MG (Old (w.heap.size+1)) X) wx (Qv oa ofs.length oc) ofs∧TGC T X w w12 [⟨X,#[(Qqe ti),s.name,bf,.int .i64 (1+r),Qv oa ofs.length oc,each,(),(),(),Qv wa cond.length wc,()],35⟩,⟨p,#[Qv fa fs.length fc,Qv ta ss.length tc],122⟩,⟨q,#[s.name,Qv ca s.cols.length cc],29⟩,⟨w.heap.size,"T",35⟩] wx)
   case first=>
    cases b
    case false=>
     go_wp2_with fail
     go_meet
     exact⟨none,0,[],⟨by simp,by simp⟩,Qqa.nil ..,HSO13.out,HO13.out⟩
    case true=>
     obtain⟨p0,p1,_,_,pz⟩:=Qjk (HO13.out.ob.blk (b:=⟨p,#[Qv fa fs.length fc,Qv ta ss.length tc],122⟩) (by simp));dsimp only at p0 p1 pz;go_wp2_with fail
     refine(Qkn 3 (by omega) T 1 2 fa ta fc tc (Jqg s.cols) fs ss _ (by omega) (by omega) (by omega) (by omega) HO13.out.ob.tape (HW.out.at HO13.out.ob.kept) (Qqz.weak (fun k _ h=>HMX.out k h) (Qqz.keep HF12.out HO13.out.kp)) (Qjt.weak (fun k _ h=>HMX.out k h) (Qjt.keep HS12.out HO13.out.kp)) (HP.out.mono (by omega))).mono ?_;rintro e w14 ⟨v,rfl,⟨ex,hex,hmk⟩,ht,hk⟩;obtain⟨ya,yac,ys,ysc,rfl,hya,hys⟩:=hex;have HY:=hid (Ze hya hys);have HG:=hid hmk.1.2;have HO14:=hid (HO13.out.step ht hk);have HSO14:=hid (Qjm.keep (hk.weak fun _ _ h=>.inl (by unfold At at h;unfold Old;omega)) HSO13.out);have hz13:=HO13.out.ob.size;have hX13:X<w13.heap.size:=HO13.out.ob.blt (b:=⟨X,#[(Qqe ti),s.name,bf,.int .i64 (1+r),Qv oa ofs.length oc,each,(),(),(),(),()],35⟩) (by simp);have hz14:=hk.size;clear ht hk hya hys hmk HO13 HSO13 p0 p1 pz;obtain⟨_,_,_,_,_,_,_,_,_,_,_,xf,xz⟩:=Qjw (HO14.out.ob.blk (b:=⟨X,#[(Qqe ti),s.name,bf,.int .i64 (1+r),Qv oa ofs.length oc,each,(),(),(),(),()],35⟩) (by simp));dsimp only at xf xz;have F9:=xf 9;have s1:X<w14.heap.size+1:=by omega
     have s3:X≠w14.heap.size:=by omega
     clear xf;dsimp only;go_wp2_with fail
     go_meet
     have kX:Qqb (MG (Old (w.heap.size+1)) X) w14 (w14.setCells X 9 [Qv (some ⟨w14.heap.size,0,none⟩) 1 1]):=(Qqj [Qv (some ⟨w14.heap.size,0,none⟩) 1 1] 9 w14).weak fun _ _ hj=>.inr hj;have hE:=Qvn (M:=MG (Old (w.heap.size+1)) X) (W:=w14.setCells X 9 [Qv (some ⟨w14.heap.size,0,none⟩) 1 1]) (e:=80) (x:=ex) (a:=ya) (s:=ys) (ac:=yac) (sc:=ysc) (g:=w14.heap.size) (by simp[Qy]) (fun h=>by simp only[Qy,Ja] at h;unfold MG Old at h;omega) (Qq8 kX (Qvc (fun k _ h=>by unfold MG Old at h;unfold Old;omega) HY.out));exact⟨some ⟨w14.heap.size,0,none⟩,1,[ex],⟨by simp,fun x hx=>by rw[Zd.1 hx];exact HG.out⟩,hE,Qjm.keep (kX.alloc _) HSO14.out,(HO14.out.put 9 [Qv (some ⟨w14.heap.size,0,none⟩) 1 1] hLX4 rfl).alloc _⟩
   case rest=>
    obtain⟨wa,wc,cond,hcn,hsw,hso,hO⟩:=hcut;rename World=>w14;have HO14:=hid hO;have HSO14:=hid hso;have HSW14:=hid hsw;have HCN:=hid hcn;clear hO hso hsw hcn HO13 HSO13;go_wp2_with fail
    refine(Qqk T 2 _ (by omega) (by omega) HO14.out.ob.tape).mono ?_;rintro e w15 ⟨v,rfl,⟨kn,rfl,hk0,hk1⟩,ht,hk⟩;obtain⟨kn,rfl⟩:=Zt hk0;have e15:IntKind.i64.wrap (1+(kn:Int))=1+(kn:Int):=Zp _ (by omega);have hz15:=hk.size;have hMM:∀k,k<w15.heap.size→MT (w.heap.size+1) X w15.heap.size k→MG (Old (w.heap.size+1)) X k:=fun k hk h=>by unfold MT at h;unfold MG Old;omega
    have hkm:Qqb (MG (Old (w.heap.size+1)) X) w14 w15:=hk.weak fun _ _ h=>.inl (by unfold At at h;unfold Old;omega)
    have hTW:TGW T X w15.heap.size w w12 [⟨X,#[(Qqe ti),s.name,bf,.int .i64 (1+r),Qv oa ofs.length oc,each,(),(),(),Qv wa cond.length wc,()],35⟩,⟨p,#[Qv fa fs.length fc,Qv ta ss.length tc],122⟩,⟨q,#[s.name,Qv ca s.cols.length cc],29⟩,⟨w.heap.size,"T",35⟩] (Qv oa ofs.length oc) ofs (Qv wa cond.length wc) cond () [] w15:=⟨HO14.out.step ht hk,Qjm.weak hMM (Qjm.keep hkm HSO14.out),Qqq.weak hMM (Qqq.keep HSW14.out hkm),Qqn.nil ..,Zz _⟩
    have hlo:=hTW.tc.ob.size;have hX15:X<w15.heap.size:=hTW.tc.ob.blt (Zv ..);have h12:w12.heap.size≤w15.heap.size:=hTW.tc.kp.size;have HLL:=hid (fun(b:Qqx) (hb:b∈[⟨p,#[Qv fa fs.length fc,Qv ta ss.length tc],122⟩,⟨q,#[s.name,Qv ca s.cols.length cc],29⟩,⟨w.heap.size,"T",35⟩])=>(show b.pos<w15.heap.size from hTW.tc.ob.blt (Zl _ hb)));have HTW:=hid hTW;clear ht hk hMM hkm hTW HO14 HSO14 HSW14 hz15;dsimp only;go_wp2_with fail
    go_loopw[10] (fun i wr=>∃(m:Nat) (aa:Option Addr) (ac:Nat) (acts:List Qzq),i=.int .i64 (m:Int)∧m+acts.length=kn+1∧(∀a∈acts,Qk3 3 a∧Qxa bf each (1+r) a.kind=true)∧TGW T X w15.heap.size w w12 [⟨X,#[(Qqe ti),s.name,bf,.int .i64 (1+r),Qv oa ofs.length oc,each,(),(),(),Qv wa cond.length wc,Qv aa acts.length ac],35⟩,⟨p,#[Qv fa fs.length fc,Qv ta ss.length tc],122⟩,⟨q,#[s.name,Qv ca s.cols.length cc],29⟩,⟨w.heap.size,"T",35⟩] (Qv oa ofs.length oc) ofs (Qv wa cond.length wc) cond (Qv aa acts.length ac) acts wr) (fun i _=>(intOf i).toNat)
    case atStart=>exact⟨kn+1,none,0,[],by first|(congr 1;omega)|(simp;omega),by simp,by simp,HTW.out⟩
    case round=>
     rename World=>wr;obtain⟨m,aa,ac,acts,rfl,hmk,hacts,hT⟩:=hrel;have HR:=hid hT;have HAC:=hid hacts;clear hT hacts HTW;have hLX4':=hLX4;obtain⟨x0,x1,x2,x3,x4,x5,x6,x7,x8,x9,x10,xf,xz⟩:=Qjw (HR.out.tc.ob.blk (b:=⟨X,#[(Qqe ti),s.name,bf,.int .i64 (1+r),Qv oa ofs.length oc,each,(),(),(),Qv wa cond.length wc,Qv aa acts.length ac],35⟩) (by simp));dsimp only at x0 x1 x2 x3 x4 x5 x6 x7 x8 x9 x10 xf xz;by_cases hm0:m=0
     ·subst hm0;go_wp2_with fail
      refine(Ykl T X ⟨Qqe ti,s.name,bf,1+r,ofs,each,[],[],[],cond,acts⟩ (Qv oa ofs.length oc) () () () (Qv wa cond.length wc) (Qv aa acts.length ac) _ HR.out.tc.ob.tape (HR.out.tc.ob.blk (b:=⟨X,#[(Qqe ti),s.name,bf,.int .i64 (1+r),Qv oa ofs.length oc,each,(),(),(),Qv wa cond.length wc,Qv aa acts.length ac],35⟩) (by simp)) (by omega)).mono ?_;rintro e w17 hc17;have hMG:∀k,k<wr.heap.size→MG (Old (w.heap.size+1)) X k→MT (w.heap.size+1) X w15.heap.size k:=fun k _ h=>by unfold MG Old at h;unfold MT;omega
      have hMA:∀k,k<wr.heap.size→MG (Old (w.heap.size+1)) X k→Old w15.heap.size k:=fun k _ h=>by unfold MG Old at h;unfold Old;omega
      have hsr:Qke (MG (Old (w.heap.size+1)) X) wr (Qv aa acts.length ac) acts:=Qqa.weak (Qqn.rows Jj8 HR.out.sa) hMA fun _ _ _ h=>Qv5.weak hMA h
      obtain⟨rfl,ht17,hk17,t',vr',vw',va',hb17,h1,h2,h3,h4,hg⟩:=Uzh (w:=w) hc17 hTw (by have:=HR.out.tc.ob.blt (b:=⟨w.heap.size,"T",35⟩) (by simp);dsimp only at this;omega) (Qjm.weak hMG HR.out.so) (Qqq.weak hMG HR.out.sw) hsr
       {name:=Yqd ti hti,table:=HFT.out.2.2.2.1,ev1:=(by show 1≤1+r;omega),ev2:=(by show 1+r≤3;omega),ofs1:=HOFS.out.1,ofs2:=HOFS.out.2.1,ofs3:=HOFS.out.2.2,prec:=rfl,foll:=rfl,rank1:=Zi 1,rank2:=fun x hx=>(by cases hx),rank3:=.inl rfl,cond1:=HCN.out.1,cond2:=HCN.out.2,acts1:=(by show 1≤acts.length;omega),acts2:=(by show acts.length≤2;omega),acts3:=fun a ha=>HAC.out a ha} rfl
      have hkw:Qqb (At T) w w17:=HR.out.tc.ob.kept.then hk17 fun i hi h=>by unfold TX at h;unfold At;omega
      have hrb:=(hk17.block w.heap.size (HR.out.tc.ob.blt (b:=⟨w.heap.size,"T",35⟩) (by simp)) (fun h=>by unfold TX at h;omega)).trans (HR.out.tc.ob.blk (b:=⟨w.heap.size,"T",35⟩) (by simp));obtain⟨ra',rc',rfl,_⟩:=Qqa.shape h2;obtain⟨wa',wc',rfl,_⟩:=Qqa.shape h3;obtain⟨ba',bc',rfl,_⟩:=Qqa.shape h4;have HQ:=hid (Ze h1 (Ze h2 (Ze h3 (Ze h4 hg))));have HT17:=hid ht17;have HK17:=hid hkw;clear hc17 hMG hMA hsr h1 h2 h3 h4 hg ht17 hk17 hkw x0 x1 x2 x3 x4 x5 x6 x7 x8 x9 x10 xf xz;unfold Jja at hb17;obtain⟨x0,x1,x2,x3,x4,x5,x6,x7,x8,x9,x10,_,xz⟩:=Qjw hb17;obtain⟨r0',r1',r2',r3',r4',r5',r6',r7',r8',r9',r10',rf,rz⟩:=Qjw hrb
      try dsimp only at r0' r1' r2' r3' r4' r5' r6' r7' r8' r9' r10' rf rz
      clear hb17 hrb;dsimp only;go_wp2_with fail
      refine Zh (v:=.agg (Jja t' (Qv oa ofs.length oc) (Qv ra' t'.rank.length rc') (Qv wa' t'.cond.length wc') (Qv ba' t'.acts.length bc'))) (by simp[results,Tryz.results52,go_sem,Jja,r0',r1',r2',r3',r4',r5',r6',r7',r8',r9',r10']) rfl ?_;have ks:=Qqj [t'.name,t'.table,t'.before,t'.event,Qv oa ofs.length oc,t'.each,(),(),(Qv ra' t'.rank.length rc'),(Qv wa' t'.cond.length wc'),(Qv ba' t'.acts.length bc')] 0 w17 (C:=w.heap.size);dsimp only[World.setCells] at ks;obtain⟨h1,h2,h3,h4,hg⟩:=HQ.out;have FIN:=Uvc hTw HT17.out HK17.out ks h1 h2 h3 h4 hg;exact FIN
     ·obtain⟨m,rfl⟩:∃k,m=k+1:=⟨m-1,by omega⟩
      obtain⟨q0,q1,_,_,qz⟩:=Qjk (HR.out.tc.ob.blk (b:=⟨q,#[s.name,Qv ca s.cols.length cc],29⟩) (by simp));obtain⟨p0,p1,_,_,pz⟩:=Qjk (HR.out.tc.ob.blk (b:=⟨p,#[Qv fa fs.length fc,Qv ta ss.length tc],122⟩) (by simp));dsimp only at q0 q1 qz p0 p1 pz;have hD:wr.drew.heap.size=wr.heap.size:=Yl _;have HCr:=hid (Qq1.weak (fun k _ h=>HMX.out k h) (Qq1.keep HC12.out HR.out.tc.kp.drew));have HFr:=hid (Qqz.weak (fun k _ h=>HMX.out k h) (Qqz.keep HF12.out HR.out.tc.kp.drew));have HSr:=hid (Qjt.weak (fun k _ h=>HMX.out k h) (Qjt.keep HS12.out HR.out.tc.kp.drew))
      have HLT:=hid (fun(k:Nat) (h:Qjl w15.heap.size (Qv aa acts.length ac) k)=>(show Old wr.heap.size k from by
       unfold Old;rcases h with h|h
       ·have:=HR.out.sz;omega
       ·exact(Qqf.lt HR.out.sa h).2))
      have hac:acts.length≤2:=by omega
      clear hD;go_upto_region 16 with fail
      have HKX:=hid (fun(W:World) (h:TGC T X w w12 [⟨X,#[(Qqe ti),s.name,bf,.int .i64 (1+r),Qv oa ofs.length oc,each,(),(),(),Qv wa cond.length wc,Qv aa acts.length ac],35⟩,⟨p,#[Qv fa fs.length fc,Qv ta ss.length tc],122⟩,⟨q,#[s.name,Qv ca s.cols.length cc],29⟩,⟨w.heap.size,"T",35⟩] W)=>(show W.cell? ⟨X,0,none⟩=some (.string (Qqe ti))∧W.cell? ⟨X,1,none⟩=some (.string s.name)∧W.cell? ⟨X,2,none⟩=some (.bool bf)∧W.cell? ⟨X,3,none⟩=some (.int .i64 (1+r))∧W.cell? ⟨X,4,none⟩=some (Qv oa ofs.length oc)∧W.cell? ⟨X,5,none⟩=some (.bool each)∧W.cell? ⟨X,6,none⟩=some (Qv none 0 0)∧W.cell? ⟨X,7,none⟩=some (Qv none 0 0)∧W.cell? ⟨X,8,none⟩=some (Qv none 0 0)∧W.cell? ⟨X,9,none⟩=some (Qv wa cond.length wc)∧W.cell? ⟨X,10,none⟩=some (Qv aa acts.length ac)∧W.cell? ⟨q,0,none⟩=some (.string s.name)∧W.cell? ⟨q,1,none⟩=some (Qv ca s.cols.length cc)∧W.cell? ⟨p,0,none⟩=some (Qv fa fs.length fc)∧W.cell? ⟨p,1,none⟩=some (Qv ta ss.length tc) from by
       obtain⟨x0,x1,x2,x3,x4,x5,x6,x7,x8,x9,x10,_⟩:=Qjw (h.ob.blk (b:=⟨X,#[(Qqe ti),s.name,bf,.int .i64 (1+r),Qv oa ofs.length oc,each,(),(),(),Qv wa cond.length wc,Qv aa acts.length ac],35⟩) (by simp));obtain⟨q0,q1,_⟩:=Qjk (h.ob.blk (b:=⟨q,#[s.name,Qv ca s.cols.length cc],29⟩) (by simp));obtain⟨p0,p1,_⟩:=Qjk (h.ob.blk (b:=⟨p,#[Qv fa fs.length fc,Qv ta ss.length tc],122⟩) (by simp))
       exact⟨x0,x1,x2,x3,x4,x5,x6,x7,x8,x9,x10,q0,q1,p0,p1⟩))
      refine Kxm 10 (fun W=>W.cell? ⟨X,0,none⟩=some (.string (Qqe ti))∧W.cell? ⟨X,1,none⟩=some (.string s.name)∧W.cell? ⟨X,2,none⟩=some (.bool bf)∧W.cell? ⟨X,3,none⟩=some (.int .i64 (1+r))∧W.cell? ⟨X,4,none⟩=some (Qv oa ofs.length oc)∧W.cell? ⟨X,5,none⟩=some (.bool each)∧W.cell? ⟨X,6,none⟩=some (Qv none 0 0)∧W.cell? ⟨X,7,none⟩=some (Qv none 0 0)∧W.cell? ⟨X,8,none⟩=some (Qv none 0 0)∧W.cell? ⟨X,9,none⟩=some (Qv wa cond.length wc)∧W.cell? ⟨X,10,none⟩=some (Qv aa acts.length ac)∧W.cell? ⟨q,0,none⟩=some (.string s.name)∧W.cell? ⟨q,1,none⟩=some (Qv ca s.cols.length cc)∧W.cell? ⟨p,0,none⟩=some (Qv fa fs.length fc)∧W.cell? ⟨p,1,none⟩=some (Qv ta ss.length tc)) (by kernel_rfl) ?_;refine tw 0 (HKX.out _ HR.out.tc.drew) ?_
      (try simp only[Act.put,Yy,Yg,Yj,Zj,Zx,Zk])
      refine tw 1 (HKX.out _ HR.out.tc.drew) ?_
      (try simp only[Act.put,Yy,Yg,Yj,Zj,Zx,Zk])
      refine tw 2 (HKX.out _ HR.out.tc.drew) ?_
      (try simp only[Act.put,Yy,Yg,Yj,Zj,Zx,Zk])
      refine tw 3 (HKX.out _ HR.out.tc.drew) ?_
      (try simp only[Act.put,Yy,Yg,Yj,Zj,Zx,Zk])
      refine tw 4 (HKX.out _ HR.out.tc.drew) ?_
      (try simp only[Act.put,Yy,Yg,Yj,Zj,Zx,Zk])
      refine tw 5 (HKX.out _ HR.out.tc.drew) ?_
      (try simp only[Act.put,Yy,Yg,Yj,Zj,Zx,Zk])
      refine Kxg (i:=6) (o:=_) (by kernel_rfl) rfl (fun K hK=>?_)
      go_simp
      refine(Yk5 T ti hti s HS3.out bf each (1+r) (by omega) (by omega) oa none none none wa aa ofs.length 0 0 0 cond.length acts.length oc 0 0 0 wc ac ca fa ta cc fc tc (Jqg s.cols) fs ss _ HR.out.tc.ob.drew.tape (HW.out.at HR.out.tc.ob.drew.kept) HCr.out HFr.out HSr.out HP.out HIN.out).mono ?_;rintro e w16 ⟨v,rfl,hq,ht,hk⟩;obtain⟨a,a1,a2,a3,a4,y1,y2,y3,y4,rfl,h1,h2,h3,h4,h5,h6⟩:=hq.shape
      (try simp only[Yl] at h1 h2 h3 h4)
      have HA16:=hid (Qv5.weak (fun k _ h=>HLT.out k h) (Kjp h1 h2 h3 h4));have HG16:=hid (Ze h5 h6);have HR16:=hid ((HR.out.drew hlo).step hlo ht hk);have hz16:=HR16.out.sz;clear ht hk hq h1 h2 h3 h4 h5 h6 x0 x1 x2 x3 x4 x5 x6 x7 x8 x9 x10 xf xz;obtain⟨x0,x1,x2,x3,x4,x5,x6,x7,x8,x9,x10,xf,xz⟩:=Qjw (HR16.out.tc.ob.blk (b:=⟨X,#[(Qqe ti),s.name,bf,.int .i64 (1+r),Qv oa ofs.length oc,each,(),(),(),Qv wa cond.length wc,Qv aa acts.length ac],35⟩) (by simp));dsimp only at x0 x1 x2 x3 x4 x5 x6 x7 x8 x9 x10 xf xz;refine hK.out _ _ (.inr (HKX.out _ HR16.out.tc)) ?_;clear hK K
      (try simp only[Act.put,Yy,Yg,Yj,Zj,Zx,Zk])
      refine Kxg (i:=7) (o:=_) (by kernel_rfl) rfl (fun K hK=>?_)
      go_simp
      refine hK.out _ _ (.inr (HKX.out _ (HR16.out.tc.alloc _))) ?_;clear hK K
      (try simp only[Act.put,Yy,Yg,Yj,Zj,Zx,Zk])
      refine Kxg (i:=8) (o:=_) (by kernel_rfl) rfl (fun K hK=>?_);refine Yy6 (w:=w16) Jj8 rfl _ _ 33 rfl 42 _ 7 136 Tryz.underlying33 Uva rfl (by decide) w15.heap.size (Qv aa acts.length ac) w16.heap.size (#[a.kind,a.table,Qv a1 a.rows.length y1,Qv a2 a.query.length y2,Qv a3 a.sets.length y3,Qv a4 a.whr.length y4,a.text]) acts a rfl rfl rfl HR16.out.sa rfl HA16.out (by omega) (by unfold maxLen;omega) (by omega) ?_;intro v' w17 ho hk;obtain⟨na,nc,hv',_⟩:=Qqn.shape ho;rw[Zr,Jp] at hv';subst hv';have hR17:=HR16.out.app hlo h12 (by intro b hb;rcases Zs.1 hb with rfl|hb;(exact hX15);(exact HLL.out b hb)) hk ho;have hC18:=hR17.put hX15 10 [Qv na (acts.length+1) nc] hLX4 (c':=#[(Qqe ti),s.name,bf,.int .i64 (1+r),Qv oa ofs.length oc,each,(),(),(),Qv wa cond.length wc,Qv na (acts.length+1) nc]) rfl;dsimp only[World.setCells] at hC18;have HR17:=hid hR17;have HR18:=hid hC18;clear ho hk hR17 hC18 x0 x1 x2 x3 x4 x5 x6 x7 x8 x9 x10 xf xz;obtain⟨x0,x1,x2,x3,x4,x5,x6,x7,x8,x9,x10,xf,xz⟩:=Qjw (HR17.out.tc.ob.blk (b:=⟨X,#[(Qqe ti),s.name,bf,.int .i64 (1+r),Qv oa ofs.length oc,each,(),(),(),Qv wa cond.length wc,Qv aa acts.length ac],35⟩) (by simp));dsimp only at x0 x1 x2 x3 x4 x5 x6 x7 x8 x9 x10 xf xz;have F10:=xf 10;clear xf;refine hK.out _ _ (.inr (HKX.out _ HR17.out.tc)) ?_;clear hK K
      (try simp only[Act.put,Yy,Yg,Yj,Zj,Zx,Zk])
      refine tw 9 (HKX.out _ HR17.out.tc) ?_
      (try simp only[Act.put,Yy,Yg,Yj,Zj,Zx,Zk])
      refine Kxg (i:=10) (o:=_) (by kernel_rfl) rfl (fun K hK=>?_)
      go_simp
      refine hK.out _ _ (.inl (by kernel_rfl)) ?_;clear hK K
      (try simp only[Act.put,Yy,Yg,Yj,Zj,Zx,Zk])
      refine Kxl (by kernel_rfl) ?_ _;go_wp2_with fail
      go_roundw
      all_goals first|(case rel=>exact⟨m,na,nc,acts++[a],by go_num,by simp;omega,fun z hz=>(Yf.1 hz).elim (HAC.out z) fun hz=>by rw[Zd.1 hz];exact HG16.out,by simpa using HR18.out⟩)|(case measure=>simp[intOf])
end Go.Proofs.YtgepbohjmgaojaaGreatDoor
