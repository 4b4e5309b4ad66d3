/- A drawn region over a variable act: what its temporaries hold, and that all others are as they were. -/
import Derived.Test.YtgepbohjmgaojaaGreatDoorU01
set_option linter.all false
namespace Go.Proofs.YtgepbohjmgaojaaGreatDoor
def Fr(a0:Act)(l:List (Nat×Value))(a:Act):Prop:=
 a.defers=a0.defers∧a.tmps.size=a0.tmps.size∧(∀p∈l,a.tmps[p.1]?=some p.2)∧∀k,k∉l.map (·.1)→a.tmps[k]?=a0.tmps[k]?
def Qj9(i:Nat)(v:Value):List (Nat×Value)→List (Nat×Value)
 |[]=>[(i,v)]
 |(k,u)::l=>if i<k then(i,v)::(k,u)::l else(k,u)::Qj9 i v l
theorem Ykn{i:Nat}{v:Value}{l:List (Nat×Value)}{p:Nat×Value}:p∈Qj9 i v l↔p=(i,v)∨p∈l:=by
 induction l with
 |nil=>simp[Qj9]
 |cons q l ih=>
  obtain⟨k,u⟩:=q;unfold Qj9
  split
  ·simp
  ·simp only[Zs,ih];constructor
   ·rintro(h|h|h)
    ·exact .inr (.inl h)
    ·exact .inl h
    ·exact .inr (.inr h)
   ·rintro(h|h|h)
    ·exact .inr (.inl h)
    ·exact .inl h
    ·exact .inr (.inr h)
theorem Ujs{i:Nat}{v:Value}{l:List (Nat×Value)}{k:Nat}:k∈(Qj9 i v l).map (·.1)↔k=i∨k∈l.map (·.1):=by
 simp only[List.mem_map,Ykn];constructor
 ·rintro⟨p,rfl|h,rfl⟩
  ·exact .inl rfl
  ·exact .inr ⟨p,h,rfl⟩
 ·rintro(rfl|⟨p,h,rfl⟩)
  ·exact⟨(k,v),.inl rfl,rfl⟩
  ·exact⟨p,.inr h,rfl⟩
theorem Fr.start(a0:Act):Fr a0 [] a0:=⟨rfl,rfl,fun _ h=>(nomatch h),fun _ _=>rfl⟩
theorem Fr.put{a0 a:Act}{l:List (Nat×Value)}{i:Nat}{v:Value}(h:Fr a0 l a)(hi:i<a0.tmps.size)(hk:∀p∈l,p.1≠i):
 Fr a0 (Qj9 i v l) (a.put (some i) v):=by
 obtain⟨h1,h2,h3,h4⟩:=h;refine⟨h1,by simp[Act.put,h2],fun p hp=>?_,fun k hk'=>?_⟩
 ·rcases Ykn.1 hp with rfl|hp
  ·simp[Act.put,h2,hi]
  ·have:=hk p hp;show(a.tmps.setIfInBounds i v)[p.1]?=_;rw[Ku (Ne.symm this)];exact h3 p hp
 ·rw[Ujs] at hk';have h5:k≠i:=fun e=>hk' (.inl e);show(a.tmps.setIfInBounds i v)[k]?=_;rw[Ku (Ne.symm h5)];exact h4 k fun e=>hk' (.inr e)
theorem Fr.shift{a0 a:Act}{l:List (Nat×Value)}{p:Nat×Value}(h:Fr a0 (p::l) a)(hi:p.1<a0.tmps.size):Fr (a0.put (some p.1) p.2) l a:=by
 obtain⟨h1,h2,h3,h4⟩:=h;refine⟨h1,by simp[Act.put,h2],fun q hq=>h3 q (Zl _ hq),fun k hk'=>?_⟩;show _=(a0.tmps.setIfInBounds p.1 p.2)[k]?;by_cases e:p.1=k
 ·subst e;rw[Array.getElem?_setIfInBounds_self_of_lt hi];exact h3 p (Zv ..)
 ·rw[Ku e];exact h4 k (by simp only[Yc,Zs];rintro(h|h);exact e h.symm;exact hk' h)
theorem Fr.nil_eq{a0 a:Act}(h:Fr a0 [] a):a=a0:=by
 obtain⟨h1,h2,_,h4⟩:=h;cases a;cases a0;simp only[Act.mk.injEq] at h1 h2 h4⊢;exact⟨Array.ext_getElem? fun k=>h4 k (by simp),h1⟩
theorem Fr.eq{a:Act}:∀{l:List (Nat×Value)} {a0:Act},Fr a0 l a→(l.map (·.1)).Nodup→(∀k∈l.map (·.1),k<a0.tmps.size)→a=l.foldl (fun b p=>b.put (some p.1) p.2) a0
 |[],_,h,_,_=>h.nil_eq
 |p::l,a0,h,hn,hk=>by
  rw[Yc,List.nodup_cons] at hn;rw[List.foldl_cons];refine Fr.eq (h.shift (hk _ (by simp))) hn.2 fun k h'=>?_;have:=hk k (by rw[Yc];exact Zl _ h');simpa[Act.put] using this
theorem Fr.base{a0 a:Act}{l:List (Nat×Value)}(h:Fr a0 l a){k:Nat}{v:Value}(h0:a0.tmps[k]?=some v)(hk:∀p∈l,p.1≠k):a.tmps[k]?=some v:=
 (h.2.2.2 k fun hm=>by obtain⟨p,hp,e⟩:=List.mem_map.1 hm;exact hk p hp e).trans h0
def Ujt:List Nat→Bool
 |[]=>true
 |[_]=>true
 |a::b::l=>decide (a<b)&&Ujt (b::l)
theorem Yyr:∀(l:List Nat) (a:Nat),Ujt (a::l)=true→∀k∈l,a<k
 |[],_,_,_,hk=>nomatch hk
 |b::l,a,h,k,hk=>by
  simp only[Ujt,Yx,Zu] at h;rcases Zs.1 hk with rfl|hk
  ·exact h.1
  ·exact Nat.lt_trans h.1 (Yyr l b h.2 k hk)
theorem Jyi:∀l:List Nat,Ujt l=true→l.Nodup
 |[],_=>List.nodup_nil
 |[a],_=>by simp
 |a::b::l,h=>by
  have h':=h;simp only[Ujt,Yx,Zu] at h;exact List.nodup_cons.2 ⟨fun hm=>Nat.lt_irrefl a (Yyr _ _ h' a hm),Jyi _ h.2⟩
theorem Fr.eqA{a0 a:Act}{l:List (Nat×Value)}{n:Nat}(h:Fr a0 l a)(h1:Ujt (l.map (·.1))=true)(hz:a0.tmps.size=n)(h2:(l.map (·.1)).all (fun k=>decide (k<n))=true):a=l.foldl (fun b p=>b.put (some p.1) p.2) a0:=
 h.eq (Jyi _ h1) fun k hk=>by rw[hz];simpa using Yn.1 h2 k hk
section
variable{P:Program} {ops:Array Oper} {Q:Exit→Act→World→Prop} {md:Region.Mode} {S:World→Prop}
theorem Jyj{fuel:Nat}{listed:Array Bool}{a:Act}{w:World}(h:∀b,b=a→wpAnyH P md ops Q S fuel listed b w):wpAnyH P md ops Q S fuel listed a w:=h a rfl
end
section
variable{P:Program} {ops:Array Oper} {Q:Exit→Act→World→Prop} {md:Region.Mode} {S:World→Prop}
theorem Fr.get{a0 a:Act}{l:List (Nat×Value)}(h:Fr a0 l a){k:Nat}{v:Value}(hv:l.lookup k=some v):a.tmps[k]?=some v:=by
 have:(k,v)∈l:=by
  clear h
  induction l with
  |nil=>cases hv
  |cons p l ih=>
   obtain⟨i,u⟩:=p;rw[List.lookup_cons] at hv;by_cases e:k=i
   ·subst e;simp only[BEq.rfl,Ym] at hv;subst hv;exact Zv ..
   ·have e':(k==i)=false:=by simpa using e
    rw[e'] at hv;exact Zl _ (ih hv)
 exact h.2.2.1 _ this
def Ukk(l:List (Nat×Value))(i:Nat):Bool:=l.all fun p=>decide (p.1≠i)
theorem Yzq{l:List (Nat×Value)}{i:Nat}(h:Ukk l i=true):∀p∈l,p.1≠i:=fun p hp=>by simpa using Yn.1 h p hp
theorem Fr.off{a0 a:Act}{l:List (Nat×Value)}(h:Fr a0 l a){k:Nat}{v:Value}(h0:a0.tmps[k]?=some v)(hk:Ukk l k=true):a.tmps[k]?=some v:=h.base h0 (Yzq hk)
theorem Yzr{i d n:Nat}{oi:Oper}{v:Value}{fuel:Nat}{listed:Array Bool}{a0 a:Act}{l:List (Nat×Value)}{w:World}(hi:ops[i]?=some oi)
 (hs:Region.noSelect ops=true)(hf:Region.free md ops listed i=true)(hr:(Region.ready md ops listed).contains i=true)
 (hQ:∀c a w,Q (.panic c) (a.put oi.dst v) w→Q (.panic c) a w)(hy:YieldsIf P ops S oi v a)(hS:S w)(hd:oi.dst=some d)(hF:RowKit.Hid (Fr a0 l a))(hz:a0.tmps.size=n)(hdn:decide (d<n)=true)(ho:Ukk l d=true)
 (h:∀b,RowKit.Hid (Fr a0 (Qj9 d v l) b)→wpAnyH P md ops Q S fuel (listed.setIfInBounds i true) b w):wpAnyH P md ops Q S (fuel+1) listed a w:=by
 refine wpAnyH_take hi hs hf hr hQ hy hS ?_;rw[hd];exact h _ (hF.out.put (by rw[hz];simpa using hdn) (Yzq ho))
theorem tkF(i:Nat){d n:Nat}{oi:Oper}{v:Value}{fuel:Nat}{listed:Array Bool}{a0 a:Act}{l:List (Nat×Value)}{w:World}(hF:RowKit.Hid (Fr a0 l a))(hz:a0.tmps.size=n)(hS:S w)
 (h:∀b,RowKit.Hid (Fr a0 (Qj9 d v l) b)→wpAnyH P md ops Q S fuel (listed.setIfInBounds i true) b w)(hi:ops[i]?=some oi:=by exact rfl)(hs:Region.noSelect ops=true:=by kernel_rfl)(hf:Region.free md ops listed i=true:=by kernel_rfl)
 (hr:(Region.ready md ops listed).contains i=true:=by kernel_rfl)(hQ:∀c a w,Q (.panic c) (a.put oi.dst v) w→Q (.panic c) a w:=by exact fun _ _ _ h=>h)
 (hy:YieldsIf P ops S oi v a:=by exact Or.inl ⟨by rfl,by(intro w hSw;(try dsimp only at hSw);go_simp;(try with_reducible rfl))⟩)(hd:oi.dst=some d:=by exact rfl)(hdn:decide (d<n)=true:=by exact rfl)(ho:Ukk l d=true:=by exact rfl):wpAnyH P md ops Q S (fuel+1) listed a w:=
 Yzr hi hs hf hr hQ hy hS hd hF hz hdn ho h
theorem goF{K G:Act→World→Prop}{d n:Nat}{v:Value}{a0 a:Act}{l:List (Nat×Value)}{w:World}(hK:Shut (∀a w,S w→(S w→G a w)→K a w))(hS:S w)(hF:RowKit.Hid (Fr a0 l a))(hz:a0.tmps.size=n)(hdn:decide (d<n)=true)(ho:Ukk l d=true)
 (h:∀b,S w→RowKit.Hid (Fr a0 (Qj9 d v l) b)→G b w):K ⟨a.tmps.setIfInBounds d v,a.defers⟩ w:=
 hK.out _ _ hS fun hs=>h _ hs (hF.out.put (by rw[hz];simpa using hdn) (Yzq ho))
end
theorem Ywg{a0:Act}{T0:Type}{A:T0→Prop}{L:T0→List (Nat×Value)}{G:Act→T0→Prop}{P:Prop}(tree:(∀a x0,RowKit.Hid (Fr a0 (L x0) a)→A x0→G a x0)→P)(key:∀a x0,RowKit.Hid (Fr a0 (L x0) a)→A x0→G a x0):P:=tree key
theorem Ywh{a0:Act}{T0 T1:Type}{A:T0→T1→Prop}{L:T0→T1→List (Nat×Value)}{G:Act→T0→T1→Prop}{P:Prop}(tree:(∀a x0 x1,RowKit.Hid (Fr a0 (L x0 x1) a)→A x0 x1→G a x0 x1)→P)(key:∀a x0 x1,RowKit.Hid (Fr a0 (L x0 x1) a)→A x0 x1→G a x0 x1):P:=tree key
theorem Jkv{a0:Act}{T0 T1 T2:Type}{A:T0→T1→T2→Prop}{L:T0→T1→T2→List (Nat×Value)}{G:Act→T0→T1→T2→Prop}{P:Prop}(tree:(∀a x0 x1 x2,RowKit.Hid (Fr a0 (L x0 x1 x2) a)→A x0 x1 x2→G a x0 x1 x2)→P)(key:∀a x0 x1 x2,RowKit.Hid (Fr a0 (L x0 x1 x2) a)→A x0 x1 x2→G a x0 x1 x2):P:=tree key
theorem Yzs{a0:Act}{T0 T1 T2 T3:Type}{A:T0→T1→T2→T3→Prop}{L:T0→T1→T2→T3→List (Nat×Value)}{G:Act→T0→T1→T2→T3→Prop}{P:Prop}(tree:(∀a x0 x1 x2 x3,RowKit.Hid (Fr a0 (L x0 x1 x2 x3) a)→A x0 x1 x2 x3→G a x0 x1 x2 x3)→P)(key:∀a x0 x1 x2 x3,RowKit.Hid (Fr a0 (L x0 x1 x2 x3) a)→A x0 x1 x2 x3→G a x0 x1 x2 x3):P:=tree key
theorem Jkw{a0:Act}{T0 T1 T2 T3 T4:Type}{A:T0→T1→T2→T3→T4→Prop}{L:T0→T1→T2→T3→T4→List (Nat×Value)}{G:Act→T0→T1→T2→T3→T4→Prop}{P:Prop}(tree:(∀a x0 x1 x2 x3 x4,RowKit.Hid (Fr a0 (L x0 x1 x2 x3 x4) a)→A x0 x1 x2 x3 x4→G a x0 x1 x2 x3 x4)→P)(key:∀a x0 x1 x2 x3 x4,RowKit.Hid (Fr a0 (L x0 x1 x2 x3 x4) a)→A x0 x1 x2 x3 x4→G a x0 x1 x2 x3 x4):P:=tree key
theorem Ywi{a0:Act}{T0 T1 T2 T3 T4 T5:Type}{A:T0→T1→T2→T3→T4→T5→Prop}{L:T0→T1→T2→T3→T4→T5→List (Nat×Value)}{G:Act→T0→T1→T2→T3→T4→T5→Prop}{P:Prop}(tree:(∀a x0 x1 x2 x3 x4 x5,RowKit.Hid (Fr a0 (L x0 x1 x2 x3 x4 x5) a)→A x0 x1 x2 x3 x4 x5→G a x0 x1 x2 x3 x4 x5)→P)(key:∀a x0 x1 x2 x3 x4 x5,RowKit.Hid (Fr a0 (L x0 x1 x2 x3 x4 x5) a)→A x0 x1 x2 x3 x4 x5→G a x0 x1 x2 x3 x4 x5):P:=tree key
theorem Yzt{a0:Act}{T0 T1 T2 T3 T4 T5 T6:Type}{A:T0→T1→T2→T3→T4→T5→T6→Prop}{L:T0→T1→T2→T3→T4→T5→T6→List (Nat×Value)}{G:Act→T0→T1→T2→T3→T4→T5→T6→Prop}{P:Prop}(tree:(∀a x0 x1 x2 x3 x4 x5 x6,RowKit.Hid (Fr a0 (L x0 x1 x2 x3 x4 x5 x6) a)→A x0 x1 x2 x3 x4 x5 x6→G a x0 x1 x2 x3 x4 x5 x6)→P)(key:∀a x0 x1 x2 x3 x4 x5 x6,RowKit.Hid (Fr a0 (L x0 x1 x2 x3 x4 x5 x6) a)→A x0 x1 x2 x3 x4 x5 x6→G a x0 x1 x2 x3 x4 x5 x6):P:=tree key
theorem Kq7{a0:Act}{T0 T1 T2 T3 T4 T5 T6 T7:Type}{A:T0→T1→T2→T3→T4→T5→T6→T7→Prop}{L:T0→T1→T2→T3→T4→T5→T6→T7→List (Nat×Value)}{G:Act→T0→T1→T2→T3→T4→T5→T6→T7→Prop}{P:Prop}(tree:(∀a x0 x1 x2 x3 x4 x5 x6 x7,RowKit.Hid (Fr a0 (L x0 x1 x2 x3 x4 x5 x6 x7) a)→A x0 x1 x2 x3 x4 x5 x6 x7→G a x0 x1 x2 x3 x4 x5 x6 x7)→P)(key:∀a x0 x1 x2 x3 x4 x5 x6 x7,RowKit.Hid (Fr a0 (L x0 x1 x2 x3 x4 x5 x6 x7) a)→A x0 x1 x2 x3 x4 x5 x6 x7→G a x0 x1 x2 x3 x4 x5 x6 x7):P:=tree key
theorem Uyf{a0:Act}{T0 T1 T2 T3 T4 T5 T6 T7 T8 T9 T10:Type}{A:T0→T1→T2→T3→T4→T5→T6→T7→T8→T9→T10→Prop}{L:T0→T1→T2→T3→T4→T5→T6→T7→T8→T9→T10→List (Nat×Value)}{G:Act→T0→T1→T2→T3→T4→T5→T6→T7→T8→T9→T10→Prop}{P:Prop}(tree:(∀a x0 x1 x2 x3 x4 x5 x6 x7 x8 x9 x10,RowKit.Hid (Fr a0 (L x0 x1 x2 x3 x4 x5 x6 x7 x8 x9 x10) a)→A x0 x1 x2 x3 x4 x5 x6 x7 x8 x9 x10→G a x0 x1 x2 x3 x4 x5 x6 x7 x8 x9 x10)→P)(key:∀a x0 x1 x2 x3 x4 x5 x6 x7 x8 x9 x10,RowKit.Hid (Fr a0 (L x0 x1 x2 x3 x4 x5 x6 x7 x8 x9 x10) a)→A x0 x1 x2 x3 x4 x5 x6 x7 x8 x9 x10→G a x0 x1 x2 x3 x4 x5 x6 x7 x8 x9 x10):P:=tree key
theorem Uyg{a0:Act}{T0 T1 T2 T3 T4 T5 T6 T7 T8 T9 T10 T11:Type}{A:T0→T1→T2→T3→T4→T5→T6→T7→T8→T9→T10→T11→Prop}{L:T0→T1→T2→T3→T4→T5→T6→T7→T8→T9→T10→T11→List (Nat×Value)}{G:Act→T0→T1→T2→T3→T4→T5→T6→T7→T8→T9→T10→T11→Prop}{P:Prop}(tree:(∀a x0 x1 x2 x3 x4 x5 x6 x7 x8 x9 x10 x11,RowKit.Hid (Fr a0 (L x0 x1 x2 x3 x4 x5 x6 x7 x8 x9 x10 x11) a)→A x0 x1 x2 x3 x4 x5 x6 x7 x8 x9 x10 x11→G a x0 x1 x2 x3 x4 x5 x6 x7 x8 x9 x10 x11)→P)(key:∀a x0 x1 x2 x3 x4 x5 x6 x7 x8 x9 x10 x11,RowKit.Hid (Fr a0 (L x0 x1 x2 x3 x4 x5 x6 x7 x8 x9 x10 x11) a)→A x0 x1 x2 x3 x4 x5 x6 x7 x8 x9 x10 x11→G a x0 x1 x2 x3 x4 x5 x6 x7 x8 x9 x10 x11):P:=tree key
end Go.Proofs.YtgepbohjmgaojaaGreatDoor
