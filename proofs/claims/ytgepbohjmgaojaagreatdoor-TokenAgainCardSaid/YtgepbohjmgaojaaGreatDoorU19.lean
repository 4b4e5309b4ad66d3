/- Lists of names that differ; cells of a list of texts. No program is named here. -/
import Derived.Test.YtgepbohjmgaojaaGreatDoorU12
set_option linter.all false
namespace Go.Proofs.YtgepbohjmgaojaaGreatDoor
open Go.RowKit
theorem Jk2:∀(l seen:List ByteArray),Qx6 seen l=true↔(∀x∈l,∀y∈seen,y.toList≠x.toList)∧l.Pairwise fun a b=>a.toList≠b.toList
 |[],seen=>by simp[Qx6]
 |s::l,seen=>by
  rw[Qx6,Yx,Jk2 l (seen++[s]),List.pairwise_cons];simp only[Kr,List.any_eq_false,beq_iff_eq,Yf,Zs,Zo,Yu];constructor
  ·rintro⟨h1,h2,h3⟩;refine⟨fun x hx y hy=>?_,fun x hx=>h2 x hx s (Or.inr rfl),h3⟩;rcases hx with rfl|hx
   ·exact h1 y hy
   ·exact h2 x hx y (.inl hy)
  ·rintro⟨h1,h2,h3⟩;refine⟨fun y hy=>h1 s (.inl rfl) y hy,fun x hx y hy=>?_,h3⟩;rcases hy with hy|rfl
   ·exact h1 x (.inr hx) y hy
   ·exact h2 x hx
theorem Yzx{l:List ByteArray}{i j:Nat}{a b:ByteArray}(h:i<j)(ha:l[i]?=some a)(hb:l[j]?=some b)(he:(a.toList==b.toList)=true):Qx6 [] l=false:=by
 refine Ko.2 fun hd=>?_;have hp:=((Jk2 l []).1 hd).2;rw[List.pairwise_iff_getElem] at hp;obtain⟨hi,rfl⟩:=Yq.1 ha;obtain⟨hj,rfl⟩:=Yq.1 hb;exact hp i j hi hj h (by simpa using he)
theorem Jyp{l:List ByteArray}(h:∀(i k:Nat) (x y:ByteArray),i<k→k<l.length→l[i]?=some x→l[k]?=some y→(x.toList==y.toList)=false):Qx6 [] l=true:=by
 refine(Jk2 l []).2 ⟨fun x _ y hy=>(by cases hy),List.pairwise_iff_getElem.2 fun i j hi hj hij=>?_⟩;have:=h i j l[i] l[j] hij hj (Zg hi) (Zg hj);simpa using this
theorem Ukt{l:List ByteArray}(h:∀(i:Nat) (y:ByteArray),i<l.length→l[i]?=some y→Qqo y=true):l.all Qqo=true:=
 Yn.2 fun x hx=>by
  obtain⟨i,hi,rfl⟩:=Yt.1 hx;exact h i _ hi (Zg hi)
theorem Uku{l:List ByteArray}{i:Nat}{y:ByteArray}(h:l[i]?=some y)(hn:Qqo y=false):l.all Qqo=false:=by
 refine Ko.2 fun ha=>?_;have:=Yn.1 ha y (Yk h);rw[hn] at this;cases this
end Go.Proofs.YtgepbohjmgaojaaGreatDoor
