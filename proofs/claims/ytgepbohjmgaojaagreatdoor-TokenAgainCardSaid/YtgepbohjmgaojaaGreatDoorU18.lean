/- The first expression of an insert's rows is written. Which expressions are well-formed: the ways through ValidExpr. -/
import Derived.Test.YtgepbohjmgaojaaGreatDoorVG9
import Derived.Test.YtgepbohjmgaojaaGreatDoorU17
import Derived.Lib.ItoaLen
set_option linter.all false
namespace Go.Proofs.YtgepbohjmgaojaaGreatDoor
open Go.RowKit
theorem Qz4{α:Type}{M:Nat→Prop}{W W':World}{size:Nat}{R R':α→List Value→Prop}{v:Value}(h:Qqa M W size R v ([]:List α))(hz:W.heap.size≤W'.heap.size):Qqa M W' size R' v ([]:List α):=by
 obtain⟨css,hs,hl,_⟩:=h;obtain rfl:css=[]:=Yd hl;refine⟨[],?_,rfl,fun i x cs hx=>by simp at hx⟩
 rcases hs with hs|⟨b,o,cap,hv,h1,h2,h3,h4,_⟩
 ·exact .inl hs
 ·exact .inr ⟨b,o,cap,hv,h1,by omega,h3,h4,fun i cs hc=>by simp at hc⟩
theorem Uju{α:Type}{M:Nat→Prop}{W:World}{size g c:Nat}{R R':α→List Value→Prop}{x y:α}{xs:List α}{cs:List Value}(h:Qqa M W size R (.slice (some ⟨g,0,none⟩) (xs.length+1) c) (x::xs))(hcs:cs.length=size)(hy:R' y cs)(hR:∀z∈xs,∀ds,R z ds→R' z ds)(hM:¬M g):
 Qqa M (W.setCells g 0 cs) size R' (.slice (some ⟨g,0,none⟩) (xs.length+1) c) (y::xs):=by
 obtain⟨css,hs,hl,hx⟩:=h
 rcases hs with⟨⟨a,hv⟩,rfl⟩|⟨b,o,cap,hv,h1,h2,h3,h4,h5⟩
 ·simp at hl
 ·obtain⟨d,ds,rfl⟩:∃d ds,css=d::ds:=by
   cases css with
   |nil=>simp at hl
   |cons d ds=>exact⟨d,ds,rfl⟩
  simp only[Yz,Ym,Kf,and_true] at hv;obtain⟨⟨rfl,rfl⟩,_,rfl⟩:=hv;obtain⟨hd,hcd⟩:=h5 0 d rfl;refine⟨cs::ds,.inr ⟨g,0,c,?_,hM,by rw[Qyz];exact h2,by simpa using h3,h4,fun i es hi=>?_⟩,by simpa using hl,fun i z es hz he=>?_⟩
  ·simp only[Zb] at hl⊢;rw[hl]
  ·match i with
   |0=>
    simp only[Qz,Ym] at hi;subst hi;refine⟨hcs,fun j u hu=>?_⟩;obtain⟨hj,rfl⟩:=Yq.1 hu
    have:=World.cell?_setCells_in g cs 0 W (fun j hj=>by
     have hjd:j<d.length:=by omega
     have h6:=hcd.get j hjd;simp only[Jr,Ye] at h6⊢;rw[h6]
     rfl) j hj
    simpa using this
   |i+1=>
    have hi':ds[i]?=some es:=by simpa using hi
    obtain⟨h6,h7⟩:=h5 (i+1) es (by simpa using hi);refine⟨h6,fun j u hu=>?_⟩
    rw[World.cell?_setCells_out g cs 0 W _ (fun _ _=>.inr (by
     show 0+cs.length≤0+(i+1)*size+j;have:(i+1)*size=i*size+size:=Nat.succ_mul i size
     omega))]
    exact h7 j u hu
  ·match i with
   |0=>
    simp only[Qz,Ym] at hz he;subst hz he;exact hy
   |i+1=>exact hR z (Yk (by simpa using hz)) es (hx (i+1) z es (by simpa using hz) (by simpa using he))
theorem Yq8{M:Nat→Prop}{W:World}{va:Value}{r0:List Ex}{rest:List (List Ex)}(h:Qkq M W va (r0::rest)):
 ∃b o cap g c,va=.slice (some ⟨b,o,none⟩) (rest.length+1) cap∧W.cell? ⟨b,o,none⟩=some (.slice (some ⟨g,0,none⟩) r0.length c)∧r0≠[]∧¬M g∧g<W.heap.size∧b<W.heap.size∧b≠g∧W.there g 0 10∧
  ∀(e:Ex) (cs:List Value),cs.length=10→EC (MG M g) (W.setCells g 0 cs) e cs→Qkq M (W.setCells g 0 cs) va ((e::r0.tail)::rest):=by
 rcases h with⟨h0,_⟩|⟨r0',rest',v0,vs,g0,c0,arr,h1,h1n,h2,rfl,h4,h5,h6,h7⟩
 ·cases h0
 ·simp only[List.cons.injEq] at h1;obtain⟨rfl,rfl⟩:=h1
  obtain⟨x,xs,rfl⟩:∃x xs,r0=x::xs:=by
   cases r0 with
   |nil=>exact absurd rfl h1n
   |cons x xs=>exact⟨x,xs,rfl⟩
  have hz:=(Zq.1 h4).1;have hlen:vs.length=rest.length:=h7.1
  rcases h6.open with⟨_,hn⟩|⟨b,o,cap,rfl,hb,hbz,_,_,hx⟩
  ·cases hn
  obtain⟨ds,⟨rfl,_⟩,_,hds⟩:=hx 0 _ rfl;have hc:=hds.c1;rw[Jr,Je] at hc
  have hth:W.there g0 0 10:=by
   rcases h5.open with⟨_,hn⟩|⟨b',o',cap',hv',_,_,_,_,hx'⟩
   ·cases hn
   simp only[Yz,Ym,Kf,and_true] at hv';obtain⟨⟨rfl,rfl⟩,_⟩:=hv';obtain⟨es,_,hel,hes⟩:=hx' 0 x rfl;intro j hj;have h8:=hes.get j (by omega);simp only[Jr,Ye] at h8⊢;refine⟨by rw[h8];rfl,?_⟩;simp[World.frozen?,h4]
  refine⟨b,o,cap,g0,c0,by rw[Zb,hlen],hc,by simp,h2,hz,hbz,fun e=>hb (.inr e),hth,fun e cs hcs he=>?_⟩;have k:Qqb (MG M g0) W (W.setCells g0 0 cs):=(Qqj cs 0 W).weak fun i _ hi=>.inr hi;obtain⟨cur,hcur,_⟩:=Qkx cs 0 W arr h4;refine .inr ⟨e::xs,rest,_,vs,g0,c0,cur,rfl,by simp,h2,rfl,hcur,?_,Qqa.map h6 k fun _ _ _ h=>h,h7.keep k⟩;exact Uju (R:=EC (MG M g0) W) (x:=x) h5 hcs he (fun z _ ds hd=>EC.keep k z ds hd) h2
section
variable(o:Int) (no:Bool) (vk vi:Int) (vt t nm:ByteArray) (an sn:Nat)
end
section
variable(k o:Int) (no:Bool) (vk vi:Int) (vt t nm:ByteArray) (a s:Option Addr) (an ac sn sc:Nat) (w:World)
end
section
variable(k o:Int) (no:Bool) (vk vi:Int) (vt t nm:ByteArray) (a s:Option Addr) (an ac sn sc:Nat) (w:World)
end
def Qj0(l:List ByteArray):Nat:=(l.map fun t=>t.size+1).sum
theorem Qq9:Qj0 []=0:=rfl
theorem Qqt(t:ByteArray)(l:List ByteArray):Qj0 (t::l)=t.size+1+Qj0 l:=by simp[Qj0]
theorem Qj1(a b:List ByteArray):Qj0 (a++b)=Qj0 a+Qj0 b:=by simp[Qj0]
theorem Jjy:∀l:List ByteArray,l.length≤Qj0 l
 |[]=>Zi _
 |t::l=>by rw[Qqt,Zb];have:=Jjy l;omega
theorem Qwk(k o:Int)(i:Nat)(e:Ex):Qj0 (Qz9 k o i e)≤Qj0 (Qqm e)+4:=by
 unfold Qz9
 split
 ·rw[Qqt,Qj1,Qqt,Qq9];have h1:Qq7.size=1:=by decide
  have h2:Qjq.size=1:=by decide
  omega
 ·omega
theorem Ywl:Jxa.size=3∧Jqq.size=1∧kIS.size=2∧Qys.size=4∧Qvl.size=7∧Yza.size=3∧Jxz.size=6∧Qq7.size=1∧Qjv.size=6∧Qya.size=1∧Qjq.size=1∧Jww.size=5∧Qzp.size=4∧Jwx.size=5∧Qwq.size=1:=by decide
theorem Ukq(o:Int)(h:1≤o∧o≤13):(opS o).size≤3:=by
 have h':o=1∨o=2∨o=3∨o=4∨o=5∨o=6∨o=7∨o=8∨o=9∨o=10∨o=11∨o=12∨o=13:=by omega
 rcases h' with rfl|rfl|rfl|rfl|rfl|rfl|rfl|rfl|rfl|rfl|rfl|rfl|rfl<;>decide
theorem Ukr(k:Int):(Jkp k).size≤3:=by
 unfold Jkp
 split
 ·decide
 ·split<;>decide
def e9:Ex:=opX 5 9 false [Qqp es ⟨#[97]⟩,Qkk ⟨1,1,es⟩] []
def e12:Ex:=opX 5 11 false [e9,Qkk ⟨1,2,es⟩] []
mutual
def Qxq:Ex→Nat
 | .mk _ _ _ _ _ _ args sub=>1+Qz2 args+Jqv sub
def Qz2:List Ex→Nat
 |[]=>0
 |e::l=>Qxq e+Qz2 l
def Jqv:List Qu→Nat
 |[]=>0
 | .mk _ items _ whr::l=>Qz2 items+Qz2 whr+Jqv l
end
theorem Ujx{t:ByteArray}(h:Qq0 t=true):t=es:=by
 unfold Qq0 at h;have h1:t.toList=[]:=by simpa using h
 rw[Yp] at h1;exact ByteArray.ext (Array.toList_inj.1 (by rw[h1];rfl))
theorem Yys:∀s:List UInt8,(Qwu s).length≤2*s.length
 |[]=>by simp[Qwu]
 |c::s=>by
  have:=Yys s;unfold Qwu at this⊢;rw[List.flatMap_cons,Zr,Zb];by_cases h:c=39
  ·rw[if_pos h];simp only[Zb,Yw];omega
  ·rw[if_neg h];simp only[Zb,Yw];omega
theorem Ujy{v:Val}(h:Qqs v=true)(h0:v.kind=1→0≤v.int∧v.int≤9223372036854775807):(bs (Qzt v)).size≤130:=by
 show(Qzt v).toArray.size≤130;rw[List.size_toArray];unfold Qzt;rw[h];obtain⟨k,n,s⟩:=v;simp only at h0⊢;unfold Qqs at h;simp only at h;rw[if_neg (by decide)];by_cases k0:k=0
 ·rw[if_pos k0];decide
 rw[if_neg k0] at h⊢;by_cases k1:k=1
 ·rw[if_pos k1];obtain⟨hn,hm⟩:=h0 k1
  obtain⟨u,rfl⟩:∃u:Nat,n=(u:Int):=⟨n.toNat,by omega⟩
  have hi:Lib.itoa (u:Int)=Lib.decDigits u:=by unfold Lib.itoa;rw[if_neg (by omega)];rfl
  rw[hi,Lib.decDigits_length];have:=Lib.nDigits_le20 u (by omega);omega
 rw[if_neg k1] at h⊢;by_cases k2:k=2
 ·rw[if_pos k2]
  split<;>decide
 rw[if_neg k2] at h⊢;by_cases k3:k=3
 ·rw[if_pos k3] at h;simp only[Qj2,Yx,Zu] at h;have h1:=Yys s.data.toList;have h2:s.data.toList.length=s.size:=rfl;rw[Jw1,Zb,Zr,Jp];omega
 ·rw[if_neg k3] at h;cases h
theorem Qxx(a:Ex):Qz2 [a]=Qxq a:=by simp[Qz2]
theorem Jyk(a b:Ex):Qz2 [a,b]=Qxq a+Qxq b:=by simp[Qz2]
theorem Jx8(a b c:Ex):Qz2 [a,b,c]=Qxq a+Qxq b+Qxq c:=by simp[Qz2];omega
theorem Jkz(k o:Int)(no:Bool)(args:List Ex):Qxq (opX k o no args [])=1+Qz2 args:=by unfold opX;rw[Qxq,Jqv];omega
theorem Jk0(k:Int)(st:Bool)(f:ByteArray)(items whr:List Ex):Qxq (opX k 0 false [] [.mk st items f whr])=1+Qz2 items+Qz2 whr:=by unfold opX;rw[Qxq,Jqv,Jqv,Qz2];omega
theorem Yjd(e:Ex):1≤Qxq e:=by
 obtain⟨k,o,no,v,t,nm,args,sub⟩:=e;rw[Qxq];omega
theorem Jyl{s:ByteArray}(h:Qqo s=true):s.size≤12:=by
 simp only[Qqo,Yx,Zu] at h;exact h.1.1.2
theorem Jxh{s:ByteArray}{l:List UInt8}(h:s.toList=l):s.size=l.length:=by
 rw[Yp] at h;rw[←h];rfl
theorem Jym{s:ByteArray}(h:Qju s=true):s.size≤12:=by
 unfold Qju at h;simp only[Bool.or_eq_true,beq_iff_eq] at h;rcases h with(h|h)|h
 ·exact Jyl h
 ·rw[Jxh h];decide
 ·rw[Jxh h];decide
theorem Jxi{t n:ByteArray}(h:Qjj t n=true):t.size≤12∧n.size≤12:=by
 unfold Qjj at h;simp only[Yx,Bool.or_eq_true,beq_iff_eq] at h;refine⟨?_,Jyl h.2⟩;rcases h.1 with((((h|h)|h)|h)|h)|h
 ·rw[Jxh h];decide
 ·rw[Jxh h];decide
 ·rw[Jxh h];decide
 ·rw[Jxh h];decide
 ·rw[Jxh h];decide
 ·exact Jyl h
theorem Yyt{e:Ex}(h:VX e):Qj0 (Qqm e)≤200*Qxq e:=by
 obtain⟨s1,s2,s3,s4,s5,s6,s7,s8,s9,s10,s11,s12,s13,s14,s15⟩:=Ywl
 induction h with
 |lit v hv h0=>
  have h1:=Ujy hv h0;have:=Yjd (Qkk v);rw[Yqw,Qqt,Qq9];omega
 |col t n h=>
  obtain⟨h1,h2⟩:=Jxi h;have:=Yjd (Qqp t n);rw[Yqx]
  split
  ·rw[Qqt,Qq9];omega
  ·simp only[Qqt,Qq9];omega
 |ops k o no args hk ha ih=>
  rw[Jkz];unfold Qzg at hk
  rcases hk with⟨hk,rfl,rfl,hl⟩|⟨rfl,rfl,hl⟩|⟨rfl,h1,h13,rfl,hl⟩|⟨rfl,rfl,rfl,hl⟩
  ·match args,hl with
   |[a],_=>
    have i1:=ih a (by simp);rw[Qxx];rcases hk with rfl|rfl
    ·rw[Yq9];have:=Qwk 3 0 0 a;simp only[Qj1,Qqt,Qq9];omega
    ·rw[Yja];have:=Qwk 4 0 0 a;simp only[Qj1,Qqt,Qq9];omega
  ·match args,hl with
   |[a],_=>
    have i1:=ih a (by simp);have:=Qwk 6 0 0 a;rw[Qxx];cases no
    ·rw[Jvm];simp only[Qj1,Qqt,Qq9];omega
    ·rw[Jvl];simp only[Qj1,Qqt,Qq9];omega
  ·match args,hl with
   |[a,b],_=>
    have i1:=ih a (by simp);have i2:=ih b (by simp);have:=Qwk 5 o 0 a;have:=Qwk 5 o 1 b;have:=Ukq o ⟨h1,h13⟩;rw[Yjb,Jyk];simp only[Qj1,Qqt,Qq9];omega
  ·match args,hl with
   |[a,b,c],_=>
    have i1:=ih a (by simp);have i2:=ih b (by simp);have i3:=ih c (by simp);have:=Qwk 7 0 0 a;have:=Qwk 7 0 1 b;have:=Qwk 7 0 2 c;rw[Yjc,Jx8];simp only[Qj1,Qqt,Qq9];omega
 |sub k f items whr hi hf hw hA hB iA iB=>
  have h2:=Jym hf;rw[Jk0]
  have hwh:Qj0 (Qjd (whr.map Qqm))≤6+200*Qz2 whr:=by
   match whr,hw with
   |[],_=>simp only[Km,Qjd,Qq9];omega
   |[x],_=>
    have:=iB x (by simp);rw[Qxx];simp only[Yc,Km,Qjd,Qqt,Qj1,Qq9];omega
   |_::_::_,h=>simp at h
  have hhd:Qj0 (Yx6 k (items.map Qqm))≤30+200*Qz2 items:=by
   unfold Yx6
   split
   ·simp only[Qqt,Qq9];omega
   ·split
    ·simp only[Qqt,Qq9];omega
    ·have h5:=Ukr k
     match items,hi with
     |[],_=>
      simp only[Km,List.getD_nil,Qqt,Qj1,Qq9];omega
     |[x],_=>
      have:=iA x (by simp);rw[Qxx];simp only[Yc,Km,List.getD_cons_zero,Qqt,Qj1,Qq9];omega
     |_::_::_,h=>simp at h
  rw[Jzk (by rcases hi with⟨h,_⟩|⟨h,_⟩<;>omega)];simp only[Qqt,Qj1,Qq9];omega
theorem Uyi(m:Int)(h1:-1000≤m)(h2:m≤1000):VX (Qqi m):=by
 unfold Qqi
 split
 ·exact .ops 4 0 false [Qkk ⟨1, -m,es⟩] (by simp[Qzg]) fun a ha=>by
   rw[Zd.1 ha]
   exact .lit _ (by simp[Qqs,Qq0,es,Yp]) fun _=>⟨by simp only;omega,by simp only;omega⟩
 ·exact .lit _ (by simp[Qqs,Qq0,es,Yp]) fun _=>⟨by simp only;omega,by simp only;omega⟩
theorem Ywm(m:Int):Qxq (Qqi m)≤2:=by
 unfold Qqi
 split<;>simp[Uz7,Qkk,Qxq,Qz2,Jqv]
theorem Uy3{n:Nat}{e:Ex}(h:GX n e):VX e:=by
 induction h with
 |col n t nm h=>exact .col t nm h
 |lit n v hv h0=>
  refine .lit v (Uxx hv) fun hk=>⟨h0 hk,?_⟩
  rcases hv with h|h|h|h
  ·omega
  ·exact h.2.1.2
  ·omega
  ·omega
 |num n m h1 h2=>exact Uyi m h1 h2
 |txt n i hi=>
  have hall:∀i,i<8→Qqs ⟨3,0,Qqe i⟩=true:=by decide+kernel
  exact .lit _ (hall i hi) fun hk=>absurd hk (by show ¬(3:Int)=1;omega)
 |ops n k o no args hk _ ih=>exact .ops k o no args hk ih
 |sub n k f items whr hf hi hw _ _ ih1 ih2=>exact .sub k f items whr hi hf hw ih1 ih2
theorem Qyu{m:Nat}:∀{l:List Ex},(∀x∈l,2*Qxq x+1≤m)→1≤m→2*Qz2 l+l.length≤l.length*m
 |[],_,_=>by simp[Qz2]
 |x::l,h,h1=>by
  have a:=h x (by simp);have b:=Qyu (l:=l) (fun y hy=>h y (by simp[hy])) h1;rw[Qz2,Zb,Nat.add_mul];omega
theorem Uks{n:Nat}{e:Ex}(h:GX n e):2*Qxq e+1≤3^(n+2):=by
 have hp:∀n:Nat,9≤3^(n+2):=fun n=>by
  rw[Nat.pow_add];have:=Nat.one_le_pow n 3 (by omega);omega
 induction h with
 |col n t nm h=>
  have:=hp n;rw[show Qxq (Qqp t nm)=1 by simp[Qqp,Qxq,Qz2,Jqv]];omega
 |lit n v hv h0=>
  have:=hp n;rw[show Qxq (Qkk v)=1 by simp[Qkk,Qxq,Qz2,Jqv]];omega
 |num n m h1 h2=>
  have:=hp n;have:=Ywm m;omega
 |txt n i hi=>
  have:=hp n;rw[show Qxq (Qkk ⟨3,0,Qqe i⟩)=1 by simp[Qkk,Qxq,Qz2,Jqv]];omega
 |ops n k o no args hk _ ih=>
  have h9:=hp n;have hl:=Qyu ih (by omega);have h3:=(Jxy hk).2.2;rw[Jkz,Nat.pow_succ];have h4:args.length=0∨args.length=1∨args.length=2∨args.length=3:=by omega
  rcases h4 with h4|h4|h4|h4<;>rw[h4] at hl<;>omega
 |sub n k f items whr hf hi hw _ _ ih1 ih2=>
  have h9:=hp n;have a:=Qyu ih1 (by omega);have b:=Qyu ih2 (by omega);rw[Jk0,Nat.pow_succ]
  have h3:items.length=0∨items.length=1:=by
   rcases hi with⟨_,rfl⟩|⟨_,h⟩
   ·exact .inl rfl
   ·exact .inr h
  have h4:whr.length=0∨whr.length=1:=by omega
  rcases h3 with h3|h3<;>rcases h4 with h4|h4<;>rw[h3] at a<;>rw[h4] at b<;>omega
theorem Qwd{s:ByteArray}(h:s.size≤12):s.size≤maxLen:=by
 unfold maxLen;omega
theorem Kjd{n:Nat}{e:Ex}(h:GX n e):Dep (n+2) e:=by
 induction h with
 |col n t nm h=>exact Jjr _ _ _ _ _ _ _ Qza (Qwd (Jxi h).1) (Qwd (Jxi h).2)
 |lit n v hv h0=>exact Jjr _ _ _ _ _ _ _ (Yxz hv).1.1 Qza Qza
 |num n m h1 h2=>
  unfold Qqi
  split
  ·refine .mk _ _ Qza Qza Qza (by intro q h;cases h) (fun x hx=>?_) (by intro q h;cases h) (by intro q h;cases h);have hx':x∈[Qkk ⟨1, -m,es⟩]:=hx;rw[Zd.1 hx'];exact Jjr _ _ _ _ _ _ _ Qza Qza Qza
  ·exact Jjr _ _ _ _ _ _ _ Qza Qza Qza
 |txt n i hi=>exact Jjr _ _ _ _ _ _ _ (Qwd (show 2≤12 by omega)) Qza Qza
 |ops n k o no args hk ha ih=>exact .mk _ _ Qza Qza Qza (by intro q h;cases h) ih (by intro q h;cases h) (by intro q h;cases h)
 |sub n k f items whr hf hi hw h1 h2 ih1 ih2=>
  refine .mk _ _ Qza Qza Qza ?_ (by intro q h;cases h) ?_ ?_
  ·intro q hq;obtain rfl:q=.mk (k==8) items f whr:=Zd.1 hq;exact Qwd (Jym hf)
  ·intro q hq;obtain rfl:q=.mk (k==8) items f whr:=Zd.1 hq;exact ih1
  ·intro q hq;obtain rfl:q=.mk (k==8) items f whr:=Zd.1 hq;exact ih2
theorem Kje{n:Nat}{e:Ex}(h:Qyl n e):GX n e:=by
 induction h with
 |col n q i hq hi=>
  have hall:∀q∈Jwt,∀i,i<8→Qjj q (Qjf i)=true:=by decide+kernel
  exact .col n q _ (hall q hq i hi)
 |lit n v hv h0=>exact .lit n v hv h0
 |ops n k o no args hk _ ih=>exact .ops n k o no args hk ih
 |sub n k f items whr hf hi hw _ _ ih1 ih2=>
  have hall:∀f∈Yqr,Qju f=true:=by decide+kernel
  exact .sub n k f items whr (hall f hf) hi hw ih1 ih2
end Go.Proofs.YtgepbohjmgaojaaGreatDoor
