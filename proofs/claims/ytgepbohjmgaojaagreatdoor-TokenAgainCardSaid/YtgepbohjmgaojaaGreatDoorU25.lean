/- The reference's words of every well-formed expression, and its Expr; print.Expr and the reference's Expr of expressions that are not well-formed. -/
import Derived.Test.YtgepbohjmgaojaaGreatDoorVY11
import Derived.Test.YtgepbohjmgaojaaGreatDoorVY14
import Derived.Test.YtgepbohjmgaojaaGreatDoorU24
import Derived.Test.YtgepbohjmgaojaaGreatDoorVG13
set_option linter.all false
namespace Go.Proofs.YtgepbohjmgaojaaGreatDoor
open Go.Proofs.Tryz
open Go.RowKit
theorem Jqz{e:Ex}(h:VX e):(Qqm e).length≤200*Qxq e:=Ya (Jjy _) (Yyt h)
theorem Uk3{v:Val}(h:Qqs v=true)(h0:v.kind=1→0≤v.int∧v.int≤9223372036854775807):Jvb v:=by
 obtain⟨k,n,s⟩:=v
 have hz:∀{s:ByteArray},Qq0 s=true→s.size≤maxLen:=fun{s} hs=>by
  rw[Ujx hs];decide
 unfold Qqs at h;unfold Jvb;simp only at h h0⊢;by_cases k0:k=0
 ·rw[if_pos k0] at h;simp only[Yx,Zu] at h;exact⟨hz h.2,by omega,by omega,by omega,by omega⟩
 rw[if_neg k0] at h;by_cases k1:k=1
 ·rw[if_pos k1] at h;have:=h0 k1;exact⟨hz h,by omega,by omega,by omega,by omega⟩
 rw[if_neg k1] at h;by_cases k2:k=2
 ·rw[if_pos k2] at h;simp only[Yx,Bool.or_eq_true,Zu] at h;exact⟨hz h.2,by omega,by omega,by omega,by omega⟩
 rw[if_neg k2] at h;by_cases k3:k=3
 ·rw[if_pos k3] at h;simp only[Qj2,Yx,Zu] at h;refine⟨?_,by omega,by omega,by omega,by omega⟩;unfold maxLen;omega
 ·rw[if_neg k3] at h;cases h
theorem Uzd{whr:List Ex}(hw:whr.length≤1)(h2:∀x∈whr,VX x)(hn:Qz2 whr≤900000):(Qjd (whr.map Qqm)).length≤500000000:=by
 match whr,hw with
 |[],_=>simp[Qjd]
 |[x],_=>
  have:=Jqz (h2 x (by simp));rw[Qxx] at hn;simp only[Yc,Km,Qjd,Jb,Zb];omega
theorem Kj2{e:Ex}(h:VX e)(hn:Qxq e≤900000):Qxb e:=by
 induction h with
 |lit v hv h0=>exact Kjf v (Uk3 hv h0)
 |col t n h=>exact Kjg t n
 |ops k o no args hk ha ih=>
  rw[Jkz] at hn;unfold Qzg at hk
  rcases hk with⟨hk,rfl,rfl,hl⟩|⟨rfl,rfl,hl⟩|⟨rfl,h1,h13,rfl,hl⟩|⟨rfl,rfl,rfl,hl⟩
  ·match args,hl with
   |[a],_=>
    rw[Qxx] at hn;have hl:=Jqz (ha a (by simp));have i1:=ih a (by simp) (by omega);rcases hk with rfl|rfl
    ·exact Kjh a i1 (by omega)
    ·exact Kji a i1 (by omega)
  ·match args,hl with
   |[a],_=>
    rw[Qxx] at hn;have hl:=Jqz (ha a (by simp));have i1:=ih a (by simp) (by omega);cases no
    ·exact Ukv a i1 (by omega)
    ·exact Ukw a i1 (by omega)
  ·match args,hl with
   |[a,b],_=>
    rw[Jyk] at hn;have l1:=Jqz (ha a (by simp));have l2:=Jqz (ha b (by simp));obtain⟨j,rfl⟩:=Zt (show 0≤o by omega);exact Kjm j (by omega) (by omega) a b (ih a (by simp) (by omega)) (ih b (by simp) (by omega)) (by omega) (by omega)
  ·match args,hl with
   |[a,b,c],_=>
    rw[Jx8] at hn;have l1:=Jqz (ha a (by simp));have l2:=Jqz (ha b (by simp));have l3:=Jqz (ha c (by simp));exact Kjn a b c (ih a (by simp) (by omega)) (ih b (by simp) (by omega)) (ih c (by simp) (by omega)) (by omega) (by omega) (by omega)
 |sub k f items whr hi hf hw h1 h2 ih1 ih2=>
  rw[Jk0] at hn;have hwl:=Uzd hw h2 (by omega)
  have hall:∀x∈whr,Qxb x:=by
   match whr,hw with
   |[],_=>intro x hx;cases hx
   |[y],_=>
    rw[Qxx] at hn;intro x hx;exact ih2 x hx (by rw[Zd.1 hx];omega)
  rcases hi with⟨h89,rfl⟩|⟨hk,hl⟩
  ·rcases h89 with rfl|rfl
   ·exact Uj0 f whr hw hall hwl
   ·exact Ukx f whr hw hall hwl
  ·match items,hl with
   |[x],_=>
    rw[Qxx] at hn;have l1:=Jqz (h1 x (by simp));have hst:(k==8)=false:=by rcases hk with rfl|rfl|rfl<;>rfl
    rw[hst];exact Kjo k hk f x whr (ih1 x (by simp) (by omega)) (by omega) hw hall hwl
theorem Qwl:kCREATE.size≤12∧Qkf.size≤12∧Qzl.size≤12∧Qvw.size≤12∧Jjv.size≤12∧Uki.size≤12∧Jxa.size≤12∧Qys.size≤12∧Yzn.size≤12∧Jv1.size≤12∧Uyd.size≤12∧Jqs.size≤12∧kOF.size≤12∧kON.size≤12∧Jyd.size≤12∧Jjw.size≤12∧Jx6.size≤12∧kTO.size≤12∧Yq5.size≤12∧Jqt.size≤12∧Jye.size≤12∧Qj3.size≤12∧Qkg.size≤12∧kEq.size≤12∧Qwq.size≤12∧Qq7.size≤12∧Qjq.size≤12∧Qjv.size≤12∧Qya.size≤12∧Qzp.size≤12∧Jwx.size≤12∧Qxh.size≤12∧Qyh.size≤12∧Qzr.size≤12∧Qvo.size≤12∧Jzr.size≤12∧Qwb.size≤12∧Jkt.size≤12∧Jyc.size≤12∧Jqq.size≤12∧Qva.size≤12∧Qwi.size≤12:=by decide+kernel
theorem Qz8{s:ByteArray}(h:Qqo s=true):s.size≤12:=by
 unfold Qqo at h;simp only[Yx,Zu] at h;exact h.1.1.2
theorem Uk4{s:ByteArray}(h:Qju s=true):s.size≤12:=by
 have h':=h;unfold Qju at h';simp only[Bool.or_eq_true] at h';rcases h' with(h1|h1)|h1
 ·exact Qz8 h1
 ·have e:s.toList=_:=beq_iff_eq.1 h1;have:s.size=s.toList.length:=by rw[Yp];simp
  rw[this,e];decide
 ·have e:s.toList=_:=beq_iff_eq.1 h1;have:s.size=s.toList.length:=by rw[Yp];simp
  rw[this,e];decide
theorem Jq0:∀ls:List (List ByteArray),Qj0 (Qqw ls)≤(ls.map Qj0).sum+13*ls.length
 |[]=>Zi _
 |[a]=>by simp[Qqw]
 |a::b::l=>by
  have ih:=Jq0 (b::l);have hk:Qj3.size≤12:=by decide+kernel
  show Qj0 (a++Qj3::Qqw (b::l))≤_;simp only[Qj1,Qqt,Yc,Kc,Zb] at ih⊢;omega
theorem Yjg:∀ls:List (List ByteArray),Qj0 ls.flatten=(ls.map Qj0).sum
 |[]=>rfl
 |a::l=>by rw[Yr,Qj1,Yjg l,Yc,Kc]
theorem Jj1{α:Type}(f:α→Nat)(K:Nat):∀l:List α,(∀x∈l,f x≤K)→(l.map f).sum≤l.length*K
 |[],_=>Zi _
 |a::l,h=>by
  have ih:=Jj1 f K l fun x hx=>h x (Zl _ hx);have:=h a (Zv ..);rw[Yc,Kc,Zb,Nat.add_mul];omega
theorem Kjk{t:ByteArray}(h:Qj2 t=true)(h2:t.size≤12):(bs (Qzt ⟨3,0,t⟩)).size≤1010:=by
 have hv:Qqs ⟨3,0,t⟩=true:=by simp[Qqs,h]
 have e:Qzt ⟨3,0,t⟩=39::(Lib.replaceAll t.data.toList [39] [39,39]++[39]):=by unfold Qzt;rw[hv];rfl
 have hr:=Jjk t (by omega);have hz:(txt (Lib.replaceAll t.data.toList [39] [39,39])).size=(Lib.replaceAll t.data.toList [39] [39,39]).length:=by show(Lib.replaceAll t.data.toList [39] [39,39]).toArray.size=_;simp
 rw[e,Jx9];simp only[Zb,Zr,Yw];omega
theorem Jkc{n:Nat}(hn:n≤4){e:Ex}(h:GX n e):Qxq e≤364∧Qj0 (Qqm e)≤72800:=by
 have h1:=Uks h;have h2:3^(n+2)≤3^6:=Nat.pow_le_pow_right (by omega) (by omega);have h3:=Yyt (Uy3 h);omega
theorem Jvs{n:Nat}(hn:n≤4){e:Ex}(h:GX n e):Qxb e:=Kj2 (Uy3 h) (by have:=(Jkc hn h).1;omega)
theorem Yjh{n:Nat}(hn:n≤4){l:List Ex}(h:∀x∈l,GX n x)(m:Nat)(hm:l.length≤m):Qj0 (Qqw (Qzd l))≤72813*m:=by
 have h1:=Jq0 (Qzd l);rw[Qkc,List.map_map,Ys] at h1;have h2:=Jj1 (Qj0∘Qqm) 72800 l fun x hx=>(Jkc hn (h x hx)).2;rw[Qkc];have:l.length*72813≤m*72813:=Nat.mul_le_mul_right _ hm;omega
theorem Jxl{n:Nat}(hn:n≤4){l:List Ex}(h:∀x∈l,GX n x)(hm:l.length≤1):Qj0 (Qjd (Qzd l))≤72900:=by
 obtain⟨k1,k2,k3,k4,k5,k6,k7,k8,k9,k10,k11,k12,k13,k14,k15,k16,k17,k18,k19,k20,k21,k22,k23,k24,k25,k26,k27,k28,k29,k30,k31,_⟩:=Qwl
 match l,hm with
 |[],_=>exact Zi _
 |[x],_=>
  have:=(Jkc hn (h x (by simp))).2;rw[Qkc];simp only[Yc,Km,Qjd,Qqt,Qj1,Qq9];omega
theorem Jyw{n:Nat}(hn:n≤4){q:Qu}(h:QG n q)(hl:q.items.length≤4):Qj0 (Qxw q)≤370000:=by
 obtain⟨k1,k2,k3,k4,k5,k6,k7,k8,k9,k10,k11,k12,k13,k14,k15,k16,k17,k18,k19,k20,k21,k22,k23,k24,k25,k26,k27,k28,k29,k30,k31,_⟩:=Qwl;obtain⟨h1,h2,h3,h4,h5⟩:=h;have a:=Yjh hn h1 4 hl;have b:=Jxl hn h2 h3;have c:=Uk4 h4;unfold Qxw Jzz
 split<;>simp only[Qqt,Qj1,Qq9]<;>omega
theorem Uk5{n:Nat}(hn:n≤4){s:Qx4}(h:Qqo s.col=true∧GX n s.ex):Qj0 (Jqe s)≤72830:=by
 obtain⟨k1,k2,k3,k4,k5,k6,k7,k8,k9,k10,k11,k12,k13,k14,k15,k16,k17,k18,k19,k20,k21,k22,k23,k24,_⟩:=Qwl;have a:=Qz8 h.1;have b:=(Jkc hn h.2).2;unfold Jqe;simp only[Qqt];omega
theorem Yji{n:Nat}(hn:n≤4){l:List Qx4}(h:∀s∈l,Qqo s.col=true∧GX n s.ex)(hm:l.length≤2):Qj0 (Jqf l)≤150000:=by
 have h1:=Jq0 (l.map Jqe);rw[List.map_map,Ys] at h1;have h2:=Jj1 (Qj0∘Jqe) 72830 l fun x hx=>Uk5 hn (h x hx);have:l.length*72830≤2*72830:=Nat.mul_le_mul_right _ hm;unfold Jqf;omega
theorem Yjj{n:Nat}(hn:n≤4):∀(l:List (List Ex)) (k:ByteArray),k.size≤12→(∀r∈l,r.length≤4∧∀x∈r,GX n x)→Qj0 (Qz3 k l)≤300000*l.length
 |[],_,_,_=>Zi _
 |r::l,k,hk,h=>by
  obtain⟨k1,k2,k3,k4,k5,k6,k7,k8,k9,k10,k11,k12,k13,k14,k15,k16,k17,k18,k19,k20,k21,k22,k23,k24,k25,k26,k27,_⟩:=Qwl;have ih:=Yjj hn l Qj3 k22 fun r hr=>h r (Zl _ hr);have a:=Yjh hn (h r (Zv ..)).2 4 (h r (Zv ..)).1;rw[Qz3];simp only[Qqt,Qj1,Zb];omega
theorem Jj2{n:Nat}(hn:n≤4){a:Qzq}(h:Qk3 n a):Qj0 (Qqv a)≤910000:=by
 obtain⟨k1,k2,k3,k4,k5,k6,k7,k8,k9,k10,k11,k12,k13,k14,k15,k16,k17,k18,k19,k20,k21,k22,k23,k24,k25,k26,k27,k28,k29,k30,k31,k32,k33,k34,k35,k36,k37,k38,k39,_⟩:=Qwl
 cases h with
 |rows t l ht h1 h2 hr=>
  have e:Qqv ⟨1,t,l,[],[],[],⟨#[]⟩⟩=Qxh::Qyh::t::Qz3 Qzr l:=by simp[Qqv]
  have a:=Yjj hn l Qzr k34 fun r hr'=>⟨(hr r hr').2.1,(hr r hr').2.2⟩
  have b:=Qz8 ht;rw[e];simp only[Qqt];omega
 |query t q ht hq hl=>
  have e:Qqv ⟨1,t,[],[q],[],[],⟨#[]⟩⟩=Qxh::Qyh::t::Qxw q:=by simp[Qqv,Qz3]
  have a:=Jyw hn hq hl;have b:=Qz8 ht;rw[e];simp only[Qqt];omega
 |update t l whr ht h1 h2 hs hd hw hg=>
  have e:Qqv ⟨2,t,[],[],l,whr,⟨#[]⟩⟩=Qvo::t::Jzr::(Jqf l++Qjd (Qzd whr)):=by simp[Qqv]
  have a:=Yji hn hs h2;have c:=Jxl hn hg hw;have b:=Qz8 ht;rw[e];simp only[Qqt,Qj1];omega
 |delete t whr ht hw hg=>
  have e:Qqv ⟨3,t,[],[],[],whr,⟨#[]⟩⟩=Qwb::Qzp::t::Qjd (Qzd whr):=by simp[Qqv]
  have c:=Jxl hn hg hw;have b:=Qz8 ht;rw[e];simp only[Qqt];omega
 |abort t h h2=>
  have e:Qqv ⟨4,⟨#[]⟩,[],[],[],[],t⟩=[Jkt,bs (Qzt ⟨3,0,t⟩)]:=by simp[Qqv]
  have hz:=Kjk h h2;rw[e];simp only[Qqt,Qq9];omega
 |set s h=>
  have e:Qqv ⟨5,⟨#[]⟩,[],[],[s],[],⟨#[]⟩⟩=Jzr::Jyc::Qwq::Jqf [s]:=by simp[Qqv]
  have a:=Yji (l:=[s]) hn (fun x hx=>by rw[Zd.1 hx];exact h) (by simp);rw[e];simp only[Qqt];omega
theorem Yk2{n:Int}(h0:-1000≤n)(h1:n≤1000):Qj0 (Jxe n)≤100:=by
 obtain⟨k1,k2,k3,k4,k5,k6,k7,k8,k9,k10,k11,k12,k13,k14,k15,k16,k17,k18,k19,k20,k21,k22,k23,k24,k25,k26,k27,k28,k29,k30,k31,k32,k33,k34,k35,k36,k37,k38,k39,k40,_⟩:=Qwl;have a:=Lib.itoa_length_le n (by omega) (by omega);have b:=Lib.itoa_length_le (-n) (by omega) (by omega);unfold Jxe
 split<;>simp only[Qqt,Qq9,Jx9]<;>omega
theorem Kj3:∀c1 c2 c3 c4 c5 c6 z1 z2 z3 z4 z5 z6 z7 z8 z9 za zb zc:Nat,c1≤40→c2=0→c3=0→c4≤1000→c5≤73000→c6≤1820100→z1≤12→z2≤12→z3≤12→z4≤12→z5≤12→z6≤12→z7≤12→z8≤12→z9≤12→za≤12→zb≤12→zc≤12→
 z1+1+(z2+1+(z3+1+(z4+1+(z5+1+(c1+(z6+1+(z7+1+(z8+1+(z9+1+(za+1+(c2+(c3+(c4+(c5+(zb+1+(c6+(zc+1+0)))))))))))))))))≤2000000:=fun c1 c2 c3 c4 c5 c6 z1 z2 z3 z4 z5 z6 z7 z8 z9 za zb zc h1 h2 h3 h4 h5 h6 g0 g1 g2 g3 g4 g5 g6 g7 g8 g9 g10 g11=>Ya (Jz (Jx g0 1) (Jz (Jx g1 1) (Jz (Jx g2 1) (Jz (Jx g3 1) (Jz (Jx g4 1) (Jz h1 (Jz (Jx g5 1) (Jz (Jx g6 1) (Jz (Jx g7 1) (Jz (Jx g8 1) (Jz (Jx g9 1) (Jz (Kn h2) (Jz (Kn h3) (Jz h4 (Jz h5 (Jz (Jx g10 1) (Jz h6 (Jz (Jx g11 1) (Zz 0))))))))))))))))))) (by decide)
theorem Jkd{n:Nat}(hn:n≤4){t:Qks}(h:Jxf n t):Qj0 (Qkw t)≤2000000:=by
 obtain⟨k1,k2,k3,k4,k5,k6,k7,k8,k9,k10,k11,k12,k13,k14,k15,k16,k17,k18,k19,k20,k21,k22,k23,k24,k25,k26,k27,k28,k29,k30,k31,k32,k33,k34,k35,k36,k37,k38,k39,k40,k41,k42⟩:=Qwl;have a1:=Qz8 h.name;have a2:=Qz8 h.table;have hev:(evS t.event).size≤12:=by unfold evS;split;exact k32;split;exact k35;exact k37
 have h1:Qj0 (Qj4 kOF t.ofs)≤40:=by
  rcases ho:t.ofs with _|⟨s,_|⟨s2,l⟩⟩
  ·exact Zi _
  ·have:=Qz8 (h.ofs2 s (by rw[ho];simp));simp only[Qj4,Qqt,Qq9];omega
  ·have:=h.ofs1;rw[ho] at this;simp at this
 have h2:Qj0 (Qj4 Qva t.prec)=0:=by rw[h.prec];rfl
 have h3:Qj0 (Qj4 Qwi t.foll)=0:=by rw[h.foll];rfl
 have h4:Qj0 ((t.rank.map Qyi).flatten)≤1000:=by
  rcases hr:t.rank with _|⟨r,_|⟨s2,l⟩⟩
  ·exact Zi _
  ·obtain⟨r1,r2,r3,r4,r5,r6⟩:=h.rank2 r (by rw[hr];simp);have b1:=Qz8 r1;have b2:=Qz8 r2;have b3:=Yk2 (n:=r.low) (by omega) (by omega);have b4:=Yk2 (n:=r.high) (by omega) (by omega);simp only[Yc,Km,Yr,List.flatten_nil,Jb,Qyi,Qqt,Qj1];omega
  ·have:=h.rank1;rw[hr] at this;simp at this
 have h5:Qj0 ((t.cond.map Qvx).flatten)≤73000:=by
  rcases hr:t.cond with _|⟨r,_|⟨s2,l⟩⟩
  ·exact Zi _
  ·have b1:=(Jkc hn (h.cond2 r (by rw[hr];simp))).2;simp only[Yc,Km,Yr,List.flatten_nil,Jb,Qvx,Qqt,Qj1,Qq9];omega
  ·have:=h.cond1;rw[hr] at this;simp at this
 have h6:Qj0 ((t.acts.map fun a=>Qqv a++[Qkg]).flatten)≤1820100:=by
  rw[Yjg,List.map_map]
  have b:=Jj1 (Qj0∘fun a=>Qqv a++[Qkg]) 910013 t.acts fun a ha=>by
   have:=Jj2 hn (h.acts3 a ha).1;simp only[Function.comp_apply,Qj1,Qqt,Qq9];omega
  have c:t.acts.length*910013≤2*910013:=Nat.mul_le_mul_right _ h.acts2;omega
 have hb:(if t.before=true then Jv1 else Yzn).size≤12:=by split;exact k10;exact k9
 have he:(if t.each=true then Uyd else Jqs).size≤12:=by split;exact k11;exact k12
 unfold Qkw;simp only[Qqt,Qj1,Qq9];exact Kj3 _ _ _ _ _ _ _ _ _ _ _ _ _ _ _ _ _ _ h1 h2 h3 h4 h5 h6 k1 k3 a1 hb hev k14 a2 k15 k16 he k20 k21
theorem Yz5{s:Sch}(h:Jwn s):s.name.size≤12∧∀c∈s.cols,c.name.size≤12∧1≤c.type∧c.type≤3:=by
 obtain⟨⟨i,hi,hn⟩,h1,h2,key,hk,hc⟩:=h;refine⟨Qz8 (by rw[hn];exact Jqx i hi),fun c hcm=>?_⟩;obtain⟨j,hj,hcj⟩:=Yt.1 hcm;obtain⟨hcn,ht1,ht3,_⟩:=hc j c (by rw[Zg hj,hcj]);exact⟨Qz8 (by rw[hcn];exact Jqx _ (Nat.mod_lt _ (by omega))),ht1,ht3⟩
theorem Ywu{s:Sch}(h:Jwn s):Qj0 (Jyf s)≤1000:=by
 obtain⟨k1,k2,k3,k4,k5,k6,k7,k8,k9,k10,k11,k12,k13,k14,k15,k16,k17,k18,k19,k20,k21,k22,k23,k24,k25,k26,k27,_⟩:=Qwl;obtain⟨a1,a2⟩:=Yz5 h;have h5:s.cols.length≤5:=h.2.2.1;have b:=Jq0 (s.cols.map Qj8);rw[List.map_map,Ys] at b
 have c:=Jj1 (Qj0∘Qj8) 60 s.cols fun x hx=>by
  obtain⟨b1,b2,b3⟩:=a2 x hx
  have ht:(Jvu x.type).size≤12:=by
   have:x.type=1∨x.type=2∨x.type=3:=by omega
   rcases this with e|e|e<;>rw[e]<;>decide+kernel
  simp only[Function.comp_apply,Qj8,Qqt]
  split
  ·simp only[Qqt,Qq9];omega
  ·split<;>simp only[Qqt,Qq9]<;>omega
 have d:s.cols.length*60≤5*60:=Nat.mul_le_mul_right _ h5;unfold Jyf;simp only[Qqt,Qj1,Qq9];omega
theorem Yk3{n:Nat}(hn:n≤4){s:Qvu}(h:Qwx n s):Qj0 (Qwj s)≤2000000:=by
 have k4:Qvw.size≤12:=by decide+kernel
 have k2:Qkf.size≤12:=by decide+kernel
 have k3:Qzl.size≤12:=by decide+kernel
 cases h with
 |table s h=>
  have:=Ywu h;show Qj0 (Jyf s)≤2000000;omega
 |dropTable t h=>
  have:=Qz8 h;show Qj0 [Qvw,Qkf,t]≤2000000;simp only[Qqt,Qq9];omega
 |trigger t h=>exact Jkd hn h
 |dropTrigger t h=>
  have:=Qz8 h;show Qj0 [Qvw,Qzl,t]≤2000000;simp only[Qqt,Qq9];omega
 |select q h hl=>
  have:=Jyw hn h hl;show Qj0 (Qxw q)≤2000000;omega
 |change a h hk=>
  have:=Jj2 hn h;show Qj0 (Qqv a)≤2000000;omega
theorem Jj3{n:Nat}{e:Ex}(h:GX n e):Qxo e:=(Kjd h).txt
theorem Qxs{s:ByteArray}(h:Qqo s=true):s.size≤maxLen:=Qwd (Qz8 h)
theorem Uyp{s:ByteArray}(h:Qju s=true):s.size≤maxLen:=Qwd (Uk4 h)
theorem Qja:(⟨#[]⟩:ByteArray).size≤maxLen:=Zi _
theorem Yjk{n:Nat}{q:Qu}(h:QG n q):(∀e∈q.items,Qxo e)∧(∀e∈q.whr,Qxo e)∧q.frm.size≤maxLen:=by
 obtain⟨h1,h2,h3,h4,h5⟩:=h;exact⟨fun e he=>Jj3 (h1 e he),fun e he=>Jj3 (h2 e he),Uyp h4⟩
theorem Yyx{n:Nat}{a:Qzq}(h:Qk3 n a):Jwb a:=by
 cases h with
 |rows t l ht h1 h2 hr=>
  exact⟨Qxs ht,Qja,fun r hm e he=>Jj3 ((hr r hm).2.2 e he),(by intro q h;cases h),(by intro q h;cases h),(by intro q h;cases h),by show l.length+0≤_;omega⟩
 |query t q ht hq hl=>
  refine⟨Qxs ht,Qja,(by intro q h;cases h),fun x hx=>?_,(by intro q h;cases h),(by intro q h;cases h),by simp⟩;obtain rfl:x=q:=Zd.1 hx;exact Yjk hq
 |update t l whr ht h1 h2 hs hd hw hg=>
  exact⟨Qxs ht,Qja,(by intro q h;cases h),(by intro q h;cases h),fun s hm=>⟨Qxs (hs s hm).1,Jj3 (hs s hm).2⟩,fun e he=>Jj3 (hg e he),by show(0:Nat)≤_;omega⟩
 |delete t whr ht hw hg=>
  exact⟨Qxs ht,Qja,(by intro q h;cases h),(by intro q h;cases h),(by intro q h;cases h),fun e he=>Jj3 (hg e he),by show(0:Nat)≤_;omega⟩
 |abort t h h2=>
  exact⟨Qja,Qwd h2,(by intro q h;cases h),(by intro q h;cases h),(by intro q h;cases h),(by intro q h;cases h),by show(0:Nat)≤_;omega⟩
 |set s h=>
  refine⟨Qja,Qja,(by intro q h;cases h),(by intro q h;cases h),fun x hx=>?_,(by intro q h;cases h),by show(0:Nat)≤_;omega⟩;obtain rfl:x=s:=Zd.1 hx;exact⟨Qxs h.1,Jj3 h.2⟩
theorem Uyq{n:Nat}{t:Qks}(h:Jxf n t):Yjv t where
 name:=Qxs h.name
 table:=Qxs h.table
 ofs:=fun s hs=>Qxs (h.ofs2 s hs)
 prec:=by rw[h.prec];intro s hs;cases hs
 foll:=by rw[h.foll];intro s hs;cases hs
 rank:=fun r hr=>⟨Qxs (h.rank2 r hr).1,Qxs (h.rank2 r hr).2.1⟩
 cond:=fun e he=>Jj3 (h.cond2 e he)
 acts:=fun a ha=>Yyx (h.acts3 a ha).1
theorem Kxo:Qym.ofs.length+Qym.prec.length+Qym.foll.length+Qym.rank.length+Qym.cond.length+Qym.acts.length≤9000000000000000000:=by decide
theorem Jj4:Yjv Qym:=⟨Qja,Qja,(by intro q h;cases h),(by intro q h;cases h),(by intro q h;cases h),(by intro q h;cases h),(by intro q h;cases h),(by intro q h;cases h)⟩
theorem Jj5:Jwb Jq7:=⟨Qja,Qja,(by intro q h;cases h),(by intro q h;cases h),(by intro q h;cases h),(by intro q h;cases h),by decide⟩
theorem Uyr{n:Nat}{s:Qvu}(h:Qwx n s):Yvp s:=by
 cases h with
 |table s h=>
  obtain⟨a,b⟩:=Yz5 h;exact⟨Qwd a,fun c hc=>Qwd (b c hc).1,Qja,Jj4,Kxo,(by intro q h;cases h),(by intro q h;cases h),Qja,Jj5⟩
 |dropTable t h=>exact⟨Qja,(by intro q h;cases h),Qxs h,Jj4,Kxo,(by intro q h;cases h),(by intro q h;cases h),Qja,Jj5⟩
 |trigger t h=>
  refine⟨Qja,(by intro q h;cases h),Qja,Uyq h,?_,(by intro q h;cases h),(by intro q h;cases h),Qja,Jj5⟩;have h1:=h.ofs1;have h2:=h.rank1;have h3:=h.cond1;have h4:=h.acts2;show t.ofs.length+t.prec.length+t.foll.length+t.rank.length+t.cond.length+t.acts.length≤_;rw[h.prec,h.foll];simp only[Yw];omega
 |dropTrigger t h=>exact⟨Qja,(by intro q h;cases h),Qxs h,Jj4,Kxo,(by intro q h;cases h),(by intro q h;cases h),Qja,Jj5⟩
 |select q h hl=>
  obtain⟨a,b,c⟩:=Yjk h;exact⟨Qja,(by intro q h;cases h),Qja,Jj4,Kxo,a,b,c,Jj5⟩
 |change a h hk=>exact⟨Qja,(by intro q h;cases h),Qja,Jj4,Kxo,(by intro q h;cases h),(by intro q h;cases h),Qja,Yyx h⟩
theorem Yyy{n:Nat}(hn:n≤4){q:Qu}(h:QG n q):(∀x∈q.items,Qxb x)∧(∀x∈q.whr,Qxb x)∧q.whr.length≤1∧(q.star=true→q.items=[]):=by
 obtain⟨h1,h2,h3,h4,h5⟩:=h;refine⟨fun x hx=>Jvs hn (h1 x hx),fun x hx=>Jvs hn (h2 x hx),h3,fun hs=>?_⟩;rw[h5] at hs;exact Yd (by simpa using hs)
theorem Yyz{n:Nat}(hn:n≤4){a:Qzq}(h:Qk3 n a):Uyo a:=by
 have hc:=Jj2 hn h;have hl:=Jjy (Qqv a);have hlen:(Qqv a).length≤400000000:=by omega
 clear hc hl
 cases h with
 |rows t l ht h1 h2 hr=>
  exact⟨by simp,by simp,fun r hm e he=>Jvs hn ((hr r hm).2.2 e he),(by intro q h;cases h),(by intro q h;cases h),(by intro q h;cases h),by simp,fun _=>.inl rfl,Qja,hlen⟩
 |query t q ht hq hql=>
  refine⟨by simp,by simp,(by intro q h;cases h),fun x hx=>?_,(by intro q h;cases h),(by intro q h;cases h),by simp,fun _=>.inr ⟨rfl,q,rfl⟩,Qja,hlen⟩;obtain rfl:x=q:=Zd.1 hx;exact Yyy hn hq
 |update t l whr ht h1 h2 hs hd hw hg=>
  exact⟨by show(1:Int)≤2;decide,by show(2:Int)≤5;decide,(by intro q h;cases h),(by intro q h;cases h),fun s hm=>Jvs hn (hs s hm).2,fun e he=>Jvs hn (hg e he),hw,fun h=>absurd h (by show ¬(2:Int)=1;decide),Qja,hlen⟩
 |delete t whr ht hw hg=>
  exact⟨by show(1:Int)≤3;decide,by show(3:Int)≤5;decide,(by intro q h;cases h),(by intro q h;cases h),(by intro q h;cases h),fun e he=>Jvs hn (hg e he),hw,fun h=>absurd h (by show ¬(3:Int)=1;decide),Qja,hlen⟩
 |abort t h h2=>
  exact⟨by show(1:Int)≤4;decide,by show(4:Int)≤5;decide,(by intro q h;cases h),(by intro q h;cases h),(by intro q h;cases h),(by intro q h;cases h),Zi _,fun h=>absurd h (by show ¬(4:Int)=1;decide),Qwd h2,hlen⟩
 |set s h=>
  refine⟨by show(1:Int)≤5;decide,by show(5:Int)≤5;decide,(by intro q h;cases h),(by intro q h;cases h),fun x hx=>?_,(by intro q h;cases h),Zi _,fun h=>absurd h (by show ¬(5:Int)=1;decide),Qja,hlen⟩;obtain rfl:x=s:=Zd.1 hx;exact Jvs hn h.2
theorem Uys{n:Nat}(hn:n≤4){t:Qks}(h:Jxf n t):Yvq t where
 ev1:=h.ev1
 ev3:=h.ev2
 rank:=fun r hr=>by
  obtain⟨_,_,h3,h4,h5,h6⟩:=h.rank2 r hr;omega
 cond:=fun e he=>Jvs hn (h.cond2 e he)
 acts:=fun a ha=>Yyz hn (h.acts3 a ha).1
 len:=by
  have hc:=Jkd hn h;have hl:=Jjy (Qkw t);omega
 few:=by
  have h1:=h.ofs1;rw[h.prec,h.foll];simp only[Yw];omega
theorem Uyt{n:Nat}(hn:n≤4){s:Qvu}(h:Qwx n s):Uk1 s:=by
 have hc:=Yk3 hn h;have hl:=Jjy (Qwj s);have hlen:(Qwj s).length≤400000000:=by omega
 have hsum:((Qwj s).map fun t=>t.size+1).sum≤1000000000000:=Ya hc (by simp);clear hc hl;have no:∀a b:Int,a≠b→∀{p:Prop},a=b→p:=fun _ _ h _ e=>absurd e h
 cases h with
 |table s h=>exact⟨by simp,by simp,fun _ c hcm=>((Yz5 h).2 c hcm).2,fun hh=>hh.elim (no _ _ (by simp)) (no _ _ (by simp)),no _ _ (by simp),no _ _ (by simp),no _ _ (by simp),hlen,hsum⟩
 |dropTable t h=>exact⟨by show(1:Int)≤2;decide,by show(2:Int)≤6;decide,no _ _ (by simp),fun _=>⟨h,Ya (Qz8 h) (by simp)⟩,no _ _ (by simp),no _ _ (by simp),no _ _ (by simp),hlen,hsum⟩
 |trigger t h=>exact⟨by show(1:Int)≤3;decide,by show(3:Int)≤6;decide,no _ _ (by simp),fun hh=>hh.elim (no _ _ (by simp)) (no _ _ (by simp)),fun _=>Uys hn h,no _ _ (by simp),no _ _ (by simp),hlen,hsum⟩
 |dropTrigger t h=>exact⟨by show(1:Int)≤4;decide,by show(4:Int)≤6;decide,no _ _ (by simp),fun _=>⟨h,Ya (Qz8 h) (by simp)⟩,no _ _ (by simp),no _ _ (by simp),no _ _ (by simp),hlen,hsum⟩
 |select q h hql=>exact⟨by show(1:Int)≤5;decide,by show(5:Int)≤6;decide,no _ _ (by simp),fun hh=>hh.elim (no _ _ (by simp)) (no _ _ (by simp)),no _ _ (by simp),fun _=>Yyy hn h,no _ _ (by simp),hlen,hsum⟩
 |change a h hk=>exact⟨by show(1:Int)≤6;decide,by show(6:Int)≤6;decide,no _ _ (by simp),fun hh=>hh.elim (no _ _ (by simp)) (no _ _ (by simp)),no _ _ (by simp),no _ _ (by simp),fun _=>Yyz hn h,hlen,hsum⟩
theorem Uze{n:Nat}{s:Qvu}(h:Qwx n s):s.trg.prec=[]∧s.trg.foll=[]:=by
 cases h with
 |trigger t h=>exact⟨h.prec,h.foll⟩
 |table=>exact⟨rfl,rfl⟩
 |dropTable=>exact⟨rfl,rfl⟩
 |dropTrigger=>exact⟨rfl,rfl⟩
 |select=>exact⟨rfl,rfl⟩
 |change=>exact⟨rfl,rfl⟩
theorem Uyv{n:Nat}{w:World}{s:Qvu}{u:StV}(h:Jxn NoM w s u)(hg:Qwx n s):Jy8 NoM w s (Qxt s u):=by
 obtain⟨h1,h2⟩:=Uze hg;refine⟨[s.sch.name,u.vc],Jx4 s.trg u.vo () () u.vr u.vw u.va,[s.qry.star,u.vi,s.qry.frm,u.vx],Jqd s.act u.v1 u.v2 u.v3 u.v4,rfl,⟨_,rfl,h.hc⟩,⟨_,_,_,_,_,_,rfl,h.ho,?_,?_,h.hr,h.hw,h.ha⟩,(Qxg ..).2 ⟨_,_,rfl,h.hi,h.hx⟩,⟨_,_,_,_,rfl,h.h1.exLs,h.h2,h.h3,h.h4⟩⟩
 ·rw[h1];exact Qqa.nil ..
 ·rw[h2];exact Qqa.nil ..
def Uzf(T:Nat)(w:World):Prop:=Qkj T w∧Qjh T w∧Qv9 T w∧(Jxj w∧Yz1 w∧Yxg w∧Qzf w)∧(10<T∧T≤w.heap.size∧4<T∧1<T∧2<T)
theorem Uzf.keep{T:Nat}{w w':World}(h:Uzf T w)(k:Qqb (At T) w w'):Uzf T w':=by
 obtain⟨h1,h2,h3,⟨h4,h5,h6,h7⟩,h8,h9,h10,h11,h12⟩:=h;refine⟨h1.at k,h2.at k,h3.at k,⟨fun i hi=>?_,fun i h0 hi=>?_,fun i h0 hi=>?_,h7.keep k (fun j hj hh=>by unfold At at hh;omega) (by omega)⟩,h8,Ya h9 k.size,h10,h11,h12⟩
 ·exact(k.cell (Za _ _ (h4 i hi)) (fun hh=>by unfold At at hh;dsimp only at hh;omega)).trans (h4 i hi)
 ·exact(k.cell (Za _ _ (h5 i h0 hi)) (fun hh=>by unfold At at hh;dsimp only at hh;omega)).trans (h5 i h0 hi)
 ·exact(k.cell (Za _ _ (h6 i h0 hi)) (fun hh=>by unfold At at hh;dsimp only at hh;omega)).trans (h6 i h0 hi)
theorem Uk6{s:Qvu}(h:Qwx 3 s):(bs (Qxe none (Qwj s))).size≤maxLen:=by
 have h1:=Yk3 (by omega) h;have h2:=Jkx (Qwj s) none;have h3:((Qwj s).map fun t=>t.size+1).sum=Qj0 (Qwj s):=rfl;have h4:(bs (Qxe none (Qwj s))).size=(Qxe none (Qwj s)).length:=by show(Qxe none (Qwj s)).toArray.size=_;simp
 unfold maxLen;omega
theorem Jyx(raw:ByteArray)(v:Value)(space:Int)(w:World)(hraw:raw.size≤maxLen)(hv:Jz4 w v)(he:Uzf w.heap.size w)(hT:Qws w):Calls prog 3 #[raw,v,space] w (Qqd true w):=by
 refine Ux8 (E:=Uzf) (G:=fun cs w=>∃(s:Qvu) (u:StV),cs=Qxt s u∧Jxn NoM w s u∧Qwx 3 s) (fun T w w' h k=>h.keep k) (fun T w ht h=>?_) (fun T cs w hg h=>?_) raw v space w hraw hv he hT he.2.2.2.1.2.2.2 he.2.2.2.2.1
 ·refine(Jkf T 3 3 w (by omega) (by omega) (by omega) (by omega) ht h.1 h.2.1 h.2.2.1).mono ?_;rintro e w' ⟨v,rfl,⟨s,u,rfl,hr,hg⟩,ht,hk⟩;exact⟨_,rfl,⟨s,u,rfl,hr.weak fun _ _ h=>h.elim,hg⟩,ht,hk⟩
 ·obtain⟨s,u,rfl,hr,hg⟩:=hg;obtain⟨_,_,_,⟨h4,h5,h6,h7⟩,h8,h9,_⟩:=h;refine(Uza s _ w (Uyv hr hg) (Uyr hg) (Uyt (by omega) hg) h7 (by omega) h4 h5 h6).mono ?_;rintro e w' ⟨rfl,hb⟩;refine⟨_,_,rfl,?_,hb⟩
  split
  ·exact Uk6 hg
  ·exact Zi _
open Go.ChangeShapes Go.WideShapes Go.ChangeAt Go.RowKit
theorem Kzj:prog.globalNamed "triggerstore/triggerstoreref12.types"=some 1:=by kernel_rfl
theorem Kzk:(prog.globals[1]?).map (·.type)=some 107:=by kernel_rfl
theorem Yk4{W:World}{rest:List (String×DataW Unit)}(h:laidMet prog (("triggerstore/triggerstoreref12.types",Rows.laid_triggerstore_triggerstoreref12_types)::rest) W):Yz1 W:=by
 have hh:=Kzq (ss:=[[],[73,78,84],[66,79,79,76],[84,69,88,84]]) Kzj Kzk underlying107 underlying9 Kzx rfl h;intro i h1 h4
 match i,h1,h4 with
 |1,_,_=>rw[show Jvu ((1:Nat):Int)=⟨#[73,78,84]⟩ by decide+kernel];exact hh 1 _ rfl
 |2,_,_=>rw[show Jvu ((2:Nat):Int)=⟨#[66,79,79,76]⟩ by decide+kernel];exact hh 2 _ rfl
 |3,_,_=>rw[show Jvu ((3:Nat):Int)=⟨#[84,69,88,84]⟩ by decide+kernel];exact hh 3 _ rfl
theorem Kzl:prog.globalNamed "triggerstore/triggerstoreref12.events"=some 2:=by kernel_rfl
theorem Kzm:(prog.globals[2]?).map (·.type)=some 107:=by kernel_rfl
theorem Yjl{W:World}{rest:List (String×DataW Unit)}(h:laidMet prog (("triggerstore/triggerstoreref12.events",Rows.laid_triggerstore_triggerstoreref12_events)::rest) W):Yxg W:=by
 have hh:=Kzq (ss:=[[],[73,78,83,69,82,84],[85,80,68,65,84,69],[68,69,76,69,84,69]]) Kzl Kzm underlying107 underlying9 Kzx rfl h;intro i h1 h4
 match i,h1,h4 with
 |1,_,_=>rw[show evS ((1:Nat):Int)=⟨#[73,78,83,69,82,84]⟩ by decide+kernel];exact hh 1 _ rfl
 |2,_,_=>rw[show evS ((2:Nat):Int)=⟨#[85,80,68,65,84,69]⟩ by decide+kernel];exact hh 2 _ rfl
 |3,_,_=>rw[show evS ((3:Nat):Int)=⟨#[68,69,76,69,84,69]⟩ by decide+kernel];exact hh 3 _ rfl
theorem Kzn:prog.globalNamed "triggerstore/triggerstoreworld.triggerNames"=some 3:=by kernel_rfl
theorem Kzo:(prog.globals[3]?).map (·.type)=some 117:=by kernel_rfl
theorem Uk7{W:World}{rest:List (String×DataW Unit)}(h:laidMet prog (("triggerstore/triggerstoreworld.triggerNames",Rows.laid_triggerstore_triggerstoreworld_triggerNames)::rest) W):Qv9 W.heap.size W:=by
 have hh:=Kzq (ss:=[[97,97],[98,98],[99,99],[100,100],[101,101],[102,102],[103,103],[104,104]]) Kzn Kzo underlying117 underlying9 Kzx rfl h;refine⟨Za _ _ (hh 0 _ rfl),fun i hi=>?_⟩
 match i,hi with
 |0,_=>rw[show Qqe 0=⟨#[97,97]⟩ by decide+kernel];exact hh 0 _ rfl
 |1,_=>rw[show Qqe 1=⟨#[98,98]⟩ by decide+kernel];exact hh 1 _ rfl
 |2,_=>rw[show Qqe 2=⟨#[99,99]⟩ by decide+kernel];exact hh 2 _ rfl
 |3,_=>rw[show Qqe 3=⟨#[100,100]⟩ by decide+kernel];exact hh 3 _ rfl
 |4,_=>rw[show Qqe 4=⟨#[101,101]⟩ by decide+kernel];exact hh 4 _ rfl
 |5,_=>rw[show Qqe 5=⟨#[102,102]⟩ by decide+kernel];exact hh 5 _ rfl
 |6,_=>rw[show Qqe 6=⟨#[103,103]⟩ by decide+kernel];exact hh 6 _ rfl
 |7,_=>rw[show Qqe 7=⟨#[104,104]⟩ by decide+kernel];exact hh 7 _ rfl
noncomputable def Ywv(os:Os):World:=
 let w0:=World.holding prog os ⟨#[.cells #[Kze] 241,.cells #[Kzf] 241],#[],[]⟩
 {w0 with heap:=(((((((((((((w0.heap.modify 13 (Kzr (Qx9 Rows.laid_math_bits_deBruijn32tab))).modify 14 (Kzr (Qx9 Rows.laid_math_bits_deBruijn64tab))).modify 8 (Kzr (Qx9 Rows.laid_internal_strconv_uint64pow10))).modify 12 (Kzr (Qx9 Rows.laid_unicode_utf8_acceptRanges))).modify 10 (Kzr #[.iface 239 (.pointer (some ⟨Kjx+1,0,none⟩))])).modify 9 (Kzr #[.iface 239 (.pointer (some ⟨Kjx,0,none⟩))])).modify 4 (Kzr (Qx9 Rows.laid_triggerstore_triggerstoreref12_operators))).modify 1 (Kzr (Qx9 Rows.laid_triggerstore_triggerstoreref12_types))).modify 2 (Kzr (Qx9 Rows.laid_triggerstore_triggerstoreref12_events))).modify 3 (Kzr (Qx9 Rows.laid_triggerstore_triggerstoreworld_triggerNames))).modify 7 (Kzr (Qx9 Rows.laid_triggerstore_triggerstoreworld_words))).modify 5 (Kzr (Qx9 Rows.laid_triggerstore_triggerstoreworld_names))).modify 11 (Kzr (Qx9 Rows.laid_unicode_utf8_first)))}
end Go.Proofs.YtgepbohjmgaojaaGreatDoor
