/- Levels and precedences of expressions, over plain trees. No program is named here. Precedences: contracts of Precedence and Least. The contract of Least. -/
import Derived.Test.YtgepbohjmgaojaaGreatDoorVKD2
import Derived.Lib.ParseIntBTie
set_option linter.all false
namespace Go.Proofs.YtgepbohjmgaojaaGreatDoor
open Go.RowKit
def Qzu(o:Int):Int:=if o=1 then 1 else if o=2 then 2 else if 3≤o∧o≤8 then 4 else if o=9∨o=10 then 5 else if 11≤o∧o≤13 then 6 else 8
def Qwh(k o:Int):Int:=if k=3 then 3 else if k=6∨k=7 then 4 else if k=4 then 7 else if k=5 then Qzu o else 8
def Yj8(k o:Int)(i:Nat):Int:=let p:=Qwh k o;if p=1∨p=2∨p=5∨p=6 then p+min i 1 else if p=3∨p=7 then p else if p=4 then 5 else 1
def Jwt:List ByteArray:=[es,bs [78,69,87],bs [79,76,68],bs [73,78,83,69,82,84,69,68],bs [116],bs [117]]
def Yqr:List ByteArray:=[bs [116],bs [117],bs [108,111,103],bs [73,78,83,69,82,84,69,68],bs [68,69,76,69,84,69,68]]
inductive Qyl:Nat→Ex→Prop
 |col (n:Nat) (q:ByteArray) (i:Nat) (hq:q∈Jwt) (hi:i<8):Qyl n (Qqp q (Qjf i))
 |lit (n:Nat) (v:Val) (hv:Qxz v) (h0:v.kind=1→0≤v.int):Qyl n (Qkk v)
 |ops (n:Nat) (k o:Int) (no:Bool) (args:List Ex) (hk:Qzg k o no args.length) (ha:∀x∈args,Qyl n x):Qyl (n+1) (opX k o no args [])
 |sub (n:Nat) (k:Int) (f:ByteArray) (items whr:List Ex) (hf:f∈Yqr) (hi:((k=8∨k=9)∧items=[])∨((k=10∨k=11∨k=12)∧items.length=1)) (hw:whr.length≤1) (h1:∀x∈items,Qyl n x) (h2:∀x∈whr,Qyl n x):
  Qyl (n+1) (opX k 0 false [] [.mk (k==8) items f whr])
theorem Jxy{k o:Int}{no:Bool}{n:Nat}(h:Qzg k o no n):¬(k=1∨k=2)∧¬(8≤k∧k≤12)∧n≤3:=by
 unfold Qzg at h;omega
theorem Qyl.up{n m:Nat}{e:Ex}(h:Qyl n e)(hm:n≤m):Qyl m e:=by
 induction h generalizing m with
 |col n q i hq hi=>exact .col m q i hq hi
 |lit n v hv h0=>exact .lit m v hv h0
 |ops n k o no args hk ha ih=>
  obtain⟨m,rfl⟩:∃j,m=j+1:=⟨m-1,by omega⟩
  exact .ops m k o no args hk fun x hx=>ih x hx (by omega)
 |sub n k f items whr hf hi hw h1 h2 ih1 ih2=>
  obtain⟨m,rfl⟩:∃j,m=j+1:=⟨m-1,by omega⟩
  exact .sub m k f items whr hf hi hw (fun x hx=>ih1 x hx (by omega)) fun x hx=>ih2 x hx (by omega)
section
variable(o:Int) (no:Bool) (vk vi:Int) (tx t nm:ByteArray) (va vs:Value) (w:World)
end
def Jy5(c:UInt8):Bool:=decide (48≤c.toNat)&&decide (c.toNat≤57)
def Qvt(c:UInt8):Bool:=(decide (97≤c.toNat)&&decide (c.toNat≤122))||(decide (65≤c.toNat)&&decide (c.toNat≤90))||Jy5 c||c.toNat==95
def kwL:List (List UInt8):=["ABORT","AFTER","AND","BEFORE","BEGIN","BETWEEN","BOOL","COUNT","CREATE","DELETE","DELETED","DROP","EACH","END","EXISTS","FALSE","FOLLOWS","FOR","FROM","INSERT","INSERTED","INT","INTO","IS","KEY","MAX","MIN","NEW","NOT","NULL","OF","OLD","ON","OR","PRECEDES","PRIMARY","RANK","ROW","SELECT","SET","STATEMENT","SUM","TABLE","TEXT","TO","TRIGGER","TRUE","UPDATE","VALUES","WHEN","WHERE"].map fun s=>s.toUTF8.data.toList
def Jko(s:ByteArray):Option (Int×ByteArray):=
 if kwL.contains s.data.toList=true then some (1,s)
 else if Qqo s=true then some (2,s)
 else match Lib.parseIntB 64 s.data.toList with
  | .ok n=>if(s.data.toList.head?.any Jy5)=true∧Lib.itoa n=s.data.toList then some (3,s) else none
  |_=>none
def Qj5:List UInt8→Nat→List UInt8→Option (List UInt8×Nat)
 |[],_,_=>none
 |[c],i,acc=>if c.toNat=39 then some (acc,i+1) else none
 |c::d::l,i,acc=>if c.toNat=39 then(if d.toNat=39 then Qj5 l (i+2) (acc++[39]) else some (acc,i+1)) else Qj5 (d::l) (i+1) (acc++[c])
def Yv2:List UInt8:= "(),;.*+-/%=<>".toUTF8.data.toList
def Qwp(u:ByteArray):Nat:=
 if 2≤u.size∧(u.extract 0 2= "<>".toUTF8∨u.extract 0 2= "<=".toUTF8∨u.extract 0 2= ">=".toUTF8) then 2 else if(u.data.toList.head?.any fun c=>Yv2.contains c)=true then 1 else 0
def Jjm(l:List UInt8):Nat:=(l.takeWhile Qvt).length
def Qka(u:ByteArray):(Int×ByteArray)×Nat×Bool:=
 match u.data.toList with
 |[]=>((0,⟨#[]⟩),0,false)
 |c::l=>
  if c.toNat=39 then match Qj5 l 1 [] with
   |some (t,n)=>((4,⟨t.toArray⟩),n,Qj2 ⟨t.toArray⟩)
   |none=>((0,⟨#[]⟩),0,false)
  else if Qvt c=true then match Jko (u.extract 0 (Jjm (c::l))) with
   |some kt=>(kt,Jjm (c::l),true)
   |none=>((0,⟨#[]⟩),Jjm (c::l),false)
  else((5,u.extract 0 (Qwp u)),Qwp u,decide (0<Qwp u))
def Qw9(c:UInt8):Bool:=c.toNat==32||c.toNat==9||c.toNat==10
inductive TR where
 |ok(l:List (Int×ByteArray×Nat))
 |bad(i:Nat)
 deriving DecidableEq
def Qkb(s:ByteArray):Nat→Nat→TR
 |0,_=>.ok []
 |f+1,i=>if h:i<s.size then
   if Qw9 s[i]=true then Qkb s f (i+1)
   else match Qka (s.extract i s.size) with
    |(kt,n,true)=>match Qkb s f (i+n) with
     | .ok l=>.ok ((kt.1,kt.2,i)::l)
     | .bad e=>.bad e
    |(_,_,false)=>.bad i
  else .ok []
theorem Jz9:∀(l:List UInt8) (i:Nat) (acc:List UInt8) (t:List UInt8) (n:Nat),Qj5 l i acc=some (t,n)→i<n∧n≤i+l.length
 |[],_,_,_,_,h=>by cases h
 |[c],i,acc,t,n,h=>by
  unfold Qj5 at h
  split at h
  ·cases h;simp
  ·cases h
 |c::d::l,i,acc,t,n,h=>by
  unfold Qj5 at h
  split at h
  ·split at h
   ·have:=Jz9 l _ _ _ _ h;simp only[Zb];omega
   ·cases h;simp
  ·have:=Jz9 (d::l) _ _ _ _ h;simp only[Zb] at*;omega
theorem Yx0(u:ByteArray)(h:(Qka u).2.2=true):1≤(Qka u).2.1∧(Qka u).2.1≤u.size:=by
 unfold Qka at h⊢;have hz:u.data.toList.length=u.size:=by simp
 cases hl:u.data.toList with
 |nil=>rw[hl] at h;cases h
 |cons c l=>
  rw[hl] at h hz;simp only[Zb] at hz;simp only at h⊢;by_cases h39:c.toNat=39
  ·rw[if_pos h39] at h⊢
   cases hq:Qj5 l 1 [] with
   |none=>rw[hq] at h;cases h
   |some p=>
    obtain⟨t,n⟩:=p;have:=Jz9 _ _ _ _ _ hq;simp only;omega
  ·rw[if_neg h39] at h⊢;by_cases hr:Qvt c=true
   ·rw[if_pos hr] at h⊢;have h1:1≤Jjm (c::l):=by unfold Jjm;rw[Qq,if_pos hr];simp
    have h2:Jjm (c::l)≤l.length+1:=by unfold Jjm;exact(List.takeWhile_prefix _).length_le
    cases hp:Jko (u.extract 0 (Jjm (c::l))) with
    |none=>rw[hp] at h;cases h
    |some kt=>simp only;omega
   ·rw[if_neg hr] at h⊢;simp only[Zu] at h;simp only;have:Qwp u≤u.size:=by(unfold Qwp;split<;>(try split)<;>omega)
    omega
def Asc(lo hi:Nat):List (Int×ByteArray×Nat)→Prop
 |[]=>True
 |x::l=>lo≤x.2.2∧x.2.2<hi∧Asc (x.2.2+1) hi l
theorem Asc.low{lo lo' hi:Nat}:∀{l:List (Int×ByteArray×Nat)},Asc lo' hi l→lo≤lo'→Asc lo hi l
 |[],_,_=>trivial
 |_::_,⟨h1,h2,h3⟩,h=>⟨by omega,h2,h3⟩
theorem Qxc{s:ByteArray}{i:Nat}(h:i<s.size):s.data.toList.drop i=s[i]::s.data.toList.drop (i+1):=by
 rw[List.drop_eq_getElem_cons (by simpa using h)];rfl
def Qj7(s:ByteArray)(i:Nat)(acc:List UInt8):Option (List UInt8×Nat):=Qj5 (s.data.toList.drop i) i acc
theorem Yx1{s:ByteArray}{i:Nat}{acc:List UInt8}(h:s.size≤i):Qj7 s i acc=none:=by
 unfold Qj7;rw[Kw (by simpa using h)];rfl
theorem Jy6{s:ByteArray}{i:Nat}{acc:List UInt8}(h:i<s.size)(hc:s[i].toNat≠39):Qj7 s i acc=Qj7 s (i+1) (acc++[s[i]]):=by
 unfold Qj7;rw[Qxc h];by_cases h1:i+1<s.size
 ·rw[Qxc h1,Qj5,if_neg hc]
 ·rw[Kw (l:=s.data.toList) (i:=i+1) (by simp;omega)];simp[Qj5,hc]
theorem Yx2{s:ByteArray}{i:Nat}{acc:List UInt8}(h:i<s.size)(hc:s[i].toNat=39)(h1:i+1<s.size)(hd:s[i+1].toNat=39):Qj7 s i acc=Qj7 s (i+2) (acc++[39]):=by
 unfold Qj7;rw[Qxc h,Qxc h1,Qj5,if_pos hc,if_pos hd]
theorem Yj9{s:ByteArray}{i:Nat}{acc:List UInt8}(h:i<s.size)(hc:s[i].toNat=39)(hd:∀h1:i+1<s.size,s[i+1].toNat≠39):Qj7 s i acc=some (acc,i+1):=by
 unfold Qj7;rw[Qxc h];by_cases h1:i+1<s.size
 ·rw[Qxc h1,Qj5,if_pos hc,if_neg (hd h1)]
 ·rw[Kw (l:=s.data.toList) (i:=i+1) (by simp;omega),Qj5,if_pos hc]
theorem Uwm{s:ByteArray}{n:Nat}(h1:∀j,(h:j<n)→(h':j<s.size)→Qvt s[j]=true)(hn:n≤s.size)(h2:∀h:n<s.size,Qvt s[n]=false):Jjm s.data.toList=n:=by
 unfold Jjm;have hs:s.data.toList=s.data.toList.take n++s.data.toList.drop n:=(List.take_append_drop _ _).symm;rw[hs,List.takeWhile_append_of_pos]
 ·have h0:(s.data.toList.drop n).takeWhile Qvt=[]:=by
   by_cases h:n<s.size
   ·rw[Qxc h,Qq,h2 h];rfl
   ·rw[Kw (l:=s.data.toList) (i:=n) (by simp;omega)];rfl
  rw[h0,Jb,Jm];simp;omega
 ·intro a ha;obtain⟨j,hj,rfl⟩:=Yt.1 ha;simp only[Jm] at hj;have hj':j<s.size:=by have:=hj;simp at this;omega
  have:=h1 j (by omega) hj';rw[List.getElem_take];exact this
theorem Jvf{u:ByteArray}(hz:0<u.size)(h:u[0].toNat=39):Qka u=match Qj7 u 1 [] with
 |some (t,n)=>((4,⟨t.toArray⟩),n,Qj2 ⟨t.toArray⟩)
 |none=>((0,⟨#[]⟩),0,false):=by
 have h0:u.data.toList=u[0]::u.data.toList.drop 1:=by have:=Qxc hz;rwa [List.drop_zero] at this
 unfold Qka Qj7;rw[h0];simp only[h,if_true,List.drop_succ_cons,List.drop_zero]
 try rfl
theorem Yqs{u:ByteArray}{n:Nat}(hz:0<u.size)(h:u[0].toNat≠39)(hr:Qvt u[0]=true)(hn:Jjm u.data.toList=n):Qka u=match Jko (u.extract 0 n) with
 |some kt=>(kt,n,true)
 |none=>((0,⟨#[]⟩),n,false):=by
 have h0:u.data.toList=u[0]::u.data.toList.drop 1:=by have:=Qxc hz;rwa [List.drop_zero] at this
 unfold Qka;rw[h0] at hn⊢;simp only[if_neg h,hr,if_true,hn]
 try rfl
theorem Yqt{u:ByteArray}(hz:0<u.size)(h:u[0].toNat≠39)(hr:Qvt u[0]=false):Qka u=((5,u.extract 0 (Qwp u)),Qwp u,decide (0<Qwp u)):=by
 have h0:u.data.toList=u[0]::u.data.toList.drop 1:=by have:=Qxc hz;rwa [List.drop_zero] at this
 unfold Qka;rw[h0];simp only[if_neg h,hr,Bool.false_eq_true,if_false]
def Yx3(l:List (Int×ByteArray×Nat)):TR→TR
 | .ok m=>.ok (l++m)
 | .bad e=>.bad e
theorem Yx4(r:TR):Yx3 [] r=r:=by cases r<;>rfl
theorem Jwu{s:ByteArray}{f i:Nat}(hi:s.size≤i):Qkb s f i=.ok []:=by
 cases f with
 |zero=>rfl
 |succ f=>rw[Qkb,dif_neg (by omega)]
theorem Jwv{s:ByteArray}{f i:Nat}(hi:i<s.size)(hf:s.size+1≤f+i)(h:Qw9 s[i]=true):Qkb s f i=Qkb s (f-1) (i+1):=by
 obtain⟨g,rfl⟩:∃g,f=g+1:=⟨f-1,by omega⟩
 rw[Qkb,dif_pos hi,if_pos h]
 try rfl
theorem Yx5{s:ByteArray}{f i n:Nat}{kt:Int×ByteArray}(l:List (Int×ByteArray×Nat))(hi:i<s.size)(hf:s.size+1≤f+i)(h:Qw9 s[i]=false)(hn:Qka (s.extract i s.size)=(kt,n,true)):Yx3 l (Qkb s f i)=Yx3 (l++[(kt.1,kt.2,i)]) (Qkb s (f-1) (i+n)):=by
 obtain⟨g,rfl⟩:∃g,f=g+1:=⟨f-1,by omega⟩
 rw[Qkb,dif_pos hi,if_neg (by rw[h];decide),hn,Nat.add_sub_cancel];simp only;cases Qkb s g (i+n)<;>simp[Yx3]
theorem Uwn{s:ByteArray}{f i n:Nat}{kt:Int×ByteArray}(hi:i<s.size)(hf:s.size+1≤f+i)(h:Qw9 s[i]=false)(hn:Qka (s.extract i s.size)=(kt,n,false)):Qkb s f i=.bad i:=by
 obtain⟨g,rfl⟩:∃g,f=g+1:=⟨f-1,by omega⟩
 rw[Qkb,dif_pos hi,if_neg (by rw[h];decide),hn]
def Jxa:ByteArray:=bs [78,79,84]
def kIS:ByteArray:=bs [73,83]
def Qys:ByteArray:=bs [78,85,76,76]
def Qvl:ByteArray:=bs [66,69,84,87,69,69,78]
def Yza:ByteArray:=bs [65,78,68]
def Jxz:ByteArray:=bs [69,88,73,83,84,83]
def Qjv:ByteArray:=bs [83,69,76,69,67,84]
def Jww:ByteArray:=bs [67,79,85,78,84]
def Qzp:ByteArray:=bs [70,82,79,77]
def Jwx:ByteArray:=bs [87,72,69,82,69]
def Qya:ByteArray:=bs [42]
def Qq7:ByteArray:=bs [40]
def Qjq:ByteArray:=bs [41]
def Qwq:ByteArray:=bs [46]
def Jqq:ByteArray:=bs [45]
def Jkp(k:Int):ByteArray:=bs (if k=10 then[83,85,77] else if k=11 then[77,73,78] else[77,65,88])
def opL:List (List UInt8):=[[],[79,82],[65,78,68],[61],[60,62],[60],[60,61],[62],[62,61],[43],[45],[42],[47],[37]]
def opS(o:Int):ByteArray:=bs (opL.getD o.toNat [])
def opW(k o:Int)(no:Bool)(A:List (List ByteArray)):List ByteArray:=
 if k=3 then Jxa::A.getD 0 []
 else if k=4 then Jqq::A.getD 0 []
 else if k=5 then A.getD 0 []++opS o::A.getD 1 []
 else if k=6 then A.getD 0 []++kIS::(if no then[Jxa,Qys] else[Qys])
 else A.getD 0 []++Qvl::(A.getD 1 []++Yza::A.getD 2 [])
def Yx6(k:Int)(I:List (List ByteArray)):List ByteArray:=
 if k=8 then[Jxz,Qq7,Qjv,Qya]
 else if k=9 then[Qq7,Qjv,Jww,Qq7,Qya,Qjq]
 else Qq7::Qjv::Jkp k::Qq7::(I.getD 0 []++[Qjq])
def Qjd:List (List ByteArray)→List ByteArray
 |[]=>[]
 |l::r=>Jwx::l++Qjd r
mutual
def Qqm:Ex→List ByteArray
 | .mk k o no v t nm args sub=>
   if k=1 then[bs (Qzt v)]
   else if k=2 then(if Qq0 t=true then[nm] else[t,Qwq,nm])
   else if 3≤k∧k≤7 then opW k o no (Qy9 k o 0 args)
   else Uwo k sub
def Qy9(k o:Int)(i:Nat):List Ex→List (List ByteArray)
 |[]=>[]
 |e::es=>(if Qwh e.kind e.op<Yj8 k o i then Qq7::(Qqm e++[Qjq]) else Qqm e)::Qy9 k o (i+1) es
def Qzd:List Ex→List (List ByteArray)
 |[]=>[]
 |e::es=>Qqm e::Qzd es
def Uwo(k:Int):List Qu→List ByteArray
 |[]=>[]
 | .mk _ items f whr::_=>Yx6 k (Qzd items)++(Qzp::f::Qjd (Qzd whr))++[Qjq]
end
theorem Jzj(e:Ex):Qqm e=if e.kind=1 then[bs (Qzt e.val)] else if e.kind=2 then(if Qq0 e.table=true then[e.name] else[e.table,Qwq,e.name]) else if 3≤e.kind∧e.kind≤7 then opW e.kind e.op e.no (Qy9 e.kind e.op 0 e.args) else Uwo e.kind e.sub:=by
 obtain⟨k,o,no,v,t,nm,args,sub⟩:=e;rw[Qqm];rfl
theorem Qkc:∀l:List Ex,Qzd l=l.map Qqm
 |[]=>by simp[Qzd]
 |e::l=>by rw[Qzd,Qkc l,Yc]
def Qz9(k o:Int)(i:Nat)(e:Ex):List ByteArray:=if Qwh e.kind e.op<Yj8 k o i then Qq7::(Qqm e++[Qjq]) else Qqm e
theorem Qv4(k o:Int):∀(l:List Ex) (j i:Nat) (e:Ex),l[i]?=some e→(Qy9 k o j l).getD i []=Qz9 k o (j+i) e
 |[],_,_,_,h=>by simp at h
 |x::l,j,0,e,h=>by
  simp only[Qz,Ym] at h;subst h;rw[Qy9];rfl
 |x::l,j,i+1,e,h=>by
  rw[Qy9,List.getD_cons_succ,Qv4 k o l (j+1) i e (by simpa using h)];congr 1;omega
def Jjn(p:Option ByteArray)(t:ByteArray):Bool:=match p with
 |none=>false
 |some p=>!Lib.contains [44,59,46,41] t.data.toList&&!(p.toList==[40])&&!(p.toList==[46])
def Qxe(p:Option ByteArray):List ByteArray→List UInt8
 |[]=>[]
 |t::l=>(if Jjn p t=true then[32] else[])++t.data.toList++Qxe (some t) l
def Jwy(p:Option ByteArray):List ByteArray→Option ByteArray
 |[]=>p
 |t::l=>Jwy (some t) l
theorem Jwz:∀(l:List ByteArray) (p:Option ByteArray) (t:ByteArray),Qxe p (l++[t])=Qxe p l++((if Jjn (Jwy p l) t=true then[32] else[])++t.data.toList)
 |[],p,t=>by
  simp only[List.nil_append,Qxe,Jwy,Jb];rfl
 |x::l,p,t=>by
  rw[Ji,Qxe,Qxe,Jwz l (some x) t,Jwy];simp only[Jk]
theorem Jw0:∀(l:List ByteArray) (p:Option ByteArray) (t:ByteArray),Jwy p (l++[t])=some t
 |[],_,_=>rfl
 |_::l,_,t=>Jw0 l _ t
def Qwu(l:List UInt8):List UInt8:=l.flatMap fun b=>if b=39 then[39,39] else[b]
theorem Jqa(b:UInt8)(l:List UInt8):Qwu (b::l)=(if b=39 then[39,39] else[b])++Qwu l:=by simp[Qwu]
theorem Yx7:∀s:List UInt8,Lib.replaceK [39] [39,39] (Lib.count s [39]) s=Qwu s
 |[]=>by
  rw[Lib.count_one];rfl
 |b::l=>by
  have ih:=Yx7 l;by_cases hb:b=39
  ·subst hb;rw[Lib.count_cons_eq,Nat.add_comm,Lib.replaceK_hit [39] [39,39] _ _ 0 (by simp[Lib.index]),Jqa,if_pos rfl,←ih];rfl
  ·rw[Lib.count_cons_ne _ _ _ hb,Jqa,if_neg hb,←ih]
   have hix:Lib.index (b::l) [39]=if Lib.index l [39]==-1 then -1 else Lib.index l [39]+1:=by
    rw[Lib.index];rw[if_neg];simp[List.isPrefixOf];exact fun h=>hb h.symm
   cases hk:Lib.count l [39] with
   |zero=>rfl
   |succ k=>
    obtain⟨i,hi⟩:=Lib.index_of_count (s:=l) (old:=[39]) (by omega);rw[Lib.replaceK_hit [39] [39,39] k l i hi,Lib.replaceK_hit [39] [39,39] k (b::l) (i+1) (by rw[hix,hi,if_neg (by simp)];rfl)];simp[Nat.add_assoc]
theorem Jw1(s:List UInt8):Lib.replaceAll s [39] [39,39]=Qwu s:=by
 unfold Lib.replaceAll Lib.replace Lib.replaceNum;rw[if_neg (by decide),if_pos (.inl (by decide))];exact Yx7 s
theorem Jjo:∀(t:List UInt8) (i:Nat) (acc rest:List UInt8),(∀c r,rest=c::r→c≠39)→Qj5 (Qwu t++39::rest) i acc=some (acc++t,i+(Qwu t).length+1)
 |[],i,acc,rest,h=>by
  show Qj5 (39::rest) i acc=_
  cases rest with
  |nil=>simp[Qj5,Qwu]
  |cons c r=>
   have hc:=h c r rfl;have hn:¬c.toNat=39:=fun e=>hc (UInt8.toNat_inj.1 e);rw[Qj5,if_pos (by decide),if_neg hn];simp[Qwu]
 |b::t,i,acc,rest,h=>by
  rw[Jqa];by_cases hb:b=39
  ·subst hb;rw[if_pos rfl];show Qj5 (39::39::(Qwu t++39::rest)) i acc=_;rw[Qj5,if_pos (by decide),if_pos (by decide),Jjo t _ _ _ h];simp;omega
  ·rw[if_neg hb];have hn:¬b.toNat=39:=fun e=>hb (UInt8.toNat_inj.1 e)
   have hx:∃d l,Qwu t++39::rest=d::l:=by
    cases Qwu t with
    |nil=>exact⟨_,_,rfl⟩
    |cons x y=>exact⟨_,_,rfl⟩
   obtain⟨d,l,hd⟩:=hx;show Qj5 (b::(Qwu t++39::rest)) i acc=_;rw[hd,Qj5,if_neg hn,←hd,Jjo t _ _ _ h];simp;omega
def Qyb:List (List UInt8):=[[40],[41],[44],[46],[59],[42],[43],[45],[47],[37],[61],[60],[62],[60,62],[60,61],[62,61]]
inductive TW:ByteArray→Int→ByteArray→Prop
 |run (w:ByteArray) (k:Int) (h0:w.data.toList≠[]) (ha:∀c∈w.data.toList,Qvt c=true) (hr:Jko w=some (k,w)):TW w k w
 |sym (w:ByteArray) (h:w.data.toList∈Qyb):TW w 5 w
 |txt (t:ByteArray) (h:Qj2 t=true):TW (bs (39::(Qwu t.data.toList++[39]))) 4 t
def Yzb(rest:List UInt8):Prop:=∀c r,rest=c::r→c=9∨c=10∨c=32∨c=44∨c=59∨c=46∨c=41
theorem Uwp{rest:List UInt8}(h:Yzb rest):rest.takeWhile Qvt=[]:=by
 cases rest with
 |nil=>rfl
 |cons c r=>
  have:Qvt c=false:=by rcases h c r rfl with rfl|rfl|rfl|rfl|rfl|rfl|rfl<;>decide
  rw[Qq,this];rfl
theorem Yzc{u:ByteArray}{c:UInt8}{r:List UInt8}(h:u.data.toList=c::r):∃hz:0<u.size,u[0]=c:=by
 have hl:=congrArg List.length h;simp only[Zb,Kt] at hl;have hz:0<u.size:=by show 0<u.data.size;omega
 refine⟨hz,?_⟩;have h0:u.data.toList[0]?=some c:=by rw[h];rfl
 simp at h0;obtain⟨_,h1⟩:=Zq.1 h0;exact h1
theorem Uxv{u:ByteArray}{a b:List UInt8}(h:u.data.toList=a++b):u.extract 0 a.length=⟨a.toArray⟩:=by
 apply Qv1;rw[Qx,h];simp
def Jx0:List UInt8→Nat
 |[]=>0
 |[c]=>if Yv2.contains c=true then 1 else 0
 |c::d::_=>if(c=60∧(d=62∨d=61))∨(c=62∧d=61) then 2 else if Yv2.contains c=true then 1 else 0
theorem Uxw(u:ByteArray)(a b:UInt8):(u.extract 0 2=(⟨#[a,b]⟩:ByteArray))↔u.data.toList.take 2=[a,b]:=by
 constructor
 ·intro h;have:=congrArg (fun x:ByteArray=>x.data.toList) h;rw[Qx] at this;simpa using this
 ·intro h;apply Qv1;rw[Qx];simpa using h
theorem Yqu(u:ByteArray):Qwp u=Jx0 u.data.toList:=by
 unfold Qwp;have h1: "<>".toUTF8=⟨#[60,62]⟩:=by decide+kernel
 have h2: "<=".toUTF8=⟨#[60,61]⟩:=by decide+kernel
 have h3: ">=".toUTF8=⟨#[62,61]⟩:=by decide+kernel
 have hz:u.size=u.data.toList.length:=by simp
 rw[h1,h2,h3,hz];simp only[Uxw];generalize u.data.toList=l
 match l with
 |[]=>simp[Jx0]
 |[c]=>simp[Jx0]
 |c::d::r=>
  simp only[Jx0,Qj,List.take_zero,List.cons.injEq,and_true,Zb,List.head?_cons,Option.any_some]
  have e:(2≤r.length+1+1∧(c=60∧d=62∨c=60∧d=61∨c=62∧d=61))↔(c=60∧(d=62∨d=61)∨c=62∧d=61):=by
   constructor
   ·rintro⟨_,h|h|h⟩
    ·exact .inl ⟨h.1,.inl h.2⟩
    ·exact .inl ⟨h.1,.inr h.2⟩
    ·exact .inr h
   ·rintro(⟨h,h'|h'⟩|h)
    ·exact⟨by omega,.inl ⟨h,h'⟩⟩
    ·exact⟨by omega,.inr (.inl ⟨h,h'⟩)⟩
    ·exact⟨by omega,.inr (.inr h)⟩
  simp only[e];rfl
theorem Qjx(w:ByteArray):w.size=w.data.toList.length:=by simp
theorem Yzd{w t:ByteArray}{k:Int}{rest:List UInt8}{u:ByteArray}(hw:TW w k t)(hs:w=Qq7∨w=Qwq∨Yzb rest)(hu:u.data.toList=w.data.toList++rest):Qka u=((k,t),w.size,true):=by
 have hx:=Uxv hu
 cases hw with
 |run _ _ h0 ha hr=>
  have hsep:Yzb rest:=by
   rcases hs with rfl|rfl|h
   ·exact absurd (ha 40 (by simp[Qq7,bs])) (by decide)
   ·exact absurd (ha 46 (by simp[Qwq,bs])) (by decide)
   ·exact h
  cases hw:w.data.toList with
  |nil=>exact absurd hw h0
  |cons c l=>
   obtain⟨hz,hc⟩:=Yzc (u:=u) (c:=c) (r:=l++rest) (by rw[hu,hw];rfl);have hr0:Qvt c=true:=ha c (by rw[hw];simp)
   have h39:u[0].toNat≠39:=by
    rw[hc];intro e;rw[show c=39 from UInt8.toNat_inj.1 e] at hr0;exact absurd hr0 (by decide)
   have hn:Jjm u.data.toList=w.size:=by
    unfold Jjm;rw[hu,List.takeWhile_append_of_pos ha,Uwp hsep,Jb,Qjx]
   rw[Yqs hz h39 (by rw[hc];exact hr0) hn,Qjx,hx];rw[show(⟨w.data.toList.toArray⟩:ByteArray)=w from rfl,hr]
 |sym _ h=>
  have key:Jx0 u.data.toList=w.size∧∃c r,u.data.toList=c::r∧c.toNat≠39∧Qvt c=false:=by
   rw[hu,Qjx]
   have hs':(w.data.toList=[40]∨w.data.toList=[46])∨Yzb rest:=by
    rcases hs with rfl|rfl|h
    ·exact .inl (.inl rfl)
    ·exact .inl (.inr rfl)
    ·exact .inr h
   generalize w.data.toList=l at h hs'
   have hd:∀d r,rest=d::r→Yzb rest→d≠62∧d≠61:=by
    intro d r e hsep;rcases hsep d r e with rfl|rfl|rfl|rfl|rfl|rfl|rfl<;>decide
   simp only[Qyb,Zs,Zo,Yu] at h;rcases h with rfl|rfl|rfl|rfl|rfl|rfl|rfl|rfl|rfl|rfl|rfl|rfl|rfl|rfl|rfl|rfl
   all_goals
    refine⟨?_,_,_,rfl,by decide,by decide⟩
    first
     |(cases rest with
       |nil=>rfl
       |cons d r=>
        first
         |rfl
         |(have hsep:Yzb (d::r):=by
            rcases hs' with(h|h)|h
            ·exact absurd h (by decide)
            ·exact absurd h (by decide)
            ·exact h
           obtain⟨h1,h2⟩:=hd d r rfl hsep;simp[Jx0,h1,h2]
           try decide))
  obtain⟨h1,c,r,h2,h3,h4⟩:=key;obtain⟨hz,hc⟩:=Yzc h2
  have hpos:0<w.size:=by
   rw[Qjx];simp only[Qyb,Zs,Zo,Yu] at h;rcases h with h|h|h|h|h|h|h|h|h|h|h|h|h|h|h|h<;>rw[h]<;>decide
  rw[Yqt hz (by rw[hc];exact h3) (by rw[hc];exact h4),Yqu,h1,Qjx,hx];rw[←Qjx];simp[hpos]
 |txt t h=>
  have hsep:Yzb rest:=by
   rcases hs with h|h|h
   ·exact absurd (congrArg (fun x:ByteArray=>x.data.toList.head?) h) (by simp[bs,Qq7])
   ·exact absurd (congrArg (fun x:ByteArray=>x.data.toList.head?) h) (by simp[bs,Qwq])
   ·exact h
  have hu':u.data.toList=39::(Qwu t.data.toList++39::rest):=by rw[hu];simp[bs]
  obtain⟨hz,hc⟩:=Yzc hu'
  have hq:Qj7 u 1 []=some (t.data.toList,1+(Qwu t.data.toList).length+1):=by
   unfold Qj7;rw[hu'];show Qj5 (Qwu t.data.toList++39::rest) 1 []=_;rw[Jjo _ _ _ _ (fun c r e=>by rcases hsep c r e with rfl|rfl|rfl|rfl|rfl|rfl|rfl<;>decide),List.nil_append]
  rw[Jvf hz (by rw[hc];decide),hq];simp only[show(⟨t.data.toList.toArray⟩:ByteArray)=t from rfl,h];congr 2;rw[Qjx];simp[bs];omega
theorem Uxx{x:Val}(h:Qxz x):Qqs x=true:=by
 have hw:∀i,i<6→Qj2 (Qvh i)=true:=by decide+kernel
 have he:Qq0 ⟨#[]⟩=true:=by decide+kernel
 obtain⟨k,n,s⟩:=x;unfold Qxz at h;simp only at h
 rcases h with⟨rfl,rfl,rfl⟩|⟨rfl,_,rfl⟩|⟨rfl,h0,h1,rfl⟩|⟨rfl,rfl,i,hi,rfl⟩
 ·simp[Qqs,he]
 ·simp[Qqs,he]
 ·have:n=0∨n=1:=by omega
  simp[Qqs,he,this]
 ·simp[Qqs,hw i hi]
def Kqz:List ByteArray→List (Int×ByteArray×Nat)→Prop
 |[],[]=>True
 |w::ws,x::l=>TW w x.1 x.2.1∧Kqz ws l
 |_,_=>False
theorem Jv0{w t:ByteArray}{k:Int}(h:TW w k t):∃c r,w.data.toList=c::r∧Qw9 c=false:=by
 cases h with
 |run _ _ h0 ha hr=>
  cases hw:w.data.toList with
  |nil=>exact absurd hw h0
  |cons c r=>
   have hc:=ha c (by rw[hw];simp);refine⟨c,r,rfl,?_⟩;have:∀n:Fin 256,Qvt (UInt8.ofNat n.1)=true→Qw9 (UInt8.ofNat n.1)=false:=by decide+kernel
   have e:UInt8.ofNat c.toNat=c:=by simp
   have:=this ⟨c.toNat,c.toNat_lt⟩;rw[e] at this;exact this hc
 |sym _ h=>
  generalize w.data.toList=l at h;simp only[Qyb,Zs,Zo,Yu] at h;rcases h with rfl|rfl|rfl|rfl|rfl|rfl|rfl|rfl|rfl|rfl|rfl|rfl|rfl|rfl|rfl|rfl<;>exact⟨_,_,rfl,by decide⟩
 |txt t h=>exact⟨39,_,by simp[bs];rfl,by decide⟩
theorem Jy7{c:UInt8}{r:List UInt8}(h:Lib.contains [44,59,46,41] (c::r)=true):c=44∨c=59∨c=46∨c=41:=by
 unfold Lib.contains at h
 rcases Lib.index_spec [44,59,46,41] (c::r) with⟨e,_⟩|⟨i,e,hi,ho,_⟩
 ·rw[e] at h;exact absurd h (by decide)
 ·unfold Lib.occAt at ho
  match i,hi with
  |0,_=>simp[List.isPrefixOf] at ho;exact .inl ho.1
  |1,_=>simp[List.isPrefixOf] at ho;exact .inr (.inl ho.1)
  |2,_=>simp[List.isPrefixOf] at ho;exact .inr (.inr (.inl ho.1))
  |3,_=>simp[List.isPrefixOf] at ho;exact .inr (.inr (.inr ho.1))
  |4,_=>simp at ho
  |n+5,h=>simp at h
theorem Yqv{s w t:ByteArray}{k:Int}{rest:List UInt8}{f j:Nat}(hw:TW w k t)(hs:w=Qq7∨w=Qwq∨Yzb rest)(hd:s.data.toList.drop j=w.data.toList++rest)(hf:s.size+1≤f+j):
 Qkb s f j=Yx3 [(k,t,j)] (Qkb s (f-1) (j+w.size))∧s.data.toList.drop (j+w.size)=rest∧j+w.size≤s.size:=by
 obtain⟨c,r,hc,hsp⟩:=Jv0 hw
 have hlt:j<s.size:=by
  rcases Nat.lt_or_ge j s.size with h|h
  ·exact h
  ·rw[Kw (by simpa using h),hc] at hd;cases hd
 have hcs:s[j]=c:=by
  rw[Qxc hlt,hc] at hd;exact(List.cons.inj hd).1
 have hx:(s.extract j s.size).data.toList=w.data.toList++rest:=by
  rw[Qx,Jg (by simp),hd]
 have hn:=Yzd hw hs hx;have h1:=Yx5 [] hlt hf (by rw[hcs];exact hsp) hn;refine⟨by rw[Yx4] at h1;simpa using h1,?_,?_⟩
 ·rw[←List.drop_drop,hd,Qjx,List.drop_left]
 ·have:=congrArg List.length hd;simp only[List.length_drop,Zr] at this;rw[Qjx];have hz:=Qjx s;omega
inductive VX:Ex→Prop
 |lit (v:Val) (hv:Qqs v=true) (h0:v.kind=1→0≤v.int∧v.int≤9223372036854775807):VX (Qkk v)
 |col (t n:ByteArray) (h:Qjj t n=true):VX (Qqp t n)
 |ops (k o:Int) (no:Bool) (args:List Ex) (hk:Qzg k o no args.length) (ha:∀a∈args,VX a):VX (opX k o no args [])
 |sub (k:Int) (f:ByteArray) (items whr:List Ex) (hk:((k=8∨k=9)∧items=[])∨((k=10∨k=11∨k=12)∧items.length=1)) (hf:Qju f=true) (hw:whr.length≤1) (h1:∀x∈items,VX x) (h2:∀x∈whr,VX x):VX (opX k 0 false [] [.mk (k==8) items f whr])
def IsT(w:ByteArray):Prop:=∃k t,TW w k t
theorem Yqw(v:Val):Qqm (Qkk v)=[bs (Qzt v)]:=by rw[Jzj];rfl
theorem Yqx(t n:ByteArray):Qqm (Qqp t n)=if Qq0 t=true then[n] else[t,Qwq,n]:=by rw[Jzj];rfl
theorem Qwz{k o:Int}{no:Bool}{args:List Ex}(h:3≤k∧k≤7):Qqm (opX k o no args [])=opW k o no (Qy9 k o 0 args):=by
 rw[Jzj];exact(if_neg (show ¬k=1 by omega)).trans ((if_neg (show ¬k=2 by omega)).trans (if_pos h))
theorem Jzk{k:Int}{st:Bool}{f:ByteArray}{items whr:List Ex}(h:8≤k):Qqm (opX k 0 false [] [.mk st items f whr])=Yx6 k (items.map Qqm)++(Qzp::f::Qjd (whr.map Qqm))++[Qjq]:=by
 rw[Jzj];refine(if_neg (show ¬k=1 by omega)).trans ((if_neg (show ¬k=2 by omega)).trans ((if_neg (show ¬(3≤k∧k≤7) by omega)).trans ?_));show Uwo k [.mk st items f whr]=_;rw[Uwo,Qkc,Qkc]
noncomputable def Jx1(e:Ex):Nat:=64*SizeOf.sizeOf e
theorem Yqy{k o:Int}{no:Bool}{args:List Ex}{sub:List Qu}:SizeOf.sizeOf (opX k o no args sub)≥SizeOf.sizeOf args+SizeOf.sizeOf sub+1:=by
 unfold opX;simp only[Ex.mk.sizeOf_spec];omega
theorem Jvg{k o:Int}{no:Bool}{a b:Ex}:Jx1 a+Jx1 b+64≤Jx1 (opX k o no [a,b] []):=by
 have:=Yqy (k:=k) (o:=o) (no:=no) (args:=[a,b]) (sub:=[]);simp only[List.cons.sizeOf_spec,List.nil.sizeOf_spec] at this;unfold Jx1;omega
theorem Yx8{k o:Int}{no:Bool}{a b c:Ex}:Jx1 a+Jx1 b+Jx1 c+64≤Jx1 (opX k o no [a,b,c] []):=by
 have:=Yqy (k:=k) (o:=o) (no:=no) (args:=[a,b,c]) (sub:=[]);simp only[List.cons.sizeOf_spec,List.nil.sizeOf_spec] at this;unfold Jx1;omega
theorem Yyi(k o:Int)(a:Ex):(Qy9 k o 0 [a]).getD 0 []=Qz9 k o 0 a:=Qv4 k o [a] 0 0 a rfl
theorem Uy1(k o:Int)(a b:Ex):(Qy9 k o 0 [a,b]).getD 0 []=Qz9 k o 0 a∧(Qy9 k o 0 [a,b]).getD 1 []=Qz9 k o 1 b:=⟨Qv4 k o [a,b] 0 0 a rfl,Qv4 k o [a,b] 0 1 b rfl⟩
theorem Uxy(k o:Int)(a b c:Ex):(Qy9 k o 0 [a,b,c]).getD 0 []=Qz9 k o 0 a∧(Qy9 k o 0 [a,b,c]).getD 1 []=Qz9 k o 1 b∧(Qy9 k o 0 [a,b,c]).getD 2 []=Qz9 k o 2 c:=
 ⟨Qv4 k o [a,b,c] 0 0 a rfl,Qv4 k o [a,b,c] 0 1 b rfl,Qv4 k o [a,b,c] 0 2 c rfl⟩
open Go.RowKit Go.Maps
def Jky(P:Program)(k e:TypeId)(w:World)(b:Nat)(l:List (Int×Bool)):Prop:=
 ∃D:DataW Unit,w.ownsMap P k (plainElem P e) b l.length D∧(∀x:Int,Maps.has D (.int .i64 x)=true↔∃v,(x,v)∈l)∧∀(x:Int) (v:Bool),(x,v)∈l→∀zd,D.atKey (.int .i64 x) zd=.lit (.bool v)
theorem Jky.kept{P:Program}{k e:TypeId}{w w':World}{b:Nat}{l:List (Int×Bool)}{row:Option Nat}(h:Jky P k e w b l)(hg:w.grownBy w' row)(hne:some b≠row):Jky P k e w' b l:=by
 obtain⟨D,h1,h2,h3⟩:=h;exact⟨D,h1.kept hg hne,h2,h3⟩
theorem Jky.put{P:Program}{k e t:TypeId}{w:World}{b:Nat}{l:List (Int×Bool)}(h:Jky P k e w b l)(hk:P.underlying k=some (.int .i64))(he:P.underlying e=some .bool)(ht:P.underlying t=some (.map k e))(hl:l.length<100)
 (x:Int)(v:Bool)(hx:(Lit.int .i64 x).wf=true)(hnew:∀y∈l,y.1≠x):
 ∃w',(Instr.mapUpdate t (.map (some b)) x v).run P w=.ok () w'∧Jky P k e w' b ((x,v)::l)∧w.grownBy w' (some b):=by
 obtain⟨D,h1,h2,h3⟩:=h;obtain⟨w',g1,g2,g3⟩:=h1.update (int_keyed hk) ht (by unfold maxLen;omega) (keyOf_int_mk hk hx) (plainElem_bool he v);have hm:=h1.isMap;have hne:∀y:Int,y≠x→(Lit.int .i64 y)≠.int .i64 x:=fun y hy he=>by simp at he;exact hy he
 refine⟨w',g1,⟨_,g2,fun y=>?_,fun y u hy zd=>?_⟩,g3⟩
 ·by_cases e:y=x
  ·subst e;rw[has_put_same hm (show WideAt.IsKeyLit (.int .i64 y) from trivial)];simp only[true_iff];exact⟨v,by simp⟩
  ·rw[has_put_other (hne y e),h2];constructor
   ·rintro⟨u,hu⟩;exact⟨u,by simp[hu]⟩
   ·rintro⟨u,hu⟩;rcases Zs.1 hu with hu|hu
    ·simp at hu;exact absurd hu.1 e
    ·exact⟨u,hu⟩
 ·rcases Zs.1 hy with hy|hy
  ·simp at hy;obtain⟨rfl,rfl⟩:=hy;rw[atKey_put_same hm (show WideAt.IsKeyLit (.int .i64 y) from trivial)]
  ·rw[atKey_put_other (hne y (hnew _ hy))];exact h3 y u hy zd
def Yko(e:Ex):Bool:=!Qzn e
theorem Ujv{l:List Ex}(h:l.findIdx? Yko=none):Qjc l=true:=by
 rw[Qk2,Yn];intro e he;have:=List.findIdx?_eq_none_iff.1 h e he;simpa[Yko] using this
theorem Ujw{l:List Ex}{i:Nat}(h:l.findIdx? Yko=some i):Qjc l=false:=by
 rw[Kv] at h;obtain⟨hlt,hb,_⟩:=h;rw[Qk2,List.all_eq_false];exact⟨l[i],Yo _,by simpa[Yko] using hb⟩
section
variable(k o:Int) (no:Bool) (vk vi:Int) (vt t nm:ByteArray) (a s:Option Addr) (an ac sn sc:Nat)
end
end Go.Proofs.YtgepbohjmgaojaaGreatDoor
