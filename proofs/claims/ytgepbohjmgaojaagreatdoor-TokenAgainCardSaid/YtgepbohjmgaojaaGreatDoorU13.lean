/- A contract of Expr of the tape; the frames that the statements make. What the tape's statements are like; the place of a trigger. No program is named here. -/
import Derived.Test.YtgepbohjmgaojaaGreatDoorVD9
import Derived.Test.YtgepbohjmgaojaaGreatDoorU12
set_option linter.all false
namespace Go.Proofs.YtgepbohjmgaojaaGreatDoor
open Value renaming slice→Qv
open Go.RowKit
theorem Qkn:∀n:Nat,n≤50→Qwn n
 |0,_=>fun T depth want fa ta fc tc look fs ss w hd hd0 hw0 hw3 ht hw hf hs hP=>Yz6 0 T depth want fa ta fc tc look fs ss w (fun h=>absurd h (by omega)) (by omega) hd hd0 hw0 hw3 ht hw hf hs hP
 |n+1,h=>fun T depth want fa ta fc tc look fs ss w hd hd0 hw0 hw3 ht hw hf hs hP=>Yz6 (n+1) T depth want fa ta fc tc look fs ss w (fun _=>⟨n,rfl,Qkn n (by omega)⟩) h hd hd0 hw0 hw3 ht hw hf hs hP
def Jz0(l:List UInt8):List Col:=if l=[108,111,103] then Qvg.cols else if l=[117] then Jzp.cols else Jzo.cols
theorem Jyg(l:List Col)(h:(l.zipIdx.all fun a=>l.zipIdx.all fun b=>decide (a.1.name.toList=b.1.name.toList→a.2=b.2))=true):∀(i j:Nat) (a b:Col),l[i]?=some a→l[j]?=some b→a.name.toList=b.name.toList→i=j:=by
 intro i j a b hi hj hn;have h1:(a,i)∈l.zipIdx:=List.mem_zipIdx_iff_getElem?.2 hi;have h2:(b,j)∈l.zipIdx:=List.mem_zipIdx_iff_getElem?.2 hj;have:=Yn.1 (Yn.1 h _ h1) _ h2;simpa using of_decide_eq_true this hn
theorem Jku(n:List UInt8):∀(i j:Nat) (a b:Col),(Jz0 n)[i]?=some a→(Jz0 n)[j]?=some b→a.name.toList=b.name.toList→i=j:=by
 unfold Jz0
 split
 ·exact Jyg _ (by decide+kernel)
 ·split
  ·exact Jyg _ (by decide+kernel)
  ·exact Jyg _ (by decide+kernel)
theorem Jvj:∀s∈Qq3,Qju s.name=true:=by decide+kernel
theorem Qko:∀s∈Qq3,s.cols=Jz0 s.name.toList∧s.name.toList≠[]∧s.cols.length≤10∧∀c∈s.cols,Qjj s.name c.name=true:=by
 intro s hs;have n1:Qvg.name.toList=[108,111,103]:=by decide+kernel
 have n2:Jzo.name.toList=[116]:=by decide+kernel
 have n3:Jzp.name.toList=[117]:=by decide+kernel
 simp only[Qq3,Zs,Zo,Yu] at hs;rcases hs with rfl|rfl|rfl
 ·rw[n1];exact⟨rfl,by simp,by decide,by decide+kernel⟩
 ·rw[n2];exact⟨rfl,by simp,by decide,by decide+kernel⟩
 ·rw[n3];exact⟨rfl,by simp,by decide,by decide+kernel⟩
theorem Jqu(n:Nat)(hn:n≤50):Qzm Jz0 [] Qq3 n:=
 ⟨⟨fun f hf=>by(cases hf),fun s hs=>⟨(Qko s hs).1,(Qko s hs).2.1⟩,Jku⟩,by simp;omega,fun f hf=>by(cases hf),fun s hs=>(Qko s hs).2.2.1,by simp[Qq3],by simp[Qq3],fun f hf=>by(cases hf),fun s hs=>⟨Jvj s hs,(Qko s hs).2.2.2⟩⟩
def Jqg(cols:List Col)(l:List UInt8):List Col:=if l=[78,69,87]∨l=[79,76,68] then cols else if l=Jvc∨l=Jvd then cols.map Qjy else Jz0 l
theorem Qv8:∀s∈Qq3,(∀c∈s.cols,Qjj ⟨#[78,69,87]⟩ c.name=true∧Qjj ⟨#[79,76,68]⟩ c.name=true∧Qjj Qvj c.name=true∧Qjj Qvk c.name=true∧Qqo c.name=true∧1≤c.type∧c.type≤3)∧s.cols≠[]∧s.cols.length≤4∧Qqo s.name=true∧Qx6 [] (s.cols.map Col.name)=true:=by decide+kernel
theorem Ujr{l:List Col}(h:∀(i j:Nat) (a b:Col),l[i]?=some a→l[j]?=some b→a.name.toList=b.name.toList→i=j):∀(i j:Nat) (a b:Col),(l.map Qjy)[i]?=some a→(l.map Qjy)[j]?=some b→a.name.toList=b.name.toList→i=j:=by
 intro i j a b hi hj hn;rw[Yi] at hi hj;obtain⟨x,hx,rfl⟩:=Ju.1 hi;obtain⟨y,hy,rfl⟩:=Ju.1 hj;exact h i j x y hx hy hn
theorem Ywe{s:Sch}(hs:s∈Qq3)(n:List UInt8):∀(i j:Nat) (a b:Col),(Jqg s.cols n)[i]?=some a→(Jqg s.cols n)[j]?=some b→a.name.toList=b.name.toList→i=j:=by
 have h1:∀(i j:Nat) (a b:Col),s.cols[i]?=some a→s.cols[j]?=some b→a.name.toList=b.name.toList→i=j:=by
  rw[(Qko s hs).1];exact Jku _
 unfold Jqg
 split
 ·exact h1
 ·split
  ·exact Ujr h1
  ·exact Jku n
theorem Yzo{each:Bool}{r:Int}{cols:List Col}{f:Frm}(h:f∈frT each r cols):f=Jji cols∨f=Jqo cols:=by
 unfold frT Yw9 at h
 split at h
 ·split at h
  ·simp at h;exact .inl h
  ·split at h
   ·simp at h;exact h.symm
   ·simp at h;exact .inr h
 ·cases h
theorem Yzp{bf each:Bool}{r:Int}{cols:List Col}{s:Sch}(h:s∈trT bf each r cols):s=⟨Qvj,cols.map Qjy⟩∨s=⟨Qvk,cols.map Qjy⟩:=by
 unfold trT Jws at h
 split at h
 ·cases h
 ·split at h
  ·simp at h;exact .inl h
  ·split at h
   ·simp at h;exact h.symm
   ·simp at h;exact .inr h
theorem Uye(each:Bool)(r:Int)(cols:List Col):(frT each r cols).length≤2:=by
 unfold frT Yw9
 split
 ·split
  ·simp
  ·split<;>simp
 ·simp
theorem Ukj(bf each:Bool)(r:Int)(cols:List Col):(trT bf each r cols).length≤2:=by
 unfold trT Jws
 split
 ·simp
 ·split
  ·simp
  ·split<;>simp
theorem Ywf{s:Sch}(hs:s∈Qq3)(bf each:Bool)(r:Int)(n:Nat)(hn:n≤50):Qzm (Jqg s.cols) (frT each r s.cols) (Qq3++trT bf each r s.cols) n:=by
 obtain⟨hc,hne,hl4,hnm,_⟩:=Qv8 s hs;have n1:(Jji s.cols).name.toList=[78,69,87]:=by show ByteArray.toList ⟨#[78,69,87]⟩=_;decide+kernel
 have n2:(Jqo s.cols).name.toList=[79,76,68]:=by show ByteArray.toList ⟨#[79,76,68]⟩=_;decide+kernel
 have n3:Qvj.toList=Jvc:=by decide+kernel
 have n4:Qvk.toList=Jvd:=by decide+kernel
 have hlen1:=Uye each r s.cols;have hlen2:=Ukj bf each r s.cols;have hnot:∀t∈Qq3,¬(t.name.toList=[78,69,87]∨t.name.toList=[79,76,68])∧¬(t.name.toList=Jvc∨t.name.toList=Jvd):=by decide+kernel
 have hS:∀t∈Qq3,t.cols=Jqg s.cols t.name.toList∧t.name.toList≠[]:=fun t ht=>by
  obtain⟨a,b⟩:=hnot t ht;unfold Jqg;rw[if_neg a,if_neg b];exact⟨(Qko t ht).1,(Qko t ht).2.1⟩
 have hI:∀t:Sch,(t=⟨Qvj,s.cols.map Qjy⟩∨t=⟨Qvk,s.cols.map Qjy⟩)→(t.cols=Jqg s.cols t.name.toList∧t.name.toList≠[])∧t.cols.length≤10∧Qju t.name=true∧∀c∈t.cols,Qjj t.name c.name=true:=by
  rintro t (rfl|rfl)
  ·refine⟨?_,by simp;omega,(show Qju Qvj=true by decide+kernel),fun c hcm=>?_⟩
   ·rw[n3];exact⟨by unfold Jqg;rw[if_neg (by decide),if_pos (.inl rfl)],by decide⟩
   ·obtain⟨x,hx,rfl⟩:=List.mem_map.1 hcm;exact(hc x hx).2.2.1
  ·refine⟨?_,by simp;omega,(show Qju Qvk=true by decide+kernel),fun c hcm=>?_⟩
   ·rw[n4];exact⟨by unfold Jqg;rw[if_neg (by decide),if_pos (.inr rfl)],by decide⟩
   ·obtain⟨x,hx,rfl⟩:=List.mem_map.1 hcm;exact(hc x hx).2.2.2.1
 refine⟨⟨fun f hf=>?_,fun t ht=>?_,Ywe hs⟩,by omega,fun f hf=>?_,fun t ht=>?_,by simp[Qq3],by simp[Qq3];omega,fun f hf=>?_,fun t ht=>?_⟩
 ·rcases Yzo hf with rfl|rfl
  ·rw[n1];exact⟨by unfold Jqg;rw[if_pos (.inl rfl)];rfl,by simp⟩
  ·rw[n2];exact⟨by unfold Jqg;rw[if_pos (.inr rfl)];rfl,by simp⟩
 ·rcases Yf.1 ht with ht|ht
  ·exact hS t ht
  ·exact(hI t (Yzp ht)).1
 ·rcases Yzo hf with rfl|rfl
  ·show s.cols.length≤10;omega
  ·show s.cols.length≤10;omega
 ·rcases Yf.1 ht with ht|ht
  ·exact(Qko t ht).2.2.1
  ·exact(hI t (Yzp ht)).2.1
 ·rcases Yzo hf with rfl|rfl
  ·exact fun c hcm=>(hc c hcm).1
  ·exact fun c hcm=>(hc c hcm).2.1
 ·rcases Yf.1 ht with ht|ht
  ·exact⟨Jvj t ht,(Qko t ht).2.2.2⟩
  ·exact(hI t (Yzp ht)).2.2
inductive Qk3(n:Nat):Qzq→Prop
 |rows (t:ByteArray) (l:List (List Ex)) (ht:Qqo t=true) (h1:1≤l.length) (h2:l.length≤3) (hr:∀r∈l,1≤r.length∧r.length≤4∧∀x∈r,GX n x):Qk3 n ⟨1,t,l,[],[],[],⟨#[]⟩⟩
 |query (t:ByteArray) (q:Qu) (ht:Qqo t=true) (hq:QG n q) (hl:q.items.length≤4):Qk3 n ⟨1,t,[],[q],[],[],⟨#[]⟩⟩
 |update (t:ByteArray) (l:List Qx4) (whr:List Ex) (ht:Qqo t=true) (h1:1≤l.length) (h2:l.length≤2) (hs:∀s∈l,Qqo s.col=true∧GX n s.ex) (hd:Qx6 [] (l.map Qx4.col)=true) (hw:whr.length≤1) (hg:∀x∈whr,GX n x):Qk3 n ⟨2,t,[],[],l,whr,⟨#[]⟩⟩
 |delete (t:ByteArray) (whr:List Ex) (ht:Qqo t=true) (hw:whr.length≤1) (hg:∀x∈whr,GX n x):Qk3 n ⟨3,t,[],[],[],whr,⟨#[]⟩⟩
 |abort (t:ByteArray) (h:Qj2 t=true) (h2:t.size≤12):Qk3 n ⟨4,⟨#[]⟩,[],[],[],[],t⟩
 |set (s:Qx4) (h:Qqo s.col=true∧GX n s.ex):Qk3 n ⟨5,⟨#[]⟩,[],[],[s],[],⟨#[]⟩⟩
structure Jxf(n:Nat)(t:Qks):Prop where
 name:Qqo t.name=true
 table:Qqo t.table=true
 ev1:1≤t.event
 ev2:t.event≤3
 ofs1:t.ofs.length≤1
 ofs2:∀s∈t.ofs,Qqo s=true
 ofs3:t.ofs=[]∨t.event=2
 prec:t.prec=[]
 foll:t.foll=[]
 rank1:t.rank.length≤1
 rank2:∀r∈t.rank,Qqo r.table=true∧Qqo r.col=true∧-3≤r.low∧r.low≤12∧-3≤r.high∧r.high≤23
 rank3:t.rank=[]∨t.before=false
 cond1:t.cond.length≤1
 cond2:∀x∈t.cond,GX n x
 acts1:1≤t.acts.length
 acts2:t.acts.length≤2
 acts3:∀a∈t.acts,Qk3 n a∧Jxd t a.kind=true
inductive Qwx(n:Nat):Qvu→Prop
 |table (s:Sch) (h:Jwn s):Qwx n ⟨1,s,⟨#[]⟩,Qym,Qyn,Jq7⟩
 |dropTable (t:ByteArray) (h:Qqo t=true):Qwx n ⟨2,Qwr,t,Qym,Qyn,Jq7⟩
 |trigger (t:Qks) (h:Jxf n t):Qwx n ⟨3,Qwr,⟨#[]⟩,t,Qyn,Jq7⟩
 |dropTrigger (t:ByteArray) (h:Qqo t=true):Qwx n ⟨4,Qwr,t,Qym,Qyn,Jq7⟩
 |select (q:Qu) (h:QG n q) (hl:q.items.length≤4):Qwx n ⟨5,Qwr,⟨#[]⟩,Qym,q,Jq7⟩
 |change(a:Qzq) (h:Qk3 n a) (hk:a.kind≤3):Qwx n ⟨6,Qwr,⟨#[]⟩,Qym,Qyn,a⟩
def VR(v:Value)(cs:List Value):Prop:=cs=[v]∧v.oneCell'=true
theorem Kq6(v:Value)(cs:List Value)(h:VR v cs):∀u∈cs,u.oneCell'=true:=fun u hu=>by
 obtain⟨rfl,h⟩:=h;rw[Zd.1 hu];exact h
def MG(M:Nat→Prop)(g k:Nat):Prop:=M k∨k=g
def Jzs(M:Nat→Prop)(W:World)(vs:List Value)(rs:List (List Ex)):Prop:=vs.length=rs.length∧∀(i:Nat) (v:Value) (r:List Ex),vs[i]?=some v→rs[i]?=some r→Qqq M W v r
theorem Jzs.keep{M:Nat→Prop}{W W':World}{vs:List Value}{rs:List (List Ex)}(h:Jzs M W vs rs)(k:Qqb M W W'):Jzs M W' vs rs:=⟨h.1,fun i v r hv hr=>(h.2 i v r hv hr).keep k⟩
theorem Jzs.weak{M M':Nat→Prop}{W:World}{vs:List Value}{rs:List (List Ex)}(h:Jzs M W vs rs)(hM:∀k,k<W.heap.size→M' k→M k):Jzs M' W vs rs:=⟨h.1,fun i v r hv hr=>(h.2 i v r hv hr).weak hM⟩
theorem Jzs.nil(M:Nat→Prop)(W:World):Jzs M W [] []:=⟨rfl,fun i v r hv=>by simp at hv⟩
theorem Jzs.snoc{M:Nat→Prop}{W:World}{vs:List Value}{rs:List (List Ex)}{v:Value}{r:List Ex}(h:Jzs M W vs rs)(hv:Qqq M W v r):Jzs M W (vs++[v]) (rs++[r]):=by
 refine⟨by simp[h.1],fun i u x hu hx=>?_⟩;by_cases hi:i<vs.length
 ·rw[Jv hi] at hu;rw[Jv (by rw[←h.1];exact hi)] at hx;exact h.2 i u x hu hx
 ·have hi1:i<vs.length+1:=by have:=(Yq.1 hu).1;simpa using this
  have e:i=vs.length:=by omega
  subst e;rw[Jj (Zz _),Nat.sub_self] at hu;rw[h.1,Jj (Zz _),Nat.sub_self] at hx;simp only[Qz,Ym] at hu hx;subst hu hx;exact hv
theorem Qqa.own{α:Type}{M:Nat→Prop}{w:World}{size:Nat}{R:α→List Value→Prop}{v:Value}{xs:List α}(h:Qqa (fun _=>False) w size R v xs)(hM:∀k,Qq4 v k→¬M k):Qqa M w size R v xs:=by
 obtain⟨css,hs,hl,hR⟩:=h;refine⟨css,?_,hl,hR⟩
 rcases hs with hs|⟨b,o,cap,hv,_,hr⟩
 ·exact .inl hs
 ·exact .inr ⟨b,o,cap,hv,hM b (by rw[hv];rfl),hr⟩
theorem Qqf.rowsOwn{α:Type}{lo:Nat}{M:Nat→Prop}{w:World}{e:TypeId}{size:Nat}{R:α→List Value→Prop}{v:Value}{xs:List α}(h:Qqf lo w e size R v xs)(hM:∀k,Qq4 v k→¬M k):Qqa M w size R v xs:=Qqa.own (h.rows fun _ _ _=>id) hM
theorem Qqf.blk{α:Type}{lo:Nat}{w:World}{e:TypeId}{size:Nat}{R:α→List Value→Prop}{v:Value}{xs:List α}(h:Qqf lo w e size R v xs)(hx:xs≠[]):∃g cap cur,v=Qv (some ⟨g,0,none⟩) xs.length cap∧lo≤g∧w.heap[g]?=some (.cells cur e (0,0))∧xs.length≤cap∧cap≤maxLen:=by
 obtain⟨css,⟨h1,h2⟩,hl,_⟩:=h
 rcases h2 with⟨_,h2⟩|⟨g,cap,cur,hv,hg,hh,hc1,hc2,_⟩
 ·exact absurd (Yd (by omega)) hx
 ·exact⟨g,cap,cur,by rw[hv,hl],hg,hh,by omega,hc2⟩
def Qyj:List Value→Nat→List Value→List Value
 |l,_,[]=>l
 |l,i,c::cs=>Qyj (l.set i c) (i+1) cs
theorem Jvk:∀(cs:List Value) (l:List Value) (i:Nat),(Qyj l i cs).length=l.length
 |[],_,_=>rfl
 |c::cs,l,i=>by rw[Qyj,Jvk cs];simp
theorem Yq6:∀(cs:List Value) (l:List Value) (i n:Nat),(Qyj l i cs).take n=Qyj (l.take n) i cs
 |[],_,_,_=>rfl
 |c::cs,l,i,n=>by rw[Qyj,Qyj,Yq6 cs,List.take_set]
theorem Jyh:∀(cs a l:List Value) (i:Nat),Qyj (a++l) (a.length+i) cs=a++Qyj l i cs
 |[],_,_,_=>rfl
 |c::cs,a,l,i=>by
  rw[Qyj,Qyj,List.set_append_right _ _ (by omega),Nat.add_sub_cancel_left,Nat.add_assoc,Jyh cs]
theorem Jxg:∀(cs a l:List Value),a.length=cs.length→Qyj (a++l) 0 cs=cs++l
 |[],a,l,h=>by rw[Jc.1 h];rfl
 |c::cs,[],_,h=>by simp at h
 |c::cs,x::a,l,h=>by
  rw[Qyj,Ji,Zx];have e:=Jyh cs [c] (a++l) 0;rw[Jp,List.singleton_append,List.singleton_append] at e;rw[Ye,e,Jxg cs a l (by simpa using h),Ji]
theorem Yq7{size:Nat}{cs:List Value}(hcs:cs.length=size):∀(css:List (List Value)) (k:Nat),k<css.length→(∀c∈css,c.length=size)→Qyj css.flatten (k*size) cs=(css.set k cs).flatten
 |[],_,h,_=>by simp at h
 |c::css,0,_,h=>by
  rw[Jr,Yr,Zx,Yr];exact Jxg cs c css.flatten (by rw[hcs];exact h c (by simp))
 |c::css,k+1,hk,h=>by
  have e:=Jyh cs c css.flatten (k*size);rw[h c (by simp)] at e;rw[Yr,Zk,Yr,Nat.succ_mul,Nat.add_comm,e,Yq7 hcs css k (by simpa using hk) (fun x hx=>h x (by simp[hx]))]
theorem Qkx{g:Nat}{e:TypeId}:∀(cs:List Value) (i:Nat) (w:World) (cur:Array Value),w.heap[g]?=some (.cells cur e (0,0))→∃cur',(w.setCells g i cs).heap[g]?=some (.cells cur' e (0,0))∧cur'.toList=Qyj cur.toList i cs
 |[],_,_,cur,h=>⟨cur,h,rfl⟩
 |c::cs,i,w,cur,h=>by
  have h':(w.setCell ⟨g,i,none⟩ c).heap[g]?=some (.cells (cur.setIfInBounds i c) e (0,0)):=by simp[World.setCell,Yh,h]
  obtain⟨cur',h1,h2⟩:=Qkx cs (i+1) _ _ h';exact⟨cur',h1,by rw[h2,Qyj];simp⟩
theorem Qqf.set1{α:Type}{lo:Nat}{w:World}{e:TypeId}{size:Nat}{R:α→List Value→Prop}{g n cap:Nat}{xs:List α}(h:Qqf lo w e size R (Qv (some ⟨g,0,none⟩) n cap) xs){k:Nat}(hk:k<xs.length){x:α}{cs:List Value}(hcs:cs.length=size)(hR:R x cs):
 Qqf lo (w.setCells g (k*size) cs) e size R (Qv (some ⟨g,0,none⟩) n cap) (xs.set k x):=by
 obtain⟨css,⟨h1,h2⟩,hl,hs,hr⟩:=h
 rcases h2 with⟨hv,_⟩|⟨g',cap',cur,hv,hg,hh,hc1,hc2,hc3,hc4⟩
 ·cases hv
 ·simp only[Yz,Ym,Kf,and_true] at hv;obtain⟨rfl,rfl,rfl⟩:=hv;obtain⟨cur',hb,hcur⟩:=Qkx cs (k*size) w cur hh
  have hall:∀c∈css.set k cs,c.length=size:=fun c hc=>by
   rcases List.mem_or_eq_of_mem_set hc with hc|rfl
   ·exact hs c hc
   ·exact hcs
  have hfl:(css.set k cs).flatten.length=(css.set k cs).length*size:=Qxl size _ hall;refine⟨css.set k cs,⟨hfl,.inr ⟨g,cap,cur',by simp,hg,hb,by simpa using hc1,hc2,?_,?_⟩⟩,by simpa using hl,hall,fun i y ci hy hi=>?_⟩
  ·rw[←Kt,hcur,Jvk,Kt,hc3]
  ·rw[hcur,Yq6,List.length_set,hc4];exact Yq7 hcs css k (by omega) hs
  ·by_cases hik:i=k
   ·subst hik;rw[List.getElem?_set_self (by omega)] at hi hy;cases hi;cases hy;exact hR
   ·rw[List.getElem?_set_ne (fun h=>hik h.symm)] at hi hy;exact hr i y ci hy hi
theorem Qqn.set1{α:Type}{R:(Nat→Prop)→World→α→List Value→Prop}(S:Qx8 R){lo:Nat}{w:World}{e:TypeId}{size:Nat}{g n cap:Nat}{xs:List α}(h:Qqn lo w e size R (Qv (some ⟨g,0,none⟩) n cap) xs){k:Nat}(hk:k<xs.length){x:α}{cs:List Value}(hcs:cs.length=size)(hR:R (Qjl lo (Qv (some ⟨g,0,none⟩) n cap)) w x cs):
 Qqn lo (w.setCells g (k*size) cs) e size R (Qv (some ⟨g,0,none⟩) n cap) (xs.set k x):=
 Qqf.imp (Qqf.set1 h hk hcs hR) fun _ _ _ hc=>S.keep hc ((Qqj cs (k*size) w).weak fun j _ hj=>.inr (by unfold At at hj;subst hj;rfl))
def Qkq(M:Nat→Prop)(W:World)(va:Value)(rows:List (List Ex)):Prop:=
 (rows=[]∧va=Qv none 0 0)∨∃r0 rest v0 vs g0 c0 arr,rows=r0::rest∧r0≠[]∧¬M g0∧v0=Qv (some ⟨g0,0,none⟩) r0.length c0∧W.heap[g0]?=some (.cells arr 80 (0,0))∧
   Qqa M W 10 (EC (MG M g0) W) v0 r0∧Qqa (MG M g0) W 1 VR va (v0::vs)∧Jzs (MG M g0) W vs rest
theorem Qkq.keep{M:Nat→Prop}{W W':World}{va:Value}{rows:List (List Ex)}(h:Qkq M W va rows)(k:Qqb M W W'):Qkq M W' va rows:=by
 rcases h with h|⟨r0,rest,v0,vs,g0,c0,arr,h1,h1n,h2,h3,h4,h5,h6,h7⟩
 ·exact .inl h
 ·have k':Qqb (MG M g0) W W':=k.weak fun _ _ h=>.inl h;exact .inr ⟨r0,rest,v0,vs,g0,c0,arr,h1,h1n,h2,h3,(k.block _ (Zq.1 h4).1 h2).trans h4,Qqa.map h5 k fun x _ cs hc=>EC.keep k' x cs hc,Qqa.map h6 k' fun _ _ _ h=>h,h7.keep k'⟩
theorem Qkq.weak{M M':Nat→Prop}{W:World}{va:Value}{rows:List (List Ex)}(hM:∀k,k<W.heap.size→M' k→M k)(h:Qkq M W va rows):Qkq M' W va rows:=by
 rcases h with h|⟨r0,rest,v0,vs,g0,c0,arr,h1,h1n,h2,h3,h4,h5,h6,h7⟩
 ·exact .inl h
 ·have hg:=(Zq.1 h4).1;have hM':∀k,k<W.heap.size→MG M' g0 k→MG M g0 k:=fun k hk h=>h.imp (hM k hk) id;exact .inr ⟨r0,rest,v0,vs,g0,c0,arr,h1,h1n,fun h=>h2 (hM _ hg h),h3,h4,Qqa.weak h5 hM fun x _ cs hc=>EC.weak hM' x cs hc,Qqa.weak h6 hM' fun _ _ _ h=>h,h7.weak hM'⟩
theorem Qkq.exLs{M:Nat→Prop}{W:World}{va:Value}{rows:List (List Ex)}(h:Qkq M W va rows):Jqc M W va rows:=by
 rcases h with⟨rfl,rfl⟩|⟨r0,rest,v0,vs,g0,c0,arr,rfl,h1n,h2,h3,h4,h5,h6,h7⟩
 ·exact Qqa.nil ..
 ·have hM':∀k,k<W.heap.size→M k→MG M g0 k:=fun k _ h=>.inl h;obtain⟨css,hs,hl,hR⟩:=Qqa.weak h6 hM' fun _ _ _ h=>h;refine⟨css,hs,by rw[hl];simp[h7.1],fun i x cs hx hc=>?_⟩
  match i with
  |0=>
   obtain⟨e,_⟩:=hR 0 v0 cs rfl hc;obtain rfl:r0=x:=by simpa using hx
   exact⟨v0,e,Qqa.weak h5 (fun _ _ h=>h) fun y _ c hc=>EC.weak hM' y c hc⟩
  |i+1=>
   have hx':rest[i]?=some x:=by simpa using hx
   have hi:i<vs.length:=by rw[h7.1];exact(Yq.1 hx').1
   obtain⟨e,_⟩:=hR (i+1) vs[i] cs (by simp[hi]) hc;exact⟨vs[i],e,(h7.2 i _ x (Zg hi) hx').weak hM'⟩
theorem Qkq.shape{M:Nat→Prop}{W:World}{va:Value}{rows:List (List Ex)}(h:Qkq M W va rows):∃a c,va=Qv a rows.length c:=by
 obtain⟨a,c,h,_⟩:=Qqa.shape h.exLs;exact⟨a,c,h⟩
def NB(lo:Nat)(va:Value)(g k:Nat):Prop:=Old lo k∨Qq4 va k∨k=g
def Qyt(lo:Nat)(W:World)(va:Value)(vals:List Value)(rows:List (List Ex)):Prop:=
 Qqf lo W 32 1 VR va vals∧
 ((vals=[]∧rows=[]∧va=Qv none 0 0)∨∃r0 rest v0 vs g0 c0 arr,vals=v0::vs∧rows=r0::rest∧r0≠[]∧lo≤g0∧¬Qq4 va g0∧v0=Qv (some ⟨g0,0,none⟩) r0.length c0∧W.heap[g0]?=some (.cells arr 80 (0,0))∧
   Qqa (Qjl lo va) W 10 (EC (NB lo va g0) W) v0 r0∧Jzs (NB lo va g0) W vs rest)
theorem Qyt.nil(lo:Nat)(W:World):Qyt lo W () [] []:=⟨Qqf.nil ..,.inl ⟨rfl,rfl,rfl⟩⟩
theorem Qyt.keep{lo:Nat}{W W':World}{va:Value}{vals:List Value}{rows:List (List Ex)}{M:Nat→Prop}(h:Qyt lo W va vals rows)(k:Qqb M W W')(hM:∀k,lo≤k→k<W.heap.size→¬M k):Qyt lo W' va vals rows:=by
 refine⟨Qqf.kept h.1 k (fun j hj=>hM j (Qqf.lt h.1 hj).1 (Qqf.lt h.1 hj).2) fun _ _ _ h=>h,?_⟩
 rcases h.2 with h|⟨r0,rest,v0,vs,g0,c0,arr,h0,h1,h1n,h2,h2',h3,h4,h5,h7⟩
 ·exact .inl h
 ·have hg:=(Zq.1 h4).1;have k1:Qqb (Qjl lo va) W W':=k.weak fun j hj h=>.inl (Nat.lt_of_not_le fun hl=>hM j hl hj h);have k2:Qqb (NB lo va g0) W W':=k.weak fun j hj h=>.inl (Nat.lt_of_not_le fun hl=>hM j hl hj h);exact .inr ⟨r0,rest,v0,vs,g0,c0,arr,h0,h1,h1n,h2,h2',h3,(k.block _ hg (hM _ h2 hg)).trans h4,Qqa.map h5 k1 fun x _ cs hc=>EC.keep k2 x cs hc,h7.keep k2⟩
theorem Qyt.fin{lo:Nat}{W:World}{va:Value}{vals:List Value}{rows:List (List Ex)}(h:Qyt lo W va vals rows):Qkq (Old lo) W va rows:=by
 rcases h.2 with⟨_,h,h'⟩|⟨r0,rest,v0,vs,g0,c0,arr,h0,h1,h1n,h2,h2',h3,h4,h5,h7⟩
 ·exact .inl ⟨h,h'⟩
 ·have hM:∀k,k<W.heap.size→MG (Old lo) g0 k→NB lo va g0 k:=fun k _ h=>h.elim .inl fun h=>.inr (.inr h);refine .inr ⟨r0,rest,v0,vs,g0,c0,arr,h1,h1n,fun h=>by unfold Old at h;omega,h3,h4,Qqa.weak h5 (fun k _ h=>.inl h) fun x _ cs hc=>EC.weak hM x cs hc,?_,h7.weak hM⟩;rw[←h0]
  exact Qqf.rowsOwn h.1 fun k hk hm=>by
   have:=(Qqf.lt h.1 hk).1;rcases hm with hm|rfl
   ·unfold Old at hm;omega
   ·exact h2' hk
theorem Qyt.add{T lo:Nat}{ws W W2:World}{va va' vr:Value}{vals:List Value}{rows:List (List Ex)}{x:List Ex}(h:Qyt lo ws va vals rows)(kw:Qqb (At T) ws W)(hT:T<lo)(hlo:lo≤ws.heap.size)(hx:Qqn ws.heap.size W 80 10 (fun M w (e:Ex) cs=>EC M w e cs) vr x)(hne:x≠[])
 (ho:Qqf lo W2 32 1 VR va' (vals++[vr]))(hk:Qqb (Qq4 va) W W2)(hat:∀k,Qq4 va' k→Qq4 va k∨W.heap.size≤k):Qyt lo W2 va' (vals++[vr]) (rows++[x]):=by
 have hz:=kw.size;have hva:∀k,Qq4 va k→lo≤k∧k<ws.heap.size:=fun k hk=>Qqf.lt h.1 hk;have hat':∀k,k<W.heap.size→Qq4 va' k→Qq4 va k:=fun k hk h=>(hat k h).resolve_right (by omega);have hW:=h.keep kw fun k h1 _ h=>by unfold At at h;omega
 obtain⟨gx,cx,ax,hvr,hgx,hbx,_,_⟩:=Qqf.blk hx hne;have hgz:=(Zq.1 hbx).1;have hxR:Qqa (Old ws.heap.size) W 10 (EC (Qjl ws.heap.size vr) W) vr x:=Qqf.rowsOwn hx fun k hk hm=>by have:=(Qqf.lt hx hk).1;unfold Old at hm;omega
 have hxE:Qqq (Old ws.heap.size) W vr x:=Qqn.rows Qjs hx;refine⟨ho,.inr ?_⟩
 rcases hW.2 with⟨rfl,rfl,rfl⟩|⟨r0,rest,v0,vs,g0,c0,arr,rfl,rfl,h1n,h2,h2',h3,h4,h5,h7⟩
 ·have hno:∀k,¬Qq4 () k:=fun k h=>by cases h
  have hM1:∀k,k<W.heap.size→Qjl lo va' k→Old ws.heap.size k:=fun k hk h=>h.elim (fun h=>by unfold Old;omega) fun h=>absurd (hat' k hk h) (hno k)
  have hM2:∀k,k<W.heap.size→NB lo va' gx k→Qjl ws.heap.size vr k:=fun k hk h=>by
   rcases h with h|h|h
   ·exact .inl (by unfold Old at h;omega)
   ·exact absurd (hat' k hk h) (hno k)
   ·exact .inr (by rw[hvr,h];rfl)
  have kk:∀M:Nat→Prop,Qqb M W W2:=fun M=>hk.weak fun k _ h=>absurd h (hno k);refine⟨x,[],vr,[],gx,cx,ax,rfl,rfl,hne,by omega,fun h=>hno gx (hat' gx hgz h),hvr,(hk.block _ hgz (hno gx)).trans hbx,?_,Jzs.nil ..⟩;exact Qqa.map (Qqa.weak hxR hM1 fun y _ cs hc=>EC.weak hM2 y cs hc) (kk _) fun y _ cs hc=>EC.keep (kk _) y cs hc
 ·have hg0:=(Zq.1 h4).1
  have hg0s:g0<ws.heap.size:=by
   rcases h.2 with⟨h,_⟩|⟨r0',rest',v0',vs',g0',c0',arr',e0,_,_,_,_,e3,e4,_⟩
   ·cases h
   ·injection e0 with e0 _;rw[←e0,h3] at e3;injection e3 with e3 _ _;injection e3 with e3;injection e3 with e3 _ _;rw[e3];exact(Zq.1 e4).1
  have hm1:∀k,k<W.heap.size→(Qjl lo va k∨Qjl lo va' k)→Qjl lo va k:=fun k hk h=>h.elim id fun h=>h.elim .inl fun h=>.inr (hat' k hk h)
  have hm2:∀k,k<W.heap.size→(NB lo va g0 k∨NB lo va' g0 k)→NB lo va g0 k:=fun k hk h=>h.elim id fun h=>by
   rcases h with h|h|h
   ·exact .inl h
   ·exact .inr (.inl (hat' k hk h))
   ·exact .inr (.inr h)
  have k1:Qqb (fun k=>Qjl lo va k∨Qjl lo va' k) W W2:=hk.weak fun k _ h=>.inl (.inr h);have k2:Qqb (fun k=>NB lo va g0 k∨NB lo va' g0 k) W W2:=hk.weak fun k _ h=>.inl (.inr (.inl h));refine⟨r0,rest++[x],v0,vs++[vr],g0,c0,arr,rfl,rfl,h1n,h2,fun h=>h2' (hat' g0 hg0 h),h3,(hk.block _ hg0 h2').trans h4,?_,?_⟩
  ·exact Qqa.weak (Qqa.map (Qqa.weak h5 hm1 fun y _ cs hc=>EC.weak hm2 y cs hc) k1 fun y _ cs hc=>EC.keep k2 y cs hc) (fun k _ h=>.inr h) fun y _ cs hc=>EC.weak (fun k _ h=>.inr h) y cs hc
  ·refine Jzs.snoc (((h7.weak hm2).keep k2).weak fun k _ h=>.inr h) (((hxE.weak (M':=fun k=>NB lo va g0 k∨NB lo va' g0 k) fun k hk h=>?_).keep k2).weak fun k _ h=>.inr h);rcases hm2 k hk h with h|h|h
   ·unfold Old at h⊢;omega
   ·have:=hva k h;unfold Old;omega
   ·unfold Old;omega
def Jjx(n:Nat)(P:Qzq→Prop)(w:World)(v:Value)(W:World):Prop:=∃(a:Qzq) (vr vq vs vw:Value),v=.agg #[a.kind,a.table,vr,vq,vs,vw,a.text]∧Qkq (Old w.heap.size) W vr a.rows∧Qz1 (Old w.heap.size) W vq a.query∧Qzb (Old w.heap.size) W vs a.sets∧Qqq (Old w.heap.size) W vw a.whr∧Qk3 n a∧P a
theorem Jjx.keep{n:Nat}{P:Qzq→Prop}{w W W':World}{v:Value}(h:Jjx n P w v W)(k:Qqb (Old w.heap.size) W W'):Jjx n P w v W':=by
 obtain⟨a,vr,vq,vs,vw,h0,h1,h2,h3,h4,h5⟩:=h;exact⟨a,vr,vq,vs,vw,h0,h1.keep k,Qz1.keep h2 k,Qzb.keep k h3,Qqq.keep h4 k,h5⟩
theorem Jjx.up{n:Nat}{P:Qzq→Prop}{w w' W:World}{v:Value}(h:Jjx n P w' v W)(hz:w.heap.size≤w'.heap.size):Jjx n P w v W:=by
 obtain⟨a,vr,vq,vs,vw,h0,h1,h2,h3,h4,h5⟩:=h;have hM:∀k,k<W.heap.size→Old w.heap.size k→Old w'.heap.size k:=fun k _ h=>by unfold Old at h⊢;omega
 exact⟨a,vr,vq,vs,vw,h0,h1.weak hM,h2.weak hM,Qzb.weak hM h3,h4.weak hM,h5⟩
theorem Jjx.shape{n:Nat}{P:Qzq→Prop}{w W:World}{v:Value}(h:Jjx n P w v W):∃(a:Qzq) (a1 a2 a3 a4:Option Addr) (c1 c2 c3 c4:Nat),v=.agg #[a.kind,a.table,Qv a1 a.rows.length c1,Qv a2 a.query.length c2,Qv a3 a.sets.length c3,Qv a4 a.whr.length c4,a.text]∧
 Qkq (Old w.heap.size) W (Qv a1 a.rows.length c1) a.rows∧Qz1 (Old w.heap.size) W (Qv a2 a.query.length c2) a.query∧Qzb (Old w.heap.size) W (Qv a3 a.sets.length c3) a.sets∧Qqq (Old w.heap.size) W (Qv a4 a.whr.length c4) a.whr∧Qk3 n a∧P a:=by
 obtain⟨a,vr,vq,vs,vw,rfl,h1,h2,h3,h4,h5⟩:=h;obtain⟨a1,c1,rfl⟩:=h1.shape;obtain⟨a2,c2,rfl,_⟩:=Qqa.shape h2;obtain⟨a3,c3,rfl,_⟩:=Qqa.shape h3;obtain⟨a4,c4,rfl,_⟩:=Qqa.shape h4;exact⟨a,a1,a2,a3,a4,c1,c2,c3,c4,rfl,h1,h2,h3,h4,h5⟩
end Go.Proofs.YtgepbohjmgaojaaGreatDoor
