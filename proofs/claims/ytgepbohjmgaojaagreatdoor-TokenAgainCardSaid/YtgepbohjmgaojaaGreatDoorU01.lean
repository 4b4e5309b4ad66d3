/- Plain words on memory for this seat's walks: which slices hold which rows of cells, and how that lasts while other blocks are made or one tape block is written. -/
import Derived.Lib.Strings
import Derived.Deep.RegionHeld3
import Derived.WalkSpells
import Derived.WalkLawsBesides
import Derived.Handy
import Derived.Lib.Hide
import Derived.Laws.AppendOwnNone
import Derived.Deep.AppendLies
set_option linter.all false
namespace Go.Proofs.YtgepbohjmgaojaaGreatDoor
open Value renaming slice→Qv
abbrev Zq:=@Array.getElem?_eq_some_iff
abbrev Zj:=@List.setIfInBounds_toArray
abbrev Zz:=@Nat.le_refl
abbrev Zx:=@List.set_cons_zero
abbrev Zk:=@List.set_cons_succ
abbrev Zv:=@List.mem_cons_self
abbrev Zw:=@heap_alloc_new
abbrev Zy:=@AllReadyH.cons
abbrev Zg:=@List.getElem?_eq_getElem
abbrev Zh:=@bodyPost_ret
abbrev Zd:=@List.mem_singleton
abbrev Zf:=@AllReadyH.nil
abbrev Zb:=@List.length_cons
abbrev Zc:=@wpAnyH_ready
abbrev Zm:=@Nat.lt_of_lt_of_le
abbrev Zn:=@World.size_alloc
abbrev Zp:=@IntWalk.i64_in
abbrev Zr:=@List.length_append
abbrev Zt:=@Int.eq_ofNat_of_zero_le
abbrev Zs:=@List.mem_cons
abbrev Zl:=@List.mem_cons_of_mem
abbrev Za:=@World.block_lt_of_cell?
abbrev Ze:=@And.intro
abbrev Zi:=@Nat.zero_le
abbrev Zo:=@List.not_mem_nil
abbrev Zu:=@decide_eq_true_eq
abbrev Yq:=@List.getElem?_eq_some_iff
abbrev Yj:=@List.getElem_cons_zero
abbrev Yz:=@Value.slice.injEq
abbrev Yx:=@Bool.and_eq_true
abbrev Yk:=@List.mem_of_getElem?
abbrev Yv:=@decide_eq_true
abbrev Yw:=@List.length_nil
abbrev Yy:=@List.getElem_toArray
abbrev Yg:=@List.getElem_cons_succ
abbrev Yh:=@Array.getElem?_modify
abbrev Yd:=@List.eq_nil_of_length_eq_zero
abbrev Yf:=@List.mem_append
abbrev Yb:=@decide_eq_false
abbrev Yc:=@List.map_cons
abbrev Ym:=@Option.some.injEq
abbrev Yn:=@List.all_eq_true
abbrev Yp:=@ByteArray.toList_eq
abbrev Yr:=@List.flatten_cons
abbrev Yt:=@List.mem_iff_getElem
abbrev Ys:=@List.length_map
abbrev Yl:=@World.size_drew
abbrev Ya:=@Nat.le_trans
abbrev Ye:=@Nat.zero_add
abbrev Yi:=@List.getElem?_map
abbrev Yo:=@List.getElem_mem
abbrev Yu:=@or_false
abbrev Jq:=@Option.isSome_iff_exists
abbrev Jj:=@List.getElem?_append_right
abbrev Jz:=@Nat.add_le_add
abbrev Jx:=@Nat.add_le_add_right
abbrev Jk:=@List.append_assoc
abbrev Jv:=@List.getElem?_append_left
abbrev Jw:=@beq_eq_false_iff_ne
abbrev Jy:=@heap_alloc_old
abbrev Jg:=@List.take_of_length_le
abbrev Jh:=@List.take_add_one
abbrev Jd:=@NoPanic.normal
abbrev Jf:=@Option.some.inj
abbrev Jb:=@List.append_nil
abbrev Jc:=@List.length_eq_zero_iff
abbrev Jm:=@List.length_take
abbrev Jn:=@List.length_pos_iff
abbrev Jp:=@List.length_singleton
abbrev Jr:=@Nat.zero_mul
abbrev Jt:=@Nat.le_of_lt
abbrev Js:=@World.cell?_alloc_lt
abbrev Jl:=@List.getD_eq_getElem?_getD
abbrev Ja:=@World.size_setCell
abbrev Je:=@Nat.add_zero
abbrev Ji:=@List.cons_append
abbrev Jo:=@List.take_length
abbrev Ju:=@Option.map_eq_some_iff
abbrev Kq:=@results_cell_row
abbrev Kj:=@wp_region_held_drew
abbrev Kz:=@wpAnyH_done
abbrev Kx:=@List.mem_iff_getElem?
abbrev Kk:=@Bool.true_and
abbrev Kv:=@List.findIdx?_eq_some_iff_getElem
abbrev Kw:=@List.drop_of_length_le
abbrev Ky:=@wp_loop_rounds
abbrev Kg:=@wp_region_noPanic
abbrev Kh:=@ByteArray.size_append
abbrev Kd:=@wpList_store_mid
abbrev Kf:=@Addr.mk.injEq
abbrev Kb:=@Bool.and_true
abbrev Kc:=@List.sum_cons
abbrev Km:=@List.map_nil
abbrev Kn:=@Nat.le_of_eq
abbrev Kp:=@rounds_succ
abbrev Kr:=@Bool.not_eq_true'
abbrev Kt:=@Array.length_toList
abbrev Ks:=@Nat.mul_one
abbrev Kl:=@List.sizeOf_lt_of_mem
abbrev Ka:=@Nat.min_eq_left
abbrev Ke:=@List.map_append
abbrev Ki:=@List.take_succ_eq_append_getElem
abbrev Ko:=@Bool.eq_false_iff
abbrev Ku:=@Array.getElem?_setIfInBounds_ne
abbrev Qq:=@List.takeWhile_cons
abbrev Qj:=@List.take_succ_cons
abbrev Qz:=@List.getElem?_cons_zero
abbrev Qx:=@Lib.extract_data
abbrev Qk:=@Bool.not_false
instance:Coe Unit Value:=⟨fun _=>Qv none 0 0⟩
instance:Coe Int Value:=⟨fun x=>.int .i64 x⟩
instance:Coe Nat Value:=⟨fun x=>.int .i64 x⟩
instance:Coe ByteArray Value:=⟨fun x=>.string x⟩
instance:Coe Bool Value:=⟨fun x=>.bool x⟩
instance:CoeDep String "" Value:=⟨.string ⟨#[]⟩⟩
instance:CoeDep String "0" Value:=⟨.int .i64 0⟩
instance:CoeDep String "1" Value:=⟨.int .i64 1⟩
instance:CoeDep String "2" Value:=⟨.int .i64 2⟩
instance:CoeDep String "3" Value:=⟨.int .i64 3⟩
instance:CoeDep String "4" Value:=⟨.int .i64 4⟩
instance:CoeDep String "5" Value:=⟨.int .i64 5⟩
instance:CoeDep String "6" Value:=⟨.int .i64 6⟩
instance:CoeDep String "7" Value:=⟨.int .i64 7⟩
instance:CoeDep String "8" Value:=⟨.int .i64 8⟩
instance:CoeDep String "9" Value:=⟨.int .i64 9⟩
theorem tk {P:Program}{ops:Array Oper}{Q:Exit→Act→World→Prop}{md:Region.Mode}{S:World→Prop}(i:Nat){oi:Oper}{v:Value}{fuel:Nat}{listed:Array Bool}{a:Act}{w:World}(h:wpAnyH P md ops Q S fuel (listed.setIfInBounds i true) (a.put oi.dst v) w)(hi:ops[i]?=some oi:=by rfl)(hs:Region.noSelect ops=true:=by kernel_rfl)(hf:Region.free md ops listed i=true:=by kernel_rfl)(hr:(Region.ready md ops listed).contains i=true:=by kernel_rfl)(hQ:∀c a w,Q (.panic c) (a.put oi.dst v) w→Q (.panic c) a w:=by exact fun _ _ _ h=>h)(hy:YieldsIf P ops S oi v a:=by exact Or.inl ⟨by rfl,by(intro w hSw;(try dsimp only at hSw);go_simp;(try with_reducible rfl))⟩)(hS:S w:=by assumption):wpAnyH P md ops Q S (fuel+1) listed a w:=wpAnyH_take hi hs hf hr hQ hy hS h
open Go.RowKit
structure Qqb(M:Nat→Prop)(w w':World):Prop where
 os:w'.os=w.os
 tape:w'.tape=w.tape
 output:w'.output=w.output
 size:w.heap.size≤w'.heap.size
 block:∀k,k<w.heap.size→¬M k→w'.heap[k]?=w.heap[k]?
def At(T:Nat)(k:Nat):Prop:=k=T
def Out(lo hi:Nat)(k:Nat):Prop:=k<lo∨hi≤k
section
variable{M:Nat→Prop} {a b c w w':World}
theorem Qqb.refl(M:Nat→Prop)(w:World):Qqb M w w:=⟨rfl,rfl,rfl,Zz _,fun _ _ _=>rfl⟩
theorem Qqb.trans(h:Qqb M a b)(k:Qqb M b c):Qqb M a c:=
 ⟨k.os.trans h.os,k.tape.trans h.tape,k.output.trans h.output,Ya h.size k.size,
  fun i hi hn=>(k.block i (Zm hi h.size) hn).trans (h.block i hi hn)⟩
theorem Qqb.of_below{B:Nat}(h:Below B w w')(hB:∀k,k<w.heap.size→B≤k→M k):Qqb M w w':=
 ⟨h.os,h.tape,h.output,h.size,fun k hk hn=>h.block k (Nat.lt_of_not_le fun hle=>hn (hB k hk hle))⟩
theorem Qqb.bel(h:Below w.heap.size w w'):Qqb M w w':=.of_below h fun k h1 h2=>by omega
theorem Qqb.below(h:Qqb M a b)(k:Below b.heap.size b c):Qqb M a c:=h.trans (.bel k)
theorem Qqb.weak{M':Nat→Prop}(h:Qqb M' w w')(hM:∀k,k<w.heap.size→M' k→M k):Qqb M w w':=
 ⟨h.os,h.tape,h.output,h.size,fun k hk hn=>h.block k hk fun h'=>hn (hM k hk h')⟩
theorem Qqb.then{M':Nat→Prop}(h:Qqb M a b)(k:Qqb M' b c)(hM:∀i,i<a.heap.size→M' i→M i):Qqb M a c:=
 ⟨k.os.trans h.os,k.tape.trans h.tape,k.output.trans h.output,Ya h.size k.size,
  fun i hi hn=>(k.block i (Zm hi h.size) fun h'=>hn (hM i hi h')).trans (h.block i hi hn)⟩
theorem Qqb.drew(h:Qqb M a b):Qqb M a b.drew:=⟨h.os,h.tape,h.output,h.size,h.block⟩
theorem Qqb.drewN(h:Qqb M a b)(n:Nat):Qqb M a (b.drewN n):=⟨h.os,h.tape,h.output,h.size,h.block⟩
theorem Qqb.alloc(h:Qqb M a b)(o:Obj):Qqb M a (b.alloc o):=h.below ((Below.refl _ _).alloc (Zz _) o)
theorem Qqb.setCell(h:Qqb M a b){p:Addr}(hp:p.block<a.heap.size→M p.block)(u:Value):Qqb M a (b.setCell p u):=
 ⟨h.os,h.tape,h.output,by simpa using h.size,fun k hk hn=>by
  by_cases e:k=p.block
  ·subst e;exact absurd (hp hk) hn
  ·rw[Below.heap_setCell _ _ _ _ e];exact h.block k hk hn⟩
theorem Qqb.grown{row:Option Nat}(h:Qqb M a b)(hg:b.grownBy c row)(hr:∀k,row=some k→k<a.heap.size→M k):Qqb M a c:=
 ⟨hg.os.trans h.os,hg.tape.trans h.tape,hg.output.trans h.output,Ya h.size hg.size,
  fun k hk hn=>(hg.block k (Zm hk h.size) fun e=>hn (hr k e.symm hk)).trans (h.block k hk hn)⟩
theorem Qqb.cell(h:Qqb M w w'){b o:Nat}(hb:b<w.heap.size)(hT:¬M b):w'.cell? ⟨b,o,none⟩=w.cell? ⟨b,o,none⟩:=
 World.cell?_of_block (w:=w) (h.block b hb hT)
theorem Qqb.toBelow{B:Nat}(h:Qqb M w w')(hB:B≤w.heap.size)(hT:∀k,k<B→¬M k):Below B w w':=
 ⟨h.os,h.tape,h.output,h.size,fun k hk=>h.block k (Zm hk hB) (hT k hk)⟩
end
theorem Jk9{B:Nat}{a w:World}(h:Below B a w)(n:Nat):Below B a (w.drewN n):=⟨h.os,h.tape,h.output,h.size,h.block⟩
theorem Qqu{a b c:World}(h:Below a.heap.size a b)(k:Below b.heap.size b c):Below a.heap.size a c:=h.trans (k.mono h.size)
def Qqr(w:World)(b o:Nat)(cs:List Value):Prop:=∀j u,cs[j]?=some u→w.cell? ⟨b,o+j,none⟩=some u
theorem Qqr.keep{M:Nat→Prop}{w w':World}{b o:Nat}{cs:List Value}(h:Qqr w b o cs)(k:Qqb M w w')(hT:¬M b):Qqr w' b o cs:=by
 intro j u hu;have h1:=h j u hu;rw[k.cell (Za _ _ h1) hT];exact h1
theorem Qqr.get{w:World}{b o:Nat}{cs:List Value}(h:Qqr w b o cs)(j:Nat)(hj:j<cs.length):w.cell? ⟨b,o+j,none⟩=some cs[j]:=
 h j _ (Zg hj)
theorem Qqr.c1{w:World}{b o:Nat}{a:Value}(h:Qqr w b o [a]):w.cell? ⟨b,o,none⟩=some a:=h 0 _ rfl
theorem Qqr.c2{w:World}{b o:Nat}{a c:Value}(h:Qqr w b o [a,c]):w.cell? ⟨b,o,none⟩=some a∧w.cell? ⟨b,o+1,none⟩=some c:=⟨h 0 _ rfl,h 1 _ rfl⟩
theorem Qqr.c3{w:World}{b o:Nat}{a c d:Value}(h:Qqr w b o [a,c,d]):w.cell? ⟨b,o,none⟩=some a∧w.cell? ⟨b,o+1,none⟩=some c∧w.cell? ⟨b,o+2,none⟩=some d:=⟨h 0 _ rfl,h 1 _ rfl,h 2 _ rfl⟩
theorem Qqr.c4{w:World}{b o:Nat}{a c d e:Value}(h:Qqr w b o [a,c,d,e]):w.cell? ⟨b,o,none⟩=some a∧w.cell? ⟨b,o+1,none⟩=some c∧w.cell? ⟨b,o+2,none⟩=some d∧w.cell? ⟨b,o+3,none⟩=some e:=
 ⟨h 0 _ rfl,h 1 _ rfl,h 2 _ rfl,h 3 _ rfl⟩
def Qz0(M:Nat→Prop)(w:World)(size:Nat)(v:Value)(css:List (List Value)):Prop:=
 ((∃a,v=Qv a 0 0)∧css=[])∨
 ∃b o cap,v=Qv (some ⟨b,o,none⟩) css.length cap∧¬M b∧b<w.heap.size∧css.length≤cap∧cap≤maxLen∧
  ∀i cs,css[i]?=some cs→cs.length=size∧Qqr w b (o+i*size) cs
theorem Qz0.keep{M:Nat→Prop}{w w':World}{size:Nat}{v:Value}{css:List (List Value)}(h:Qz0 M w size v css)(k:Qqb M w w'):Qz0 M w' size v css:=by
 rcases h with h|⟨b,o,cap,hv,hT,hb,hl,hm,hc⟩
 ·exact .inl h
 ·exact .inr ⟨b,o,cap,hv,hT,Zm hb k.size,hl,hm,fun i cs hi=>⟨(hc i cs hi).1,(hc i cs hi).2.keep k hT⟩⟩
theorem Qz0.weak{M M':Nat→Prop}{w:World}{size:Nat}{v:Value}{css:List (List Value)}(h:Qz0 M w size v css)(hM:∀k,k<w.heap.size→M' k→M k):Qz0 M' w size v css:=by
 rcases h with h|⟨b,o,cap,hv,hT,hb,hl,hm,hc⟩
 ·exact .inl h
 ·exact .inr ⟨b,o,cap,hv,fun h'=>hT (hM b hb h'),hb,hl,hm,hc⟩
theorem Qz0.bel{M:Nat→Prop}{w w':World}{size:Nat}{v:Value}{css:List (List Value)}(h:Qz0 M w size v css)(k:Below w.heap.size w w'):Qz0 M w' size v css:=h.keep (.bel k)
theorem Qz0.shape{M:Nat→Prop}{w:World}{size:Nat}{v:Value}{css:List (List Value)}(h:Qz0 M w size v css):∃a cap,v=Qv a css.length cap∧css.length≤maxLen:=by
 rcases h with⟨⟨a,rfl⟩,rfl⟩|⟨b,o,cap,hv,_,_,hl,hm,_⟩
 ·exact⟨a,0,rfl,Zi _⟩
 ·exact⟨_,cap,hv,by omega⟩
theorem Jwc{size:Nat}(css:List (List Value))(hs:∀cs∈css,cs.length=size):∀(i:Nat) (cs:List Value),css[i]?=some cs→∀j u,cs[j]?=some u→css.flatten[i*size+j]?=some u:=by
 induction css with
 |nil=>intro i cs h;simp at h
 |cons c css ih=>
  intro i cs h j u hu;have hc:=hs c (Zv ..)
  cases i with
  |zero=>
   simp at h;subst h;have hj:j<c.length:=(Yq.1 hu).1;simp only[Yr,Jr,Ye];rw[Jv hj];exact hu
  |succ i=>
   simp only[List.getElem?_cons_succ] at h;have:=ih (fun x hx=>hs x (Zl _ hx)) i cs h j u hu;simp only[Yr];rw[Jj (by rw[hc,Nat.succ_mul];omega)];rw[hc,show(i+1)*size+j-size=i*size+j from by rw[Nat.succ_mul];omega];exact this
theorem Yjx{M:Nat→Prop}{w:World}{base:Nat}{e:TypeId}{size:Nat}{v:Value}{css:List (List Value)}(h:w.ownsRow base e size v css.length css.flatten)(hs:∀cs∈css,cs.length=size)(hT:∀k,base≤k→k<w.heap.size→¬M k):Qz0 M w size v css:=by
 obtain⟨_,h2⟩:=h
 rcases h2 with⟨hv,hn⟩|⟨g,cap,cur,hv,hg,hh,hnc,hcm,hcs,htake⟩
 ·exact .inl ⟨⟨_,hv⟩,Yd hn⟩
 ·refine .inr ⟨g,0,cap,hv,hT g hg (Zq.1 hh).1,(Zq.1 hh).1,hnc,hcm,fun i cs hi=>⟨hs cs (Yk hi),fun j u hu=>?_⟩⟩;have hf:=Jwc css hs i cs hi j u hu;rw[←htake,List.getElem?_take] at hf
  split at hf
  ·rw[cell_of_row w g _ cur e (0,0) hh];simpa[Nat.add_assoc] using hf
  ·cases hf
def Qqa{α:Type}(M:Nat→Prop)(w:World)(size:Nat)(R:α→List Value→Prop)(v:Value)(xs:List α):Prop:=
 ∃css,Qz0 M w size v css∧css.length=xs.length∧∀(i:Nat) (x:α) (cs:List Value),xs[i]?=some x→css[i]?=some cs→R x cs
theorem Qqa.map{α:Type}{M:Nat→Prop}{w w':World}{size:Nat}{R R':α→List Value→Prop}{v:Value}{xs:List α}(h:Qqa M w size R v xs)(k:Qqb M w w')(hr:∀x∈xs,∀cs,R x cs→R' x cs):Qqa M w' size R' v xs:=by
 obtain⟨css,hs,hl,hR⟩:=h;exact⟨css,hs.keep k,hl,fun i x cs hi hc=>hr x (Yk hi) cs (hR i x cs hi hc)⟩
theorem Qqa.shape{α:Type}{M:Nat→Prop}{w:World}{size:Nat}{R:α→List Value→Prop}{v:Value}{xs:List α}(h:Qqa M w size R v xs):∃a cap,v=Qv a xs.length cap∧xs.length≤maxLen:=by
 obtain⟨css,hs,hl,_⟩:=h;rw[←hl];exact hs.shape
theorem Qqa.weak{α:Type}{M M':Nat→Prop}{w:World}{size:Nat}{R R':α→List Value→Prop}{v:Value}{xs:List α}(h:Qqa M w size R v xs)(hM:∀k,k<w.heap.size→M' k→M k)(hr:∀x∈xs,∀cs,R x cs→R' x cs):Qqa M' w size R' v xs:=by
 obtain⟨css,hs,hl,hR⟩:=h;exact⟨css,hs.weak hM,hl,fun i x cs hi hc=>hr x (Yk hi) cs (hR i x cs hi hc)⟩
theorem Qqa.open{α:Type}{M:Nat→Prop}{w:World}{size:Nat}{R:α→List Value→Prop}{v:Value}{xs:List α}(h:Qqa M w size R v xs):
 ((∃a,v=Qv a 0 0)∧xs=[])∨∃b o cap,v=Qv (some ⟨b,o,none⟩) xs.length cap∧¬M b∧b<w.heap.size∧xs.length≤cap∧cap≤maxLen∧
   ∀(i:Nat) (x:α),xs[i]?=some x→∃cs,R x cs∧cs.length=size∧Qqr w b (o+i*size) cs:=by
 obtain⟨css,hs,hl,hR⟩:=h
 rcases hs with⟨hv,rfl⟩|⟨b,o,cap,hv,hT,hb,hlc,hm,hc⟩
 ·exact .inl ⟨hv,Yd hl.symm⟩
 ·rw[hl] at hv hlc;refine .inr ⟨b,o,cap,hv,hT,hb,hlc,hm,fun i x hi=>?_⟩;have hlt:i<css.length:=by rw[hl];exact(Yq.1 hi).1
  have hcs:=Zg hlt;exact⟨css[i],hR i x _ hi hcs,hc i _ hcs⟩
theorem Qqa.nil{α:Type}(M:Nat→Prop)(w:World)(size:Nat)(R:α→List Value→Prop):Qqa M w size R () ([]:List α):=
 ⟨[],.inl ⟨⟨_,rfl⟩,rfl⟩,rfl,fun i x cs h=>by simp at h⟩
theorem Qqa.mk{α:Type}{M:Nat→Prop}{w:World}{size:Nat}{R:α→List Value→Prop}{v:Value}{xs:List α}(css:List (List Value))(hs:Qz0 M w size v css)(hl:css.length=xs.length)
 (hR:∀(i:Nat) (x:α) (cs:List Value),xs[i]?=some x→css[i]?=some cs→R x cs):Qqa M w size R v xs:=⟨css,hs,hl,hR⟩
theorem Qqa.drop{α:Type}{M:Nat→Prop}{w:World}{size:Nat}{R:α→List Value→Prop}{b o n cap:Nat}{xs:List α}(h:Qqa M w size R (Qv (some ⟨b,o,none⟩) n cap) xs)(k:Nat)(hk:k≤n):
 Qqa M w size R (Qv (some ⟨b,o+k*size,none⟩) (n-k) (cap-k)) (xs.drop k):=by
 obtain⟨css,hs,hl,hR⟩:=h;refine⟨css.drop k,?_,by simp[hl],fun i x cs hi hc=>hR (k+i) x cs (by simpa[List.getElem?_drop] using hi) (by simpa[List.getElem?_drop] using hc)⟩
 rcases hs with⟨⟨a',hv⟩,h0⟩|⟨b',o',cap',hv,hT,hb,hlc,hm,hc⟩
 ·simp only[Yz] at hv;obtain⟨_,rfl,rfl⟩:=hv;exact .inl ⟨⟨some ⟨b,o+k*size,none⟩,by simp⟩,by simp[h0]⟩
 ·simp only[Yz,Ym,Kf] at hv;obtain⟨⟨rfl,rfl,_⟩,rfl,rfl⟩:=hv;refine .inr ⟨b,o+k*size,cap-k,by simp,hT,hb,by simp;omega,by omega,fun i cs hi=>?_⟩;have:=hc (k+i) cs (by simpa[List.getElem?_drop] using hi);rw[Nat.add_mul,←Nat.add_assoc] at this;exact this
theorem Qqa.take{α:Type}{M:Nat→Prop}{w:World}{size:Nat}{R:α→List Value→Prop}{a:Option Addr}{n cap:Nat}{xs:List α}(h:Qqa M w size R (Qv a n cap) xs)(k:Nat)(hk:k≤n):
 Qqa M w size R (Qv a k cap) (xs.take k):=by
 obtain⟨css,hs,hl,hR⟩:=h
 have hkl:k≤css.length:=by
  rcases hs with⟨⟨_,hv⟩,rfl⟩|⟨b',o',cap',hv,_⟩
  ·simp at hv;omega
  ·simp at hv;omega
 refine⟨css.take k,?_,by simp[hl],fun i x cs hi hc=>?_⟩
 ·rcases hs with⟨⟨_,hv⟩,rfl⟩|⟨b',o',cap',hv,hT,hb,hlc,hm,hc⟩
  ·simp only[Yz] at hv;obtain⟨rfl,rfl,rfl⟩:=hv;obtain rfl:k=0:=by omega
   exact .inl ⟨⟨_,rfl⟩,rfl⟩
  ·simp only[Yz] at hv;obtain⟨rfl,rfl,rfl⟩:=hv;refine .inr ⟨b',o',cap,by simp[Ka hkl],hT,hb,by simp;omega,hm,fun i cs hi=>?_⟩;rw[List.getElem?_take] at hi
   split at hi
   ·exact hc i cs hi
   ·cases hi
 ·rw[List.getElem?_take] at hi hc
  split at hi
  ·rename_i hlt
   rw[if_pos hlt] at hc;exact hR i x cs hi hc
  ·cases hi
theorem Uqr{M:Nat→Prop}{w:World}{arr:Array Value}{e:TypeId}{size g n c:Nat}(css:List (List Value))(hg:g=w.heap.size)(hT:¬M w.heap.size)(ha:arr.toList=css.flatten)(hs:∀cs∈css,cs.length=size)(hn:n=css.length)(hc:n≤c)(hm:c≤maxLen):
 Qz0 M (w.alloc (.cells arr e)) size (Qv (some ⟨g,0,none⟩) n c) css:=by
 subst hg;subst hn;refine .inr ⟨w.heap.size,0,c,rfl,hT,by simp,hc,hm,fun i cs hi=>⟨hs cs (Yk hi),fun j u hu=>?_⟩⟩;have:=Jwc css hs i cs hi j u hu;rw[←ha] at this;simpa using this
theorem Qqa.new{α:Type}{M:Nat→Prop}{w:World}{arr:Array Value}{e:TypeId}{size g n c:Nat}{R:α→List Value→Prop}{xs:List α}(css:List (List Value))(hg:g=w.heap.size)(hT:¬M w.heap.size)(ha:arr.toList=css.flatten)(hs:∀cs∈css,cs.length=size)
 (hn:n=css.length)(hc:n≤c)(hm:c≤maxLen)(hl:css.length=xs.length)(hR:∀(i:Nat) (x:α) (cs:List Value),xs[i]?=some x→css[i]?=some cs→R x cs):
 Qqa M (w.alloc (.cells arr e)) size R (Qv (some ⟨g,0,none⟩) n c) xs:=⟨css,Uqr css hg hT ha hs hn hc hm,hl,hR⟩
theorem Jq2{W w1:World}(hb:Below W.heap.size W w1):(∀b o,b<W.heap.size→w1.cell? ⟨b,o,none⟩=W.cell? ⟨b,o,none⟩)∧(∀b o,b<W.heap.size→w1.frozen? ⟨b,o,none⟩=W.frozen? ⟨b,o,none⟩)∧W.heap.size≤w1.heap.size:=
 ⟨fun b o h=>hb.cell (p:=⟨b,o,none⟩) h,fun b o h=>hb.frozen (p:=⟨b,o,none⟩) h,hb.size⟩
theorem Jva(size:Nat):∀(css:List (List Value)),(∀cs∈css,cs.length=size)→∀j u,css.flatten[j]?=some u→∃i cs r,css[i]?=some cs∧cs[r]?=some u∧j=i*size+r
 |[],_,j,u,h=>by simp at h
 |c::css,hs,j,u,h=>by
  have hc:=hs c (Zv ..);rw[Yr] at h;by_cases hj:j<c.length
  ·rw[Jv hj] at h;exact⟨0,c,j,rfl,h,by simp⟩
  ·rw[Jj (by omega)] at h;obtain⟨i,cs,r,h1,h2,h3⟩:=Jva size css (fun x hx=>hs x (Zl _ hx)) _ u h;exact⟨i+1,cs,r,by simpa using h1,h2,by rw[Nat.add_mul];omega⟩
theorem Qxl(size:Nat):∀(css:List (List Value)),(∀cs∈css,cs.length=size)→css.flatten.length=css.length*size
 |[],_=>by simp
 |c::css,hs=>by
  have:=Qxl size css fun x hx=>hs x (Zl _ hx);rw[Yr,Zr,this,hs c (Zv ..),Zb,Nat.succ_mul];omega
theorem Jz3{w:World}{b o size:Nat}{css:List (List Value)}(h:∀i cs,css[i]?=some cs→cs.length=size∧Qqr w b (o+i*size) cs):∀j u,css.flatten[j]?=some u→w.cell? ((⟨b,o,none⟩:Addr).add j)=some u:=by
 intro j u hu;obtain⟨i,cs,r,h1,h2,rfl⟩:=Jva size css (fun cs h'=>let⟨i,hi⟩:=Kx.1 h';(h i cs hi).1) j u hu;rw[Addr.add_lit];have:=(h i cs h1).2 r u h2
 rwa [Nat.add_assoc] at this
def Qqf{α:Type}(lo:Nat)(w:World)(e:TypeId)(size:Nat)(R:α→List Value→Prop)(v:Value)(xs:List α):Prop:=
 ∃css:List (List Value),w.ownsRow lo e size v css.length css.flatten∧css.length=xs.length∧(∀cs∈css,cs.length=size)∧∀(i:Nat) (x:α) (cs:List Value),xs[i]?=some x→css[i]?=some cs→R x cs
theorem Qqf.nil{α:Type}(lo:Nat)(w:World)(e:TypeId)(size:Nat)(R:α→List Value→Prop):Qqf lo w e size R () ([]:List α):=
 ⟨[],World.ownsRow_nil ..,rfl,by simp,by simp⟩
theorem Qqf.rows{α:Type}{lo:Nat}{w:World}{e:TypeId}{size:Nat}{R:α→List Value→Prop}{v:Value}{xs:List α}{M:Nat→Prop}(h:Qqf lo w e size R v xs)(hM:∀k,lo≤k→k<w.heap.size→¬M k):Qqa M w size R v xs:=
 let⟨css,ho,hl,hs,hR⟩:=h
 ⟨css,Yjx ho hs hM,hl,hR⟩
theorem Qqf.shape{α:Type}{lo:Nat}{w:World}{e:TypeId}{size:Nat}{R:α→List Value→Prop}{v:Value}{xs:List α}(h:Qqf lo w e size R v xs):∃a cap,v=Qv a xs.length cap∧xs.length≤maxLen:=
 (h.rows (M:=fun _=>False) fun _ _ _=>id).shape
theorem Qqf.keep{α:Type}{lo:Nat}{w w':World}{e:TypeId}{size:Nat}{R R':α→List Value→Prop}{v:Value}{xs:List α}{M:Nat→Prop}(h:Qqf lo w e size R v xs)(k:Qqb M w w')(hM:∀k,lo≤k→k<w.heap.size→¬M k)(hr:∀x∈xs,∀cs,R x cs→R' x cs):Qqf lo w' e size R' v xs:=by
 obtain⟨css,⟨h1,h2⟩,hl,hs,hR⟩:=h;refine⟨css,⟨h1,?_⟩,hl,hs,fun i x cs hi hc=>hr x (Yk hi) cs (hR i x cs hi hc)⟩
 rcases h2 with h2|⟨g,cap,cur,hv,hg,hh,rest⟩
 ·exact .inl h2
 ·have hlt:=(Zq.1 hh).1;exact .inr ⟨g,cap,cur,hv,hg,by rw[k.block g hlt (hM g hg hlt)];exact hh,rest⟩
structure Val where
 kind:Int
 int:Int
 text:ByteArray
structure Col where
 name:ByteArray
 type:Int
 notNull:Bool
 key:Bool
structure Sch where
 name:ByteArray
 cols:List Col
structure Frm where
 name:ByteArray
 strict:Bool
 cols:List Col
mutual
inductive Ex where
 |mk(kind op:Int)(no:Bool)(val:Val)(table name:ByteArray)(args:List Ex)(sub:List Qu)
inductive Qu where
 |mk(star:Bool)(items:List Ex)(frm:ByteArray)(whr:List Ex)
end
def Ex.kind:Ex→Int| .mk k _ _ _ _ _ _ _=>k
def Ex.op:Ex→Int| .mk _ o _ _ _ _ _ _=>o
def Ex.no:Ex→Bool| .mk _ _ n _ _ _ _ _=>n
def Ex.val:Ex→Val| .mk _ _ _ v _ _ _ _=>v
def Ex.table:Ex→ByteArray| .mk _ _ _ _ t _ _ _=>t
def Ex.name:Ex→ByteArray| .mk _ _ _ _ _ n _ _=>n
def Ex.args:Ex→List Ex| .mk _ _ _ _ _ _ a _=>a
def Ex.sub:Ex→List Qu| .mk _ _ _ _ _ _ _ s=>s
def Qu.star:Qu→Bool| .mk s _ _ _=>s
def Qu.items:Qu→List Ex| .mk _ i _ _=>i
def Qu.frm:Qu→ByteArray| .mk _ _ f _=>f
def Qu.whr:Qu→List Ex| .mk _ _ _ w=>w
theorem Ex.ind_aux{P:Ex→Prop}(h:∀e:Ex,(∀a∈e.args,P a)→(∀q∈e.sub,(∀x∈q.items,P x)∧(∀x∈q.whr,P x))→P e):∀(n:Nat) (e:Ex),SizeOf.sizeOf e≤n→P e:=by
 intro n
 induction n with
 |zero=>intro e he;cases e;simp at he
 |succ n ih=>
  intro e he
  cases e with
  |mk k o no v t nm args sub=>
   simp only[Ex.mk.sizeOf_spec] at he;refine h _ (fun a ha=>ih a ?_) (fun q hq=>⟨fun x hx=>ih x ?_,fun x hx=>ih x ?_⟩)
   ·have:=Kl (show a∈args from ha);omega
   ·have h1:=Kl (show q∈sub from hq)
    cases q with
    |mk s it f wh=>
     have h2:=Kl (show x∈it from hx);simp only[Qu.mk.sizeOf_spec] at h1;omega
   ·have h1:=Kl (show q∈sub from hq)
    cases q with
    |mk s it f wh=>
     have h2:=Kl (show x∈wh from hx);simp only[Qu.mk.sizeOf_spec] at h1;omega
theorem Ex.ind{P:Ex→Prop}(h:∀e:Ex,(∀a∈e.args,P a)→(∀q∈e.sub,(∀x∈q.items,P x)∧(∀x∈q.whr,P x))→P e)(e:Ex):P e:=Ex.ind_aux h _ e (Zz _)
def Yxi(v:Val):List Value:=[.int .i64 v.kind,.int .i64 v.int,.string v.text]
def Qwg(c:Col):List Value:=[.string c.name,.int .i64 c.type,.bool c.notNull,.bool c.key]
def Uv4(c:Col)(cs:List Value):Prop:=cs=Qwg c
def Kj6(v:Val)(cs:List Value):Prop:=cs=Yxi v
def Kj7(n:Int)(cs:List Value):Prop:=cs=[.int .i64 n]
def Qjz(s:ByteArray)(cs:List Value):Prop:=cs=[.string s]
def Qq1(M:Nat→Prop)(w:World)(v:Value)(l:List Col):Prop:=Qqa M w 4 Uv4 v l
def Jje(M:Nat→Prop)(w:World)(s:Sch)(cs:List Value):Prop:=∃vc,cs=[.string s.name,vc]∧Qq1 M w vc s.cols
def Qvb(M:Nat→Prop)(w:World)(f:Frm)(cs:List Value):Prop:=∃vc a n c,cs=[.string f.name,.bool f.strict,vc,Qv a n c]∧Qq1 M w vc f.cols
def Yjy(M:Nat→Prop)(w:World)(s:Sch)(cs:List Value):Prop:=∃vc n a l c,cs=[.string s.name,vc,.int .i64 n,Qv a l c]∧Qq1 M w vc s.cols
def Qqz(M:Nat→Prop)(w:World)(v:Value)(l:List Frm):Prop:=Qqa M w 4 (Qvb M w) v l
def Qw5(M:Nat→Prop)(w:World)(v:Value)(l:List Sch):Prop:=Qqa M w 4 (Yjy M w) v l
def Qjt(M:Nat→Prop)(w:World)(v:Value)(l:List Sch):Prop:=Qqa M w 2 (Jje M w) v l
section
variable{M:Nat→Prop} {w w':World}
theorem Qq1.keep{v:Value}{l:List Col}(h:Qq1 M w v l)(k:Qqb M w w'):Qq1 M w' v l:=Qqa.map h k fun _ _ _ h=>h
theorem Jje.keep{s:Sch}{cs:List Value}(h:Jje M w s cs)(k:Qqb M w w'):Jje M w' s cs:=let⟨vc,a,b⟩:=h;⟨vc,a,b.keep k⟩
theorem Qvb.keep{s:Frm}{cs:List Value}(h:Qvb M w s cs)(k:Qqb M w w'):Qvb M w' s cs:=let⟨vc,x,n,c,a,b⟩:=h;⟨vc,x,n,c,a,b.keep k⟩
theorem Yjy.keep{s:Sch}{cs:List Value}(h:Yjy M w s cs)(k:Qqb M w w'):Yjy M w' s cs:=let⟨vc,n,x,l,c,a,b⟩:=h;⟨vc,n,x,l,c,a,b.keep k⟩
theorem Qqz.keep{v:Value}{l:List Frm}(h:Qqz M w v l)(k:Qqb M w w'):Qqz M w' v l:=Qqa.map h k fun _ _ _ h=>h.keep k
theorem Qw5.keep{v:Value}{l:List Sch}(h:Qw5 M w v l)(k:Qqb M w w'):Qw5 M w' v l:=Qqa.map h k fun _ _ _ h=>h.keep k
theorem Qjt.keep{v:Value}{l:List Sch}(h:Qjt M w v l)(k:Qqb M w w'):Qjt M w' v l:=Qqa.map h k fun _ _ _ h=>h.keep k
end
section
variable{M M':Nat→Prop} {w:World} (hM:∀k,k<w.heap.size→M' k→M k)
include hM
theorem Qq1.weak{v:Value}{l:List Col}(h:Qq1 M w v l):Qq1 M' w v l:=Qqa.weak h hM fun _ _ _ h=>h
theorem Jje.weak{s:Sch}{cs:List Value}(h:Jje M w s cs):Jje M' w s cs:=let⟨vc,a,b⟩:=h;⟨vc,a,b.weak hM⟩
theorem Qvb.weak{s:Frm}{cs:List Value}(h:Qvb M w s cs):Qvb M' w s cs:=let⟨vc,x,n,c,a,b⟩:=h;⟨vc,x,n,c,a,b.weak hM⟩
theorem Yjy.weak{s:Sch}{cs:List Value}(h:Yjy M w s cs):Yjy M' w s cs:=let⟨vc,n,x,l,c,a,b⟩:=h;⟨vc,n,x,l,c,a,b.weak hM⟩
theorem Qqz.weak{v:Value}{l:List Frm}(h:Qqz M w v l):Qqz M' w v l:=Qqa.weak h hM fun _ _ _ h=>h.weak hM
theorem Qw5.weak{v:Value}{l:List Sch}(h:Qw5 M w v l):Qw5 M' w v l:=Qqa.weak h hM fun _ _ _ h=>h.weak hM
theorem Qjt.weak{v:Value}{l:List Sch}(h:Qjt M w v l):Qjt M' w v l:=Qqa.weak h hM fun _ _ _ h=>h.weak hM
end
def Qjg(k o:Int)(no:Bool)(v:Val)(t nm:ByteArray)(va vs:Value):List Value:=
 [.int .i64 k,.int .i64 o,.bool no,.int .i64 v.kind,.int .i64 v.int,.string v.text,.string t,.string nm,va,vs]
mutual
def EC(M:Nat→Prop)(w:World):Ex→List Value→Prop
 | .mk k o no v t nm args sub,cs=>∃va vs,cs=Qjg k o no v t nm va vs∧(∃css,Qz0 M w 10 va css∧ECs M w args css)∧(∃css,Qz0 M w 4 vs css∧QCs M w sub css)
def QC(M:Nat→Prop)(w:World):Qu→List Value→Prop
 | .mk s items f whr,cs=>∃vi vw,cs=[.bool s,vi,.string f,vw]∧(∃css,Qz0 M w 10 vi css∧ECs M w items css)∧(∃css,Qz0 M w 10 vw css∧ECs M w whr css)
def ECs(M:Nat→Prop)(w:World):List Ex→List (List Value)→Prop
 |[],css=>css=[]
 |e::es,css=>∃c cs,css=c::cs∧EC M w e c∧ECs M w es cs
def QCs(M:Nat→Prop)(w:World):List Qu→List (List Value)→Prop
 |[],css=>css=[]
 |e::es,css=>∃c cs,css=c::cs∧QC M w e c∧QCs M w es cs
end
theorem Jvw(M:Nat→Prop)(w:World):∀(es:List Ex) (css:List (List Value)),ECs M w es css↔css.length=es.length∧∀(i:Nat) (x:Ex) (cs:List Value),es[i]?=some x→css[i]?=some cs→EC M w x cs
 |[],css=>by simp[ECs]
 |e::es,css=>by
  constructor
  ·rintro⟨c,cs,rfl,h1,h2⟩;obtain⟨hl,hh⟩:=(Jvw M w es cs).1 h2;refine⟨by simp[hl],fun i x d hi hd=>?_⟩
   cases i with
   |zero=>simp at hi hd;subst hi;subst hd;exact h1
   |succ i=>exact hh i x d (by simpa using hi) (by simpa using hd)
  ·rintro⟨hl,hh⟩
   match css,hl with
   |c::cs,hl=>
    refine⟨c,cs,rfl,hh 0 e c rfl rfl,(Jvw M w es cs).2 ⟨by simpa using hl,fun i x d hi hd=>hh (i+1) x d (by simpa using hi) (by simpa using hd)⟩⟩
theorem Yjz(M:Nat→Prop)(w:World):∀(es:List Qu) (css:List (List Value)),QCs M w es css↔css.length=es.length∧∀(i:Nat) (x:Qu) (cs:List Value),es[i]?=some x→css[i]?=some cs→QC M w x cs
 |[],css=>by simp[QCs]
 |e::es,css=>by
  constructor
  ·rintro⟨c,cs,rfl,h1,h2⟩;obtain⟨hl,hh⟩:=(Yjz M w es cs).1 h2;refine⟨by simp[hl],fun i x d hi hd=>?_⟩
   cases i with
   |zero=>simp at hi hd;subst hi;subst hd;exact h1
   |succ i=>exact hh i x d (by simpa using hi) (by simpa using hd)
  ·rintro⟨hl,hh⟩
   match css,hl with
   |c::cs,hl=>
    refine⟨c,cs,rfl,hh 0 e c rfl rfl,(Yjz M w es cs).2 ⟨by simpa using hl,fun i x d hi hd=>hh (i+1) x d (by simpa using hi) (by simpa using hd)⟩⟩
def Qqq(M:Nat→Prop)(w:World)(v:Value)(l:List Ex):Prop:=Qqa M w 10 (EC M w) v l
def Qz1(M:Nat→Prop)(w:World)(v:Value)(l:List Qu):Prop:=Qqa M w 4 (QC M w) v l
theorem Qji(M:Nat→Prop)(w:World)(e:Ex)(cs:List Value):EC M w e cs↔∃va vs,cs=Qjg e.kind e.op e.no e.val e.table e.name va vs∧Qqq M w va e.args∧Qz1 M w vs e.sub:=by
 cases e with
 |mk k o no v t nm args sub=>
  simp only[EC,Jvw,Yjz];rfl
theorem Qxg(M:Nat→Prop)(w:World)(q:Qu)(cs:List Value):QC M w q cs↔∃vi vw,cs=[.bool q.star,vi,.string q.frm,vw]∧Qqq M w vi q.items∧Qqq M w vw q.whr:=by
 cases q with
 |mk s it f wh=>
  simp only[QC,Jvw];rfl
theorem EC.keep{M:Nat→Prop}{w w':World}(k:Qqb M w w')(e:Ex):∀cs,EC M w e cs→EC M w' e cs:=by
 refine Ex.ind (P:=fun e=>∀cs,EC M w e cs→EC M w' e cs) (fun e ha hq cs h=>?_) e;obtain⟨va,vs,h1,h2,h3⟩:=(Qji ..).1 h;refine(Qji ..).2 ⟨va,vs,h1,Qqa.map h2 k fun x hx cs hc=>ha x hx cs hc,Qqa.map h3 k fun q hqm cs hc=>?_⟩;obtain⟨vi,vw,g1,g2,g3⟩:=(Qxg ..).1 hc;exact(Qxg ..).2 ⟨vi,vw,g1,Qqa.map g2 k fun x hx cs hc=>(hq q hqm).1 x hx cs hc,Qqa.map g3 k fun x hx cs hc=>(hq q hqm).2 x hx cs hc⟩
theorem Qqq.keep{M:Nat→Prop}{w w':World}{v:Value}{l:List Ex}(h:Qqq M w v l)(k:Qqb M w w'):Qqq M w' v l:=Qqa.map h k fun x _ cs hc=>EC.keep k x cs hc
theorem QC.keep{M:Nat→Prop}{w w':World}(k:Qqb M w w'){q:Qu}{cs:List Value}(h:QC M w q cs):QC M w' q cs:=by
 obtain⟨vi,vw,g1,g2,g3⟩:=(Qxg ..).1 h;exact(Qxg ..).2 ⟨vi,vw,g1,g2.keep k,g3.keep k⟩
theorem Qz1.keep{M:Nat→Prop}{w w':World}{v:Value}{l:List Qu}(h:Qz1 M w v l)(k:Qqb M w w'):Qz1 M w' v l:=Qqa.map h k fun _ _ _ hc=>QC.keep k hc
theorem EC.weak{M M':Nat→Prop}{w:World}(hM:∀k,k<w.heap.size→M' k→M k)(e:Ex):∀cs,EC M w e cs→EC M' w e cs:=by
 refine Ex.ind (P:=fun e=>∀cs,EC M w e cs→EC M' w e cs) (fun e ha hq cs h=>?_) e;obtain⟨va,vs,h1,h2,h3⟩:=(Qji ..).1 h;refine(Qji ..).2 ⟨va,vs,h1,Qqa.weak h2 hM fun x hx cs hc=>ha x hx cs hc,Qqa.weak h3 hM fun q hqm cs hc=>?_⟩;obtain⟨vi,vw,g1,g2,g3⟩:=(Qxg ..).1 hc;exact(Qxg ..).2 ⟨vi,vw,g1,Qqa.weak g2 hM fun x hx cs hc=>(hq q hqm).1 x hx cs hc,Qqa.weak g3 hM fun x hx cs hc=>(hq q hqm).2 x hx cs hc⟩
theorem Qqq.weak{M M':Nat→Prop}{w:World}(hM:∀k,k<w.heap.size→M' k→M k){v:Value}{l:List Ex}(h:Qqq M w v l):Qqq M' w v l:=Qqa.weak h hM fun x _ cs hc=>EC.weak hM x cs hc
theorem QC.weak{M M':Nat→Prop}{w:World}(hM:∀k,k<w.heap.size→M' k→M k){q:Qu}{cs:List Value}(h:QC M w q cs):QC M' w q cs:=by
 obtain⟨vi,vw,g1,g2,g3⟩:=(Qxg ..).1 h;exact(Qxg ..).2 ⟨vi,vw,g1,g2.weak hM,g3.weak hM⟩
theorem Qz1.weak{M M':Nat→Prop}{w:World}(hM:∀k,k<w.heap.size→M' k→M k){v:Value}{l:List Qu}(h:Qz1 M w v l):Qz1 M' w v l:=Qqa.weak h hM fun _ _ _ hc=>QC.weak hM hc
theorem Qy4{M:Nat→Prop}{w:World}{arr:Array Value}{e:TypeId}{g n c:Nat}(xs:List Col)(hg:g=w.heap.size)(hT:¬M w.heap.size)(ha:arr.toList=(xs.map Qwg).flatten)(hn:n=xs.length)(hc:n≤c)(hm:c≤maxLen):
 Qq1 M (w.alloc (.cells arr e)) (Qv (some ⟨g,0,none⟩) n c) xs:=by
 refine Qqa.new (xs.map Qwg) hg hT ha (fun cs h=>?_) (by simp[hn]) hc hm (by simp) (fun i x cs hi hc=>?_)
 ·obtain⟨x,_,rfl⟩:=List.mem_map.1 h;rfl
 ·simp only[Yi,hi,Option.map_some,Ym] at hc;exact hc.symm
theorem Qq6{α:Type}{M:Nat→Prop}{w:World}{arr:Array Value}{e:TypeId}{size g:Nat}{R:α→List Value→Prop}(x:α)(hg:g=w.heap.size)(hT:¬M w.heap.size)(hs:arr.toList.length=size)(hR:R x arr.toList):
 Qqa M (w.alloc (.cells arr e)) size R (Qv (some ⟨g,0,none⟩) 1 1) [x]:=
 Qqa.new [arr.toList] hg hT (by simp) (by simpa using hs) rfl (Zz _) (by unfold maxLen;omega) rfl fun i y cs hi hc=>by
  match i with
  |0=>simp at hi hc;subst hi;subst hc;exact hR
  |i+1=>simp at hi
def Qq4(v:Value)(k:Nat):Prop:=v.ownBlock=some k
theorem Qqb.grownBy{w w':World}{v:Value}(hg:w.grownBy w' v.ownBlock):Qqb (Qq4 v) w w':=
 (Qqb.refl _ w).grown hg fun _ h _=>h
theorem Qqf.lt{α:Type}{lo:Nat}{w:World}{e:TypeId}{size:Nat}{R:α→List Value→Prop}{v:Value}{xs:List α}(h:Qqf lo w e size R v xs){k:Nat}(hk:Qq4 v k):lo≤k∧k<w.heap.size:=
 let⟨_,h1,_⟩:=h;h1.lt k hk
theorem Qqf.imp{α:Type}{lo:Nat}{w:World}{e:TypeId}{size:Nat}{R R':α→List Value→Prop}{v:Value}{xs:List α}(h:Qqf lo w e size R v xs)(hr:∀x∈xs,∀cs,R x cs→R' x cs):Qqf lo w e size R' v xs:=
 let⟨css,h1,h2,h3,h4⟩:=h;⟨css,h1,h2,h3,fun i x cs hi hc=>hr x (Yk hi) cs (h4 i x cs hi hc)⟩
theorem Qqf.lower{α:Type}{lo lo':Nat}{w:World}{e:TypeId}{size:Nat}{R:α→List Value→Prop}{v:Value}{xs:List α}(h:Qqf lo w e size R v xs)(hlo:lo'≤lo):Qqf lo' w e size R v xs:=by
 obtain⟨css,⟨g1,g2⟩,h2,h3,h4⟩:=h;refine⟨css,⟨g1,?_⟩,h2,h3,h4⟩
 rcases g2 with g2|⟨g,cap,cur,hv,hg,r⟩
 ·exact .inl g2
 ·exact .inr ⟨g,cap,cur,hv,by omega,r⟩
theorem Qqf.kept{α:Type}{lo:Nat}{w w':World}{e:TypeId}{size:Nat}{R R':α→List Value→Prop}{v:Value}{xs:List α}{M:Nat→Prop}(h:Qqf lo w e size R v xs)(k:Qqb M w w')(hM:∀k,Qq4 v k→¬M k)(hr:∀x∈xs,∀cs,R x cs→R' x cs):Qqf lo w' e size R' v xs:=by
 obtain⟨css,⟨h1,h2⟩,hl,hs,hR⟩:=h;refine⟨css,⟨h1,?_⟩,hl,hs,fun i x cs hi hc=>hr x (Yk hi) cs (hR i x cs hi hc)⟩
 rcases h2 with h2|⟨g,cap,cur,hv,hg,hh,rest⟩
 ·exact .inl h2
 ·have hlt:=(Zq.1 hh).1;exact .inr ⟨g,cap,cur,hv,hg,by rw[k.block g hlt (hM g (by rw[hv];rfl))];exact hh,rest⟩
theorem Qje{P:Program}{w:World}{ops:Array Oper}{rest:List Oper}{o:Oper}{a:Act}{Q:Exit→Act→World→Prop}(hgd:o.guard=none)(s x:Operand)(t:TypeId)
 (ho:o.op=.call {callee:=.builtin .append,args:=#[s,x],argTypes:=#[t,t]})
 (e:TypeId)(z:Value)(size bytes:Nat)(ht:P.underlying t=some (.slice e))(hinfo:(P.info? e).map (fun i=>(i.zero,i.size,i.bytes))=some (some z,size,bytes))(hzs:z.cells.size=size)(hsz:0<size)
 {α:Type}{R:α→List Value→Prop}{M:Nat→Prop}(lo:Nat)(v src:Value)(xs ys:List α)(hs:a.eval s=v)(hx:a.eval x=src)(hown:Qqf lo w e size R v xs)(hsrc:Qqa M w size R src ys)
 (h1:∀y∈ys,∀cs,R y cs→∀u∈cs,u.oneCell'=true)(hN:(xs.length+ys.length)*bytes≤140737488355328)(hN2:xs.length+ys.length≤maxLen)(hlo:lo≤w.heap.size)
 (h:∀v' w',Qqf lo w' e size R v' (xs++ys)→Qqb (Qq4 v) w w'→(ys≠[]→∀k,Qq4 v' k→Qq4 v k∨k=w.heap.size)→wpList P ops Q rest (a.put o.dst v') w'):wpList P ops Q (o::rest) a w:=by
 obtain⟨i0,hi0,hz0,hz1,hz2⟩:=info_parts hinfo;obtain⟨css,hro,hl,hcs,hR⟩:=hown;obtain⟨dss,hds,hdl,hRd⟩:=hsrc
 have fin:∀v' w',w'.ownsRow lo e size v' (css.length+dss.length) (css.flatten++dss.flatten)→(∀ds∈dss,ds.length=size)→Qqf lo w' e size R v' (xs++ys):=by
  intro v' w' how hdsz;refine⟨css++dss,by simpa using how,by simp[hl,hdl],fun cs hc=>?_,fun i y cs hi hc=>?_⟩
  ·rcases Yf.1 hc with hc|hc
   ·exact hcs cs hc
   ·exact hdsz cs hc
  ·by_cases hlt:i<xs.length
   ·rw[Jv hlt] at hi;rw[Jv (by omega)] at hc;exact hR i y cs hi hc
   ·rw[Jj (by omega)] at hi;rw[Jj (by omega),hl] at hc;exact hRd _ y cs hi hc
 rcases hds with⟨⟨A,rfl⟩,hd0⟩|⟨b,of,cap,rfl,hT,hb,hlc,hm,hc⟩
 ·subst hd0;have hy0:ys=[]:=Yd (by simpa using hdl.symm);subst hy0;rcases A with _|ad
  ·refine wpList_append_own_none hgd s x t ho lo e i0 size ht hi0 v css.length css.flatten hs hro hx (h v w (fin v w (by simpa using hro) (by simp)) (Qqb.refl _ _) (fun hy=>absurd rfl hy))
  ·refine wpList_append_own w hgd s x t ho lo e i0 z size bytes ht hi0 hz0 hz1 hz2 hzs hsz v css.length css.flatten hs hro ad 0 0 [] hx (by simp) (by simp) (by simp) (by rw[hl];simpa using hN2) (by rw[hl];simpa using hN) hlo ?_;intro v' w' how hg _;exact h v' w' (fin v' w' (by simpa using how) (by simp)) (Qqb.grownBy hg) (fun hy=>absurd rfl hy)
 ·have hdsz:∀ds∈dss,ds.length=size:=fun ds h'=>let⟨i,hi⟩:=Kx.1 h';(hc i ds hi).1
  have hone:∀u∈dss.flatten,u.oneCell'=true:=by
   intro u hu;obtain⟨ds,hds,hu⟩:=List.mem_flatten.1 hu;obtain⟨i,hi⟩:=Kx.1 hds;have hlt:i<ys.length:=by rw[←hdl];exact(Yq.1 hi).1
   exact h1 _ (Yo hlt) ds (hRd i _ ds (Zg hlt) hi) u hu
  by_cases hm0:0<dss.length
  ·refine wpList_append_lies w hgd s x t ho lo e i0 z size bytes ht hi0 hz0 hz1 hz2 hzs hsz v css.length css.flatten hs hro ⟨b,of,none⟩ dss.length cap dss.flatten hx (Qxl size dss hdsz) (Jz3 hc) hone hm0 (by rw[hl,hdl];exact hN2) (by rw[hl,hdl];exact hN) hlo w.heap.size rfl ?_;intro g cp w' how hg hat _
   exact h _ w' (fin _ w' how hdsz) (Qqb.grownBy hg) fun _ k hk=>by
    have hk':g=k:=by simpa[Qq4,Value.ownBlock] using hk
    subst hk';exact hat
  ·have hd0:dss=[]:=Yd (by omega);refine wpList_append_own w hgd s x t ho lo e i0 z size bytes ht hi0 hz0 hz1 hz2 hzs hsz v css.length css.flatten hs hro ⟨b,of,none⟩ dss.length cap dss.flatten hx (Qxl size dss hdsz) (Jz3 hc) hone (by rw[hl,hdl];exact hN2) (by rw[hl,hdl];exact hN) hlo ?_;intro v' w' how hg _;exact h v' w' (fin v' w' how hdsz) (Qqb.grownBy hg) fun hy=>absurd (Yd (by rw[←hdl,hd0];rfl)) hy
def Qjl(s:Nat)(v:Value)(k:Nat):Prop:=k<s∨Qq4 v k
def Old(s:Nat)(k:Nat):Prop:=k<s
structure Qx8{α:Type}(R:(Nat→Prop)→World→α→List Value→Prop):Prop where
 keep:∀{M w w' x cs},R M w x cs→Qqb M w w'→R M w' x cs
 weak:∀{M M':Nat→Prop} {w x cs},R M w x cs→(∀k,k<w.heap.size→M' k→M k)→R M' w x cs
 one:∀{M w x cs},R M w x cs→∀u∈cs,u.oneCell'=true
theorem Qyo{w w':World}(h:Qqb (Qq4 ()) w w'):Below w.heap.size w w':=h.toBelow (Zz _) fun k _ h=>by cases h
def Qqn{α:Type}(lo:Nat)(w:World)(e:TypeId)(size:Nat)(R:(Nat→Prop)→World→α→List Value→Prop)(v:Value)(xs:List α):Prop:=Qqf lo w e size (R (Qjl lo v) w) v xs
section
variable{α:Type} {lo:Nat} {w w':World} {e:TypeId} {size:Nat} {R:(Nat→Prop)→World→α→List Value→Prop} {v:Value} {xs:List α}
theorem Qqn.nil(lo:Nat)(w:World)(e:TypeId)(size:Nat)(R:(Nat→Prop)→World→α→List Value→Prop):Qqn lo w e size R () ([]:List α):=Qqf.nil ..
theorem Qqn.keep(S:Qx8 R){M:Nat→Prop}(h:Qqn lo w e size R v xs)(k:Qqb M w w')(hM:∀k,lo≤k→k<w.heap.size→¬M k):Qqn lo w' e size R v xs:=
 Qqf.kept h k (fun b hb=>hM b (h.lt hb).1 (h.lt hb).2) fun _ _ _ hc=>S.keep hc (k.weak fun b hb hMb=>Classical.byContradiction fun hn=>hM b (Nat.le_of_not_lt fun hl=>hn (.inl hl)) hb hMb)
theorem Qqn.bel(S:Qx8 R)(h:Qqn lo w e size R v xs)(k:Below w.heap.size w w'):Qqn lo w' e size R v xs:=h.keep S (M:=fun _=>False) (.bel k) fun _ _ _=>id
theorem Qqn.rows(S:Qx8 R)(h:Qqn lo w e size R v xs):Qqa (Old lo) w size (R (Old lo) w) v xs:=
 (Qqf.imp h fun _ _ _ hc=>S.weak hc fun _ _ hk=>.inl hk).rows fun k h1 _ h2=>by unfold Old at h2;omega
theorem Qqn.shape(h:Qqn lo w e size R v xs):∃a cap,v=Qv a xs.length cap∧xs.length≤maxLen:=Qqf.shape h
theorem Qqn.of(S:Qx8 R){lo':Nat}{M:Nat→Prop}(h:Qqf lo' w e size (R M w) v xs)(hlo:lo≤lo')(hM:∀k,k<w.heap.size→Qjl lo v k→M k):Qqn lo w e size R v xs:=
 (h.imp fun _ _ _ hc=>S.weak hc hM).lower hlo
theorem Qqn.snoc(S:Qx8 R){v':Value}{arr:Array Value}{t:TypeId}{x:α}(h:Qqf lo w' e size (R (Qjl lo v) w) v' (xs++[x]))(hk:Qqb (Qq4 v) (w.alloc (.cells arr t)) w')(hat:∀k,Qq4 v' k→Qq4 v k∨k=(w.alloc (.cells arr t)).heap.size):
 Qqn lo w' e size R v' (xs++[x]):=by
 have k1:Qqb (Qjl lo v) w w':=((Qqb.refl _ w).alloc _).then hk fun _ _ h=>.inr h;refine Qqf.imp h fun y _ cs hc=>S.weak (S.keep (S.weak (M':=fun k=>Qjl lo v k∨w.heap.size≤k) hc fun k hk hh=>hh.resolve_right (by omega)) (k1.weak fun k _ h=>.inl h)) fun k _ hk'=>?_;rcases hk' with hk'|hk'
 ·exact .inl (.inl hk')
 ·rcases hat k hk' with h|h
  ·exact .inl (.inr h)
  ·exact .inr (by rw[h];simp)
theorem Qzj{P:Program}{ops:Array Oper}{rest:List Oper}{o:Oper}{a:Act}{Q:Exit→Act→World→Prop}(S:Qx8 R)(hgd:o.guard=none)(s x:Operand)(t:TypeId)
 (ho:o.op=.call {callee:=.builtin .append,args:=#[s,x],argTypes:=#[t,t]})
 (e:TypeId)(z:Value)(size bytes:Nat)(ht:P.underlying t=some (.slice e))(hinfo:(P.info? e).map (fun i=>(i.zero,i.size,i.bytes))=some (some z,size,bytes))(hzs:z.cells.size=size)(hsz:0<size)
 (lo:Nat)(v:Value)(b:Nat)(arr:Array Value)(xs:List α)(y:α)(hs:a.eval s=v)(hx:a.eval x=Qv (some ⟨b,0,none⟩) 1 1)(hb:b=w.heap.size)(hown:Qqn lo w e size R v xs)(hlen:arr.toList.length=size)(hy:R (Qjl lo v) w y arr.toList)
 (hN:(xs.length+1)*bytes≤140737488355328)(hN2:xs.length+1≤maxLen)(hlo:lo≤w.heap.size)
 (h:∀v' w',Qqn lo w' e size R v' (xs++[y])→Qqb (Qq4 v) w w'→wpList P ops Q rest (a.put o.dst v') w'):wpList P ops Q (o::rest) a (w.alloc (.cells arr e)):=by
 refine Qje hgd s x t ho e z size bytes ht hinfo hzs hsz (R:=R (Qjl lo v) w) (M:=fun _=>False) lo v _ xs [y] hs hx ?_ (Qq6 y hb id hlen hy) (fun _ _ cs hc=>S.one hc) (by simpa using hN) (by simpa using hN2) (by simp;omega) ?_
 ·exact Qqf.kept hown ((Qqb.refl (fun _=>False) w).alloc _) (fun _ _=>id) fun _ _ _ h=>h
 ·intro v' w' ho' hk hat;exact h v' w' (Qqn.snoc S ho' hk (hat (by simp))) (((Qqb.refl _ w).alloc _).trans hk)
end
end Go.Proofs.YtgepbohjmgaojaaGreatDoor
