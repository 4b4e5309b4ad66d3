/- Contracts of strings.Builder's WriteByte and WriteString at this translation, laid from the shelf's own. -/
import Derived.Test.YtgepbohjmgaojaaGreatDoorVSp
import Derived.Test.YtgepbohjmgaojaaGreatDoorVKS
import Derived.Lib.IndexAny
set_option linter.all false
set_option maxHeartbeats 4000000
set_option maxRecDepth 1000000
namespace Go.Proofs.YtgepbohjmgaojaaGreatDoor
open World renaming alloc→Qw
open Value renaming slice→Qv
open Go.Proofs.Tryz
open Lib(hid)
open Go.RowKit Go.Shelf
def Ux0:Go.Shelf.Ren:=⟨fun|166=>31|167=>103|240=>74|276=>115|n=>n,fun|0=>0|3=>3|4=>4|5=>5|9=>9|20=>20|37=>56|70=>90|72=>92|75=>95|80=>99|164=>177|n=>n,fun n=>n⟩
theorem Uwr:Go.Proofs.Lays.n167 prog Ux0:={
 mixed:=by kernel_rfl
 f167:=func103.trans (congrArg some (by kernel_rfl))
 f240:=func74.trans (congrArg some (by kernel_rfl))
 f276:=func115.trans (congrArg some (by kernel_rfl))
 t0:=underlying0
 a0:=Tryz.isAgg0
 z0:=Tryz.sizeOf0
 v0:=Tryz.zeroValue0
 t4:=underlying4
 a4:=Tryz.isAgg4
 z4:=Tryz.sizeOf4
 v4:=Tryz.zeroValue4
 t5:=underlying5
 a5:=Tryz.isAgg5
 z5:=Tryz.sizeOf5
 v5:=Tryz.zeroValue5
 t9:=underlying9
 a9:=Tryz.isAgg9
 z9:=Tryz.sizeOf9
 v9:=Tryz.zeroValue9
 t20:=underlying20
 a20:=Tryz.isAgg20
 z20:=Tryz.sizeOf20
 v20:=Tryz.zeroValue20
 t37:=underlying56
 a37:=Tryz.isAgg56
 z37:=Tryz.sizeOf56
 v37:=Tryz.zeroValue56
 t70:=underlying90
 a70:=Tryz.isAgg90
 z70:=Tryz.sizeOf90
 v70:=Tryz.zeroValue90
 t72:=underlying92
 a72:=Tryz.isAgg92
 z72:=Tryz.sizeOf92
 v72:=Tryz.zeroValue92
 t75:=underlying95
 a75:=Tryz.isAgg95
 z75:=Tryz.sizeOf95
 v75:=Tryz.zeroValue95
 t164:=underlying177
 a164:=Tryz.isAgg177
 z164:=Tryz.sizeOf177
 v164:=Tryz.zeroValue177
}
theorem Ux1:Builder.Extra prog Ux0:={sizeBuilder:=by kernel_rfl,liesBuilder:=by kernel_rfl,t5:=underlying5,a5:=Tryz.isAgg5,z5:=Tryz.sizeOf5,v5:=Tryz.zeroValue5,infoByte:=by kernel_rfl,cellsByte:=by kernel_rfl,sizeByte:=by kernel_rfl,neB5:=by decide}
def Jxb(B b:Nat)(l:List UInt8)(w:World):Prop:=Lib.IsBuilderF 92 5 B b (Lib.byteCells l) w
theorem Jxb.new{B b:Nat}{w:World}(hB:B≤b)(h:w.heap[b]?=some (.cells #[.pointer none,()] 92 (0,0))):Jxb B b [] w:=
 .inl ⟨hB,_,h,World.ownsRowF_nil _ _ _ _,by simp[Value.ownBlock]⟩
theorem Jxb.lo{B b:Nat}{l:List UInt8}{w:World}(h:Jxb B b l w):B≤w.heap.size:=by
 rcases h with h|h<;>exact Jt (Nat.lt_of_le_of_lt h.1 h.lt)
theorem Uja{w w':World}{B:Nat}{e:TypeId}{v:Value}{n:Nat}{xs:List Value}(h:w.ownsRowF B e 1 v n xs)(hb:Below w.heap.size w w'):w'.ownsRowF B e 1 v n xs:=by
 obtain⟨h1,h2⟩:=h;refine⟨h1,?_⟩
 rcases h2 with h2|⟨g,cap,cur,fz,hv,hg,hh,rest⟩
 ·exact .inl h2
 ·exact .inr ⟨g,cap,cur,fz,hv,hg,by rw[hb.block g (Zq.1 hh).1];exact hh,rest⟩
theorem Jxb.bel{B b:Nat}{l:List UInt8}{w w':World}(h:Jxb B b l w)(hb:Below w.heap.size w w'):Jxb B b l w':=by
 have step:∀p,Lib.BuilderAtF 92 5 B b p (Lib.byteCells l) w→Lib.BuilderAtF 92 5 B b p (Lib.byteCells l) w':=by
  rintro p ⟨h1,v,h2,h3,h4⟩;exact⟨h1,v,by rw[hb.block b (Zq.1 h2).1];exact h2,Uja h3 hb,h4⟩
 exact h.imp (step _) (step _)
theorem Jvi(B b:Nat)(l:List UInt8)(c:UInt8)(w:World)(h:Jxb B b l w)(hl:l.length+1≤140737488355328):
 Calls prog 103 #[.pointer (some ⟨b,0,none⟩),.int .u8 (c.toNat:Int)] w fun e w'=>e=.returned .nilIface∧Jxb B b (l++[c]) w'∧Below B w w':=by
 refine(Any.Builder_WriteByte_k Uwr Ux1 B b (Lib.byteCells l) (c.toNat:Int) w h (by rw[Lib.byteCells_length];exact hl) (Jxb.lo h)).mono ?_;rintro e w' ⟨he,h1,h2,_⟩;refine⟨he,.inr ?_,h2⟩;rw[Lib.byteCells,Ke];exact h1
theorem Ykb(B b:Nat)(l:List UInt8)(w:World)(h:Jxb B b l w):
 Calls prog 33 #[.pointer (some ⟨b,0,none⟩)] w fun e w'=>e=.returned (.string ⟨l.toArray⟩)∧Jxb B b l w'∧Below B w w':=by
 refine(Tryz.Builder_String_any_k B b l w h (Jxb.lo h)).mono ?_;rintro e w' ⟨he,h1,h2,_⟩;exact⟨he,h1,h2⟩
open Go.RowKit
theorem Yq9(a:Ex):Qqm (opX 3 0 false [a] [])=[Jxa]++Qz9 3 0 0 a:=by
 rw[Qwz (by decide)];unfold opW;rw[if_pos rfl,Yyi];rfl
theorem Yja(a:Ex):Qqm (opX 4 0 false [a] [])=[Jqq]++Qz9 4 0 0 a:=by
 rw[Qwz (by decide)];unfold opW;rw[if_neg (by decide),if_pos rfl,Yyi];rfl
theorem Yjb(o:Int)(a c:Ex):Qqm (opX 5 o false [a,c] [])=Qz9 5 o 0 a++[opS o]++Qz9 5 o 1 c:=by
 rw[Qwz (by decide)];unfold opW;rw[if_neg (by decide),if_neg (by decide),if_pos rfl,(Uy1 5 o a c).1,(Uy1 5 o a c).2];simp
theorem Jvl(a:Ex):Qqm (opX 6 0 true [a] [])=Qz9 6 0 0 a++[kIS]++[Jxa]++[Qys]:=by
 rw[Qwz (by decide)];unfold opW;rw[if_neg (by decide),if_neg (by decide),if_neg (by decide),if_pos rfl,Yyi];simp
theorem Jvm(a:Ex):Qqm (opX 6 0 false [a] [])=Qz9 6 0 0 a++[kIS]++[Qys]:=by
 rw[Qwz (by decide)];unfold opW;rw[if_neg (by decide),if_neg (by decide),if_neg (by decide),if_pos rfl,Yyi];simp
theorem Yjc(a c d:Ex):Qqm (opX 7 0 false [a,c,d] [])=Qz9 7 0 0 a++[Qvl]++Qz9 7 0 1 c++[Yza]++Qz9 7 0 2 d:=by
 rw[Qwz (by decide)];unfold opW;rw[if_neg (by decide),if_neg (by decide),if_neg (by decide),if_neg (by decide),(Uxy 7 0 a c d).1,(Uxy 7 0 a c d).2.1,(Uxy 7 0 a c d).2.2];simp
theorem Yzv(t:ByteArray)(w:World)(h:Qzf w):Calls prog 42 #[.string ⟨#[44,59,46,41]⟩,t] w fun e w'=>e=.returned (.bool (Lib.contains [44,59,46,41] t.data.toList))∧w'=w:=by
 obtain⟨_,m,hm⟩:=h;exact Any.strings_Contains {Tryz.laysM144 with} ⟨#[44,59,46,41]⟩ t m w (by decide) hm
theorem Uyh(cb b1 b2:Bool)(h:(!cb&&!b1&&!b2)=false):cb=true∨(cb=false∧b1=true)∨(cb=false∧b1=false∧b2=true):=by
 cases cb<;>cases b1<;>cases b2<;>simp at h⊢
theorem Uko(cb b1 b2:Bool)(h:(!cb&&!b1&&!b2)=true):cb=false∧b1=false∧b2=false:=by
 cases cb<;>cases b1<;>cases b2<;>simp at h⊢
theorem Ywj{l:List ByteArray}{j:Nat}{t:ByteArray}(h:l[j]?=some t):Qxe none (l.take (j+1))=Qxe none (l.take j)++((if Jjn (Jwy none (l.take j)) t=true then[32] else[])++t.data.toList):=by
 obtain⟨hlt,rfl⟩:=Yq.1 h;rw[Ki hlt,Jwz]
theorem Ywk{l:List ByteArray}{j:Nat}{t:ByteArray}(h:l[j]?=some t):Jwy none (l.take (j+1))=some t:=by
 obtain⟨hlt,rfl⟩:=Yq.1 h;rw[Ki hlt,Jw0]
theorem Jkx:∀(l:List ByteArray) (p:Option ByteArray),(Qxe p l).length≤(l.map fun t=>t.size+1).sum
 |[],p=>by simp[Qxe]
 |t::l,p=>by
  have:=Jkx l (some t);rw[Qxe];simp only[Zr,Yc,Kc,Qjx] at*;have h2:(if Jjn p t=true then[(32:UInt8)] else[]).length≤1:=by split<;>simp
  omega
theorem Ukp(l:List ByteArray)(j:Nat):((l.take j).map fun t=>t.size+1).sum≤(l.map fun t=>t.size+1).sum:=by
 have h:l=l.take j++l.drop j:=(List.take_append_drop _ _).symm;have:=congrArg (fun l=>(l.map fun t:ByteArray=>t.size+1).sum) h;simp only[Ke,List.sum_append] at this;omega
def Qkz(l:List ByteArray)(w:World)(e:Ending)(w':World):Prop:=∃v,e=.returned v∧Qqa NoM w' 1 Qjz v l∧Below w.heap.size w w'
def LsR(w:World)(l:List ByteArray)(cs:List Value):Prop:=∃v,cs=[v]∧Qqa NoM w 1 Qjz v l
theorem LsR.bel{w w':World}{l:List ByteArray}{cs:List Value}(h:LsR w l cs)(k:Below w.heap.size w w'):LsR w' l cs:=by
 obtain⟨v,h1,h2⟩:=h;exact⟨v,h1,Qqa.map h2 (.bel k) fun _ _ _ h=>h⟩
theorem Qvp{w w':World}{v:Value}{l:List ByteArray}(h:Qqa NoM w 1 Qjz v l)(k:Below w.heap.size w w'):Qqa NoM w' 1 Qjz v l:=Qqa.map h (.bel k) fun _ _ _ h=>h
theorem Qx3{lo:Nat}{v:Value}{w w':World}{l:List ByteArray}{t:TypeId}(h:Qqf lo w t 1 Qjz v l)(k:Qqb (Qq4 v) w w')(hlo:lo≤w.heap.size):Below lo w w':=
 k.toBelow hlo fun i hi hm=>by
  have:=(Qqf.lt h hm).1;omega
theorem Ykp(ls:List (List ByteArray))(j:Nat):((ls.take j).flatten).length≤(ls.map List.length).sum:=by
 rw[List.length_flatten]
 induction ls generalizing j with
 |nil=>simp
 |cons a ls ih=>
  cases j with
  |zero=>simp
  |succ j=>
   have:=ih j;simp only[Qj,Yc,Kc];omega
theorem Yzw{M:Nat→Prop}(ls:List (List ByteArray))(v:Value)(w:World)(hv:Qqa M w 1 (LsR w) v ls)(hN:(ls.map List.length).sum≤1000000000):
 Calls prog 17 #[v] w (Qkz ls.flatten w):=by
 have HV:=hid hv;have HN:=hid hN;obtain⟨a,c,rfl,hm⟩:=hv.shape;unfold maxLen at hm;clear hv hN;go_enter func17,ntmps17;go_wp2_with fail
 go_loopw[3,8] (fun out i wr=>∃j:Nat,j≤ls.length∧i=.int .i64 j∧Qqf w.heap.size wr 9 1 Qjz out (ls.take j).flatten∧Below w.heap.size w wr) (fun _ i _=>ls.length-(intOf i).toNat)
 case atStart=>exact⟨0,Zi _,rfl,by simpa using Qqf.nil ..,Below.refl _ _⟩
 case round=>
  rename World=>wr;obtain⟨j,hj,rfl,ho,hb⟩:=hrel;have HO:=hid ho;have HB:=hid hb;obtain⟨oa,oc,rfl,_⟩:=ho.shape;have hzr:=hb.size;clear ho hb;by_cases hlt:j<ls.length
  ·rcases HV.out.open with⟨_,h0⟩|⟨ab,ao,cap',hv',_,hab,hcap,_,hx⟩
   ·rw[h0] at hlt;simp at hlt
   simp only[Yz] at hv';obtain⟨rfl,_,rfl⟩:=hv';have hxj:ls[j]?=some ls[j]:=Zg hlt;obtain⟨cs,⟨vl,rfl,hl⟩,_,hcs⟩:=hx j _ hxj;have c0:=(hcs.keep (M:=fun _=>False) (.bel HB.out) id).c1;simp only[Ks] at c0;have HLN:=hid (Ykp ls (j+1));have HTK:Hid ((ls.take (j+1)).flatten=(ls.take j).flatten++ls[j]):=hid (by rw[Jh,hxj,List.flatten_append];simp only[Option.toList,Yr,List.flatten_nil,Jb]);have HLJ:=hid (Qvp hl HB.out);generalize ls[j]=l at hxj c0 HTK HLJ;generalize hnx:(ls.take (j+1)).flatten=nx at HTK HLN;have NX:=hid hnx;clear hnx;generalize(ls.take j).flatten=cur at HO HTK;obtain⟨la,lc,rfl,_⟩:=HLJ.out.shape;have i0:(0:Int)≤(j:Int):=by omega
   have i1:(j:Int)<(ls.length:Int):=by omega
   have HLE:Hid (cur.length+l.length≤1000000000):=hid (by have h1:=HLN.out;have h2:=HN.out;rw[HTK.out,Zr] at h1;omega);clear hx hcs hl hxj HLN
   go_wp2_with(at_builtin;go_loud (refine Qje rfl _ _ 30 rfl 9 _ 1 16 underlying30 Qwc rfl (by decide) (R:=Qjz) (M:=NoM) w.heap.size (Qv oa cur.length oc) (Qv la l.length lc) cur l rfl rfl HO.out HLJ.out (fun y _ cs h=>Qky y cs h) (by have:=HLE.out;omega) (by have:=HLE.out;unfold maxLen;omega) hzr ?_;intro v2 w2 ho hk hat;have HO2:=hid ho;have HB2:=hid (HB.out.trans (Qx3 HO.out hk hzr));clear ho hk hat))
   go_roundw
   case rel=>exact⟨j+1,by omega,by go_num,by rw[NX.out,HTK.out];exact HO2.out,HB2.out⟩
   case measure=>simp[intOf];omega
  ·obtain rfl:j=ls.length:=by omega
   go_wp2_with fail
   go_ret;exact⟨_,rfl,by have h:=HO.out.rows (M:=NoM) fun _ _ _=>id;rw[Jo] at h;simpa using h,HB.out⟩
theorem Jk1:∀ys:List ByteArray,(ys.map fun y=>[Value.string y]).flatten=ys.map Value.string
 |[]=>rfl
 |y::l=>by rw[Yc,Yr,Jk1 l];rfl
theorem Qxr{w:World}{arr:Array Value}{g n:Nat}(ys:List ByteArray)(hg:g=w.heap.size)(ha:arr.toList=ys.map Value.string)(hn:n=ys.length)(hm:n≤1000)(t:TypeId):Qqa NoM (w.alloc (.cells arr t)) 1 Qjz (Qv (some ⟨g,0,none⟩) n n) ys:=by
 subst hn;refine Qqa.new (ys.map fun y=>[Value.string y]) hg id (by rw[ha,Jk1]) (by simp) (by simp) (by simp) (by unfold maxLen;omega) (by simp) fun i y cs hi hc=>?_;simp only[Yi,hi,Option.map_some,Ym] at hc;exact hc.symm
theorem Ujz(k o:Int)(no:Bool)(vk vi:Int)(vt t nm:ByteArray)(va vs:Value)(w:World):
 Calls prog 87 #[.agg #[k,o,no,vk,vi,vt,t,nm,va,vs]] w (Qkz (if Qq0 t=true then[nm] else[t,Qwq,nm]) w):=by
 by_cases ht:Qq0 t=true
 ·rw[if_pos ht];have h1:(t.toList==[])=true:=ht;clear ht;go_enter func87,ntmps87;go_wp2_with fail
  go_ret;exact⟨_,rfl,Qxr [nm] (by simp) rfl rfl (by simp) _,((Below.refl _ _).alloc (Zz _) _).alloc (by simp) _⟩
 ·rw[if_neg ht];have h1:(t.toList==[])=false:=by unfold Qq0 at ht;simpa using ht
  clear ht;go_enter func87,ntmps87;go_wp2_with fail
  go_ret;exact⟨_,rfl,Qxr [t,Qwq,nm] (by simp) rfl rfl (by simp) _,((Below.refl _ _).alloc (Zz _) _).alloc (by simp) _⟩
def Jxj(w:World):Prop:=∀i:Nat,i<14→w.cell? ⟨4,i,none⟩=some (.string (opS (i:Int)))
def Qxb(e:Ex):Prop:=∀(cs:List Value) (w:World),EC NoM w e cs→Qzf w→10<w.heap.size→Jxj w→(Qqm e).length≤900000000→Calls prog 45 #[.agg cs.toArray] w (Qkz (Qqm e) w)
theorem Jxj.bel{w w':World}(h:Jxj w)(k:Below w.heap.size w w'):Jxj w':=fun i hi=>(k.cell (Za _ _ (h i hi))).trans (h i hi)
theorem Qzf.belB{w w':World}(h:Qzf w)(k:Below w.heap.size w w')(hs:10<w.heap.size):Qzf w':=h.keep (M:=fun _=>False) (.bel k) (fun _ _=>id) hs
theorem Jyn(l:List Ex)(hall:∀x∈l,Qxb x)(h1:l.length≤1)(va:Value)(w:World)(hA:Qqq NoM w va l)(hl:Qzf w)(hs:10<w.heap.size)(ho:Jxj w)(hN:(Qjd (l.map Qqm)).length≤900000000):
 Calls prog 49 #[va] w (Qkz (Qjd (l.map Qqm)) w):=by
 match l,h1 with
 |[],_=>
  obtain⟨a,c,rfl,hm⟩:=hA.shape;clear hall hA hl ho;go_enter func49,ntmps49;go_wp2_with fail
  go_ret;exact⟨_,rfl,(Qqf.nil (w.heap.size) w 9 1 Qjz).rows fun _ _ _=>id,Below.refl _ _⟩
 |[x],_=>
  have hX:=hall x (by simp);simp only[Yc,Km,Qjd,Jb] at hN⊢;have HX:=hid hX;have HL:=hid hl;have HO:=hid ho;have HN:=hid hN
  rcases hA.open with⟨_,h0⟩|⟨ab,ao,cap',rfl,_,hab,_,_,hx⟩
  ·simp at h0
  obtain⟨cs,hc,_,hcs⟩:=hx 0 x rfl;have HE:=hid hc;have HC:=hid hcs;obtain⟨xva,xvs,rfl,hva,hvs⟩:=(Qji ..).1 hc;obtain⟨xa,xac,rfl,_⟩:=hva.shape;obtain⟨xs,xsc,rfl,_⟩:=hvs.shape;simp only[Qjg] at HE;have i0:(0:Int)≤((0:Nat):Int):=by omega
  have HB1:=hid (show Below w.heap.size w (w.alloc (.cells #[.string ⟨#[87,72,69,82,69]⟩] 9)) from(Below.refl _ _).alloc (Zz _) _);have HOW:=hid (Uqz (R:=Qjz) (lo:=w.heap.size) (w:=w) (arr:=#[.string ⟨#[87,72,69,82,69]⟩]) (e:=9) (size:=1) Jwx rfl (Zz _) rfl rfl);obtain⟨c0,c1,c2,c3,c4,c5,c6,c7,c8,c9⟩:=Qqr.c10 (HC.out.keep (M:=NoM) (.bel HB1.out) id);simp only[Jr,Je] at c0 c1 c2 c3 c4 c5 c6 c7 c8 c9;have hz:(w.alloc (.cells #[.string ⟨#[87,72,69,82,69]⟩] 9)).heap.size=w.heap.size+1:=by simp
  clear hx hc hcs hva hvs hX hl ho hN hall hA;go_enter func49,ntmps49;go_wp2_with fail
  refine(HX.out _ _ (EC.keep (.bel HB1.out) _ _ HE.out) (HL.out.belB HB1.out hs) (by omega) (HO.out.bel HB1.out) (by have:=HN.out;simp at this;omega)).mono ?_;rintro e w2 ⟨v,rfl,hv,hb⟩;have HV:=hid hv;have HB2:=hid (HB1.out.trans (hb.mono (by omega)));have HOW2:=hid (Qqf.kept HOW.out (M:=NoM) (.bel hb) (fun _ _=>id) fun _ _ _ h=>h);have hz2:=HB2.out.size;obtain⟨va,vc,rfl,_⟩:=hv.shape;clear hv hb hz;dsimp only
  go_wp2_with(at_builtin;go_loud (refine Qje rfl _ _ 30 rfl 9 _ 1 16 underlying30 Qwc rfl (by decide) (R:=Qjz) (M:=NoM) w.heap.size (Qv (some ⟨w.heap.size,0,none⟩) 1 1) (.slice va (Qqm x).length vc) [Jwx] (Qqm x) rfl rfl HOW2.out HV.out (fun y _ cs h=>Qky y cs h) (by have:=HN.out;simp at this⊢;omega) (by have:=HN.out;unfold maxLen;simp at this⊢;omega) hz2 ?_;intro v2 w3 ho hk hat;have HO3:=hid ho;have HB3:=hid (HB2.out.trans (Qx3 HOW2.out hk hz2));clear ho hk hat))
  go_ret;exact⟨_,rfl,HO3.out.rows fun _ _ _=>id,HB3.out⟩
theorem Jyo{w:World}{arr:Array Value}{g n:Nat}(ys:List ByteArray)(hg:g=w.heap.size)(ha:arr.toList=ys.map Value.string)(hn:n=ys.length)(hm:n≤1000){lo:Nat}(hlo:lo≤w.heap.size):Qqf lo (w.alloc (.cells arr 9)) 9 1 Qjz (Qv (some ⟨g,0,none⟩) n n) ys:=by
 subst hn hg;have hl:arr.toList.length=ys.length:=by rw[ha];simp
 have hf:(ys.map fun y=>[Value.string y]).flatten=arr.toList:=by rw[Jk1,ha]
 refine⟨ys.map fun y=>[Value.string y],⟨by rw[hf,hl];simp,.inr ⟨w.heap.size,ys.length,arr,by simp,hlo,Zw w _,by simp,by unfold maxLen;omega,by rw[Ks];exact hl,by rw[hf,Ys,Ks,←hl,Jo]⟩⟩,by simp,by simp,fun i y cs hi hc=>?_⟩;simp only[Yi,hi,Option.map_some,Ym] at hc;exact hc.symm
theorem Jqh(st:Bool)(vi:Value)(f:ByteArray)(vw:Value)(l:List Ex)(hall:∀x∈l,Qxb x)(h1:l.length≤1)(w:World)(hA:Qqq NoM w vw l)(hl:Qzf w)(hs:10<w.heap.size)(ho:Jxj w)(hN:(Qjd (l.map Qqm)).length≤900000000):
 Calls prog 46 #[.agg #[st,vi,f,vw]] w (Qkz (Qzp::f::Qjd (l.map Qqm)) w):=by
 have HA:=hid hA;have HALL:=hid hall;have HL:=hid hl;have HO:=hid ho;have HN:=hid hN;have H1:=hid h1;obtain⟨a,c,rfl,hm⟩:=hA.shape;clear hall h1 hA hl ho hN;go_enter func46,ntmps46;go_upto_region 2 with fail
 generalize hW1:Qw w _=W1;have hz1:W1.heap.size=w.heap.size+1:=by rw[←hW1];simp
 have hS0:W1.heap[w.heap.size]?=some (.cells #[st,vi,f,Qv a l.length c] 37 (0,0)):=by rw[←hW1];exact Zw w _
 have hb1:Below w.heap.size w W1:=by rw[←hW1];exact(Below.refl _ _).alloc (Zz _) _
 clear hW1;have HOW:=hid (Jyo (w:=W1) (arr:=#[.string ⟨#[70,82,79,77]⟩,.string f]) [Qzp,f] hz1.symm rfl rfl (by simp) (lo:=w.heap.size) (by omega));generalize hW:Qw W1 _=W at HOW⊢;have hS:W.heap[w.heap.size]?=some (.cells #[st,vi,f,Qv a l.length c] 37 (0,0)):=by rw[←hW];exact(Jy W1 _ (by omega)).trans hS0
 have HBW:=hid (show Below w.heap.size w W from by rw[←hW];exact hb1.alloc (by omega) _);have hzW:=HBW.out.size;obtain⟨e0,e1,e2,e3,_⟩:=Qzo hS;clear hS0 hS hb1 hz1 hW;go_wp2_with fail
 refine(Jyn l HALL.out H1.out _ W (Qqa.map HA.out (.bel HBW.out) fun x _ cs h=>EC.keep (.bel HBW.out) x cs h) (HL.out.belB HBW.out hs) (by omega) (HO.out.bel HBW.out) HN.out).mono ?_;rintro e w2 ⟨v,rfl,hv,hb⟩;have HV:=hid hv;have HB2:=hid (HBW.out.trans (hb.mono hzW));have HOW2:=hid (Qqf.kept HOW.out (M:=NoM) (.bel hb) (fun _ _=>id) fun _ _ _ h=>h);have hz2:=HB2.out.size;obtain⟨va,vc,rfl,_⟩:=hv.shape;clear hv hb HOW;dsimp only;generalize hwh:Qjd (l.map Qqm)=wh at HV HN;have HWH:=hid hwh;clear hwh
 go_wp2_with(at_builtin;go_loud (refine Qje rfl _ _ 30 rfl 9 _ 1 16 underlying30 Qwc rfl (by decide) (R:=Qjz) (M:=NoM) w.heap.size (Qv (some ⟨w.heap.size+1,0,none⟩) 2 2) (Qv va wh.length vc) [Qzp,f] wh rfl rfl HOW2.out HV.out (fun y _ cs h=>Qky y cs h) (by have:=HN.out;simp;omega) (by have:=HN.out;unfold maxLen;simp;omega) hz2 ?_;intro v2 w3 ho hk hat;have HO3:=hid ho;have HB3:=hid (HB2.out.trans (Qx3 HOW2.out hk hz2));clear ho hk hat))
 go_ret;exact⟨_,rfl,by rw[HWH.out];exact HO3.out.rows fun _ _ _=>id,HB3.out⟩
theorem Qy0(k o:Int)(no:Bool)(vk vi:Int)(vt t nm:ByteArray)(va vs:Value)(args:List Ex)(i:Nat)(x:Ex)(hx:args[i]?=some x)(hok:Qxb x)(hi3:i≤2)(w:World)(hA:Qqq NoM w va args)(hl:Qzf w)(hs:10<w.heap.size)(ho:Jxj w)(hN:(Qqm x).length≤800000000):
 Calls prog 88 #[.agg #[k,o,no,vk,vi,vt,t,nm,va,vs],.int .i64 (i:Int)] w (Qkz (if Qwh x.kind x.op<Qvf k o i then Qq7::(Qqm x++[Qjq]) else Qqm x) w):=by
 have hlt:i<args.length:=(Yq.1 hx).1
 rcases hA.open with⟨_,h0⟩|⟨ab,ao,cap',rfl,hm,hab,_,_,hxs⟩
 ·rw[h0] at hlt;simp at hlt
 obtain⟨cs,hc,_,hcs⟩:=hxs i x hx;have HX:=hid hok;have HL:=hid hl;have HO:=hid ho;have HN:=hid hN;have HE:=hid hc;have HC:=hid hcs;obtain⟨xva,xvs,rfl,hva,hvs⟩:=(Qji ..).1 hc;obtain⟨xa,xac,rfl,_⟩:=hva.shape;obtain⟨xs,xsc,rfl,_⟩:=hvs.shape;simp only[Qjg] at HE;have i0:(0:Int)≤(i:Int):=by omega
 have i1:(i:Int)<(args.length:Int):=by omega
 clear hxs hc hcs hva hvs hok hl ho hN hA hx
 obtain⟨R,HR⟩:∃R,Hid ((if Qwh x.kind x.op<Qvf k o i then Qq7::(Qqm x++[Qjq]) else Qqm x)=R):=⟨_,hid rfl⟩
 rw[HR.out];go_enter func88,ntmps88;go_upto_region 1 with fail
 generalize hW:Qw w _=W;have hS:W.heap[w.heap.size]?=some (.cells #[k,o,no,vk,vi,vt,t,nm,Qv (some ⟨ab,ao,none⟩) args.length cap',vs] 80 (0,0)):=by rw[←hW];exact Zw w _
 have HBW:=hid (show Below w.heap.size w W from by rw[←hW];exact(Below.refl _ _).alloc (Zz _) _);have hzW:W.heap.size=w.heap.size+1:=by rw[←hW];simp
 have HS:=hid hS;obtain⟨e0,e1,e2,e3,e4,e5,e6,e7,e8,e9,_⟩:=Qq5 hS;obtain⟨c0,c1,c2,c3,c4,c5,c6,c7,c8,c9⟩:=Qqr.c10 (HC.out.keep (M:=NoM) (.bel HBW.out) id);clear hS hW;go_wp2_with fail
 refine(HX.out _ _ (EC.keep (.bel HBW.out) _ _ HE.out) (HL.out.belB HBW.out hs) (by omega) (HO.out.bel HBW.out) (by have:=HN.out;omega)).mono ?_;rintro e w2 ⟨v,rfl,hv,hb⟩;have HV:=hid hv;have HB2:=hid (HBW.out.trans (hb.mono (by omega)));have hz2:=hb.size;obtain⟨la,lc,rfl,_⟩:=hv.shape;clear e0 e1 e2 e3 e4 e5 e6 e7 e8 e9 c0 c1 c2 c3 c4 c5 c6 c7 c8 c9;obtain⟨e0,e1,e2,e3,e4,e5,e6,e7,e8,e9,_⟩:=Qq5 ((hb.block _ (by omega)).trans HS.out);obtain⟨c0,c1,c2,c3,c4,c5,c6,c7,c8,c9⟩:=Qqr.c10 (HC.out.keep (M:=NoM) (.bel HB2.out) id);have HCC:=hid (Ze c0 (Ze c1 (Ze c2 (Ze c3 (Ze c4 (Ze c5 (Ze c6 (Ze c7 (Ze c8 c9)))))))));clear hv hb c0 c1 c2 c3 c4 c5 c6 c7 c8 c9;dsimp only;go_wp2_with fail
 refine(Yjt k o no vk vi vt t nm ab ao args.length cap' vs i x.kind x.op x.no x.val.kind x.val.int x.val.text x.table x.name _ _ w2 hlt (by omega) (by omega) (by simpa using HCC.out)).mono ?_;rintro e w3 ⟨rfl,hb⟩;have HV3:=hid (Qvp HV.out hb);have HB3:=hid (HB2.out.trans (hb.mono (by omega)));have hz3:=HB3.out.size;clear hb e0 e1 e2 e3 e4 e5 e6 e7 e8 e9;dsimp only;generalize hbb:decide (Qwh x.kind x.op<Qvf k o i)=bb;have HBB:=hid hbb;clear hbb;cases bb
 ·have HR2:Hid (R=Qqm x):=hid (by rw[←HR.out,if_neg (of_decide_eq_false HBB.out)]);go_wp2_with fail
  go_ret;exact⟨_,rfl,by rw[HR2.out];exact HV3.out,HB3.out⟩
 ·have HR2:Hid (R=[Qq7]++Qqm x++[Qjq]):=hid (by rw[←HR.out,if_pos (of_decide_eq_true HBB.out)];simp);generalize hxs:Qqm x=ws at HV HV3 HN HR2;have HXS:=hid hxs;clear hxs;have HO3:=hid (Jyo (w:=w3) (arr:=#[.string ⟨#[40]⟩]) [Qq7] rfl rfl rfl (by simp) (lo:=w.heap.size) hz3);have HB4:=hid (HB3.out.alloc hz3 (.cells #[.string ⟨#[40]⟩] 9));have HV4:=hid (Qvp HV3.out ((Below.refl _ _).alloc (Zz _) (.cells #[.string ⟨#[40]⟩] 9)));have hz4:=HB4.out.size;have tok1:Hid True:=hid trivial
  go_wp2_with(first
   |(at_builtin;have _t:=tok1;go_loud (refine Qje rfl _ _ 30 rfl 9 _ 1 16 underlying30 Qwc rfl (by decide) (R:=Qjz) (M:=NoM) w.heap.size (Qv (some ⟨w3.heap.size,0,none⟩) 1 1) (Qv la ws.length lc) [Qq7] ws rfl rfl HO3.out HV4.out (fun y _ cs h=>Qky y cs h) (by have:=HN.out;simp;omega) (by have:=HN.out;unfold maxLen;simp;omega) hz4 ?_;intro v5 w5 ho hk hat;have HO5:=hid ho;have HB5:=hid (HB4.out.trans (Qx3 HO3.out hk hz4));have hz5:=HB5.out.size;have HO6:=hid (Qqf.kept ho (M:=NoM) (.bel ((Below.refl _ _).alloc (Zz _) (.cells #[.string ⟨#[41]⟩] 9))) (fun _ _=>id) fun _ _ _ h=>h);have HS6:=hid (Qxr (w:=w5) (arr:=#[.string ⟨#[41]⟩]) [Qjq] rfl rfl rfl (by simp) 9);have HB6:=hid (HB5.out.alloc hz5 (.cells #[.string ⟨#[41]⟩] 9));have hz6:=HB6.out.size;obtain⟨oa,oc,rfl,_⟩:=ho.shape;clear ho hk hat HO3 tok1 _t))
   |(at_builtin;go_loud (refine Qje rfl _ _ 30 rfl 9 _ 1 16 underlying30 Qwc rfl (by decide) (R:=Qjz) (M:=NoM) w.heap.size (.slice oa ([Qq7]++ws).length oc) (Qv (some ⟨w5.heap.size,0,none⟩) 1 1) ([Qq7]++ws) [Qjq] rfl rfl HO6.out HS6.out (fun y _ cs h=>Qky y cs h) (by have:=HN.out;simp;omega) (by have:=HN.out;unfold maxLen;simp;omega) hz6 ?_;intro v7 w7 ho hk hat;have HO7:=hid ho;have HB7:=hid (HB6.out.trans (Qx3 HO6.out hk hz6));clear ho hk hat)))
  go_ret;exact⟨_,rfl,by rw[HR2.out];exact HO7.out.rows fun _ _ _=>id,HB7.out⟩
theorem Ykq:∀vs:List Value,(vs.map fun v=>[v]).flatten=vs
 |[]=>rfl
 |v::l=>by rw[Yc,Yr,Ykq l];rfl
theorem Ywn{w:World}{arr:Array Value}{g n:Nat}(ls:List (List ByteArray))(hg:g=w.heap.size)(hn:n=ls.length)(hl:arr.toList.length=ls.length)(hm:n≤1000)(t:TypeId)(hR:∀(i:Nat) (l:List ByteArray) (v:Value),ls[i]?=some l→arr.toList[i]?=some v→Qqa NoM w 1 Qjz v l):
 Qqa NoM (w.alloc (.cells arr t)) 1 (LsR (w.alloc (.cells arr t))) (Qv (some ⟨g,0,none⟩) n n) ls:=by
 subst hn;have hl2:arr.size=ls.length:=hl;refine Qqa.new (arr.toList.map fun v=>[v]) hg id (Ykq _).symm (by simp) (by simp[hl2]) (by simp) (by unfold maxLen;omega) (by simp[hl2]) fun i y cs hi hc=>?_;simp only[Yi] at hc
 cases hv:arr.toList[i]? with
 |none=>rw[hv] at hc;cases hc
 |some v=>
  rw[hv] at hc;simp only[Option.map_some,Ym] at hc;exact⟨v,hc.symm,Qvp (hR i y v hi hv) ((Below.refl _ _).alloc (Zz _) _)⟩
theorem Kjf(v:Val)(hv:Jvb v):Qxb (Qkk v):=by
 intro cs w hE hL hs hO hN;obtain⟨xva,xvs,rfl,hva,hvs⟩:=(Qji ..).1 hE;obtain⟨ea,ec,rfl,_⟩:=hva.shape;obtain⟨sa,sc,rfl,_⟩:=hvs.shape;have HL:=hid hL;have HV:=hid hv;rw[Yqw];simp only[Qjg,Qkk,Ex.kind,Ex.op,Ex.no,Ex.val,Ex.table,Ex.name,Ex.args,Ex.sub,Yw];have h41:(1:Int)=1:=rfl;clear hE hva hvs hL hO hN hv;go_enter func45,ntmps45;go_upto_region 3 with fail
 generalize hW:Qw w _=W;have HBW:=hid (show Below w.heap.size w W from by rw[←hW];exact(Below.refl _ _).alloc (Zz _) _);have hS:W.heap[w.heap.size]?=some (.cells #["1","0",false,v.kind,v.int,v.text,es,es,Qv ea 0 ec,Qv sa 0 sc] 80 (0,0)):=by rw[←hW];exact Zw w _
 obtain⟨e0,e1,e2,e3,e4,e5,e6,e7,e8,e9,_⟩:=Qq5 hS;have hz:=HBW.out.size;clear hS hW;go_wp2_with fail
 refine(Jkl v HV.out W (HL.out.belB HBW.out hs) (by omega)).mono ?_;rintro e w2 ⟨rfl,hb⟩;have HB2:=hid (HBW.out.trans (hb.mono hz));have hz2:=HB2.out.size;clear hb e0 e1 e2 e3 e4 e5 e6 e7 e8 e9;dsimp only;go_wp2_with fail
 go_ret;exact⟨_,rfl,Qxr [bs (Qzt v)] rfl rfl rfl (by simp) _,HB2.out.alloc hz2 _⟩
theorem Kjg(t n:ByteArray):Qxb (Qqp t n):=by
 intro cs w hE hL hs hO hN;obtain⟨xva,xvs,rfl,hva,hvs⟩:=(Qji ..).1 hE;obtain⟨ea,ec,rfl,_⟩:=hva.shape;obtain⟨sa,sc,rfl,_⟩:=hvs.shape
 obtain⟨R,HR⟩:∃R,Hid (Qqm (Qqp t n)=R):=⟨_,hid rfl⟩
 rw[HR.out];simp only[Qjg,Qqp,Ex.kind,Ex.op,Ex.no,Ex.val,Ex.table,Ex.name,Ex.args,Ex.sub,Yw,Qvs];clear hE hva hvs hL hO hN;go_enter func45,ntmps45;go_upto_region 5 with fail
 generalize hW:Qw w _=W;have HBW:=hid (show Below w.heap.size w W from by rw[←hW];exact(Below.refl _ _).alloc (Zz _) _);have hS:W.heap[w.heap.size]?=some (.cells #["2","0",false,"0","0",es,t,n,Qv ea 0 ec,Qv sa 0 sc] 80 (0,0)):=by rw[←hW];exact Zw w _
 obtain⟨e0,e1,e2,e3,e4,e5,e6,e7,e8,e9,_⟩:=Qq5 hS;have hz:=HBW.out.size;clear hS hW;go_wp2_with fail
 refine(Ujz _ _ _ _ _ _ t n _ _ W).mono ?_;rintro e w2 ⟨u,rfl,hu,hb⟩;have HU:=hid (show Qqa NoM w2 1 Qjz u R from by rw[←HR.out,Yqx];exact hu);have HB2:=hid (HBW.out.trans (hb.mono hz));clear hu hb e0 e1 e2 e3 e4 e5 e6 e7 e8 e9;dsimp only;go_wp2_with fail
 go_ret;exact⟨_,rfl,HU.out,HB2.out⟩
theorem Kjh(a:Ex)(ha:Qxb a)(hN8:(Qqm a).length≤800000000):Qxb (opX 3 0 false [a] []):=by
 intro cs w hE hL hs hO hN;obtain⟨xva,xvs,rfl,hva,hvs⟩:=(Qji ..).1 hE;obtain⟨ea,ec,rfl,_⟩:=hva.shape;obtain⟨sa,sc,rfl,_⟩:=hvs.shape;have HA:=hid (show Qqq NoM w (Qv ea 1 ec) [a] from hva);have Ha:=hid ha;have HL:=hid hL;have HO:=hid hO;have hNa:(Qqm a).length≤800000000:=hN8;have HN:=hid hNa;rw[Yq9];simp only[Qjg,opX,Ex.kind,Ex.op,Ex.no,Ex.val,Ex.table,Ex.name,Ex.args,Ex.sub,Zb,Yw,Ye,Qvs];clear hE hva hvs hL hO hN ha hNa;go_enter func45,ntmps45;go_upto_region 7 with fail
 generalize hW:Qw w _=W;have HBW:=hid (show Below w.heap.size w W from by rw[←hW];exact(Below.refl _ _).alloc (Zz _) _);have hS:W.heap[w.heap.size]?=some (.cells #["3","0",false,"0","0",es,es,es,Qv ea 1 ec,Qv sa 0 sc] 80 (0,0)):=by rw[←hW];exact Zw w _
 have hz:=HBW.out.size;have hzz:=(Zq.1 hS).1;have HBB:=hid (show Below W.heap.size W (W.alloc (.cells #[.string ⟨#[78,79,84]⟩] 9)) from(Below.refl _ _).alloc (Zz _) _);obtain⟨e0,e1,e2,e3,e4,e5,e6,e7,e8,e9,_⟩:=Qq5 ((HBB.out.block _ hzz).trans hS);have HNOT:=hid (Qxr (w:=W) (arr:=#[.string ⟨#[78,79,84]⟩]) [Jxa] rfl rfl rfl (by simp) 9);have HB1:=hid (HBW.out.trans (HBB.out.mono hz));have hz1:=HB1.out.size;clear hS hW;go_wp2_with fail
 refine(Qy0 3 0 false 0 0 es es es _ _ [a] 0 a rfl Ha.out (by omega) _ (Qqa.map HA.out (.bel HB1.out) fun x _ cs h=>EC.keep (.bel HB1.out) x cs h) (HL.out.belB HB1.out hs) (by omega) (HO.out.bel HB1.out) HN.out).mono ?_;rintro e w2 ⟨u,rfl,hu,hb⟩;have HU:=hid (show Qqa NoM w2 1 Qjz u (Qz9 3 0 0 a) from by rw[Jkh (by intro h;cases h)] at hu;exact hu);have HB2:=hid (HB1.out.trans (hb.mono hz1));have HNOT2:=hid (Qvp HNOT.out hb);have hz2:=HB2.out.size;clear hu hb e0 e1 e2 e3 e4 e5 e6 e7 e8 e9
 have hAW:(Qz9 3 0 0 a).length≤900000000:=by
  unfold Qz9;have:=HN.out
  split
  ·simp;omega
  ·omega
 generalize hR:Qz9 3 0 0 a=R at HU hAW;have HR:=hid hR;have HRW:=hid hAW;clear hR hAW;dsimp only;obtain⟨ua,uc,rfl,_⟩:=HU.out.shape;go_wp2_with fail
 refine(Yzw [[Jxa],R] _ _ (Ywn (w:=w2) [[Jxa],R] rfl rfl rfl (by simp) _ (fun i l v hi hv=>by
  match i with
  |0=>simp at hi hv;subst hi;subst hv;exact HNOT2.out
  |1=>simp at hi hv;subst hi;subst hv;exact HU.out
  |i+2=>simp at hi)) (by have:=HRW.out;simp;omega)).mono ?_
 rintro e w3 ⟨x,rfl,hx,hb⟩;have HX:=hid hx;have HB3:=hid ((HB2.out.alloc hz2 _).trans (hb.mono (by simp;omega)));clear hx hb;dsimp only;go_wp2_with fail
 go_ret;exact⟨_,rfl,by rw[HR.out];simpa using HX.out,HB3.out⟩
theorem Kji(a:Ex)(ha:Qxb a)(hN8:(Qqm a).length≤800000000):Qxb (opX 4 0 false [a] []):=by
 intro cs w hE hL hs hO hN;obtain⟨xva,xvs,rfl,hva,hvs⟩:=(Qji ..).1 hE;obtain⟨ea,ec,rfl,_⟩:=hva.shape;obtain⟨sa,sc,rfl,_⟩:=hvs.shape;have HA:=hid (show Qqq NoM w (Qv ea 1 ec) [a] from hva);have Ha:=hid ha;have HL:=hid hL;have HO:=hid hO;have hNa:(Qqm a).length≤800000000:=hN8;have HN:=hid hNa;rw[Yja];simp only[Qjg,opX,Ex.kind,Ex.op,Ex.no,Ex.val,Ex.table,Ex.name,Ex.args,Ex.sub,Zb,Yw,Ye,Qvs];clear hE hva hvs hL hO hN ha hNa;go_enter func45,ntmps45;go_upto_region 9 with fail
 generalize hW:Qw w _=W;have HBW:=hid (show Below w.heap.size w W from by rw[←hW];exact(Below.refl _ _).alloc (Zz _) _);have hS:W.heap[w.heap.size]?=some (.cells #["4","0",false,"0","0",es,es,es,Qv ea 1 ec,Qv sa 0 sc] 80 (0,0)):=by rw[←hW];exact Zw w _
 have hz:=HBW.out.size;have hzz:=(Zq.1 hS).1;have HBB:=hid (show Below W.heap.size W (W.alloc (.cells #[.string ⟨#[45]⟩] 9)) from(Below.refl _ _).alloc (Zz _) _);obtain⟨e0,e1,e2,e3,e4,e5,e6,e7,e8,e9,_⟩:=Qq5 ((HBB.out.block _ hzz).trans hS);have HNOT:=hid (Qxr (w:=W) (arr:=#[.string ⟨#[45]⟩]) [Jqq] rfl rfl rfl (by simp) 9);have HB1:=hid (HBW.out.trans (HBB.out.mono hz));have hz1:=HB1.out.size;clear hS hW;go_wp2_with fail
 refine(Qy0 4 0 false 0 0 es es es _ _ [a] 0 a rfl Ha.out (by omega) _ (Qqa.map HA.out (.bel HB1.out) fun x _ cs h=>EC.keep (.bel HB1.out) x cs h) (HL.out.belB HB1.out hs) (by omega) (HO.out.bel HB1.out) HN.out).mono ?_;rintro e w2 ⟨u,rfl,hu,hb⟩;have HU:=hid (show Qqa NoM w2 1 Qjz u (Qz9 4 0 0 a) from by rw[Jkh (by intro h;cases h)] at hu;exact hu);have HB2:=hid (HB1.out.trans (hb.mono hz1));have HNOT2:=hid (Qvp HNOT.out hb);have hz2:=HB2.out.size;clear hu hb e0 e1 e2 e3 e4 e5 e6 e7 e8 e9
 have hAW:(Qz9 4 0 0 a).length≤900000000:=by
  unfold Qz9;have:=HN.out
  split
  ·simp;omega
  ·omega
 generalize hR:Qz9 4 0 0 a=R at HU hAW;have HR:=hid hR;have HRW:=hid hAW;clear hR hAW;dsimp only;obtain⟨ua,uc,rfl,_⟩:=HU.out.shape;go_wp2_with fail
 refine(Yzw [[Jqq],R] _ _ (Ywn (w:=w2) [[Jqq],R] rfl rfl rfl (by simp) _ (fun i l v hi hv=>by
  match i with
  |0=>simp at hi hv;subst hi;subst hv;exact HNOT2.out
  |1=>simp at hi hv;subst hi;subst hv;exact HU.out
  |i+2=>simp at hi)) (by have:=HRW.out;simp;omega)).mono ?_
 rintro e w3 ⟨x,rfl,hx,hb⟩;have HX:=hid hx;have HB3:=hid ((HB2.out.alloc hz2 _).trans (hb.mono (by simp;omega)));clear hx hb;dsimp only;go_wp2_with fail
 go_ret;exact⟨_,rfl,by rw[HR.out];simpa using HX.out,HB3.out⟩
theorem Kz8:prog.globalNamed "triggerstore/triggerstoreref12.operators"=some 4:=by kernel_rfl
theorem Kz9:(prog.globals[4]?).map (·.type)=some 153:=by kernel_rfl
theorem Kz7{W:World}{rest:List (String×DataW Unit)}(h:laidMet prog (("triggerstore/triggerstoreref12.operators",Rows.laid_triggerstore_triggerstoreref12_operators)::rest) W):Jxj W:=by
 have hh:=Kzq (ss:=opL) Kz8 Kz9 underlying153 underlying9 Kzx rfl h;intro i hi;have hl:i<opL.length:=hi;have h1:opL[i]?=some (opL.getD i []):=by rw[Jl,Zg hl];rfl
 exact hh i _ h1
theorem Yq0(c:UInt8)(w:World):Calls prog 105 #[.int .u8 (c.toNat:Int)] w fun e w'=>e=.returned (.bool (Jy5 c))∧w=w':=by
 have HQ:Hid (∀b,(decide (48≤c.toNat)&&decide (c.toNat≤57))=b→Jy5 c=b):=hid fun b h=>h;generalize Jy5 c=r at HQ⊢;generalize c.toNat=ch at HQ⊢;go_enter func105,ntmps105;go_wp2_with fail
 all_goals
  go_ret;refine⟨Qzx (HQ.out _ ?_).symm,rfl⟩;rw[Bool.eq_iff_iff];simp_all<;>omega
theorem Jkq(c:UInt8)(w:World):Calls prog 62 #[.int .u8 (c.toNat:Int)] w fun e w'=>e=.returned (.bool (Qvt c))∧w=w':=by
 have HD:=hid (Yq0 c);have HQ:Hid (∀b,((decide (97≤c.toNat)&&decide (c.toNat≤122))||(decide (65≤c.toNat)&&decide (c.toNat≤90))||Jy5 c||c.toNat==95)=b→Qvt c=b):=hid fun b h=>h;generalize Qvt c=r at HQ⊢;generalize Jy5 c=d at HQ HD;generalize c.toNat=ch at HQ HD⊢;cases d
 all_goals
  go_enter func62,ntmps62
  go_wp2_with(go_at_call 105;go_loud (refine(HD.out _).mono ?_;rintro e w2 ⟨rfl,rfl⟩))
  all_goals
   go_ret;refine⟨Qzx (HQ.out _ ?_).symm,rfl⟩;rw[Bool.eq_iff_iff];simp_all<;>omega
theorem Ykc(a b:ByteArray)(w:World):Calls prog 147 #[a,b] w fun e w'=>e=.returned (.bool (decide (Qyy a b=-1)))∧w=w':=by
 have hl:Op.bytesLess a.toList b.toList=decide (Qyy a b=-1):=by rw[Yxr,Yp,Yp];rfl
 have HL:=hid hl;generalize decide (Qyy a b=-1)=r at HL⊢;clear hl;go_enter func147,ntmps147
 go_wp2
 all_goals go_ret
 all_goals exact⟨Qzx (by simp_all [HL.out]),rfl⟩
def Ujb(S:Nat→ByteArray)(n:Nat)(x:ByteArray)(lo hi:Nat):Prop:=
 lo≤hi∧hi≤n∧(∀j,j<lo→Qyy (S j) x=-1)∧(∀j,hi≤j→j<n→Qyy (S j) x≠-1)
theorem Jw4{a b c:ByteArray}(h1:Qyy a b=-1)(h2:Qyy b c=-1):Qyy a c=-1:=by
 have h:=Yxq.lt_le (a:=a.data.toList) (b:=b.data.toList) (e:=c.data.toList) (by unfold Qyy at h1;omega) (by unfold Qyy at h2;omega);have:=Qw6 a.data.toList c.data.toList;unfold Qyy;omega
theorem Ujc(a:ByteArray):Qyy a a=0:=Yxq.refl _
theorem Uws{S:Nat→ByteArray}{n:Nat}{x:ByteArray}{lo hi m:Nat}(hs:∀i j,i<j→j<n→Qyy (S i) (S j)=-1)(h:Ujb S n x lo hi)(h1:lo≤m)(h2:m<hi)(hm:Qyy (S m) x=-1):Ujb S n x (m+1) hi:=
 ⟨h2,h.2.1,fun j hj=>by
  by_cases e:j=m
  ·subst e;exact hm
  ·exact Jw4 (hs j m (by omega) (by have:=h.2.1;omega)) hm,h.2.2.2⟩
theorem Ujd{S:Nat→ByteArray}{n:Nat}{x:ByteArray}{lo hi m:Nat}(hs:∀i j,i<j→j<n→Qyy (S i) (S j)=-1)(h:Ujb S n x lo hi)(h1:lo≤m)(h2:m<hi)(hm:Qyy (S m) x≠-1):Ujb S n x lo m:=
 ⟨h1,by have:=h.2.1;omega,h.2.2.1,fun j hj hn=>by
  by_cases e:j=m
  ·subst e;exact hm
  ·exact fun hh=>hm (Jw4 (hs m j (by omega) hn) hh)⟩
theorem Ux2{S:Nat→ByteArray}{n:Nat}{x:ByteArray}{lo:Nat}(hs:∀i j,i<j→j<n→Qyy (S i) (S j)=-1)(h:Ujb S n x lo lo):(lo<n∧S lo=x)↔∃j,j<n∧S j=x:=by
 refine⟨fun⟨a,b⟩=>⟨lo,a,b⟩,fun⟨j,hj,he⟩=>?_⟩;subst he;have h1:lo≤j:=Nat.le_of_not_lt fun hlt=>by have:=h.2.2.1 j hlt;rw[Ujc] at this;omega
 by_cases e:lo=j
 ·subst e;exact⟨hj,rfl⟩
 ·exact absurd (hs lo j (by omega) hj) (h.2.2.2 lo (Zz _) (by omega))
def Kq0(S:Nat→ByteArray)(n:Nat)(x:ByteArray)(w:World)(e:Ending)(w':World):Prop:=
 ∃(i:Nat) (b:Bool),e=.returned (.tuple #[i,b])∧(b=true↔∃j,j<n∧S j=x)∧Below w.heap.size w w'
theorem Yv3(b off n c:Nat)(S:Nat→ByteArray)(x:ByteArray)(w:World)(hbig:n<4611686018427387904)(hc:∀j,j<n→w.cell? ⟨b,off+j,none⟩=some (.string (S j)))(hs:∀i j,i<j→j<n→Qyy (S i) (S j)=-1):
 Calls prog 128 #[Qv (some ⟨b,off,none⟩) n c,x] w (Kq0 S n x w):=by
 have HC:=hid hc;have HS:=hid hs;clear hc hs;go_enter func128,ntmps128;go_wp2_with fail
 go_loopw[7,8] (fun s7 s8 wr=>∃lo hi:Nat,s7=.int .i64 lo∧s8=.int .i64 hi∧Ujb S n x lo hi∧wr=w) (fun s7 s8 _=>(intOf s8-intOf s7).toNat)
 case atStart=>exact⟨0,n,rfl,rfl,⟨Zi _,Zz _,fun j h=>absurd h (by omega),fun j h1 h2=>absurd h1 (by omega)⟩,rfl⟩
 case round=>
  obtain⟨lo,hi,rfl,rfl,hh,rfl⟩:=hrel;have hlh:=hh.1;have hin:=hh.2.1;have HH:=hid hh;clear hh;by_cases hlt:lo<hi
  ·have cm:=HC.out ((lo+hi)/2) (by omega);have HU:=hid (Uws HS.out HH.out (m:=(lo+hi)/2) (by omega) (by omega));have HDn:=hid (Ujd HS.out HH.out (m:=(lo+hi)/2) (by omega) (by omega));generalize S ((lo+hi)/2)=y at cm HU HDn;by_cases hy:Qyy y x=-1
   ·go_wp2_with(go_at_call 147;go_loud (refine(Ykc _ _ _).mono ?_;rintro e w2 ⟨rfl,rfl⟩))
    go_roundw
    case rel=>exact⟨(lo+hi)/2+1,hi,by rw[show((lo:Int)+(hi:Int))/2+1=(((lo+hi)/2+1:Nat):Int) by omega],rfl,HU.out hy,trivial⟩
    case measure=>simp[intOf];omega
   ·go_wp2_with(go_at_call 147;go_loud (refine(Ykc _ _ _).mono ?_;rintro e w2 ⟨rfl,rfl⟩))
    go_roundw
    case rel=>exact⟨lo,(lo+hi)/2,rfl,by rw[show((lo:Int)+(hi:Int))/2=(((lo+hi)/2:Nat):Int) by omega],HDn.out hy,trivial⟩
    case measure=>simp[intOf];omega
  ·obtain rfl:hi=lo:=by omega
   have HE:=hid (Ux2 HS.out HH.out);by_cases hn:hi<n
   ·have cl:=HC.out hi hn;generalize S hi=y at cl HE;by_cases hyx:y=x
    ·subst hyx;go_wp2_with fail
     go_ret2
     exact⟨hi,true,rfl,⟨fun _=>HE.out.1 (by simp[hn]),fun _=>rfl⟩,Below.refl _ _⟩
    ·have hne:(y.toList==x.toList)=false:=by
      rw[Jw];intro h;rw[Yp,Yp] at h;exact hyx (Qv1 h)
     go_wp2
     all_goals go_ret2
     all_goals exact⟨hi,false,rfl,⟨fun h=>(by cases h),fun h=>absurd (HE.out.2 h).2 hyx⟩,Below.refl _ _⟩
   ·go_wp2_with fail
    go_ret2
    exact⟨hi,false,rfl,⟨fun h=>(by cases h),fun h=>absurd (HE.out.2 h).1 hn⟩,Below.refl _ _⟩
theorem Yyk{s:ByteArray}(h:0<s.size):s.data.toList.head?=some s[0]:=by
 rw[List.head?_eq_getElem?];simp[h];rfl
theorem eqS(a:ByteArray)(l:List UInt8):((a.toList==l)=true)=(a=⟨l.toArray⟩):=by
 rw[Yp,beq_iff_eq];refine propext ⟨fun h=>Qv1 (by simpa using h),fun h=>by rw[h]⟩
theorem Uwt{s:ByteArray}(hz:0<s.size):Qwp s=if 2≤s.size∧(((s.extract 0 2).toList==[60,62])=true∨((s.extract 0 2).toList==[60,61])=true∨((s.extract 0 2).toList==[62,61])=true) then 2 else if(0:Int)≤Lib.indexByte Yv2 s[0] then 1 else 0:=by
 unfold Qwp;rw[Yyk hz];have h1: "<>".toUTF8=⟨[60,62].toArray⟩:=by decide+kernel
 have h2: "<=".toUTF8=⟨[60,61].toArray⟩:=by decide+kernel
 have h3: ">=".toUTF8=⟨[62,61].toArray⟩:=by decide+kernel
 simp only[eqS,h1,h2,h3,Option.any_some,Lib.contains_iff_indexByte,Zu]
theorem Yv4(s:ByteArray)(w:World)(hz:0<s.size):Calls prog 64 #[s] w fun e w'=>e=.returned (.int .i64 (Qwp s))∧w=w':=by
 have HC:Hid (∀w,Calls prog 109 #[.string ⟨#[40,41,44,59,46,42,43,45,47,37,61,60,62]⟩,.int .u8 (s[0].toNat:Int)] w fun e w'=>e=.returned (.int .i64 (Lib.indexByte Yv2 s[0]))∧w'=w):=hid fun w=>by
  have h:=Tryz.strings_IndexByte ⟨#[40,41,44,59,46,42,43,45,47,37,61,60,62]⟩ (s[0].toNat:Int) w;have e:((s[0].toNat:Int)).toNat.toUInt8=s[0]:=by simp
  rw[e] at h;exact h
 have HP:=hid (Uwt hz);generalize Qwp s=r at HP⊢;generalize Lib.indexByte Yv2 s[0]=ix at HP HC;have HR:Hid (∀n:Nat,(if 2≤s.size∧(((s.extract 0 2).toList==[60,62])=true∨((s.extract 0 2).toList==[60,61])=true∨((s.extract 0 2).toList==[62,61])=true) then 2 else if(0:Int)≤ix then 1 else 0)=n→Ending.returned (.int .i64 n)=.returned r):=hid fun n h=>by rw[HP.out,h]
 clear HP;go_enter func64,ntmps64
 go_wp2_with(go_at_call 109;go_loud (refine(HC.out _).mono ?_;rintro e w2 ⟨rfl,rfl⟩))
 all_goals go_ret
 all_goals first
  |exact⟨HR.out 0 (by rw[if_neg (fun h=>by have:=h.1;omega)];rw[if_neg (by omega)]),rfl⟩
  |exact⟨HR.out 1 (by rw[if_neg (fun h=>by have:=h.1;omega)];rw[if_pos (by omega)]),rfl⟩
  |exact⟨HR.out 2 (by simp_all<;>omega),rfl⟩
  |exact⟨HR.out 1 (by simp_all<;>omega),rfl⟩
  |exact⟨HR.out 0 (by simp_all<;>omega),rfl⟩
def kwS(i:Nat):ByteArray:=⟨(kwL.getD i []).toArray⟩
theorem Uje:∀i j,i<j→j<51→Qyy (kwS i) (kwS j)=-1:=by
 have h:(List.range 51).all (fun j=>(List.range j).all fun i=>decide (Lib.compareBytes (kwL.getD i []) (kwL.getD j [])=-1))=true:=by decide+kernel
 intro i j hij hj;have h1:=Yn.1 (Yn.1 h j (List.mem_range.2 hj)) i (List.mem_range.2 hij);simpa[Qyy,kwS] using h1
theorem Kq1(s:ByteArray):(∃j,j<51∧kwS j=s)↔kwL.contains s.data.toList=true:=by
 have hl:kwL.length=51:=by decide+kernel
 rw[List.contains_iff_mem,Yt];constructor
 ·rintro⟨j,hj,rfl⟩;exact⟨j,by omega,by simp[kwS,hl,hj]⟩
 ·rintro⟨j,hj,h⟩;exact⟨j,by omega,Qv1 (by simp[kwS,hj,←h])⟩
theorem Ykd(s:ByteArray)(w:World):Calls prog 106 #[s] w (Qqd (.bool (kwL.contains s.data.toList)) w):=by
 go_enter func106,ntmps106;go_wp2_with fail
 generalize hW:Qw w _=W;have hh:W=Qw w (.cells (kwL.map fun l=>Value.string ⟨l.toArray⟩).toArray 9):=hW.symm.trans (by kernel_rfl);clear hW;have hl:kwL.length=51:=by decide+kernel
 have hc:∀j,j<51→W.cell? ⟨w.heap.size,0+j,none⟩=some (.string (kwS j)):=by
  intro j hj;rw[Ye,hh];refine(cell_of_row (w.alloc _) w.heap.size j _ 9 _ (Zw w _)).trans ?_;simp[kwS,hl,hj]
 have hb:Below w.heap.size w W:=by rw[hh];exact Jzq _ _
 clear hh hl;refine(Yv3 w.heap.size 0 51 51 kwS s W (by omega) hc Uje).mono ?_;rintro e w2 ⟨i,b,rfl,hq,hb2⟩;rw[Kq1] at hq;have HQ:Hid (kwL.contains s.data.toList=b):=hid (by rw[Bool.eq_iff_iff];exact hq.symm);have HB:=hid (hb.trans (hb2.mono hb.size));clear hq hb hb2 hc;go_wp2_with fail
 go_ret;exact⟨Qzx HQ.out.symm,HB.out⟩
end Go.Proofs.YtgepbohjmgaojaaGreatDoor
