/- The place of a trigger: what its expressions can refer to. Statements as plain data, and how they lie in memory. -/
import Derived.Test.YtgepbohjmgaojaaGreatDoorU10
set_option linter.all false
set_option maxHeartbeats 20000000
set_option maxRecDepth 100000
namespace Go.Proofs.YtgepbohjmgaojaaGreatDoor
open World renaming alloc→Qw,setCell→Qg
open Value renaming slice→Qv
open Go.Proofs.Tryz
open Lib(hid)
open Go.RowKit
theorem Qjw{w:World}{S:Nat}{a0 a1 a2 a3 a4 a5 a6 a7 a8 a9 a10:Value}{e:TypeId}(h:w.heap[S]?=some (.cells #[a0,a1,a2,a3,a4,a5,a6,a7,a8,a9,a10] e (0,0))):
 w.cell? ⟨S,0,none⟩=some a0∧w.cell? ⟨S,1,none⟩=some a1∧w.cell? ⟨S,2,none⟩=some a2∧w.cell? ⟨S,3,none⟩=some a3∧w.cell? ⟨S,4,none⟩=some a4∧w.cell? ⟨S,5,none⟩=some a5∧w.cell? ⟨S,6,none⟩=some a6∧w.cell? ⟨S,7,none⟩=some a7∧w.cell? ⟨S,8,none⟩=some a8∧w.cell? ⟨S,9,none⟩=some a9∧w.cell? ⟨S,10,none⟩=some a10∧
 (∀i,w.frozen? ⟨S,i,none⟩=false)∧S<w.heap.size:=by
 refine⟨by simp[World.cell?,h],by simp[World.cell?,h],by simp[World.cell?,h],by simp[World.cell?,h],by simp[World.cell?,h],by simp[World.cell?,h],by simp[World.cell?,h],by simp[World.cell?,h],by simp[World.cell?,h],by simp[World.cell?,h],by simp[World.cell?,h],fun i=>by simp[World.frozen?,h],(Zq.1 h).1⟩
theorem Yzk{α:Type}{w:World}{R:(Nat→Prop)→World→α→List Value→Prop}{P:Program}{ops:Array Oper}{rest:List Oper}{o:Oper}{a:Act}{Q:Exit→Act→World→Prop}(S:Qx8 R)(hgd:o.guard=none)(s x:Operand)(t:TypeId)
 (ho:o.op=.call {callee:=.builtin .append,args:=#[s,x],argTypes:=#[t,t]})
 (e:TypeId)(z:Value)(size bytes:Nat)(ht:P.underlying t=some (.slice e))(hinfo:(P.info? e).map (fun i=>(i.zero,i.size,i.bytes))=some (some z,size,bytes))(hzs:z.cells.size=size)(hsz:0<size)
 (lo:Nat)(v:Value)(b:Nat)(arr:Array Value)(xs:List α)(y:α)(hs:a.eval s=v)(hx:a.eval x=Qv (some ⟨b,0,none⟩) 1 1)(hb:b=w.heap.size)(hown:Qqn lo w e size R v xs)(hlen:arr.toList.length=size)(hy:R (Qjl lo v) w y arr.toList)
 (hN:(xs.length+1)*bytes≤140737488355328)(hN2:xs.length+1≤maxLen)(hlo:lo≤w.heap.size)
 (h:∀v' w',Qqn lo w' e size R v' (xs++[y])→Qqb (Qq4 v) w w'→(∀k,Qq4 v' k→Qq4 v k∨k=(w.alloc (.cells arr e)).heap.size)→wpList P ops Q rest (a.put o.dst v') w'):wpList P ops Q (o::rest) a (w.alloc (.cells arr e)):=by
 refine Qje hgd s x t ho e z size bytes ht hinfo hzs hsz (R:=R (Qjl lo v) w) (M:=fun _=>False) lo v _ xs [y] hs hx ?_ (Qq6 y hb id hlen hy) (fun _ _ cs hc=>S.one hc) (by simpa using hN) (by simpa using hN2) (by simp;omega) ?_
 ·exact Qqf.kept hown ((Qqb.refl (fun _=>False) w).alloc _) (fun _ _=>id) fun _ _ _ h=>h
 ·intro v' w' ho' hk hat;exact h v' w' (Qqn.snoc S ho' hk (hat (by simp))) (((Qqb.refl _ w).alloc _).trans hk) (hat (by simp))
def Ukf(P:Nat)(M:Nat→Prop)(w:World)(s:Sch)(cs:List Value):Prop:=Jje (fun k=>M k∨k=P) w s cs
theorem Qye(P:Nat):Qx8 (Ukf P) where
 keep h k:=Jje.keep h (k.weak fun _ _ h=>.inl h)
 weak h hM:=Jje.weak (fun k hk h=>h.imp (hM k hk) id) h
 one h:=Ujn.one h
theorem Ujo{P lo size:Nat}{w w':World}{e:TypeId}{v:Value}{xs:List Sch}(h:Qqn lo w e size (Ukf P) v xs)(hno:¬Qq4 v P)(k:Qqb (At P) w w'):Qqn lo w' e size (Ukf P) v xs:=
 Qqf.kept h k (fun b hb hP=>hno (by unfold At at hP;subst hP;exact hb)) fun _ _ _ hc=>Jje.keep hc (k.weak fun b _ h=>.inr h)
def Ukg(bf each:Bool)(r:Int)(s:Sch)(w:World)(e:Ending)(w':World):Prop:=∃fa fc ta tc,e=.returned (.agg #[.slice fa (frT each r s.cols).length fc,.slice ta (Qq3++trT bf each r s.cols).length tc])∧
 Qqz (Old w.heap.size) w' (.slice fa (frT each r s.cols).length fc) (frT each r s.cols)∧Qjt (Old w.heap.size) w' (.slice ta (Qq3++trT bf each r s.cols).length tc) (Qq3++trT bf each r s.cols)∧Below w.heap.size w w'
theorem Uyc(bf each:Bool)(r:Int)(cols:List Col):(trT bf each r cols).length≤2:=by
 unfold trT
 split
 ·simp
 ·unfold Jws
  split
  ·simp
  ·split<;>simp
theorem Ywd{s:Sch}(hs:s∈Qq3):s.cols.length≤10:=by
 simp only[Qq3,Zs,Zo,Yu] at hs;rcases hs with rfl|rfl|rfl<;>decide
theorem Ujp(n1:ByteArray)(bf each:Bool)(r:Int)(h0:0≤r)(h1:r<3)(o1 o2 o3 o4 o5 o6:Option Addr)(l1 l2 l3 l4 l5 l6 c1 c2 c3 c4 c5 c6:Nat)(s:Sch)(hs:s∈Qq3)(w:World):
 Calls prog 92 #[.agg #[n1,s.name,bf,.int .i64 (1+r),Qv o1 l1 c1,each,Qv o2 l2 c2,Qv o3 l3 c3,Qv o4 l4 c4,Qv o5 l5 c5,Qv o6 l6 c6]] w (Ukg bf each r s w):=by
 have hcn:=Ywd hs;have HSCH:=hid fun W=>Qyd s hs W;have HFB:=hid fun ca cc W hc=>Ykj n1 s.name bf each r h0 h1 o1 o2 o3 o4 o5 o6 l1 l2 l3 l4 l5 l6 c1 c2 c3 c4 c5 c6 s.name ca cc s.cols W hc (by omega);have HTB:=hid fun ca cc W hc=>Ywc n1 s.name ⟨#[]⟩ bf each r h0 h1 o1 o2 o3 o4 o5 o6 l1 l2 l3 l4 l5 l6 c1 c2 c3 c4 c5 c6 s.name ca cc s.cols W hc (by omega);have HTL:=hid (Uyc bf each r s.cols);unfold Ukg;generalize hfl:frT each r s.cols=fl at HFB⊢;generalize htl:trT bf each r s.cols=tl at HTB HTL⊢;clear hfl htl hs;go_enter func92,ntmps92;go_wp2_with fail
 generalize hW:((w.alloc _).alloc _)=W0
 have hx0:W0.heap[w.heap.size]?=some (.cells #[n1,s.name,bf,.int .i64 (1+r),Qv o1 l1 c1,each,Qv o2 l2 c2,Qv o3 l3 c3,Qv o4 l4 c4,Qv o5 l5 c5,Qv o6 l6 c6] 35 (0,0)):=by
  rw[←hW];exact(Jy _ _ (by simp)).trans (Zw w _)
 have hr0:W0.heap[w.heap.size+1]?=some (.cells #[(),()] 122 (0,0)):=by
  rw[←hW];have h:=Zw (w.alloc (.cells #[n1,s.name,bf,.int .i64 (1+r),Qv o1 l1 c1,each,Qv o2 l2 c2,Qv o3 l3 c3,Qv o4 l4 c4,Qv o5 l5 c5,Qv o6 l6 c6] 35)) (.cells #[(),()] 122);rw[Zn] at h;exact h
 have hb0:Below w.heap.size w W0:=by rw[←hW];exact((Below.refl _ _).alloc (Zz _) _).alloc (by simp) _
 have hz0:w.heap.size+1<W0.heap.size:=(Zq.1 hr0).1;clear hW;refine(HSCH.out W0).mono ?_;rintro e w1 ⟨vc,rfl,hc,hb⟩;obtain⟨ca,cc,rfl,_⟩:=hc.shape;have hz1:=hb.size;have hx1:=(hb.block _ (by omega)).trans hx0;have hr1:=(hb.block _ (by omega)).trans hr0;have hb1:=hb0.trans (hb.mono (by omega));have hc1:Qq1 NoM w1 (Qv ca s.cols.length cc) s.cols:=hc.weak fun _ _ h=>h.elim;clear hc hb hb0 hx0 hr0;obtain⟨x0,x1,x2,x3,x4,x5,x6,x7,x8,x9,x10,_⟩:=Qjw hx1;dsimp only;go_upto_region 2 with fail
 generalize hW1:Qw w1 _=W1;have hs1:W1.heap[w1.heap.size]?=some (.cells #[s.name,Qv ca s.cols.length cc] 29 (0,0)):=by rw[←hW1];exact Zw w1 _
 have hbw:Below w1.heap.size w1 W1:=by rw[←hW1];exact(Below.refl _ _).alloc (Zz _) _
 have hzW1:w1.heap.size<W1.heap.size:=(Zq.1 hs1).1;have HX1:=hid ((hbw.block _ (by omega)).trans hx1);have HR1:=hid ((hbw.block _ (by omega)).trans hr1);have HS1:=hid hs1;have HB1:=hid (hb1.trans (hbw.mono (by omega)));have HC1:=hid (Qq1.keep hc1 (.bel hbw));clear hW1 hbw hx1 hr1 hb1 hc1 x0 x1 x2 x3 x4 x5 x6 x7 x8 x9 x10;obtain⟨x0,x1,x2,x3,x4,x5,x6,x7,x8,x9,x10,_⟩:=Qjw HX1.out;obtain⟨y0,y1,_⟩:=Qjk hs1;clear hs1;go_wp2_with fail
 refine(HFB.out ca cc W1 HC1.out).mono ?_;rintro e w2 ⟨v,rfl,hf,hb⟩;obtain⟨fa,fc,rfl,_⟩:=Qqn.shape hf;have hz2:=hb.size;have HF2:Hid (Qqz (Out W1.heap.size w2.heap.size) w2 (Qv fa fl.length fc) fl):=hid (Qqz.weak (fun k hk h=>by unfold Out at h;unfold Old;omega) (Qqn.rows Qxn hf));have HB2:=hid (HB1.out.trans (hb.mono (by omega)));have HB12:=hid hb;clear hf hb x0 x1 x2 x3 x4 x5 x6 x7 x8 x9 x10 y0 y1;dsimp only;go_wp2_with fail
 refine(Yki w2).mono ?_;rintro e w3 ⟨b,rfl,hsc,hb⟩;have hz3:=hb.size;have HG3:Hid (Qqn w2.heap.size w3 29 2 (Ukf w3.heap.size) (Qv (some ⟨b,0,none⟩) 3 3) Qq3):=hid (Qqf.imp hsc fun _ _ _ hc=>Jje.weak (fun k hk h=>h.resolve_right (by omega)) hc);have HB3:=hid (HB2.out.trans (hb.mono (by omega)));have HB13:=hid (Qqu HB12.out hb);have HF3:=hid (Qqz.keep HF2.out (.bel hb));have hbl:w2.heap.size≤b∧b<w3.heap.size:=Qqf.lt hsc (k:=b) rfl;clear hsc hb;dsimp only;go_upto_region 3 with fail
 generalize hW3:Qw w3 _=W3;have hp3:W3.heap[w3.heap.size]?=some (.cells #[Qv fa fl.length fc,Qv (some ⟨b,0,none⟩) 3 3] 122 (0,0)):=by rw[←hW3];exact Zw w3 _
 have hbw:Below w3.heap.size w3 W3:=by rw[←hW3];exact(Below.refl _ _).alloc (Zz _) _
 have hzW3:w3.heap.size<W3.heap.size:=(Zq.1 hp3).1;have HP3:=hid hp3;have HBW3:=hid (HB3.out.trans (hbw.mono (by omega)));have HB1W:=hid (Qqu HB13.out hbw);have HFW:=hid (Qqz.keep HF3.out (.bel hbw));have HGW:=hid (Qqn.bel (Qye w3.heap.size) HG3.out hbw);clear hW3 hbw hp3;obtain⟨x0,x1,x2,x3,x4,x5,x6,x7,x8,x9,x10,_⟩:=Qjw ((HB1W.out.block _ (by omega)).trans HX1.out);obtain⟨y0,y1,_⟩:=Qjk ((HB1W.out.block _ hzW1).trans HS1.out);go_wp2_with fail
 refine(HTB.out ca cc W3 (Qq1.keep HC1.out (.bel HB1W.out))).mono ?_;rintro e w4 ⟨v,rfl,ht,hb⟩;obtain⟨ta,tc,rfl,_⟩:=ht.shape;have hz4:=hb.size;have HT4:=hid ht;have HB4:=hid (HBW3.out.trans (hb.mono (by omega)));have hb4:Below W3.heap.size W3 w4:=hb;have HP4:=hid ((hb.block _ hzW3).trans HP3.out);have HR4:=hid ((hb4.block _ (by omega)).trans ((HB1W.out.block _ (by omega)).trans HR1.out));have HF4:=hid (Qqz.keep HFW.out (.bel hb));have HG4:=hid (Qqn.bel (Qye w3.heap.size) HGW.out hb);clear ht hb hb4 x0 x1 x2 x3 x4 x5 x6 x7 x8 x9 x10 y0 y1;dsimp only;go_wp2_with fail
 have hw41:w.heap.size+1<w4.heap.size:=by omega
 have htl2:=HTL.out
 go_loopw[20] (fun i wr=>∃(j:Nat) (vt:Value),i=.int .i64 j∧j≤tl.length∧wr.heap[w3.heap.size]?=some (.cells #[Qv fa fl.length fc,vt] 122 (0,0))∧wr.heap[w.heap.size+1]?=some (.cells #[(),()] 122 (0,0))∧
  Qqn w2.heap.size wr 29 2 (Ukf w3.heap.size) vt (Qq3++tl.take j)∧Qqz (Out W1.heap.size w2.heap.size) wr (Qv fa fl.length fc) fl∧Qw5 (Out W3.heap.size w4.heap.size) wr (Qv ta tl.length tc) tl∧Below w.heap.size w wr∧w4.heap.size≤wr.heap.size∧∀k,Qq4 vt k→k≠w3.heap.size∧(k<W3.heap.size∨w4.heap.size≤k)) (fun i _=>tl.length-(intOf i).toNat)
 case atStart=>exact⟨0,Qv (some ⟨b,0,none⟩) 3 3,rfl,Zi _,HP4.out,HR4.out,by simpa using HG4.out,HF4.out,HT4.out,HB4.out,Zz _,fun k hk=>by have:b=k:=(by simpa[Qq4,Value.ownBlock] using hk);omega⟩
 case round=>
  clear HP4 HR4 HG4 HF4 HT4 HB4;rename World=>wr;obtain⟨j,vt,rfl,hj,hp,hr,hg,hf,ht,hb,hz,ho⟩:=hrel;have HP:=hid hp;have HR:=hid hr;have HG:=hid hg;have HF:=hid hf;have HT:=hid ht;have HB:=hid hb;have HO:=hid ho;have hzp:=(Zq.1 hp).1;clear hr hg hf hb ho;by_cases hlt:j<tl.length
  ·rcases ht.open with⟨_,h0⟩|⟨tb,to',tcap,hv',_,htb,hcap,_,hx⟩
   ·rw[h0] at hlt;simp at hlt
   simp only[Yz] at hv';obtain⟨rfl,_,rfl⟩:=hv';have hxj:tl[j]?=some tl[j]:=Zg hlt;have HTK:Hid (Qq3++tl.take (j+1)=(Qq3++tl.take j)++[tl[j]]):=hid (by rw[Ki hlt,Jk]);obtain⟨cs,hc,_,hcs⟩:=hx j _ hxj;generalize tl[j]=tj at hxj hc HTK;obtain⟨vcj,nj,aj,lj,cj,rfl,hcj⟩:=hc;obtain⟨cja,cjc,rfl,_⟩:=hcj.shape;obtain⟨d0,d1,d2,d3⟩:=Qqr.c4 hcs;have HCJ:=hid hcj;have i0:(0:Int)≤(j:Int):=by omega
   have i1:(j:Int)<(tl.length:Int):=by omega
   clear hx hcs hcj hxj ht hp;go_upto_region 6 with fail
   generalize hWj:Qw wr _=Wj;have hsj:Wj.heap[wr.heap.size]?=some (.cells #[tj.name,Qv cja tj.cols.length cjc,nj,Qv aj lj cj] 189 (0,0)):=by rw[←hWj];exact Zw wr _
   have hbj:Below wr.heap.size wr Wj:=by rw[←hWj];exact(Below.refl _ _).alloc (Zz _) _
   have hzj:wr.heap.size<Wj.heap.size:=by rw[←hWj];simp
   have HPJ:=hid ((hbj.block _ hzp).trans HP.out);have HRJ:=hid ((hbj.block _ (by omega)).trans HR.out);have HGJ:=hid (Qqn.bel (Qye w3.heap.size) HG.out hbj);have HFJ:=hid (Qqz.keep HF.out (.bel hbj));have HTJ:=hid (Qw5.keep HT.out (.bel hbj));have HBJ:=hid (HB.out.trans (hbj.mono (by omega)));have HCX:=hid (Qq1.keep HCJ.out (.bel hbj));have HLN:Hid ((Qq3++tl.take j).length≤5):=hid (by have:=HTL.out;simp[Qq3];omega);clear hWj hbj d0 d1 d2 d3;obtain⟨e0,e1,e2,e3,_⟩:=Qzo hsj;obtain⟨p0,p1,pf0,pf1,pz⟩:=Qjk HPJ.out;clear hsj;generalize hxs:Qq3++tl.take j=xs at HGJ HTK HLN
   go_wp2_with(at_builtin;go_loud (refine Yzk (w:=Wj) (Qye w3.heap.size) rfl _ _ 120 rfl 29 _ 2 40 underlying120 Uya rfl (by decide) w2.heap.size vt Wj.heap.size #[tj.name,Qv cja tj.cols.length cjc] xs tj rfl rfl rfl HGJ.out rfl ⟨_,rfl,Qq1.weak (fun k hk h=>by unfold Out;rcases h with(h|h)|h;(left;omega);(exact(HO.out k h).2);(left;omega)) HCX.out⟩ ?_ ?_ ?_ ?_;(focus(have:=HLN.out;omega));(focus(have:=HLN.out;unfold maxLen;omega));(focus omega);intro v2 w5 ho hk hat;have z5:=hk.size;obtain⟨va2,vc2,hv2,_⟩:=Qqn.shape ho;generalize hnn:(xs++[tj]).length=nn at hv2;subst hv2;have HNN:=hid hnn;clear hnn;have hno:∀k,Qq4 vt k→w2.heap.size≤k∧k<Wj.heap.size:=(fun k h=>Qqf.lt HGJ.out h);have hp5:=(hk.block _ pz (fun h=>(HO.out _ h).1 rfl)).trans HPJ.out;have HP5:=hid hp5;have HR5:=hid ((hk.block (w.heap.size+1) (by omega) (fun h=>by have:=(hno _ h).1;omega)).trans HRJ.out);have HG5:=hid ho;have HF5:=hid (Qqz.keep HFJ.out (hk.weak fun k _ h=>by have:=(hno _ h).1;unfold Out;omega));have HT5:=hid (Qw5.keep HTJ.out (hk.weak fun k _ h=>by unfold Out;exact(HO.out k h).2));have HB5:=hid (HBJ.out.trans (hk.toBelow (by omega) fun k h1 h2=>by have:=(hno _ h2).1;omega));have HO5:Hid (∀k,Qq4 (Qv va2 nn vc2) k→Qq4 vt k∨Wj.heap.size≤k):=hid (fun k h=>(hat k h).imp id fun h=>by rw[h];simp);clear p0 p1 pf0 pf1 e0 e1 e2 e3;obtain⟨p0,p1,pf0,pf1,pz5⟩:=Qjk hp5;clear ho hk hp5 hat))
   go_roundw
   case rel=>
    have ks:Qqb (At w3.heap.size) w5 (w5.setCell ⟨w3.heap.size,1,none⟩ (Qv va2 nn vc2)):=(Qqb.refl (At w3.heap.size) w5).setCell (p:=⟨w3.heap.size,1,none⟩) (fun _=>rfl) _;refine⟨j+1,_,by go_num,by omega,Jwm HP5.out,(ks.block _ (by omega) (fun h=>by unfold At at h;omega)).trans HR5.out,?_,Qqz.keep HF5.out (ks.weak fun k _ h=>by unfold At at h;unfold Out;omega),Qw5.keep HT5.out (ks.weak fun k _ h=>by unfold At at h;unfold Out;omega),HB5.out.trans (ks.toBelow (by omega) fun k hk h=>by unfold At at h;omega),by have:=ks.size;omega,fun k hk=>?_⟩
    ·rw[HTK.out];exact Ujo HG5.out (fun h=>by rcases HO5.out _ h with h|h;exact(HO.out _ h).1 rfl;omega) ks
    ·rcases HO5.out k hk with h|h
     ·exact HO.out k h
     ·omega
   case measure=>simp[intOf];omega
  ·obtain rfl:j=tl.length:=by omega
   have hg:=HG.out;rw[Jo] at hg;obtain⟨va,vc,hv,_⟩:=Qqn.shape hg;have HG:=hid hg;clear hg;subst hv;generalize hnn:(Qq3++tl).length=nn at HG HP HO⊢;clear hp ht;obtain⟨p0,p1,pf0,pf1,pz⟩:=Qjk HP.out;obtain⟨q0,q1,qf0,qf1,qz⟩:=Qjk HR.out;go_wp2_with fail
   refine Zh (v:=.agg #[Qv fa fl.length fc,Qv va nn vc]) (by simp[results,results92,go_sem,q0,q1]) rfl ?_;have ks:Qqb (At (w.heap.size+1)) wr ((wr.setCell ⟨w.heap.size+1,0,none⟩ (Qv fa fl.length fc)).setCell ⟨w.heap.size+1,1,none⟩ (Qv va nn vc)):=((Qqb.refl (At (w.heap.size+1)) wr).setCell (p:=⟨w.heap.size+1,0,none⟩) (fun _=>rfl) _).setCell (p:=⟨w.heap.size+1,1,none⟩) (fun _=>rfl) _;have hzz:=HB.out.size;have h1:Qjt (Old w2.heap.size) wr (Qv va nn vc) (Qq3++tl):=Qqa.weak (Qqn.rows (Qye w3.heap.size) HG.out) (fun k _ h=>h) fun _ _ _ hc=>Jje.weak (fun k _ h=>.inl h) hc;refine⟨fa,fc,va,vc,by rw[hnn],Qqz.weak (fun k hk h=>by unfold Old at h;unfold Out;omega) (Qqz.keep HF.out (ks.weak fun k _ h=>by unfold At at h;unfold Out;omega)),?_,HB.out.trans (ks.toBelow hzz fun k hk h=>by unfold At at h;omega)⟩;rw[hnn];exact Qjt.weak (fun k hk h=>by unfold Old at h⊢;omega) (Qjt.keep h1 (ks.weak fun k _ h=>by unfold At at h;unfold Old;omega))
structure Qx4 where
 col:ByteArray
 ex:Ex
structure Qyf where
 table:ByteArray
 col:ByteArray
 low:Int
 high:Int
structure Qzq where
 kind:Int
 table:ByteArray
 rows:List (List Ex)
 query:List Qu
 sets:List Qx4
 whr:List Ex
 text:ByteArray
structure Qks where
 name:ByteArray
 table:ByteArray
 before:Bool
 event:Int
 ofs:List ByteArray
 each:Bool
 prec:List ByteArray
 foll:List ByteArray
 rank:List Qyf
 cond:List Ex
 acts:List Qzq
structure Qvu where
 kind:Int
 sch:Sch
 name:ByteArray
 trg:Qks
 qry:Qu
 act:Qzq
def Yzl(M:Nat→Prop)(w:World)(l:List Ex)(cs:List Value):Prop:=∃v,cs=[v]∧Qqq M w v l
def Jxc(M:Nat→Prop)(w:World)(s:Qx4)(cs:List Value):Prop:=∃ce,cs=.string s.col::ce∧EC M w s.ex ce
def Uy2(r:Qyf)(cs:List Value):Prop:=cs=[.string r.table,.string r.col,.int .i64 r.low,.int .i64 r.high]
def Qjm(M:Nat→Prop)(w:World)(v:Value)(l:List ByteArray):Prop:=Qqa M w 1 Qjz v l
def Qzk(M:Nat→Prop)(w:World)(v:Value)(l:List Qyf):Prop:=Qqa M w 4 Uy2 v l
def Jqc(M:Nat→Prop)(w:World)(v:Value)(l:List (List Ex)):Prop:=Qqa M w 1 (Yzl M w) v l
def Qzb(M:Nat→Prop)(w:World)(v:Value)(l:List Qx4):Prop:=Qqa M w 11 (Jxc M w) v l
def Jqd(a:Qzq)(vr vq vs vw:Value):List Value:=[.int .i64 a.kind,.string a.table,vr,vq,vs,vw,.string a.text]
def Qv5(M:Nat→Prop)(w:World)(a:Qzq)(cs:List Value):Prop:=∃vr vq vs vw,cs=Jqd a vr vq vs vw∧Jqc M w vr a.rows∧Qz1 M w vq a.query∧Qzb M w vs a.sets∧Qqq M w vw a.whr
def Qke(M:Nat→Prop)(w:World)(v:Value)(l:List Qzq):Prop:=Qqa M w 7 (Qv5 M w) v l
def Jx4(t:Qks)(vo vp vf vr vw va:Value):List Value:=[.string t.name,.string t.table,.bool t.before,.int .i64 t.event,vo,.bool t.each,vp,vf,vr,vw,va]
def Jks(M:Nat→Prop)(w:World)(t:Qks)(cs:List Value):Prop:=∃vo vp vf vr vw va,cs=Jx4 t vo vp vf vr vw va∧Qjm M w vo t.ofs∧Qjm M w vp t.prec∧Qjm M w vf t.foll∧Qzk M w vr t.rank∧Qqq M w vw t.cond∧Qke M w va t.acts
def Jy8(M:Nat→Prop)(w:World)(s:Qvu)(cs:List Value):Prop:=∃c1 ct cq ca,cs=.int .i64 s.kind::(c1++.string s.name::(ct++cq++ca))∧Jje M w s.sch c1∧Jks M w s.trg ct∧QC M w s.qry cq∧Qv5 M w s.act ca
section
variable{M:Nat→Prop} {w w':World} (k:Qqb M w w')
include k
theorem Yzl.keep{l:List Ex}{cs:List Value}(h:Yzl M w l cs):Yzl M w' l cs:=let⟨v,a,b⟩:=h;⟨v,a,b.keep k⟩
theorem Jxc.keep{s:Qx4}{cs:List Value}(h:Jxc M w s cs):Jxc M w' s cs:=let⟨ce,a,b⟩:=h;⟨ce,a,EC.keep k _ _ b⟩
theorem Qjm.keep{v:Value}{l:List ByteArray}(h:Qjm M w v l):Qjm M w' v l:=Qqa.map h k fun _ _ _ h=>h
theorem Qzk.keep{v:Value}{l:List Qyf}(h:Qzk M w v l):Qzk M w' v l:=Qqa.map h k fun _ _ _ h=>h
theorem Jqc.keep{v:Value}{l:List (List Ex)}(h:Jqc M w v l):Jqc M w' v l:=Qqa.map h k fun _ _ _ h=>Yzl.keep k h
theorem Qzb.keep{v:Value}{l:List Qx4}(h:Qzb M w v l):Qzb M w' v l:=Qqa.map h k fun _ _ _ h=>Jxc.keep k h
theorem Qv5.keep{a:Qzq}{cs:List Value}(h:Qv5 M w a cs):Qv5 M w' a cs:=by
 obtain⟨vr,vq,vs,vw,h0,h1,h2,h3,h4⟩:=h;exact⟨vr,vq,vs,vw,h0,Jqc.keep k h1,Qz1.keep h2 k,Qzb.keep k h3,Qqq.keep h4 k⟩
theorem Qke.keep{v:Value}{l:List Qzq}(h:Qke M w v l):Qke M w' v l:=Qqa.map h k fun _ _ _ h=>Qv5.keep k h
theorem Jks.keep{t:Qks}{cs:List Value}(h:Jks M w t cs):Jks M w' t cs:=by
 obtain⟨vo,vp,vf,vr,vw,va,h0,h1,h2,h3,h4,h5,h6⟩:=h;exact⟨vo,vp,vf,vr,vw,va,h0,Qjm.keep k h1,Qjm.keep k h2,Qjm.keep k h3,Qzk.keep k h4,Qqq.keep h5 k,Qke.keep k h6⟩
theorem Jy8.keep{s:Qvu}{cs:List Value}(h:Jy8 M w s cs):Jy8 M w' s cs:=by
 obtain⟨c1,ct,cq,ca,h0,h1,h2,h3,h4⟩:=h;exact⟨c1,ct,cq,ca,h0,h1.keep k,Jks.keep k h2,QC.keep k h3,Qv5.keep k h4⟩
end
section
variable{M M':Nat→Prop} {w:World} (hM:∀k,k<w.heap.size→M' k→M k)
include hM
theorem Yzl.weak{l:List Ex}{cs:List Value}(h:Yzl M w l cs):Yzl M' w l cs:=let⟨v,a,b⟩:=h;⟨v,a,Qqq.weak hM b⟩
theorem Jxc.weak{s:Qx4}{cs:List Value}(h:Jxc M w s cs):Jxc M' w s cs:=let⟨ce,a,b⟩:=h;⟨ce,a,EC.weak hM _ _ b⟩
theorem Qjm.weak{v:Value}{l:List ByteArray}(h:Qjm M w v l):Qjm M' w v l:=Qqa.weak h hM fun _ _ _ h=>h
theorem Qzk.weak{v:Value}{l:List Qyf}(h:Qzk M w v l):Qzk M' w v l:=Qqa.weak h hM fun _ _ _ h=>h
theorem Jqc.weak{v:Value}{l:List (List Ex)}(h:Jqc M w v l):Jqc M' w v l:=Qqa.weak h hM fun _ _ _ h=>Yzl.weak hM h
theorem Qzb.weak{v:Value}{l:List Qx4}(h:Qzb M w v l):Qzb M' w v l:=Qqa.weak h hM fun _ _ _ h=>Jxc.weak hM h
theorem Qv5.weak{a:Qzq}{cs:List Value}(h:Qv5 M w a cs):Qv5 M' w a cs:=by
 obtain⟨vr,vq,vs,vw,h0,h1,h2,h3,h4⟩:=h;exact⟨vr,vq,vs,vw,h0,Jqc.weak hM h1,Qz1.weak hM h2,Qzb.weak hM h3,Qqq.weak hM h4⟩
theorem Qke.weak{v:Value}{l:List Qzq}(h:Qke M w v l):Qke M' w v l:=Qqa.weak h hM fun _ _ _ h=>Qv5.weak hM h
theorem Jks.weak{t:Qks}{cs:List Value}(h:Jks M w t cs):Jks M' w t cs:=by
 obtain⟨vo,vp,vf,vr,vw,va,h0,h1,h2,h3,h4,h5,h6⟩:=h;exact⟨vo,vp,vf,vr,vw,va,h0,Qjm.weak hM h1,Qjm.weak hM h2,Qjm.weak hM h3,Qzk.weak hM h4,Qqq.weak hM h5,Qke.weak hM h6⟩
theorem Jy8.weak{s:Qvu}{cs:List Value}(h:Jy8 M w s cs):Jy8 M' w s cs:=by
 obtain⟨c1,ct,cq,ca,h0,h1,h2,h3,h4⟩:=h;exact⟨c1,ct,cq,ca,h0,Jje.weak hM h1,Jks.weak hM h2,QC.weak hM h3,Qv5.weak hM h4⟩
end
def Jq7:Qzq:=⟨0,⟨#[]⟩,[],[],[],[],⟨#[]⟩⟩
def Qym:Qks:=⟨⟨#[]⟩,⟨#[]⟩,false,0,[],false,[],[],[],[],[]⟩
def Qyn:Qu:=.mk false [] ⟨#[]⟩ []
def Qwr:Sch:=⟨⟨#[]⟩,[]⟩
theorem Yq4(T:Nat)(w:World):Calls prog 91 #[.pointer (some ⟨T,0,none⟩),()] w fun e w'=>e=.returned ()∧w'=w:=by
 go_enter func91,ntmps91;go_wp2_with fail
 go_rounds 1
 go_wp2_with fail
 go_ret;exact⟨rfl,rfl⟩
def Qqg(j:Nat):ByteArray:=if j=0 then⟨#[110]⟩ else⟨#[109]⟩
theorem Yzm(W:World)(t:TypeId)(j:Nat)(h:j<2):(W.alloc (.cells #[.string ⟨#[110]⟩,.string ⟨#[109]⟩] t)).cell? ⟨W.heap.size,j,none⟩=some (.string (Qqg j)):=by
 have h':j=0∨j=1:=by omega
 rcases h' with rfl|rfl<;>simp[Qqg]
def TX(T X:Nat)(k:Nat):Prop:=k=T∨k=X
structure CB(T X:Nat)(c:Array Value)(w W:World):Prop where
 tape:Qql T W
 keep:Qqb (TX T X) w W
 blk:W.heap[X]?=some (.cells c 35 (0,0))
theorem CB.bel{T X:Nat}{c:Array Value}{w W W':World}(h:CB T X c w W)(hb:Below W.heap.size W W'):CB T X c w W':=
 ⟨h.tape.bel hb,h.keep.trans (.bel hb),(hb.block _ (Zq.1 h.blk).1).trans h.blk⟩
theorem CB.step{T X:Nat}{c:Array Value}{w W W':World}(h:CB T X c w W)(hX:T<X)(ht:Qql T W')(hk:Qqb (At T) W W'):CB T X c w W':=
 ⟨ht,h.keep.trans (hk.weak fun _ _ h=>.inl h),(hk.block _ (Zq.1 h.blk).1 (fun h=>by unfold At at h;omega)).trans h.blk⟩
theorem CB.drew{T X:Nat}{c:Array Value}{w W:World}(h:CB T X c w W):CB T X c w W.drew:=⟨h.tape.drew,h.keep.drew,h.blk⟩
theorem CB.alloc{T X:Nat}{c:Array Value}{w W:World}(h:CB T X c w W)(o:Obj):CB T X c w (W.alloc o):=h.bel ((Below.refl _ _).alloc (Zz _) o)
theorem CB.put{T X:Nat}{c c':Array Value}{w W:World}(h:CB T X c w W)(hX:T<X)(i:Nat)(u:Value)(hc:(W.setCell ⟨X,i,none⟩ u).heap[X]?=some (.cells c' 35 (0,0))):CB T X c' w (W.setCell ⟨X,i,none⟩ u):=
 ⟨h.tape.keep ((Qqb.refl (At X) W).setCell (p:=⟨X,i,none⟩) (fun _=>rfl) u) (fun k hk h=>by unfold At at h;omega),h.keep.setCell (p:=⟨X,i,none⟩) (fun _=>.inr rfl) u,hc⟩
theorem Qkm{w:World}{S:Nat}{a0 a1 a2 a3 a4 a5 a6 a7 a8 a9 a10 u:Value}{e:TypeId}(h:w.heap[S]?=some (.cells #[a0,a1,a2,a3,a4,a5,a6,a7,a8,a9,a10] e (0,0))):
 (w.setCell ⟨S,5,none⟩ u).heap[S]?=some (.cells #[a0,a1,a2,a3,a4,u,a6,a7,a8,a9,a10] e (0,0))∧(w.setCell ⟨S,8,none⟩ u).heap[S]?=some (.cells #[a0,a1,a2,a3,a4,a5,a6,a7,u,a9,a10] e (0,0))∧(w.setCell ⟨S,9,none⟩ u).heap[S]?=some (.cells #[a0,a1,a2,a3,a4,a5,a6,a7,a8,u,a10] e (0,0))∧(w.setCell ⟨S,10,none⟩ u).heap[S]?=some (.cells #[a0,a1,a2,a3,a4,a5,a6,a7,a8,a9,u] e (0,0)):=by
 refine⟨?_,?_,?_,?_⟩<;>simp[Qg,Yh,h]
theorem Ukh{w:World}{X Y i k:Nat}{u v:Value}{o:Obj}(h:Y≠X)(hw:w.heap[Y]?=some o):((w.setCell ⟨X,i,none⟩ u).setCell ⟨X,k,none⟩ v).heap[Y]?=some o:=
 ((((Qqb.refl (At X) w).setCell (p:=⟨X,i,none⟩) (fun _=>rfl) u).setCell (p:=⟨X,k,none⟩) (fun _=>rfl) v).block _ (Zq.1 hw).1 (fun e=>h e)).trans hw
theorem Ujq{M:Nat→Prop}(w:World)(X i k:Nat)(u v:Value)(h:M X):Qqb M w ((w.setCell ⟨X,i,none⟩ u).setCell ⟨X,k,none⟩ v):=
 ((Qqb.refl M w).setCell (p:=⟨X,i,none⟩) (fun _=>h) u).setCell (p:=⟨X,k,none⟩) (fun _=>h) v
structure CR(T X g:Nat)(c:Array Value)(rk:Qyf)(w W:World):Prop where
 cb:CB T X c w W
 row:W.heap[g]?=some (.cells #[rk.table,rk.col,rk.low,rk.high] 110 (0,0))
 rows:Qzk (Old w.heap.size) W (Qv (some ⟨g,0,none⟩) 1 1) [rk]
theorem CR.size{T X g:Nat}{c:Array Value}{rk:Qyf}{w W:World}(h:CR T X g c rk w W):w.heap.size≤W.heap.size:=h.cb.keep.size
theorem CR.bel{T X g:Nat}{c:Array Value}{rk:Qyf}{w W W':World}(h:CR T X g c rk w W)(hb:Below W.heap.size W W'):CR T X g c rk w W':=
 ⟨h.cb.bel hb,(hb.block _ (Zq.1 h.row).1).trans h.row,Qzk.keep (M:=Old w.heap.size) (.bel hb) h.rows⟩
theorem CR.alloc{T X g:Nat}{c:Array Value}{rk:Qyf}{w W:World}(h:CR T X g c rk w W)(o:Obj):CR T X g c rk w (W.alloc o):=h.bel ((Below.refl _ _).alloc (Zz _) o)
theorem CR.drew{T X g:Nat}{c:Array Value}{rk:Qyf}{w W:World}(h:CR T X g c rk w W):CR T X g c rk w W.drew:=⟨h.cb.drew,h.row,Qzk.keep (M:=Old w.heap.size) (Qqb.refl _ W).drew h.rows⟩
theorem CR.step{T X g:Nat}{c:Array Value}{rk:Qyf}{w W W':World}(h:CR T X g c rk w W)(hX:T<X)(hT:T<w.heap.size)(hg:w.heap.size≤g)(ht:Qql T W')(hk:Qqb (At T) W W'):CR T X g c rk w W':=
 ⟨h.cb.step hX ht hk,(hk.block _ (Zq.1 h.row).1 (fun h=>by unfold At at h;omega)).trans h.row,Qzk.keep (M:=Old w.heap.size) (hk.weak fun k hk h=>by unfold At at h;unfold Old;omega) h.rows⟩
theorem CR.put{T X g:Nat}{c c':Array Value}{rk:Qyf}{w W:World}(h:CR T X g c rk w W)(hX:T<X)(hz:X<w.heap.size)(hg:w.heap.size≤g)(i:Nat)(u:Value)(hc:(W.setCell ⟨X,i,none⟩ u).heap[X]?=some (.cells c' 35 (0,0))):CR T X g c' rk w (W.setCell ⟨X,i,none⟩ u):=
 ⟨h.cb.put hX i u hc,(((Qqb.refl (At X) W).setCell (p:=⟨X,i,none⟩) (fun _=>rfl) u).block _ (Zq.1 h.row).1 (fun e=>by unfold At at e;omega)).trans h.row,
  Qzk.keep (M:=Old w.heap.size) ((Qqb.refl _ W).setCell (p:=⟨X,i,none⟩) (fun _=>by unfold Old;exact hz) u) h.rows⟩
theorem Jzm{M:Nat→Prop}{W:World}{e:TypeId}{nm:ByteArray}{x:Ex}{a s:Option Addr}{ac sc g:Nat}(hg:g=W.heap.size)(hM:¬M W.heap.size)(h:Qqq M W (Qv a x.args.length ac) x.args∧Qz1 M W (Qv s x.sub.length sc) x.sub):
 Qzb M (W.alloc (.cells #[nm,x.kind,x.op,x.no,x.val.kind,x.val.int,x.val.text,x.table,x.name,Qv a x.args.length ac,Qv s x.sub.length sc] e)) (Qv (some ⟨g,0,none⟩) 1 1) [⟨nm,x⟩]:=
 Qq6 (R:=Jxc _ _) ⟨nm,x⟩ hg hM rfl ⟨_,rfl,(Qji ..).2 ⟨_,_,rfl,h.1.keep ((Qqb.refl _ W).alloc _),h.2.keep ((Qqb.refl _ W).alloc _)⟩⟩
theorem Qvn{M:Nat→Prop}{W:World}{e:TypeId}{x:Ex}{a s:Option Addr}{ac sc g:Nat}(hg:g=W.heap.size)(hM:¬M W.heap.size)(h:Qqq M W (Qv a x.args.length ac) x.args∧Qz1 M W (Qv s x.sub.length sc) x.sub):
 Qqq M (W.alloc (.cells #[x.kind,x.op,x.no,x.val.kind,x.val.int,x.val.text,x.table,x.name,Qv a x.args.length ac,Qv s x.sub.length sc] e)) (Qv (some ⟨g,0,none⟩) 1 1) [x]:=
 Qq6 (size:=10) (R:=EC _ _) x hg hM rfl ((Qji ..).2 ⟨_,_,rfl,h.1.keep ((Qqb.refl _ W).alloc _),h.2.keep ((Qqb.refl _ W).alloc _)⟩)
theorem Qq8{M:Nat→Prop}{W W':World}{x:Ex}{va vs:Value}(k:Qqb M W W')(h:Qqq M W va x.args∧Qz1 M W vs x.sub):Qqq M W' va x.args∧Qz1 M W' vs x.sub:=⟨h.1.keep k,h.2.keep k⟩
def Jzx(j:Nat)(low d:Int):Qyf:=⟨⟨#[117]⟩,Qqg j,low,low+d⟩
def Ykk(j:Nat)(low d k:Int):Qzq:=⟨2,⟨#[117]⟩,[],[],[⟨Qqg j,Qqc 10 (Qqp es (Qqg j)) (Qqi k)⟩],[opX 7 0 false [Qqp es (Qqg j),Qqi low,Qqi (low+d)] []],⟨#[]⟩⟩
def Yyo(T X:Nat)(t:Qks)(vo vp vf vr vw va:Value)(w:World)(e:Ending)(w':World):Prop:=
 e=.returned (.tuple #[])∧Qql T w'∧Qqb (TX T X) w w'∧
  (w'.heap[X]?=some (.cells #[t.name,t.table,t.before,t.event,vo,t.each,vp,vf,vr,vw,va] 35 (0,0))∨
   (t.before=false∧∃j low d vr',j<2∧-3≤low∧low≤12∧0≤d∧d≤11∧Qzk (Old w.heap.size) w' vr' [Jzx j low d]∧
    (w'.heap[X]?=some (.cells #[t.name,t.table,t.before,t.event,vo,t.each,vp,vf,vr',vw,va] 35 (0,0))∨
     ∃k va',1≤k∧k≤3∧Qke (Old w.heap.size) w' va' [Ykk j low d k]∧w'.heap[X]?=some (.cells #[t.name,t.table,t.before,t.event,vo,false,vp,vf,vr',(),va'] 35 (0,0)))))
theorem Jw9{T X g n:Nat}{t:Qks}{vo vp vf vr vw va vs vx:Value}{w W':World}{j:Nat}{low d k:Int}(hbf:t.before=false)(hj:j<2)(hl0:-3≤low)(hl1:low≤12)(hd0:0≤d)(hd1:d<12)(hk0:1≤k)(hk1:k≤3)(hn:n=W'.heap.size)
 (C:CR T X g #[t.name,t.table,t.before,t.event,vo,false,vp,vf,Qv (some ⟨g,0,none⟩) 1 1,(),Qv (some ⟨n,0,none⟩) 1 1] (Jzx j low d) w W')(hs:Qzb (Old w.heap.size) W' vs [⟨Qqg j,Qqc 10 (Qqp es (Qqg j)) (Qqi k)⟩])(hx:Qqq (Old w.heap.size) W' vx [opX 7 0 false [Qqp es (Qqg j),Qqi low,Qqi (low+d)] []]):
 Yyo T X t vo vp vf vr vw va w (.returned (.tuple #[])) (W'.alloc (.cells #["2",.string ⟨#[117]⟩,(),(),vs,vx,""] 42)):=
 have C':=C.alloc (.cells #["2",.string ⟨#[117]⟩,(),(),vs,vx,""] 42)
 ⟨rfl,C'.cb.tape,C'.cb.keep,.inr ⟨hbf,j,low,d,_,hj,hl0,hl1,hd0,by omega,C'.rows,.inr ⟨k,_,hk0,hk1,Qq6 (R:=Qv5 _ _) (Ykk j low d k) hn (Qz7 C.size) rfl ⟨_,_,_,_,rfl,Qqa.nil ..,Qqa.nil ..,Qzb.keep ((Qqb.refl _ W').alloc _) hs,hx.keep ((Qqb.refl _ W').alloc _)⟩,C'.cb.blk⟩⟩⟩
theorem Ykl(T X:Nat)(t:Qks)(vo vp vf vr vw va:Value)(w:World)(ht:Qql T w)(hX:w.heap[X]?=some (.cells #[t.name,t.table,t.before,t.event,vo,t.each,vp,vf,vr,vw,va] 35 (0,0)))(hXT:T<X):
 Calls prog 95 #[.pointer (some ⟨T,0,none⟩),.pointer (some ⟨X,0,none⟩)] w (Yyo T X t vo vp vf vr vw va w):=by
 have hTw:=ht.lt;have HT:=hid ht;have HX:=hid hX;have hzX:=(Zq.1 hX).1;obtain⟨x0,x1,x2,x3,x4,x5,x6,x7,x8,x9,x10,xf,_⟩:=Qjw hX;clear ht hX;cases hbf:t.before
 case true=>
  rw[hbf] at x2;go_enter func95,ntmps95;go_wp2_with fail
  go_end0
  exact⟨rfl,HT.out,.refl _ _,.inl HX.out⟩
 case false=>
  have HBF:=hid hbf;rw[hbf] at x2;go_enter func95,ntmps95;go_wp2_with fail
  refine(Qq2 T 3 _ (by omega) (by omega) HT.out).mono ?_;rintro e w1 ⟨v,rfl,⟨b,rfl⟩,ht,hk⟩;have HT1:=hid ht;have HK1:=hid hk;have HX1:=hid ((hk.block _ hzX (fun h=>by unfold At at h;omega)).trans HX.out);have hz1:=hk.size;clear ht hk x0 x1 x2 x3 x4 x5 x6 x7 x8 x9 x10 xf;dsimp only;cases b
  case false=>
   go_wp2_with fail
   go_end0
   exact⟨rfl,HT1.out,HK1.out.weak fun _ _ h=>.inl h,.inl HX1.out⟩
  case true=>
   go_wp2_with fail
   refine(Qqk T 2 _ (by omega) (by omega) (HT1.out.alloc _)).mono ?_;rintro e w2 ⟨v,rfl,⟨r,rfl,hr0,hr1⟩,ht,hk⟩;obtain⟨j,rfl⟩:=Zt hr0;have hj:j<2:=by omega
   have hnm:w2.cell? ⟨w1.heap.size,j,none⟩=some (.string (Qqg j)):=(hk.cell (by simp) (fun h=>by unfold At at h;omega)).trans (Yzm w1 _ j hj);have HT2:=hid ht;have hk12:Qqb (At T) w1 w2:=((Qqb.refl (At T) w1).alloc _).trans hk;have HK2:=hid (HK1.out.trans hk12);have HX2:=hid ((hk12.block _ (by omega) (fun h=>by unfold At at h;omega)).trans HX1.out);have hz2:=hk12.size;clear ht hk hk12;dsimp only;go_wp2_with fail
   refine(Qv3 T _ HT2.out).mono ?_;rintro e w3 ⟨v,rfl,⟨low,rfl,hl0,hl1⟩,ht,hk⟩;have HT3:=hid ht;have HK3:=hid (HK2.out.trans hk);have HX3:=hid ((hk.block _ (by omega) (fun h=>by unfold At at h;omega)).trans HX2.out);have hz3:=hk.size;clear ht hk hnm;dsimp only;go_wp2_with fail
   refine(Qqk T 12 _ (by omega) (by omega) HT3.out).mono ?_;rintro e w4 ⟨v,rfl,⟨d,rfl,hd0,hd1⟩,ht,hk⟩;have HT4:=hid ht;have HK4:=hid (HK3.out.trans hk);have HX4:=hid ((hk.block _ (by omega) (fun h=>by unfold At at h;omega)).trans HX3.out);have hz4:=hk.size;have eo:IntKind.i64.wrap (low+d)=low+d:=Zp _ (by omega);clear ht hk;obtain⟨x0,x1,x2,x3,x4,x5,x6,x7,x8,x9,x10,xf,_⟩:=Qjw HX4.out;dsimp only;go_upto_region 4 with fail
   generalize hW5:Qw _ _=W5
   have B4:CB T X #[t.name,t.table,t.before,t.event,vo,t.each,vp,vf,vr,vw,va] w w4:=⟨HT4.out,HK4.out.weak fun _ _ h=>.inl h,HX4.out⟩
   have B5:CB T X #[t.name,t.table,t.before,t.event,vo,t.each,vp,vf,Qv (some ⟨w4.heap.size,0,none⟩) 1 1,vw,va] w W5:=by rw[←hW5];exact(B4.put hXT 8 _ (Qkm HX4.out).2.1).alloc _
   have R5:W5.heap[w4.heap.size]?=some (.cells #[.string ⟨#[117]⟩,(Qqg j),low,.int .i64 (low+d)] 110 (0,0)):=by rw[←hW5];simp[Qw,Array.getElem_push]
   have z5:W5.heap.size=w4.heap.size+1:=by rw[←hW5];simp
   have RR5:Qzk (Old w.heap.size) W5 (Qv (some ⟨w4.heap.size,0,none⟩) 1 1) [Jzx j low d]:=by
    rw[←hW5];exact Qq6 (R:=Uy2) (Jzx j low d) (by simp) (Qz7 (by simp;omega)) rfl rfl
   clear hW5 HX4 HK4 HT4 x0 x1 x2 x3 x4 x5 x6 x7 x8 x9 x10 xf B4;go_wp2_with fail
   refine(Qq2 T 2 _ (by omega) (by omega) B5.tape).mono ?_;rintro e w6 ⟨v,rfl,⟨b,rfl⟩,ht,hk⟩;have HB6:=hid (B5.step hXT ht hk);have HR6:=hid ((hk.block _ (by omega) (fun h=>by unfold At at h;omega)).trans R5);have HRR6:=hid (Qzk.keep (M:=Old w.heap.size) (w:=W5) (w':=w6) (hk.weak fun k hk h=>by unfold At at h;unfold Old;omega) RR5);have hz6:=hk.size;clear ht hk B5 R5 RR5;dsimp only;cases b
   case true=>
    go_wp2_with fail
    go_end0
    exact⟨rfl,HB6.out.tape,HB6.out.keep,.inr ⟨HBF.out,j,low,d,_,hj,hl0,by omega,hd0,by omega,HRR6.out,.inl HB6.out.blk⟩⟩
   case false=>
    obtain⟨x0,x1,x2,x3,x4,x5,x6,x7,x8,x9,x10,xf,_⟩:=Qjw HB6.out.blk;go_upto_region 7 with fail
    generalize hW7:Qg _ _ _=W7
    have B7:CB T X #[t.name,t.table,t.before,t.event,vo,false,vp,vf,Qv (some ⟨w4.heap.size,0,none⟩) 1 1,(),va] w W7:=by
     rw[←hW7];exact(HB6.out.put hXT 5 _ (Qkm HB6.out.blk).1).put hXT 9 _ (Qkm (Qkm HB6.out.blk).1).2.2.1
    have R7:W7.heap[w4.heap.size]?=some (.cells #[.string ⟨#[117]⟩,(Qqg j),low,.int .i64 (low+d)] 110 (0,0)):=by rw[←hW7];exact Ukh (by omega) HR6.out
    have RR7:Qzk (Old w.heap.size) W7 (Qv (some ⟨w4.heap.size,0,none⟩) 1 1) [Jzx j low d]:=by
     rw[←hW7];exact Qzk.keep (Ujq w6 X 5 9 _ _ (by unfold Old;omega)) HRR6.out
    have z7:W7.heap.size=w6.heap.size:=by rw[←hW7];simp
    clear hW7 HB6 HR6 HRR6 x0 x1 x2 x3 x4 x5 x6 x7 x8 x9 x10 xf;have tok1:Hid True:=trivial;have hg:w.heap.size≤w4.heap.size:=by omega
    have C7:Hid (CR T X w4.heap.size #[t.name,t.table,t.before,t.event,vo,false,vp,vf,Qv (some ⟨w4.heap.size,0,none⟩) 1 1,(),va] (Jzx j low d) w W7):=hid ⟨B7,R7,RR7⟩;have HKS:=hid (fun(W':World) (u:Value) (h:CR T X w4.heap.size #[t.name,t.table,t.before,t.event,vo,false,vp,vf,Qv (some ⟨w4.heap.size,0,none⟩) 1 1,(),u] (Jzx j low d) w W')=>(show W'.cell? ⟨X,8,none⟩=some (Qv (some ⟨w4.heap.size,0,none⟩) 1 1)∧W'.cell? ⟨w4.heap.size,3,none⟩=some (.int .i64 (low+d)) from⟨(Qjw h.cb.blk).2.2.2.2.2.2.2.2.1,(Qzo h.row).2.2.2.1⟩));clear B7 R7 RR7;generalize hQ:bodyPost _ _ (Yyo T X t vo vp vf vr vw va w)=QQ
    go_region_held3 (fun W'=>W'.cell? ⟨X,8,none⟩=some (Qv (some ⟨w4.heap.size,0,none⟩) 1 1)∧W'.cell? ⟨w4.heap.size,3,none⟩=some (.int .i64 (low+d)))
     (first|with_reducible exact HKS.out _ _ (Cc.out)|with_reducible exact HKS.out _ _ (Cc.out.alloc _)|with_reducible exact HKS.out _ _ ((Cc.out.alloc _).alloc _)|with_reducible exact HKS.out _ _ (((Cc.out.alloc _).alloc _).alloc _)|with_reducible exact HKS.out _ _ (Cb.out)|with_reducible exact HKS.out _ _ (Cb.out.alloc _)|with_reducible exact HKS.out _ _ (Ca.out)|with_reducible exact HKS.out _ _ (C9.out)|with_reducible exact HKS.out _ _ (C8.out)|with_reducible exact HKS.out _ _ (C7.out)|with_reducible exact HKS.out _ _ (C7.out.drew)|with_reducible exact HKS.out _ _ (((Cc.out.put hXT hzX hg 10 _ (Qkm Cc.out.cb.blk).2.2.2).alloc _).alloc _)|with_reducible exact HKS.out _ _ ((((Cc.out.put hXT hzX hg 10 _ (Qkm Cc.out.cb.blk).2.2.2).alloc _).alloc _).alloc _)|(trace_state;fail))
     (first
       |(go_at_call 57;have _t:=tok1;refine(Qkl _ _ _).mono ?_;rintro e w8 ⟨rfl,hb⟩;have hz8:=hb.size;have C8:=C7.out.drew.bel hb;have e8:=C8.cb.blk;obtain⟨_,_,_,_,_,_,_,_,_,_,p8,f8,zx8⟩:=Qjw e8;have F8:=f8 10;have C8:=hid C8;clear hb e8 f8;clear tok1)
       |(go_at_call 12;refine(Qqk T 3 _ (by omega) (by omega) C8.out.cb.tape).mono ?_;rintro e w9 ⟨v,rfl,⟨r,rfl,hr0,hr1⟩,ht,hk⟩;have e9:IntKind.i64.wrap (1+r)=1+r:=Zp _ (by omega);have hz9:=hk.size;have C9:=C8.out.step hXT hTw hg ht hk;have e9:=C9.cb.blk;obtain⟨_,_,_,_,_,_,_,_,_,_,p9,f9,zx9⟩:=Qjw e9;have F9:=f9 10;have C9:=hid C9;clear ht hk e9 f9)
       |(go_at_call 100;refine(Qkh (1+r) (by omega) _).mono ?_;rintro e wa ⟨v,rfl,hv,hb⟩;have hs9:=C9.out.size;have HVa:=hid (hv.weak (M':=Old w.heap.size) fun k _ h=>by unfold Old at h⊢;omega);clear hv hs9;have hza:=hb.size;have Ca:=C9.out.bel hb;have ea:=Ca.cb.blk;obtain⟨_,_,_,_,_,_,_,_,_,_,pa,fa,zxa⟩:=Qjw ea;have Fa:=fa 10;have Ca:=hid Ca;clear hb ea fa)
       |(go_at_call 102;refine(Qvm (lo:=w.heap.size) (a:=Qqp es (Qqg j)) 10 ⟨none,0,none,0,rfl,Qqa.nil ..,Qqa.nil ..⟩ HVa.out Ca.out.size).mono ?_;rintro e wb ⟨v,rfl,hv,hb⟩;obtain⟨ab,abc,sb,sbc,rfl,hva,hvs⟩:=hv;have HVb:=hid (Ze hva hvs);clear hva hvs;have hzb:=hb.size;have Cb:=Ca.out.bel hb;have eb:=Cb.cb.blk;obtain⟨_,_,_,_,_,_,_,_,_,_,pb,fb,zxb⟩:=Qjw eb;have Fb:=fb 10;have Cb:=hid Cb;clear hb eb fb)
       |(go_at_call 126;refine(Jju (Qqg j) low (low+d) (by omega) (by omega) _).mono ?_;rintro e wc ⟨v,rfl,hv,hb⟩;have hb0:=hb;have hzc0:=hb.size;have hcs:=Cb.out.size;have HSR:=hid (Qzb.keep (M:=Old w.heap.size) (.bel hb0) (Jzm rfl (Qz7 hcs) HVb.out));have hv:=hv.weak (M':=Old w.heap.size) (fun k _ h=>by unfold Old at h⊢;simp;omega);clear hb0 hcs;have hb:Below wb.heap.size wb wc:=Below.trans (by go_grown) (hb.mono (by simp));have hzs:wb.heap.size<wc.heap.size:=Zm (by simp) hzc0;clear hzc0;obtain⟨ac,acc,sc,scc,rfl,hva,hvs⟩:=hv;have HVc:=hid (Ze hva hvs);clear hva hvs;have hzc:=hb.size;have Cc:=Cb.out.bel hb;have ec:=Cc.cb.blk;obtain⟨_,_,_,_,_,_,_,_,_,_,pc,fc,zxc⟩:=Qjw ec;have Fc:=fc 10;have Cc:=hid Cc;clear hb ec fc)
       |(go_at_call 126;refine(Jju (Qqg j) low (low+d) (by omega) (by omega) _).mono ?_;rintro e wc ⟨v,rfl,hv,hb⟩;have hcs:=Cb.out.size;have hv:=hv.weak (M':=Old w.heap.size) (fun k _ h=>by unfold Old at h⊢;omega);have HVd:=hid (Qq8 (M:=Old w.heap.size) (.bel hb) HVb.out);clear hcs;obtain⟨ac,acc,sc,scc,rfl,hva,hvs⟩:=hv;have HVc:=hid (Ze hva hvs);clear hva hvs;have hzc:=hb.size;have Cc:=Cb.out.bel hb;have ec:=Cc.cb.blk;obtain⟨_,_,_,_,_,_,_,_,_,_,pc,fc,zxc⟩:=Qjw ec;have Fc:=fc 10;have Cc:=hid Cc;clear hb ec fc;have zy1:X<wc.heap.size+1:=(by omega);have zy2:X<wc.heap.size+1+1:=(by omega);have zy3:X≠wc.heap.size:=(by omega);have zy4:X≠wc.heap.size+1:=(by omega);have zy5:X≠wc.heap.size+1+1:=(by omega)))
    all_goals rw[←hQ]
    all_goals go_end0
    ·have P:=Cc.out.put hXT hzX hg 10 (Qv (some ⟨wc.heap.size+1,0,none⟩) 1 1) (Qkm Cc.out.cb.blk).2.2.2;generalize hW8:Qg wc _ _=W8 at P⊢;have k8:Qqb (Old w.heap.size) wc W8:=by rw[←hW8];exact(Qqb.refl _ wc).setCell (p:=⟨X,10,none⟩) (fun _=>by unfold Old;exact hzX) _
     have z8:W8.heap.size=wc.heap.size:=by rw[←hW8];simp
     have o8:=P.size;exact Jw9 HBF.out hj hl0 hl1 hd0 hd1 (by omega) (by omega) (by simp[z8]) (P.alloc _) (Qzb.keep ((k8.alloc _)) HSR.out) (Qvn z8.symm (Qz7 o8) (Qq8 k8 HVc.out))
    ·have P:=Cc.out.put hXT hzX hg 10 (Qv (some ⟨wc.heap.size+1+1,0,none⟩) 1 1) (Qkm Cc.out.cb.blk).2.2.2;generalize hW8:Qg wc _ _=W8 at P⊢;have k8:Qqb (Old w.heap.size) wc W8:=by rw[←hW8];exact(Qqb.refl _ wc).setCell (p:=⟨X,10,none⟩) (fun _=>by unfold Old;exact hzX) _
     have z8:W8.heap.size=wc.heap.size:=by rw[←hW8];simp
     have o8:=P.size;exact Jw9 HBF.out hj hl0 hl1 hd0 hd1 (by omega) (by omega) (by simp[z8]) ((P.alloc _).alloc _) (Qzb.keep ((Qqb.refl _ _).alloc _) (Jzm z8.symm (Qz7 o8) (Qq8 k8 HVd.out))) (Qvn (by simp[z8]) (Qz7 (by simp;omega)) (Qq8 (k8.alloc _) HVc.out))
    ·have P:=Cc.out.put hXT hzX hg 10 (Qv (some ⟨wc.heap.size+1+1,0,none⟩) 1 1) (Qkm Cc.out.cb.blk).2.2.2;generalize hW8:Qg wc _ _=W8 at P⊢;have k8:Qqb (Old w.heap.size) wc W8:=by rw[←hW8];exact(Qqb.refl _ wc).setCell (p:=⟨X,10,none⟩) (fun _=>by unfold Old;exact hzX) _
     have z8:W8.heap.size=wc.heap.size:=by rw[←hW8];simp
     have o8:=P.size;exact Jw9 HBF.out hj hl0 hl1 hd0 hd1 (by omega) (by omega) (by simp[z8]) ((P.alloc _).alloc _) (Jzm (by simp[z8]) (Qz7 (by simp;omega)) (Qq8 (k8.alloc _) HVd.out)) (Qqq.keep (Qvn z8.symm (Qz7 o8) (Qq8 k8 HVc.out)) ((Qqb.refl _ _).alloc _))
end Go.Proofs.YtgepbohjmgaojaaGreatDoor
