/- Statements of the tape (Statement). -/
import Derived.Test.YtgepbohjmgaojaaGreatDoorVG11
import Derived.Test.YtgepbohjmgaojaaGreatDoorU17
set_option linter.all false
namespace Go.Proofs.YtgepbohjmgaojaaGreatDoor
open World renaming setCells→Qy
open Value renaming slice→Qv
open Go.Proofs.Tryz
open Lib(hid)
open Go.RowKit
instance:CoeDep String "S" (Array Value):=⟨#["0","",(),"","","",false,"0",(),false,(),(),(),(),(),false,(),"",(),"0","",(),(),(),(),""]⟩
def Qv9(T:Nat)(w:World):Prop:=3<T∧∀i:Nat,i<8→w.cell? ⟨3,i,none⟩=some (.string (Qqe i))
theorem Qv9.keep{M:Nat→Prop}{T:Nat}{w w':World}(h:Qv9 T w)(k:Qqb M w w')(hM:∀k,k<T→¬M k):Qv9 T w':=by
 refine⟨h.1,fun i hi=>?_⟩;have:=h.2 i hi;rw[k.cell (Za _ _ this) (hM _ h.1)];exact this
theorem Qv9.at{T:Nat}{w w':World}(h:Qv9 T w)(k:Qqb (At T) w w'):Qv9 T w':=h.keep k fun k hk h=>by unfold At at h;omega
def Qwm(j:Nat):ByteArray:=if j=0 then⟨#[116]⟩ else if j=1 then⟨#[117]⟩ else if j=2 then⟨#[108,111,103]⟩ else⟨#[120]⟩
theorem Yy7(W:World)(t:TypeId)(j:Nat)(h:j<4):(W.alloc (.cells #[.string ⟨#[116]⟩,.string ⟨#[117]⟩,.string ⟨#[108,111,103]⟩,.string ⟨#[120]⟩] t)).cell? ⟨W.heap.size,j,none⟩=some (.string (Qwm j)):=by
 have h':j=0∨j=1∨j=2∨j=3:=by omega
 rcases h' with rfl|rfl|rfl|rfl<;>simp[Qwm]
theorem Yy8:∀j<4,Qqo (Qwm j)=true:=by decide+kernel
structure StV where
 vc:Value
 vo:Value
 vr:Value
 vw:Value
 va:Value
 vi:Value
 vx:Value
 v1:Value
 v2:Value
 v3:Value
 v4:Value
def Jyz:StV:=⟨Qv none 0 0,Qv none 0 0,Qv none 0 0,Qv none 0 0,Qv none 0 0,Qv none 0 0,Qv none 0 0,Qv none 0 0,Qv none 0 0,Qv none 0 0,Qv none 0 0⟩
def Qxt(s:Qvu)(v:StV):List Value:=[.int .i64 s.kind,.string s.sch.name,v.vc,.string s.name,.string s.trg.name,.string s.trg.table,.bool s.trg.before,.int .i64 s.trg.event,v.vo,.bool s.trg.each,Qv none 0 0,Qv none 0 0,v.vr,v.vw,v.va,.bool s.qry.star,v.vi,.string s.qry.frm,v.vx,.int .i64 s.act.kind,.string s.act.table,v.v1,v.v2,v.v3,v.v4,.string s.act.text]
structure Jxn(M:Nat→Prop)(W:World)(s:Qvu)(v:StV):Prop where
 hc:Qq1 M W v.vc s.sch.cols
 ho:Qjm M W v.vo s.trg.ofs
 hr:Qzk M W v.vr s.trg.rank
 hw:Qqq M W v.vw s.trg.cond
 ha:Qke M W v.va s.trg.acts
 hi:Qqq M W v.vi s.qry.items
 hx:Qqq M W v.vx s.qry.whr
 h1:Qkq M W v.v1 s.act.rows
 h2:Qz1 M W v.v2 s.act.query
 h3:Qzb M W v.v3 s.act.sets
 h4:Qqq M W v.v4 s.act.whr
theorem Jxn.keep{M:Nat→Prop}{W W':World}{s:Qvu}{v:StV}(h:Jxn M W s v)(k:Qqb M W W'):Jxn M W' s v:=
 ⟨h.hc.keep k,Qjm.keep k h.ho,Qzk.keep k h.hr,h.hw.keep k,Qke.keep k h.ha,h.hi.keep k,h.hx.keep k,h.h1.keep k,Qz1.keep h.h2 k,Qzb.keep k h.h3,h.h4.keep k⟩
theorem Jxn.weak{M M':Nat→Prop}{W:World}{s:Qvu}{v:StV}(h:Jxn M W s v)(hM:∀k,k<W.heap.size→M' k→M k):Jxn M' W s v:=
 ⟨Qq1.weak hM h.hc,Qjm.weak hM h.ho,Qzk.weak hM h.hr,Qqq.weak hM h.hw,Qke.weak hM h.ha,Qqq.weak hM h.hi,Qqq.weak hM h.hx,Qkq.weak hM h.h1,Qz1.weak hM h.h2,Qzb.weak hM h.h3,Qqq.weak hM h.h4⟩
def Uy5(n:Nat)(w:World)(v:Value)(W:World):Prop:=∃(s:Qvu) (u:StV),v=.agg (Qxt s u).toArray∧Jxn (Old w.heap.size) W s u∧Qwx n s
theorem Qwa{T n lo S:Nat}{w W W':World}{L:List Qqx}(O:OB T w W L)(ks:Qqb (At S) W W')(hlo:S<lo)(hS:w.heap.size≤S)(s:Qvu)(u:StV)(h:Jxn (Old lo) W s u)(hg:Qwx n s):Qjp T w (Uy5 n w) (.returned (.agg (Qxt s u).toArray)) W':=by
 have O':=(O.sub (L':=[]) (fun b h=>by cases h)).then ks (fun i hi e=>by unfold At at e;omega) (fun b h=>by cases h);have k':Qqb (Old lo) W W':=ks.weak fun k _ hk=>by unfold At at hk;unfold Old;omega
 have hM:∀k,k<W'.heap.size→Old w.heap.size k→Old lo k:=fun k _ h=>by unfold Old at h⊢;omega
 exact O'.gives ⟨s,u,rfl,(h.keep k').weak hM,hg⟩
theorem Jxo(M:Nat→Prop)(W:World)(k:Int)(nm:ByteArray):Jxn M W ⟨k,Qwr,nm,Qym,Qyn,Jq7⟩ Jyz:=
 ⟨Qqa.nil ..,Qqa.nil ..,Qqa.nil ..,Qqa.nil ..,Qqa.nil ..,Qqa.nil ..,Qqa.nil ..,.inl ⟨rfl,rfl⟩,Qqa.nil ..,Qqa.nil ..,Qqa.nil ..⟩
theorem Qxi{w:World}{b:Nat}{C:Array Value}{t:TypeId}(hb:w.heap[b]?=some (.cells C t (0,0))):w.there b 0 C.size:=fun j hj=>⟨by simp[World.cell?,hb,hj],by simp[World.frozen?,hb]⟩
theorem Qx1{w:World}{S:Nat}{c:Array Value}{v:List Value}{c':Array Value}{e:TypeId}(hc:c'.toList=Qyj c.toList 0 v)(h:w.heap[S]?=some (.cells c e (0,0))):(w.setCells S 0 v).heap[S]?=some (.cells c' e (0,0)):=by
 obtain⟨cur,h1,h2⟩:=Qkx v 0 w c h;have h3:cur=c':=Array.toList_inj.1 (by rw[h2,hc]);rw[h1,h3]
set_option maxRecDepth 100000 in
set_option maxHeartbeats 40000000 in
theorem Jy0(T:Nat)(w:World)(ht:Qql T w)(hn:Qkj T w)(hw:Qjh T w)(htr:Qv9 T w):Calls prog 22 #[.pointer (some ⟨T,0,none⟩),.agg #[(),(),()]] w (Qjp T w (Uy5 3 w)):=by
 have HT:=hid ht;have HN:=hid hn;have HW:=hid hw;have HTR:=hid htr;clear ht hn hw htr;go_enter func22,ntmps22;go_wp2_with fail
 generalize hW:World.alloc (World.alloc w _) _=W0
 have hO:OB T w W0 [⟨w.heap.size+1,"S",44⟩,⟨w.heap.size,#[(),(),()],76⟩]:=by
  rw[←hW];exact((OB.start HT.out).new' rfl _ _).new' (by simp) _ _
 have HO:=hid hO;clear hW hO;refine(Qqk T 9 _ (by omega) (by omega) HO.out.tape).mono ?_;rintro e w1 ⟨v,rfl,⟨k,rfl,k0,k1⟩,ht,hk⟩;have HO1:=hid (HO.out.step ht hk);clear ht hk HO;dsimp only;have h9:k=0∨k=1∨k=2∨k=3∨k=4∨k=5∨k=6∨k=7∨k=8:=by omega
 clear k0 k1;rcases h9 with rfl|rfl|rfl|rfl|rfl|rfl|rfl|rfl|rfl
 ·go_wp2_with fail
  refine(Jy9 T _ HO1.out.tape (HN.out.at HO1.out.kept)).mono ?_;rintro e w2 ⟨v,rfl,⟨s,vc,rfl,has,hc⟩,ht,hk⟩;obtain⟨ca,cc,rfl,_⟩:=hc.shape;have HO2:=hid (HO1.out.step ht hk);have HC:=hid (Qq1.weak (M':=Old w1.heap.size) (fun k _ h=>by unfold Old at h;unfold Out;omega) hc);have HAS:=hid has;have hz1:w.heap.size+1<w1.heap.size:=HO1.out.blt (b:=⟨w.heap.size+1,"S",44⟩) (by simp);clear ht hk hc has HO1;dsimp only;have hb26:=HO2.out.blk (b:=⟨w.heap.size+1,"S",44⟩) (by simp);dsimp only at hb26;have hth:World.there w2 (w.heap.size+1) 0 (#["1",s.name,Qv ca s.cols.length cc,"","","",false,"0",(),false,(),(),(),(),(),false,(),"",(),"0","",(),(),(),(),""]:Array Value).size:=by have h:=Qxi hb26;exact h
  repeat(first|(refine Kd rfl 44 _ _ rfl (w.heap.size+1) 0 #["1",s.name,Qv ca s.cols.length cc,"","","",false,"0",(),false,(),(),(),(),(),false,(),"",(),"0","",(),(),(),(),""] rfl rfl hth (by kernel_rfl) (by simp[Value.oneCell']) ?_)|go_values|go_skip|go_guarded|go_step|go_upon)
  generalize hwz:Qy w2 _ _ _=wz;have ks:Qqb (At (w.heap.size+1)) w2 wz:=by rw[←hwz];exact Qqj ["1",s.name,Qv ca s.cols.length cc,"","","",false,"0",(),false,(),(),(),(),(),false,(),"",(),"0","",(),(),(),(),""] 0 w2
  have hblk:wz.heap[w.heap.size+1]?=some (.cells #["1",s.name,Qv ca s.cols.length cc,"","","",false,"0",(),false,(),(),(),(),(),false,(),"",(),"0","",(),(),(),(),""] 44 (0,0)):=by rw[←hwz];exact Qx1 (v:=["1",s.name,Qv ca s.cols.length cc,"","","",false,"0",(),false,(),(),(),(),(),false,(),"",(),"0","",(),(),(),(),""]) (c':=#["1",s.name,Qv ca s.cols.length cc,"","","",false,"0",(),false,(),(),(),(),(),false,(),"",(),"0","",(),(),(),(),""]) (by kernel_rfl) hb26
  clear hth hwz;refine Zh (v:=.agg #["1",s.name,Qv ca s.cols.length cc,"","","",false,"0",(),false,(),(),(),(),(),false,(),"",(),"0","",(),(),(),(),""]) ?_ rfl ?_
  ·exact Kq results22 _ _ (w.heap.size+1) _ _ _ _ rfl hblk underlying44 rfl (by kernel_rfl)
  have FIN:=Qwa (n:=3) HO2.out ks (lo:=w1.heap.size) (by omega) (by omega) ⟨1,s,⟨#[]⟩,Qym,Qyn,Jq7⟩ {Jyz with vc:=Qv ca s.cols.length cc} {Jxo _ _ 1 ⟨#[]⟩ with hc:=HC.out} (.table s HAS.out);exact FIN
 ·go_wp2_with fail
  have hO2:=HO1.out.alloc (.cells #[.string ⟨#[116]⟩,.string ⟨#[117]⟩,.string ⟨#[108,111,103]⟩,.string ⟨#[120]⟩] 9);have hd0:=Yy7 w1 9;generalize hW2:World.alloc w1 _=w2 at hO2 hd0⊢;have hz2:w1.heap.size<w2.heap.size:=by rw[←hW2];simp
  have hz1:w.heap.size+1<w1.heap.size:=HO1.out.blt (b:=⟨w.heap.size+1,"S",44⟩) (by simp);have hTw:=HO1.out.lo;generalize w1.heap.size=g at hd0 hz2 hz1⊢;have HO2:=hid hO2;have HD:=hid hd0;clear hW2 hO2 hd0 HO1;refine(Qqk T 4 _ (by omega) (by omega) HO2.out.tape).mono ?_;rintro e w3 ⟨v,rfl,⟨j,rfl,j0,j1⟩,ht,hk⟩;obtain⟨j,rfl⟩:=Zt j0;have HO3:=hid (HO2.out.step ht hk);have hj:j<4:=by omega
  have hnm:w3.cell? ⟨g,j,none⟩=some (.string (Qwm j)):=(hk.cell hz2 (fun h=>by unfold At at h;omega)).trans (HD.out j hj);have HNM:=hid (Yy8 j hj);clear ht hk HO2;dsimp only;have hb26:=HO3.out.blk (b:=⟨w.heap.size+1,"S",44⟩) (by simp);dsimp only at hb26;have hth:World.there w3 (w.heap.size+1) 0 (#["2","",(),(Qwm j),"","",false,"0",(),false,(),(),(),(),(),false,(),"",(),"0","",(),(),(),(),""]:Array Value).size:=by have h:=Qxi hb26;exact h
  repeat(first|(refine Kd rfl 44 _ _ rfl (w.heap.size+1) 0 #["2","",(),(Qwm j),"","",false,"0",(),false,(),(),(),(),(),false,(),"",(),"0","",(),(),(),(),""] rfl rfl hth (by kernel_rfl) (by simp[Value.oneCell']) ?_)|go_values|go_skip|go_guarded|go_step|go_upon)
  generalize hwz:Qy w3 _ _ _=wz;have ks:Qqb (At (w.heap.size+1)) w3 wz:=by rw[←hwz];exact Qqj ["2","",(),(Qwm j),"","",false,"0",(),false,(),(),(),(),(),false,(),"",(),"0","",(),(),(),(),""] 0 w3
  have hblk:wz.heap[w.heap.size+1]?=some (.cells #["2","",(),(Qwm j),"","",false,"0",(),false,(),(),(),(),(),false,(),"",(),"0","",(),(),(),(),""] 44 (0,0)):=by rw[←hwz];exact Qx1 (v:=["2","",(),(Qwm j),"","",false,"0",(),false,(),(),(),(),(),false,(),"",(),"0","",(),(),(),(),""]) (c':=#["2","",(),(Qwm j),"","",false,"0",(),false,(),(),(),(),(),false,(),"",(),"0","",(),(),(),(),""]) (by kernel_rfl) hb26
  clear hth hwz;refine Zh (v:=.agg #["2","",(),(Qwm j),"","",false,"0",(),false,(),(),(),(),(),false,(),"",(),"0","",(),(),(),(),""]) ?_ rfl ?_
  ·exact Kq results22 _ _ (w.heap.size+1) _ _ _ _ rfl hblk underlying44 rfl (by kernel_rfl)
  have FIN:=Qwa (n:=3) HO3.out ks (lo:=w.heap.size+1+1) (by omega) (by omega) ⟨2,Qwr,Qwm j,Qym,Qyn,Jq7⟩ Jyz (Jxo _ _ 2 _) (.dropTable _ HNM.out);exact FIN
 ·go_upto_region 8 with fail
  have HKS:=hid (fun(W:World) (h:OB T w W [⟨w.heap.size+1,"S",44⟩,⟨w.heap.size,#[(),(),()],76⟩])=>(show W.cell? ⟨w.heap.size,1,none⟩=some (Qv none 0 0)∧(∀i:Nat,i<8→W.cell? ⟨3,i,none⟩=some (.string (Qqe i))) from⟨(Yv0 (h.blk (b:=⟨w.heap.size,#[(),(),()],76⟩) (by simp))).2.1,fun i hi=>(HTR.out.at h.kept).2 i hi⟩));have HKP:=hid (fun(W:World) (h:OB T w W [⟨w.heap.size,#[(),(),()],76⟩])=>(show W.cell? ⟨w.heap.size,1,none⟩=some (Qv none 0 0)∧(∀i:Nat,i<8→W.cell? ⟨3,i,none⟩=some (.string (Qqe i))) from⟨(Yv0 (h.blk (b:=⟨w.heap.size,#[(),(),()],76⟩) (by simp))).2.1,fun i hi=>(HTR.out.at h.kept).2 i hi⟩));obtain⟨s1,sN⟩:=HKS.out _ HO1.out;have hTG:=HTR.out.1;have hTw:=HO1.out.lo;generalize hQ:Exit.then _ _=QQ;refine Kg ?_;refine Kj (S:=fun w'=>w'.cell? ⟨w.heap.size,1,none⟩=some (Qv none 0 0)∧(∀i:Nat,i<8→w'.cell? ⟨3,i,none⟩=some (.string (Qqe i)))) (by kernel_rfl) ?_ (fun hHeld=>?_)
  ·exact HKS.out _ HO1.out.drew
  refine tk 0 ?_
  (try simp only[Act.put,Zj,Zx,Zk])
  refine tk 1 ?_
  (try simp only[Act.put,Zj,Zx,Zk])
  refine tk 5 ?_
  (try simp only[Act.put,Zj,Zx,Zk])
  refine tk 6 ?_
  (try simp only[Act.put,Zj,Zx,Zk])
  refine Zc (rs:=[2]) (by kernel_rfl) (by simp) ?_;refine Zy (o:=_) rfl (fun K hK=>?_) Zf
  go_simp
  refine(Qqk T 8 _ (by omega) (by omega) HO1.out.drew.tape).mono ?_;rintro e w2 ⟨v,rfl,⟨j,rfl,j0,j1⟩,ht,hk⟩;obtain⟨j,rfl⟩:=Zt j0;have hj:j<8:=by omega
  have HO2:=hid (HO1.out.drew.step ht hk);clear ht hk;dsimp only;refine hK.out _ _ ?_ (fun hHeld=>?_)
  ·exact HKS.out _ HO2.out
  clear hK K
  (try simp only[Act.put,Zj,Zx,Zk])
  refine tk 3 ?_
  (try simp only[Act.put,Zj,Zx,Zk])
  refine tk 4 ?_
  (try simp only[Act.put,Zj,Zx,Zk])
  refine Zc (rs:=[7]) (by kernel_rfl) (by simp) ?_;refine Zy (o:=_) rfl (fun K hK=>?_) Zf
  go_simp
  refine(Jk7 T j hj _ HO2.out.tape (HW.out.at HO2.out.kept)).mono ?_;rintro e w3 ⟨v,rfl,⟨t,vo,vr,vw,va,rfl,h1,h2,h3,h4,hg⟩,ht,hk⟩;obtain⟨oa,oc,rfl,_⟩:=Qqa.shape h1;obtain⟨ra,rc,rfl,_⟩:=Qqa.shape h2;obtain⟨wa,wc,rfl,_⟩:=Qqa.shape h3;obtain⟨aa,ac,rfl,_⟩:=Qqa.shape h4;have HO3:=hid (HO2.out.step ht hk);have HR:=hid (Ze h1 (Ze h2 (Ze h3 (Ze h4 hg))));have hz2:=HO2.out.blt (b:=⟨w.heap.size+1,"S",44⟩) (by simp);dsimp only at hz2;unfold Jja;clear h1 h2 h3 h4 hg ht hk;dsimp only;refine hK.out _ _ ?_ (fun hHeld=>?_)
  ·exact HKS.out _ HO3.out
  clear hK K
  (try simp only[Act.put,Zj,Zx,Zk])
  refine tk 8 ?_
  (try simp only[Act.put,Zj,Zx,Zk])
  have hb26:=HO3.out.blk (b:=⟨w.heap.size+1,"S",44⟩) (by simp);dsimp only at hb26;have hth:World.there w3 (w.heap.size+1) 0 (#["3","",(),"",t.name,t.table,t.before,t.event,Qv oa t.ofs.length oc,t.each,(),(),Qv ra t.rank.length rc,Qv wa t.cond.length wc,Qv aa t.acts.length ac,false,(),"",(),"0","",(),(),(),(),""]:Array Value).size:=by have h:=Qxi hb26;exact h
  have ks:=Qqj ["3","",(),"",t.name,t.table,t.before,t.event,Qv oa t.ofs.length oc,t.each,(),(),Qv ra t.rank.length rc,Qv wa t.cond.length wc,Qv aa t.acts.length ac,false,(),"",(),"0","",(),(),(),(),""] 0 w3 (C:=w.heap.size+1);have hC4:=(HO3.out.sub (L':=[⟨w.heap.size,#[(),(),()],76⟩]) (fun b hb=>Zl _ hb)).then ks (fun i hi e=>by unfold At at e;omega) (fun b hb e=>by rw[Zd.1 hb] at e;unfold At at e;dsimp only at e;omega);have HC4:=hid hC4;clear hC4;refine Zc (rs:=[9]) (by kernel_rfl) (by simp) ?_;refine Zy (o:=_) rfl (fun K hK=>?_) Zf;rw[if_pos (by rfl)];refine wp_store_mid 44 _ _ rfl (w.heap.size+1) 0 #["3","",(),"",t.name,t.table,t.before,t.event,Qv oa t.ofs.length oc,t.each,(),(),Qv ra t.rank.length rc,Qv wa t.cond.length wc,Qv aa t.acts.length ac,false,(),"",(),"0","",(),(),(),(),""] rfl rfl hth (by kernel_rfl) (by simp[Value.oneCell']) ?_;refine hK.out _ _ ?_ (fun hHeld=>?_)
  ·exact HKP.out _ HC4.out
  clear hK K
  (try simp only[Act.put,Zj,Zx,Zk])
  refine Kz (by kernel_rfl) ?_ _;refine Jd ?_;rw[←hQ];generalize hwz:Qy w3 _ _ _=wz;have ks:Qqb (At (w.heap.size+1)) w3 wz:=by rw[←hwz];exact ks
  have hblk:wz.heap[w.heap.size+1]?=some (.cells #["3","",(),"",t.name,t.table,t.before,t.event,Qv oa t.ofs.length oc,t.each,(),(),Qv ra t.rank.length rc,Qv wa t.cond.length wc,Qv aa t.acts.length ac,false,(),"",(),"0","",(),(),(),(),""] 44 (0,0)):=by rw[←hwz];exact Qx1 (v:=["3","",(),"",t.name,t.table,t.before,t.event,Qv oa t.ofs.length oc,t.each,(),(),Qv ra t.rank.length rc,Qv wa t.cond.length wc,Qv aa t.acts.length ac,false,(),"",(),"0","",(),(),(),(),""]) (c':=#["3","",(),"",t.name,t.table,t.before,t.event,Qv oa t.ofs.length oc,t.each,(),(),Qv ra t.rank.length rc,Qv wa t.cond.length wc,Qv aa t.acts.length ac,false,(),"",(),"0","",(),(),(),(),""]) (by kernel_rfl) hb26
  clear hth hwz HC4 hHeld;obtain⟨h1,h2,h3,h4,hg⟩:=HR.out
  repeat(first|go_values|go_skip|go_guarded|go_step|go_upon)
  refine Zh (v:=.agg #["3","",(),"",t.name,t.table,t.before,t.event,Qv oa t.ofs.length oc,t.each,(),(),Qv ra t.rank.length rc,Qv wa t.cond.length wc,Qv aa t.acts.length ac,false,(),"",(),"0","",(),(),(),(),""]) ?_ rfl ?_
  ·exact Kq results22 _ _ (w.heap.size+1) _ _ _ _ rfl hblk underlying44 rfl (by kernel_rfl)
  have FIN:=Qwa (n:=3) HO3.out ks (lo:=w2.heap.size) (by omega) (by omega) ⟨3,Qwr,⟨#[]⟩,t,Qyn,Jq7⟩ {Jyz with vo:=Qv oa t.ofs.length oc,vr:=Qv ra t.rank.length rc,vw:=Qv wa t.cond.length wc,va:=Qv aa t.acts.length ac} {Jxo _ _ 3 ⟨#[]⟩ with ho:=h1,hr:=h2,hw:=h3,ha:=h4} (.trigger t hg);exact FIN
 ·go_upto_region 8 with fail
  have HKS:=hid (fun(W:World) (h:OB T w W [⟨w.heap.size+1,"S",44⟩,⟨w.heap.size,#[(),(),()],76⟩])=>(show W.cell? ⟨w.heap.size,1,none⟩=some (Qv none 0 0)∧(∀i:Nat,i<8→W.cell? ⟨3,i,none⟩=some (.string (Qqe i))) from⟨(Yv0 (h.blk (b:=⟨w.heap.size,#[(),(),()],76⟩) (by simp))).2.1,fun i hi=>(HTR.out.at h.kept).2 i hi⟩));have HKP:=hid (fun(W:World) (h:OB T w W [⟨w.heap.size,#[(),(),()],76⟩])=>(show W.cell? ⟨w.heap.size,1,none⟩=some (Qv none 0 0)∧(∀i:Nat,i<8→W.cell? ⟨3,i,none⟩=some (.string (Qqe i))) from⟨(Yv0 (h.blk (b:=⟨w.heap.size,#[(),(),()],76⟩) (by simp))).2.1,fun i hi=>(HTR.out.at h.kept).2 i hi⟩));obtain⟨s1,sN⟩:=HKS.out _ HO1.out;have hTG:=HTR.out.1;have hTw:=HO1.out.lo;generalize hQ:Exit.then _ _=QQ;refine Kg ?_;refine Kj (S:=fun w'=>w'.cell? ⟨w.heap.size,1,none⟩=some (Qv none 0 0)∧(∀i:Nat,i<8→w'.cell? ⟨3,i,none⟩=some (.string (Qqe i)))) (by kernel_rfl) ?_ (fun hHeld=>?_)
  ·exact HKS.out _ HO1.out.drew
  refine tk 0 ?_
  (try simp only[Act.put,Zj,Zx,Zk])
  refine tk 1 ?_
  (try simp only[Act.put,Zj,Zx,Zk])
  refine tk 5 ?_
  (try simp only[Act.put,Zj,Zx,Zk])
  refine tk 6 ?_
  (try simp only[Act.put,Zj,Zx,Zk])
  refine Zc (rs:=[2]) (by kernel_rfl) (by simp) ?_;refine Zy (o:=_) rfl (fun K hK=>?_) Zf
  go_simp
  refine(Qqk T 8 _ (by omega) (by omega) HO1.out.drew.tape).mono ?_;rintro e w2 ⟨v,rfl,⟨j,rfl,j0,j1⟩,ht,hk⟩;obtain⟨j,rfl⟩:=Zt j0;have hj:j<8:=by omega
  have HO2:=hid (HO1.out.drew.step ht hk);clear ht hk;dsimp only;refine hK.out _ _ ?_ (fun hHeld=>?_)
  ·exact HKS.out _ HO2.out
  clear hK K
  (try simp only[Act.put,Zj,Zx,Zk])
  refine tk 3 ?_
  (try simp only[Act.put,Zj,Zx,Zk])
  refine tk 4 ?_
  (try simp only[Act.put,Zj,Zx,Zk])
  refine Zc (rs:=[7]) (by kernel_rfl) (by simp) ?_;refine Zy (o:=_) rfl (fun K hK=>?_) Zf
  go_simp
  refine(Jk7 T j hj _ HO2.out.tape (HW.out.at HO2.out.kept)).mono ?_;rintro e w3 ⟨v,rfl,⟨t,vo,vr,vw,va,rfl,h1,h2,h3,h4,hg⟩,ht,hk⟩;obtain⟨oa,oc,rfl,_⟩:=Qqa.shape h1;obtain⟨ra,rc,rfl,_⟩:=Qqa.shape h2;obtain⟨wa,wc,rfl,_⟩:=Qqa.shape h3;obtain⟨aa,ac,rfl,_⟩:=Qqa.shape h4;have HO3:=hid (HO2.out.step ht hk);have HR:=hid (Ze h1 (Ze h2 (Ze h3 (Ze h4 hg))));have hz2:=HO2.out.blt (b:=⟨w.heap.size+1,"S",44⟩) (by simp);dsimp only at hz2;unfold Jja;clear h1 h2 h3 h4 hg ht hk;dsimp only;refine hK.out _ _ ?_ (fun hHeld=>?_)
  ·exact HKS.out _ HO3.out
  clear hK K
  (try simp only[Act.put,Zj,Zx,Zk])
  refine tk 8 ?_
  (try simp only[Act.put,Zj,Zx,Zk])
  have hb26:=HO3.out.blk (b:=⟨w.heap.size+1,"S",44⟩) (by simp);dsimp only at hb26;have hth:World.there w3 (w.heap.size+1) 0 (#["3","",(),"",t.name,t.table,t.before,t.event,Qv oa t.ofs.length oc,t.each,(),(),Qv ra t.rank.length rc,Qv wa t.cond.length wc,Qv aa t.acts.length ac,false,(),"",(),"0","",(),(),(),(),""]:Array Value).size:=by have h:=Qxi hb26;exact h
  have ks:=Qqj ["3","",(),"",t.name,t.table,t.before,t.event,Qv oa t.ofs.length oc,t.each,(),(),Qv ra t.rank.length rc,Qv wa t.cond.length wc,Qv aa t.acts.length ac,false,(),"",(),"0","",(),(),(),(),""] 0 w3 (C:=w.heap.size+1);have hC4:=(HO3.out.sub (L':=[⟨w.heap.size,#[(),(),()],76⟩]) (fun b hb=>Zl _ hb)).then ks (fun i hi e=>by unfold At at e;omega) (fun b hb e=>by rw[Zd.1 hb] at e;unfold At at e;dsimp only at e;omega);have HC4:=hid hC4;clear hC4;refine Zc (rs:=[9]) (by kernel_rfl) (by simp) ?_;refine Zy (o:=_) rfl (fun K hK=>?_) Zf;rw[if_pos (by rfl)];refine wp_store_mid 44 _ _ rfl (w.heap.size+1) 0 #["3","",(),"",t.name,t.table,t.before,t.event,Qv oa t.ofs.length oc,t.each,(),(),Qv ra t.rank.length rc,Qv wa t.cond.length wc,Qv aa t.acts.length ac,false,(),"",(),"0","",(),(),(),(),""] rfl rfl hth (by kernel_rfl) (by simp[Value.oneCell']) ?_;refine hK.out _ _ ?_ (fun hHeld=>?_)
  ·exact HKP.out _ HC4.out
  clear hK K
  (try simp only[Act.put,Zj,Zx,Zk])
  refine Kz (by kernel_rfl) ?_ _;refine Jd ?_;rw[←hQ];generalize hwz:Qy w3 _ _ _=wz;have ks:Qqb (At (w.heap.size+1)) w3 wz:=by rw[←hwz];exact ks
  have hblk:wz.heap[w.heap.size+1]?=some (.cells #["3","",(),"",t.name,t.table,t.before,t.event,Qv oa t.ofs.length oc,t.each,(),(),Qv ra t.rank.length rc,Qv wa t.cond.length wc,Qv aa t.acts.length ac,false,(),"",(),"0","",(),(),(),(),""] 44 (0,0)):=by rw[←hwz];exact Qx1 (v:=["3","",(),"",t.name,t.table,t.before,t.event,Qv oa t.ofs.length oc,t.each,(),(),Qv ra t.rank.length rc,Qv wa t.cond.length wc,Qv aa t.acts.length ac,false,(),"",(),"0","",(),(),(),(),""]) (c':=#["3","",(),"",t.name,t.table,t.before,t.event,Qv oa t.ofs.length oc,t.each,(),(),Qv ra t.rank.length rc,Qv wa t.cond.length wc,Qv aa t.acts.length ac,false,(),"",(),"0","",(),(),(),(),""]) (by kernel_rfl) hb26
  clear hth hwz HC4 hHeld;obtain⟨h1,h2,h3,h4,hg⟩:=HR.out
  repeat(first|go_values|go_skip|go_guarded|go_step|go_upon)
  refine Zh (v:=.agg #["3","",(),"",t.name,t.table,t.before,t.event,Qv oa t.ofs.length oc,t.each,(),(),Qv ra t.rank.length rc,Qv wa t.cond.length wc,Qv aa t.acts.length ac,false,(),"",(),"0","",(),(),(),(),""]) ?_ rfl ?_
  ·exact Kq results22 _ _ (w.heap.size+1) _ _ _ _ rfl hblk underlying44 rfl (by kernel_rfl)
  have FIN:=Qwa (n:=3) HO3.out ks (lo:=w2.heap.size) (by omega) (by omega) ⟨3,Qwr,⟨#[]⟩,t,Qyn,Jq7⟩ {Jyz with vo:=Qv oa t.ofs.length oc,vr:=Qv ra t.rank.length rc,vw:=Qv wa t.cond.length wc,va:=Qv aa t.acts.length ac} {Jxo _ _ 3 ⟨#[]⟩ with ho:=h1,hr:=h2,hw:=h3,ha:=h4} (.trigger t hg);exact FIN
 ·have hTG:=HTR.out.1;have hTw:=HO1.out.lo;go_wp2_with fail
  refine(Qqk T 8 _ (by omega) (by omega) HO1.out.tape).mono ?_;rintro e w2 ⟨v,rfl,⟨j,rfl,j0,j1⟩,ht,hk⟩;obtain⟨j,rfl⟩:=Zt j0;have HO2:=hid (HO1.out.step ht hk);have hj:j<8:=by omega
  have HNM:=hid (Yqd j hj);have hnm:=(HTR.out.at (HO1.out.step ht hk).kept).2 j hj;have hz1:w.heap.size+1<w2.heap.size:=(HO1.out.step ht hk).blt (b:=⟨w.heap.size+1,"S",44⟩) (by simp);clear ht hk HO1;dsimp only;have hb26:=HO2.out.blk (b:=⟨w.heap.size+1,"S",44⟩) (by simp);dsimp only at hb26;have hth:World.there w2 (w.heap.size+1) 0 (#["4","",(),(Qqe j),"","",false,"0",(),false,(),(),(),(),(),false,(),"",(),"0","",(),(),(),(),""]:Array Value).size:=by have h:=Qxi hb26;exact h
  repeat(first|(refine Kd rfl 44 _ _ rfl (w.heap.size+1) 0 #["4","",(),(Qqe j),"","",false,"0",(),false,(),(),(),(),(),false,(),"",(),"0","",(),(),(),(),""] rfl rfl hth (by kernel_rfl) (by simp[Value.oneCell']) ?_)|go_values|go_skip|go_guarded|go_step|go_upon)
  generalize hwz:Qy w2 _ _ _=wz;have ks:Qqb (At (w.heap.size+1)) w2 wz:=by rw[←hwz];exact Qqj ["4","",(),(Qqe j),"","",false,"0",(),false,(),(),(),(),(),false,(),"",(),"0","",(),(),(),(),""] 0 w2
  have hblk:wz.heap[w.heap.size+1]?=some (.cells #["4","",(),(Qqe j),"","",false,"0",(),false,(),(),(),(),(),false,(),"",(),"0","",(),(),(),(),""] 44 (0,0)):=by rw[←hwz];exact Qx1 (v:=["4","",(),(Qqe j),"","",false,"0",(),false,(),(),(),(),(),false,(),"",(),"0","",(),(),(),(),""]) (c':=#["4","",(),(Qqe j),"","",false,"0",(),false,(),(),(),(),(),false,(),"",(),"0","",(),(),(),(),""]) (by kernel_rfl) hb26
  clear hth hwz;refine Zh (v:=.agg #["4","",(),(Qqe j),"","",false,"0",(),false,(),(),(),(),(),false,(),"",(),"0","",(),(),(),(),""]) ?_ rfl ?_
  ·exact Kq results22 _ _ (w.heap.size+1) _ _ _ _ rfl hblk underlying44 rfl (by kernel_rfl)
  have FIN:=Qwa (n:=3) HO2.out ks (lo:=w.heap.size+1+1) (by omega) (by omega) ⟨4,Qwr,Qqe j,Qym,Qyn,Jq7⟩ Jyz (Jxo _ _ 4 _) (.dropTrigger _ HNM.out);exact FIN
 ·go_wp2_with fail
  refine(Jx7 _).mono ?_;rintro e w2 ⟨a,c,rfl,hs,hb⟩;have HO2:=hid (HO1.out.bel hb);have HS2:=hid (Qjt.weak (M':=At T) (fun k _ h=>by have:=HO1.out.size;have:=HO1.out.lo;unfold At at h;unfold Old;omega) hs);have hz1:w.heap.size+1<w1.heap.size:=HO1.out.blt (b:=⟨w.heap.size+1,"S",44⟩) (by simp);have hz2:=hb.size;clear hs hb HO1;dsimp only;go_wp2_with fail
  refine(Yqc 2 (Qkn 2 (by omega)) T 2 none a 0 c Jz0 [] Qq3 _ (by omega) (by omega) (by omega) HO2.out.tape (HW.out.at HO2.out.kept) (Qqa.nil ..) HS2.out (Jqu 3 (by omega))).mono ?_;rintro e w3 ⟨v,rfl,⟨q,vi,vx,rfl,h1,h2,_,hl,hg⟩,ht,hk⟩;obtain⟨ia,ic,rfl,_⟩:=h1.shape;obtain⟨xa,xc,rfl,_⟩:=h2.shape;have HO3:=hid (HO2.out.step ht hk);have HQ:=hid (Ze h1 (Ze h2 (Ze hl hg)));clear h1 h2 hl hg ht hk HO2 HS2;dsimp only;have hb26:=HO3.out.blk (b:=⟨w.heap.size+1,"S",44⟩) (by simp);dsimp only at hb26;have hth:World.there w3 (w.heap.size+1) 0 (#["5","",(),"","","",false,"0",(),false,(),(),(),(),(),q.star,Qv ia q.items.length ic,q.frm,Qv xa q.whr.length xc,"0","",(),(),(),(),""]:Array Value).size:=by have h:=Qxi hb26;exact h
  repeat(first|(refine Kd rfl 44 _ _ rfl (w.heap.size+1) 0 #["5","",(),"","","",false,"0",(),false,(),(),(),(),(),q.star,Qv ia q.items.length ic,q.frm,Qv xa q.whr.length xc,"0","",(),(),(),(),""] rfl rfl hth (by kernel_rfl) (by simp[Value.oneCell']) ?_)|go_values|go_skip|go_guarded|go_step|go_upon)
  generalize hwz:Qy w3 _ _ _=wz;have ks:Qqb (At (w.heap.size+1)) w3 wz:=by rw[←hwz];exact Qqj ["5","",(),"","","",false,"0",(),false,(),(),(),(),(),q.star,Qv ia q.items.length ic,q.frm,Qv xa q.whr.length xc,"0","",(),(),(),(),""] 0 w3
  have hblk:wz.heap[w.heap.size+1]?=some (.cells #["5","",(),"","","",false,"0",(),false,(),(),(),(),(),q.star,Qv ia q.items.length ic,q.frm,Qv xa q.whr.length xc,"0","",(),(),(),(),""] 44 (0,0)):=by rw[←hwz];exact Qx1 (v:=["5","",(),"","","",false,"0",(),false,(),(),(),(),(),q.star,Qv ia q.items.length ic,q.frm,Qv xa q.whr.length xc,"0","",(),(),(),(),""]) (c':=#["5","",(),"","","",false,"0",(),false,(),(),(),(),(),q.star,Qv ia q.items.length ic,q.frm,Qv xa q.whr.length xc,"0","",(),(),(),(),""]) (by kernel_rfl) hb26
  clear hth hwz;refine Zh (v:=.agg #["5","",(),"","","",false,"0",(),false,(),(),(),(),(),q.star,Qv ia q.items.length ic,q.frm,Qv xa q.whr.length xc,"0","",(),(),(),(),""]) ?_ rfl ?_
  ·exact Kq results22 _ _ (w.heap.size+1) _ _ _ _ rfl hblk underlying44 rfl (by kernel_rfl)
  have FIN:=Qwa (n:=3) HO3.out ks (lo:=w2.heap.size) (by omega) (by omega) ⟨5,Qwr,⟨#[]⟩,Qym,q,Jq7⟩ {Jyz with vi:=Qv ia q.items.length ic,vx:=Qv xa q.whr.length xc} {Jxo _ _ 5 ⟨#[]⟩ with hi:=HQ.out.1,hx:=HQ.out.2.1} (.select q (QG.up (show QG 2 q from HQ.out.2.2.2) (by omega)) (by have:=HQ.out.2.2.1;omega));exact FIN
 ·go_wp2_with fail
  refine(Jx7 _).mono ?_;rintro e w2 ⟨a,c,rfl,hs,hb⟩;have HO2:=hid (HO1.out.bel hb);have HS2:=hid (Qjt.weak (M':=At T) (fun k _ h=>by have:=HO1.out.size;have:=HO1.out.lo;unfold At at h;unfold Old;omega) hs);have hz1:w.heap.size+1<w1.heap.size:=HO1.out.blt (b:=⟨w.heap.size+1,"S",44⟩) (by simp);have hz2:=hb.size;clear hs hb HO1;dsimp only;go_wp2_with fail
  refine(Qk1 2 (Qkn 2 (by omega)) T 2 none a 0 c Jz0 [] Qq3 _ (by omega) (by omega) (by omega) (by omega) HO2.out.tape (HW.out.at HO2.out.kept) (Qqa.nil ..) HS2.out (Jqu 3 (by omega)) (fun s h=>h)).mono ?_;rintro e w3 ⟨v,rfl,hq,ht,hk⟩;obtain⟨a,a1,a2,a3,a4,c1,c2,c3,c4,rfl,h1,h2,h3,h4,hg,hp⟩:=hq.shape;clear hq;have HO3:=hid (HO2.out.step ht hk);have HQ:=hid (Ze h1 (Ze h2 (Ze h3 (Ze h4 (Ze hg hp)))));clear h1 h2 h3 h4 hg hp ht hk HO2 HS2;dsimp only;have hb26:=HO3.out.blk (b:=⟨w.heap.size+1,"S",44⟩) (by simp);dsimp only at hb26;have hth:World.there w3 (w.heap.size+1) 0 (#["6","",(),"","","",false,"0",(),false,(),(),(),(),(),false,(),"",(),a.kind,a.table,Qv a1 a.rows.length c1,Qv a2 a.query.length c2,Qv a3 a.sets.length c3,Qv a4 a.whr.length c4,a.text]:Array Value).size:=by have h:=Qxi hb26;exact h
  repeat(first|(refine Kd rfl 44 _ _ rfl (w.heap.size+1) 0 #["6","",(),"","","",false,"0",(),false,(),(),(),(),(),false,(),"",(),a.kind,a.table,Qv a1 a.rows.length c1,Qv a2 a.query.length c2,Qv a3 a.sets.length c3,Qv a4 a.whr.length c4,a.text] rfl rfl hth (by kernel_rfl) (by simp[Value.oneCell']) ?_)|go_values|go_skip|go_guarded|go_step|go_upon)
  generalize hwz:Qy w3 _ _ _=wz;have ks:Qqb (At (w.heap.size+1)) w3 wz:=by rw[←hwz];exact Qqj ["6","",(),"","","",false,"0",(),false,(),(),(),(),(),false,(),"",(),a.kind,a.table,Qv a1 a.rows.length c1,Qv a2 a.query.length c2,Qv a3 a.sets.length c3,Qv a4 a.whr.length c4,a.text] 0 w3
  have hblk:wz.heap[w.heap.size+1]?=some (.cells #["6","",(),"","","",false,"0",(),false,(),(),(),(),(),false,(),"",(),a.kind,a.table,Qv a1 a.rows.length c1,Qv a2 a.query.length c2,Qv a3 a.sets.length c3,Qv a4 a.whr.length c4,a.text] 44 (0,0)):=by rw[←hwz];exact Qx1 (v:=["6","",(),"","","",false,"0",(),false,(),(),(),(),(),false,(),"",(),a.kind,a.table,Qv a1 a.rows.length c1,Qv a2 a.query.length c2,Qv a3 a.sets.length c3,Qv a4 a.whr.length c4,a.text]) (c':=#["6","",(),"","","",false,"0",(),false,(),(),(),(),(),false,(),"",(),a.kind,a.table,Qv a1 a.rows.length c1,Qv a2 a.query.length c2,Qv a3 a.sets.length c3,Qv a4 a.whr.length c4,a.text]) (by kernel_rfl) hb26
  clear hth hwz;refine Zh (v:=.agg #["6","",(),"","","",false,"0",(),false,(),(),(),(),(),false,(),"",(),a.kind,a.table,Qv a1 a.rows.length c1,Qv a2 a.query.length c2,Qv a3 a.sets.length c3,Qv a4 a.whr.length c4,a.text]) ?_ rfl ?_
  ·exact Kq results22 _ _ (w.heap.size+1) _ _ _ _ rfl hblk underlying44 rfl (by kernel_rfl)
  have FIN:=Qwa (n:=3) HO3.out ks (lo:=w2.heap.size) (by omega) (by omega) ⟨6,Qwr,⟨#[]⟩,Qym,Qyn,a⟩ {Jyz with v1:=Qv a1 a.rows.length c1,v2:=Qv a2 a.query.length c2,v3:=Qv a3 a.sets.length c3,v4:=Qv a4 a.whr.length c4} {Jxo _ _ 6 ⟨#[]⟩ with h1:=HQ.out.1,h2:=HQ.out.2.1,h3:=HQ.out.2.2.1,h4:=HQ.out.2.2.2.1} (.change a (Qk3.up HQ.out.2.2.2.2.1 (by omega)) HQ.out.2.2.2.2.2);exact FIN
 ·go_wp2_with fail
  refine(Jx7 _).mono ?_;rintro e w2 ⟨a,c,rfl,hs,hb⟩;have HO2:=hid (HO1.out.bel hb);have HS2:=hid (Qjt.weak (M':=At T) (fun k _ h=>by have:=HO1.out.size;have:=HO1.out.lo;unfold At at h;unfold Old;omega) hs);have hz1:w.heap.size+1<w1.heap.size:=HO1.out.blt (b:=⟨w.heap.size+1,"S",44⟩) (by simp);have hz2:=hb.size;clear hs hb HO1;dsimp only;go_wp2_with fail
  refine(Qk1 2 (Qkn 2 (by omega)) T 2 none a 0 c Jz0 [] Qq3 _ (by omega) (by omega) (by omega) (by omega) HO2.out.tape (HW.out.at HO2.out.kept) (Qqa.nil ..) HS2.out (Jqu 3 (by omega)) (fun s h=>h)).mono ?_;rintro e w3 ⟨v,rfl,hq,ht,hk⟩;obtain⟨a,a1,a2,a3,a4,c1,c2,c3,c4,rfl,h1,h2,h3,h4,hg,hp⟩:=hq.shape;clear hq;have HO3:=hid (HO2.out.step ht hk);have HQ:=hid (Ze h1 (Ze h2 (Ze h3 (Ze h4 (Ze hg hp)))));clear h1 h2 h3 h4 hg hp ht hk HO2 HS2;dsimp only;have hb26:=HO3.out.blk (b:=⟨w.heap.size+1,"S",44⟩) (by simp);dsimp only at hb26;have hth:World.there w3 (w.heap.size+1) 0 (#["6","",(),"","","",false,"0",(),false,(),(),(),(),(),false,(),"",(),a.kind,a.table,Qv a1 a.rows.length c1,Qv a2 a.query.length c2,Qv a3 a.sets.length c3,Qv a4 a.whr.length c4,a.text]:Array Value).size:=by have h:=Qxi hb26;exact h
  repeat(first|(refine Kd rfl 44 _ _ rfl (w.heap.size+1) 0 #["6","",(),"","","",false,"0",(),false,(),(),(),(),(),false,(),"",(),a.kind,a.table,Qv a1 a.rows.length c1,Qv a2 a.query.length c2,Qv a3 a.sets.length c3,Qv a4 a.whr.length c4,a.text] rfl rfl hth (by kernel_rfl) (by simp[Value.oneCell']) ?_)|go_values|go_skip|go_guarded|go_step|go_upon)
  generalize hwz:Qy w3 _ _ _=wz;have ks:Qqb (At (w.heap.size+1)) w3 wz:=by rw[←hwz];exact Qqj ["6","",(),"","","",false,"0",(),false,(),(),(),(),(),false,(),"",(),a.kind,a.table,Qv a1 a.rows.length c1,Qv a2 a.query.length c2,Qv a3 a.sets.length c3,Qv a4 a.whr.length c4,a.text] 0 w3
  have hblk:wz.heap[w.heap.size+1]?=some (.cells #["6","",(),"","","",false,"0",(),false,(),(),(),(),(),false,(),"",(),a.kind,a.table,Qv a1 a.rows.length c1,Qv a2 a.query.length c2,Qv a3 a.sets.length c3,Qv a4 a.whr.length c4,a.text] 44 (0,0)):=by rw[←hwz];exact Qx1 (v:=["6","",(),"","","",false,"0",(),false,(),(),(),(),(),false,(),"",(),a.kind,a.table,Qv a1 a.rows.length c1,Qv a2 a.query.length c2,Qv a3 a.sets.length c3,Qv a4 a.whr.length c4,a.text]) (c':=#["6","",(),"","","",false,"0",(),false,(),(),(),(),(),false,(),"",(),a.kind,a.table,Qv a1 a.rows.length c1,Qv a2 a.query.length c2,Qv a3 a.sets.length c3,Qv a4 a.whr.length c4,a.text]) (by kernel_rfl) hb26
  clear hth hwz;refine Zh (v:=.agg #["6","",(),"","","",false,"0",(),false,(),(),(),(),(),false,(),"",(),a.kind,a.table,Qv a1 a.rows.length c1,Qv a2 a.query.length c2,Qv a3 a.sets.length c3,Qv a4 a.whr.length c4,a.text]) ?_ rfl ?_
  ·exact Kq results22 _ _ (w.heap.size+1) _ _ _ _ rfl hblk underlying44 rfl (by kernel_rfl)
  have FIN:=Qwa (n:=3) HO3.out ks (lo:=w2.heap.size) (by omega) (by omega) ⟨6,Qwr,⟨#[]⟩,Qym,Qyn,a⟩ {Jyz with v1:=Qv a1 a.rows.length c1,v2:=Qv a2 a.query.length c2,v3:=Qv a3 a.sets.length c3,v4:=Qv a4 a.whr.length c4} {Jxo _ _ 6 ⟨#[]⟩ with h1:=HQ.out.1,h2:=HQ.out.2.1,h3:=HQ.out.2.2.1,h4:=HQ.out.2.2.2.1} (.change a (Qk3.up HQ.out.2.2.2.2.1 (by omega)) HQ.out.2.2.2.2.2);exact FIN
 ·go_wp2_with fail
  refine(Jx7 _).mono ?_;rintro e w2 ⟨a,c,rfl,hs,hb⟩;have HO2:=hid (HO1.out.bel hb);have HS2:=hid (Qjt.weak (M':=At T) (fun k _ h=>by have:=HO1.out.size;have:=HO1.out.lo;unfold At at h;unfold Old;omega) hs);have hz1:w.heap.size+1<w1.heap.size:=HO1.out.blt (b:=⟨w.heap.size+1,"S",44⟩) (by simp);have hz2:=hb.size;clear hs hb HO1;dsimp only;go_wp2_with fail
  refine(Qk1 2 (Qkn 2 (by omega)) T 2 none a 0 c Jz0 [] Qq3 _ (by omega) (by omega) (by omega) (by omega) HO2.out.tape (HW.out.at HO2.out.kept) (Qqa.nil ..) HS2.out (Jqu 3 (by omega)) (fun s h=>h)).mono ?_;rintro e w3 ⟨v,rfl,hq,ht,hk⟩;obtain⟨a,a1,a2,a3,a4,c1,c2,c3,c4,rfl,h1,h2,h3,h4,hg,hp⟩:=hq.shape;clear hq;have HO3:=hid (HO2.out.step ht hk);have HQ:=hid (Ze h1 (Ze h2 (Ze h3 (Ze h4 (Ze hg hp)))));clear h1 h2 h3 h4 hg hp ht hk HO2 HS2;dsimp only;have hb26:=HO3.out.blk (b:=⟨w.heap.size+1,"S",44⟩) (by simp);dsimp only at hb26;have hth:World.there w3 (w.heap.size+1) 0 (#["6","",(),"","","",false,"0",(),false,(),(),(),(),(),false,(),"",(),a.kind,a.table,Qv a1 a.rows.length c1,Qv a2 a.query.length c2,Qv a3 a.sets.length c3,Qv a4 a.whr.length c4,a.text]:Array Value).size:=by have h:=Qxi hb26;exact h
  repeat(first|(refine Kd rfl 44 _ _ rfl (w.heap.size+1) 0 #["6","",(),"","","",false,"0",(),false,(),(),(),(),(),false,(),"",(),a.kind,a.table,Qv a1 a.rows.length c1,Qv a2 a.query.length c2,Qv a3 a.sets.length c3,Qv a4 a.whr.length c4,a.text] rfl rfl hth (by kernel_rfl) (by simp[Value.oneCell']) ?_)|go_values|go_skip|go_guarded|go_step|go_upon)
  generalize hwz:Qy w3 _ _ _=wz;have ks:Qqb (At (w.heap.size+1)) w3 wz:=by rw[←hwz];exact Qqj ["6","",(),"","","",false,"0",(),false,(),(),(),(),(),false,(),"",(),a.kind,a.table,Qv a1 a.rows.length c1,Qv a2 a.query.length c2,Qv a3 a.sets.length c3,Qv a4 a.whr.length c4,a.text] 0 w3
  have hblk:wz.heap[w.heap.size+1]?=some (.cells #["6","",(),"","","",false,"0",(),false,(),(),(),(),(),false,(),"",(),a.kind,a.table,Qv a1 a.rows.length c1,Qv a2 a.query.length c2,Qv a3 a.sets.length c3,Qv a4 a.whr.length c4,a.text] 44 (0,0)):=by rw[←hwz];exact Qx1 (v:=["6","",(),"","","",false,"0",(),false,(),(),(),(),(),false,(),"",(),a.kind,a.table,Qv a1 a.rows.length c1,Qv a2 a.query.length c2,Qv a3 a.sets.length c3,Qv a4 a.whr.length c4,a.text]) (c':=#["6","",(),"","","",false,"0",(),false,(),(),(),(),(),false,(),"",(),a.kind,a.table,Qv a1 a.rows.length c1,Qv a2 a.query.length c2,Qv a3 a.sets.length c3,Qv a4 a.whr.length c4,a.text]) (by kernel_rfl) hb26
  clear hth hwz;refine Zh (v:=.agg #["6","",(),"","","",false,"0",(),false,(),(),(),(),(),false,(),"",(),a.kind,a.table,Qv a1 a.rows.length c1,Qv a2 a.query.length c2,Qv a3 a.sets.length c3,Qv a4 a.whr.length c4,a.text]) ?_ rfl ?_
  ·exact Kq results22 _ _ (w.heap.size+1) _ _ _ _ rfl hblk underlying44 rfl (by kernel_rfl)
  have FIN:=Qwa (n:=3) HO3.out ks (lo:=w2.heap.size) (by omega) (by omega) ⟨6,Qwr,⟨#[]⟩,Qym,Qyn,a⟩ {Jyz with v1:=Qv a1 a.rows.length c1,v2:=Qv a2 a.query.length c2,v3:=Qv a3 a.sets.length c3,v4:=Qv a4 a.whr.length c4} {Jxo _ _ 6 ⟨#[]⟩ with h1:=HQ.out.1,h2:=HQ.out.2.1,h3:=HQ.out.2.2.1,h4:=HQ.out.2.2.2.1} (.change a (Qk3.up HQ.out.2.2.2.2.1 (by omega)) HQ.out.2.2.2.2.2);exact FIN
end Go.Proofs.YtgepbohjmgaojaaGreatDoor
