/- Well-formed statements of the tape (AnyStatement). -/
import Derived.Test.YtgepbohjmgaojaaGreatDoorVG12
import Derived.Test.YtgepbohjmgaojaaGreatDoorU18
import Derived.Test.YtgepbohjmgaojaaGreatDoorVKA
set_option linter.all false
namespace Go.Proofs.YtgepbohjmgaojaaGreatDoor
open World renaming setCells→Qy
open Value renaming slice→Qv
open Lib(hid)
open Go.RowKit
instance:CoeDep String "S" (Array Value):=⟨#["0","",(),"","","",false,"0",(),false,(),(),(),(),(),false,(),"",(),"0","",(),(),(),(),""]⟩
theorem Jxn.one{M:Nat→Prop}{W:World}{s:Qvu}{u:StV}(h:Jxn M W s u):∀v∈Qxt s u,v.oneCell'=true:=by
 obtain⟨a1,c1,e1,_⟩:=Qqa.shape h.hc;obtain⟨a2,c2,e2,_⟩:=Qqa.shape h.ho;obtain⟨a3,c3,e3,_⟩:=Qqa.shape h.hr;obtain⟨a4,c4,e4,_⟩:=Qqa.shape h.hw;obtain⟨a5,c5,e5,_⟩:=Qqa.shape h.ha;obtain⟨a6,c6,e6,_⟩:=Qqa.shape h.hi;obtain⟨a7,c7,e7,_⟩:=Qqa.shape h.hx;obtain⟨a8,c8,e8⟩:=h.h1.shape;obtain⟨a9,c9,e9,_⟩:=Qqa.shape h.h2;obtain⟨b1,d1,e10,_⟩:=Qqa.shape h.h3;obtain⟨b2,d2,e11,_⟩:=Qqa.shape h.h4;intro v hv;simp only[Qxt,e1,e2,e3,e4,e5,e6,e7,e8,e9,e10,e11,Zs,Zo,Yu] at hv;rcases hv with rfl|rfl|rfl|rfl|rfl|rfl|rfl|rfl|rfl|rfl|rfl|rfl|rfl|rfl|rfl|rfl|rfl|rfl|rfl|rfl|rfl|rfl|rfl|rfl|rfl|rfl<;>rfl
def NS(z st k:Nat):Prop:=k<z∨st≤k
theorem Yz7(s:Qvu)(u:StV)(c:List Value)(h:c.length=26):Qyj c 0 (Qxt s u)=Qxt s u:=by
 have:=Jxg (Qxt s u) c [] (by rw[h];rfl);simpa using this
theorem Jke{w:World}{b i:Nat}{l:List Value}{e:TypeId}{v:Value}(hb:w.heap[b]?=some (.cells l.toArray e (0,0)))(h:l[i]?=some v):w.cell? ⟨b,i,none⟩=some v:=by
 simp[World.cell?,hb,h]
theorem Yk9{w:World}{b:Nat}{l:Array Value}{e:TypeId}(hb:w.heap[b]?=some (.cells l e (0,0)))(i:Nat):w.frozen? ⟨b,i,none⟩=false:=by
 simp[World.frozen?,hb]
set_option maxRecDepth 100000 in
set_option maxHeartbeats 40000000 in
theorem Jkf(T n:Nat)(d:Int)(w:World)(hn3:3≤n)(hn50:n≤50)(hd:d≤n)(hd0:-10≤d)(ht:Qql T w)(hn:Qkj T w)(hw:Qjh T w)(htr:Qv9 T w):Calls Tryz.prog 7 #[.pointer (some ⟨T,0,none⟩),d] w (Qjp T w (Uy5 n w)):=by
 have HT:=hid ht;have HN:=hid hn;have HW:=hid hw;have HTR:=hid htr;have hTw:=ht.lt;clear ht hn hw htr;go_enter Tryz.func7,Tryz.ntmps7;go_wp2_with fail
 generalize hW:World.alloc w _=W0
 have hO:OB T w W0 [⟨w.heap.size,"S",44⟩]:=by
  rw[←hW];exact(OB.start HT.out).new' rfl _ _
 have HO:=hid hO;clear hW hO;refine(Jy0 T _ HO.out.tape (HN.out.at HO.out.kept) (HW.out.at HO.out.kept) (HTR.out.at HO.out.kept)).mono ?_;rintro e w1 ⟨v,rfl,⟨s,u,rfl,hr,hg⟩,ht,hk⟩;have HO1:=hid (HO.out.step ht hk);have hz0:w.heap.size<W0.heap.size:=HO.out.blt (Zv ..);have hz1:=hk.size;have HR1:=hid (hr.weak (M':=MG (Old (w.heap.size+1)) w1.heap.size) fun k _ h=>by unfold MG Old at h;unfold Old;omega);have HG1:=hid hg;have HF1:=hid (hr.h1.weak (M':=NS (w.heap.size+1) w1.heap.size) fun k _ h=>by unfold NS at h;unfold Old;omega);have h1a:(Qxt s u).toArray.all (·.oneCell')=true:=all_oneCell_toArray hr.one
 have hth:World.there (w1.alloc (.cells #["0","",(),"","","",false,"0",(),false,(),(),(),(),(),false,(),"",(),"0","",(),(),(),(),""] 44)) w1.heap.size 0 (Qxt s u).toArray.size:=by
  have h:=Qxi (Zw w1 (.cells #["0","",(),"","","",false,"0",(),false,(),(),(),(),(),false,(),"",(),"0","",(),(),(),(),""] 44));exact h
 clear ht hk hr hg HO;dsimp only;go_step;go_step;go_step;go_step;go_step;refine wp_store_mid 44 _ _ rfl w1.heap.size 0 (Qxt s u).toArray rfl rfl hth (by kernel_rfl) h1a ?_;go_wp2_with fail
 have hO2:OB T w ((w1.alloc (.cells #["0","",(),"","","",false,"0",(),false,(),(),(),(),(),false,(),"",(),"0","",(),(),(),(),""] 44)).setCells w1.heap.size 0 (Qxt s u)) (⟨w1.heap.size,(Qxt s u).toArray,44⟩::[⟨w.heap.size,"S",44⟩]):=(HO1.out.new' rfl #["0","",(),"","","",false,"0",(),false,(),(),(),(),(),false,(),"",(),"0","",(),(),(),(),""] 44).puts 0 (Qxt s u) (by have:=HO1.out.blt (Zv ..);simp;dsimp only at this;omega) (c':=(Qxt s u).toArray) (by rw[Yz7 _ _ _ rfl]);have hk2:Qqb (MG (Old (w.heap.size+1)) w1.heap.size) w1 ((w1.alloc (.cells #["0","",(),"","","",false,"0",(),false,(),(),(),(),(),false,(),"",(),"0","",(),(),(),(),""] 44)).setCells w1.heap.size 0 (Qxt s u)):=((Qqb.refl _ w1).alloc _).then (Qqj (Qxt s u) 0 _) fun i hi h=>by unfold At at h;omega
 have hr2:=HR1.out.keep hk2;have hf2:=HF1.out.keep (show Qqb (NS (w.heap.size+1) w1.heap.size) w1 ((w1.alloc (.cells #["0","",(),"","","",false,"0",(),false,(),(),(),(),(),false,(),"",(),"0","",(),(),(),(),""] 44)).setCells w1.heap.size 0 (Qxt s u)) from((Qqb.refl _ w1).alloc _).then (Qqj (Qxt s u) 0 _) fun i hi h=>by unfold At at h;omega);have hz2:w1.heap.size<((w1.alloc (.cells #["0","",(),"","","",false,"0",(),false,(),(),(),(),(),false,(),"",(),"0","",(),(),(),(),""] 44)).setCells w1.heap.size 0 (Qxt s u)).heap.size:=hO2.blt (Zv ..);generalize hW:Qy (World.alloc w1 _) _ _ _=w2;have hW':(w1.alloc (.cells #["0","",(),"","","",false,"0",(),false,(),(),(),(),(),false,(),"",(),"0","",(),(),(),(),""] 44)).setCells w1.heap.size 0 (Qxt s u)=w2:=hW;rw[hW'] at hO2 hr2 hz2 hf2;have hst:w.heap.size+1≤w1.heap.size:=by omega
 clear hk2 hth h1a hW hW' HR1 HF1;generalize w1.heap.size=st at hO2 hz2 hst hr2 hf2⊢;have HO2:=hid hO2;have HR2:=hid hr2;have HF2:=hid hf2;clear hO2 hr2 hf2 HO1;refine(Uzm n hn50 T d _ hd hd0 HO2.out.tape (HN.out.at HO2.out.kept) (HW.out.at HO2.out.kept)).mono ?_;rintro e w3 ⟨v,rfl,⟨e,hex,hx⟩,ht,hk⟩;obtain⟨ya,yac,ys,ysc,rfl,hya,hys⟩:=hex;have HO3:=hid (HO2.out.step ht hk);have HR3:=hid (HR2.out.keep (hk.weak fun k _ h=>.inl (by unfold At at h;unfold Old;omega)));have HY3:=hid (Qvc (M':=MG (Old (w.heap.size+1)) st) (fun k _ h=>by unfold MG Old at h;unfold Old;omega) (Ze hya hys));have HGE:=hid (Kje hx);have HYO3:=hid (Ze hya hys);have HF3:=hid (HF2.out.keep (hk.weak fun k _ h=>by unfold At at h;unfold NS;omega));have hz3:=hk.size;clear ht hk hya hys hx HO2 HR2 HF2;dsimp only;go_upto_region 3 with fail
 have hO4:=HO3.out.new' rfl #[e.kind,e.op,e.no,e.val.kind,e.val.int,e.val.text,e.table,e.name,Qv ya e.args.length yac,Qv ys e.sub.length ysc] 80;have hr4:=HR3.out.keep ((Qqb.refl _ w3).alloc (.cells #[e.kind,e.op,e.no,e.val.kind,e.val.int,e.val.text,e.table,e.name,Qv ya e.args.length yac,Qv ys e.sub.length ysc] 80));have hy4:=Qq8 ((Qqb.refl _ w3).alloc (.cells #[e.kind,e.op,e.no,e.val.kind,e.val.int,e.val.text,e.table,e.name,Qv ya e.args.length yac,Qv ys e.sub.length ysc] 80)) HY3.out;have hf4:=HF3.out.keep ((Qqb.refl _ w3).alloc (.cells #[e.kind,e.op,e.no,e.val.kind,e.val.int,e.val.text,e.table,e.name,Qv ya e.args.length yac,Qv ys e.sub.length ysc] 80));have ho4:=Qq8 ((Qqb.refl _ w3).alloc (.cells #[e.kind,e.op,e.no,e.val.kind,e.val.int,e.val.text,e.table,e.name,Qv ya e.args.length yac,Qv ys e.sub.length ysc] 80)) HYO3.out;have hz4:w3.heap.size<(w3.alloc (.cells #[e.kind,e.op,e.no,e.val.kind,e.val.int,e.val.text,e.table,e.name,Qv ya e.args.length yac,Qv ys e.sub.length ysc] 80)).heap.size:=by simp
 generalize World.alloc w3 _=w4 at hO4 hr4 hy4 hz4 hf4 ho4⊢;generalize w3.heap.size=eb at hO4 hz3 hz4⊢;have HO4:=hid hO4;have HR4:=hid hr4;have HY4:=hid hy4;have HF4:=hid hf4;have HYO4:=hid ho4;clear hO4 hr4 hy4 hf4 ho4 HO3 HR3 HY3 HF3 HYO3;have hsb:=HO4.out.blk (b:=⟨st,(Qxt s u).toArray,44⟩) (by simp);have heb:=HO4.out.blk (Zv ..);dsimp only at hsb heb;obtain⟨e0,e1,e2,e3,e4,e5,e6,e7,e8,e9,_⟩:=Qq5 heb;have k0:w4.cell? ⟨st,0,none⟩=some (.int .i64 s.kind):=Jke hsb rfl;have k19:w4.cell? ⟨st,19,none⟩=some (.int .i64 s.act.kind):=Jke hsb rfl;have k21:w4.cell? ⟨st,21,none⟩=some u.v1:=Jke hsb rfl;have F13:=Yk9 hsb 13;have F18:=Yk9 hsb 18;have F24:=Yk9 hsb 24;have k13:w4.cell? ⟨st,13,none⟩=some u.vw:=Jke hsb rfl;have k18:w4.cell? ⟨st,18,none⟩=some u.vx:=Jke hsb rfl;have k24:w4.cell? ⟨st,24,none⟩=some u.v4:=Jke hsb rfl;have s0:st<w4.heap.size:=by omega
 have s1:st<w4.heap.size+1:=by omega
 have s3:st≠w4.heap.size:=by omega
 clear hsb heb
 go_upto_block 0 with fail
 go_cut [] (fun wx=>∃(s':Qvu) (u':StV),Jxn (MG (Old (w.heap.size+1)) st) wx s' u'∧Qwx n s'∧OB T w wx [⟨st,(Qxt s' u').toArray,44⟩,⟨w.heap.size,"S",44⟩])
 case first=>
  have hg:=HG1.out
  cases hg with
  |table s0 h=>
   go_wp2_with fail
   go_meet
   exact⟨_,u,HR4.out,Qwx.up HG1.out hn3,Qzw HO4.out⟩
  |dropTable t h=>
   go_wp2_with fail
   go_meet
   exact⟨_,u,HR4.out,Qwx.up HG1.out hn3,Qzw HO4.out⟩
  |dropTrigger t h=>
   go_wp2_with fail
   go_meet
   exact⟨_,u,HR4.out,Qwx.up HG1.out hn3,Qzw HO4.out⟩
  |trigger t h=>
   go_wp2_with fail
   go_meet
   have ks:Qqb (MG (Old (w.heap.size+1)) st) w4 (w4.setCells st 13 [(Qv (some ⟨w4.heap.size,0,none⟩) 1 1)]):=(Qqj [(Qv (some ⟨w4.heap.size,0,none⟩) 1 1)] 13 w4).weak fun _ _ h=>.inr h;have hE:=Qvn (M:=MG (Old (w.heap.size+1)) st) (W:=w4.setCells st 13 [(Qv (some ⟨w4.heap.size,0,none⟩) 1 1)]) (e:=80) (x:=e) (a:=ya) (s:=ys) (ac:=yac) (sc:=ysc) (g:=w4.heap.size) (by simp[Qy]) (fun h=>by simp only[Qy,Ja] at h;unfold MG Old at h;omega) (Qq8 ks HY4.out);have hr:=HR4.out.keep (ks.alloc (.cells #[e.kind,e.op,e.no,e.val.kind,e.val.int,e.val.text,e.table,e.name,Qv ya e.args.length yac,Qv ys e.sub.length ysc] 80));have hO:=((Qzw HO4.out).puts 13 [(Qv (some ⟨w4.heap.size,0,none⟩) 1 1)] (by simp;omega) (c':=(Qxt ⟨3,Qwr,⟨#[]⟩,Kq8 t e,Qyn,Jq7⟩ {u with vw:=(Qv (some ⟨w4.heap.size,0,none⟩) 1 1)}).toArray) rfl).alloc (.cells #[e.kind,e.op,e.no,e.val.kind,e.val.int,e.val.text,e.table,e.name,Qv ya e.args.length yac,Qv ys e.sub.length ysc] 80);exact⟨⟨3,Qwr,⟨#[]⟩,Kq8 t e,Qyn,Jq7⟩,{u with vw:=(Qv (some ⟨w4.heap.size,0,none⟩) 1 1)},⟨hr.hc,hr.ho,hr.hr,hE,hr.ha,hr.hi,hr.hx,hr.h1,hr.h2,hr.h3,hr.h4⟩,(.trigger _ (Kja (Jxf.up h hn3) HGE.out)),hO⟩
  |select q h hl=>
   go_wp2_with fail
   go_meet
   have ks:Qqb (MG (Old (w.heap.size+1)) st) w4 (w4.setCells st 18 [(Qv (some ⟨w4.heap.size,0,none⟩) 1 1)]):=(Qqj [(Qv (some ⟨w4.heap.size,0,none⟩) 1 1)] 18 w4).weak fun _ _ h=>.inr h;have hE:=Qvn (M:=MG (Old (w.heap.size+1)) st) (W:=w4.setCells st 18 [(Qv (some ⟨w4.heap.size,0,none⟩) 1 1)]) (e:=80) (x:=e) (a:=ya) (s:=ys) (ac:=yac) (sc:=ysc) (g:=w4.heap.size) (by simp[Qy]) (fun h=>by simp only[Qy,Ja] at h;unfold MG Old at h;omega) (Qq8 ks HY4.out);have hr:=HR4.out.keep (ks.alloc (.cells #[e.kind,e.op,e.no,e.val.kind,e.val.int,e.val.text,e.table,e.name,Qv ya e.args.length yac,Qv ys e.sub.length ysc] 80));have hO:=((Qzw HO4.out).puts 18 [(Qv (some ⟨w4.heap.size,0,none⟩) 1 1)] (by simp;omega) (c':=(Qxt ⟨5,Qwr,⟨#[]⟩,Qym,Kq9 q e,Jq7⟩ {u with vx:=(Qv (some ⟨w4.heap.size,0,none⟩) 1 1)}).toArray) rfl).alloc (.cells #[e.kind,e.op,e.no,e.val.kind,e.val.int,e.val.text,e.table,e.name,Qv ya e.args.length yac,Qv ys e.sub.length ysc] 80);exact⟨⟨5,Qwr,⟨#[]⟩,Qym,Kq9 q e,Jq7⟩,{u with vx:=(Qv (some ⟨w4.heap.size,0,none⟩) 1 1)},⟨hr.hc,hr.ho,hr.hr,hr.hw,hr.ha,hr.hi,hE,hr.h1,hr.h2,hr.h3,hr.h4⟩,(.select _ (Kjb (QG.up h hn3) HGE.out) hl),hO⟩
  |change a h hk3=>
   cases h with
   |abort t h h2=>exact absurd hk3 (by show ¬(4:Int)≤3;omega)
   |set z h=>exact absurd hk3 (by show ¬(5:Int)≤3;omega)
   |update t l whr h1 h2 h3 h4 h5 h6 h7=>
    go_wp2_with fail
    go_meet
    have ks:Qqb (MG (Old (w.heap.size+1)) st) w4 (w4.setCells st 24 [(Qv (some ⟨w4.heap.size,0,none⟩) 1 1)]):=(Qqj [(Qv (some ⟨w4.heap.size,0,none⟩) 1 1)] 24 w4).weak fun _ _ h=>.inr h;have hE:=Qvn (M:=MG (Old (w.heap.size+1)) st) (W:=w4.setCells st 24 [(Qv (some ⟨w4.heap.size,0,none⟩) 1 1)]) (e:=80) (x:=e) (a:=ya) (s:=ys) (ac:=yac) (sc:=ysc) (g:=w4.heap.size) (by simp[Qy]) (fun h=>by simp only[Qy,Ja] at h;unfold MG Old at h;omega) (Qq8 ks HY4.out);have hr:=HR4.out.keep (ks.alloc (.cells #[e.kind,e.op,e.no,e.val.kind,e.val.int,e.val.text,e.table,e.name,Qv ya e.args.length yac,Qv ys e.sub.length ysc] 80));have hO:=((Qzw HO4.out).puts 24 [(Qv (some ⟨w4.heap.size,0,none⟩) 1 1)] (by simp;omega) (c':=(Qxt ⟨6,Qwr,⟨#[]⟩,Qym,Qyn,Ukm ⟨2,t,[],[],l,whr,⟨#[]⟩⟩ e⟩ {u with v4:=(Qv (some ⟨w4.heap.size,0,none⟩) 1 1)}).toArray) rfl).alloc (.cells #[e.kind,e.op,e.no,e.val.kind,e.val.int,e.val.text,e.table,e.name,Qv ya e.args.length yac,Qv ys e.sub.length ysc] 80);exact⟨⟨6,Qwr,⟨#[]⟩,Qym,Qyn,Ukm ⟨2,t,[],[],l,whr,⟨#[]⟩⟩ e⟩,{u with v4:=(Qv (some ⟨w4.heap.size,0,none⟩) 1 1)},⟨hr.hc,hr.ho,hr.hr,hr.hw,hr.ha,hr.hi,hr.hx,hr.h1,hr.h2,hr.h3,hE⟩,(.change _ (Ukn (Qk3.up (.update t l whr h1 h2 h3 h4 h5 h6 h7) hn3) HGE.out (by show(2:Int)≠1;omega) (by show(2:Int)≤3;omega)) (by show(2:Int)≤3;omega)),hO⟩
   |delete t whr h1 h2 h3=>
    go_wp2_with fail
    go_meet
    have ks:Qqb (MG (Old (w.heap.size+1)) st) w4 (w4.setCells st 24 [(Qv (some ⟨w4.heap.size,0,none⟩) 1 1)]):=(Qqj [(Qv (some ⟨w4.heap.size,0,none⟩) 1 1)] 24 w4).weak fun _ _ h=>.inr h;have hE:=Qvn (M:=MG (Old (w.heap.size+1)) st) (W:=w4.setCells st 24 [(Qv (some ⟨w4.heap.size,0,none⟩) 1 1)]) (e:=80) (x:=e) (a:=ya) (s:=ys) (ac:=yac) (sc:=ysc) (g:=w4.heap.size) (by simp[Qy]) (fun h=>by simp only[Qy,Ja] at h;unfold MG Old at h;omega) (Qq8 ks HY4.out);have hr:=HR4.out.keep (ks.alloc (.cells #[e.kind,e.op,e.no,e.val.kind,e.val.int,e.val.text,e.table,e.name,Qv ya e.args.length yac,Qv ys e.sub.length ysc] 80));have hO:=((Qzw HO4.out).puts 24 [(Qv (some ⟨w4.heap.size,0,none⟩) 1 1)] (by simp;omega) (c':=(Qxt ⟨6,Qwr,⟨#[]⟩,Qym,Qyn,Ukm ⟨3,t,[],[],[],whr,⟨#[]⟩⟩ e⟩ {u with v4:=(Qv (some ⟨w4.heap.size,0,none⟩) 1 1)}).toArray) rfl).alloc (.cells #[e.kind,e.op,e.no,e.val.kind,e.val.int,e.val.text,e.table,e.name,Qv ya e.args.length yac,Qv ys e.sub.length ysc] 80);exact⟨⟨6,Qwr,⟨#[]⟩,Qym,Qyn,Ukm ⟨3,t,[],[],[],whr,⟨#[]⟩⟩ e⟩,{u with v4:=(Qv (some ⟨w4.heap.size,0,none⟩) 1 1)},⟨hr.hc,hr.ho,hr.hr,hr.hw,hr.ha,hr.hi,hr.hx,hr.h1,hr.h2,hr.h3,hE⟩,(.change _ (Ukn (Qk3.up (.delete t whr h1 h2 h3) hn3) HGE.out (by show(3:Int)≠1;omega) (by show(3:Int)≤3;omega)) (by show(3:Int)≤3;omega)),hO⟩
   |query t q h1 h2 h3=>
    obtain⟨qa,qc,hqv⟩:=HR4.out.h1.shape;rw[hqv] at k21;go_wp2_with fail
    go_meet
    exact⟨_,u,HR4.out,Qwx.up HG1.out hn3,Qzw HO4.out⟩
   |rows t l h1 h2 h3 h4=>
    obtain⟨r0,rest,rfl⟩:∃r0 rest,l=r0::rest:=by
     cases l with
     |nil=>simp at h2
     |cons a b=>exact⟨a,b,rfl⟩
    have hrd:Qkq (MG (Old (w.heap.size+1)) st) w4 u.v1 (r0::rest):=HR4.out.h1;obtain⟨rb,ro,rcap,rg,rc,hva,hcell,hr0,hgM,hgz,hbz,hbg,hthr,hset⟩:=Yq8 hrd;obtain⟨rb',ro',rcap',rg',rc',hva',hcell',_,hgM',hjunk⟩:=Yq8 HF4.out;clear hjunk;rw[hva] at hva';simp only[Yz,Ym,Kf,and_true] at hva';obtain⟨⟨rfl,rfl⟩,_,rfl⟩:=hva';have hcell4:w4.cell? ⟨rb,ro,none⟩=some (Qv (some ⟨rg,0,none⟩) r0.length rc):=hcell;rw[hcell4] at hcell';simp only[Ym,Yz,Kf,and_true] at hcell';have hgg:=hcell'.1;have hg1:w.heap.size+1≤rg:=Nat.le_of_not_lt fun h=>hgM (.inl h);have hg2:rg<st:=Nat.lt_of_not_le fun h=>hgM' (by rw[←hgg];exact .inr h);clear hgg;have hk21:=k21;rw[hva] at hk21;have hl0:0<r0.length:=Jn.2 hr0;have i0:(0:Int)<((rest.length:Int)+1):=by omega
    have i1:(0:Int)<(r0.length:Int):=by omega
    have i2:(0:Int)<((rest.length+1:Nat):Int):=by omega
    have hthr4:World.there w4 rg 0 10:=hthr;simp only[World.there,Ye] at hthr4;have hrgz:rg<w4.heap.size:=hgz;obtain⟨z0,g0⟩:=Jq.1 (hthr4 0 (by omega)).1;have G0:=(hthr4 0 (by omega)).2;obtain⟨z1,g1⟩:=Jq.1 (hthr4 1 (by omega)).1;have G1:=(hthr4 1 (by omega)).2;obtain⟨z2,g2⟩:=Jq.1 (hthr4 2 (by omega)).1;have G2:=(hthr4 2 (by omega)).2;obtain⟨z3,g3⟩:=Jq.1 (hthr4 3 (by omega)).1;have G3:=(hthr4 3 (by omega)).2;obtain⟨z4,g4⟩:=Jq.1 (hthr4 4 (by omega)).1;have G4:=(hthr4 4 (by omega)).2;obtain⟨z5,g5⟩:=Jq.1 (hthr4 5 (by omega)).1;have G5:=(hthr4 5 (by omega)).2;obtain⟨z6,g6⟩:=Jq.1 (hthr4 6 (by omega)).1;have G6:=(hthr4 6 (by omega)).2;obtain⟨z7,g7⟩:=Jq.1 (hthr4 7 (by omega)).1;have G7:=(hthr4 7 (by omega)).2;obtain⟨z8,g8⟩:=Jq.1 (hthr4 8 (by omega)).1;have G8:=(hthr4 8 (by omega)).2;obtain⟨z9,g9⟩:=Jq.1 (hthr4 9 (by omega)).1;have G9:=(hthr4 9 (by omega)).2;have KS:=hid ((Qqj [e.kind,e.op,e.no,e.val.kind,e.val.int,e.val.text,e.table,e.name,Qv ya e.args.length yac,Qv ys e.sub.length ysc] 0 w4 (C:=rg)).drew);have hec:EC (MG (MG (Old (w.heap.size+1)) st) rg) (w4.setCells rg 0 [e.kind,e.op,e.no,e.val.kind,e.val.int,e.val.text,e.table,e.name,Qv ya e.args.length yac,Qv ys e.sub.length ysc]) e [e.kind,e.op,e.no,e.val.kind,e.val.int,e.val.text,e.table,e.name,Qv ya e.args.length yac,Qv ys e.sub.length ysc]:=EC.keep ((Qqj [e.kind,e.op,e.no,e.val.kind,e.val.int,e.val.text,e.table,e.name,Qv ya e.args.length yac,Qv ys e.sub.length ysc] 0 w4 (C:=rg)).weak fun _ _ h=>.inr h) e _ ((Qji ..).2 ⟨_,_,rfl,(Qvc (M':=MG (MG (Old (w.heap.size+1)) st) rg) (fun k _ h=>by unfold MG Old at h;unfold Old;omega) HYO4.out).1,(Qvc (M':=MG (MG (Old (w.heap.size+1)) st) rg) (fun k _ h=>by unfold MG Old at h;unfold Old;omega) HYO4.out).2⟩);have HNEW:=hid ((hset e [e.kind,e.op,e.no,e.val.kind,e.val.int,e.val.text,e.table,e.name,Qv ya e.args.length yac,Qv ys e.sub.length ysc] rfl hec).keep (Qqb.refl _ _).drew)
    have HKS:=hid (fun(W:World) (k:Qqb (At rg) w4 W)=>(show W.cell? ⟨st,21,none⟩=some (Qv (some ⟨rb,ro,none⟩) (rest.length+1) rcap)∧W.cell? ⟨rb,ro,none⟩=some (Qv (some ⟨rg,0,none⟩) r0.length rc)∧W.cell? ⟨eb,0,none⟩=some (.int .i64 e.kind)∧W.cell? ⟨eb,1,none⟩=some (.int .i64 e.op)∧W.cell? ⟨eb,2,none⟩=some (.bool e.no)∧W.cell? ⟨eb,3,none⟩=some (.int .i64 e.val.kind)∧W.cell? ⟨eb,4,none⟩=some (.int .i64 e.val.int)∧W.cell? ⟨eb,5,none⟩=some (.string e.val.text)∧W.cell? ⟨eb,6,none⟩=some (.string e.table)∧W.cell? ⟨eb,7,none⟩=some (.string e.name)∧W.cell? ⟨eb,8,none⟩=some (Qv ya e.args.length yac)∧W.cell? ⟨eb,9,none⟩=some (Qv ys e.sub.length ysc) from
     have q1:¬At rg st:=fun h=>by unfold At at h;omega
     have q2:¬At rg eb:=fun h=>by unfold At at h;omega
     have q3:¬At rg rb:=fun h=>hbg h;have q4:rb<w4.heap.size:=hbz
     ⟨(k.cell s0 q1).trans hk21,(k.cell q4 q3).trans hcell4,(k.cell hz4 q2).trans e0,(k.cell hz4 q2).trans e1,(k.cell hz4 q2).trans e2,(k.cell hz4 q2).trans e3,(k.cell hz4 q2).trans e4,(k.cell hz4 q2).trans e5,(k.cell hz4 q2).trans e6,(k.cell hz4 q2).trans e7,(k.cell hz4 q2).trans e8,(k.cell hz4 q2).trans e9⟩))
    have hks:=HKS.out _ KS.out;dsimp only[World.setCells] at hks;have HKP:=hid hks;have HKD:=hid (HKS.out _ (Qqb.refl (At rg) w4).drew);clear hks k21 hset hec hva hcell hthr hthr4 hcell' hgM' hgM;go_upto_region 12 with fail
    go_region_held3 (fun W=>W.cell? ⟨st,21,none⟩=some (Qv (some ⟨rb,ro,none⟩) (rest.length+1) rcap)∧W.cell? ⟨rb,ro,none⟩=some (Qv (some ⟨rg,0,none⟩) r0.length rc)∧W.cell? ⟨eb,0,none⟩=some (.int .i64 e.kind)∧W.cell? ⟨eb,1,none⟩=some (.int .i64 e.op)∧W.cell? ⟨eb,2,none⟩=some (.bool e.no)∧W.cell? ⟨eb,3,none⟩=some (.int .i64 e.val.kind)∧W.cell? ⟨eb,4,none⟩=some (.int .i64 e.val.int)∧W.cell? ⟨eb,5,none⟩=some (.string e.val.text)∧W.cell? ⟨eb,6,none⟩=some (.string e.table)∧W.cell? ⟨eb,7,none⟩=some (.string e.name)∧W.cell? ⟨eb,8,none⟩=some (Qv ya e.args.length yac)∧W.cell? ⟨eb,9,none⟩=some (Qv ys e.sub.length ysc))
     (first|with_reducible exact HKD.out|with_reducible exact HKP.out|(trace_state;fail))
     (fail)
    all_goals go_wp2_with fail
    all_goals go_meet
    have hzz:w4.heap.size≤((w4.setCells rg 0 [e.kind,e.op,e.no,e.val.kind,e.val.int,e.val.text,e.table,e.name,Qv ya e.args.length yac,Qv ys e.sub.length ysc]).drew).heap.size:=by rw[Yl,Qyz];exact Zz _
    have hO:=OB.drew ((Qzw HO4.out).then (Qqj [e.kind,e.op,e.no,e.val.kind,e.val.int,e.val.text,e.table,e.name,Qv ya e.args.length yac,Qv ys e.sub.length ysc] 0 w4 (C:=rg)) (fun i hi h=>by unfold At at h;omega) (fun b hb h=>by simp only[Zs,Zo,Yu] at hb;rcases hb with rfl|rfl<;>(unfold At at h;dsimp only at h;omega)));have R:=HR4.out;exact⟨⟨6,Qwr,⟨#[]⟩,Qym,Qyn,Kj0 ⟨1,t,r0::rest,[],[],[],⟨#[]⟩⟩ e r0 rest⟩,u,⟨Qz4 R.hc hzz,Qz4 R.ho hzz,Qz4 R.hr hzz,Qz4 R.hw hzz,Qz4 R.ha hzz,Qz4 R.hi hzz,Qz4 R.hx hzz,HNEW.out,Qz4 R.h2 hzz,Qz4 R.h3 hzz,Qz4 R.h4 hzz⟩,(.change _ (Kjc (Qk3.up (.rows t (r0::rest) h1 h2 h3 h4) hn3) HGE.out rfl) (by show(1:Int)≤3;omega)),hO⟩
 case rest=>
  obtain⟨s',u',hr,hg,hO⟩:=hcut;rename World=>w5;have hsb:=hO.blk (b:=⟨st,(Qxt s' u').toArray,44⟩) (by simp);have hrb:=hO.blk (b:=⟨w.heap.size,"S",44⟩) (by simp);dsimp only at hsb hrb;have h1a:(Qxt s' u').toArray.all (·.oneCell')=true:=all_oneCell_toArray hr.one
  have hth:World.there w5 w.heap.size 0 (Qxt s' u').toArray.size:=by
   have h:=Qxi hrb;exact h
  go_upto_region 13 with fail
  go_step;refine wpList_load_row rfl 44 _ rfl st rfl _ (Qxt s' u').toArray _ _ hsb Tryz.underlying44 rfl (by kernel_rfl) ?_;refine Kd rfl 44 _ _ rfl w.heap.size 0 (Qxt s' u').toArray rfl rfl hth (by kernel_rfl) h1a ?_;have hblk:(w5.setCells w.heap.size 0 (Qxt s' u')).heap[w.heap.size]?=some (.cells (Qxt s' u').toArray 44 (0,0)):=Qx1 (v:=Qxt s' u') (c':=(Qxt s' u').toArray) (by rw[Yz7 _ _ _ rfl]) hrb;have ks:=Qqj (Qxt s' u') 0 w5 (C:=w.heap.size);have hR:=hr.weak (M':=Old (w.heap.size+1)) fun k _ h=>.inl h;have FIN:=Qwa (n:=n) hO ks (lo:=w.heap.size+1) (by omega) (by omega) s' u' hR hg;generalize hwz:Qy w5 _ _ _=wz;have hwz':w5.setCells w.heap.size 0 (Qxt s' u')=wz:=hwz;rw[hwz'] at hblk FIN;clear hsb hrb hth h1a ks hR hwz hwz' k0 k19 k21 k13 k18 k24 F13 F18 F24 e0 e1 e2 e3 e4 e5 e6 e7 e8 e9;go_wp2_with fail
  refine Zh (v:=.agg (Qxt s' u').toArray) ?_ rfl ?_
  ·exact Kq Tryz.results7 _ _ w.heap.size _ _ _ _ rfl hblk Tryz.underlying44 rfl (by kernel_rfl)
  exact FIN
end Go.Proofs.YtgepbohjmgaojaaGreatDoor
