/- A query from the tape: the contract of Query, over a contract of Expr. -/
import Derived.Test.YtgepbohjmgaojaaGreatDoorU09
set_option linter.all false
namespace Go.Proofs.YtgepbohjmgaojaaGreatDoor
open World renaming alloc→Qw
open Value renaming slice→Qv
open Lib(hid)
open Go.RowKit
set_option maxRecDepth 100000 in
set_option maxHeartbeats 40000000 in
theorem Yqc(n:Nat)(hE:Qwn n)(T:Nat)(depth:Int)(fa ta:Option Addr)(fc tc:Nat)(look:List UInt8→List Col)(fs:List Frm)(ss:List Sch)(w:World)(hd:depth≤(n:Int))(hd0:-10≤depth)(hn:n≤50)(ht:Qql T w)(hw:Qjh T w)
 (hf:Qqz (At T) w (Qv fa fs.length fc) fs)(hs:Qjt (At T) w (Qv ta ss.length tc) ss)(hP:Qzm look fs ss (n+1)):
 Calls Tryz.prog 53 #[.pointer (some ⟨T,0,none⟩),.agg #[Qv fa fs.length fc,Qv ta ss.length tc],depth] w (Qjp T w (Kq4 n w)):=by
 obtain⟨tb,to',F,L,G,N,rfl,_,htT,htb,hn0,hn1,hsch⟩:=Jv8 hs hP.2.2.2.2.1;have hTw:=ht.lt;have hss:1≤ss.length:=Jn.2 hP.2.2.2.2.1;have hss10:ss.length≤10:=hP.2.2.2.2.2.1;have HSCH:=hid hsch;have HN0:=hid hn0;have HN1:=hid hn1;have HT:=hid ht;have HW:=hid hw;have HF:=hid hf;have HS:=hid hs;have HP:=hid hP;have HE:=hid hE;clear hsch hn0 hn1 ht hw hf hs hP hE;go_enter Tryz.func53,Tryz.ntmps53;go_wp2_with fail
 generalize hW:((w.alloc _).alloc _)=W0;obtain⟨s0,s1,hb0,hz0,hr0⟩:=Qw4 hW;have hp0:W0.heap[w.heap.size]?=some (.cells #[Qv fa fs.length fc,Qv (some ⟨tb,to',none⟩) ss.length tc] 122 (0,0)):=by rw[←hW];exact((Qqb.refl (fun _=>False) (w.alloc _)).alloc _).block _ (by simp) id |>.trans (Zw w _)
 clear hW
 have hL0:Qx0 T (Qv fa fs.length fc) (Qv (some ⟨tb,to',none⟩) ss.length tc) w W0:=⟨HT.out.bel hb0,.bel hb0,hp0,hr0⟩
 have HL0:=hid hL0;have hz1:w.heap.size<W0.heap.size:=by omega
 have hz2:w.heap.size+1<W0.heap.size:=by omega
 have htb0:tb<W0.heap.size:=by omega
 clear hb0 hz0 hr0 hp0 hL0
 go_cut [7] (fun c wx=>Uw6 T (Qv fa fs.length fc) (Qv (some ⟨tb,to',none⟩) ss.length tc) ss w c wx)
 case first=>
  have HKS:=hid (fun(w':World) (h:Qx0 T (Qv fa fs.length fc) (Qv (some ⟨tb,to',none⟩) ss.length tc) w w')=>(show w'.cell? ⟨w.heap.size,1,none⟩=some (Qv (some ⟨tb,to',none⟩) ss.length tc)∧(∀i:Nat,i<ss.length→w'.cell? ⟨tb,to'+i*2,none⟩=some (.string (N i)))∧(∀i:Nat,i<ss.length→w'.cell? ⟨tb,to'+i*2+1,none⟩=some (Qv (F i) (L i) (G i))) from⟨h.place.2.1,fun i hi=>(h.kept.cell htb htT).trans (HN0.out i hi),fun i hi=>(h.kept.cell htb htT).trans (HN1.out i hi)⟩))
  go_region_held3 (fun w'=>w'.cell? ⟨w.heap.size,1,none⟩=some (Qv (some ⟨tb,to',none⟩) ss.length tc)∧(∀i:Nat,i<ss.length→w'.cell? ⟨tb,to'+i*2,none⟩=some (.string (N i)))∧(∀i:Nat,i<ss.length→w'.cell? ⟨tb,to'+i*2+1,none⟩=some (Qv (F i) (L i) (G i))))
   (first|(refine HKS.out _ ?_;first|with_reducible exact HL5.out|with_reducible exact HL0.out.drew|with_reducible exact(HL0.out.alloc hTw _).drew|with_reducible exact(HL0.out.drew.alloc hTw _)|with_reducible exact HL5.out.alloc hTw _|exact(HL5.out.set hTw (by omega) _).set hTw (by omega) _)|fail)
   ((go_at_call 12;go_loud (refine(Qqk T ss.length _ (by omega) (by omega) (by first|with_reducible exact HL0.out.drew.tape|with_reducible exact(HL0.out.alloc hTw _).drew.tape|with_reducible exact(HL0.out.drew.alloc hTw _).tape)).mono ?_;rintro e w5 ⟨v,rfl,⟨r,rfl,hr0,hr1⟩,ht5,hk5⟩;obtain⟨i,rfl⟩:=Zt hr0;have hi:i<ss.length:=(by omega);have hL5:Qx0 T (Qv fa fs.length fc) (Qv (some ⟨tb,to',none⟩) ss.length tc) w w5:=(by first|exact HL0.out.drew.step hTw ht5 hk5|exact(HL0.out.alloc hTw _).drew.step hTw ht5 hk5);have z5:=hk5.size;(try simp only[Zn,Yl] at z5);(first|(have hx5:=((hk5.block W0.heap.size (by simp) (fun h=>by unfold At at h;omega)).trans (show _=some (.cells #["",()] 29 (0,0)) from Zw W0 _));obtain⟨x0,x1,xf0,xf1,xz⟩:=Qjk hx5;have HX5:=hid hx5;clear hx5)|skip);have HL5:=hid hL5;clear ht5 hk5 hL5)))
  all_goals go_wp2_with fail
  all_goals
   obtain⟨en,el,hc⟩:=HSCH.out i _ (Zg hi);have hmem:ss[i]∈ss:=Yo hi;generalize ss[i]=s at en el hc hmem;rw[el] at hc;have HC5:=hid hc
   go_meet
  ·exact⟨w5.heap.size,s,F i,G i,rfl,hmem,by omega,by rw[←en,←el];exact Zw _ _,HC5.out.keep (HL5.out.alloc hTw _).kept,HL5.out.alloc hTw _⟩
  ·exact⟨W0.heap.size,s,F i,G i,rfl,hmem,by omega,by rw[←en,←el];exact Jkg HX5.out,HC5.out.keep ((HL5.out.set hTw (by omega) _).set hTw (by omega) _).kept,(HL5.out.set hTw (by omega) _).set hTw (by omega) _⟩
 case rest=>
  obtain⟨g,s,ca,cc,rfl,hmem,hg,hgb,hc,hL⟩:=hcut;obtain⟨p0,p1,pz⟩:=hL.place;obtain⟨x0,x1,_,_,gz⟩:=Qjk hgb;have hbx:T<wc.heap.size:=Nat.lt_trans hTw pz;have HFc:=hid (HF.out.keep hL.kept);have HSc:=hid (HS.out.keep hL.kept);have hP2:=HP.out.inside hmem;have hfl:fs.length≤100:=by have:=HP.out.2.1;omega
  have HP2:=hid hP2;have HC:=hid hc;have HL:=hid hL;have HGB:=hid hgb;have HMEM:=hid hmem;have HSN:=hid (HP.out.2.2.2.2.2.2.2 s hmem).1;clear hc hL hgb hmem hP2;have HEX:=hid (fun(W:World) (p h:Nat) (a6:Option Addr) (c6:Nat) (st:Bool) (frm:ByteArray) (vi:Value) (items:List Ex) (q:QL T (Qv fa fs.length fc) (Qv (some ⟨tb,to',none⟩) ss.length tc) w W p h (Qv a6 (fs.length+1) c6) (fs++[Qj6 s]) st frm vi items)=>Uw7 HE.out HW.out HS.out HP2.out q);clear HE HW HS HP HF HT HSCH
  go_upto_region 3 with(go_at_call 96;go_loud (refine(Qw8 (M:=At T) (Qv fa fs.length fc) (Qv (some ⟨tb,to',none⟩) ss.length tc) fs s.name (Qv ca s.cols.length cc) s.cols _ _ _ _ rfl HFc.out HC.out (fun k h1 h2=>by unfold At at h2;omega) (by omega)).mono ?_;rintro e w6 ⟨a6,c6,rfl,h6,hb6⟩;rw[show(fs++[Frm.mk s.name false s.cols]).length=fs.length+1 by simp] at h6⊢;have HL6:=hid (HL.out.bel hTw hb6);have z6:=hb6.size;have hg6:=((hb6.block _ gz).trans HGB.out);have HF6:=hid h6;have HG6:=hid hg6;clear h6 hb6 hg6))
  have hz6:w.heap.size+1<w6.heap.size:=HL6.out.lt;have hgz6:g<w6.heap.size:=by omega
  have hlq:Qx0 T (Qv fa fs.length fc) (Qv (some ⟨tb,to',none⟩) ss.length tc) w (w6.alloc (.cells #[Qv a6 (fs.length+1) c6,Qv (some ⟨tb,to',none⟩) ss.length tc] 122)):=HL6.out.alloc hTw _;have hp7:=Zw w6 (.cells #[Qv a6 (fs.length+1) c6,Qv (some ⟨tb,to',none⟩) ss.length tc] 122);have hf7:Qqz (TOr T w6.heap.size) (w6.alloc (.cells #[Qv a6 (fs.length+1) c6,Qv (some ⟨tb,to',none⟩) ss.length tc] 122)) (Qv a6 (fs.length+1) c6) (fs++[Qj6 s]):=Qqz.keep (Qqz.weak (M':=TOr T w6.heap.size) (fun k hk h=>by unfold TOr at h;rcases h with h|h;exact h;omega) HF6.out) ((Qqb.refl _ w6).alloc _);have hg7:(w6.alloc (.cells #[Qv a6 (fs.length+1) c6,Qv (some ⟨tb,to',none⟩) ss.length tc] 122)).heap[g]?=some (.cells #[s.name,Qv ca s.cols.length cc] 29 (0,0)):=(Jy _ _ hgz6).trans HG6.out;have hps:w6.heap.size<(w6.alloc (.cells #[Qv a6 (fs.length+1) c6,Qv (some ⟨tb,to',none⟩) ss.length tc] 122)).heap.size:=by simp
  generalize hW7:Qw w6 _=W7;rw[hW7] at hlq hp7 hf7 hg7 hps;generalize w6.heap.size=p at hp7 hf7 hz6 hps;have HLQ:=hid hlq;have HP7:=hid hp7;have HF7:=hid hf7;have HG7:=hid hg7;have HZ6:=hid hz6;obtain⟨x0,x1,_,_,xz⟩:=Qjk hg7;have hgT:g≠T:=by omega
  have hpT:p≠T:=by omega
  clear hW7 hlq hp7 hf7 hg7 HL6 HF6 HG6 p0 p1;clear HGB HC HFc HSc HL
  go_cut [9] (fun v wx=>∃st h,v=.pointer (some ⟨h,0,none⟩)∧QL T (Qv fa fs.length fc) (Qv (some ⟨tb,to',none⟩) ss.length tc) w wx p h (Qv a6 (fs.length+1) c6) (fs++[Qj6 s]) st s.name () [])
  case first=>
   have HSQ:Hid (∀wx,Qqb (At T) W7 wx→wx.cell? ⟨g,0,none⟩=some (.string s.name)):=hid fun wx hk=>(hk.cell xz hgT).trans x0;refine Kg ?_;refine Kj (S:=fun w'=>w'.cell? ⟨g,0,none⟩=some (.string s.name)) (by kernel_rfl) x0 (fun hHeld=>?_);refine tk 0 ?_;simp only[Act.put,Yy,Yj,Zj,Zx,Zk];refine tk 1 ?_;simp only[Act.put,Yy,Yg,Yj,Zj,Zx,Zk];refine tk 2 ?_;simp only[Act.put,Yy,Yg,Yj,Zj,Zx,Zk];refine Zc (rs:=[3,5]) (by kernel_rfl) (by simp) ?_;refine Zy (o:=_) rfl (fun K hK=>?_) (Zy (o:=_) rfl (fun K hK=>?_) Zf)
   ·go_simp
    refine(Qq2 T 3 _ (by omega) (by omega) HLQ.out.drew.tape).mono ?_;rintro e w8 ⟨v,rfl,⟨b,rfl⟩,ht,hk⟩;have HL8:=hid (HLQ.out.drew.step hTw ht hk);have HK8:=hid (((Qqb.refl (At T) W7).drew).trans hk);clear ht hk;dsimp only;refine hK.out _ _ (HSQ.out _ HK8.out) (fun hHeld=>?_);clear hK K;refine tk 4 ?_;simp only[Act.put,Yy,Yg,Yj,Zj,Zx,Zk];refine Zc (rs:=[5]) (by kernel_rfl) (by simp) ?_;refine Zy (o:=_) rfl (fun K hK=>?_) Zf
    go_simp
    refine hK.out _ _ (HSQ.out _ (HK8.out.alloc _)) (fun hHeld=>?_);clear hK K;refine Zc (rs:=[6]) (by kernel_rfl) (by simp) ?_;refine Zy (o:=_) rfl (fun K hK=>?_) Zf;have hf0:=frz (Zw w8 (.cells #[false,(),"",()] 37));obtain⟨z0,z1,z2,z3,_,_,_⟩:=Qzo (Zw w8 (.cells #[false,(),"",()] 37))
    go_simp
    refine hK.out _ _ (HSQ.out _ (HK8.out.alloc _)) (fun hHeld=>?_);clear hK K;refine Kz (by kernel_rfl) ?_ _;refine Jd ?_;go_wp2_with fail
    go_meet
    refine⟨b,w8.heap.size,rfl,?_⟩;have hz8:=HL8.out.lt;have hk8z:=HK8.out.size;have hkN:Qqb (At T) W7 (w8.alloc (.cells #[b,(),s.name,()] 37)):=HK8.out.alloc _;refine⟨HL8.out.alloc hTw _,HZ6.out,by omega,?_,?_,Zw w8 _,Qqn.nil ..⟩
    ·exact(hkN.block _ hps fun hh=>by unfold At at hh;omega).trans HP7.out
    ·exact Qqz.keep HF7.out (hkN.weak fun k _ h=>.inl h)
   ·go_simp
    have hx7:(World.drew (Qw W7 (.cells #[false,(),"",()] 37))).heap[W7.heap.size]?=some (.cells #[false,(),"",()] 37 (0,0)):=Zw W7 (.cells #[false,(),"",()] 37);have hl7:=(HLQ.out.alloc hTw (.cells #[false,(),"",()] 37)).drew;have hk7:Qqb (At T) W7 (World.drew (Qw W7 (.cells #[false,(),"",()] 37))):=((Qqb.refl (At T) W7).alloc _).drew;generalize hW8:World.drew (Qw W7 (.cells #[false,(),"",()] 37))=W8 at hx7 hl7 hk7⊢;have HX7:=hid hx7;have HL7:=hid hl7;have HK7:=hid hk7;refine hK.out _ _ (HSQ.out _ hk7) (fun hHeld=>?_);clear hK K hW8 hx7 hl7 hk7;refine Zc (rs:=[3]) (by kernel_rfl) (by simp) ?_;refine Zy (o:=_) rfl (fun K hK=>?_) Zf
    go_simp
    refine(Qq2 T 3 _ (by omega) (by omega) HL7.out.tape).mono ?_;rintro e w8 ⟨v,rfl,⟨b,rfl⟩,ht,hk⟩;have HL8:=hid (HL7.out.step hTw ht hk);have HK8:=hid (HK7.out.trans hk);have hx8:=(hk.block _ (Zq.1 HX7.out).1 (fun h=>by unfold At at h;omega)).trans HX7.out;have HX8:=hid hx8;obtain⟨z0,z1,z2,z3,_,_,zz⟩:=Qzo hx8;have hf0:=frz hx8;clear ht hk hx8;dsimp only;refine hK.out _ _ (HSQ.out _ HK8.out) (fun hHeld=>?_);clear hK K;refine tk 4 ?_;simp only[Act.put,Yy,Yg,Yj,Zj,Zx,Zk];refine Zc (rs:=[6]) (by kernel_rfl) (by simp) ?_;refine Zy (o:=_) rfl (fun K hK=>?_) Zf
    go_simp
    have hg7z:g<W7.heap.size:=xz;refine hK.out _ _ (HSQ.out _ (HK8.out.then (Qkd W7.heap.size _ _ _ _ _) fun k hk h=>by unfold At at h;omega)) (fun hHeld=>?_);clear hK K;refine Kz (by kernel_rfl) ?_ _;refine Jd ?_;go_wp2_with fail
    go_meet
    refine⟨b,W7.heap.size,rfl,?_⟩;have hz7:=HLQ.out.lt;have hk4:=Qkd W7.heap.size w8 b () s.name ();have hk8z:=HK8.out.size;refine⟨HL8.out.late hTw hk4 fun i hi hh=>by unfold At at hh;omega,HZ6.out,hps,?_,?_,Jwl HX8.out,Qqn.nil ..⟩
    ·exact(hk4.block _ (by omega) fun hh=>by unfold At at hh;omega).trans ((HK8.out.block _ hps fun hh=>by unfold At at hh;omega).trans HP7.out)
    ·exact(Qqz.keep (Qqz.keep HF7.out (HK8.out.weak fun k _ h=>.inl h)) (hk4.weak fun k _ h=>.inr (by unfold At at h;omega)))
  case rest=>
   obtain⟨st,h,rfl,hq⟩:=hcut;have HQ:=hid hq;clear hq HP7 HF7 HG7 HLQ x0 x1 hgT;rename World=>wq;obtain⟨c0,c1,c2,c3,cf,cz⟩:=HQ.out.cells;obtain⟨b0,b1,bz⟩:=HQ.out.box;go_wp2_with fail
   refine(Qqk T 3 _ (by omega) (by omega) HQ.out.1.tape).mono ?_;rintro e w9 ⟨v,rfl,⟨r,rfl,hr0,hr1⟩,ht,hk⟩;have HQ9:=hid (HQ.out.step hTw ht hk)
   obtain⟨j,rfl⟩:∃j:Nat,r=(j:Int):=⟨r.toNat,by omega⟩
   clear ht hk c0 c1 c2 c3 cf cz b0 b1 bz HQ;dsimp only;go_wp2_with fail
   go_loopw[10] (fun i wr=>∃(j:Nat) (vi:Value) (items:List Ex),i=.int .i64 j∧j+items.length≤3∧QL T (Qv fa fs.length fc) (Qv (some ⟨tb,to',none⟩) ss.length tc) w wr p h (Qv a6 (fs.length+1) c6) (fs++[Qj6 s]) st s.name vi items∧(st=(items.length==0)∨(st=false∧1≤j))∧∀x∈items,dep x≤n∧GX n x) (fun i _=>(intOf i).toNat)
   case atStart=>exact⟨1+j,_,[],by go_num,by simp;omega,HQ9.out,by cases st;exact .inr ⟨rfl,by omega⟩;exact .inl rfl,fun x hx=>by cases hx⟩
   case round=>
    clear HQ9;rename World=>wr;obtain⟨j,vi,items,rfl,hj,hq,hst,hdep⟩:=hrel;have HST:=hid hst;have HQ:=hid hq;have HD:=hid hdep;have HJ:=hid hj;obtain⟨va,vc,rfl,_⟩:=Qqn.shape hq.2.2.2.2.2.2;clear hq hst hdep;obtain⟨c0,c1,c2,c3,cf,cz⟩:=HQ.out.cells;obtain⟨b0,b1,bz⟩:=HQ.out.box;by_cases hj0:j=0
    ·subst hj0;go_upto_region 8 with fail
     clear c0 c1 c2 c3 cf cz b0 b1 bz;go_wp2_with fail
     refine(Qq2 T 2 _ (by omega) (by omega) HQ.out.1.tape).mono ?_;rintro e w10 ⟨v,rfl,⟨b,rfl⟩,ht,hk⟩;have HQ10:=hid (HQ.out.step hTw ht hk);clear ht hk;dsimp only;obtain⟨c0,c1,c2,c3,cf,cz⟩:=HQ10.out.cells;obtain⟨b0,b1,bz⟩:=HQ10.out.box;cases b
     ·go_upto_region 10 with fail
      obtain⟨r0,r1,r2,r3,rf⟩:=HQ10.out.1.res;have hzr:=HQ10.out.1.lt
      repeat(first|go_values|go_skip|go_guarded|go_step|go_upon)
      refine Zh (v:=.agg #[.bool st,(Qv va items.length vc),s.name,()]) (by simp[results,Tryz.results53,go_sem,r0,r1,r2,r3]) rfl ?_;have FIN:=Yym (n:=n) HQ10.out hTw HSN.out (HST.out.elim id fun h=>absurd h.2 (by omega)) HD.out (by have:=HJ.out;omega) (Qkd _ _ (.bool st) (Qv va items.length vc) s.name ());exact FIN
     ·go_wp2_with fail
      refine(HEX.out _ _ _ _ _ _ _ _ _ HQ10.out depth 2 (by omega) (by omega) (by omega) (by omega)).mono ?_;rintro e w11 ⟨v,rfl,⟨x,hx,hmk⟩,ht,hk⟩;have hx0:=hx;obtain⟨xa,xac,xs,xsc,rfl,_,_⟩:=hx0;have HQ11:=hid (HQ10.out.step hTw ht hk);have HXX:=hid hx;have HMK:=hid hmk;have HLO:=hid HQ10.out.hlt;clear hx hmk ht hk c0 c1 c2 c3 cf cz b0 b1 bz;obtain⟨c0,c1,c2,c3,cf,cz⟩:=HQ11.out.cells;dsimp only;go_upto_region 10 with fail
      obtain⟨hc9,hl9⟩:=Yq2 (vx:=Qv (some ⟨w11.heap.size,0,none⟩) 1 1) (o:=.cells #[x.kind,x.op,x.no,x.val.kind,x.val.int,x.val.text,x.table,x.name,Qv xa x.args.length xac,Qv xs x.sub.length xsc] 80) HQ11.out hTw;generalize hW12:Qw (World.setCell _ _ _) _=W12;rw[hW12] at hc9 hl9;have HW12:=hid hW12.symm;clear c0 c1 c2 c3 cf cz hW12;obtain⟨c0,c1,c2,c3,_,_,cz⟩:=Qzo hc9;obtain⟨r0,r1,r2,r3,rf⟩:=hl9.res;have hzr:=hl9.lt;clear hc9 hl9
      repeat(first|go_values|go_skip|go_guarded|go_step|go_upon)
      refine Zh (v:=.agg #[.bool st,(Qv va items.length vc),s.name,Qv (some ⟨w11.heap.size,0,none⟩) 1 1]) (by simp[results,Tryz.results53,go_sem,r0,r1,r2,r3]) rfl ?_;have FIN:=Yyn (n:=n) HQ11.out hTw HSN.out (HST.out.elim id fun h=>absurd h.2 (by omega)) HD.out (by have:=HJ.out;omega) HMK.out.1 HXX.out HLO.out HW12.out (Qkd _ _ (.bool st) (Qv va items.length vc) s.name (Qv (some ⟨w11.heap.size,0,none⟩) 1 1));exact FIN
    ·have hjp:(0:Int)<(j:Int):=by omega
     cases st
     ·go_upto_region 7 with fail
      refine Kg ?_;refine Kj (S:=fun w'=>w'.cell? ⟨p,0,none⟩=some (Qv a6 (fs.length+1) c6)∧w'.cell? ⟨p,1,none⟩=some (Qv (some ⟨tb,to',none⟩) ss.length tc)) (by kernel_rfl) ⟨b0,b1⟩ (fun hHeld=>?_);clear c0 c1 c2 c3 cf cz b0 b1 bz;refine tk 0 ?_;simp only[Act.put,Yy,Yj,Zj,Zx,Zk];refine tk 2 ?_;simp only[Act.put,Yy,Yg,Yj,Zj,Zx,Zk];refine tk 3 ?_;simp only[Act.put,Yy,Yg,Yj,Zj,Zx,Zk];refine tk 4 ?_;simp only[Act.put,Yy,Yg,Yj,Zj,Zx,Zk];refine tk 7 ?_;simp only[Act.put,Yy,Yg,Yj,Zj,Zx,Zk];refine Zc (rs:=[1,5]) (by kernel_rfl) (by simp) ?_;refine Zy (o:=_) rfl (fun K hK=>?_) (Zy (o:=_) rfl (fun K hK=>?_) Zf)
      ·have hc1:=(HQ.out.drew).cells.2.1
       go_simp
       clear hc1;refine hK.out _ _ hHeld (fun hHeld=>?_);clear hK K;refine Zc (rs:=[5]) (by kernel_rfl) (by simp) ?_;refine Zy (o:=_) rfl (fun K hK=>?_) Zf
       go_simp
       refine(Qqk T 3 _ (by omega) (by omega) (HQ.out.drew).1.tape).mono ?_;rintro e y2 ⟨v,rfl,⟨r,rfl,hr0,hr1⟩,ht,hk⟩;have HA2:=hid ((HQ.out.drew).step hTw ht hk);clear ht hk;dsimp only;refine hK.out _ _ ⟨HA2.out.box.1,HA2.out.box.2.1⟩ (fun hHeld=>?_);clear hK K;refine tk 6 ?_;simp only[Act.put,Yy,Yg,Yj,Zj,Zx,Zk];refine Zc (rs:=[8]) (by kernel_rfl) (by simp) ?_;refine Zy (o:=_) rfl (fun K hK=>?_) Zf
       go_simp
       rw[show IntKind.i64.wrap (1+r)=1+r from Zp _ (by omega)];refine(HEX.out _ _ _ _ _ _ _ _ _ (HA2.out) depth (1+r) (by omega) (by omega) (by omega) (by omega)).mono ?_;rintro e y3 ⟨v,rfl,⟨x,hx,hmk⟩,ht,hk⟩;have hx0:=hx;obtain⟨xa,xac,xs,xsc,rfl,_,_⟩:=hx0;have HLO:=hid (show h+1≤_∧∀i,Qq4 (Qv va items.length vc) i→i<_ from⟨(HA2.out).hlt,fun i hi=>((HA2.out).2.2.2.2.2.2.lt hi).2⟩);have HA3:=hid ((HA2.out).step hTw ht hk);have HXX:=hid hx;have HMK:=hid hmk;clear hx hmk ht hk;dsimp only;refine hK.out _ _ ⟨HA3.out.box.1,HA3.out.box.2.1⟩ (fun hHeld=>?_);clear hK K;refine Zc (rs:=[9]) (by kernel_rfl) (by simp) ?_;refine Zy (o:=_) rfl (fun K hK=>?_) Zf
       go_simp
       refine hK.out _ _ ⟨((HA3.out).alloc hTw _).box.1,((HA3.out).alloc hTw _).box.2.1⟩ (fun hHeld=>?_);clear hK K;refine Zc (rs:=[10]) (by kernel_rfl) (by simp) ?_;refine Zy (o:=_) rfl (fun K hK=>?_) Zf;refine Qkv rfl _ _ 32 rfl 80 _ 10 136 Tryz.underlying32 Qxk rfl (by decide) (R:=EC (Qjl (h+1) (Qv va items.length vc)) y3) (M:=fun _=>False) (h+1) (Qv va items.length vc) (Qv (some ⟨y3.heap.size,0,none⟩) 1 1) items [x] ?h1 ?h2 ?h3 ?h4 (by simp) ?h5 ?h6 ?h7 ?h8 ?_
       case h1=>rfl
       case h2=>rfl
       case h3=>exact Qqf.kept (HA3.out).2.2.2.2.2.2 ((Qqb.refl (fun _=>False) y3).alloc _) (fun _ _=>id) fun _ _ _ h=>h
       case h4=>exact Qq6 (R:=EC _ _) x rfl id rfl (EC.weak (fun i _ hi=>hi.elim (fun hi=>Zm hi HLO.out.1) fun hi=>HLO.out.2 i hi) _ _ (Jjs HXX.out))
       case h5=>exact fun y _ cs h=>Jw5 h
       case h6=>(have:=HJ.out;simp;omega)
       case h7=>(have:=HJ.out;simp[maxLen];omega)
       case h8=>(have:=(HA3.out).hlt;simp;omega)
       intro v' w' ho hk hat;have hg:=Qqn.snoc Qjs ho hk hat;obtain⟨na,nc,hv',_⟩:=Qqn.shape hg;simp only[Zr,Zb,Yw,Ye] at hv';subst hv';have HA5:=hid ((HA3.out).add hTw hg (((Qqb.refl _ y3).alloc _).trans hk));have hlt:∀i,Qq4 (Qv va items.length vc) i→h+1≤i:=fun i hi=>((HA3.out).2.2.2.2.2.2.lt hi).1;have hb0:w'.cell? ⟨p,0,none⟩=some (Qv a6 (fs.length+1) c6):=(hk.cell (by have:=(HA3.out).box.2.2;simp;omega) fun hi=>by have:=hlt _ hi;have:=(HA3.out).2.2.1;omega).trans (((HA3.out).alloc hTw _).box.1);have hb1:w'.cell? ⟨p,1,none⟩=some (Qv (some ⟨tb,to',none⟩) ss.length tc):=(hk.cell (by have:=(HA3.out).box.2.2;simp;omega) fun hi=>by have:=hlt _ hi;have:=(HA3.out).2.2.1;omega).trans (((HA3.out).alloc hTw _).box.2.1);have hzh:h<w'.heap.size:=by have:=hk.size;have:=(HA3.out).hlt;simp at*;omega
       have hch:w'.cell? ⟨h,1,none⟩=some (Qv va items.length vc):=(hk.cell (by have:=(HA3.out).hlt;simp;omega) fun hi=>by have:=hlt _ hi;omega).trans (((HA3.out).alloc hTw _).cells.2.1);have hfh:w'.frozen? ⟨h,1,none⟩=false:=by have e:=hk.block h (by have:=(HA3.out).hlt;simp;omega) (fun hi=>by have:=hlt _ hi;omega);have e2:=((HA3.out).alloc hTw (.cells #[x.kind,x.op,x.no,x.val.kind,x.val.int,x.val.text,x.table,x.name,Qv xa x.args.length xac,Qv xs x.sub.length xsc] 80)).2.2.2.2.2.1;rw[e2] at e;simp[World.frozen?,e]
       refine hK.out _ _ ⟨hb0,hb1⟩ (fun hHeld=>?_);clear hK K ho hk hat hg;refine tk 11 ?_;simp only[Act.put,Yy,Yg,Yj,Zj,Zx,Zk];refine Zc (rs:=[12]) (by kernel_rfl) (by simp) ?_;refine Zy (o:=_) rfl (fun K hK=>?_) Zf
       go_simp
       refine hK.out _ _ ⟨HA5.out.box.1,HA5.out.box.2.1⟩ (fun hHeld=>?_);clear hK K;refine Kz (by kernel_rfl) ?_ _;refine Jd ?_;go_wp2_with fail
       go_roundw
       case rel=>
        refine⟨j-1,_,items++[x],by go_num,by have:=HJ.out;simp;omega,HA5.out,.inl (by simp),fun z hz=>?_⟩;rcases Yf.1 hz with hz|hz
        ·exact HD.out z hz
        ·rw[Zd.1 hz];exact HMK.out.1
       case measure=>
        simp[intOf];omega
      ·go_simp
       refine(Qqk T 3 _ (by omega) (by omega) (HQ.out.drew).1.tape).mono ?_;rintro e y7 ⟨v,rfl,⟨r,rfl,hr0,hr1⟩,ht,hk⟩;have HA7:=hid ((HQ.out.drew).step hTw ht hk);clear ht hk;dsimp only;refine hK.out _ _ ⟨HA7.out.box.1,HA7.out.box.2.1⟩ (fun hHeld=>?_);clear hK K;refine tk 6 ?_;simp only[Act.put,Yy,Yg,Yj,Zj,Zx,Zk];refine Zc (rs:=[1,8]) (by kernel_rfl) (by simp) ?_;refine Zy (o:=_) rfl (fun K hK=>?_) (Zy (o:=_) rfl (fun K hK=>?_) Zf)
       ·have hc1:=(HA7.out).cells.2.1
        go_simp
        clear hc1;refine hK.out _ _ hHeld (fun hHeld=>?_);clear hK K;refine Zc (rs:=[8]) (by kernel_rfl) (by simp) ?_;refine Zy (o:=_) rfl (fun K hK=>?_) Zf
        go_simp
        rw[show IntKind.i64.wrap (1+r)=1+r from Zp _ (by omega)];refine(HEX.out _ _ _ _ _ _ _ _ _ (HA7.out) depth (1+r) (by omega) (by omega) (by omega) (by omega)).mono ?_;rintro e y9 ⟨v,rfl,⟨x,hx,hmk⟩,ht,hk⟩;have hx0:=hx;obtain⟨xa,xac,xs,xsc,rfl,_,_⟩:=hx0;have HLO:=hid (show h+1≤_∧∀i,Qq4 (Qv va items.length vc) i→i<_ from⟨(HA7.out).hlt,fun i hi=>((HA7.out).2.2.2.2.2.2.lt hi).2⟩);have HA9:=hid ((HA7.out).step hTw ht hk);have HXX:=hid hx;have HMK:=hid hmk;clear hx hmk ht hk;dsimp only;refine hK.out _ _ ⟨HA9.out.box.1,HA9.out.box.2.1⟩ (fun hHeld=>?_);clear hK K;refine Zc (rs:=[9]) (by kernel_rfl) (by simp) ?_;refine Zy (o:=_) rfl (fun K hK=>?_) Zf
        go_simp
        refine hK.out _ _ ⟨((HA9.out).alloc hTw _).box.1,((HA9.out).alloc hTw _).box.2.1⟩ (fun hHeld=>?_);clear hK K;refine Zc (rs:=[10]) (by kernel_rfl) (by simp) ?_;refine Zy (o:=_) rfl (fun K hK=>?_) Zf;refine Qkv rfl _ _ 32 rfl 80 _ 10 136 Tryz.underlying32 Qxk rfl (by decide) (R:=EC (Qjl (h+1) (Qv va items.length vc)) y9) (M:=fun _=>False) (h+1) (Qv va items.length vc) (Qv (some ⟨y9.heap.size,0,none⟩) 1 1) items [x] ?h1 ?h2 ?h3 ?h4 (by simp) ?h5 ?h6 ?h7 ?h8 ?_
        case h1=>rfl
        case h2=>rfl
        case h3=>exact Qqf.kept (HA9.out).2.2.2.2.2.2 ((Qqb.refl (fun _=>False) y9).alloc _) (fun _ _=>id) fun _ _ _ h=>h
        case h4=>exact Qq6 (R:=EC _ _) x rfl id rfl (EC.weak (fun i _ hi=>hi.elim (fun hi=>Zm hi HLO.out.1) fun hi=>HLO.out.2 i hi) _ _ (Jjs HXX.out))
        case h5=>exact fun y _ cs h=>Jw5 h
        case h6=>(have:=HJ.out;simp;omega)
        case h7=>(have:=HJ.out;simp[maxLen];omega)
        case h8=>(have:=(HA9.out).hlt;simp;omega)
        intro v' w' ho hk hat;have hg:=Qqn.snoc Qjs ho hk hat;obtain⟨na,nc,hv',_⟩:=Qqn.shape hg;simp only[Zr,Zb,Yw,Ye] at hv';subst hv';have HA11:=hid ((HA9.out).add hTw hg (((Qqb.refl _ y9).alloc _).trans hk));have hlt:∀i,Qq4 (Qv va items.length vc) i→h+1≤i:=fun i hi=>((HA9.out).2.2.2.2.2.2.lt hi).1;have hb0:w'.cell? ⟨p,0,none⟩=some (Qv a6 (fs.length+1) c6):=(hk.cell (by have:=(HA9.out).box.2.2;simp;omega) fun hi=>by have:=hlt _ hi;have:=(HA9.out).2.2.1;omega).trans (((HA9.out).alloc hTw _).box.1);have hb1:w'.cell? ⟨p,1,none⟩=some (Qv (some ⟨tb,to',none⟩) ss.length tc):=(hk.cell (by have:=(HA9.out).box.2.2;simp;omega) fun hi=>by have:=hlt _ hi;have:=(HA9.out).2.2.1;omega).trans (((HA9.out).alloc hTw _).box.2.1);have hzh:h<w'.heap.size:=by have:=hk.size;have:=(HA9.out).hlt;simp at*;omega
        have hch:w'.cell? ⟨h,1,none⟩=some (Qv va items.length vc):=(hk.cell (by have:=(HA9.out).hlt;simp;omega) fun hi=>by have:=hlt _ hi;omega).trans (((HA9.out).alloc hTw _).cells.2.1);have hfh:w'.frozen? ⟨h,1,none⟩=false:=by have e:=hk.block h (by have:=(HA9.out).hlt;simp;omega) (fun hi=>by have:=hlt _ hi;omega);have e2:=((HA9.out).alloc hTw (.cells #[x.kind,x.op,x.no,x.val.kind,x.val.int,x.val.text,x.table,x.name,Qv xa x.args.length xac,Qv xs x.sub.length xsc] 80)).2.2.2.2.2.1;rw[e2] at e;simp[World.frozen?,e]
        refine hK.out _ _ ⟨hb0,hb1⟩ (fun hHeld=>?_);clear hK K ho hk hat hg;refine tk 11 ?_;simp only[Act.put,Yy,Yg,Yj,Zj,Zx,Zk];refine Zc (rs:=[12]) (by kernel_rfl) (by simp) ?_;refine Zy (o:=_) rfl (fun K hK=>?_) Zf
        go_simp
        refine hK.out _ _ ⟨HA11.out.box.1,HA11.out.box.2.1⟩ (fun hHeld=>?_);clear hK K;refine Kz (by kernel_rfl) ?_ _;refine Jd ?_;go_wp2_with fail
        go_roundw
        case rel=>
         refine⟨j-1,_,items++[x],by go_num,by have:=HJ.out;simp;omega,HA11.out,.inl (by simp),fun z hz=>?_⟩;rcases Yf.1 hz with hz|hz
         ·exact HD.out z hz
         ·rw[Zd.1 hz];exact HMK.out.1
        case measure=>
         simp[intOf];omega
       ·go_simp
        rw[show IntKind.i64.wrap (1+r)=1+r from Zp _ (by omega)];refine(HEX.out _ _ _ _ _ _ _ _ _ (HA7.out) depth (1+r) (by omega) (by omega) (by omega) (by omega)).mono ?_;rintro e y13 ⟨v,rfl,⟨x,hx,hmk⟩,ht,hk⟩;have hx0:=hx;obtain⟨xa,xac,xs,xsc,rfl,_,_⟩:=hx0;have HLO:=hid (show h+1≤_∧∀i,Qq4 (Qv va items.length vc) i→i<_ from⟨(HA7.out).hlt,fun i hi=>((HA7.out).2.2.2.2.2.2.lt hi).2⟩);have HA13:=hid ((HA7.out).step hTw ht hk);have HXX:=hid hx;have HMK:=hid hmk;clear hx hmk ht hk;dsimp only;refine hK.out _ _ ⟨HA13.out.box.1,HA13.out.box.2.1⟩ (fun hHeld=>?_);clear hK K;refine Zc (rs:=[1,9]) (by kernel_rfl) (by simp) ?_;refine Zy (o:=_) rfl (fun K hK=>?_) (Zy (o:=_) rfl (fun K hK=>?_) Zf)
        ·have hc1:=(HA13.out).cells.2.1
         go_simp
         clear hc1;refine hK.out _ _ hHeld (fun hHeld=>?_);clear hK K;refine Zc (rs:=[9]) (by kernel_rfl) (by simp) ?_;refine Zy (o:=_) rfl (fun K hK=>?_) Zf
         go_simp
         refine hK.out _ _ ⟨((HA13.out).alloc hTw _).box.1,((HA13.out).alloc hTw _).box.2.1⟩ (fun hHeld=>?_);clear hK K;refine Zc (rs:=[10]) (by kernel_rfl) (by simp) ?_;refine Zy (o:=_) rfl (fun K hK=>?_) Zf;refine Qkv rfl _ _ 32 rfl 80 _ 10 136 Tryz.underlying32 Qxk rfl (by decide) (R:=EC (Qjl (h+1) (Qv va items.length vc)) y13) (M:=fun _=>False) (h+1) (Qv va items.length vc) (Qv (some ⟨y13.heap.size,0,none⟩) 1 1) items [x] ?h1 ?h2 ?h3 ?h4 (by simp) ?h5 ?h6 ?h7 ?h8 ?_
         case h1=>rfl
         case h2=>rfl
         case h3=>exact Qqf.kept (HA13.out).2.2.2.2.2.2 ((Qqb.refl (fun _=>False) y13).alloc _) (fun _ _=>id) fun _ _ _ h=>h
         case h4=>exact Qq6 (R:=EC _ _) x rfl id rfl (EC.weak (fun i _ hi=>hi.elim (fun hi=>Zm hi HLO.out.1) fun hi=>HLO.out.2 i hi) _ _ (Jjs HXX.out))
         case h5=>exact fun y _ cs h=>Jw5 h
         case h6=>(have:=HJ.out;simp;omega)
         case h7=>(have:=HJ.out;simp[maxLen];omega)
         case h8=>(have:=(HA13.out).hlt;simp;omega)
         intro v' w' ho hk hat;have hg:=Qqn.snoc Qjs ho hk hat;obtain⟨na,nc,hv',_⟩:=Qqn.shape hg;simp only[Zr,Zb,Yw,Ye] at hv';subst hv';have HA16:=hid ((HA13.out).add hTw hg (((Qqb.refl _ y13).alloc _).trans hk));have hlt:∀i,Qq4 (Qv va items.length vc) i→h+1≤i:=fun i hi=>((HA13.out).2.2.2.2.2.2.lt hi).1;have hb0:w'.cell? ⟨p,0,none⟩=some (Qv a6 (fs.length+1) c6):=(hk.cell (by have:=(HA13.out).box.2.2;simp;omega) fun hi=>by have:=hlt _ hi;have:=(HA13.out).2.2.1;omega).trans (((HA13.out).alloc hTw _).box.1);have hb1:w'.cell? ⟨p,1,none⟩=some (Qv (some ⟨tb,to',none⟩) ss.length tc):=(hk.cell (by have:=(HA13.out).box.2.2;simp;omega) fun hi=>by have:=hlt _ hi;have:=(HA13.out).2.2.1;omega).trans (((HA13.out).alloc hTw _).box.2.1);have hzh:h<w'.heap.size:=by have:=hk.size;have:=(HA13.out).hlt;simp at*;omega
         have hch:w'.cell? ⟨h,1,none⟩=some (Qv va items.length vc):=(hk.cell (by have:=(HA13.out).hlt;simp;omega) fun hi=>by have:=hlt _ hi;omega).trans (((HA13.out).alloc hTw _).cells.2.1);have hfh:w'.frozen? ⟨h,1,none⟩=false:=by have e:=hk.block h (by have:=(HA13.out).hlt;simp;omega) (fun hi=>by have:=hlt _ hi;omega);have e2:=((HA13.out).alloc hTw (.cells #[x.kind,x.op,x.no,x.val.kind,x.val.int,x.val.text,x.table,x.name,Qv xa x.args.length xac,Qv xs x.sub.length xsc] 80)).2.2.2.2.2.1;rw[e2] at e;simp[World.frozen?,e]
         refine hK.out _ _ ⟨hb0,hb1⟩ (fun hHeld=>?_);clear hK K ho hk hat hg;refine tk 11 ?_;simp only[Act.put,Yy,Yg,Yj,Zj,Zx,Zk];refine Zc (rs:=[12]) (by kernel_rfl) (by simp) ?_;refine Zy (o:=_) rfl (fun K hK=>?_) Zf
         go_simp
         refine hK.out _ _ ⟨HA16.out.box.1,HA16.out.box.2.1⟩ (fun hHeld=>?_);clear hK K;refine Kz (by kernel_rfl) ?_ _;refine Jd ?_;go_wp2_with fail
         go_roundw
         case rel=>
          refine⟨j-1,_,items++[x],by go_num,by have:=HJ.out;simp;omega,HA16.out,.inl (by simp),fun z hz=>?_⟩;rcases Yf.1 hz with hz|hz
          ·exact HD.out z hz
          ·rw[Zd.1 hz];exact HMK.out.1
         case measure=>
          simp[intOf];omega
        ·go_simp
         refine hK.out _ _ ⟨((HA13.out).alloc hTw _).box.1,((HA13.out).alloc hTw _).box.2.1⟩ (fun hHeld=>?_);clear hK K;refine Zc (rs:=[1]) (by kernel_rfl) (by simp) ?_;refine Zy (o:=_) rfl (fun K hK=>?_) Zf;have hc1:=(((HA13.out).alloc hTw (.cells #[x.kind,x.op,x.no,x.val.kind,x.val.int,x.val.text,x.table,x.name,Qv xa x.args.length xac,Qv xs x.sub.length xsc] 80))).cells.2.1
         go_simp
         clear hc1;refine hK.out _ _ hHeld (fun hHeld=>?_);clear hK K;refine Zc (rs:=[10]) (by kernel_rfl) (by simp) ?_;refine Zy (o:=_) rfl (fun K hK=>?_) Zf;refine Qkv rfl _ _ 32 rfl 80 _ 10 136 Tryz.underlying32 Qxk rfl (by decide) (R:=EC (Qjl (h+1) (Qv va items.length vc)) y13) (M:=fun _=>False) (h+1) (Qv va items.length vc) (Qv (some ⟨y13.heap.size,0,none⟩) 1 1) items [x] ?h1 ?h2 ?h3 ?h4 (by simp) ?h5 ?h6 ?h7 ?h8 ?_
         case h1=>rfl
         case h2=>rfl
         case h3=>exact Qqf.kept (HA13.out).2.2.2.2.2.2 ((Qqb.refl (fun _=>False) y13).alloc _) (fun _ _=>id) fun _ _ _ h=>h
         case h4=>exact Qq6 (R:=EC _ _) x rfl id rfl (EC.weak (fun i _ hi=>hi.elim (fun hi=>Zm hi HLO.out.1) fun hi=>HLO.out.2 i hi) _ _ (Jjs HXX.out))
         case h5=>exact fun y _ cs h=>Jw5 h
         case h6=>(have:=HJ.out;simp;omega)
         case h7=>(have:=HJ.out;simp[maxLen];omega)
         case h8=>(have:=(HA13.out).hlt;simp;omega)
         intro v' w' ho hk hat;have hg:=Qqn.snoc Qjs ho hk hat;obtain⟨na,nc,hv',_⟩:=Qqn.shape hg;simp only[Zr,Zb,Yw,Ye] at hv';subst hv';have HA20:=hid ((HA13.out).add hTw hg (((Qqb.refl _ y13).alloc _).trans hk));have hlt:∀i,Qq4 (Qv va items.length vc) i→h+1≤i:=fun i hi=>((HA13.out).2.2.2.2.2.2.lt hi).1;have hb0:w'.cell? ⟨p,0,none⟩=some (Qv a6 (fs.length+1) c6):=(hk.cell (by have:=(HA13.out).box.2.2;simp;omega) fun hi=>by have:=hlt _ hi;have:=(HA13.out).2.2.1;omega).trans (((HA13.out).alloc hTw _).box.1);have hb1:w'.cell? ⟨p,1,none⟩=some (Qv (some ⟨tb,to',none⟩) ss.length tc):=(hk.cell (by have:=(HA13.out).box.2.2;simp;omega) fun hi=>by have:=hlt _ hi;have:=(HA13.out).2.2.1;omega).trans (((HA13.out).alloc hTw _).box.2.1);have hzh:h<w'.heap.size:=by have:=hk.size;have:=(HA13.out).hlt;simp at*;omega
         have hch:w'.cell? ⟨h,1,none⟩=some (Qv va items.length vc):=(hk.cell (by have:=(HA13.out).hlt;simp;omega) fun hi=>by have:=hlt _ hi;omega).trans (((HA13.out).alloc hTw _).cells.2.1);have hfh:w'.frozen? ⟨h,1,none⟩=false:=by have e:=hk.block h (by have:=(HA13.out).hlt;simp;omega) (fun hi=>by have:=hlt _ hi;omega);have e2:=((HA13.out).alloc hTw (.cells #[x.kind,x.op,x.no,x.val.kind,x.val.int,x.val.text,x.table,x.name,Qv xa x.args.length xac,Qv xs x.sub.length xsc] 80)).2.2.2.2.2.1;rw[e2] at e;simp[World.frozen?,e]
         refine hK.out _ _ ⟨hb0,hb1⟩ (fun hHeld=>?_);clear hK K ho hk hat hg;refine tk 11 ?_;simp only[Act.put,Yy,Yg,Yj,Zj,Zx,Zk];refine Zc (rs:=[12]) (by kernel_rfl) (by simp) ?_;refine Zy (o:=_) rfl (fun K hK=>?_) Zf
         go_simp
         refine hK.out _ _ ⟨HA20.out.box.1,HA20.out.box.2.1⟩ (fun hHeld=>?_);clear hK K;refine Kz (by kernel_rfl) ?_ _;refine Jd ?_;go_wp2_with fail
         go_roundw
         case rel=>
          refine⟨j-1,_,items++[x],by go_num,by have:=HJ.out;simp;omega,HA20.out,.inl (by simp),fun z hz=>?_⟩;rcases Yf.1 hz with hz|hz
          ·exact HD.out z hz
          ·rw[Zd.1 hz];exact HMK.out.1
         case measure=>
          simp[intOf];omega
     ·go_upto_region 8 with fail
      clear c0 c1 c2 c3 cf cz b0 b1 bz;go_wp2_with fail
      refine(Qq2 T 2 _ (by omega) (by omega) HQ.out.1.tape).mono ?_;rintro e w10 ⟨v,rfl,⟨b,rfl⟩,ht,hk⟩;have HQ10:=hid (HQ.out.step hTw ht hk);clear ht hk;dsimp only;obtain⟨c0,c1,c2,c3,cf,cz⟩:=HQ10.out.cells;obtain⟨b0,b1,bz⟩:=HQ10.out.box;cases b
      ·go_upto_region 10 with fail
       obtain⟨r0,r1,r2,r3,rf⟩:=HQ10.out.1.res;have hzr:=HQ10.out.1.lt
       repeat(first|go_values|go_skip|go_guarded|go_step|go_upon)
       refine Zh (v:=.agg #[true,(Qv va items.length vc),s.name,()]) (by simp[results,Tryz.results53,go_sem,r0,r1,r2,r3]) rfl ?_;have FIN:=Yym (n:=n) HQ10.out hTw HSN.out (HST.out.elim id fun h=>by cases h.1) HD.out (by have:=HJ.out;omega) (Qkd _ _ true (Qv va items.length vc) s.name ());exact FIN
      ·go_wp2_with fail
       refine(HEX.out _ _ _ _ _ _ _ _ _ HQ10.out depth 2 (by omega) (by omega) (by omega) (by omega)).mono ?_;rintro e w11 ⟨v,rfl,⟨x,hx,hmk⟩,ht,hk⟩;have hx0:=hx;obtain⟨xa,xac,xs,xsc,rfl,_,_⟩:=hx0;have HQ11:=hid (HQ10.out.step hTw ht hk);have HXX:=hid hx;have HMK:=hid hmk;have HLO:=hid HQ10.out.hlt;clear hx hmk ht hk c0 c1 c2 c3 cf cz b0 b1 bz;obtain⟨c0,c1,c2,c3,cf,cz⟩:=HQ11.out.cells;dsimp only;go_upto_region 10 with fail
       obtain⟨hc9,hl9⟩:=Yq2 (vx:=Qv (some ⟨w11.heap.size,0,none⟩) 1 1) (o:=.cells #[x.kind,x.op,x.no,x.val.kind,x.val.int,x.val.text,x.table,x.name,Qv xa x.args.length xac,Qv xs x.sub.length xsc] 80) HQ11.out hTw;generalize hW12:Qw (World.setCell _ _ _) _=W12;rw[hW12] at hc9 hl9;have HW12:=hid hW12.symm;clear c0 c1 c2 c3 cf cz hW12;obtain⟨c0,c1,c2,c3,_,_,cz⟩:=Qzo hc9;obtain⟨r0,r1,r2,r3,rf⟩:=hl9.res;have hzr:=hl9.lt;clear hc9 hl9
       repeat(first|go_values|go_skip|go_guarded|go_step|go_upon)
       refine Zh (v:=.agg #[true,(Qv va items.length vc),s.name,Qv (some ⟨w11.heap.size,0,none⟩) 1 1]) (by simp[results,Tryz.results53,go_sem,r0,r1,r2,r3]) rfl ?_;have FIN:=Yyn (n:=n) HQ11.out hTw HSN.out (HST.out.elim id fun h=>by cases h.1) HD.out (by have:=HJ.out;omega) HMK.out.1 HXX.out HLO.out HW12.out (Qkd _ _ true (Qv va items.length vc) s.name (Qv (some ⟨w11.heap.size,0,none⟩) 1 1));exact FIN
end Go.Proofs.YtgepbohjmgaojaaGreatDoor
