/- An action of a trigger: an arm of its switch (number t). -/
import Derived.Test.YtgepbohjmgaojaaGreatDoorVG10c
set_option linter.all false
namespace Go.Proofs.YtgepbohjmgaojaaGreatDoor
open Value renaming slice→Qv
open Lib(hid)
open Go.RowKit
def Kxd(n:Nat):Code→Option Code
 | .region id ops d=>if id=n then some (.region id ops d) else none
 | .seq a b=>match Kxd n a with
   |some o=>some o
   |none=>Kxd n b
 | .cond _ a b=>match Kxd n a with
   |some o=>some o
   |none=>Kxd n b
 | .block _ a=>Kxd n a
 | .loop a=>Kxd n a
 | .scope a=>Kxd n a
 |_=>none
set_option maxRecDepth 100000 in
set_option maxHeartbeats 40000000 in
theorem Kxc{Q:Exit→Act→World→Prop}{c:Code}(hc:(Tryz.f94.body).bind (Kxd 30)=some c){T ti:Nat}(hti:ti<8){s:Sch}{each:Bool}{ev:Int}{o1 o2 o3 o4 o5 o6:Option Addr}{l1 l2 l3 l4 l5 l6 c1 c2 c3 c4 c5 c6:Nat}{fa ta:Option Addr}{cc fc tc xb xo:Nat}{look:List UInt8→List Col}{fs:List Frm}{ss:List Sch}{w w9:World}{nb:Nat}{x:Ex}(hTw:T<w.heap.size)(HW:Hid (Qjh T w))(HF:Hid (Qqz (At T) w (Qv fa fs.length fc) fs))(HS:Hid (Qjt (At T) w (Qv ta ss.length tc) ss))(HP:Hid (Qzm look fs ss 4))(HIN:Hid (∀s∈Qq3,s∈ss))(HX8:Hid (Jxm x))(hz4:w.heap.size+1+1+1<nb)(hnb:nb<w9.heap.size)(HO9:Hid (OB T w w9 (⟨nb,#[x.kind,x.op,x.no,x.val.kind,x.val.int,x.val.text,x.table,x.name,(),()],80⟩::[⟨w.heap.size+1+1+1,#["0","",(),(),(),(),""],42⟩,⟨w.heap.size+1+1,#[Qv fa fs.length fc,Qv ta ss.length tc],122⟩,⟨w.heap.size+1,#[s.name,Qv (some ⟨xb,xo,none⟩) s.cols.length cc],29⟩,⟨w.heap.size,#[(Qqe ti),s.name,false,ev,Qv o1 l1 c1,each,Qv o2 l2 c2,Qv o3 l3 c3,Qv o4 l4 c4,Qv o5 l5 c5,Qv o6 l6 c6],35⟩]))){a:Act}(hz:a.tmps.size=187)(hd:a.defers=[])(B0:a.tmps[0]?=some (.pointer (some ⟨T,0,none⟩)))(B7:a.tmps[7]?=some (.pointer (some ⟨w.heap.size+1+1,0,none⟩)))(B8:a.tmps[8]?=some (.pointer (some ⟨w.heap.size+1+1+1,0,none⟩)))
 (hret:∀a W,bodyPost Tryz.prog Tryz.f94 (Qjp T w (Jjx 3 (fun a=>Qxa false each ev a.kind=true) w)) .ret a W→Q .normal a W):
 c.wp Tryz.prog Q a w9:=by
 obtain⟨⟨l⟩,d⟩:=a;dsimp only at hd;subst hd
 replace hz:l.length=187:=hz
 iterate 187 (have h2:=Kxe hz;clear hz;obtain⟨u,t,rfl,hz⟩:=h2)
 obtain rfl:=Jc.1 hz;clear hz;obtain rfl:=Jf (show some _=some _ from B0);clear B0;obtain rfl:=Jf (show some _=some _ from B7);clear B7;obtain rfl:=Jf (show some _=some _ from B8);clear B8;have h:(Tryz.f94.body).bind (Kxd 30)=some _:=rfl;obtain rfl:=Jf (hc.symm.trans h);clear hc h
 let FT:Exit→Act→World→Prop:=bodyPost Tryz.prog Tryz.f94 fun _ _=>True
 obtain⟨e0,e1,e2,e3,e4,e5,e6,e7,e8,e9,_⟩:=Qq5 (HO9.out.blk (Zv ..));obtain⟨p0,p1,pf0,pf1,pz⟩:=Qjk (HO9.out.blk (b:=⟨w.heap.size+1+1,#[Qv fa fs.length fc,Qv ta ss.length tc],122⟩) (by simp));dsimp only at e0 e1 e2 e3 e4 e5 e6 e7 e8 e9 p0 p1 pz;clear pf0 pf1;have hz9:w.heap.size+1+1+1<w9.heap.size:=HO9.out.blt (b:=⟨w.heap.size+1+1+1,#["0","",(),(),(),(),""],42⟩) (by simp);go_wp2_with fail
 refine(Qk1 3 (Qkn 3 (by omega)) T 1 fa ta fc tc look fs ss w9 (by omega) (by omega) (by omega) (by omega) HO9.out.tape (HW.out.at HO9.out.kept) (HF.out.keep HO9.out.kept) (HS.out.keep HO9.out.kept) HP.out HIN.out).mono ?_;rintro e w10 ⟨v,rfl,hq,ht,hk⟩;obtain⟨a,q1,q2,q3,q4,y1,y2,y3,y4,rfl,hq1,hq2,hq3,hq4,hq5,hq6⟩:=hq.shape;have HO10:=hid (HO9.out.step ht hk);have H1:=hid hq1;have H2:=hid hq2;have H3:=hid hq3;have H4:=hid hq4;have H5:=hid hq5;have H6:=hid hq6;clear ht hk hq1 hq2 hq3 hq4 hq5 hq6 HO9 e0 e1 e2 e3 e4 e5 e6 e7 e8 e9 p0 p1 pz;dsimp only;obtain⟨r0,r1,r2,r3,r4,r5,r6,rf,rz⟩:=Qze (HO10.out.blk (b:=⟨w.heap.size+1+1+1,#["0","",(),(),(),(),""],42⟩) (by simp));dsimp only at r0 r1 r2 r3 r4 r5 r6 rf rz
 repeat(first|go_values|go_skip|go_guarded|go_step|go_upon)
 refine Zh (v:=.agg #[a.kind,a.table,Qv q1 a.rows.length y1,Qv q2 a.query.length y2,Qv q3 a.sets.length y3,Qv q4 a.whr.length y4,a.text]) (by simp[results,Tryz.results94,go_sem,r0,r1,r2,r3,r4,r5,r6]) rfl ?_;have FIN:=Qve (n:=3) (P:=fun a=>Qxa false each ev a.kind=true) HO10.out (Qxj (w.heap.size+1+1+1) w10 a.kind a.table (Qv q1 a.rows.length y1) (Qv q2 a.query.length y2) (Qv q3 a.sets.length y3) (Qv q4 a.whr.length y4) a.text) (lo:=w9.heap.size) (by omega) a (Qv q1 a.rows.length y1) (Qv q2 a.query.length y2) (Qv q3 a.sets.length y3) (Qv q4 a.whr.length y4) H1.out H2.out H3.out H4.out H5.out (by omega) (Qzz H6.out);exact FIN
end Go.Proofs.YtgepbohjmgaojaaGreatDoor
