/- An action of a trigger (action). -/
import Derived.Test.YtgepbohjmgaojaaGreatDoorU15
import Derived.Test.YtgepbohjmgaojaaGreatDoorVG10h
import Derived.Test.YtgepbohjmgaojaaGreatDoorU16
set_option linter.all false
namespace Go.Proofs.YtgepbohjmgaojaaGreatDoor
open Value renaming slice→Qv
open Lib(hid)
open Go.RowKit
set_option maxRecDepth 100000 in
set_option maxHeartbeats 40000000 in
theorem Yk5(T ti:Nat)(hti:ti<8)(s:Sch)(hs3:s∈Qq3)(bf each:Bool)(ev:Int)(h0:1≤ev)(h1:ev≤3)(o1 o2 o3 o4 o5 o6:Option Addr)(l1 l2 l3 l4 l5 l6 c1 c2 c3 c4 c5 c6:Nat)(ca fa ta:Option Addr)(cc fc tc:Nat)(look:List UInt8→List Col)(fs:List Frm)(ss:List Sch)(w:World)(ht:Qql T w)(hw:Qjh T w)
 (hc:Qq1 (At T) w (Qv ca s.cols.length cc) s.cols)(hf:Qqz (At T) w (Qv fa fs.length fc) fs)(hs:Qjt (At T) w (Qv ta ss.length tc) ss)(hP:Qzm look fs ss 4)(hin:∀s∈Qq3,s∈ss):
 Calls Tryz.prog 94 #[.pointer (some ⟨T,0,none⟩),.agg #[(Qqe ti),s.name,bf,ev,Qv o1 l1 c1,each,Qv o2 l2 c2,Qv o3 l3 c3,Qv o4 l4 c4,Qv o5 l5 c5,Qv o6 l6 c6],.agg #[s.name,Qv ca s.cols.length cc],.agg #[Qv fa fs.length fc,Qv ta ss.length tc]] w
  (Qjp T w (Jjx 3 (fun a=>Qxa bf each ev a.kind=true) w)):=by
 have hFact:=Qv8 s hs3;have hc0:=hFact.2.1;have hcl:=hFact.2.2.1;have HNM:=hid hFact.2.2.2.1;have HCN:=hid hFact.1;have HCT:=hid (fun c (hc:c∈s.cols)=>(show 1≤c.type∧c.type≤3 from⟨(HCN.out c hc).2.2.2.2.2.1,(HCN.out c hc).2.2.2.2.2.2⟩));obtain⟨xb,xo,rfl,hxT,hxz,hxf⟩:=Jjb hc hc0;have hlc:1≤s.cols.length:=Jn.2 hc0;have hTw:=ht.lt;have HXF:=hid hxf;have HT:=hid ht;have HW:=hid hw;have HC:=hid hc;have HF:=hid hf;have HS:=hid hs;have HP:=hid hP;have HIN:=hid hin;have HS3:=hid hs3;clear hFact hxf ht hw hc hf hs hP hin hs3;go_enter Tryz.func94,Tryz.ntmps94;go_upto_region 1 with fail
 generalize hW:((((w.alloc _).alloc _).alloc _).alloc _)=W0
 have hO:OB T w W0 [⟨w.heap.size+1+1+1,#["0","",(),(),(),(),""],42⟩,⟨w.heap.size+1+1,#[Qv fa fs.length fc,Qv ta ss.length tc],122⟩,⟨w.heap.size+1,#[s.name,Qv (some ⟨xb,xo,none⟩) s.cols.length cc],29⟩,⟨w.heap.size,#[(Qqe ti),s.name,bf,ev,Qv o1 l1 c1,each,Qv o2 l2 c2,Qv o3 l3 c3,Qv o4 l4 c4,Qv o5 l5 c5,Qv o6 l6 c6],35⟩]:=by
  rw[←hW];exact((((OB.start HT.out).new' rfl _ _).new' (by simp) _ _).new' (by simp) _ _).new' (by simp) _ _
 have hz0:w.heap.size+1+1+1<W0.heap.size:=by rw[←hW];simp
 have HO:=hid hO;clear hW hO;obtain⟨x0,x1,x2,x3,x4,x5,x6,x7,x8,x9,x10,_⟩:=Qjw (HO.out.blk (b:=⟨w.heap.size,#[(Qqe ti),s.name,bf,ev,Qv o1 l1 c1,each,Qv o2 l2 c2,Qv o3 l3 c3,Qv o4 l4 c4,Qv o5 l5 c5,Qv o6 l6 c6],35⟩) (by simp));dsimp only at x0 x1 x2 x3 x4 x5 x6 x7 x8 x9 x10
 have HX:=hid (fun(W:World) (h:OB T w W [⟨w.heap.size+1+1+1,#["0","",(),(),(),(),""],42⟩,⟨w.heap.size+1+1,#[Qv fa fs.length fc,Qv ta ss.length tc],122⟩,⟨w.heap.size+1,#[s.name,Qv (some ⟨xb,xo,none⟩) s.cols.length cc],29⟩,⟨w.heap.size,#[(Qqe ti),s.name,bf,ev,Qv o1 l1 c1,each,Qv o2 l2 c2,Qv o3 l3 c3,Qv o4 l4 c4,Qv o5 l5 c5,Qv o6 l6 c6],35⟩])=>(show W.cell? ⟨w.heap.size,2,none⟩=some (.bool bf)∧W.cell? ⟨w.heap.size,0,none⟩=some (.string (Qqe ti))∧W.cell? ⟨w.heap.size,5,none⟩=some (.bool each)∧W.cell? ⟨w.heap.size,1,none⟩=some (.string s.name)∧W.cell? ⟨w.heap.size,3,none⟩=some (.int .i64 ev) from by
  obtain⟨x0,x1,x2,x3,x4,x5,x6,x7,x8,x9,x10,_⟩:=Qjw (h.blk (b:=⟨w.heap.size,#[(Qqe ti),s.name,bf,ev,Qv o1 l1 c1,each,Qv o2 l2 c2,Qv o3 l3 c3,Qv o4 l4 c4,Qv o5 l5 c5,Qv o6 l6 c6],35⟩) (by simp))
  exact⟨x2,x0,x5,x1,x3⟩))
 go_cut [32] (fun v wx=>∃c,v=.bool c∧(c=false→bf=true→each=true∧ev≠3)∧OB T w wx [⟨w.heap.size+1+1+1,#["0","",(),(),(),(),""],42⟩,⟨w.heap.size+1+1,#[Qv fa fs.length fc,Qv ta ss.length tc],122⟩,⟨w.heap.size+1,#[s.name,Qv (some ⟨xb,xo,none⟩) s.cols.length cc],29⟩,⟨w.heap.size,#[(Qqe ti),s.name,bf,ev,Qv o1 l1 c1,each,Qv o2 l2 c2,Qv o3 l3 c3,Qv o4 l4 c4,Qv o5 l5 c5,Qv o6 l6 c6],35⟩])
 case first=>
  go_wp2_with fail
  refine(Qq2 T 9 _ (by omega) (by omega) HO.out.tape).mono ?_;rintro e w1 ⟨v,rfl,⟨b,rfl⟩,ht,hk⟩;have HO1:=hid (HO.out.step ht hk);clear ht hk x0 x1 x2 x3 x4 x5 x6 x7 x8 x9 x10 HO;dsimp only;obtain⟨x0,x1,x2,x3,x4,x5,x6,x7,x8,x9,x10,_⟩:=Qjw (HO1.out.blk (b:=⟨w.heap.size,#[(Qqe ti),s.name,bf,ev,Qv o1 l1 c1,each,Qv o2 l2 c2,Qv o3 l3 c3,Qv o4 l4 c4,Qv o5 l5 c5,Qv o6 l6 c6],35⟩) (by simp));dsimp only at x0 x1 x2 x3 x4 x5 x6 x7 x8 x9 x10;cases b
  case true=>
   go_wp2_with fail
   go_meet
   exact⟨true,rfl,(fun h=>by cases h),HO1.out⟩
  case false=>
   cases bf
   case false=>
    go_wp2_with fail
    go_meet
    exact⟨false,rfl,(fun _ h=>by cases h),HO1.out⟩
   case true=>
    cases each
    case false=>
     go_wp2_with fail
     go_meet
     exact⟨true,rfl,(fun h=>by cases h),HO1.out⟩
    case true=>
     by_cases hr:ev=3
     ·subst hr;go_wp2_with fail
      go_meet
      exact⟨true,rfl,(fun h=>by cases h),HO1.out⟩
     ·go_wp2_with fail
      go_meet
      exact⟨false,(by simp[hr]),(fun _ _=>by first|exact⟨rfl,hr⟩|exact⟨trivial,hr⟩|simpa using hr),HO1.out⟩
 case rest=>
  obtain⟨c,rfl,hcc,hO⟩:=hcut;rename World=>w2;have HO2:=hid hO;have HCC:=hid hcc;clear hO hcc HO x0 x1 x2 x3 x4 x5 x6 x7 x8 x9 x10;cases c
  case true=>
   go_wp2_with fail
   refine(Yxx T _ HO2.out.tape (HW.out.at HO2.out.kept)).mono ?_;rintro e w3 ⟨v,rfl,⟨i,hi6,rfl⟩,ht,hk⟩;have HO3:=hid (HO2.out.step ht hk);clear ht hk HO2;dsimp only;obtain⟨r0,r1,r2,r3,r4,r5,r6,rf,rz⟩:=Qze (HO3.out.blk (b:=⟨w.heap.size+1+1+1,#["0","",(),(),(),(),""],42⟩) (by simp));dsimp only at r0 r1 r2 r3 r4 r5 r6 rf rz
   repeat(first|go_values|go_skip|go_guarded|go_step|go_upon)
   refine Zh (v:=.agg #["4","",(),(),(),(),(Qvh i)]) (by simp[results,Tryz.results94,go_sem,r0,r1,r2,r3,r4,r5,r6]) rfl ?_;have FIN:=Qve (n:=3) (P:=fun a=>Qxa bf each ev a.kind=true) HO3.out (Qxj (w.heap.size+1+1+1) w3 (.int .i64 4) "" () () () () (.string (Qvh i))) (lo:=w.heap.size+1+1+1+1) (by omega) ⟨4,⟨#[]⟩,[],[],[],[],Qvh i⟩ (Qv none 0 0) () () () (.inl ⟨rfl,rfl⟩) (Qqa.nil ..) (Qqa.nil ..) (Qqa.nil ..) (.abort _ (Jv4 i hi6).1 (Jv4 i hi6).2) (by omega) (by simp[Qxa]);exact FIN
  case false=>
   obtain⟨x2,_⟩:=HX.out _ HO2.out;cases bf
   case true=>
    have hcc:=HCC.out rfl rfl;obtain⟨rfl,hr2⟩:=hcc;clear HCC
    go_upto_if 37 with(fail)
    refine wp_cond_true rfl ?_;refine Kxb (by kernel_rfl) HS3.out hr2 HW HC.out HF HS HP HO2 rfl rfl rfl rfl rfl rfl rfl ?_;exact fun a W h=>h
   case false=>
    have HNP:=hid (fun(j:Nat) (f:Frm) (c:Col) (hj:fs[j]?=some f) (hc:c∈f.cols) (_:c.type=1)=>(show Qjj f.name c.name=true∧(f.strict=false→j+1=fs.length→Qjj ⟨#[]⟩ c.name=true) from by
     have:=HP.out.2.2.2.2.2.2.1 f (Yk hj) c hc
     exact⟨this,fun _ _=>Qwt this⟩))
    have hfl:fs.length≤100:=by have:=HP.out.2.1;omega
    have HFC:=hid HP.out.2.2.1;clear HCC;go_wp2_with fail
    refine(Qqk T 5 _ (by omega) (by omega) HO2.out.tape).mono ?_;rintro e w3 ⟨v,rfl,⟨k,rfl,hk0,hk5⟩,ht,hk⟩;have HO3:=hid (HO2.out.step ht hk);clear ht hk HO2 x2;dsimp only;go_wp2_with fail
    refine(Qxd 1 k ⟨#[]⟩ _).mono ?_;rintro e w4 ⟨rfl,hb⟩;have HO4:=hid (HO3.out.bel hb);clear hb HO3;dsimp only;go_upto_region 7 with fail
    have hO5:=HO4.out.new' rfl #["1","0",false,"1",k,"","","",(),()] 80;generalize hW5:World.alloc w4 _=w5 at hO5⊢;have hz5:w4.heap.size<w5.heap.size:=by rw[←hW5];simp
    have hz4:w.heap.size+1+1+1<w4.heap.size:=HO4.out.blt (b:=⟨w.heap.size+1+1+1,#["0","",(),(),(),(),""],42⟩) (by simp);generalize w4.heap.size=nb at hO5 hz5 hz4⊢;have HO5:=hid hO5;clear hW5 hO5 HO4
    go_cut [11,12] (fun v ok wx=>∃(g:Nat) (x:Ex) (b:Bool),v=.pointer (some ⟨g,0,none⟩)∧ok=.bool b∧nb<g∧(b=true→Jxm x)∧OB T w wx (⟨g,#[x.kind,x.op,x.no,x.val.kind,x.val.int,x.val.text,x.table,x.name,(),()],80⟩::⟨nb,#["1","0",false,"1",k,"","","",(),()],80⟩::[⟨w.heap.size+1+1+1,#["0","",(),(),(),(),""],42⟩,⟨w.heap.size+1+1,#[Qv fa fs.length fc,Qv ta ss.length tc],122⟩,⟨w.heap.size+1,#[s.name,Qv (some ⟨xb,xo,none⟩) s.cols.length cc],29⟩,⟨w.heap.size,#[(Qqe ti),s.name,false,ev,Qv o1 l1 c1,each,Qv o2 l2 c2,Qv o3 l3 c3,Qv o4 l4 c4,Qv o5 l5 c5,Qv o6 l6 c6],35⟩]))
    case first=>
     obtain⟨p0,p1,pf0,pf1,pz⟩:=Qjk (HO5.out.blk (b:=⟨w.heap.size+1+1,#[Qv fa fs.length fc,Qv ta ss.length tc],122⟩) (by simp));dsimp only at p0 p1 pz;clear pf0 pf1;go_wp2_with fail
     refine(Jql (fun p=>Qjj p.1 p.2=true) T _ _ none 0 0 fs 1 _ rfl HO5.out.tape (HF.out.keep HO5.out.kept) (by omega) HFC.out HNP.out).mono ?_;rintro e w6 ⟨v,rfl,hq,ht,hk⟩;have HO6:=hid (HO5.out.step ht hk);have hz6:=hk.size;clear ht hk p0 p1 pz HO5
     rcases hq with rfl|⟨q,nm,rfl,hcol⟩
     ·dsimp only;go_wp2_with fail
      go_meet
      exact⟨w6.heap.size,.mk 0 0 false Qvs es es [] [],false,rfl,rfl,by omega,(fun h=>by cases h),HO6.out.new' rfl _ _⟩
     ·have HCL:=hid hcol;clear hcol;dsimp only;go_wp2_with fail
      go_meet
      exact⟨w6.heap.size,Qqp q nm,true,rfl,rfl,by omega,(fun _=>⟨rfl,rfl,.col 0 q nm HCL.out⟩),HO6.out.new' rfl _ _⟩
    case rest=>
     obtain⟨g2,x2,b2,rfl,rfl,hng,hlf,hO⟩:=hcut;rename World=>w6;have HO6:=hid hO;have HLF:=hid hlf;clear hO hlf HO5;go_upto_region 8 with fail
     go_cut [73] (fun v wx=>∃b,v=.bool b∧(b=true→Jxm x2)∧OB T w wx (⟨g2,#[x2.kind,x2.op,x2.no,x2.val.kind,x2.val.int,x2.val.text,x2.table,x2.name,(),()],80⟩::⟨nb,#["1","0",false,"1",k,"","","",(),()],80⟩::[⟨w.heap.size+1+1+1,#["0","",(),(),(),(),""],42⟩,⟨w.heap.size+1+1,#[Qv fa fs.length fc,Qv ta ss.length tc],122⟩,⟨w.heap.size+1,#[s.name,Qv (some ⟨xb,xo,none⟩) s.cols.length cc],29⟩,⟨w.heap.size,#[(Qqe ti),s.name,false,ev,Qv o1 l1 c1,each,Qv o2 l2 c2,Qv o3 l3 c3,Qv o4 l4 c4,Qv o5 l5 c5,Qv o6 l6 c6],35⟩]))
     case first=>
      cases b2
      case false=>
       go_wp2_with fail
       go_meet
       exact⟨false,rfl,(fun h=>by cases h),HO6.out⟩
      case true=>
       go_wp2_with fail
       refine(Qq2 T 2 _ (by omega) (by omega) HO6.out.tape).mono ?_;rintro e w7 ⟨v,rfl,⟨b,rfl⟩,ht,hk⟩;have HO7:=hid (HO6.out.step ht hk);clear ht hk;dsimp only;go_wp2_with fail
       go_meet
       exact⟨b,rfl,(fun _=>by first|exact HLF.out rfl|exact HLF.out trivial),HO7.out⟩
     case rest=>
      obtain⟨b,rfl,hlf,hO⟩:=hcut;rename World=>w7;have HO7:=hid hO;have HLF7:=hid hlf;have hbox:=hO.blk (Zv ..);have hnbx:=hO.blk (b:=⟨nb,#["1","0",false,"1",k,"","","",(),()],80⟩) (by simp);clear hO hlf HLF HO6;dsimp only at hbox hnbx;obtain⟨e0,e1,e2,e3,e4,e5,e6,e7,e8,e9,_⟩:=Qq5 hbox;obtain⟨n0,n1,n2,n3,n4,n5,n6,n7,n8,n9,nf,nz⟩:=Qq5 hnbx;have f0:=nf 0;have f1:=nf 1;have f2:=nf 2;have f3:=nf 3;have f4:=nf 4;have f5:=nf 5;have f6:=nf 6;have f7:=nf 7;have f8:=nf 8;have f9:=nf 9;clear hbox hnbx nf
      go_upto_if 73 with(fail)
      go_cut [10] (fun v wx=>v=.pointer (some ⟨nb,0,none⟩)∧∃x,Jxm x∧OB T w wx (⟨nb,#[x.kind,x.op,x.no,x.val.kind,x.val.int,x.val.text,x.table,x.name,(),()],80⟩::[⟨w.heap.size+1+1+1,#["0","",(),(),(),(),""],42⟩,⟨w.heap.size+1+1,#[Qv fa fs.length fc,Qv ta ss.length tc],122⟩,⟨w.heap.size+1,#[s.name,Qv (some ⟨xb,xo,none⟩) s.cols.length cc],29⟩,⟨w.heap.size,#[(Qqe ti),s.name,false,ev,Qv o1 l1 c1,each,Qv o2 l2 c2,Qv o3 l3 c3,Qv o4 l4 c4,Qv o5 l5 c5,Qv o6 l6 c6],35⟩]))
      case first=>
       cases b
       case false=>
        go_wp2_with fail
        go_meet
        exact⟨rfl,Qkk ⟨1,k,es⟩,⟨rfl,rfl,.lit 0 ⟨1,k,es⟩ (.inr (.inl ⟨rfl,⟨by simp only;omega,by simp only;omega⟩,rfl⟩)) fun _=>hk0⟩,HO7.out.sub fun b hb=>Zl _ hb⟩
       case true=>
        go_wp2_with fail
        go_meet
        exact⟨rfl,x2,(by first|exact HLF7.out rfl|exact HLF7.out trivial),(HO7.out.sub fun b hb=>Zl _ hb).puts 0 [x2.kind,x2.op,x2.no,x2.val.kind,x2.val.int,x2.val.text,x2.table,x2.name,(),()] (by simp;omega) rfl⟩
      case rest=>
       obtain⟨rfl,x,hx,hO⟩:=hcut;rename World=>w8;have HO8:=hid hO;have HX8:=hid hx;clear hO hx HO7 e0 e1 e2 e3 e4 e5 e6 e7 e8 e9 n0 n1 n2 n3 n4 n5 n6 n7 n8 n9 nz f0 f1 f2 f3 f4 f5 f6 f7 f8 f9;go_wp2_with fail
       refine(Qqk T 7 _ (by omega) (by omega) HO8.out.tape).mono ?_;rintro e w9 ⟨v,rfl,⟨k7,rfl,hk70,hk77⟩,ht,hk⟩;have HO9:=hid (HO8.out.step ht hk);have hnb:nb<w9.heap.size:=HO9.out.blt (Zv ..);clear ht hk HO8;dsimp only;have h7:k7=0∨k7=1∨k7=2∨k7=3∨k7=4∨k7=5∨k7=6:=by omega
       obtain⟨e0,e1,e2,e3,e4,e5,e6,e7,e8,e9,_⟩:=Qq5 (HO9.out.blk (Zv ..));obtain⟨p0,p1,pf0,pf1,pz⟩:=Qjk (HO9.out.blk (b:=⟨w.heap.size+1+1,#[Qv fa fs.length fc,Qv ta ss.length tc],122⟩) (by simp));dsimp only at e0 e1 e2 e3 e4 e5 e6 e7 e8 e9 p0 p1 pz;clear pf0 pf1 hk70 hk77;rcases h7 with rfl|rfl|rfl|rfl|rfl|rfl|rfl
       ·
        go_upto_if 77 with(fail)
        refine wp_cond_true rfl ?_;refine Yy3 (by kernel_rfl) hti hTw HW HF HS HP HIN HX8 hz4 hnb HO9 rfl rfl rfl rfl rfl rfl ?_;exact fun a W h=>h
       ·
        go_upto_if 87 with(fail)
        refine wp_cond_true rfl ?_;refine Yy2 (by kernel_rfl) hti hTw HW HF HS HP HIN HX8 hz4 hnb HO9 rfl rfl rfl rfl ?_;exact fun a W h=>h
       ·
        go_upto_if 111 with(fail)
        refine wp_cond_true rfl ?_;refine Yy4 (by kernel_rfl) hti hTw HW HF HS HP HIN HX8 hz4 hnb HO9 rfl rfl rfl rfl ?_;exact fun a W h=>h
       ·
        obtain⟨_,_,x5,x1,x3⟩:=HX.out _ (HO9.out.sub fun b hb=>Zl _ hb);cases each
        case false=>
         go_upto_region 30 with fail
         refine Kxc (by kernel_rfl) hti hTw HW HF HS HP HIN HX8 hz4 hnb HO9 rfl rfl rfl rfl rfl ?_;intro a W h
         (repeat(first|go_skip|go_step))
         exact h
        case true=>
         cases hl:(s.name.toList==([108,111,103]:List UInt8))
         case true=>
          go_upto_region 30 with fail
          refine Kxc (by kernel_rfl) hti hTw HW HF HS HP HIN HX8 hz4 hnb HO9 rfl rfl rfl rfl rfl ?_;intro a W h
          (repeat(first|go_skip|go_step))
          exact h
         case false=>
          go_upto_if 145 with(fail)
          refine wp_cond_true rfl ?_;refine Yy1 (by kernel_rfl) hti hTw HW HF HS HP HIN HX8 hz4 hnb HO9 rfl rfl rfl rfl rfl rfl rfl ?_;exact fun a W h=>h
       ·
        go_upto_if 175 with(fail)
        refine wp_cond_true rfl ?_;refine Yy5 (by kernel_rfl) hti hTw HW HF HS HP HIN HX8 hz4 hnb HO9 rfl rfl rfl rfl rfl ?_;exact fun a W h=>h
       ·
        go_upto_region 30 with fail
        refine Kxc (by kernel_rfl) hti hTw HW HF HS HP HIN HX8 hz4 hnb HO9 rfl rfl rfl rfl rfl ?_;intro a W h
        (repeat(first|go_skip|go_step))
        exact h
       ·
        go_upto_region 30 with fail
        refine Kxc (by kernel_rfl) hti hTw HW HF HS HP HIN HX8 hz4 hnb HO9 rfl rfl rfl rfl rfl ?_;intro a W h
        (repeat(first|go_skip|go_step))
        exact h
end Go.Proofs.YtgepbohjmgaojaaGreatDoor
