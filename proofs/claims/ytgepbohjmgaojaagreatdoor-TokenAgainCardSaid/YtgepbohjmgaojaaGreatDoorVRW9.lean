/- The reference's text of a statement. -/
import Derived.Test.YtgepbohjmgaojaaGreatDoorVRW8
import Derived.Test.YtgepbohjmgaojaaGreatDoorVRV8
set_option linter.all false
namespace Go.Proofs.YtgepbohjmgaojaaGreatDoor
open Value renaming slice→Qv
open Lib(hid)
open Go.RowKit
theorem Uqq{p nm:ByteArray}(hp:p.toList≠[40])(hq:p.toList≠[46])(h:Qqo nm=true):Jjn (some p) nm=true:=by
 unfold Jjn;have h1:(p.toList==[40])=false:=by simpa using hp
 have h2:(p.toList==[46])=false:=by simpa using hq
 simp only[h1,h2,Qk,Kb,Kr]
 rcases hl:nm.data.toList with _|⟨c,r⟩
 ·have hs:nm.size=0:=by show nm.data.size=0;rw[←Kt,hl];rfl
  unfold Qqo at h;rw[hs] at h;simp at h
 ·refine Ko.2 fun hc=>?_;have hh:=Jy7 hc;unfold Qqo at h;rw[hl] at h;simp only[Yx,List.head?_cons,Option.any_some] at h;have hlb:=h.2;rcases hh with rfl|rfl|rfl|rfl<;>revert hlb<;>decide
theorem Yqh(k nm:ByteArray)(hk:k.toList≠[40])(hk2:k.toList≠[46])(hg:Jjn (some Qvw) k=true)(h:Qqo nm=true):bs (Qxe none [Qvw,k,nm])=bs (Qvw.data.toList++32::(k.data.toList++[32]))++nm:=by
 have e:Qxe none [Qvw,k,nm]=(Qvw.data.toList++32::(k.data.toList++[32]))++nm.data.toList:=by
  simp only[Qxe,hg,Uqq hk hk2 h,if_true,Jb];rw[show Jjn none Qvw=false from rfl];simp
 rw[e,Jys,Uyl]
set_option maxRecDepth 100000 in
set_option maxHeartbeats 16000000 in
theorem Kxa{sn nm tn tt qf ta tx:ByteArray}{bf each st:Bool}{ev ak k:Int}{sa oa pa fa ra wa aa ia ja b1 b2 b3 b4:Option Addr}{n0 sc no oc np pc nf fc nr rc nw qcc na ac ni ic nj jc m1 d1 m2 d2 m3 d3 m4 d4:Nat}(w:World)(ok:Bool)(ws cw:List ByteArray)(hL:Qzf w)(hs:10<w.heap.size)
 (hV:∀wx,Below w.heap.size w wx→Calls Tryz.prog 15 #[.agg #[k,sn,Qv sa n0 sc,nm,tn,tt,bf,ev,Qv oa no oc,each,Qv pa np pc,Qv fa nf fc,Qv ra nr rc,Qv wa nw qcc,Qv aa na ac,st,Qv ia ni ic,qf,Qv ja nj jc,ak,ta,Qv b1 m1 d1,Qv b2 m2 d2,Qv b3 m3 d3,Qv b4 m4 d4,tx]] wx (Qqd ok wx))(hk:ok=true→k=1∨k=2∨k=3∨k=4∨k=5∨k=6)
 (h1:k=1→ws=[kCREATE,Qkf,sn,Qq7]++(cw++[Qjq])∧cw.length≤400000000∧∀wx,Below w.heap.size w wx→Calls Tryz.prog 18 #[Qv sa n0 sc] wx (Qkz cw wx))
 (h2:k=2→ws=[Qvw,Qkf,nm]∧Qqo nm=true∧nm.size≤1000)(h4:k=4→ws=[Qvw,Qzl,nm]∧Qqo nm=true∧nm.size≤1000)
 (h3:k=3→∀wx,Below w.heap.size w wx→Calls Tryz.prog 19 #[.agg #[tn,tt,bf,ev,Qv oa no oc,each,Qv pa np pc,Qv fa nf fc,Qv ra nr rc,Qv wa nw qcc,Qv aa na ac]] wx (Qkz ws wx))(h5:k=5→∀wx,Below w.heap.size w wx→Calls Tryz.prog 20 #[.agg #[st,Qv ia ni ic,qf,Qv ja nj jc]] wx (Qkz ws wx))(h6:k=6→∀wx,Below w.heap.size w wx→Calls Tryz.prog 21 #[.agg #[ak,ta,Qv b1 m1 d1,Qv b2 m2 d2,Qv b3 m3 d3,Qv b4 m4 d4,tx]] wx (Qkz ws wx))
 (hN:(ws.map fun t=>t.size+1).sum≤1000000000000):
 Calls Tryz.prog 6 #[.agg #[k,sn,Qv sa n0 sc,nm,tn,tt,bf,ev,Qv oa no oc,each,Qv pa np pc,Qv fa nf fc,Qv ra nr rc,Qv wa nw qcc,Qv aa na ac,st,Qv ia ni ic,qf,Qv ja nj jc,ak,ta,Qv b1 m1 d1,Qv b2 m2 d2,Qv b3 m3 d3,Qv b4 m4 d4,tx]] w (Qqd (.tuple #[.string (if ok=true then bs (Qxe none ws) else⟨#[]⟩),ok]) w):=by
 have HVV:=hid hV;have H1:=hid h1;have H2:=hid h2;have H3:=hid h3;have H4:=hid h4;have H5:=hid h5;have H6:=hid h6;have HK:=hid hk;have HNN:=hid hN;have HL:=hid hL;clear hV h1 h2 h3 h4 h5 h6 hk hN hL;go_enter Tryz.func6,Tryz.ntmps6;go_upto_region 1 with fail
 generalize hW0:World.alloc w _=W0;have hb0:W0.heap[w.heap.size]?=some (.cells #[k,sn,Qv sa n0 sc,nm,tn,tt,bf,ev,Qv oa no oc,each,Qv pa np pc,Qv fa nf fc,Qv ra nr rc,Qv wa nw qcc,Qv aa na ac,st,Qv ia ni ic,qf,Qv ja nj jc,ak,ta,Qv b1 m1 d1,Qv b2 m2 d2,Qv b3 m3 d3,Qv b4 m4 d4,tx] 44 (0,0)):=by rw[←hW0];exact Zw w _
 have HB0:=hid (show Below w.heap.size w W0 from by rw[←hW0];exact(Below.refl _ _).alloc (Zz _) _);have hz0:=(Zq.1 hb0).1;clear hW0
 repeat(first|(refine wpList_load_row rfl 44 _ rfl w.heap.size rfl _ #[k,sn,Qv sa n0 sc,nm,tn,tt,bf,ev,Qv oa no oc,each,Qv pa np pc,Qv fa nf fc,Qv ra nr rc,Qv wa nw qcc,Qv aa na ac,st,Qv ia ni ic,qf,Qv ja nj jc,ak,ta,Qv b1 m1 d1,Qv b2 m2 d2,Qv b3 m3 d3,Qv b4 m4 d4,tx] _ _ hb0 Tryz.underlying44 rfl (by kernel_rfl) ?_)|go_values|go_skip|go_guarded|go_step|go_upon)
 have HC0:=hid hb0;clear hb0;refine(HVV.out _ HB0.out).mono ?_;rintro e W ⟨rfl,hb⟩;have HB1:=hid (HB0.out.trans (hb.mono HB0.out.size));have hz1:=HB1.out.size;have hS1:=(hb.block _ hz0).trans HC0.out;have hzz:=(Zq.1 hS1).1;have HS1:=hid hS1;obtain⟨x0,x1,x2,x3,x4,x5,x6,x7,x8,x9,x10,x11,x12,x13,x14,x15,x16,x17,x18,x19,x20,x21,x22,x23,x24,x25⟩:=Qjb hS1;clear hb hS1;dsimp only;cases ok
 case false=>
  go_wp2_with fail
  go_ret2
  exact⟨rfl,HB1.out⟩
 case true=>
  have hk:=HK.out rfl;clear HK HVV;rcases hk with rfl|rfl|rfl|rfl|rfl|rfl
  ·obtain⟨rfl,hcl,hcc⟩:=H1.out rfl;have HCC:=hid hcc;have HLC:=hid hcl;clear hcl hcc H1 H2 H3 H4 H5 H6
   have HKS:Hid (∀w' l,STt W w' l→w'.cell? ⟨w.heap.size,1,none⟩=some (.string sn)∧w'.cell? ⟨w.heap.size,2,none⟩=some (Qv sa n0 sc)):=hid fun w' l h=>by
    obtain⟨x0,x1,x2,x3,x4,x5,x6,x7,x8,x9,x10,x11,x12,x13,x14,x15,x16,x17,x18,x19,x20,x21,x22,x23,x24,x25⟩:=Qjb ((h.1.block _ hzz).trans HS1.out);exact⟨x1,x2⟩
   have HCO:=hid fun W' l (h:STt W W' l)=>HCC.out W' (Qqu HB1.out h.1);go_upto_region 5 with fail
   clear x0 x1 x2 x3 x4 x5 x6 x7 x8 x9 x10 x11 x12 x13 x14 x15 x16 x17 x18 x19 x20 x21 x22 x23 x24 x25;have ST0:=hid (STt.base W);have tok0:Hid True:=hid trivial;have xx0:=HKS.out _ _ ST0.out
   go_region_held3 (fun w'=>w'.cell? ⟨w.heap.size,1,none⟩=some (.string sn)∧w'.cell? ⟨w.heap.size,2,none⟩=some (Qv sa n0 sc))
    (refine HKS.out _ _ (by repeat(first|with_reducible exact ST10.out|with_reducible exact ST9.out|with_reducible exact ST1.out|with_reducible exact ST0.out|with_reducible apply STt.drew|(apply STt.strs (ys:=[kCREATE,Qkf,sn,Qq7]);rfl;simp)|(apply STt.strs (ys:=[Qjq]);rfl;simp)|apply STt.alloc)))
    (first
      |(go_at_call 18;have _t:=tok0;go_loud (refine Qjo (W0:=W) (by repeat(first|with_reducible exact ST9.out|with_reducible exact ST0.out|with_reducible apply STt.drew|(apply STt.strs (ys:=[kCREATE,Qkf,sn,Qq7]);rfl;simp)|(apply STt.strs (ys:=[Qjq]);rfl;simp)|apply STt.alloc)) (fun h=>HCO.out _ _ h) ?_;intro a1 c1 w1 hst;have ST1:=hid hst;clear hst tok0 _t))
      |(go_at_call 17;go_loud (refine Qzy (W0:=W) (ls:=[(_,[kCREATE,Qkf,sn,Qq7]),(_,cw),(_,[Qjq])]) (by repeat(first|with_reducible exact ST9.out|with_reducible exact ST1.out|with_reducible exact ST0.out|with_reducible apply STt.drew|(apply STt.strs (ys:=[kCREATE,Qkf,sn,Qq7]);rfl;simp)|(apply STt.strs (ys:=[Qjq]);rfl;simp)|apply STt.alloc)) (by simp) rfl (fun p hp=>by(simp only[Zs,Zo,Yu] at hp);rcases hp with rfl|rfl|rfl<;>simp) (by simp) rfl (by have:=HLC.out;simp;omega) ?_;intro v9 w9 hv9 hb9;have ST9:Hid (STt W w9 []):=hid ⟨hb9,fun p h=>by cases h⟩;have HV:=hid hv9;have HB9:=hid (HB1.out.trans (hb9.mono hz1));clear hv9 hb9))
      |(go_at_call 16;go_loud (refine(Jzn ([kCREATE,Qkf,sn,Qq7]++(cw++[Qjq])) _ _ (by simpa using HV.out) (HL.out.belB HB9.out hs) (Zm hs HB9.out.size) HNN.out).mono ?_;rintro e w10 ⟨rfl,hb⟩;have ST10:Hid (STt W w10 []):=hid (ST9.out.bel hb);have HB10:=hid (HB9.out.trans (hb.mono HB9.out.size));clear hb)))
   all_goals
    (try dsimp only)
    go_wp2_with fail
    go_ret2
    exact⟨rfl,HB10.out⟩
  ·obtain⟨rfl,hn,hz⟩:=H2.out rfl;have HT:=hid (Yqh Qkf nm (by decide+kernel) (by decide+kernel) (by decide+kernel) hn);have hl:(bs (Qvw.data.toList++32::(Qkf.data.toList++[32])))=⟨#[68,82,79,80,32,84,65,66,76,69,32]⟩:=by decide+kernel
   rw[hl] at HT;clear hn hl H1 H2 H3 H4 H5 H6;go_wp2_with fail
   go_ret2
   exact⟨by rw[HT.out];rfl,HB1.out⟩
  ·have HWW:=hid (H3.out rfl);clear H1 H2 H3 H4 H5 H6;go_wp2_with fail
   refine(HWW.out _ HB1.out).mono ?_;rintro e w2 ⟨v,rfl,hv,hb⟩;have HB2:=hid (HB1.out.trans (hb.mono HB1.out.size));have HV2:=hid hv;clear hv hb;dsimp only;go_wp2_with fail
   refine(Jzn ws _ w2 HV2.out (HL.out.belB HB2.out hs) (Zm hs HB2.out.size) HNN.out).mono ?_;rintro e w3 ⟨rfl,hb⟩;have HB3:=hid (HB2.out.trans (hb.mono HB2.out.size));clear hb;dsimp only;go_wp2_with fail
   go_ret2
   exact⟨rfl,HB3.out⟩
  ·obtain⟨rfl,hn,hz⟩:=H4.out rfl;have HT:=hid (Yqh Qzl nm (by decide+kernel) (by decide+kernel) (by decide+kernel) hn);have hl:(bs (Qvw.data.toList++32::(Qzl.data.toList++[32])))=⟨#[68,82,79,80,32,84,82,73,71,71,69,82,32]⟩:=by decide+kernel
   rw[hl] at HT;clear hn hl H1 H2 H3 H4 H5 H6;go_wp2_with fail
   go_ret2
   exact⟨by rw[HT.out];rfl,HB1.out⟩
  ·have HWW:=hid (H5.out rfl);clear H1 H2 H3 H4 H5 H6;go_wp2_with fail
   refine(HWW.out _ HB1.out).mono ?_;rintro e w2 ⟨v,rfl,hv,hb⟩;have HB2:=hid (HB1.out.trans (hb.mono HB1.out.size));have HV2:=hid hv;clear hv hb;dsimp only;go_wp2_with fail
   refine(Jzn ws _ w2 HV2.out (HL.out.belB HB2.out hs) (Zm hs HB2.out.size) HNN.out).mono ?_;rintro e w3 ⟨rfl,hb⟩;have HB3:=hid (HB2.out.trans (hb.mono HB2.out.size));clear hb;dsimp only;go_wp2_with fail
   go_ret2
   exact⟨rfl,HB3.out⟩
  ·have HWW:=hid (H6.out rfl);clear H1 H2 H3 H4 H5 H6;go_wp2_with fail
   refine(HWW.out _ HB1.out).mono ?_;rintro e w2 ⟨v,rfl,hv,hb⟩;have HB2:=hid (HB1.out.trans (hb.mono HB1.out.size));have HV2:=hid hv;clear hv hb;dsimp only;go_wp2_with fail
   refine(Jzn ws _ w2 HV2.out (HL.out.belB HB2.out hs) (Zm hs HB2.out.size) HNN.out).mono ?_;rintro e w3 ⟨rfl,hb⟩;have HB3:=hid (HB2.out.trans (hb.mono HB2.out.size));clear hb;dsimp only;go_wp2_with fail
   go_ret2
   exact⟨rfl,HB3.out⟩
end Go.Proofs.YtgepbohjmgaojaaGreatDoor
