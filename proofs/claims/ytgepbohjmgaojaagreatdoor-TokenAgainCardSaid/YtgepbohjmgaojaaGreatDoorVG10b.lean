/- An action of a trigger: the region that makes a condition of two (region 26). -/
import Derived.Test.YtgepbohjmgaojaaGreatDoorVG10a
set_option linter.all false
namespace Go.Proofs.YtgepbohjmgaojaaGreatDoor
open Value renaming slice→Qv
open Lib(hid)
open Go.RowKit
set_option maxRecDepth 100000 in
set_option maxHeartbeats 40000000 in
theorem Yk8{QQ:Exit→Act→World→Prop}{ops:Array Oper}(hops:(Tryz.f94.body).bind (Jq9 26)=some ops)(T Sx bx pb:Nat)(w w10:World)(L1:List Qqx)(look:List UInt8→List Col)(fs:List Frm)(ss:List Sch)(fa ta:Option Addr)(fc tc:Nat)(s2:Sch)(hs2:s2∈Qq3)(y0:Ex)(ab sb:Option Addr)(abc sbc:Nat)
 (hTw:T<w.heap.size)(hwS:w.heap.size≤Sx)(hSb:Sx<bx)(HO10:Hid (OB T w w10 (⟨bx,#[y0.kind,y0.op,y0.no,y0.val.kind,y0.val.int,y0.val.text,y0.table,y0.name,Qv ab y0.args.length abc,Qv sb y0.sub.length sbc],80⟩::L1)))(hLb:∀b∈L1,b.pos≠bx)(HV10:Hid (Qqq (MG (Old (Sx+1)) bx) w10 (Qv ab y0.args.length abc) y0.args∧Qz1 (MG (Old (Sx+1)) bx) w10 (Qv sb y0.sub.length sbc) y0.sub))
 (HKS:Hid (∀W,OB T w W L1→W.cell? ⟨pb,0,none⟩=some (Qv fa fs.length fc)∧W.cell? ⟨pb,1,none⟩=some (Qv ta ss.length tc)))(HW:Hid (Qjh T w))(HFS:Hid (Qqz (At T) w (Qv fa fs.length fc) fs))(HSS:Hid (Qjt (At T) w (Qv ta ss.length tc) ss))(HP2:Hid (Qzm look (fs++[Qj6 s2]) ss 2))(hfl:fs.length≤100)
 (a0:Act)(hz:a0.tmps.size=187)(B0:a0.tmps[0]?=some (.pointer (some ⟨T,0,none⟩)))(B7:a0.tmps[7]?=some (.pointer (some ⟨pb,0,none⟩)))(B15:a0.tmps[15]?=some (.string s2.name))(B16:a0.tmps[16]?=some (.pointer (some ⟨bx,0,none⟩)))
 (hQ:∀(u160 u161 u162 u163 u164 u165 u166 u167:Value) (W:World) (z:Ex) (za zs:Option Addr) (zac zsc:Nat),GX 2 z→(Qqq (Old (Sx+1)) W (.slice za (Qqc 2 y0 z).args.length zac) (Qqc 2 y0 z).args∧Qz1 (Old (Sx+1)) W (.slice zs (Qqc 2 y0 z).sub.length zsc) (Qqc 2 y0 z).sub)→OB T w W (⟨bx,#[.int .i64 (Qqc 2 y0 z).kind,.int .i64 (Qqc 2 y0 z).op,.bool (Qqc 2 y0 z).no,.int .i64 (Qqc 2 y0 z).val.kind,.int .i64 (Qqc 2 y0 z).val.int,.string (Qqc 2 y0 z).val.text,.string (Qqc 2 y0 z).table,.string (Qqc 2 y0 z).name,.slice za (Qqc 2 y0 z).args.length zac,.slice zs (Qqc 2 y0 z).sub.length zsc],80⟩::L1)→QQ .normal ((((((((a0.put (some 160) u160).put (some 161) u161).put (some 162) u162).put (some 163) u163).put (some 164) u164).put (some 165) u165).put (some 166) u166).put (some 167) u167) W):
 wpAnyH Tryz.prog .any ops (NoPanic QQ) (fun w'=>w'.cell? ⟨pb,0,none⟩=some (Qv fa fs.length fc)∧w'.cell? ⟨pb,1,none⟩=some (Qv ta ss.length tc)) 9 #[false,false,false,false,false,false,false,false,false] a0 w10:=by
 have h:(Tryz.f94.body).bind (Jq9 26)=some _:=rfl;obtain rfl:=Jf (hops.symm.trans h);clear hops h;apply Yzt (a0:=a0) (A:=fun(W:World) (ca2:Option Addr) (cc2:Nat) (a6:Option Addr) (q6:Nat) (v:Value) (z:Ex)=>Hid (OB T w W (⟨bx,#[y0.kind,y0.op,y0.no,y0.val.kind,y0.val.int,y0.val.text,y0.table,y0.name,Qv ab y0.args.length abc,Qv sb y0.sub.length sbc],80⟩::L1))∧Hid (Qqq (MG (Old (Sx+1)) bx) W (Qv ab y0.args.length abc) y0.args∧Qz1 (MG (Old (Sx+1)) bx) W (Qv sb y0.sub.length sbc) y0.sub)∧Hid (ExV (MG (Old (Sx+1)) bx) W z v)∧Hid (GX 2 z));intro KW3T;apply Yzt (a0:=a0) (A:=fun(W:World) (ca2:Option Addr) (cc2:Nat) (a6:Option Addr) (q6:Nat) (v:Value) (z:Ex)=>Hid (OB T w W (⟨bx,#[y0.kind,y0.op,y0.no,y0.val.kind,y0.val.int,y0.val.text,y0.table,y0.name,Qv ab y0.args.length abc,Qv sb y0.sub.length sbc],80⟩::L1))∧Hid (Qqq (MG (Old (Sx+1)) bx) W (Qv ab y0.args.length abc) y0.args∧Qz1 (MG (Old (Sx+1)) bx) W (Qv sb y0.sub.length sbc) y0.sub)∧Hid (ExV (MG (Old (Sx+1)) bx) W z v)∧Hid (GX 2 z));intro KW3F;apply Jkw (a0:=a0) (A:=fun(W:World) (ca2:Option Addr) (cc2:Nat) (a6:Option Addr) (q6:Nat)=>Hid (OB T w W (⟨bx,#[y0.kind,y0.op,y0.no,y0.val.kind,y0.val.int,y0.val.text,y0.table,y0.name,Qv ab y0.args.length abc,Qv sb y0.sub.length sbc],80⟩::L1))∧Hid (Qqq (MG (Old (Sx+1)) bx) W (Qv ab y0.args.length abc) y0.args∧Qz1 (MG (Old (Sx+1)) bx) W (Qv sb y0.sub.length sbc) y0.sub)∧Hid (Qqz (At T) W (Qv a6 (fs.length+1) q6) (fs++[Qj6 s2])));intro KW2T;apply Jkw (a0:=a0) (A:=fun(W:World) (ca2:Option Addr) (cc2:Nat) (a6:Option Addr) (q6:Nat)=>Hid (OB T w W (⟨bx,#[y0.kind,y0.op,y0.no,y0.val.kind,y0.val.int,y0.val.text,y0.table,y0.name,Qv ab y0.args.length abc,Qv sb y0.sub.length sbc],80⟩::L1))∧Hid (Qqq (MG (Old (Sx+1)) bx) W (Qv ab y0.args.length abc) y0.args∧Qz1 (MG (Old (Sx+1)) bx) W (Qv sb y0.sub.length sbc) y0.sub)∧Hid (Qqz (At T) W (Qv a6 (fs.length+1) q6) (fs++[Qj6 s2])));intro KW2F;apply Jkv (a0:=a0) (A:=fun(W:World) (ca2:Option Addr) (cc2:Nat)=>Hid (OB T w W (⟨bx,#[y0.kind,y0.op,y0.no,y0.val.kind,y0.val.int,y0.val.text,y0.table,y0.name,Qv ab y0.args.length abc,Qv sb y0.sub.length sbc],80⟩::L1))∧Hid (Qqq (MG (Old (Sx+1)) bx) W (Qv ab y0.args.length abc) y0.args∧Qz1 (MG (Old (Sx+1)) bx) W (Qv sb y0.sub.length sbc) y0.sub)∧Hid (Qq1 (At T) W (Qv ca2 s2.cols.length cc2) s2.cols));intro KW1T;apply Jkv (a0:=a0) (A:=fun(W:World) (ca2:Option Addr) (cc2:Nat)=>Hid (OB T w W (⟨bx,#[y0.kind,y0.op,y0.no,y0.val.kind,y0.val.int,y0.val.text,y0.table,y0.name,Qv ab y0.args.length abc,Qv sb y0.sub.length sbc],80⟩::L1))∧Hid (Qqq (MG (Old (Sx+1)) bx) W (Qv ab y0.args.length abc) y0.args∧Qz1 (MG (Old (Sx+1)) bx) W (Qv sb y0.sub.length sbc) y0.sub)∧Hid (Qq1 (At T) W (Qv ca2 s2.cols.length cc2) s2.cols));intro KW1F;apply Ywg (a0:=a0) (A:=fun(W:World)=>Hid (OB T w W (⟨bx,#[y0.kind,y0.op,y0.no,y0.val.kind,y0.val.int,y0.val.text,y0.table,y0.name,Qv ab y0.args.length abc,Qv sb y0.sub.length sbc],80⟩::L1))∧Hid (Qqq (MG (Old (Sx+1)) bx) W (Qv ab y0.args.length abc) y0.args∧Qz1 (MG (Old (Sx+1)) bx) W (Qv sb y0.sub.length sbc) y0.sub));intro KW0T;apply Ywg (a0:=a0) (A:=fun(W:World)=>Hid (OB T w W (⟨bx,#[y0.kind,y0.op,y0.no,y0.val.kind,y0.val.int,y0.val.text,y0.table,y0.name,Qv ab y0.args.length abc,Qv sb y0.sub.length sbc],80⟩::L1))∧Hid (Qqq (MG (Old (Sx+1)) bx) W (Qv ab y0.args.length abc) y0.args∧Qz1 (MG (Old (Sx+1)) bx) W (Qv sb y0.sub.length sbc) y0.sub));intro KW0F;refine Jyj fun a ha=>?_;have HFR:=hid (show Fr a0 [] a from ha▸Fr.start a0);clear ha
 obtain⟨w1,hw1⟩:∃x,x=w10:=⟨_,rfl⟩
 have HO1:Hid (OB T w w1 (⟨bx,#[y0.kind,y0.op,y0.no,y0.val.kind,y0.val.int,y0.val.text,y0.table,y0.name,Qv ab y0.args.length abc,Qv sb y0.sub.length sbc],80⟩::L1)):=by rw[hw1];exact HO10
 have HV1:Hid (Qqq (MG (Old (Sx+1)) bx) w1 (Qv ab y0.args.length abc) y0.args∧Qz1 (MG (Old (Sx+1)) bx) w1 (Qv sb y0.sub.length sbc) y0.sub):=by rw[hw1];exact HV10
 rw[←hw1];clear hw1;have hHeld:w1.cell? ⟨pb,0,none⟩=some (Qv fa fs.length fc)∧w1.cell? ⟨pb,1,none⟩=some (Qv ta ss.length tc):=HKS.out _ (Qzw HO1.out);have E0:=HFR.out.off B0 rfl;refine tkF 1 HFR hz (by assumption) fun a HFR=>?_;clear E0;have E7:=HFR.out.off B7 rfl;refine tkF 2 HFR hz (by assumption) fun a HFR=>?_;clear E7;have E15:=HFR.out.off B15 rfl;refine tkF 3 HFR hz (by assumption) fun a HFR=>?_;clear E15
 (try simp only[Zj,Zx,Zk])
 (try simp only[Qj9,Nat.reduceLT,↓reduceIte] at HFR)
 exact KW0F a w1 HFR ⟨HO1,HV1⟩
 ·rintro a w0 HFR ⟨HO,HV⟩;have hHeld:w0.cell? ⟨pb,0,none⟩=some (Qv fa fs.length fc)∧w0.cell? ⟨pb,1,none⟩=some (Qv ta ss.length tc):=HKS.out _ (Qzw HO.out);refine Zc (rs:=[0,4]) (by kernel_rfl) (by simp) ?_;refine Zy (o:=_) rfl (fun K hK=>?_) ?_
  ·have E16:=HFR.out.off B16 rfl;obtain⟨b0,b1,b2,b3,b4,b5,b6,b7,b8,b9,bf',bz'⟩:=Qq5 (HO.out.blk (Zv ..));dsimp only at b0 b1 b2 b3 b4 b5 b6 b7 b8 b9 bf' bz'
   go_simp
   clear b0 b1 b2 b3 b4 b5 b6 b7 b8 b9 bf' bz';refine goF hK (HKS.out _ (Qzw HO.out)) HFR hz rfl rfl fun a hHeld HFR=>?_
   (try simp only[Zj,Zx,Zk])
   (try simp only[Qj9,Nat.reduceLT,↓reduceIte] at HFR)
   exact KW0T a w0 HFR ⟨HO,HV⟩
  refine Zy (o:=_) rfl (fun K hK=>?_) ?_
  ·have E163:=HFR.out.get (k:=163) rfl
   go_simp
   refine(Qyd s2 hs2 _).mono ?_;rintro e w1 ⟨vc,rfl,hc,hb⟩;obtain⟨ca2,cc2,rfl,_⟩:=hc.shape;have HC1:=hid (Qq1.weak (M':=At T) (fun k hk h=>by have:=HO.out.size;unfold At at h;unfold Out;left;omega) hc);have HO1:=hid (HO.out.bel hb);have HV1:=hid (Qq8 (.bel hb) HV.out);clear hc hb;dsimp only;refine goF hK (HKS.out _ (Qzw HO1.out)) HFR hz rfl rfl fun a hHeld HFR=>?_
   (try simp only[Zj,Zx,Zk])
   (try simp only[Qj9,Nat.reduceLT,↓reduceIte] at HFR)
   exact KW1F a w1 ca2 cc2 HFR ⟨HO1,HV1,HC1⟩
  exact Zf
 ·rintro a w0 HFR ⟨HO,HV⟩;have hHeld:w0.cell? ⟨pb,0,none⟩=some (Qv fa fs.length fc)∧w0.cell? ⟨pb,1,none⟩=some (Qv ta ss.length tc):=HKS.out _ (Qzw HO.out);refine Zc (rs:=[4]) (by kernel_rfl) (by simp) ?_;refine Zy (o:=_) rfl (fun K hK=>?_) ?_
  ·have E163:=HFR.out.get (k:=163) rfl
   go_simp
   refine(Qyd s2 hs2 _).mono ?_;rintro e w1 ⟨vc,rfl,hc,hb⟩;obtain⟨ca2,cc2,rfl,_⟩:=hc.shape;have HC1:=hid (Qq1.weak (M':=At T) (fun k hk h=>by have:=HO.out.size;unfold At at h;unfold Out;left;omega) hc);have HO1:=hid (HO.out.bel hb);have HV1:=hid (Qq8 (.bel hb) HV.out);clear hc hb;dsimp only;refine goF hK (HKS.out _ (Qzw HO1.out)) HFR hz rfl rfl fun a hHeld HFR=>?_
   (try simp only[Zj,Zx,Zk])
   (try simp only[Qj9,Nat.reduceLT,↓reduceIte] at HFR)
   exact KW1T a w1 ca2 cc2 HFR ⟨HO1,HV1,HC1⟩
  exact Zf
 ·rintro a w0 ca2 cc2 HFR ⟨HO,HV,HC⟩;have hHeld:w0.cell? ⟨pb,0,none⟩=some (Qv fa fs.length fc)∧w0.cell? ⟨pb,1,none⟩=some (Qv ta ss.length tc):=HKS.out _ (Qzw HO.out);refine Zc (rs:=[0,5]) (by kernel_rfl) (by simp) ?_;refine Zy (o:=_) rfl (fun K hK=>?_) ?_
  ·have E16:=HFR.out.off B16 rfl;obtain⟨b0,b1,b2,b3,b4,b5,b6,b7,b8,b9,bf',bz'⟩:=Qq5 (HO.out.blk (Zv ..));dsimp only at b0 b1 b2 b3 b4 b5 b6 b7 b8 b9 bf' bz'
   go_simp
   clear b0 b1 b2 b3 b4 b5 b6 b7 b8 b9 bf' bz';refine goF hK (HKS.out _ (Qzw HO.out)) HFR hz rfl rfl fun a hHeld HFR=>?_
   (try simp only[Zj,Zx,Zk])
   (try simp only[Qj9,Nat.reduceLT,↓reduceIte] at HFR)
   exact KW1T a w0 ca2 cc2 HFR ⟨HO,HV,HC⟩
  refine Zy (o:=_) rfl (fun K hK=>?_) ?_
  ·have E162:=HFR.out.get (k:=162) rfl;have E164:=HFR.out.get (k:=164) rfl
   go_simp
   refine(Qw8 (M:=At T) (Qv fa fs.length fc) (Qv ta ss.length tc) fs s2.name (Qv ca2 s2.cols.length cc2) s2.cols _ _ _ _ rfl (HFS.out.keep HO.out.kept) HC.out (fun k h1 h2=>by have:=HO.out.size;unfold At at h2;omega) (by omega)).mono ?_;rintro e w1 ⟨a6,q6,rfl,h6,hb6⟩;rw[show(fs++[Frm.mk s2.name false s2.cols]).length=fs.length+1 by simp] at h6⊢;have HO1:=hid (HO.out.bel hb6);have HV1:=hid (Qq8 (.bel hb6) HV.out);have HF1:Hid (Qqz (At T) w1 (Qv a6 (fs.length+1) q6) (fs++[Qj6 s2])):=hid h6;clear h6 hb6;dsimp only;refine goF hK (HKS.out _ (Qzw HO1.out)) HFR hz rfl rfl fun a hHeld HFR=>?_
   (try simp only[Zj,Zx,Zk])
   (try simp only[Qj9,Nat.reduceLT,↓reduceIte] at HFR)
   exact KW2F a w1 ca2 cc2 a6 q6 HFR ⟨HO1,HV1,HF1⟩
  exact Zf
 ·rintro a w0 ca2 cc2 HFR ⟨HO,HV,HC⟩;have hHeld:w0.cell? ⟨pb,0,none⟩=some (Qv fa fs.length fc)∧w0.cell? ⟨pb,1,none⟩=some (Qv ta ss.length tc):=HKS.out _ (Qzw HO.out);refine Zc (rs:=[5]) (by kernel_rfl) (by simp) ?_;refine Zy (o:=_) rfl (fun K hK=>?_) ?_
  ·have E162:=HFR.out.get (k:=162) rfl;have E164:=HFR.out.get (k:=164) rfl
   go_simp
   refine(Qw8 (M:=At T) (Qv fa fs.length fc) (Qv ta ss.length tc) fs s2.name (Qv ca2 s2.cols.length cc2) s2.cols _ _ _ _ rfl (HFS.out.keep HO.out.kept) HC.out (fun k h1 h2=>by have:=HO.out.size;unfold At at h2;omega) (by omega)).mono ?_;rintro e w1 ⟨a6,q6,rfl,h6,hb6⟩;rw[show(fs++[Frm.mk s2.name false s2.cols]).length=fs.length+1 by simp] at h6⊢;have HO1:=hid (HO.out.bel hb6);have HV1:=hid (Qq8 (.bel hb6) HV.out);have HF1:Hid (Qqz (At T) w1 (Qv a6 (fs.length+1) q6) (fs++[Qj6 s2])):=hid h6;clear h6 hb6;dsimp only;refine goF hK (HKS.out _ (Qzw HO1.out)) HFR hz rfl rfl fun a hHeld HFR=>?_
   (try simp only[Zj,Zx,Zk])
   (try simp only[Qj9,Nat.reduceLT,↓reduceIte] at HFR)
   exact KW2T a w1 ca2 cc2 a6 q6 HFR ⟨HO1,HV1,HF1⟩
  exact Zf
 ·rintro a w0 ca2 cc2 a6 q6 HFR ⟨HO,HV,HF⟩;have hHeld:w0.cell? ⟨pb,0,none⟩=some (Qv fa fs.length fc)∧w0.cell? ⟨pb,1,none⟩=some (Qv ta ss.length tc):=HKS.out _ (Qzw HO.out);refine Zc (rs:=[0,6]) (by kernel_rfl) (by simp) ?_;refine Zy (o:=_) rfl (fun K hK=>?_) ?_
  ·have E16:=HFR.out.off B16 rfl;obtain⟨b0,b1,b2,b3,b4,b5,b6,b7,b8,b9,bf',bz'⟩:=Qq5 (HO.out.blk (Zv ..));dsimp only at b0 b1 b2 b3 b4 b5 b6 b7 b8 b9 bf' bz'
   go_simp
   clear b0 b1 b2 b3 b4 b5 b6 b7 b8 b9 bf' bz';refine goF hK (HKS.out _ (Qzw HO.out)) HFR hz rfl rfl fun a hHeld HFR=>?_
   (try simp only[Zj,Zx,Zk])
   (try simp only[Qj9,Nat.reduceLT,↓reduceIte] at HFR)
   exact KW2T a w0 ca2 cc2 a6 q6 HFR ⟨HO,HV,HF⟩
  refine Zy (o:=_) rfl (fun K hK=>?_) ?_
  ·have E161:=HFR.out.get (k:=161) rfl;have E165:=HFR.out.get (k:=165) rfl
   go_simp
   refine(Jxp (s:=s2) (Qkn 2 (by omega)) HW.out HSS.out HP2.out HO.out HF.out 2 2 (by omega) (by omega) (by omega) (by omega)).mono ?_;rintro e w1 ⟨v,rfl,⟨z,hzv,hmk⟩,ht,hk⟩;have HO1:=hid (HO.out.step ht hk);have HV1:=hid (Qq8 (hk.weak fun k _ h=>.inl (by unfold At at h;unfold Old;omega)) HV.out);have HZ1:=hid (hzv.weak (M':=(MG (Old (Sx+1)) bx)) fun k _ h=>by have:=HO.out.blt (Zv ..);dsimp only at this;unfold MG Old at h;unfold Old;omega);have HG1:=hid hmk.1.2;clear hzv hmk ht hk;dsimp only;refine goF hK (HKS.out _ (Qzw HO1.out)) HFR hz rfl rfl fun a hHeld HFR=>?_
   (try simp only[Zj,Zx,Zk])
   (try simp only[Qj9,Nat.reduceLT,↓reduceIte] at HFR)
   exact KW3F a w1 ca2 cc2 a6 q6 v z HFR ⟨HO1,HV1,HZ1,HG1⟩
  exact Zf
 ·rintro a w0 ca2 cc2 a6 q6 HFR ⟨HO,HV,HF⟩;have hHeld:w0.cell? ⟨pb,0,none⟩=some (Qv fa fs.length fc)∧w0.cell? ⟨pb,1,none⟩=some (Qv ta ss.length tc):=HKS.out _ (Qzw HO.out);refine Zc (rs:=[6]) (by kernel_rfl) (by simp) ?_;refine Zy (o:=_) rfl (fun K hK=>?_) ?_
  ·have E161:=HFR.out.get (k:=161) rfl;have E165:=HFR.out.get (k:=165) rfl
   go_simp
   refine(Jxp (s:=s2) (Qkn 2 (by omega)) HW.out HSS.out HP2.out HO.out HF.out 2 2 (by omega) (by omega) (by omega) (by omega)).mono ?_;rintro e w1 ⟨v,rfl,⟨z,hzv,hmk⟩,ht,hk⟩;have HO1:=hid (HO.out.step ht hk);have HV1:=hid (Qq8 (hk.weak fun k _ h=>.inl (by unfold At at h;unfold Old;omega)) HV.out);have HZ1:=hid (hzv.weak (M':=(MG (Old (Sx+1)) bx)) fun k _ h=>by have:=HO.out.blt (Zv ..);dsimp only at this;unfold MG Old at h;unfold Old;omega);have HG1:=hid hmk.1.2;clear hzv hmk ht hk;dsimp only;refine goF hK (HKS.out _ (Qzw HO1.out)) HFR hz rfl rfl fun a hHeld HFR=>?_
   (try simp only[Zj,Zx,Zk])
   (try simp only[Qj9,Nat.reduceLT,↓reduceIte] at HFR)
   exact KW3T a w1 ca2 cc2 a6 q6 v z HFR ⟨HO1,HV1,HZ1,HG1⟩
  exact Zf
 ·rintro a w0 ca2 cc2 a6 q6 v z HFR ⟨HO,HV,HZ,HG⟩;have hHeld:w0.cell? ⟨pb,0,none⟩=some (Qv fa fs.length fc)∧w0.cell? ⟨pb,1,none⟩=some (Qv ta ss.length tc):=HKS.out _ (Qzw HO.out);refine Zc (rs:=[0]) (by kernel_rfl) (by simp) ?_;refine Zy (o:=_) rfl (fun K hK=>?_) ?_
  ·have E16:=HFR.out.off B16 rfl;obtain⟨b0,b1,b2,b3,b4,b5,b6,b7,b8,b9,bf',bz'⟩:=Qq5 (HO.out.blk (Zv ..));dsimp only at b0 b1 b2 b3 b4 b5 b6 b7 b8 b9 bf' bz'
   go_simp
   clear b0 b1 b2 b3 b4 b5 b6 b7 b8 b9 bf' bz';refine goF hK (HKS.out _ (Qzw HO.out)) HFR hz rfl rfl fun a hHeld HFR=>?_
   (try simp only[Zj,Zx,Zk])
   (try simp only[Qj9,Nat.reduceLT,↓reduceIte] at HFR)
   exact KW3T a w0 ca2 cc2 a6 q6 v z HFR ⟨HO,HV,HZ,HG⟩
  exact Zf
 ·rintro a w0 ca2 cc2 a6 q6 v z HFR ⟨HO,HV,HZ,HG⟩;have hHeld:w0.cell? ⟨pb,0,none⟩=some (Qv fa fs.length fc)∧w0.cell? ⟨pb,1,none⟩=some (Qv ta ss.length tc):=HKS.out _ (Qzw HO.out);refine Zc (rs:=[7]) (by kernel_rfl) (by simp) ?_;refine Zy (o:=_) rfl (fun K hK=>?_) ?_
  ·have E160:=HFR.out.get (k:=160) rfl;have E166:=HFR.out.get (k:=166) rfl
   go_simp
   refine(Uk8 (M:=(MG (Old (Sx+1)) bx)) (a:=y0) (b:=z) 2 ⟨ab,abc,sb,sbc,rfl,HV.out.1,HV.out.2⟩ HZ.out (fun k hk h=>by have:=HO.out.blt (Zv ..);dsimp only at this;unfold MG Old at h;omega)).mono ?_;rintro e w1 ⟨v9,rfl,hv,hb⟩;obtain⟨za,zac,zs,zsc,rfl,hza,hzs⟩:=hv;have HZ1:=hid (Ze hza hzs);have HO1:=hid (HO.out.bel hb);clear hza hzs hb;dsimp only;refine goF hK (HKS.out _ (Qzw HO1.out)) HFR hz rfl rfl fun a hHeld HFR=>?_;refine Zc (rs:=[8]) (by kernel_rfl) (by simp) ?_;refine Zy (o:=_) rfl (fun K hK=>?_) ?_
   ·have E16:=HFR.out.off B16 rfl;have E167:=HFR.out.get (k:=167) rfl;obtain⟨b0,b1,b2,b3,b4,b5,b6,b7,b8,b9,bf',bz'⟩:=Qq5 (HO1.out.blk (Zv ..));dsimp only at b0 b1 b2 b3 b4 b5 b6 b7 b8 b9 bf' bz';have F0:=bf' 0;have F1:=bf' 1;have F2:=bf' 2;have F3:=bf' 3;have F4:=bf' 4;have F5:=bf' 5;have F6:=bf' 6;have F7:=bf' 7;have F8:=bf' 8;have F9:=bf' 9;have hC:=HO1.out.puts 0 [.int .i64 (Qqc 2 y0 z).kind,.int .i64 (Qqc 2 y0 z).op,.bool (Qqc 2 y0 z).no,.int .i64 (Qqc 2 y0 z).val.kind,.int .i64 (Qqc 2 y0 z).val.int,.string (Qqc 2 y0 z).val.text,.string (Qqc 2 y0 z).table,.string (Qqc 2 y0 z).name,.slice za (Qqc 2 y0 z).args.length zac,.slice zs (Qqc 2 y0 z).sub.length zsc] hLb (c':=#[.int .i64 (Qqc 2 y0 z).kind,.int .i64 (Qqc 2 y0 z).op,.bool (Qqc 2 y0 z).no,.int .i64 (Qqc 2 y0 z).val.kind,.int .i64 (Qqc 2 y0 z).val.int,.string (Qqc 2 y0 z).val.text,.string (Qqc 2 y0 z).table,.string (Qqc 2 y0 z).name,.slice za (Qqc 2 y0 z).args.length zac,.slice zs (Qqc 2 y0 z).sub.length zsc]) rfl;have hk:=(Qqj [.int .i64 (Qqc 2 y0 z).kind,.int .i64 (Qqc 2 y0 z).op,.bool (Qqc 2 y0 z).no,.int .i64 (Qqc 2 y0 z).val.kind,.int .i64 (Qqc 2 y0 z).val.int,.string (Qqc 2 y0 z).val.text,.string (Qqc 2 y0 z).table,.string (Qqc 2 y0 z).name,.slice za (Qqc 2 y0 z).args.length zac,.slice zs (Qqc 2 y0 z).sub.length zsc] 0 w1 (C:=bx)).weak (M:=(MG (Old (Sx+1)) bx)) fun k _ h=>.inr h;dsimp only[World.setCells] at hC hk;have HC9:=hid hC;have HK9:=hid hk;clear hC hk bf'
    go_simp
    clear b0 b1 b2 b3 b4 b5 b6 b7 b8 b9 bz' F0 F1 F2 F3 F4 F5 F6 F7 F8 F9;refine hK.out _ _ (HKS.out _ (Qzw HC9.out)) (fun hHeld=>?_);clear hK K;refine Kz (by kernel_rfl) ?_ _;refine Jd ?_
    (try simp only[Qj9,Nat.reduceLT,↓reduceIte] at HFR)
    (try simp only[Act.put])
    rw[HFR.out.eqA (n:=187) rfl hz rfl];simp only[List.foldl_cons,List.foldl_nil];exact hQ _ _ _ _ _ _ _ _ _ z za zs zac zsc HG.out (Qvc (fun k _ h=>.inl h) (Qq8 HK9.out HZ1.out)) HC9.out
   exact Zf
  exact Zf
end Go.Proofs.YtgepbohjmgaojaaGreatDoor
