/- Which statements are well-formed in the reference. -/
import Derived.Test.YtgepbohjmgaojaaGreatDoorU23
set_option linter.all false
set_option maxHeartbeats 8000000
set_option maxRecDepth 100000
namespace Go.Proofs.YtgepbohjmgaojaaGreatDoor
open World renaming alloc→Qw
open Value renaming slice→Qv
open Go.Proofs.Tryz
open Lib(hid)
open Go.RowKit
theorem Qjb{w:World}{S:Nat}{v0 v1 v2 v3 v4 v5 v6 v7 v8 v9 v10 v11 v12 v13 v14 v15 v16 v17 v18 v19 v20 v21 v22 v23 v24 v25:Value}{e:TypeId}(h:w.heap[S]?=some (.cells #[v0,v1,v2,v3,v4,v5,v6,v7,v8,v9,v10,v11,v12,v13,v14,v15,v16,v17,v18,v19,v20,v21,v22,v23,v24,v25] e (0,0))):
 w.cell? ⟨S,0,none⟩=some v0∧w.cell? ⟨S,1,none⟩=some v1∧w.cell? ⟨S,2,none⟩=some v2∧w.cell? ⟨S,3,none⟩=some v3∧w.cell? ⟨S,4,none⟩=some v4∧w.cell? ⟨S,5,none⟩=some v5∧w.cell? ⟨S,6,none⟩=some v6∧w.cell? ⟨S,7,none⟩=some v7∧w.cell? ⟨S,8,none⟩=some v8∧w.cell? ⟨S,9,none⟩=some v9∧w.cell? ⟨S,10,none⟩=some v10∧w.cell? ⟨S,11,none⟩=some v11∧w.cell? ⟨S,12,none⟩=some v12∧w.cell? ⟨S,13,none⟩=some v13∧w.cell? ⟨S,14,none⟩=some v14∧w.cell? ⟨S,15,none⟩=some v15∧w.cell? ⟨S,16,none⟩=some v16∧w.cell? ⟨S,17,none⟩=some v17∧w.cell? ⟨S,18,none⟩=some v18∧w.cell? ⟨S,19,none⟩=some v19∧w.cell? ⟨S,20,none⟩=some v20∧w.cell? ⟨S,21,none⟩=some v21∧w.cell? ⟨S,22,none⟩=some v22∧w.cell? ⟨S,23,none⟩=some v23∧w.cell? ⟨S,24,none⟩=some v24∧w.cell? ⟨S,25,none⟩=some v25:=by
 have c:∀(i:Nat) (v:Value),(#[v0,v1,v2,v3,v4,v5,v6,v7,v8,v9,v10,v11,v12,v13,v14,v15,v16,v17,v18,v19,v20,v21,v22,v23,v24,v25]:Array Value)[i]?=some v→w.cell? ⟨S,i,none⟩=some v:=fun i v hv=>by simp[World.cell?,h,hv]
 exact⟨c 0 _ rfl,c 1 _ rfl,c 2 _ rfl,c 3 _ rfl,c 4 _ rfl,c 5 _ rfl,c 6 _ rfl,c 7 _ rfl,c 8 _ rfl,c 9 _ rfl,c 10 _ rfl,c 11 _ rfl,c 12 _ rfl,c 13 _ rfl,c 14 _ rfl,c 15 _ rfl,c 16 _ rfl,c 17 _ rfl,c 18 _ rfl,c 19 _ rfl,c 20 _ rfl,c 21 _ rfl,c 22 _ rfl,c 23 _ rfl,c 24 _ rfl,c 25 _ rfl⟩
def Qzi(k:Int)(sb nb0:Bool)(n0:Nat)(tB qB aB sV nB tV qV aV:Bool)(ak:Int):Bool:=
 if(!(k==1)&&(!sb||decide ((0:Int)<(n0:Int))))||(!(k==2)&&!(k==4)&&!nb0) then false
 else if(!(k==3)&&!tB)||(!(k==5)&&!qB)||(!(k==6)&&!aB) then false
 else if k==1 then sV
 else if k==2||k==4 then nB
 else if k==3 then tV
 else if k==5 then qV
 else if k==6 then aV&&decide (ak≤3)
 else false
theorem Uvx(sn nm tn tt qf ta tx:ByteArray)(bf each st:Bool)(ev ak:Int)(sa oa pa fa ra wa aa ia ja b1 b2 b3 b4:Option Addr)(n0 sc no oc np pc nf fc nr rc nw qcc na ac ni ic nj jc m1 d1 m2 d2 m3 d3 m4 d4:Nat)(w:World)(tB qB aB sV nB tV qV aV:Bool)
 (hT:∀wx,Below w.heap.size w wx→Calls prog 34 #[.agg #[tn,tt,bf,ev,Qv oa no oc,each,Qv pa np pc,Qv fa nf fc,Qv ra nr rc,Qv wa nw qcc,Qv aa na ac]] wx (Qqd tB wx))
 (hQ:∀wx,Below w.heap.size w wx→Calls prog 35 #[.agg #[st,Qv ia ni ic,qf,Qv ja nj jc]] wx (Qqd qB wx))
 (hA:∀wx,Below w.heap.size w wx→Calls prog 36 #[.agg #[ak,ta,Qv b1 m1 d1,Qv b2 m2 d2,Qv b3 m3 d3,Qv b4 m4 d4,tx]] wx (Qqd aB wx))
 (hS:∀wx,Below w.heap.size w wx→Calls prog 37 #[.agg #[sn,Qv sa n0 sc]] wx (Qqd sV wx)):
 Calls prog 15 #[.agg #["1",sn,Qv sa n0 sc,nm,tn,tt,bf,ev,Qv oa no oc,each,Qv pa np pc,Qv fa nf fc,Qv ra nr rc,Qv wa nw qcc,Qv aa na ac,st,Qv ia ni ic,qf,Qv ja nj jc,ak,ta,Qv b1 m1 d1,Qv b2 m2 d2,Qv b3 m3 d3,Qv b4 m4 d4,tx]] w (Qqd (.bool (Qzi 1 (sn.toList==([]:List UInt8)) (nm.toList==([]:List UInt8)) n0 tB qB aB sV nB tV qV aV ak)) w):=by
 have HT:=hid hT;have HQ:=hid hQ;have HA:=hid hA;have HS:=hid hS;clear hT hQ hA hS;go_enter func15,ntmps15;go_upto_region 1 with fail
 generalize hW0:Qw w _=W0;have hb0:W0.heap[w.heap.size]?=some (.cells #["1",sn,Qv sa n0 sc,nm,tn,tt,bf,ev,Qv oa no oc,each,Qv pa np pc,Qv fa nf fc,Qv ra nr rc,Qv wa nw qcc,Qv aa na ac,st,Qv ia ni ic,qf,Qv ja nj jc,ak,ta,Qv b1 m1 d1,Qv b2 m2 d2,Qv b3 m3 d3,Qv b4 m4 d4,tx] 44 (0,0)):=by rw[←hW0];exact Zw w _
 have HB0:=hid (show Below w.heap.size w W0 from by rw[←hW0];exact(Below.refl _ _).alloc (Zz _) _);have HC0:=hid hb0;clear hW0 hb0;obtain⟨x0,x1,x2,x3,x4,x5,x6,x7,x8,x9,x10,x11,x12,x13,x14,x15,x16,x17,x18,x19,x20,x21,x22,x23,x24,x25⟩:=Qjb HC0.out;cases hn:(nm.toList==([]:List UInt8))
 ·have gn:(nm.toList !=([]:List UInt8))=true:=by simp[bne,hn]
  go_wp2_with fail
  go_ret;exact⟨by(simp only[Qzi,hn]);rfl,HB0.out⟩
 ·have gn:(nm.toList !=([]:List UInt8))=false:=by simp[bne,hn]
  go_wp2_with fail
  clear x0 x1 x2 x3 x4 x5 x6 x7 x8 x9 x10 x11 x12 x13 x14 x15 x16 x17 x18 x19 x20 x21 x22 x23 x24 x25;refine(HT.out _ HB0.out).mono ?_;rintro e w1 ⟨rfl,hb⟩;have HB1:=hid (HB0.out.trans (hb.mono HB0.out.size));have HC1:=hid ((hb.block _ (Zq.1 HC0.out).1).trans HC0.out);clear hb;obtain⟨x0,x1,x2,x3,x4,x5,x6,x7,x8,x9,x10,x11,x12,x13,x14,x15,x16,x17,x18,x19,x20,x21,x22,x23,x24,x25⟩:=Qjb HC1.out;dsimp only;cases tB
  ·go_wp2_with fail
   go_ret;exact⟨by(simp only[Qzi,hn]);rfl,HB1.out⟩
  ·go_wp2_with fail
   clear x0 x1 x2 x3 x4 x5 x6 x7 x8 x9 x10 x11 x12 x13 x14 x15 x16 x17 x18 x19 x20 x21 x22 x23 x24 x25;refine(HQ.out _ HB1.out).mono ?_;rintro e w2 ⟨rfl,hb⟩;have HB2:=hid (HB1.out.trans (hb.mono HB1.out.size));have HC2:=hid ((hb.block _ (Zq.1 HC1.out).1).trans HC1.out);clear hb;obtain⟨x0,x1,x2,x3,x4,x5,x6,x7,x8,x9,x10,x11,x12,x13,x14,x15,x16,x17,x18,x19,x20,x21,x22,x23,x24,x25⟩:=Qjb HC2.out;dsimp only;cases qB
   ·go_wp2_with fail
    go_ret;exact⟨by(simp only[Qzi,hn]);rfl,HB2.out⟩
   ·go_wp2_with fail
    clear x0 x1 x2 x3 x4 x5 x6 x7 x8 x9 x10 x11 x12 x13 x14 x15 x16 x17 x18 x19 x20 x21 x22 x23 x24 x25;refine(HA.out _ HB2.out).mono ?_;rintro e w3 ⟨rfl,hb⟩;have HB3:=hid (HB2.out.trans (hb.mono HB2.out.size));have HC3:=hid ((hb.block _ (Zq.1 HC2.out).1).trans HC2.out);clear hb;obtain⟨x0,x1,x2,x3,x4,x5,x6,x7,x8,x9,x10,x11,x12,x13,x14,x15,x16,x17,x18,x19,x20,x21,x22,x23,x24,x25⟩:=Qjb HC3.out;dsimp only;cases aB
    ·go_wp2_with fail
     go_ret;exact⟨by(simp only[Qzi,hn]);rfl,HB3.out⟩
    ·go_wp2_with fail
     clear x0 x1 x2 x3 x4 x5 x6 x7 x8 x9 x10 x11 x12 x13 x14 x15 x16 x17 x18 x19 x20 x21 x22 x23 x24 x25;refine(HS.out _ HB3.out).mono ?_;rintro e w4 ⟨rfl,hb⟩;have HB4:=hid (HB3.out.trans (hb.mono HB3.out.size));have HC4:=hid ((hb.block _ (Zq.1 HC3.out).1).trans HC3.out);clear hb;obtain⟨x0,x1,x2,x3,x4,x5,x6,x7,x8,x9,x10,x11,x12,x13,x14,x15,x16,x17,x18,x19,x20,x21,x22,x23,x24,x25⟩:=Qjb HC4.out;dsimp only;go_wp2_with fail
     go_ret;exact⟨by(simp only[Qzi,hn]);rfl,HB4.out⟩
theorem Uvy(sn nm tn tt qf ta tx:ByteArray)(bf each st:Bool)(ev ak:Int)(sa oa pa fa ra wa aa ia ja b1 b2 b3 b4:Option Addr)(n0 sc no oc np pc nf fc nr rc nw qcc na ac ni ic nj jc m1 d1 m2 d2 m3 d3 m4 d4:Nat)(w:World)(tB qB aB sV nB tV qV aV:Bool)
 (hT:∀wx,Below w.heap.size w wx→Calls prog 34 #[.agg #[tn,tt,bf,ev,Qv oa no oc,each,Qv pa np pc,Qv fa nf fc,Qv ra nr rc,Qv wa nw qcc,Qv aa na ac]] wx (Qqd tB wx))
 (hQ:∀wx,Below w.heap.size w wx→Calls prog 35 #[.agg #[st,Qv ia ni ic,qf,Qv ja nj jc]] wx (Qqd qB wx))
 (hA:∀wx,Below w.heap.size w wx→Calls prog 36 #[.agg #[ak,ta,Qv b1 m1 d1,Qv b2 m2 d2,Qv b3 m3 d3,Qv b4 m4 d4,tx]] wx (Qqd aB wx))
 (hN:∀wx,Calls prog 38 #[nm] wx fun e w'=>e=.returned nB∧wx=w'):
 Calls prog 15 #[.agg #["2",sn,Qv sa n0 sc,nm,tn,tt,bf,ev,Qv oa no oc,each,Qv pa np pc,Qv fa nf fc,Qv ra nr rc,Qv wa nw qcc,Qv aa na ac,st,Qv ia ni ic,qf,Qv ja nj jc,ak,ta,Qv b1 m1 d1,Qv b2 m2 d2,Qv b3 m3 d3,Qv b4 m4 d4,tx]] w (Qqd (.bool (Qzi 2 (sn.toList==([]:List UInt8)) (nm.toList==([]:List UInt8)) n0 tB qB aB sV nB tV qV aV ak)) w):=by
 have HT:=hid hT;have HQ:=hid hQ;have HA:=hid hA;have HN:=hid hN;clear hT hQ hA hN;go_enter func15,ntmps15;go_upto_region 1 with fail
 generalize hW0:Qw w _=W0;have hb0:W0.heap[w.heap.size]?=some (.cells #["2",sn,Qv sa n0 sc,nm,tn,tt,bf,ev,Qv oa no oc,each,Qv pa np pc,Qv fa nf fc,Qv ra nr rc,Qv wa nw qcc,Qv aa na ac,st,Qv ia ni ic,qf,Qv ja nj jc,ak,ta,Qv b1 m1 d1,Qv b2 m2 d2,Qv b3 m3 d3,Qv b4 m4 d4,tx] 44 (0,0)):=by rw[←hW0];exact Zw w _
 have HB0:=hid (show Below w.heap.size w W0 from by rw[←hW0];exact(Below.refl _ _).alloc (Zz _) _);have HC0:=hid hb0;clear hW0 hb0;obtain⟨x0,x1,x2,x3,x4,x5,x6,x7,x8,x9,x10,x11,x12,x13,x14,x15,x16,x17,x18,x19,x20,x21,x22,x23,x24,x25⟩:=Qjb HC0.out;cases hs:(sn.toList==([]:List UInt8))
 ·have gs:(sn.toList !=([]:List UInt8))=true:=by simp[bne,hs]
  go_wp2_with fail
  go_ret;exact⟨by(simp only[Qzi,hs]);rfl,HB0.out⟩
 ·have gs:(sn.toList !=([]:List UInt8))=false:=by simp[bne,hs]
  by_cases q0:(0:Int)<(n0:Int)
  ·have q0n:0<n0:=by omega
   go_wp2_with fail
   go_ret;exact⟨by(simp only[Qzi,hs,Yv (by omega:(0:Int)<(n0:Int))]);rfl,HB0.out⟩
  ·have q0n:n0=0:=by omega
   subst q0n;go_wp2_with fail
   clear x0 x1 x2 x3 x4 x5 x6 x7 x8 x9 x10 x11 x12 x13 x14 x15 x16 x17 x18 x19 x20 x21 x22 x23 x24 x25;refine(HT.out _ HB0.out).mono ?_;rintro e w1 ⟨rfl,hb⟩;have HB1:=hid (HB0.out.trans (hb.mono HB0.out.size));have HC1:=hid ((hb.block _ (Zq.1 HC0.out).1).trans HC0.out);clear hb;obtain⟨x0,x1,x2,x3,x4,x5,x6,x7,x8,x9,x10,x11,x12,x13,x14,x15,x16,x17,x18,x19,x20,x21,x22,x23,x24,x25⟩:=Qjb HC1.out;dsimp only;cases tB
   ·go_wp2_with fail
    go_ret;exact⟨by(simp only[Qzi,hs]);rfl,HB1.out⟩
   ·go_wp2_with fail
    clear x0 x1 x2 x3 x4 x5 x6 x7 x8 x9 x10 x11 x12 x13 x14 x15 x16 x17 x18 x19 x20 x21 x22 x23 x24 x25;refine(HQ.out _ HB1.out).mono ?_;rintro e w2 ⟨rfl,hb⟩;have HB2:=hid (HB1.out.trans (hb.mono HB1.out.size));have HC2:=hid ((hb.block _ (Zq.1 HC1.out).1).trans HC1.out);clear hb;obtain⟨x0,x1,x2,x3,x4,x5,x6,x7,x8,x9,x10,x11,x12,x13,x14,x15,x16,x17,x18,x19,x20,x21,x22,x23,x24,x25⟩:=Qjb HC2.out;dsimp only;cases qB
    ·go_wp2_with fail
     go_ret;exact⟨by(simp only[Qzi,hs]);rfl,HB2.out⟩
    ·go_wp2_with fail
     clear x0 x1 x2 x3 x4 x5 x6 x7 x8 x9 x10 x11 x12 x13 x14 x15 x16 x17 x18 x19 x20 x21 x22 x23 x24 x25;refine(HA.out _ HB2.out).mono ?_;rintro e w3 ⟨rfl,hb⟩;have HB3:=hid (HB2.out.trans (hb.mono HB2.out.size));have HC3:=hid ((hb.block _ (Zq.1 HC2.out).1).trans HC2.out);clear hb;obtain⟨x0,x1,x2,x3,x4,x5,x6,x7,x8,x9,x10,x11,x12,x13,x14,x15,x16,x17,x18,x19,x20,x21,x22,x23,x24,x25⟩:=Qjb HC3.out;dsimp only;cases aB
     ·go_wp2_with fail
      go_ret;exact⟨by(simp only[Qzi,hs]);rfl,HB3.out⟩
     ·go_wp2_with fail
      refine(HN.out _).mono ?_;rintro e wy ⟨rfl,rfl⟩;dsimp only;go_wp2_with fail
      go_ret;exact⟨by(simp only[Qzi,hs]);rfl,HB3.out⟩
theorem Uvz(sn nm tn tt qf ta tx:ByteArray)(bf each st:Bool)(ev ak:Int)(sa oa pa fa ra wa aa ia ja b1 b2 b3 b4:Option Addr)(n0 sc no oc np pc nf fc nr rc nw qcc na ac ni ic nj jc m1 d1 m2 d2 m3 d3 m4 d4:Nat)(w:World)(tB qB aB sV nB tV qV aV:Bool)
 (hQ:∀wx,Below w.heap.size w wx→Calls prog 35 #[.agg #[st,Qv ia ni ic,qf,Qv ja nj jc]] wx (Qqd qB wx))
 (hA:∀wx,Below w.heap.size w wx→Calls prog 36 #[.agg #[ak,ta,Qv b1 m1 d1,Qv b2 m2 d2,Qv b3 m3 d3,Qv b4 m4 d4,tx]] wx (Qqd aB wx))
 (hV:∀wx,Below w.heap.size w wx→Calls prog 39 #[.agg #[tn,tt,bf,ev,Qv oa no oc,each,Qv pa np pc,Qv fa nf fc,Qv ra nr rc,Qv wa nw qcc,Qv aa na ac]] wx (Qqd tV wx)):
 Calls prog 15 #[.agg #["3",sn,Qv sa n0 sc,nm,tn,tt,bf,ev,Qv oa no oc,each,Qv pa np pc,Qv fa nf fc,Qv ra nr rc,Qv wa nw qcc,Qv aa na ac,st,Qv ia ni ic,qf,Qv ja nj jc,ak,ta,Qv b1 m1 d1,Qv b2 m2 d2,Qv b3 m3 d3,Qv b4 m4 d4,tx]] w (Qqd (.bool (Qzi 3 (sn.toList==([]:List UInt8)) (nm.toList==([]:List UInt8)) n0 tB qB aB sV nB tV qV aV ak)) w):=by
 have HQ:=hid hQ;have HA:=hid hA;have HV:=hid hV;clear hQ hA hV;go_enter func15,ntmps15;go_upto_region 1 with fail
 generalize hW0:Qw w _=W0;have hb0:W0.heap[w.heap.size]?=some (.cells #["3",sn,Qv sa n0 sc,nm,tn,tt,bf,ev,Qv oa no oc,each,Qv pa np pc,Qv fa nf fc,Qv ra nr rc,Qv wa nw qcc,Qv aa na ac,st,Qv ia ni ic,qf,Qv ja nj jc,ak,ta,Qv b1 m1 d1,Qv b2 m2 d2,Qv b3 m3 d3,Qv b4 m4 d4,tx] 44 (0,0)):=by rw[←hW0];exact Zw w _
 have HB0:=hid (show Below w.heap.size w W0 from by rw[←hW0];exact(Below.refl _ _).alloc (Zz _) _);have HC0:=hid hb0;clear hW0 hb0;obtain⟨x0,x1,x2,x3,x4,x5,x6,x7,x8,x9,x10,x11,x12,x13,x14,x15,x16,x17,x18,x19,x20,x21,x22,x23,x24,x25⟩:=Qjb HC0.out;cases hs:(sn.toList==([]:List UInt8))
 ·have gs:(sn.toList !=([]:List UInt8))=true:=by simp[bne,hs]
  go_wp2_with fail
  go_ret;exact⟨by(simp only[Qzi,hs]);rfl,HB0.out⟩
 ·have gs:(sn.toList !=([]:List UInt8))=false:=by simp[bne,hs]
  by_cases q0:(0:Int)<(n0:Int)
  ·have q0n:0<n0:=by omega
   go_wp2_with fail
   go_ret;exact⟨by(simp only[Qzi,hs,Yv (by omega:(0:Int)<(n0:Int))]);rfl,HB0.out⟩
  ·have q0n:n0=0:=by omega
   subst q0n;cases hn:(nm.toList==([]:List UInt8))
   ·have gn:(nm.toList !=([]:List UInt8))=true:=by simp[bne,hn]
    go_wp2_with fail
    go_ret;exact⟨by(simp only[Qzi,hs,hn]);rfl,HB0.out⟩
   ·have gn:(nm.toList !=([]:List UInt8))=false:=by simp[bne,hn]
    go_wp2_with fail
    clear x0 x1 x2 x3 x4 x5 x6 x7 x8 x9 x10 x11 x12 x13 x14 x15 x16 x17 x18 x19 x20 x21 x22 x23 x24 x25;refine(HQ.out _ HB0.out).mono ?_;rintro e w1 ⟨rfl,hb⟩;have HB1:=hid (HB0.out.trans (hb.mono HB0.out.size));have HC1:=hid ((hb.block _ (Zq.1 HC0.out).1).trans HC0.out);clear hb;obtain⟨x0,x1,x2,x3,x4,x5,x6,x7,x8,x9,x10,x11,x12,x13,x14,x15,x16,x17,x18,x19,x20,x21,x22,x23,x24,x25⟩:=Qjb HC1.out;dsimp only;cases qB
    ·go_wp2_with fail
     go_ret;exact⟨by(simp only[Qzi,hs,hn]);rfl,HB1.out⟩
    ·go_wp2_with fail
     clear x0 x1 x2 x3 x4 x5 x6 x7 x8 x9 x10 x11 x12 x13 x14 x15 x16 x17 x18 x19 x20 x21 x22 x23 x24 x25;refine(HA.out _ HB1.out).mono ?_;rintro e w2 ⟨rfl,hb⟩;have HB2:=hid (HB1.out.trans (hb.mono HB1.out.size));have HC2:=hid ((hb.block _ (Zq.1 HC1.out).1).trans HC1.out);clear hb;obtain⟨x0,x1,x2,x3,x4,x5,x6,x7,x8,x9,x10,x11,x12,x13,x14,x15,x16,x17,x18,x19,x20,x21,x22,x23,x24,x25⟩:=Qjb HC2.out;dsimp only;cases aB
     ·go_wp2_with fail
      go_ret;exact⟨by(simp only[Qzi,hs,hn]);rfl,HB2.out⟩
     ·go_wp2_with fail
      clear x0 x1 x2 x3 x4 x5 x6 x7 x8 x9 x10 x11 x12 x13 x14 x15 x16 x17 x18 x19 x20 x21 x22 x23 x24 x25;refine(HV.out _ HB2.out).mono ?_;rintro e w3 ⟨rfl,hb⟩;have HB3:=hid (HB2.out.trans (hb.mono HB2.out.size));have HC3:=hid ((hb.block _ (Zq.1 HC2.out).1).trans HC2.out);clear hb;obtain⟨x0,x1,x2,x3,x4,x5,x6,x7,x8,x9,x10,x11,x12,x13,x14,x15,x16,x17,x18,x19,x20,x21,x22,x23,x24,x25⟩:=Qjb HC3.out;dsimp only;go_wp2_with fail
      go_ret;exact⟨by(simp only[Qzi,hs,hn]);rfl,HB3.out⟩
theorem Uv0(sn nm tn tt qf ta tx:ByteArray)(bf each st:Bool)(ev ak:Int)(sa oa pa fa ra wa aa ia ja b1 b2 b3 b4:Option Addr)(n0 sc no oc np pc nf fc nr rc nw qcc na ac ni ic nj jc m1 d1 m2 d2 m3 d3 m4 d4:Nat)(w:World)(tB qB aB sV nB tV qV aV:Bool)
 (hT:∀wx,Below w.heap.size w wx→Calls prog 34 #[.agg #[tn,tt,bf,ev,Qv oa no oc,each,Qv pa np pc,Qv fa nf fc,Qv ra nr rc,Qv wa nw qcc,Qv aa na ac]] wx (Qqd tB wx))
 (hQ:∀wx,Below w.heap.size w wx→Calls prog 35 #[.agg #[st,Qv ia ni ic,qf,Qv ja nj jc]] wx (Qqd qB wx))
 (hA:∀wx,Below w.heap.size w wx→Calls prog 36 #[.agg #[ak,ta,Qv b1 m1 d1,Qv b2 m2 d2,Qv b3 m3 d3,Qv b4 m4 d4,tx]] wx (Qqd aB wx))
 (hN:∀wx,Calls prog 38 #[nm] wx fun e w'=>e=.returned nB∧wx=w'):
 Calls prog 15 #[.agg #["4",sn,Qv sa n0 sc,nm,tn,tt,bf,ev,Qv oa no oc,each,Qv pa np pc,Qv fa nf fc,Qv ra nr rc,Qv wa nw qcc,Qv aa na ac,st,Qv ia ni ic,qf,Qv ja nj jc,ak,ta,Qv b1 m1 d1,Qv b2 m2 d2,Qv b3 m3 d3,Qv b4 m4 d4,tx]] w (Qqd (.bool (Qzi 4 (sn.toList==([]:List UInt8)) (nm.toList==([]:List UInt8)) n0 tB qB aB sV nB tV qV aV ak)) w):=by
 have HT:=hid hT;have HQ:=hid hQ;have HA:=hid hA;have HN:=hid hN;clear hT hQ hA hN;go_enter func15,ntmps15;go_upto_region 1 with fail
 generalize hW0:Qw w _=W0;have hb0:W0.heap[w.heap.size]?=some (.cells #["4",sn,Qv sa n0 sc,nm,tn,tt,bf,ev,Qv oa no oc,each,Qv pa np pc,Qv fa nf fc,Qv ra nr rc,Qv wa nw qcc,Qv aa na ac,st,Qv ia ni ic,qf,Qv ja nj jc,ak,ta,Qv b1 m1 d1,Qv b2 m2 d2,Qv b3 m3 d3,Qv b4 m4 d4,tx] 44 (0,0)):=by rw[←hW0];exact Zw w _
 have HB0:=hid (show Below w.heap.size w W0 from by rw[←hW0];exact(Below.refl _ _).alloc (Zz _) _);have HC0:=hid hb0;clear hW0 hb0;obtain⟨x0,x1,x2,x3,x4,x5,x6,x7,x8,x9,x10,x11,x12,x13,x14,x15,x16,x17,x18,x19,x20,x21,x22,x23,x24,x25⟩:=Qjb HC0.out;cases hs:(sn.toList==([]:List UInt8))
 ·have gs:(sn.toList !=([]:List UInt8))=true:=by simp[bne,hs]
  go_wp2_with fail
  go_ret;exact⟨by(simp only[Qzi,hs]);rfl,HB0.out⟩
 ·have gs:(sn.toList !=([]:List UInt8))=false:=by simp[bne,hs]
  by_cases q0:(0:Int)<(n0:Int)
  ·have q0n:0<n0:=by omega
   go_wp2_with fail
   go_ret;exact⟨by(simp only[Qzi,hs,Yv (by omega:(0:Int)<(n0:Int))]);rfl,HB0.out⟩
  ·have q0n:n0=0:=by omega
   subst q0n;go_wp2_with fail
   clear x0 x1 x2 x3 x4 x5 x6 x7 x8 x9 x10 x11 x12 x13 x14 x15 x16 x17 x18 x19 x20 x21 x22 x23 x24 x25;refine(HT.out _ HB0.out).mono ?_;rintro e w1 ⟨rfl,hb⟩;have HB1:=hid (HB0.out.trans (hb.mono HB0.out.size));have HC1:=hid ((hb.block _ (Zq.1 HC0.out).1).trans HC0.out);clear hb;obtain⟨x0,x1,x2,x3,x4,x5,x6,x7,x8,x9,x10,x11,x12,x13,x14,x15,x16,x17,x18,x19,x20,x21,x22,x23,x24,x25⟩:=Qjb HC1.out;dsimp only;cases tB
   ·go_wp2_with fail
    go_ret;exact⟨by(simp only[Qzi,hs]);rfl,HB1.out⟩
   ·go_wp2_with fail
    clear x0 x1 x2 x3 x4 x5 x6 x7 x8 x9 x10 x11 x12 x13 x14 x15 x16 x17 x18 x19 x20 x21 x22 x23 x24 x25;refine(HQ.out _ HB1.out).mono ?_;rintro e w2 ⟨rfl,hb⟩;have HB2:=hid (HB1.out.trans (hb.mono HB1.out.size));have HC2:=hid ((hb.block _ (Zq.1 HC1.out).1).trans HC1.out);clear hb;obtain⟨x0,x1,x2,x3,x4,x5,x6,x7,x8,x9,x10,x11,x12,x13,x14,x15,x16,x17,x18,x19,x20,x21,x22,x23,x24,x25⟩:=Qjb HC2.out;dsimp only;cases qB
    ·go_wp2_with fail
     go_ret;exact⟨by(simp only[Qzi,hs]);rfl,HB2.out⟩
    ·go_wp2_with fail
     clear x0 x1 x2 x3 x4 x5 x6 x7 x8 x9 x10 x11 x12 x13 x14 x15 x16 x17 x18 x19 x20 x21 x22 x23 x24 x25;refine(HA.out _ HB2.out).mono ?_;rintro e w3 ⟨rfl,hb⟩;have HB3:=hid (HB2.out.trans (hb.mono HB2.out.size));have HC3:=hid ((hb.block _ (Zq.1 HC2.out).1).trans HC2.out);clear hb;obtain⟨x0,x1,x2,x3,x4,x5,x6,x7,x8,x9,x10,x11,x12,x13,x14,x15,x16,x17,x18,x19,x20,x21,x22,x23,x24,x25⟩:=Qjb HC3.out;dsimp only;cases aB
     ·go_wp2_with fail
      go_ret;exact⟨by(simp only[Qzi,hs]);rfl,HB3.out⟩
     ·go_wp2_with fail
      refine(HN.out _).mono ?_;rintro e wy ⟨rfl,rfl⟩;dsimp only;go_wp2_with fail
      go_ret;exact⟨by(simp only[Qzi,hs]);rfl,HB3.out⟩
theorem Uv1(sn nm tn tt qf ta tx:ByteArray)(bf each st:Bool)(ev ak:Int)(sa oa pa fa ra wa aa ia ja b1 b2 b3 b4:Option Addr)(n0 sc no oc np pc nf fc nr rc nw qcc na ac ni ic nj jc m1 d1 m2 d2 m3 d3 m4 d4:Nat)(w:World)(tB qB aB sV nB tV qV aV:Bool)
 (hT:∀wx,Below w.heap.size w wx→Calls prog 34 #[.agg #[tn,tt,bf,ev,Qv oa no oc,each,Qv pa np pc,Qv fa nf fc,Qv ra nr rc,Qv wa nw qcc,Qv aa na ac]] wx (Qqd tB wx))
 (hA:∀wx,Below w.heap.size w wx→Calls prog 36 #[.agg #[ak,ta,Qv b1 m1 d1,Qv b2 m2 d2,Qv b3 m3 d3,Qv b4 m4 d4,tx]] wx (Qqd aB wx))
 (hW:∀wx,Below w.heap.size w wx→Calls prog 40 #[.agg #[st,Qv ia ni ic,qf,Qv ja nj jc]] wx (Qqd qV wx)):
 Calls prog 15 #[.agg #["5",sn,Qv sa n0 sc,nm,tn,tt,bf,ev,Qv oa no oc,each,Qv pa np pc,Qv fa nf fc,Qv ra nr rc,Qv wa nw qcc,Qv aa na ac,st,Qv ia ni ic,qf,Qv ja nj jc,ak,ta,Qv b1 m1 d1,Qv b2 m2 d2,Qv b3 m3 d3,Qv b4 m4 d4,tx]] w (Qqd (.bool (Qzi 5 (sn.toList==([]:List UInt8)) (nm.toList==([]:List UInt8)) n0 tB qB aB sV nB tV qV aV ak)) w):=by
 have HT:=hid hT;have HA:=hid hA;have HW:=hid hW;clear hT hA hW;go_enter func15,ntmps15;go_upto_region 1 with fail
 generalize hW0:Qw w _=W0;have hb0:W0.heap[w.heap.size]?=some (.cells #["5",sn,Qv sa n0 sc,nm,tn,tt,bf,ev,Qv oa no oc,each,Qv pa np pc,Qv fa nf fc,Qv ra nr rc,Qv wa nw qcc,Qv aa na ac,st,Qv ia ni ic,qf,Qv ja nj jc,ak,ta,Qv b1 m1 d1,Qv b2 m2 d2,Qv b3 m3 d3,Qv b4 m4 d4,tx] 44 (0,0)):=by rw[←hW0];exact Zw w _
 have HB0:=hid (show Below w.heap.size w W0 from by rw[←hW0];exact(Below.refl _ _).alloc (Zz _) _);have HC0:=hid hb0;clear hW0 hb0;obtain⟨x0,x1,x2,x3,x4,x5,x6,x7,x8,x9,x10,x11,x12,x13,x14,x15,x16,x17,x18,x19,x20,x21,x22,x23,x24,x25⟩:=Qjb HC0.out;cases hs:(sn.toList==([]:List UInt8))
 ·have gs:(sn.toList !=([]:List UInt8))=true:=by simp[bne,hs]
  go_wp2_with fail
  go_ret;exact⟨by(simp only[Qzi,hs]);rfl,HB0.out⟩
 ·have gs:(sn.toList !=([]:List UInt8))=false:=by simp[bne,hs]
  by_cases q0:(0:Int)<(n0:Int)
  ·have q0n:0<n0:=by omega
   go_wp2_with fail
   go_ret;exact⟨by(simp only[Qzi,hs,Yv (by omega:(0:Int)<(n0:Int))]);rfl,HB0.out⟩
  ·have q0n:n0=0:=by omega
   subst q0n;cases hn:(nm.toList==([]:List UInt8))
   ·have gn:(nm.toList !=([]:List UInt8))=true:=by simp[bne,hn]
    go_wp2_with fail
    go_ret;exact⟨by(simp only[Qzi,hs,hn]);rfl,HB0.out⟩
   ·have gn:(nm.toList !=([]:List UInt8))=false:=by simp[bne,hn]
    go_wp2_with fail
    clear x0 x1 x2 x3 x4 x5 x6 x7 x8 x9 x10 x11 x12 x13 x14 x15 x16 x17 x18 x19 x20 x21 x22 x23 x24 x25;refine(HT.out _ HB0.out).mono ?_;rintro e w1 ⟨rfl,hb⟩;have HB1:=hid (HB0.out.trans (hb.mono HB0.out.size));have HC1:=hid ((hb.block _ (Zq.1 HC0.out).1).trans HC0.out);clear hb;obtain⟨x0,x1,x2,x3,x4,x5,x6,x7,x8,x9,x10,x11,x12,x13,x14,x15,x16,x17,x18,x19,x20,x21,x22,x23,x24,x25⟩:=Qjb HC1.out;dsimp only;cases tB
    ·go_wp2_with fail
     go_ret;exact⟨by(simp only[Qzi,hs,hn]);rfl,HB1.out⟩
    ·go_wp2_with fail
     clear x0 x1 x2 x3 x4 x5 x6 x7 x8 x9 x10 x11 x12 x13 x14 x15 x16 x17 x18 x19 x20 x21 x22 x23 x24 x25;refine(HA.out _ HB1.out).mono ?_;rintro e w2 ⟨rfl,hb⟩;have HB2:=hid (HB1.out.trans (hb.mono HB1.out.size));have HC2:=hid ((hb.block _ (Zq.1 HC1.out).1).trans HC1.out);clear hb;obtain⟨x0,x1,x2,x3,x4,x5,x6,x7,x8,x9,x10,x11,x12,x13,x14,x15,x16,x17,x18,x19,x20,x21,x22,x23,x24,x25⟩:=Qjb HC2.out;dsimp only;cases aB
     ·go_wp2_with fail
      go_ret;exact⟨by(simp only[Qzi,hs,hn]);rfl,HB2.out⟩
     ·go_wp2_with fail
      clear x0 x1 x2 x3 x4 x5 x6 x7 x8 x9 x10 x11 x12 x13 x14 x15 x16 x17 x18 x19 x20 x21 x22 x23 x24 x25;refine(HW.out _ HB2.out).mono ?_;rintro e w3 ⟨rfl,hb⟩;have HB3:=hid (HB2.out.trans (hb.mono HB2.out.size));have HC3:=hid ((hb.block _ (Zq.1 HC2.out).1).trans HC2.out);clear hb;obtain⟨x0,x1,x2,x3,x4,x5,x6,x7,x8,x9,x10,x11,x12,x13,x14,x15,x16,x17,x18,x19,x20,x21,x22,x23,x24,x25⟩:=Qjb HC3.out;dsimp only;go_wp2_with fail
      go_ret;exact⟨by(simp only[Qzi,hs,hn]);rfl,HB3.out⟩
theorem Uv2(sn nm tn tt qf ta tx:ByteArray)(bf each st:Bool)(ev ak:Int)(sa oa pa fa ra wa aa ia ja b1 b2 b3 b4:Option Addr)(n0 sc no oc np pc nf fc nr rc nw qcc na ac ni ic nj jc m1 d1 m2 d2 m3 d3 m4 d4:Nat)(w:World)(tB qB aB sV nB tV qV aV:Bool)
 (hT:∀wx,Below w.heap.size w wx→Calls prog 34 #[.agg #[tn,tt,bf,ev,Qv oa no oc,each,Qv pa np pc,Qv fa nf fc,Qv ra nr rc,Qv wa nw qcc,Qv aa na ac]] wx (Qqd tB wx))
 (hQ:∀wx,Below w.heap.size w wx→Calls prog 35 #[.agg #[st,Qv ia ni ic,qf,Qv ja nj jc]] wx (Qqd qB wx))
 (hX:∀wx,Below w.heap.size w wx→Calls prog 41 #[.agg #[ak,ta,Qv b1 m1 d1,Qv b2 m2 d2,Qv b3 m3 d3,Qv b4 m4 d4,tx]] wx (Qqd aV wx)):
 Calls prog 15 #[.agg #["6",sn,Qv sa n0 sc,nm,tn,tt,bf,ev,Qv oa no oc,each,Qv pa np pc,Qv fa nf fc,Qv ra nr rc,Qv wa nw qcc,Qv aa na ac,st,Qv ia ni ic,qf,Qv ja nj jc,ak,ta,Qv b1 m1 d1,Qv b2 m2 d2,Qv b3 m3 d3,Qv b4 m4 d4,tx]] w (Qqd (.bool (Qzi 6 (sn.toList==([]:List UInt8)) (nm.toList==([]:List UInt8)) n0 tB qB aB sV nB tV qV aV ak)) w):=by
 have HT:=hid hT;have HQ:=hid hQ;have HX:=hid hX;clear hT hQ hX;go_enter func15,ntmps15;go_upto_region 1 with fail
 generalize hW0:Qw w _=W0;have hb0:W0.heap[w.heap.size]?=some (.cells #["6",sn,Qv sa n0 sc,nm,tn,tt,bf,ev,Qv oa no oc,each,Qv pa np pc,Qv fa nf fc,Qv ra nr rc,Qv wa nw qcc,Qv aa na ac,st,Qv ia ni ic,qf,Qv ja nj jc,ak,ta,Qv b1 m1 d1,Qv b2 m2 d2,Qv b3 m3 d3,Qv b4 m4 d4,tx] 44 (0,0)):=by rw[←hW0];exact Zw w _
 have HB0:=hid (show Below w.heap.size w W0 from by rw[←hW0];exact(Below.refl _ _).alloc (Zz _) _);have HC0:=hid hb0;clear hW0 hb0;obtain⟨x0,x1,x2,x3,x4,x5,x6,x7,x8,x9,x10,x11,x12,x13,x14,x15,x16,x17,x18,x19,x20,x21,x22,x23,x24,x25⟩:=Qjb HC0.out;cases hs:(sn.toList==([]:List UInt8))
 ·have gs:(sn.toList !=([]:List UInt8))=true:=by simp[bne,hs]
  go_wp2_with fail
  go_ret;exact⟨by(simp only[Qzi,hs]);rfl,HB0.out⟩
 ·have gs:(sn.toList !=([]:List UInt8))=false:=by simp[bne,hs]
  by_cases q0:(0:Int)<(n0:Int)
  ·have q0n:0<n0:=by omega
   go_wp2_with fail
   go_ret;exact⟨by(simp only[Qzi,hs,Yv (by omega:(0:Int)<(n0:Int))]);rfl,HB0.out⟩
  ·have q0n:n0=0:=by omega
   subst q0n;cases hn:(nm.toList==([]:List UInt8))
   ·have gn:(nm.toList !=([]:List UInt8))=true:=by simp[bne,hn]
    go_wp2_with fail
    go_ret;exact⟨by(simp only[Qzi,hs,hn]);rfl,HB0.out⟩
   ·have gn:(nm.toList !=([]:List UInt8))=false:=by simp[bne,hn]
    go_wp2_with fail
    clear x0 x1 x2 x3 x4 x5 x6 x7 x8 x9 x10 x11 x12 x13 x14 x15 x16 x17 x18 x19 x20 x21 x22 x23 x24 x25;refine(HT.out _ HB0.out).mono ?_;rintro e w1 ⟨rfl,hb⟩;have HB1:=hid (HB0.out.trans (hb.mono HB0.out.size));have HC1:=hid ((hb.block _ (Zq.1 HC0.out).1).trans HC0.out);clear hb;obtain⟨x0,x1,x2,x3,x4,x5,x6,x7,x8,x9,x10,x11,x12,x13,x14,x15,x16,x17,x18,x19,x20,x21,x22,x23,x24,x25⟩:=Qjb HC1.out;dsimp only;cases tB
    ·go_wp2_with fail
     go_ret;exact⟨by(simp only[Qzi,hs,hn]);rfl,HB1.out⟩
    ·go_wp2_with fail
     clear x0 x1 x2 x3 x4 x5 x6 x7 x8 x9 x10 x11 x12 x13 x14 x15 x16 x17 x18 x19 x20 x21 x22 x23 x24 x25;refine(HQ.out _ HB1.out).mono ?_;rintro e w2 ⟨rfl,hb⟩;have HB2:=hid (HB1.out.trans (hb.mono HB1.out.size));have HC2:=hid ((hb.block _ (Zq.1 HC1.out).1).trans HC1.out);clear hb;obtain⟨x0,x1,x2,x3,x4,x5,x6,x7,x8,x9,x10,x11,x12,x13,x14,x15,x16,x17,x18,x19,x20,x21,x22,x23,x24,x25⟩:=Qjb HC2.out;dsimp only;cases qB
     ·go_wp2_with fail
      go_ret;exact⟨by(simp only[Qzi,hs,hn]);rfl,HB2.out⟩
     ·go_wp2_with fail
      clear x0 x1 x2 x3 x4 x5 x6 x7 x8 x9 x10 x11 x12 x13 x14 x15 x16 x17 x18 x19 x20 x21 x22 x23 x24 x25;refine(HX.out _ HB2.out).mono ?_;rintro e w3 ⟨rfl,hb⟩;have HB3:=hid (HB2.out.trans (hb.mono HB2.out.size));have HC3:=hid ((hb.block _ (Zq.1 HC2.out).1).trans HC2.out);clear hb;obtain⟨x0,x1,x2,x3,x4,x5,x6,x7,x8,x9,x10,x11,x12,x13,x14,x15,x16,x17,x18,x19,x20,x21,x22,x23,x24,x25⟩:=Qjb HC3.out;dsimp only;cases aV
      ·go_wp2_with fail
       go_ret;exact⟨by(simp only[Qzi,hs,hn]);rfl,HB3.out⟩
      ·by_cases qk:ak≤3
       ·go_wp2_with fail
        go_ret;exact⟨by(simp only[Qzi,hs,hn,Yv (by omega:ak≤3)]);rfl,HB3.out⟩
       ·go_wp2_with fail
        go_ret;exact⟨by(simp only[Qzi,hs,hn,Yb (by omega:¬ak≤3)]);rfl,HB3.out⟩
theorem Uv3(k:Int)(sn nm tn tt qf ta tx:ByteArray)(bf each st:Bool)(ev ak:Int)(sa oa pa fa ra wa aa ia ja b1 b2 b3 b4:Option Addr)(n0 sc no oc np pc nf fc nr rc nw qcc na ac ni ic nj jc m1 d1 m2 d2 m3 d3 m4 d4:Nat)(w:World)(tB qB aB sV nB tV qV aV:Bool)
 (hT:∀wx,Below w.heap.size w wx→Calls prog 34 #[.agg #[tn,tt,bf,ev,Qv oa no oc,each,Qv pa np pc,Qv fa nf fc,Qv ra nr rc,Qv wa nw qcc,Qv aa na ac]] wx (Qqd tB wx))
 (hQ:∀wx,Below w.heap.size w wx→Calls prog 35 #[.agg #[st,Qv ia ni ic,qf,Qv ja nj jc]] wx (Qqd qB wx))
 (hA:∀wx,Below w.heap.size w wx→Calls prog 36 #[.agg #[ak,ta,Qv b1 m1 d1,Qv b2 m2 d2,Qv b3 m3 d3,Qv b4 m4 d4,tx]] wx (Qqd aB wx))
 (e1:(k==1)=false)(f1:(k !=1)=true)(e2:(k==2)=false)(f2:(k !=2)=true)(e3:(k==3)=false)(f3:(k !=3)=true)(e4:(k==4)=false)(f4:(k !=4)=true)(e5:(k==5)=false)(f5:(k !=5)=true)(e6:(k==6)=false)(f6:(k !=6)=true):
 Calls prog 15 #[.agg #[k,sn,Qv sa n0 sc,nm,tn,tt,bf,ev,Qv oa no oc,each,Qv pa np pc,Qv fa nf fc,Qv ra nr rc,Qv wa nw qcc,Qv aa na ac,st,Qv ia ni ic,qf,Qv ja nj jc,ak,ta,Qv b1 m1 d1,Qv b2 m2 d2,Qv b3 m3 d3,Qv b4 m4 d4,tx]] w (Qqd (.bool (Qzi k (sn.toList==([]:List UInt8)) (nm.toList==([]:List UInt8)) n0 tB qB aB sV nB tV qV aV ak)) w):=by
 have HT:=hid hT;have HQ:=hid hQ;have HA:=hid hA;clear hT hQ hA;go_enter func15,ntmps15;go_upto_region 1 with fail
 generalize hW0:Qw w _=W0;have hb0:W0.heap[w.heap.size]?=some (.cells #[k,sn,Qv sa n0 sc,nm,tn,tt,bf,ev,Qv oa no oc,each,Qv pa np pc,Qv fa nf fc,Qv ra nr rc,Qv wa nw qcc,Qv aa na ac,st,Qv ia ni ic,qf,Qv ja nj jc,ak,ta,Qv b1 m1 d1,Qv b2 m2 d2,Qv b3 m3 d3,Qv b4 m4 d4,tx] 44 (0,0)):=by rw[←hW0];exact Zw w _
 have HB0:=hid (show Below w.heap.size w W0 from by rw[←hW0];exact(Below.refl _ _).alloc (Zz _) _);have HC0:=hid hb0;clear hW0 hb0;obtain⟨x0,x1,x2,x3,x4,x5,x6,x7,x8,x9,x10,x11,x12,x13,x14,x15,x16,x17,x18,x19,x20,x21,x22,x23,x24,x25⟩:=Qjb HC0.out;cases hs:(sn.toList==([]:List UInt8))
 ·have gs:(sn.toList !=([]:List UInt8))=true:=by simp[bne,hs]
  go_wp2_with fail
  go_ret;exact⟨by(simp only[Qzi,e1,e2,e3,e4,e5,e6,hs]);rfl,HB0.out⟩
 ·have gs:(sn.toList !=([]:List UInt8))=false:=by simp[bne,hs]
  by_cases q0:(0:Int)<(n0:Int)
  ·have q0n:0<n0:=by omega
   go_wp2_with fail
   go_ret;exact⟨by(simp only[Qzi,e1,e2,e3,e4,e5,e6,hs,Yv (by omega:(0:Int)<(n0:Int))]);rfl,HB0.out⟩
  ·have q0n:n0=0:=by omega
   subst q0n;cases hn:(nm.toList==([]:List UInt8))
   ·have gn:(nm.toList !=([]:List UInt8))=true:=by simp[bne,hn]
    go_wp2_with fail
    go_ret;exact⟨by(simp only[Qzi,e1,e2,e3,e4,e5,e6,hs,hn]);rfl,HB0.out⟩
   ·have gn:(nm.toList !=([]:List UInt8))=false:=by simp[bne,hn]
    go_wp2_with fail
    clear x0 x1 x2 x3 x4 x5 x6 x7 x8 x9 x10 x11 x12 x13 x14 x15 x16 x17 x18 x19 x20 x21 x22 x23 x24 x25;refine(HT.out _ HB0.out).mono ?_;rintro e w1 ⟨rfl,hb⟩;have HB1:=hid (HB0.out.trans (hb.mono HB0.out.size));have HC1:=hid ((hb.block _ (Zq.1 HC0.out).1).trans HC0.out);clear hb;obtain⟨x0,x1,x2,x3,x4,x5,x6,x7,x8,x9,x10,x11,x12,x13,x14,x15,x16,x17,x18,x19,x20,x21,x22,x23,x24,x25⟩:=Qjb HC1.out;dsimp only;cases tB
    ·go_wp2_with fail
     go_ret;exact⟨by(simp only[Qzi,e1,e2,e3,e4,e5,e6,hs,hn]);rfl,HB1.out⟩
    ·go_wp2_with fail
     clear x0 x1 x2 x3 x4 x5 x6 x7 x8 x9 x10 x11 x12 x13 x14 x15 x16 x17 x18 x19 x20 x21 x22 x23 x24 x25;refine(HQ.out _ HB1.out).mono ?_;rintro e w2 ⟨rfl,hb⟩;have HB2:=hid (HB1.out.trans (hb.mono HB1.out.size));have HC2:=hid ((hb.block _ (Zq.1 HC1.out).1).trans HC1.out);clear hb;obtain⟨x0,x1,x2,x3,x4,x5,x6,x7,x8,x9,x10,x11,x12,x13,x14,x15,x16,x17,x18,x19,x20,x21,x22,x23,x24,x25⟩:=Qjb HC2.out;dsimp only;cases qB
     ·go_wp2_with fail
      go_ret;exact⟨by(simp only[Qzi,e1,e2,e3,e4,e5,e6,hs,hn]);rfl,HB2.out⟩
     ·go_wp2_with fail
      clear x0 x1 x2 x3 x4 x5 x6 x7 x8 x9 x10 x11 x12 x13 x14 x15 x16 x17 x18 x19 x20 x21 x22 x23 x24 x25;refine(HA.out _ HB2.out).mono ?_;rintro e w3 ⟨rfl,hb⟩;have HB3:=hid (HB2.out.trans (hb.mono HB2.out.size));have HC3:=hid ((hb.block _ (Zq.1 HC2.out).1).trans HC2.out);clear hb;obtain⟨x0,x1,x2,x3,x4,x5,x6,x7,x8,x9,x10,x11,x12,x13,x14,x15,x16,x17,x18,x19,x20,x21,x22,x23,x24,x25⟩:=Qjb HC3.out;dsimp only;cases aB
      ·go_wp2_with fail
       go_ret;exact⟨by(simp only[Qzi,e1,e2,e3,e4,e5,e6,hs,hn]);rfl,HB3.out⟩
      ·go_wp2_with fail
       go_ret;exact⟨by(simp only[Qzi,e1,e2,e3,e4,e5,e6,hs,hn]);rfl,HB3.out⟩
structure Yvp(s:Qvu):Prop where
 sn:s.sch.name.size≤maxLen
 cols:∀c∈s.sch.cols,c.name.size≤maxLen
 name:s.name.size≤maxLen
 trg:Yjv s.trg
 sum:s.trg.ofs.length+s.trg.prec.length+s.trg.foll.length+s.trg.rank.length+s.trg.cond.length+s.trg.acts.length≤9000000000000000000
 items:∀e∈s.qry.items,Qxo e
 whr:∀e∈s.qry.whr,Qxo e
 frm:s.qry.frm.size≤maxLen
 act:Jwb s.act
def Jzt(s:Qvu):Bool:=Qzi s.kind (Qq0 s.sch.name) (Qq0 s.name) s.sch.cols.length (Ykm s.trg) (Yyp s.qry) (Yyq s.act) (Ywr s.sch) (Qqo s.name) (Qyg s.trg) (Qv7 s.qry) (Qzh s.act) s.act.kind
theorem Yxe(n:Nat):((n:Int)==0)=decide (n=0):=by
 by_cases h:n=0
 ·subst h;rfl
 ·have:((n:Int)==0)=false:=by simpa using h
  rw[this];simp[h]
theorem Uzu(t:Qks):Ykm t=((t.name.toList==([]:List UInt8))&&(t.table.toList==([]:List UInt8))&&!t.before&&(t.event==0)&&!t.each&&(((t.ofs.length:Int)+t.prec.length+t.foll.length+t.rank.length+t.cond.length+t.acts.length)==0)):=by
 unfold Ykm Qq0 Qzc;have e:decide (t.event=0)=(t.event==0):=rfl;rw[e]
 have h:((((t.ofs.length:Int)+t.prec.length+t.foll.length+t.rank.length+t.cond.length+t.acts.length)==0))=(decide (t.ofs.length=0)&&decide (t.prec.length=0)&&decide (t.foll.length=0)&&decide (t.rank.length=0)&&decide (t.cond.length=0)&&decide (t.acts.length=0)):=by
  rw[Bool.eq_iff_iff];simp only[beq_iff_eq,Yx,Zu];omega
 rw[h];simp only[Bool.and_assoc]
theorem Uzv(st:Bool)(items whr:List Ex)(f:ByteArray):Yyp (.mk st items f whr)=(!st&&((items.length:Int)==0)&&(f.toList==([]:List UInt8))&&((whr.length:Int)==0)):=by
 simp only[Yxe];rfl
theorem Uzw(a:Qzq):Yyq a=((a.kind==0)&&(a.table.toList==([]:List UInt8))&&((a.rows.length:Int)==0)&&((a.query.length:Int)==0)&&((a.sets.length:Int)==0)&&((a.whr.length:Int)==0)&&(a.text.toList==([]:List UInt8))):=by
 simp only[Yxe];rfl
theorem Uqp{M:Nat→Prop}(s:Qvu)(cs:List Value)(w:World)(h:Jy8 M w s cs)(ht:Yvp s):Calls prog 15 #[.agg cs.toArray] w (Qqd (.bool (Jzt s)) w):=by
 obtain⟨c1,ct,cq,ca,rfl,h1,h2,h3,h4⟩:=h;have k2:=h2;have k4:=h4;obtain⟨t1,t2,t3,t4,t5,t6,t7,t8,t9⟩:=ht;obtain⟨vc,rfl,hcols⟩:=h1;obtain⟨vo,vp,vf,vr,vw,va,rfl,ho,hp,hf,hr,hwc,ha⟩:=h2;obtain⟨k,sch,nm,trg,qry,act⟩:=s;dsimp only at*;obtain⟨st,items,qf,qw⟩:=qry;obtain⟨vi,vj,rfl,hi,hj⟩:=(Qxg ..).1 h3;obtain⟨xr,xq,xs,xw,rfl,hxr,hxq,hxs,hxw⟩:=h4;obtain⟨sa,sc,rfl,_⟩:=hcols.shape;obtain⟨oa,oc,rfl,_⟩:=Qqa.shape ho;obtain⟨pa,pc,rfl,_⟩:=Qqa.shape hp;obtain⟨fa,fc,rfl,_⟩:=Qqa.shape hf;obtain⟨ra,rc,rfl,_⟩:=Qqa.shape hr;obtain⟨wa,wc,rfl,_⟩:=Qqa.shape hwc;obtain⟨aa,ac,rfl,_⟩:=Qqa.shape ha;obtain⟨ia,ic,rfl,_⟩:=Qqa.shape hi;obtain⟨ja,jc,rfl,_⟩:=Qqa.shape hj;obtain⟨b1,d1,rfl,_⟩:=Qqa.shape hxr;obtain⟨b2,d2,rfl,_⟩:=Qqa.shape hxq;obtain⟨b3,d3,rfl,_⟩:=Qqa.shape hxs;obtain⟨b4,d4,rfl,_⟩:=Qqa.shape hxw;simp only[Qu.items,Qu.whr,Qu.frm] at t6 t7 t8;have HT:=fun wx (_:Below w.heap.size w wx)=>Yqa trg.name trg.table trg.before trg.each trg.event oa pa fa ra wa aa trg.ofs.length oc trg.prec.length pc trg.foll.length fc trg.rank.length rc trg.cond.length wc trg.acts.length ac wx t5;have HQ:=fun wx (_:Below w.heap.size w wx)=>Yks st ia ja items.length ic qw.length jc qf wx;have HA:=fun wx (_:Below w.heap.size w wx)=>Yz0 act.kind act.table act.text b1 b2 b3 b4 act.rows.length d1 act.query.length d2 act.sets.length d3 act.whr.length d4 wx;have HS:=fun wx (kb:Below w.heap.size w wx)=>Uk0 sch _ wx (hcols.keep (.bel kb)) t1 t2;have HN:=fun wx=>Qjr nm wx t3;have HV:=fun wx (kb:Below w.heap.size w wx)=>Jy1 trg _ wx (Jks.keep (.bel kb) k2) t4;have HW:=fun wx (kb:Below w.heap.size w wx)=>Jvn st items qw qf _ _ wx (Qqq.keep hi (.bel kb)) (Qqq.keep hj (.bel kb)) t6 t7 t8;have HX:=fun wx (kb:Below w.heap.size w wx)=>Jxq act _ wx (Qv5.keep (.bel kb) k4) t9;simp only[←Uzu] at HT;simp only[←Uzv] at HQ;simp only[←Uzw] at HA;simp only[Jzt,Qq0];generalize Ykm trg=tB at HT⊢;generalize Yyp (.mk st items qf qw)=qB at HQ⊢;generalize Yyq act=aB at HA⊢;generalize Ywr sch=sV at HS⊢;generalize Qqo nm=nB at HN⊢;generalize Qyg trg=tV at HV⊢;generalize Qv7 (.mk st items qf qw)=qV at HW⊢;generalize Qzh act=aV at HX⊢;by_cases k1:k=1
 ·subst k1;exact Uvx _ _ _ _ _ _ _ _ _ _ _ _ _ _ _ _ _ _ _ _ _ _ _ _ _ _ _ _ _ _ _ _ _ _ _ _ _ _ _ _ _ _ _ _ _ _ _ _ _ _ _ w tB qB aB sV nB tV qV aV HT HQ HA HS
 by_cases k2:k=2
 ·subst k2;exact Uvy _ _ _ _ _ _ _ _ _ _ _ _ _ _ _ _ _ _ _ _ _ _ _ _ _ _ _ _ _ _ _ _ _ _ _ _ _ _ _ _ _ _ _ _ _ _ _ _ _ _ _ w tB qB aB sV nB tV qV aV HT HQ HA HN
 by_cases k3:k=3
 ·subst k3;exact Uvz _ _ _ _ _ _ _ _ _ _ _ _ _ _ _ _ _ _ _ _ _ _ _ _ _ _ _ _ _ _ _ _ _ _ _ _ _ _ _ _ _ _ _ _ _ _ _ _ _ _ _ w tB qB aB sV nB tV qV aV HQ HA HV
 by_cases k4:k=4
 ·subst k4;exact Uv0 _ _ _ _ _ _ _ _ _ _ _ _ _ _ _ _ _ _ _ _ _ _ _ _ _ _ _ _ _ _ _ _ _ _ _ _ _ _ _ _ _ _ _ _ _ _ _ _ _ _ _ w tB qB aB sV nB tV qV aV HT HQ HA HN
 by_cases k5:k=5
 ·subst k5;exact Uv1 _ _ _ _ _ _ _ _ _ _ _ _ _ _ _ _ _ _ _ _ _ _ _ _ _ _ _ _ _ _ _ _ _ _ _ _ _ _ _ _ _ _ _ _ _ _ _ _ _ _ _ w tB qB aB sV nB tV qV aV HT HA HW
 by_cases k6:k=6
 ·subst k6;exact Uv2 _ _ _ _ _ _ _ _ _ _ _ _ _ _ _ _ _ _ _ _ _ _ _ _ _ _ _ _ _ _ _ _ _ _ _ _ _ _ _ _ _ _ _ _ _ _ _ _ _ _ _ w tB qB aB sV nB tV qV aV HT HQ HX
 have e:∀j:Int,k≠j→(k==j)=false:=fun j h=>by simpa using h
 have f:∀j:Int,k≠j→(k !=j)=true:=fun j h=>by simpa[bne] using h
 exact Uv3 k _ _ _ _ _ _ _ _ _ _ _ _ _ _ _ _ _ _ _ _ _ _ _ _ _ _ _ _ _ _ _ _ _ _ _ _ _ _ _ _ _ _ _ _ _ _ _ _ _ _ _ w tB qB aB sV nB tV qV aV HT HQ HA (e 1 k1) (f 1 k1) (e 2 k2) (f 2 k2) (e 3 k3) (f 3 k3) (e 4 k4) (f 4 k4) (e 5 k5) (f 5 k5) (e 6 k6) (f 6 k6)
end Go.Proofs.YtgepbohjmgaojaaGreatDoor
