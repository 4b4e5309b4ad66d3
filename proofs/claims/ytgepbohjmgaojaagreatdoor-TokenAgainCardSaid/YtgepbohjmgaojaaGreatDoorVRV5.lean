/- Which actions are well-formed in the reference. -/
import Derived.Test.YtgepbohjmgaojaaGreatDoorU20
set_option linter.all false
set_option maxHeartbeats 8000000
set_option maxRecDepth 100000
namespace Go.Proofs.YtgepbohjmgaojaaGreatDoor
open World renaming alloc→Qw
open Value renaming slice→Qv
open Go.Proofs.Tryz
open Lib(hid)
open Go.RowKit
def Qzs(k:Int)(tb xb:Bool)(n1 n2 n3 n4:Nat)(nb ab ib sb vb:Bool):Bool:=
 if(((k==4)||(k==5))!=tb)||(!tb&&!nb)||(!(k==4)&&!xb) then false
 else if(!(k==1)&&decide ((0:Int)<(n1:Int)+(n2:Int)))||(!(k==2)&&!(k==5)&&decide ((0:Int)<(n3:Int)))||(!(k==2)&&!(k==3)&&decide ((0:Int)<(n4:Int))) then false
 else if decide ((1:Int)<(n4:Int))||!ab then false
 else if k==1 then ib
 else if k==2 then decide ((1:Int)≤(n3:Int))&&decide ((n3:Int)≤8)&&sb
 else if k==3 then true
 else if k==4 then vb
 else if k==5 then((n3:Int)==1)&&sb
 else false
theorem Yvj(t x:ByteArray)(a1 a2 a3 a4:Option Addr)(n1 c1 n2 c2 n3 c3 n4 c4:Nat)(w:World)(nb ab ib sb vb:Bool)(hm:(n1:Int)+(n2:Int)≤9000000000000000000)
 (hn:∀wx,Below w.heap.size w wx→Calls prog 38 #[t] wx fun e w'=>e=.returned nb∧wx=w')
 (ha:∀wx,Below w.heap.size w wx→Calls prog 80 #[Qv a4 n4 c4] wx (Qqd ab wx))
 (hi:∀wx,Below w.heap.size w wx→Calls prog 82 #[.agg #["1",t,Qv a1 n1 c1,Qv a2 n2 c2,Qv a3 n3 c3,Qv a4 n4 c4,x]] wx (Qqd ib wx)):
 Calls prog 41 #[.agg #["1",t,Qv a1 n1 c1,Qv a2 n2 c2,Qv a3 n3 c3,Qv a4 n4 c4,x]] w (Qqd (.bool (Qzs 1 (t.toList==([]:List UInt8)) (x.toList==([]:List UInt8)) n1 n2 n3 n4 nb ab ib sb vb)) w):=by
 have w1:IntKind.i64.wrap ((n1:Int)+(n2:Int))=(n1:Int)+(n2:Int):=Zp _ (by omega);clear hm;have HN:=hid hn;have HA:=hid ha;have HI:=hid hi;clear hn ha hi;go_enter func41,ntmps41;cases htb:(t.toList==([]:List UInt8))
 ·have gtb:(t.toList !=([]:List UInt8))=true:=by simp[bne,htb]
  go_wp2_with fail
  generalize hW0:Qw w _=W1;have hb0:W1.heap[w.heap.size]?=some (.cells #["1",t,Qv a1 n1 c1,Qv a2 n2 c2,Qv a3 n3 c3,Qv a4 n4 c4,x] 42 (0,0)):=by rw[←hW0];exact Zw w _
  have HB1:=hid (show Below w.heap.size w W1 from by rw[←hW0];exact(Below.refl _ _).alloc (Zz _) _);have hz1:=(Zq.1 hb0).1;have HC1:=hid hb0;clear hW0 hb0;refine(HN.out _ HB1.out).mono ?_;rintro e w2 ⟨rfl,rfl⟩;obtain⟨x0,x1,x2,x3,x4,x5,x6,_⟩:=Qze HC1.out;dsimp only;cases nb
  ·go_wp2_with fail
   go_ret;exact⟨by(simp only[Qzs,htb]);rfl,HB1.out⟩
  ·cases hxb:(x.toList==([]:List UInt8))
   ·skip
    have gxb:(x.toList !=([]:List UInt8))=true:=by simp[bne,hxb]
    go_wp2_with fail
    go_ret;exact⟨by(simp only[Qzs,htb,hxb]);rfl,HB1.out⟩
   ·have gxb:(x.toList !=([]:List UInt8))=false:=by simp[bne,hxb]
    by_cases q3:(0:Int)<(n3:Int)
    ·go_wp2_with fail
     go_ret;exact⟨by(simp only[Qzs,htb,hxb,Yv (by omega:(0:Int)<(n3:Int))]);rfl,HB1.out⟩
    ·obtain rfl:n3=0:=by omega
     clear q3;by_cases q4:(0:Int)<(n4:Int)
     ·go_wp2_with fail
      go_ret;exact⟨by(simp only[Qzs,htb,hxb,Yv (by omega:(0:Int)<(n4:Int))]);rfl,HB1.out⟩
     ·obtain rfl:n4=0:=by omega
      clear q4;go_wp2_with fail
      clear x0 x1 x2 x3 x4 x5 x6;refine(HA.out _ HB1.out).mono ?_;rintro e w3 ⟨rfl,hb3⟩;have HB3:=hid (HB1.out.trans (hb3.mono HB1.out.size));obtain⟨x0,x1,x2,x3,x4,x5,x6,_⟩:=Qze ((hb3.block _ hz1).trans HC1.out);clear hb3;dsimp only;cases ab
      ·go_wp2_with fail
       go_ret;exact⟨by(simp only[Qzs,htb,hxb]);rfl,HB3.out⟩
      ·go_wp2_with fail
       refine(HI.out _ HB3.out).mono ?_;rintro e w4 ⟨rfl,hb4⟩;have HB4:=hid (HB3.out.trans (hb4.mono HB3.out.size));clear hb4;dsimp only;go_wp2_with fail
       go_ret;exact⟨by(simp only[Qzs,htb,hxb]);rfl,HB4.out⟩
 ·go_wp2_with fail
  go_ret;exact⟨by(simp only[Qzs,htb]);rfl,(Below.refl _ _).alloc (Zz _) _⟩
theorem Yvk(t x:ByteArray)(a1 a2 a3 a4:Option Addr)(n1 c1 n2 c2 n3 c3 n4 c4:Nat)(w:World)(nb ab ib sb vb:Bool)(hm:(n1:Int)+(n2:Int)≤9000000000000000000)
 (hn:∀wx,Below w.heap.size w wx→Calls prog 38 #[t] wx fun e w'=>e=.returned nb∧wx=w')
 (ha:∀wx,Below w.heap.size w wx→Calls prog 80 #[Qv a4 n4 c4] wx (Qqd ab wx))
 (hs:∀wx,Below w.heap.size w wx→Calls prog 83 #[Qv a3 n3 c3] wx (Qqd sb wx)):
 Calls prog 41 #[.agg #["2",t,Qv a1 n1 c1,Qv a2 n2 c2,Qv a3 n3 c3,Qv a4 n4 c4,x]] w (Qqd (.bool (Qzs 2 (t.toList==([]:List UInt8)) (x.toList==([]:List UInt8)) n1 n2 n3 n4 nb ab ib sb vb)) w):=by
 have w1:IntKind.i64.wrap ((n1:Int)+(n2:Int))=(n1:Int)+(n2:Int):=Zp _ (by omega);clear hm;have HN:=hid hn;have HA:=hid ha;have HS:=hid hs;clear hn ha hs;go_enter func41,ntmps41;cases htb:(t.toList==([]:List UInt8))
 ·have gtb:(t.toList !=([]:List UInt8))=true:=by simp[bne,htb]
  go_wp2_with fail
  generalize hW0:Qw w _=W1;have hb0:W1.heap[w.heap.size]?=some (.cells #["2",t,Qv a1 n1 c1,Qv a2 n2 c2,Qv a3 n3 c3,Qv a4 n4 c4,x] 42 (0,0)):=by rw[←hW0];exact Zw w _
  have HB1:=hid (show Below w.heap.size w W1 from by rw[←hW0];exact(Below.refl _ _).alloc (Zz _) _);have hz1:=(Zq.1 hb0).1;have HC1:=hid hb0;clear hW0 hb0;refine(HN.out _ HB1.out).mono ?_;rintro e w2 ⟨rfl,rfl⟩;obtain⟨x0,x1,x2,x3,x4,x5,x6,_⟩:=Qze HC1.out;dsimp only;cases nb
  ·go_wp2_with fail
   go_ret;exact⟨by(simp only[Qzs,htb]);rfl,HB1.out⟩
  ·cases hxb:(x.toList==([]:List UInt8))
   ·skip
    have gxb:(x.toList !=([]:List UInt8))=true:=by simp[bne,hxb]
    go_wp2_with fail
    go_ret;exact⟨by(simp only[Qzs,htb,hxb]);rfl,HB1.out⟩
   ·have gxb:(x.toList !=([]:List UInt8))=false:=by simp[bne,hxb]
    by_cases q12:(0:Int)<(n1:Int)+(n2:Int)
    ·go_wp2_with fail
     go_ret;exact⟨by(simp only[Qzs,htb,hxb,Yv (by omega:(0:Int)<(n1:Int)+(n2:Int))]);rfl,HB1.out⟩
    ·obtain⟨rfl,rfl⟩:n1=0∧n2=0:=by omega
     clear q12;by_cases q41:(1:Int)<(n4:Int)
     ·go_wp2_with fail
      go_ret;exact⟨by(simp only[Qzs,htb,hxb,Yv (by omega:(1:Int)<(n4:Int))]);rfl,HB1.out⟩
     ·go_wp2_with fail
      clear x0 x1 x2 x3 x4 x5 x6;refine(HA.out _ HB1.out).mono ?_;rintro e w3 ⟨rfl,hb3⟩;have HB3:=hid (HB1.out.trans (hb3.mono HB1.out.size));obtain⟨x0,x1,x2,x3,x4,x5,x6,_⟩:=Qze ((hb3.block _ hz1).trans HC1.out);clear hb3;dsimp only;cases ab
      ·go_wp2_with fail
       go_ret;exact⟨by(simp only[Qzs,htb,hxb,Yb (by omega:¬((1:Int)<(n4:Int)))]);rfl,HB3.out⟩
      ·by_cases q31:(1:Int)≤(n3:Int)
       ·by_cases q38:(n3:Int)≤8
        ·go_wp2_with fail
         refine(HS.out _ HB3.out).mono ?_;rintro e w4 ⟨rfl,hb4⟩;have HB4:=hid (HB3.out.trans (hb4.mono HB3.out.size));clear hb4;dsimp only;go_wp2_with fail
         go_ret;exact⟨by(simp only[Qzs,htb,hxb,Yb (by omega:¬((1:Int)<(n4:Int))),Yv (by omega:(1:Int)≤(n3:Int)),Yv (by omega:(n3:Int)≤8)]);rfl,HB4.out⟩
        ·go_wp2_with fail
         go_ret;exact⟨by(simp only[Qzs,htb,hxb,Yb (by omega:¬((1:Int)<(n4:Int))),Yv (by omega:(1:Int)≤(n3:Int)),Yb (by omega:¬((n3:Int)≤8))]);rfl,HB3.out⟩
       ·go_wp2_with fail
        go_ret;exact⟨by(simp only[Qzs,htb,hxb,Yb (by omega:¬((1:Int)<(n4:Int))),Yb (by omega:¬((1:Int)≤(n3:Int)))]);rfl,HB3.out⟩
 ·go_wp2_with fail
  go_ret;exact⟨by(simp only[Qzs,htb]);rfl,(Below.refl _ _).alloc (Zz _) _⟩
theorem Yvl(t x:ByteArray)(a1 a2 a3 a4:Option Addr)(n1 c1 n2 c2 n3 c3 n4 c4:Nat)(w:World)(nb ab ib sb vb:Bool)(hm:(n1:Int)+(n2:Int)≤9000000000000000000)
 (hn:∀wx,Below w.heap.size w wx→Calls prog 38 #[t] wx fun e w'=>e=.returned nb∧wx=w')
 (ha:∀wx,Below w.heap.size w wx→Calls prog 80 #[Qv a4 n4 c4] wx (Qqd ab wx)):
 Calls prog 41 #[.agg #["3",t,Qv a1 n1 c1,Qv a2 n2 c2,Qv a3 n3 c3,Qv a4 n4 c4,x]] w (Qqd (.bool (Qzs 3 (t.toList==([]:List UInt8)) (x.toList==([]:List UInt8)) n1 n2 n3 n4 nb ab ib sb vb)) w):=by
 have w1:IntKind.i64.wrap ((n1:Int)+(n2:Int))=(n1:Int)+(n2:Int):=Zp _ (by omega);clear hm;have HN:=hid hn;have HA:=hid ha;clear hn ha;go_enter func41,ntmps41;cases htb:(t.toList==([]:List UInt8))
 ·have gtb:(t.toList !=([]:List UInt8))=true:=by simp[bne,htb]
  go_wp2_with fail
  generalize hW0:Qw w _=W1;have hb0:W1.heap[w.heap.size]?=some (.cells #["3",t,Qv a1 n1 c1,Qv a2 n2 c2,Qv a3 n3 c3,Qv a4 n4 c4,x] 42 (0,0)):=by rw[←hW0];exact Zw w _
  have HB1:=hid (show Below w.heap.size w W1 from by rw[←hW0];exact(Below.refl _ _).alloc (Zz _) _);have hz1:=(Zq.1 hb0).1;have HC1:=hid hb0;clear hW0 hb0;refine(HN.out _ HB1.out).mono ?_;rintro e w2 ⟨rfl,rfl⟩;obtain⟨x0,x1,x2,x3,x4,x5,x6,_⟩:=Qze HC1.out;dsimp only;cases nb
  ·go_wp2_with fail
   go_ret;exact⟨by(simp only[Qzs,htb]);rfl,HB1.out⟩
  ·cases hxb:(x.toList==([]:List UInt8))
   ·skip
    have gxb:(x.toList !=([]:List UInt8))=true:=by simp[bne,hxb]
    go_wp2_with fail
    go_ret;exact⟨by(simp only[Qzs,htb,hxb]);rfl,HB1.out⟩
   ·have gxb:(x.toList !=([]:List UInt8))=false:=by simp[bne,hxb]
    by_cases q12:(0:Int)<(n1:Int)+(n2:Int)
    ·go_wp2_with fail
     go_ret;exact⟨by(simp only[Qzs,htb,hxb,Yv (by omega:(0:Int)<(n1:Int)+(n2:Int))]);rfl,HB1.out⟩
    ·obtain⟨rfl,rfl⟩:n1=0∧n2=0:=by omega
     clear q12;by_cases q3:(0:Int)<(n3:Int)
     ·go_wp2_with fail
      go_ret;exact⟨by(simp only[Qzs,htb,hxb,Yv (by omega:(0:Int)<(n3:Int))]);rfl,HB1.out⟩
     ·obtain rfl:n3=0:=by omega
      clear q3;by_cases q41:(1:Int)<(n4:Int)
      ·go_wp2_with fail
       go_ret;exact⟨by(simp only[Qzs,htb,hxb,Yv (by omega:(1:Int)<(n4:Int))]);rfl,HB1.out⟩
      ·go_wp2_with fail
       clear x0 x1 x2 x3 x4 x5 x6;refine(HA.out _ HB1.out).mono ?_;rintro e w3 ⟨rfl,hb3⟩;have HB3:=hid (HB1.out.trans (hb3.mono HB1.out.size));obtain⟨x0,x1,x2,x3,x4,x5,x6,_⟩:=Qze ((hb3.block _ hz1).trans HC1.out);clear hb3;dsimp only;cases ab
       ·go_wp2_with fail
        go_ret;exact⟨by(simp only[Qzs,htb,hxb,Yb (by omega:¬((1:Int)<(n4:Int)))]);rfl,HB3.out⟩
       ·go_wp2_with fail
        go_ret;exact⟨by(simp only[Qzs,htb,hxb,Yb (by omega:¬((1:Int)<(n4:Int)))]);rfl,HB3.out⟩
 ·go_wp2_with fail
  go_ret;exact⟨by(simp only[Qzs,htb]);rfl,(Below.refl _ _).alloc (Zz _) _⟩
theorem Yvm(t x:ByteArray)(a1 a2 a3 a4:Option Addr)(n1 c1 n2 c2 n3 c3 n4 c4:Nat)(w:World)(nb ab ib sb vb:Bool)(hm:(n1:Int)+(n2:Int)≤9000000000000000000)
 (hn:∀wx,Below w.heap.size w wx→Calls prog 38 #[t] wx fun e w'=>e=.returned nb∧wx=w')
 (ha:∀wx,Below w.heap.size w wx→Calls prog 80 #[Qv a4 n4 c4] wx (Qqd ab wx))
 (hv:∀wx,Below w.heap.size w wx→Calls prog 84 #[.agg #["3","0",x]] wx (Qqd vb wx)):
 Calls prog 41 #[.agg #["4",t,Qv a1 n1 c1,Qv a2 n2 c2,Qv a3 n3 c3,Qv a4 n4 c4,x]] w (Qqd (.bool (Qzs 4 (t.toList==([]:List UInt8)) (x.toList==([]:List UInt8)) n1 n2 n3 n4 nb ab ib sb vb)) w):=by
 have w1:IntKind.i64.wrap ((n1:Int)+(n2:Int))=(n1:Int)+(n2:Int):=Zp _ (by omega);clear hm;have HN:=hid hn;have HA:=hid ha;have HV:=hid hv;clear hn ha hv;go_enter func41,ntmps41;cases htb:(t.toList==([]:List UInt8))
 ·go_wp2_with fail
  go_ret;exact⟨by(simp only[Qzs,htb]);rfl,(Below.refl _ _).alloc (Zz _) _⟩
 ·by_cases q12:(0:Int)<(n1:Int)+(n2:Int)
  ·go_wp2_with fail
   go_ret;exact⟨by(simp only[Qzs,htb,Yv (by omega:(0:Int)<(n1:Int)+(n2:Int))]);rfl,(Below.refl _ _).alloc (Zz _) _⟩
  ·obtain⟨rfl,rfl⟩:n1=0∧n2=0:=by omega
   clear q12;by_cases q3:(0:Int)<(n3:Int)
   ·go_wp2_with fail
    go_ret;exact⟨by(simp only[Qzs,htb,Yv (by omega:(0:Int)<(n3:Int))]);rfl,(Below.refl _ _).alloc (Zz _) _⟩
   ·obtain rfl:n3=0:=by omega
    clear q3;by_cases q4:(0:Int)<(n4:Int)
    ·go_wp2_with fail
     go_ret;exact⟨by(simp only[Qzs,htb,Yv (by omega:(0:Int)<(n4:Int))]);rfl,(Below.refl _ _).alloc (Zz _) _⟩
    ·obtain rfl:n4=0:=by omega
     clear q4;go_wp2_with fail
     generalize hW0:Qw w _=W1;have hb0:W1.heap[w.heap.size]?=some (.cells #["4",t,Qv a1 0 c1,Qv a2 0 c2,Qv a3 0 c3,Qv a4 0 c4,x] 42 (0,0)):=by rw[←hW0];exact Zw w _
     have HB1:=hid (show Below w.heap.size w W1 from by rw[←hW0];exact(Below.refl _ _).alloc (Zz _) _);have hz1:=(Zq.1 hb0).1;have HC1:=hid hb0;clear hW0 hb0;refine(HA.out _ HB1.out).mono ?_;rintro e w3 ⟨rfl,hb3⟩;have HB3:=hid (HB1.out.trans (hb3.mono HB1.out.size));obtain⟨x0,x1,x2,x3,x4,x5,x6,_⟩:=Qze ((hb3.block _ hz1).trans HC1.out);clear hb3;dsimp only;cases ab
     ·go_wp2_with fail
      go_ret;exact⟨by(simp only[Qzs,htb]);rfl,HB3.out⟩
     ·go_wp2_with fail
      refine(HV.out _ HB3.out).mono ?_;rintro e w4 ⟨rfl,hb4⟩;have HB4:=hid (HB3.out.trans (hb4.mono HB3.out.size));clear hb4;dsimp only;go_wp2_with fail
      go_ret;exact⟨by(simp only[Qzs,htb]);rfl,HB4.out⟩
theorem Yvn(t x:ByteArray)(a1 a2 a3 a4:Option Addr)(n1 c1 n2 c2 n3 c3 n4 c4:Nat)(w:World)(nb ab ib sb vb:Bool)(hm:(n1:Int)+(n2:Int)≤9000000000000000000)
 (hn:∀wx,Below w.heap.size w wx→Calls prog 38 #[t] wx fun e w'=>e=.returned nb∧wx=w')
 (ha:∀wx,Below w.heap.size w wx→Calls prog 80 #[Qv a4 n4 c4] wx (Qqd ab wx))
 (hs:∀wx,Below w.heap.size w wx→Calls prog 83 #[Qv a3 n3 c3] wx (Qqd sb wx)):
 Calls prog 41 #[.agg #["5",t,Qv a1 n1 c1,Qv a2 n2 c2,Qv a3 n3 c3,Qv a4 n4 c4,x]] w (Qqd (.bool (Qzs 5 (t.toList==([]:List UInt8)) (x.toList==([]:List UInt8)) n1 n2 n3 n4 nb ab ib sb vb)) w):=by
 have w1:IntKind.i64.wrap ((n1:Int)+(n2:Int))=(n1:Int)+(n2:Int):=Zp _ (by omega);clear hm;have HN:=hid hn;have HA:=hid ha;have HS:=hid hs;clear hn ha hs;go_enter func41,ntmps41;cases htb:(t.toList==([]:List UInt8))
 ·go_wp2_with fail
  go_ret;exact⟨by(simp only[Qzs,htb]);rfl,(Below.refl _ _).alloc (Zz _) _⟩
 ·cases hxb:(x.toList==([]:List UInt8))
  ·skip
   have gxb:(x.toList !=([]:List UInt8))=true:=by simp[bne,hxb]
   go_wp2_with fail
   go_ret;exact⟨by(simp only[Qzs,htb,hxb]);rfl,(Below.refl _ _).alloc (Zz _) _⟩
  ·have gxb:(x.toList !=([]:List UInt8))=false:=by simp[bne,hxb]
   by_cases q12:(0:Int)<(n1:Int)+(n2:Int)
   ·go_wp2_with fail
    go_ret;exact⟨by(simp only[Qzs,htb,hxb,Yv (by omega:(0:Int)<(n1:Int)+(n2:Int))]);rfl,(Below.refl _ _).alloc (Zz _) _⟩
   ·obtain⟨rfl,rfl⟩:n1=0∧n2=0:=by omega
    clear q12;by_cases q4:(0:Int)<(n4:Int)
    ·go_wp2_with fail
     go_ret;exact⟨by(simp only[Qzs,htb,hxb,Yv (by omega:(0:Int)<(n4:Int))]);rfl,(Below.refl _ _).alloc (Zz _) _⟩
    ·obtain rfl:n4=0:=by omega
     clear q4;go_wp2_with fail
     generalize hW0:Qw w _=W1;have hb0:W1.heap[w.heap.size]?=some (.cells #["5",t,Qv a1 0 c1,Qv a2 0 c2,Qv a3 n3 c3,Qv a4 0 c4,x] 42 (0,0)):=by rw[←hW0];exact Zw w _
     have HB1:=hid (show Below w.heap.size w W1 from by rw[←hW0];exact(Below.refl _ _).alloc (Zz _) _);have hz1:=(Zq.1 hb0).1;have HC1:=hid hb0;clear hW0 hb0;refine(HA.out _ HB1.out).mono ?_;rintro e w3 ⟨rfl,hb3⟩;have HB3:=hid (HB1.out.trans (hb3.mono HB1.out.size));obtain⟨x0,x1,x2,x3,x4,x5,x6,_⟩:=Qze ((hb3.block _ hz1).trans HC1.out);clear hb3;dsimp only;cases ab
     ·go_wp2_with fail
      go_ret;exact⟨by(simp only[Qzs,htb,hxb]);rfl,HB3.out⟩
     ·cases q31:((n3:Int)==1)
      ·go_wp2_with fail
       go_ret;exact⟨by(simp only[Qzs,htb,hxb,q31]);rfl,HB3.out⟩
      ·go_wp2_with fail
       refine(HS.out _ HB3.out).mono ?_;rintro e w4 ⟨rfl,hb4⟩;have HB4:=hid (HB3.out.trans (hb4.mono HB3.out.size));clear hb4;dsimp only;go_wp2_with fail
       go_ret;exact⟨by(simp only[Qzs,htb,hxb,q31]);rfl,HB4.out⟩
theorem Yvo(k:Int)(t x:ByteArray)(a1 a2 a3 a4:Option Addr)(n1 c1 n2 c2 n3 c3 n4 c4:Nat)(w:World)(nb ab ib sb vb:Bool)(hm:(n1:Int)+(n2:Int)≤9000000000000000000)
 (hn:∀wx,Below w.heap.size w wx→Calls prog 38 #[t] wx fun e w'=>e=.returned nb∧wx=w')
 (ha:∀wx,Below w.heap.size w wx→Calls prog 80 #[Qv a4 n4 c4] wx (Qqd ab wx))
 (e1:(k==1)=false)(e2:(k==2)=false)(e3:(k==3)=false)(e4:(k==4)=false)(e5:(k==5)=false)(f1:(k !=1)=true)(f2:(k !=2)=true)(f3:(k !=3)=true)(f4:(k !=4)=true)(f5:(k !=5)=true):
 Calls prog 41 #[.agg #[k,t,Qv a1 n1 c1,Qv a2 n2 c2,Qv a3 n3 c3,Qv a4 n4 c4,x]] w (Qqd (.bool (Qzs k (t.toList==([]:List UInt8)) (x.toList==([]:List UInt8)) n1 n2 n3 n4 nb ab ib sb vb)) w):=by
 have w1:IntKind.i64.wrap ((n1:Int)+(n2:Int))=(n1:Int)+(n2:Int):=Zp _ (by omega);clear hm;have HN:=hid hn;have HA:=hid ha;clear hn ha;go_enter func41,ntmps41;cases htb:(t.toList==([]:List UInt8))
 ·have gtb:(t.toList !=([]:List UInt8))=true:=by simp[bne,htb]
  go_wp2_with fail
  generalize hW0:Qw w _=W1;have hb0:W1.heap[w.heap.size]?=some (.cells #[k,t,Qv a1 n1 c1,Qv a2 n2 c2,Qv a3 n3 c3,Qv a4 n4 c4,x] 42 (0,0)):=by rw[←hW0];exact Zw w _
  have HB1:=hid (show Below w.heap.size w W1 from by rw[←hW0];exact(Below.refl _ _).alloc (Zz _) _);have hz1:=(Zq.1 hb0).1;have HC1:=hid hb0;clear hW0 hb0;refine(HN.out _ HB1.out).mono ?_;rintro e w2 ⟨rfl,rfl⟩;obtain⟨x0,x1,x2,x3,x4,x5,x6,_⟩:=Qze HC1.out;dsimp only;cases nb
  ·go_wp2_with fail
   go_ret;exact⟨by(simp only[Qzs,e1,e2,e3,e4,e5,f1,f2,f3,f4,f5,htb]);rfl,HB1.out⟩
  ·cases hxb:(x.toList==([]:List UInt8))
   ·skip
    have gxb:(x.toList !=([]:List UInt8))=true:=by simp[bne,hxb]
    go_wp2_with fail
    go_ret;exact⟨by(simp only[Qzs,e1,e2,e3,e4,e5,f1,f2,f3,f4,f5,htb,hxb]);rfl,HB1.out⟩
   ·have gxb:(x.toList !=([]:List UInt8))=false:=by simp[bne,hxb]
    by_cases q12:(0:Int)<(n1:Int)+(n2:Int)
    ·go_wp2_with fail
     go_ret;exact⟨by(simp only[Qzs,e1,e2,e3,e4,e5,f1,f2,f3,f4,f5,htb,hxb,Yv (by omega:(0:Int)<(n1:Int)+(n2:Int))]);rfl,HB1.out⟩
    ·obtain⟨rfl,rfl⟩:n1=0∧n2=0:=by omega
     clear q12;by_cases q3:(0:Int)<(n3:Int)
     ·go_wp2_with fail
      go_ret;exact⟨by(simp only[Qzs,e1,e2,e3,e4,e5,f1,f2,f3,f4,f5,htb,hxb,Yv (by omega:(0:Int)<(n3:Int))]);rfl,HB1.out⟩
     ·obtain rfl:n3=0:=by omega
      clear q3;by_cases q4:(0:Int)<(n4:Int)
      ·go_wp2_with fail
       go_ret;exact⟨by(simp only[Qzs,e1,e2,e3,e4,e5,f1,f2,f3,f4,f5,htb,hxb,Yv (by omega:(0:Int)<(n4:Int))]);rfl,HB1.out⟩
      ·obtain rfl:n4=0:=by omega
       clear q4;go_wp2_with fail
       clear x0 x1 x2 x3 x4 x5 x6;refine(HA.out _ HB1.out).mono ?_;rintro e w3 ⟨rfl,hb3⟩;have HB3:=hid (HB1.out.trans (hb3.mono HB1.out.size));obtain⟨x0,x1,x2,x3,x4,x5,x6,_⟩:=Qze ((hb3.block _ hz1).trans HC1.out);clear hb3;dsimp only;cases ab
       ·go_wp2_with fail
        go_ret;exact⟨by(simp only[Qzs,e1,e2,e3,e4,e5,f1,f2,f3,f4,f5,htb,hxb]);rfl,HB3.out⟩
       ·go_wp2_with fail
        go_ret;exact⟨by(simp only[Qzs,e1,e2,e3,e4,e5,f1,f2,f3,f4,f5,htb,hxb]);rfl,HB3.out⟩
 ·go_wp2_with fail
  go_ret;exact⟨by(simp only[Qzs,e1,e2,e3,e4,e5,f1,f2,f3,f4,f5,htb]);rfl,(Below.refl _ _).alloc (Zz _) _⟩
def Jwb(a:Qzq):Prop:=a.table.size≤maxLen∧a.text.size≤maxLen∧(∀r∈a.rows,∀e∈r,Qxo e)∧(∀q∈a.query,(∀e∈q.items,Qxo e)∧(∀e∈q.whr,Qxo e)∧q.frm.size≤maxLen)∧(∀s∈a.sets,s.col.size≤maxLen∧Qxo s.ex)∧(∀e∈a.whr,Qxo e)∧a.rows.length+a.query.length≤9000000000000000000
theorem Uqo{t:ByteArray}(h:(t.toList==([]:List UInt8))=true):Qqo t=false:=by
 have h0:t.toList=[]:=by simpa using h
 have h1:t.data.toList=[]:=by rw[←h0];exact(Yp t).symm
 unfold Qqo;rw[h1];simp
theorem Uvr(n:Nat):decide ((0:Int)<(n:Int))=!decide (n=0):=by
 by_cases h:n=0
 ·subst h;rfl
 ·simp[h];omega
theorem Uvs(n m:Nat):decide ((0:Int)<(n:Int)+(m:Int))=!(decide (n=0)&&decide (m=0)):=by
 by_cases h:n=0
 ·by_cases h2:m=0
  ·subst h;subst h2;rfl
  ·subst h;simp[h2];omega
 ·simp[h];omega
theorem Uvt(n:Nat):decide ((1:Int)<(n:Int))=!decide (n≤1):=by
 by_cases h:n≤1
 ·simp[h];omega
 ·simp[h];omega
theorem Kqh(n:Nat):decide ((1:Int)≤(n:Int))=decide (1≤n):=by
 by_cases h:1≤n
 ·simp[h];omega
 ·simp[h];omega
theorem Uvu(n:Nat):decide ((n:Int)≤8)=decide (n≤8):=by
 by_cases h:n≤8
 ·simp[h];omega
 ·simp[h];omega
theorem Uvv(n:Nat):((n:Int)==1)=decide (n=1):=by
 by_cases h:n=1
 ·subst h;rfl
 ·have:((n:Int)==1)=false:=by simpa using(by omega:¬(n:Int)=1)
  rw[this];simp[h]
theorem Uvw(a:Qzq):Qzs a.kind (a.table.toList==([]:List UInt8)) (a.text.toList==([]:List UInt8)) a.rows.length a.query.length a.sets.length a.whr.length (Qqo a.table) (Qjc a.whr) (Qyv a) (Jzy a.sets) (Qj2 a.text)=Qzh a:=by
 obtain⟨k,t,rows,query,sets,whr,x⟩:=a;dsimp only;have hI:Qyv ⟨k,t,rows,query,sets,whr,x⟩=(Jyb rows&&(if rows.length=0 then decide (query.length=1)&&query.all Qv7 else Qzc query)):=rfl;rw[hI];clear hI;unfold Qzs Qzh Jya Qq0 Qzc;simp only[Uvr,Uvs,Uvt,Kqh,Uvu,Uvv];generalize hib:(if rows.length=0 then decide (query.length=1)&&query.all Qv7 else decide (query.length=0))=ib;generalize Jyb rows=rb;have hn:=@Uqo t;generalize Qqo t=nb at hn⊢;generalize(t.toList==([]:List UInt8))=tb at hn⊢;generalize(x.toList==([]:List UInt8))=xb;have hw:whr.length=0→Qjc whr=true:=fun h=>by rw[Yd h];rfl
 have hw1:decide (whr.length=0)=true→decide (whr.length≤1)=true∧Qjc whr=true:=fun h=>by
  have h':whr.length=0:=by simpa using h
  exact⟨by simp[h'],hw h'⟩
 generalize Qjc whr=ab at hw1⊢;generalize decide (whr.length=0)=w0 at hw1⊢;generalize decide (whr.length≤1)=w1 at hw1⊢
 have hs1:decide (sets.length=1)=true→decide (sets.length=0)=false:=fun h=>by
  have h':sets.length=1:=by simpa using h
  simp[h']
 generalize decide (sets.length=1)=s1 at hs1⊢
 have hs2:decide (sets.length=0)=true→decide (1≤sets.length)=false:=fun h=>by
  have h':sets.length=0:=by simpa using h
  simp[h']
 generalize decide (sets.length=0)=s0 at hs1 hs2⊢;generalize decide (1≤sets.length)=s2 at hs2⊢;generalize decide (sets.length≤8)=s8;generalize Jzy sets=sv;generalize decide (rows.length=0)=r0;generalize decide (query.length=0)=q0;generalize Qj2 x=pb;clear hw hib;by_cases k1:k=1
 ·subst k1;clear hs1 hs2
  revert hn hw1
  simp only[show((1:Int)==4)=false from rfl,show((1:Int)==5)=false from rfl,show((1:Int)==1)=true from rfl,show((1:Int)==2)=false from rfl,show((1:Int)==3)=false from rfl,if_true];cases tb<;>cases nb<;>cases xb<;>cases w0<;>cases w1<;>cases ab<;>cases s0<;>simp
 ·by_cases k2:k=2
  ·subst k2
   revert hn hw1 hs1 hs2
   simp only[show((2:Int)==4)=false from rfl,show((2:Int)==5)=false from rfl,show((2:Int)==1)=false from rfl,show((2:Int)==2)=true from rfl,show((2:Int)==3)=false from rfl,if_true,show ¬(2:Int)=1 by decide,if_false];cases tb<;>cases nb<;>cases xb<;>cases w1<;>cases ab<;>cases r0<;>cases q0<;>cases s2<;>simp
  ·by_cases k3:k=3
   ·subst k3
    revert hn hw1 hs1 hs2
    simp only[show((3:Int)==4)=false from rfl,show((3:Int)==5)=false from rfl,show((3:Int)==1)=false from rfl,show((3:Int)==2)=false from rfl,show((3:Int)==3)=true from rfl,if_true,show ¬(3:Int)=1 by decide,show ¬(3:Int)=2 by decide,if_false];cases tb<;>cases nb<;>cases xb<;>cases w1<;>cases ab<;>cases r0<;>cases q0<;>cases s0<;>simp
   ·by_cases k4:k=4
    ·subst k4
     revert hn hw1 hs1 hs2
     simp only[show((4:Int)==4)=true from rfl,show((4:Int)==5)=false from rfl,show((4:Int)==1)=false from rfl,show((4:Int)==2)=false from rfl,show((4:Int)==3)=false from rfl,if_true,show ¬(4:Int)=1 by decide,show ¬(4:Int)=2 by decide,show ¬(4:Int)=3 by decide,if_false];cases tb<;>cases nb<;>cases w0<;>cases w1<;>cases ab<;>cases r0<;>cases q0<;>cases s0<;>simp
    ·by_cases k5:k=5
     ·subst k5
      revert hn hw1 hs1 hs2
      simp only[show((5:Int)==4)=false from rfl,show((5:Int)==5)=true from rfl,show((5:Int)==1)=false from rfl,show((5:Int)==2)=false from rfl,show((5:Int)==3)=false from rfl,if_true,show ¬(5:Int)=1 by decide,show ¬(5:Int)=2 by decide,show ¬(5:Int)=3 by decide,show ¬(5:Int)=4 by decide,if_false];cases tb<;>cases nb<;>cases xb<;>cases w0<;>cases w1<;>cases ab<;>cases r0<;>cases q0<;>cases s1<;>simp
     ·have e:∀j:Int,k≠j→(k==j)=false:=fun j h=>by simpa using h
      rw[e 1 k1,e 2 k2,e 3 k3,e 4 k4,e 5 k5,if_neg k1,if_neg k2,if_neg k3,if_neg k4,if_neg k5];simp
theorem Jxq{M:Nat→Prop}(a:Qzq)(cs:List Value)(w:World)(h:Qv5 M w a cs)(ht:Jwb a):Calls prog 41 #[.agg cs.toArray] w (Qqd (.bool (Qzh a)) w):=by
 obtain⟨vr,vq,vs,vw,rfl,hr,hq,hs,hw⟩:=h;obtain⟨t1,t2,t3,t4,t5,t6,t7⟩:=ht;obtain⟨ra,rc,rfl,hmr⟩:=Qqa.shape hr;obtain⟨qa,qc,rfl,hmq⟩:=Qqa.shape hq;obtain⟨sa,sc,rfl,hms⟩:=Qqa.shape hs;obtain⟨wa,wc,rfl,hmw⟩:=Qqa.shape hw;rw[←Uvw];have HN:∀wx,Below w.heap.size w wx→Calls prog 38 #[a.table] wx fun e w'=>e=.returned (.bool (Qqo a.table))∧wx=w':=fun wx _=>Qjr a.table wx t1;have HA:∀wx,Below w.heap.size w wx→Calls prog 80 #[Qv wa a.whr.length wc] wx (Qqd (.bool (Qjc a.whr)) wx):=fun wx k=>Qwe a.whr (fun e _=>Qvy e) t6 _ wx (Qqq.keep hw (.bel k));have HS:∀wx,Below w.heap.size w wx→Calls prog 83 #[Qv sa a.sets.length sc] wx (Qqd (.bool (Jzy a.sets)) wx):=fun wx k=>Ywo a.sets _ wx (Qzb.keep (.bel k) hs) t5;have HI:∀wx,Below w.heap.size w wx→Calls prog 82 #[.agg #[a.kind,a.table,Qv ra a.rows.length rc,Qv qa a.query.length qc,Qv sa a.sets.length sc,Qv wa a.whr.length wc,a.text]] wx (Qqd (.bool (Qyv a)) wx):=fun wx k=>Yzz a _ _ sa wa a.sets.length sc a.whr.length wc wx (Jqc.keep (.bel k) hr) (Qz1.keep hq (.bel k)) t3 t4
 have HV:∀wx,Below w.heap.size w wx→Calls prog 84 #[.agg #["3","0",a.text]] wx (Qqd (.bool (Qj2 a.text)) wx):=fun wx _=>by
  have h:=Jz6 ⟨3,0,a.text⟩ wx t2;rw[show Qqs ⟨3,0,a.text⟩=Qj2 a.text by simp[Qqs]] at h;exact h
 have hsum:(a.rows.length:Int)+(a.query.length:Int)≤9000000000000000000:=by omega
 simp only[Jqd];generalize Qqo a.table=nb at HN⊢;generalize Qjc a.whr=ab at HA⊢;generalize Jzy a.sets=sb at HS⊢;generalize Qyv a=ib at HI⊢;generalize Qj2 a.text=pb at HV⊢;generalize a.kind=k at HI⊢;by_cases k1:k=1
 ·subst k1;exact Yvj _ _ _ _ _ _ _ _ _ _ _ _ _ _ _ nb ab ib sb pb hsum HN HA HI
 by_cases k2:k=2
 ·subst k2;exact Yvk _ _ _ _ _ _ _ _ _ _ _ _ _ _ _ nb ab ib sb pb hsum HN HA HS
 by_cases k3:k=3
 ·subst k3;exact Yvl _ _ _ _ _ _ _ _ _ _ _ _ _ _ _ nb ab ib sb pb hsum HN HA
 by_cases k4:k=4
 ·subst k4;exact Yvm _ _ _ _ _ _ _ _ _ _ _ _ _ _ _ nb ab ib sb pb hsum HN HA HV
 by_cases k5:k=5
 ·subst k5;exact Yvn _ _ _ _ _ _ _ _ _ _ _ _ _ _ _ nb ab ib sb pb hsum HN HA HS
 have e:∀j:Int,k≠j→(k==j)=false:=fun j h=>by simpa using h
 have f:∀j:Int,k≠j→(k !=j)=true:=fun j h=>by simpa[bne] using h
 exact Yvo k _ _ _ _ _ _ _ _ _ _ _ _ _ _ _ nb ab ib sb pb hsum HN HA (e 1 k1) (e 2 k2) (e 3 k3) (e 4 k4) (e 5 k5) (f 1 k1) (f 2 k2) (f 3 k3) (f 4 k4) (f 5 k5)
end Go.Proofs.YtgepbohjmgaojaaGreatDoor
