/- A run's token: contract of token.run. The text in quotes: contract of token.quoted. The token that begins a text: contract of token.next. -/
import Derived.Test.YtgepbohjmgaojaaGreatDoorU07
set_option linter.all false
set_option maxHeartbeats 4000000
set_option maxRecDepth 100000
namespace Go.Proofs.YtgepbohjmgaojaaGreatDoor
open World renaming alloc→Qw
open Go.Proofs.Tryz
open Lib(hid)
open Go.RowKit Go.Sort
def Qws(w:World):Prop:=Lib.TabIs prog w "internal/strconv.uint64pow10" .u64 Lib.pow10Tab∧(∃te pe,w.cell? ⟨9,0,none⟩=some (.iface te pe))∧(∃te pe,w.cell? ⟨10,0,none⟩=some (.iface te pe))∧10<w.heap.size
theorem Kjz:prog.globalNamed "internal/strconv.uint64pow10"=some 8:=by kernel_rfl
theorem Qws.keep{M:Nat→Prop}{w w':World}(h:Qws w)(k:Qqb M w w')(hM:∀k,k≤10→¬M k):Qws w':=by
 obtain⟨h1,⟨te,pe,h2⟩,⟨tf,pf,h3⟩,hs⟩:=h;refine⟨?_,⟨te,pe,(k.cell (Za _ _ h2) (hM _ (by decide))).trans h2⟩,⟨tf,pf,(k.cell (Za _ _ h3) (hM _ (by decide))).trans h3⟩,Zm hs k.size⟩;unfold Lib.TabIs World.var? at h1⊢;simp only[Kjz,Option.bind_some] at h1⊢;rw[k.block 8 (by omega) (hM _ (by decide))];exact h1
theorem Qws.bel{w w':World}(h:Qws w)(hb:Below w.heap.size w w'):Qws w':=h.keep (M:=fun _=>False) (.bel hb) fun _ _=>id
def Ux3(s:ByteArray):Value:=match Jko s with
 |some kt=>.tuple #[.agg #[.int .i64 kt.1,.string kt.2,"0"],true]
 |none=>.tuple #[.agg #["0","","0"],false]
theorem Yze(s:ByteArray)(w:World)(hs:s.size≤4096)(h:Qws w):Calls prog 108 #[s,.int .i64 10,.int .i64 64] w fun e w'=>
 (∃n:Int,Lib.parseIntB 64 s.data.toList=.ok n∧e=.returned (.tuple #[.int .i64 n,.nilIface])∧Below w.heap.size w w')∨((∀n,Lib.parseIntB 64 s.data.toList≠.ok n)∧∃(n:Int) (t:TypeId) (p:Value),e=.returned (.tuple #[.int .i64 n,.iface t p])∧Below w.heap.size w w'):=by
 obtain⟨_,⟨te,pe,h2⟩,⟨tf,pf,h3⟩,_⟩:=h;cases hp:Lib.parseIntB 64 s.data.toList
 ·rename_i n
  refine(Tryz.strconv_ParseInt_10_at64_ok s (by omega) n hp w).mono ?_;rintro e w' ⟨rfl,hw⟩;refine .inl ⟨n,rfl,rfl,?_⟩
  rcases hw with rfl|⟨t,rfl⟩
  ·exact Below.refl _ _
  ·exact Lib.bytesWorld_below _ _ _
 ·refine(Any.strconv_ParseInt_10_at64_syntax Tryz.laysC174 s (by omega) hp _ w h2 (.inr ⟨_,_,rfl⟩)).mono ?_;rintro e w' ⟨N,rfl,_,_,hb⟩;exact .inr ⟨fun n h=>(by cases h),_,_,_,rfl,hb⟩
 ·refine(Any.strconv_ParseInt_10_at64_range Tryz.laysC174 s (by omega) hp _ w h3 (.inr ⟨_,_,rfl⟩)).mono ?_;rintro e w' ⟨N,rfl,_,_,hb⟩;exact .inr ⟨fun n h=>(by cases h),_,_,_,rfl,hb⟩
theorem Qk9{w:World}{S:Nat}{a b c:Value}{e:TypeId}(h:w.heap[S]?=some (.cells #[a,b,c] e (0,0))):w.cell? ⟨S,0,none⟩=some a∧w.cell? ⟨S,1,none⟩=some b∧w.cell? ⟨S,2,none⟩=some c∧(∀i,w.frozen? ⟨S,i,none⟩=false)∧S<w.heap.size:=by
 refine⟨by simp[World.cell?,h],by simp[World.cell?,h],by simp[World.cell?,h],fun i=>by simp[World.frozen?,h],(Zq.1 h).1⟩
theorem Qz5{w W:World}{g:Nat}(a b c:Value)(hg:w.heap.size≤g)(h:Below w.heap.size w W):Below w.heap.size w (((W.setCell ⟨g,0,none⟩ a).setCell ⟨g,1,none⟩ b).setCell ⟨g,2,none⟩ c):=
 ((h.setCell (p:=⟨g,0,none⟩) hg a).setCell (p:=⟨g,1,none⟩) hg b).setCell (p:=⟨g,2,none⟩) hg c
theorem Yzf{w w':World}{k:Nat}{os:Array Obj}(h:w'=grow (w.drewN k) os):Below w.heap.size w w':=by
 subst h;refine⟨rfl,rfl,rfl,by simp[grow,World.drewN],fun i hi=>?_⟩;show(w.heap++os)[i]?=w.heap[i]?;rw[Array.getElem?_append_left hi]
theorem Uwu(s:ByteArray)(w:World)(hz:0<s.size)(hs:s.size≤4096)(h:Qws w):Calls prog 63 #[s] w (Qqd (Ux3 s) w):=by
 have HK:=hid (fun w=>Ykd s w);have HN:=hid (fun w=>Jy3 s w (by unfold maxLen;omega));have HP:=hid (fun(w:World) (h:Qws w)=>Yze s w hs h);have HD:=hid (fun w=>Yq0 s[0] w);have HR:Hid (Ux3 s=match Jko s with|some kt=>.tuple #[.agg #[.int .i64 kt.1,.string kt.2,"0"],true]|none=>.tuple #[.agg #["0","","0"],false]):=hid rfl;have HT:=hid h
 have hu:Hid (Jko s=if kwL.contains s.data.toList=true then some ((1:Int),s) else if Qqo s=true then some ((2:Int),s) else match Lib.parseIntB 64 s.data.toList with
  | .ok n=>if Jy5 s[0]=true∧Lib.itoa n=s.data.toList then some ((3:Int),s) else none
  |_=>none):=hid (by unfold Jko;rw[Yyk hz];simp only[Option.any_some];rfl)
 clear h hs;generalize Ux3 s=r at HR⊢;generalize hrp:Jko s=rp at HR hu;clear hrp;generalize kwL.contains s.data.toList=kw at HK hu;generalize Qqo s=nb at HN hu;generalize hpi:Lib.parseIntB 64 s.data.toList=pi at HP hu;have HPI:=hid hpi;clear hpi;go_enter func63,ntmps63;go_wp2_with fail
 have hb0:Below w.heap.size w (w.alloc (.cells #["0","","0"] 51)):=(Below.refl _ _).alloc (Zz _) _;have hc0:=Zw w (.cells #["0","","0"] 51);generalize hW:Qw w _=W0 at hb0 hc0⊢;have HB0:=hid hb0;have HC0:=hid hc0;clear hW hb0 hc0;refine(HK.out W0).mono ?_;rintro e W1 ⟨rfl,hb⟩;have HB1:=hid (HB0.out.trans (hb.mono HB0.out.size));have HC1:=hid ((hb.block _ (Qk9 HC0.out).2.2.2.2).trans HC0.out);clear hb;dsimp only;cases kw
 case true=>
  have hu1:rp=some ((1:Int),s):=by rw[hu.out,if_pos rfl]
  clear hu;obtain⟨c0,c1,c2,cf,cz⟩:=Qk9 HC1.out
  repeat(first|go_values|go_skip|go_guarded|go_step|go_upon)
  refine Zh (v:=.tuple #[.agg #["1",s,"0"],true]) (by simp[results,results63,go_sem,c0,c1,c2]) rfl ⟨by rw[HR.out,hu1],?_⟩;exact Qz5 _ _ _ (Zz _) HB1.out
 case false=>
  go_wp2_with fail
  refine(HN.out W1).mono ?_;rintro e W2 ⟨rfl,hb⟩;have HB2:=hid (HB1.out.trans (hb.mono HB1.out.size));have HC2:=hid ((hb.block _ (Qk9 HC1.out).2.2.2.2).trans HC1.out);clear hb;dsimp only;cases nb
  case true=>
   have hu1:rp=some ((2:Int),s):=by rw[hu.out,if_neg (by simp),if_pos rfl]
   clear hu;obtain⟨c0,c1,c2,cf,cz⟩:=Qk9 HC2.out
   repeat(first|go_values|go_skip|go_guarded|go_step|go_upon)
   refine Zh (v:=.tuple #[.agg #["2",s,"0"],true]) (by simp[results,results63,go_sem,c0,c1,c2]) rfl ⟨by rw[HR.out,hu1],?_⟩;exact Qz5 _ _ _ (Zz _) HB2.out
  case false=>
   go_wp2_with fail
   have HT2:=hid (HT.out.bel HB2.out);refine(HP.out W2 HT2.out).mono ?_;rintro e W3 (⟨n,hn,rfl,hb⟩|⟨hn,n,t,p,rfl,hb⟩)
   ·have HB3:=hid (HB2.out.trans (hb.mono HB2.out.size));have HC3:=hid ((hb.block _ (Qk9 HC2.out).2.2.2.2).trans HC2.out);have HT3:=hid (HT.out.bel HB3.out);have hnb:=Lib.parseIntB_bounds (HPI.out.trans hn)
    have HF:Hid (∀w,Qws w→Calls prog 66 #[n,.int .i64 10] w fun e w'=>e=.returned (.string ⟨(Lib.itoa n).toArray⟩)∧Below w.heap.size w w'):=hid fun w h=>(Tryz.strconv_FormatInt_10 n (by have:=hnb.1;simp at this;omega) (by have:=hnb.2;simp at this;omega) w h.1).mono fun _ _ ⟨he,_,_,hw⟩=>⟨he,Yzf hw⟩
    have HE:Hid ((((⟨(Lib.itoa n).toArray⟩:ByteArray).toList==s.toList)=true)=(Lib.itoa n=s.data.toList)):=hid (by rw[Yp,Yp,beq_iff_eq]);have HU:Hid (rp=if Jy5 s[0]=true∧Lib.itoa n=s.data.toList then some ((3:Int),s) else none):=hid (by rw[hu.out,hn];simp);generalize(⟨(Lib.itoa n).toArray⟩:ByteArray)=f at HF HE;generalize Jy5 s[0]=d at HD HU;clear hb hn hu hnb;dsimp only;go_wp2_with fail
    refine(HD.out W3).mono ?_;rintro e W4 ⟨rfl,rfl⟩;dsimp only;cases d
    ·have hu1:rp=none:=by rw[HU.out,if_neg (by simp)]
     clear HU;obtain⟨c0,c1,c2,cf,cz⟩:=Qk9 HC3.out
     repeat(first|go_values|go_skip|go_guarded|go_step|go_upon)
     refine Zh (v:=.tuple #[.agg #["0","","0"],false]) (by simp[results,results63,go_sem,c0,c1,c2]) rfl ⟨by rw[HR.out,hu1],?_⟩;exact Qz5 _ _ _ (Zz _) HB3.out
    ·go_wp2_with fail
     refine(HF.out W3 HT3.out).mono ?_;rintro e W5 ⟨rfl,hb⟩;have HB5:=hid (HB3.out.trans (hb.mono HB3.out.size));have HC5:=hid ((hb.block _ (Qk9 HC3.out).2.2.2.2).trans HC3.out);clear hb;dsimp only;cases hfs:(f.toList==s.toList)
     ·have hu1:rp=none:=by rw[HU.out,if_neg (fun h=>by have:=HE.out▸h.2;rw[hfs] at this;cases this)]
      clear HU;obtain⟨c0,c1,c2,cf,cz⟩:=Qk9 HC5.out
      repeat(first|go_values|go_skip|go_guarded|go_step|go_upon)
      refine Zh (v:=.tuple #[.agg #["0","","0"],false]) (by simp[results,results63,go_sem,c0,c1,c2]) rfl ⟨by rw[HR.out,hu1],?_⟩;exact Qz5 _ _ _ (Zz _) HB5.out
     ·have hu1:rp=some ((3:Int),s):=by rw[HU.out,if_pos ⟨by trivial,by have h:=HE.out;rw[hfs] at h;exact h.mp (by trivial)⟩]
      clear HU;obtain⟨c0,c1,c2,cf,cz⟩:=Qk9 HC5.out
      repeat(first|go_values|go_skip|go_guarded|go_step|go_upon)
      refine Zh (v:=.tuple #[.agg #["3",s,"0"],true]) (by simp[results,results63,go_sem,c0,c1,c2]) rfl ⟨by rw[HR.out,hu1],?_⟩;exact Qz5 _ _ _ (Zz _) HB5.out
   ·have HB3:=hid (HB2.out.trans (hb.mono HB2.out.size));have HC3:=hid ((hb.block _ (Qk9 HC2.out).2.2.2.2).trans HC2.out)
    have hu1:rp=none:=by
     rw[hu.out,if_neg (by simp),if_neg (by simp)]
     cases pi with
     |ok m=>exact absurd rfl (hn m)
     |_=>rfl
    clear hb hn hu;dsimp only;obtain⟨c0,c1,c2,cf,cz⟩:=Qk9 HC3.out
    repeat(first|go_values|go_skip|go_guarded|go_step|go_upon)
    refine Zh (v:=.tuple #[.agg #["0","","0"],false]) (by simp[results,results63,go_sem,c0,c1,c2]) rfl ⟨by rw[HR.out,hu1],?_⟩;exact Qz5 _ _ _ (Zz _) HB3.out
open Go.RowKit
def Qwv(s:ByteArray):Value:=match Qj7 s 1 [] with
 |some (t,n)=>.tuple #[.agg #["4",.string ⟨t.toArray⟩,"0"],n,.bool (Qj2 ⟨t.toArray⟩)]
 |none=>.tuple #[.agg #["0","","0"],"0",false]
theorem Yzg{s:ByteArray}{t:List UInt8}{n:Nat}(h:Qj7 s 1 []=some (t,n)):Qwv s=.tuple #[.agg #["4",.string ⟨t.toArray⟩,"0"],n,.bool (Qj2 ⟨t.toArray⟩)]:=by unfold Qwv;rw[h]
theorem Yzh{s:ByteArray}(h:Qj7 s 1 []=none):Qwv s=.tuple #[.agg #["0","","0"],"0",false]:=by unfold Qwv;rw[h]
theorem Yv5(s:ByteArray)(w:World)(hz:0<s.size)(hs:s.size≤1000000):Calls prog 61 #[s] w (Qqd (Qwv s) w):=by
 go_enter func61,ntmps61;go_wp2_with fail
 generalize hW:Qw (Qw w _) _=W;have hr:W.heap[w.heap.size]?=some (.cells #["0","","0"] 51 (0,0)):=by rw[←hW];exact(Jy _ _ (by simp)).trans (Zw w _)
 have hbd:W.heap[w.heap.size+1]?=some (.cells #[.pointer none,()] 92 (0,0)):=by rw[←hW];have h:=Zw (w.alloc (.cells #["0","","0"] 51)) (.cells #[.pointer none,()] 92);rw[show(w.alloc (.cells #["0","","0"] 51)).heap.size=w.heap.size+1 by simp] at h;exact h
 have hb:Below w.heap.size w W:=by rw[←hW];exact((Below.refl _ _).alloc (Zz _) _).alloc (by simp) _
 have HR:=hid hr;have HB:=hid hb;have HBD:=hid (Jxb.new (B:=w.heap.size+1) (Zz _) hbd);clear hW hr hbd hb
 go_loopw[6] (fun i wr=>∃(k:Nat) (acc:List UInt8),i=.int .i64 k∧1≤k∧k≤s.size∧acc.length≤k∧Qj7 s k acc=Qj7 s 1 []∧Jxb (w.heap.size+1) (w.heap.size+1) acc wr∧Below (w.heap.size+1) W wr) (fun i _=>s.size-(intOf i).toNat)
 case atStart=>exact⟨1,[],rfl,Zz _,hz,Zi _,rfl,HBD.out,Below.refl _ _⟩
 case round=>
  obtain⟨k,acc,rfl,hk1,hk,hacc,hq,hbr,hbw⟩:=hrel;have HQ:=hid hq;have HBR:=hid hbr;have HBW:=hid hbw;have hrr:=(HBW.out.block w.heap.size (by omega)).trans HR.out;clear hq hbr hbw
  have hwz:w.heap.size+1<wr.heap.size:=by
   rcases HBR.out with h|h<;>exact h.lt
  by_cases hlt:k<s.size
  ·by_cases hc:s[k].toNat=39
   ·have hcf:((s[k].toNat:Int)!=39)=false:=by simp[hc]
    have HC:=hid hc;clear hc;by_cases hdx:∃h1:k+1<s.size,s[k+1].toNat=39
    ·obtain⟨h1,hd⟩:=hdx;have h1':(k:Int)+1<s.size:=by omega
     have hdt:((s[k+1].toNat:Int)==39)=true:=by simp[hd]
     have HN:Hid (Qj7 s (k+2) (acc++[39])=Qj7 s 1 []):=hid (by rw[←HQ.out,Yx2 hlt HC.out h1 hd]);clear hd;go_wp2_with fail
     refine(Jvi (w.heap.size+1) (w.heap.size+1) acc 39 wr HBR.out (by omega)).mono ?_;rintro e w2 ⟨rfl,hb2,hw2⟩;have HB2:=hid hb2;have HW2:=hid (HBW.out.trans hw2);clear hb2 hw2;dsimp only;go_wp2_with fail
     go_roundw
     case rel=>exact⟨k+2,acc++[39],by go_num,by omega,by omega,by simp;omega,HN.out,HB2.out,HW2.out⟩
     case measure=>simp[intOf];omega
    ·have HN:=hid (HQ.out.symm.trans (Yj9 (acc:=acc) hlt HC.out fun h1 hd=>hdx ⟨h1,hd⟩));have HX:=hid hdx;clear hdx;by_cases h1:k+1<s.size
     case' pos=>
      have h1':(k:Int)+1<s.size:=by omega
      have hdf:((s[k+1].toNat:Int)==39)=false:=by
       have:=HX.out;simp only[Jw];intro h;exact this ⟨h1,by omega⟩
     case' neg=>have h1':¬(k:Int)+1<s.size:=by omega
     all_goals
      go_wp2_with fail
      refine(Ykb (w.heap.size+1) (w.heap.size+1) acc wr HBR.out).mono ?_;rintro e w2 ⟨rfl,hb2,hw2⟩;have HB2:=hid hb2;have HW2:=hid (HBW.out.trans hw2);have z2:=hw2.size;clear hb2 hw2;dsimp only;go_wp2_with fail
      refine(Uwf ⟨acc.toArray⟩ w2 (by unfold maxLen;show acc.length≤_;omega)).mono ?_;rintro e w3 ⟨rfl,hw3⟩;have HB3:=hid (HB2.out.bel hw3);have HW3:=hid (HW2.out.trans (hw3.mono (by omega)));have z3:=hw3.size;clear hw3;generalize Jkk ⟨acc.toArray⟩=wv;have HN:=hid (Yzg HN.out);generalize Qj2 ⟨acc.toArray⟩=pb at HN⊢;dsimp only[Qkt];go_wp2_with fail
      generalize hW4:Qw w3 _=w4;have hw4:Below w3.heap.size w3 w4:=by rw[←hW4];exact(Below.refl _ _).alloc (Zz _) _
      have HB4:=hid (HB3.out.bel hw4);have HW4:=hid (HW3.out.trans (hw4.mono (by omega)));clear hW4 hw4;refine(Ykb (w.heap.size+1) (w.heap.size+1) acc w4 HB4.out).mono ?_;rintro e w5 ⟨rfl,hb5,hw5⟩;have HW5:=hid (HW4.out.trans hw5);obtain⟨c0,c1,c2,cf,cz⟩:=Qk9 ((HW5.out.block w.heap.size (by omega)).trans HR.out);clear hb5 hw5;dsimp only
      repeat(first|go_values|go_skip|go_guarded|go_step|go_upon)
      refine Zh (v:=.tuple #[.agg #["4",.string ⟨acc.toArray⟩,"0"],.int .i64 (k+1:Nat),pb]) (by simp[results,results61,go_sem,c0,c1,c2]) rfl ⟨by rw[HN.out],?_⟩;exact Qz5 _ _ _ (Zz _) (HB.out.trans (HW5.out.mono (Nat.le_succ _)))
   ·have HN:Hid (Qj7 s (k+1) (acc++[s[k]])=Qj7 s 1 []):=hid (by rw[←HQ.out,Jy6 hlt hc]);have hcf:((s[k].toNat:Int)!=39)=true:=by simp only[bne_iff_ne];omega
    clear hc;go_wp2_with fail
    refine(Jvi (w.heap.size+1) (w.heap.size+1) acc s[k] wr HBR.out (by omega)).mono ?_;rintro e w2 ⟨rfl,hb2,hw2⟩;have HB2:=hid hb2;have HW2:=hid (HBW.out.trans hw2);clear hb2 hw2;dsimp only;go_wp2_with fail
    go_roundw
    case rel=>exact⟨k+1,acc++[s[k]],by go_num,by omega,by omega,by simp;omega,HN.out,HB2.out,HW2.out⟩
    case measure=>simp[intOf];omega
  ·obtain rfl:k=s.size:=by omega
   have HN:=hid (HQ.out.symm.trans (Yx1 (Zz _)));obtain⟨c0,c1,c2,cf,cz⟩:=Qk9 hrr
   repeat(first|go_values|go_skip|go_guarded|go_step|go_upon)
   refine Zh (v:=.tuple #[.agg #["0","","0"],"0",false]) (by simp[results,results61,go_sem,c0,c1,c2]) rfl ⟨by rw[Yzh HN.out],?_⟩;exact Qz5 _ _ _ (Zz _) (HB.out.trans (HBW.out.mono (Nat.le_succ _)))
def Jx3(s:ByteArray):Value:=.tuple #[.agg #[.int .i64 (Qka s).1.1,.string (Qka s).1.2,"0"],.int .i64 ((Qka s).2.1:Nat),.bool (Qka s).2.2]
theorem Yke{s:ByteArray}(hz:0<s.size)(h:s[0].toNat=39):Jx3 s=Qwv s:=by
 unfold Jx3 Qwv;rw[Jvf hz h];cases Qj7 s 1 []<;>rfl
theorem Ujf{s:ByteArray}{n:Nat}(hz:0<s.size)(h:s[0].toNat≠39)(hr:Qvt s[0]=true)(hn:Jjm s.data.toList=n):∃(k:Int) (t:ByteArray) (b:Bool),Ux3 (s.extract 0 n)=.tuple #[.agg #[k,t,"0"],b]∧Jx3 s=.tuple #[.agg #[k,t,"0"],n,b]:=by
 unfold Jx3 Ux3;rw[Yqs hz h hr hn]
 cases Jko (s.extract 0 n) with
 |none=>exact⟨0,⟨#[]⟩,false,rfl,rfl⟩
 |some kt=>exact⟨kt.1,kt.2,true,rfl,rfl⟩
theorem Ujg{s:ByteArray}(hz:0<s.size)(h:s[0].toNat≠39)(hr:Qvt s[0]=false):Jx3 s=.tuple #[.agg #["5",.string (s.extract 0 (Qwp s)),"0"],.int .i64 (Qwp s),.bool (decide (0<Qwp s))]:=by
 unfold Jx3;rw[Yqt hz h hr]
theorem Uwv{s:ByteArray}(hz:0<s.size):Qwp s≤2∧Qwp s≤s.size:=by
 unfold Qwp
 split
 ·rename_i h;exact⟨Zz _,h.1⟩
 ·split<;>omega
theorem Yzi(s:ByteArray):∃(k:Int) (t:ByteArray) (n:Int) (b:Bool),Qwv s=.tuple #[.agg #[k,t,"0"],n,b]:=by
 unfold Qwv;cases Qj7 s 1 []<;>exact⟨_,_,_,_,rfl⟩
theorem Ux4(s:ByteArray)(w:World)(hz:0<s.size)(hs:s.size≤4096)(h:Qws w):Calls prog 24 #[s] w (Qqd (Jx3 s) w):=by
 have HT:=hid h;clear h;go_enter func24,ntmps24;go_upto_region 1 with fail
 generalize hW:Qw w _=W;have hr:W.heap[w.heap.size]?=some (.cells #["0","","0"] 51 (0,0)):=by rw[←hW];exact Zw w _
 have hb:Below w.heap.size w W:=by rw[←hW];exact(Below.refl _ _).alloc (Zz _) _
 have hz0:w.heap.size<W.heap.size:=(Zq.1 hr).1;have HR:=hid hr;have HB:=hid hb;have HTW:=hid (HT.out.bel hb);clear hW hr hb;by_cases hc:s[0].toNat=39
 ·have hct:((s[0].toNat:Int)==39)=true:=by simp[hc]
  have HN:=hid (Yke hz hc);have HQ:=hid (fun w=>Yv5 s w hz (by omega));obtain⟨k,t,n,b,hq⟩:=Yzi s;rw[hq] at HN HQ;clear hc hq;go_wp2_with fail
  refine(HQ.out W).mono ?_;rintro e w2 ⟨rfl,hw2⟩;have HW2:=hid (HB.out.trans (hw2.mono (by omega)));obtain⟨c0,c1,c2,cf,cz⟩:=Qk9 ((hw2.block w.heap.size hz0).trans HR.out);clear hw2;dsimp only
  repeat(first|go_values|go_skip|go_guarded|go_step|go_upon)
  refine Zh (v:=.tuple #[.agg #[k,t,"0"],.int .i64 n,b]) (by simp[results,results24,go_sem,c0,c1,c2]) rfl ⟨by rw[HN.out],?_⟩;exact Qz5 _ _ _ (Zz _) HW2.out
 ·have hcf:((s[0].toNat:Int)==39)=false:=by simp only[Jw];omega
  have HC:=hid hc;clear hc;have HI:=hid (fun w=>Jkq s[0] w);cases hr:Qvt s[0]
  ·have HN:=hid (Ujg hz HC.out hr);rw[hr] at HI;clear hr;go_wp2_with fail
   refine(HI.out W).mono ?_;rintro e w2 ⟨rfl,rfl⟩;dsimp only;go_wp2_with fail
   have hsy:=Uwv hz;have HS:=hid (fun w=>Yv4 s w hz);generalize Qwp s=m at HN HS hsy;obtain⟨m1,m2⟩:=hsy;refine(HS.out W).mono ?_;rintro e w2 ⟨rfl,rfl⟩;dsimp only;obtain⟨c0,c1,c2,cf,cz⟩:=Qk9 HR.out
   repeat(first|go_values|go_skip|go_guarded|go_step|go_upon)
   refine Zh (v:=.tuple #[.agg #["5",.string (s.extract 0 m),"0"],m,.bool (decide (0<m))]) (by simp[results,results24,go_sem,c0,c1,c2]) rfl ⟨by rw[HN.out],?_⟩;exact Qz5 _ _ _ (Zz _) HB.out
  ·have HG:=hid (fun n=>Ujf (n:=n) hz HC.out hr);have HR0:=hid hr;rw[hr] at HI;clear hr;go_wp2_with fail
   refine(HI.out W).mono ?_;rintro e w2 ⟨rfl,rfl⟩;dsimp only;go_wp2_with fail
   clear HI
   go_loop [5] (fun i=>∃n:Nat,i=.int .i64 n∧1≤n∧n≤s.size∧∀j,(h:j<n)→(h':j<s.size)→Qvt s[j]=true) (fun i=>s.size-(intOf i).toNat)
   case atStart=>exact⟨1,rfl,Zz _,hz,fun j h h'=>(by(obtain rfl:j=0:=(by omega));exact HR0.out)⟩
   case round=>
    obtain⟨n,rfl,hn1,hn2,hall⟩:=hrel;have HA:=hid hall;clear hall;by_cases hgo:∃h:n<s.size,Qvt s[n]=true
    ·obtain⟨hlt,hr⟩:=hgo;have HI:=hid (fun w=>Jkq s[n] w)
     have HA2:Hid (∀j,(h:j<n+1)→(h':j<s.size)→Qvt s[j]=true):=hid fun j h h'=>by
      by_cases e:j=n
      ·subst e;exact hr
      ·exact HA.out j (by omega) h'
     rw[hr] at HI;clear hr;have hlt':(n:Int)<s.size:=by omega
     go_wp2_with fail
     refine(HI.out W).mono ?_;rintro e w2 ⟨rfl,rfl⟩;dsimp only;go_wp2_with fail
     go_round
     case rel=>exact⟨n+1,by go_num,by omega,by omega,HA2.out⟩
     case measure=>simp[intOf];omega
    ·have hno:∀h:n<s.size,Qvt s[n]=false:=fun h=>by
      cases e:Qvt s[n]
      ·rfl
      ·exact absurd ⟨h,e⟩ hgo
     obtain⟨k,t,b,h1,h2⟩:=HG.out n (Uwm HA.out hn2 hno);have HN:=hid h2;have HRUN:=hid (fun w h=>h1▸Uwu (s.extract 0 n) w (by simp;omega) (by simp;omega) h);have HNO:=hid hno;clear h1 h2 hgo hno HG;by_cases hlt:n<s.size
     case' pos=>
      have HI:=hid (fun w=>Jkq s[n] w);rw[HNO.out hlt] at HI;have hlt':(n:Int)<s.size:=by omega
      go_wp2_with fail
      refine(HI.out W).mono ?_;rintro e w2 ⟨rfl,rfl⟩;dsimp only
     case' neg=>
      have hlt':¬(n:Int)<s.size:=by omega
     all_goals
      go_wp2_with fail
      refine(HRUN.out W HTW.out).mono ?_;rintro e w2 ⟨rfl,hw2⟩;have HW2:=hid (HB.out.trans (hw2.mono (by omega)));have hz2:=hw2.size;have hr2:=(hw2.block w.heap.size hz0).trans HR.out;have HR2:=hid hr2;clear hw2 hr2;dsimp only;go_upto_region 8 with fail
      generalize hW4:Qw w2 _=w4;have ht4:w4.heap[w2.heap.size]?=some (.cells #[k,t,"0"] 51 (0,0)):=by rw[←hW4];exact Zw w2 _
      have hw4:Below w2.heap.size w2 w4:=by rw[←hW4];exact(Below.refl _ _).alloc (Zz _) _
      have HW4:=hid (HW2.out.trans (hw4.mono (by omega)));obtain⟨c0,c1,c2,cf,cz⟩:=Qk9 ((hw4.block w.heap.size (by omega)).trans HR2.out);obtain⟨d0,d1,d2,df,dz⟩:=Qk9 ht4;clear hW4 hw4 ht4
      repeat(first|go_values|go_skip|go_guarded|go_step|go_upon)
      refine Zh (v:=.tuple #[.agg #[k,t,"0"],.int .i64 n,b]) (by simp[results,results24,go_sem,c0,c1,c2]) rfl ⟨by rw[HN.out],?_⟩;exact Qz5 _ _ _ (Zz _) HW4.out
abbrev Tok:=Int×ByteArray×Nat
def Uww(x:Tok)(cs:List Value):Prop:=cs=[.int .i64 x.1,.string x.2.1,.int .i64 x.2.2]
theorem Uwx:(prog.info? 51).map (fun i=>(i.zero,i.size,i.bytes))=some (some (.agg #["0","","0"]),3,32):=by kernel_rfl
theorem Ux5(y:Tok)(cs:List Value)(h:Uww y cs):∀u∈cs,u.oneCell'=true:=by
 subst h;simp[Value.oneCell']
def Yv6(s:ByteArray)(l:List Tok)(at_ er:Int):Prop:=
 (4096<s.size∧l=[]∧at_=4096∧er=10)∨(s.size≤4096∧Qkb s (s.size+1) 0=.ok l∧at_=0∧er=0)∨(s.size≤4096∧∃i:Nat,Qkb s (s.size+1) 0=.bad i∧l=[]∧at_=i∧er=1)
def Uwy(s:ByteArray)(w:World)(e:Ending)(w':World):Prop:=
 ∃(v:Value) (at_ er:Int) (l:List Tok),e=.returned (.tuple #[v,at_,er])∧Qqf w.heap.size w' 51 3 Uww v l∧Below w.heap.size w w'∧Yv6 s l at_ er
theorem Ujh{c:UInt8}(h1:c.toNat≠32)(h2:c.toNat≠9)(h3:c.toNat≠10):Qw9 c=false:=by simp[Qw9,h1,h2,h3]
theorem Yv7{u:ByteArray}{k:Int}{t:ByteArray}{n:Nat}{b:Bool}(h:Qka u=((k,t),n,b)):Jx3 u=.tuple #[.agg #[k,t,"0"],n,b]:=by
 unfold Jx3;rw[h]
theorem Jqr(s:ByteArray)(w:World)(hs:s.size≤maxLen)(h:Qws w):Calls prog 8 #[s] w (Uwy s w):=by
 unfold maxLen at hs;have HT:=hid h;clear h;by_cases hbig:4096<s.size
 ·have hbig':(4096:Int)<s.size:=by omega
  go_enter func8,ntmps8;go_wp2_with fail
  go_step3
  go_wp2_with fail
  (try rw[Exit.noGoto_ret])
  go_ret3
  exact⟨_,_,_,[],rfl,Qqf.nil ..,Below.refl _ _,.inl ⟨hbig,rfl,rfl,rfl⟩⟩
 ·have hle:s.size≤4096:=by omega
  have hbig':¬(4096:Int)<s.size:=by omega
  go_enter func8,ntmps8;go_wp2_with fail
  go_step3
  go_wp2_with fail
  go_step3
  go_wp2_with fail
  go_loopw[5,6] (fun v i wr=>∃(f k:Nat) (l:List Tok),i=.int .i64 k∧k≤s.size∧s.size+1≤f+k∧l.length≤k∧Yx3 l (Qkb s f k)=Qkb s (s.size+1) 0∧Qqf w.heap.size wr 51 3 Uww v l∧Below w.heap.size w wr) (fun _ i _=>s.size-(intOf i).toNat)
  case atStart=>exact⟨s.size+1,0,[],rfl,Zi _,Zz _,Zz _,Yx4 _,Qqf.nil ..,Below.refl _ _⟩
  case round=>
   obtain⟨f,k,l,rfl,hk,hf,hlk,hp,ho,hb⟩:=hrel;have HP:=hid hp;have HO:=hid ho;have HB:=hid hb;obtain⟨a,cap,hv,hlm⟩:=ho.shape;subst hv;clear hp ho hb;by_cases hlt:k<s.size
   ·by_cases h32:s[k].toNat=32∨s[k].toNat=9∨s[k].toNat=10
    ·have HN:Hid (Yx3 l (Qkb s (f-1) (k+1))=Qkb s (s.size+1) 0):=hid (by rw[←HP.out,Jwv hlt hf (by rcases h32 with h|h|h<;>simp[Qw9,h])]);rcases h32 with h|h|h
     case' inl=>have h1:((s[k].toNat:Int)==32)=true:=by simp[h]
     case' inr.inl=>
      have h1:((s[k].toNat:Int)==32)=false:=by simp[h]
      have h2:((s[k].toNat:Int)==9)=true:=by simp[h]
     case' inr.inr=>
      have h1:((s[k].toNat:Int)==32)=false:=by simp[h]
      have h2:((s[k].toNat:Int)==9)=false:=by simp[h]
      have h3:((s[k].toNat:Int)==10)=true:=by simp[h]
     all_goals
      clear h;go_wp2_with fail
      go_roundw
      case rel=>exact⟨f-1,k+1,l,by go_num,by omega,by omega,by omega,HN.out,HO.out,HB.out⟩
      case measure=>simp[intOf];omega
    ·have h1:((s[k].toNat:Int)==32)=false:=by simp only[Jw];omega
     have h2:((s[k].toNat:Int)==9)=false:=by simp only[Jw];omega
     have h3:((s[k].toNat:Int)==10)=false:=by simp only[Jw];omega
     have HS:=hid (Ujh (c:=s[k]) (by omega) (by omega) (by omega));clear h32;go_wp2_with fail
     rcases hn:Qka (s.extract k s.size) with⟨⟨kk,t⟩,n,b⟩
     have HX:=hid (fun w h=>Yv7 hn▸Ux4 (s.extract k s.size) w (by simp;omega) (by simp;omega) h);have hle2:=Yx0 (s.extract k s.size);rw[hn] at hle2;refine(HX.out wr (HT.out.bel HB.out)).mono ?_;rintro e w2 ⟨rfl,hw2⟩;dsimp only;cases b
     ·have HN:=hid (Uwn hlt hf HS.out hn);have HB2:=hid (HB.out.trans (hw2.mono HB.out.size));clear hle2 hn HX hw2;go_wp2_with fail
      (try rw[Exit.noGoto_ret])
      go_ret3
      refine⟨_,_,_,[],rfl,Qqf.nil ..,?_,.inr (.inr ⟨hle,k,?_,rfl,rfl,rfl⟩)⟩
      ·exact HB2.out.alloc HB2.out.size _
      ·rw[←HP.out,HN.out];rfl
     ·have HN:=hid (Yx5 l hlt hf HS.out hn);obtain⟨n1,n2⟩:=hle2 rfl;have n3:n≤s.size-k:=by simpa using n2
      have HW2:=hid hw2;clear hn HX hw2 n2;dsimp only at n1;go_upto_region 15 with fail
      generalize hW3:Qw w2 _=w3;have ht3:w3.heap[w2.heap.size]?=some (.cells #[kk,t,k] 51 (0,0)):=by rw[←hW3];exact Zw w2 _
      have hw3:Below wr.heap.size wr w3:=by rw[←hW3];exact HW2.out.alloc HW2.out.size _
      have HB3:=hid (HB.out.trans (hw3.mono HB.out.size));have HO3:=hid (Qqf.kept HO.out (M:=fun _=>False) (.bel hw3) (fun _ _=>id) fun _ _ _ h=>h);obtain⟨d0,d1,d2,df,dz⟩:=Qk9 ht3;clear hW3 hw3 ht3
      go_wp2_with(at_builtin;go_loud (refine Qje rfl _ _ 46 rfl 51 _ 3 32 underlying46 Uwx rfl (by decide) (R:=Uww) (M:=fun _=>False) w.heap.size (.slice a l.length cap) (.slice (some ⟨w3.heap.size,0,none⟩) 1 1) l [(kk,t,k)] rfl rfl (Qqf.kept HO3.out ((Qqb.refl (fun _=>False) w3).alloc _) (fun _ _=>id) fun _ _ _ h=>h) (Qq6 (kk,t,k) rfl id rfl rfl) (fun y _ cs h=>Ux5 y cs h) (by simp;omega) (by simp[maxLen];omega) (by have:=HB3.out.size;simp;omega) ?_;intro v4 w4 ho hk _;have HB4:=hid ((HB3.out.alloc HB3.out.size (.cells #[kk,t,k] 51)).trans (hk.toBelow (B:=w.heap.size) (by have:=HB3.out.size;simp;omega) fun g hg h=>by have:=(Qqf.lt HO3.out h).1;omega));have HO4:=hid ho;clear ho hk))
      go_roundw
      case rel=>exact⟨f-1,k+n,l++[(kk,t,k)],by go_num,by omega,by omega,by simp;omega,by rw[←HN.out,HP.out],HO4.out,HB4.out⟩
      case measure=>simp[intOf];omega
   ·obtain rfl:k=s.size:=by omega
    have HN:Hid (Qkb s (s.size+1) 0=.ok l):=hid (by rw[←HP.out,Jwu (Zz _)];simp[Yx3]);go_wp2_with fail
    (try rw[Exit.noGoto_ret])
    go_ret3
    exact⟨_,_,_,l,rfl,HO.out,HB.out,.inr (.inl ⟨hle,HN.out,rfl,rfl⟩)⟩
def s1T:ByteArray:=⟨#[97,60,61,49]⟩
def s2T:ByteArray:=⟨#[105,116,39,115]⟩
theorem Uwz:Qkb s1T 5 0=.ok [(2,⟨#[97]⟩,0),(5,⟨#[60,61]⟩,1),(3,⟨#[49]⟩,3)]:=by decide+kernel
theorem Uw0:Qkb s2T 5 0=.bad 2:=by decide+kernel
theorem Kq2{l:List Tok}{a e:Int}(h:Yv6 s1T l a e):l=[(2,⟨#[97]⟩,0),(5,⟨#[60,61]⟩,1),(3,⟨#[49]⟩,3)]∧a=0∧e=0:=by
 have k:=Uwz
 rcases h with⟨h,_⟩|⟨_,h,h1,h2⟩|⟨_,i,h,_⟩
 ·exact absurd h (by decide)
 ·rw[show s1T.size+1=5 from rfl,k] at h;cases h;exact⟨rfl,h1,h2⟩
 ·rw[show s1T.size+1=5 from rfl,k] at h;cases h
theorem Kq3{l:List Tok}{a e:Int}(h:Yv6 s2T l a e):l=[]∧a=2∧e=1:=by
 have k:=Uw0
 rcases h with⟨h,_⟩|⟨_,h,h1,h2⟩|⟨_,i,h,h0,h1,h2⟩
 ·exact absurd h (by decide)
 ·rw[show s2T.size+1=5 from rfl,k] at h;cases h
 ·rw[show s2T.size+1=5 from rfl,k] at h;cases h;exact⟨h0,h1,h2⟩
theorem Ykf(w:World)(h:Qws w):Calls prog 11 #[] w (Qqd true w):=by
 have HT:=hid h;have H1:=hid (fun w h=>Jqr s1T w (by decide) h);have H2:=hid (fun w h=>Jqr s2T w (by decide) h);unfold s1T at H1;unfold s2T at H2;clear h;go_enter func11,ntmps11;go_wp2_with fail
 refine(H1.out w HT.out).mono ?_;rintro e w1 ⟨v1,a1,e1,l,rfl,ho,hb,hout⟩;obtain⟨rfl,rfl,rfl⟩:=Kq2 hout;have HB1:=hid hb;have hr:=ho.rows (M:=fun _=>False) fun _ _ _=>id
 rcases hr.open with⟨⟨a,rfl⟩,h0⟩|⟨b,o,cap,rfl,_,hbz,hcap,hcm,hx⟩
 ·cases h0
 obtain⟨cs,rfl,_,hcs⟩:=hx 1 _ rfl;have HC:=hid hcs.c3;clear ho hb hr hx hcs hout;dsimp only;go_wp2_with fail
 refine(H2.out w1 (HT.out.bel HB1.out)).mono ?_;rintro e w2 ⟨v2,a2,e2,l,rfl,ho,hb,hout⟩;obtain⟨rfl,rfl,rfl⟩:=Kq3 hout;have HB2:=hid (HB1.out.trans (hb.mono HB1.out.size));obtain⟨g0,g1,g2⟩:=HC.out;have c0:=(hb.cell (p:=⟨b,o+1*3,none⟩) hbz).trans g0;have c1:=(hb.cell (p:=⟨b,o+1*3+1,none⟩) hbz).trans g1;have c2:=(hb.cell (p:=⟨b,o+1*3+2,none⟩) hbz).trans g2;simp only[Nat.one_mul] at c0 c1 c2;clear ho hb hout g0 g1 g2;simp only[Zb,Yw,Ye,Nat.reduceAdd] at hcap⊢;go_wp2_with fail
 go_ret;exact⟨rfl,HB2.out⟩
def Kz1:List (List UInt8):=[[97],[48],[49,50],[48,48],[57,50,50,51,51,55,50,48,51,54,56,53,52,55,55,53,56,48,55],[57,50,50,51,51,55,50,48,51,54,56,53,52,55,55,53,56,48,56],[39],[39,39],[60],[62],[61],[83,69,76,69,67,84],[115,101,108,101,99,116],[32],[10],[120,95,57],[45],[40],[66],[46]]
def Kz6(i:Nat):ByteArray:=⟨(Kz1.getD i []).toArray⟩
def Kzu(w:World):Prop:=∀i:Nat,i<20→w.cell? ⟨0,i,none⟩=some (.string (Kz6 i))
theorem Kzu.keep{M:Nat→Prop}{w w':World}(h:Kzu w)(k:Qqb M w w')(hM:¬M 0):Kzu w':=fun i hi=>
 (k.cell (Za _ _ (h i hi)) hM).trans (h i hi)
theorem Qws.at{T:Nat}{w w':World}(h:Qws w)(k:Qqb (At T) w w')(hT:10<T):Qws w':=h.keep k fun j hj hh=>by unfold At at hh;omega
theorem Uxo{P:Program}{W:World}{name nm:String}{d:DataW Unit}{rest:List (String×DataW Unit)}{g:Nat}{t:TypeId}{ms:Array (String×TypeId)}
 (hg:P.globalNamed name=some g)(hty:(P.globals[g]?).map (·.type)=some t)(ht:P.underlying t=some (.interface ms))(h:laidMet P ((name,.iface nm d)::rest) W):∃te pe,W.cell? ⟨g,0,none⟩=some (.iface te pe):=by
 obtain⟨ps,⟨g',t',cs,fuel,p,q,hg',ht',hvar,hd,_,_⟩,_⟩:=h;obtain rfl:=Jf (hg.symm.trans hg');obtain rfl:=Jf (hty.symm.trans ht');obtain⟨l⟩:=cs;obtain⟨f1,u,v,rfl,_,_⟩:=iface_of_trod ht hd;exact⟨u,v,by have h2:=World.var?_cell hg hvar 0;rw[h2];rfl⟩
theorem Kza:prog.globalNamed "strconv.ErrSyntax"=some 9:=by kernel_rfl
theorem Kzb:prog.globalNamed "strconv.ErrRange"=some 10:=by kernel_rfl
theorem Kzc:(prog.globals[9]?).map (·.type)=some 95:=by kernel_rfl
theorem Kzd:(prog.globals[10]?).map (·.type)=some 95:=by kernel_rfl
theorem Kqs{W:World}{r1 r2 r3:List (String×DataW Unit)}(h1:laidMet prog (("internal/strconv.uint64pow10",Rows.laid_internal_strconv_uint64pow10)::r1) W)(h2:laidMet prog (("strconv.ErrRange",Rows.laid_strconv_ErrRange)::r2) W)(h3:laidMet prog (("strconv.ErrSyntax",Rows.laid_strconv_ErrSyntax)::r3) W):Qws W:=by
 have e2:=Uxo Kzb Kzd underlying95 h2;have e3:=Uxo Kza Kzc underlying95 h3;refine⟨Uxn h1,e3,e2,?_⟩;obtain⟨_,_,h⟩:=e2;exact Za _ _ h
def Kze:ByteArray:=⟨#[105,110,118,97,108,105,100,32,115,121,110,116,97,120]⟩
def Kzf:ByteArray:=⟨#[118,97,108,117,101,32,111,117,116,32,111,102,32,114,97,110,103,101]⟩
noncomputable def Kjx:Nat:=(World.holding prog default ⟨#[],#[],[]⟩).heap.size
def wrT(k:Int)(t:ByteArray):ByteArray:=if k=4 then bs (39::(Qwu t.data.toList++[39])) else t
theorem Jjp:∀(l:List UInt8) (i:Nat) (acc t:List UInt8) (n:Nat),Qj5 l i acc=some (t,n)→∃u,t=acc++u∧n=i+(Qwu u).length+1
 |[],_,_,_,_,h=>by cases h
 |[c],i,acc,t,n,h=>by
  unfold Qj5 at h
  split at h
  ·cases h;exact⟨[],by simp,by simp[Qwu]⟩
  ·cases h
 |c::d::l,i,acc,t,n,h=>by
  unfold Qj5 at h
  split at h
  ·split at h
   ·obtain⟨u,rfl,rfl⟩:=Jjp l _ _ _ _ h;refine⟨39::u,by simp,?_⟩;rw[Jqa,if_pos rfl];simp;omega
   ·cases h;exact⟨[],by simp,by simp[Qwu]⟩
  ·rename_i hc
   obtain⟨u,rfl,rfl⟩:=Jjp (d::l) _ _ _ _ h;refine⟨c::u,by simp,?_⟩;have:c≠39:=fun e=>hc (by rw[e];rfl);rw[Jqa,if_neg this];simp;omega
theorem Yx9{s t:ByteArray}{k:Int}(h:Jko s=some (k,t)):t=s∧(k=1∨k=2∨k=3):=by
 unfold Jko at h
 split at h
 ·cases h;exact⟨rfl,.inl rfl⟩
 ·split at h
  ·cases h;exact⟨rfl,.inr (.inl rfl)⟩
  ·split at h
   ·split at h
    ·cases h;exact⟨rfl,.inr (.inr rfl)⟩
    ·cases h
   ·cases h
theorem Yyj{p:UInt8→Bool}:∀(l:List UInt8) (c:UInt8),c∈l.takeWhile p→p c=true
 |[],_,h=>by cases h
 |d::l,c,h=>by
  rw[Qq] at h
  split at h
  ·rename_i hd
   rcases Zs.1 h with rfl|h
   ·exact hd
   ·exact Yyj l c h
  ·cases h
theorem Jw2:∀c∈Yv2,[c]∈Qyb:=by decide+kernel
theorem Jx2(u:ByteArray)(n:Nat):(u.extract 0 n).data.toList=u.data.toList.take n:=by
 rw[Qx];simp
theorem Uwq{u:ByteArray}(h:0<Qwp u):(u.extract 0 (Qwp u)).data.toList∈Qyb∧(u.extract 0 (Qwp u)).size=Qwp u:=by
 rw[Yqu] at h⊢;rw[Qjx,Jx2];generalize u.data.toList=l at h⊢
 match l with
 |[]=>simp[Jx0] at h
 |[c]=>
  simp only[Jx0] at h⊢
  split at h
  ·rename_i hc
   rw[if_pos hc];exact⟨Jw2 c (by simpa using hc),by simp⟩
  ·omega
 |c::d::r=>
  simp only[Jx0] at h⊢;by_cases h2:(c=60∧(d=62∨d=61))∨(c=62∧d=61)
  ·rw[if_pos h2];refine⟨?_,by simp⟩;rcases h2 with⟨rfl,rfl|rfl⟩|⟨rfl,rfl⟩<;>simp[Qyb]
  ·rw[if_neg h2] at h⊢
   split at h
   ·rename_i hc
    rw[if_pos hc];exact⟨Jw2 c (by simpa using hc),by simp⟩
   ·omega
theorem Uxz{u t:ByteArray}{k:Int}{n:Nat}(h:Qka u=((k,t),n,true)):TW (wrT k t) k t∧(wrT k t).size=n:=by
 unfold Qka at h
 cases hl:u.data.toList with
 |nil=>rw[hl] at h;cases h
 |cons c l=>
  rw[hl] at h;simp only at h;by_cases h39:c.toNat=39
  ·rw[if_pos h39] at h
   cases hq:Qj5 l 1 [] with
   |none=>rw[hq] at h;cases h
   |some p=>
    obtain⟨t',n'⟩:=p;rw[hq] at h;simp only[Prod.mk.injEq] at h;obtain⟨⟨rfl,rfl⟩,rfl,hp⟩:=h;obtain⟨v,hv,hn⟩:=Jjp _ _ _ _ _ hq;simp only[List.nil_append] at hv;subst hv;unfold wrT;rw[if_pos rfl];refine⟨.txt _ hp,?_⟩;rw[Qjx];simp[bs];omega
  ·rw[if_neg h39] at h;by_cases hr:Qvt c=true
   ·rw[if_pos hr] at h
    cases hp:Jko (u.extract 0 (Jjm (c::l))) with
    |none=>rw[hp] at h;cases h
    |some kt=>
     obtain⟨k',t'⟩:=kt;rw[hp] at h;simp only[Prod.mk.injEq] at h;obtain⟨⟨rfl,rfl⟩,rfl,_⟩:=h;obtain⟨rfl,hk⟩:=Yx9 hp;have h4:k'≠4:=by omega
     have hx:(u.extract 0 (Jjm (c::l))).data.toList=(c::l).takeWhile Qvt:=by
      rw[Jx2,hl];unfold Jjm;exact(List.prefix_iff_eq_take.1 (List.takeWhile_prefix Qvt)).symm
     unfold wrT;rw[if_neg h4];refine⟨.run _ k' ?_ ?_ hp,?_⟩
     ·rw[hx,Qq,if_pos hr];exact List.cons_ne_nil _ _
     ·intro d hd;rw[hx] at hd;exact Yyj _ d hd
     ·rw[Qjx,hx];rfl
   ·rw[if_neg hr] at h;simp only[Prod.mk.injEq,Zu] at h;obtain⟨⟨rfl,rfl⟩,rfl,hp⟩:=h;obtain⟨h1,h2⟩:=Uwq hp;unfold wrT;rw[if_neg (by decide)];exact⟨.sym _ h1,h2⟩
theorem Jjq(s:ByteArray):∀(f i:Nat) (l:List (Int×ByteArray×Nat)),Qkb s f i=.ok l→i≤s.size→(∀x∈l,TW (wrT x.1 x.2.1) x.1 x.2.1)∧(l.map fun x=>(wrT x.1 x.2.1).size).sum+i≤s.size
 |0,i,l,h,hi=>by
  rw[Qkb] at h;cases h;exact⟨fun x hx=>(by cases hx),by simpa using hi⟩
 |f+1,i,l,h,hi=>by
  rw[Qkb] at h;by_cases hlt:i<s.size
  ·rw[dif_pos hlt] at h;by_cases hs:Qw9 s[i]=true
   ·rw[if_pos hs] at h;have ih:=Jjq s f (i+1) l h (by omega);exact⟨ih.1,by omega⟩
   ·rw[if_neg hs] at h;have hle:=Yx0 (s.extract i s.size)
    rcases hn:Qka (s.extract i s.size) with⟨⟨k,t⟩,n,ok⟩
    rw[hn] at h hle;cases ok
    ·simp at h
    ·simp only at h hle;have hle:=hle trivial;have hsz:(s.extract i s.size).size=s.size-i:=by simp
     rw[hsz] at hle;obtain⟨h1,h2⟩:=Uxz hn
     cases ht:Qkb s f (i+n) with
     |bad e=>rw[ht] at h;cases h
     |ok l'=>
      rw[ht] at h;simp only[TR.ok.injEq] at h;subst h;have ih:=Jjq s f (i+n) l' ht (by omega);refine⟨fun x hx=>?_,?_⟩
      ·rcases Zs.1 hx with rfl|hx
       ·exact h1
       ·exact ih.1 x hx
      ·rw[Yc,Kc];simp only[h2];omega
  ·rw[dif_neg hlt] at h;cases h;exact⟨fun x hx=>(by cases hx),by simpa using hi⟩
def Jq6(sep:List UInt8):List ByteArray→List UInt8
 |[]=>[]
 |[w]=>w.data.toList
 |w::x::ws=>w.data.toList++sep++Jq6 sep (x::ws)
theorem Uq8(sep:List UInt8)(hsp:∀c∈sep,c=9∨c=10∨c=32)(hne:sep≠[])(ws:List ByteArray):Yzb (sep++Jq6 sep ws):=by
 intro c r e
 cases sep with
 |nil=>exact absurd rfl hne
 |cons d sep=>
  rw[Ji] at e;obtain⟨rfl,_⟩:=List.cons.inj e;rcases hsp d (by simp) with rfl|rfl|rfl<;>simp
theorem Jvh(s:ByteArray)(rest:List UInt8):∀(sep:List UInt8) (f i:Nat),(∀c∈sep,Qw9 c=true)→s.data.toList.drop i=sep++rest→s.size+1≤f+i→Qkb s f i=Qkb s (f-sep.length) (i+sep.length)∧s.data.toList.drop (i+sep.length)=rest∧(i≤s.size→i+sep.length≤s.size)
 |[],f,i,_,hd,_=>⟨rfl,hd,id⟩
 |c::sep,f,i,hs,hd,hf=>by
  have hlt:i<s.size:=by
   rcases Nat.lt_or_ge i s.size with h|h
   ·exact h
   ·rw[Kw (by simpa using h)] at hd;cases hd
  rw[Qxc hlt,Ji] at hd;obtain⟨h1,h2⟩:=List.cons.inj hd;obtain⟨a,b,c'⟩:=Jvh s rest sep (f-1) (i+1) (fun d hd=>hs d (by simp[hd])) h2 (by omega);rw[Jwv hlt hf (by rw[h1];exact hs c (by simp)),a];refine⟨?_,?_,?_⟩
  ·rw[show f-1-sep.length=f-(c::sep).length by simp;omega,show i+1+sep.length=i+(c::sep).length by simp;omega]
  ·rw[show i+(c::sep).length=i+1+sep.length by simp;omega];exact b
  ·intro _;have:=c' (by omega);simp;omega
theorem Yka(s:ByteArray)(sep:List UInt8)(hsp:∀c∈sep,c=9∨c=10∨c=32)(hne:sep≠[]):∀(ws:List ByteArray) (i f:Nat),s.data.toList.drop i=Jq6 sep ws→i≤s.size→(∀w∈ws,∃k t,TW w k t)→s.size+1≤f+i→∃l,Qkb s f i=.ok l∧Kqz ws l
 |[],i,f,hd,hi,_,hf=>by
  rw[Jq6] at hd;have:=congrArg List.length hd;simp at this;exact⟨[],Jwu (by omega),trivial⟩
 |[w],i,f,hd,hi,hw,hf=>by
  obtain⟨k,t,hk⟩:=hw w (by simp);rw[Jq6] at hd;obtain⟨h1,h2,h3⟩:=Yqv (rest:=[]) hk (.inr (.inr fun c r h=>by cases h)) (by simpa using hd) hf
  have hlast:Qkb s (f-1) (i+w.size)=.ok []:=by
   have:=congrArg List.length h2;simp at this;exact Jwu (by omega)
  exact⟨[(k,t,i)],by rw[h1,hlast];rfl,hk,trivial⟩
 |w::x::ws,i,f,hd,hi,hw,hf=>by
  obtain⟨k,t,hk⟩:=hw w (by simp);rw[Jq6,Jk] at hd;obtain⟨h1,h2,h3⟩:=Yqv hk (.inr (.inr (Uq8 sep hsp hne (x::ws)))) hd hf;obtain⟨c,r,hc,_⟩:=Jv0 hk;have hpos:0<w.size:=by rw[Qjx,hc];simp
  obtain⟨a,b,c'⟩:=Jvh s _ sep (f-1) (i+w.size) (fun c hc=>by rcases hsp c hc with rfl|rfl|rfl<;>decide) h2 (by omega);have hsl:i+w.size+sep.length≤s.size:=c' h3;obtain⟨l,hl,hr⟩:=Yka s sep hsp hne (x::ws) (i+w.size+sep.length) (f-1-sep.length) b hsl (fun y hy=>hw y (by simp[hy])) (by omega);exact⟨(k,t,i)::l,by rw[h1,a,hl];rfl,hk,hr⟩
theorem Jw3(sep:List UInt8):∀ws:List ByteArray,(Jq6 sep ws).length≤(ws.map ByteArray.size).sum+sep.length*(ws.length-1)
 |[]=>by simp[Jq6]
 |[w]=>by simp[Jq6]
 |w::x::ws=>by
  have:=Jw3 sep (x::ws);rw[Jq6];simp only[Zr,Yc,Kc,Zb,Qjx,Nat.add_sub_cancel] at*;rw[Nat.mul_add];omega
theorem Yqz:∀{l m:List (Int×ByteArray×Nat)},(∀x∈l,TW (wrT x.1 x.2.1) x.1 x.2.1)→Kqz (l.map fun x=>wrT x.1 x.2.1) m→m.map (fun x=>(x.1,x.2.1))=l.map fun x=>(x.1,x.2.1)
 |[],[],_,_=>rfl
 |x::l,y::m,h,hr=>by
  rw[Yc] at hr;have hx:=h x (by simp);have h1:=Yzd hx (rest:=[]) (.inr (.inr fun c r h=>by cases h)) (u:=wrT x.1 x.2.1) (by simp);have h2:=Yzd hr.1 (rest:=[]) (.inr (.inr fun c r h=>by cases h)) (u:=wrT x.1 x.2.1) (by simp);rw[h1] at h2;simp only[Prod.mk.injEq] at h2;rw[Yc,Yc,Yqz (fun y hy=>h y (by simp[hy])) hr.2,h2.1.1,h2.1.2]
 |[],_::_,_,h=>h.elim
 |_::_,[],_,h=>h.elim
theorem Uq9(s:ByteArray)(l:List (Int×ByteArray×Nat))(h:Qkb s (s.size+1) 0=.ok l)(hs:s.size≤1000)(sep:List UInt8)(hsp:∀c∈sep,c=9∨c=10∨c=32)(hne:sep≠[])(h2:sep.length≤2)(u:ByteArray)(hu:u.data.toList=Jq6 sep (l.map fun x=>wrT x.1 x.2.1)):
 u.size≤4096∧∃m,Qkb u (u.size+1) 0=.ok m∧m.map (fun x=>(x.1,x.2.1))=l.map fun x=>(x.1,x.2.1):=by
 obtain⟨h1,h3⟩:=Jjq s _ 0 l h (Zi _)
 have hlen:l.length≤(l.map fun x=>(wrT x.1 x.2.1).size).sum:=by
  clear h h3 hu
  induction l with
  |nil=>simp
  |cons x l ih=>
   obtain⟨c,r,hc,_⟩:=Jv0 (h1 x (by simp));have hpos:1≤(wrT x.1 x.2.1).size:=by rw[Qjx,hc];simp
   have:=ih fun y hy=>h1 y (by simp[hy]);simp only[Zb,Yc,Kc];omega
 refine⟨?_,?_⟩
 ·rw[Qjx,hu];have h5:=Jw3 sep (l.map fun x=>wrT x.1 x.2.1);rw[List.map_map,Ys] at h5;have h6:(l.map (ByteArray.size∘fun x=>wrT x.1 x.2.1)).sum=(l.map fun x=>(wrT x.1 x.2.1).size).sum:=rfl;rw[h6] at h5;have h7:sep.length*(l.length-1)≤2*1000:=Nat.mul_le_mul h2 (by omega);omega
 ·obtain⟨m,hm,hr⟩:=Yka u sep hsp hne _ 0 (u.size+1) (by rw[List.drop_zero];exact hu) (Zi _) (fun w hw=>by
   obtain⟨x,hx,rfl⟩:=List.mem_map.1 hw
   exact⟨_,_,h1 x hx⟩) (by omega)
  exact⟨m,hm,Yqz h1 hr⟩
theorem Yyl{a b:ByteArray}(h:a=b):Ending.returned a=.returned b:=by rw[h]
def Jvt(k:Int)(t:ByteArray):ByteArray:=if k=4 then txt (Qzt ⟨3,0,t⟩) else if k=1∨k=2∨k=3∨k=5 then t else⟨#[]⟩
theorem Uw1{k:Int}{t:ByteArray}(h4:k≠4)(h:¬(k=1∨k=2∨k=3∨k=5)):Jvt k t=⟨#[]⟩:=by rw[Jvt,if_neg h4,if_neg h]
theorem Uw2{t:ByteArray}(ht:t.size≤maxLen):Jvb ⟨3,0,t⟩:=⟨ht,by show(-9223372036854775808:Int)≤0;omega,by show(0:Int)≤9223372036854775807;omega,by show(-9223372036854775808:Int)≤3;omega,by show(3:Int)≤9223372036854775807;omega⟩
theorem Ux6(k i:Int)(t:ByteArray)(w:World)(ht:t.size≤maxLen)(hl:Qzf w)(hs:10<w.heap.size):
 Calls prog 10 #[.agg #[k,t,i]] w (Qqd (.string (Jvt k t)) w):=by
 have hb:Below w.heap.size w (w.alloc (.cells #[k,t,i] 51)):=(Below.refl _ _).alloc (Zz _) _;have HB:=hid hb;have HL:=hid (hl.bel hb hs);have HF:=hid (show ∀w,Qzf w→10<w.heap.size→Calls prog 25 #[.agg #["3","0",t]] w (Qqd (.string (txt (Qzt ⟨3,0,t⟩))) w) from fun w h hs=>Uxm ⟨3,0,t⟩ (Uw2 ht) w h hs);clear hb hl ht;by_cases h4:k=4
 ·subst h4;have HT:Hid (Jvt 4 t=txt (Qzt ⟨3,0,t⟩)):=hid rfl;generalize txt (Qzt ⟨3,0,t⟩)=r at HF HT;go_enter func10,ntmps10;go_wp2_with fail
  refine(HF.out _ HL.out (by simp;omega)).mono ?_;rintro e w2 ⟨rfl,hb2⟩;have HB2:=hid (HB.out.trans (hb2.mono (by simp)));clear hb2;dsimp only;go_wp2_with fail
  go_ret;exact⟨Yyl HT.out.symm,HB2.out⟩
 ·by_cases h:k=1∨k=2∨k=3∨k=5
  ·rcases h with rfl|rfl|rfl|rfl
   all_goals
    clear HF;go_enter func10,ntmps10;go_wp2_with fail
    go_ret;exact⟨rfl,HB.out⟩
  ·have HT:=hid (Uw1 (t:=t) h4 h);have e1:(k==1)=false:=by simp only[Jw];omega
   have e2:(k==2)=false:=by simp only[Jw];omega
   have e3:(k==3)=false:=by simp only[Jw];omega
   have e4:(k==4)=false:=by simp only[Jw];omega
   have e5:(k==5)=false:=by simp only[Jw];omega
   clear HF h h4;go_enter func10,ntmps10;go_wp2_with fail
   go_ret;exact⟨Yyl HT.out.symm,HB.out⟩
end Go.Proofs.YtgepbohjmgaojaaGreatDoor
