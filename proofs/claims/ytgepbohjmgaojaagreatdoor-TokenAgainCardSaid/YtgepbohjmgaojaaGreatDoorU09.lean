/- The texts of the tokens of a text, with spaces or line ends between them: the walk of TokenAgain, over what AnyStatement and the reference's Statement return. -/
import Derived.Test.YtgepbohjmgaojaaGreatDoorU08
set_option linter.all false
namespace Go.Proofs.YtgepbohjmgaojaaGreatDoor
open World renaming setCell→Qg
open Value renaming slice→Qv
open Lib(hid)
open Go.RowKit
theorem Uw3{k:Int}{t:ByteArray}(h:TW (wrT k t) k t):Jvt k t=wrT k t:=by
 generalize hw:wrT k t=w at h⊢
 cases h with
 |run _ _ h0 ha hr=>
  obtain⟨_,hk⟩:=Yx9 hr;have h4:k≠4:=by rcases hk with rfl|rfl|rfl<;>decide
  rw[Jvt,if_neg h4,if_pos (by rcases hk with h|h|h;exact .inl h;exact .inr (.inl h);exact .inr (.inr (.inl h)))]
 |sym _ h=>rw[Jvt,if_neg (by decide),if_pos (by simp)]
 |txt _ hp=>
  rw[Jvt,if_pos rfl];have hv:Qqs ⟨3,0,t⟩=true:=by simp[Qqs,hp]
  show txt (Qzt ⟨3,0,t⟩)=bs _;rw[Qzt,if_neg (by rw[hv];simp),if_neg (show ¬(3:Int)=0 by decide),if_neg (show ¬(3:Int)=1 by decide),if_neg (show ¬(3:Int)=2 by decide),Jw1];rfl
theorem Yq1(sep:List UInt8)(x:ByteArray):∀ws:List ByteArray,ws≠[]→Jq6 sep (ws++[x])=Jq6 sep ws++(sep++x.data.toList)
 |[],h=>absurd rfl h
 |[w],_=>by simp[Jq6]
 |w::y::ws,_=>by
  have ih:=Yq1 sep x (y::ws) (by simp);show w.data.toList++sep++Jq6 sep (y::ws++[x])=w.data.toList++sep++Jq6 sep (y::ws)++_;rw[ih];simp
def Qyc(sep:List UInt8)(l:List Tok)(j:Nat):ByteArray:=bs (Jq6 sep ((l.take j).map fun x=>wrT x.1 x.2.1))
theorem Yv8(sep:List UInt8)(l:List Tok):Qyc sep l 0=⟨#[]⟩:=rfl
theorem Yv9{sep:List UInt8}{l:List Tok}{j:Nat}{x:Tok}(hx:l[j]?=some x):Qyc sep l (j+1)=if j=0 then wrT x.1 x.2.1 else Qyc sep l j++bs sep++wrT x.1 x.2.1:=by
 unfold Qyc;have hj:j<l.length:=(Yq.1 hx).1;rw[Jh,hx,Option.toList_some,Ke,List.map_singleton];by_cases h0:j=0
 ·subst h0;rw[if_pos rfl];rfl
 ·rw[if_neg h0,Yq1 _ _ _ (by
   intro h;have:=congrArg List.length h;rw[Ys,Jm,Yw] at this
   omega)]
  have:∀a b:List UInt8,bs (a++b)=bs a++bs b:=fun a b=>by
   apply ByteArray.ext;simp[bs]
  rw[this,this,←ByteArray.append_assoc];rfl
theorem Ykg{sep:List UInt8}(h2:sep.length≤2){s:ByteArray}{l:List Tok}(h:Qkb s (s.size+1) 0=.ok l)(hs:s.size≤1000)(j:Nat):(Qyc sep l j).size≤3000∧l.length≤1000∧∀x∈l,(wrT x.1 x.2.1).size≤1000∧Jvt x.1 x.2.1=wrT x.1 x.2.1:=by
 obtain⟨h1,h30⟩:=Jjq s _ 0 l h (Zi _);have h3:(l.map fun x:Tok=>(wrT x.1 x.2.1).size).sum+0≤s.size:=h30
 have hpos:∀x∈l,1≤(wrT x.1 x.2.1).size:=fun x hx=>by
  obtain⟨c,r,hc,_⟩:=Jv0 (h1 x hx);rw[Qjx,hc];simp
 have hle:∀l':List Tok,(∀x∈l',1≤(wrT x.1 x.2.1).size)→l'.length≤(l'.map fun x=>(wrT x.1 x.2.1).size).sum:=fun l' hp=>by
  induction l' with
  |nil=>simp
  |cons x l' ih=>
   have:=ih fun y hy=>hp y (by simp[hy]);have:=hp x (by simp);simp only[Zb,Yc,Kc];omega
 have htk:((l.take j).map fun x=>(wrT x.1 x.2.1).size).sum≤(l.map fun x=>(wrT x.1 x.2.1).size).sum:=by
  conv=>rhs;rw[←List.take_append_drop j l]
  rw[Ke,List.sum_append];omega
 have hlen:=hle l hpos;refine⟨?_,by omega,fun x hx=>⟨?_,Uw3 (h1 x hx)⟩⟩
 ·have h5:=Jw3 sep ((l.take j).map fun x=>wrT x.1 x.2.1);rw[List.map_map,Ys] at h5;have h6:((l.take j).map (ByteArray.size∘fun x=>wrT x.1 x.2.1)).sum=((l.take j).map fun x=>(wrT x.1 x.2.1).size).sum:=rfl;rw[h6] at h5;have h7:sep.length*((l.take j).length-1)≤2*1000:=Nat.mul_le_mul h2 (by rw[Jm];omega);rw[Qjx];show(Jq6 sep _).length≤3000;omega
 ·have:∀l':List Tok,x∈l'→(wrT x.1 x.2.1).size≤(l'.map fun x=>(wrT x.1 x.2.1).size).sum:=fun l' hm=>by
   induction l' with
   |nil=>cases hm
   |cons y l' ih=>
    simp only[Yc,Kc];rcases Zs.1 hm with rfl|hm
    ·omega
    ·have:=ih hm;omega
  have:=this l hx;omega
theorem Ykh(t:ByteArray):(⟨#[]⟩:ByteArray)++t=t:=by
 apply ByteArray.ext;simp
theorem Ux7{k:Int}{t:ByteArray}(h:TW (wrT k t) k t)(hz:(wrT k t).size≤1000):t.size≤1000:=by
 generalize hw:wrT k t=w at h hz
 cases h with
 |run _ _ h0 ha hr=>exact hz
 |sym _ h=>exact hz
 |txt _ hp=>
  simp only[Qj2,Yx,Zu] at hp;omega
def Jqb:Nat→List UInt8
 |0=>[32]
 |1=>[10]
 |2=>[9]
 |_=>[32,32]
theorem Uw4(r:Nat):(∀c∈Jqb r,c=9∨c=10∨c=32)∧Jqb r≠[]∧(Jqb r).length≤2:=by
 unfold Jqb
 split<;>simp
theorem Uw5{l m:List Tok}(h:m.map (fun x=>(x.1,x.2.1))=l.map fun x=>(x.1,x.2.1)){k:Nat}{x y:Tok}(hx:l[k]?=some x)(hy:m[k]?=some y):y.1=x.1∧y.2.1=x.2.1:=by
 have:=congrArg (·[k]?) h;simp only[Yi,hx,hy,Option.map_some,Ym,Prod.mk.injEq] at this;exact this
theorem Uji{w:World}{S:Nat}{e:TypeId}(h:w.heap[S]?=some (.cells #[.string ⟨#[32]⟩,.string ⟨#[10]⟩,.string ⟨#[9]⟩,.string ⟨#[32,32]⟩] e (0,0)))(r:Nat)(hr:r<4):w.cell? ⟨S,r,none⟩=some (.string (bs (Jqb r))):=by
 match r,hr with
 |0,_=>simp[World.cell?,h,Jqb,bs]
 |1,_=>simp[World.cell?,h,Jqb,bs]
 |2,_=>simp[World.cell?,h,Jqb,bs]
 |3,_=>simp[World.cell?,h,Jqb,bs]
set_option maxRecDepth 100000 in
set_option maxHeartbeats 8000000 in
theorem Ux8{E:Nat→World→Prop}{G:List Value→World→Prop}(hE:∀T w w',E T w→Qqb (At T) w w'→E T w')
 (hgen:∀T w,Qql T w→E T w→Calls Tryz.prog 7 #[.pointer (some ⟨T,0,none⟩),"3"] w (fun e w'=>∃cs:List Value,e=.returned (.agg cs.toArray)∧G cs w'∧Qql T w'∧Qqb (At T) w w'))
 (hst:∀T cs w,G cs w→E T w→Calls Tryz.prog 6 #[.agg cs.toArray] w (fun e w'=>∃(s:ByteArray) (b:Bool),e=.returned (.tuple #[s,b])∧s.size≤maxLen∧Below w.heap.size w w'))
 (raw:ByteArray)(v:Value)(space:Int)(w:World)(hraw:raw.size≤maxLen)(hv:Jz4 w v)(he:E w.heap.size w)(hT:Qws w)(hL:Qzf w)(hs:10<w.heap.size):Calls Tryz.prog 3 #[raw,v,space] w (Qqd true w):=by
 have HV:=hid hv;have HGEN:=hid hgen;have HST:=hid hst;have HEK:=hid hE;have HE0:=hid he;have HT0:=hid hT;have HL0:=hid hL
 obtain⟨r,hr4,hrm⟩:∃r:Nat,r<4∧space%4=(r:Int):=⟨(space%4).toNat,by omega,by omega⟩
 have HR4:=hid hrm;obtain⟨hsp,hsn,hs2⟩:=Uw4 r;have HSP:=hid hsp;have HSN:=hid hsn;have HS2:=hid hs2;clear hv hgen hst hE he hT hL hrm hsp hsn hs2;go_enter Tryz.func3,Tryz.ntmps3;go_wp2_with fail
 refine(Uv6 v w HV.out).mono ?_;rintro e w1 ⟨rfl,ht,hb⟩;have h1:=ht.lt;have HT1:=hid ht;have HB1:=hid hb;have HE1:=hid (HEK.out _ _ _ HE0.out (.bel hb));have HK1:=hid (HT0.out.bel hb);have HL1:=hid (HL0.out.bel hb hs);clear ht hb HV HE0 HT0 HL0;dsimp only;go_wp2_with fail
 refine(HGEN.out w.heap.size w1 HT1.out HE1.out).mono ?_;rintro e w2 ⟨cs,rfl,hg,ht,hk⟩;have HG2:=hid hg;have HK2:=hid hk;have HE2:=hid (HEK.out _ _ _ HE1.out hk);clear hg ht hk HT1 HE1 HGEN;dsimp only;go_wp2_with fail
 refine(HST.out w.heap.size cs w2 HG2.out HE2.out).mono ?_;rintro e w3 ⟨s,b,rfl,hsz,hb⟩;have HK3:=hid (HK2.out.trans (.bel hb));clear hb HG2 HE2 HK2 HST HEK;dsimp only;go_upto_region 4 with fail
 generalize hW:World.alloc w3 _=W;have hc:W.heap[w3.heap.size]?=some (.cells #[raw,s] 9 (0,0)):=by rw[←hW];exact Zw w3 _
 have hb:Below w3.heap.size w3 W:=by rw[←hW];exact(Below.refl _ _).alloc (Zz _) _
 have hbz:=(Zq.1 hc).1;have HKW:=hid (HK3.out.trans (.bel hb));have HTW:=hid (HK1.out.keep HKW.out fun j hj hh=>by unfold At at hh;omega);have HLW:=hid (HL1.out.keep HKW.out (fun j hj hh=>by unfold At at hh;omega) (by omega));have hsW:10<W.heap.size:=by have:=HKW.out.size;omega
 have HCW:=hid (show ∀wx,Below W.heap.size W wx→wx.cell? ⟨w3.heap.size,0,none⟩=some (.string raw)∧wx.cell? ⟨w3.heap.size,1,none⟩=some (.string s) from fun wx hb=>by
  have h:=(hb.block _ hbz).trans hc
  exact⟨by simp[World.cell?,h],by simp[World.cell?,h]⟩)
 clear hW hc hb HK1 HL1 HK3;generalize w3.heap.size=b3 at hbz HCW⊢;go_wp2_with fail
 go_loopw[34] (fun i wx=>∃j:Nat,i=.int .i64 j∧j≤2∧Below W.heap.size W wx) (fun i _=>2-(intOf i).toNat)
 case atStart=>exact⟨0,rfl,by omega,Below.refl _ _⟩
 case round=>
  rename World=>wx;obtain⟨j,rfl,hj,hb⟩:=hrel;have HB:=hid hb;have hzx:=hb.size;clear hb;by_cases hlt:j<2
  ·obtain⟨x,hx,hc⟩:∃x:ByteArray,x.size≤maxLen∧wx.cell? ⟨b3,j,none⟩=some (.string x):=by
    obtain⟨c0,c1⟩:=HCW.out _ HB.out
    match j,hlt with
    |0,_=>exact⟨raw,hraw,c0⟩
    |1,_=>exact⟨s,hsz,c1⟩
   have hj0:(0:Int)≤(j:Int):=by omega
   have hj1:(j:Int)<2:=by omega
   have hx':=hx;unfold maxLen at hx';have HTx:=hid (HTW.out.bel HB.out);go_wp2_with fail
   refine(Jqr x wx hx HTx.out).mono ?_;rintro e w4 ⟨v4,a4,e4,l,rfl,ho,hb4,hout⟩;have HB4:=hid (HB.out.trans (hb4.mono HB.out.size));have HR:=hid (ho.rows (M:=fun _=>False) fun _ _ _=>id);obtain⟨oa,oc,rfl,hlm⟩:=ho.shape;have hlm':l.length≤9223372036854775807:=hlm;clear ho hb4;dsimp only
   rcases hout with⟨_,rfl,rfl,rfl⟩|⟨h4096,hl,rfl,rfl⟩|⟨_,i4,_,rfl,rfl,rfl⟩
   ·go_wp2_with fail
    go_roundw
    case rel=>first|exact⟨j+1,by go_num,by omega,HB4.out⟩|((repeat apply Exists.intro);exact⟨⟨j+1,by go_num,by omega,HB4.out⟩,rfl⟩)
    case measure=>simp[intOf];omega
   ·by_cases hbig:1000<x.size
    ·have hbig':(1000:Int)<(x.size:Int):=by omega
     go_wp2_with fail
     go_roundw
     case rel=>first|exact⟨j+1,by go_num,by omega,HB4.out⟩|((repeat apply Exists.intro);exact⟨⟨j+1,by go_num,by omega,HB4.out⟩,rfl⟩)
     case measure=>simp[intOf];omega
    ·have hbig':¬(1000:Int)<(x.size:Int):=by omega
     have hx1:x.size≤1000:=by omega
     have HAS:=hid fun k=>Ykg HS2.out hl hx1 k;have HAL:=hid (Uq9 x l hl hx1 (Jqb r) HSP.out HSN.out HS2.out);have HTW1:=hid (Jjq x _ 0 l hl (Zi _)).1;clear hl;go_wp2_with fail
     go_loopw[15,53] (fun a i wy=>∃k:Nat,i=.int .i64 k∧k≤l.length∧a=.string (Qyc (Jqb r) l k)∧Below w4.heap.size w4 wy) (fun _ i _=>l.length-(intOf i).toNat)
     case atStart=>exact⟨0,rfl,Zi _,rfl,Below.refl _ _⟩
     case round=>
      rename World=>wy;obtain⟨k,rfl,hk,rfl,hb⟩:=hrel;have HBy:=hid hb;have hzy:=hb.size;have hz4:=HB4.out.size;clear hb;by_cases hlk:k<l.length
      ·rcases HR.out.open with⟨⟨_,_⟩,h0⟩|⟨bb,oo,cap',hv',_,hbz',hcap,hcm,hxr⟩
       ·rw[h0] at hlk;simp at hlk
       simp only[Yz] at hv';obtain⟨rfl,_,rfl⟩:=hv';have hxk:=Zg hlk;obtain⟨cs4,rfl,_,hcs⟩:=hxr k _ hxk;obtain⟨g0,g1,g2⟩:=(hcs.keep (M:=fun _=>False) (.bel HBy.out) id).c3;obtain⟨hz1,_,hall⟩:=HAS.out k;obtain⟨hwz,hws⟩:=hall _ (Yk hxk);have htz:=Ux7 (HTW1.out _ (Yk hxk)) hwz;have hnx:=Yv9 (sep:=Jqb r) hxk;have hag0:=Yv8 (Jqb r) l;generalize l[k]=tk at g0 g1 g2 hwz hws htz hnx;obtain⟨tk1,tk2,tk3⟩:=tk;dsimp only at g0 g1 g2 hwz hws htz hnx;rw[←hws] at hwz hnx;have htxt:=fun(wx:World) (h:Qzf wx) (hs:10<wx.heap.size)=>Ux6 tk1 tk3 tk2 wx (by unfold maxLen;omega) h hs;generalize Jvt tk1 tk2=wt at htxt hwz hnx;have HTXT:=hid htxt;clear hxr hcs hall hws hxk htxt;have hlk':(k:Int)<l.length:=by omega
       have hk0:(0:Int)≤k:=by omega
       have HNX:=hid hnx;have HAG0:=hid hag0;clear hnx hag0;have hbk:=Zw wy (.cells #[tk1,tk2,tk3] 51);have hB5:=(Below.refl wy.heap.size wy).alloc (Zz _) (.cells #[tk1,tk2,tk3] 51);by_cases hk1:k=0
       ·subst hk1;rw[HAG0.out];simp only[Jr,Je] at g0 g1 g2;go_upto_region 12 with fail
        generalize wy.heap.size=p5 at hbk hB5 hzy⊢;generalize World.alloc wy _=w5 at hbk hB5⊢;obtain⟨d0,d1,d2,_,_⟩:=Qk9 hbk;have HB5:=hid (HBy.out.trans (hB5.mono hzy));have HL5:=hid (HLW.out.bel (HB4.out.trans (HB5.out.mono HB4.out.size)) hsW);have hs5:10<w5.heap.size:=by have:=HB5.out.size;omega
        have hy:¬9223372036854775807<(⟨#[]⟩:ByteArray).size+wt.size:=by show ¬9223372036854775807<0+wt.size;omega
        clear g0 g1 g2 hbk hB5;go_wp2_with fail
        refine(HTXT.out w5 HL5.out hs5).mono ?_;rintro e w7 ⟨rfl,hb⟩;have HB7:=hid (HB5.out.trans (hb.mono HB5.out.size));clear hb;dsimp only;go_wp2_with fail
        have hnx:Qyc (Jqb r) l 1=wt:=by have:=HNX.out;simpa using this
        go_roundw
        case rel=>first|exact⟨1,by go_num,by omega,by rw[hnx];exact congrArg Value.string (Ykh wt),HB7.out⟩|((repeat apply Exists.intro);exact⟨⟨1,by go_num,by omega,by rw[hnx];exact congrArg Value.string (Ykh wt),HB7.out⟩,rfl⟩)
        case measure=>simp[intOf];omega
       ·generalize hag:Qyc (Jqb r) l k=ag at hz1 HNX⊢;have hsz2:(bs (Jqb r)).size≤2:=by have:=HS2.out;show(Jqb r).toArray.size≤2;simpa using this
        have hkp:(0:Int)<(k:Int):=by omega
        have hkp':0<k:=by omega
        clear hag;go_upto_region 12 with fail
        generalize wy.heap.size=p5 at hbk hB5 hzy⊢;generalize World.alloc wy _=w5 at hbk hB5⊢;have hp5:=(Zq.1 hbk).1;have HB5:=hid (HBy.out.trans (hB5.mono hzy));clear g0 g1 g2 hB5;have hsc:=Uji (Zw w5 (.cells #[.string ⟨#[32]⟩,.string ⟨#[10]⟩,.string ⟨#[9]⟩,.string ⟨#[32,32]⟩] 9)) r hr4;have hB6:=(Below.refl w5.heap.size w5).alloc (Zz _) (.cells #[.string ⟨#[32]⟩,.string ⟨#[10]⟩,.string ⟨#[9]⟩,.string ⟨#[32,32]⟩] 9);have hbk6:=(hB6.block p5 hp5).trans hbk;go_wp2_with fail
        refine(Yw2 space 4 _ (by omega) (by omega)).mono ?_;rintro e w6 ⟨rfl,hw6⟩;rw[HR4.out];subst hw6;dsimp only;have hz5:=HB5.out.size;have hB7:=HB5.out.trans (hB6.mono hz5);have hzz:=hB7.size;generalize w5.heap.size=q5 at hsc hB6⊢;generalize World.alloc w5 _=w6 at hsc hB7 hbk6 hzz⊢;have HB6:=hid hB7;have HL6:=hid (HLW.out.bel (HB4.out.trans (hB7.mono HB4.out.size)) hsW);have hs6:10<w6.heap.size:=by omega
        clear hB7 hB6 hbk;have hr0:(0:Int)≤(r:Int):=by omega
        have hr1:(r:Int)<4:=by omega
        generalize bs (Jqb r)=sp at hsc hsz2 HNX;have hy1:¬9223372036854775807<ag.size+sp.size:=by omega
        have hy2:¬9223372036854775807<(ag++sp).size+wt.size:=by rw[Kh];omega
        obtain⟨d0,d1,d2,_,_⟩:=Qk9 hbk6;clear hbk6;go_wp2_with fail
        refine(HTXT.out w6 HL6.out hs6).mono ?_;rintro e w7 ⟨rfl,hb⟩;have HB7:=hid (HB6.out.trans (hb.mono HB6.out.size));clear hb;dsimp only;go_wp2_with fail
        have hnx:=HNX.out;rw[if_neg hk1] at hnx;go_roundw
        case rel=>first|exact⟨k+1,by go_num,by omega,by rw[hnx],HB7.out⟩|((repeat apply Exists.intro);exact⟨⟨k+1,by go_num,by omega,by rw[hnx],HB7.out⟩,rfl⟩)
        case measure=>simp[intOf];omega
      ·obtain rfl:k=l.length:=by omega
       obtain⟨hu4,m,hm,hmap⟩:=HAL.out (Qyc (Jqb r) l l.length) (by unfold Qyc;rw[Jo];rfl);generalize Qyc (Jqb r) l l.length=u at hu4 hm⊢;have hml:m.length=l.length:=by have:=congrArg List.length hmap;simpa using this
       have HMAP:=hid hmap;have HTy:=hid (HTW.out.bel (HB4.out.trans (HBy.out.mono HB4.out.size)));clear hmap;go_wp2_with fail
       refine(Jqr u wy (by unfold maxLen;omega) HTy.out).mono ?_;rintro e w5 ⟨v5,a5,e5,m',rfl,ho,hb5,hout⟩
       obtain⟨rfl,rfl,rfl⟩:m'=m∧a5=0∧e5=0:=by
        rcases hout with⟨h,_⟩|⟨_,h,h1,h2⟩|⟨_,i,h,_⟩
        ·omega
        ·rw[hm] at h;cases h;exact⟨rfl,h1,h2⟩
        ·rw[hm] at h;cases h
       have HB5:=hid (HBy.out.trans (hb5.mono HBy.out.size));have HRM:=hid (ho.rows (M:=fun _=>False) fun _ _ _=>id);obtain⟨ob,oc2,rfl,_⟩:=ho.shape;rw[hml] at HRM⊢;have HML:=hid hml;have hbb5:=hid hb5;clear ho hb5 hout hm hml;dsimp only;go_wp2_with fail
       go_loopw[89] (fun i wz=>∃k:Nat,i=.int .i64 k∧k≤l.length∧Below w5.heap.size w5 wz) (fun i _=>l.length-(intOf i).toNat)
       case atStart=>exact⟨0,rfl,Zi _,Below.refl _ _⟩
       case round=>
        rename World=>wz;obtain⟨k,rfl,hk2,hb⟩:=hrel;have HBz:=hid hb;clear hb;by_cases hlk:k<l.length
        ·rcases HR.out.open with⟨⟨_,_⟩,h0⟩|⟨bb,oo,cap',hv',_,hbz',hcap,hcm,hxr⟩
         ·rw[h0] at hlk;simp at hlk
         have hlm2:k<m'.length:=by rw[HML.out];exact hlk
         rcases HRM.out.open with⟨⟨_,_⟩,h0⟩|⟨bm,om,capm,hvm,_,hbzm,hcapm,hcmm,hxm⟩
         ·rw[h0] at hlm2;simp at hlm2
         rw[HML.out] at hvm;simp only[Yz] at hv' hvm;obtain⟨rfl,_,rfl⟩:=hv';obtain⟨rfl,_,rfl⟩:=hvm;have hxk:=Zg hlk;have hyk:=Zg hlm2;obtain⟨hs1,hs2'⟩:=Uw5 HMAP.out hxk hyk;obtain⟨cs4,rfl,_,hcs⟩:=hxr k _ hxk;obtain⟨cs5,rfl,_,hcs5⟩:=hxm k _ hyk;obtain⟨g0,g1,g2⟩:=(hcs.keep (M:=fun _=>False) (.bel (HB5.out.trans (HBz.out.mono HB5.out.size))) id).c3;obtain⟨k0,k1,k2⟩:=(hcs5.keep (M:=fun _=>False) (.bel HBz.out) id).c3;rw[hs1] at k0;rw[hs2'] at k1;generalize l[k]=tk at g0 g1 g2 k0 k1;obtain⟨tk1,tk2,tk3⟩:=tk;dsimp only at g0 g1 g2 k0 k1;clear hxr hcs hcs5 hxm hxk hyk hs1 hs2';have hlk':(k:Int)<l.length:=by omega
         have hk0:(0:Int)≤k:=by omega
         have q1:(tk1 !=tk1)=false:=by simp
         have q2:(tk2.toList==tk2.toList)=true:=by simp
         go_upto_region 22 with fail
         go_quiet (fail)
         go_wp2_with fail
         go_roundw
         case rel=>first|exact⟨k+1,by go_num,by omega,Jk9 HBz.out _⟩|((repeat apply Exists.intro);exact⟨⟨k+1,by go_num,by omega,Jk9 HBz.out _⟩,rfl⟩)
         case measure=>simp[intOf];omega
        ·obtain rfl:k=l.length:=by omega
         have HB9:=hid (HB4.out.trans ((HB5.out.trans (HBz.out.mono HB5.out.size)).mono HB4.out.size));go_wp2_with fail
         go_roundw
         case rel=>first|exact⟨j+1,by go_num,by omega,HB9.out⟩|((repeat apply Exists.intro);exact⟨⟨j+1,by go_num,by omega,HB9.out⟩,rfl⟩)
         case measure=>simp[intOf];omega
   ·go_wp2_with fail
    go_roundw
    case rel=>first|exact⟨j+1,by go_num,by omega,HB4.out⟩|((repeat apply Exists.intro);exact⟨⟨j+1,by go_num,by omega,HB4.out⟩,rfl⟩)
    case measure=>simp[intOf];omega
  ·obtain rfl:j=2:=by omega
   go_wp2_with fail
   refine(Ykf wx (HTW.out.bel HB.out)).mono ?_;rintro e w5 ⟨rfl,hb⟩;have HB5:=hid (HB.out.trans (hb.mono HB.out.size));clear hb;dsimp only;go_wp2_with fail
   go_ret;exact⟨rfl,HB1.out.trans ((HKW.out.toBelow (B:=w.heap.size) (by omega) fun k hk h=>by unfold At at h;omega).trans (HB5.out.mono (by have:=HKW.out.size;omega)))⟩
inductive Dep:Nat→Ex→Prop
 |mk (n:Nat) (e:Ex) (hv:e.val.text.size≤maxLen) (ht:e.table.size≤maxLen) (hn:e.name.size≤maxLen) (hf:∀q∈e.sub,q.frm.size≤maxLen)
  (ha:∀a∈e.args,Dep n a) (hi:∀q∈e.sub,∀x∈q.items,Dep n x) (hw:∀q∈e.sub,∀x∈q.whr,Dep n x):Dep (n+1) e
theorem Dep.txt{n:Nat}{e:Ex}(h:Dep n e):Qxo e:=by
 induction h with
 |mk n e hv ht hn hf ha hi hw iha ihi ihw=>exact .mk e hv ht hn iha hf ihi ihw
theorem Dep.up{n m:Nat}{e:Ex}(h:Dep n e)(hm:n≤m):Dep m e:=by
 induction h generalizing m with
 |mk n e hv ht hn hf ha hi hw iha ihi ihw=>
  obtain⟨m,rfl⟩:∃j,m=j+1:=⟨m-1,by omega⟩
  exact .mk m e hv ht hn hf (fun a h=>iha a h (by omega)) (fun q hq x hx=>ihi q hq x hx (by omega)) (fun q hq x hx=>ihw q hq x hx (by omega))
theorem Qza:es.size≤maxLen:=by decide
theorem Jjr(n:Nat)(k o:Int)(no:Bool)(v:Val)(t nm:ByteArray)(hv:v.text.size≤maxLen)(ht:t.size≤maxLen)(hn:nm.size≤maxLen):Dep (n+1) (.mk k o no v t nm [] []):=
 .mk n _ hv ht hn (by intro q h;cases h) (by intro a h;cases h) (by intro q h;cases h) (by intro q h;cases h)
theorem Qqj{C:Nat}:∀(vs:List Value) (o:Nat) (w:World),Qqb (At C) w (w.setCells C o vs)
 |[],_,w=>Qqb.refl _ w
 |v::vs,o,w=>((Qqb.refl (At C) w).setCell (p:=⟨C,o,none⟩) (fun _=>rfl) v).trans (Qqj vs (o+1) _)
theorem Qyz{C:Nat}:∀(vs:List Value) (o:Nat) (w:World),(w.setCells C o vs).heap.size=w.heap.size
 |[],_,w=>rfl
 |v::vs,o,w=>by rw[World.setCells,Qyz vs (o+1)];simp
def SpB(T:Nat)(w W:World)(k o:Int)(no:Bool)(vk vi:Int)(vt t nm:ByteArray)(va vs:Value):Prop:=
 Qql T W∧Qqb (At T) w W∧W.heap[w.heap.size]?=some (.cells #[k,o,no,vk,vi,vt,t,nm,va,vs] 80 (0,0))∧
  W.heap[w.heap.size+1]?=some (.cells #["0","0",false,"0","0","","","",(),()] 80 (0,0))
section
variable{T:Nat} {w W W':World} {k o:Int} {no:Bool} {vk vi:Int} {vt t nm:ByteArray} {va vs:Value}
theorem SpB.lt(h:SpB T w W k o no vk vi vt t nm va vs):w.heap.size+1<W.heap.size:=(Zq.1 h.2.2.2).1
theorem SpB.tape(h:SpB T w W k o no vk vi vt t nm va vs):Qql T W:=h.1
theorem SpB.kept(h:SpB T w W k o no vk vi vt t nm va vs):Qqb (At T) w W:=h.2.1
theorem SpB.then{N:Nat→Prop}(h:SpB T w W k o no vk vi vt t nm va vs)(hT:T<w.heap.size)(kp:Qqb N W W')(hN:∀i,i≤w.heap.size+1→¬N i):SpB T w W' k o no vk vi vt t nm va vs:=
 ⟨h.1.keep kp fun i hi=>hN i (by omega),h.2.1.then kp fun i hi hh=>absurd hh (hN i (by omega)),
  (kp.block _ (by have:=h.lt;omega) (hN _ (by omega))).trans h.2.2.1,(kp.block _ h.lt (hN _ (by omega))).trans h.2.2.2⟩
theorem SpB.step(h:SpB T w W k o no vk vi vt t nm va vs)(hT:T<w.heap.size)(ht:Qql T W')(hk:Qqb (At T) W W'):SpB T w W' k o no vk vi vt t nm va vs:=
 ⟨ht,h.2.1.trans hk,(hk.block _ (by have:=h.lt;omega) fun hh=>by unfold At at hh;omega).trans h.2.2.1,(hk.block _ h.lt fun hh=>by unfold At at hh;omega).trans h.2.2.2⟩
theorem SpB.bel(h:SpB T w W k o no vk vi vt t nm va vs)(hT:T<w.heap.size)(hb:Below W.heap.size W W'):SpB T w W' k o no vk vi vt t nm va vs:=h.step hT (h.1.bel hb) (.bel hb)
theorem SpB.alloc(h:SpB T w W k o no vk vi vt t nm va vs)(hT:T<w.heap.size)(ob:Obj):SpB T w (W.alloc ob) k o no vk vi vt t nm va vs:=h.bel hT ((Below.refl _ _).alloc (Zz _) ob)
theorem SpB.drew(h:SpB T w W k o no vk vi vt t nm va vs):SpB T w W.drew k o no vk vi vt t nm va vs:=⟨h.1,h.2.1.drew,h.2.2⟩
theorem SpB.cells(h:SpB T w W k o no vk vi vt t nm va vs):W.cell? ⟨w.heap.size,0,none⟩=some (.int .i64 k)∧W.cell? ⟨w.heap.size,1,none⟩=some (.int .i64 o)∧W.cell? ⟨w.heap.size,2,none⟩=some (.bool no)∧W.cell? ⟨w.heap.size,3,none⟩=some (.int .i64 vk)∧W.cell? ⟨w.heap.size,4,none⟩=some (.int .i64 vi)∧
 W.cell? ⟨w.heap.size,5,none⟩=some (.string vt)∧W.cell? ⟨w.heap.size,6,none⟩=some (.string t)∧W.cell? ⟨w.heap.size,7,none⟩=some (.string nm)∧W.cell? ⟨w.heap.size,8,none⟩=some va∧W.cell? ⟨w.heap.size,9,none⟩=some vs∧(∀i,W.frozen? ⟨w.heap.size,i,none⟩=false)∧w.heap.size<W.heap.size:=Qq5 h.2.2.1
theorem SpB.res(h:SpB T w W k o no vk vi vt t nm va vs):W.cell? ⟨w.heap.size+1,0,none⟩=some (.int .i64 0)∧W.cell? ⟨w.heap.size+1,1,none⟩=some (.int .i64 0)∧W.cell? ⟨w.heap.size+1,2,none⟩=some (.bool false)∧W.cell? ⟨w.heap.size+1,3,none⟩=some (.int .i64 0)∧W.cell? ⟨w.heap.size+1,4,none⟩=some (.int .i64 0)∧
 W.cell? ⟨w.heap.size+1,5,none⟩=some (.string ⟨#[]⟩)∧W.cell? ⟨w.heap.size+1,6,none⟩=some (.string ⟨#[]⟩)∧W.cell? ⟨w.heap.size+1,7,none⟩=some (.string ⟨#[]⟩)∧W.cell? ⟨w.heap.size+1,8,none⟩=some (Qv none 0 0)∧W.cell? ⟨w.heap.size+1,9,none⟩=some (Qv none 0 0)∧
 (∀i,W.frozen? ⟨w.heap.size+1,i,none⟩=false)∧w.heap.size+1<W.heap.size:=Qq5 h.2.2.2
theorem SpB.put(h:SpB T w W k o no vk vi vt t nm va vs)(hT:T<w.heap.size)(i:Nat)(u:Value):Qql T (W.setCell ⟨w.heap.size,i,none⟩ u)∧Qqb (At T) w (W.setCell ⟨w.heap.size,i,none⟩ u)∧(W.setCell ⟨w.heap.size,i,none⟩ u).heap[w.heap.size+1]?=W.heap[w.heap.size+1]?:=by
 have ks:Qqb (At w.heap.size) W (W.setCell ⟨w.heap.size,i,none⟩ u):=(Qqb.refl (At w.heap.size) W).setCell (p:=⟨w.heap.size,i,none⟩) (fun _=>rfl) u;exact⟨h.1.keep ks fun j hj hh=>by unfold At at hh;omega,h.2.1.then ks fun j hj hh=>by unfold At at hh;omega,ks.block _ h.lt fun hh=>by unfold At at hh;omega⟩
theorem SpB.set1(h:SpB T w W k o no vk vi vt t nm va vs)(hT:T<w.heap.size)(u:Int):SpB T w (W.setCell ⟨w.heap.size,1,none⟩ (.int .i64 u)) k u no vk vi vt t nm va vs:=
 let⟨a,b,c⟩:=h.put hT 1 u;⟨a,b,by simp[Qg,Yh,h.2.2.1],c.trans h.2.2.2⟩
theorem SpB.set2(h:SpB T w W k o no vk vi vt t nm va vs)(hT:T<w.heap.size)(u:Bool):SpB T w (W.setCell ⟨w.heap.size,2,none⟩ (.bool u)) k o u vk vi vt t nm va vs:=
 let⟨a,b,c⟩:=h.put hT 2 u;⟨a,b,by simp[Qg,Yh,h.2.2.1],c.trans h.2.2.2⟩
theorem SpB.set8(h:SpB T w W k o no vk vi vt t nm va vs)(hT:T<w.heap.size)(u:Value):SpB T w (W.setCell ⟨w.heap.size,8,none⟩ u) k o no vk vi vt t nm u vs:=
 let⟨a,b,c⟩:=h.put hT 8 u;⟨a,b,by simp[Qg,Yh,h.2.2.1],c.trans h.2.2.2⟩
theorem SpB.set9(h:SpB T w W k o no vk vi vt t nm va vs)(hT:T<w.heap.size)(u:Value):SpB T w (W.setCell ⟨w.heap.size,9,none⟩ u) k o no vk vi vt t nm va u:=
 let⟨a,b,c⟩:=h.put hT 9 u;⟨a,b,by simp[Qg,Yh,h.2.2.1],c.trans h.2.2.2⟩
end
section
variable{n:Nat} {k o:Int} {no:Bool} {v:Val} {t nm:ByteArray} {args:List Ex} {sub:List Qu}
end
theorem Jw5{M:Nat→Prop}{w:World}{e:Ex}{cs:List Value}(h:EC M w e cs):∀u∈cs,u.oneCell'=true:=by
 obtain⟨va,vs,rfl,ha,hs⟩:=(Qji ..).1 h;obtain⟨a,ac,rfl,_⟩:=ha.shape;obtain⟨s,sc,rfl,_⟩:=hs.shape;intro u hu;simp only[Qjg,Zs,Zo,Yu] at hu;rcases hu with rfl|rfl|rfl|rfl|rfl|rfl|rfl|rfl|rfl|rfl<;>rfl
theorem Qqf.at{α:Type}{lo:Nat}{w:World}{e:TypeId}{size:Nat}{R:α→List Value→Prop}{v:Value}{xs:List α}(h:Qqf lo w e size R v xs)(hx:xs≠[]):∃g cap,v=Qv (some ⟨g,0,none⟩) xs.length cap∧lo≤g∧g<w.heap.size∧∀i,w.frozen? ⟨g,i,none⟩=false:=by
 obtain⟨css,⟨h1,h2⟩,hl,_⟩:=h
 rcases h2 with⟨_,h2⟩|⟨g,cap,cur,hv,hg,hh,_⟩
 ·exact absurd (Yd (by omega)) hx
 ·refine⟨g,cap,by rw[hv,hl],hg,(Zq.1 hh).1,fun i=>?_⟩;simp[World.frozen?,hh]
theorem Jjs{M:Nat→Prop}{W:World}{e:Ex}{a s:Option Addr}{ac sc:Nat}(h:ExV M W e (.agg #[e.kind,e.op,e.no,e.val.kind,e.val.int,e.val.text,e.table,e.name,Qv a e.args.length ac,Qv s e.sub.length sc])):
 EC M W e [e.kind,e.op,e.no,e.val.kind,e.val.int,e.val.text,e.table,e.name,Qv a e.args.length ac,Qv s e.sub.length sc]:=by
 obtain⟨cs,hcs,hec⟩:=h.ec;simp only[Value.agg.injEq] at hcs;obtain rfl:cs=[.int .i64 e.kind,.int .i64 e.op,.bool e.no,.int .i64 e.val.kind,.int .i64 e.val.int,.string e.val.text,.string e.table,.string e.name,Qv a e.args.length ac,Qv s e.sub.length sc]:=by simpa using(congrArg Array.toList hcs).symm
 exact hec
theorem Qjs:Qx8 (fun M w (e:Ex) cs=>EC M w e cs) where
 keep:=fun h k=>EC.keep k _ _ h
 weak:=fun h hM=>EC.weak hM _ _ h
 one:=fun h=>Jw5 h
section
variable{α:Type} {P:Program} {ops:Array Oper} {rest:List Oper} {o:Oper} {a:Act} {Q:Exit→Act→World→Prop} {Rr:(Nat→Prop)→World→α→List Value→Prop} {w:World}
end
structure Qqx where
 pos:Nat
 cells:Array Value
 ty:TypeId
structure OB(T:Nat)(w W:World)(L:List Qqx):Prop where
 lo:T<w.heap.size
 tape:Qql T W
 kept:Qqb (At T) w W
 blks:∀b∈L,w.heap.size≤b.pos∧W.heap[b.pos]?=some (.cells b.cells b.ty (0,0))
section
variable{T:Nat} {w W W':World} {L L':List Qqx}
theorem OB.start(h:Qql T w):OB T w w []:=⟨h.lt,h,.refl _ _,fun _ h=>by cases h⟩
theorem OB.size(h:OB T w W L):w.heap.size≤W.heap.size:=h.kept.size
theorem OB.blk(h:OB T w W L){b:Qqx}(hb:b∈L):W.heap[b.pos]?=some (.cells b.cells b.ty (0,0)):=(h.blks b hb).2
theorem OB.blt(h:OB T w W L){b:Qqx}(hb:b∈L):b.pos<W.heap.size:=(Zq.1 (h.blk hb)).1
theorem OB.then{N:Nat→Prop}(h:OB T w W L)(k:Qqb N W W')(h0:∀i,i<w.heap.size→¬N i)(h1:∀b∈L,¬N b.pos):OB T w W' L:=
 ⟨h.lo,h.tape.keep k fun i hi=>h0 i (by have:=h.lo;omega),h.kept.then k fun i hi hn=>absurd hn (h0 i hi),fun b hb=>⟨(h.blks b hb).1,(k.block _ (h.blt hb) (h1 b hb)).trans (h.blk hb)⟩⟩
theorem OB.step(h:OB T w W L)(ht:Qql T W')(k:Qqb (At T) W W'):OB T w W' L:=
 ⟨h.lo,ht,h.kept.trans k,fun b hb=>⟨(h.blks b hb).1,(k.block _ (h.blt hb) fun e=>by have:=(h.blks b hb).1;have:=h.lo;unfold At at e;omega).trans (h.blk hb)⟩⟩
theorem OB.bel(h:OB T w W L)(hb:Below W.heap.size W W'):OB T w W' L:=h.step (h.tape.bel hb) (.bel hb)
theorem OB.alloc(h:OB T w W L)(o:Obj):OB T w (W.alloc o) L:=h.bel ((Below.refl _ _).alloc (Zz _) o)
theorem OB.drew(h:OB T w W L):OB T w W.drew L:=⟨h.lo,h.tape.drew,h.kept.drew,h.blks⟩
theorem OB.new(h:OB T w W L)(cs:Array Value)(e:TypeId):OB T w (W.alloc (.cells cs e)) (⟨W.heap.size,cs,e⟩::L):=
 ⟨h.lo,(h.alloc _).tape,(h.alloc _).kept,fun b hb=>by
  rcases Zs.1 hb with rfl|hb
  ·exact⟨h.size,Zw W _⟩
  ·exact(h.alloc _).blks b hb⟩
theorem OB.add(h:OB T w W L){g:Nat}{cs:Array Value}{e:TypeId}(hg:w.heap.size≤g)(hb:W.heap[g]?=some (.cells cs e (0,0))):OB T w W (⟨g,cs,e⟩::L):=
 ⟨h.lo,h.tape,h.kept,fun b hm=>by
  rcases Zs.1 hm with rfl|hm
  ·exact⟨hg,hb⟩
  ·exact h.blks b hm⟩
theorem OB.new'(h:OB T w W L){g:Nat}(hg:g=W.heap.size)(cs:Array Value)(e:TypeId):OB T w (W.alloc (.cells cs e)) (⟨g,cs,e⟩::L):=hg▸h.new cs e
theorem OB.sub(h:OB T w W L)(hL:∀b∈L',b∈L):OB T w W L':=⟨h.lo,h.tape,h.kept,fun b hb=>h.blks b (hL b hb)⟩
theorem OB.put{p:Nat}{c c':Array Value}{e:TypeId}(h:OB T w W (⟨p,c,e⟩::L))(i:Nat)(u:Value)(hc:(W.setCell ⟨p,i,none⟩ u).heap[p]?=some (.cells c' e (0,0)))(hL:∀b∈L,b.pos≠p):OB T w (W.setCell ⟨p,i,none⟩ u) (⟨p,c',e⟩::L):=by
 have k:Qqb (At p) W (W.setCell ⟨p,i,none⟩ u):=(Qqb.refl (At p) W).setCell (p:=⟨p,i,none⟩) (fun _=>rfl) u;have hp:=(h.blks ⟨p,c,e⟩ (Zv ..)).1;have h2:OB T w W L:=h.sub fun b hb=>Zl _ hb;have h3:=h2.then k (fun j hj e=>by unfold At at e;dsimp only at hp;omega) (fun b hb e=>hL b hb e)
 exact⟨h3.lo,h3.tape,h3.kept,fun b hb=>by
  rcases Zs.1 hb with rfl|hb
  ·exact⟨hp,hc⟩
  ·exact h3.blks b hb⟩
theorem OB.old(h:OB T w W L){k:Nat}(hk:k<w.heap.size)(hT:k≠T):W.heap[k]?=w.heap[k]?:=h.kept.block _ hk hT
theorem OB.join(h:OB T w W L)(h':OB T w W L'):OB T w W (L++L'):=⟨h.lo,h.tape,h.kept,fun b hb=>(Yf.1 hb).elim (h.blks b) (h'.blks b)⟩
theorem OB.gives(h:OB T w W L){v:Value}{Q:Value→World→Prop}(hq:Q v W):Qjp T w Q (.returned v) W:=⟨v,rfl,hq,h.tape,h.kept⟩
end
theorem Ux9{T p i k:Nat}{w W:World}{L:List Qqx}(h:OB T w W L)(hp:w.heap.size≤p)(hL:∀b∈L,b.pos≠p)(u v:Value):OB T w ((W.setCell ⟨p,i,none⟩ u).setCell ⟨p,k,none⟩ v) L:=
 h.then (N:=At p) (((Qqb.refl (At p) W).setCell (p:=⟨p,i,none⟩) (fun _=>rfl) u).setCell (p:=⟨p,k,none⟩) (fun _=>rfl) v) (fun j hj e=>by unfold At at e;omega) fun b hb e=>hL b hb e
def Qx0(T:Nat)(vf vt:Value)(w wi:World):Prop:=
 Qql T wi∧Qqb (At T) w wi∧wi.heap[w.heap.size]?=some (.cells #[vf,vt] 122 (0,0))∧
  wi.heap[w.heap.size+1]?=some (.cells #[false,(),"",()] 37 (0,0))
section
variable{T:Nat} {vf vt:Value} {w wi wj:World}
theorem Qx0.lt(h:Qx0 T vf vt w wi):w.heap.size+1<wi.heap.size:=(Zq.1 h.2.2.2).1
theorem Qx0.then{N:Nat→Prop}(h:Qx0 T vf vt w wi)(ht:Qql T wj)(k:Qqb N wi wj)(hN:∀i,i≤w.heap.size+1→N i→i=T)(hT:T<w.heap.size):Qx0 T vf vt w wj:=
 ⟨ht,h.2.1.then k fun i hi hh=>hN i (by omega) hh,(k.block _ (by have:=h.lt;omega) fun hh=>by have:=hN _ (by omega) hh;omega).trans h.2.2.1,(k.block _ h.lt fun hh=>by have:=hN _ (by omega) hh;omega).trans h.2.2.2⟩
theorem Qx0.step(h:Qx0 T vf vt w wi)(hT:T<w.heap.size)(ht:Qql T wj)(hk:Qqb (At T) wi wj):Qx0 T vf vt w wj:=h.then ht hk (fun _ _ hh=>hh) hT
theorem Qx0.bel(h:Qx0 T vf vt w wi)(hT:T<w.heap.size)(hb:Below wi.heap.size wi wj):Qx0 T vf vt w wj:=h.step hT (h.1.bel hb) (.bel hb)
theorem Qx0.alloc(h:Qx0 T vf vt w wi)(hT:T<w.heap.size)(o:Obj):Qx0 T vf vt w (wi.alloc o):=h.bel hT ((Below.refl _ _).alloc (Zz _) o)
theorem Qx0.drew(h:Qx0 T vf vt w wi):Qx0 T vf vt w wi.drew:=⟨h.1,h.2.1.drew,h.2.2.1,h.2.2.2⟩
theorem Qx0.late{N:Nat→Prop}(h:Qx0 T vf vt w wi)(hT:T<w.heap.size)(k:Qqb N wi wj)(hN:∀i,i≤w.heap.size+1→¬N i):Qx0 T vf vt w wj:=
 h.then (h.1.keep k fun i hi=>hN i (by omega)) k (fun i hi hh=>absurd hh (hN i hi)) hT
theorem Qx0.set(h:Qx0 T vf vt w wi)(hT:T<w.heap.size){g i:Nat}(hg:w.heap.size+1<g)(u:Value):Qx0 T vf vt w (wi.setCell ⟨g,i,none⟩ u):=
 h.late hT ((Qqb.refl (At g) wi).setCell (p:=⟨g,i,none⟩) (fun _=>rfl) u) fun k hk hh=>by unfold At at hh;omega
theorem Qx0.tape(h:Qx0 T vf vt w wi):Qql T wi:=h.1
theorem Qx0.kept(h:Qx0 T vf vt w wi):Qqb (At T) w wi:=h.2.1
theorem Qx0.place(h:Qx0 T vf vt w wi):wi.cell? ⟨w.heap.size,0,none⟩=some vf∧wi.cell? ⟨w.heap.size,1,none⟩=some vt∧w.heap.size<wi.heap.size:=by
 obtain⟨a,b,_,_,c⟩:=Qjk h.2.2.1;exact⟨a,b,c⟩
theorem Qx0.res(h:Qx0 T vf vt w wi):wi.cell? ⟨w.heap.size+1,0,none⟩=some (.bool false)∧wi.cell? ⟨w.heap.size+1,1,none⟩=some (Qv none 0 0)∧wi.cell? ⟨w.heap.size+1,2,none⟩=some (.string ⟨#[]⟩)∧wi.cell? ⟨w.heap.size+1,3,none⟩=some (Qv none 0 0)∧(∀i,wi.frozen? ⟨w.heap.size+1,i,none⟩=false):=by
 obtain⟨a,b,c,d,_,_,_⟩:=Qzo h.2.2.2;exact⟨a,b,c,d,fun i=>by simp[World.frozen?,h.2.2.2]⟩
end
theorem frz{w:World}{S:Nat}{cs:Array Value}{e:TypeId}(h:w.heap[S]?=some (.cells cs e (0,0))):∀i,w.frozen? ⟨S,i,none⟩=false:=fun i=>by simp[World.frozen?,h]
def Uw6(T:Nat)(vf vt:Value)(ss:List Sch)(w:World)(c:Value)(wx:World):Prop:=
 ∃g s ca cc,c=.pointer (some ⟨g,0,none⟩)∧s∈ss∧w.heap.size+1<g∧wx.heap[g]?=some (.cells #[s.name,Qv ca s.cols.length cc] 29 (0,0))∧Qq1 (At T) wx (Qv ca s.cols.length cc) s.cols∧Qx0 T vf vt w wx
def QL(T:Nat)(vf vt:Value)(w W:World)(p h:Nat)(pv:Value)(fs:List Frm)(st:Bool)(frm:ByteArray)(vi:Value)(items:List Ex):Prop:=
 Qx0 T vf vt w W∧w.heap.size+1<p∧p<h∧W.heap[p]?=some (.cells #[pv,vt] 122 (0,0))∧Qqz (TOr T p) W pv fs∧
  W.heap[h]?=some (.cells #[st,vi,frm,()] 37 (0,0))∧Qqn (h+1) W 80 10 (fun M w (e:Ex) cs=>EC M w e cs) vi items
section
variable{T p h:Nat} {vf vt pv vi:Value} {w W W':World} {fs:List Frm} {st:Bool} {frm:ByteArray} {items:List Ex}
theorem QL.hlt(q:QL T vf vt w W p h pv fs st frm vi items):h<W.heap.size:=(Zq.1 q.2.2.2.2.2.1).1
theorem QL.step(q:QL T vf vt w W p h pv fs st frm vi items)(hT:T<w.heap.size)(ht:Qql T W')(hk:Qqb (At T) W W'):QL T vf vt w W' p h pv fs st frm vi items:=by
 obtain⟨hL,h1,h2,h3,h4,h5,h6⟩:=q;have hn:∀k,w.heap.size≤k→¬At T k:=fun k hk h=>by unfold At at h;omega
 exact⟨hL.step hT ht hk,h1,h2,(hk.block _ (Zq.1 h3).1 (hn _ (by omega))).trans h3,h4.keep (hk.weak fun k _ h=>.inl h),(hk.block _ (Zq.1 h5).1 (hn _ (by omega))).trans h5,h6.keep Qjs hk fun k h1 _=>hn k (by omega)⟩
theorem QL.bel(q:QL T vf vt w W p h pv fs st frm vi items)(hT:T<w.heap.size)(hb:Below W.heap.size W W'):QL T vf vt w W' p h pv fs st frm vi items:=q.step hT (q.1.1.bel hb) (.bel hb)
theorem QL.alloc(q:QL T vf vt w W p h pv fs st frm vi items)(hT:T<w.heap.size)(o:Obj):QL T vf vt w (W.alloc o) p h pv fs st frm vi items:=q.bel hT ((Below.refl _ _).alloc (Zz _) o)
theorem QL.drew(q:QL T vf vt w W p h pv fs st frm vi items):QL T vf vt w W.drew p h pv fs st frm vi items:=by
 obtain⟨hL,h1,h2,h3,h4,h5,h6⟩:=q;exact⟨hL.drew,h1,h2,h3,h4.keep ((Qqb.refl _ W).drew),h5,h6.keep Qjs ((Qqb.refl (fun _=>False) W).drew) fun _ _ _=>id⟩
theorem QL.box(q:QL T vf vt w W p h pv fs st frm vi items):W.cell? ⟨p,0,none⟩=some pv∧W.cell? ⟨p,1,none⟩=some vt∧p<W.heap.size:=by
 obtain⟨a,b,_,_,c⟩:=Qjk q.2.2.2.1;exact⟨a,b,c⟩
theorem QL.cells(q:QL T vf vt w W p h pv fs st frm vi items):W.cell? ⟨h,0,none⟩=some (.bool st)∧W.cell? ⟨h,1,none⟩=some vi∧W.cell? ⟨h,2,none⟩=some (.string frm)∧W.cell? ⟨h,3,none⟩=some (Qv none 0 0)∧(∀i,W.frozen? ⟨h,i,none⟩=false)∧h<W.heap.size:=by
 obtain⟨a,b,c,d,_,_,z⟩:=Qzo q.2.2.2.2.2.1;exact⟨a,b,c,d,fun i=>by simp[World.frozen?,q.2.2.2.2.2.1],z⟩
theorem QL.add{v':Value}{x:Ex}(q:QL T vf vt w W p h pv fs st frm vi items)(hT:T<w.heap.size)(hg:Qqn (h+1) W' 80 10 (fun M w (e:Ex) cs=>EC M w e cs) v' (items++[x]))(hk:Qqb (Qq4 vi) W W'):
 QL T vf vt w (W'.setCell ⟨h,1,none⟩ v') p h pv fs st frm v' (items++[x]):=by
 obtain⟨hL,h1,h2,h3,h4,h5,h6⟩:=q;have hlt:∀k,Qq4 vi k→h+1≤k:=fun k hk=>(Qqf.lt h6 hk).1;have ks:Qqb (At h) W' (W'.setCell ⟨h,1,none⟩ v'):=(Qqb.refl (At h) W').setCell (p:=⟨h,1,none⟩) (fun _=>rfl) v';have hz:=hk.size;have z3:=(Zq.1 h3).1;have z5:=(Zq.1 h5).1;have h5':W'.heap[h]?=some (.cells #[st,vi,frm,()] 37 (0,0)):=(hk.block _ z5 fun hh=>by have:=hlt _ hh;omega).trans h5;refine⟨(hL.late hT hk fun i hi hh=>by have:=hlt _ hh;omega).late hT ks fun i hi hh=>by unfold At at hh;omega,h1,h2,?_,?_,?_,?_⟩
 ·exact(ks.block _ (by omega) fun hh=>by unfold At at hh;omega).trans ((hk.block _ z3 fun hh=>by have:=hlt _ hh;omega).trans h3)
 ·exact(h4.keep (hk.weak fun k _ h=>.inr (by have:=hlt _ h;omega))).keep (ks.weak fun k _ h=>.inr (by unfold At at h;omega))
 ·simp[Qg,Yh,h5']
 ·exact hg.keep Qjs ks fun k h1 _ hh=>by unfold At at hh;omega
end
theorem Uw7{n T p h:Nat}{vf vi:Value}{w W:World}{a6 ta:Option Addr}{c6 tc:Nat}{look:List UInt8→List Col}{fs:List Frm}{s:Sch}{ss:List Sch}{st:Bool}{frm:ByteArray}{items:List Ex}(hE:Qwn n)(hw:Qjh T w)(hs:Qjt (At T) w (Qv ta ss.length tc) ss)
 (hP:Qzm look (fs++[Qj6 s]) ss n)(q:QL T vf (Qv ta ss.length tc) w W p h (Qv a6 (fs.length+1) c6) (fs++[Qj6 s]) st frm vi items)(dp want:Int)(h1:dp≤n)(h2:-10≤dp)(h3:1≤want)(h4:want≤3):
 Calls Tryz.prog 93 #[.pointer (some ⟨T,0,none⟩),.agg #[Qv a6 (fs.length+1) c6,Qv ta ss.length tc],want,dp] W (Qjp T W (ExQ (Mk ss (fs++[Qj6 s]) want n) W)):=by
 have hl:(fs++[Qj6 s]).length=fs.length+1:=by simp
 have hf:=q.2.2.2.2.1;rw[←hl] at hf⊢;exact hE T dp want a6 ta c6 tc look _ ss W h1 h2 h3 h4 q.1.1 (hw.at q.1.2.1) (hf.weak fun k _ h=>.inl h) (hs.keep q.1.2.1) hP
def QG(n:Nat)(q:Qu):Prop:=(∀x∈q.items,GX n x)∧(∀x∈q.whr,GX n x)∧q.whr.length≤1∧Qju q.frm=true∧q.star=(q.items.length==0)
def Kq4(n:Nat)(w:World)(v:Value)(W:World):Prop:=∃q vi vw,v=.agg #[q.star,vi,q.frm,vw]∧Qqq (Old w.heap.size) W vi q.items∧Qqq (Old w.heap.size) W vw q.whr∧Uqu q≤n+1∧q.items.length≤3∧QG n q
theorem Jjt{n:Nat}:∀{l:List Ex},(∀x∈l,dep x≤n)→Qvr l≤n
 |[],_=>by simp[Qvr]
 |x::l,h=>by
  rw[Qvr];have:=h x (by simp);have:=Jjt fun y hy=>h y (Zl x hy);omega
theorem Yym{T p h n:Nat}{vf vt pv vi:Value}{w W W':World}{fs:List Frm}{st:Bool}{frm:ByteArray}{items:List Ex}(q:QL T vf vt w W p h pv fs st frm vi items)(hT:T<w.heap.size)(hsn:Qju frm=true)(hst:st=(items.length==0))(hd:∀x∈items,dep x≤n∧GX n x)(hl:items.length≤3)(ks:Qqb (At (w.heap.size+1)) W W'):
 Qjp T w (Kq4 n w) (.returned (.agg #[st,vi,frm,()])) W':=by
 obtain⟨hL,h1,h2,h3,h4,h5,h6⟩:=q;refine Qy2 hT hL.2.1 hL.1 ks ⟨.mk st items frm [],vi,_,rfl,?_,Qqa.nil ..,?_,hl,fun x hx=>(hd x hx).2,fun x hx=>by(cases hx),Zi _,hsn,hst⟩
 ·have hr:Qqq (Old (h+1)) W vi items:=Qqn.rows Qjs h6;exact Qqq.weak (fun k _ hk=>by unfold Old at hk⊢;omega) (Qqq.keep hr (ks.weak fun k _ hk=>by unfold At at hk;unfold Old;omega))
 ·rw[Yj3];have:=Jjt fun x hx=>(hd x hx).1;show max (Qvr items) (Qvr [])+1≤n+1;rw[Qvr];omega
theorem Yyn{T p h n lo:Nat}{vf vt pv vi:Value}{w W W' W9:World}{fs:List Frm}{st:Bool}{frm:ByteArray}{items:List Ex}{x:Ex}{a s:Option Addr}{ac sc:Nat}(q:QL T vf vt w W p h pv fs st frm vi items)(hT:T<w.heap.size)(hsn:Qju frm=true)(hst:st=(items.length==0))(hd:∀x∈items,dep x≤n∧GX n x)(hl:items.length≤3)(hdx:dep x≤n∧GX n x)
 (hx:ExV (Old lo) W x (.agg #[x.kind,x.op,x.no,x.val.kind,x.val.int,x.val.text,x.table,x.name,Qv a x.args.length ac,Qv s x.sub.length sc]))(hlo:h<lo)
 (h9:W9=(W.setCell ⟨h,3,none⟩ (Qv (some ⟨W.heap.size,0,none⟩) 1 1)).alloc (.cells #[x.kind,x.op,x.no,x.val.kind,x.val.int,x.val.text,x.table,x.name,Qv a x.args.length ac,Qv s x.sub.length sc] 80))
 (ks:Qqb (At (w.heap.size+1)) W9 W'):
 Qjp T w (Kq4 n w) (.returned (.agg #[st,vi,frm,Qv (some ⟨W.heap.size,0,none⟩) 1 1])) W':=by
 obtain⟨hL,h1,h2,h3,h4,h5,h6⟩:=q;have z5:=(Zq.1 h5).1;have k9:Qqb (At h) W W9:=by rw[h9];exact((Qqb.refl (At h) W).setCell (p:=⟨h,3,none⟩) (fun _=>rfl) _).alloc _
 have hT9:Qql T W9:=hL.1.keep k9 fun k hk hh=>by unfold At at hh;omega
 refine Qy2 hT (hL.2.1.then k9 fun k hk hh=>by unfold At at hh;omega) hT9 ks ⟨.mk st items frm [x],vi,_,rfl,?_,?_,?_,hl,fun x hx=>(hd x hx).2,fun y hy=>by(rw[Zd.1 hy];exact hdx.2),Zz _,hsn,hst⟩
 ·have hr:Qqq (Old (h+1)) W vi items:=Qqn.rows Qjs h6;exact Qqq.weak (fun k _ hk=>by unfold Old at hk⊢;omega) (Qqq.keep (Qqq.keep hr (k9.weak fun k _ hk=>by unfold At at hk;unfold Old;omega)) (ks.weak fun k _ hk=>by unfold At at hk;unfold Old;omega))
 ·have hr:Qqq (Old (h+1)) W9 (Qv (some ⟨W.heap.size,0,none⟩) 1 1) [x]:=by
   rw[h9];refine Qq6 (R:=EC _ _) x (by simp) (by unfold Old;simp;omega) rfl ?_;exact EC.keep ((((Qqb.refl (At h) W).setCell (p:=⟨h,3,none⟩) (fun _=>rfl) _).alloc _).weak fun k _ hk=>by unfold At at hk;unfold Old;omega) _ _ (EC.weak (fun k _ hk=>by unfold Old at hk⊢;omega) _ _ (Jjs hx))
  exact Qqq.weak (fun k _ hk=>by unfold Old at hk⊢;omega) (Qqq.keep hr (ks.weak fun k _ hk=>by unfold At at hk;unfold Old;omega))
 ·rw[Yj3];have:=Jjt fun x hx=>(hd x hx).1;have hdx:=hdx.1;show max (Qvr items) (Qvr [x])+1≤n+1;rw[Qvr,Qvr];omega
theorem Yq2{T p h:Nat}{vf vt pv vi vx:Value}{w W:World}{fs:List Frm}{st:Bool}{frm:ByteArray}{items:List Ex}{o:Obj}(q:QL T vf vt w W p h pv fs st frm vi items)(hT:T<w.heap.size):
 ((W.setCell ⟨h,3,none⟩ vx).alloc o).heap[h]?=some (.cells #[st,vi,frm,vx] 37 (0,0))∧Qx0 T vf vt w ((W.setCell ⟨h,3,none⟩ vx).alloc o):=by
 obtain⟨hL,h1,h2,h3,h4,h5,h6⟩:=q;have z5:=(Zq.1 h5).1;refine⟨(Jy _ _ (by simpa using z5)).trans (by simp[Qg,Yh,h5]),(hL.set hT (by omega) _).alloc hT _⟩
theorem Qkd(S:Nat)(w:World)(a0 a1 a2 a3:Value):Qqb (At S) w ((((w.setCell ⟨S,0,none⟩ a0).setCell ⟨S,1,none⟩ a1).setCell ⟨S,2,none⟩ a2).setCell ⟨S,3,none⟩ a3):=
 ((((Qqb.refl (At S) w).setCell (p:=⟨S,0,none⟩) (fun _=>rfl) a0).setCell (p:=⟨S,1,none⟩) (fun _=>rfl) a1).setCell (p:=⟨S,2,none⟩) (fun _=>rfl) a2).setCell (p:=⟨S,3,none⟩) (fun _=>rfl) a3
end Go.Proofs.YtgepbohjmgaojaaGreatDoor
