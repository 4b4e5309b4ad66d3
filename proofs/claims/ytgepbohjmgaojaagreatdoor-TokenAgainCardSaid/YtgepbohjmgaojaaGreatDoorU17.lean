/- The place of a statement (Home). A schema of any kind: the contract of AnySchema. The walk of ScopeInner. What AnyStatement writes into a statement. -/
import Derived.Test.YtgepbohjmgaojaaGreatDoorU13
set_option linter.all false
set_option maxHeartbeats 4000000
set_option maxRecDepth 100000
namespace Go.Proofs.YtgepbohjmgaojaaGreatDoor
open Value renaming slice→Qv
open Lib(hid)
open Go.RowKit
def Ukl(w:World)(e:Ending)(w':World):Prop:=∃a c,e=.returned (.agg #[(),Qv a Qq3.length c])∧Qjt (Old w.heap.size) w' (Qv a Qq3.length c) Qq3∧Below w.heap.size w w'
theorem Jx7(w:World):Calls Tryz.prog 54 #[] w (Ukl w):=by
 go_enter Tryz.func54,Tryz.ntmps54;go_wp2_with fail
 generalize hW:World.alloc w _=W;have hS:W.heap[w.heap.size]?=some (.cells #[(),()] 122 (0,0)):=by rw[←hW];exact Zw w _
 have hbw:Below w.heap.size w W:=by rw[←hW];exact(Below.refl _ _).alloc (Zz _) _
 have hz:=(Zq.1 hS).1;clear hW;refine(Qyp _).mono ?_;rintro e w1 ⟨v,rfl,hs,hb⟩;obtain⟨a,c,rfl,_⟩:=hs.shape;have hS1:=(hb.block _ hz).trans hS;obtain⟨r0,r1,rf0,rf1,rz⟩:=Qjk hS1;have HS:=hid hs;have HB:=hid (hbw.trans (hb.mono (Jt hz)));have hz1:=hb.size;clear hs hb hS hS1;dsimp only;go_wp2_with fail
 refine Zh (v:=.agg #[(),Qv a Qq3.length c]) (by simp[results,Tryz.results54,go_sem,r0,r1]) rfl ?_;have ks:Qqb (At w.heap.size) w1 ((w1.setCell ⟨w.heap.size,0,none⟩ (Qv none 0 0)).setCell ⟨w.heap.size,1,none⟩ (Qv a Qq3.length c)):=((Qqb.refl (At w.heap.size) w1).setCell (p:=⟨w.heap.size,0,none⟩) (fun _=>rfl) _).setCell (p:=⟨w.heap.size,1,none⟩) (fun _=>rfl) _;refine⟨a,c,rfl,?_,HB.out.trans (ks.toBelow HB.out.size fun k hk h=>by unfold At at h;omega)⟩;have h1:Qjt (Old W.heap.size) w1 (Qv a Qq3.length c) Qq3:=Qjt.weak (fun k hk h=>by unfold Old at h;unfold Out;omega) HS.out;exact Qjt.weak (fun k hk h=>by unfold Old at h⊢;omega) (Qjt.keep h1 (ks.weak fun k _ h=>by unfold At at h;unfold Old;omega))
theorem Jy9(T:Nat)(w:World)(ht:Qql T w)(hn:Qkj T w):Calls Tryz.prog 51 #[.pointer (some ⟨T,0,none⟩)] w (Qjp T w (Uwi w)):=by
 have hTw:=ht.lt;have H0:=hid ht;have HN:=hid hn;have tok1:Hid True:=trivial;clear ht hn;go_enter Tryz.func51,Tryz.ntmps51
 go_wp2_with(first
  |(go_at_call 58;refine(Jwd T _ (H0.out.alloc _) (HN.out.at ((Qqb.refl _ w).alloc _))).mono ?_;rintro e w1 ⟨v,rfl,⟨ni,hni,rfl⟩,ht,hk⟩;have HT1:=hid ht;have HK1:=hid (((Qqb.refl (At T) w).alloc _).trans hk);have HKA:=hid hk;have h1:=hk.size;simp only[Zn] at h1;clear ht hk)
  |(go_at_call 12;have _t:=tok1;refine(Qqk T 4 _ (by omega) (by omega) (HT1.out.alloc _)).mono ?_;rintro e w2 ⟨v,rfl,⟨key',rfl,hk0,hk1⟩,ht,hk⟩;obtain⟨key,rfl⟩:=Zt hk0;have HT2:=hid ht;have HKB:=hid hk;have h2:=hk.size;simp only[Zn] at h2;clear ht hk tok1)
  |(go_at_call 12;refine(Qqk T 5 _ (by omega) (by omega) HT2.out).mono ?_;rintro e w3 ⟨v,rfl,⟨tot',rfl,ht0,ht1⟩,ht,hk⟩;obtain⟨tot,rfl⟩:=Zt ht0;have HT3:=hid ht;have HKC:=hid hk;have h3:=hk.size;clear ht hk))
 have hT1:T<w1.heap.size:=by omega
 have g1:(w1.alloc (.cells #[(Qjf ni),()] 29)).heap[w1.heap.size]?=some (.cells #[(Qjf ni),()] 29 (0,0)):=Zw _ _
 have g3:w3.heap[w1.heap.size]?=some (.cells #[(Qjf ni),()] 29 (0,0)):=by
  rw[HKC.out.block _ (by omega) (by unfold At;omega),HKB.out.block _ (by simp) (by unfold At;omega)];exact g1
 have g0:(w.alloc (.cells #["",()] 29)).heap[w.heap.size]?=some (.cells #["",()] 29 (0,0)):=Zw _ _
 have g4:w3.heap[w.heap.size]?=some (.cells #["",()] 29 (0,0)):=by
  rw[HKC.out.block _ (by omega) (by unfold At;omega),HKB.out.block _ (by simp;omega) (by unfold At;omega),Jy _ _ (by omega),HKA.out.block _ (by simp) (by unfold At;omega)];exact g0
 have HK3:=hid (((HK1.out.alloc _).trans HKB.out).trans HKC.out);have G3:=hid g3;have G4:=hid g4;clear g1 g3 g0 g4;have hw13:w1.heap.size<w3.heap.size:=by omega
 go_loopw[5] (fun i wr=>∃(n m:Nat) (v:Value) (cols:List Col),n+m=tot+1∧i=.int .i64 m∧cols.length=n∧(∀i c,cols[i]?=some c→Yj4 key i c)∧wr.heap[w1.heap.size]?=some (.cells #[(Qjf ni),v] 29 (0,0))∧
  wr.heap[w.heap.size]?=some (.cells #["",()] 29 (0,0))∧Qqn (w1.heap.size+1) wr 106 4 Jzu v cols∧Qql T wr∧Qqb (At T) w wr) (fun i _=>(intOf i).toNat)
 case atStart=>exact⟨0,tot+1,Qv none 0 0,[],by omega,by go_num,rfl,by simp,G3.out,G4.out,Qqn.nil ..,HT3.out,HK3.out⟩
 case round=>
  obtain⟨n,m,v,cols,hnm,rfl,hlen,hall,hS,hR,hown,htp,hkp⟩:=hrel;obtain⟨ca,cc,rfl,hcm⟩:=hown.shape;obtain⟨s0,s1,sf0,sf1,sz⟩:=Qjk hS;obtain⟨q0,q1,qf0,qf1,qz⟩:=Qjk hR;have hidx:(n*3+key)%8<8:=Nat.mod_lt _ (by omega);have hnm':=(HN.out.at hkp).2 _ hidx;by_cases hm:1≤m
  ·obtain⟨m',rfl⟩:∃m',m=m'+1:=⟨m-1,by omega⟩
   have hn4:n≤4:=by omega
   subst hlen;have HTR:=hid htp;have HKR:=hid hkp;have HOW:=hid hown;have HALL:=hid hall;have HS:=hid hS;have HR:=hid hR;have hTw3:T≠w1.heap.size:=by omega
   clear htp hkp hown hall hS hR;have e1:IntKind.i64.wrap ((cols.length:Int)*3)=(cols.length:Int)*3:=Zp _ (by omega);have e2:IntKind.i64.wrap ((cols.length:Int)*3+(key:Int))=(cols.length:Int)*3+(key:Int):=Zp _ (by omega);have e3:((cols.length:Int)*3+(key:Int)).tmod 8=(((cols.length*3+key)%8:Nat):Int):=by rw[Int.tmod_eq_emod_of_nonneg (by omega)];omega
   have e4:(0:Int)≤(((cols.length*3+key)%8:Nat):Int):=by omega
   have e5:(((cols.length*3+key)%8:Nat):Int)<8:=by omega
   have HIDX:∃idx,Hid ((cols.length*3+key)%8=idx):=⟨_,hid rfl⟩
   obtain⟨idx,HIDX⟩:=HIDX;rw[HIDX.out] at hidx hnm' e3 e4 e5;have E1:=hid e1;have E2:=hid e2;have E3:=hid e3;clear e1 e2 e3;have nT:wr.heap.size≠T:=by omega
   have nmL:5<T:=HN.out.1;have nmT:5≠T:=Nat.ne_of_lt HN.out.1;have S1D:Hid (wr.drew.cell? ⟨w1.heap.size,1,none⟩=some (Qv ca cols.length cc)):=s1;have S1A:Hid (∀o,(wr.alloc o).drew.cell? ⟨w1.heap.size,1,none⟩=some (Qv ca cols.length cc)):=fun o=>(Js wr o ⟨w1.heap.size,1,none⟩ sz).trans s1;have N1D:Hid (wr.drew.cell? ⟨5,idx,none⟩=some (.string (Qjf idx))):=hnm';have N1A:Hid (∀o,(wr.alloc o).drew.cell? ⟨5,idx,none⟩=some (.string (Qjf idx))):=fun o=>(Js wr o ⟨5,idx,none⟩ (Za _ _ hnm')).trans hnm';go_wp2_with fail
   go_cut [6] (fun c wx=>∃(g:Nat) (ty:Int) (nn:Bool),c=.pointer (some ⟨g,0,none⟩)∧wr.heap.size≤g∧wx.heap[g]?=some (.cells #[(Qjf idx),ty,nn,false] 106 (0,0))∧1≤ty∧ty≤3∧Qql T wx∧Qqb (At T) wr wx)
   case first=>
    have e1:=E1.out;have e2:=E2.out;have e3:=E3.out
    go_region_held3 (fun w'=>w'.cell? ⟨w1.heap.size,1,none⟩=some (Qv ca cols.length cc)∧w'.cell? ⟨5,idx,none⟩=some (.string (Qjf idx)))
     (first|(go_split_ands;first|with_reducible exact⟨s16,n6⟩|with_reducible exact⟨s15,n5⟩|with_reducible exact⟨S6A.out _,N6A.out _⟩|with_reducible exact⟨S5A.out _,N5A.out _⟩|with_reducible exact⟨S1A.out _,N1A.out _⟩)|(go_split_ands;refine⟨?_,?_⟩;(rw[Qyr,Qyr,Qyr,Qyr]<;>first|with_reducible exact s16|with_reducible exact S6A.out _|omega);(rw[Qyr,Qyr,Qyr,Qyr]<;>first|with_reducible exact n6|with_reducible exact N6A.out _|omega))|go_keep)
     (first
       |(go_at_call 12;refine(Qqk T 3 _ (by omega) (by omega) (by first|with_reducible exact HTR.out.drew|with_reducible exact(HTR.out.alloc _).drew)).mono ?_;rintro e w5 ⟨vv,rfl,⟨ty,rfl,hty0,hty1⟩,ht5,hk5⟩;have s15:=Jz8 hk5 (b:=w1.heap.size) (o:=1) (by first|with_reducible exact S1D.out|with_reducible exact S1A.out _) (fun h=>hTw3 h.symm);have n5:=Jz8 hk5 (b:=5) (o:=idx) (by first|with_reducible exact N1D.out|with_reducible exact N1A.out _) nmT;have s15A:=fun o=>(Js w5 o _ (Za _ _ s15)).trans s15;have n5A:=fun o=>(Js w5 o _ (Za _ _ n5)).trans n5;have S5A:=hid s15A;have N5A:=hid n5A;have z5:=hk5.size;obtain⟨kc5,kf5⟩:=Jwk hk5;(try simp only[Zn,Yl] at kc5 kf5);(try simp at z5);have z5':wr.heap.size≤w5.heap.size:=(by omega);have n5T:w5.heap.size≠T:=(by omega);(try(have z5b:wr.heap.size<w5.heap.size:=(by omega)));have e6:IntKind.i64.wrap (1+ty)=1+ty:=Zp _ (by omega);have HT5:=hid ht5;have HK5:=hid hk5;clear ht5 hk5 s15A n5A)
       |(go_at_call 56;refine(Qq2 T 3 _ (by omega) (by omega) (by first|with_reducible exact HT5.out|with_reducible exact HT5.out.alloc _)).mono ?_;rintro e w6 ⟨vv,rfl,⟨nn,rfl⟩,ht6,hk6⟩;have s16:=Jz8 hk6 (b:=w1.heap.size) (o:=1) (by first|with_reducible exact s15|with_reducible exact S5A.out _) (fun h=>hTw3 h.symm);have n6:=Jz8 hk6 (b:=5) (o:=idx) (by first|with_reducible exact n5|with_reducible exact N5A.out _) nmT;have s16A:=fun o=>(Js w6 o _ (Za _ _ s16)).trans s16;have n6A:=fun o=>(Js w6 o _ (Za _ _ n6)).trans n6;have S6A:=hid s16A;have N6A:=hid n6A;have z6:=hk6.size;obtain⟨kc6,kf6⟩:=Jwk hk6;(try simp only[Zn] at kc6 kf6);(try simp at z6);have z6':w5.heap.size≤w6.heap.size:=(by omega);have n6T:w6.heap.size≠T:=(by omega);(try(have z6b:w5.heap.size<w6.heap.size:=(by omega)));(try(have z6c:wr.heap.size<w6.heap.size:=(by omega)));have HT6:=hid ht6;have HK6:=hid hk6;clear ht6 hk6 s16A n6A)
       |fail)
    ·have hk:Qqb (At T) wr (w6.alloc (.cells #[(Qjf idx),.int .i64 (1+ty),nn,false] 106)):=(((Qqb.refl (At T) wr).drew.trans HK5.out).trans HK6.out).alloc _;have HKK:=hid hk;clear hk;go_wp2_with fail
     go_meet
     exact⟨w6.heap.size,1+ty,nn,rfl,by omega,Zw _ _,by omega,by omega,HT6.out.alloc _,HKK.out⟩
    ·have hb:w6.heap[w5.heap.size]?=some (.cells #["","0",false,false] 106 (0,0)):=(HK6.out.block _ (by simp) (fun h=>n5T h)).trans (Zw _ _);have hk:Qqb (At T) wr w6:=(((Qqb.refl (At T) wr).drew.trans HK5.out).alloc _).trans HK6.out;have HKK:=hid hk;have HBB:=hid hb;clear hk hb;go_wp2_with fail
     go_meet
     exact⟨w5.heap.size,1+ty,nn,rfl,by omega,Jwl HBB.out,by omega,by omega,Yqm HT6.out (by omega),Yqn HKK.out (by omega)⟩
    ·have hb0:((wr.alloc (.cells #["","0",false,false] 106)).drew).heap[wr.heap.size]?=some (.cells #["","0",false,false] 106 (0,0)):=Zw _ _;have hb:w6.heap[wr.heap.size]?=some (.cells #["","0",false,false] 106 (0,0)):=(HK6.out.block _ (by omega) (fun h=>nT h)).trans ((HK5.out.block _ (by simp) (fun h=>nT h)).trans hb0);have hk:Qqb (At T) wr w6:=((((Qqb.refl (At T) wr).alloc _).drew).trans HK5.out).trans HK6.out;have HKK:=hid hk;have HBB:=hid hb;clear hk hb hb0;go_wp2_with fail
     go_meet
     exact⟨wr.heap.size,1+ty,nn,rfl,by omega,Jwl HBB.out,by omega,by omega,Yqm HT6.out (by omega),Yqn HKK.out (by omega)⟩
   case rest=>
    obtain⟨g,ty,nn,rfl,hg,hc,hty1,hty3,htc,hkc⟩:=hcut;obtain⟨d0,d1,d2,d3,df2,df3,dz⟩:=Qzo hc;have hS':wc.heap[w1.heap.size]?=some (.cells #[(Qjf ni),Qv ca cols.length cc] 29 (0,0)):=(hkc.block _ sz (fun h=>hTw3 h.symm)).trans HS.out;have hR':wc.heap[w.heap.size]?=some (.cells #["",()] 29 (0,0)):=(hkc.block _ qz (fun h=>by unfold At at h;omega)).trans HR.out;obtain⟨s0',s1',sf0',sf1',sz'⟩:=Qjk hS';have hG':=HOW.out.keep Qxp hkc fun k h1 _ h=>by unfold At at h;omega
    have hown:∀k,Qq4 (Qv ca cols.length cc) k→w1.heap.size+1≤k∧k<wr.heap.size:=fun k h=>Qqf.lt HOW.out h;have hK':=HKR.out.trans hkc;have hgS:g≠w1.heap.size:=by omega
    have hgT:g≠T:=by omega
    have HG:=hid hG';have HK:=hid hK';have HT:=hid htc;have HSS:=hid hS';have HRR:=hid hR';have HO:=hid hown;have z1:=hkc.size;have hrS:w.heap.size<w1.heap.size:=by omega
    have hcl:(cols.length+1)*32≤140737488355328:=by omega
    have hcm2:cols.length+1≤maxLen:=by unfold maxLen;omega
    have HCL:=hid hcl;clear hc hG' hK' htc hS' hR' hown hkc hcl s0 s1 sf0 sf1 q0 q1 qf0 qf1 hnm' E1 E2 E3 S1D S1A N1D N1A;by_cases hkey:key=cols.length
    ·obtain⟨hS2,hR2,hG2,ht2,hk2⟩:=Uxp (u1:=.bool true) (u2:=.bool true) (by omega:w1.heap.size<g) hT1 hrS (Jt hrS) HO.out hg HSS.out HRR.out HG.out HT.out HK.out;have HSS:=hid hS2;have HRR:=hid hR2;have HG:=hid hG2;have HT:=hid ht2;have HK:=hid hk2;have HKEY:=hid hkey;have bk:((key:Int)==(cols.length:Int))=true:=by simp;omega
     obtain⟨_,s1',_,sf1',sz'⟩:=Qjk hS2;clear hS2 hR2 hG2 ht2 hk2 hkey
     go_wp2_with(at_builtin;refine Qzj (w:=(wc.setCell ⟨g,3,none⟩ (.bool true)).setCell ⟨g,2,none⟩ (.bool true)) Qxp rfl _ _ 27 rfl 106 _ 4 32 Tryz.underlying27 Jqn rfl (by decide) (w1.heap.size+1) (Qv ca cols.length cc) wc.heap.size (#[(Qjf idx),ty,true,true]) cols ⟨Qjf idx,ty,true,true⟩ rfl rfl (by simp) HG.out rfl rfl HCL.out hcm2 (by simp;omega) ?_;intro v' w' ho hk;obtain⟨a',p',rfl,_⟩:=ho.shape;obtain⟨hs9,hr9,ht9,hk9⟩:=Yqo (T:=T) (S:=w1.heap.size) (r:=w.heap.size) (w0:=w) hk (fun k h=>(HO.out k h).1) hT1 hrS (Jt hrS) HSS.out HRR.out HT.out HK.out;obtain⟨_,t1,_,tf1,tz⟩:=Qjk hs9;have HG9:=hid ho;have HT9:=hid ht9;have HK9:=hid hk9;have HS9:=hid hs9;have HR9:=hid hr9;clear ho hk hs9 hr9 ht9 hk9)
     go_roundw
     case rel=>exact Yya (nn:=true) (kk:=true) hT1 hrS (Jt hrS) hnm HIDX.out hty1 hty3 (by rw[HKEY.out];simp) (fun _=>rfl) HALL.out HS9.out HR9.out (by have h:=HG9.out;rw[Zr] at h;exact h) HT9.out HK9.out
     case measure=>simp[intOf]
    ·have bk:((key:Int)==(cols.length:Int))=false:=by simp;omega
     go_wp2_with(at_builtin;refine Qzj (w:=wc) Qxp rfl _ _ 27 rfl 106 _ 4 32 Tryz.underlying27 Jqn rfl (by decide) (w1.heap.size+1) (Qv ca cols.length cc) wc.heap.size (#[(Qjf idx),ty,nn,false]) cols ⟨Qjf idx,ty,nn,false⟩ rfl rfl rfl HG.out rfl rfl HCL.out hcm2 (by omega) ?_;intro v' w' ho hk;obtain⟨a',p',rfl,_⟩:=ho.shape;obtain⟨hs9,hr9,ht9,hk9⟩:=Yqo (T:=T) (S:=w1.heap.size) (r:=w.heap.size) (w0:=w) hk (fun k h=>(HO.out k h).1) hT1 hrS (Jt hrS) HSS.out HRR.out HT.out HK.out;obtain⟨_,t1,_,tf1,tz⟩:=Qjk hs9;have HG9:=hid ho;have HT9:=hid ht9;have HK9:=hid hk9;have HS9:=hid hs9;have HR9:=hid hr9;clear ho hk hs9 hr9 ht9 hk9)
     go_roundw
     case rel=>exact Yya (nn:=nn) (kk:=false) hT1 hrS (Jt hrS) hnm HIDX.out hty1 hty3 (by simp[hkey]) (by simp) HALL.out HS9.out HR9.out (by have h:=HG9.out;rw[Zr] at h;exact h) HT9.out HK9.out
     case measure=>simp[intOf]
  ·obtain rfl:m=0:=by omega
   subst hlen;have r0a:(wr.setCell ⟨w.heap.size,0,none⟩ (.string (Qjf ni))).cell? ⟨w.heap.size,0,none⟩=some (.string (Qjf ni)):=World.cell?_setCell_same _ _ _ q0;have R0A:=hid r0a;clear r0a;have hrS:w.heap.size<w1.heap.size:=by omega
   have ks:Qqb (At w.heap.size) wr ((wr.setCell ⟨w.heap.size,0,none⟩ (.string (Qjf ni))).setCell ⟨w.heap.size,1,none⟩ (Qv ca cols.length cc)):=((Qqb.refl (At w.heap.size) wr).setCell (p:=⟨w.heap.size,0,none⟩) (fun _=>rfl) _).setCell (p:=⟨w.heap.size,1,none⟩) (fun _=>rfl) _;have hkw:Qqb (At T) w ((wr.setCell ⟨w.heap.size,0,none⟩ (.string (Qjf ni))).setCell ⟨w.heap.size,1,none⟩ (Qv ca cols.length cc)):=(hkp.setCell (p:=⟨w.heap.size,0,none⟩) (fun h=>absurd h (Nat.lt_irrefl _)) _).setCell (p:=⟨w.heap.size,1,none⟩) (fun h=>absurd h (Nat.lt_irrefl _)) _;have htw:Qql T ((wr.setCell ⟨w.heap.size,0,none⟩ (.string (Qjf ni))).setCell ⟨w.heap.size,1,none⟩ (Qv ca cols.length cc)):=htp.keep ks fun k h1 h=>by unfold At at h;omega
   have hcols:Qq1 (Out w.heap.size ((wr.setCell ⟨w.heap.size,0,none⟩ (.string (Qjf ni))).setCell ⟨w.heap.size,1,none⟩ (Qv ca cols.length cc)).heap.size) ((wr.setCell ⟨w.heap.size,0,none⟩ (.string (Qjf ni))).setCell ⟨w.heap.size,1,none⟩ (Qv ca cols.length cc)) (Qv ca cols.length cc) cols:=
    Qqa.weak ((hown.keep Qxp ks fun k h1 _ h=>by unfold At at h;omega).rows Qxp) (fun k hk h=>by unfold Out at h;unfold Old;omega) fun _ _ _ h=>h
   have hr2:=Jwm (Uq2 (a':=.string (Qjf ni)) hR) (v:=Qv ca cols.length cc);obtain⟨_,r1,_,_,_⟩:=Qjk hr2;have R1:=hid r1;have HKW:=hid hkw;have HTW:=hid htw;have HCC:=hid hcols;have HALL:=hid hall;have hn1:1≤cols.length:=by omega
   have hn5:cols.length≤5:=by omega
   clear hkp htp hown hall hnm' ks hkw htw hcols hr2 r1;go_wp2_with fail
   have r1:=R1.out;have r0a:=R0A.out;refine Zh (v:=.agg #[(Qjf ni),Qv ca cols.length cc]) (by simp[results,Tryz.results51,go_sem,r0a,r1]) rfl ?_;exact⟨_,rfl,⟨⟨Qjf ni,cols⟩,_,rfl,⟨⟨ni,hni,rfl⟩,hn1,hn5,key,by omega,HALL.out⟩,HCC.out⟩,HTW.out,HKW.out⟩
theorem QG.up{n m:Nat}{q:Qu}(h:QG n q)(hm:n≤m):QG m q:=⟨fun x hx=>(h.1 x hx).up hm,fun x hx=>(h.2.1 x hx).up hm,h.2.2⟩
theorem Qk3.up{n m:Nat}{a:Qzq}(h:Qk3 n a)(hm:n≤m):Qk3 m a:=by
 cases h with
 |rows t l ht h1 h2 hr=>exact .rows t l ht h1 h2 fun r hx=>⟨(hr r hx).1,(hr r hx).2.1,fun x hm'=>((hr r hx).2.2 x hm').up hm⟩
 |query t q ht hq hl=>exact .query t q ht (hq.up hm) hl
 |update t l whr ht h1 h2 hs hd hw hg=>exact .update t l whr ht h1 h2 (fun s hx=>⟨(hs s hx).1,(hs s hx).2.up hm⟩) hd hw fun x hx=>(hg x hx).up hm
 |delete t whr ht hw hg=>exact .delete t whr ht hw fun x hx=>(hg x hx).up hm
 |abort t h h2=>exact .abort t h h2
 |set s h=>exact .set s ⟨h.1,h.2.up hm⟩
theorem Jxf.up{n m:Nat}{t:Qks}(h:Jxf n t)(hm:n≤m):Jxf m t:=
 {h with cond2:=fun x hx=>(h.cond2 x hx).up hm,acts3:=fun a ha=>⟨(h.acts3 a ha).1.up hm,(h.acts3 a ha).2⟩}
theorem Qwx.up{n m:Nat}{s:Qvu}(h:Qwx n s)(hm:n≤m):Qwx m s:=by
 cases h with
 |table s h=>exact .table s h
 |dropTable t h=>exact .dropTable t h
 |trigger t h=>exact .trigger t (h.up hm)
 |dropTrigger t h=>exact .dropTrigger t h
 |select q h hl=>exact .select q (h.up hm) hl
 |change a h hk=>exact .change a (h.up hm) hk
theorem Yzu{n:Nat}{e:Ex}(h:GX n e):∀x∈[e],GX n x:=fun _ hx=>Zd.1 hx▸h
def Kq8(t:Qks)(e:Ex):Qks:={t with cond:=[e]}
def Kq9(q:Qu)(e:Ex):Qu:=.mk q.star q.items q.frm [e]
def Ukm(a:Qzq)(e:Ex):Qzq:={a with whr:=[e]}
def Kj0(a:Qzq)(e:Ex)(r0:List Ex)(rest:List (List Ex)):Qzq:={a with rows:=(e::r0.tail)::rest}
theorem Kja{n:Nat}{t:Qks}{e:Ex}(h:Jxf n t)(he:GX n e):Jxf n (Kq8 t e):={h with cond1:=Zz 1,cond2:=Yzu he}
theorem Kjb{n:Nat}{q:Qu}{e:Ex}(h:QG n q)(he:GX n e):QG n (Kq9 q e):=⟨h.1,Yzu he,Zz 1,h.2.2.2⟩
theorem Ukn{n:Nat}{a:Qzq}{e:Ex}(h:Qk3 n a)(he:GX n e)(h1:a.kind≠1)(h3:a.kind≤3):Qk3 n (Ukm a e):=by
 cases h with
 |rows t l ht h1' h2 hr=>exact absurd rfl h1
 |query t q ht hq hl=>exact absurd rfl h1
 |update t l whr ht k1 k2 hs hd hw hg=>exact .update t l [e] ht k1 k2 hs hd (Zz 1) (Yzu he)
 |delete t whr ht hw hg=>exact .delete t [e] ht (Zz 1) (Yzu he)
 |abort t h h2=>exact absurd h3 (by show ¬(4:Int)≤3;omega)
 |set s h=>exact absurd h3 (by show ¬(5:Int)≤3;omega)
theorem Kjc{n:Nat}{a:Qzq}{e:Ex}{r0:List Ex}{rest:List (List Ex)}(h:Qk3 n a)(he:GX n e)(hr:a.rows=r0::rest):Qk3 n (Kj0 a e r0 rest):=by
 cases h with
 |rows t l ht h1 h2 hrs=>
  have hr:l=r0::rest:=hr;subst hr;refine .rows t _ ht h1 h2 fun r hm=>?_;rcases Zs.1 hm with rfl|hm
  ·obtain⟨a,b,c⟩:=hrs r0 (by simp);refine⟨by simp,by simp;omega,fun x hx=>?_⟩;rcases Zs.1 hx with rfl|hx
   ·exact he
   ·exact c x (List.mem_of_mem_tail hx)
  ·exact hrs r (Zl _ hm)
 |query t q ht hq hl=>cases hr
 |update t l whr ht h1 h2 hs hd hw hg=>cases hr
 |delete t whr ht hw hg=>cases hr
 |abort t h h2=>cases hr
 |set s h=>cases hr
end Go.Proofs.YtgepbohjmgaojaaGreatDoor
