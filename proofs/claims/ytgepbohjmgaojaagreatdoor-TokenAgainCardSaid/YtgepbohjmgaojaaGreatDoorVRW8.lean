/- The reference's words of triggers. -/
import Derived.Test.YtgepbohjmgaojaaGreatDoorU23
set_option linter.all false
namespace Go.Proofs.YtgepbohjmgaojaaGreatDoor
open Value renaming slice→Qv
open Lib(hid)
open Go.RowKit
def Yxf(bf:Bool):ByteArray:=if bf then Jv1 else Yzn
def Yw1(each:Bool):ByteArray:=if each then Uyd else Jqs
def Yxg(w:World):Prop:=∀i:Nat,1≤i→i<4→w.cell? ⟨2,i,none⟩=some (.string (evS (i:Int)))
theorem Yxg.bel{w w':World}(h:Yxg w)(k:Below w.heap.size w w'):Yxg w':=fun i h1 hi=>(k.cell (Za _ _ (h i h1 hi))).trans (h i h1 hi)
theorem Uzx{w:World}{i:Int}(h:Yxg w)(h1:1≤i)(h3:i≤3):w.cell? ⟨2,i.toNat,none⟩=some (.string (evS i)):=by
 have:=h i.toNat (by omega) (by omega)
 rwa [Int.toNat_of_nonneg (by omega)] at this
structure Yvq(t:Qks):Prop where
 ev1:1≤t.event
 ev3:t.event≤3
 rank:∀r∈t.rank, -9223372036854775808≤r.low∧r.low≤9223372036854775807∧-9223372036854775808≤r.high∧r.high≤9223372036854775807
 cond:∀x∈t.cond,Qxb x
 acts:∀a∈t.acts,Uyo a
 len:(Qkw t).length≤400000000
 few:t.ofs.length+t.prec.length+t.foll.length≤1000
theorem Yxh(n:Int):(Jxe n).length≤2:=by unfold Jxe;split<;>simp
theorem Qy3{α:Type}(f:α→List ByteArray)(l:List α)(j:Nat):(((l.take j).map f).flatten).length≤((l.map f).flatten).length:=by
 induction l generalizing j with
 |nil=>simp
 |cons a l ih=>
  cases j with
  |zero=>simp
  |succ j=>
   have:=ih j;simp only[Qj,Yc,Yr,Zr];omega
theorem Jki{α:Type}(f:α→List ByteArray)(l:List α)(j:Nat)(x:α)(h:l[j]?=some x):((l.take (j+1)).map f).flatten=((l.take j).map f).flatten++f x:=by
 rw[Jh,h];simp
set_option maxRecDepth 100000 in
set_option maxHeartbeats 32000000 in
theorem Yjw(t:Qks)(cs:List Value)(w:World)(h:Jks NoM w t cs)(hv:Yvq t)(hL:Qzf w)(hs:10<w.heap.size)(hO:Jxj w)(hE:Yxg w):
 Calls Tryz.prog 19 #[.agg cs.toArray] w (Qkz (Qkw t) w):=by
 obtain⟨vo,vp,vf,vr,vw,va,rfl,ho,hp,hf,hr,hwc,ha⟩:=h;obtain⟨hev1,hev3,hrk,hcd,hac,hlen,hfew⟩:=hv;obtain⟨nm,tb,bf,ev,ofs,each,prec,foll,rank,cond,acts⟩:=t;dsimp only at*
 have HRW:Hid (Qkw ⟨nm,tb,bf,ev,ofs,each,prec,foll,rank,cond,acts⟩=([kCREATE,Qzl,nm,Yxf bf,evS ev]++(Qj4 kOF ofs++([kON,tb,Jyd,Jjw,Yw1 each]++(Qj4 Qva prec++Qj4 Qwi foll))))++((rank.map Qyi).flatten++((cond.map Qvx).flatten++([Jqt]++((acts.map fun a=>Qqv a++[Qkg]).flatten++[Jye]))))):=hid (by
  unfold Qkw Yxf Yw1
  simp only[Ji,List.nil_append,Jk])
 obtain⟨R,hR0⟩:∃R,Qkw ⟨nm,tb,bf,ev,ofs,each,prec,foll,rank,cond,acts⟩=R:=⟨_,rfl⟩
 rw[hR0] at HRW hlen⊢;clear hR0;have hln:=hlen;rw[HRW.out] at hln;have HTOT:=hid hln;simp only[Zr,Zb,Yw] at hln;obtain⟨oa,oc,rfl,hmo⟩:=Qqa.shape ho;obtain⟨pa,pc,rfl,hmp⟩:=Qqa.shape hp;obtain⟨fa,fc,rfl,hmf⟩:=Qqa.shape hf;obtain⟨ra,rc,rfl,hmr⟩:=Qqa.shape hr;obtain⟨wa,qcc,rfl,hmw⟩:=Qqa.shape hwc;obtain⟨aa,ac,rfl,hma⟩:=Qqa.shape ha;unfold maxLen at hmo hmp hmf hmr hmw hma;simp only[Jx4];have hnl:=Qyk ofs kOF;have hnl2:=Qyk prec Qva;have hnl3:=Qyk foll Qwi;have HN1':=hid fun wx (k:Below w.heap.size w wx)=>Jxk kOF ofs _ wx (Qjm.keep (.bel k) ho) (by omega);have HN2':=hid fun wx (k:Below w.heap.size w wx)=>Jxk Qva prec _ wx (Qjm.keep (.bel k) hp) (by omega);have HN3':=hid fun wx (k:Below w.heap.size w wx)=>Jxk Qwi foll _ wx (Qjm.keep (.bel k) hf) (by omega);have HNUM:=hid fun n wx (k:Below w.heap.size w wx) (h1:-9223372036854775808≤n) (h2:n≤9223372036854775807)=>Uj1 n h1 h2 wx (hL.belB k hs) (Zm hs k.size)
 have HR:=hid fun j (hj:j<rank.length)=>(show ∃r b o,rank[j]?=some r∧r∈rank∧ra=some ⟨b,o,none⟩∧b<w.heap.size∧Qqr w b (o+j*4) [r.table,r.col,r.low,r.high]∧rank.length≤rc∧rc≤maxLen from by
  obtain⟨r,b,o,cs,h1,h2,h3,h4,rfl,h6,h7⟩:=Qx7 hr hj
  exact⟨r,b,o,h1,h2,h3,h4,h6,h7⟩)
 have HC:=hid fun j (hj:j<cond.length)=>(show ∃x b o xa xac xs xsc,cond[j]?=some x∧x∈cond∧wa=some ⟨b,o,none⟩∧b<w.heap.size∧Qqr w b (o+j*10) (Qjg x.kind x.op x.no x.val x.table x.name (Qv xa x.args.length xac) (Qv xs x.sub.length xsc))∧
  (∀wx,Below w.heap.size w wx→(Qqm x).length≤900000000→Calls Tryz.prog 45 #[.agg (Qjg x.kind x.op x.no x.val x.table x.name (Qv xa x.args.length xac) (Qv xs x.sub.length xsc)).toArray] wx (Qkz (Qqm x) wx))∧cond.length≤qcc∧qcc≤maxLen from by
  obtain⟨x,b,o,cs,h1,h2,h3,h4,h5,h6,h7⟩:=Qx7 hwc hj;have h5':=h5;obtain⟨xva,xvs,rfl,hva,hvs⟩:=(Qji ..).1 h5';obtain⟨xa,xac,rfl,_⟩:=hva.shape;obtain⟨xs,xsc,rfl,_⟩:=hvs.shape
  exact⟨x,b,o,xa,xac,xs,xsc,h1,h2,h3,h4,h6,fun wx k hn=>hcd x h2 _ wx (EC.keep (M:=NoM) (.bel k) x _ h5) (hL.belB k hs) (Zm hs k.size) (hO.bel k) hn,h7⟩)
 have HA:=hid fun j (hj:j<acts.length)=>(show ∃a b o a1 c1 a2 c2 a3 c3 a4 c4,acts[j]?=some a∧aa=some ⟨b,o,none⟩∧b<w.heap.size∧Qqr w b (o+j*7) [a.kind,a.table,Qv a1 a.rows.length c1,Qv a2 a.query.length c2,Qv a3 a.sets.length c3,Qv a4 a.whr.length c4,a.text]∧(∀wx,Below w.heap.size w wx→Calls Tryz.prog 21 #[.agg #[a.kind,a.table,Qv a1 a.rows.length c1,Qv a2 a.query.length c2,Qv a3 a.sets.length c3,Qv a4 a.whr.length c4,a.text]] wx (Qkz (Qqv a) wx))∧acts.length≤ac∧ac≤maxLen from by
  obtain⟨a,b,o,cs,h1,h2,h3,h4,h5,h6,h7⟩:=Qx7 ha hj;have h5':=h5;obtain⟨vr,vq,vs,vw,rfl,hr,hq,hss,hw⟩:=h5';obtain⟨a1,c1,rfl,_⟩:=Qqa.shape hr;obtain⟨a2,c2,rfl,_⟩:=Qqa.shape hq;obtain⟨a3,c3,rfl,_⟩:=Qqa.shape hss;obtain⟨a4,c4,rfl,_⟩:=Qqa.shape hw
  exact⟨a,b,o,a1,c1,a2,c2,a3,c3,a4,c4,h1,h3,h4,h6,fun wx k=>Jvq a _ wx (Qv5.keep (.bel k) h5) (hac a h2) (hL.belB k hs) (Zm hs k.size) (hO.bel k),h7⟩)
 have HEV:=hid hE;have HRK:=hid hrk;have HLN:Hid ((Qj4 kOF ofs).length+(Qj4 Qva prec).length+(Qj4 Qwi foll).length≤400000000):=hid (by omega);generalize Qj4 kOF ofs=l1 at HN1' HRW HLN HTOT;generalize Qj4 Qva prec=l2 at HN2' HRW HLN HTOT;generalize Qj4 Qwi foll=l3 at HN3' HRW HLN HTOT;clear ho hp hf hr hwc ha hrk hcd hac hlen hln hnl hnl2 hnl3 hE hL hO;generalize ofs.length=no at HN1' hmo⊢;generalize prec.length=np at HN2' hmp⊢;generalize foll.length=nf at HN3' hmf⊢
 obtain⟨nr,hnr⟩:∃n,rank.length=n:=⟨_,rfl⟩
 obtain⟨nw,hnw⟩:∃n,cond.length=n:=⟨_,rfl⟩
 obtain⟨na,hna⟩:∃n,acts.length=n:=⟨_,rfl⟩
 rw[hnr] at HR hmr⊢;rw[hnw] at HC hmw⊢;rw[hna] at HA hma⊢;have HNR:=hid hnr;have HNW:=hid hnw;have HNA:=hid hna;clear hnr hnw hna;go_enter Tryz.func19,Tryz.ntmps19;go_upto_region 2 with fail
 go_cut [3,4,13] (fun u e v wx=>u=.string ⟨#[65,70,84,69,82]⟩∧e=.string ⟨#[83,84,65,84,69,77,69,78,84]⟩∧v=.bool bf∧Below w.heap.size w wx∧wx.heap[w.heap.size]?=some (.cells #[nm,tb,bf,ev,Qv oa no oc,each,Qv pa np pc,Qv fa nf fc,Qv ra nr rc,Qv wa nw qcc,Qv aa na ac] 35 (0,0)))
 case first=>
  go_wp2_with fail
  go_meet
  exact⟨rfl,rfl,rfl,(Below.refl _ _).alloc (Zz _) _,Zw w _⟩
 case rest=>
  rename World=>W;obtain⟨rfl,rfl,rfl,hbw,hS⟩:=hcut;obtain⟨x0,x1,x2,x3,x4,x5,x6,x7,x8,x9,x10,_⟩:=Qjw hS
  go_upto_if 13 with(fail)
  go_cut [3,4] (fun u e wx=>u=.string (Yxf bf)∧e=.string ⟨#[83,84,65,84,69,77,69,78,84]⟩∧wx=W)
  case first=>
   cases bf
   ·go_wp2_with fail
    go_meet
    exact⟨rfl,rfl,rfl⟩
   ·go_wp2_with fail
    go_meet
    exact⟨rfl,rfl,rfl⟩
  case rest=>
   obtain⟨rfl,rfl,rfl⟩:=hcut;rename World=>W
   go_upto_if 15 with(fail)
   go_cut [3,4] (fun u e wx=>u=.string (Yxf bf)∧e=.string (Yw1 each)∧wx=W)
   case first=>
    cases each
    ·go_wp2_with fail
     go_meet
     exact⟨rfl,rfl,rfl⟩
    ·go_wp2_with fail
     go_meet
     exact⟨rfl,rfl,rfl⟩
   case rest=>
    obtain⟨rfl,rfl,rfl⟩:=hcut;rename World=>W;have HBW:=hid hbw;have HS:=hid hS;have hz:=HBW.out.size;have hzz:=(Zq.1 hS).1;clear hbw hS x0 x1 x2 x3 x4 x5 x6 x7 x8 x9 x10;generalize Yxf bf=ws at HRW HTOT⊢;generalize Yw1 each=es' at HRW HTOT⊢
    have HKS:Hid (∀w' l,STt W w' l→w'.cell? ⟨2,ev.toNat,none⟩=some (.string (evS ev))∧w'.cell? ⟨w.heap.size,0,none⟩=some (.string nm)∧w'.cell? ⟨w.heap.size,1,none⟩=some (.string tb)∧w'.cell? ⟨w.heap.size,2,none⟩=some (.bool bf)∧w'.cell? ⟨w.heap.size,3,none⟩=some (.int .i64 ev)∧w'.cell? ⟨w.heap.size,4,none⟩=some (Qv oa no oc)∧w'.cell? ⟨w.heap.size,5,none⟩=some (.bool each)∧w'.cell? ⟨w.heap.size,6,none⟩=some (Qv pa np pc)∧w'.cell? ⟨w.heap.size,7,none⟩=some (Qv fa nf fc)∧w'.cell? ⟨w.heap.size,8,none⟩=some (Qv ra nr rc)∧w'.cell? ⟨w.heap.size,9,none⟩=some (Qv wa nw qcc)∧w'.cell? ⟨w.heap.size,10,none⟩=some (Qv aa na ac)):=hid fun w' l h=>by
     obtain⟨x0,x1,x2,x3,x4,x5,x6,x7,x8,x9,x10,_⟩:=Qjw ((h.1.block _ hzz).trans HS.out);exact⟨Uzx (HEV.out.bel (Qqu HBW.out h.1)) hev1 hev3,x0,x1,x2,x3,x4,x5,x6,x7,x8,x9,x10⟩
    have HN1:=hid fun W' l (h:STt W W' l)=>HN1'.out W' (Qqu HBW.out h.1);have HN2:=hid fun W' l (h:STt W W' l)=>HN2'.out W' (Qqu HBW.out h.1);have HN3:=hid fun W' l (h:STt W W' l)=>HN3'.out W' (Qqu HBW.out h.1);have ev0:(0:Int)≤ev:=by omega
    have ev4:ev<4:=by omega
    generalize evS ev=vs at HKS HRW HTOT;go_upto_region 6 with fail
    go_cut [5] (fun v wx=>Qqf W.heap.size wx 9 1 Qjz v ([kCREATE,Qzl,nm,ws,vs]++(l1++([kON,tb,Jyd,Jjw,es']++(l2++l3))))∧Below W.heap.size W wx)
    case first=>
     have ST0:=hid (STt.base W);have tok0:Hid True:=hid trivial;have tok1:Hid True:=hid trivial;have tok2:Hid True:=hid trivial;have xx0:=HKS.out _ _ ST0.out
     go_region_held3 (fun w'=>w'.cell? ⟨2,ev.toNat,none⟩=some (.string (vs))∧w'.cell? ⟨w.heap.size,0,none⟩=some (.string nm)∧w'.cell? ⟨w.heap.size,1,none⟩=some (.string tb)∧w'.cell? ⟨w.heap.size,2,none⟩=some (.bool bf)∧w'.cell? ⟨w.heap.size,3,none⟩=some (.int .i64 ev)∧w'.cell? ⟨w.heap.size,4,none⟩=some (Qv oa no oc)∧w'.cell? ⟨w.heap.size,5,none⟩=some (.bool each)∧w'.cell? ⟨w.heap.size,6,none⟩=some (Qv pa np pc)∧w'.cell? ⟨w.heap.size,7,none⟩=some (Qv fa nf fc)∧w'.cell? ⟨w.heap.size,8,none⟩=some (Qv ra nr rc)∧w'.cell? ⟨w.heap.size,9,none⟩=some (Qv wa nw qcc)∧w'.cell? ⟨w.heap.size,10,none⟩=some (Qv aa na ac))
      (refine HKS.out _ _ (by repeat(first|with_reducible exact ST9.out|with_reducible exact ST3.out|with_reducible exact ST2.out|with_reducible exact ST1.out|with_reducible exact ST0.out|with_reducible apply STt.drew|(apply STt.strs (ys:=[kCREATE,Qzl,nm,ws,vs]);rfl;simp)|(apply STt.strs (ys:=[kON,tb,Jyd,Jjw,es']);rfl;simp)|apply STt.alloc)))
      (first
        |(go_at_call 43;have _t:=tok0;go_loud (refine Qjo (W0:=W) (by repeat(first|with_reducible exact ST9.out|with_reducible exact ST0.out|with_reducible apply STt.drew|(apply STt.strs (ys:=[kCREATE,Qzl,nm,ws,vs]);rfl;simp)|(apply STt.strs (ys:=[kON,tb,Jyd,Jjw,es']);rfl;simp)|apply STt.alloc)) (fun h=>HN1.out _ _ h) ?_;intro a1 c1 w1 hst;have ST1:=hid hst;clear hst tok0 _t))
        |(go_at_call 43;have _t:=tok1;go_loud (refine Qjo (W0:=W) (by repeat(first|with_reducible exact ST9.out|with_reducible exact ST1.out|with_reducible exact ST0.out|with_reducible apply STt.drew|(apply STt.strs (ys:=[kCREATE,Qzl,nm,ws,vs]);rfl;simp)|(apply STt.strs (ys:=[kON,tb,Jyd,Jjw,es']);rfl;simp)|apply STt.alloc)) (fun h=>HN2.out _ _ h) ?_;intro a2 c2 w2 hst;have ST2:=hid hst;clear hst tok1 _t))
        |(go_at_call 43;have _t:=tok2;go_loud (refine Qjo (W0:=W) (by repeat(first|with_reducible exact ST9.out|with_reducible exact ST2.out|with_reducible exact ST1.out|with_reducible exact ST0.out|with_reducible apply STt.drew|(apply STt.strs (ys:=[kCREATE,Qzl,nm,ws,vs]);rfl;simp)|(apply STt.strs (ys:=[kON,tb,Jyd,Jjw,es']);rfl;simp)|apply STt.alloc)) (fun h=>HN3.out _ _ h) ?_;intro a3 c3 w3 hst;have ST3:=hid hst;clear hst tok2 _t))
        |(go_at_call 17;go_loud (refine Qw1 (W0:=W) (ls:=[(_,[kCREATE,Qzl,nm,ws,vs]),(_,l1),(_,[kON,tb,Jyd,Jjw,es']),(_,l2),(_,l3)]) (by repeat(first|with_reducible exact ST9.out|with_reducible exact ST3.out|with_reducible exact ST2.out|with_reducible exact ST1.out|with_reducible exact ST0.out|with_reducible apply STt.drew|(apply STt.strs (ys:=[kCREATE,Qzl,nm,ws,vs]);rfl;simp)|(apply STt.strs (ys:=[kON,tb,Jyd,Jjw,es']);rfl;simp)|apply STt.alloc)) (by simp) rfl (fun p hp=>by(simp only[Zs,Zo,Yu] at hp);rcases hp with rfl|rfl|rfl|rfl|rfl<;>simp) (by simp) rfl (by have:=HLN.out;simp;omega) ?_;intro v9 w9 hv9 hb9;have ST9:Hid (STt W w9 []):=hid ⟨hb9,fun p h=>by cases h⟩;have HV:=hid hv9;have HB9:=hid (hb9);clear hv9 hb9)))
     all_goals
      (try dsimp only)
      go_wp2_with fail
      go_meet
      exact⟨by simpa using HV.out,HB9.out⟩
    case rest=>
     rename World=>W1;obtain⟨ho,hb⟩:=hcut;have HO1:=hid ho;have HB1:=hid hb;obtain⟨oa1,oc1,rfl,_⟩:=ho.shape;clear ho hb HN1 HN2 HN3 HN1' HN2' HN3' HKS HEV HLN;generalize([kCREATE,Qzl,nm,ws,vs]++(l1++([kON,tb,Jyd,Jjw,es']++(l2++l3))))=base at HO1 HRW HTOT⊢;obtain⟨x0,x1,x2,x3,x4,x5,x6,x7,x8,x9,x10,_⟩:=Qjw ((HB1.out.block _ hzz).trans HS.out);go_wp2_with fail
     go_loopw[5,42] (fun out i wr=>∃j:Nat,j≤nr∧i=.int .i64 j∧Qqf W.heap.size wr 9 1 Qjz out (base++((rank.take j).map Qyi).flatten)∧Below W.heap.size W wr) (fun _ i _=>nr-(intOf i).toNat)
     case atStart=>exact⟨0,Zi _,rfl,by simpa using HO1.out,HB1.out⟩
     case round=>
      rename World=>wr;clear x0 x1 x2 x3 x4 x5 x6 x7 x8 x9 x10 HO1 HB1;obtain⟨j,hj,rfl,ho,hb⟩:=hrel;have HO2:=hid ho;have HB2:=hid hb;have hzr:=hb.size;have hblk:=(hb.block _ hzz).trans HS.out;obtain⟨oa2,oc2,rfl,_⟩:=ho.shape;have HBT:=hid (HBW.out.trans (hb.mono hz));clear ho hb;by_cases hlt:j<nr
      ·clear hblk;obtain⟨r,b,o,hxj,hmem,rfl,hbz,hcs,hcap,hcm⟩:=HR.out j hlt;unfold maxLen at hcm;obtain⟨c0,c1,c2,c3⟩:=Qqr.c4 (hcs.keep (M:=NoM) (.bel HBT.out) id);obtain⟨q1,q2,q3,q4⟩:=HRK.out r hmem;have HNX:=hid (Jki Qyi rank j r hxj);have HFT:=hid (Qy3 Qyi rank j);have HRQ:Hid (Qyi r=[Jx6,r.table,Qwq,r.col,Qzp]++(Jxe r.low++([kTO]++Jxe r.high))):=hid rfl;generalize hnx:((rank.take (j+1)).map Qyi).flatten=nx at HNX;have NX:=hid hnx;have HLC:Hid ((base++((rank.take j).map Qyi).flatten).length≤400000000):=hid (by have h1:=HTOT.out;have h2:=HFT.out;simp only[Zr] at h1⊢;omega);generalize hcr:base++((rank.take j).map Qyi).flatten=cur at HO2 HLC⊢;have HCR:=hid hcr;clear hnx hcr hxj hmem hcs HFT;generalize Qyi r=rw' at HNX HRQ;obtain⟨rt,rcn,rlo,rhi⟩:=r;dsimp only at*;have i0:(0:Int)≤(j:Int):=by omega
       have i1:(j:Int)<(nr:Int):=by omega
       go_upto_region 10 with fail
       generalize hW:World.alloc wr _=wb;have hb0:wb.heap[wr.heap.size]?=some (.cells #[rt,rcn,rlo,rhi] 110 (0,0)):=by rw[←hW];exact Zw wr _
       have HBQ:=hid (show Below W.heap.size W wb from by rw[←hW];exact HB2.out.alloc hzr _);have HOB:=hid (show Qqf W.heap.size wb 9 1 Qjz (Qv oa2 cur.length oc2) cur from by rw[←hW];exact Qqf.kept HO2.out ((Qqb.refl (fun _=>False) wr).alloc _) (fun _ _=>id) fun _ _ _ h=>h);have HBTb:=hid (HBW.out.trans (HBQ.out.mono hz));have hzb:=(Zq.1 hb0).1;have hzW:=HBQ.out.size;have HX0:=hid hb0;clear hW hb0 c0 c1 c2 c3 HO2
       have HKS:Hid (∀w' l,STt wb w' l→w'.cell? ⟨wr.heap.size,0,none⟩=some (.string rt)∧w'.cell? ⟨wr.heap.size,1,none⟩=some (.string rcn)∧w'.cell? ⟨wr.heap.size,2,none⟩=some (.int .i64 rlo)∧w'.cell? ⟨wr.heap.size,3,none⟩=some (.int .i64 rhi)):=hid fun w' l h=>by
        obtain⟨e0,e1,e2,e3,_⟩:=Qzo ((h.1.block _ hzb).trans HX0.out);exact⟨e0,e1,e2,e3⟩
       have HLO:=hid fun W' l (h:STt wb W' l)=>HNUM.out rlo W' (Qqu HBTb.out h.1) q1 q2;have HHI:=hid fun W' l (h:STt wb W' l)=>HNUM.out rhi W' (Qqu HBTb.out h.1) q3 q4;have HLR:Hid ((Jxe rlo).length≤2∧(Jxe rhi).length≤2∧cur.length≤400000000):=hid ⟨Yxh _,Yxh _,HLC.out⟩;generalize Jxe rlo=lw at HLO HLR HRQ;generalize Jxe rhi=hw at HHI HLR HRQ;have STZ:=hid ((STt.base wb).row (HOB.out.rows (M:=NoM) fun _ _ _=>id));clear HNUM q1 q2 q3 q4;have ST0:=STZ;have tok0:Hid True:=hid trivial;have tok1:Hid True:=hid trivial;have xx0:=HKS.out _ _ ST0.out
       go_region_held3 (fun w'=>w'.cell? ⟨wr.heap.size,0,none⟩=some (.string rt)∧w'.cell? ⟨wr.heap.size,1,none⟩=some (.string rcn)∧w'.cell? ⟨wr.heap.size,2,none⟩=some (.int .i64 rlo)∧w'.cell? ⟨wr.heap.size,3,none⟩=some (.int .i64 rhi))
        (refine HKS.out _ _ (by repeat(first|with_reducible exact ST9.out|with_reducible exact ST2.out|with_reducible exact ST1.out|with_reducible exact ST0.out|with_reducible apply STt.drew|(apply STt.strs (ys:=[Jx6,rt,Qwq,rcn,Qzp]);rfl;simp)|(apply STt.strs (ys:=[kTO]);rfl;simp)|apply STt.alloc)))
        (first
          |(go_at_call 44;have _t:=tok0;go_loud (refine Qjo (W0:=wb) (by repeat(first|with_reducible exact ST9.out|with_reducible exact ST0.out|with_reducible apply STt.drew|(apply STt.strs (ys:=[Jx6,rt,Qwq,rcn,Qzp]);rfl;simp)|(apply STt.strs (ys:=[kTO]);rfl;simp)|apply STt.alloc)) (fun h=>HLO.out _ _ h) ?_;intro a1 c1 w1 hst;have ST1:=hid hst;clear hst tok0 _t))
          |(go_at_call 44;have _t:=tok1;go_loud (refine Qjo (W0:=wb) (by repeat(first|with_reducible exact ST9.out|with_reducible exact ST1.out|with_reducible exact ST0.out|with_reducible apply STt.drew|(apply STt.strs (ys:=[Jx6,rt,Qwq,rcn,Qzp]);rfl;simp)|(apply STt.strs (ys:=[kTO]);rfl;simp)|apply STt.alloc)) (fun h=>HHI.out _ _ h) ?_;intro a2 c2 w2 hst;have ST2:=hid hst;clear hst tok1 _t))
          |(go_at_call 17;go_loud (refine Qw1 (W0:=wb) (ls:=[(_,cur),(_,[Jx6,rt,Qwq,rcn,Qzp]),(_,lw),(_,[kTO]),(_,hw)]) (by repeat(first|with_reducible exact ST9.out|with_reducible exact ST2.out|with_reducible exact ST1.out|with_reducible exact ST0.out|with_reducible apply STt.drew|(apply STt.strs (ys:=[Jx6,rt,Qwq,rcn,Qzp]);rfl;simp)|(apply STt.strs (ys:=[kTO]);rfl;simp)|apply STt.alloc)) (by simp) rfl (fun p hp=>by(simp only[Zs,Zo,Yu] at hp);rcases hp with rfl|rfl|rfl|rfl|rfl<;>simp) (by simp) rfl (by have:=HLR.out;simp;omega) ?_;intro v9 w9 hv9 hb9;have ST9:Hid (STt wb w9 []):=hid ⟨hb9,fun p h=>by cases h⟩;have HV:=hid hv9;have HB9:=hid (HBQ.out.trans (hb9.mono hzW));clear hv9 hb9)))
       all_goals
        (try dsimp only)
        go_wp2_with fail
        go_roundw
        case rel=>
         refine⟨j+1,by omega,by go_num,?_,HB9.out⟩;have e:base++nx=cur++([Jx6,rt,Qwq,rcn,Qzp]++(lw++([kTO]++hw))):=by rw[HNX.out,HRQ.out,←HCR.out,Jk]
         rw[NX.out,e];simpa using HV.out.lower hzW
        case measure=>simp[intOf];omega
      ·obtain rfl:j=nr:=by omega
       rw[show rank.take j=rank from Jg (Kn HNR.out)] at HO2⊢;have HRW2:Hid (R=(base++(rank.map Qyi).flatten)++((cond.map Qvx).flatten++([Jqt]++((acts.map fun a=>Qqv a++[Qkg]).flatten++[Jye])))):=hid (by rw[HRW.out,Jk]);have HTOT2:Hid (((base++(rank.map Qyi).flatten)++((cond.map Qvx).flatten++([Jqt]++((acts.map fun a=>Qqv a++[Qkg]).flatten++[Jye])))).length≤400000000):=hid (by rw[Jk];exact HTOT.out);clear HRW HTOT HR HRK HNUM;generalize base++(rank.map Qyi).flatten=Jvg at HO2 HRW2 HTOT2⊢;obtain⟨x0,x1,x2,x3,x4,x5,x6,x7,x8,x9,x10,_⟩:=Qjw hblk;go_wp2_with fail
       go_loopw[5,65] (fun out i w3=>∃m:Nat,m≤nw∧i=.int .i64 m∧Qqf W.heap.size w3 9 1 Qjz out (Jvg++((cond.take m).map Qvx).flatten)∧Below W.heap.size W w3) (fun _ i _=>nw-(intOf i).toNat)
       case atStart=>exact⟨0,Zi _,rfl,by simpa using HO2.out,HB2.out⟩
       case round=>
        rename World=>w3;clear x0 x1 x2 x3 x4 x5 x6 x7 x8 x9 x10 HO2 HB2 HBT hblk;obtain⟨m,hm,rfl,ho,hb⟩:=hrel;have HO3:=hid ho;have HB3:=hid hb;have hz3:=hb.size;have hblk:=(hb.block _ hzz).trans HS.out;obtain⟨oa3,oc3,rfl,_⟩:=ho.shape;have HBT3:=hid (HBW.out.trans (hb.mono hz));clear ho hb;by_cases hlt:m<nw
        ·clear hblk;obtain⟨x,b,o,xa,xac,xs,xsc,hxj,hmem,rfl,hbz,hcs,hwd,hcap,hcm⟩:=HC.out m hlt;unfold maxLen at hcm;simp only[Qjg] at hcs hwd;obtain⟨c0,c1,c2,c3,c4,c5,c6,c7,c8,c9⟩:=Qqr.c10 (hcs.keep (M:=NoM) (.bel HBT3.out) id);have HNX:=hid (Jki Qvx cond m x hxj);have HFT:=hid (Qy3 Qvx cond (m+1));have HFT0:=hid (Qy3 Qvx cond m);have HWQ:Hid (Qvx x=[Yq5,Qq7]++(Qqm x++[Qjq])):=hid rfl;have HLX:Hid ((Qqm x).length≤400000000):=hid (by have h1:=HTOT2.out;have h2:=HFT.out;rw[HNX.out,HWQ.out] at h2;simp only[Zr] at h1 h2;omega);have HWD:=hid hwd;generalize hnx:((cond.take (m+1)).map Qvx).flatten=nx at HNX;have NX:=hid hnx;have HLC:Hid ((Jvg++((cond.take m).map Qvx).flatten).length≤400000000):=hid (by have h1:=HTOT2.out;have h2:=HFT0.out;simp only[Zr] at h1⊢;omega);generalize hcr:Jvg++((cond.take m).map Qvx).flatten=cur at HO3 HLC⊢;have HCR:=hid hcr;clear hnx hcr hxj hmem hcs hwd HFT HFT0;generalize hwp:Qqm x=wp at HWQ HLX HWD;generalize Qvx x=wq' at HNX HWQ;clear hwp;have i0:(0:Int)≤(m:Int):=by omega
         have i1:(m:Int)<(nw:Int):=by omega
         go_upto_region 15 with fail
         generalize hW:World.alloc w3 _=wb;have hb0:wb.heap[w3.heap.size]?=some (.cells #[x.kind,x.op,x.no,x.val.kind,x.val.int,x.val.text,x.table,x.name,Qv xa x.args.length xac,Qv xs x.sub.length xsc] 80 (0,0)):=by rw[←hW];exact Zw w3 _
         have HBQ:=hid (show Below W.heap.size W wb from by rw[←hW];exact HB3.out.alloc hz3 _);have HOB:=hid (show Qqf W.heap.size wb 9 1 Qjz (Qv oa3 cur.length oc3) cur from by rw[←hW];exact Qqf.kept HO3.out ((Qqb.refl (fun _=>False) w3).alloc _) (fun _ _=>id) fun _ _ _ h=>h);have HBTb:=hid (HBW.out.trans (HBQ.out.mono hz));have hzb:=(Zq.1 hb0).1;have hzW:=HBQ.out.size;have HX0:=hid hb0;clear hW hb0 c0 c1 c2 c3 c4 c5 c6 c7 c8 c9 HO3;have STA:=hid ((STt.base wb).row (HOB.out.rows (M:=NoM) fun _ _ _=>id));have STB:=hid (STA.out.strs [Yq5,Qq7] (arr:=#[.string ⟨#[87,72,69,78]⟩,.string ⟨#[40]⟩]) rfl (by simp) 9);obtain⟨d0,d1,d2,d3,d4,d5,d6,d7,d8,d9,_⟩:=Qq5 ((STB.out.1.block _ hzb).trans HX0.out);go_wp2_with fail
         refine Qjo (W0:=wb) STB.out (fun h=>HWD.out _ (Qqu HBTb.out h.1) (by have:=HLX.out;omega)) ?_;intro b1 e1 w5 hst;have ST2:=hid hst;clear hst d0 d1 d2 d3 d4 d5 d6 d7 d8 d9;dsimp only;have ST3:=hid (ST2.out.strs [Qjq] (arr:=#[.string ⟨#[41]⟩]) rfl (by simp) 9);go_wp2_with fail
         refine Qw1 (W0:=wb) (ls:=[(Qv oa3 cur.length oc3,cur),(Qv (some ⟨wb.heap.size,0,none⟩) 2 2,[Yq5,Qq7]),(Qv b1 wp.length e1,wp),(Qv (some ⟨w5.heap.size,0,none⟩) 1 1,[Qjq])]) ST3.out (by simp) (by rfl) (fun p hp=>by(simp only[Zs,Zo,Yu] at hp);rcases hp with rfl|rfl|rfl|rfl<;>simp) (by simp) (by rfl) (by have:=HLX.out;have:=HLC.out;simp;omega) ?_;intro v9 w9 hv9 hb9;have HV:=hid hv9;have HB9:=hid (HBQ.out.trans (hb9.mono hzW));clear hv9 hb9;dsimp only;go_wp2_with fail
         go_roundw
         case rel=>
          refine⟨m+1,by omega,by go_num,?_,HB9.out⟩;have e:Jvg++nx=cur++([Yq5,Qq7]++(wp++[Qjq])):=by rw[HNX.out,HWQ.out,←HCR.out,Jk]
          rw[NX.out,e];simpa using HV.out.lower hzW
         case measure=>simp[intOf];omega
        ·obtain rfl:m=nw:=by omega
         rw[show cond.take m=cond from Jg (Kn HNW.out)] at HO3⊢;have HRW3:Hid (R=(Jvg++(cond.map Qvx).flatten)++([Jqt]++((acts.map fun a=>Qqv a++[Qkg]).flatten++[Jye]))):=hid (by rw[HRW2.out,Jk]);have HTOT3:Hid (((Jvg++(cond.map Qvx).flatten)++([Jqt]++((acts.map fun a=>Qqv a++[Qkg]).flatten++[Jye]))).length≤400000000):=hid (by rw[Jk];exact HTOT2.out);clear HRW2 HTOT2 HC;generalize Jvg++(cond.map Qvx).flatten=Yx8 at HO3 HRW3 HTOT3⊢;obtain⟨x0,x1,x2,x3,x4,x5,x6,x7,x8,x9,x10,_⟩:=Qjw hblk;have tok1:True:=trivial;have HL3:Hid (Yx8.length+1≤400000001):=hid (by have h1:=HTOT3.out;simp only[Zr] at h1;omega);go_upto_region 17 with fail
         go_upto_region 18 with(at_builtin;clear tok1;go_loud (refine Qxf rfl _ _ rfl W.heap.size (Qv oa3 Yx8.length oc3) _ _ _ Yx8 [Jqt] rfl rfl rfl rfl rfl HO3.out (by have:=HL3.out;simp;omega) (by simp) hz3 ?_;intro v4 w4 ho hkk hk;have HO4:=hid ho;have HB4:=hid (HB3.out.trans hk);clear ho hk hkk;obtain⟨oa4,oc4,rfl,_⟩:=HO4.out.shape;generalize hc4:Yx8++[Jqt]=base4 at HO4⊢;have HC4:=hid hc4;clear hc4))
         have HRW4:Hid (R=base4++((acts.map fun a=>Qqv a++[Qkg]).flatten++[Jye])):=hid (by rw[HRW3.out,←HC4.out,Jk]);have HTOT4:Hid ((base4++((acts.map fun a=>Qqv a++[Qkg]).flatten++[Jye])).length≤400000000):=hid (by rw[←HC4.out,Jk];exact HTOT3.out);clear HRW3 HTOT3 HL3 x0 x1 x2 x3 x4 x5 x6 x7 x8 x9 x10 HO3 hblk;obtain⟨x0,x1,x2,x3,x4,x5,x6,x7,x8,x9,x10,_⟩:=Qjw ((HB4.out.block _ hzz).trans HS.out);go_wp2_with fail
         go_loopw[5,83] (fun out i w5=>∃k:Nat,k≤na∧i=.int .i64 k∧Qqf W.heap.size w5 9 1 Qjz out (base4++((acts.take k).map fun a=>Qqv a++[Qkg]).flatten)∧Below W.heap.size W w5) (fun _ i _=>na-(intOf i).toNat)
         case atStart=>exact⟨0,Zi _,rfl,by simpa using HO4.out,HB4.out⟩
         case round=>
          rename World=>w5;clear x0 x1 x2 x3 x4 x5 x6 x7 x8 x9 x10 HO4 HB4 HB3 HBT3;obtain⟨k,hk,rfl,ho,hb⟩:=hrel;have HO5:=hid ho;have HB5:=hid hb;have hz5:=hb.size;obtain⟨oa5,oc5,rfl,_⟩:=ho.shape;have HBT5:=hid (HBW.out.trans (hb.mono hz));clear ho hb;by_cases hlt:k<na
          ·obtain⟨a,b,o,a1,k1,a2,k2,a3,k3,a4,k4,hxj,rfl,hbz,hcs,hact,hcap,hcm⟩:=HA.out k hlt;unfold maxLen at hcm;obtain⟨c0,c1,c2,c3,c4,c5,c6⟩:=Qqr.c7 (hcs.keep (M:=NoM) (.bel HBT5.out) id);have HNX:=hid (Jki (fun a=>Qqv a++[Qkg]) acts k a hxj);have HFT:=hid (Qy3 (fun a=>Qqv a++[Qkg]) acts (k+1));have HFT0:=hid (Qy3 (fun a=>Qqv a++[Qkg]) acts k);have HLX:Hid ((Qqv a).length≤400000000):=hid (by have h1:=HTOT4.out;have h2:=HFT.out;rw[HNX.out] at h2;simp only[Zr] at h1 h2;omega);have HACT:=hid hact;generalize hnx:((acts.take (k+1)).map fun a=>Qqv a++[Qkg]).flatten=nx at HNX;have NX:=hid hnx;have HLC:Hid ((base4++((acts.take k).map fun a=>Qqv a++[Qkg]).flatten).length≤400000000):=hid (by have h1:=HTOT4.out;have h2:=HFT0.out;simp only[Zr] at h1⊢;omega);generalize hcr:base4++((acts.take k).map fun a=>Qqv a++[Qkg]).flatten=cur at HO5 HLC⊢;have HCR:=hid hcr;clear hnx hcr hxj hcs hact HFT HFT0;generalize Qqv a=aw at HNX HLX HACT;generalize a.rows.length=z1 at HACT c2;generalize a.query.length=z2 at HACT c3;generalize a.sets.length=z3 at HACT c4;generalize a.whr.length=z4 at HACT c5;have i0:(0:Int)≤(k:Int):=by omega
           have i1:(k:Int)<(na:Int):=by omega
           go_upto_region 21 with fail
           generalize hW:World.alloc w5 _=wb;have hb0:wb.heap[w5.heap.size]?=some (.cells #[a.kind,a.table,Qv a1 z1 k1,Qv a2 z2 k2,Qv a3 z3 k3,Qv a4 z4 k4,a.text] 42 (0,0)):=by rw[←hW];exact Zw w5 _
           have HBQ:=hid (show Below W.heap.size W wb from by rw[←hW];exact HB5.out.alloc hz5 _);have HOB:=hid (show Qqf W.heap.size wb 9 1 Qjz (Qv oa5 cur.length oc5) cur from by rw[←hW];exact Qqf.kept HO5.out ((Qqb.refl (fun _=>False) w5).alloc _) (fun _ _=>id) fun _ _ _ h=>h);have HBTb:=hid (HBW.out.trans (HBQ.out.mono hz));have hzW:=HBQ.out.size;obtain⟨d0,d1,d2,d3,d4,d5,d6,_⟩:=Qze hb0;clear hW hb0 c0 c1 c2 c3 c4 c5 c6 HO5;have STA:=hid ((STt.base wb).row (HOB.out.rows (M:=NoM) fun _ _ _=>id));go_wp2_with fail
           refine Qjo (W0:=wb) STA.out (fun h=>HACT.out _ (Qqu HBTb.out h.1)) ?_;intro b1 e1 w6 hst;have ST2:=hid hst;clear hst d0 d1 d2 d3 d4 d5 d6;dsimp only;go_wp2_with fail
           refine Qw1 (W0:=wb) (ls:=[(Qv oa5 cur.length oc5,cur),(Qv b1 aw.length e1,aw)]) ST2.out (by simp) (by rfl) (fun p hp=>by(simp only[Zs,Zo,Yu] at hp);rcases hp with rfl|rfl<;>simp) (by simp) (by rfl) (by have:=HLX.out;have:=HLC.out;simp;omega) ?_;intro v9 w9 hv9 hb9;have HV:=hid (show Qqf W.heap.size w9 9 1 Qjz v9 (cur++aw) from by simpa using hv9.lower hzW);have HB9:=hid (HBQ.out.trans (hb9.mono hzW));have hz9:=HB9.out.size;clear hv9 hb9;dsimp only;have tok2:True:=trivial
           go_wp2_with(at_builtin;clear tok2;go_loud (refine Qxf rfl _ _ rfl W.heap.size v9 _ _ _ (cur++aw) [Qkg] rfl rfl rfl rfl rfl HV.out (by have:=HLX.out;have:=HLC.out;simp;omega) (by simp) hz9 ?_;intro v10 w10 ho hkk hk;have HO10:=hid ho;have HB10:=hid (HB9.out.trans hk);clear ho hk hkk))
           go_roundw
           case rel=>
            refine⟨k+1,by omega,by go_num,?_,HB10.out⟩;have e:base4++nx=(cur++aw)++[Qkg]:=by rw[HNX.out,←HCR.out];simp only[Jk]
            rw[NX.out,e];exact HO10.out
           case measure=>simp[intOf];omega
          ·obtain rfl:k=na:=by omega
           rw[show acts.take k=acts from Jg (Kn HNA.out)] at HO5⊢;have HRW5:Hid (R=(base4++(acts.map fun a=>Qqv a++[Qkg]).flatten)++[Jye]):=hid (by rw[HRW4.out,Jk]);have HL5:Hid ((base4++(acts.map fun a=>Qqv a++[Qkg]).flatten).length≤400000000):=hid (by have h1:=HTOT4.out;simp only[Zr] at h1⊢;omega);clear HRW4 HTOT4 HA;generalize base4++(acts.map fun a=>Qqv a++[Qkg]).flatten=base5 at HO5 HRW5 HL5⊢;have tok3:True:=trivial
           go_wp2_with(at_builtin;clear tok3;go_loud (refine Qxf rfl _ _ rfl W.heap.size (Qv oa5 base5.length oc5) _ _ _ base5 [Jye] rfl rfl rfl rfl rfl HO5.out (by have:=HL5.out;simp;omega) (by simp) hz5 ?_;intro v11 w11 ho hkk hk;have HO11:=hid ho;have HB11:=hid (HB5.out.trans hk);clear ho hk hkk))
           go_ret;exact⟨_,rfl,by rw[HRW5.out];simpa using HO11.out.rows (M:=NoM) fun _ _ _=>id,HBW.out.trans (HB11.out.mono hz)⟩
end Go.Proofs.YtgepbohjmgaojaaGreatDoor
