/- The difference of two tables: the contract of Between. -/
import Derived.Test.YtkhlmofcdchccaaGreatDoorU06
import Derived.Test.YtkhlmofcdchccaaGreatDoorU07
namespace Go.Proofs.YtkhlmofcdchccaaGreatDoor
open Go.RowKit Go.Maps

/-- What a difference is like: its updates have rows of one width. -/
def BetwQ (n : Nat) (w : World) (e : Ending) (w' : World) : Prop := ∃ (tb : ByteArray) (ia : Option Addr) (il ic : Nat) (da : Option Addr) (dl dc : Nat) (uv : Value) (ok : Bool) (lu : List PrD),
  e = .returned (.tuple #[.agg #[.string tb, .slice ia il ic, .slice da dl dc, uv], .bool ok]) ∧ PrsR (Old w.heap.size) w' uv lu ∧ (∀ p ∈ lu, p.old.length = n ∧ p.new.length = n) ∧ lu.length ≤ 200 ∧ Below w.heap.size w w'

theorem betw_bad {n g : Nat} {w W W' : World} {L : List OwnBlk} (h : PB w W L) (k : Keep (At g) W W') (hg : w.heap.size ≤ g) : BetwQ n w (.returned (.tuple #[.agg #[.string ⟨#[]⟩, .slice none 0 0, .slice none 0 0, .slice none 0 0], .bool false])) W' :=
  ⟨_, _, _, _, _, _, _, _, _, [], rfl, RowsR.nil .., fun p hp => (by cases hp), Nat.zero_le _, ((h.sub (L' := []) fun b hb => by cases hb).then k (fun i hi h => by unfold At at h; omega) fun b hb => by cases hb).below⟩

theorem set4_keep (w : World) (g : Nat) (b c d e : Value) : Keep (At g) w ((((w.setCell ⟨g, 0, none⟩ b).setCell ⟨g, 1, none⟩ c).setCell ⟨g, 2, none⟩ d).setCell ⟨g, 3, none⟩ e) :=
  ((((Keep.refl (At g) w).setCell (p := ⟨g, 0, none⟩) (fun _ => rfl) _).setCell (p := ⟨g, 1, none⟩) (fun _ => rfl) _).setCell (p := ⟨g, 2, none⟩) (fun _ => rfl) _).setCell (p := ⟨g, 3, none⟩) (fun _ => rfl) _

set_option maxRecDepth 100000 in
set_option maxHeartbeats 16000000 in
theorem between8_any {M : Nat → Prop} (n : Nat) (nm nm2 : ByteArray) (cva cvb rva rvb : Value) (nxa nxb : Int) (cla clb : List Col) (la lb : List (Int × List Val)) (w : World)
    (hca : ColsR M w cva cla) (hra : TrsR M w rva la) (hla : la.length ≤ 200) (hxa : ∀ r ∈ la, r.2.length = n ∧ ∀ y ∈ r.2, ValidVal y) (hsa : nm.size ≤ maxLen) (hna : ∀ c ∈ cla, c.name.size ≤ maxLen)
    (hcb : ColsR M w cvb clb) (hrb : TrsR M w rvb lb) (hlb : lb.length ≤ 200) (hxb : ∀ r ∈ lb, r.2.length = n ∧ ∀ y ∈ r.2, ValidVal y) (hsb : nm2.size ≤ maxLen) (hnb : ∀ c ∈ clb, c.name.size ≤ maxLen) (hn : n ≤ 1000) :
    Calls Tryz.prog 31 #[.agg #[.string nm, cva, .int .i64 nxa, rva], .agg #[.string nm2, cvb, .int .i64 nxb, rvb]] w (BetwQ n w) := by
  have HVA := Lib.hid fun wx (k : Below w.heap.size w wx) => r6valid_any nm cva rva nxa cla la wx (hca.keep (.bel k)) (hra.keep (.bel k)) hla (fun r hr => ⟨by rw [(hxa r hr).1]; exact hn, (hxa r hr).2⟩) hsa hna
  have HVB := Lib.hid fun wx (k : Below w.heap.size w wx) => r6valid_any nm2 cvb rvb nxb clb lb wx (hcb.keep (.bel k)) (hrb.keep (.bel k)) hlb (fun r hr => ⟨by rw [(hxb r hr).1]; exact hn, (hxb r hr).2⟩) hsb hnb
  have HSM := Lib.hid fun wx (k : Below w.heap.size w wx) => r8same_any nm nm2 cva cvb cla clb wx (hca.keep (.bel k)) (hcb.keep (.bel k))
  obtain ⟨caa, cac, rfl, _⟩ := hca.shape
  obtain ⟨cba, cbc, rfl, _⟩ := hcb.shape
  have HGA := Lib.hid fun wx (k : Below w.heap.size w wx) d => r6get_any nm (.slice caa cla.length cac) rva nxa d la wx (hra.keep (.bel k)) (fun r hr => by rw [(hxa r hr).1]; exact hn) ⟨_, _, _, rfl⟩
  have HGB := Lib.hid fun wx (k : Below w.heap.size w wx) d => r6get_any nm2 (.slice cba clb.length cbc) rvb nxb d lb wx (hrb.keep (.bel k)) (fun r hr => by rw [(hxb r hr).1]; exact hn) ⟨_, _, _, rfl⟩
  obtain ⟨raa, rac, rfl, hma⟩ := hra.shape
  obtain ⟨rba, rbc, rfl, hmb⟩ := hrb.shape
  unfold maxLen at hma hmb
  have HLA := Lib.hid fun j (hj : j < la.length) => rows_row hra hj
  have HLB := Lib.hid fun j (hj : j < lb.length) => rows_row hrb hj
  have HXA := Lib.hid hxa
  have HXB := Lib.hid hxb
  obtain ⟨ma, hma'⟩ : ∃ m, la.length = m := ⟨_, rfl⟩
  obtain ⟨mb, hmb'⟩ : ∃ m, lb.length = m := ⟨_, rfl⟩
  rw [hma'] at HLA hma hla HVA HGA ⊢
  rw [hmb'] at HLB hmb hlb HVB HGB ⊢
  clear hca hra hxa hcb hrb hxb hsa hsb hna hnb hma' hmb'
  have hP := (PB.start w).new #[.string nm, .slice caa cla.length cac, .int .i64 nxa, .slice raa ma rac] 96
  have hP := hP.new' (g := w.heap.size + 1) (by simp) #[.string nm2, .slice cba clb.length cbc, .int .i64 nxb, .slice rba mb rbc] 96
  have hP := hP.new' (g := w.heap.size + 2) (by simp) #[.string ⟨#[]⟩, .slice none 0 0, .slice none 0 0, .slice none 0 0] 47
  go_enter Tryz.func31, Tryz.ntmps31
  go_upto_region 1 with fail
  generalize World.alloc (World.alloc (World.alloc w _) _) _ = W0 at hP ⊢
  have HA := Lib.hid fun (W' : World) (h : PB w W' [⟨w.heap.size + 2, #[.string ⟨#[]⟩, .slice none 0 0, .slice none 0 0, .slice none 0 0], 47⟩, ⟨w.heap.size + 1, #[.string nm2, .slice cba clb.length cbc, .int .i64 nxb, .slice rba mb rbc], 96⟩, ⟨w.heap.size, #[.string nm, .slice caa cla.length cac, .int .i64 nxa, .slice raa ma rac], 96⟩]) => blk4 (h.blk (b := ⟨w.heap.size, _, _⟩) (List.mem_cons_of_mem _ (List.mem_cons_of_mem _ (List.mem_cons_self ..))))
  have HBk := Lib.hid fun (W' : World) (h : PB w W' [⟨w.heap.size + 2, #[.string ⟨#[]⟩, .slice none 0 0, .slice none 0 0, .slice none 0 0], 47⟩, ⟨w.heap.size + 1, #[.string nm2, .slice cba clb.length cbc, .int .i64 nxb, .slice rba mb rbc], 96⟩, ⟨w.heap.size, #[.string nm, .slice caa cla.length cac, .int .i64 nxa, .slice raa ma rac], 96⟩]) => blk4 (h.blk (b := ⟨w.heap.size + 1, _, _⟩) (List.mem_cons_of_mem _ (List.mem_cons_self ..)))
  have HRk := Lib.hid fun (W' : World) (h : PB w W' [⟨w.heap.size + 2, #[.string ⟨#[]⟩, .slice none 0 0, .slice none 0 0, .slice none 0 0], 47⟩, ⟨w.heap.size + 1, #[.string nm2, .slice cba clb.length cbc, .int .i64 nxb, .slice rba mb rbc], 96⟩, ⟨w.heap.size, #[.string nm, .slice caa cla.length cac, .int .i64 nxa, .slice raa ma rac], 96⟩]) => (let hb := h.blk (b := ⟨w.heap.size + 2, _, _⟩) (List.mem_cons_self ..); (And.intro (blk_fr hb 0) (And.intro (blk_fr hb 1) (blk4 hb))))
  have HP0 := Lib.hid hP
  clear hP
  obtain ⟨x0, x1, x2, x3, _, _, xz⟩ := HA.out W0 HP0.out
  go_wp2_with fail
  refine (HVA.out W0 HP0.out.below).mono ?_
  rintro e w1 ⟨b1, rfl, hb⟩
  have HP1 := Lib.hid (HP0.out.bel hb)
  clear hb HP0 x0 x1 x2 x3 xz
  obtain ⟨x0, x1, x2, x3, _, _, xz⟩ := HA.out w1 HP1.out
  obtain ⟨y0, y1, y2, y3, _, _, yz⟩ := HBk.out w1 HP1.out
  obtain ⟨z00, z01, z0, z1, z2, z3, z02, z03, zz⟩ := HRk.out w1 HP1.out
  dsimp only
  cases b1 with
  | false =>
    go_wp2_with fail
    refine bodyPost_ret (v := .tuple #[.agg #[.string ⟨#[]⟩, .slice none 0 0, .slice none 0 0, .slice none 0 0], .bool false]) (by simp [results, Tryz.results31, go_sem, z0, z1, z2, z3]) rfl ?_
    exact betw_bad HP1.out (set4_keep ..) (by omega)
  | true =>
    go_wp2_with fail
    refine (HVB.out w1 HP1.out.below).mono ?_
    rintro e w2 ⟨b2, rfl, hb⟩
    have HP2 := Lib.hid (HP1.out.bel hb)
    clear hb HP1 x0 x1 x2 x3 xz y0 y1 y2 y3 yz z00 z01 z0 z1 z2 z3 z02 z03 zz
    obtain ⟨x0, x1, x2, x3, _, _, xz⟩ := HA.out w2 HP2.out
    obtain ⟨y0, y1, y2, y3, _, _, yz⟩ := HBk.out w2 HP2.out
    obtain ⟨z00, z01, z0, z1, z2, z3, z02, z03, zz⟩ := HRk.out w2 HP2.out
    dsimp only
    cases b2 with
    | false =>
      go_wp2_with fail
      refine bodyPost_ret (v := .tuple #[.agg #[.string ⟨#[]⟩, .slice none 0 0, .slice none 0 0, .slice none 0 0], .bool false]) (by simp [results, Tryz.results31, go_sem, z0, z1, z2, z3]) rfl ?_
      exact betw_bad HP2.out (set4_keep ..) (by omega)
    | true =>
      go_wp2_with fail
      refine (HSM.out w2 HP2.out.below).mono ?_
      rintro e w3 ⟨b3, rfl, hb⟩
      have HP3 := Lib.hid (HP2.out.bel hb)
      clear hb HP2 x0 x1 x2 x3 xz y0 y1 y2 y3 yz z00 z01 z0 z1 z2 z3 z02 z03 zz
      obtain ⟨x0, x1, x2, x3, _, _, xz⟩ := HA.out w3 HP3.out
      obtain ⟨y0, y1, y2, y3, _, _, yz⟩ := HBk.out w3 HP3.out
      obtain ⟨z00, z01, z0, z1, z2, z3, z02, z03, zz⟩ := HRk.out w3 HP3.out
      dsimp only
      cases b3 with
      | false =>
        go_wp2_with fail
        refine bodyPost_ret (v := .tuple #[.agg #[.string ⟨#[]⟩, .slice none 0 0, .slice none 0 0, .slice none 0 0], .bool false]) (by simp [results, Tryz.results31, go_sem, z0, z1, z2, z3]) rfl ?_
        exact betw_bad HP3.out (set4_keep ..) (by omega)
      | true =>
        by_cases hnx : nxb < nxa
        · go_wp2_with fail
          refine bodyPost_ret (v := .tuple #[.agg #[.string ⟨#[]⟩, .slice none 0 0, .slice none 0 0, .slice none 0 0], .bool false]) (by simp [results, Tryz.results31, go_sem, z0, z1, z2, z3]) rfl ?_
          exact betw_bad HP3.out (set4_keep ..) (by omega)
        · go_upto_region 4 with fail
          have hD := (PB.start w3).new #[.string nm, .slice none 0 0, .slice none 0 0, .slice none 0 0] 47
          generalize hg : w3.heap.size = g at hD ⊢
          have hg1 : w3.heap.size ≤ g := by omega
          have hgw : w.heap.size + 2 < g := by omega
          clear hg
          generalize World.alloc w3 _ = W4 at hD ⊢
          have HD4 := Lib.hid hD
          clear hD x0 x1 x2 x3 xz y0 y1 y2 y3 yz z00 z01 z0 z1 z2 z3 z02 z03 zz
          obtain ⟨y0, y1, y2, y3, _, _, yz⟩ := HBk.out W4 (HP3.out.trans (HD4.out.sub (L' := []) (by simp)))
          go_wp2_with fail
          go_loopw [46] (fun i wr => ∃ (j : Nat) (vi vu : Value) (li : List (Int × List Val)) (lu : List PrD), j ≤ mb ∧ i = .int .i64 (j : Int) ∧ PB w3 wr [⟨g, #[.string nm, vi, .slice none 0 0, vu], 47⟩] ∧ G2 TrR PrR 139 58 2 3 (g + 1) wr vi li vu lu ∧ li.length ≤ j ∧ lu.length ≤ j ∧ (∀ p ∈ lu, p.old.length = n ∧ p.new.length = n)) (fun i _ => mb - (intOf i).toNat)
          case atStart => exact ⟨0, _, _, [], [], Nat.zero_le _, rfl, HD4.out, G2.nil .., Nat.zero_le _, Nat.zero_le _, fun p hp => by cases hp⟩
          case round =>
            rename World => wr
            obtain ⟨j, vi, vu, li, lu, hj, rfl, hpb, hg2, hli, hlu, hwd⟩ := hrel
            obtain ⟨via, vic, rfl, _⟩ := hg2.shapeA
            obtain ⟨vua, vuc, rfl, _⟩ := hg2.shapeB
            have HPR := Lib.hid hpb
            have HG := Lib.hid hg2
            have HWD := Lib.hid hwd
            have HOW := Lib.hid fun k (h : OwnB (.slice via li.length vic) k ∨ OwnB (.slice vua lu.length vuc) k) => show k < wr.heap.size from h.elim (fun h => (RowsO.lt hg2.ra h).2) (fun h => (RowsO.lt hg2.rb h).2)
            have hz3 := hpb.size
            have HPW := Lib.hid (HP3.out.trans (hpb.sub (L' := []) (by simp)))
            have hgz := hpb.blt (List.mem_cons_self ..)
            dsimp only at hgz
            clear hpb hg2 hwd y0 y1 y2 y3 yz
            by_cases hlt : j < mb
            · have i0 : (0 : Int) ≤ (j : Int) := by omega
              have i1 : (j : Int) < (mb : Int) := by omega
              go_upto_block 1 with fail
              go_cut [] (fun wx => ∃ (vi2 vu2 : Value) (li2 : List (Int × List Val)) (lu2 : List PrD), PB w3 wx [⟨g, #[.string nm, vi2, .slice none 0 0, vu2], 47⟩] ∧ G2 TrR PrR 139 58 2 3 (g + 1) wx vi2 li2 vu2 lu2 ∧ li2.length ≤ j + 1 ∧ lu2.length ≤ j + 1 ∧ (∀ p ∈ lu2, p.old.length = n ∧ p.new.length = n))
              case first =>
                obtain ⟨r, b, o, cs, hrj, hrm, hba, hbz, ⟨v, rfl, hvr⟩, hcs, hcap, hcm'⟩ := HLB.out j hlt
                unfold maxLen at hcm'
                subst hba
                obtain ⟨c0, c1⟩ := CellsAt.c2 (hcs.keep (M := NoM) (.bel HPW.out.below) fun h => h)
                have hlen := (HXB.out r hrm).1
                obtain ⟨ra, rc, hv', _⟩ := hvr.shape
                rw [hlen] at hv'
                subst hv'
                have HVR := Lib.hid hvr
                have HLEN := Lib.hid hlen
                clear hcs hrj hvr hrm hlen
                have hP := HPR.out.new #[.int .i64 r.1, .slice ra n rc] 139
                have hQ : Below wr.heap.size wr (wr.alloc (.cells #[.int .i64 r.1, .slice ra n rc] 139)) := (Below.refl _ _).alloc (Nat.le_refl _) _
                go_upto_region 7 with fail
                generalize hp : wr.heap.size = p at hP hQ ⊢
                generalize World.alloc wr _ = W5 at hP hQ ⊢
                have hpw : wr.heap.size ≤ p := by omega
                rw [← hp] at hQ
                clear hp c0 c1
                have HP5 := Lib.hid hP
                have HPW5 := Lib.hid (HP3.out.trans (hP.sub (L' := []) (by simp)))
                have HG5 := Lib.hid (HG.out.bel trStable prStable hQ)
                clear hP hQ
                obtain ⟨e0, e1, _⟩ := blk2 (HP5.out.blk (b := ⟨p, _, _⟩) (List.mem_cons_self ..))
                obtain ⟨x0, x1, x2, x3, _, _, xz⟩ := HA.out W5 HPW5.out
                go_wp2_with fail
                refine (HGA.out W5 HPW5.out.below r.1).mono ?_
                rintro e w6 hgot
                have hbel6 : Below W5.heap.size W5 w6 := by
                  rcases hgot with ⟨r0, _, _, v0, _, _, h⟩ | ⟨_, _, h⟩ <;> exact h
                have HP6 := Lib.hid (HP5.out.bel hbel6)
                have HPW6 := Lib.hid (HP3.out.trans (HP6.out.sub (L' := []) (by simp)))
                have HG6 := Lib.hid (HG5.out.bel trStable prStable hbel6)
                clear e0 e1 x0 x1 x2 x3 xz HG5 HG
                have hz5 := HP5.out.blt (b := ⟨p, _, _⟩) (List.mem_cons_self ..)
                dsimp only at hz5
                obtain ⟨e0, e1, _⟩ := blk2 (HP6.out.blk (b := ⟨p, _, _⟩) (List.mem_cons_self ..))
                obtain ⟨x0, x1, x2, x3, _, _, xz⟩ := HA.out w6 HPW6.out
                obtain ⟨z00, z01, z0, z1, z2, z3, z02, z03, zz⟩ := HRk.out w6 HPW6.out
                have hdb := HP6.out.blk (b := ⟨g, _, _⟩) (List.mem_cons_of_mem _ (List.mem_cons_self ..))
                dsimp only at hdb
                obtain ⟨d0, d1, d2, d3, f2, f3, dz⟩ := blk4 hdb
                have f1 := blk_fr hdb 1
                clear hdb
                have hgp : g < p := by omega
                have HKS := Lib.hid fun (w' : World) (h : PB w3 w' [⟨p, #[.int .i64 r.1, .slice ra n rc], 139⟩]) => show w'.cell? ⟨p, 0, none⟩ = some (.int .i64 r.1) ∧ w'.cell? ⟨p, 1, none⟩ = some (.slice ra n rc) from
                  (blk2 (h.blk (b := ⟨p, _, _⟩) (List.mem_cons_self ..))).elim fun a0 h => ⟨a0, h.1⟩
                rcases hgot with ⟨r0, hr0, _, v0, rfl, hv0, _⟩ | ⟨_, rfl, _⟩
                · -- found
                  have hlen0 := (HXA.out r0 hr0).1
                  obtain ⟨va0, vc0, hv', _⟩ := hv0.shape
                  rw [hlen0] at hv'
                  subst hv'
                  have HV0 : Hid (RowsO W5.heap.size w6 26 3 ValR (.slice va0 n vc0) r0.2) := Lib.hid hv0
                  have HL0 := Lib.hid hlen0
                  clear hv0 hlen0 hr0
                  dsimp only
                  go_wp2_with fail
                  have hv1 : ValsR NoM w6 (.slice va0 n vc0) r0.2 := HV0.out.rows fun k _ _ h2 => h2
                  refine (rrows_v (M := NoM) _ _ r0.2 r.2 w6 hv1 ((HVR.out.keep (.bel HPW6.out.below)).weak fun _ _ h => h.elim)).mono ?_
                  rintro e w7 ⟨rfl, hb⟩
                  have hz67 := hb.size
                  dsimp only
                  generalize lexC cmpV r0.2 r.2 = z
                  have HP7 := Lib.hid (HP6.out.bel hb)
                  have HG7 := Lib.hid (HG6.out.bel trStable prStable hb)
                  have HV7 := Lib.hid (RowsO.kept HV0.out (Keep.bel (M := NoM) hb) (fun _ _ h => h) fun _ _ _ h => h)
                  clear hb hv1 e0 e1 x0 x1 x2 x3 xz z00 z01 z0 z1 z2 z3 z02 z03 zz d0 d1 d2 d3 f1 f2 f3 dz
                  have hz57 : W5.heap.size ≤ w7.heap.size := Nat.le_trans hbel6.size hz67
                  by_cases hz : z = 0
                  · subst hz
                    go_wp2_with fail
                    go_meet
                    exact ⟨_, _, li, lu, HP7.out.sub (by simp), HG7.out, by omega, by omega, HWD.out⟩
                  · have bz : (z != 0) = true := by simpa using hz
                    go_upto_region 13 with fail
                    have hdb := HP7.out.blk (b := ⟨g, _, _⟩) (List.mem_cons_of_mem _ (List.mem_cons_self ..))
                    dsimp only at hdb
                    obtain ⟨d0, d1, d2, d3, f2, f3, dz⟩ := blk4 hdb
                    clear hdb
                    have tok1 : Hid True := Lib.hid trivial
                    have HGC := Lib.hid fun (w' : World) (h : PB w3 w' [⟨g, #[.string nm, .slice via li.length vic, .slice none 0 0, .slice vua lu.length vuc], 47⟩]) => show w'.cell? ⟨g, 3, none⟩ = some (.slice vua lu.length vuc) from (blk4 (h.blk (b := ⟨g, _, _⟩) (List.mem_cons_self ..))).2.2.2.1
                    refine wp_regionW 12 (fun w' => w'.cell? ⟨p, 0, none⟩ = some (.int .i64 r.1) ∧ w'.cell? ⟨p, 1, none⟩ = some (.slice ra n rc) ∧ w'.cell? ⟨g, 3, none⟩ = some (.slice vua lu.length vuc)) (by kernel_rfl) ?_
                    refine wpAnyW_take (i := 0) (oi := _) (v := ?_) rfl (by kernel_rfl) (fun _ _ _ h => h) (.inl ⟨by kernel_rfl, fun wh hwh => by (try dsimp only at hwh); obtain ⟨g0, g1, g2⟩ := hwh; first | (simp [execOp, go_sem]; done) | (simp [execOp, go_sem]; with_reducible rfl)⟩) (And.intro (HKS.out _ (HP7.out.drew.sub (by simp))).1 (And.intro (HKS.out _ (HP7.out.drew.sub (by simp))).2 (HGC.out _ (HP7.out.drew.sub (by simp))))) ?_
                    (try simp only [Act.put, List.setIfInBounds_toArray])
                    refine wpAnyW_take (i := 1) (oi := _) (v := ?_) rfl (by kernel_rfl) (fun _ _ _ h => h) (.inl ⟨by kernel_rfl, fun wh hwh => by (try dsimp only at hwh); obtain ⟨g0, g1, g2⟩ := hwh; first | (simp [execOp, go_sem, g2]; done) | (simp [execOp, go_sem, g2]; with_reducible rfl)⟩) (And.intro (HKS.out _ (HP7.out.drew.sub (by simp))).1 (And.intro (HKS.out _ (HP7.out.drew.sub (by simp))).2 (HGC.out _ (HP7.out.drew.sub (by simp))))) ?_
                    (try simp only [Act.put])
                    refine wpAnyW_take (i := 2) (oi := _) (v := ?_) rfl (by kernel_rfl) (fun _ _ _ h => h) (.inl ⟨by kernel_rfl, fun wh hwh => by (try dsimp only at hwh); obtain ⟨g0, g1, g2⟩ := hwh; first | (simp [execOp, go_sem]; done) | (simp [execOp, go_sem]; with_reducible rfl)⟩) (And.intro (HKS.out _ (HP7.out.drew.sub (by simp))).1 (And.intro (HKS.out _ (HP7.out.drew.sub (by simp))).2 (HGC.out _ (HP7.out.drew.sub (by simp))))) ?_
                    (try simp only [Act.put])
                    refine wpAnyW_take (i := 3) (oi := _) (v := ?_) rfl (by kernel_rfl) (fun _ _ _ h => h) (.inl ⟨by kernel_rfl, fun wh hwh => by (try dsimp only at hwh); obtain ⟨g0, g1, g2⟩ := hwh; first | (simp [execOp, go_sem, g0]; done) | (simp [execOp, go_sem, g0]; with_reducible rfl)⟩) (And.intro (HKS.out _ (HP7.out.drew.sub (by simp))).1 (And.intro (HKS.out _ (HP7.out.drew.sub (by simp))).2 (HGC.out _ (HP7.out.drew.sub (by simp))))) ?_
                    (try simp only [Act.put])
                    refine wpAnyW_take (i := 4) (oi := _) (v := ?_) rfl (by kernel_rfl) (fun _ _ _ h => h) (.inl ⟨by kernel_rfl, fun wh hwh => by (try dsimp only at hwh); obtain ⟨g0, g1, g2⟩ := hwh; first | (simp [execOp, go_sem]; done) | (simp [execOp, go_sem]; with_reducible rfl)⟩) (And.intro (HKS.out _ (HP7.out.drew.sub (by simp))).1 (And.intro (HKS.out _ (HP7.out.drew.sub (by simp))).2 (HGC.out _ (HP7.out.drew.sub (by simp))))) ?_
                    (try simp only [Act.put])
                    refine wpAnyW_take (i := 5) (oi := _) (v := ?_) rfl (by kernel_rfl) (fun _ _ _ h => h) (.inl ⟨by kernel_rfl, fun wh hwh => by (try dsimp only at hwh); obtain ⟨g0, g1, g2⟩ := hwh; first | (simp [execOp, go_sem]; done) | (simp [execOp, go_sem]; with_reducible rfl)⟩) (And.intro (HKS.out _ (HP7.out.drew.sub (by simp))).1 (And.intro (HKS.out _ (HP7.out.drew.sub (by simp))).2 (HGC.out _ (HP7.out.drew.sub (by simp))))) ?_
                    (try simp only [Act.put])
                    refine wpAnyW_take (i := 6) (oi := _) (v := ?_) rfl (by kernel_rfl) (fun _ _ _ h => h) (.inl ⟨by kernel_rfl, fun wh hwh => by (try dsimp only at hwh); obtain ⟨g0, g1, g2⟩ := hwh; first | (simp [execOp, go_sem, g1]; done) | (simp [execOp, go_sem, g1]; with_reducible rfl)⟩) (And.intro (HKS.out _ (HP7.out.drew.sub (by simp))).1 (And.intro (HKS.out _ (HP7.out.drew.sub (by simp))).2 (HGC.out _ (HP7.out.drew.sub (by simp))))) ?_
                    (try simp only [Act.put])
                    refine wpAnyW_one (i := 7) (o := _) (by kernel_rfl) rfl (fun K hK => ?_)
                    go_simp
                    refine (rcopy_any _ r.2 _ (HVR.out.keep (.bel (HP3.out.trans (HP7.out.drew.sub (L' := []) (by simp))).below)) (by rw [HLEN.out]; exact hn)).mono ?_
                    rintro e w8 ⟨v8, rfl, ho, hb⟩
                    have HO8 : Hid (RowsO w7.heap.size w8 26 3 ValR v8 r.2) := Lib.hid ho
                    have HP8 := Lib.hid (HP7.out.drew.bel hb)
                    have hb8 : Below w7.heap.size w7 w8 := Below.trans (drew_below (Below.refl _ _)) hb
                    have HG8 := Lib.hid ((HG7.out.bel trStable prStable hb8).swap trStable prStable)
                    have hz8 := hb8.size
                    obtain ⟨a8, c8, hv8, _⟩ := ho.shape
                    rw [HLEN.out] at hv8
                    subst hv8
                    have HY8 : Hid (PrR (MM (g + 1) (.slice vua lu.length vuc) (.slice via li.length vic)) w8 ⟨r.1, r0.2, r.2⟩ [.int .i64 r.1, .slice va0 n vc0, .slice a8 n c8]) := Lib.hid ⟨_, _, rfl, (RowsO.kept HV7.out (Keep.bel (M := NoM) hb8) (fun _ _ h => h) fun _ _ _ h => h).rows fun k h1 h2 hA => (by rcases hA with hA | hA | hA; omega; have := HOW.out k (.inr hA); omega; have := HOW.out k (.inl hA); omega), HO8.out.rows fun k h1 h2 hA => (by rcases hA with hA | hA | hA; omega; have := HOW.out k (.inr hA); omega; have := HOW.out k (.inl hA); omega)⟩
                    have hdb := HP8.out.blk (b := ⟨g, _, _⟩) (List.mem_cons_of_mem _ (List.mem_cons_self ..))
                    dsimp only at hdb
                    obtain ⟨d30, d31, d32, d33, _, f33, dz3⟩ := blk4 hdb
                    clear ho hb hb8 hdb
                    refine hK.out _ _ (.inr (And.intro (HKS.out _ (HP8.out.sub (by simp))).1 (And.intro (HKS.out _ (HP8.out.sub (by simp))).2 (HGC.out _ (HP8.out.sub (by simp)))))) ?_
                    clear hK K
                    (try simp only [Act.put, List.setIfInBounds_toArray, List.set_cons_zero, List.set_cons_succ])
                    refine wpAnyW_take (i := 8) (oi := _) (v := ?_) rfl (by kernel_rfl) (fun _ _ _ h => h) (.inl ⟨by kernel_rfl, fun wh hwh => by (try dsimp only at hwh); obtain ⟨g0, g1, g2⟩ := hwh; first | (simp [execOp, go_sem]; done) | (simp [execOp, go_sem]; with_reducible rfl)⟩) (And.intro (HKS.out _ (HP8.out.sub (by simp))).1 (And.intro (HKS.out _ (HP8.out.sub (by simp))).2 (HGC.out _ (HP8.out.sub (by simp))))) ?_
                    (try simp only [Act.put, List.setIfInBounds_toArray])
                    refine wpAnyW_one (i := 9) (o := _) (by kernel_rfl) rfl (fun K hK => ?_)
                    go_simp
                    refine hK.out _ _ (.inr (And.intro (HKS.out _ ((HP8.out.alloc _).sub (by simp))).1 (And.intro (HKS.out _ ((HP8.out.alloc _).sub (by simp))).2 (HGC.out _ ((HP8.out.alloc _).sub (by simp)))))) ?_
                    clear hK K
                    (try simp only [Act.put, List.setIfInBounds_toArray, List.set_cons_zero, List.set_cons_succ])
                    refine wpAnyW_one (i := 10) (o := _) (by kernel_rfl) rfl (fun K hK => ?_)
                    refine step_appA (w := w8) prStable trStable (by rfl) _ _ _ (by rfl) _ 56 Tryz.underlying45 infoPair (by rfl) (by decide) w8.heap.size #[.int .i64 r.1, .slice va0 n vc0, .slice a8 n c8] ⟨r.1, r0.2, r.2⟩ (by rfl) (by rfl) (by rfl) HG8.out (by rfl) HY8.out (by omega) (by unfold maxLen; omega) (by omega) ?_
                    intro v9 w9 hg9 hk
                    have HG9 := Lib.hid (hg9.swap prStable trStable)
                    have HP9 := Lib.hid (HP8.out.then hk (fun i hi hO => (by have := (RowsO.lt HG8.out.ra hO).1; omega)) (fun b hb hO => (by simp only [List.mem_cons, List.not_mem_nil, or_false] at hb; have := HOW.out _ (.inr hO); have := (RowsO.lt HG8.out.ra hO).1; rcases hb with rfl | rfl <;> dsimp only at * <;> omega)))
                    obtain ⟨a9, c9, hv9, _⟩ := hg9.shapeA
                    simp only [List.length_append, List.length_singleton] at hv9
                    subst hv9
                    have HS9 := Lib.hid fun u => (HP9.out.sub (L' := [⟨p, #[.int .i64 r.1, .slice ra n rc], 139⟩]) (by simp)).then (N := At g) ((Keep.refl (At g) w9).setCell (p := ⟨g, 3, none⟩) (fun _ => rfl) u) (fun i hi h => (by unfold At at h; omega)) (fun b hb h => (by simp only [List.mem_cons, List.not_mem_nil, or_false] at hb; subst hb; unfold At at h; dsimp only at h; omega))
                    have hdb := HP9.out.blk (b := ⟨g, _, _⟩) (List.mem_cons_of_mem _ (List.mem_cons_self ..))
                    dsimp only at hdb
                    have HDB := Lib.hid hdb
                    obtain ⟨d40, d41, d42, d43, _, f43, dz4⟩ := blk4 hdb
                    clear hg9 hk hdb
                    refine hK.out _ _ (.inr (And.intro (HKS.out _ (HP9.out.sub (by simp))).1 (And.intro (HKS.out _ (HP9.out.sub (by simp))).2 (HGC.out _ (HP9.out.sub (by simp)))))) ?_
                    clear hK K
                    (try simp only [Act.put, List.setIfInBounds_toArray])
                    refine wpAnyW_take (i := 11) (oi := _) (v := ?_) rfl (by kernel_rfl) (fun _ _ _ h => h) (.inl ⟨by kernel_rfl, fun wh hwh => by (try dsimp only at hwh); obtain ⟨g0, g1, g2⟩ := hwh; first | (simp [execOp, go_sem]; done) | (simp [execOp, go_sem]; with_reducible rfl)⟩) (And.intro (HKS.out _ (HP9.out.sub (by simp))).1 (And.intro (HKS.out _ (HP9.out.sub (by simp))).2 (HGC.out _ (HP9.out.sub (by simp))))) ?_
                    (try simp only [Act.put])
                    refine wpAnyW_one (i := 12) (o := _) (by kernel_rfl) rfl (fun K hK => ?_)
                    go_simp
                    refine hK.out _ _ (.inl (by kernel_rfl)) ?_
                    clear hK K
                    (try simp only [Act.put, List.setIfInBounds_toArray, List.set_cons_zero, List.set_cons_succ])
                    refine wpAnyW_done (by kernel_rfl) ?_ _
                    go_wp2_with fail
                    go_meet
                    refine ⟨_, _, li, lu ++ [⟨r.1, r0.2, r.2⟩], (HP9.out.swap.put 3 _ (blk4_set3 HDB.out) (by simp; omega)).sub (by simp), HG9.out.keep trStable prStable ((Keep.refl (At g) w9).setCell (p := ⟨g, 3, none⟩) (fun _ => rfl) _) (fun k h1 _ h => by unfold At at h; omega), by omega, by simp; omega, fun q hq => ?_⟩
                    rcases List.mem_append.1 hq with hq | hq
                    · exact HWD.out q hq
                    · simp only [List.mem_cons, List.not_mem_nil, or_false] at hq
                      subst hq
                      exact ⟨HL0.out, HLEN.out⟩
                · -- not found
                  dsimp only
                  by_cases hlo : r.1 < nxa
                  · go_wp2_with fail
                    refine bodyPost_ret (v := .tuple #[.agg #[.string ⟨#[]⟩, .slice none 0 0, .slice none 0 0, .slice none 0 0], .bool false]) (by simp [results, Tryz.results31, go_sem, z0, z1, z2, z3]) rfl ?_
                    exact betw_bad HPW6.out (set4_keep ..) (by omega)
                  · clear z00 z01 z0 z1 z2 z3 z02 z03 zz
                    have tok1 : Hid True := Lib.hid trivial
                    go_upto_region 11 with fail
                    have HGC := Lib.hid fun (w' : World) (h : PB w3 w' [⟨g, #[.string nm, .slice via li.length vic, .slice none 0 0, .slice vua lu.length vuc], 47⟩]) => show w'.cell? ⟨g, 1, none⟩ = some (.slice via li.length vic) from (blk4 (h.blk (b := ⟨g, _, _⟩) (List.mem_cons_self ..))).2.1
                    refine wp_regionW 7 (fun w' => w'.cell? ⟨p, 0, none⟩ = some (.int .i64 r.1) ∧ w'.cell? ⟨p, 1, none⟩ = some (.slice ra n rc) ∧ w'.cell? ⟨g, 1, none⟩ = some (.slice via li.length vic)) (by kernel_rfl) ?_
                    refine wpAnyW_take (i := 0) (oi := _) (v := ?_) rfl (by kernel_rfl) (fun _ _ _ h => h) (.inl ⟨by kernel_rfl, fun wh hwh => by (try dsimp only at hwh); obtain ⟨g0, g1, g2⟩ := hwh; first | (simp [execOp, go_sem]; done) | (simp [execOp, go_sem]; with_reducible rfl)⟩) (And.intro (HKS.out _ (HP6.out.drew.sub (by simp))).1 (And.intro (HKS.out _ (HP6.out.drew.sub (by simp))).2 (HGC.out _ (HP6.out.drew.sub (by simp))))) ?_
                    (try simp only [Act.put, List.setIfInBounds_toArray])
                    refine wpAnyW_take (i := 1) (oi := _) (v := ?_) rfl (by kernel_rfl) (fun _ _ _ h => h) (.inl ⟨by kernel_rfl, fun wh hwh => by (try dsimp only at hwh); obtain ⟨g0, g1, g2⟩ := hwh; first | (simp [execOp, go_sem, g2]; done) | (simp [execOp, go_sem, g2]; with_reducible rfl)⟩) (And.intro (HKS.out _ (HP6.out.drew.sub (by simp))).1 (And.intro (HKS.out _ (HP6.out.drew.sub (by simp))).2 (HGC.out _ (HP6.out.drew.sub (by simp))))) ?_
                    (try simp only [Act.put])
                    refine wpAnyW_take (i := 2) (oi := _) (v := ?_) rfl (by kernel_rfl) (fun _ _ _ h => h) (.inl ⟨by kernel_rfl, fun wh hwh => by (try dsimp only at hwh); obtain ⟨g0, g1, g2⟩ := hwh; first | (simp [execOp, go_sem, g0, g1]; done) | (simp [execOp, go_sem, g0, g1]; with_reducible rfl)⟩) (And.intro (HKS.out _ (HP6.out.drew.sub (by simp))).1 (And.intro (HKS.out _ (HP6.out.drew.sub (by simp))).2 (HGC.out _ (HP6.out.drew.sub (by simp))))) ?_
                    (try simp only [Act.put])
                    refine wpAnyW_one (i := 3) (o := _) (by kernel_rfl) rfl (fun K hK => ?_)
                    go_simp
                    refine (r8copy_any r _ _ (HVR.out.keep (.bel (HP3.out.trans (HP6.out.drew.sub (L' := []) (by simp))).below)) (by rw [HLEN.out]; exact hn)).mono ?_
                    rintro e w8 ⟨v8, rfl, ho, hb⟩
                    have HO8 : Hid (RowsO w6.heap.size w8 26 3 ValR v8 r.2) := Lib.hid ho
                    have HP8 := Lib.hid (HP6.out.drew.bel hb)
                    have hb8 : Below w6.heap.size w6 w8 := Below.trans (drew_below (Below.refl _ _)) hb
                    have HG8 := Lib.hid (HG6.out.bel trStable prStable hb8)
                    have hz8 := hb8.size
                    obtain ⟨a8, c8, hv8, _⟩ := ho.shape
                    rw [HLEN.out] at hv8
                    subst hv8
                    have HY8 : Hid (TrR (MM (g + 1) (.slice via li.length vic) (.slice vua lu.length vuc)) w8 r [.int .i64 r.1, .slice a8 n c8]) := Lib.hid ⟨_, rfl, HO8.out.rows fun k h1 h2 hA => (by have := hbel6.size; rcases hA with hA | hA | hA; omega; have := HOW.out k (.inl hA); omega; have := HOW.out k (.inr hA); omega)⟩
                    have hdb := HP8.out.blk (b := ⟨g, _, _⟩) (List.mem_cons_of_mem _ (List.mem_cons_self ..))
                    dsimp only at hdb
                    obtain ⟨d30, d31, d32, d33, _, f33, dz3⟩ := blk4 hdb
                    have f31 := blk_fr hdb 1
                    clear ho hb hb8 hdb
                    refine hK.out _ _ (.inr (And.intro (HKS.out _ (HP8.out.sub (by simp))).1 (And.intro (HKS.out _ (HP8.out.sub (by simp))).2 (HGC.out _ (HP8.out.sub (by simp)))))) ?_
                    clear hK K
                    (try simp only [Act.put, List.setIfInBounds_toArray, List.set_cons_zero, List.set_cons_succ])
                    refine wpAnyW_one (i := 4) (o := _) (by kernel_rfl) rfl (fun K hK => ?_)
                    go_simp
                    refine hK.out _ _ (.inr (And.intro (HKS.out _ ((HP8.out.alloc _).sub (by simp))).1 (And.intro (HKS.out _ ((HP8.out.alloc _).sub (by simp))).2 (HGC.out _ ((HP8.out.alloc _).sub (by simp)))))) ?_
                    clear hK K
                    (try simp only [Act.put, List.setIfInBounds_toArray, List.set_cons_zero, List.set_cons_succ])
                    refine wpAnyW_one (i := 5) (o := _) (by kernel_rfl) rfl (fun K hK => ?_)
                    refine step_appA (w := w8) trStable prStable (by rfl) _ _ _ (by rfl) _ 32 Tryz.underlying44 infoTrw (by rfl) (by decide) w8.heap.size #[.int .i64 r.1, .slice a8 n c8] r (by rfl) (by rfl) (by rfl) HG8.out (by rfl) HY8.out (by omega) (by unfold maxLen; omega) (by have := hbel6.size; omega) ?_
                    intro v9 w9 hg9 hk
                    have HG9 := Lib.hid hg9
                    have HP9 := Lib.hid (HP8.out.then hk (fun i hi hO => (by have := (RowsO.lt HG8.out.ra hO).1; omega)) (fun b hb hO => (by simp only [List.mem_cons, List.not_mem_nil, or_false] at hb; have := HOW.out _ (.inl hO); have := (RowsO.lt HG8.out.ra hO).1; rcases hb with rfl | rfl <;> dsimp only at * <;> omega)))
                    obtain ⟨a9, c9, hv9, _⟩ := hg9.shapeA
                    simp only [List.length_append, List.length_singleton] at hv9
                    subst hv9
                    have HS9 := Lib.hid fun u => (HP9.out.sub (L' := [⟨p, #[.int .i64 r.1, .slice ra n rc], 139⟩]) (by simp)).then (N := At g) ((Keep.refl (At g) w9).setCell (p := ⟨g, 1, none⟩) (fun _ => rfl) u) (fun i hi h => (by unfold At at h; omega)) (fun b hb h => (by simp only [List.mem_cons, List.not_mem_nil, or_false] at hb; subst hb; unfold At at h; dsimp only at h; omega))
                    have hdb := HP9.out.blk (b := ⟨g, _, _⟩) (List.mem_cons_of_mem _ (List.mem_cons_self ..))
                    dsimp only at hdb
                    have HDB := Lib.hid hdb
                    obtain ⟨d40, d41, d42, d43, _, f43, dz4⟩ := blk4 hdb
                    have f41 := blk_fr hdb 1
                    clear hg9 hk hdb
                    refine hK.out _ _ (.inr (And.intro (HKS.out _ (HP9.out.sub (by simp))).1 (And.intro (HKS.out _ (HP9.out.sub (by simp))).2 (HGC.out _ (HP9.out.sub (by simp)))))) ?_
                    clear hK K
                    (try simp only [Act.put, List.setIfInBounds_toArray])
                    refine wpAnyW_take (i := 6) (oi := _) (v := ?_) rfl (by kernel_rfl) (fun _ _ _ h => h) (.inl ⟨by kernel_rfl, fun wh hwh => by (try dsimp only at hwh); obtain ⟨g0, g1, g2⟩ := hwh; first | (simp [execOp, go_sem]; done) | (simp [execOp, go_sem]; with_reducible rfl)⟩) (And.intro (HKS.out _ (HP9.out.sub (by simp))).1 (And.intro (HKS.out _ (HP9.out.sub (by simp))).2 (HGC.out _ (HP9.out.sub (by simp))))) ?_
                    (try simp only [Act.put])
                    refine wpAnyW_one (i := 7) (o := _) (by kernel_rfl) rfl (fun K hK => ?_)
                    go_simp
                    refine hK.out _ _ (.inl (by kernel_rfl)) ?_
                    clear hK K
                    (try simp only [Act.put, List.setIfInBounds_toArray, List.set_cons_zero, List.set_cons_succ])
                    refine wpAnyW_done (by kernel_rfl) ?_ _
                    go_wp2_with fail
                    go_meet
                    exact ⟨_, _, li ++ [r], lu, (HP9.out.swap.put 1 _ (blk4_set1 HDB.out) (by simp; omega)).sub (by simp), HG9.out.keep trStable prStable ((Keep.refl (At g) w9).setCell (p := ⟨g, 1, none⟩) (fun _ => rfl) _) (fun k h1 _ h => by unfold At at h; omega), by simp; omega, by omega, HWD.out⟩
              case rest =>
                obtain ⟨vi2, vu2, li2, lu2, hpx, hgx, hl1, hl2, hw2⟩ := hcut
                rename World => wx
                have HPX := Lib.hid hpx
                have HGX := Lib.hid hgx
                have HW2 := Lib.hid hw2
                clear hpx hgx hw2
                go_wp2_with fail
                go_roundw
                case rel => exact ⟨j + 1, _, _, li2, lu2, by omega, by go_num, HPX.out, HGX.out, hl1, hl2, HW2.out⟩
                case measure => simp [intOf]; omega
            · have HLU : Hid (PrsR (Old (g + 1)) wr (.slice vua lu.length vuc) lu) := Lib.hid (HG.out.rowsB prStable)
              obtain ⟨x0, x1, x2, x3, _, _, xz⟩ := HA.out wr HPW.out
              have HLL : Hid (lu.length ≤ 200) := Lib.hid (by omega)
              clear hli hlu HG HOW
              go_wp2_with fail
              go_loopw [97] (fun i wx => ∃ (k : Nat) (vd : Value) (ld : List (Int × List Val)), k ≤ ma ∧ i = .int .i64 (k : Int) ∧ PB w3 wx [⟨g, #[.string nm, .slice via li.length vic, vd, .slice vua lu.length vuc], 47⟩] ∧ Keep (At g) wr wx ∧ RowsG wr.heap.size wx 139 2 TrR vd ld ∧ ld.length ≤ k) (fun i _ => ma - (intOf i).toNat)
              case atStart => exact ⟨0, _, [], Nat.zero_le _, rfl, HPR.out, .refl _ _, RowsG.nil .., Nat.zero_le _⟩
              case round =>
                rename World => wx
                obtain ⟨k, vd, ld, hk, rfl, hpb, hkp, hg2, hld⟩ := hrel
                obtain ⟨vda, vdc, rfl, _⟩ := hg2.shape
                have HPX := Lib.hid hpb
                have HKX := Lib.hid hkp
                have HGX := Lib.hid hg2
                have HOX := Lib.hid fun k (h : OwnB (.slice vda ld.length vdc) k) => (show wr.heap.size ≤ k ∧ k < wx.heap.size from RowsO.lt hg2 h)
                have hzx := hkp.size
                have HPWX := Lib.hid (HP3.out.trans (hpb.sub (L' := []) (by simp)))
                clear hpb hkp hg2 x0 x1 x2 x3 xz
                by_cases hlt2 : k < ma
                · have i0 : (0 : Int) ≤ (k : Int) := by omega
                  have i1 : (k : Int) < (ma : Int) := by omega
                  obtain ⟨r, b, o, cs, hrj, hrm, hba, hbz, ⟨v, rfl, hvr⟩, hcs, hcap, hcm'⟩ := HLA.out k hlt2
                  unfold maxLen at hcm'
                  subst hba
                  obtain ⟨c0, c1⟩ := CellsAt.c2 (hcs.keep (M := NoM) (.bel HPWX.out.below) fun h => h)
                  have hlen := (HXA.out r hrm).1
                  obtain ⟨ra, rc, hv', _⟩ := hvr.shape
                  rw [hlen] at hv'
                  subst hv'
                  have HVR := Lib.hid hvr
                  have HLEN := Lib.hid hlen
                  clear hcs hrj hvr hrm hlen
                  have hP := HPX.out.new #[.int .i64 r.1, .slice ra n rc] 139
                  have hQ : Below wx.heap.size wx (wx.alloc (.cells #[.int .i64 r.1, .slice ra n rc] 139)) := (Below.refl _ _).alloc (Nat.le_refl _) _
                  go_upto_region 18 with fail
                  generalize hp : wx.heap.size = p at hP hQ ⊢
                  generalize World.alloc wx _ = W5 at hP hQ ⊢
                  have hpw : wx.heap.size ≤ p := by omega
                  rw [← hp] at hQ
                  clear hp c0 c1
                  have HP5 := Lib.hid hP
                  have HPW5 := Lib.hid (HP3.out.trans (hP.sub (L' := []) (by simp)))
                  have HG5 := Lib.hid (HGX.out.bel trStable hQ)
                  have HK5 := Lib.hid (HKX.out.below hQ)
                  clear hP hQ
                  obtain ⟨e0, e1, _⟩ := blk2 (HP5.out.blk (b := ⟨p, _, _⟩) (List.mem_cons_self ..))
                  obtain ⟨y0, y1, y2, y3, _, _, yz⟩ := HBk.out W5 HPW5.out
                  go_wp2_with fail
                  refine (HGB.out W5 HPW5.out.below r.1).mono ?_
                  rintro e w6 hgot
                  have hbel6 : Below W5.heap.size W5 w6 := by
                    rcases hgot with ⟨r0, _, _, v0, _, _, h⟩ | ⟨_, _, h⟩ <;> exact h
                  have HP6 := Lib.hid (HP5.out.bel hbel6)
                  have HG6 := Lib.hid (HG5.out.bel trStable hbel6)
                  have HK6 := Lib.hid (HK5.out.below hbel6)
                  have HPW6 := Lib.hid (HP3.out.trans (HP6.out.sub (L' := []) (by simp)))
                  have hz5 := HP5.out.blt (b := ⟨p, _, _⟩) (List.mem_cons_self ..)
                  have hz6 := hbel6.size
                  dsimp only at hz5
                  clear e0 e1 y0 y1 y2 y3 yz HG5 HGX HK5
                  obtain ⟨e0, e1, _⟩ := blk2 (HP6.out.blk (b := ⟨p, _, _⟩) (List.mem_cons_self ..))
                  have hdb := HP6.out.blk (b := ⟨g, _, _⟩) (List.mem_cons_of_mem _ (List.mem_cons_self ..))
                  dsimp only at hdb
                  obtain ⟨d0, d1, d2, d3, f2, f3, dz⟩ := blk4 hdb
                  clear hdb
                  have hgp : g < p := by omega
                  have HKS := Lib.hid fun (w' : World) (h : PB w3 w' [⟨p, #[.int .i64 r.1, .slice ra n rc], 139⟩]) => show w'.cell? ⟨p, 0, none⟩ = some (.int .i64 r.1) ∧ w'.cell? ⟨p, 1, none⟩ = some (.slice ra n rc) from
                    (blk2 (h.blk (b := ⟨p, _, _⟩) (List.mem_cons_self ..))).elim fun a0 h => ⟨a0, h.1⟩
                  rcases hgot with ⟨r0, hr0, _, v0, rfl, hv0, _⟩ | ⟨_, rfl, _⟩
                  · clear hv0 hr0
                    dsimp only
                    go_wp2_with fail
                    go_roundw
                    case rel => exact ⟨k + 1, _, ld, by omega, by go_num, HP6.out.sub (by simp), HK6.out, HG6.out, by omega⟩
                    case measure => simp [intOf]; omega
                  · dsimp only
                    have tok1 : Hid True := Lib.hid trivial
                    go_upto_region 20 with fail
                    have HGC := Lib.hid fun (w' : World) (h : PB w3 w' [⟨g, #[.string nm, .slice via li.length vic, .slice vda ld.length vdc, .slice vua lu.length vuc], 47⟩]) => show w'.cell? ⟨g, 2, none⟩ = some (.slice vda ld.length vdc) from (blk4 (h.blk (b := ⟨g, _, _⟩) (List.mem_cons_self ..))).2.2.1
                    refine wp_regionW 7 (fun w' => w'.cell? ⟨p, 0, none⟩ = some (.int .i64 r.1) ∧ w'.cell? ⟨p, 1, none⟩ = some (.slice ra n rc) ∧ w'.cell? ⟨g, 2, none⟩ = some (.slice vda ld.length vdc)) (by kernel_rfl) ?_
                    refine wpAnyW_take (i := 0) (oi := _) (v := ?_) rfl (by kernel_rfl) (fun _ _ _ h => h) (.inl ⟨by kernel_rfl, fun wh hwh => by (try dsimp only at hwh); obtain ⟨g0, g1, g2⟩ := hwh; first | (simp [execOp, go_sem]; done) | (simp [execOp, go_sem]; with_reducible rfl)⟩) (And.intro (HKS.out _ (HP6.out.drew.sub (by simp))).1 (And.intro (HKS.out _ (HP6.out.drew.sub (by simp))).2 (HGC.out _ (HP6.out.drew.sub (by simp))))) ?_
                    (try simp only [Act.put, List.setIfInBounds_toArray])
                    refine wpAnyW_take (i := 1) (oi := _) (v := ?_) rfl (by kernel_rfl) (fun _ _ _ h => h) (.inl ⟨by kernel_rfl, fun wh hwh => by (try dsimp only at hwh); obtain ⟨g0, g1, g2⟩ := hwh; first | (simp [execOp, go_sem, g2]; done) | (simp [execOp, go_sem, g2]; with_reducible rfl)⟩) (And.intro (HKS.out _ (HP6.out.drew.sub (by simp))).1 (And.intro (HKS.out _ (HP6.out.drew.sub (by simp))).2 (HGC.out _ (HP6.out.drew.sub (by simp))))) ?_
                    (try simp only [Act.put])
                    refine wpAnyW_take (i := 2) (oi := _) (v := ?_) rfl (by kernel_rfl) (fun _ _ _ h => h) (.inl ⟨by kernel_rfl, fun wh hwh => by (try dsimp only at hwh); obtain ⟨g0, g1, g2⟩ := hwh; first | (simp [execOp, go_sem, g0, g1]; done) | (simp [execOp, go_sem, g0, g1]; with_reducible rfl)⟩) (And.intro (HKS.out _ (HP6.out.drew.sub (by simp))).1 (And.intro (HKS.out _ (HP6.out.drew.sub (by simp))).2 (HGC.out _ (HP6.out.drew.sub (by simp))))) ?_
                    (try simp only [Act.put])
                    refine wpAnyW_one (i := 3) (o := _) (by kernel_rfl) rfl (fun K hK => ?_)
                    go_simp
                    refine (r8copy_any r _ _ (HVR.out.keep (.bel (HP3.out.trans (HP6.out.drew.sub (L' := []) (by simp))).below)) (by rw [HLEN.out]; exact hn)).mono ?_
                    rintro e w8 ⟨v8, rfl, ho, hb⟩
                    have HO8 : Hid (RowsO w6.heap.size w8 26 3 ValR v8 r.2) := Lib.hid ho
                    have HP8 := Lib.hid (HP6.out.drew.bel hb)
                    have hb8 : Below w6.heap.size w6 w8 := Below.trans (drew_below (Below.refl _ _)) hb
                    have HG8 := Lib.hid (HG6.out.bel trStable hb8)
                    have HK8 := Lib.hid (HK6.out.below hb8)
                    have hz8 := hb8.size
                    obtain ⟨a8, c8, hv8, _⟩ := ho.shape
                    rw [HLEN.out] at hv8
                    subst hv8
                    have HY8 : Hid (TrR (OldOr wr.heap.size (.slice vda ld.length vdc)) w8 r [.int .i64 r.1, .slice a8 n c8]) := Lib.hid ⟨_, rfl, HO8.out.rows fun k h1 h2 hA => (by rcases hA with hA | hA; omega; have := HOX.out k hA; omega)⟩
                    have hdb := HP8.out.blk (b := ⟨g, _, _⟩) (List.mem_cons_of_mem _ (List.mem_cons_self ..))
                    dsimp only at hdb
                    obtain ⟨d30, d31, d32, d33, f32, f33, dz3⟩ := blk4 hdb
                    clear ho hb hb8 hdb
                    refine hK.out _ _ (.inr (And.intro (HKS.out _ (HP8.out.sub (by simp))).1 (And.intro (HKS.out _ (HP8.out.sub (by simp))).2 (HGC.out _ (HP8.out.sub (by simp)))))) ?_
                    clear hK K
                    (try simp only [Act.put, List.setIfInBounds_toArray, List.set_cons_zero, List.set_cons_succ])
                    refine wpAnyW_one (i := 4) (o := _) (by kernel_rfl) rfl (fun K hK => ?_)
                    go_simp
                    refine hK.out _ _ (.inr (And.intro (HKS.out _ ((HP8.out.alloc _).sub (by simp))).1 (And.intro (HKS.out _ ((HP8.out.alloc _).sub (by simp))).2 (HGC.out _ ((HP8.out.alloc _).sub (by simp)))))) ?_
                    clear hK K
                    (try simp only [Act.put, List.setIfInBounds_toArray, List.set_cons_zero, List.set_cons_succ])
                    refine wpAnyW_one (i := 5) (o := _) (by kernel_rfl) rfl (fun K hK => ?_)
                    refine step_appG (w := w8) trStable (by rfl) _ _ _ (by rfl) 139 _ 2 32 Tryz.underlying44 infoTrw (by rfl) (by decide) wr.heap.size (.slice vda ld.length vdc) w8.heap.size #[.int .i64 r.1, .slice a8 n c8] ld r (by rfl) (by rfl) (by rfl) HG8.out (by rfl) HY8.out (by omega) (by unfold maxLen; omega) (by omega) ?_
                    intro v9 w9 hg9 hk
                    have HG9 := Lib.hid hg9
                    have HP9 := Lib.hid (HP8.out.then hk (fun i hi hO => (by have := (HOX.out i hO).1; omega)) (fun b hb hO => (by simp only [List.mem_cons, List.not_mem_nil, or_false] at hb; have := HOX.out _ hO; rcases hb with rfl | rfl <;> dsimp only at * <;> omega)))
                    obtain ⟨a9, c9, hv9, _⟩ := hg9.shape
                    simp only [List.length_append, List.length_singleton] at hv9
                    subst hv9
                    have HK9 := Lib.hid (HK8.out.then hk fun i hi hO => absurd (HOX.out i hO).1 (by omega))
                    have HS9 := Lib.hid fun u => (HP9.out.sub (L' := [⟨p, #[.int .i64 r.1, .slice ra n rc], 139⟩]) (by simp)).then (N := At g) ((Keep.refl (At g) w9).setCell (p := ⟨g, 2, none⟩) (fun _ => rfl) u) (fun i hi h => (by unfold At at h; omega)) (fun b hb h => (by simp only [List.mem_cons, List.not_mem_nil, or_false] at hb; subst hb; unfold At at h; dsimp only at h; omega))
                    have hdb := HP9.out.blk (b := ⟨g, _, _⟩) (List.mem_cons_of_mem _ (List.mem_cons_self ..))
                    dsimp only at hdb
                    have HDB := Lib.hid hdb
                    obtain ⟨d40, d41, d42, d43, f42, f43, dz4⟩ := blk4 hdb
                    clear hg9 hk hdb
                    refine hK.out _ _ (.inr (And.intro (HKS.out _ (HP9.out.sub (by simp))).1 (And.intro (HKS.out _ (HP9.out.sub (by simp))).2 (HGC.out _ (HP9.out.sub (by simp)))))) ?_
                    clear hK K
                    (try simp only [Act.put, List.setIfInBounds_toArray])
                    refine wpAnyW_take (i := 6) (oi := _) (v := ?_) rfl (by kernel_rfl) (fun _ _ _ h => h) (.inl ⟨by kernel_rfl, fun wh hwh => by (try dsimp only at hwh); obtain ⟨g0, g1, g2⟩ := hwh; first | (simp [execOp, go_sem]; done) | (simp [execOp, go_sem]; with_reducible rfl)⟩) (And.intro (HKS.out _ (HP9.out.sub (by simp))).1 (And.intro (HKS.out _ (HP9.out.sub (by simp))).2 (HGC.out _ (HP9.out.sub (by simp))))) ?_
                    (try simp only [Act.put])
                    refine wpAnyW_one (i := 7) (o := _) (by kernel_rfl) rfl (fun K hK => ?_)
                    go_simp
                    refine hK.out _ _ (.inl (by kernel_rfl)) ?_
                    clear hK K
                    (try simp only [Act.put, List.setIfInBounds_toArray, List.set_cons_zero, List.set_cons_succ])
                    refine wpAnyW_done (by kernel_rfl) ?_ _
                    go_wp2_with fail
                    go_roundw
                    case rel => exact ⟨k + 1, _, ld ++ [r], by omega, by go_num, (HP9.out.swap.put 2 _ (blk4_set2 HDB.out) (by simp; omega)).sub (by simp), HK9.out.setCell (p := ⟨g, 2, none⟩) (fun _ => rfl) _, HG9.out.keep trStable ((Keep.refl (At g) w9).setCell (p := ⟨g, 2, none⟩) (fun _ => rfl) _) (fun k h1 _ h => by unfold At at h; omega), by simp; omega⟩
                    case measure => simp [intOf]; omega
                · obtain ⟨z00, z01, z0, z1, z2, z3, z02, z03, zz⟩ := HRk.out wx HPWX.out
                  have hdb := HPX.out.blk (b := ⟨g, _, _⟩) (List.mem_cons_self ..)
                  dsimp only at hdb
                  obtain ⟨d0, d1, d2, d3, f2, f3, dz⟩ := blk4 hdb
                  clear hdb
                  go_wp2_with fail
                  refine bodyPost_ret (v := .tuple #[.agg #[.string nm, .slice via li.length vic, .slice vda ld.length vdc, .slice vua lu.length vuc], .bool true]) (by simp [results, Tryz.results31, go_sem, z0, z1, z2, z3]) rfl ?_
                  have k4 := set4_keep wx (w.heap.size + 2) (.string nm) (.slice via li.length vic) (.slice vda ld.length vdc) (.slice vua lu.length vuc)
                  have q1 := (HLU.out.keep (HKX.out.weak fun k _ h => by unfold At at h; unfold Old; omega)).keep (k4.weak fun k _ h => by unfold At at h; unfold Old; omega)
                  have q3 := ((HPWX.out.sub (L' := []) (by simp)).then k4 (fun i hi h => by unfold At at h; omega) (fun b hb => by cases hb)).below
                  exact ⟨_, _, _, _, _, _, _, _, _, lu, rfl, q1.weak fun k _ h => by unfold Old at *; omega, HWD.out, HLL.out, q3⟩
end Go.Proofs.YtkhlmofcdchccaaGreatDoor
