/- A change applied to a table: what comes out has rows of the table's width. -/
import Derived.Test.YtkhlmofcdchccaaGreatDoorTM13
import Derived.Test.YtkhlmofcdchccaaGreatDoorU07
namespace Go.Proofs.YtkhlmofcdchccaaGreatDoor
open Go.RowKit Go.Maps

/-- What Apply gives. -/
def AppQ (n : Nat) (nm : ByteArray) (cl : List Col) (w : World) (e : Ending) (w' : World) : Prop := ∃ (s : ByteArray) (ca : Option Addr) (cn cc : Nat) (x : Int) (ra : Option Addr) (rn rc : Nat) (er : Int),
  e = .returned (.tuple #[.agg #[.string s, .slice ca cn cc, .int .i64 x, .slice ra rn rc], .int .i64 er]) ∧ Below w.heap.size w w' ∧
  (er = 0 → s = nm ∧ ColsR (Old w.heap.size) w' (.slice ca cn cc) cl ∧ ∃ l : List (Int × List Val), TrsR (Old w.heap.size) w' (.slice ra rn rc) l ∧ l.length ≤ 200 ∧ ∀ r ∈ l, r.2.length = n ∧ ∀ y ∈ r.2, ValidVal y)

theorem tset4_keep (w : World) (g : Nat) (b c d e : Value) : Keep (At g) w ((((w.setCell ⟨g, 0, none⟩ b).setCell ⟨g, 1, none⟩ c).setCell ⟨g, 2, none⟩ d).setCell ⟨g, 3, none⟩ e) :=
  ((((Keep.refl (At g) w).setCell (p := ⟨g, 0, none⟩) (fun _ => rfl) _).setCell (p := ⟨g, 1, none⟩) (fun _ => rfl) _).setCell (p := ⟨g, 2, none⟩) (fun _ => rfl) _).setCell (p := ⟨g, 3, none⟩) (fun _ => rfl) _
theorem app_bad {n g : Nat} {nm : ByteArray} {cl : List Col} {w W W' : World} {L : List OwnBlk} {er : Int} (h : PB w W L) (k : Keep (At g) W W') (hg : w.heap.size ≤ g) (he : er ≠ 0) : AppQ n nm cl w (.returned (.tuple #[.agg #[.string ⟨#[]⟩, .slice none 0 0, .int .i64 0, .slice none 0 0], .int .i64 er])) W' :=
  ⟨_, _, _, _, _, _, _, _, _, rfl, ((h.sub (L' := []) fun b hb => by cases hb).then k (fun i hi h => by unfold At at h; omega) fun b hb => by cases hb).below, fun h => absurd h he⟩

theorem run_fieldT (a b c d : Value) (w : World) : (Instr.field 96 (.agg #[a, b, c, d]) 0).run Tryz.prog w = .ok (.agg #[a, b]) w := by kernel_rfl

theorem PB.fill4 {w W : World} {L : List OwnBlk} {p : Nat} {c0 c1 c2 c3 : Value} {e : TypeId} (h : PB w W (⟨p, #[c0, c1, c2, c3], e⟩ :: L)) (hL : ∀ b ∈ L, b.pos ≠ p) (a b c d : Value) :
    PB w ((((W.setCell ⟨p, 0, none⟩ a).setCell ⟨p, 1, none⟩ b).setCell ⟨p, 2, none⟩ c).setCell ⟨p, 3, none⟩ d) (⟨p, #[a, b, c, d], e⟩ :: L) := by
  have h0 := h.blk (b := ⟨p, _, _⟩) (List.mem_cons_self ..)
  have h1 := blk4_set0 (v := a) h0
  have h2 := blk4_set1 (v := b) h1
  have h3 := blk4_set2 (v := c) h2
  exact (((h.put 0 a h1 hL).put 1 b h2 hL).put 2 c h3 hL).put 3 d (blk4_set3 h3) hL

set_option maxRecDepth 100000 in
set_option maxHeartbeats 16000000 in
theorem r7apply_any {M : Nat → Prop} (n : Nat) (nm : ByteArray) (cv rv iv dv uv : Value) (nx : Int) (cl : List Col) (l : List (Int × List Val)) (li : List (List Val)) (ld : List Int) (lu : List PrD) (w : World)
    (hc : ColsR M w cv cl) (hr : TrsR M w rv l) (hl : l.length ≤ 100) (hx : ∀ r ∈ l, r.2.length = n ∧ ∀ y ∈ r.2, ValidVal y) (hs : nm.size ≤ maxLen) (hcs : ∀ c ∈ cl, c.name.size ≤ maxLen) (hcl : cl.length ≤ 1000) (hn : n ≤ 1000) (hnx0 : 0 ≤ nx) (hnx1 : nx ≤ 1000)
    (hch : ChgR M w iv dv uv li ld lu) (hdl : ld.length ≤ 200) (hil : li.length ≤ 50) (hdi : ∀ x ∈ ld, I64R x) (hui : ∀ p ∈ lu, I64R p.id) (huw : ∀ p ∈ lu, p.new.length = n ∧ ∀ y ∈ p.new, ValidVal y) (hiw : ∀ x ∈ li, x.length = n ∧ ∀ y ∈ x, ValidVal y) :
    Calls Tryz.prog 29 #[.agg #[.string nm, cv, .int .i64 nx, rv], .agg #[iv, dv, uv]] w (AppQ n nm cl w) := by
  have HV := Lib.hid fun wx (k : Below w.heap.size w wx) => r7valid_any nm cv rv iv dv uv nx cl l li ld lu wx (hc.keep (.bel k)) (hr.keep (.bel k)) (by omega) (fun r hr => ⟨by rw [(hx r hr).1]; exact hn, (hx r hr).2⟩) hs hcs ⟨hch.ins.keep (.bel k), hch.del.keep (.bel k), hch.upd.keep (.bel k)⟩ hdl hdi hui
  have HFT := Lib.hid fun wx u x (k : Below w.heap.size w wx) hu hxx => r5fits_any (M := M) nm cv u cl x wx (hc.keep (.bel k)) hu hxx
  have HCP := Lib.hid fun wx (k : Below w.heap.size w wx) => r6copy_any nm cv rv nx cl l wx (hc.keep (.bel k)) (hr.keep (.bel k)) (by omega) hcl (fun r hr => by rw [(hx r hr).1]; exact hn)
  obtain ⟨h1, h2, h3⟩ := hch
  have HHS := Lib.hid fun wx (k : Below w.heap.size w wx) d => r7has_any dv d ld wx (h2.keep (.bel k))
  have HFD := Lib.hid fun wx (k : Below w.heap.size w wx) d => r7find_any uv d lu wx (h3.keep (.bel k))
  obtain ⟨ca, cc, rfl, hcm⟩ := hc.shape
  obtain ⟨a, cap, rfl, hm⟩ := hr.shape
  obtain ⟨ia, icap, rfl, him⟩ := h1.shape
  obtain ⟨da, dcap, rfl, hdm⟩ := h2.shape
  obtain ⟨ua, ucap, rfl, hum⟩ := h3.shape
  unfold maxLen at hm him hdm hum hcm
  have HL := Lib.hid fun j (hj : j < l.length) => rows_row hr hj
  have HI := Lib.hid fun j (hj : j < li.length) => rows_row h1 hj
  have HU := Lib.hid fun j (hj : j < lu.length) => rows_row h3 hj
  have HX := Lib.hid hx
  have HUW := Lib.hid huw
  have HIW := Lib.hid hiw
  have HCL := Lib.hid hcl
  obtain ⟨m, hmm⟩ : ∃ n, cl.length = n := ⟨_, rfl⟩
  obtain ⟨nr, hnr⟩ : ∃ n, l.length = n := ⟨_, rfl⟩
  obtain ⟨ni, hni⟩ : ∃ n, li.length = n := ⟨_, rfl⟩
  obtain ⟨nd, hnd⟩ : ∃ n, ld.length = n := ⟨_, rfl⟩
  obtain ⟨nu, hnu⟩ : ∃ n, lu.length = n := ⟨_, rfl⟩
  have HMM := Lib.hid hmm
  rw [hmm] at HV HFT HCP hcm ⊢
  rw [hnr] at HV HCP HL hm hl ⊢
  rw [hni] at HV HI him hil ⊢
  rw [hnd] at HV HHS hdm hdl ⊢
  rw [hnu] at HV HFD HU hum ⊢
  clear hr hc hx hs hcs h1 h2 h3 hdi hui huw hiw hcl hmm hnr hni hnd hnu
  have hP := (PB.start w).new #[.string nm, .slice ca m cc, .int .i64 nx, .slice a nr cap] 96
  have hP := hP.new' (g := w.heap.size + 1) (by simp) #[.slice ia ni icap, .slice da nd dcap, .slice ua nu ucap] 102
  have hP := hP.new' (g := w.heap.size + 2) (by simp) #[.string ⟨#[]⟩, .slice none 0 0, .int .i64 0, .slice none 0 0] 96
  go_enter Tryz.func29, Tryz.ntmps29
  go_upto_region 1 with fail
  generalize World.alloc (World.alloc (World.alloc w _) _) _ = W0 at hP ⊢
  have HT := Lib.hid fun (W' : World) (h : PB w W' [⟨w.heap.size + 2, #[.string ⟨#[]⟩, .slice none 0 0, .int .i64 0, .slice none 0 0], 96⟩, ⟨w.heap.size + 1, #[.slice ia ni icap, .slice da nd dcap, .slice ua nu ucap], 102⟩, ⟨w.heap.size, #[.string nm, .slice ca m cc, .int .i64 nx, .slice a nr cap], 96⟩]) => blk4 (h.blk (b := ⟨w.heap.size, _, _⟩) (List.mem_cons_of_mem _ (List.mem_cons_of_mem _ (List.mem_cons_self ..))))
  have HC := Lib.hid fun (W' : World) (h : PB w W' [⟨w.heap.size + 2, #[.string ⟨#[]⟩, .slice none 0 0, .int .i64 0, .slice none 0 0], 96⟩, ⟨w.heap.size + 1, #[.slice ia ni icap, .slice da nd dcap, .slice ua nu ucap], 102⟩, ⟨w.heap.size, #[.string nm, .slice ca m cc, .int .i64 nx, .slice a nr cap], 96⟩]) => blk3 (h.blk (b := ⟨w.heap.size + 1, _, _⟩) (List.mem_cons_of_mem _ (List.mem_cons_self ..)))
  have HR := Lib.hid fun (W' : World) (h : PB w W' [⟨w.heap.size + 2, #[.string ⟨#[]⟩, .slice none 0 0, .int .i64 0, .slice none 0 0], 96⟩, ⟨w.heap.size + 1, #[.slice ia ni icap, .slice da nd dcap, .slice ua nu ucap], 102⟩, ⟨w.heap.size, #[.string nm, .slice ca m cc, .int .i64 nx, .slice a nr cap], 96⟩]) => (let hb := h.blk (b := ⟨w.heap.size + 2, _, _⟩) (List.mem_cons_self ..); (And.intro (blk_fr hb 0) (And.intro (blk_fr hb 1) (blk4 hb))))
  have HP0 := Lib.hid hP
  clear hP
  obtain ⟨x0, x1, x2, x3, _, _, xz⟩ := HT.out W0 HP0.out
  obtain ⟨y0, y1, y2, _, _⟩ := HC.out W0 HP0.out
  go_wp2_with fail
  refine (HV.out W0 HP0.out.below).mono ?_
  rintro e w1 ⟨b1, rfl, hb⟩
  have HP1 := Lib.hid (HP0.out.bel hb)
  clear hb HP0 x0 x1 x2 x3 xz y0 y1 y2
  dsimp only
  cases b1 with
  | false =>
    obtain ⟨z00, z01, z0, z1, z2, z3, z02, z03, zz⟩ := HR.out _ (HP1.out.sub (by simp))
    go_wp2_with fail
    refine bodyPost_ret (v := .tuple #[.agg #[.string ⟨#[]⟩, .slice none 0 0, .int .i64 0, .slice none 0 0], .int .i64 17]) (by simp [results, Tryz.results29, go_sem, z0, z1, z2, z3]) rfl ?_
    exact app_bad HP1.out (tset4_keep ..) (by omega) (by omega)
  | true =>
    obtain ⟨y0, y1, y2, _, _⟩ := HC.out w1 HP1.out
    go_wp2_with fail
    go_loopw [28] (fun i wr => ∃ j : Nat, j ≤ nu ∧ i = .int .i64 (j : Int) ∧ PB w wr [⟨w.heap.size + 2, #[.string ⟨#[]⟩, .slice none 0 0, .int .i64 0, .slice none 0 0], 96⟩, ⟨w.heap.size + 1, #[.slice ia ni icap, .slice da nd dcap, .slice ua nu ucap], 102⟩, ⟨w.heap.size, #[.string nm, .slice ca m cc, .int .i64 nx, .slice a nr cap], 96⟩]) (fun i _ => nu - (intOf i).toNat)
    case atStart => exact ⟨0, Nat.zero_le _, rfl, HP1.out⟩
    case round =>
      rename World => wr
      obtain ⟨j, hj, rfl, hpb⟩ := hrel
      have HPR := Lib.hid hpb
      clear hpb y0 y1 y2 HP1
      obtain ⟨x0, x1, x2, x3, _, _, xz⟩ := HT.out wr HPR.out
      obtain ⟨y0, y1, y2, _, _⟩ := HC.out wr HPR.out
      by_cases hlt : j < nu
      · obtain ⟨q, b, o, cs, _, hqm, hua, hbz, ⟨v1, v2, rfl, hv1, hv2⟩, hcs, hcap, hcm'⟩ := HU.out j hlt
        unfold maxLen at hcm'
        subst hua
        obtain ⟨c0, c1, c2⟩ := CellsAt.c3 (hcs.keep (M := NoM) (.bel HPR.out.below) fun h => h)
        obtain ⟨qa, qc, rfl, _⟩ := hv1.shape
        obtain ⟨qa2, qc2, rfl, _⟩ := hv2.shape
        have HV2 := Lib.hid hv2
        have HVV := Lib.hid fun y hy => (i64R_valid ((HUW.out q hqm).2 y hy)).2.2
        clear hcs hv1 hv2 hqm
        have i0 : (0 : Int) ≤ (j : Int) := by omega
        have i1 : (j : Int) < (nu : Int) := by omega
        have HP2 := Lib.hid (HPR.out.alloc (.cells #[.int .i64 q.id, .slice qa q.old.length qc, .slice qa2 q.new.length qc2] 58))
        go_wp2_with fail
        refine (HFT.out _ _ q.new HP2.out.below (HV2.out.keep (.bel HP2.out.below)) HVV.out).mono ?_
        rintro e w3 ⟨z, rfl, hz0, hz1, hb⟩
        have HP3 := Lib.hid (HP2.out.bel hb)
        clear hb c0 c1 c2 x0 x1 x2 x3 xz y0 y1 y2
        dsimp only
        by_cases hz : z = 0
        · subst hz
          go_wp2_with fail
          go_roundw
          case rel => exact ⟨j + 1, by omega, by go_num, HP3.out⟩
          case measure => simp [intOf]; omega
        · have bz : (z != 0) = true := by simpa using hz
          obtain ⟨z00, z01, z0, z1, z2, z3, z02, z03, zz⟩ := HR.out _ (HP3.out.sub (by simp))
          go_wp2_with fail
          refine bodyPost_ret (v := .tuple #[.agg #[.string ⟨#[]⟩, .slice none 0 0, .int .i64 0, .slice none 0 0], .int .i64 z]) (by simp [results, Tryz.results29, go_sem, z0, z1, z2, z3]) rfl ?_
          exact app_bad HP3.out (tset4_keep ..) (by omega) hz
      · obtain rfl : nu = j := by omega
        go_wp2_with fail
        go_loopw [45] (fun i wx => ∃ j : Nat, j ≤ ni ∧ i = .int .i64 (j : Int) ∧ PB w wx [⟨w.heap.size + 2, #[.string ⟨#[]⟩, .slice none 0 0, .int .i64 0, .slice none 0 0], 96⟩, ⟨w.heap.size + 1, #[.slice ia ni icap, .slice da nd dcap, .slice ua nu ucap], 102⟩, ⟨w.heap.size, #[.string nm, .slice ca m cc, .int .i64 nx, .slice a nr cap], 96⟩]) (fun i _ => ni - (intOf i).toNat)
        case atStart => exact ⟨0, Nat.zero_le _, rfl, HPR.out⟩
        case round =>
          rename World => wx
          obtain ⟨j2, hj, rfl, hpb⟩ := hrel
          have HPX := Lib.hid hpb
          clear hpb x0 x1 x2 x3 xz y0 y1 y2 HPR
          obtain ⟨x0, x1, x2, x3, _, _, xz⟩ := HT.out wx HPX.out
          obtain ⟨y0, y1, y2, _, _⟩ := HC.out wx HPX.out
          by_cases hlt : j2 < ni
          · obtain ⟨q, b, o, cs, _, hqm, hia, hbz, ⟨v1, rfl, hv1⟩, hcs, hcap, hcm'⟩ := HI.out j2 hlt
            unfold maxLen at hcm'
            subst hia
            have c0 := (hcs.keep (M := NoM) (.bel HPX.out.below) fun h => h) 0 _ rfl
            simp only [Nat.mul_one, Nat.add_zero] at c0
            obtain ⟨qa, qc, rfl, _⟩ := hv1.shape
            have HV2 := Lib.hid hv1
            have HVV := Lib.hid fun y hy => (i64R_valid ((HIW.out q hqm).2 y hy)).2.2
            clear hcs hv1 hqm
            have i0 : (0 : Int) ≤ (j2 : Int) := by omega
            have i1 : (j2 : Int) < (ni : Int) := by omega
            go_wp2_with fail
            refine (HFT.out _ _ q HPX.out.below (HV2.out.keep (.bel HPX.out.below)) HVV.out).mono ?_
            rintro e w3 ⟨z, rfl, hz0, hz1, hb⟩
            have HP3 := Lib.hid (HPX.out.bel hb)
            clear hb c0 x0 x1 x2 x3 xz y0 y1 y2
            dsimp only
            by_cases hz : z = 0
            · subst hz
              go_wp2_with fail
              go_roundw
              case rel => exact ⟨j2 + 1, by omega, by go_num, HP3.out⟩
              case measure => simp [intOf]; omega
            · have bz : (z != 0) = true := by simpa using hz
              obtain ⟨z00, z01, z0, z1, z2, z3, z02, z03, zz⟩ := HR.out _ (HP3.out.sub (by simp))
              go_wp2_with fail
              refine bodyPost_ret (v := .tuple #[.agg #[.string ⟨#[]⟩, .slice none 0 0, .int .i64 0, .slice none 0 0], .int .i64 z]) (by simp [results, Tryz.results29, go_sem, z0, z1, z2, z3]) rfl ?_
              exact app_bad HP3.out (tset4_keep ..) (by omega) hz
          · obtain rfl : ni = j2 := by omega
            go_upto_region 17 with fail
            have HKT := Lib.hid fun (w' : World) (h : PB w w' [⟨w.heap.size + 2, #[.string ⟨#[]⟩, .slice none 0 0, .int .i64 0, .slice none 0 0], 96⟩, ⟨w.heap.size + 1, #[.slice ia ni icap, .slice da nd dcap, .slice ua nu ucap], 102⟩, ⟨w.heap.size, #[.string nm, .slice ca m cc, .int .i64 nx, .slice a nr cap], 96⟩]) => show w'.cell? ⟨w.heap.size, 0, none⟩ = some (.string nm) ∧ w'.cell? ⟨w.heap.size, 1, none⟩ = some (.slice ca m cc) ∧ w'.cell? ⟨w.heap.size, 2, none⟩ = some (.int .i64 nx) ∧ w'.cell? ⟨w.heap.size, 3, none⟩ = some (.slice a nr cap) from (HT.out w' h).elim fun a0 h => h.elim fun a1 h => h.elim fun a2 h => ⟨a0, a1, a2, h.1⟩
            have hz2 := HPX.out.blt (b := ⟨w.heap.size + 2, _, _⟩) (List.mem_cons_self ..)
            dsimp only at hz2
            go_cut [12] (fun v wy => ∃ (gq : Nat) (ca2 : Option Addr) (cc2 : Nat), v = .pointer (some ⟨gq, 0, none⟩) ∧ w.heap.size + 2 < gq ∧ PB w wy (⟨gq, #[.string nm, .slice ca2 m cc2, .int .i64 nx, .slice none 0 0], 96⟩ :: [⟨w.heap.size + 2, #[.string ⟨#[]⟩, .slice none 0 0, .int .i64 0, .slice none 0 0], 96⟩, ⟨w.heap.size + 1, #[.slice ia ni icap, .slice da nd dcap, .slice ua nu ucap], 102⟩, ⟨w.heap.size, #[.string nm, .slice ca m cc, .int .i64 nx, .slice a nr cap], 96⟩]) ∧ ColsR (fun k => k < w.heap.size + 3 ∨ k = gq) wy (.slice ca2 m cc2) cl)
            case first =>
              have tok1 : Hid True := Lib.hid trivial
              have hfld := run_fieldT
              go_region_held3 (fun w' => w'.cell? ⟨w.heap.size, 0, none⟩ = some (.string nm) ∧ w'.cell? ⟨w.heap.size, 1, none⟩ = some (.slice ca m cc) ∧ w'.cell? ⟨w.heap.size, 2, none⟩ = some (.int .i64 nx) ∧ w'.cell? ⟨w.heap.size, 3, none⟩ = some (.slice a nr cap))
                (first | with_reducible exact HKT.out _ HPX.out.drew | with_reducible exact HKT.out _ (HPX.out.drew.alloc _) | with_reducible exact HKT.out _ (HP5.out.sub (by simp)) | with_reducible exact HKT.out _ ((HP5.out.alloc _).sub (by simp)) | with_reducible exact HKT.out _ (((HP5.out.new _ _).fill4 (by simp; omega) _ _ _ _).sub (by simp)) | with_reducible exact HKT.out _ ((HP5.out.fill4 (by simp; omega) _ _ _ _).sub (by simp)) | go_keep)
                ((go_at_call 62; have _t := tok1; go_loud (refine (HCP.out _ (by first | exact HPX.out.drew.below | exact (HPX.out.drew.alloc _).below)).mono ?_; rintro e w5 ⟨ca2, cc2, ra2, rn2, rc2, he, hcc, hb⟩; rw [HMM.out] at he hcc; subst he; have HP5 := Lib.hid (by first | exact (HPX.out.drew.bel hb) | exact ((HPX.out.drew.new' (g := wx.heap.size) rfl #[.string ⟨#[]⟩, .slice none 0 0, .int .i64 0, .slice none 0 0] 96).bel hb)); have HCC := Lib.hid hcc; have hz5 : wx.heap.size ≤ w5.heap.size := Nat.le_trans (by simp) hb.size; (first | (have hfq := blk_fr (HP5.out.blk (b := ⟨wx.heap.size, _, _⟩) (List.mem_cons_self ..)); have f0 := hfq 0; have f1 := hfq 1; have f2 := hfq 2; have f3 := hfq 3; have fz := HP5.out.blt (b := ⟨wx.heap.size, _, _⟩) (List.mem_cons_self ..); obtain ⟨k0, k1, k2, k3, _⟩ := blk4 (HP5.out.blk (b := ⟨wx.heap.size, _, _⟩) (List.mem_cons_self ..)); clear hfq) | (have hfq := blk_fr (heap_alloc_new w5 (.cells #[.string ⟨#[]⟩, .slice none 0 0, .int .i64 0, .slice none 0 0] 96)); have f0 := hfq 0; have f1 := hfq 1; have f2 := hfq 2; have f3 := hfq 3; obtain ⟨k0, k1, k2, k3, _⟩ := blk4 (heap_alloc_new w5 (.cells #[.string ⟨#[]⟩, .slice none 0 0, .int .i64 0, .slice none 0 0] 96)); clear hfq)); clear hcc hb tok1 _t)))
              · go_wp2_with fail
                go_meet
                have hh := HP5.out.new #[.string nm, .slice ca2 m cc2, .int .i64 nx, .slice none 0 0] 96
                have q1 := HCC.out.weak (M' := fun k => k < w.heap.size + 3 ∨ k = w5.heap.size) fun k hk h => (by show k < wx.heap.size; omega)
                exact ⟨w5.heap.size, ca2, cc2, rfl, by omega, hh, q1.keep ((Keep.refl _ w5).alloc _)⟩
              · go_wp2_with fail
                go_meet
                have hh := HP5.out.fill4 (by simp; omega) (.string nm) (.slice ca2 m cc2) (.int .i64 nx) (.slice none 0 0)
                have q1 := HCC.out.weak (M' := fun k => k < w.heap.size + 3 ∨ k = wx.heap.size) fun k hk h => (by show k < (World.alloc wx.drew _).heap.size; simp; omega)
                exact ⟨wx.heap.size, ca2, cc2, rfl, by omega, hh, q1.keep ((tset4_keep _ wx.heap.size _ _ _ _).weak fun k _ h => .inr h)⟩
            case rest =>
              obtain ⟨gq, ca2, cc2, rfl, hgq, hpq, hcq⟩ := hcut
              rename World => wy
              have HPQ := Lib.hid hpq
              have HCQ := Lib.hid hcq
              have hgy := hpq.blt (List.mem_cons_self ..)
              dsimp only at hgy
              clear hpq hcq x0 x1 x2 x3 xz y0 y1 y2 HPX HKT
              have HT4 := Lib.hid fun (W' : World) (c d : Value) (h : PB w W' (⟨gq, #[.string nm, .slice ca2 m cc2, c, d], 96⟩ :: [⟨w.heap.size + 2, #[.string ⟨#[]⟩, .slice none 0 0, .int .i64 0, .slice none 0 0], 96⟩, ⟨w.heap.size + 1, #[.slice ia ni icap, .slice da nd dcap, .slice ua nu ucap], 102⟩, ⟨w.heap.size, #[.string nm, .slice ca m cc, .int .i64 nx, .slice a nr cap], 96⟩])) => HT.out W' (h.sub fun b hb => List.mem_cons_of_mem _ hb)
              have HC4 := Lib.hid fun (W' : World) (c d : Value) (h : PB w W' (⟨gq, #[.string nm, .slice ca2 m cc2, c, d], 96⟩ :: [⟨w.heap.size + 2, #[.string ⟨#[]⟩, .slice none 0 0, .int .i64 0, .slice none 0 0], 96⟩, ⟨w.heap.size + 1, #[.slice ia ni icap, .slice da nd dcap, .slice ua nu ucap], 102⟩, ⟨w.heap.size, #[.string nm, .slice ca m cc, .int .i64 nx, .slice a nr cap], 96⟩])) => HC.out W' (h.sub fun b hb => List.mem_cons_of_mem _ hb)
              obtain ⟨x0, x1, x2, x3, _, _, xz⟩ := HT4.out wy _ _ HPQ.out
              go_wp2_with fail
              go_loopw [67] (fun i wz => ∃ (j : Nat) (ov : Value) (lo : List (Int × List Val)), j ≤ nr ∧ i = .int .i64 (j : Int) ∧ PB w wz (⟨gq, #[.string nm, .slice ca2 m cc2, .int .i64 nx, ov], 96⟩ :: [⟨w.heap.size + 2, #[.string ⟨#[]⟩, .slice none 0 0, .int .i64 0, .slice none 0 0], 96⟩, ⟨w.heap.size + 1, #[.slice ia ni icap, .slice da nd dcap, .slice ua nu ucap], 102⟩, ⟨w.heap.size, #[.string nm, .slice ca m cc, .int .i64 nx, .slice a nr cap], 96⟩]) ∧ Keep (At gq) wy wz ∧ RowsG wy.heap.size wz 139 2 TrR ov lo ∧ lo.length ≤ j ∧ ∀ r ∈ lo, r.2.length = n ∧ ∀ y ∈ r.2, ValidVal y) (fun i _ => nr - (intOf i).toNat)
              case atStart => exact ⟨0, _, [], Nat.zero_le _, rfl, HPQ.out, .refl _ _, RowsG.nil .., Nat.zero_le _, fun r hr => by cases hr⟩
              case round =>
                rename World => wz
                obtain ⟨j3, ov, lo, hj3, rfl, hpb, hkp, hg2, hlo, hwd⟩ := hrel
                obtain ⟨oa, oc, rfl, _⟩ := hg2.shape
                have HPZ := Lib.hid hpb
                have HKZ := Lib.hid hkp
                have HGZ := Lib.hid hg2
                have HWD := Lib.hid hwd
                have HOZ := Lib.hid fun k (h : OwnB (.slice oa lo.length oc) k) => (show wy.heap.size ≤ k ∧ k < wz.heap.size from RowsO.lt hg2 h)
                have hzz := hkp.size
                clear hpb hkp hg2 hwd x0 x1 x2 x3 xz
                by_cases hlt3 : j3 < nr
                · obtain ⟨r, b, o, cs, _, hrm, hra, hbz, ⟨v, rfl, hvr⟩, hcs, hcap, hcm'⟩ := HL.out j3 hlt3
                  unfold maxLen at hcm'
                  subst hra
                  obtain ⟨c0, c1⟩ := CellsAt.c2 (hcs.keep (M := NoM) (.bel HPZ.out.below) fun h => h)
                  obtain ⟨hlen, hval⟩ := HX.out r hrm
                  obtain ⟨ra, rc, hv', _⟩ := hvr.shape
                  rw [hlen] at hv'
                  subst hv'
                  have HVR := Lib.hid hvr
                  have HLEN := Lib.hid hlen
                  have HVAL := Lib.hid hval
                  clear hcs hrm hvr hlen hval
                  have i0 : (0 : Int) ≤ (j3 : Int) := by omega
                  have i1 : (j3 : Int) < (nr : Int) := by omega
                  have hP := HPZ.out.new #[.int .i64 r.1, .slice ra n rc] 139
                  have hQ : Below wz.heap.size wz (wz.alloc (.cells #[.int .i64 r.1, .slice ra n rc] 139)) := (Below.refl _ _).alloc (Nat.le_refl _) _
                  go_upto_region 21 with fail
                  generalize hp : wz.heap.size = p at hP hQ ⊢
                  generalize World.alloc wz _ = W5 at hP hQ ⊢
                  have hpw : wz.heap.size ≤ p := by omega
                  rw [← hp] at hQ
                  clear hp c0 c1
                  have HP5 := Lib.hid hP
                  have HG5 := Lib.hid (HGZ.out.bel trStable hQ)
                  have HK5 := Lib.hid (HKZ.out.below hQ)
                  have hz5 := HP5.out.blt (b := ⟨p, _, _⟩) (List.mem_cons_self ..)
                  dsimp only at hz5
                  have hgp : gq < p := by omega
                  clear hP hQ
                  obtain ⟨e0, e1, _⟩ := blk2 (HP5.out.blk (b := ⟨p, _, _⟩) (List.mem_cons_self ..))
                  obtain ⟨y0, y1, y2, _, _⟩ := HC4.out W5 _ _ (HP5.out.sub fun b hb => List.mem_cons_of_mem _ hb)
                  go_wp2_with fail
                  refine (HHS.out W5 HP5.out.below r.1).mono ?_
                  rintro e w6 ⟨b6, rfl, hb⟩
                  have HP6 := Lib.hid (HP5.out.bel hb)
                  have HG6 := Lib.hid (HG5.out.bel trStable hb)
                  have HK6 := Lib.hid (HK5.out.below hb)
                  have hz6 := hb.size
                  clear hb e0 e1 y0 y1 y2 HG5 HK5
                  dsimp only
                  cases b6 with
                  | true =>
                    go_wp2_with fail
                    go_roundw
                    case rel => exact ⟨j3 + 1, _, lo, by omega, by go_num, HP6.out.sub (by simp), HK6.out, HG6.out, by omega, HWD.out⟩
                    case measure => simp [intOf]; omega
                  | false =>
                    obtain ⟨e0, e1, _⟩ := blk2 (HP6.out.blk (b := ⟨p, _, _⟩) (List.mem_cons_self ..))
                    obtain ⟨y0, y1, y2, _, _⟩ := HC4.out w6 _ _ (HP6.out.sub fun b hb => List.mem_cons_of_mem _ hb)
                    go_wp2_with fail
                    refine (HFD.out w6 HP6.out.below r.1).mono ?_
                    rintro e w7 ⟨fv, fb, rfl, hfd, ⟨fa, fn, fc, rfl⟩, hb⟩
                    have HP7 := Lib.hid (HP6.out.bel hb)
                    have HG7 := Lib.hid (HG6.out.bel trStable hb)
                    have HK7 := Lib.hid (HK6.out.below hb)
                    have hz7 := hb.size
                    have HFD7 := Lib.hid fun (h : fb = true) => (let ⟨q, hq, hv⟩ := hfd h; (⟨q, hq, hv.keep (.bel hb)⟩ : ∃ q ∈ lu, ValsR M w7 (.slice fa fn fc) q.new))
                    clear hb hfd e0 e1 y0 y1 y2 HG6 HK6
                    dsimp only
                    go_upto_if 86 with fail
                    go_cut [15] (fun v wc => ∃ (va : Option Addr) (vc : Nat) (x : List Val), v = .slice va n vc ∧ wc = w7 ∧ ValsR M w7 (.slice va n vc) x ∧ x.length = n ∧ ∀ y ∈ x, ValidVal y)
                    case first =>
                      cases fb with
                      | true =>
                        obtain ⟨q, hq, hvq⟩ := HFD7.out rfl
                        obtain ⟨hql, hqv⟩ := HUW.out q hq
                        obtain ⟨_, _, hsh, _⟩ := hvq.shape
                        have hfn : fn = n := by
                          simp only [Value.slice.injEq] at hsh
                          omega
                        subst hfn
                        have HVQ := Lib.hid hvq
                        have HQV := Lib.hid hqv
                        clear hvq hqv hsh hq
                        go_wp2_with fail
                        go_meet
                        exact ⟨fa, fc, q.new, rfl, rfl, HVQ.out, hql, HQV.out⟩
                      | false =>
                        go_wp2_with fail
                        go_meet
                        exact ⟨ra, rc, r.2, rfl, rfl, HVR.out.keep (.bel HP7.out.below), HLEN.out, HVAL.out⟩
                    case rest =>
                      obtain ⟨va, vc, x, rfl, rfl, hvx, hxl, hxv⟩ := hcut
                      have HVX := Lib.hid hvx
                      have HXL := Lib.hid hxl
                      have HXV := Lib.hid hxv
                      clear hvx hxl hxv
                      go_upto_region 26 with fail
                      have HKS := Lib.hid fun (w' : World) (h : PB w w' [⟨p, #[.int .i64 r.1, .slice ra n rc], 139⟩, ⟨gq, #[.string nm, .slice ca2 m cc2, .int .i64 nx, .slice oa lo.length oc], 96⟩]) => show w'.cell? ⟨gq, 3, none⟩ = some (.slice oa lo.length oc) ∧ w'.cell? ⟨p, 0, none⟩ = some (.int .i64 r.1) from
                        ⟨(blk4 (h.blk (b := ⟨gq, _, _⟩) (List.mem_cons_of_mem _ (List.mem_cons_self ..)))).2.2.2.1, (blk2 (h.blk (b := ⟨p, _, _⟩) (List.mem_cons_self ..))).1⟩
                      refine wp_regionW 10 (fun w' => w'.cell? ⟨gq, 3, none⟩ = some (.slice oa lo.length oc) ∧ w'.cell? ⟨p, 0, none⟩ = some (.int .i64 r.1)) (by kernel_rfl) ?_
                      refine wpAnyW_take (i := 0) (oi := _) (v := ?_) rfl (by kernel_rfl) (fun _ _ _ h => h) (.inl ⟨by kernel_rfl, fun wh hwh => by (try dsimp only at hwh); obtain ⟨g0, g1⟩ := hwh; first | (simp [execOp, go_sem]; done) | (simp [execOp, go_sem]; with_reducible rfl)⟩) (HKS.out _ (HP7.out.drew.sub (by simp))) ?_
                      (try simp only [Act.put, List.getElem_toArray, List.getElem_cons_zero, List.setIfInBounds_toArray, List.set_cons_zero, List.set_cons_succ])
                      refine wpAnyW_take (i := 1) (oi := _) (v := ?_) rfl (by kernel_rfl) (fun _ _ _ h => h) (.inl ⟨by kernel_rfl, fun wh hwh => by (try dsimp only at hwh); obtain ⟨g0, g1⟩ := hwh; first | (simp [execOp, go_sem, g0]; done) | (simp [execOp, go_sem, g0]; with_reducible rfl)⟩) (HKS.out _ (HP7.out.drew.sub (by simp))) ?_
                      (try simp only [Act.put, List.getElem_toArray, List.getElem_cons_succ, List.getElem_cons_zero, List.setIfInBounds_toArray, List.set_cons_zero, List.set_cons_succ])
                      refine wpAnyW_take (i := 2) (oi := _) (v := ?_) rfl (by kernel_rfl) (fun _ _ _ h => h) (.inl ⟨by kernel_rfl, fun wh hwh => by (try dsimp only at hwh); obtain ⟨g0, g1⟩ := hwh; first | (simp [execOp, go_sem]; done) | (simp [execOp, go_sem]; with_reducible rfl)⟩) (HKS.out _ (HP7.out.drew.sub (by simp))) ?_
                      (try simp only [Act.put, List.getElem_toArray, List.getElem_cons_succ, List.getElem_cons_zero, List.setIfInBounds_toArray, List.set_cons_zero, List.set_cons_succ])
                      refine wpAnyW_take (i := 3) (oi := _) (v := ?_) rfl (by kernel_rfl) (fun _ _ _ h => h) (.inl ⟨by kernel_rfl, fun wh hwh => by (try dsimp only at hwh); obtain ⟨g0, g1⟩ := hwh; first | (simp [execOp, go_sem, g1]; done) | (simp [execOp, go_sem, g1]; with_reducible rfl)⟩) (HKS.out _ (HP7.out.drew.sub (by simp))) ?_
                      (try simp only [Act.put, List.getElem_toArray, List.getElem_cons_succ, List.getElem_cons_zero, List.setIfInBounds_toArray, List.set_cons_zero, List.set_cons_succ])
                      refine wpAnyW_take (i := 4) (oi := _) (v := ?_) rfl (by kernel_rfl) (fun _ _ _ h => h) (.inl ⟨by kernel_rfl, fun wh hwh => by (try dsimp only at hwh); obtain ⟨g0, g1⟩ := hwh; first | (simp [execOp, go_sem]; done) | (simp [execOp, go_sem]; with_reducible rfl)⟩) (HKS.out _ (HP7.out.drew.sub (by simp))) ?_
                      (try simp only [Act.put, List.getElem_toArray, List.getElem_cons_succ, List.getElem_cons_zero, List.setIfInBounds_toArray, List.set_cons_zero, List.set_cons_succ])
                      refine wpAnyW_one (i := 5) (o := _) (by kernel_rfl) rfl (fun K hK => ?_)
                      go_simp
                      refine (rcopy_any _ x _ (HVX.out.keep (.bel (drew_below (Below.refl _ _)))) (by rw [HXL.out]; exact hn)).mono ?_
                      rintro e w8 ⟨v8, rfl, ho, hb⟩
                      have HO8 : Hid (RowsO wc.heap.size w8 26 3 ValR v8 x) := Lib.hid ho
                      have HP8 := Lib.hid (HP7.out.drew.bel hb)
                      have hb8 : Below wc.heap.size wc w8 := Below.trans (drew_below (Below.refl _ _)) hb
                      have HG8 := Lib.hid (HG7.out.bel trStable hb8)
                      have HK8 := Lib.hid (HK7.out.below hb8)
                      have hz8 := hb8.size
                      obtain ⟨a8, c8, hv8, _⟩ := ho.shape
                      rw [HXL.out] at hv8
                      subst hv8
                      have HY8 : Hid (TrR (OldOr wy.heap.size (.slice oa lo.length oc)) w8 (r.1, x) [.int .i64 r.1, .slice a8 n c8]) := Lib.hid ⟨_, rfl, HO8.out.rows fun k h1 h2 hA => (by rcases hA with hA | hA; omega; have := HOZ.out k hA; omega)⟩
                      clear ho hb hb8
                      refine hK.out _ _ (.inr (HKS.out _ (HP8.out.sub (by simp)))) ?_
                      clear hK K
                      (try simp only [Act.put, List.getElem_toArray, List.getElem_cons_succ, List.getElem_cons_zero, List.setIfInBounds_toArray, List.set_cons_zero, List.set_cons_succ])
                      refine wpAnyW_take (i := 6) (oi := _) (v := ?_) rfl (by kernel_rfl) (fun _ _ _ h => h) (.inl ⟨by kernel_rfl, fun wh hwh => by (try dsimp only at hwh); obtain ⟨g0, g1⟩ := hwh; first | (simp [execOp, go_sem]; done) | (simp [execOp, go_sem]; with_reducible rfl)⟩) (HKS.out _ (HP8.out.sub (by simp))) ?_
                      (try simp only [Act.put, List.getElem_toArray, List.getElem_cons_succ, List.getElem_cons_zero, List.setIfInBounds_toArray, List.set_cons_zero, List.set_cons_succ])
                      refine wpAnyW_one (i := 7) (o := _) (by kernel_rfl) rfl (fun K hK => ?_)
                      go_simp
                      refine hK.out _ _ (.inr (HKS.out _ ((HP8.out.alloc _).sub (by simp)))) ?_
                      clear hK K
                      (try simp only [Act.put, List.getElem_toArray, List.getElem_cons_succ, List.getElem_cons_zero, List.setIfInBounds_toArray, List.set_cons_zero, List.set_cons_succ])
                      refine wpAnyW_one (i := 8) (o := _) (by kernel_rfl) rfl (fun K hK => ?_)
                      refine step_appG (w := w8) trStable (by rfl) _ _ _ (by rfl) 139 _ 2 32 Tryz.underlying44 infoTrw (by rfl) (by decide) wy.heap.size (.slice oa lo.length oc) w8.heap.size #[.int .i64 r.1, .slice a8 n c8] lo (r.1, x) (by rfl) (by rfl) (by rfl) HG8.out (by rfl) HY8.out (by omega) (by unfold maxLen; omega) (by omega) ?_
                      intro v9 w9 hg9 hk
                      have HG9 := Lib.hid hg9
                      have HP9 := Lib.hid (HP8.out.then hk (fun i hi hO => (by have := (HOZ.out i hO).1; have := HPQ.out.size; omega)) (fun b hb hO => (by have h0 := HOZ.out _ hO; simp only [List.mem_cons, List.not_mem_nil, or_false] at hb; rcases hb with rfl | rfl | rfl | rfl | rfl <;> dsimp only at h0 <;> omega)))
                      obtain ⟨a9, c9, hv9, _⟩ := hg9.shape
                      simp only [List.length_append, List.length_singleton] at hv9
                      subst hv9
                      have HK9 := Lib.hid (HK8.out.then hk fun i hi hO => absurd (HOZ.out i hO).1 (by omega))
                      have hdb := HP9.out.blk (b := ⟨gq, _, _⟩) (List.mem_cons_of_mem _ (List.mem_cons_self ..))
                      dsimp only at hdb
                      have HDB := Lib.hid hdb
                      obtain ⟨d40, d41, d42, d43, f42, f43, dz4⟩ := blk4 hdb
                      clear hg9 hk hdb
                      refine hK.out _ _ (.inr (HKS.out _ (HP9.out.sub (by simp)))) ?_
                      clear hK K
                      (try simp only [Act.put, List.getElem_toArray, List.getElem_cons_succ, List.getElem_cons_zero, List.setIfInBounds_toArray, List.set_cons_zero, List.set_cons_succ])
                      refine wpAnyW_take (i := 9) (oi := _) (v := ?_) rfl (by kernel_rfl) (fun _ _ _ h => h) (.inl ⟨by kernel_rfl, fun wh hwh => by (try dsimp only at hwh); obtain ⟨g0, g1⟩ := hwh; first | (simp [execOp, go_sem]; done) | (simp [execOp, go_sem]; with_reducible rfl)⟩) (HKS.out _ (HP9.out.sub (by simp))) ?_
                      (try simp only [Act.put, List.getElem_toArray, List.getElem_cons_succ, List.getElem_cons_zero, List.setIfInBounds_toArray, List.set_cons_zero, List.set_cons_succ])
                      refine wpAnyW_one (i := 10) (o := _) (by kernel_rfl) rfl (fun K hK => ?_)
                      go_simp
                      refine hK.out _ _ (.inl (by kernel_rfl)) ?_
                      clear hK K
                      (try simp only [Act.put, List.getElem_toArray, List.getElem_cons_succ, List.getElem_cons_zero, List.setIfInBounds_toArray, List.set_cons_zero, List.set_cons_succ])
                      refine wpAnyW_done (by kernel_rfl) ?_ _
                      go_wp2_with fail
                      go_roundw
                      case rel =>
                        refine ⟨j3 + 1, _, lo ++ [(r.1, x)], by omega, by go_num, (HP9.out.swap.put 3 _ (blk4_set3 HDB.out) (by simp; omega)).sub (by simp), HK9.out.setCell (p := ⟨gq, 3, none⟩) (fun _ => rfl) _, HG9.out.keep trStable ((Keep.refl (At gq) w9).setCell (p := ⟨gq, 3, none⟩) (fun _ => rfl) _) (fun k h1 _ h => by unfold At at h; omega), by simp; omega, fun q hq => ?_⟩
                        rcases List.mem_append.1 hq with hq | hq
                        · exact HWD.out q hq
                        · simp only [List.mem_cons, List.not_mem_nil, or_false] at hq
                          subst hq
                          exact ⟨HXL.out, HXV.out⟩
                      case measure => simp [intOf]; omega
                · obtain rfl : nr = j3 := by omega
                  obtain ⟨y0, y1, y2, _, _⟩ := HC4.out wz _ _ HPZ.out
                  obtain ⟨x0, x1, x2, x3, _, _, xz⟩ := HT4.out wz _ _ HPZ.out
                  have hdb := HPZ.out.blk (b := ⟨gq, _, _⟩) (List.mem_cons_self ..)
                  dsimp only at hdb
                  obtain ⟨d0, d1, d2, d3, f2, f3, dz⟩ := blk4 hdb
                  clear hdb
                  have hw1 : IntKind.i64.wrap ((lo.length : Int) + (ni : Int)) = (lo.length : Int) + (ni : Int) := IntWalk.i64_in _ (by omega)
                  have hw2 : IntKind.i64.wrap (2147483648 - nx) = 2147483648 - nx := IntWalk.i64_in _ (by omega)
                  have p2 : ¬ 2147483648 - nx < (ni : Int) := by omega
                  by_cases p1 : (100 : Int) < (lo.length : Int) + (ni : Int)
                  · skip
                    obtain ⟨z00, z01, z0, z1, z2, z3, z02, z03, zz⟩ := HR.out _ (HPZ.out.sub (by simp))
                    go_wp2_with fail
                    refine bodyPost_ret (v := .tuple #[.agg #[.string ⟨#[]⟩, .slice none 0 0, .int .i64 0, .slice none 0 0], .int .i64 10]) (by simp [results, Tryz.results29, go_sem, z0, z1, z2, z3]) rfl ?_
                    exact app_bad HPZ.out (tset4_keep ..) (by omega) (by omega)
                  · go_wp2_with fail
                    go_loopw [120] (fun i wq => ∃ (j : Nat) (xn : Int) (ov : Value) (lo2 : List (Int × List Val)), j ≤ ni ∧ i = .int .i64 (j : Int) ∧ nx ≤ xn ∧ xn ≤ nx + (j : Int) ∧ PB w wq (⟨gq, #[.string nm, .slice ca2 m cc2, .int .i64 xn, ov], 96⟩ :: [⟨w.heap.size + 2, #[.string ⟨#[]⟩, .slice none 0 0, .int .i64 0, .slice none 0 0], 96⟩, ⟨w.heap.size + 1, #[.slice ia ni icap, .slice da nd dcap, .slice ua nu ucap], 102⟩, ⟨w.heap.size, #[.string nm, .slice ca m cc, .int .i64 nx, .slice a nr cap], 96⟩]) ∧ Keep (At gq) wy wq ∧ RowsG wy.heap.size wq 139 2 TrR ov lo2 ∧ lo2.length ≤ 100 + j ∧ ∀ r ∈ lo2, r.2.length = n ∧ ∀ y ∈ r.2, ValidVal y) (fun i _ => ni - (intOf i).toNat)
                    case atStart => exact ⟨0, nx, _, lo, Nat.zero_le _, rfl, Int.le_refl _, by omega, HPZ.out, HKZ.out, HGZ.out, by omega, HWD.out⟩
                    case round =>
                      rename World => wq
                      clear HWD HGZ HPZ HKZ HOZ hw1 hw2 x0 x1 x2 x3 xz y0 y1 y2 d0 d1 d2 d3 f2 f3 dz hlo hj3 hzz p1 p2 hlt3
                      obtain ⟨j4, xn, ov, lo, hj4, rfl, hx0, hx1, hpb, hkp, hg2, hl2, hw3⟩ := hrel
                      obtain ⟨oa, oc, rfl, _⟩ := hg2.shape
                      have HP7 := Lib.hid hpb
                      have HK7 := Lib.hid hkp
                      have HG7 := Lib.hid hg2
                      have HWD := Lib.hid hw3
                      have HOZ := Lib.hid fun k (h : OwnB (.slice oa lo.length oc) k) => (show wy.heap.size ≤ k ∧ k < wq.heap.size from RowsO.lt hg2 h)
                      have hzz := hkp.size
                      clear hpb hkp hg2 hw3
                      by_cases hlt4 : j4 < ni
                      · obtain ⟨q, b, o, cs, _, hqm, hia, hbz, ⟨v1, rfl, hv1⟩, hcs, hcap, hcm'⟩ := HI.out j4 hlt4
                        unfold maxLen at hcm'
                        subst hia
                        have c0 := (hcs.keep (M := NoM) (.bel HP7.out.below) fun h => h) 0 _ rfl
                        simp only [Nat.mul_one, Nat.add_zero] at c0
                        obtain ⟨hql, hqv⟩ := HIW.out q hqm
                        obtain ⟨qa, qc, hv', _⟩ := hv1.shape
                        rw [hql] at hv'
                        subst hv'
                        have HVX := Lib.hid (hv1.keep (.bel HP7.out.below))
                        have HXL := Lib.hid hql
                        have HXV := Lib.hid hqv
                        clear hcs hv1 hqm hql hqv
                        generalize q = x at HVX HXL HXV c0
                        have i0 : (0 : Int) ≤ (j4 : Int) := by omega
                        have i1 : (j4 : Int) < (ni : Int) := by omega
                        have hwx : IntKind.i64.wrap (xn + 1) = xn + 1 := IntWalk.i64_in _ (by omega)
                        go_upto_region 33 with fail
                        clear c0
                        have HKS := Lib.hid fun (w' : World) (h : PB w w' [⟨gq, #[.string nm, .slice ca2 m cc2, .int .i64 xn, .slice oa lo.length oc], 96⟩]) => show w'.cell? ⟨gq, 3, none⟩ = some (.slice oa lo.length oc) ∧ w'.cell? ⟨gq, 2, none⟩ = some (.int .i64 xn) from
                          ⟨(blk4 (h.blk (b := ⟨gq, _, _⟩) (List.mem_cons_self ..))).2.2.2.1, (blk4 (h.blk (b := ⟨gq, _, _⟩) (List.mem_cons_self ..))).2.2.1⟩
                        refine wp_regionW 10 (fun w' => w'.cell? ⟨gq, 3, none⟩ = some (.slice oa lo.length oc) ∧ w'.cell? ⟨gq, 2, none⟩ = some (.int .i64 xn)) (by kernel_rfl) ?_
                        refine wpAnyW_take (i := 0) (oi := _) (v := ?_) rfl (by kernel_rfl) (fun _ _ _ h => h) (.inl ⟨by kernel_rfl, fun wh hwh => by (try dsimp only at hwh); obtain ⟨g0, g1⟩ := hwh; first | (simp [execOp, go_sem]; done) | (simp [execOp, go_sem]; with_reducible rfl)⟩) (HKS.out _ (HP7.out.drew.sub (by simp))) ?_
                        (try simp only [Act.put, List.getElem_toArray, List.getElem_cons_zero, List.setIfInBounds_toArray, List.set_cons_zero, List.set_cons_succ])
                        refine wpAnyW_take (i := 1) (oi := _) (v := ?_) rfl (by kernel_rfl) (fun _ _ _ h => h) (.inl ⟨by kernel_rfl, fun wh hwh => by (try dsimp only at hwh); obtain ⟨g0, g1⟩ := hwh; first | (simp [execOp, go_sem, g0]; done) | (simp [execOp, go_sem, g0]; with_reducible rfl)⟩) (HKS.out _ (HP7.out.drew.sub (by simp))) ?_
                        (try simp only [Act.put, List.getElem_toArray, List.getElem_cons_succ, List.getElem_cons_zero, List.setIfInBounds_toArray, List.set_cons_zero, List.set_cons_succ])
                        refine wpAnyW_take (i := 2) (oi := _) (v := ?_) rfl (by kernel_rfl) (fun _ _ _ h => h) (.inl ⟨by kernel_rfl, fun wh hwh => by (try dsimp only at hwh); obtain ⟨g0, g1⟩ := hwh; first | (simp [execOp, go_sem]; done) | (simp [execOp, go_sem]; with_reducible rfl)⟩) (HKS.out _ (HP7.out.drew.sub (by simp))) ?_
                        (try simp only [Act.put, List.getElem_toArray, List.getElem_cons_succ, List.getElem_cons_zero, List.setIfInBounds_toArray, List.set_cons_zero, List.set_cons_succ])
                        refine wpAnyW_take (i := 3) (oi := _) (v := ?_) rfl (by kernel_rfl) (fun _ _ _ h => h) (.inl ⟨by kernel_rfl, fun wh hwh => by (try dsimp only at hwh); obtain ⟨g0, g1⟩ := hwh; first | (simp [execOp, go_sem, g1]; done) | (simp [execOp, go_sem, g1]; with_reducible rfl)⟩) (HKS.out _ (HP7.out.drew.sub (by simp))) ?_
                        (try simp only [Act.put, List.getElem_toArray, List.getElem_cons_succ, List.getElem_cons_zero, List.setIfInBounds_toArray, List.set_cons_zero, List.set_cons_succ])
                        refine wpAnyW_take (i := 4) (oi := _) (v := ?_) rfl (by kernel_rfl) (fun _ _ _ h => h) (.inl ⟨by kernel_rfl, fun wh hwh => by (try dsimp only at hwh); obtain ⟨g0, g1⟩ := hwh; first | (simp [execOp, go_sem]; done) | (simp [execOp, go_sem]; with_reducible rfl)⟩) (HKS.out _ (HP7.out.drew.sub (by simp))) ?_
                        (try simp only [Act.put, List.getElem_toArray, List.getElem_cons_succ, List.getElem_cons_zero, List.setIfInBounds_toArray, List.set_cons_zero, List.set_cons_succ])
                        refine wpAnyW_one (i := 5) (o := _) (by kernel_rfl) rfl (fun K hK => ?_)
                        go_simp
                        refine (rcopy_any _ x _ (HVX.out.keep (.bel (drew_below (Below.refl _ _)))) (by rw [HXL.out]; exact hn)).mono ?_
                        rintro e w8 ⟨v8, rfl, ho, hb⟩
                        have HO8 : Hid (RowsO wq.heap.size w8 26 3 ValR v8 x) := Lib.hid ho
                        have HP8 := Lib.hid (HP7.out.drew.bel hb)
                        have hb8 : Below wq.heap.size wq w8 := Below.trans (drew_below (Below.refl _ _)) hb
                        have HG8 := Lib.hid (HG7.out.bel trStable hb8)
                        have HK8 := Lib.hid (HK7.out.below hb8)
                        have hz8 := hb8.size
                        obtain ⟨a8, c8, hv8, _⟩ := ho.shape
                        rw [HXL.out] at hv8
                        subst hv8
                        have HY8 : Hid (TrR (OldOr wy.heap.size (.slice oa lo.length oc)) w8 (xn, x) [.int .i64 xn, .slice a8 n c8]) := Lib.hid ⟨_, rfl, HO8.out.rows fun k h1 h2 hA => (by rcases hA with hA | hA; omega; have := HOZ.out k hA; omega)⟩
                        clear ho hb hb8
                        refine hK.out _ _ (.inr (HKS.out _ (HP8.out.sub (by simp)))) ?_
                        clear hK K
                        (try simp only [Act.put, List.getElem_toArray, List.getElem_cons_succ, List.getElem_cons_zero, List.setIfInBounds_toArray, List.set_cons_zero, List.set_cons_succ])
                        refine wpAnyW_take (i := 6) (oi := _) (v := ?_) rfl (by kernel_rfl) (fun _ _ _ h => h) (.inl ⟨by kernel_rfl, fun wh hwh => by (try dsimp only at hwh); obtain ⟨g0, g1⟩ := hwh; first | (simp [execOp, go_sem]; done) | (simp [execOp, go_sem]; with_reducible rfl)⟩) (HKS.out _ (HP8.out.sub (by simp))) ?_
                        (try simp only [Act.put, List.getElem_toArray, List.getElem_cons_succ, List.getElem_cons_zero, List.setIfInBounds_toArray, List.set_cons_zero, List.set_cons_succ])
                        refine wpAnyW_one (i := 7) (o := _) (by kernel_rfl) rfl (fun K hK => ?_)
                        go_simp
                        refine hK.out _ _ (.inr (HKS.out _ ((HP8.out.alloc _).sub (by simp)))) ?_
                        clear hK K
                        (try simp only [Act.put, List.getElem_toArray, List.getElem_cons_succ, List.getElem_cons_zero, List.setIfInBounds_toArray, List.set_cons_zero, List.set_cons_succ])
                        refine wpAnyW_one (i := 8) (o := _) (by kernel_rfl) rfl (fun K hK => ?_)
                        refine step_appG (w := w8) trStable (by rfl) _ _ _ (by rfl) 139 _ 2 32 Tryz.underlying44 infoTrw (by rfl) (by decide) wy.heap.size (.slice oa lo.length oc) w8.heap.size #[.int .i64 xn, .slice a8 n c8] lo (xn, x) (by rfl) (by rfl) (by rfl) HG8.out (by rfl) HY8.out (by omega) (by unfold maxLen; omega) (by omega) ?_
                        intro v9 w9 hg9 hk
                        have HG9 := Lib.hid hg9
                        have HP9 := Lib.hid (HP8.out.then hk (fun i hi hO => (by have := (HOZ.out i hO).1; have := HPQ.out.size; omega)) (fun b hb hO => (by have h0 := HOZ.out _ hO; simp only [List.mem_cons, List.not_mem_nil, or_false] at hb; rcases hb with rfl | rfl | rfl | rfl <;> dsimp only at h0 <;> omega)))
                        obtain ⟨a9, c9, hv9, _⟩ := hg9.shape
                        simp only [List.length_append, List.length_singleton] at hv9
                        subst hv9
                        have HK9 := Lib.hid (HK8.out.then hk fun i hi hO => absurd (HOZ.out i hO).1 (by omega))
                        have hdb := HP9.out.blk (b := ⟨gq, _, _⟩) (List.mem_cons_self ..)
                        dsimp only at hdb
                        have HDB := Lib.hid hdb
                        obtain ⟨d40, d41, d42, d43, f42, f43, dz4⟩ := blk4 hdb
                        clear hg9 hk hdb
                        refine hK.out _ _ (.inr (HKS.out _ (HP9.out.sub (by simp)))) ?_
                        clear hK K
                        (try simp only [Act.put, List.getElem_toArray, List.getElem_cons_succ, List.getElem_cons_zero, List.setIfInBounds_toArray, List.set_cons_zero, List.set_cons_succ])
                        refine wpAnyW_take (i := 9) (oi := _) (v := ?_) rfl (by kernel_rfl) (fun _ _ _ h => h) (.inl ⟨by kernel_rfl, fun wh hwh => by (try dsimp only at hwh); obtain ⟨g0, g1⟩ := hwh; first | (simp [execOp, go_sem]; done) | (simp [execOp, go_sem]; with_reducible rfl)⟩) (HKS.out _ (HP9.out.sub (by simp))) ?_
                        (try simp only [Act.put, List.getElem_toArray, List.getElem_cons_succ, List.getElem_cons_zero, List.setIfInBounds_toArray, List.set_cons_zero, List.set_cons_succ])
                        refine wpAnyW_one (i := 10) (o := _) (by kernel_rfl) rfl (fun K hK => ?_)
                        go_simp
                        refine hK.out _ _ (.inl (by kernel_rfl)) ?_
                        clear hK K
                        (try simp only [Act.put, List.getElem_toArray, List.getElem_cons_succ, List.getElem_cons_zero, List.setIfInBounds_toArray, List.set_cons_zero, List.set_cons_succ])
                        refine wpAnyW_done (by kernel_rfl) ?_ _
                        go_wp2_with fail
                        go_roundw
                        case rel =>
                          have hp3 := HP9.out.put 3 (.slice a9 (lo.length + 1) c9) (blk4_set3 HDB.out) (by simp; omega)
                          refine ⟨j4 + 1, xn + 1, _, lo ++ [(xn, x)], by omega, by go_num, by omega, by omega, hp3.put 2 _ (blk4_set2 (blk4_set3 HDB.out)) (by simp; omega), (HK9.out.setCell (p := ⟨gq, 3, none⟩) (fun _ => rfl) _).setCell (p := ⟨gq, 2, none⟩) (fun _ => rfl) _, HG9.out.keep trStable (((Keep.refl (At gq) w9).setCell (p := ⟨gq, 3, none⟩) (fun _ => rfl) _).setCell (p := ⟨gq, 2, none⟩) (fun _ => rfl) _) (fun k h1 _ h => by unfold At at h; omega), by simp; omega, fun q hq => ?_⟩
                          rcases List.mem_append.1 hq with hq | hq
                          · exact HWD.out q hq
                          · simp only [List.mem_cons, List.not_mem_nil, or_false] at hq
                            subst hq
                            exact ⟨HXL.out, HXV.out⟩
                        case measure => simp [intOf]; omega
                      · obtain rfl : ni = j4 := by omega
                        have hdb := HP7.out.blk (b := ⟨gq, _, _⟩) (List.mem_cons_self ..)
                        dsimp only at hdb
                        obtain ⟨d0, d1, d2, d3, f2, f3, dz⟩ := blk4 hdb
                        clear hdb
                        have HCW := Lib.hid (HCQ.out.keep (HK7.out.weak fun k _ h => .inr h))
                        have HTW : Hid (TrsR (Old wy.heap.size) wq (.slice oa lo.length oc) lo) := Lib.hid (HG7.out.rows trStable)
                        go_wp2_with fail
                        refine (r6dup_any (M := NoM) nm (.slice ca2 m cc2) (.slice oa lo.length oc) xn cl lo wq (HCW.out.weak fun _ _ h => h.elim) (HTW.out.weak fun _ _ h => h.elim) (by omega) (fun r hr => ⟨by rw [(HWD.out r hr).1]; exact hn, (HWD.out r hr).2⟩)).mono ?_
                        rintro e wr2 ⟨b9, rfl, hb⟩
                        have HP8 := Lib.hid (HP7.out.bel hb)
                        have HB8 := Lib.hid hb
                        clear hb d0 d1 d2 d3 f2 f3 dz
                        dsimp only
                        cases b9 with
                        | true =>
                          obtain ⟨z00, z01, z0, z1, z2, z3, z02, z03, zz⟩ := HR.out _ (HP8.out.sub (by simp))
                          go_wp2_with fail
                          refine bodyPost_ret (v := .tuple #[.agg #[.string ⟨#[]⟩, .slice none 0 0, .int .i64 0, .slice none 0 0], .int .i64 9]) (by simp [results, Tryz.results29, go_sem, z0, z1, z2, z3]) rfl ?_
                          exact app_bad HP8.out (tset4_keep ..) (by omega) (by omega)
                        | false =>
                          have hdb := HP8.out.blk (b := ⟨gq, _, _⟩) (List.mem_cons_self ..)
                          dsimp only at hdb
                          obtain ⟨d0, d1, d2, d3, f2, f3, dz⟩ := blk4 hdb
                          clear hdb
                          obtain ⟨z00, z01, z0, z1, z2, z3, z02, z03, zz⟩ := HR.out _ (HP8.out.sub (by simp))
                          go_wp2_with fail
                          refine bodyPost_ret (v := .tuple #[.agg #[.string nm, .slice ca2 m cc2, .int .i64 xn, .slice oa lo.length oc], .int .i64 0]) (by simp [results, Tryz.results29, go_sem, z0, z1, z2, z3]) rfl ?_
                          have k4 := tset4_keep wr2 (w.heap.size + 2) (.string nm) (.slice ca2 m cc2) (.int .i64 xn) (.slice oa lo.length oc)
                          generalize World.setCell _ (⟨w.heap.size + 2, 3, none⟩ : Addr) _ = W9 at k4 ⊢
                          have q1 := (HCW.out.keep (.bel HB8.out)).keep (k4.weak fun k _ h => by unfold At at h; omega)
                          have q2 := (HTW.out.keep (.bel HB8.out)).keep (k4.weak fun k _ h => by unfold At at h; unfold Old; omega)
                          have q3 := ((HP8.out.sub (L' := []) (by simp)).then k4 (fun i hi h => by unfold At at h; omega) (fun b hb => by cases hb)).below
                          exact ⟨_, _, _, _, _, _, _, _, _, rfl, q3, fun _ => ⟨rfl, q1.weak fun k _ h => by unfold Old at h; omega, lo, q2.weak fun k _ h => by unfold Old at *; omega, by omega, HWD.out⟩⟩
end Go.Proofs.YtkhlmofcdchccaaGreatDoor
