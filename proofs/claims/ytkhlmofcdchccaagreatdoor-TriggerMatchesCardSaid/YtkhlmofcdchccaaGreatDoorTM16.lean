/- A change from the tape: the contract of ChangeOf. -/
import Derived.Test.YtkhlmofcdchccaaGreatDoorU08
namespace Go.Proofs.YtkhlmofcdchccaaGreatDoor
open Go.RowKit Go.Maps

set_option maxRecDepth 100000 in
set_option maxHeartbeats 16000000 in
theorem changeOf_any (T : Nat) (nm : ByteArray) (cv rv : Value) (nx : Int) (cl : List Col) (l : List (Int × List Val)) (w : World) (ht : TapeOk T w) (hn : WordsOk T w) (hc : ColsR (At T) w cv cl) (hr : TrsR (At T) w rv l) (hl : l.length ≤ 6) (hx : ∀ r ∈ l, r.2.length = cl.length ∧ ∀ y ∈ r.2, ValidVal y) (hid : ∀ r ∈ l, I64R r.1) (hcl1 : 1 ≤ cl.length) (hcl : cl.length ≤ 1000) :
    Calls Tryz.prog 30 #[.pointer (some ⟨T, 0, none⟩), .agg #[.string nm, cv, .int .i64 nx, rv]] w (Gives T w (CofQ T cl.length)) := by
  have HRW := Lib.hid fun wx (k : Keep (At T) w wx) (h : TapeOk T wx) => row_any T nm cv cl wx h (hn.at k) (hc.keep k) hcl
  have HWO := Lib.hid fun wx (k : Keep (At T) w wx) => hn.at k
  obtain ⟨ca, cc, rfl, hcm⟩ := hc.shape
  obtain ⟨a, cap, rfl, hm⟩ := hr.shape
  unfold maxLen at hm
  have HL := Lib.hid fun j (hj : j < l.length) => rows_rowM hr hj
  have HX := Lib.hid hx
  have HI := Lib.hid hid
  obtain ⟨n, hN⟩ : ∃ n, cl.length = n := ⟨_, rfl⟩
  obtain ⟨m, hM⟩ : ∃ n, l.length = n := ⟨_, rfl⟩
  rw [hN] at HRW HX hcl1 hcl ⊢
  rw [hM] at HL hl hm ⊢
  have hTw := ht.lt
  have h0 := (OB.start ht).new #[.string nm, .slice ca n cc, .int .i64 nx, .slice a m cap] 96
  have h1 := h0.new' (g := w.heap.size + 1) (by simp) #[.slice none 0 0, .slice none 0 0, .slice none 0 0] 102
  have h2 := h1.new' (g := w.heap.size + 2) (by simp) #[.slice none 0 0, .slice none 0 0, .slice none 0 0] 102
  clear ht hn hc hr hx hid hN hM hcm h0 h1
  go_enter Tryz.func30, Tryz.ntmps30
  go_upto_region 2 with fail
  generalize World.alloc (World.alloc (World.alloc w _) _) _ = W0 at h2 ⊢
  have HO0 := Lib.hid h2
  obtain ⟨x0, x1, x2, x3, _⟩ := blk4 (h2.blk (b := ⟨w.heap.size, _, _⟩) (List.mem_cons_of_mem _ (List.mem_cons_of_mem _ (List.mem_cons_self ..))))
  have hz0 := h2.blt (b := ⟨w.heap.size + 2, _, _⟩) (List.mem_cons_self ..)
  dsimp only at hz0
  clear h2
  go_wp2_with fail
  go_loopw [14] (fun i wr => ∃ (j : Nat) (dv uv : Value) (ld : List Int) (lu : List PrD), j ≤ m ∧ i = .int .i64 (j : Int) ∧ OB T w wr [⟨w.heap.size + 2, #[.slice none 0 0, dv, uv], 102⟩, ⟨w.heap.size + 1, #[.slice none 0 0, .slice none 0 0, .slice none 0 0], 102⟩, ⟨w.heap.size, #[.string nm, .slice ca n cc, .int .i64 nx, .slice a m cap], 96⟩] ∧ G2 NumRR PrR 3 58 1 3 (w.heap.size + 3) wr dv ld uv lu ∧ ld.length ≤ j ∧ lu.length ≤ j ∧ (∀ x ∈ ld, I64R x) ∧ ∀ p ∈ lu, I64R p.id ∧ p.new.length = n ∧ ∀ y ∈ p.new, ValidVal y) (fun i _ => m - (intOf i).toNat)
  case atStart => exact ⟨0, _, _, [], [], Nat.zero_le _, rfl, HO0.out, G2.nil .., Nat.zero_le _, Nat.zero_le _, fun x hx => (by cases hx), fun p hp => by cases hp⟩
  case round =>
    rename World => wr
    obtain ⟨j, dv, uv, ld, lu, hj, rfl, ho, hg2, hld, hlu, hdi, hui⟩ := hrel
    obtain ⟨da, dc, rfl, _⟩ := hg2.shapeA
    obtain ⟨ua, uc, rfl, _⟩ := hg2.shapeB
    have HOR := Lib.hid ho
    have HGR := Lib.hid hg2
    have HDI := Lib.hid hdi
    have HUI := Lib.hid hui
    have HOW := Lib.hid fun k (h : OwnB (.slice da ld.length dc) k ∨ OwnB (.slice ua lu.length uc) k) => show k < wr.heap.size from h.elim (fun h => (RowsO.lt hg2.ra h).2) (fun h => (RowsO.lt hg2.rb h).2)
    have hzr := ho.blt (b := ⟨w.heap.size + 2, _, _⟩) (List.mem_cons_self ..)
    dsimp only at hzr
    clear ho hg2 hdi hui x0 x1 x2 x3 HO0
    by_cases hlt : j < m
    · obtain ⟨r, b, o, cs, _, hrm, hra, hbz, ⟨v, rfl, hvr⟩, hcs, hcap, hcm', hMb⟩ := HL.out j hlt
      unfold maxLen at hcm'
      subst hra
      obtain ⟨c0, c1⟩ := CellsAt.c2 (hcs.keep (M := At T) HOR.out.kept hMb)
      obtain ⟨hlen, hval⟩ := HX.out r hrm
      have hri := HI.out r hrm
      obtain ⟨ra, rc, hv', _⟩ := hvr.shape
      rw [hlen] at hv'
      subst hv'
      have HVR := Lib.hid hvr
      have HLEN := Lib.hid hlen
      have HVAL := Lib.hid hval
      clear hcs hrm hvr hlen hval
      have i0 : (0 : Int) ≤ (j : Int) := by omega
      have i1 : (j : Int) < (m : Int) := by omega
      have hO := HOR.out.new #[.int .i64 r.1, .slice ra n rc] 139
      have hQ : Below wr.heap.size wr (wr.alloc (.cells #[.int .i64 r.1, .slice ra n rc] 139)) := (Below.refl _ _).alloc (Nat.le_refl _) _
      go_upto_region 5 with fail
      generalize hp : wr.heap.size = p at hO hQ ⊢
      generalize World.alloc wr _ = W5 at hO hQ ⊢
      have hpw : wr.heap.size ≤ p := by omega
      rw [← hp] at hQ
      clear hp c0 c1
      have HO5 := Lib.hid hO
      have HG5 := Lib.hid (HGR.out.bel numStable prStable hQ)
      clear hO hQ
      go_wp2_with fail
      refine (next_any T 4 _ (by omega) (by omega) HO5.out.tape).mono ?_
      rintro e w6 ⟨_, rfl, ⟨q, rfl, hq0, hq1⟩, ht, hk⟩
      have HO6 := Lib.hid (HO5.out.step ht hk)
      have HG6 := Lib.hid (HG5.out.keep numStable prStable hk fun k h1 _ h => by unfold At at h; omega)
      have hz56 := hk.size
      have hz5 := HO5.out.blt (b := ⟨p, _, _⟩) (List.mem_cons_self ..)
      dsimp only at hz5
      clear ht hk HO5 HG5
      obtain ⟨e0, e1, _⟩ := blk2 (HO6.out.blk (b := ⟨p, _, _⟩) (List.mem_cons_self ..))
      have hdb := HO6.out.blk (b := ⟨w.heap.size + 2, _, _⟩) (List.mem_cons_of_mem _ (List.mem_cons_self ..))
      dsimp only at hdb
      obtain ⟨d0, d1, d2, dz⟩ := blk3 hdb
      have f1 := blk_fr hdb 1
      clear hdb
      dsimp only
      by_cases hq : q = 0
      · subst hq
        have hz6 := HO6.out.size
        go_wp2_with (at_builtin; go_loud (refine wpList_appA (w := w6) numStable prStable rfl _ _ 36 rfl _ 8 Tryz.underlying36 infoIntM rfl (by decide) w6.heap.size #[.int .i64 r.1] r.1 rfl rfl rfl HG6.out rfl rfl (by omega) (by unfold maxLen; omega) (by omega) ?_; intro v9 w9 hg9 hk; have HG9 := Lib.hid hg9; have HO9 := Lib.hid (HO6.out.then hk (fun i hi hO => (by have := (RowsO.lt HG6.out.ra hO).1; omega)) (fun b hb hO => (by have h0 := HOW.out _ (.inl hO); have h1 := (RowsO.lt HG6.out.ra hO).1; simp only [List.mem_cons, List.not_mem_nil, or_false] at hb; rcases hb with rfl | rfl | rfl | rfl <;> dsimp only at h0 h1 <;> omega))); obtain ⟨a9, c9, hv9, _⟩ := hg9.shapeA; simp only [List.length_append, List.length_singleton] at hv9; subst hv9; have hdb := HO9.out.blk (b := ⟨w.heap.size + 2, _, _⟩) (List.mem_cons_of_mem _ (List.mem_cons_self ..)); dsimp only at hdb; have HDB := Lib.hid hdb; obtain ⟨d40, d41, d42, dz4⟩ := blk3 hdb; have f41 := blk_fr hdb 1; clear hg9 hk hdb))
        go_roundw
        case rel =>
          refine ⟨j + 1, _, _, ld ++ [r.1], lu, by omega, by go_num, (HO9.out.swap.put 1 _ (blk3_set1 HDB.out) (by simp; omega)).sub (by simp), HG9.out.keep numStable prStable ((Keep.refl (At (w.heap.size + 2)) w9).setCell (p := ⟨w.heap.size + 2, 1, none⟩) (fun _ => rfl) _) (fun k h1 _ h => by unfold At at h; omega), by simp; omega, by omega, fun x hx => ?_, HUI.out⟩
          rcases List.mem_append.1 hx with hx | hx
          · exact HDI.out x hx
          · simp only [List.mem_cons, List.not_mem_nil, or_false] at hx
            subst hx
            exact hri
        case measure => simp [intOf]; omega
      by_cases hq1' : q = 1
      · subst hq1'
        have HVR6 := Lib.hid (HVR.out.keep HO6.out.kept)
        obtain ⟨x0, x1, x2, x3, _⟩ := blk4 (HO6.out.blk (b := ⟨w.heap.size, _, _⟩) (List.mem_cons_of_mem _ (List.mem_cons_of_mem _ (List.mem_cons_of_mem _ (List.mem_cons_self ..)))))
        have HKT := Lib.hid fun (w' : World) (h : OB T w w' [⟨p, #[.int .i64 r.1, .slice ra n rc], 139⟩, ⟨w.heap.size + 2, #[.slice none 0 0, .slice da ld.length dc, .slice ua lu.length uc], 102⟩, ⟨w.heap.size + 1, #[.slice none 0 0, .slice none 0 0, .slice none 0 0], 102⟩, ⟨w.heap.size, #[.string nm, .slice ca n cc, .int .i64 nx, .slice (some ⟨b, o, none⟩) m cap], 96⟩]) => show w'.cell? ⟨w.heap.size + 2, 2, none⟩ = some (.slice ua lu.length uc) ∧ w'.cell? ⟨p, 0, none⟩ = some (.int .i64 r.1) ∧ w'.cell? ⟨p, 1, none⟩ = some (.slice ra n rc) from
          ⟨(blk3 (h.blk (b := ⟨w.heap.size + 2, _, _⟩) (List.mem_cons_of_mem _ (List.mem_cons_self ..)))).2.2.1, (blk2 (h.blk (b := ⟨p, _, _⟩) (List.mem_cons_self ..))).1, (blk2 (h.blk (b := ⟨p, _, _⟩) (List.mem_cons_self ..))).2.1⟩
        have HKS := Lib.hid fun (w' : World) (h : OB T w6 w' []) => HKT.out w' (HO6.out.step h.tape h.kept)
        have HBX := Lib.hid fun (w' : World) (h : OB T w6 w' []) => blk4 ((HO6.out.step h.tape h.kept).blk (b := ⟨w.heap.size, _, _⟩) (List.mem_cons_of_mem _ (List.mem_cons_of_mem _ (List.mem_cons_of_mem _ (List.mem_cons_self ..)))))
        have hz6 : w.heap.size ≤ w6.heap.size := HO6.out.size
        have hT6 : T < w6.heap.size := by omega
        clear e0 e1 d0 d1 d2 dz f1
        go_wp2_with fail
        refine (HRW.out w6 HO6.out.kept HO6.out.tape).mono ?_
        rintro e w7 ⟨vn, rfl, ⟨x, hxl, hxv, hro⟩, ht, hk⟩
        have HS7 : Hid (RS T w6.heap.size w6 w7 [] n vn) := Lib.hid ⟨(OB.start HO6.out.tape).step ht hk, ⟨x, hro, hxl, hxv⟩, Nat.le_refl _, fun b hb => by cases hb⟩
        clear ht hk hro hxl hxv x0 x1 x2 x3 x
        obtain ⟨vg, vc, hv7, _⟩ := HS7.out.at hcl1
        obtain rfl := hv7
        dsimp only
        go_wp2_with fail
        refine (bool_any T 2 _ (by omega) (by omega) HS7.out.ob.tape).mono ?_
        rintro e w8 ⟨_, rfl, ⟨b1, rfl⟩, ht, hk⟩
        have HS8 := Lib.hid (HS7.out.step ht hk)
        clear ht hk HS7
        dsimp only
        go_upto_if 36 with fail
        go_cut [8] (fun v wx => RS T w6.heap.size w6 wx [] n v)
        case first =>
          cases b1 with
          | false =>
            go_wp2_with fail
            go_meet
            exact HS8.out
          | true =>
            obtain ⟨k0, k1, k2⟩ := HKS.out _ HS8.out.ob
            obtain ⟨g, c, hvv, hg, hgz, hgc, hgm, hgf, hgy⟩ := HS8.out.at hcl1
            cases hvv
            obtain ⟨y, hy0, hy1, hy2⟩ := hgy 0 hcl1
            obtain ⟨z, bz, oz, csz, _, hzm, hzb, hzz, hzc, hzcs, hzcap, hzmax, hzM⟩ := rows_rowM HVR6.out (j := 0) (by rw [HLEN.out]; omega)
            obtain rfl : csz = [.int .i64 z.kind, .int .i64 z.int, .string z.text] := hzc
            unfold maxLen at hgm hzmax
            rw [HLEN.out] at hzcap
            subst hzb
            obtain ⟨s0, s1, s2⟩ := CellsAt.c3 (hzcs.keep (M := At T) HS8.out.ob.kept hzM)
            have hzv := HVAL.out z hzm
            have f0 := hgf 0
            have f1 := hgf 1
            have f2 := hgf 2
            simp only [Nat.zero_mul, Nat.add_zero, Nat.zero_add] at s0 s1 s2 hy0 hy1 hy2
            have j0 : (0 : Int) < (n : Int) := by omega
            clear hgf hgy hzcs
            go_wp2_with fail
            go_meet
            simpa using HS8.out.put 0 (by omega) z hzv hg
        case rest =>
          obtain ⟨vg2, vc2, hv7, _⟩ := hcut.at hcl1
          obtain rfl := hv7
          have HSa := Lib.hid hcut
          clear hcut HS8
          rename World => wa
          go_wp2_with fail
          refine (bool_any T 8 _ (by omega) (by omega) HSa.out.ob.tape).mono ?_
          rintro e wb ⟨_, rfl, ⟨b2, rfl⟩, ht, hk⟩
          have HSb := Lib.hid (HSa.out.step ht hk)
          clear ht hk HSa
          dsimp only
          go_upto_if 44 with fail
          go_cut [8] (fun v wx => RS T w6.heap.size w6 wx [] n v)
          case first =>
            cases b2 with
            | false =>
              go_wp2_with fail
              go_meet
              exact HSb.out
            | true =>
              obtain ⟨k0, k1, k2⟩ := HKS.out _ HSb.out.ob
              have HVRb := Lib.hid (HVR6.out.keep HSb.out.ob.kept)
              have hzb := HSb.out.ob.size
              go_wp2_with (at_builtin; go_loud (refine wpList_app rfl _ _ 56 rfl 26 _ 3 32 Tryz.underlying56 infoValT rfl (by decide) (R := ValR) (M := At T) w6.heap.size (.slice none 0 0) (.slice ra n rc) [] r.2 rfl rfl (RowsO.nil ..) HVRb.out (fun y _ cs h => valR_one1 y cs h) (by rw [HLEN.out]; simp; omega) (by rw [HLEN.out]; simp [maxLen]; omega) hzb ?_; intro v9 w9 ho hk _; rw [List.nil_append] at ho; have HB9 := Lib.hid (HSb.out.ob.bel (bel_nil hk)); have HO9 := Lib.hid ho; clear ho hk))
              go_meet
              exact ⟨HB9.out, ⟨r.2, HO9.out, HLEN.out, HVAL.out⟩, Nat.le_refl _, fun b hb => by cases hb⟩
          case rest =>
            obtain ⟨vg3, vc3, hv7, _⟩ := hcut.at hcl1
            obtain rfl := hv7
            have HSa := Lib.hid hcut
            clear hcut HSb
            rename World => wc
            go_wp2_with fail
            refine (bool_any T 12 _ (by omega) (by omega) HSa.out.ob.tape).mono ?_
            rintro e wd ⟨_, rfl, ⟨b3, rfl⟩, ht, hk⟩
            have HSd := Lib.hid (HSa.out.step ht hk)
            clear ht hk HSa
            dsimp only
            go_upto_if 49 with fail
            go_cut [8] (fun v wx => RS T w6.heap.size w6 wx [] n v)
            case first =>
              cases b3 with
              | false =>
                go_wp2_with fail
                go_meet
                exact HSd.out
              | true =>
                go_wp2_with fail
                refine (next_any T (n : Int) _ (by omega) (by omega) HSd.out.ob.tape).mono ?_
                rintro e we ⟨_, rfl, ⟨ix, rfl, hix0, hix1⟩, ht, hk⟩
                have HSe := Lib.hid (HSd.out.step ht hk)
                clear ht hk
                dsimp only
                go_wp2_with fail
                refine (value_any T _ HSe.out.ob.tape (HWO.out _ (HO6.out.kept.trans HSe.out.ob.kept))).mono ?_
                rintro e wf ⟨_, rfl, ⟨z, rfl, hzv⟩, ht, hk⟩
                have HSf := Lib.hid (HSe.out.step ht hk)
                clear ht hk
                obtain ⟨kx, rfl⟩ : ∃ k : Nat, ix = (k : Int) := ⟨ix.toNat, by omega⟩
                obtain ⟨g, c, hvv, hg, hgz, hgc, hgm, hgf, hgy⟩ := HSf.out.at hcl1
                cases hvv
                obtain ⟨y, hy0, hy1, hy2⟩ := hgy kx (by omega)
                unfold maxLen at hgm
                have f0 := hgf (kx * 3)
                have f1 := hgf (kx * 3 + 1)
                have f2 := hgf (kx * 3 + 2)
                clear hgf hgy
                unfold valOf
                dsimp only
                go_wp2_with fail
                go_meet
                simpa using HSf.out.put kx (by omega) z hzv hg
            case rest =>
              have HS8 := Lib.hid hcut
              obtain ⟨x, hx8, hxl, hxv⟩ := hcut.rows
              have HX8 := Lib.hid hx8
              have HXL := Lib.hid hxl
              have HXV := Lib.hid hxv
              obtain ⟨vg4, vc4, hv7, _⟩ := hcut.at hcl1
              obtain rfl := hv7
              clear hcut HSd hx8 hxl hxv
              rename World => w8
              have HVR8 := Lib.hid ((HVR6.out.keep HS8.out.ob.kept).weak (M' := NoM) fun _ _ h => h.elim)
              have hu0 : HUI = HUI := rfl
              clear hu0
              go_upto_region 16 with fail
              refine wp_regionW 12 (fun w' => w'.cell? ⟨w.heap.size + 2, 2, none⟩ = some (.slice ua lu.length uc) ∧ w'.cell? ⟨p, 0, none⟩ = some (.int .i64 r.1) ∧ w'.cell? ⟨p, 1, none⟩ = some (.slice ra n rc)) (by kernel_rfl) ?_
              refine wpAnyW_take (i := 0) (oi := _) (v := ?_) rfl (by kernel_rfl) (fun _ _ _ h => h) (.inl ⟨by kernel_rfl, fun wh hwh => by (try dsimp only at hwh); obtain ⟨g0, g1, g2⟩ := hwh; first | (simp [execOp, go_sem]; done) | (simp [execOp, go_sem]; with_reducible rfl)⟩) (HKS.out _ (HS8.out.drew.ob)) ?_
              (try simp only [Act.put, List.getElem_toArray, List.getElem_cons_zero, List.setIfInBounds_toArray, List.set_cons_zero, List.set_cons_succ])
              refine wpAnyW_take (i := 1) (oi := _) (v := ?_) rfl (by kernel_rfl) (fun _ _ _ h => h) (.inl ⟨by kernel_rfl, fun wh hwh => by (try dsimp only at hwh); obtain ⟨g0, g1, g2⟩ := hwh; first | (simp [execOp, go_sem, g0]; done) | (simp [execOp, go_sem, g0]; with_reducible rfl)⟩) (HKS.out _ (HS8.out.drew.ob)) ?_
              (try simp only [Act.put, List.getElem_toArray, List.getElem_cons_succ, List.getElem_cons_zero, List.setIfInBounds_toArray, List.set_cons_zero, List.set_cons_succ])
              refine wpAnyW_take (i := 2) (oi := _) (v := ?_) rfl (by kernel_rfl) (fun _ _ _ h => h) (.inl ⟨by kernel_rfl, fun wh hwh => by (try dsimp only at hwh); obtain ⟨g0, g1, g2⟩ := hwh; first | (simp [execOp, go_sem]; done) | (simp [execOp, go_sem]; with_reducible rfl)⟩) (HKS.out _ (HS8.out.drew.ob)) ?_
              (try simp only [Act.put, List.getElem_toArray, List.getElem_cons_succ, List.getElem_cons_zero, List.setIfInBounds_toArray, List.set_cons_zero, List.set_cons_succ])
              refine wpAnyW_take (i := 3) (oi := _) (v := ?_) rfl (by kernel_rfl) (fun _ _ _ h => h) (.inl ⟨by kernel_rfl, fun wh hwh => by (try dsimp only at hwh); obtain ⟨g0, g1, g2⟩ := hwh; first | (simp [execOp, go_sem, g1]; done) | (simp [execOp, go_sem, g1]; with_reducible rfl)⟩) (HKS.out _ (HS8.out.drew.ob)) ?_
              (try simp only [Act.put, List.getElem_toArray, List.getElem_cons_succ, List.getElem_cons_zero, List.setIfInBounds_toArray, List.set_cons_zero, List.set_cons_succ])
              refine wpAnyW_take (i := 4) (oi := _) (v := ?_) rfl (by kernel_rfl) (fun _ _ _ h => h) (.inl ⟨by kernel_rfl, fun wh hwh => by (try dsimp only at hwh); obtain ⟨g0, g1, g2⟩ := hwh; first | (simp [execOp, go_sem]; done) | (simp [execOp, go_sem]; with_reducible rfl)⟩) (HKS.out _ (HS8.out.drew.ob)) ?_
              (try simp only [Act.put, List.getElem_toArray, List.getElem_cons_succ, List.getElem_cons_zero, List.setIfInBounds_toArray, List.set_cons_zero, List.set_cons_succ])
              refine wpAnyW_take (i := 5) (oi := _) (v := ?_) rfl (by kernel_rfl) (fun _ _ _ h => h) (.inl ⟨by kernel_rfl, fun wh hwh => by (try dsimp only at hwh); obtain ⟨g0, g1, g2⟩ := hwh; first | (simp [execOp, go_sem, g2]; done) | (simp [execOp, go_sem, g2]; with_reducible rfl)⟩) (HKS.out _ (HS8.out.drew.ob)) ?_
              (try simp only [Act.put, List.getElem_toArray, List.getElem_cons_succ, List.getElem_cons_zero, List.setIfInBounds_toArray, List.set_cons_zero, List.set_cons_succ])
              refine wpAnyW_take (i := 7) (oi := _) (v := ?_) rfl (by kernel_rfl) (fun _ _ _ h => h) (.inl ⟨by kernel_rfl, fun wh hwh => by (try dsimp only at hwh); obtain ⟨g0, g1, g2⟩ := hwh; first | (simp [execOp, go_sem]; done) | (simp [execOp, go_sem]; with_reducible rfl)⟩) (HKS.out _ (HS8.out.drew.ob)) ?_
              (try simp only [Act.put, List.getElem_toArray, List.getElem_cons_succ, List.getElem_cons_zero, List.setIfInBounds_toArray, List.set_cons_zero, List.set_cons_succ])
              refine wpAnyW_one (i := 6) (o := _) (by kernel_rfl) rfl (fun K hK => ?_)
              refine step_appO (by rfl) _ _ _ (by rfl) 26 _ 3 32 Tryz.underlying56 infoValT (by rfl) (by decide) (R := ValR) (M := NoM) w6.heap.size (.slice none 0 0) (.slice ra n rc) [] r.2 (by rfl) (by first | rfl | simp [HLEN.out]) (RowsO.nil ..) HVR8.out (fun y _ cs h => valR_one1 y cs h) (by simp [HLEN.out]; omega) (by simp [HLEN.out, maxLen]; omega) (by have := HS8.out.ob.size; exact this) ?_
              intro v9 w9 ho hk
              have HK9 := Lib.hid (bel_nil hk)
              rw [List.nil_append] at ho
              have HO9 := Lib.hid ho
              obtain ⟨a9, c9, hv9, _⟩ := ho.shape
              rw [HLEN.out] at hv9
              subst hv9
              have HS9 := Lib.hid (HS8.out.drew.step (HS8.out.drew.ob.bel HK9.out).tape (.bel HK9.out))
              clear ho hk
              refine hK.out _ _ (.inr (HKS.out _ (HS9.out.ob))) ?_
              clear hK K
              (try simp only [Act.put, List.getElem_toArray, List.getElem_cons_succ, List.getElem_cons_zero, List.setIfInBounds_toArray, List.set_cons_zero, List.set_cons_succ])
              refine wpAnyW_take (i := 8) (oi := _) (v := ?_) rfl (by kernel_rfl) (fun _ _ _ h => h) (.inl ⟨by kernel_rfl, fun wh hwh => by (try dsimp only at hwh); obtain ⟨g0, g1, g2⟩ := hwh; first | (simp [execOp, go_sem]; done) | (simp [execOp, go_sem]; with_reducible rfl)⟩) (HKS.out _ (HS9.out.ob)) ?_
              (try simp only [Act.put, List.getElem_toArray, List.getElem_cons_succ, List.getElem_cons_zero, List.setIfInBounds_toArray, List.set_cons_zero, List.set_cons_succ])
              refine wpAnyW_one (i := 9) (o := _) (by kernel_rfl) rfl (fun K hK => ?_)
              go_simp
              refine hK.out _ _ (.inr (HKS.out _ (HS9.out.alloc _ |>.ob))) ?_
              clear hK K
              (try simp only [Act.put, List.getElem_toArray, List.getElem_cons_succ, List.getElem_cons_zero, List.setIfInBounds_toArray, List.set_cons_zero, List.set_cons_succ])
              refine wpAnyW_one (i := 10) (o := _) (by kernel_rfl) rfl (fun K hK => ?_)
              have HG9 := Lib.hid ((HG6.out.keep numStable prStable HS9.out.ob.kept fun k h1 _ h => by unfold At at h; omega).swap numStable prStable)
              have hz9 := HS9.out.ob.size
              have HY9 : Hid (PrR (MM (w.heap.size + 3) (.slice ua lu.length uc) (.slice da ld.length dc)) w9 ⟨r.1, r.2, x⟩ [.int .i64 r.1, .slice a9 n c9, .slice (some ⟨vg4, 0, none⟩) n vc4]) := Lib.hid ⟨_, _, rfl, HO9.out.rows fun k h1 h2 hA => (by rcases hA with hA | hA | hA; omega; have := HOW.out k (.inr hA); omega; have := HOW.out k (.inl hA); omega), (RowsO.kept HX8.out (Keep.bel (M := NoM) (Below.trans (drew_below (Below.refl _ _)) HK9.out)) (fun _ _ h => h) fun _ _ _ h => h).rows fun k h1 h2 hA => (by rcases hA with hA | hA | hA; omega; have := HOW.out k (.inr hA); omega; have := HOW.out k (.inl hA); omega)⟩
              refine step_appA (w := w9) prStable numStable (by rfl) _ _ _ (by rfl) _ 56 Tryz.underlying45 infoPair (by rfl) (by decide) w9.heap.size #[.int .i64 r.1, .slice a9 n c9, .slice (some ⟨vg4, 0, none⟩) n vc4] ⟨r.1, r.2, x⟩ (by rfl) (by rfl) (by rfl) HG9.out (by rfl) HY9.out (by omega) (by unfold maxLen; omega) (by omega) ?_
              intro v10 w10 hg10 hk
              have HG10 := Lib.hid (hg10.swap prStable numStable)
              have HOb := Lib.hid (HO6.out.step HS9.out.ob.tape HS9.out.ob.kept)
              have HO10 := Lib.hid (HOb.out.then hk (fun i hi hO => (by have := (RowsO.lt HG9.out.ra hO).1; omega)) (fun b hb hO => (by have h0 := HOW.out _ (.inr hO); have h1 := (RowsO.lt HG9.out.ra hO).1; simp only [List.mem_cons, List.not_mem_nil, or_false] at hb; rcases hb with rfl | rfl | rfl | rfl <;> dsimp only at h0 h1 <;> omega)))
              obtain ⟨a10, c10, hv10, _⟩ := hg10.shapeA
              simp only [List.length_append, List.length_singleton] at hv10
              subst hv10
              have hdb := HO10.out.blk (b := ⟨w.heap.size + 2, _, _⟩) (List.mem_cons_of_mem _ (List.mem_cons_self ..))
              dsimp only at hdb
              have HDB := Lib.hid hdb
              obtain ⟨d40, d41, d42, _⟩ := blk3 hdb
              have f42 := blk_fr hdb 2
              clear hg10 hk hdb
              refine hK.out _ _ (.inr (HKT.out _ HO10.out)) ?_
              clear hK K
              (try simp only [Act.put, List.getElem_toArray, List.getElem_cons_succ, List.getElem_cons_zero, List.setIfInBounds_toArray, List.set_cons_zero, List.set_cons_succ])
              refine wpAnyW_take (i := 11) (oi := _) (v := ?_) rfl (by kernel_rfl) (fun _ _ _ h => h) (.inl ⟨by kernel_rfl, fun wh hwh => by (try dsimp only at hwh); obtain ⟨g0, g1, g2⟩ := hwh; first | (simp [execOp, go_sem]; done) | (simp [execOp, go_sem]; with_reducible rfl)⟩) (HKT.out _ HO10.out) ?_
              (try simp only [Act.put, List.getElem_toArray, List.getElem_cons_succ, List.getElem_cons_zero, List.setIfInBounds_toArray, List.set_cons_zero, List.set_cons_succ])
              refine wpAnyW_one (i := 12) (o := _) (by kernel_rfl) rfl (fun K hK => ?_)
              go_simp
              refine hK.out _ _ (.inl (by kernel_rfl)) ?_
              clear hK K
              (try simp only [Act.put, List.getElem_toArray, List.getElem_cons_succ, List.getElem_cons_zero, List.setIfInBounds_toArray, List.set_cons_zero, List.set_cons_succ])
              refine wpAnyW_done (by kernel_rfl) ?_ _
              go_wp2_with fail
              go_roundw
              case rel =>
                refine ⟨j + 1, _, _, ld, lu ++ [⟨r.1, r.2, x⟩], by omega, by go_num, (HO10.out.swap.put 2 _ (blk3_set2 HDB.out) (by simp; omega)).sub (by simp), HG10.out.keep numStable prStable ((Keep.refl (At (w.heap.size + 2)) w10).setCell (p := ⟨w.heap.size + 2, 2, none⟩) (fun _ => rfl) _) (fun k h1 _ h => by unfold At at h; omega), by omega, by simp; omega, HDI.out, fun q hq => ?_⟩
                rcases List.mem_append.1 hq with hq | hq
                · exact HUI.out q hq
                · simp only [List.mem_cons, List.not_mem_nil, or_false] at hq
                  subst hq
                  exact ⟨hri, HXL.out, HXV.out⟩
              case measure => simp [intOf]; omega
      · have hq' : (q == 0) = false := by simpa using hq
        have hq'' : (q == 1) = false := by simpa using hq1'
        go_wp2_with fail
        go_roundw
        case rel => exact ⟨j + 1, _, _, ld, lu, by omega, by go_num, HO6.out.sub (by simp), HG6.out, by omega, by omega, HDI.out, HUI.out⟩
        case measure => simp [intOf]; omega
    · obtain rfl : m = j := by omega
      have HDS : Hid (NumsR (Old (w.heap.size + 3)) wr (.slice da ld.length dc) ld) := Lib.hid (HGR.out.rowsA numStable)
      have HUS : Hid (PrsR (Old (w.heap.size + 3)) wr (.slice ua lu.length uc) lu) := Lib.hid (HGR.out.rowsB prStable)
      have hld6 : ld.length ≤ 200 := by omega
      have HLD := Lib.hid hld6
      clear HGR HOW hld hlu hld6
      go_wp2_with fail
      refine (next_any T 4 _ (by omega) (by omega) HOR.out.tape).mono ?_
      rintro e w1 ⟨_, rfl, ⟨c0, rfl, hc0, hc1⟩, ht, hk⟩
      have HO1 := Lib.hid (HOR.out.step ht hk)
      have HD1 := Lib.hid (HDS.out.keep (hk.weak fun k _ h => by unfold At at h; unfold Old; omega))
      have HU1 := Lib.hid (HUS.out.keep (hk.weak fun k _ h => by unfold At at h; unfold Old; omega))
      have hz1 := hk.size
      clear ht hk HOR HDS HUS
      dsimp only
      go_wp2_with fail
      go_loopw [9] (fun c wx => ∃ (k : Nat) (iv : Value) (li : List (List Val)), c = .int .i64 (k : Int) ∧ OB T w wx [⟨w.heap.size + 2, #[iv, .slice da ld.length dc, .slice ua lu.length uc], 102⟩, ⟨w.heap.size + 1, #[.slice none 0 0, .slice none 0 0, .slice none 0 0], 102⟩, ⟨w.heap.size, #[.string nm, .slice ca n cc, .int .i64 nx, .slice a m cap], 96⟩] ∧ Keep (fun b => b = T ∨ b = w.heap.size + 2) w1 wx ∧ RowsG w1.heap.size wx 56 1 RvR iv li ∧ li.length + k ≤ 3 ∧ ∀ x ∈ li, x.length = n ∧ ∀ y ∈ x, ValidVal y) (fun c _ => (intOf c).toNat)
      case atStart =>
        obtain ⟨k, rfl⟩ : ∃ k : Nat, c0 = k := ⟨c0.toNat, by omega⟩
        exact ⟨k, _, [], rfl, HO1.out, .refl _ _, RowsG.nil .., (by show 0 + k ≤ 3; omega), fun x hx => by cases hx⟩
      case round =>
        rename World => wx
        obtain ⟨k, iv, li, rfl, ho, hkp, hg2, hlk, hwd⟩ := hrel
        obtain ⟨ia, ic, rfl, _⟩ := hg2.shape
        have HOX := Lib.hid ho
        have HKX := Lib.hid hkp
        have HGX := Lib.hid hg2
        have HWD := Lib.hid hwd
        have hzx := hkp.size
        obtain ⟨x0, x1, x2, x3, _⟩ := blk4 (ho.blk (b := ⟨w.heap.size, _, _⟩) (List.mem_cons_of_mem _ (List.mem_cons_of_mem _ (List.mem_cons_self ..))))
        clear ho hkp hg2 hwd HO1
        by_cases hk : 0 < k
        · have i0 : (0 : Int) < (k : Int) := by omega
          go_wp2_with fail
          refine (HRW.out wx HOX.out.kept HOX.out.tape).mono ?_
          rintro e w7 ⟨vn, rfl, ⟨x, hxl, hxv, hro⟩, ht, hkk⟩
          have HS7 : Hid (RS T wx.heap.size wx w7 [] n vn) := Lib.hid ⟨(OB.start HOX.out.tape).step ht hkk, ⟨x, hro, hxl, hxv⟩, Nat.le_refl _, fun b hb => by cases hb⟩
          clear ht hkk hro hxl hxv x0 x1 x2 x3 x
          obtain ⟨vg, vc, hv7, _⟩ := HS7.out.at hcl1
          obtain rfl := hv7
          dsimp only
          go_wp2_with fail
          refine (bool_any T 12 _ (by omega) (by omega) HS7.out.ob.tape).mono ?_
          rintro e w8 ⟨_, rfl, ⟨b3, rfl⟩, ht, hkk⟩
          have HSd := Lib.hid (HS7.out.step ht hkk)
          clear ht hkk HS7
          dsimp only
          go_upto_if 82 with fail
          go_cut [] (fun wy => RS T wx.heap.size wx wy [] n (.slice (some ⟨vg, 0, none⟩) n vc))
          case first =>
            cases b3 with
            | false =>
              go_wp2_with fail
              go_meet
              exact HSd.out
            | true =>
              go_wp2_with fail
              refine (next_any T (n : Int) _ (by omega) (by omega) HSd.out.ob.tape).mono ?_
              rintro e we ⟨_, rfl, ⟨ix, rfl, hix0, hix1⟩, ht, hkk⟩
              have HSe := Lib.hid (HSd.out.step ht hkk)
              clear ht hkk
              dsimp only
              go_wp2_with fail
              refine (value_any T _ HSe.out.ob.tape (HWO.out _ (HOX.out.kept.trans HSe.out.ob.kept))).mono ?_
              rintro e wf ⟨_, rfl, ⟨z, rfl, hzv⟩, ht, hkk⟩
              have HSf := Lib.hid (HSe.out.step ht hkk)
              clear ht hkk
              obtain ⟨kx, rfl⟩ : ∃ k : Nat, ix = (k : Int) := ⟨ix.toNat, by omega⟩
              obtain ⟨g, c, hvv, hg, hgz, hgc, hgm, hgf, hgy⟩ := HSf.out.at hcl1
              cases hvv
              obtain ⟨y, hy0, hy1, hy2⟩ := hgy kx (by omega)
              unfold maxLen at hgm
              have f0 := hgf (kx * 3)
              have f1 := hgf (kx * 3 + 1)
              have f2 := hgf (kx * 3 + 2)
              clear hgf hgy
              unfold valOf
              dsimp only
              go_wp2_with fail
              go_meet
              simpa using HSf.out.put kx (by omega) z hzv hg
          case rest =>
            rename World => w8
            have HS8 := Lib.hid hcut
            obtain ⟨x, hx8, hxl, hxv⟩ := hcut.rows
            have HXL := Lib.hid hxl
            have HXV := Lib.hid hxv
            have HO8 := Lib.hid (HOX.out.step hcut.ob.tape hcut.ob.kept)
            have HG8 := Lib.hid (HGX.out.keep rvStable hcut.ob.kept fun k h1 _ h => by unfold At at h; omega)
            have HK8 := Lib.hid (HKX.out.trans (hcut.ob.kept.weak fun k _ h => .inl h))
            have HY : Hid (RvR (OldOr w1.heap.size (.slice ia li.length ic)) w8 x [.slice (some ⟨vg, 0, none⟩) n vc]) := Lib.hid ⟨_, rfl, hx8.rows fun k h1 h2 hA => (by rcases hA with hA | hA; omega; have := (RowsO.lt HGX.out hA).2; omega)⟩
            have hz8 := hcut.ob.size
            have hdb := HO8.out.blk (b := ⟨w.heap.size + 2, _, _⟩) (List.mem_cons_self ..)
            dsimp only at hdb
            obtain ⟨d0, d1, d2, dz⟩ := blk3 hdb
            clear hdb hcut hx8 hxl hxv HSd
            go_wp2_with (at_builtin; go_loud (refine wpList_appG (w := w8) rvStable rfl _ _ 100 rfl 56 _ 1 24 Tryz.underlying100 infoVals rfl (by decide) w1.heap.size (.slice ia li.length ic) w8.heap.size #[.slice (some ⟨vg, 0, none⟩) n vc] li x rfl rfl rfl HG8.out rfl HY.out (by omega) (by unfold maxLen; omega) (by omega) ?_; intro v9 w9 hg9 hk9; have HG9 := Lib.hid hg9; have HO9 := Lib.hid (HO8.out.then hk9 (fun i hi hO => (by have := (RowsO.lt HG8.out hO).1; omega)) (fun b hb hO => (by have h0 := (RowsO.lt HG8.out hO).1; simp only [List.mem_cons, List.not_mem_nil, or_false] at hb; rcases hb with rfl | rfl | rfl <;> dsimp only at h0 <;> omega))); have HK9 := Lib.hid (HK8.out.then hk9 fun i hi hO => absurd (RowsO.lt HG8.out hO).1 (by omega)); obtain ⟨a9, c9, hv9, _⟩ := hg9.shape; simp only [List.length_append, List.length_singleton] at hv9; subst hv9; have hdb := HO9.out.blk (b := ⟨w.heap.size + 2, _, _⟩) (List.mem_cons_self ..); dsimp only at hdb; have HDB := Lib.hid hdb; obtain ⟨d40, d41, d42, dz4⟩ := blk3 hdb; have f40 := blk_fr hdb 0; clear hg9 hk9 hdb))
            go_roundw
            case rel =>
              refine ⟨k - 1, _, li ++ [x], by go_num, HO9.out.put 0 _ (blk3_set0 HDB.out) (by simp), HK9.out.setCell (p := ⟨w.heap.size + 2, 0, none⟩) (fun _ => .inr rfl) _, HG9.out.keep rvStable ((Keep.refl (At (w.heap.size + 2)) w9).setCell (p := ⟨w.heap.size + 2, 0, none⟩) (fun _ => rfl) _) (fun k h1 _ h => by unfold At at h; omega), by simp; omega, fun q hq => ?_⟩
              rcases List.mem_append.1 hq with hq | hq
              · exact HWD.out q hq
              · simp only [List.mem_cons, List.not_mem_nil, or_false] at hq
                subst hq
                exact ⟨HXL.out, HXV.out⟩
            case measure => simp [intOf]; omega
        · obtain rfl : k = 0 := by omega
          have hdb := HOX.out.blk (b := ⟨w.heap.size + 2, _, _⟩) (List.mem_cons_self ..)
          dsimp only at hdb
          obtain ⟨d0, d1, d2, dz⟩ := blk3 hdb
          have hub := HOX.out.blk (b := ⟨w.heap.size + 1, _, _⟩) (List.mem_cons_of_mem _ (List.mem_cons_self ..))
          dsimp only at hub
          have uf0 := blk_fr hub 0
          have uf1 := blk_fr hub 1
          have uf2 := blk_fr hub 2
          obtain ⟨u0, u1, u2, uz⟩ := blk3 hub
          have hb1 := blk3_set0 (v := .slice ia li.length ic) hub
          have hb2 := blk3_set1 (v := .slice da ld.length dc) hb1
          have hb3 := blk3_set2 (v := .slice ua lu.length uc) hb2
          have HB1 := Lib.hid hb1
          have HB2 := Lib.hid hb2
          have HB3 := Lib.hid hb3
          clear hdb hub hb1 hb2 hb3
          have HIS : Hid (RvsR (Old w1.heap.size) wx (.slice ia li.length ic) li) := Lib.hid (HGX.out.rows rvStable)
          go_wp2_with fail
          refine bodyPost_ret (v := .agg #[.slice ia li.length ic, .slice da ld.length dc, .slice ua lu.length uc]) (by simp [results, Tryz.results30, go_sem, u0, u1, u2]) rfl ?_
          have hne : ∀ b ∈ ([⟨w.heap.size + 2, #[.slice ia li.length ic, .slice da ld.length dc, .slice ua lu.length uc], 102⟩, ⟨w.heap.size, #[.string nm, .slice ca n cc, .int .i64 nx, .slice a m cap], 96⟩] : List OwnBlk), b.pos ≠ w.heap.size + 1 := by simp
          have hf := ((HOX.out.swap.put 0 _ HB1.out hne).put 1 _ HB2.out hne).put 2 _ HB3.out hne
          have k5 := (((Keep.refl (At (w.heap.size + 1)) wx).setCell (p := ⟨w.heap.size + 1, 0, none⟩) (fun _ => rfl) (.slice ia li.length ic)).setCell (p := ⟨w.heap.size + 1, 1, none⟩) (fun _ => rfl) (.slice da ld.length dc)).setCell (p := ⟨w.heap.size + 1, 2, none⟩) (fun _ => rfl) (.slice ua lu.length uc)
          generalize World.setCell _ (⟨w.heap.size + 1, 2, none⟩ : Addr) _ = W9 at hf k5 ⊢
          have kk : Keep (Old (w.heap.size + 3)) w1 W9 := (HKX.out.weak fun k _ h => by unfold Old; omega).trans (k5.weak fun k _ h => by unfold At at h; unfold Old; omega)
          have q1 := HIS.out.keep (k5.weak fun k _ h => by unfold At at h; unfold Old; omega)
          have hTO : ∀ N, w.heap.size ≤ N → ∀ k, k < W9.heap.size → At T k → Old N k := fun N hN k _ h => by unfold At at h; unfold Old; omega
          refine hf.gives ⟨_, _, _, li, ld, lu, rfl, ⟨q1.weak (hTO _ (by omega)), RowsR.weak (HD1.out.keep kk) (hTO _ (by omega)) fun _ _ _ h => h, (HU1.out.keep kk).weak (hTO _ (by omega))⟩, HLD.out, by omega, HDI.out, fun p hp => (HUI.out p hp).1, fun p hp => (HUI.out p hp).2, HWD.out⟩
end Go.Proofs.YtkhlmofcdchccaaGreatDoor
