/- Whether a table is valid. -/
import Derived.Test.YtkhlmofcdchccaaGreatDoorU05
namespace Go.Proofs.YtkhlmofcdchccaaGreatDoor
open Go.RowKit Go.Maps

set_option maxRecDepth 100000 in
set_option maxHeartbeats 8000000 in
theorem r6valid_any {M : Nat → Prop} (nm : ByteArray) (cv rv : Value) (nx : Int) (cl : List Col) (l : List (Int × List Val)) (w : World) (hc : ColsR M w cv cl) (hr : TrsR M w rv l) (hl : l.length ≤ 200) (hx : ∀ r ∈ l, r.2.length ≤ 1000 ∧ ∀ y ∈ r.2, ValidVal y) (hs : nm.size ≤ maxLen) (hcs : ∀ c ∈ cl, c.name.size ≤ maxLen) :
    Calls Tryz.prog 69 #[.agg #[.string nm, cv, .int .i64 nx, rv]] w (BoolBel w) := by
  have HD := Lib.hid fun wx (k : Below w.heap.size w wx) => r6dup_any nm cv rv nx cl l wx (hc.keep (.bel k)) (hr.keep (.bel k)) hl hx
  have HS := Lib.hid fun wx (k : Below w.heap.size w wx) => rsch_any ⟨nm, cl⟩ cv wx (hc.keep (.bel k)) hs hcs
  have HFT := Lib.hid fun wx u x (k : Below w.heap.size w wx) hu hxx => r5fits_any (M := M) nm cv u cl x wx (hc.keep (.bel k)) hu hxx
  obtain ⟨ca, cc, rfl, hcm⟩ := hc.shape
  obtain ⟨a, cap, rfl, hm⟩ := hr.shape
  unfold maxLen at hm
  have HX := Lib.hid hx
  have HL := Lib.hid fun j (hj : j < l.length) => rows_row hr hj
  obtain ⟨n, hn⟩ : ∃ n, l.length = n := ⟨_, rfl⟩
  rw [hn] at HL hm hl HD ⊢
  clear hr hn hx hc hs hcs
  generalize schV ⟨nm, cl⟩ = vb at HS
  go_enter Tryz.func69, Tryz.ntmps69
  go_wp2_with fail
  have hbx := heap_alloc_new w (.cells #[.string nm, .slice ca cl.length cc, .int .i64 nx, .slice a n cap] 96)
  have HB := Lib.hid ((Below.refl w.heap.size w).alloc (Nat.le_refl _) (.cells #[.string nm, .slice ca cl.length cc, .int .i64 nx, .slice a n cap] 96))
  generalize World.alloc w _ = W0 at hbx HB ⊢
  refine (HS.out W0 HB.out).mono ?_
  rintro e w1 ⟨rfl, hb⟩
  have HB1 := Lib.hid (HB.out.trans (hb.mono HB.out.size))
  have hbx1 := (hb.block w.heap.size (Array.getElem?_eq_some_iff.1 hbx).1).trans hbx
  obtain ⟨x0, x1, x2, x3, _⟩ := blk4 hbx1
  have HBX := Lib.hid hbx1
  clear hb hbx HB hbx1
  dsimp only
  cases vb
  case false =>
    go_wp2_with fail
    go_ret
    exact ⟨_, rfl, HB1.out⟩
  case true =>
    by_cases p1 : (100 : Int) < (n : Int)
    · go_wp2_with fail
      go_ret
      exact ⟨_, rfl, HB1.out⟩
    by_cases p2 : nx < 1
    · go_wp2_with fail
      go_ret
      exact ⟨_, rfl, HB1.out⟩
    by_cases p3 : (2147483648 : Int) < nx
    · go_wp2_with fail
      go_ret
      exact ⟨_, rfl, HB1.out⟩
    go_wp2_with fail
    go_loopw [28] (fun i wr => ∃ j : Nat, j ≤ n ∧ i = .int .i64 (j : Int) ∧ Below w.heap.size w wr ∧ wr.heap[w.heap.size]? = some (.cells #[.string nm, .slice ca cl.length cc, .int .i64 nx, .slice a n cap] 96 (0, 0))) (fun i _ => n - (intOf i).toNat)
    case atStart => exact ⟨0, Nat.zero_le _, rfl, HB1.out, HBX.out⟩
    case round =>
      rename World => wr
      obtain ⟨j, hj, rfl, hbel, hblk⟩ := hrel
      have HBR := Lib.hid hbel
      have hz0 := hbel.size
      have hzr := (Array.getElem?_eq_some_iff.1 hblk).1
      clear hbel x0 x1 x2 x3
      obtain ⟨x0, x1, x2, x3, _⟩ := blk4 hblk
      have HBL := Lib.hid hblk
      clear hblk
      by_cases hlt : j < n
      · obtain ⟨r, b, o, cs, hrj, hrm, rfl, hbz, ⟨v, rfl, hvr⟩, hcs, hcap, hcm⟩ := HL.out j hlt
        unfold maxLen at hcm
        obtain ⟨c0, c1⟩ := CellsAt.c2 (hcs.keep (M := NoM) (.bel HBR.out) fun h => h)
        obtain ⟨ra, rc, rfl, _⟩ := hvr.shape
        have HVR := Lib.hid hvr
        obtain ⟨hlen, hval⟩ := HX.out r hrm
        have HVV := Lib.hid fun y hy => (i64R_valid (hval y hy)).2.2
        clear hcs hrj hvr hrm hval
        have i0 : (0 : Int) ≤ (j : Int) := by omega
        have i1 : (j : Int) < (n : Int) := by omega
        have hbx := heap_alloc_new wr (.cells #[.int .i64 r.1, .slice ra r.2.length rc] 139)
        have hbw : Below wr.heap.size wr (wr.alloc (.cells #[.int .i64 r.1, .slice ra r.2.length rc] 139)) := (Below.refl _ _).alloc (Nat.le_refl _) _
        have HB2 := Lib.hid (HBR.out.alloc hz0 (.cells #[.int .i64 r.1, .slice ra r.2.length rc] 139))
        go_upto_region 6 with fail
        generalize World.alloc wr _ = W2 at HB2 hbx hbw ⊢
        obtain ⟨e0, e1, _⟩ := blk2 hbx
        have y0 := (hbw.cell (p := ⟨w.heap.size, 0, none⟩) hzr).trans x0
        have y1 := (hbw.cell (p := ⟨w.heap.size, 1, none⟩) hzr).trans x1
        have y2 := (hbw.cell (p := ⟨w.heap.size, 2, none⟩) hzr).trans x2
        have y3 := (hbw.cell (p := ⟨w.heap.size, 3, none⟩) hzr).trans x3
        have hz2 : wr.heap.size < W2.heap.size := (Array.getElem?_eq_some_iff.1 hbx).1
        have hz2' : w.heap.size < W2.heap.size := by omega
        have HBL2 := Lib.hid ((hbw.block _ hzr).trans HBL.out)
        have HKS := Lib.hid (fun (w' : World) (h : Below W2.heap.size W2 w') => show w'.cell? ⟨w.heap.size, 0, none⟩ = some (.string nm) ∧ w'.cell? ⟨w.heap.size, 1, none⟩ = some (.slice ca cl.length cc) ∧ w'.cell? ⟨w.heap.size, 2, none⟩ = some (.int .i64 nx) ∧ w'.cell? ⟨w.heap.size, 3, none⟩ = some (.slice (some ⟨b, o, none⟩) n cap) ∧ w'.cell? ⟨wr.heap.size, 0, none⟩ = some (.int .i64 r.1) ∧ w'.cell? ⟨wr.heap.size, 1, none⟩ = some (.slice ra r.2.length rc) from ⟨(h.cell (p := ⟨w.heap.size, 0, none⟩) hz2').trans y0, (h.cell (p := ⟨w.heap.size, 1, none⟩) hz2').trans y1, (h.cell (p := ⟨w.heap.size, 2, none⟩) hz2').trans y2, (h.cell (p := ⟨w.heap.size, 3, none⟩) hz2').trans y3, (h.cell (p := ⟨wr.heap.size, 0, none⟩) hz2).trans e0, (h.cell (p := ⟨wr.heap.size, 1, none⟩) hz2).trans e1⟩)
        clear x0 x1 x2 x3 hbx
        by_cases pA : r.1 < 1
        · skip
          go_quiet (fail)
          go_wp2_with fail
          go_ret
          exact ⟨_, rfl, ⟨HB2.out.os, HB2.out.tape, HB2.out.output, HB2.out.size, HB2.out.block⟩⟩
        by_cases pB : nx ≤ r.1
        · skip
          go_quiet (fail)
          go_wp2_with fail
          go_ret
          exact ⟨_, rfl, ⟨HB2.out.os, HB2.out.tape, HB2.out.output, HB2.out.size, HB2.out.block⟩⟩
        have HFC := Lib.hid (HFT.out W2.drew _ r.2 (Below.trans HB2.out (below_drew (w := W2) (Below.refl _ _) |>.mono HB2.out.size)) (HVR.out.keep (.bel (Below.trans HB2.out (below_drew (w := W2) (Below.refl _ _) |>.mono HB2.out.size)))) HVV.out)
        by_cases pC : (0 : Int) < (j : Int)
        · obtain ⟨k, rfl⟩ : ∃ k, j = k + 1 := ⟨j - 1, by omega⟩
          obtain ⟨⟨pid, pl⟩, b1, o1, cs1, _, _, hab, _, ⟨pv, rfl, _⟩, hcs1, _, _⟩ := HL.out k (by omega)
          cases hab
          have q0 := (CellsAt.c2 (hcs1.keep (M := NoM) (.bel HB2.out) fun h => h)).1
          have hbW : b < W2.heap.size := by omega
          have HKP := Lib.hid (fun (w' : World) (h : Below W2.heap.size W2 w') => show w'.cell? ⟨w.heap.size, 0, none⟩ = some (.string nm) ∧ w'.cell? ⟨w.heap.size, 1, none⟩ = some (.slice ca cl.length cc) ∧ w'.cell? ⟨w.heap.size, 2, none⟩ = some (.int .i64 nx) ∧ w'.cell? ⟨w.heap.size, 3, none⟩ = some (.slice (some ⟨b, o, none⟩) n cap) ∧ w'.cell? ⟨wr.heap.size, 0, none⟩ = some (.int .i64 r.1) ∧ w'.cell? ⟨wr.heap.size, 1, none⟩ = some (.slice ra r.2.length rc) ∧ w'.cell? ⟨b, o + k * 2, none⟩ = some (.int .i64 pid) from (let ⟨a0, a1, a2, a3, a4, a5⟩ := HKS.out w' h; ⟨a0, a1, a2, a3, a4, a5, (h.cell (p := ⟨b, o + k * 2, none⟩) hbW).trans q0⟩))
          have i2 : (0 : Int) ≤ (k : Int) := by omega
          have i3 : (k : Int) < (n : Int) := by omega
          have pC' : 0 < k + 1 := by omega
          have hk1 : ((k + 1 : Nat) : Int) - 1 = (k : Int) := by omega
          have hwk : IntKind.i64.wrap (k : Int) = (k : Int) := IntWalk.i64_in _ (by omega)
          have hk2 : (k : Int) + 1 - 1 = (k : Int) := by omega
          clear hcs1
          by_cases pD : r.1 ≤ pid
          · skip
            go_quiet (fail)
            go_wp2_with fail
            go_ret
            exact ⟨_, rfl, ⟨HB2.out.os, HB2.out.tape, HB2.out.output, HB2.out.size, HB2.out.block⟩⟩
          · skip
            refine wp_region_held_drew (S := fun w' => w'.cell? ⟨w.heap.size, 0, none⟩ = some (.string nm) ∧ w'.cell? ⟨w.heap.size, 1, none⟩ = some (.slice ca cl.length cc) ∧ w'.cell? ⟨w.heap.size, 2, none⟩ = some (.int .i64 nx) ∧ w'.cell? ⟨w.heap.size, 3, none⟩ = some (.slice (some ⟨b, o, none⟩) n cap) ∧ w'.cell? ⟨wr.heap.size, 0, none⟩ = some (.int .i64 r.1) ∧ w'.cell? ⟨wr.heap.size, 1, none⟩ = some (.slice ra r.2.length rc) ∧ w'.cell? ⟨b, o + k * 2, none⟩ = some (.int .i64 pid)) (by kernel_rfl) (HKP.out _ (below_drew (Below.refl _ _))) fun hHeld => ?_
            refine wpAnyH_take (i := 0) (oi := _) (v := ?_) rfl (by kernel_rfl) (by kernel_rfl) (by kernel_rfl) (fun _ _ _ h => h) ((.inl ⟨by kernel_rfl, fun wh hwh => by (try dsimp only at hwh); obtain ⟨g0, g1, g2, g3, g4, g5, g6⟩ := hwh; first | (simp [execOp, go_sem, *]; done) | (simp [execOp, go_sem, *]; with_reducible rfl)⟩)) hHeld ?_
            (try simp only [Act.put, List.setIfInBounds_toArray])
            refine wpAnyH_take (i := 1) (oi := _) (v := ?_) rfl (by kernel_rfl) (by kernel_rfl) (by kernel_rfl) (fun _ _ _ h => h) ((.inl ⟨by kernel_rfl, fun wh hwh => by (try dsimp only at hwh); obtain ⟨g0, g1, g2, g3, g4, g5, g6⟩ := hwh; first | (simp [execOp, go_sem, *]; done) | (simp [execOp, go_sem, *]; with_reducible rfl)⟩)) hHeld ?_
            (try simp only [Act.put])
            refine wpAnyH_take (i := 2) (oi := _) (v := ?_) rfl (by kernel_rfl) (by kernel_rfl) (by kernel_rfl) (fun _ _ _ h => h) ((.inl ⟨by kernel_rfl, fun wh hwh => by (try dsimp only at hwh); obtain ⟨g0, g1, g2, g3, g4, g5, g6⟩ := hwh; first | (simp [execOp, go_sem, *]; done) | (simp [execOp, go_sem, *]; with_reducible rfl)⟩)) hHeld ?_
            (try simp only [Act.put])
            refine wpAnyH_take (i := 3) (oi := _) (v := ?_) rfl (by kernel_rfl) (by kernel_rfl) (by kernel_rfl) (fun _ _ _ h => h) ((.inl ⟨by kernel_rfl, fun wh hwh => by (try dsimp only at hwh); obtain ⟨g0, g1, g2, g3, g4, g5, g6⟩ := hwh; first | (simp [execOp, go_sem, *]; done) | (simp [execOp, go_sem, *]; with_reducible rfl)⟩)) hHeld ?_
            (try simp only [Act.put])
            refine wpAnyH_take (i := 4) (oi := _) (v := ?_) rfl (by kernel_rfl) (by kernel_rfl) (by kernel_rfl) (fun _ _ _ h => h) ((.inl ⟨by kernel_rfl, fun wh hwh => by (try dsimp only at hwh); obtain ⟨g0, g1, g2, g3, g4, g5, g6⟩ := hwh; first | (simp [execOp, go_sem, *]; done) | (simp [execOp, go_sem, *]; with_reducible rfl)⟩)) hHeld ?_
            (try simp only [Act.put])
            refine wpAnyH_take (i := 5) (oi := _) (v := ?_) rfl (by kernel_rfl) (by kernel_rfl) (by kernel_rfl) (fun _ _ _ h => h) ((.inl ⟨by kernel_rfl, fun wh hwh => by (try dsimp only at hwh); obtain ⟨g0, g1, g2, g3, g4, g5, g6⟩ := hwh; first | (simp [execOp, go_sem, *]; done) | (simp [execOp, go_sem, *]; with_reducible rfl)⟩)) hHeld ?_
            (try simp only [Act.put])
            refine wpAnyH_take (i := 6) (oi := _) (v := ?_) rfl (by kernel_rfl) (by kernel_rfl) (by kernel_rfl) (fun _ _ _ h => h) ((.inl ⟨by kernel_rfl, fun wh hwh => by (try dsimp only at hwh); obtain ⟨g0, g1, g2, g3, g4, g5, g6⟩ := hwh; first | (simp [execOp, go_sem, *]; done) | (simp [execOp, go_sem, *]; with_reducible rfl)⟩)) hHeld ?_
            (try simp only [Act.put])
            refine wpAnyH_take (i := 7) (oi := _) (v := ?_) rfl (by kernel_rfl) (by kernel_rfl) (by kernel_rfl) (fun _ _ _ h => h) ((.inl ⟨by kernel_rfl, fun wh hwh => by (try dsimp only at hwh); obtain ⟨g0, g1, g2, g3, g4, g5, g6⟩ := hwh; first | (simp [execOp, go_sem, *]; done) | (simp [execOp, go_sem, *]; with_reducible rfl)⟩)) hHeld ?_
            (try simp only [Act.put])
            refine wpAnyH_take (i := 8) (oi := _) (v := ?_) rfl (by kernel_rfl) (by kernel_rfl) (by kernel_rfl) (fun _ _ _ h => h) ((.inl ⟨by kernel_rfl, fun wh hwh => by (try dsimp only at hwh); obtain ⟨g0, g1, g2, g3, g4, g5, g6⟩ := hwh; first | (simp [execOp, go_sem, *]; done) | (simp [execOp, go_sem, *]; with_reducible rfl)⟩)) hHeld ?_
            (try simp only [Act.put])
            refine wpAnyH_take (i := 9) (oi := _) (v := ?_) rfl (by kernel_rfl) (by kernel_rfl) (by kernel_rfl) (fun _ _ _ h => h) ((.inl ⟨by kernel_rfl, fun wh hwh => by (try dsimp only at hwh); obtain ⟨g0, g1, g2, g3, g4, g5, g6⟩ := hwh; first | (simp [execOp, go_sem, *]; done) | (simp [execOp, go_sem, *]; with_reducible rfl)⟩)) hHeld ?_
            (try simp only [Act.put])
            refine wpAnyH_take (i := 10) (oi := _) (v := ?_) rfl (by kernel_rfl) (by kernel_rfl) (by kernel_rfl) (fun _ _ _ h => h) ((.inl ⟨by kernel_rfl, fun wh hwh => by (try dsimp only at hwh); obtain ⟨g0, g1, g2, g3, g4, g5, g6⟩ := hwh; first | (simp [execOp, go_sem, *]; done) | (simp [execOp, go_sem, *]; with_reducible rfl)⟩)) hHeld ?_
            (try simp only [Act.put])
            refine wpAnyH_take (i := 11) (oi := _) (v := ?_) rfl (by kernel_rfl) (by kernel_rfl) (by kernel_rfl) (fun _ _ _ h => h) ((.inl ⟨by kernel_rfl, fun wh hwh => by (try dsimp only at hwh); obtain ⟨g0, g1, g2, g3, g4, g5, g6⟩ := hwh; first | (simp [execOp, go_sem, *]; done) | (simp [execOp, go_sem, *]; with_reducible rfl)⟩)) hHeld ?_
            (try simp only [Act.put])
            refine wpAnyH_take (i := 12) (oi := _) (v := ?_) rfl (by kernel_rfl) (by kernel_rfl) (by kernel_rfl) (fun _ _ _ h => h) ((.inl ⟨by kernel_rfl, fun wh hwh => by (try dsimp only at hwh); obtain ⟨g0, g1, g2, g3, g4, g5, g6⟩ := hwh; first | (simp [execOp, go_sem, *]; done) | (simp [execOp, go_sem, *]; with_reducible rfl)⟩)) hHeld ?_
            (try simp only [Act.put])
            refine wpAnyH_take (i := 13) (oi := _) (v := ?_) rfl (by kernel_rfl) (by kernel_rfl) (by kernel_rfl) (fun _ _ _ h => h) ((.inl ⟨by kernel_rfl, fun wh hwh => by (try dsimp only at hwh); obtain ⟨g0, g1, g2, g3, g4, g5, g6⟩ := hwh; first | (simp [execOp, go_sem, *]; done) | (simp [execOp, go_sem, *]; with_reducible rfl)⟩)) hHeld ?_
            (try simp only [Act.put])
            refine wpAnyH_take (i := 14) (oi := _) (v := ?_) rfl (by kernel_rfl) (by kernel_rfl) (by kernel_rfl) (fun _ _ _ h => h) ((.inl ⟨by kernel_rfl, fun wh hwh => by (try dsimp only at hwh); obtain ⟨g0, g1, g2, g3, g4, g5, g6⟩ := hwh; first | (simp [execOp, go_sem, *]; done) | (simp [execOp, go_sem, *]; with_reducible rfl)⟩)) hHeld ?_
            (try simp only [Act.put])
            refine wpAnyH_take (i := 15) (oi := _) (v := ?_) rfl (by kernel_rfl) (by kernel_rfl) (by kernel_rfl) (fun _ _ _ h => h) ((.inl ⟨by kernel_rfl, fun wh hwh => by (try dsimp only at hwh); obtain ⟨g0, g1, g2, g3, g4, g5, g6⟩ := hwh; first | (simp [execOp, go_sem, *]; done) | (simp [execOp, go_sem, *]; with_reducible rfl)⟩)) hHeld ?_
            (try simp only [Act.put])
            refine wpAnyH_take (i := 16) (oi := _) (v := ?_) rfl (by kernel_rfl) (by kernel_rfl) (by kernel_rfl) (fun _ _ _ h => h) ((.inl ⟨by kernel_rfl, fun wh hwh => by (try dsimp only at hwh); obtain ⟨g0, g1, g2, g3, g4, g5, g6⟩ := hwh; first | (simp [execOp, go_sem, *]; done) | (simp [execOp, go_sem, *]; with_reducible rfl)⟩)) hHeld ?_
            (try simp only [Act.put])
            refine wpAnyH_take (i := 17) (oi := _) (v := ?_) rfl (by kernel_rfl) (by kernel_rfl) (by kernel_rfl) (fun _ _ _ h => h) ((.inl ⟨by kernel_rfl, fun wh hwh => by (try dsimp only at hwh); obtain ⟨g0, g1, g2, g3, g4, g5, g6⟩ := hwh; first | (simp [execOp, go_sem, *]; done) | (simp [execOp, go_sem, *]; with_reducible rfl)⟩)) hHeld ?_
            (try simp only [Act.put])
            refine wpAnyH_take (i := 18) (oi := _) (v := ?_) rfl (by kernel_rfl) (by kernel_rfl) (by kernel_rfl) (fun _ _ _ h => h) ((.inl ⟨by kernel_rfl, fun wh hwh => by (try dsimp only at hwh); obtain ⟨g0, g1, g2, g3, g4, g5, g6⟩ := hwh; first | (simp [execOp, go_sem, *]; done) | (simp [execOp, go_sem, *]; with_reducible rfl)⟩)) hHeld ?_
            (try simp only [Act.put])
            refine wpAnyH_take (i := 19) (oi := _) (v := ?_) rfl (by kernel_rfl) (by kernel_rfl) (by kernel_rfl) (fun _ _ _ h => h) ((.inl ⟨by kernel_rfl, fun wh hwh => by (try dsimp only at hwh); obtain ⟨g0, g1, g2, g3, g4, g5, g6⟩ := hwh; first | (simp [execOp, go_sem, *]; done) | (simp [execOp, go_sem, *]; with_reducible rfl)⟩)) hHeld ?_
            (try simp only [Act.put])
            refine wpAnyH_take (i := 20) (oi := _) (v := ?_) rfl (by kernel_rfl) (by kernel_rfl) (by kernel_rfl) (fun _ _ _ h => h) ((.inl ⟨by kernel_rfl, fun wh hwh => by (try dsimp only at hwh); obtain ⟨g0, g1, g2, g3, g4, g5, g6⟩ := hwh; first | (simp [execOp, go_sem, *]; done) | (simp [execOp, go_sem, *]; with_reducible rfl)⟩)) hHeld ?_
            (try simp only [Act.put])
            refine wpAnyH_take (i := 21) (oi := _) (v := ?_) rfl (by kernel_rfl) (by kernel_rfl) (by kernel_rfl) (fun _ _ _ h => h) ((.inl ⟨by kernel_rfl, fun wh hwh => by (try dsimp only at hwh); obtain ⟨g0, g1, g2, g3, g4, g5, g6⟩ := hwh; first | (simp [execOp, go_sem, *]; done) | (simp [execOp, go_sem, *]; with_reducible rfl)⟩)) hHeld ?_
            (try simp only [Act.put])
            refine wpAnyH_take (i := 22) (oi := _) (v := ?_) rfl (by kernel_rfl) (by kernel_rfl) (by kernel_rfl) (fun _ _ _ h => h) ((.inl ⟨by kernel_rfl, fun wh hwh => by (try dsimp only at hwh); obtain ⟨g0, g1, g2, g3, g4, g5, g6⟩ := hwh; first | (simp [execOp, go_sem, *]; done) | (simp [execOp, go_sem, *]; with_reducible rfl)⟩)) hHeld ?_
            (try simp only [Act.put])
            refine wpAnyH_take (i := 23) (oi := _) (v := ?_) rfl (by kernel_rfl) (by kernel_rfl) (by kernel_rfl) (fun _ _ _ h => h) ((.inl ⟨by kernel_rfl, fun wh hwh => by (try dsimp only at hwh); obtain ⟨g0, g1, g2, g3, g4, g5, g6⟩ := hwh; first | (simp [execOp, go_sem, *]; done) | (simp [execOp, go_sem, *]; with_reducible rfl)⟩)) hHeld ?_
            (try simp only [Act.put])
            refine wpAnyH_take (i := 24) (oi := _) (v := ?_) rfl (by kernel_rfl) (by kernel_rfl) (by kernel_rfl) (fun _ _ _ h => h) ((.inl ⟨by kernel_rfl, fun wh hwh => by (try dsimp only at hwh); obtain ⟨g0, g1, g2, g3, g4, g5, g6⟩ := hwh; first | (simp [execOp, go_sem, *]; done) | (simp [execOp, go_sem, *]; with_reducible rfl)⟩)) hHeld ?_
            (try simp only [Act.put])
            refine wpAnyH_take (i := 25) (oi := _) (v := ?_) rfl (by kernel_rfl) (by kernel_rfl) (by kernel_rfl) (fun _ _ _ h => h) ((.inl ⟨by kernel_rfl, fun wh hwh => by (try dsimp only at hwh); obtain ⟨g0, g1, g2, g3, g4, g5, g6⟩ := hwh; first | (simp [execOp, go_sem, *]; done) | (simp [execOp, go_sem, *]; with_reducible rfl)⟩)) hHeld ?_
            (try simp only [Act.put])
            refine wpAnyH_take (i := 26) (oi := _) (v := ?_) rfl (by kernel_rfl) (by kernel_rfl) (by kernel_rfl) (fun _ _ _ h => h) ((.inl ⟨by kernel_rfl, fun wh hwh => by (try dsimp only at hwh); obtain ⟨g0, g1, g2, g3, g4, g5, g6⟩ := hwh; first | (simp [execOp, go_sem, *]; done) | (simp [execOp, go_sem, *]; with_reducible rfl)⟩)) hHeld ?_
            (try simp only [Act.put])
            refine wpAnyH_take (i := 27) (oi := _) (v := ?_) rfl (by kernel_rfl) (by kernel_rfl) (by kernel_rfl) (fun _ _ _ h => h) ((.inl ⟨by kernel_rfl, fun wh hwh => by (try dsimp only at hwh); obtain ⟨g0, g1, g2, g3, g4, g5, g6⟩ := hwh; first | (simp [execOp, go_sem, *]; done) | (simp [execOp, go_sem, *]; with_reducible rfl)⟩)) hHeld ?_
            (try simp only [Act.put])
            refine wpAnyH_take (i := 28) (oi := _) (v := ?_) rfl (by kernel_rfl) (by kernel_rfl) (by kernel_rfl) (fun _ _ _ h => h) ((.inl ⟨by kernel_rfl, fun wh hwh => by (try dsimp only at hwh); obtain ⟨g0, g1, g2, g3, g4, g5, g6⟩ := hwh; first | (simp [execOp, go_sem, *]; done) | (simp [execOp, go_sem, *]; with_reducible rfl)⟩)) hHeld ?_
            (try simp only [Act.put])
            refine wpAnyH_take (i := 29) (oi := _) (v := ?_) rfl (by kernel_rfl) (by kernel_rfl) (by kernel_rfl) (fun _ _ _ h => h) ((.inl ⟨by kernel_rfl, fun wh hwh => by (try dsimp only at hwh); obtain ⟨g0, g1, g2, g3, g4, g5, g6⟩ := hwh; first | (simp [execOp, go_sem, *]; done) | (simp [execOp, go_sem, *]; with_reducible rfl)⟩)) hHeld ?_
            (try simp only [Act.put])
            refine wpAnyH_take (i := 30) (oi := _) (v := ?_) rfl (by kernel_rfl) (by kernel_rfl) (by kernel_rfl) (fun _ _ _ h => h) ((.inl ⟨by kernel_rfl, fun wh hwh => by (try dsimp only at hwh); obtain ⟨g0, g1, g2, g3, g4, g5, g6⟩ := hwh; first | (simp [execOp, go_sem, *]; done) | (simp [execOp, go_sem, *]; with_reducible rfl)⟩)) hHeld ?_
            (try simp only [Act.put])
            refine wpAnyH_ready (rs := [31]) (by kernel_rfl) (by simp) ?_
            refine AllReadyH.cons (o := _) rfl (fun K hK => ?_) ?_
            · go_simp
              refine HFC.out.mono ?_
              rintro e w4 ⟨z, rfl, hzl, hzh, hb⟩
              have HB4 := Lib.hid (below_drew hb)
              have HB5 := Lib.hid (HB2.out.trans (HB4.out.mono HB2.out.size))
              clear hb
              dsimp only
              by_cases hz : z = 0
              · subst hz
                refine hK.out _ _ (HKP.out _ HB4.out) fun hHeld => ?_
                refine wpAnyH_take (i := 32) (oi := _) (v := ?_) rfl (by kernel_rfl) (by kernel_rfl) (by kernel_rfl) (fun _ _ _ h => h) ((.inl ⟨by kernel_rfl, fun wh hwh => by (try dsimp only at hwh); obtain ⟨g0, g1, g2, g3, g4, g5, g6⟩ := hwh; first | (simp [execOp, go_sem, *]; done) | (simp [execOp, go_sem, *]; with_reducible rfl)⟩)) hHeld ?_
                (try simp only [Act.put, List.setIfInBounds_toArray])
                refine wpAnyH_take (i := 33) (oi := _) (v := ?_) rfl (by kernel_rfl) (by kernel_rfl) (by kernel_rfl) (fun _ _ _ h => h) ((.inl ⟨by kernel_rfl, fun wh hwh => by (try dsimp only at hwh); obtain ⟨g0, g1, g2, g3, g4, g5, g6⟩ := hwh; first | (simp [execOp, go_sem, *]; done) | (simp [execOp, go_sem, *]; with_reducible rfl)⟩)) hHeld ?_
                (try simp only [Act.put])
                refine wpAnyH_done (by kernel_rfl) ?_ _
                go_wp2_with fail
                go_roundw
                case rel => exact ⟨k + 1 + 1, by omega, by go_num, HB5.out, (HB4.out.block _ hz2').trans HBL2.out⟩
                case measure => simp [intOf]; omega
              · have bz : (z != 0) = true := by simpa using hz
                refine hK.out _ _ (HKP.out _ HB4.out) fun hHeld => ?_
                refine wpAnyH_take (i := 32) (oi := _) (v := ?_) rfl (by kernel_rfl) (by kernel_rfl) (by kernel_rfl) (fun _ _ _ h => h) ((.inl ⟨by kernel_rfl, fun wh hwh => by (try dsimp only at hwh); obtain ⟨g0, g1, g2, g3, g4, g5, g6⟩ := hwh; first | (simp [execOp, go_sem, *]; done) | (simp [execOp, go_sem, *]; with_reducible rfl)⟩)) hHeld ?_
                (try simp only [Act.put, List.setIfInBounds_toArray])
                refine wpAnyH_take (i := 33) (oi := _) (v := ?_) rfl (by kernel_rfl) (by kernel_rfl) (by kernel_rfl) (fun _ _ _ h => h) ((.inl ⟨by kernel_rfl, fun wh hwh => by (try dsimp only at hwh); obtain ⟨g0, g1, g2, g3, g4, g5, g6⟩ := hwh; first | (simp [execOp, go_sem, *]; done) | (simp [execOp, go_sem, *]; with_reducible rfl)⟩)) hHeld ?_
                (try simp only [Act.put])
                refine wpAnyH_done (by kernel_rfl) ?_ _
                go_wp2_with fail
                go_ret
                exact ⟨_, rfl, HB5.out⟩
            exact AllReadyH.nil
        · have pC' : ¬ 0 < j := by omega
          refine wp_region_held_drew (S := fun w' => w'.cell? ⟨w.heap.size, 0, none⟩ = some (.string nm) ∧ w'.cell? ⟨w.heap.size, 1, none⟩ = some (.slice ca cl.length cc) ∧ w'.cell? ⟨w.heap.size, 2, none⟩ = some (.int .i64 nx) ∧ w'.cell? ⟨w.heap.size, 3, none⟩ = some (.slice (some ⟨b, o, none⟩) n cap) ∧ w'.cell? ⟨wr.heap.size, 0, none⟩ = some (.int .i64 r.1) ∧ w'.cell? ⟨wr.heap.size, 1, none⟩ = some (.slice ra r.2.length rc)) (by kernel_rfl) (HKS.out _ (below_drew (Below.refl _ _))) fun hHeld => ?_
          refine wpAnyH_take (i := 0) (oi := _) (v := ?_) rfl (by kernel_rfl) (by kernel_rfl) (by kernel_rfl) (fun _ _ _ h => h) ((.inl ⟨by kernel_rfl, fun wh hwh => by (try dsimp only at hwh); obtain ⟨g0, g1, g2, g3, g4, g5⟩ := hwh; first | (simp [execOp, go_sem, *]; done) | (simp [execOp, go_sem, *]; with_reducible rfl)⟩)) hHeld ?_
          (try simp only [Act.put, List.setIfInBounds_toArray])
          refine wpAnyH_take (i := 1) (oi := _) (v := ?_) rfl (by kernel_rfl) (by kernel_rfl) (by kernel_rfl) (fun _ _ _ h => h) ((.inl ⟨by kernel_rfl, fun wh hwh => by (try dsimp only at hwh); obtain ⟨g0, g1, g2, g3, g4, g5⟩ := hwh; first | (simp [execOp, go_sem, *]; done) | (simp [execOp, go_sem, *]; with_reducible rfl)⟩)) hHeld ?_
          (try simp only [Act.put])
          refine wpAnyH_take (i := 2) (oi := _) (v := ?_) rfl (by kernel_rfl) (by kernel_rfl) (by kernel_rfl) (fun _ _ _ h => h) ((.inl ⟨by kernel_rfl, fun wh hwh => by (try dsimp only at hwh); obtain ⟨g0, g1, g2, g3, g4, g5⟩ := hwh; first | (simp [execOp, go_sem, *]; done) | (simp [execOp, go_sem, *]; with_reducible rfl)⟩)) hHeld ?_
          (try simp only [Act.put])
          refine wpAnyH_take (i := 3) (oi := _) (v := ?_) rfl (by kernel_rfl) (by kernel_rfl) (by kernel_rfl) (fun _ _ _ h => h) ((.inl ⟨by kernel_rfl, fun wh hwh => by (try dsimp only at hwh); obtain ⟨g0, g1, g2, g3, g4, g5⟩ := hwh; first | (simp [execOp, go_sem, *]; done) | (simp [execOp, go_sem, *]; with_reducible rfl)⟩)) hHeld ?_
          (try simp only [Act.put])
          refine wpAnyH_take (i := 4) (oi := _) (v := ?_) rfl (by kernel_rfl) (by kernel_rfl) (by kernel_rfl) (fun _ _ _ h => h) ((.inl ⟨by kernel_rfl, fun wh hwh => by (try dsimp only at hwh); obtain ⟨g0, g1, g2, g3, g4, g5⟩ := hwh; first | (simp [execOp, go_sem, *]; done) | (simp [execOp, go_sem, *]; with_reducible rfl)⟩)) hHeld ?_
          (try simp only [Act.put])
          refine wpAnyH_take (i := 5) (oi := _) (v := ?_) rfl (by kernel_rfl) (by kernel_rfl) (by kernel_rfl) (fun _ _ _ h => h) ((.inl ⟨by kernel_rfl, fun wh hwh => by (try dsimp only at hwh); obtain ⟨g0, g1, g2, g3, g4, g5⟩ := hwh; first | (simp [execOp, go_sem, *]; done) | (simp [execOp, go_sem, *]; with_reducible rfl)⟩)) hHeld ?_
          (try simp only [Act.put])
          refine wpAnyH_take (i := 6) (oi := _) (v := ?_) rfl (by kernel_rfl) (by kernel_rfl) (by kernel_rfl) (fun _ _ _ h => h) ((.inl ⟨by kernel_rfl, fun wh hwh => by (try dsimp only at hwh); obtain ⟨g0, g1, g2, g3, g4, g5⟩ := hwh; first | (simp [execOp, go_sem, *]; done) | (simp [execOp, go_sem, *]; with_reducible rfl)⟩)) hHeld ?_
          (try simp only [Act.put])
          refine wpAnyH_take (i := 7) (oi := _) (v := ?_) rfl (by kernel_rfl) (by kernel_rfl) (by kernel_rfl) (fun _ _ _ h => h) ((.inl ⟨by kernel_rfl, fun wh hwh => by (try dsimp only at hwh); obtain ⟨g0, g1, g2, g3, g4, g5⟩ := hwh; first | (simp [execOp, go_sem, *]; done) | (simp [execOp, go_sem, *]; with_reducible rfl)⟩)) hHeld ?_
          (try simp only [Act.put])
          refine wpAnyH_take (i := 8) (oi := _) (v := ?_) rfl (by kernel_rfl) (by kernel_rfl) (by kernel_rfl) (fun _ _ _ h => h) ((.inl ⟨by kernel_rfl, fun wh hwh => by (try dsimp only at hwh); obtain ⟨g0, g1, g2, g3, g4, g5⟩ := hwh; first | (simp [execOp, go_sem, *]; done) | (simp [execOp, go_sem, *]; with_reducible rfl)⟩)) hHeld ?_
          (try simp only [Act.put])
          refine wpAnyH_take (i := 9) (oi := _) (v := ?_) rfl (by kernel_rfl) (by kernel_rfl) (by kernel_rfl) (fun _ _ _ h => h) ((.inl ⟨by kernel_rfl, fun wh hwh => by (try dsimp only at hwh); obtain ⟨g0, g1, g2, g3, g4, g5⟩ := hwh; first | (simp [execOp, go_sem, *]; done) | (simp [execOp, go_sem, *]; with_reducible rfl)⟩)) hHeld ?_
          (try simp only [Act.put])
          refine wpAnyH_take (i := 10) (oi := _) (v := ?_) rfl (by kernel_rfl) (by kernel_rfl) (by kernel_rfl) (fun _ _ _ h => h) ((.inl ⟨by kernel_rfl, fun wh hwh => by (try dsimp only at hwh); obtain ⟨g0, g1, g2, g3, g4, g5⟩ := hwh; first | (simp [execOp, go_sem, *]; done) | (simp [execOp, go_sem, *]; with_reducible rfl)⟩)) hHeld ?_
          (try simp only [Act.put])
          refine wpAnyH_take (i := 11) (oi := _) (v := ?_) rfl (by kernel_rfl) (by kernel_rfl) (by kernel_rfl) (fun _ _ _ h => h) ((.inl ⟨by kernel_rfl, fun wh hwh => by (try dsimp only at hwh); obtain ⟨g0, g1, g2, g3, g4, g5⟩ := hwh; first | (simp [execOp, go_sem, *]; done) | (simp [execOp, go_sem, *]; with_reducible rfl)⟩)) hHeld ?_
          (try simp only [Act.put])
          refine wpAnyH_take (i := 12) (oi := _) (v := ?_) rfl (by kernel_rfl) (by kernel_rfl) (by kernel_rfl) (fun _ _ _ h => h) ((.inl ⟨by kernel_rfl, fun wh hwh => by (try dsimp only at hwh); obtain ⟨g0, g1, g2, g3, g4, g5⟩ := hwh; first | (simp [execOp, go_sem, *]; done) | (simp [execOp, go_sem, *]; with_reducible rfl)⟩)) hHeld ?_
          (try simp only [Act.put])
          refine wpAnyH_take (i := 13) (oi := _) (v := ?_) rfl (by kernel_rfl) (by kernel_rfl) (by kernel_rfl) (fun _ _ _ h => h) ((.inl ⟨by kernel_rfl, fun wh hwh => by (try dsimp only at hwh); obtain ⟨g0, g1, g2, g3, g4, g5⟩ := hwh; first | (simp [execOp, go_sem, *]; done) | (simp [execOp, go_sem, *]; with_reducible rfl)⟩)) hHeld ?_
          (try simp only [Act.put])
          refine wpAnyH_take (i := 14) (oi := _) (v := undef) rfl (by kernel_rfl) (by kernel_rfl) (by kernel_rfl) (fun _ _ _ h => h) (.inr ⟨by kernel_rfl, rfl⟩) hHeld ?_
          (try simp only [Act.put])
          refine wpAnyH_take (i := 15) (oi := _) (v := undef) rfl (by kernel_rfl) (by kernel_rfl) (by kernel_rfl) (fun _ _ _ h => h) (.inr ⟨by kernel_rfl, rfl⟩) hHeld ?_
          (try simp only [Act.put])
          refine wpAnyH_take (i := 16) (oi := _) (v := undef) rfl (by kernel_rfl) (by kernel_rfl) (by kernel_rfl) (fun _ _ _ h => h) (.inr ⟨by kernel_rfl, rfl⟩) hHeld ?_
          (try simp only [Act.put])
          refine wpAnyH_take (i := 17) (oi := _) (v := undef) rfl (by kernel_rfl) (by kernel_rfl) (by kernel_rfl) (fun _ _ _ h => h) (.inr ⟨by kernel_rfl, rfl⟩) hHeld ?_
          (try simp only [Act.put])
          refine wpAnyH_take (i := 18) (oi := _) (v := undef) rfl (by kernel_rfl) (by kernel_rfl) (by kernel_rfl) (fun _ _ _ h => h) (.inr ⟨by kernel_rfl, rfl⟩) hHeld ?_
          (try simp only [Act.put])
          refine wpAnyH_take (i := 19) (oi := _) (v := undef) rfl (by kernel_rfl) (by kernel_rfl) (by kernel_rfl) (fun _ _ _ h => h) (.inr ⟨by kernel_rfl, rfl⟩) hHeld ?_
          (try simp only [Act.put])
          refine wpAnyH_take (i := 20) (oi := _) (v := undef) rfl (by kernel_rfl) (by kernel_rfl) (by kernel_rfl) (fun _ _ _ h => h) (.inr ⟨by kernel_rfl, rfl⟩) hHeld ?_
          (try simp only [Act.put])
          refine wpAnyH_take (i := 21) (oi := _) (v := undef) rfl (by kernel_rfl) (by kernel_rfl) (by kernel_rfl) (fun _ _ _ h => h) (.inr ⟨by kernel_rfl, rfl⟩) hHeld ?_
          (try simp only [Act.put])
          refine wpAnyH_take (i := 22) (oi := _) (v := undef) rfl (by kernel_rfl) (by kernel_rfl) (by kernel_rfl) (fun _ _ _ h => h) (.inr ⟨by kernel_rfl, rfl⟩) hHeld ?_
          (try simp only [Act.put])
          refine wpAnyH_take (i := 23) (oi := _) (v := undef) rfl (by kernel_rfl) (by kernel_rfl) (by kernel_rfl) (fun _ _ _ h => h) (.inr ⟨by kernel_rfl, rfl⟩) hHeld ?_
          (try simp only [Act.put])
          refine wpAnyH_take (i := 24) (oi := _) (v := ?_) rfl (by kernel_rfl) (by kernel_rfl) (by kernel_rfl) (fun _ _ _ h => h) ((.inl ⟨by kernel_rfl, fun wh hwh => by (try dsimp only at hwh); obtain ⟨g0, g1, g2, g3, g4, g5⟩ := hwh; first | (simp [execOp, go_sem, *]; done) | (simp [execOp, go_sem, *]; with_reducible rfl)⟩)) hHeld ?_
          (try simp only [Act.put])
          refine wpAnyH_take (i := 25) (oi := _) (v := ?_) rfl (by kernel_rfl) (by kernel_rfl) (by kernel_rfl) (fun _ _ _ h => h) ((.inl ⟨by kernel_rfl, fun wh hwh => by (try dsimp only at hwh); obtain ⟨g0, g1, g2, g3, g4, g5⟩ := hwh; first | (simp [execOp, go_sem, *]; done) | (simp [execOp, go_sem, *]; with_reducible rfl)⟩)) hHeld ?_
          (try simp only [Act.put])
          refine wpAnyH_take (i := 26) (oi := _) (v := ?_) rfl (by kernel_rfl) (by kernel_rfl) (by kernel_rfl) (fun _ _ _ h => h) ((.inl ⟨by kernel_rfl, fun wh hwh => by (try dsimp only at hwh); obtain ⟨g0, g1, g2, g3, g4, g5⟩ := hwh; first | (simp [execOp, go_sem, *]; done) | (simp [execOp, go_sem, *]; with_reducible rfl)⟩)) hHeld ?_
          (try simp only [Act.put])
          refine wpAnyH_take (i := 27) (oi := _) (v := ?_) rfl (by kernel_rfl) (by kernel_rfl) (by kernel_rfl) (fun _ _ _ h => h) ((.inl ⟨by kernel_rfl, fun wh hwh => by (try dsimp only at hwh); obtain ⟨g0, g1, g2, g3, g4, g5⟩ := hwh; first | (simp [execOp, go_sem, *]; done) | (simp [execOp, go_sem, *]; with_reducible rfl)⟩)) hHeld ?_
          (try simp only [Act.put])
          refine wpAnyH_take (i := 28) (oi := _) (v := ?_) rfl (by kernel_rfl) (by kernel_rfl) (by kernel_rfl) (fun _ _ _ h => h) ((.inl ⟨by kernel_rfl, fun wh hwh => by (try dsimp only at hwh); obtain ⟨g0, g1, g2, g3, g4, g5⟩ := hwh; first | (simp [execOp, go_sem, *]; done) | (simp [execOp, go_sem, *]; with_reducible rfl)⟩)) hHeld ?_
          (try simp only [Act.put])
          refine wpAnyH_take (i := 29) (oi := _) (v := ?_) rfl (by kernel_rfl) (by kernel_rfl) (by kernel_rfl) (fun _ _ _ h => h) ((.inl ⟨by kernel_rfl, fun wh hwh => by (try dsimp only at hwh); obtain ⟨g0, g1, g2, g3, g4, g5⟩ := hwh; first | (simp [execOp, go_sem, *]; done) | (simp [execOp, go_sem, *]; with_reducible rfl)⟩)) hHeld ?_
          (try simp only [Act.put])
          refine wpAnyH_take (i := 30) (oi := _) (v := ?_) rfl (by kernel_rfl) (by kernel_rfl) (by kernel_rfl) (fun _ _ _ h => h) ((.inl ⟨by kernel_rfl, fun wh hwh => by (try dsimp only at hwh); obtain ⟨g0, g1, g2, g3, g4, g5⟩ := hwh; first | (simp [execOp, go_sem, *]; done) | (simp [execOp, go_sem, *]; with_reducible rfl)⟩)) hHeld ?_
          (try simp only [Act.put])
          refine wpAnyH_ready (rs := [31]) (by kernel_rfl) (by simp) ?_
          refine AllReadyH.cons (o := _) rfl (fun K hK => ?_) ?_
          · go_simp
            refine HFC.out.mono ?_
            rintro e w4 ⟨z, rfl, hzl, hzh, hb⟩
            have HB4 := Lib.hid (below_drew hb)
            have HB5 := Lib.hid (HB2.out.trans (HB4.out.mono HB2.out.size))
            clear hb
            dsimp only
            by_cases hz : z = 0
            · subst hz
              refine hK.out _ _ (HKS.out _ HB4.out) fun hHeld => ?_
              refine wpAnyH_take (i := 32) (oi := _) (v := ?_) rfl (by kernel_rfl) (by kernel_rfl) (by kernel_rfl) (fun _ _ _ h => h) ((.inl ⟨by kernel_rfl, fun wh hwh => by (try dsimp only at hwh); obtain ⟨g0, g1, g2, g3, g4, g5⟩ := hwh; first | (simp [execOp, go_sem, *]; done) | (simp [execOp, go_sem, *]; with_reducible rfl)⟩)) hHeld ?_
              (try simp only [Act.put, List.setIfInBounds_toArray])
              refine wpAnyH_take (i := 33) (oi := _) (v := ?_) rfl (by kernel_rfl) (by kernel_rfl) (by kernel_rfl) (fun _ _ _ h => h) ((.inl ⟨by kernel_rfl, fun wh hwh => by (try dsimp only at hwh); obtain ⟨g0, g1, g2, g3, g4, g5⟩ := hwh; first | (simp [execOp, go_sem, *]; done) | (simp [execOp, go_sem, *]; with_reducible rfl)⟩)) hHeld ?_
              (try simp only [Act.put])
              refine wpAnyH_done (by kernel_rfl) ?_ _
              go_wp2_with fail
              go_roundw
              case rel => exact ⟨j + 1, by omega, by go_num, HB5.out, (HB4.out.block _ hz2').trans HBL2.out⟩
              case measure => simp [intOf]; omega
            · have bz : (z != 0) = true := by simpa using hz
              refine hK.out _ _ (HKS.out _ HB4.out) fun hHeld => ?_
              refine wpAnyH_take (i := 32) (oi := _) (v := ?_) rfl (by kernel_rfl) (by kernel_rfl) (by kernel_rfl) (fun _ _ _ h => h) ((.inl ⟨by kernel_rfl, fun wh hwh => by (try dsimp only at hwh); obtain ⟨g0, g1, g2, g3, g4, g5⟩ := hwh; first | (simp [execOp, go_sem, *]; done) | (simp [execOp, go_sem, *]; with_reducible rfl)⟩)) hHeld ?_
              (try simp only [Act.put, List.setIfInBounds_toArray])
              refine wpAnyH_take (i := 33) (oi := _) (v := ?_) rfl (by kernel_rfl) (by kernel_rfl) (by kernel_rfl) (fun _ _ _ h => h) ((.inl ⟨by kernel_rfl, fun wh hwh => by (try dsimp only at hwh); obtain ⟨g0, g1, g2, g3, g4, g5⟩ := hwh; first | (simp [execOp, go_sem, *]; done) | (simp [execOp, go_sem, *]; with_reducible rfl)⟩)) hHeld ?_
              (try simp only [Act.put])
              refine wpAnyH_done (by kernel_rfl) ?_ _
              go_wp2_with fail
              go_ret
              exact ⟨_, rfl, HB5.out⟩
          exact AllReadyH.nil
      · obtain rfl : j = n := by omega
        go_wp2_with fail
        refine (HD.out wr HBR.out).mono ?_
        rintro e w5 ⟨c, rfl, hb⟩
        have HB6 := Lib.hid (HBR.out.trans (hb.mono HBR.out.size))
        clear hb
        dsimp only
        go_wp2_with fail
        go_ret
        exact ⟨_, rfl, HB6.out⟩
end Go.Proofs.YtkhlmofcdchccaaGreatDoor
