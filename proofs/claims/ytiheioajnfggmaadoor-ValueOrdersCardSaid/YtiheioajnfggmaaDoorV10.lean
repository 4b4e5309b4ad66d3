/- The walk of ValueOrders. -/
import Derived.Test.YtiheioajnfggmaaDoorV6
namespace Go.Proofs.YtiheioajnfggmaaDoor
open Go.RowKit

set_option maxRecDepth 100000 in
set_option maxHeartbeats 8000000 in
theorem orders_any (v : Value) (raw : Val) (w : World) (hv : IntsAt w v) (hn : WordsOk w.heap.size w) (hl : LibOk w) (hs : 3 < w.heap.size) : Calls Tryd.prog 10 #[v, valOf raw] w (RetBel (.bool true) w) := by
  obtain ⟨rk, rn, rs⟩ := raw
  unfold valOf
  have HV := Lib.hid hv
  have HN := Lib.hid hn
  have HL := Lib.hid hl
  clear hv hn hl
  go_enter Tryd.func10, Tryd.ntmps10
  go_wp2_with fail
  generalize hW : w.alloc _ = W1
  obtain ⟨hr, hz, hb⟩ := val_new hW
  have HV1 := Lib.hid (HV.out.bel hb)
  have HN1 := Lib.hid (HN.out.keep (M := fun _ => False) (.bel hb) fun _ _ => id)
  have HB1 := Lib.hid hb
  have HR := Lib.hid hr
  clear hW hb hr HV HN
  refine (new_any v W1 HV1.out).mono ?_
  rintro e w2 ⟨rfl, ht, hb⟩
  have h2 := ht.lt
  have HT2 := Lib.hid ht
  have HB2 := Lib.hid (HB1.out.trans (hb.mono (Nat.le_of_lt hz)))
  have HN2 : Hid (WordsOk W1.heap.size w2) := Lib.hid ((show WordsOk W1.heap.size W1 from ⟨by have := HN1.out.1; omega, HN1.out.2⟩).keep (M := fun _ => False) (.bel hb) fun _ _ => id)
  have HR2 := Lib.hid (HR.out.bel hz hb)
  clear ht hb HN1 HV1 HR HB1
  dsimp only
  generalize W1.heap.size = T at *
  go_upto_region 2 with fail
  go_cut [6] (fun v6 wx => ∃ (g o : Nat) (l : List Val), v6 = .slice (some ⟨g, o, none⟩) l.length l.length ∧ l.length ≤ 5 ∧ ListAt wx g o l ∧ Below w.heap.size w wx)
  case first =>
    have HK := Lib.hid (Keep.refl (At T) w2).drew
    have HSQ : Hid (∀ wx, Keep (At T) w2 wx → wx.cell? ⟨w.heap.size, 0, none⟩ = some (.int .i64 rk) ∧ wx.cell? ⟨w.heap.size, 1, none⟩ = some (.int .i64 rn) ∧ wx.cell? ⟨w.heap.size, 2, none⟩ = some (.string rs)) := Lib.hid fun wx k => by
      have hne : w.heap.size ≠ T := by omega
      obtain ⟨h1, h3, h4⟩ := HR2.out
      exact ⟨(k.cell (by omega) hne).trans h1, (k.cell (by omega) hne).trans h3, (k.cell (by omega) hne).trans h4⟩
    have HT := Lib.hid HT2.out.drew
    clear HR2 HT2
    go_region_held3 (fun w' => w'.cell? ⟨w.heap.size, 0, none⟩ = some (.int .i64 rk) ∧ w'.cell? ⟨w.heap.size, 1, none⟩ = some (.int .i64 rn) ∧ w'.cell? ⟨w.heap.size, 2, none⟩ = some (.string rs))
      (first | (with_reducible exact HSQ.out _ HK.out) | go_keep)
      (first
        | ((go_at_call 42); ((with_reducible refine (value_t T _ HT.out (HN2.out.at HK.out)).mono ?_); rintro e wy ⟨_, rfl, ⟨k, n, s, rfl⟩, ht, hk⟩; have HK := Lib.hid (HK.out.trans hk); have HT := Lib.hid ht; clear ht hk))
        | ((go_at_call 43); ((with_reducible refine (odd_t T _ HT.out (HN2.out.at HK.out)).mono ?_); rintro e wy ⟨_, rfl, ⟨k, n, s, rfl⟩, ht, hk⟩; have HK := Lib.hid (HK.out.trans hk); have HT := Lib.hid ht; clear ht hk)))
    all_goals
      go_wp2_with fail
      go_meet
      exact ⟨wy.heap.size, 0, [⟨rk, rn, rs⟩, ⟨_, _, _⟩, ⟨_, _, _⟩, ⟨_, _, _⟩, ⟨_, _, _⟩], rfl, Nat.le_refl 5, list_new _ rfl, ((HB2.out.trans (HK.out.toBelow (by omega) fun k hk h => by unfold At at h; omega)).alloc (by have := HK.out.size; omega) _)⟩
  case rest =>
    obtain ⟨g, o, l, rfl, hl5, hla, hbx⟩ := hcut
    rename World => wx
    have HLA := Lib.hid hla
    have HBW := Lib.hid hbx
    clear hla hbx HR2 HT2 HN2 HB2
    have hl6 : ¬ 9223372036854775807 < l.length + 1 := by omega
    go_wp2_with fail
    go_loopw [27] (fun i wr => ∃ j : Nat, j ≤ l.length ∧ i = .int .i64 j ∧ Below wx.heap.size wx wr) (fun i _ => l.length - (intOf i).toNat)
    case atStart => exact ⟨0, Nat.zero_le _, rfl, Below.refl _ _⟩
    case round =>
      rename World => wo
      obtain ⟨j, hj, rfl, hbel⟩ := hrel
      by_cases hlt : j < l.length
      · have hx0 : l[j]? = some l[j] := List.getElem?_eq_getElem hlt
        obtain ⟨p0, p1, p2⟩ := (HLA.out.bel hbel).2 j _ hx0
        generalize l[j] = x at p0 p1 p2
        obtain ⟨xk, xn, xs⟩ := x
        dsimp only at p0 p1 p2
        have i0 : (0 : Int) ≤ (j : Int) := by omega
        have i1 : (j : Int) < (l.length : Int) := by omega
        clear hx0
        go_wp2_with fail
        generalize hW : World.alloc wo _ = W1
        obtain ⟨hx1, hz1, hb1⟩ := val_new hW
        have HBx := Lib.hid (bel_trans hbel hb1)
        have HBj := Lib.hid (bel_trans hbel hb1)
        have HX1 := Lib.hid hx1
        clear hW hb1 hbel hx1 p0 p1 p2 i0 i1
        generalize wo.heap.size = gx at HX1 hz1 ⊢
        go_loopw [33] (fun i wr => ∃ k : Nat, k ≤ l.length ∧ i = .int .i64 k ∧ Below W1.heap.size W1 wr) (fun i _ => l.length - (intOf i).toNat)
        case atStart => exact ⟨0, Nat.zero_le _, rfl, Below.refl _ _⟩
        case round =>
          rename World => wi
          obtain ⟨k, hk, rfl, hbel2⟩ := hrel
          by_cases hlt2 : k < l.length
          · have hy0 : l[k]? = some l[k] := List.getElem?_eq_getElem hlt2
            obtain ⟨p0, p1, p2⟩ := (HLA.out.bel (bel_trans HBx.out hbel2)).2 k _ hy0
            generalize l[k] = y at p0 p1 p2
            obtain ⟨yk, yn, ys⟩ := y
            dsimp only at p0 p1 p2
            have i0 : (0 : Int) ≤ (k : Int) := by omega
            have i1 : (k : Int) < (l.length : Int) := by omega
            clear hy0
            go_upto_region 9 with fail
            generalize hW : World.alloc wi _ = W2
            obtain ⟨hy1, hz2, hb2⟩ := val_new hW
            have HX2 := Lib.hid (HX1.out.bel hz1 (bel_trans hbel2 hb2))
            have HBk := Lib.hid (bel_trans hbel2 hb2)
            have HBy := Lib.hid (bel_trans HBx.out HBk.out)
            have hbs2 := HBk.out.size
            have hzx : gx < W2.heap.size := by omega
            have HY2 := Lib.hid hy1
            clear hW hb2 hbel2 p0 p1 p2 i0 i1 hy1
            generalize wi.heap.size = gy at HY2 hz2 ⊢
            have HS2 : Hid (∀ wz, Below W2.heap.size W2 wz → wz.cell? ⟨gx, 0, none⟩ = some (.int .i64 xk) ∧ wz.cell? ⟨gx, 1, none⟩ = some (.int .i64 xn) ∧ wz.cell? ⟨gx, 2, none⟩ = some (.string xs) ∧ wz.cell? ⟨gy, 0, none⟩ = some (.int .i64 yk) ∧ wz.cell? ⟨gy, 1, none⟩ = some (.int .i64 yn) ∧ wz.cell? ⟨gy, 2, none⟩ = some (.string ys)) := Lib.hid fun wz k => by
              obtain ⟨a0, a1, a2⟩ := HX2.out.bel hzx k
              obtain ⟨b0, b1, b2⟩ := HY2.out.bel hz2 k
              exact ⟨a0, a1, a2, b0, b1, b2⟩
            go_cut [54] (fun v wz => v = .bool false ∧ Below W2.heap.size W2 wz)
            case first =>
              clear HX2 HY2 HBk HBy
              rename_i kA aA qB kB aB kC aC kD aD jj kk a1 a0
              clear aA aB aC aD
              have hxy := fun w' => compare_v ⟨xk, xn, xs⟩ ⟨yk, yn, ys⟩ w'
              have hyx := fun w' => compare_v ⟨yk, yn, ys⟩ ⟨xk, xn, xs⟩ w'
              unfold valOf at hxy hyx
              dsimp only at hxy hyx
              have HC := Lib.hid (drew_below (Below.refl W2.heap.size W2))
              have hd := valOrd.neg ⟨yk, yn, ys⟩ ⟨xk, xn, xs⟩
              have HEQ := Lib.hid (valOrd.eq ⟨xk, xn, xs⟩ ⟨yk, yn, ys⟩)
              rcases cmpV_range ⟨xk, xn, xs⟩ ⟨yk, yn, ys⟩ with hc | hc | hc
              · rw [hc] at hxy hd
                have hd : _ = (1 : Int) := hd
                rw [hd] at hyx
                rcases @ne_cases xk xn xs yk yn ys with h | ⟨rfl, h⟩ | ⟨rfl, rfl, h⟩ | ⟨rfl, rfl, rfl⟩
                · have n0 : IntKind.i64.wrap 0 = 0 := by decide
                  clear HEQ
                  have n1 : IntKind.i64.wrap (-1) = -1 := by decide
                  have n2 : IntKind.i64.wrap 1 = 1 := by decide
                  have HXY := Lib.hid hxy
                  have HYX := Lib.hid hyx
                  clear hxy hyx hc hd hl6 hj hlt hk hlt2 hz1 hz2 hzx hbs2 hs hl5
                  go_region_held3 (fun w' => w'.cell? ⟨gx, 0, none⟩ = some (.int .i64 xk) ∧ w'.cell? ⟨gx, 1, none⟩ = some (.int .i64 xn) ∧ w'.cell? ⟨gx, 2, none⟩ = some (.string xs) ∧ w'.cell? ⟨gy, 0, none⟩ = some (.int .i64 yk) ∧ w'.cell? ⟨gy, 1, none⟩ = some (.int .i64 yn) ∧ w'.cell? ⟨gy, 2, none⟩ = some (.string ys))
                    (first | (with_reducible exact HS2.out _ HC.out) | go_keep)
                    (first | ((go_at_call 55); ((with_reducible refine (HXY.out _).mono ?_); rintro e wq ⟨rfl, hb⟩; have HC := Lib.hid (HC.out.trans (hb.mono HC.out.size)); clear hb)) | ((go_at_call 55); ((with_reducible refine (HYX.out _).mono ?_); rintro e wq ⟨rfl, hb⟩; have HC := Lib.hid (HC.out.trans (hb.mono HC.out.size)); clear hb)))
                  all_goals
                    go_wp2_with fail
                    go_meet
                    exact ⟨rfl, HC.out⟩
                · have n0 : IntKind.i64.wrap 0 = 0 := by decide
                  clear HEQ
                  have n1 : IntKind.i64.wrap (-1) = -1 := by decide
                  have n2 : IntKind.i64.wrap 1 = 1 := by decide
                  have HXY := Lib.hid hxy
                  have HYX := Lib.hid hyx
                  clear hxy hyx hc hd hl6 hj hlt hk hlt2 hz1 hz2 hzx hbs2 hs hl5
                  go_region_held3 (fun w' => w'.cell? ⟨gx, 0, none⟩ = some (.int .i64 xk) ∧ w'.cell? ⟨gx, 1, none⟩ = some (.int .i64 xn) ∧ w'.cell? ⟨gx, 2, none⟩ = some (.string xs) ∧ w'.cell? ⟨gy, 0, none⟩ = some (.int .i64 xk) ∧ w'.cell? ⟨gy, 1, none⟩ = some (.int .i64 yn) ∧ w'.cell? ⟨gy, 2, none⟩ = some (.string ys))
                    (first | (with_reducible exact HS2.out _ HC.out) | go_keep)
                    (first | ((go_at_call 55); ((with_reducible refine (HXY.out _).mono ?_); rintro e wq ⟨rfl, hb⟩; have HC := Lib.hid (HC.out.trans (hb.mono HC.out.size)); clear hb)) | ((go_at_call 55); ((with_reducible refine (HYX.out _).mono ?_); rintro e wq ⟨rfl, hb⟩; have HC := Lib.hid (HC.out.trans (hb.mono HC.out.size)); clear hb)))
                  all_goals
                    go_wp2_with fail
                    go_meet
                    exact ⟨rfl, HC.out⟩
                · have n0 : IntKind.i64.wrap 0 = 0 := by decide
                  clear HEQ
                  have n1 : IntKind.i64.wrap (-1) = -1 := by decide
                  have n2 : IntKind.i64.wrap 1 = 1 := by decide
                  have HXY := Lib.hid hxy
                  have HYX := Lib.hid hyx
                  clear hxy hyx hc hd hl6 hj hlt hk hlt2 hz1 hz2 hzx hbs2 hs hl5
                  go_region_held3 (fun w' => w'.cell? ⟨gx, 0, none⟩ = some (.int .i64 xk) ∧ w'.cell? ⟨gx, 1, none⟩ = some (.int .i64 xn) ∧ w'.cell? ⟨gx, 2, none⟩ = some (.string xs) ∧ w'.cell? ⟨gy, 0, none⟩ = some (.int .i64 xk) ∧ w'.cell? ⟨gy, 1, none⟩ = some (.int .i64 xn) ∧ w'.cell? ⟨gy, 2, none⟩ = some (.string ys))
                    (first | (with_reducible exact HS2.out _ HC.out) | go_keep)
                    (first | ((go_at_call 55); ((with_reducible refine (HXY.out _).mono ?_); rintro e wq ⟨rfl, hb⟩; have HC := Lib.hid (HC.out.trans (hb.mono HC.out.size)); clear hb)) | ((go_at_call 55); ((with_reducible refine (HYX.out _).mono ?_); rintro e wq ⟨rfl, hb⟩; have HC := Lib.hid (HC.out.trans (hb.mono HC.out.size)); clear hb)))
                  all_goals
                    go_wp2_with fail
                    go_meet
                    exact ⟨rfl, HC.out⟩
                · exact absurd hc (by rw [valOrd.refl]; decide)
              · have he := HEQ.out hc
                simp only [Val.mk.injEq] at he
                obtain ⟨rfl, rfl, rfl⟩ := he
                rw [valOrd.refl] at hxy hyx
                clear HEQ
                have n0 : IntKind.i64.wrap 0 = 0 := by decide
                have n1 : IntKind.i64.wrap (-1) = -1 := by decide
                have n2 : IntKind.i64.wrap 1 = 1 := by decide
                have HXY := Lib.hid hxy
                have HYX := Lib.hid hyx
                clear hxy hyx hc hd hl6 hj hlt hk hlt2 hz1 hz2 hzx hbs2 hs hl5
                go_region_held3 (fun w' => w'.cell? ⟨gx, 0, none⟩ = some (.int .i64 xk) ∧ w'.cell? ⟨gx, 1, none⟩ = some (.int .i64 xn) ∧ w'.cell? ⟨gx, 2, none⟩ = some (.string xs) ∧ w'.cell? ⟨gy, 0, none⟩ = some (.int .i64 xk) ∧ w'.cell? ⟨gy, 1, none⟩ = some (.int .i64 xn) ∧ w'.cell? ⟨gy, 2, none⟩ = some (.string xs))
                  (first | (with_reducible exact HS2.out _ HC.out) | go_keep)
                  (first | ((go_at_call 55); ((with_reducible refine (HXY.out _).mono ?_); rintro e wq ⟨rfl, hb⟩; have HC := Lib.hid (HC.out.trans (hb.mono HC.out.size)); clear hb)) | ((go_at_call 55); ((with_reducible refine (HYX.out _).mono ?_); rintro e wq ⟨rfl, hb⟩; have HC := Lib.hid (HC.out.trans (hb.mono HC.out.size)); clear hb)))
                all_goals
                  go_wp2_with fail
                  go_meet
                  exact ⟨rfl, HC.out⟩
              · rw [hc] at hxy hd
                have hd : _ = (-1 : Int) := hd
                rw [hd] at hyx
                rcases @ne_cases xk xn xs yk yn ys with h | ⟨rfl, h⟩ | ⟨rfl, rfl, h⟩ | ⟨rfl, rfl, rfl⟩
                · have n0 : IntKind.i64.wrap 0 = 0 := by decide
                  clear HEQ
                  have n1 : IntKind.i64.wrap (-1) = -1 := by decide
                  have n2 : IntKind.i64.wrap 1 = 1 := by decide
                  have HXY := Lib.hid hxy
                  have HYX := Lib.hid hyx
                  clear hxy hyx hc hd hl6 hj hlt hk hlt2 hz1 hz2 hzx hbs2 hs hl5
                  go_region_held3 (fun w' => w'.cell? ⟨gx, 0, none⟩ = some (.int .i64 xk) ∧ w'.cell? ⟨gx, 1, none⟩ = some (.int .i64 xn) ∧ w'.cell? ⟨gx, 2, none⟩ = some (.string xs) ∧ w'.cell? ⟨gy, 0, none⟩ = some (.int .i64 yk) ∧ w'.cell? ⟨gy, 1, none⟩ = some (.int .i64 yn) ∧ w'.cell? ⟨gy, 2, none⟩ = some (.string ys))
                    (first | (with_reducible exact HS2.out _ HC.out) | go_keep)
                    (first | ((go_at_call 55); ((with_reducible refine (HXY.out _).mono ?_); rintro e wq ⟨rfl, hb⟩; have HC := Lib.hid (HC.out.trans (hb.mono HC.out.size)); clear hb)) | ((go_at_call 55); ((with_reducible refine (HYX.out _).mono ?_); rintro e wq ⟨rfl, hb⟩; have HC := Lib.hid (HC.out.trans (hb.mono HC.out.size)); clear hb)))
                  all_goals
                    go_wp2_with fail
                    go_meet
                    exact ⟨rfl, HC.out⟩
                · have n0 : IntKind.i64.wrap 0 = 0 := by decide
                  clear HEQ
                  have n1 : IntKind.i64.wrap (-1) = -1 := by decide
                  have n2 : IntKind.i64.wrap 1 = 1 := by decide
                  have HXY := Lib.hid hxy
                  have HYX := Lib.hid hyx
                  clear hxy hyx hc hd hl6 hj hlt hk hlt2 hz1 hz2 hzx hbs2 hs hl5
                  go_region_held3 (fun w' => w'.cell? ⟨gx, 0, none⟩ = some (.int .i64 xk) ∧ w'.cell? ⟨gx, 1, none⟩ = some (.int .i64 xn) ∧ w'.cell? ⟨gx, 2, none⟩ = some (.string xs) ∧ w'.cell? ⟨gy, 0, none⟩ = some (.int .i64 xk) ∧ w'.cell? ⟨gy, 1, none⟩ = some (.int .i64 yn) ∧ w'.cell? ⟨gy, 2, none⟩ = some (.string ys))
                    (first | (with_reducible exact HS2.out _ HC.out) | go_keep)
                    (first | ((go_at_call 55); ((with_reducible refine (HXY.out _).mono ?_); rintro e wq ⟨rfl, hb⟩; have HC := Lib.hid (HC.out.trans (hb.mono HC.out.size)); clear hb)) | ((go_at_call 55); ((with_reducible refine (HYX.out _).mono ?_); rintro e wq ⟨rfl, hb⟩; have HC := Lib.hid (HC.out.trans (hb.mono HC.out.size)); clear hb)))
                  all_goals
                    go_wp2_with fail
                    go_meet
                    exact ⟨rfl, HC.out⟩
                · have n0 : IntKind.i64.wrap 0 = 0 := by decide
                  clear HEQ
                  have n1 : IntKind.i64.wrap (-1) = -1 := by decide
                  have n2 : IntKind.i64.wrap 1 = 1 := by decide
                  have HXY := Lib.hid hxy
                  have HYX := Lib.hid hyx
                  clear hxy hyx hc hd hl6 hj hlt hk hlt2 hz1 hz2 hzx hbs2 hs hl5
                  go_region_held3 (fun w' => w'.cell? ⟨gx, 0, none⟩ = some (.int .i64 xk) ∧ w'.cell? ⟨gx, 1, none⟩ = some (.int .i64 xn) ∧ w'.cell? ⟨gx, 2, none⟩ = some (.string xs) ∧ w'.cell? ⟨gy, 0, none⟩ = some (.int .i64 xk) ∧ w'.cell? ⟨gy, 1, none⟩ = some (.int .i64 xn) ∧ w'.cell? ⟨gy, 2, none⟩ = some (.string ys))
                    (first | (with_reducible exact HS2.out _ HC.out) | go_keep)
                    (first | ((go_at_call 55); ((with_reducible refine (HXY.out _).mono ?_); rintro e wq ⟨rfl, hb⟩; have HC := Lib.hid (HC.out.trans (hb.mono HC.out.size)); clear hb)) | ((go_at_call 55); ((with_reducible refine (HYX.out _).mono ?_); rintro e wq ⟨rfl, hb⟩; have HC := Lib.hid (HC.out.trans (hb.mono HC.out.size)); clear hb)))
                  all_goals
                    go_wp2_with fail
                    go_meet
                    exact ⟨rfl, HC.out⟩
                · exact absurd hc (by rw [valOrd.refl]; decide)
            case rest =>
              obtain ⟨rfl, hbz⟩ := hcut
              rename World => wb
              have HBz := Lib.hid hbz
              clear hbz
              go_wp2_with fail
              go_loopw [57] (fun i wr => ∃ m : Nat, m ≤ l.length ∧ i = .int .i64 m ∧ Below W2.heap.size W2 wr) (fun i _ => l.length - (intOf i).toNat)
              case atStart => exact ⟨0, Nat.zero_le _, rfl, HBz.out⟩
              case round =>
                rename World => wc
                obtain ⟨m, hm, rfl, hbel3⟩ := hrel
                by_cases hlt3 : m < l.length
                · have hz0 : l[m]? = some l[m] := List.getElem?_eq_getElem hlt3
                  obtain ⟨p0, p1, p2⟩ := (HLA.out.bel (bel_trans HBy.out hbel3)).2 m _ hz0
                  generalize l[m] = z at p0 p1 p2
                  obtain ⟨zk, zn, zs⟩ := z
                  dsimp only at p0 p1 p2
                  have i0 : (0 : Int) ≤ (m : Int) := by omega
                  have i1 : (m : Int) < (l.length : Int) := by omega
                  clear hz0
                  go_upto_region 14 with fail
                  generalize hW : World.alloc wc _ = W3
                  obtain ⟨hc1, hz3, hb3⟩ := val_new hW
                  have hsz3 := hbel3.size
                  have hx3 := HX2.out.bel hzx (bel_trans hbel3 hb3)
                  have hy3 := HY2.out.bel hz2 (bel_trans hbel3 hb3)
                  have HBv := Lib.hid (bel_trans hbel3 hb3)
                  have hbs := HBv.out.size
                  clear hW hb3 hbel3 p0 p1 p2 i0 i1
                  generalize wc.heap.size = gz at hc1 hz3 ⊢
                  have HS3 : Hid (∀ wz, Below W3.heap.size W3 wz → wz.cell? ⟨gx, 0, none⟩ = some (.int .i64 xk) ∧ wz.cell? ⟨gx, 1, none⟩ = some (.int .i64 xn) ∧ wz.cell? ⟨gx, 2, none⟩ = some (.string xs) ∧ wz.cell? ⟨gy, 0, none⟩ = some (.int .i64 yk) ∧ wz.cell? ⟨gy, 1, none⟩ = some (.int .i64 yn) ∧ wz.cell? ⟨gy, 2, none⟩ = some (.string ys) ∧ wz.cell? ⟨gz, 0, none⟩ = some (.int .i64 zk) ∧ wz.cell? ⟨gz, 1, none⟩ = some (.int .i64 zn) ∧ wz.cell? ⟨gz, 2, none⟩ = some (.string zs)) := Lib.hid fun wz k => by
                    obtain ⟨a0, a1, a2⟩ := hx3.bel (by omega) k
                    obtain ⟨b0, b1, b2⟩ := hy3.bel (by omega) k
                    obtain ⟨c0, c1, c2⟩ := hc1.bel hz3 k
                    exact ⟨a0, a1, a2, b0, b1, b2, c0, c1, c2⟩
                  clear hx3 hy3 hc1
                  go_cut [76] (fun v wz => v = .bool false ∧ Below W3.heap.size W3 wz)
                  case first =>
                    have hxy := fun w' => compare_v ⟨xk, xn, xs⟩ ⟨yk, yn, ys⟩ w'
                    have hyz := fun w' => compare_v ⟨yk, yn, ys⟩ ⟨zk, zn, zs⟩ w'
                    have hxz := fun w' => compare_v ⟨xk, xn, xs⟩ ⟨zk, zn, zs⟩ w'
                    have hle := valOrd.le ⟨xk, xn, xs⟩ ⟨yk, yn, ys⟩ ⟨zk, zn, zs⟩
                    unfold valOf at hxy hyz hxz
                    dsimp only at hxy hyz hxz
                    have HC := Lib.hid (Below.refl W3.heap.size W3)
                    obtain ⟨a0, a1, a2, b0, b1, b2, e0, e1, e2⟩ := HS3.out _ HC.out
                    generalize cmpV ⟨xk, xn, xs⟩ ⟨yk, yn, ys⟩ = c1 at hxy hle
                    generalize cmpV ⟨yk, yn, ys⟩ ⟨zk, zn, zs⟩ = c2 at hyz hle
                    generalize cmpV ⟨xk, xn, xs⟩ ⟨zk, zn, zs⟩ = c3 at hxz hle
                    by_cases h1 : c1 ≤ 0
                    · have d1 : decide (c1 ≤ 0) = true := by simpa using h1
                      by_cases h2 : c2 ≤ 0
                      · have d2 : decide (c2 ≤ 0) = true := by simpa using h2
                        have h3 : c3 ≤ 0 := hle h1 h2
                        have d3 : decide (c3 > 0) = false := by simpa using h3
                        have d4 : decide (0 < c3) = false := by simpa using h3
                        clear hle h1 h2 h3
                        have HXY := Lib.hid hxy
                        have HYZ := Lib.hid hyz
                        have HXZ := Lib.hid hxz
                        clear hxy hyz hxz
                        go_wp2_with (first | ((go_at_call 55); ((with_reducible refine (HXY.out _).mono ?_); rintro e wq ⟨rfl, hb⟩; have HC := Lib.hid (HC.out.trans (hb.mono HC.out.size)); clear hb; obtain ⟨a0, a1, a2, b0, b1, b2, e0, e1, e2⟩ := HS3.out _ HC.out)) | ((go_at_call 55); ((with_reducible refine (HYZ.out _).mono ?_); rintro e wq ⟨rfl, hb⟩; have HC := Lib.hid (HC.out.trans (hb.mono HC.out.size)); clear hb; obtain ⟨a0, a1, a2, b0, b1, b2, e0, e1, e2⟩ := HS3.out _ HC.out)) | ((go_at_call 55); ((with_reducible refine (HXZ.out _).mono ?_); rintro e wq ⟨rfl, hb⟩; have HC := Lib.hid (HC.out.trans (hb.mono HC.out.size)); clear hb; obtain ⟨a0, a1, a2, b0, b1, b2, e0, e1, e2⟩ := HS3.out _ HC.out)))
                        all_goals
                          go_meet
                          exact ⟨rfl, HC.out⟩
                      · have d2 : decide (c2 ≤ 0) = false := by simpa using h2
                        clear hle h1 h2
                        have HXY := Lib.hid hxy
                        have HYZ := Lib.hid hyz
                        have HXZ := Lib.hid hxz
                        clear hxy hyz hxz
                        go_wp2_with (first | ((go_at_call 55); ((with_reducible refine (HXY.out _).mono ?_); rintro e wq ⟨rfl, hb⟩; have HC := Lib.hid (HC.out.trans (hb.mono HC.out.size)); clear hb; obtain ⟨a0, a1, a2, b0, b1, b2, e0, e1, e2⟩ := HS3.out _ HC.out)) | ((go_at_call 55); ((with_reducible refine (HYZ.out _).mono ?_); rintro e wq ⟨rfl, hb⟩; have HC := Lib.hid (HC.out.trans (hb.mono HC.out.size)); clear hb; obtain ⟨a0, a1, a2, b0, b1, b2, e0, e1, e2⟩ := HS3.out _ HC.out)) | ((go_at_call 55); ((with_reducible refine (HXZ.out _).mono ?_); rintro e wq ⟨rfl, hb⟩; have HC := Lib.hid (HC.out.trans (hb.mono HC.out.size)); clear hb; obtain ⟨a0, a1, a2, b0, b1, b2, e0, e1, e2⟩ := HS3.out _ HC.out)))
                        all_goals
                          go_meet
                          exact ⟨rfl, HC.out⟩
                    · have d1 : decide (c1 ≤ 0) = false := by simpa using h1
                      clear hle h1
                      have HXY := Lib.hid hxy
                      have HYZ := Lib.hid hyz
                      have HXZ := Lib.hid hxz
                      clear hxy hyz hxz
                      go_wp2_with (first | ((go_at_call 55); ((with_reducible refine (HXY.out _).mono ?_); rintro e wq ⟨rfl, hb⟩; have HC := Lib.hid (HC.out.trans (hb.mono HC.out.size)); clear hb; obtain ⟨a0, a1, a2, b0, b1, b2, e0, e1, e2⟩ := HS3.out _ HC.out)) | ((go_at_call 55); ((with_reducible refine (HYZ.out _).mono ?_); rintro e wq ⟨rfl, hb⟩; have HC := Lib.hid (HC.out.trans (hb.mono HC.out.size)); clear hb; obtain ⟨a0, a1, a2, b0, b1, b2, e0, e1, e2⟩ := HS3.out _ HC.out)) | ((go_at_call 55); ((with_reducible refine (HXZ.out _).mono ?_); rintro e wq ⟨rfl, hb⟩; have HC := Lib.hid (HC.out.trans (hb.mono HC.out.size)); clear hb; obtain ⟨a0, a1, a2, b0, b1, b2, e0, e1, e2⟩ := HS3.out _ HC.out)))
                      all_goals
                        go_meet
                        exact ⟨rfl, HC.out⟩
                  case rest =>
                    obtain ⟨rfl, hbz⟩ := hcut
                    have HBq := Lib.hid (bel_trans HBv.out hbz)
                    clear hbz
                    go_wp2_with fail
                    go_roundw
                    case rel => exact ⟨m + 1, by omega, by go_num, HBq.out⟩
                    case measure => simp [intOf]; omega
                · have HBq := Lib.hid (bel_trans HBk.out hbel3)
                  clear hbel3
                  go_wp2_with fail
                  go_roundw
                  case rel => exact ⟨k + 1, by omega, by go_num, HBq.out⟩
                  case measure => simp [intOf]; omega
          · have HBq := Lib.hid (bel_trans HBj.out hbel2)
            clear hbel2
            go_wp2_with fail
            go_roundw
            case rel => exact ⟨j + 1, by omega, by go_num, HBq.out⟩
            case measure => simp [intOf]; omega
      · have HBq := Lib.hid (HBW.out.trans (hbel.mono HBW.out.size))
        clear hbel
        go_wp2_with fail
        refine (known1_any _ (HL.out.bel HBq.out hs) (Nat.lt_of_lt_of_le hs HBq.out.size)).mono ?_
        rintro e w9 ⟨rfl, hb⟩
        have HBr := Lib.hid (HBq.out.trans (hb.mono HBq.out.size))
        clear hb
        dsimp only
        go_wp2_with fail
        go_ret
        exact ⟨rfl, HBr.out⟩
end Go.Proofs.YtiheioajnfggmaaDoor
