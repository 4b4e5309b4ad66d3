/- The walk of ValueCompares. -/
import Derived.Test.YtiheioajnfggmaaDoorV6
namespace Go.Proofs.YtiheioajnfggmaaDoor
open Go.RowKit

theorem infoVal : (Tryd.prog.info? 48).map (fun i => (i.zero, i.size, i.bytes)) = some (some (.agg #[.int .i64 0, .int .i64 0, .string ⟨#[]⟩]), 3, 32) := by kernel_rfl
theorem valR_one (x : Val) (cs : List Value) (h : ValR x cs) : ∀ u ∈ cs, u.oneCell' = true := by
  obtain rfl : cs = valCells x := h
  intro u hu
  simp only [valCells, List.mem_cons, List.not_mem_nil, or_false] at hu
  rcases hu with rfl | rfl | rfl <;> rfl
theorem rowsO_new0 {w : World} {e : TypeId} : RowsO w.heap.size (w.alloc (.cells #[] e)) e 3 ValR (.slice (some ⟨w.heap.size, 0, none⟩) 0 0) ([] : List Val) :=
  ⟨[], ⟨by simp, .inr ⟨w.heap.size, 0, #[], rfl, Nat.le_refl _, heap_alloc_new w _, Nat.le_refl _, Nat.zero_le _, by simp, by simp⟩⟩, rfl, by simp, by simp⟩
theorem same_cases (k n : Int) (s : ByteArray) (k' n' : Int) (s' : ByteArray) : ((k == k') = false ∧ sameV ⟨k, n, s⟩ ⟨k', n', s'⟩ = false) ∨ (k = k' ∧ (n == n') = false ∧ sameV ⟨k, n, s⟩ ⟨k', n', s'⟩ = false) ∨ (k = k' ∧ n = n' ∧ (s.toList == s'.toList) = false ∧ sameV ⟨k, n, s⟩ ⟨k', n', s'⟩ = false) ∨ (k = k' ∧ n = n' ∧ s = s' ∧ sameV ⟨k, n, s⟩ ⟨k', n', s'⟩ = true) := by
  rcases @ne_cases k n s k' n' s' with h | ⟨rfl, h⟩ | ⟨rfl, rfl, h⟩ | ⟨rfl, rfl, rfl⟩
  · exact .inl ⟨h, by simp [sameV, h]⟩
  · exact .inr (.inl ⟨rfl, h, by simp [sameV, h]⟩)
  · exact .inr (.inr (.inl ⟨rfl, rfl, h, by simp [sameV, h]⟩))
  · exact .inr (.inr (.inr ⟨rfl, rfl, rfl, (sameV_iff _ _).2 rfl⟩))

set_option maxRecDepth 100000 in
set_option maxHeartbeats 8000000 in
theorem compares_any (a b : Val) (vr vs v : Value) (lr ls : List Val) (w : World) (hr : ValsR NoM w vr lr) (hs1 : ValsR NoM w vs ls) (hfit : (lr.length + ls.length) * 32 ≤ 140737488355328) (hv : IntsAt w v) (hn : WordsOk w.heap.size w) (hl : LibOk w) (hs : 3 < w.heap.size) :
    Calls Tryd.prog 13 #[valOf a, valOf b, vr, vs, v] w (RetBel (.bool true) w) := by
  obtain ⟨rk, rn, rs⟩ := a
  obtain ⟨tk, tn, ts⟩ := b
  obtain ⟨ra, rc, rfl, _⟩ := hr.shape
  obtain ⟨sa, sc, rfl, _⟩ := hs1.shape
  unfold valOf
  have HV := Lib.hid hv
  have HN := Lib.hid hn
  have HL := Lib.hid hl
  have HFIT := Lib.hid hfit
  have HRW : Hid (∀ wx, Below w.heap.size w wx → ValsR NoM wx (.slice ra lr.length rc) lr) := Lib.hid fun wx k => hr.keep (.bel k)
  have HSW : Hid (∀ wx, Below w.heap.size w wx → ValsR NoM wx (.slice sa ls.length sc) ls) := Lib.hid fun wx k => hs1.keep (.bel k)
  clear hv hn hl hr hs1 hfit
  go_enter Tryd.func13, Tryd.ntmps13
  go_wp2_with fail
  generalize hW : w.alloc _ = Wa
  obtain ⟨hr1, hz1, hb1⟩ := val_new hW
  have hga : Wa.heap.size = w.heap.size + 1 := by rw [← hW]; simp
  clear hW
  generalize hW : Wa.alloc _ = W1
  obtain ⟨hr2, hz2, hb2⟩ := val_new hW
  rw [hga] at hr2 hz2
  clear hW hga
  have hzz : w.heap.size < W1.heap.size := Nat.lt_of_lt_of_le hz1 hb2.size
  have hb := bel_trans hb1 hb2
  have HRA := Lib.hid (hr1.bel hz1 hb2)
  have HRB := Lib.hid hr2
  have HV1 := Lib.hid (HV.out.bel hb)
  have HN1 := Lib.hid (HN.out.keep (M := fun _ => False) (.bel hb) fun _ _ => id)
  have HB1 := Lib.hid hb
  clear hb hb1 hb2 HV HN hr1 hr2 hz1
  refine (new_any v W1 HV1.out).mono ?_
  rintro e w2 ⟨rfl, ht, hb⟩
  have h2 := ht.lt
  have HT2 := Lib.hid ht
  have HB2 := Lib.hid (HB1.out.trans (hb.mono (Nat.le_of_lt hzz)))
  have HN2 : Hid (WordsOk W1.heap.size w2) := Lib.hid ((show WordsOk W1.heap.size W1 from ⟨by have := HN1.out.1; omega, HN1.out.2⟩).keep (M := fun _ => False) (.bel hb) fun _ _ => id)
  have HRA2 := Lib.hid (HRA.out.bel hzz hb)
  have HRB2 := Lib.hid (HRB.out.bel hz2 hb)
  clear ht hb HN1 HV1 HRA HRB HB1
  dsimp only
  generalize W1.heap.size = T at *
  go_upto_region 2 with fail
  go_cut [12] (fun v6 wx => ∃ (g o : Nat) (l : List Val), v6 = .slice (some ⟨g, o, none⟩) l.length l.length ∧ l.length ≤ 7 ∧ ListAt wx g o l ∧ Below w.heap.size w wx)
  case first =>
    have HK := Lib.hid (Keep.refl (At T) w2).drew
    have HSQ : Hid (∀ wx, Keep (At T) w2 wx → wx.cell? ⟨w.heap.size, 0, none⟩ = some (.int .i64 rk) ∧ wx.cell? ⟨w.heap.size, 1, none⟩ = some (.int .i64 rn) ∧ wx.cell? ⟨w.heap.size, 2, none⟩ = some (.string rs) ∧ wx.cell? ⟨w.heap.size + 1, 0, none⟩ = some (.int .i64 tk) ∧ wx.cell? ⟨w.heap.size + 1, 1, none⟩ = some (.int .i64 tn) ∧ wx.cell? ⟨w.heap.size + 1, 2, none⟩ = some (.string ts)) := Lib.hid fun wx k => by
      have hne : w.heap.size ≠ T := by omega
      have hne2 : w.heap.size + 1 ≠ T := by omega
      obtain ⟨h1, h3, h4⟩ := HRA2.out
      obtain ⟨h5, h6, h7⟩ := HRB2.out
      exact ⟨(k.cell (by omega) hne).trans h1, (k.cell (by omega) hne).trans h3, (k.cell (by omega) hne).trans h4, (k.cell (by omega) hne2).trans h5, (k.cell (by omega) hne2).trans h6, (k.cell (by omega) hne2).trans h7⟩
    have HT := Lib.hid HT2.out.drew
    clear HRA2 HRB2 HT2 HRW HSW HFIT
    go_region_held3 (fun w' => w'.cell? ⟨w.heap.size, 0, none⟩ = some (.int .i64 rk) ∧ w'.cell? ⟨w.heap.size, 1, none⟩ = some (.int .i64 rn) ∧ w'.cell? ⟨w.heap.size, 2, none⟩ = some (.string rs) ∧ w'.cell? ⟨w.heap.size + 1, 0, none⟩ = some (.int .i64 tk) ∧ w'.cell? ⟨w.heap.size + 1, 1, none⟩ = some (.int .i64 tn) ∧ w'.cell? ⟨w.heap.size + 1, 2, none⟩ = some (.string ts))
      (first | (with_reducible exact HSQ.out _ HK.out) | go_keep)
      (first
        | ((go_at_call 42); ((with_reducible refine (value_t T _ HT.out (HN2.out.at HK.out)).mono ?_); rintro e wy ⟨_, rfl, ⟨k, n, s, rfl⟩, ht, hk⟩; have HK := Lib.hid (HK.out.trans hk); have HT := Lib.hid ht; clear ht hk))
        | ((go_at_call 43); ((with_reducible refine (odd_t T _ HT.out (HN2.out.at HK.out)).mono ?_); rintro e wy ⟨_, rfl, ⟨k, n, s, rfl⟩, ht, hk⟩; have HK := Lib.hid (HK.out.trans hk); have HT := Lib.hid ht; clear ht hk)))
    all_goals
      go_wp2_with fail
      go_meet
      exact ⟨wy.heap.size, 0, [⟨rk, rn, rs⟩, ⟨tk, tn, ts⟩, ⟨_, _, _⟩, ⟨_, _, _⟩, ⟨_, _, _⟩, ⟨_, _, _⟩, ⟨_, _, _⟩], rfl, Nat.le_refl 7, list_new _ rfl, ((HB2.out.trans (HK.out.toBelow (by omega) fun k hk h => by unfold At at h; omega)).alloc (by have := HK.out.size; omega) _)⟩
  case rest =>
    obtain ⟨g, o, l, rfl, hl5, hla, hbx⟩ := hcut
    rename World => wx
    have HLA := Lib.hid hla
    have HBW := Lib.hid hbx
    clear hla hbx HRA2 HRB2 HT2 HN2 HB2
    go_wp2_with fail
    go_loopw [45] (fun i wr => ∃ j : Nat, j ≤ l.length ∧ i = .int .i64 j ∧ Below wx.heap.size wx wr) (fun i _ => l.length - (intOf i).toNat)
    case atStart => exact ⟨0, Nat.zero_le _, rfl, Below.refl _ _⟩
    case round =>
      rename World => wo
      obtain ⟨j, hj, rfl, hbel⟩ := hrel
      by_cases hlt : j < l.length
      · have hx0 : l[j]? = some l[j] := List.getElem?_eq_getElem hlt
        obtain ⟨p0, p1, p2⟩ := (HLA.out.bel hbel).2 j _ hx0
        generalize l[j] = x at p0 p1 p2
        obtain ⟨xk, xn, xs⟩ := x
        dsimp only at p0 p1 p2
        have i0 : (0 : Int) ≤ (j : Int) := by omega
        have i1 : (j : Int) < (l.length : Int) := by omega
        clear hx0
        go_wp2_with fail
        generalize hW : World.alloc wo _ = W1
        obtain ⟨hx1, hz1, hb1⟩ := val_new hW
        have HBx := Lib.hid (bel_trans hbel hb1)
        have HBj := Lib.hid (bel_trans hbel hb1)
        have HX1 := Lib.hid hx1
        clear hW hb1 hbel hx1 p0 p1 p2 i0 i1
        generalize wo.heap.size = gx at HX1 hz1 ⊢
        go_loopw [51] (fun i wr => ∃ k : Nat, k ≤ l.length ∧ i = .int .i64 k ∧ Below W1.heap.size W1 wr) (fun i _ => l.length - (intOf i).toNat)
        case atStart => exact ⟨0, Nat.zero_le _, rfl, Below.refl _ _⟩
        case round =>
          rename World => wi
          obtain ⟨k, hk, rfl, hbel2⟩ := hrel
          by_cases hlt2 : k < l.length
          · have hy0 : l[k]? = some l[k] := List.getElem?_eq_getElem hlt2
            obtain ⟨p0, p1, p2⟩ := (HLA.out.bel (bel_trans HBx.out hbel2)).2 k _ hy0
            generalize l[k] = y at p0 p1 p2
            obtain ⟨yk, yn, ys⟩ := y
            dsimp only at p0 p1 p2
            have i0 : (0 : Int) ≤ (k : Int) := by omega
            have i1 : (k : Int) < (l.length : Int) := by omega
            clear hy0
            go_upto_region 9 with fail
            generalize hW : World.alloc wi _ = W2
            obtain ⟨hy1, hz2, hb2⟩ := val_new hW
            have HX2 := Lib.hid (HX1.out.bel hz1 (bel_trans hbel2 hb2))
            have HBk := Lib.hid (bel_trans hbel2 hb2)
            have hbs2 := HBk.out.size
            have hzx : gx < W2.heap.size := by omega
            have HY2 := Lib.hid hy1
            clear hW hb2 hbel2 p0 p1 p2 i0 i1 hy1
            generalize wi.heap.size = gy at HY2 hz2 ⊢
            have HS2 : Hid (∀ wz, Below W2.heap.size W2 wz → wz.cell? ⟨gx, 0, none⟩ = some (.int .i64 xk) ∧ wz.cell? ⟨gx, 1, none⟩ = some (.int .i64 xn) ∧ wz.cell? ⟨gx, 2, none⟩ = some (.string xs) ∧ wz.cell? ⟨gy, 0, none⟩ = some (.int .i64 yk) ∧ wz.cell? ⟨gy, 1, none⟩ = some (.int .i64 yn) ∧ wz.cell? ⟨gy, 2, none⟩ = some (.string ys)) := Lib.hid fun wz k => by
              obtain ⟨a0, a1, a2⟩ := HX2.out.bel hzx k
              obtain ⟨b0, b1, b2⟩ := HY2.out.bel hz2 k
              exact ⟨a0, a1, a2, b0, b1, b2⟩
            clear HX2 HY2
            go_cut [70] (fun v wz => v = .bool false ∧ Below W2.heap.size W2 wz)
            case first =>
              have hxy := fun w' => compare_v ⟨xk, xn, xs⟩ ⟨yk, yn, ys⟩ w'
              have hyx := fun w' => rcompare_v ⟨xk, xn, xs⟩ ⟨yk, yn, ys⟩ w'
              have hxs := fun w' => same_v ⟨xk, xn, xs⟩ ⟨yk, yn, ys⟩ w'
              unfold valOf at hxy hyx hxs
              dsimp only at hxy hyx hxs
              have HC := Lib.hid (drew_below (Below.refl W2.heap.size W2))
              generalize cmpV ⟨xk, xn, xs⟩ ⟨yk, yn, ys⟩ = c at hxy hyx
              rcases same_cases xk xn xs yk yn ys with ⟨h, hsv⟩ | ⟨rfl, h, hsv⟩ | ⟨rfl, rfl, h, hsv⟩ | ⟨rfl, rfl, rfl, hsv⟩
              · rw [hsv] at hxs
                have HXY := Lib.hid hxy
                have HYX := Lib.hid hyx
                have HXS := Lib.hid hxs
                clear hxy hyx hxs hsv hj hlt hk hlt2 hz1 hz2 hzx hbs2 hs hl5
                go_region_held3 (fun w' => w'.cell? ⟨gx, 0, none⟩ = some (.int .i64 xk) ∧ w'.cell? ⟨gx, 1, none⟩ = some (.int .i64 xn) ∧ w'.cell? ⟨gx, 2, none⟩ = some (.string xs) ∧ w'.cell? ⟨gy, 0, none⟩ = some (.int .i64 yk) ∧ w'.cell? ⟨gy, 1, none⟩ = some (.int .i64 yn) ∧ w'.cell? ⟨gy, 2, none⟩ = some (.string ys))
                  (first | (with_reducible exact HS2.out _ HC.out) | go_keep)
                  (first | ((go_at_call 55); ((with_reducible refine (HXY.out _).mono ?_); rintro e wq ⟨rfl, hb⟩; have HC := Lib.hid (HC.out.trans (hb.mono HC.out.size)); clear hb)) | ((go_at_call 58); ((with_reducible refine (HYX.out _).mono ?_); rintro e wq ⟨rfl, hb⟩; have HC := Lib.hid (HC.out.trans (hb.mono HC.out.size)); clear hb)) | ((go_at_call 59); ((with_reducible refine (HXS.out _).mono ?_); rintro e wq ⟨rfl, hb⟩; have HC := Lib.hid (HC.out.trans (hb.mono HC.out.size)); clear hb)))
                all_goals
                  go_wp2_with fail
                  go_meet
                  exact ⟨rfl, HC.out⟩
              · rw [hsv] at hxs
                have HXY := Lib.hid hxy
                have HYX := Lib.hid hyx
                have HXS := Lib.hid hxs
                clear hxy hyx hxs hsv hj hlt hk hlt2 hz1 hz2 hzx hbs2 hs hl5
                go_region_held3 (fun w' => w'.cell? ⟨gx, 0, none⟩ = some (.int .i64 xk) ∧ w'.cell? ⟨gx, 1, none⟩ = some (.int .i64 xn) ∧ w'.cell? ⟨gx, 2, none⟩ = some (.string xs) ∧ w'.cell? ⟨gy, 0, none⟩ = some (.int .i64 xk) ∧ w'.cell? ⟨gy, 1, none⟩ = some (.int .i64 yn) ∧ w'.cell? ⟨gy, 2, none⟩ = some (.string ys))
                  (first | (with_reducible exact HS2.out _ HC.out) | go_keep)
                  (first | ((go_at_call 55); ((with_reducible refine (HXY.out _).mono ?_); rintro e wq ⟨rfl, hb⟩; have HC := Lib.hid (HC.out.trans (hb.mono HC.out.size)); clear hb)) | ((go_at_call 58); ((with_reducible refine (HYX.out _).mono ?_); rintro e wq ⟨rfl, hb⟩; have HC := Lib.hid (HC.out.trans (hb.mono HC.out.size)); clear hb)) | ((go_at_call 59); ((with_reducible refine (HXS.out _).mono ?_); rintro e wq ⟨rfl, hb⟩; have HC := Lib.hid (HC.out.trans (hb.mono HC.out.size)); clear hb)))
                all_goals
                  go_wp2_with fail
                  go_meet
                  exact ⟨rfl, HC.out⟩
              · rw [hsv] at hxs
                have HXY := Lib.hid hxy
                have HYX := Lib.hid hyx
                have HXS := Lib.hid hxs
                clear hxy hyx hxs hsv hj hlt hk hlt2 hz1 hz2 hzx hbs2 hs hl5
                go_region_held3 (fun w' => w'.cell? ⟨gx, 0, none⟩ = some (.int .i64 xk) ∧ w'.cell? ⟨gx, 1, none⟩ = some (.int .i64 xn) ∧ w'.cell? ⟨gx, 2, none⟩ = some (.string xs) ∧ w'.cell? ⟨gy, 0, none⟩ = some (.int .i64 xk) ∧ w'.cell? ⟨gy, 1, none⟩ = some (.int .i64 xn) ∧ w'.cell? ⟨gy, 2, none⟩ = some (.string ys))
                  (first | (with_reducible exact HS2.out _ HC.out) | go_keep)
                  (first | ((go_at_call 55); ((with_reducible refine (HXY.out _).mono ?_); rintro e wq ⟨rfl, hb⟩; have HC := Lib.hid (HC.out.trans (hb.mono HC.out.size)); clear hb)) | ((go_at_call 58); ((with_reducible refine (HYX.out _).mono ?_); rintro e wq ⟨rfl, hb⟩; have HC := Lib.hid (HC.out.trans (hb.mono HC.out.size)); clear hb)) | ((go_at_call 59); ((with_reducible refine (HXS.out _).mono ?_); rintro e wq ⟨rfl, hb⟩; have HC := Lib.hid (HC.out.trans (hb.mono HC.out.size)); clear hb)))
                all_goals
                  go_wp2_with fail
                  go_meet
                  exact ⟨rfl, HC.out⟩
              · rw [hsv] at hxs
                have HXY := Lib.hid hxy
                have HYX := Lib.hid hyx
                have HXS := Lib.hid hxs
                clear hxy hyx hxs hsv hj hlt hk hlt2 hz1 hz2 hzx hbs2 hs hl5
                go_region_held3 (fun w' => w'.cell? ⟨gx, 0, none⟩ = some (.int .i64 xk) ∧ w'.cell? ⟨gx, 1, none⟩ = some (.int .i64 xn) ∧ w'.cell? ⟨gx, 2, none⟩ = some (.string xs) ∧ w'.cell? ⟨gy, 0, none⟩ = some (.int .i64 xk) ∧ w'.cell? ⟨gy, 1, none⟩ = some (.int .i64 xn) ∧ w'.cell? ⟨gy, 2, none⟩ = some (.string xs))
                  (first | (with_reducible exact HS2.out _ HC.out) | go_keep)
                  (first | ((go_at_call 55); ((with_reducible refine (HXY.out _).mono ?_); rintro e wq ⟨rfl, hb⟩; have HC := Lib.hid (HC.out.trans (hb.mono HC.out.size)); clear hb)) | ((go_at_call 58); ((with_reducible refine (HYX.out _).mono ?_); rintro e wq ⟨rfl, hb⟩; have HC := Lib.hid (HC.out.trans (hb.mono HC.out.size)); clear hb)) | ((go_at_call 59); ((with_reducible refine (HXS.out _).mono ?_); rintro e wq ⟨rfl, hb⟩; have HC := Lib.hid (HC.out.trans (hb.mono HC.out.size)); clear hb)))
                all_goals
                  go_wp2_with fail
                  go_meet
                  exact ⟨rfl, HC.out⟩
            case rest =>
              obtain ⟨rfl, hbz⟩ := hcut
              have HBq := Lib.hid (bel_trans HBk.out hbz)
              clear hbz
              go_wp2_with fail
              go_roundw
              case rel => exact ⟨k + 1, by omega, by go_num, HBq.out⟩
              case measure => simp [intOf]; omega
          · have HBq := Lib.hid (bel_trans HBj.out hbel2)
            clear hbel2
            go_wp2_with fail
            go_roundw
            case rel => exact ⟨j + 1, by omega, by go_num, HBq.out⟩
            case measure => simp [intOf]; omega
      · have HB0 := Lib.hid (HBW.out.trans (hbel.mono HBW.out.size))
        clear hbel HLA HBW
        go_upto_region 14 with (first | (at_builtin; (refine wpList_app rfl _ _ 31 rfl 48 _ 3 32 Tryd.underlying31 infoVal rfl (by decide) (R := ValR) (M := NoM) wo.heap.size (.slice (some ⟨wo.heap.size, 0, none⟩) 0 0) (.slice ra lr.length rc) [] lr rfl rfl rowsO_new0 (HRW.out _ (HB0.out.alloc HB0.out.size _)) (fun y _ cs h => valR_one y cs h) (by have := HFIT.out; simp; omega) (by have := HFIT.out; simp [maxLen]; omega) (by simp) ?_; intro v5 w5 ho hk _; have HB5 := Lib.hid ((HB0.out.alloc HB0.out.size (.cells #[] 48)).trans (hk.toBelow (B := w.heap.size) (by simp; have := HB0.out.size; omega) fun k hk h => by have := (RowsO.lt (rowsO_new0 (w := wo) (e := 48)) h).1; have := HB0.out.size; omega)); have hz5 := hk.size; rw [World.size_alloc] at hz5; rw [List.nil_append] at ho; obtain ⟨a5, c5, rfl, _⟩ := ho.shape; have HO5 := Lib.hid ho; clear ho hk)) | (at_builtin; (refine wpList_app rfl _ _ 31 rfl 48 _ 3 32 Tryd.underlying31 infoVal rfl (by decide) (R := ValR) (M := NoM) wo.heap.size (.slice a5 lr.length c5) (.slice sa ls.length sc) lr ls rfl rfl HO5.out (HSW.out _ HB5.out) (fun y _ cs h => valR_one y cs h) (by have := HFIT.out; simp; omega) (by have := HFIT.out; simp [maxLen]; omega) (by omega) ?_; intro v6 w6 ho hk _; have HB6 := Lib.hid (HB5.out.trans (hk.toBelow (B := w.heap.size) HB5.out.size fun k hk h => by have := (RowsO.lt HO5.out h).1; have := HB0.out.size; omega)); obtain ⟨a6, c6, rfl, _⟩ := ho.shape; have HO6 := Lib.hid ho; clear ho hk)))
        have HU : Hid (∀ wx, Below w6.heap.size w6 wx → ValsR NoM wx (.slice a6 (lr.length + ls.length) c6) (lr ++ ls)) := Lib.hid fun wx k => by rw [← List.length_append]; exact ValsR.keep (M := NoM) (HO6.out.rows (M := NoM) fun _ _ _ => id) (.bel k)
        have hb6 := HB6.out.size
        have hA1 := fun wx (k : Below w6.heap.size w6 wx) => rows_v _ _ lr ls wx (HRW.out wx (HB6.out.trans (k.mono hb6))) (HSW.out wx (HB6.out.trans (k.mono hb6)))
        have hA2 := fun wx (k : Below w6.heap.size w6 wx) => rrows_v _ _ lr ls wx (HRW.out wx (HB6.out.trans (k.mono hb6))) (HSW.out wx (HB6.out.trans (k.mono hb6)))
        have hB1 := fun wx (k : Below w6.heap.size w6 wx) => rows_v _ _ (lr ++ ls) lr wx (HU.out wx k) (HRW.out wx (HB6.out.trans (k.mono hb6)))
        have hB2 := fun wx (k : Below w6.heap.size w6 wx) => rrows_v _ _ (lr ++ ls) lr wx (HU.out wx k) (HRW.out wx (HB6.out.trans (k.mono hb6)))
        have hD := fun wx (k : Below w6.heap.size w6 wx) => rows_v _ _ lr lr wx (HRW.out wx (HB6.out.trans (k.mono hb6))) (HRW.out wx (HB6.out.trans (k.mono hb6)))
        rw [show lexC cmpV lr lr = 0 by have := lexC_neg valOrd lr lr; omega] at hD
        generalize lexC cmpV lr ls = c1 at hA1 hA2
        generalize lexC cmpV (lr ++ ls) lr = c2 at hB1 hB2
        have HA1 := Lib.hid hA1
        have HA2 := Lib.hid hA2
        have HB1 := Lib.hid hB1
        have HB2 := Lib.hid hB2
        have HD := Lib.hid hD
        have HC := Lib.hid (Below.refl w6.heap.size w6)
        clear hA1 hA2 hB1 hB2 hD HU HO6 HO5 HFIT HRW HSW hlt hj
        go_wp2_with (first
          | ((go_at_call 57); ((with_reducible refine (HA1.out _ HC.out).mono ?_); rintro e wq ⟨rfl, hb⟩; have HC := Lib.hid (HC.out.trans (hb.mono HC.out.size)); clear hb))
          | ((go_at_call 60); ((with_reducible refine (HA2.out _ HC.out).mono ?_); rintro e wq ⟨rfl, hb⟩; have HC := Lib.hid (HC.out.trans (hb.mono HC.out.size)); clear hb))
          | ((go_at_call 57); ((with_reducible refine (HB1.out _ HC.out).mono ?_); rintro e wq ⟨rfl, hb⟩; have HC := Lib.hid (HC.out.trans (hb.mono HC.out.size)); clear hb))
          | ((go_at_call 60); ((with_reducible refine (HB2.out _ HC.out).mono ?_); rintro e wq ⟨rfl, hb⟩; have HC := Lib.hid (HC.out.trans (hb.mono HC.out.size)); clear hb))
          | ((go_at_call 57); ((with_reducible refine (HD.out _ HC.out).mono ?_); rintro e wq ⟨rfl, hb⟩; have HC := Lib.hid (HC.out.trans (hb.mono HC.out.size)); clear hb))
          | ((go_at_call 54); ((refine (known1_any _ (HL.out.bel (HB6.out.trans (HC.out.mono hb6)) hs) (Nat.lt_of_lt_of_le hs (Nat.le_trans hb6 HC.out.size))).mono ?_); rintro e wq ⟨rfl, hb⟩; have HC := Lib.hid (HC.out.trans (hb.mono HC.out.size)); clear hb)))
        all_goals
          go_ret
          exact ⟨rfl, HB6.out.trans (HC.out.mono hb6)⟩
end Go.Proofs.YtiheioajnfggmaaDoor
