/- A table from the tape: the contract of TableOf. -/
import Derived.Test.YtkhlmofcdchccaaGreatDoorTM13
import Derived.Test.YtkhlmofcdchccaaGreatDoorU07
namespace Go.Proofs.YtkhlmofcdchccaaGreatDoor
open Go.RowKit Go.Maps

/-- What TableOf gives: a few rows of the schema's width. -/
def TofQ (T : Nat) (nm : ByteArray) (cv : Value) (n : Nat) (v : Value) (W : World) : Prop := ∃ (nx : Int) (rv : Value) (l : List (Int × List Val)),
  v = .agg #[.string nm, cv, .int .i64 nx, rv] ∧ 0 ≤ nx ∧ nx ≤ 100 ∧ TrsR (At T) W rv l ∧ l.length ≤ 6 ∧ (∀ r ∈ l, r.2.length = n ∧ ∀ y ∈ r.2, ValidVal y) ∧ ∀ r ∈ l, I64R r.1

theorem OB.swap {T : Nat} {w W : World} {L : List OwnBlk} {a b : OwnBlk} (h : OB T w W (a :: b :: L)) : OB T w W (b :: a :: L) := h.sub fun x hx => by
  simp only [List.mem_cons] at hx ⊢
  rcases hx with rfl | rfl | hx
  · exact .inr (.inl rfl)
  · exact .inl rfl
  · exact .inr (.inr hx)

theorem OB.fill4 {T : Nat} {w W : World} {L : List OwnBlk} {p : Nat} {c0 c1 c2 c3 : Value} {e : TypeId} (h : OB T w W (⟨p, #[c0, c1, c2, c3], e⟩ :: L)) (hL : ∀ b ∈ L, b.pos ≠ p) (a b c d : Value) :
    OB T w ((((W.setCell ⟨p, 0, none⟩ a).setCell ⟨p, 1, none⟩ b).setCell ⟨p, 2, none⟩ c).setCell ⟨p, 3, none⟩ d) (⟨p, #[a, b, c, d], e⟩ :: L) := by
  have h0 := h.blk (b := ⟨p, _, _⟩) (List.mem_cons_self ..)
  have h1 := blk4_set0 (v := a) h0
  have h2 := blk4_set1 (v := b) h1
  have h3 := blk4_set2 (v := c) h2
  exact (((h.put 0 a h1 hL).put 1 b h2 hL).put 2 c h3 hL).put 3 d (blk4_set3 h3) hL

set_option maxRecDepth 100000 in
set_option maxHeartbeats 16000000 in
theorem tableOf_any (T : Nat) (nm : ByteArray) (cv : Value) (cl : List Col) (w : World) (ht : TapeOk T w) (hn : WordsOk T w) (hc : ColsR (At T) w cv cl) (hl : cl.length ≤ 1000) :
    Calls Tryz.prog 28 #[.pointer (some ⟨T, 0, none⟩), .agg #[.string nm, cv], .int .i64 6] w (Gives T w (TofQ T nm cv cl.length)) := by
  have HRW := Lib.hid fun wx (k : Keep (At T) w wx) (h : TapeOk T wx) => row_any T nm cv cl wx h (hn.at k) (hc.keep k) hl
  obtain ⟨ca, cc, rfl, hcm⟩ := hc.shape
  have HC := Lib.hid fun j (hj : j < cl.length) => rows_rowM hc hj
  obtain ⟨n, hN⟩ : ∃ n, cl.length = n := ⟨_, rfl⟩
  rw [hN] at HC hl HRW ⊢
  have hTw := ht.lt
  have h0 := (OB.start ht).new #[.string nm, .slice ca n cc] 42
  have h1 := h0.new' (g := w.heap.size + 1) (by simp) #[.string ⟨#[]⟩, .slice none 0 0, .int .i64 0, .slice none 0 0] 96
  clear ht hn hc hN hcm h0
  go_enter Tryz.func28, Tryz.ntmps28
  go_upto_region 1 with fail
  generalize World.alloc (World.alloc w _) _ = W0 at h1 ⊢
  have HO0 := Lib.hid h1
  obtain ⟨x0, x1, xf0, xf1, xz⟩ := blk2 (h1.blk (b := ⟨w.heap.size, _, _⟩) (List.mem_cons_of_mem _ (List.mem_cons_self ..)))
  have hz1 := h1.blt (b := ⟨w.heap.size + 1, _, _⟩) (List.mem_cons_self ..)
  dsimp only at hz1
  clear h1
  have HKS := Lib.hid fun (w' : World) (h : OB T w w' [⟨w.heap.size, #[.string nm, .slice ca n cc], 42⟩]) => show w'.cell? ⟨w.heap.size, 0, none⟩ = some (.string nm) ∧ w'.cell? ⟨w.heap.size, 1, none⟩ = some (.slice ca n cc) from
    (blk2 (h.blk (b := ⟨w.heap.size, _, _⟩) (List.mem_cons_self ..))).elim fun a0 h => ⟨a0, h.1⟩
  go_cut [7] (fun v wy => ∃ (g : Nat) (nx : Int), v = .pointer (some ⟨g, 0, none⟩) ∧ w.heap.size + 1 < g ∧ 0 ≤ nx ∧ nx ≤ 3 ∧ OB T w wy [⟨g, #[.string nm, .slice ca n cc, .int .i64 nx, .slice none 0 0], 96⟩, ⟨w.heap.size + 1, #[.string ⟨#[]⟩, .slice none 0 0, .int .i64 0, .slice none 0 0], 96⟩, ⟨w.heap.size, #[.string nm, .slice ca n cc], 42⟩])
  case first =>
    have tok1 : Hid True := Lib.hid trivial
    go_region_held3 (fun w' => w'.cell? ⟨w.heap.size, 0, none⟩ = some (.string nm) ∧ w'.cell? ⟨w.heap.size, 1, none⟩ = some (.slice ca n cc))
      (first | with_reducible exact HKS.out _ (HO0.out.drew.sub (by simp)) | with_reducible exact HKS.out _ ((HO0.out.drew.alloc _).sub (by simp)) | with_reducible exact HKS.out _ (HO5.out.sub (by simp)) | with_reducible exact HKS.out _ ((HO5.out.alloc _).sub (by simp)) | with_reducible exact HKS.out _ ((HO5.out.fill4 (by simp; omega) _ _ _ _).sub (by simp)) | go_keep)
      ((go_at_call 26; have _t := tok1; go_loud (refine (next_any T 3 _ (by omega) (by omega) (by first | exact HO0.out.drew.tape | exact (HO0.out.drew.alloc _).tape)).mono ?_; rintro e w5 ⟨v, rfl, ⟨r, rfl, hr0, hr1⟩, ht, hk⟩; have hw5 : IntKind.i64.wrap (1 + r) = 1 + r := IntWalk.i64_in _ (by omega); have HO5 := Lib.hid (by first | exact (HO0.out.drew.step ht hk) | exact ((HO0.out.drew.new' (g := W0.heap.size) rfl #[.string ⟨#[]⟩, .slice none 0 0, .int .i64 0, .slice none 0 0] 96).step ht hk)); have hz5 : W0.heap.size ≤ w5.heap.size := Nat.le_trans (by simp) hk.size; (first | (have hfq := blk_fr (HO5.out.blk (b := ⟨W0.heap.size, _, _⟩) (List.mem_cons_self ..)); have f0 := hfq 0; have f1 := hfq 1; have f2 := hfq 2; have f3 := hfq 3; have fz := HO5.out.blt (b := ⟨W0.heap.size, _, _⟩) (List.mem_cons_self ..); obtain ⟨k0, k1, k2, k3, _⟩ := blk4 (HO5.out.blk (b := ⟨W0.heap.size, _, _⟩) (List.mem_cons_self ..)); clear hfq) | (have hfq := blk_fr (heap_alloc_new w5 (.cells #[.string ⟨#[]⟩, .slice none 0 0, .int .i64 0, .slice none 0 0] 96)); have f0 := hfq 0; have f1 := hfq 1; have f2 := hfq 2; have f3 := hfq 3; obtain ⟨k0, k1, k2, k3, _⟩ := blk4 (heap_alloc_new w5 (.cells #[.string ⟨#[]⟩, .slice none 0 0, .int .i64 0, .slice none 0 0] 96)); clear hfq)); clear ht hk tok1 _t)))
    · go_wp2_with fail
      go_meet
      exact ⟨w5.heap.size, 1 + r, rfl, by omega, by omega, by omega, HO5.out.new #[.string nm, .slice ca n cc, .int .i64 (1 + r), .slice none 0 0] 96⟩
    · go_wp2_with fail
      go_meet
      exact ⟨W0.heap.size, 1 + r, rfl, by omega, by omega, by omega, HO5.out.fill4 (by simp; omega) (.string nm) (.slice ca n cc) (.int .i64 (1 + r)) (.slice none 0 0)⟩
  case rest =>
    obtain ⟨g, nx, rfl, hg, hx0, hx1, ho⟩ := hcut
    rename World => wy
    have HO1 := Lib.hid ho
    obtain ⟨x0, x1, xf0, xf1, xz⟩ := blk2 (ho.blk (b := ⟨w.heap.size, _, _⟩) (List.mem_cons_of_mem _ (List.mem_cons_of_mem _ (List.mem_cons_self ..))))
    have hgz := ho.blt (b := ⟨g, _, _⟩) (List.mem_cons_self ..)
    dsimp only at hgz
    clear ho HKS HO0
    go_wp2_with fail
    go_loopw [24, 8] (fun i k wr => ∃ (j : Nat) (key : Int), j ≤ n ∧ i = .int .i64 (j : Int) ∧ k = .int .i64 key ∧ -1 ≤ key ∧ key < (n : Int) ∧ OB T w wr [⟨g, #[.string nm, .slice ca n cc, .int .i64 nx, .slice none 0 0], 96⟩, ⟨w.heap.size + 1, #[.string ⟨#[]⟩, .slice none 0 0, .int .i64 0, .slice none 0 0], 96⟩, ⟨w.heap.size, #[.string nm, .slice ca n cc], 42⟩]) (fun i _ _ => n - (intOf i).toNat)
    case atStart => exact ⟨0, -1, Nat.zero_le _, rfl, rfl, Int.le_refl _, by omega, HO1.out⟩
    case round =>
      rename World => wr
      obtain ⟨j, key, hj, rfl, rfl, hk0, hk1, ho⟩ := hrel
      have HOR := Lib.hid ho
      clear ho x0 x1 xf0 xf1 xz HO1
      by_cases hlt : j < n
      · obtain ⟨⟨cn, ct, cnn, ck⟩, b, o, cs, _, _, hca, hbz, hcs0, hcs, hcap, hcm, hMb⟩ := HC.out j hlt
        obtain rfl : cs = [.string cn, .int .i64 ct, .bool cnn, .bool ck] := hcs0
        unfold maxLen at hcm
        subst hca
        obtain ⟨c0, c1, c2, c3⟩ := CellsAt.c4 (hcs.keep (M := At T) HOR.out.kept hMb)
        clear hcs
        have i0 : (0 : Int) ≤ (j : Int) := by omega
        have i1 : (j : Int) < (n : Int) := by omega
        have HO2 := Lib.hid (HOR.out.alloc (.cells #[.string cn, .int .i64 ct, .bool cnn, .bool ck] 55))
        cases ck with
        | true =>
          go_wp2_with fail
          go_roundw
          case rel => exact ⟨j + 1, (j : Int), by omega, by go_num, rfl, by omega, by omega, HO2.out⟩
          case measure => simp [intOf]; omega
        | false =>
          go_wp2_with fail
          go_roundw
          case rel => exact ⟨j + 1, key, by omega, by go_num, rfl, hk0, hk1, HO2.out⟩
          case measure => simp [intOf]; omega
      · obtain rfl : n = j := by omega
        have hr7 : IntKind.i64.wrap (6 + 1) = 7 := rfl
        go_wp2_with fail
        refine (next_any T 7 _ (by omega) (by omega) HOR.out.tape).mono ?_
        rintro e w2 ⟨v, rfl, ⟨c0, rfl, hc0, hc1⟩, ht, hk⟩
        have HO2 := Lib.hid (HOR.out.step ht hk)
        clear ht hk HOR
        dsimp only
        go_wp2_with fail
        go_loopw [11] (fun c wr => ∃ (k : Nat) (xn : Int) (ov : Value) (lo : List (Int × List Val)), c = .int .i64 (k : Int) ∧ OB T w wr [⟨g, #[.string nm, .slice ca n cc, .int .i64 xn, ov], 96⟩, ⟨w.heap.size + 1, #[.string ⟨#[]⟩, .slice none 0 0, .int .i64 0, .slice none 0 0], 96⟩, ⟨w.heap.size, #[.string nm, .slice ca n cc], 42⟩] ∧ RowsG (g + 1) wr 139 2 TrR ov lo ∧ lo.length + k ≤ 6 ∧ 0 ≤ xn ∧ xn + 2 * (k : Int) ≤ 15 ∧ (∀ r ∈ lo, r.2.length = n ∧ ∀ y ∈ r.2, ValidVal y) ∧ ∀ r ∈ lo, I64R r.1) (fun c _ => (intOf c).toNat)
        case atStart =>
          obtain ⟨k, rfl⟩ : ∃ k : Nat, c0 = k := ⟨c0.toNat, by omega⟩
          exact ⟨k, nx, _, [], rfl, HO2.out, RowsG.nil .., by simp; omega, hx0, by omega, fun r hr => (by cases hr), fun r hr => by cases hr⟩
        case round =>
          rename World => wr
          obtain ⟨k, xn, ov, lo, rfl, ho, hg2, hlk, hn0, hn1, hwd, hid⟩ := hrel
          obtain ⟨oa, oc, rfl, _⟩ := hg2.shape
          have HOR := Lib.hid ho
          have HGR := Lib.hid hg2
          have HWD := Lib.hid hwd
          have HID := Lib.hid hid
          have hgr := ho.blt (b := ⟨g, _, _⟩) (List.mem_cons_self ..)
          dsimp only at hgr
          have hzr := ho.size
          obtain ⟨x0, x1, xf0, xf1, xz⟩ := blk2 (ho.blk (b := ⟨w.heap.size, _, _⟩) (List.mem_cons_of_mem _ (List.mem_cons_of_mem _ (List.mem_cons_self ..))))
          clear ho hg2 hwd hid HO2
          by_cases hk : 0 < k
          · have i0 : (0 : Int) < (k : Int) := by omega
            go_wp2_with fail
            refine (HRW.out wr HOR.out.kept HOR.out.tape).mono ?_
            rintro e w3 ⟨v, rfl, ⟨r, hrl, hrv, hro⟩, ht, hkk⟩
            obtain ⟨ra, rc, hsh, _⟩ := hro.shape
            rw [hrl] at hsh
            subst hsh
            have HO3 := Lib.hid (HOR.out.step ht hkk)
            have HRO := Lib.hid hro
            have HRL := Lib.hid hrl
            have HRV := Lib.hid hrv
            have HG3 := Lib.hid (HGR.out.keep trStable hkk fun k h1 _ h => by unfold At at h; omega)
            have hz3 := hkk.size
            clear hro hrl hrv ht hkk x0 x1 xf0 xf1 xz
            have HLR : Hid (TrsR (Old (g + 1)) w3 (.slice oa lo.length oc) lo) := Lib.hid (HG3.out.rows trStable)
            have HLL := Lib.hid fun j (hj : j < lo.length) => rows_row HLR.out hj
            have hdb := HO3.out.blk (b := ⟨g, _, _⟩) (List.mem_cons_self ..)
            dsimp only at hdb
            obtain ⟨d0, d1, d2, d3, f2, f3, dz⟩ := blk4 hdb
            clear hdb
            dsimp only
            go_wp2_with fail
            go_loopw [47, 13] (fun i f wx => ∃ (j : Nat) (b : Bool), j ≤ lo.length ∧ i = .int .i64 (j : Int) ∧ f = .bool b ∧ Below w3.heap.size w3 wx) (fun i _ _ => lo.length - (intOf i).toNat)
            case atStart => exact ⟨0, true, Nat.zero_le _, rfl, rfl, Below.refl _ _⟩
            case round =>
              rename World => wx
              obtain ⟨j2, fb, hj2, rfl, rfl, hbel⟩ := hrel
              have HB := Lib.hid hbel
              have hzx := hbel.size
              clear hbel d0 d1 d2 d3 f2 f3 dz
              by_cases hlt : j2 < lo.length
              · obtain ⟨r2, b, o, cs, _, hrm, hoa, hbz, ⟨v, rfl, hvr⟩, hcs, hcap, hcm⟩ := HLL.out j2 hlt
                unfold maxLen at hcm
                subst hoa
                obtain ⟨c0', c1'⟩ := CellsAt.c2 (hcs.keep (M := NoM) (.bel HB.out) fun h => h)
                have hlen := (HWD.out r2 hrm).1
                obtain ⟨ra2, rc2, hsh, _⟩ := hvr.shape
                rw [hlen] at hsh
                subst hsh
                have HV2 := Lib.hid fun j (hj : j < r2.2.length) => rows_row hvr hj
                have hvn : ValsR NoM w3 (.slice ra n rc) r := HRO.out.rows fun k _ _ h => h
                have HVN := Lib.hid fun j (hj : j < r.length) => rows_row hvn hj
                clear hcs hrm hvr hvn
                have i2 : (0 : Int) ≤ (j2 : Int) := by omega
                have i3 : (j2 : Int) < (lo.length : Int) := by omega
                have hbx := heap_alloc_new wx (.cells #[.int .i64 r2.1, .slice ra2 n rc2] 139)
                have hB4 := HB.out.alloc hzx (.cells #[.int .i64 r2.1, .slice ra2 n rc2] 139)
                go_upto_region 17 with fail
                generalize hp : wx.heap.size = p at hbx ⊢
                generalize World.alloc wx _ = W4 at hbx hB4 ⊢
                clear hp c0' c1'
                obtain ⟨e0, e1, _⟩ := blk2 hbx
                have HB4 := Lib.hid hB4
                clear hbx hB4
                cases fb with
                | false =>
                  go_quiet (fail)
                  go_wp2_with fail
                  go_roundw
                  case rel => exact ⟨j2 + 1, false, by omega, by go_num, rfl, drewN_below HB4.out _⟩
                  case measure => simp [intOf]; omega
                | true =>
                  by_cases hkey : key < 0
                  · go_quiet (fail)
                    go_wp2_with fail
                    go_roundw
                    case rel => exact ⟨j2 + 1, true, by omega, by go_num, rfl, drewN_below HB4.out _⟩
                    case measure => simp [intOf]; omega
                  · obtain ⟨kk, rfl⟩ : ∃ kk : Nat, key = (kk : Int) := ⟨key.toNat, by omega⟩
                    obtain ⟨⟨ya, yb, yc⟩, b1, o1, cs1, _, _, hya, hyz, hcs1, hyc, hyp, hym⟩ := HV2.out kk (by rw [hlen]; omega)
                    obtain rfl : cs1 = [.int .i64 ya, .int .i64 yb, .string yc] := hcs1
                    obtain ⟨⟨za, zb, zc⟩, b2, o2, cs2, _, _, hza, hzz, hcs2, hzc, hzp, hzm⟩ := HVN.out kk (by rw [HRL.out]; omega)
                    obtain rfl : cs2 = [.int .i64 za, .int .i64 zb, .string zc] := hcs2
                    unfold maxLen at hym hzm
                    rw [hlen] at hyp
                    rw [HRL.out] at hzp
                    subst hya hza
                    obtain ⟨p0, p1, p2⟩ := CellsAt.c3 (hyc.keep (M := NoM) (.bel HB4.out) fun h => h)
                    obtain ⟨q0, q1, q2⟩ := CellsAt.c3 (hzc.keep (M := NoM) (.bel HB4.out) fun h => h)
                    clear hyc hzc hlen
                    have i4 : (0 : Int) ≤ (kk : Int) := by omega
                    cases h1 : (ya == za)
                    · go_quiet (fail)
                      go_wp2_with fail
                      go_roundw
                      case rel => exact ⟨j2 + 1, true, by omega, by go_num, rfl, drewN_below HB4.out _⟩
                      case measure => simp [intOf]; omega
                    cases h2 : (yb == zb)
                    · go_quiet (fail)
                      go_wp2_with fail
                      go_roundw
                      case rel => exact ⟨j2 + 1, true, by omega, by go_num, rfl, drewN_below HB4.out _⟩
                      case measure => simp [intOf]; omega
                    cases h3 : (yc.toList == zc.toList)
                    · go_quiet (fail)
                      go_wp2_with fail
                      go_roundw
                      case rel => exact ⟨j2 + 1, true, by omega, by go_num, rfl, drewN_below HB4.out _⟩
                      case measure => simp [intOf]; omega
                    go_quiet (fail)
                    go_wp2_with fail
                    go_roundw
                    case rel => exact ⟨j2 + 1, false, by omega, by go_num, rfl, drewN_below HB4.out _⟩
                    case measure => simp [intOf]; omega
              · have HOX := Lib.hid (HO3.out.bel HB.out)
                have HGX := Lib.hid (HG3.out.bel trStable HB.out)
                have HRX := Lib.hid (RowsO.kept HRO.out (Keep.bel (M := NoM) HB.out) (fun _ _ h => h) fun _ _ _ h => h)
                clear HLR HLL HG3 HRO
                have hdb := HOX.out.blk (b := ⟨g, _, _⟩) (List.mem_cons_self ..)
                dsimp only at hdb
                obtain ⟨d0, d1, d2, d3, f2, f3, dz⟩ := blk4 hdb
                clear hdb
                have hjl : lo.length = j2 := by omega
                go_upto_if 69 with fail
                go_cut [] (fun wy => ∃ (ov2 : Value) (lo2 : List (Int × List Val)), OB T w wy [⟨g, #[.string nm, .slice ca n cc, .int .i64 xn, ov2], 96⟩, ⟨w.heap.size + 1, #[.string ⟨#[]⟩, .slice none 0 0, .int .i64 0, .slice none 0 0], 96⟩, ⟨w.heap.size, #[.string nm, .slice ca n cc], 42⟩] ∧ RowsG (g + 1) wy 139 2 TrR ov2 lo2 ∧ lo2.length ≤ lo.length + 1 ∧ (∀ r ∈ lo2, r.2.length = n ∧ ∀ y ∈ r.2, ValidVal y) ∧ ∀ r ∈ lo2, I64R r.1)
                case first =>
                  cases fb with
                  | false =>
                    go_wp2_with fail
                    go_meet
                    exact ⟨_, lo, HOX.out, HGX.out, by omega, HWD.out, HID.out⟩
                  | true =>
                    have HY : Hid (TrR (OldOr (g + 1) (.slice oa lo.length oc)) wx (xn, r) [.int .i64 xn, .slice ra n rc]) := Lib.hid ⟨_, rfl, HRX.out.rows fun k h1 h2 hA => (by rcases hA with hA | hA; omega; have := (RowsO.lt HGR.out hA).2; omega)⟩
                    have hxm := HOX.out.size
                    clear hjl
                    go_wp2_with (at_builtin; go_loud (refine wpList_appG (w := wx) trStable rfl _ _ 44 rfl 139 _ 2 32 Tryz.underlying44 infoTrw rfl (by decide) (g + 1) (.slice oa lo.length oc) wx.heap.size #[.int .i64 xn, .slice ra n rc] lo (xn, r) rfl rfl rfl HGX.out rfl HY.out (by omega) (by unfold maxLen; omega) (by omega) ?_; intro v9 w9 hg9 hk; have HG9 := Lib.hid hg9; have HO9 := Lib.hid (HOX.out.then hk (fun i hi hO => (by have := (RowsO.lt HGX.out hO).1; omega)) (fun b hb hO => (by have h0 := (RowsO.lt HGX.out hO).1; simp only [List.mem_cons, List.not_mem_nil, or_false] at hb; rcases hb with rfl | rfl | rfl <;> dsimp only at h0 <;> omega))); obtain ⟨a9, c9, hv9, _⟩ := hg9.shape; simp only [List.length_append, List.length_singleton] at hv9; subst hv9; have hdb := HO9.out.blk (b := ⟨g, _, _⟩) (List.mem_cons_self ..); dsimp only at hdb; have HDB := Lib.hid hdb; obtain ⟨d40, d41, d42, d43, f42, f43, dz4⟩ := blk4 hdb; clear hg9 hk hdb))
                    go_meet
                    refine ⟨_, lo ++ [(xn, r)], HO9.out.put 3 _ (blk4_set3 HDB.out) (by simp; omega), HG9.out.keep trStable ((Keep.refl (At g) w9).setCell (p := ⟨g, 3, none⟩) (fun _ => rfl) _) (fun k h1 _ h => by unfold At at h; omega), by simp, fun q hq => ?_, fun q hq => ?_⟩
                    · rcases List.mem_append.1 hq with hq | hq
                      · exact HWD.out q hq
                      · simp only [List.mem_cons, List.not_mem_nil, or_false] at hq
                        subst hq
                        exact ⟨HRL.out, HRV.out⟩
                    · rcases List.mem_append.1 hq with hq | hq
                      · exact HID.out q hq
                      · simp only [List.mem_cons, List.not_mem_nil, or_false] at hq
                        subst hq
                        exact ⟨by show (-9223372036854775808 : Int) ≤ xn; omega, by show xn ≤ 9223372036854775807; omega⟩
                case rest =>
                  obtain ⟨ov2, lo2, ho, hg2, hl2, hw2, hi2⟩ := hcut
                  rename World => wy
                  have HO9 := Lib.hid ho
                  have HG9 := Lib.hid hg2
                  have HW9 := Lib.hid hw2
                  have HI9 := Lib.hid hi2
                  clear ho hg2 hw2 hi2 d0 d1 d2 d3 f2 f3 dz hjl
                  have HKX := Lib.hid fun (w' : World) (o2 : Value) (h : OB T w w' [⟨g, #[.string nm, .slice ca n cc, .int .i64 xn, o2], 96⟩, ⟨w.heap.size + 1, #[.string ⟨#[]⟩, .slice none 0 0, .int .i64 0, .slice none 0 0], 96⟩, ⟨w.heap.size, #[.string nm, .slice ca n cc], 42⟩]) => show w'.cell? ⟨g, 2, none⟩ = some (.int .i64 xn) from (blk4 (h.blk (b := ⟨g, _, _⟩) (List.mem_cons_self ..))).2.2.1
                  go_upto_region 21 with fail
                  refine wp_regionW 10 (fun w' => w'.cell? ⟨g, 2, none⟩ = some (.int .i64 xn)) (by kernel_rfl) ?_
                  refine wpAnyW_take (i := 0) (oi := _) (v := ?_) rfl (by kernel_rfl) (fun _ _ _ h => h) (.inl ⟨by kernel_rfl, fun wh hwh => by (try dsimp only at hwh); have g0 := hwh; first | (simp [execOp, go_sem]; done) | (simp [execOp, go_sem]; with_reducible rfl)⟩) (HKX.out _ _ HO9.out.drew) ?_
                  (try simp only [Act.put, List.getElem_toArray, List.getElem_cons_zero, List.setIfInBounds_toArray, List.set_cons_zero, List.set_cons_succ])
                  refine wpAnyW_take (i := 1) (oi := _) (v := ?_) rfl (by kernel_rfl) (fun _ _ _ h => h) (.inl ⟨by kernel_rfl, fun wh hwh => by (try dsimp only at hwh); have g0 := hwh; first | (simp [execOp, go_sem, g0]; done) | (simp [execOp, go_sem, g0]; with_reducible rfl)⟩) (HKX.out _ _ HO9.out.drew) ?_
                  (try simp only [Act.put, List.getElem_toArray, List.getElem_cons_succ, List.getElem_cons_zero, List.setIfInBounds_toArray, List.set_cons_zero, List.set_cons_succ])
                  refine wpAnyW_take (i := 2) (oi := _) (v := ?_) rfl (by kernel_rfl) (fun _ _ _ h => h) (.inl ⟨by kernel_rfl, fun wh hwh => by (try dsimp only at hwh); have g0 := hwh; first | (simp [execOp, go_sem]; done) | (simp [execOp, go_sem]; with_reducible rfl)⟩) (HKX.out _ _ HO9.out.drew) ?_
                  (try simp only [Act.put, List.getElem_toArray, List.getElem_cons_succ, List.getElem_cons_zero, List.setIfInBounds_toArray, List.set_cons_zero, List.set_cons_succ])
                  refine wpAnyW_take (i := 4) (oi := _) (v := ?_) rfl (by kernel_rfl) (fun _ _ _ h => h) (.inl ⟨by kernel_rfl, fun wh hwh => by (try dsimp only at hwh); have g0 := hwh; first | (simp [execOp, go_sem]; done) | (simp [execOp, go_sem]; with_reducible rfl)⟩) (HKX.out _ _ HO9.out.drew) ?_
                  (try simp only [Act.put, List.getElem_toArray, List.getElem_cons_succ, List.getElem_cons_zero, List.setIfInBounds_toArray, List.set_cons_zero, List.set_cons_succ])
                  refine wpAnyW_one (i := 3) (o := _) (by kernel_rfl) rfl (fun K hK => ?_)
                  go_simp
                  refine (next_any T 2 _ (by omega) (by omega) HO9.out.drew.tape).mono ?_
                  rintro e v1 ⟨_, rfl, ⟨r1, rfl, hr0, hr1⟩, ht, hk⟩
                  have HOa := Lib.hid (HO9.out.drew.step ht hk)
                  have HKa := Lib.hid hk
                  clear ht hk
                  refine hK.out _ _ (.inr (HKX.out _ _ HOa.out)) ?_
                  clear hK K
                  (try simp only [Act.put, List.getElem_toArray, List.getElem_cons_succ, List.getElem_cons_zero, List.setIfInBounds_toArray, List.set_cons_zero, List.set_cons_succ])
                  refine wpAnyW_one (i := 5) (o := _) (by kernel_rfl) rfl (fun K hK => ?_)
                  go_simp
                  refine (next_any T 2 _ (by omega) (by omega) HOa.out.tape).mono ?_
                  rintro e v2 ⟨_, rfl, ⟨r2, rfl, hq0, hq1⟩, ht, hk⟩
                  have HOb := Lib.hid (HOa.out.step ht hk)
                  have HKb := Lib.hid hk
                  clear ht hk
                  obtain ⟨q, hq, hqa, hqb⟩ : ∃ q : Int, r1 * r2 = q ∧ 0 ≤ q ∧ q ≤ 1 := by
                    have h1 : r1 = 0 ∨ r1 = 1 := by omega
                    rcases h1 with rfl | rfl
                    · exact ⟨0, by simp, by omega, by omega⟩
                    · exact ⟨r2, by simp, by omega, by omega⟩
                  have hwm : IntKind.i64.wrap (r1 * r2) = q := by rw [hq]; exact IntWalk.i64_in _ (by omega)
                  have hwa : IntKind.i64.wrap (1 + q) = 1 + q := IntWalk.i64_in _ (by omega)
                  have hwb : IntKind.i64.wrap (xn + (1 + q)) = xn + (1 + q) := IntWalk.i64_in _ (by omega)
                  have hdb := HOb.out.blk (b := ⟨g, _, _⟩) (List.mem_cons_self ..)
                  dsimp only at hdb
                  have HDB := Lib.hid hdb
                  obtain ⟨d40, d41, d42, d43, f42, f43, dz4⟩ := blk4 hdb
                  clear hdb
                  refine hK.out _ _ (.inr (HKX.out _ _ HOb.out)) ?_
                  clear hK K
                  (try simp only [Act.put, List.getElem_toArray, List.getElem_cons_succ, List.getElem_cons_zero, List.setIfInBounds_toArray, List.set_cons_zero, List.set_cons_succ])
                  refine wpAnyW_take (i := 6) (oi := _) (v := ?_) rfl (by kernel_rfl) (fun _ _ _ h => h) (.inl ⟨by kernel_rfl, fun wh hwh => by (try dsimp only at hwh); have g0 := hwh; first | (simp [execOp, go_sem, hwm]; done) | (simp [execOp, go_sem, hwm]; with_reducible rfl)⟩) (HKX.out _ _ HOb.out) ?_
                  (try simp only [Act.put, List.getElem_toArray, List.getElem_cons_succ, List.getElem_cons_zero, List.setIfInBounds_toArray, List.set_cons_zero, List.set_cons_succ])
                  refine wpAnyW_take (i := 7) (oi := _) (v := ?_) rfl (by kernel_rfl) (fun _ _ _ h => h) (.inl ⟨by kernel_rfl, fun wh hwh => by (try dsimp only at hwh); have g0 := hwh; first | (simp [execOp, go_sem, hwa]; done) | (simp [execOp, go_sem, hwa]; with_reducible rfl)⟩) (HKX.out _ _ HOb.out) ?_
                  (try simp only [Act.put, List.getElem_toArray, List.getElem_cons_succ, List.getElem_cons_zero, List.setIfInBounds_toArray, List.set_cons_zero, List.set_cons_succ])
                  refine wpAnyW_take (i := 8) (oi := _) (v := ?_) rfl (by kernel_rfl) (fun _ _ _ h => h) (.inl ⟨by kernel_rfl, fun wh hwh => by (try dsimp only at hwh); have g0 := hwh; first | (simp [execOp, go_sem, hwb]; done) | (simp [execOp, go_sem, hwb]; with_reducible rfl)⟩) (HKX.out _ _ HOb.out) ?_
                  (try simp only [Act.put, List.getElem_toArray, List.getElem_cons_succ, List.getElem_cons_zero, List.setIfInBounds_toArray, List.set_cons_zero, List.set_cons_succ])
                  refine wpAnyW_take (i := 9) (oi := _) (v := ?_) rfl (by kernel_rfl) (fun _ _ _ h => h) (.inl ⟨by kernel_rfl, fun wh hwh => by (try dsimp only at hwh); have g0 := hwh; first | (simp [execOp, go_sem]; done) | (simp [execOp, go_sem]; with_reducible rfl)⟩) (HKX.out _ _ HOb.out) ?_
                  (try simp only [Act.put, List.getElem_toArray, List.getElem_cons_succ, List.getElem_cons_zero, List.setIfInBounds_toArray, List.set_cons_zero, List.set_cons_succ])
                  refine wpAnyW_one (i := 10) (o := _) (by kernel_rfl) rfl (fun K hK => ?_)
                  go_simp
                  refine hK.out _ _ (.inl (by kernel_rfl)) ?_
                  clear hK K
                  (try simp only [Act.put, List.getElem_toArray, List.getElem_cons_succ, List.getElem_cons_zero, List.setIfInBounds_toArray, List.set_cons_zero, List.set_cons_succ])
                  refine wpAnyW_done (by kernel_rfl) ?_ _
                  go_wp2_with fail
                  go_roundw
                  case rel =>
                    have hlo1 : ∀ k, g + 1 ≤ k → ¬ At T k := fun k h1 h => by unfold At at h; omega
                    have g1 := (HG9.out.bel trStable (drew_below (Below.refl _ _))).keep trStable HKa.out fun k h1 _ => hlo1 k h1
                    have g2 := g1.keep trStable HKb.out fun k h1 _ => hlo1 k h1
                    exact ⟨k - 1, xn + (1 + q), ov2, lo2, by go_num, HOb.out.put 2 _ (blk4_set2 HDB.out) (by simp; omega), g2.keep trStable ((Keep.refl (At g) v2).setCell (p := ⟨g, 2, none⟩) (fun _ => rfl) _) (fun k h1 _ h => by unfold At at h; omega), by omega, by omega, by omega, HW9.out, HI9.out⟩
                  case measure => simp [intOf]; omega
          · obtain rfl : k = 0 := by omega
            have hdb := HOR.out.blk (b := ⟨g, _, _⟩) (List.mem_cons_self ..)
            dsimp only at hdb
            obtain ⟨d0, d1, d2, d3, f2, f3, dz⟩ := blk4 hdb
            clear hdb
            have hub := HOR.out.blk (b := ⟨w.heap.size + 1, _, _⟩) (List.mem_cons_of_mem _ (List.mem_cons_self ..))
            dsimp only at hub
            have uf0 := blk_fr hub 0
            have uf1 := blk_fr hub 1
            obtain ⟨u0, u1, u2, u3, uf2, uf3, uz⟩ := blk4 hub
            clear hub
            have HTR : Hid (TrsR (Old (g + 1)) wr (.slice oa lo.length oc) lo) := Lib.hid (HGR.out.rows trStable)
            go_wp2_with fail
            refine bodyPost_ret (v := .agg #[.string nm, .slice ca n cc, .int .i64 xn, .slice oa lo.length oc]) (by simp [results, Tryz.results28, go_sem, u0, u1, u2, u3]) rfl ?_
            have hf := HOR.out.swap.fill4 (by simp; omega) (.string nm) (.slice ca n cc) (.int .i64 xn) (.slice oa lo.length oc)
            have k4 := (((Keep.refl (At (w.heap.size + 1)) wr).setCell (p := ⟨w.heap.size + 1, 0, none⟩) (fun _ => rfl) (.string nm)).setCell (p := ⟨w.heap.size + 1, 1, none⟩) (fun _ => rfl) (.slice ca n cc)).setCell (p := ⟨w.heap.size + 1, 2, none⟩) (fun _ => rfl) (.int .i64 xn)
            have k5 := k4.setCell (p := ⟨w.heap.size + 1, 3, none⟩) (fun _ => rfl) (.slice oa lo.length oc)
            generalize World.setCell _ (⟨w.heap.size + 1, 3, none⟩ : Addr) _ = W9 at hf k5 ⊢
            have q2 := HTR.out.keep (k5.weak fun k _ h => by unfold At at h; unfold Old; omega)
            exact hf.gives ⟨xn, _, lo, rfl, hn0, by omega, q2.weak fun k _ h => by unfold At at h; unfold Old; omega, by omega, HWD.out, HID.out⟩
end Go.Proofs.YtkhlmofcdchccaaGreatDoor
