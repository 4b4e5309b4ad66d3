/- The walk of ValueRows. -/
import Derived.Test.YtiheioajnfggmaaDoorV13
import Derived.BigQuiet
import Derived.Deep.QuietTactic
namespace Go.Proofs.YtiheioajnfggmaaDoor
open Go.RowKit

theorem lexC_range : ∀ x y : List Val, lexC cmpV x y = -1 ∨ lexC cmpV x y = 0 ∨ lexC cmpV x y = 1
  | [], [] => .inr (.inl rfl)
  | [], _ :: _ => .inl rfl
  | _ :: _, [] => .inr (.inr rfl)
  | a :: la, b :: lb => by
    simp only [lexC, thenC]
    split
    · exact cmpV_range a b
    · exact lexC_range la lb

theorem row_at {T : Nat} {w : World} {la : Option Addr} {lc : Nat} {l : List (List Val)} (h : RowsR (At T) w 1 (RowR (At T) w) (.slice la l.length lc) l) (j : Nat) (hj : j < l.length) :
    ∃ b o xa xc, la = some ⟨b, o, none⟩ ∧ ∀ wx, Keep (At T) w wx → wx.cell? ⟨b, o + j, none⟩ = some (.slice xa (l[j]).length xc) ∧ ValsR (At T) wx (.slice xa (l[j]).length xc) l[j] := by
  rcases h.open with ⟨_, h'⟩ | ⟨b, o, cap, hv, hT, hb, _, _, hx⟩
  · subst h'
    simp at hj
  · simp only [Value.slice.injEq] at hv
    obtain ⟨rfl, _, _⟩ := hv
    obtain ⟨cs, ⟨vx, rfl, hvx⟩, _, hc⟩ := hx j _ (List.getElem?_eq_getElem hj)
    obtain ⟨xa, xc, rfl, _⟩ := hvx.shape
    refine ⟨b, o, xa, xc, rfl, fun wx k => ⟨?_, hvx.keep k⟩⟩
    have := (hc.keep k hT).c1
    rw [Nat.mul_one] at this
    exact this

theorem head_some {M : Nat → Prop} {w : World} {xa : Option Addr} {xc : Nat} {x : List Val} (h : ValsR M w (.slice xa x.length xc) x) (hj : 0 < x.length) : ∃ b o, xa = some ⟨b, o, none⟩ := by
  rcases RowsR.open h with ⟨_, h'⟩ | ⟨b, o, cap, hv, _⟩
  · subst h'
    simp at hj
  · simp only [Value.slice.injEq] at hv
    exact ⟨b, o, hv.1⟩
theorem head_at {M : Nat → Prop} {w : World} {b o xc : Nat} {x : List Val} {x0 : Val} (h : ValsR M w (.slice (some ⟨b, o, none⟩) x.length xc) x) (hj : x[0]? = some x0) : ValAt w b o x0 := by
  rcases RowsR.open h with ⟨_, h'⟩ | ⟨b', o', cap, hv, _, _, _, _, hx⟩
  · subst h'
    simp at hj
  · simp only [Value.slice.injEq, Option.some.injEq, Addr.mk.injEq] at hv
    obtain ⟨⟨rfl, rfl, _⟩, _, _⟩ := hv
    obtain ⟨cs, rfl, _, hc⟩ := hx 0 _ hj
    rw [Nat.zero_mul, Nat.add_zero] at hc
    exact hc.vals

/-- The tape and what lies elsewhere, behind calls. -/
def TK (T : Nat) (w2 w : World) : Prop := TapeOk T w ∧ Keep (At T) w2 w
theorem TK.bel {T : Nat} {w2 w w' : World} (h : TK T w2 w) (k : Below w.heap.size w w') : TK T w2 w' := ⟨h.1.bel k, h.2.below k⟩

set_option maxRecDepth 100000 in
set_option maxHeartbeats 8000000 in
theorem rows_any (v : Value) (w : World) (hv : IntsAt w v) (hn : WordsOk w.heap.size w) (hl : LibOk w) (hs : 3 < w.heap.size) : Calls Tryd.prog 12 #[v] w (RetBel (.bool true) w) := by
  have HV := Lib.hid hv
  have HN := Lib.hid hn
  have HL := Lib.hid hl
  clear hv hn hl
  go_enter Tryd.func12, Tryd.ntmps12
  go_wp2_with fail
  refine (new_any v w HV.out).mono ?_
  rintro e w1 ⟨rfl, ht, hb⟩
  have h1 := ht.lt
  have HT1 := Lib.hid ht
  have HB1 := Lib.hid hb
  have HN1 := Lib.hid (HN.out.keep (M := fun _ => False) (.bel hb) fun _ _ => id)
  clear ht hb HV
  dsimp only
  go_wp2_with fail
  refine (rows_tape w.heap.size w1 HT1.out HN1.out).mono ?_
  rintro e w2 ⟨v2, rfl, ⟨l, hl5, hl4, hr⟩, ht, hk⟩
  obtain ⟨la, lc, rfl, _⟩ := hr.shape
  have h2 := hk.size
  have HL4 := Lib.hid hl4
  have HROW := Lib.hid hr
  have HTK2 : Hid (TK w.heap.size w2 w2) := Lib.hid ⟨ht, Keep.refl _ _⟩
  have HBW : Hid (∀ wx, TK w.heap.size w2 wx → Below w.heap.size w wx) := Lib.hid fun wx k => tape_below HB1.out (Nat.le_of_lt h1) (hk.trans k.2)
  have HNW : Hid (∀ wx, TK w.heap.size w2 wx → WordsOk w.heap.size wx) := Lib.hid fun wx k => HN1.out.at (hk.trans k.2)
  have hTz : w.heap.size < w2.heap.size := by omega
  clear hl4 hr ht HT1 HB1 HN1 HN hk h1 h2
  dsimp only
  generalize hTw : w.heap.size = T at HROW HTK2 HNW hTz HBW ⊢
  have HBW : Hid (∀ wx, TK T w2 wx → Below w.heap.size w wx) := Lib.hid fun wx k => by rw [hTw]; exact HBW.out wx k
  clear hTw
  go_wp2_with fail
  go_loopw [18] (fun i wr => ∃ j : Nat, j ≤ l.length ∧ i = .int .i64 j ∧ TK T w2 wr) (fun i _ => l.length - (intOf i).toNat)
  case atStart => exact ⟨0, Nat.zero_le _, rfl, HTK2.out⟩
  case round =>
    rename World => wo
    obtain ⟨j, hj, rfl, htk⟩ := hrel
    have HTo := Lib.hid htk
    clear htk
    by_cases hlt : j < l.length
    · obtain ⟨b, o, xa, xc, rfl, hx⟩ := row_at HROW.out j hlt
      have hx4 : (l[j]).length ≤ 4 := HL4.out _ (List.getElem_mem hlt)
      generalize l[j] = x at hx hx4
      have cx := (hx wo HTo.out.2).1
      have HX : Hid (∀ wx, TK T w2 wx → ValsR (At T) wx (.slice xa x.length xc) x) := Lib.hid fun wx k => (hx wx k.2).2
      have i0 : (0 : Int) ≤ (j : Int) := by omega
      have i1 : (j : Int) < (l.length : Int) := by omega
      clear hx
      have tok1 : Hid True := trivial
      have hwo : T < wo.heap.size := Nat.lt_of_lt_of_le hTz HTo.out.2.size
      have HB4 : Hid (RB T wo.heap.size wo (wo.alloc (.cells #[] 48)) (.slice (some ⟨wo.heap.size, 0, none⟩) 0 0) []) := Lib.hid ⟨HTo.out.1.alloc _, (Keep.refl _ _).alloc _, rowsO_new0, hwo, rfl⟩
      go_upto_region 7 with (first | ((at_builtin; have _t := tok1; refine wpList_app rfl _ _ 31 rfl 48 _ 3 32 Tryd.underlying31 infoVal rfl (by decide) (R := ValR) (M := At T) wo.heap.size (.slice (some ⟨wo.heap.size, 0, none⟩) 0 0) (.slice xa x.length xc) [] x rfl rfl rowsO_new0 (HX.out _ (HTo.out.bel ((Below.refl wo.heap.size wo).alloc (Nat.le_refl _) _))) (fun y _ cs h => valR_one y cs h) (by simp; omega) (by simp [maxLen]; omega) (by simp) ?_; intro v5 w5 ho hk _; rw [List.nil_append] at ho; have HB5 := Lib.hid (HB4.out.own (Below.refl _ _) hk ho); clear ho hk tok1)) | ((go_at_call 42); (refine (value_t T _ HB5.out.1 (HNW.out _ ⟨HB5.out.1, HTo.out.2.trans HB5.out.2.1⟩)).mono ?_; rintro e w6 ⟨_, rfl, ⟨yk, yn, ys, rfl⟩, ht, hk⟩; have HB6 := Lib.hid (HB5.out.step ht hk); clear ht hk)) | ((at_builtin; refine wpList_app rfl _ _ 31 rfl 48 _ 3 32 Tryd.underlying31 infoVal rfl (by decide) (R := ValR) (M := At T) wo.heap.size v5 (.slice (some ⟨w6.heap.size, 0, none⟩) 1 1) x [⟨yk, yn, ys⟩] rfl rfl (RowsO.kept HB6.out.2.2.1 ((Keep.refl (fun _ => False) w6).alloc _) (fun _ _ => id) fun _ _ _ h => h) (rows_one (⟨yk, yn, ys⟩ : Val) rfl (by have := HB6.out.1.lt; unfold At; omega) rfl rfl) (fun y _ cs h => valR_one y cs h) (by simp; omega) (by simp [maxLen]; omega) (by have := HB6.out.2.1.size; simp; omega) ?_; intro v7 w7 ho hk _; have HB7 := Lib.hid (HB6.out.own ((Below.refl w6.heap.size w6).alloc (Nat.le_refl _) _) hk ho); clear ho hk HB5 HB6)))
      have HT7 : Hid (TK T w2 w7) := Lib.hid ⟨HB7.out.1, HTo.out.2.trans HB7.out.2.1⟩
      have HU : Hid (ValsR (At T) w7 v7 (x ++ [⟨yk, yn, ys⟩])) := Lib.hid (HB7.out.2.2.1.rows fun k h1 _ hA => by unfold At at hA; omega)
      clear HB7 HB4 HTo
      go_cut [38] (fun v wz => v = .bool false ∧ TK T w2 wz)
      case first =>
        have hxu := fun wx (k : TK T w2 wx) (k7 : Keep (At T) w7 wx) => rows_v _ _ x (x ++ [⟨yk, yn, ys⟩]) wx (HX.out wx k) (HU.out.keep k7)
        have hux := fun wx (k : TK T w2 wx) (k7 : Keep (At T) w7 wx) => rows_v _ _ (x ++ [⟨yk, yn, ys⟩]) x wx (HU.out.keep k7) (HX.out wx k)
        rw [lexC_longer valOrd] at hxu
        rw [show lexC cmpV (x ++ [⟨yk, yn, ys⟩]) x = 1 by have := lexC_neg valOrd (x ++ [⟨yk, yn, ys⟩]) x; rw [lexC_longer valOrd] at this; exact this] at hux
        have HXU := Lib.hid hxu
        have HUX := Lib.hid hux
        have HC := Lib.hid HT7.out
        have HC7 := Lib.hid (Keep.refl (At T) w7)
        clear hxu hux HU HT7
        go_wp2_with (first | ((go_at_call 57); ((with_reducible refine (HXU.out _ HC.out HC7.out).mono ?_); rintro e wq ⟨rfl, hb⟩; have HC := Lib.hid (HC.out.bel hb); have HC7 := Lib.hid (HC7.out.below hb); clear hb)) | ((go_at_call 57); ((with_reducible refine (HUX.out _ HC.out HC7.out).mono ?_); rintro e wq ⟨rfl, hb⟩; have HC := Lib.hid (HC.out.bel hb); have HC7 := Lib.hid (HC7.out.below hb); clear hb)))
        go_meet
        exact ⟨rfl, HC.out⟩
      case rest =>
        obtain ⟨rfl, hbz⟩ := hcut
        have HTh := Lib.hid hbz
        clear hbz HU HT7
        go_wp2_with fail
        go_loopw [41] (fun i wr => ∃ k : Nat, k ≤ l.length ∧ i = .int .i64 k ∧ TK T w2 wr) (fun i _ => l.length - (intOf i).toNat)
        case atStart => exact ⟨0, Nat.zero_le _, rfl, HTh.out⟩
        case round =>
          rename World => wi
          obtain ⟨k, hk, rfl, htk⟩ := hrel
          have HTi := Lib.hid htk
          clear htk
          by_cases hlt2 : k < l.length
          · obtain ⟨bw, ow, ya, yc, he, hy⟩ := row_at HROW.out k hlt2
            generalize l[k] = y at hy
            simp only [Option.some.injEq, Addr.mk.injEq, and_true] at he
            obtain ⟨rfl, rfl⟩ := he
            have cy := (hy wi HTi.out.2).1
            have HY : Hid (∀ wx, TK T w2 wx → ValsR (At T) wx (.slice ya y.length yc) y) := Lib.hid fun wx k => (hy wx k.2).2
            have i0 : (0 : Int) ≤ (k : Int) := by omega
            have i1 : (k : Int) < (l.length : Int) := by omega
            clear hy
            go_upto_region 12 with fail
            go_cut [52] (fun v wz => v = .bool false ∧ TK T w2 wz)
            case first =>
              clear cy i0 i1
              have HC := Lib.hid HTi.out
              have hxy := fun wx (k : TK T w2 wx) => rows_v _ _ x y wx (HX.out wx k) (HY.out wx k)
              have hyx := fun wx (k : TK T w2 wx) => rows_v _ _ y x wx (HY.out wx k) (HX.out wx k)
              have hd := (lexOrd valOrd).neg y x
              have n0 : IntKind.i64.wrap 0 = 0 := by decide
              have n1 : IntKind.i64.wrap (-1) = -1 := by decide
              have n2 : IntKind.i64.wrap 1 = 1 := by decide
              rcases lexC_range x y with hc | hc | hc
              · rw [hc] at hxy hd
                have hd : _ = (1 : Int) := hd
                rw [hd] at hyx
                have HXY := Lib.hid hxy
                have HYX := Lib.hid hyx
                clear hxy hyx hd hc
                go_wp2_with (first | ((go_at_call 57); ((with_reducible refine (HXY.out _ HC.out).mono ?_); rintro e wq ⟨rfl, hb⟩; have HC := Lib.hid (HC.out.bel hb); clear hb)) | ((go_at_call 57); ((with_reducible refine (HYX.out _ HC.out).mono ?_); rintro e wq ⟨rfl, hb⟩; have HC := Lib.hid (HC.out.bel hb); clear hb)))
                go_meet
                exact ⟨rfl, HC.out⟩
              · rw [hc] at hxy hd
                have hd : _ = (0 : Int) := hd
                rw [hd] at hyx
                have HXY := Lib.hid hxy
                have HYX := Lib.hid hyx
                clear hxy hyx hd hc
                go_wp2_with (first | ((go_at_call 57); ((with_reducible refine (HXY.out _ HC.out).mono ?_); rintro e wq ⟨rfl, hb⟩; have HC := Lib.hid (HC.out.bel hb); clear hb)) | ((go_at_call 57); ((with_reducible refine (HYX.out _ HC.out).mono ?_); rintro e wq ⟨rfl, hb⟩; have HC := Lib.hid (HC.out.bel hb); clear hb)))
                go_meet
                exact ⟨rfl, HC.out⟩
              · rw [hc] at hxy hd
                have hd : _ = (-1 : Int) := hd
                rw [hd] at hyx
                have HXY := Lib.hid hxy
                have HYX := Lib.hid hyx
                clear hxy hyx hd hc
                go_wp2_with (first | ((go_at_call 57); ((with_reducible refine (HXY.out _ HC.out).mono ?_); rintro e wq ⟨rfl, hb⟩; have HC := Lib.hid (HC.out.bel hb); clear hb)) | ((go_at_call 57); ((with_reducible refine (HYX.out _ HC.out).mono ?_); rintro e wq ⟨rfl, hb⟩; have HC := Lib.hid (HC.out.bel hb); clear hb)))
                go_meet
                exact ⟨rfl, HC.out⟩
            case rest =>
              obtain ⟨rfl, hbz⟩ := hcut
              rename World => wj
              have HTj := Lib.hid hbz
              clear hbz HTi cy i0 i1
              go_upto_region 14 with fail
              go_cut [82] (fun v wz => v = .bool false ∧ TK T w2 wz)
              case first =>
                have HC : Hid (TK T w2 wj.drew) := Lib.hid ⟨HTj.out.1.drew, HTj.out.2.drew⟩
                by_cases hx0 : 0 < x.length
                · have ix : (0 : Int) < (x.length : Int) := by omega
                  by_cases hy0 : 0 < y.length
                  · have iy : (0 : Int) < (y.length : Int) := by omega
                    obtain ⟨xb, xo, rfl⟩ := head_some (HX.out w2 HTK2.out) hx0
                    obtain ⟨yb, yo, rfl⟩ := head_some (HY.out w2 HTK2.out) hy0
                    have hxh : x[0]? = some x[0] := List.getElem?_eq_getElem hx0
                    have hyh : y[0]? = some y[0] := List.getElem?_eq_getElem hy0
                    have hat := fun hne => lexC_at (c := cmpV) (k := 0) (fun i a b hi => absurd hi (Nat.not_lt_zero _)) hxh hyh hne
                    generalize x[0] = p at hxh hat
                    generalize y[0] = q at hyh hat
                    obtain ⟨xk, xn, xs⟩ := p
                    obtain ⟨yk, yn, ys⟩ := q
                    have HSQ : Hid (∀ wx, TK T w2 wx → wx.cell? ⟨xb, xo, none⟩ = some (.int .i64 xk) ∧ wx.cell? ⟨xb, xo + 1, none⟩ = some (.int .i64 xn) ∧ wx.cell? ⟨xb, xo + 2, none⟩ = some (.string xs) ∧ wx.cell? ⟨yb, yo, none⟩ = some (.int .i64 yk) ∧ wx.cell? ⟨yb, yo + 1, none⟩ = some (.int .i64 yn) ∧ wx.cell? ⟨yb, yo + 2, none⟩ = some (.string ys)) := Lib.hid fun wx k => by
                      obtain ⟨a0, a1, a2⟩ := head_at (HX.out wx k) hxh
                      obtain ⟨b0, b1, b2⟩ := head_at (HY.out wx k) hyh
                      exact ⟨a0, a1, a2, b0, b1, b2⟩
                    have hxy := fun wx (k : TK T w2 wx) => rows_v _ _ x y wx (HX.out wx k) (HY.out wx k)
                    have hcm := fun wx => compare_v ⟨xk, xn, xs⟩ ⟨yk, yn, ys⟩ wx
                    unfold valOf at hcm
                    dsimp only at hcm
                    rcases @ne_cases xk xn xs yk yn ys with h | ⟨rfl, h⟩ | ⟨rfl, rfl, h⟩ | ⟨rfl, rfl, rfl⟩
                    · have hne : cmpV ⟨xk, xn, xs⟩ ⟨yk, yn, ys⟩ ≠ 0 := fun hz => by have := valOrd.eq _ _ hz; simp only [Val.mk.injEq] at this; simp [this] at h
                      rw [hat hne] at hxy
                      generalize cmpV ⟨xk, xn, xs⟩ ⟨yk, yn, ys⟩ = c at hxy hcm
                      have HXY := Lib.hid hxy
                      have HCM := Lib.hid hcm
                      clear hxy hcm hat hxh hyh hne
                      go_region_held3 (fun w' => w'.cell? ⟨xb, xo, none⟩ = some (.int .i64 xk) ∧ w'.cell? ⟨xb, xo + 1, none⟩ = some (.int .i64 xn) ∧ w'.cell? ⟨xb, xo + 2, none⟩ = some (.string xs) ∧ w'.cell? ⟨yb, yo, none⟩ = some (.int .i64 yk) ∧ w'.cell? ⟨yb, yo + 1, none⟩ = some (.int .i64 yn) ∧ w'.cell? ⟨yb, yo + 2, none⟩ = some (.string ys))
                        (first | (with_reducible exact HSQ.out _ HC.out) | go_keep)
                        (first | ((go_at_call 57); ((with_reducible refine (HXY.out _ HC.out).mono ?_); rintro e wq ⟨rfl, hb⟩; have HC := Lib.hid (HC.out.bel hb); clear hb)) | ((go_at_call 55); ((with_reducible refine (HCM.out _).mono ?_); rintro e wq ⟨rfl, hb⟩; have HC := Lib.hid (HC.out.bel hb); clear hb)))
                      all_goals
                        go_wp2_with fail
                        go_meet
                        exact ⟨rfl, HC.out⟩
                    · have hne : cmpV ⟨xk, xn, xs⟩ ⟨xk, yn, ys⟩ ≠ 0 := fun hz => by have := valOrd.eq _ _ hz; simp only [Val.mk.injEq] at this; simp [this] at h
                      rw [hat hne] at hxy
                      generalize cmpV ⟨xk, xn, xs⟩ ⟨xk, yn, ys⟩ = c at hxy hcm
                      have HXY := Lib.hid hxy
                      have HCM := Lib.hid hcm
                      clear hxy hcm hat hxh hyh hne
                      go_region_held3 (fun w' => w'.cell? ⟨xb, xo, none⟩ = some (.int .i64 xk) ∧ w'.cell? ⟨xb, xo + 1, none⟩ = some (.int .i64 xn) ∧ w'.cell? ⟨xb, xo + 2, none⟩ = some (.string xs) ∧ w'.cell? ⟨yb, yo, none⟩ = some (.int .i64 xk) ∧ w'.cell? ⟨yb, yo + 1, none⟩ = some (.int .i64 yn) ∧ w'.cell? ⟨yb, yo + 2, none⟩ = some (.string ys))
                        (first | (with_reducible exact HSQ.out _ HC.out) | go_keep)
                        (first | ((go_at_call 57); ((with_reducible refine (HXY.out _ HC.out).mono ?_); rintro e wq ⟨rfl, hb⟩; have HC := Lib.hid (HC.out.bel hb); clear hb)) | ((go_at_call 55); ((with_reducible refine (HCM.out _).mono ?_); rintro e wq ⟨rfl, hb⟩; have HC := Lib.hid (HC.out.bel hb); clear hb)))
                      all_goals
                        go_wp2_with fail
                        go_meet
                        exact ⟨rfl, HC.out⟩
                    · have hne : cmpV ⟨xk, xn, xs⟩ ⟨xk, xn, ys⟩ ≠ 0 := fun hz => by have := valOrd.eq _ _ hz; simp only [Val.mk.injEq] at this; simp [this] at h
                      rw [hat hne] at hxy
                      generalize cmpV ⟨xk, xn, xs⟩ ⟨xk, xn, ys⟩ = c at hxy hcm
                      have HXY := Lib.hid hxy
                      have HCM := Lib.hid hcm
                      clear hxy hcm hat hxh hyh hne
                      go_region_held3 (fun w' => w'.cell? ⟨xb, xo, none⟩ = some (.int .i64 xk) ∧ w'.cell? ⟨xb, xo + 1, none⟩ = some (.int .i64 xn) ∧ w'.cell? ⟨xb, xo + 2, none⟩ = some (.string xs) ∧ w'.cell? ⟨yb, yo, none⟩ = some (.int .i64 xk) ∧ w'.cell? ⟨yb, yo + 1, none⟩ = some (.int .i64 xn) ∧ w'.cell? ⟨yb, yo + 2, none⟩ = some (.string ys))
                        (first | (with_reducible exact HSQ.out _ HC.out) | go_keep)
                        (first | ((go_at_call 57); ((with_reducible refine (HXY.out _ HC.out).mono ?_); rintro e wq ⟨rfl, hb⟩; have HC := Lib.hid (HC.out.bel hb); clear hb)) | ((go_at_call 55); ((with_reducible refine (HCM.out _).mono ?_); rintro e wq ⟨rfl, hb⟩; have HC := Lib.hid (HC.out.bel hb); clear hb)))
                      all_goals
                        go_wp2_with fail
                        go_meet
                        exact ⟨rfl, HC.out⟩
                    · clear hxy hcm hat hxh hyh
                      obtain ⟨a0, a1, a2, b0, b1, b2⟩ := HSQ.out wj HTj.out
                      go_quiet (fail)
                      go_wp2_with fail
                      go_meet
                      exact ⟨rfl, HTj.out.1.drewN _, HTj.out.2.drewN _⟩
                  · have dy3 : decide (0 < y.length) = false := by simpa using hy0
                    clear hy0
                    go_quiet (fail)
                    go_wp2_with fail
                    go_meet
                    exact ⟨rfl, HTj.out.1.drewN _, HTj.out.2.drewN _⟩
                · have dx3 : decide (0 < x.length) = false := by simpa using hx0
                  clear hx0
                  go_quiet (fail)
                  go_wp2_with fail
                  go_meet
                  exact ⟨rfl, HTj.out.1.drewN _, HTj.out.2.drewN _⟩
              case rest =>
                obtain ⟨rfl, hbz⟩ := hcut
                have HTk := Lib.hid hbz
                clear hbz HTj
                go_wp2_with fail
                go_loopw [85] (fun i wr => ∃ m : Nat, m ≤ l.length ∧ i = .int .i64 m ∧ TK T w2 wr) (fun i _ => l.length - (intOf i).toNat)
                case atStart => exact ⟨0, Nat.zero_le _, rfl, HTk.out⟩
                case round =>
                  rename World => wc
                  obtain ⟨m, hm, rfl, htk⟩ := hrel
                  have HTc := Lib.hid htk
                  clear htk
                  by_cases hlt3 : m < l.length
                  · obtain ⟨bz, oz, za, zc, he, hz⟩ := row_at HROW.out m hlt3
                    generalize l[m] = z at hz
                    simp only [Option.some.injEq, Addr.mk.injEq, and_true] at he
                    obtain ⟨rfl, rfl⟩ := he
                    have cz := (hz wc HTc.out.2).1
                    have HZ : Hid (∀ wx, TK T w2 wx → ValsR (At T) wx (.slice za z.length zc) z) := Lib.hid fun wx k => (hz wx k.2).2
                    have i0 : (0 : Int) ≤ (m : Int) := by omega
                    have i1 : (m : Int) < (l.length : Int) := by omega
                    clear hz
                    go_upto_region 19 with fail
                    go_cut [104] (fun v wz => v = .bool false ∧ TK T w2 wz)
                    case first =>
                      clear cz i0 i1
                      have HC := Lib.hid HTc.out
                      have hxy := fun wx (k : TK T w2 wx) => rows_v _ _ x y wx (HX.out wx k) (HY.out wx k)
                      have hyz := fun wx (k : TK T w2 wx) => rows_v _ _ y z wx (HY.out wx k) (HZ.out wx k)
                      have hxz := fun wx (k : TK T w2 wx) => rows_v _ _ x z wx (HX.out wx k) (HZ.out wx k)
                      have hle := (lexOrd valOrd).le x y z
                      generalize lexC cmpV x y = c1 at hxy hle
                      generalize lexC cmpV y z = c2 at hyz hle
                      generalize lexC cmpV x z = c3 at hxz hle
                      by_cases h1 : c1 ≤ 0
                      · have d1 : decide (c1 ≤ 0) = true := by simpa using h1
                        by_cases h2 : c2 ≤ 0
                        · have d2 : decide (c2 ≤ 0) = true := by simpa using h2
                          have h3 : c3 ≤ 0 := hle h1 h2
                          have d3 : decide (c3 > 0) = false := by simpa using h3
                          have d4 : decide (0 < c3) = false := by simpa using h3
                          clear hle h1 h2 h3
                          have HXY := Lib.hid hxy
                          have HYZ := Lib.hid hyz
                          have HXZ := Lib.hid hxz
                          clear hxy hyz hxz
                          go_wp2_with (first | ((go_at_call 57); ((with_reducible refine (HXY.out _ HC.out).mono ?_); rintro e wq ⟨rfl, hb⟩; have HC := Lib.hid (HC.out.bel hb); clear hb)) | ((go_at_call 57); ((with_reducible refine (HYZ.out _ HC.out).mono ?_); rintro e wq ⟨rfl, hb⟩; have HC := Lib.hid (HC.out.bel hb); clear hb)) | ((go_at_call 57); ((with_reducible refine (HXZ.out _ HC.out).mono ?_); rintro e wq ⟨rfl, hb⟩; have HC := Lib.hid (HC.out.bel hb); clear hb)))
                          all_goals
                            go_meet
                            exact ⟨rfl, HC.out⟩
                        · have d2 : decide (c2 ≤ 0) = false := by simpa using h2
                          clear hle h1 h2
                          have HXY := Lib.hid hxy
                          have HYZ := Lib.hid hyz
                          have HXZ := Lib.hid hxz
                          clear hxy hyz hxz
                          go_wp2_with (first | ((go_at_call 57); ((with_reducible refine (HXY.out _ HC.out).mono ?_); rintro e wq ⟨rfl, hb⟩; have HC := Lib.hid (HC.out.bel hb); clear hb)) | ((go_at_call 57); ((with_reducible refine (HYZ.out _ HC.out).mono ?_); rintro e wq ⟨rfl, hb⟩; have HC := Lib.hid (HC.out.bel hb); clear hb)) | ((go_at_call 57); ((with_reducible refine (HXZ.out _ HC.out).mono ?_); rintro e wq ⟨rfl, hb⟩; have HC := Lib.hid (HC.out.bel hb); clear hb)))
                          all_goals
                            go_meet
                            exact ⟨rfl, HC.out⟩
                      · have d1 : decide (c1 ≤ 0) = false := by simpa using h1
                        clear hle h1
                        have HXY := Lib.hid hxy
                        have HYZ := Lib.hid hyz
                        have HXZ := Lib.hid hxz
                        clear hxy hyz hxz
                        go_wp2_with (first | ((go_at_call 57); ((with_reducible refine (HXY.out _ HC.out).mono ?_); rintro e wq ⟨rfl, hb⟩; have HC := Lib.hid (HC.out.bel hb); clear hb)) | ((go_at_call 57); ((with_reducible refine (HYZ.out _ HC.out).mono ?_); rintro e wq ⟨rfl, hb⟩; have HC := Lib.hid (HC.out.bel hb); clear hb)) | ((go_at_call 57); ((with_reducible refine (HXZ.out _ HC.out).mono ?_); rintro e wq ⟨rfl, hb⟩; have HC := Lib.hid (HC.out.bel hb); clear hb)))
                        all_goals
                          go_meet
                          exact ⟨rfl, HC.out⟩
                    case rest =>
                      obtain ⟨rfl, hbz⟩ := hcut
                      have HTn := Lib.hid hbz
                      clear hbz
                      go_wp2_with fail
                      go_roundw
                      case rel => exact ⟨m + 1, by omega, by go_num, HTn.out⟩
                      case measure => simp [intOf]; omega
                  · go_wp2_with fail
                    go_roundw
                    case rel => exact ⟨k + 1, by omega, by go_num, HTc.out⟩
                    case measure => simp [intOf]; omega
          · go_wp2_with fail
            go_roundw
            case rel => exact ⟨j + 1, by omega, by go_num, HTi.out⟩
            case measure => simp [intOf]; omega
    · have HBF := Lib.hid (HBW.out _ HTo.out)
      go_wp2_with fail
      refine (known1_any _ (HL.out.bel HBF.out hs) (Nat.lt_of_lt_of_le hs HBF.out.size)).mono ?_
      rintro e w9 ⟨rfl, hb⟩
      have HBG := Lib.hid (HBF.out.trans (hb.mono HBF.out.size))
      clear hb
      dsimp only
      go_wp2_with fail
      go_ret
      exact ⟨rfl, HBG.out⟩
end Go.Proofs.YtiheioajnfggmaaDoor
