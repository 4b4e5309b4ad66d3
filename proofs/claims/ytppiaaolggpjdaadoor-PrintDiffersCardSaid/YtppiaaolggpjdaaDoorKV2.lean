/- Same, the reference's Compare, and rows: contracts of Same, the reference's Compare, CompareRows and the reference's CompareRows. The texts of values: contracts of Format and the reference's Format. The sanity check of the statements on values: contract of known. -/
import Derived.Test.YtppiaaolggpjdaaDoorKV1
import Derived.Test.YtppiaaolggpjdaaDoorSh
import Derived.Test.YtppiaaolggpjdaaDoorKO
import Derived.Deep.RegionHeld3
import Derived.Lib.ReplaceLaws
namespace Go.Proofs.YtppiaaolggpjdaaDoor
open Go.RowKit

/-- Whether two values are equal, as Go's == asks. -/
def sameV (a b : Val) : Bool := a.kind == b.kind && (a.int == b.int && a.text.toList == b.text.toList)
theorem sameV_iff (a b : Val) : sameV a b = true ↔ a = b := by
  obtain ⟨k1, n1, s1⟩ := a
  obtain ⟨k2, n2, s2⟩ := b
  simp only [sameV, Bool.and_eq_true, beq_iff_eq, Val.mk.injEq, ByteArray.toList_eq]
  constructor
  · rintro ⟨h1, h2, h3⟩; exact ⟨h1, h2, bytes_ext h3⟩
  · rintro ⟨h1, h2, h3⟩; exact ⟨h1, h2, by rw [h3]⟩
theorem sameV_cmp (a b : Val) : sameV a b = decide (cmpV a b = 0) := by
  rw [Bool.eq_iff_iff, sameV_iff, decide_eq_true_iff]
  exact ⟨fun h => by rw [h]; exact valOrd.refl _, fun h => valOrd.eq _ _ h⟩

set_option maxHeartbeats 1000000 in
theorem same_v (a b : Val) (w : World) : Calls Tryd.prog 39 #[valOf a, valOf b] w (RetBel (.bool (sameV a b)) w) := by
  obtain ⟨k1, n1, s1⟩ := a
  obtain ⟨k2, n2, s2⟩ := b
  unfold valOf
  go_enter Tryd.func39, Tryd.ntmps39
  go_wp2
  all_goals go_ret
  all_goals
    refine ⟨ret_b ?_, by go_grown⟩
    simp_all [sameV]

theorem thenC_l {x y : Int} (h : x ≠ 0) : thenC x y = x := by unfold thenC; rw [if_pos h]
theorem thenC_r {x y : Int} (h : x = 0) : thenC x y = y := by unfold thenC; rw [if_neg (by simpa using h)]

set_option maxHeartbeats 1000000 in
theorem rcompare_v (a b : Val) (w : World) : Calls Tryd.prog 38 #[valOf a, valOf b] w (RetBel (.int .i64 (cmpV a b)) w) := by
  obtain ⟨k1, n1, s1⟩ := a
  obtain ⟨k2, n2, s2⟩ := b
  have HR : Hid (cmpV ⟨k1, n1, s1⟩ ⟨k2, n2, s2⟩ = thenC (Lib.compareInt k1 k2) (thenC (Lib.compareInt n1 n2) (Lib.compareBytes s1.data.toList s2.data.toList))) := Lib.hid rfl
  generalize cmpV ⟨k1, n1, s1⟩ ⟨k2, n2, s2⟩ = r at HR ⊢
  unfold valOf
  by_cases hk : k1 = k2
  · subst hk
    have h1 : Lib.compareInt k1 k1 = 0 := intOrd.refl _
    by_cases hn : n1 = n2
    · subst hn
      have h2 : Lib.compareInt n1 n1 = 0 := intOrd.refl _
      have HR2 : Hid (r = Lib.compareBytes s1.data.toList s2.data.toList) := Lib.hid (by rw [HR.out, thenC_r h1, thenC_r h2])
      clear h1 h2
      go_enter Tryd.func38, Tryd.ntmps38
      go_wp2_with fail
      refine (Tryd.strings_Compare s1 s2 _).mono ?_
      rintro e w1 ⟨rfl, rfl⟩
      dsimp only
      go_wp2_with fail
      go_ret
      exact ⟨ret_int HR2.out.symm, by go_grown⟩
    · have HR2 : Hid (r = Lib.compareInt n1 n2) := Lib.hid (by rw [HR.out, thenC_r h1, thenC_l]; exact fun h => hn (intOrd.eq _ _ h))
      have b1 : (n1 != n2) = true := by simpa using hn
      have hlt := Int.lt_or_gt_of_ne hn
      clear hn h1
      rcases hlt with hlt | hlt
      · have HR3 := Lib.hid (cmpInt_lt hlt)
        go_enter Tryd.func38, Tryd.ntmps38
        go_wp2_with fail
        go_ret
        exact ⟨ret_int (by rw [HR2.out, HR3.out]), by go_grown⟩
      · have HR3 := Lib.hid (cmpInt_gt hlt)
        have hge : n2 ≤ n1 := by omega
        go_enter Tryd.func38, Tryd.ntmps38
        go_wp2_with fail
        go_ret
        exact ⟨ret_int (by rw [HR2.out, HR3.out]), by go_grown⟩
  · have HR2 : Hid (r = Lib.compareInt k1 k2) := Lib.hid (by rw [HR.out, thenC_l]; exact fun h => hk (intOrd.eq _ _ h))
    have b1 : (k1 != k2) = true := by simpa using hk
    have hlt := Int.lt_or_gt_of_ne hk
    clear hk
    rcases hlt with hlt | hlt
    · have HR3 := Lib.hid (cmpInt_lt hlt)
      go_enter Tryd.func38, Tryd.ntmps38
      go_wp2_with fail
      go_ret
      exact ⟨ret_int (by rw [HR2.out, HR3.out]), by go_grown⟩
    · have HR3 := Lib.hid (cmpInt_gt hlt)
      have hge : k2 ≤ k1 := by omega
      go_enter Tryd.func38, Tryd.ntmps38
      go_wp2_with fail
      go_ret
      exact ⟨ret_int (by rw [HR2.out, HR3.out]), by go_grown⟩

/-- Rows of values. -/
def ValsR (M : Nat → Prop) (w : World) (v : Value) (l : List Val) : Prop := RowsR M w 3 ValR v l
theorem ValsR.keep {M : Nat → Prop} {w w' : World} {v : Value} {l : List Val} (h : ValsR M w v l) (k : Keep M w w') : ValsR M w' v l := RowsR.map h k fun _ _ _ h => h
theorem ValsR.weak {M M' : Nat → Prop} {w : World} {v : Value} {l : List Val} (h : ValsR M w v l) (hM : ∀ k, k < w.heap.size → M' k → M k) : ValsR M' w v l := RowsR.weak h hM fun _ _ _ h => h

theorem lexC_take {α : Type} {c : α → α → Int} : ∀ (k : Nat) (x y : List α), (∀ i a b, i < k → x[i]? = some a → y[i]? = some b → c a b = 0) → k ≤ x.length → k ≤ y.length → lexC c x y = lexC c (x.drop k) (y.drop k)
  | 0, x, y, _, _, _ => by simp
  | k + 1, [], y, _, h, _ => by simp at h
  | k + 1, _ :: _, [], _, _, h => by simp at h
  | k + 1, a :: x, b :: y, hz, h1, h2 => by
    rw [lexC, thenC_r (hz 0 a b (by omega) rfl rfl), List.drop_succ_cons, List.drop_succ_cons]
    exact lexC_take k x y (fun i a b hi ha hb => hz (i + 1) a b (by omega) (by simpa using ha) (by simpa using hb)) (by simpa using h1) (by simpa using h2)
theorem lexC_at {α : Type} {c : α → α → Int} {k : Nat} {x y : List α} {a b : α} (hz : ∀ i a b, i < k → x[i]? = some a → y[i]? = some b → c a b = 0) (ha : x[k]? = some a) (hb : y[k]? = some b) (hn : c a b ≠ 0) : lexC c x y = c a b := by
  obtain ⟨h1, rfl⟩ := List.getElem?_eq_some_iff.1 ha
  obtain ⟨h2, rfl⟩ := List.getElem?_eq_some_iff.1 hb
  rw [lexC_take k x y hz (by omega) (by omega), List.drop_eq_getElem_cons h1, List.drop_eq_getElem_cons h2, lexC, thenC_l hn]
theorem lexC_end {α : Type} {c : α → α → Int} {x y : List α} (hz : ∀ i a b, i < min x.length y.length → x[i]? = some a → y[i]? = some b → c a b = 0) : lexC c x y = Lib.compareInt x.length y.length := by
  rw [lexC_take (min x.length y.length) x y hz (by omega) (by omega)]
  rcases Nat.lt_trichotomy x.length y.length with h | h | h
  · rw [Nat.min_eq_left (by omega), List.drop_length, cmpInt_lt (by omega)]
    cases hd : y.drop x.length with
    | nil => have := congrArg List.length hd; simp at this; omega
    | cons => rfl
  · rw [Nat.min_eq_left (by omega), List.drop_length, h, List.drop_length, intOrd.refl]
    rfl
  · rw [Nat.min_eq_right (by omega), List.drop_length, cmpInt_gt (by omega)]
    cases hd : x.drop y.length with
    | nil => have := congrArg List.length hd; simp at this; omega
    | cons => rfl

theorem below_drew {w w' : World} (h : Below w.drew.heap.size w.drew w') : Below w.heap.size w w' := ⟨h.os, h.tape, h.output, h.size, h.block⟩

theorem CellsAt.vals {w : World} {b o : Nat} {v : Val} (h : CellsAt w b o (valCells v)) : w.cell? ⟨b, o, none⟩ = some (.int .i64 v.kind) ∧ w.cell? ⟨b, o + 1, none⟩ = some (.int .i64 v.int) ∧ w.cell? ⟨b, o + 2, none⟩ = some (.string v.text) := ⟨h 0 _ rfl, h 1 _ rfl, h 2 _ rfl⟩

set_option maxRecDepth 100000 in
set_option maxHeartbeats 4000000 in
theorem rows_v {M : Nat → Prop} (va vb : Value) (la lb : List Val) (w : World) (ha : ValsR M w va la) (hb : ValsR M w vb lb) : Calls Tryd.prog 40 #[va, vb] w (RetBel (.int .i64 (lexC cmpV la lb)) w) := by
  obtain ⟨a1, c1, rfl, hm1⟩ := ha.shape
  obtain ⟨a2, c2, rfl, hm2⟩ := hb.shape
  unfold maxLen at hm1 hm2
  have HA := Lib.hid ha
  have HB := Lib.hid hb
  have HE := Lib.hid (fun h => @lexC_end Val cmpV la lb h)
  have HAT := Lib.hid (fun k a b (hz : ∀ i a b, i < k → la[i]? = some a → lb[i]? = some b → cmpV a b = 0) ha hb hn => @lexC_at Val cmpV k la lb a b hz ha hb hn)
  generalize lexC cmpV la lb = r at HE HAT ⊢
  clear ha hb
  obtain ⟨n, hn⟩ : ∃ n : Nat, n = min la.length lb.length := ⟨_, rfl⟩
  have HMIN : Hid (min (la.length : Int) (lb.length : Int) = (n : Int)) := Lib.hid (by omega)
  have HN := Lib.hid hn
  have hn1 : n ≤ la.length := by omega
  have hn2 : n ≤ lb.length := by omega
  clear hn
  go_enter Tryd.func40, Tryd.ntmps40
  go_wp2_with fail
  rw [HMIN.out]
  go_loopw [12] (fun i wr => ∃ k : Nat, k ≤ n ∧ i = .int .i64 k ∧ Below w.heap.size w wr ∧ ∀ i a b, i < k → la[i]? = some a → lb[i]? = some b → cmpV a b = 0) (fun i _ => n - (intOf i).toNat)
  case atStart => exact ⟨0, Nat.zero_le _, rfl, Below.refl _ _, fun i a b h => absurd h (by omega)⟩
  case round =>
    obtain ⟨k, hk, rfl, hbel, hno⟩ := hrel
    have HZ := Lib.hid hno
    have HW := Lib.hid hbel
    have hbw := hbel.size
    clear hno hbel
    by_cases hlt : k < n
    · rcases HA.out.open with ⟨_, h'⟩ | ⟨b1, o1, cap1, hv1, hT1, hb1, hl1, _, hx1⟩
      · rw [h'] at hn1; simp at hn1; omega
      rcases HB.out.open with ⟨_, h'⟩ | ⟨b2, o2, cap2, hv2, hT2, hb2, hl2, _, hx2⟩
      · rw [h'] at hn2; simp at hn2; omega
      simp only [Value.slice.injEq] at hv1 hv2
      obtain ⟨rfl, _, rfl⟩ := hv1
      obtain ⟨rfl, _, rfl⟩ := hv2
      have hxa : la[k]? = some la[k] := List.getElem?_eq_getElem (by omega)
      have hxb : lb[k]? = some lb[k] := List.getElem?_eq_getElem (by omega)
      obtain ⟨cs1, rfl, _, hc1⟩ := hx1 k _ hxa
      obtain ⟨cs2, rfl, _, hc2⟩ := hx2 k _ hxb
      generalize la[k] = x at hxa hc1
      generalize lb[k] = y at hxb hc2
      obtain ⟨p0, p1, p2⟩ := (hc1.keep (M := fun k => w.heap.size ≤ k) (.of_below HW.out fun k _ h => h) (by simp; omega)).vals
      obtain ⟨q0, q1, q2⟩ := (hc2.keep (M := fun k => w.heap.size ≤ k) (.of_below HW.out fun k _ h => h) (by simp; omega)).vals
      have i0 : (0 : Int) ≤ (k : Int) := by omega
      have i1 : (k : Int) < (la.length : Int) := by omega
      have i2 : (k : Int) < (lb.length : Int) := by omega
      have HXA := Lib.hid hxa
      have HXB := Lib.hid hxb
      have lb1 : b1 < wr.heap.size := by omega
      have lb2 : b2 < wr.heap.size := by omega
      have HSQ := Lib.hid (fun (w' : World) (h : Below wr.heap.size wr w') => show w'.cell? ⟨b1, o1 + k * 3, none⟩ = some (.int .i64 x.kind) ∧ w'.cell? ⟨b1, o1 + k * 3 + 1, none⟩ = some (.int .i64 x.int) ∧ w'.cell? ⟨b1, o1 + k * 3 + 2, none⟩ = some (.string x.text) ∧ w'.cell? ⟨b2, o2 + k * 3, none⟩ = some (.int .i64 y.kind) ∧ w'.cell? ⟨b2, o2 + k * 3 + 1, none⟩ = some (.int .i64 y.int) ∧ w'.cell? ⟨b2, o2 + k * 3 + 2, none⟩ = some (.string y.text) from ⟨(h.cell (p := ⟨b1, o1 + k * 3, none⟩) lb1).trans p0, (h.cell (p := ⟨b1, o1 + k * 3 + 1, none⟩) lb1).trans p1, (h.cell (p := ⟨b1, o1 + k * 3 + 2, none⟩) lb1).trans p2, (h.cell (p := ⟨b2, o2 + k * 3, none⟩) lb2).trans q0, (h.cell (p := ⟨b2, o2 + k * 3 + 1, none⟩) lb2).trans q1, (h.cell (p := ⟨b2, o2 + k * 3 + 2, none⟩) lb2).trans q2⟩)
      have hc := fun w => compare_v x y w
      clear hx1 hx2 hc1 hc2 hxa hxb hT1 hT2
      by_cases hz : cmpV x y = 0
      · rw [hz] at hc
        have HC := Lib.hid hc
        have HZZ := Lib.hid hz
        clear hc hz
        go_wp2_with fail
        go_region_held3 (fun w' => w'.cell? ⟨b1, o1 + k * 3, none⟩ = some (.int .i64 x.kind) ∧ w'.cell? ⟨b1, o1 + k * 3 + 1, none⟩ = some (.int .i64 x.int) ∧ w'.cell? ⟨b1, o1 + k * 3 + 2, none⟩ = some (.string x.text) ∧ w'.cell? ⟨b2, o2 + k * 3, none⟩ = some (.int .i64 y.kind) ∧ w'.cell? ⟨b2, o2 + k * 3 + 1, none⟩ = some (.int .i64 y.int) ∧ w'.cell? ⟨b2, o2 + k * 3 + 2, none⟩ = some (.string y.text))
          (first | (with_reducible exact HSQ.out _ HB1.out) | go_keep)
          ((go_at_call 37; refine (HC.out _).mono ?_; rintro e w1 ⟨rfl, hb⟩; have HB1 := Lib.hid (below_drew hb); clear hb))
        all_goals
          go_wp2_with fail
          go_roundw
          case rel =>
            refine ⟨k + 1, by omega, by go_num, bel_trans HW.out HB1.out, fun i a b hi ha hb => ?_⟩
            by_cases e : i = k
            · subst e
              rw [HXA.out] at ha
              rw [HXB.out] at hb
              cases ha
              cases hb
              exact HZZ.out
            · exact HZ.out i a b (by omega) ha hb
          case measure => simp [intOf]; omega
      · have HF := Lib.hid (HAT.out k x y HZ.out HXA.out HXB.out hz)
        generalize cmpV x y = c at hc hz HF
        have bz : (c != 0) = true := by simpa using hz
        have HC := Lib.hid hc
        clear hc hz
        go_wp2_with fail
        go_region_held3 (fun w' => w'.cell? ⟨b1, o1 + k * 3, none⟩ = some (.int .i64 x.kind) ∧ w'.cell? ⟨b1, o1 + k * 3 + 1, none⟩ = some (.int .i64 x.int) ∧ w'.cell? ⟨b1, o1 + k * 3 + 2, none⟩ = some (.string x.text) ∧ w'.cell? ⟨b2, o2 + k * 3, none⟩ = some (.int .i64 y.kind) ∧ w'.cell? ⟨b2, o2 + k * 3 + 1, none⟩ = some (.int .i64 y.int) ∧ w'.cell? ⟨b2, o2 + k * 3 + 2, none⟩ = some (.string y.text))
          (first | (with_reducible exact HSQ.out _ HB1.out) | go_keep)
          ((go_at_call 37; refine (HC.out _).mono ?_; rintro e w1 ⟨rfl, hb⟩; have HB1 := Lib.hid (below_drew hb); clear hb))
        all_goals
          go_wp2_with fail
          go_ret
          exact ⟨ret_int HF.out.symm, bel_trans HW.out HB1.out⟩
    · obtain rfl : k = n := by omega
      have HF := Lib.hid (HE.out fun i a b hi => HZ.out i a b (by have := HN.out; omega))
      go_wp2_with fail
      refine (cmpInt_any _ _ _).mono ?_
      rintro e w1 ⟨rfl, rfl⟩
      dsimp only
      go_wp2_with fail
      go_ret
      exact ⟨ret_int HF.out.symm, HW.out⟩

set_option maxRecDepth 100000 in
set_option maxHeartbeats 4000000 in
theorem rrows_v {M : Nat → Prop} (va vb : Value) (la lb : List Val) (w : World) (ha : ValsR M w va la) (hb : ValsR M w vb lb) : Calls Tryd.prog 41 #[va, vb] w (RetBel (.int .i64 (lexC cmpV la lb)) w) := by
  obtain ⟨a1, c1, rfl, hm1⟩ := ha.shape
  obtain ⟨a2, c2, rfl, hm2⟩ := hb.shape
  unfold maxLen at hm1 hm2
  have HA := Lib.hid ha
  have HB := Lib.hid hb
  have HE := Lib.hid (fun h => @lexC_end Val cmpV la lb h)
  have HAT := Lib.hid (fun k a b (hz : ∀ i a b, i < k → la[i]? = some a → lb[i]? = some b → cmpV a b = 0) ha hb hn => @lexC_at Val cmpV k la lb a b hz ha hb hn)
  generalize lexC cmpV la lb = r at HE HAT ⊢
  clear ha hb
  go_enter Tryd.func41, Tryd.ntmps41
  go_wp2_with fail
  go_loopw [5] (fun i wr => ∃ k : Nat, k ≤ la.length ∧ k ≤ lb.length ∧ i = .int .i64 k ∧ Below w.heap.size w wr ∧ ∀ i a b, i < k → la[i]? = some a → lb[i]? = some b → cmpV a b = 0) (fun i _ => la.length - (intOf i).toNat)
  case atStart => exact ⟨0, Nat.zero_le _, Nat.zero_le _, rfl, Below.refl _ _, fun i a b h => absurd h (by omega)⟩
  case round =>
    obtain ⟨k, hk1, hk2, rfl, hbel, hno⟩ := hrel
    have HZ := Lib.hid hno
    have HW := Lib.hid hbel
    have hbw := hbel.size
    clear hno hbel
    by_cases hlt : k < la.length ∧ k < lb.length
    · rcases HA.out.open with ⟨_, h'⟩ | ⟨b1, o1, cap1, hv1, hT1, hb1, hl1, _, hx1⟩
      · rw [h'] at hlt; simp at hlt
      rcases HB.out.open with ⟨_, h'⟩ | ⟨b2, o2, cap2, hv2, hT2, hb2, hl2, _, hx2⟩
      · rw [h'] at hlt; simp at hlt
      obtain ⟨hla, hlb⟩ := hlt
      simp only [Value.slice.injEq] at hv1 hv2
      obtain ⟨rfl, _, rfl⟩ := hv1
      obtain ⟨rfl, _, rfl⟩ := hv2
      have hxa : la[k]? = some la[k] := List.getElem?_eq_getElem (by omega)
      have hxb : lb[k]? = some lb[k] := List.getElem?_eq_getElem (by omega)
      obtain ⟨cs1, rfl, _, hc1⟩ := hx1 k _ hxa
      obtain ⟨cs2, rfl, _, hc2⟩ := hx2 k _ hxb
      generalize la[k] = x at hxa hc1
      generalize lb[k] = y at hxb hc2
      obtain ⟨p0, p1, p2⟩ := (hc1.keep (M := fun k => w.heap.size ≤ k) (.of_below HW.out fun k _ h => h) (by simp; omega)).vals
      obtain ⟨q0, q1, q2⟩ := (hc2.keep (M := fun k => w.heap.size ≤ k) (.of_below HW.out fun k _ h => h) (by simp; omega)).vals
      have i0 : (0 : Int) ≤ (k : Int) := by omega
      have i1 : (k : Int) < (la.length : Int) := by omega
      have i2 : (k : Int) < (lb.length : Int) := by omega
      have HXA := Lib.hid hxa
      have HXB := Lib.hid hxb
      have lb1 : b1 < wr.heap.size := by omega
      have lb2 : b2 < wr.heap.size := by omega
      have HSQ := Lib.hid (fun (w' : World) (h : Below wr.heap.size wr w') => show w'.cell? ⟨b1, o1 + k * 3, none⟩ = some (.int .i64 x.kind) ∧ w'.cell? ⟨b1, o1 + k * 3 + 1, none⟩ = some (.int .i64 x.int) ∧ w'.cell? ⟨b1, o1 + k * 3 + 2, none⟩ = some (.string x.text) ∧ w'.cell? ⟨b2, o2 + k * 3, none⟩ = some (.int .i64 y.kind) ∧ w'.cell? ⟨b2, o2 + k * 3 + 1, none⟩ = some (.int .i64 y.int) ∧ w'.cell? ⟨b2, o2 + k * 3 + 2, none⟩ = some (.string y.text) from ⟨(h.cell (p := ⟨b1, o1 + k * 3, none⟩) lb1).trans p0, (h.cell (p := ⟨b1, o1 + k * 3 + 1, none⟩) lb1).trans p1, (h.cell (p := ⟨b1, o1 + k * 3 + 2, none⟩) lb1).trans p2, (h.cell (p := ⟨b2, o2 + k * 3, none⟩) lb2).trans q0, (h.cell (p := ⟨b2, o2 + k * 3 + 1, none⟩) lb2).trans q1, (h.cell (p := ⟨b2, o2 + k * 3 + 2, none⟩) lb2).trans q2⟩)
      have hc := fun w => rcompare_v x y w
      clear hx1 hx2 hc1 hc2 hxa hxb hT1 hT2
      by_cases hz : cmpV x y = 0
      · rw [hz] at hc
        have HC := Lib.hid hc
        have HZZ := Lib.hid hz
        clear hc hz
        go_wp2_with fail
        go_region_held3 (fun w' => w'.cell? ⟨b1, o1 + k * 3, none⟩ = some (.int .i64 x.kind) ∧ w'.cell? ⟨b1, o1 + k * 3 + 1, none⟩ = some (.int .i64 x.int) ∧ w'.cell? ⟨b1, o1 + k * 3 + 2, none⟩ = some (.string x.text) ∧ w'.cell? ⟨b2, o2 + k * 3, none⟩ = some (.int .i64 y.kind) ∧ w'.cell? ⟨b2, o2 + k * 3 + 1, none⟩ = some (.int .i64 y.int) ∧ w'.cell? ⟨b2, o2 + k * 3 + 2, none⟩ = some (.string y.text))
          (first | (with_reducible exact HSQ.out _ HB1.out) | go_keep)
          ((go_at_call 38; refine (HC.out _).mono ?_; rintro e w1 ⟨rfl, hb⟩; have HB1 := Lib.hid (below_drew hb); clear hb))
        all_goals
          go_wp2_with fail
          go_roundw
          case rel =>
            refine ⟨k + 1, by omega, by omega, by go_num, bel_trans HW.out HB1.out, fun i a b hi ha hb => ?_⟩
            by_cases e : i = k
            · subst e
              rw [HXA.out] at ha
              rw [HXB.out] at hb
              cases ha
              cases hb
              exact HZZ.out
            · exact HZ.out i a b (by omega) ha hb
          case measure => simp [intOf]; omega
      · have HF := Lib.hid (HAT.out k x y HZ.out HXA.out HXB.out hz)
        generalize cmpV x y = c at hc hz HF
        have bz : (c != 0) = true := by simpa using hz
        have HC := Lib.hid hc
        clear hc hz
        go_wp2_with fail
        go_region_held3 (fun w' => w'.cell? ⟨b1, o1 + k * 3, none⟩ = some (.int .i64 x.kind) ∧ w'.cell? ⟨b1, o1 + k * 3 + 1, none⟩ = some (.int .i64 x.int) ∧ w'.cell? ⟨b1, o1 + k * 3 + 2, none⟩ = some (.string x.text) ∧ w'.cell? ⟨b2, o2 + k * 3, none⟩ = some (.int .i64 y.kind) ∧ w'.cell? ⟨b2, o2 + k * 3 + 1, none⟩ = some (.int .i64 y.int) ∧ w'.cell? ⟨b2, o2 + k * 3 + 2, none⟩ = some (.string y.text))
          (first | (with_reducible exact HSQ.out _ HB1.out) | go_keep)
          ((go_at_call 38; refine (HC.out _).mono ?_; rintro e w1 ⟨rfl, hb⟩; have HB1 := Lib.hid (below_drew hb); clear hb))
        all_goals
          go_wp2_with fail
          go_ret
          exact ⟨ret_int HF.out.symm, bel_trans HW.out HB1.out⟩
    · have hke : k = min la.length lb.length := by omega
      have HF := Lib.hid (HE.out fun i a b hi => HZ.out i a b (by omega))
      have HKE := Lib.hid hke
      clear hke
      rcases Nat.lt_trichotomy la.length lb.length with h | h | h
      · have HF2 := Lib.hid (HF.out.trans (cmpInt_lt (show (la.length : Int) < (lb.length : Int) by omega)))
        have hge : ¬ k < la.length := by omega
        clear hlt
        go_wp2_with fail
        go_ret
        exact ⟨ret_int HF2.out.symm, HW.out⟩
      · have HF2 := Lib.hid (HF.out.trans (cmpInt_eq (show (lb.length : Int) ≤ (la.length : Int) by omega) (by omega)))
        have hge : ¬ k < la.length := by omega
        have hle1 : ¬ la.length < lb.length := by omega
        have hle2 : ¬ lb.length < la.length := by omega
        clear hlt h
        go_wp2_with fail
        go_ret
        exact ⟨ret_int HF2.out.symm, HW.out⟩
      · have HF2 := Lib.hid (HF.out.trans (cmpInt_gt (show (lb.length : Int) < (la.length : Int) by omega)))
        have hla : k < la.length := by omega
        have hge : ¬ k < lb.length := by omega
        have hle1 : ¬ la.length < lb.length := by omega
        clear hlt
        go_wp2_with fail
        go_ret
        exact ⟨ret_int HF2.out.symm, HW.out⟩

end Go.Proofs.YtppiaaolggpjdaaDoor

namespace Go.Proofs.YtppiaaolggpjdaaDoor
open Go.RowKit Go.Sort

/-- What the library's functions read: the table of powers of ten, and a length. -/
def LibOk (w : World) : Prop := Lib.TabIs Tryd.prog w "internal/strconv.uint64pow10" .u64 Lib.pow10Tab ∧ ∃ m : Int, w.cell? ⟨3, 0, none⟩ = some (.int .i64 m)

theorem gPow : Tryd.prog.globalNamed "internal/strconv.uint64pow10" = some 4 := by kernel_rfl

theorem LibOk.keep {M : Nat → Prop} {w w' : World} (h : LibOk w) (k : Keep M w w') (hM : ∀ k, k ≤ 4 → ¬ M k) (hs : 4 < w.heap.size) : LibOk w' := by
  obtain ⟨h1, m, h2⟩ := h
  refine ⟨?_, m, (k.cell (World.block_lt_of_cell? _ _ h2) (hM _ (by decide))).trans h2⟩
  unfold Lib.TabIs World.var? at h1 ⊢
  simp only [gPow, Option.bind_some] at h1 ⊢
  rw [k.block 4 (by omega) (hM _ (by decide))]
  exact h1

theorem LibOk.bel {w w' : World} (h : LibOk w) (hb : Below w.heap.size w w') (hs : 4 < w.heap.size) : LibOk w' := h.keep (M := fun _ => False) (.bel hb) (fun _ _ => id) hs

theorem grown_below {w w' : World} {k : Nat} {os : Array Obj} (h : w' = grow (w.drewN k) os) : Below w.heap.size w w' := by
  subst h
  refine ⟨rfl, rfl, rfl, by simp [grow, World.drewN], fun i hi => ?_⟩
  show (w.heap ++ os)[i]? = w.heap[i]?
  rw [Array.getElem?_append_left hi]

theorem ret_str {a b : ByteArray} (h : a = b) : Ending.returned (.string a) = .returned (.string b) := by rw [h]

def txt (l : List UInt8) : ByteArray := ⟨l.toArray⟩

theorem format_int (n : Int) (h0 : -9223372036854775808 ≤ n) (h1 : n ≤ 9223372036854775807) (w : World) (h : LibOk w) : Calls Tryd.prog 84 #[.int .i64 n, .int .i64 10] w (RetBel (.string (txt (Lib.itoa n))) w) :=
  (Tryd.strconv_FormatInt_10 n h0 h1 w h.1).mono fun _ _ ⟨he, _, _, hw⟩ => ⟨he, grown_below hw⟩

theorem replace_q (s : ByteArray) (hs : s.size ≤ 64) (w : World) (h : LibOk w) : Calls Tryd.prog 85 #[.string s, .string ⟨#[39]⟩, .string ⟨#[39, 39]⟩] w (RetBel (.string (txt (Lib.replaceAll s.data.toList [39] [39, 39]))) w) := by
  obtain ⟨_, m, hm⟩ := h
  refine (Tryd.strings_ReplaceAll s ⟨#[39]⟩ ⟨#[39, 39]⟩ m w (by omega) hm (by decide) ?_).mono fun _ _ h => h
  have h1 : Lib.countB s ⟨#[39]⟩ * 1 ≤ s.size := Lib.countB_mul_le ⟨#[39]⟩ (by decide) s.size s (Nat.le_refl _)
  have h2 : (⟨#[39, 39]⟩ : ByteArray).size = 2 := rfl
  rw [h2]
  omega

theorem replaceK_len (old new : List UInt8) : ∀ (k : Nat) (s : List UInt8), (Lib.replaceK old new k s).length ≤ s.length + k * new.length
  | 0, s => by simp [Lib.replaceK]
  | k + 1, s => by
    rw [Lib.replaceK]
    split
    · omega
    · have := replaceK_len old new k (s.drop ((Lib.index s old).toNat + old.length))
      simp only [List.length_append, List.length_take, List.length_drop] at this ⊢
      rw [Nat.succ_mul]
      omega

theorem replace_len (s : ByteArray) (hs : s.size ≤ 64) : (txt (Lib.replaceAll s.data.toList [39] [39, 39])).size ≤ 1000 := by
  show (Lib.replaceAll s.data.toList [39] [39, 39]).length ≤ 1000
  have hc : Lib.countB s ⟨#[39]⟩ ≤ s.size := Lib.countB_le ⟨#[39]⟩ (by decide) s.size s (Nat.le_refl _)
  have hc2 : Lib.count s.data.toList [39] ≤ 64 := Nat.le_trans hc hs
  have hl : s.data.toList.length = s.size := by simp
  unfold Lib.replaceAll Lib.replace
  rw [if_neg (by decide)]
  have := replaceK_len [39] [39, 39] (Lib.replaceNum s.data.toList [39] (-1)) s.data.toList
  have h2 : Lib.replaceNum s.data.toList [39] (-1) ≤ 64 := by
    unfold Lib.replaceNum
    rw [if_pos (by simp)]
    exact hc2
  simp only [List.length_cons, List.length_nil] at this
  omega

theorem quoted (l : List UInt8) : (⟨#[39]⟩ : ByteArray) ++ txt l ++ ⟨#[39]⟩ = txt (39 :: (l ++ [39])) := by
  apply bytes_ext
  unfold txt
  rw [ByteArray.mk_append_mk, ByteArray.mk_append_mk]
  simp

set_option maxRecDepth 100000 in
set_option maxHeartbeats 2000000 in
theorem format_v (v : Val) (hv : ValOk v) (w : World) (h : LibOk w) (hs : 4 < w.heap.size) : Calls Tryd.prog 28 #[valOf v] w (RetBel (.string (txt (fmtV v))) w) := by
  obtain ⟨k, n, s⟩ := v
  have hval := fun w' => valid_any ⟨k, n, s⟩ w' hv.1
  cases hb : validV ⟨k, n, s⟩
  · rw [hb] at hval
    have HF : Hid (fmtV ⟨k, n, s⟩ = [63]) := Lib.hid (by simp [fmtV, hb])
    unfold valOf at hval ⊢
    have HV := Lib.hid hval
    clear hval hb
    generalize fmtV ⟨k, n, s⟩ = r at HF ⊢
    go_enter Tryd.func28, Tryd.ntmps28
    go_wp2_with fail
    refine (HV.out _).mono ?_
    rintro e w1 ⟨rfl, hb⟩
    have HB := Lib.hid hb
    clear hb
    dsimp only
    go_wp2_with fail
    go_ret
    exact ⟨ret_str (by rw [HF.out]; rfl), ((Below.refl _ w).alloc (Nat.le_refl _) _).trans (HB.out.mono (by simp))⟩
  · rw [hb] at hval
    unfold valOf at hval ⊢
    have HV := Lib.hid hval
    have HB := Lib.hid hb
    have HOK := Lib.hid hv
    have HL := Lib.hid h
    clear hval hv h
    go_enter Tryd.func28, Tryd.ntmps28
    go_wp2_with fail
    refine (HV.out _).mono ?_
    rintro e w1 ⟨rfl, hb1⟩
    obtain ⟨k1, k2, k3⟩ := bcell hb1
    simp only [World.size_alloc] at k1 k2 k3
    have c0 : w1.cell? ⟨w.heap.size, 0, none⟩ = some (.int .i64 k) := (k1 _ _ (by omega)).trans (by simp)
    have c1 : w1.cell? ⟨w.heap.size, 1, none⟩ = some (.int .i64 n) := (k1 _ _ (by omega)).trans (by simp)
    have c2 : w1.cell? ⟨w.heap.size, 2, none⟩ = some (.string s) := (k1 _ _ (by omega)).trans (by simp)
    have HW := Lib.hid (((Below.refl _ w).alloc (Nat.le_refl _) _).trans (hb1.mono (by simp)))
    have HL1 := Lib.hid (HL.out.bel HW.out hs)
    clear k1 k2 hb1
    dsimp only
    have hk : k = 0 ∨ k = 1 ∨ k = 2 ∨ k = 3 := by
      have := HB.out
      unfold validV at this
      simp only at this
      by_cases h0 : k = 0
      · exact .inl h0
      by_cases h1 : k = 1
      · exact .inr (.inl h1)
      by_cases h2 : k = 2
      · exact .inr (.inr (.inl h2))
      by_cases h3 : k = 3
      · exact .inr (.inr (.inr h3))
      simp [h0, h1, h2, h3] at this
    rcases hk with rfl | rfl | rfl | rfl
    · have HF : Hid (fmtV ⟨0, n, s⟩ = [78, 85, 76, 76]) := Lib.hid (by simp [fmtV, HB.out])
      go_wp2_with fail
      go_ret
      exact ⟨ret_str (by rw [HF.out]; rfl), HW.out⟩
    · have HF : Hid (fmtV ⟨1, n, s⟩ = Lib.itoa n) := Lib.hid (by simp [fmtV, HB.out])
      go_wp2_with fail
      refine (format_int n HOK.out.2.1 HOK.out.2.2.1 _ HL1.out).mono ?_
      rintro e w2 ⟨rfl, hb2⟩
      have HB2 := Lib.hid (bel_trans HW.out hb2)
      clear hb2
      dsimp only
      go_wp2_with fail
      go_ret
      exact ⟨ret_str (by rw [HF.out]), HB2.out⟩
    · have hn : n = 0 ∨ n = 1 := by
        have := HB.out
        simp [validV] at this
        exact this.1
      have i0 : ∀ w, (Instr.index 128 (.agg #[.string ⟨#[70, 65, 76, 83, 69]⟩, .string ⟨#[84, 82, 85, 69]⟩]) (.int .i64 0)).run Tryd.prog w = .ok (.string ⟨#[70, 65, 76, 83, 69]⟩) w := fun _ => by kernel_rfl
      have i1 : ∀ w, (Instr.index 128 (.agg #[.string ⟨#[70, 65, 76, 83, 69]⟩, .string ⟨#[84, 82, 85, 69]⟩]) (.int .i64 1)).run Tryd.prog w = .ok (.string ⟨#[84, 82, 85, 69]⟩) w := fun _ => by kernel_rfl
      rcases hn with rfl | rfl
      · have HF : Hid (fmtV ⟨2, 0, s⟩ = [70, 65, 76, 83, 69]) := Lib.hid (by simp [fmtV, HB.out])
        go_wp2_with fail
        go_ret
        exact ⟨ret_str (by rw [HF.out]; rfl), HW.out⟩
      · have HF : Hid (fmtV ⟨2, 1, s⟩ = [84, 82, 85, 69]) := Lib.hid (by simp [fmtV, HB.out])
        go_wp2_with fail
        go_ret
        exact ⟨ret_str (by rw [HF.out]; rfl), HW.out⟩
    · have HF : Hid (fmtV ⟨3, n, s⟩ = 39 :: (Lib.replaceAll s.data.toList [39] [39, 39] ++ [39])) := Lib.hid (by simp [fmtV, HB.out])
      have hs64 : s.size ≤ 64 := by
        have := HB.out
        simp [validV, plainB] at this
        exact this.2.2
      have hr := replace_len s hs64
      have HQ := Lib.hid (quoted (Lib.replaceAll s.data.toList [39] [39, 39]))
      go_wp2_with fail
      refine (replace_q s hs64 _ HL1.out).mono ?_
      rintro e w2 ⟨rfl, hb2⟩
      have HB2 := Lib.hid (bel_trans HW.out hb2)
      clear hb2
      dsimp only
      go_wp2_with fail
      go_ret
      exact ⟨ret_str (by rw [HF.out]; exact HQ.out), HB2.out⟩

set_option maxRecDepth 100000 in
set_option maxHeartbeats 2000000 in
theorem rformat_v (v : Val) (hv : ValOk v) (w : World) (h : LibOk w) (hs : 4 < w.heap.size) : Calls Tryd.prog 29 #[valOf v] w (RetBel (.string (txt (fmtV v))) w) := by
  obtain ⟨k, n, s⟩ := v
  have hval := fun w' => rvalid_any ⟨k, n, s⟩ w' hv.1
  cases hb : validV ⟨k, n, s⟩
  · rw [hb] at hval
    have HF : Hid (fmtV ⟨k, n, s⟩ = [63]) := Lib.hid (by simp [fmtV, hb])
    unfold valOf at hval ⊢
    have HV := Lib.hid hval
    clear hval hb
    generalize fmtV ⟨k, n, s⟩ = r at HF ⊢
    go_enter Tryd.func29, Tryd.ntmps29
    go_wp2_with fail
    refine (HV.out _).mono ?_
    rintro e w1 ⟨rfl, hb⟩
    have HB := Lib.hid hb
    clear hb
    dsimp only
    go_wp2_with fail
    go_ret
    exact ⟨ret_str (by rw [HF.out]; rfl), ((Below.refl _ w).alloc (Nat.le_refl _) _).trans (HB.out.mono (by simp))⟩
  · rw [hb] at hval
    unfold valOf at hval ⊢
    have HV := Lib.hid hval
    have HB := Lib.hid hb
    have HOK := Lib.hid hv
    have HL := Lib.hid h
    clear hval hv h
    go_enter Tryd.func29, Tryd.ntmps29
    go_wp2_with fail
    refine (HV.out _).mono ?_
    rintro e w1 ⟨rfl, hb1⟩
    obtain ⟨k1, k2, k3⟩ := bcell hb1
    simp only [World.size_alloc] at k1 k2 k3
    have c0 : w1.cell? ⟨w.heap.size, 0, none⟩ = some (.int .i64 k) := (k1 _ _ (by omega)).trans (by simp)
    have c1 : w1.cell? ⟨w.heap.size, 1, none⟩ = some (.int .i64 n) := (k1 _ _ (by omega)).trans (by simp)
    have c2 : w1.cell? ⟨w.heap.size, 2, none⟩ = some (.string s) := (k1 _ _ (by omega)).trans (by simp)
    have HW := Lib.hid (((Below.refl _ w).alloc (Nat.le_refl _) _).trans (hb1.mono (by simp)))
    have HL1 := Lib.hid (HL.out.bel HW.out hs)
    clear k1 k2 hb1
    dsimp only
    have hk : k = 0 ∨ k = 1 ∨ k = 2 ∨ k = 3 := by
      have := HB.out
      unfold validV at this
      simp only at this
      by_cases h0 : k = 0
      · exact .inl h0
      by_cases h1 : k = 1
      · exact .inr (.inl h1)
      by_cases h2 : k = 2
      · exact .inr (.inr (.inl h2))
      by_cases h3 : k = 3
      · exact .inr (.inr (.inr h3))
      simp [h0, h1, h2, h3] at this
    rcases hk with rfl | rfl | rfl | rfl
    · have HF : Hid (fmtV ⟨0, n, s⟩ = [78, 85, 76, 76]) := Lib.hid (by simp [fmtV, HB.out])
      go_wp2_with fail
      go_ret
      exact ⟨ret_str (by rw [HF.out]; rfl), HW.out⟩
    · have HF : Hid (fmtV ⟨1, n, s⟩ = Lib.itoa n) := Lib.hid (by simp [fmtV, HB.out])
      go_wp2_with fail
      refine (format_int n HOK.out.2.1 HOK.out.2.2.1 _ HL1.out).mono ?_
      rintro e w2 ⟨rfl, hb2⟩
      have HB2 := Lib.hid (bel_trans HW.out hb2)
      clear hb2
      dsimp only
      go_wp2_with fail
      go_ret
      exact ⟨ret_str (by rw [HF.out]), HB2.out⟩
    · have hn : n = 0 ∨ n = 1 := by
        have := HB.out
        simp [validV] at this
        exact this.1
      have i0 : ∀ w, (Instr.index 128 (.agg #[.string ⟨#[70, 65, 76, 83, 69]⟩, .string ⟨#[84, 82, 85, 69]⟩]) (.int .i64 0)).run Tryd.prog w = .ok (.string ⟨#[70, 65, 76, 83, 69]⟩) w := fun _ => by kernel_rfl
      have i1 : ∀ w, (Instr.index 128 (.agg #[.string ⟨#[70, 65, 76, 83, 69]⟩, .string ⟨#[84, 82, 85, 69]⟩]) (.int .i64 1)).run Tryd.prog w = .ok (.string ⟨#[84, 82, 85, 69]⟩) w := fun _ => by kernel_rfl
      rcases hn with rfl | rfl
      · have HF : Hid (fmtV ⟨2, 0, s⟩ = [70, 65, 76, 83, 69]) := Lib.hid (by simp [fmtV, HB.out])
        go_wp2_with fail
        go_ret
        exact ⟨ret_str (by rw [HF.out]; rfl), HW.out⟩
      · have HF : Hid (fmtV ⟨2, 1, s⟩ = [84, 82, 85, 69]) := Lib.hid (by simp [fmtV, HB.out])
        go_wp2_with fail
        go_ret
        exact ⟨ret_str (by rw [HF.out]; rfl), HW.out⟩
    · have HF : Hid (fmtV ⟨3, n, s⟩ = 39 :: (Lib.replaceAll s.data.toList [39] [39, 39] ++ [39])) := Lib.hid (by simp [fmtV, HB.out])
      have hs64 : s.size ≤ 64 := by
        have := HB.out
        simp [validV, plainB] at this
        exact this.2.2
      have hr := replace_len s hs64
      have HQ := Lib.hid (quoted (Lib.replaceAll s.data.toList [39] [39, 39]))
      go_wp2_with fail
      refine (replace_q s hs64 _ HL1.out).mono ?_
      rintro e w2 ⟨rfl, hb2⟩
      have HB2 := Lib.hid (bel_trans HW.out hb2)
      clear hb2
      dsimp only
      go_wp2_with fail
      go_ret
      exact ⟨ret_str (by rw [HF.out]; exact HQ.out), HB2.out⟩

end Go.Proofs.YtppiaaolggpjdaaDoor

namespace Go.Proofs.YtppiaaolggpjdaaDoor
open Go.RowKit

set_option maxRecDepth 100000 in
set_option maxHeartbeats 2000000 in
theorem known1_any (w : World) (h : LibOk w) (hs : 4 < w.heap.size) : Calls Tryd.prog 36 #[] w (RetBel (.bool true) w) := by
  have HL := Lib.hid h
  clear h
  have hp : plainB ⟨#[105, 116, 39, 115]⟩ = true := by decide +kernel
  have hw := words_v ⟨#[105, 116, 39, 115]⟩ w (by decide)
  rw [hp, show wordsV ⟨#[105, 116, 39, 115]⟩ = ⟨3, 0, ⟨#[105, 116, 39, 115]⟩⟩ by unfold wordsV; rw [hp]; rfl] at hw
  have hf := fun w' (h : LibOk w') (hs : 4 < w'.heap.size) => format_v ⟨3, 0, ⟨#[105, 116, 39, 115]⟩⟩ ⟨by decide, by decide, by decide, by decide, by decide⟩ w' h hs
  rw [show txt (fmtV ⟨3, 0, ⟨#[105, 116, 39, 115]⟩⟩) = ⟨#[39, 105, 116, 39, 39, 115, 39]⟩ by decide +kernel] at hf
  have hc := fun w' => compare_v ⟨1, 5, ⟨#[]⟩⟩ (truthV true) w'
  rw [show cmpV ⟨1, 5, ⟨#[]⟩⟩ (truthV true) = -1 by decide +kernel] at hc
  unfold RetValB valOf at hw
  unfold valOf at hf hc
  have HW := Lib.hid hw
  have HF := Lib.hid hf
  have HC := Lib.hid hc
  clear hp hw hf hc
  go_enter Tryd.func36, Tryd.ntmps36
  go_wp2_with fail
  refine HW.out.mono ?_
  rintro e w1 ⟨rfl, hb⟩
  have z1 := hb.size
  have HB1 := Lib.hid hb
  clear hb
  dsimp only
  go_wp2_with fail
  refine (HF.out _ ((HL.out.bel HB1.out hs).bel ((Below.refl _ w1).alloc (Nat.le_refl _) _) (by omega)) (by simp; omega)).mono ?_
  rintro e w2 ⟨rfl, hb⟩
  have HB2 := Lib.hid ((HB1.out.alloc z1 _).trans (hb.mono (by simp; omega)))
  have z2 := HB2.out.size
  clear hb
  dsimp only
  go_wp2_with fail
  refine (number_v 5 _).mono ?_
  rintro e w3 ⟨rfl, hb⟩
  have HB3 := Lib.hid (HB2.out.trans (hb.mono z2))
  have z3 := HB3.out.size
  clear hb
  unfold valOf
  dsimp only
  go_wp2_with fail
  refine (truth_v true _).mono ?_
  rintro e w4 ⟨rfl, hb⟩
  have HB4 := Lib.hid (HB3.out.trans (hb.mono z3))
  have z4 := HB4.out.size
  clear hb
  unfold valOf
  dsimp only
  go_wp2_with fail
  refine (HC.out _).mono ?_
  rintro e w5 ⟨rfl, hb⟩
  have HB5 := Lib.hid (HB4.out.trans (hb.mono z4))
  clear hb
  dsimp only
  go_wp2_with fail
  go_ret
  exact ⟨rfl, HB5.out⟩

end Go.Proofs.YtppiaaolggpjdaaDoor
