/- Same, the reference's Compare, and rows: contracts of Same, the reference's Compare, CompareRows and the reference's CompareRows. -/
import Derived.Test.YtiheioajnfggmaaDoorV2
import Derived.Test.YtiheioajnfggmaaDoorSh
import Derived.Deep.RegionHeld3
namespace Go.Proofs.YtiheioajnfggmaaDoor
open Go.RowKit

/-- Whether two values are equal, as Go's == asks. -/
def sameV (a b : Val) : Bool := a.kind == b.kind && (a.int == b.int && a.text.toList == b.text.toList)
theorem sameV_iff (a b : Val) : sameV a b = true ↔ a = b := by
  obtain ⟨k1, n1, s1⟩ := a
  obtain ⟨k2, n2, s2⟩ := b
  simp only [sameV, Bool.and_eq_true, beq_iff_eq, Val.mk.injEq, ByteArray.toList_eq]
  constructor
  · rintro ⟨h1, h2, h3⟩; exact ⟨h1, h2, bytes_ext h3⟩
  · rintro ⟨h1, h2, h3⟩; exact ⟨h1, h2, by rw [h3]⟩
theorem sameV_cmp (a b : Val) : sameV a b = decide (cmpV a b = 0) := by
  rw [Bool.eq_iff_iff, sameV_iff, decide_eq_true_iff]
  exact ⟨fun h => by rw [h]; exact valOrd.refl _, fun h => valOrd.eq _ _ h⟩

set_option maxHeartbeats 1000000 in
theorem same_v (a b : Val) (w : World) : Calls Tryd.prog 59 #[valOf a, valOf b] w (RetBel (.bool (sameV a b)) w) := by
  obtain ⟨k1, n1, s1⟩ := a
  obtain ⟨k2, n2, s2⟩ := b
  unfold valOf
  go_enter Tryd.func59, Tryd.ntmps59
  go_wp2
  all_goals go_ret
  all_goals
    refine ⟨ret_b ?_, by go_grown⟩
    simp_all [sameV]

theorem thenC_l {x y : Int} (h : x ≠ 0) : thenC x y = x := by unfold thenC; rw [if_pos h]
theorem thenC_r {x y : Int} (h : x = 0) : thenC x y = y := by unfold thenC; rw [if_neg (by simpa using h)]

set_option maxHeartbeats 1000000 in
theorem rcompare_v (a b : Val) (w : World) : Calls Tryd.prog 58 #[valOf a, valOf b] w (RetBel (.int .i64 (cmpV a b)) w) := by
  obtain ⟨k1, n1, s1⟩ := a
  obtain ⟨k2, n2, s2⟩ := b
  have HR : Hid (cmpV ⟨k1, n1, s1⟩ ⟨k2, n2, s2⟩ = thenC (Lib.compareInt k1 k2) (thenC (Lib.compareInt n1 n2) (Lib.compareBytes s1.data.toList s2.data.toList))) := Lib.hid rfl
  generalize cmpV ⟨k1, n1, s1⟩ ⟨k2, n2, s2⟩ = r at HR ⊢
  unfold valOf
  by_cases hk : k1 = k2
  · subst hk
    have h1 : Lib.compareInt k1 k1 = 0 := intOrd.refl _
    by_cases hn : n1 = n2
    · subst hn
      have h2 : Lib.compareInt n1 n1 = 0 := intOrd.refl _
      have HR2 : Hid (r = Lib.compareBytes s1.data.toList s2.data.toList) := Lib.hid (by rw [HR.out, thenC_r h1, thenC_r h2])
      clear h1 h2
      go_enter Tryd.func58, Tryd.ntmps58
      go_wp2_with fail
      refine (Tryd.strings_Compare s1 s2 _).mono ?_
      rintro e w1 ⟨rfl, rfl⟩
      dsimp only
      go_wp2_with fail
      go_ret
      exact ⟨ret_int HR2.out.symm, by go_grown⟩
    · have HR2 : Hid (r = Lib.compareInt n1 n2) := Lib.hid (by rw [HR.out, thenC_r h1, thenC_l]; exact fun h => hn (intOrd.eq _ _ h))
      have b1 : (n1 != n2) = true := by simpa using hn
      have hlt := Int.lt_or_gt_of_ne hn
      clear hn h1
      rcases hlt with hlt | hlt
      · have HR3 := Lib.hid (cmpInt_lt hlt)
        go_enter Tryd.func58, Tryd.ntmps58
        go_wp2_with fail
        go_ret
        exact ⟨ret_int (by rw [HR2.out, HR3.out]), by go_grown⟩
      · have HR3 := Lib.hid (cmpInt_gt hlt)
        have hge : n2 ≤ n1 := by omega
        go_enter Tryd.func58, Tryd.ntmps58
        go_wp2_with fail
        go_ret
        exact ⟨ret_int (by rw [HR2.out, HR3.out]), by go_grown⟩
  · have HR2 : Hid (r = Lib.compareInt k1 k2) := Lib.hid (by rw [HR.out, thenC_l]; exact fun h => hk (intOrd.eq _ _ h))
    have b1 : (k1 != k2) = true := by simpa using hk
    have hlt := Int.lt_or_gt_of_ne hk
    clear hk
    rcases hlt with hlt | hlt
    · have HR3 := Lib.hid (cmpInt_lt hlt)
      go_enter Tryd.func58, Tryd.ntmps58
      go_wp2_with fail
      go_ret
      exact ⟨ret_int (by rw [HR2.out, HR3.out]), by go_grown⟩
    · have HR3 := Lib.hid (cmpInt_gt hlt)
      have hge : k2 ≤ k1 := by omega
      go_enter Tryd.func58, Tryd.ntmps58
      go_wp2_with fail
      go_ret
      exact ⟨ret_int (by rw [HR2.out, HR3.out]), by go_grown⟩

/-- Rows of values. -/
def ValsR (M : Nat → Prop) (w : World) (v : Value) (l : List Val) : Prop := RowsR M w 3 ValR v l
theorem ValsR.keep {M : Nat → Prop} {w w' : World} {v : Value} {l : List Val} (h : ValsR M w v l) (k : Keep M w w') : ValsR M w' v l := RowsR.map h k fun _ _ _ h => h
theorem ValsR.weak {M M' : Nat → Prop} {w : World} {v : Value} {l : List Val} (h : ValsR M w v l) (hM : ∀ k, k < w.heap.size → M' k → M k) : ValsR M' w v l := RowsR.weak h hM fun _ _ _ h => h

theorem lexC_take {α : Type} {c : α → α → Int} : ∀ (k : Nat) (x y : List α), (∀ i a b, i < k → x[i]? = some a → y[i]? = some b → c a b = 0) → k ≤ x.length → k ≤ y.length → lexC c x y = lexC c (x.drop k) (y.drop k)
  | 0, x, y, _, _, _ => by simp
  | k + 1, [], y, _, h, _ => by simp at h
  | k + 1, _ :: _, [], _, _, h => by simp at h
  | k + 1, a :: x, b :: y, hz, h1, h2 => by
    rw [lexC, thenC_r (hz 0 a b (by omega) rfl rfl), List.drop_succ_cons, List.drop_succ_cons]
    exact lexC_take k x y (fun i a b hi ha hb => hz (i + 1) a b (by omega) (by simpa using ha) (by simpa using hb)) (by simpa using h1) (by simpa using h2)
theorem lexC_at {α : Type} {c : α → α → Int} {k : Nat} {x y : List α} {a b : α} (hz : ∀ i a b, i < k → x[i]? = some a → y[i]? = some b → c a b = 0) (ha : x[k]? = some a) (hb : y[k]? = some b) (hn : c a b ≠ 0) : lexC c x y = c a b := by
  obtain ⟨h1, rfl⟩ := List.getElem?_eq_some_iff.1 ha
  obtain ⟨h2, rfl⟩ := List.getElem?_eq_some_iff.1 hb
  rw [lexC_take k x y hz (by omega) (by omega), List.drop_eq_getElem_cons h1, List.drop_eq_getElem_cons h2, lexC, thenC_l hn]
theorem lexC_end {α : Type} {c : α → α → Int} {x y : List α} (hz : ∀ i a b, i < min x.length y.length → x[i]? = some a → y[i]? = some b → c a b = 0) : lexC c x y = Lib.compareInt x.length y.length := by
  rw [lexC_take (min x.length y.length) x y hz (by omega) (by omega)]
  rcases Nat.lt_trichotomy x.length y.length with h | h | h
  · rw [Nat.min_eq_left (by omega), List.drop_length, cmpInt_lt (by omega)]
    cases hd : y.drop x.length with
    | nil => have := congrArg List.length hd; simp at this; omega
    | cons => rfl
  · rw [Nat.min_eq_left (by omega), List.drop_length, h, List.drop_length, intOrd.refl]
    rfl
  · rw [Nat.min_eq_right (by omega), List.drop_length, cmpInt_gt (by omega)]
    cases hd : x.drop y.length with
    | nil => have := congrArg List.length hd; simp at this; omega
    | cons => rfl

theorem below_drew {w w' : World} (h : Below w.drew.heap.size w.drew w') : Below w.heap.size w w' := ⟨h.os, h.tape, h.output, h.size, h.block⟩

theorem CellsAt.vals {w : World} {b o : Nat} {v : Val} (h : CellsAt w b o (valCells v)) : w.cell? ⟨b, o, none⟩ = some (.int .i64 v.kind) ∧ w.cell? ⟨b, o + 1, none⟩ = some (.int .i64 v.int) ∧ w.cell? ⟨b, o + 2, none⟩ = some (.string v.text) := ⟨h 0 _ rfl, h 1 _ rfl, h 2 _ rfl⟩

set_option maxRecDepth 100000 in
set_option maxHeartbeats 4000000 in
theorem rows_v {M : Nat → Prop} (va vb : Value) (la lb : List Val) (w : World) (ha : ValsR M w va la) (hb : ValsR M w vb lb) : Calls Tryd.prog 57 #[va, vb] w (RetBel (.int .i64 (lexC cmpV la lb)) w) := by
  obtain ⟨a1, c1, rfl, hm1⟩ := ha.shape
  obtain ⟨a2, c2, rfl, hm2⟩ := hb.shape
  unfold maxLen at hm1 hm2
  have HA := Lib.hid ha
  have HB := Lib.hid hb
  have HE := Lib.hid (fun h => @lexC_end Val cmpV la lb h)
  have HAT := Lib.hid (fun k a b (hz : ∀ i a b, i < k → la[i]? = some a → lb[i]? = some b → cmpV a b = 0) ha hb hn => @lexC_at Val cmpV k la lb a b hz ha hb hn)
  generalize lexC cmpV la lb = r at HE HAT ⊢
  clear ha hb
  obtain ⟨n, hn⟩ : ∃ n : Nat, n = min la.length lb.length := ⟨_, rfl⟩
  have HMIN : Hid (min (la.length : Int) (lb.length : Int) = (n : Int)) := Lib.hid (by omega)
  have HN := Lib.hid hn
  have hn1 : n ≤ la.length := by omega
  have hn2 : n ≤ lb.length := by omega
  clear hn
  go_enter Tryd.func57, Tryd.ntmps57
  go_wp2_with fail
  rw [HMIN.out]
  go_loopw [12] (fun i wr => ∃ k : Nat, k ≤ n ∧ i = .int .i64 k ∧ Below w.heap.size w wr ∧ ∀ i a b, i < k → la[i]? = some a → lb[i]? = some b → cmpV a b = 0) (fun i _ => n - (intOf i).toNat)
  case atStart => exact ⟨0, Nat.zero_le _, rfl, Below.refl _ _, fun i a b h => absurd h (by omega)⟩
  case round =>
    obtain ⟨k, hk, rfl, hbel, hno⟩ := hrel
    have HZ := Lib.hid hno
    have HW := Lib.hid hbel
    have hbw := hbel.size
    clear hno hbel
    by_cases hlt : k < n
    · rcases HA.out.open with ⟨_, h'⟩ | ⟨b1, o1, cap1, hv1, hT1, hb1, hl1, _, hx1⟩
      · rw [h'] at hn1; simp at hn1; omega
      rcases HB.out.open with ⟨_, h'⟩ | ⟨b2, o2, cap2, hv2, hT2, hb2, hl2, _, hx2⟩
      · rw [h'] at hn2; simp at hn2; omega
      simp only [Value.slice.injEq] at hv1 hv2
      obtain ⟨rfl, _, rfl⟩ := hv1
      obtain ⟨rfl, _, rfl⟩ := hv2
      have hxa : la[k]? = some la[k] := List.getElem?_eq_getElem (by omega)
      have hxb : lb[k]? = some lb[k] := List.getElem?_eq_getElem (by omega)
      obtain ⟨cs1, rfl, _, hc1⟩ := hx1 k _ hxa
      obtain ⟨cs2, rfl, _, hc2⟩ := hx2 k _ hxb
      generalize la[k] = x at hxa hc1
      generalize lb[k] = y at hxb hc2
      obtain ⟨p0, p1, p2⟩ := (hc1.keep (M := fun k => w.heap.size ≤ k) (.of_below HW.out fun k _ h => h) (by simp; omega)).vals
      obtain ⟨q0, q1, q2⟩ := (hc2.keep (M := fun k => w.heap.size ≤ k) (.of_below HW.out fun k _ h => h) (by simp; omega)).vals
      have i0 : (0 : Int) ≤ (k : Int) := by omega
      have i1 : (k : Int) < (la.length : Int) := by omega
      have i2 : (k : Int) < (lb.length : Int) := by omega
      have HXA := Lib.hid hxa
      have HXB := Lib.hid hxb
      have lb1 : b1 < wr.heap.size := by omega
      have lb2 : b2 < wr.heap.size := by omega
      have HSQ := Lib.hid (fun (w' : World) (h : Below wr.heap.size wr w') => show w'.cell? ⟨b1, o1 + k * 3, none⟩ = some (.int .i64 x.kind) ∧ w'.cell? ⟨b1, o1 + k * 3 + 1, none⟩ = some (.int .i64 x.int) ∧ w'.cell? ⟨b1, o1 + k * 3 + 2, none⟩ = some (.string x.text) ∧ w'.cell? ⟨b2, o2 + k * 3, none⟩ = some (.int .i64 y.kind) ∧ w'.cell? ⟨b2, o2 + k * 3 + 1, none⟩ = some (.int .i64 y.int) ∧ w'.cell? ⟨b2, o2 + k * 3 + 2, none⟩ = some (.string y.text) from ⟨(h.cell (p := ⟨b1, o1 + k * 3, none⟩) lb1).trans p0, (h.cell (p := ⟨b1, o1 + k * 3 + 1, none⟩) lb1).trans p1, (h.cell (p := ⟨b1, o1 + k * 3 + 2, none⟩) lb1).trans p2, (h.cell (p := ⟨b2, o2 + k * 3, none⟩) lb2).trans q0, (h.cell (p := ⟨b2, o2 + k * 3 + 1, none⟩) lb2).trans q1, (h.cell (p := ⟨b2, o2 + k * 3 + 2, none⟩) lb2).trans q2⟩)
      have hc := fun w => compare_v x y w
      clear hx1 hx2 hc1 hc2 hxa hxb hT1 hT2
      by_cases hz : cmpV x y = 0
      · rw [hz] at hc
        have HC := Lib.hid hc
        have HZZ := Lib.hid hz
        clear hc hz
        go_wp2_with fail
        go_region_held3 (fun w' => w'.cell? ⟨b1, o1 + k * 3, none⟩ = some (.int .i64 x.kind) ∧ w'.cell? ⟨b1, o1 + k * 3 + 1, none⟩ = some (.int .i64 x.int) ∧ w'.cell? ⟨b1, o1 + k * 3 + 2, none⟩ = some (.string x.text) ∧ w'.cell? ⟨b2, o2 + k * 3, none⟩ = some (.int .i64 y.kind) ∧ w'.cell? ⟨b2, o2 + k * 3 + 1, none⟩ = some (.int .i64 y.int) ∧ w'.cell? ⟨b2, o2 + k * 3 + 2, none⟩ = some (.string y.text))
          (first | (with_reducible exact HSQ.out _ HB1.out) | go_keep)
          ((go_at_call 55; refine (HC.out _).mono ?_; rintro e w1 ⟨rfl, hb⟩; have HB1 := Lib.hid (below_drew hb); clear hb))
        all_goals
          go_wp2_with fail
          go_roundw
          case rel =>
            refine ⟨k + 1, by omega, by go_num, bel_trans HW.out HB1.out, fun i a b hi ha hb => ?_⟩
            by_cases e : i = k
            · subst e
              rw [HXA.out] at ha
              rw [HXB.out] at hb
              cases ha
              cases hb
              exact HZZ.out
            · exact HZ.out i a b (by omega) ha hb
          case measure => simp [intOf]; omega
      · have HF := Lib.hid (HAT.out k x y HZ.out HXA.out HXB.out hz)
        generalize cmpV x y = c at hc hz HF
        have bz : (c != 0) = true := by simpa using hz
        have HC := Lib.hid hc
        clear hc hz
        go_wp2_with fail
        go_region_held3 (fun w' => w'.cell? ⟨b1, o1 + k * 3, none⟩ = some (.int .i64 x.kind) ∧ w'.cell? ⟨b1, o1 + k * 3 + 1, none⟩ = some (.int .i64 x.int) ∧ w'.cell? ⟨b1, o1 + k * 3 + 2, none⟩ = some (.string x.text) ∧ w'.cell? ⟨b2, o2 + k * 3, none⟩ = some (.int .i64 y.kind) ∧ w'.cell? ⟨b2, o2 + k * 3 + 1, none⟩ = some (.int .i64 y.int) ∧ w'.cell? ⟨b2, o2 + k * 3 + 2, none⟩ = some (.string y.text))
          (first | (with_reducible exact HSQ.out _ HB1.out) | go_keep)
          ((go_at_call 55; refine (HC.out _).mono ?_; rintro e w1 ⟨rfl, hb⟩; have HB1 := Lib.hid (below_drew hb); clear hb))
        all_goals
          go_wp2_with fail
          go_ret
          exact ⟨ret_int HF.out.symm, bel_trans HW.out HB1.out⟩
    · obtain rfl : k = n := by omega
      have HF := Lib.hid (HE.out fun i a b hi => HZ.out i a b (by have := HN.out; omega))
      go_wp2_with fail
      refine (cmpInt_any _ _ _).mono ?_
      rintro e w1 ⟨rfl, rfl⟩
      dsimp only
      go_wp2_with fail
      go_ret
      exact ⟨ret_int HF.out.symm, HW.out⟩

set_option maxRecDepth 100000 in
set_option maxHeartbeats 4000000 in
theorem rrows_v {M : Nat → Prop} (va vb : Value) (la lb : List Val) (w : World) (ha : ValsR M w va la) (hb : ValsR M w vb lb) : Calls Tryd.prog 60 #[va, vb] w (RetBel (.int .i64 (lexC cmpV la lb)) w) := by
  obtain ⟨a1, c1, rfl, hm1⟩ := ha.shape
  obtain ⟨a2, c2, rfl, hm2⟩ := hb.shape
  unfold maxLen at hm1 hm2
  have HA := Lib.hid ha
  have HB := Lib.hid hb
  have HE := Lib.hid (fun h => @lexC_end Val cmpV la lb h)
  have HAT := Lib.hid (fun k a b (hz : ∀ i a b, i < k → la[i]? = some a → lb[i]? = some b → cmpV a b = 0) ha hb hn => @lexC_at Val cmpV k la lb a b hz ha hb hn)
  generalize lexC cmpV la lb = r at HE HAT ⊢
  clear ha hb
  go_enter Tryd.func60, Tryd.ntmps60
  go_wp2_with fail
  go_loopw [5] (fun i wr => ∃ k : Nat, k ≤ la.length ∧ k ≤ lb.length ∧ i = .int .i64 k ∧ Below w.heap.size w wr ∧ ∀ i a b, i < k → la[i]? = some a → lb[i]? = some b → cmpV a b = 0) (fun i _ => la.length - (intOf i).toNat)
  case atStart => exact ⟨0, Nat.zero_le _, Nat.zero_le _, rfl, Below.refl _ _, fun i a b h => absurd h (by omega)⟩
  case round =>
    obtain ⟨k, hk1, hk2, rfl, hbel, hno⟩ := hrel
    have HZ := Lib.hid hno
    have HW := Lib.hid hbel
    have hbw := hbel.size
    clear hno hbel
    by_cases hlt : k < la.length ∧ k < lb.length
    · rcases HA.out.open with ⟨_, h'⟩ | ⟨b1, o1, cap1, hv1, hT1, hb1, hl1, _, hx1⟩
      · rw [h'] at hlt; simp at hlt
      rcases HB.out.open with ⟨_, h'⟩ | ⟨b2, o2, cap2, hv2, hT2, hb2, hl2, _, hx2⟩
      · rw [h'] at hlt; simp at hlt
      obtain ⟨hla, hlb⟩ := hlt
      simp only [Value.slice.injEq] at hv1 hv2
      obtain ⟨rfl, _, rfl⟩ := hv1
      obtain ⟨rfl, _, rfl⟩ := hv2
      have hxa : la[k]? = some la[k] := List.getElem?_eq_getElem (by omega)
      have hxb : lb[k]? = some lb[k] := List.getElem?_eq_getElem (by omega)
      obtain ⟨cs1, rfl, _, hc1⟩ := hx1 k _ hxa
      obtain ⟨cs2, rfl, _, hc2⟩ := hx2 k _ hxb
      generalize la[k] = x at hxa hc1
      generalize lb[k] = y at hxb hc2
      obtain ⟨p0, p1, p2⟩ := (hc1.keep (M := fun k => w.heap.size ≤ k) (.of_below HW.out fun k _ h => h) (by simp; omega)).vals
      obtain ⟨q0, q1, q2⟩ := (hc2.keep (M := fun k => w.heap.size ≤ k) (.of_below HW.out fun k _ h => h) (by simp; omega)).vals
      have i0 : (0 : Int) ≤ (k : Int) := by omega
      have i1 : (k : Int) < (la.length : Int) := by omega
      have i2 : (k : Int) < (lb.length : Int) := by omega
      have HXA := Lib.hid hxa
      have HXB := Lib.hid hxb
      have lb1 : b1 < wr.heap.size := by omega
      have lb2 : b2 < wr.heap.size := by omega
      have HSQ := Lib.hid (fun (w' : World) (h : Below wr.heap.size wr w') => show w'.cell? ⟨b1, o1 + k * 3, none⟩ = some (.int .i64 x.kind) ∧ w'.cell? ⟨b1, o1 + k * 3 + 1, none⟩ = some (.int .i64 x.int) ∧ w'.cell? ⟨b1, o1 + k * 3 + 2, none⟩ = some (.string x.text) ∧ w'.cell? ⟨b2, o2 + k * 3, none⟩ = some (.int .i64 y.kind) ∧ w'.cell? ⟨b2, o2 + k * 3 + 1, none⟩ = some (.int .i64 y.int) ∧ w'.cell? ⟨b2, o2 + k * 3 + 2, none⟩ = some (.string y.text) from ⟨(h.cell (p := ⟨b1, o1 + k * 3, none⟩) lb1).trans p0, (h.cell (p := ⟨b1, o1 + k * 3 + 1, none⟩) lb1).trans p1, (h.cell (p := ⟨b1, o1 + k * 3 + 2, none⟩) lb1).trans p2, (h.cell (p := ⟨b2, o2 + k * 3, none⟩) lb2).trans q0, (h.cell (p := ⟨b2, o2 + k * 3 + 1, none⟩) lb2).trans q1, (h.cell (p := ⟨b2, o2 + k * 3 + 2, none⟩) lb2).trans q2⟩)
      have hc := fun w => rcompare_v x y w
      clear hx1 hx2 hc1 hc2 hxa hxb hT1 hT2
      by_cases hz : cmpV x y = 0
      · rw [hz] at hc
        have HC := Lib.hid hc
        have HZZ := Lib.hid hz
        clear hc hz
        go_wp2_with fail
        go_region_held3 (fun w' => w'.cell? ⟨b1, o1 + k * 3, none⟩ = some (.int .i64 x.kind) ∧ w'.cell? ⟨b1, o1 + k * 3 + 1, none⟩ = some (.int .i64 x.int) ∧ w'.cell? ⟨b1, o1 + k * 3 + 2, none⟩ = some (.string x.text) ∧ w'.cell? ⟨b2, o2 + k * 3, none⟩ = some (.int .i64 y.kind) ∧ w'.cell? ⟨b2, o2 + k * 3 + 1, none⟩ = some (.int .i64 y.int) ∧ w'.cell? ⟨b2, o2 + k * 3 + 2, none⟩ = some (.string y.text))
          (first | (with_reducible exact HSQ.out _ HB1.out) | go_keep)
          ((go_at_call 58; refine (HC.out _).mono ?_; rintro e w1 ⟨rfl, hb⟩; have HB1 := Lib.hid (below_drew hb); clear hb))
        all_goals
          go_wp2_with fail
          go_roundw
          case rel =>
            refine ⟨k + 1, by omega, by omega, by go_num, bel_trans HW.out HB1.out, fun i a b hi ha hb => ?_⟩
            by_cases e : i = k
            · subst e
              rw [HXA.out] at ha
              rw [HXB.out] at hb
              cases ha
              cases hb
              exact HZZ.out
            · exact HZ.out i a b (by omega) ha hb
          case measure => simp [intOf]; omega
      · have HF := Lib.hid (HAT.out k x y HZ.out HXA.out HXB.out hz)
        generalize cmpV x y = c at hc hz HF
        have bz : (c != 0) = true := by simpa using hz
        have HC := Lib.hid hc
        clear hc hz
        go_wp2_with fail
        go_region_held3 (fun w' => w'.cell? ⟨b1, o1 + k * 3, none⟩ = some (.int .i64 x.kind) ∧ w'.cell? ⟨b1, o1 + k * 3 + 1, none⟩ = some (.int .i64 x.int) ∧ w'.cell? ⟨b1, o1 + k * 3 + 2, none⟩ = some (.string x.text) ∧ w'.cell? ⟨b2, o2 + k * 3, none⟩ = some (.int .i64 y.kind) ∧ w'.cell? ⟨b2, o2 + k * 3 + 1, none⟩ = some (.int .i64 y.int) ∧ w'.cell? ⟨b2, o2 + k * 3 + 2, none⟩ = some (.string y.text))
          (first | (with_reducible exact HSQ.out _ HB1.out) | go_keep)
          ((go_at_call 58; refine (HC.out _).mono ?_; rintro e w1 ⟨rfl, hb⟩; have HB1 := Lib.hid (below_drew hb); clear hb))
        all_goals
          go_wp2_with fail
          go_ret
          exact ⟨ret_int HF.out.symm, bel_trans HW.out HB1.out⟩
    · have hke : k = min la.length lb.length := by omega
      have HF := Lib.hid (HE.out fun i a b hi => HZ.out i a b (by omega))
      have HKE := Lib.hid hke
      clear hke
      rcases Nat.lt_trichotomy la.length lb.length with h | h | h
      · have HF2 := Lib.hid (HF.out.trans (cmpInt_lt (show (la.length : Int) < (lb.length : Int) by omega)))
        have hge : ¬ k < la.length := by omega
        clear hlt
        go_wp2_with fail
        go_ret
        exact ⟨ret_int HF2.out.symm, HW.out⟩
      · have HF2 := Lib.hid (HF.out.trans (cmpInt_eq (show (lb.length : Int) ≤ (la.length : Int) by omega) (by omega)))
        have hge : ¬ k < la.length := by omega
        have hle1 : ¬ la.length < lb.length := by omega
        have hle2 : ¬ lb.length < la.length := by omega
        clear hlt h
        go_wp2_with fail
        go_ret
        exact ⟨ret_int HF2.out.symm, HW.out⟩
      · have HF2 := Lib.hid (HF.out.trans (cmpInt_gt (show (lb.length : Int) < (la.length : Int) by omega)))
        have hla : k < la.length := by omega
        have hge : ¬ k < lb.length := by omega
        have hle1 : ¬ la.length < lb.length := by omega
        clear hlt
        go_wp2_with fail
        go_ret
        exact ⟨ret_int HF2.out.symm, HW.out⟩

end Go.Proofs.YtiheioajnfggmaaDoor
