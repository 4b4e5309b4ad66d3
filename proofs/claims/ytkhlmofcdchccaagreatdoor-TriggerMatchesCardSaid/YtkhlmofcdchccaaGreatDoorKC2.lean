/- Types that fit: contracts of fits, all and operation. A frame more: contract of scope.inside. Tables found: contracts of scope.Source. Frames of a row trigger: contracts of the reference's Frames and of the statement's frames. The frames of the statements on names and types: the contract of frames. -/
import Derived.Test.YtkhlmofcdchccaaGreatDoorKC1
import Derived.Test.YtkhlmofcdchccaaGreatDoorU01
import Derived.Deep.RegionHeld3
import Derived.Deep.AppendLies
namespace Go.Proofs.YtkhlmofcdchccaaGreatDoor
open Go.RowKit

def IntsR (M : Nat → Prop) (w : World) (v : Value) (l : List Int) : Prop := RowsR M w 1 IntR v l
theorem IntsR.keep {M : Nat → Prop} {w w' : World} {v : Value} {l : List Int} (h : IntsR M w v l) (k : Keep M w w') : IntsR M w' v l := RowsR.map h k fun _ _ _ h => h

theorem ret_bool {a b : Bool} (h : a = b) : Ending.returned (.bool a) = .returned (.bool b) := by rw [h]

set_option maxHeartbeats 400000 in
theorem fits_any (a b : Int) (w : World) : Calls Tryz.prog 136 #[.int .i64 a, .int .i64 b] w fun e w' => e = .returned (.bool (fitsB a b)) ∧ w = w' := by
  have hn : Hid (∀ x : Bool, x = fitsB a b → Ending.returned (.bool x) = .returned (.bool (fitsB a b))) := Lib.hid fun x h => by rw [h]
  go_enter Tryz.func136, Tryz.ntmps136
  go_wp2
  all_goals
    go_ret
    refine ⟨hn.out _ ?_, rfl⟩
    simp_all [fitsB]

set_option maxHeartbeats 400000 in
theorem all1_any (t want : Int) (b o : Nat) (w : World) (h : w.cell? ⟨b, o, none⟩ = some (.int .i64 want)) :
    Calls Tryz.prog 221 #[.int .i64 t, .pointer (some ⟨b, o, none⟩)] w fun e w' => e = .returned (.bool (!fitsB t want)) ∧ w = w' := by
  go_enter Tryz.func221, Tryz.ntmps221
  go_wp2_with (go_at_call 136; refine (fits_any _ _ _).mono ?_; rintro e w1 ⟨rfl, rfl⟩)
  go_ret
  exact ⟨rfl, rfl⟩

def notFits (want t : Int) : Bool := !fitsB t want

set_option maxHeartbeats 1000000 in
theorem idxInt_any {M : Nat → Prop} (v : Value) (l : List Int) (want : Int) (b o : Nat) (w : World) (hv : IntsR M w v l) (h : w.cell? ⟨b, o, none⟩ = some (.int .i64 want)) :
    Calls Tryz.prog 235 #[v, .func (.func 221) #[] #[.pointer (some ⟨b, o, none⟩)]] w (RetBel (.int .i64 (idxI (l.findIdx? (notFits want)))) w) := by
  have hb := World.block_lt_of_cell? _ _ h
  simp only at hb
  have HV := Lib.hid hv
  obtain ⟨a, cap, rfl, hm⟩ := hv.shape
  unfold maxLen at hm
  clear hv
  go_enter Tryz.func235, Tryz.ntmps235
  go_wp2
  go_loopw [5, 8] (fun j i wr => ∃ k : Nat, k ≤ l.length ∧ i = .int .i64 k ∧ Below w.heap.size w wr ∧ ∀ i y, i < k → l[i]? = some y → notFits want y = false) (fun _ i _ => l.length - (intOf i).toNat)
  case atStart => exact ⟨0, Nat.zero_le _, rfl, Below.refl _ _, fun i y hi => by omega⟩
  case round =>
    obtain ⟨k, hk, rfl, hbel, hno⟩ := hrel
    have HN := Lib.hid hno
    clear hno
    by_cases hlt : k < l.length
    · rcases HV.out.open with ⟨h, h'⟩ | ⟨b', o', cap', hv', hbT, hbs, hl, hm', hx⟩
      · subst h'; simp at hlt
      · simp only [Value.slice.injEq] at hv'
        obtain ⟨rfl, _, rfl⟩ := hv'
        have hxk : l[k]? = some l[k] := List.getElem?_eq_getElem hlt
        obtain ⟨cs, rfl, _, hcs⟩ := hx k _ hxk
        generalize l[k] = x at hxk hcs
        have hcs' := hcs.keep (M := fun k => w.heap.size ≤ k) (.of_below hbel fun k _ h => h) (by simp; omega)
        have c0 := hcs'.c1
        rw [Nat.mul_one] at c0
        have h0 : wr.cell? ⟨b, o, none⟩ = some (.int .i64 want) := (hbel.cell hb).trans h
        have HX := Lib.hid hxk
        have HB := Lib.hid hbel
        clear hx hcs hxk hbel hcs'
        cases hp : fitsB x want with
        | false =>
          have hc := all1_any x want b o wr h0
          rw [hp] at hc
          have HC := Lib.hid hc
          clear hc
          go_wp2_with (go_at_call 221; refine HC.out.mono ?_; rintro e w1 ⟨rfl, rfl⟩)
          go_ret
          refine ⟨?_, HB.out⟩
          rw [show l.findIdx? (notFits want) = some k from findIdx_some HX.out (by simp [notFits, hp]) HN.out]
          rfl
        | true =>
          have hc := all1_any x want b o wr h0
          rw [hp] at hc
          have HC := Lib.hid hc
          clear hc
          go_wp2_with (go_at_call 221; refine HC.out.mono ?_; rintro e w1 ⟨rfl, rfl⟩)
          go_roundw
          case rel =>
            refine ⟨k + 1, by omega, by go_num, HB.out, fun i y hi hy => ?_⟩
            by_cases e : i = k
            · subst e
              have := HX.out
              rw [this] at hy
              simp at hy
              subst hy
              simp [notFits, hp]
            · exact HN.out i y (by omega) hy
          case measure => simp [intOf]; omega
    · go_wp2
      go_ret
      refine ⟨?_, hbel⟩
      rw [show l.findIdx? (notFits want) = none from findIdx_none fun i y hi hy => HN.out i y (by omega) hy]
      rfl

theorem allB_idx (l : List Int) (want : Int) : (decide (0 ≤ idxI (l.findIdx? (notFits want)))) = !allB l want := by
  cases h : l.findIdx? (notFits want) with
  | none =>
    rw [List.findIdx?_eq_none_iff] at h
    have : allB l want = true := by
      simp only [allB, List.all_eq_true]
      intro x hx
      simpa [notFits] using h x hx
    simp [idxI, this]
  | some i =>
    rw [List.findIdx?_eq_some_iff_getElem] at h
    obtain ⟨hlt, hp, _⟩ := h
    have : allB l want = false := by
      simp only [allB, List.all_eq_false]
      exact ⟨l[i], List.getElem_mem hlt, by simpa [notFits] using hp⟩
    simp [idxI, this]

set_option maxHeartbeats 400000 in
theorem containsInt_any {M : Nat → Prop} (v : Value) (l : List Int) (want : Int) (b o : Nat) (w : World) (hv : IntsR M w v l) (h : w.cell? ⟨b, o, none⟩ = some (.int .i64 want)) :
    Calls Tryz.prog 220 #[v, .func (.func 221) #[] #[.pointer (some ⟨b, o, none⟩)]] w (RetBel (.bool (!allB l want)) w) := by
  have HA := Lib.hid (allB_idx l want)
  have HV := Lib.hid hv
  have HC := Lib.hid (idxInt_any v l want b o w hv h)
  generalize idxI (l.findIdx? (notFits want)) = r at HA HC
  clear hv h
  go_enter Tryz.func220, Tryz.ntmps220
  go_wp2_with (go_at_call 235; refine HC.out.mono ?_; rintro e w1 ⟨rfl, hb1⟩)
  go_ret
  refine ⟨?_, by assumption⟩
  rw [← HA.out]
  rfl

set_option maxHeartbeats 400000 in
theorem all_any {M : Nat → Prop} (v : Value) (l : List Int) (want : Int) (w : World) (hv : IntsR M w v l) :
    Calls Tryz.prog 207 #[v, .int .i64 want] w (RetBel (.bool (allB l want)) w) := by
  have HV := Lib.hid hv
  obtain ⟨a, cap, rfl, hm⟩ := hv.shape
  clear hv
  go_enter Tryz.func207, Tryz.ntmps207
  go_wp2_with (go_at_call 220; refine (containsInt_any (M := M) _ l want _ _ _ (HV.out.keep ((Keep.refl M w).alloc _)) (by simp)).mono ?_; rintro e w1 ⟨rfl, hb1⟩; have HB := Lib.hid hb1; clear hb1)
  go_ret
  refine ⟨ret_bool (by simp), ?_⟩
  exact ((Below.refl _ w).alloc (Nat.le_refl _) _).trans (HB.out.mono (by simp))

def RetII (r : Int × Int) (w : World) (e : Ending) (w' : World) : Prop := e = .returned (.tuple #[.int .i64 r.1, .int .i64 r.2]) ∧ Below w.heap.size w w'

theorem pairB_step (l : List Int) (k : Nat) (x : Int) (h : l[k]? = some x) : ((List.range (k + 1)).all fun i => allB (l.take i) (l.getD i 0)) = (((List.range k).all fun i => allB (l.take i) (l.getD i 0)) && allB (l.take k) x) := by
  rw [List.range_succ, List.all_append]
  simp [h]

section
variable {M : Nat → Prop} (k o : Int) (no : Bool) (vk vi : Int) (vt t nm : ByteArray) (va vs v : Value) (l : List Int) (w : World)

set_option maxHeartbeats 1000000 in
theorem operation_any (hv : IntsR M w v l) :
    Calls Tryz.prog 183 #[.agg #[.int .i64 k, .int .i64 o, .bool no, .int .i64 vk, .int .i64 vi, .string vt, .string t, .string nm, va, vs], v] w (RetII (operationP k o l) w) := by
  have HV := Lib.hid hv
  obtain ⟨a, cap, rfl, hm⟩ := hv.shape
  clear hv
  by_cases h6 : k = 6
  · subst h6
    go_enter Tryz.func183, Tryz.ntmps183
    go_wp2_with fail
    go_ret2
    exact ⟨by rfl, (Below.refl _ _).alloc (Nat.le_refl _) _⟩
  by_cases hb : k = 3 ∨ (k = 5 ∧ o ≤ 2)
  · have hs : operationP k o l = if allB l 2 then (2, 0) else (0, 5) := by simp [operationP, h6, hb]
    have HS := Lib.hid hs
    clear hs
    cases ha : allB l 2 with
    | true =>
      have hc := fun w' hv => all_any (M := M) (.slice a l.length cap) l 2 w' hv
      rw [ha] at hc
      have HC := Lib.hid hc
      have HA := Lib.hid ha
      clear hc ha
      rcases hb with hb | ⟨hb, hb'⟩
      all_goals
        subst hb
        go_enter Tryz.func183, Tryz.ntmps183
        go_wp2_with (go_at_call 207; refine (HC.out _ (HV.out.keep ((Keep.refl M w).alloc _))).mono ?_; rintro e w1 ⟨rfl, hb1⟩; have HB := Lib.hid hb1; clear hb1)
        go_ret2
        refine ⟨?_, ((Below.refl _ w).alloc (Nat.le_refl _) _).trans (HB.out.mono (by simp))⟩
        rw [HS.out, HA.out]
        rfl
    | false =>
      have hc := fun w' hv => all_any (M := M) (.slice a l.length cap) l 2 w' hv
      rw [ha] at hc
      have HC := Lib.hid hc
      have HA := Lib.hid ha
      clear hc ha
      rcases hb with hb | ⟨hb, hb'⟩
      all_goals
        subst hb
        go_enter Tryz.func183, Tryz.ntmps183
        go_wp2_with (go_at_call 207; refine (HC.out _ (HV.out.keep ((Keep.refl M w).alloc _))).mono ?_; rintro e w1 ⟨rfl, hb1⟩; have HB := Lib.hid hb1; clear hb1)
        go_ret2
        refine ⟨?_, ((Below.refl _ w).alloc (Nat.le_refl _) _).trans (HB.out.mono (by simp))⟩
        rw [HS.out, HA.out]
        rfl
  by_cases hi : k = 4 ∨ (k = 5 ∧ 9 ≤ o)
  · have hs : operationP k o l = if allB l 1 then (1, 0) else (0, 5) := by simp [operationP, h6, hb, hi]
    have HS := Lib.hid hs
    clear hs
    cases ha : allB l 1 with
    | true =>
      have hc := fun w' hv => all_any (M := M) (.slice a l.length cap) l 1 w' hv
      rw [ha] at hc
      have HC := Lib.hid hc
      have HA := Lib.hid ha
      clear hc ha hb
      rcases hi with hb | ⟨hb, hb'⟩
      all_goals
        subst hb
        go_enter Tryz.func183, Tryz.ntmps183
        go_wp2_with (go_at_call 207; refine (HC.out _ (HV.out.keep ((Keep.refl M w).alloc _))).mono ?_; rintro e w1 ⟨rfl, hb1⟩; have HB := Lib.hid hb1; clear hb1)
        go_ret2
        refine ⟨?_, ((Below.refl _ w).alloc (Nat.le_refl _) _).trans (HB.out.mono (by simp))⟩
        rw [HS.out, HA.out]
        rfl
    | false =>
      have hc := fun w' hv => all_any (M := M) (.slice a l.length cap) l 1 w' hv
      rw [ha] at hc
      have HC := Lib.hid hc
      have HA := Lib.hid ha
      clear hc ha hb
      rcases hi with hb | ⟨hb, hb'⟩
      all_goals
        subst hb
        go_enter Tryz.func183, Tryz.ntmps183
        go_wp2_with (go_at_call 207; refine (HC.out _ (HV.out.keep ((Keep.refl M w).alloc _))).mono ?_; rintro e w1 ⟨rfl, hb1⟩; have HB := Lib.hid hb1; clear hb1)
        go_ret2
        refine ⟨?_, ((Below.refl _ w).alloc (Nat.le_refl _) _).trans (HB.out.mono (by simp))⟩
        rw [HS.out, HA.out]
        rfl
  · have hs : operationP k o l = if pairB l then (2, 0) else (0, 5) := by simp [operationP, h6, hb, hi]
    have HS := Lib.hid hs
    clear hs
    have h3 : k ≠ 3 := fun e => hb (.inl e)
    have h4 : k ≠ 4 := fun e => hi (.inl e)
    have h5 : k ≠ 5 ∨ (2 < o ∧ o < 9) := by
      by_cases e : k = 5
      · exact .inr ⟨by omega, by omega⟩
      · exact .inl e
    clear hb hi
    unfold maxLen at hm
    have sl := fun (j : Nat) (x : Int) (hx : l[j]? = some x) => pairB_step l j x hx
    have SL := Lib.hid sl
    clear sl
    have b6 : (k == 6) = false := by simpa using h6
    have b3 : (k == 3) = false := by simpa using h3
    have b4 : (k == 4) = false := by simpa using h4
    rcases h5 with h5 | ⟨ho, ho'⟩
    · have b5 : (k == 5) = false := by simpa using h5
      clear h5 h6 h3 h4
      go_enter Tryz.func183, Tryz.ntmps183
      go_wp2_with fail
      go_loopw [6, 12] (fun ok i wr => ∃ j : Nat, j ≤ l.length ∧ i = .int .i64 j ∧ Below w.heap.size w wr ∧ ok = .bool ((List.range j).all fun i => allB (l.take i) (l.getD i 0))) (fun _ i _ => l.length - (intOf i).toNat)
      case atStart => exact ⟨0, Nat.zero_le _, rfl, (Below.refl _ _).alloc (Nat.le_refl _) _, by simp⟩
      case round =>
        obtain ⟨j, hj, rfl, hbel, rfl⟩ := hrel
        by_cases hlt : j < l.length
        · have hxj : l[j]? = some l[j] := List.getElem?_eq_getElem hlt
          have SJ := Lib.hid (SL.out j _ hxj)
          rcases HV.out.open with ⟨h, h'⟩ | ⟨b', o', cap', hv', hbT, hbs, hl, hm', hx⟩
          · subst h'; simp at hlt
          · simp only [Value.slice.injEq] at hv'
            obtain ⟨rfl, _, rfl⟩ := hv'
            obtain ⟨cs, rfl, _, hcs⟩ := hx j _ hxj
            generalize l[j] = x at hxj hcs SJ
            have hcs' := hcs.keep (M := fun k => w.heap.size ≤ k) (.of_below hbel fun k _ h => h) (by simp; omega)
            have c0 := hcs'.c1
            rw [Nat.mul_one] at c0
            have hc := all_any (M := M) (.slice (some ⟨b', o', none⟩) j cap) (l.take j) x wr ((HV.out.take j (by omega)).map (Keep.bel hbel) fun _ _ _ h => h)
            have HC := Lib.hid hc
            have HB := Lib.hid hbel
            clear hx hcs hxj hbel hcs' hc
            have hjc : j ≤ cap := by omega
            generalize ((List.range j).all fun i => allB (l.take i) (l.getD i 0)) = ok at SJ ⊢
            cases ok
            · go_wp2_with fail
              go_roundw
              case rel => exact ⟨j + 1, by omega, by go_num, HB.out, by rw [SJ.out]; rfl⟩
              case measure => simp [intOf]; omega
            · go_wp2_with (go_at_call 207; refine HC.out.mono ?_; rintro e w1 ⟨rfl, hb1⟩; have HB1 := Lib.hid hb1; clear hb1)
              go_roundw
              case rel => exact ⟨j + 1, by omega, by go_num, bel_trans HB.out HB1.out, by rw [SJ.out]; simp⟩
              case measure => simp [intOf]; omega
        · obtain rfl : j = l.length := by omega
          have HB := Lib.hid hbel
          clear hbel
          cases hp : pairB l with
          | true =>
            have hp' : ((List.range l.length).all fun i => allB (l.take i) (l.getD i 0)) = true := hp
            rw [hp']
            have HP := Lib.hid hp
            clear hp hp'
            go_wp2_with fail
            go_ret2
            refine ⟨?_, HB.out⟩
            rw [HS.out, HP.out]
            rfl
          | false =>
            have hp' : ((List.range l.length).all fun i => allB (l.take i) (l.getD i 0)) = false := hp
            rw [hp']
            have HP := Lib.hid hp
            clear hp hp'
            go_wp2_with fail
            go_ret2
            refine ⟨?_, HB.out⟩
            rw [HS.out, HP.out]
            rfl
    · by_cases h5 : k = 5
      · subst h5
        clear h6 h3 h4 b6 b3 b4
        have o1 : decide (o ≤ 2) = false := by simp; omega
        have o2 : decide (9 ≤ o) = false := by simp; omega
        go_enter Tryz.func183, Tryz.ntmps183
        go_wp2_with fail
        go_loopw [6, 12] (fun ok i wr => ∃ j : Nat, j ≤ l.length ∧ i = .int .i64 j ∧ Below w.heap.size w wr ∧ ok = .bool ((List.range j).all fun i => allB (l.take i) (l.getD i 0))) (fun _ i _ => l.length - (intOf i).toNat)
        case atStart => exact ⟨0, Nat.zero_le _, rfl, (Below.refl _ _).alloc (Nat.le_refl _) _, by simp⟩
        case round =>
          obtain ⟨j, hj, rfl, hbel, rfl⟩ := hrel
          by_cases hlt : j < l.length
          · have hxj : l[j]? = some l[j] := List.getElem?_eq_getElem hlt
            have SJ := Lib.hid (SL.out j _ hxj)
            rcases HV.out.open with ⟨h, h'⟩ | ⟨b', o', cap', hv', hbT, hbs, hl, hm', hx⟩
            · subst h'; simp at hlt
            · simp only [Value.slice.injEq] at hv'
              obtain ⟨rfl, _, rfl⟩ := hv'
              obtain ⟨cs, rfl, _, hcs⟩ := hx j _ hxj
              generalize l[j] = x at hxj hcs SJ
              have hcs' := hcs.keep (M := fun k => w.heap.size ≤ k) (.of_below hbel fun k _ h => h) (by simp; omega)
              have c0 := hcs'.c1
              rw [Nat.mul_one] at c0
              have hc := all_any (M := M) (.slice (some ⟨b', o', none⟩) j cap) (l.take j) x wr ((HV.out.take j (by omega)).map (Keep.bel hbel) fun _ _ _ h => h)
              have HC := Lib.hid hc
              have HB := Lib.hid hbel
              clear hx hcs hxj hbel hcs' hc
              have hjc : j ≤ cap := by omega
              generalize ((List.range j).all fun i => allB (l.take i) (l.getD i 0)) = ok at SJ ⊢
              cases ok
              · go_wp2_with fail
                go_roundw
                case rel => exact ⟨j + 1, by omega, by go_num, HB.out, by rw [SJ.out]; rfl⟩
                case measure => simp [intOf]; omega
              · go_wp2_with (go_at_call 207; refine HC.out.mono ?_; rintro e w1 ⟨rfl, hb1⟩; have HB1 := Lib.hid hb1; clear hb1)
                go_roundw
                case rel => exact ⟨j + 1, by omega, by go_num, bel_trans HB.out HB1.out, by rw [SJ.out]; simp⟩
                case measure => simp [intOf]; omega
          · obtain rfl : j = l.length := by omega
            have HB := Lib.hid hbel
            clear hbel
            cases hp : pairB l with
            | true =>
              have hp' : ((List.range l.length).all fun i => allB (l.take i) (l.getD i 0)) = true := hp
              rw [hp']
              have HP := Lib.hid hp
              clear hp hp'
              go_wp2_with fail
              go_ret2
              refine ⟨?_, HB.out⟩
              rw [HS.out, HP.out]
              rfl
            | false =>
              have hp' : ((List.range l.length).all fun i => allB (l.take i) (l.getD i 0)) = false := hp
              rw [hp']
              have HP := Lib.hid hp
              clear hp hp'
              go_wp2_with fail
              go_ret2
              refine ⟨?_, HB.out⟩
              rw [HS.out, HP.out]
              rfl
      · have b5 : (k == 5) = false := by simpa using h5
        clear h5 h6 h3 h4
        go_enter Tryz.func183, Tryz.ntmps183
        go_wp2_with fail
        go_loopw [6, 12] (fun ok i wr => ∃ j : Nat, j ≤ l.length ∧ i = .int .i64 j ∧ Below w.heap.size w wr ∧ ok = .bool ((List.range j).all fun i => allB (l.take i) (l.getD i 0))) (fun _ i _ => l.length - (intOf i).toNat)
        case atStart => exact ⟨0, Nat.zero_le _, rfl, (Below.refl _ _).alloc (Nat.le_refl _) _, by simp⟩
        case round =>
          obtain ⟨j, hj, rfl, hbel, rfl⟩ := hrel
          by_cases hlt : j < l.length
          · have hxj : l[j]? = some l[j] := List.getElem?_eq_getElem hlt
            have SJ := Lib.hid (SL.out j _ hxj)
            rcases HV.out.open with ⟨h, h'⟩ | ⟨b', o', cap', hv', hbT, hbs, hl, hm', hx⟩
            · subst h'; simp at hlt
            · simp only [Value.slice.injEq] at hv'
              obtain ⟨rfl, _, rfl⟩ := hv'
              obtain ⟨cs, rfl, _, hcs⟩ := hx j _ hxj
              generalize l[j] = x at hxj hcs SJ
              have hcs' := hcs.keep (M := fun k => w.heap.size ≤ k) (.of_below hbel fun k _ h => h) (by simp; omega)
              have c0 := hcs'.c1
              rw [Nat.mul_one] at c0
              have hc := all_any (M := M) (.slice (some ⟨b', o', none⟩) j cap) (l.take j) x wr ((HV.out.take j (by omega)).map (Keep.bel hbel) fun _ _ _ h => h)
              have HC := Lib.hid hc
              have HB := Lib.hid hbel
              clear hx hcs hxj hbel hcs' hc
              have hjc : j ≤ cap := by omega
              generalize ((List.range j).all fun i => allB (l.take i) (l.getD i 0)) = ok at SJ ⊢
              cases ok
              · go_wp2_with fail
                go_roundw
                case rel => exact ⟨j + 1, by omega, by go_num, HB.out, by rw [SJ.out]; rfl⟩
                case measure => simp [intOf]; omega
              · go_wp2_with (go_at_call 207; refine HC.out.mono ?_; rintro e w1 ⟨rfl, hb1⟩; have HB1 := Lib.hid hb1; clear hb1)
                go_roundw
                case rel => exact ⟨j + 1, by omega, by go_num, bel_trans HB.out HB1.out, by rw [SJ.out]; simp⟩
                case measure => simp [intOf]; omega
          · obtain rfl : j = l.length := by omega
            have HB := Lib.hid hbel
            clear hbel
            cases hp : pairB l with
            | true =>
              have hp' : ((List.range l.length).all fun i => allB (l.take i) (l.getD i 0)) = true := hp
              rw [hp']
              have HP := Lib.hid hp
              clear hp hp'
              go_wp2_with fail
              go_ret2
              refine ⟨?_, HB.out⟩
              rw [HS.out, HP.out]
              rfl
            | false =>
              have hp' : ((List.range l.length).all fun i => allB (l.take i) (l.getD i 0)) = false := hp
              rw [hp']
              have HP := Lib.hid hp
              clear hp hp'
              go_wp2_with fail
              go_ret2
              refine ⟨?_, HB.out⟩
              rw [HS.out, HP.out]
              rfl
end

end Go.Proofs.YtkhlmofcdchccaaGreatDoor

namespace Go.Proofs.YtkhlmofcdchccaaGreatDoor
open Go.RowKit

def NoM : Nat → Prop := fun _ => False
/-- Blocks that were there at w are not written. -/
def Later (w : World) (k : Nat) : Prop := w.heap.size ≤ k

theorem frmR_keep {M : Nat → Prop} (w w' : World) (x : Frm) (cs : List Value) (k : Keep M w w') (h : FrmR M w x cs) : FrmR M w' x cs := h.keep k
theorem frmR_one {M : Nat → Prop} (w : World) (x : Frm) (cs : List Value) (h : FrmR M w x cs) : ∀ u ∈ cs, u.oneCell' = true := by
  obtain ⟨vc, a, n, c, rfl, hc⟩ := h
  obtain ⟨a', c', rfl, _⟩ := hc.shape
  simp [Value.oneCell']

/-- A row that the call owns, with one thing more. -/
theorem rows_snoc {α : Type} {lo : Nat} {w : World} {e : TypeId} {size : Nat} {R : α → List Value → Prop} {v : Value} {xs : List α} {x : α} {cells : List Value} (css : List (List Value)) (h : w.ownsRow lo e size v (css.length + 1) (css.flatten ++ cells))
    (hl : css.length = xs.length) (hs : ∀ cs ∈ css, cs.length = size) (hc : cells.length = size) (hR : ∀ (i : Nat) (x : α) (cs : List Value), xs[i]? = some x → css[i]? = some cs → R x cs) (hx : R x cells) : RowsO lo w e size R v (xs ++ [x]) := by
  refine ⟨css ++ [cells], by simpa using h, by simp [hl], fun cs h => ?_, fun i y cs hi hcs => ?_⟩
  · rcases List.mem_append.1 h with h | h
    · exact hs cs h
    · rw [List.mem_singleton.1 h]; exact hc
  · by_cases hlt : i < xs.length
    · rw [List.getElem?_append_left hlt] at hi
      rw [List.getElem?_append_left (by omega)] at hcs
      exact hR i y cs hi hcs
    · rw [List.getElem?_append_right (by omega)] at hi
      rw [List.getElem?_append_right (by omega), hl] at hcs
      have : i - xs.length = 0 := by
        have := (List.getElem?_eq_some_iff.1 hi).1
        simp at this; omega
      rw [this] at hi hcs
      simp at hi hcs
      subst hi
      subst hcs
      exact hx

theorem own_lower {w : World} {base b' : Nat} {e : TypeId} {size : Nat} {v : Value} {n : Nat} {xs : List Value} (h : w.ownsRow base e size v n xs) (hb : b' ≤ base) : w.ownsRow b' e size v n xs := by
  obtain ⟨h1, h2⟩ := h
  refine ⟨h1, ?_⟩
  rcases h2 with h2 | ⟨g, cap, cur, hv, hg, r⟩
  · exact .inl h2
  · exact .inr ⟨g, cap, cur, hv, by omega, r⟩

theorem news_later {w w1 : World} {b : Nat} {cs : Array Value} {t : TypeId} {fr : Nat × Nat} {size : Nat} (h : w.heap[b]? = some (.cells cs t fr)) (hb : Below size w w1) (hlt : b < size) : ∀ j u, cs.toList[j]? = some u → w1.cell? ((⟨b, 0, none⟩ : Addr).add j) = some u := by
  intro j u hu
  have h' : w1.heap[b]? = some (.cells cs t fr) := (hb.block b hlt).trans h
  exact World.news_of_block h' j u hu

def InsidePost (fs : List Frm) (w : World) (e : Ending) (w' : World) : Prop := ∃ v, e = .returned v ∧ FrmsR NoM w' v fs ∧ Below w.heap.size w w'

theorem inside_fin {w w1 w2 : World} {lo : Nat} {v2 : Value} {fs : List Frm} {nm : ByteArray} {cols : List Col} {ca : Option Addr} {cc : Nat} (css : List (List Value)) (hc : ColsR (Later w) w (.slice ca cols.length cc) cols)
    (h : w2.ownsRow lo 205 4 v2 (css.length + 1) (css.flatten ++ [.string nm, .bool false, .slice ca cols.length cc, .slice none 0 0])) (hl : css.length = fs.length) (hs : ∀ cs ∈ css, cs.length = 4)
    (hR : ∀ (i : Nat) (x : Frm) (cs : List Value), fs[i]? = some x → css[i]? = some cs → FrmR (Later w) w1 x cs) (hb : Keep (Later w) w w2) (hb1 : Keep (Later w) w1 w2) :
    FrmsR NoM w2 v2 (fs ++ [⟨nm, false, cols⟩]) :=
  (rows_snoc (R := FrmR NoM w2) css h hl hs rfl (fun i x cs hi hcs => ((hR i x cs hi hcs).keep hb1).weak fun _ _ h => h.elim) ⟨_, _, _, _, rfl, (ColsR.keep hc hb).weak fun _ _ h => h.elim⟩).rows fun _ _ _ => id

set_option maxRecDepth 100000 in
set_option maxHeartbeats 1000000 in
theorem inside_any (vf vc : Value) (fs : List Frm) (nm : ByteArray) (cols : List Col) (w : World) (hf : FrmsR NoM w vf fs) (hc : ColsR NoM w vc cols) (hN : fs.length ≤ 1000000000) :
    Calls Tryz.prog 206 #[vf, .agg #[.string nm, vc]] w (InsidePost (fs ++ [⟨nm, false, cols⟩]) w) := by
  obtain ⟨i0, hi0, hz0, hz1, hz2⟩ := info_parts infoFrame
  obtain ⟨ca, cc, rfl, _⟩ := hc.shape
  have hlat : ∀ k, k < w.heap.size → Later w k → NoM k := fun k h1 h2 => absurd h2 (Nat.not_le_of_lt h1)
  have HF := Lib.hid (fun (w' : World) (hb : Below w.heap.size w w') => (hf.weak hlat).keep (Keep.of_below hb fun k _ h => h))
  have HC := Lib.hid (hc.weak hlat)
  have HN : Hid (fs.length * 72 ≤ 140737488355328) := Lib.hid (by omega)
  have HM := Lib.hid hN
  clear hf hc hN hlat
  go_enter Tryz.func206, Tryz.ntmps206
  go_wp2_with fail
  go_region_held3 (fun w' => w'.cell? ⟨w.heap.size, 0, none⟩ = some (.string nm) ∧ w'.cell? ⟨w.heap.size, 1, none⟩ = some (.slice ca cols.length cc))
    (first | go_keep | (go_split_ands; refine ⟨?_, ?_⟩ <;> (rw [hb.cell (by simp)]; simp)) | (go_split_ands; refine ⟨?_, ?_⟩ <;> (rw [hgrow.cell_far _ (by simp; omega) (by intro e; have h5 := (HO.out.lt _ e.symm).1; simp only at h5; omega)]; first | assumption | (rw [World.cell?_alloc_lt _ _ _ (by simp only; omega)]; assumption))))
    (first
     | (go_at_call 209; refine (cloneFrame_any (M := Later w) frmR_keep frmR_one vf fs _ (HF.out _ (by go_grown)) HN.out).mono ?_; rintro e w1 ⟨v1, rfl, ⟨css, ho, hl, hsz, hR⟩, hb⟩; have hs0 : w1.cell? ⟨w.heap.size, 0, none⟩ = some (.string nm) := (hb.cell (by simp <;> omega)).trans (by simp); have hs1 : w1.cell? ⟨w.heap.size, 1, none⟩ = some (.slice ca cols.length cc) := (hb.cell (by simp <;> omega)).trans (by simp); have hs2 : w.heap.size < w1.heap.size := (by have := hb.size; simp at this; omega); have HO := Lib.hid (own_lower (b' := w.heap.size + 1) ho (by simp <;> omega)); have HR := Lib.hid hR; have HL := Lib.hid hl; have HS := Lib.hid hsz; clear ho hR hl hsz)
     | (refine step_append_lies _ (by rfl) _ _ _ (by rfl) (w.heap.size + 1) 205 i0 _ 4 72 Tryz.underlying162 hi0 hz0 hz1 hz2 rfl (by omega) v1 css.length css.flatten (by rfl) (HO.out.alloc _) ⟨w1.heap.size, 0, none⟩ 1 1 [.string nm, .bool false, .slice ca cols.length cc, .slice none 0 0] (by rfl) (by rfl) (World.news_of_block (heap_alloc_new w1 _)) (by simp [Value.oneCell']) (by omega) (by have h1 := HL.out; have h2 := HM.out; unfold maxLen; omega) (by have h1 := HL.out; have h2 := HM.out; omega) (by have h1 := hb.size; simp at h1 ⊢; omega) (w1.heap.size + 1) (by simp) ?_; intro gg cap w2 hown2 hgrow hat hlt)
     | (refine step_append_lies _ (by rfl) _ _ _ (by rfl) (w.heap.size + 1) 205 i0 _ 4 72 Tryz.underlying162 hi0 hz0 hz1 hz2 rfl (by omega) v1 css.length css.flatten (by rfl) HO.out ⟨w.heap.size + 1, 0, none⟩ 1 1 [.string nm, .bool false, .slice ca cols.length cc, .slice none 0 0] (by rfl) (by rfl) (news_later (cs := #[.string nm, .bool false, .slice ca cols.length cc, .slice none 0 0]) (t := 205) (fr := (0, 0)) (by have h9 := heap_alloc_new (w.alloc (.cells #[.string nm, .slice ca cols.length cc] 42)) (.cells #[.string nm, .bool false, .slice ca cols.length cc, .slice none 0 0] 205); rw [World.size_alloc] at h9; exact h9) hb (by simp <;> omega)) (by simp [Value.oneCell']) (by omega) (by have h1 := HL.out; have h2 := HM.out; unfold maxLen; omega) (by have h1 := HL.out; have h2 := HM.out; omega) (by have h1 := hb.size; simp at h1 ⊢; omega) w1.heap.size rfl ?_; intro gg cap w2 hown2 hgrow hat hlt)
     | fail)
  all_goals
    have hbw : Below w.heap.size w w1 := Below.trans (by go_grown) (hb.mono (by simp <;> omega))
    have hrow : ∀ k, v1.ownBlock = some k → w.heap.size ≤ k := fun k h => by have := (HO.out.lt _ h).1; omega
    have k1 : Keep (Later w) w w1 := .of_below hbw fun k _ h => h
    have k12 : Keep (Later w) w1 w2 := by
      first
      | exact (Keep.refl _ _).grown hgrow fun k h _ => hrow k h
      | exact ((Keep.refl _ w1).alloc _).grown hgrow fun k h _ => hrow k h
    have k2 : Keep (Later w) w w2 := k1.trans k12
    have FIN := Lib.hid (inside_fin css HC.out hown2 HL.out HS.out HR.out k2 k12)
    have BEL := Lib.hid (k2.toBelow (B := w.heap.size) (Nat.le_refl _) fun k hk h => absurd h (Nat.not_le_of_lt hk))
    clear hbw hrow k1 k12 k2 hgrow hown2 hb hs0 hs1
    go_wp2
    go_ret
    exact ⟨_, rfl, FIN.out, BEL.out⟩

end Go.Proofs.YtkhlmofcdchccaaGreatDoor

namespace Go.Proofs.YtkhlmofcdchccaaGreatDoor
open Go.RowKit

def tblIs (c : ByteArray) (x : Sch) : Bool := x.name.toList == c.toList
def findTbl (l : List Sch) (c : ByteArray) : Option Nat := l.findIdx? (tblIs c)

set_option maxHeartbeats 400000 in
theorem source1_any (nm c : ByteArray) (ca : Option Addr) (cn cc : Nat) (n : Int) (a : Option Addr) (l cp : Nat) (b o : Nat) (w : World) (h : w.cell? ⟨b, o, none⟩ = some (.string c)) (hb : b < w.heap.size) :
    Calls Tryz.prog 130 #[.agg #[.string nm, .slice ca cn cc, .int .i64 n, .slice a l cp], .pointer (some ⟨b, o, none⟩)] w fun e w' => e = .returned (.bool (nm.toList == c.toList)) ∧ Below w.heap.size w w' := by
  go_enter Tryz.func130, Tryz.ntmps130
  go_wp2
  go_ret
  exact ⟨rfl, (Below.refl _ _).alloc (Nat.le_refl _) _⟩

set_option maxRecDepth 100000 in
set_option maxHeartbeats 1000000 in
theorem idxTbl_any {M : Nat → Prop} (v : Value) (l : List Sch) (c : ByteArray) (b o : Nat) (w : World) (hv : TblsR M w v l) (h : w.cell? ⟨b, o, none⟩ = some (.string c)) :
    Calls Tryz.prog 129 #[v, .func (.func 130) #[] #[.pointer (some ⟨b, o, none⟩)]] w (RetBel (.int .i64 (idxI (findTbl l c))) w) := by
  have hb := World.block_lt_of_cell? _ _ h
  simp only at hb
  have HV := Lib.hid hv
  obtain ⟨a, cap, rfl, hm⟩ := hv.shape
  unfold maxLen at hm
  clear hv
  have hs := @Int.ofNat_le l.length
  go_enter Tryz.func129, Tryz.ntmps129
  go_wp2
  go_loopw [5, 8] (fun j i wr => ∃ k : Nat, k ≤ l.length ∧ i = .int .i64 k ∧ Below w.heap.size w wr ∧ ∀ i y, i < k → l[i]? = some y → tblIs c y = false) (fun _ i _ => l.length - (intOf i).toNat)
  case atStart => exact ⟨0, Nat.zero_le _, rfl, Below.refl _ _, fun i y hi => by omega⟩
  case round =>
    obtain ⟨k, hk, rfl, hbel, hno⟩ := hrel
    have HN := Lib.hid hno
    clear hno
    by_cases hlt : k < l.length
    · rcases HV.out.open with ⟨h, h'⟩ | ⟨b', o', cap', hv', hbT, hbs, hl, hm', hx⟩
      · subst h'; simp at hlt
      · simp only [Value.slice.injEq] at hv'
        obtain ⟨rfl, _, rfl⟩ := hv'
        have hxk : l[k]? = some l[k] := List.getElem?_eq_getElem hlt
        obtain ⟨cs, ⟨vc, tn, ta, tl, tc, rfl, hcols⟩, _, hcs⟩ := hx k _ hxk
        obtain ⟨ca, cc, rfl, _⟩ := hcols.shape
        generalize l[k] = x at hxk hcs hcols
        have hcs' := hcs.keep (M := fun k => w.heap.size ≤ k) (.of_below hbel fun k _ h => h) (by simp; omega)
        obtain ⟨c0, c1, c2, c3⟩ := hcs'.c4
        have h0 : wr.cell? ⟨b, o, none⟩ = some (.string c) := (hbel.cell hb).trans h
        have hbr : b < wr.heap.size := Nat.lt_of_lt_of_le hb hbel.size
        have HX := Lib.hid hxk
        have HB := Lib.hid hbel
        clear hx hcs hxk hbel hcs' hcols
        by_cases hp : (x.name.toList == c.toList) = true
        · go_wp2_with (go_at_call 130; refine (source1_any _ _ _ _ _ _ _ _ _ _ _ _ h0 hbr).mono ?_; rintro e w1 ⟨rfl, hb1⟩)
          go_ret
          refine ⟨?_, bel_trans HB.out (by assumption)⟩
          rw [show findTbl l c = some k from findIdx_some HX.out hp HN.out]
          rfl
        · have hp' : (x.name.toList == c.toList) = false := by simpa using hp
          clear hp
          go_wp2_with (go_at_call 130; refine (source1_any _ _ _ _ _ _ _ _ _ _ _ _ h0 hbr).mono ?_; rintro e w1 ⟨rfl, hb1⟩)
          go_roundw
          case rel =>
            refine ⟨k + 1, by omega, by go_num, bel_trans HB.out (by assumption), fun i y hi hy => ?_⟩
            by_cases e : i = k
            · subst e
              have := HX.out
              rw [this] at hy
              simp at hy
              subst hy
              exact hp'
            · exact HN.out i y (by omega) hy
          case measure => simp [intOf]; omega
    · go_wp2
      go_ret
      refine ⟨?_, hbel⟩
      rw [show findTbl l c = none from findIdx_none fun i y hi hy => HN.out i y (by omega) hy]
      rfl

theorem sourceP_eq (l : List Sch) (c : ByteArray) : sourceP l c = match findTbl l c with | some i => l[i]? | none => none := by
  unfold sourceP findTbl
  rw [List.find?_eq_bind_findIdx?_getElem?]
  show (l.findIdx? (tblIs c)).bind (fun x => l[x]?) = match l.findIdx? (tblIs c) with | some i => l[i]? | none => none
  cases l.findIdx? (tblIs c) <;> rfl

/-- The schema with columns of its own. -/
def SrcPost (r : Option Sch) (w : World) (e : Ending) (w' : World) : Prop := match r with
  | some s => ∃ vc, e = .returned (.tuple #[.agg #[.string s.name, vc], .bool true]) ∧ ColsR (Out w.heap.size w'.heap.size) w' vc s.cols ∧ Below w.heap.size w w'
  | none => e = .returned (.tuple #[.agg #[.string ⟨#[]⟩, .slice none 0 0], .bool false]) ∧ Below w.heap.size w w'

set_option maxHeartbeats 1000000 in
theorem source_none (vt : Value) (l : List Sch) (n : ByteArray) (w : World) (ht : TblsR NoM w vt l) (hn : findTbl l n = none) :
    Calls Tryz.prog 82 #[vt, .string n] w (SrcPost none w) := by
  obtain ⟨a, cap, rfl, hm⟩ := ht.shape
  have hi := fun w' h => idxTbl_any (M := NoM) (.slice a l.length cap) l n w.heap.size 0 w' (ht.keep h)
  rw [hn] at hi
  have HI := Lib.hid hi
  clear hi ht hn
  go_enter Tryz.func82, Tryz.ntmps82
  go_wp2_with (go_at_call 129; refine (HI.out _ (((Keep.refl NoM w).alloc _).alloc _) (by simp)).mono ?_; rintro e w1 ⟨rfl, hb⟩; obtain ⟨k1, k2, k3⟩ := bcell hb; simp only [World.size_alloc] at k1 k2 k3; have k4 : w.heap.size < w1.heap.size := (by omega); have k5 : w.heap.size + 1 < w1.heap.size := (by omega); have HB := Lib.hid hb; clear hb)
  refine bodyPost_ret (v := .tuple #[.agg #[.string ⟨#[]⟩, .slice none 0 0], .bool false]) (by simp [results, Tryz.results82, go_sem, k1]) rfl ⟨rfl, ?_⟩
  clear k1 k2
  have h0 : Below w.heap.size w w1 := Below.trans (by go_grown) (HB.out.mono (by simp <;> omega))
  go_grown

theorem colR_keep {M : Nat → Prop} (w w' : World) (x : Col) (cs : List Value) (_ : Keep M w w') (h : ColR x cs) : ColR x cs := h
theorem colR_one (_ : World) (x : Col) (cs : List Value) (h : ColR x cs) : ∀ u ∈ cs, u.oneCell' = true := by
  rw [h]
  simp [colCells, Value.oneCell']

set_option maxHeartbeats 1000000 in
theorem source_some (vt : Value) (l : List Sch) (n : ByteArray) (w : World) (i : Nat) (s : Sch) (ht : TblsR NoM w vt l) (hn : findTbl l n = some i) (hs : l[i]? = some s) (hN : s.cols.length * 32 ≤ 140737488355328) :
    Calls Tryz.prog 82 #[vt, .string n] w (SrcPost (some s) w) := by
  obtain ⟨a, cap, rfl, hm⟩ := ht.shape
  have hlt : i < l.length := (List.getElem?_eq_some_iff.1 hs).1
  have hi := fun w' h => idxTbl_any (M := NoM) (.slice a l.length cap) l n w.heap.size 0 w' (ht.keep h)
  rw [hn] at hi
  rcases ht.open with ⟨_, h'⟩ | ⟨b', o', cap', hv', hbT, hbs, hl, hm', hx⟩
  · subst h'; simp at hlt
  simp only [Value.slice.injEq] at hv'
  obtain ⟨rfl, _, rfl⟩ := hv'
  obtain ⟨cs, ⟨vc, tn, ta, tl, tc, rfl, hcols⟩, _, hcs⟩ := hx i _ hs
  obtain ⟨ca, cc, rfl, _⟩ := hcols.shape
  have HI := Lib.hid hi
  have HC := Lib.hid hcols
  have HX := Lib.hid hcs
  have HN := Lib.hid hN
  clear hi ht hn hx hs hcols hcs hN
  unfold maxLen at hm
  go_enter Tryz.func82, Tryz.ntmps82
  go_wp2_with (first | (go_at_call 129; refine (HI.out _ (((Keep.refl NoM w).alloc _).alloc _) (by simp)).mono ?_; rintro e w1 ⟨rfl, hb⟩; simp only [idxI]; obtain ⟨k1, k2, k3⟩ := bcell hb; simp only [World.size_alloc] at k1 k2 k3; have k4 : w.heap.size < w1.heap.size := (by omega); have k5 : w.heap.size + 1 < w1.heap.size := (by omega); have h0 : Below w.heap.size w w1 := Below.trans (by go_grown) (hb.mono (by simp <;> omega)); obtain ⟨c0, c1, _, _⟩ := ((HX.out.keep (Keep.bel (M := NoM) h0) id).c4); have HB := Lib.hid h0; have k6 : b' < w1.heap.size := (by omega); clear hb h0) | (go_at_call 131; refine (cloneCol_any (M := NoM) (R := fun _ => ColR) colR_keep colR_one _ s.cols _ (ColsR.keep HC.out ((Keep.bel HB.out).alloc _)) HN.out).mono ?_; rintro e w2 ⟨v2, rfl, ho, hb2⟩; obtain ⟨a2, p2, rfl, _⟩ := ho.shape; obtain ⟨j1, j2, j3⟩ := bcell hb2; simp only [World.size_alloc] at j1 j2 j3; have j4 : w1.heap.size < w2.heap.size := (by omega); have j5 : w.heap.size < w2.heap.size := (by omega); have j6 : w.heap.size + 1 < w2.heap.size := (by omega); have j7 : w.heap.size < w1.heap.size + 1 := (by omega); have j8 : w.heap.size + 1 < w1.heap.size + 1 := (by omega); have HO := Lib.hid ho; have HB2 := Lib.hid hb2; clear ho hb2))
  refine bodyPost_ret (v := .tuple #[.agg #[.string s.name, .slice a2 s.cols.length p2], .bool true]) (by simp [results, Tryz.results82, go_sem, k1, k5, j1, j8]) rfl ⟨_, rfl, ?_, ?_⟩
  · have hc := HO.out.rows (M := Out (w1.heap.size + 1) w2.heap.size) fun k h1 h2 => by unfold Out; simp at h1 h2 ⊢ <;> omega
    refine ColsR.weak (M := Out (w1.heap.size + 1) w2.heap.size) ?_ (ColsR.keep (w := w2) hc ?_)
    · intro k hk h; unfold Out at h ⊢; simp at h hk; omega
    · (repeat' (first | (refine Keep.setCell ?_ ?_ _) | (exact Keep.refl _ _))) <;> (intro _; unfold Out; simp <;> omega)
  · clear k1 k2 j1 j2
    have h1 := HB.out
    have h2 := HB2.out
    have h0 : Below w.heap.size w w2 := (h1.alloc (by omega) _).trans (h2.mono (by simp <;> omega))
    go_grown

end Go.Proofs.YtkhlmofcdchccaaGreatDoor

namespace Go.Proofs.YtkhlmofcdchccaaGreatDoor
open Go.RowKit

section
variable (n1 n2 : ByteArray) (bf : Bool) (o1 o2 o3 o4 o5 o6 : Option Addr) (l1 l2 l3 l4 l5 l6 c1 c2 c3 c4 c5 c6 : Nat) (s : ByteArray) (vc : Value) (cols : List Col) (w : World) (hc : ColsR NoM w vc cols) (hN : cols.length ≤ 1000000)

include hc hN in
end

end Go.Proofs.YtkhlmofcdchccaaGreatDoor

namespace Go.Proofs.YtkhlmofcdchccaaGreatDoor
open Go.RowKit

theorem TapeOk.own {T : Nat} {w w' wx : World} {α : Type} {lo : Nat} {e : TypeId} {size : Nat} {R : (Nat → Prop) → World → α → List Value → Prop} {v : Value} {xs : List α} (h : TapeOk T w) (ho : RowsG lo wx e size R v xs) (hT : T < lo) (hk : Keep (OwnB v) w w') : TapeOk T w' :=
  h.keep hk fun k hk hx => by have := (RowsO.lt ho hx).1; omega

theorem Keep.own {T : Nat} {w0 w w' wx : World} {α : Type} {e : TypeId} {size : Nat} {R : (Nat → Prop) → World → α → List Value → Prop} {v : Value} {xs : List α} {lo : Nat} (h : Keep (At T) w0 w) (ho : RowsG lo wx e size R v xs) (hlo : w0.heap.size ≤ lo) (hk : Keep (OwnB v) w w') : Keep (At T) w0 w' :=
  h.then hk fun k hk hx => by have := (RowsO.lt ho hx).1; omega

end Go.Proofs.YtkhlmofcdchccaaGreatDoor
