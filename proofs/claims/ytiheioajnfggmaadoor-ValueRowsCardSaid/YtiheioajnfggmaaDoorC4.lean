/- Types that fit: contracts of fits, all and operation. -/
import Derived.Test.YtiheioajnfggmaaDoorC3
import Derived.Test.YtiheioajnfggmaaDoorP1
namespace Go.Proofs.YtiheioajnfggmaaDoor
open Go.RowKit

def IntsR (M : Nat → Prop) (w : World) (v : Value) (l : List Int) : Prop := RowsR M w 1 IntR v l
theorem IntsR.keep {M : Nat → Prop} {w w' : World} {v : Value} {l : List Int} (h : IntsR M w v l) (k : Keep M w w') : IntsR M w' v l := RowsR.map h k fun _ _ _ h => h

theorem ret_bool {a b : Bool} (h : a = b) : Ending.returned (.bool a) = .returned (.bool b) := by rw [h]

set_option maxHeartbeats 400000 in
theorem fits_any (a b : Int) (w : World) : Calls Tryd.prog 112 #[.int .i64 a, .int .i64 b] w fun e w' => e = .returned (.bool (fitsB a b)) ∧ w = w' := by
  have hn : Hid (∀ x : Bool, x = fitsB a b → Ending.returned (.bool x) = .returned (.bool (fitsB a b))) := Lib.hid fun x h => by rw [h]
  go_enter Tryd.func112, Tryd.ntmps112
  go_wp2
  all_goals
    go_ret
    refine ⟨hn.out _ ?_, rfl⟩
    simp_all [fitsB]

set_option maxHeartbeats 400000 in
theorem all1_any (t want : Int) (b o : Nat) (w : World) (h : w.cell? ⟨b, o, none⟩ = some (.int .i64 want)) :
    Calls Tryd.prog 140 #[.int .i64 t, .pointer (some ⟨b, o, none⟩)] w fun e w' => e = .returned (.bool (!fitsB t want)) ∧ w = w' := by
  go_enter Tryd.func140, Tryd.ntmps140
  go_wp2_with (go_at_call 112; refine (fits_any _ _ _).mono ?_; rintro e w1 ⟨rfl, rfl⟩)
  go_ret
  exact ⟨rfl, rfl⟩

def notFits (want t : Int) : Bool := !fitsB t want

set_option maxHeartbeats 1000000 in
theorem idxInt_any {M : Nat → Prop} (v : Value) (l : List Int) (want : Int) (b o : Nat) (w : World) (hv : IntsR M w v l) (h : w.cell? ⟨b, o, none⟩ = some (.int .i64 want)) :
    Calls Tryd.prog 156 #[v, .func (.func 140) #[] #[.pointer (some ⟨b, o, none⟩)]] w (RetBel (.int .i64 (idxI (l.findIdx? (notFits want)))) w) := by
  have hb := World.block_lt_of_cell? _ _ h
  simp only at hb
  have HV := Lib.hid hv
  obtain ⟨a, cap, rfl, hm⟩ := hv.shape
  unfold maxLen at hm
  clear hv
  go_enter Tryd.func156, Tryd.ntmps156
  go_wp2
  go_loopw [5, 8] (fun j i wr => ∃ k : Nat, k ≤ l.length ∧ i = .int .i64 k ∧ Below w.heap.size w wr ∧ ∀ i y, i < k → l[i]? = some y → notFits want y = false) (fun _ i _ => l.length - (intOf i).toNat)
  case atStart => exact ⟨0, Nat.zero_le _, rfl, Below.refl _ _, fun i y hi => by omega⟩
  case round =>
    obtain ⟨k, hk, rfl, hbel, hno⟩ := hrel
    have HN := Lib.hid hno
    clear hno
    by_cases hlt : k < l.length
    · rcases HV.out.open with ⟨h, h'⟩ | ⟨b', o', cap', hv', hbT, hbs, hl, hm', hx⟩
      · subst h'; simp at hlt
      · simp only [Value.slice.injEq] at hv'
        obtain ⟨rfl, _, rfl⟩ := hv'
        have hxk : l[k]? = some l[k] := List.getElem?_eq_getElem hlt
        obtain ⟨cs, rfl, _, hcs⟩ := hx k _ hxk
        generalize l[k] = x at hxk hcs
        have hcs' := hcs.keep (M := fun k => w.heap.size ≤ k) (.of_below hbel fun k _ h => h) (by simp; omega)
        have c0 := hcs'.c1
        rw [Nat.mul_one] at c0
        have h0 : wr.cell? ⟨b, o, none⟩ = some (.int .i64 want) := (hbel.cell hb).trans h
        have HX := Lib.hid hxk
        have HB := Lib.hid hbel
        clear hx hcs hxk hbel hcs'
        cases hp : fitsB x want with
        | false =>
          have hc := all1_any x want b o wr h0
          rw [hp] at hc
          have HC := Lib.hid hc
          clear hc
          go_wp2_with (go_at_call 140; refine HC.out.mono ?_; rintro e w1 ⟨rfl, rfl⟩)
          go_ret
          refine ⟨?_, HB.out⟩
          rw [show l.findIdx? (notFits want) = some k from findIdx_some HX.out (by simp [notFits, hp]) HN.out]
          rfl
        | true =>
          have hc := all1_any x want b o wr h0
          rw [hp] at hc
          have HC := Lib.hid hc
          clear hc
          go_wp2_with (go_at_call 140; refine HC.out.mono ?_; rintro e w1 ⟨rfl, rfl⟩)
          go_roundw
          case rel =>
            refine ⟨k + 1, by omega, by go_num, HB.out, fun i y hi hy => ?_⟩
            by_cases e : i = k
            · subst e
              have := HX.out
              rw [this] at hy
              simp at hy
              subst hy
              simp [notFits, hp]
            · exact HN.out i y (by omega) hy
          case measure => simp [intOf]; omega
    · go_wp2
      go_ret
      refine ⟨?_, hbel⟩
      rw [show l.findIdx? (notFits want) = none from findIdx_none fun i y hi hy => HN.out i y (by omega) hy]
      rfl

theorem allB_idx (l : List Int) (want : Int) : (decide (0 ≤ idxI (l.findIdx? (notFits want)))) = !allB l want := by
  cases h : l.findIdx? (notFits want) with
  | none =>
    rw [List.findIdx?_eq_none_iff] at h
    have : allB l want = true := by
      simp only [allB, List.all_eq_true]
      intro x hx
      simpa [notFits] using h x hx
    simp [idxI, this]
  | some i =>
    rw [List.findIdx?_eq_some_iff_getElem] at h
    obtain ⟨hlt, hp, _⟩ := h
    have : allB l want = false := by
      simp only [allB, List.all_eq_false]
      exact ⟨l[i], List.getElem_mem hlt, by simpa [notFits] using hp⟩
    simp [idxI, this]

set_option maxHeartbeats 400000 in
theorem containsInt_any {M : Nat → Prop} (v : Value) (l : List Int) (want : Int) (b o : Nat) (w : World) (hv : IntsR M w v l) (h : w.cell? ⟨b, o, none⟩ = some (.int .i64 want)) :
    Calls Tryd.prog 139 #[v, .func (.func 140) #[] #[.pointer (some ⟨b, o, none⟩)]] w (RetBel (.bool (!allB l want)) w) := by
  have HA := Lib.hid (allB_idx l want)
  have HV := Lib.hid hv
  have HC := Lib.hid (idxInt_any v l want b o w hv h)
  generalize idxI (l.findIdx? (notFits want)) = r at HA HC
  clear hv h
  go_enter Tryd.func139, Tryd.ntmps139
  go_wp2_with (go_at_call 156; refine HC.out.mono ?_; rintro e w1 ⟨rfl, hb1⟩)
  go_ret
  refine ⟨?_, by assumption⟩
  rw [← HA.out]
  rfl

set_option maxHeartbeats 400000 in
theorem all_any {M : Nat → Prop} (v : Value) (l : List Int) (want : Int) (w : World) (hv : IntsR M w v l) :
    Calls Tryd.prog 113 #[v, .int .i64 want] w (RetBel (.bool (allB l want)) w) := by
  have HV := Lib.hid hv
  obtain ⟨a, cap, rfl, hm⟩ := hv.shape
  clear hv
  go_enter Tryd.func113, Tryd.ntmps113
  go_wp2_with (go_at_call 139; refine (containsInt_any (M := M) _ l want _ _ _ (HV.out.keep ((Keep.refl M w).alloc _)) (by simp)).mono ?_; rintro e w1 ⟨rfl, hb1⟩; have HB := Lib.hid hb1; clear hb1)
  go_ret
  refine ⟨ret_bool (by simp), ?_⟩
  exact ((Below.refl _ w).alloc (Nat.le_refl _) _).trans (HB.out.mono (by simp))

theorem fin2 {a b : Int × Int} (h : a = b) : Ending.returned (.tuple #[.int .i64 a.1, .int .i64 a.2]) = .returned (.tuple #[.int .i64 b.1, .int .i64 b.2]) := by rw [h]

def RetII (r : Int × Int) (w : World) (e : Ending) (w' : World) : Prop := e = .returned (.tuple #[.int .i64 r.1, .int .i64 r.2]) ∧ Below w.heap.size w w'

theorem pairB_step (l : List Int) (k : Nat) (x : Int) (h : l[k]? = some x) : ((List.range (k + 1)).all fun i => allB (l.take i) (l.getD i 0)) = (((List.range k).all fun i => allB (l.take i) (l.getD i 0)) && allB (l.take k) x) := by
  rw [List.range_succ, List.all_append]
  simp [h]

section
variable {M : Nat → Prop} (k o : Int) (no : Bool) (vk vi : Int) (vt t nm : ByteArray) (va vs v : Value) (l : List Int) (w : World)

set_option maxHeartbeats 1000000 in
theorem operation_any (hv : IntsR M w v l) :
    Calls Tryd.prog 70 #[.agg #[.int .i64 k, .int .i64 o, .bool no, .int .i64 vk, .int .i64 vi, .string vt, .string t, .string nm, va, vs], v] w (RetII (operationP k o l) w) := by
  have HV := Lib.hid hv
  obtain ⟨a, cap, rfl, hm⟩ := hv.shape
  clear hv
  by_cases h6 : k = 6
  · subst h6
    go_enter Tryd.func70, Tryd.ntmps70
    go_wp2_with fail
    go_ret2
    exact ⟨by rfl, (Below.refl _ _).alloc (Nat.le_refl _) _⟩
  by_cases hb : k = 3 ∨ (k = 5 ∧ o ≤ 2)
  · have hs : operationP k o l = if allB l 2 then (2, 0) else (0, 5) := by simp [operationP, h6, hb]
    have HS := Lib.hid hs
    clear hs
    cases ha : allB l 2 with
    | true =>
      have hc := fun w' hv => all_any (M := M) (.slice a l.length cap) l 2 w' hv
      rw [ha] at hc
      have HC := Lib.hid hc
      have HA := Lib.hid ha
      clear hc ha
      rcases hb with hb | ⟨hb, hb'⟩
      all_goals
        subst hb
        go_enter Tryd.func70, Tryd.ntmps70
        go_wp2_with (go_at_call 113; refine (HC.out _ (HV.out.keep ((Keep.refl M w).alloc _))).mono ?_; rintro e w1 ⟨rfl, hb1⟩; have HB := Lib.hid hb1; clear hb1)
        go_ret2
        refine ⟨?_, ((Below.refl _ w).alloc (Nat.le_refl _) _).trans (HB.out.mono (by simp))⟩
        rw [HS.out, HA.out]
        rfl
    | false =>
      have hc := fun w' hv => all_any (M := M) (.slice a l.length cap) l 2 w' hv
      rw [ha] at hc
      have HC := Lib.hid hc
      have HA := Lib.hid ha
      clear hc ha
      rcases hb with hb | ⟨hb, hb'⟩
      all_goals
        subst hb
        go_enter Tryd.func70, Tryd.ntmps70
        go_wp2_with (go_at_call 113; refine (HC.out _ (HV.out.keep ((Keep.refl M w).alloc _))).mono ?_; rintro e w1 ⟨rfl, hb1⟩; have HB := Lib.hid hb1; clear hb1)
        go_ret2
        refine ⟨?_, ((Below.refl _ w).alloc (Nat.le_refl _) _).trans (HB.out.mono (by simp))⟩
        rw [HS.out, HA.out]
        rfl
  by_cases hi : k = 4 ∨ (k = 5 ∧ 9 ≤ o)
  · have hs : operationP k o l = if allB l 1 then (1, 0) else (0, 5) := by simp [operationP, h6, hb, hi]
    have HS := Lib.hid hs
    clear hs
    cases ha : allB l 1 with
    | true =>
      have hc := fun w' hv => all_any (M := M) (.slice a l.length cap) l 1 w' hv
      rw [ha] at hc
      have HC := Lib.hid hc
      have HA := Lib.hid ha
      clear hc ha hb
      rcases hi with hb | ⟨hb, hb'⟩
      all_goals
        subst hb
        go_enter Tryd.func70, Tryd.ntmps70
        go_wp2_with (go_at_call 113; refine (HC.out _ (HV.out.keep ((Keep.refl M w).alloc _))).mono ?_; rintro e w1 ⟨rfl, hb1⟩; have HB := Lib.hid hb1; clear hb1)
        go_ret2
        refine ⟨?_, ((Below.refl _ w).alloc (Nat.le_refl _) _).trans (HB.out.mono (by simp))⟩
        rw [HS.out, HA.out]
        rfl
    | false =>
      have hc := fun w' hv => all_any (M := M) (.slice a l.length cap) l 1 w' hv
      rw [ha] at hc
      have HC := Lib.hid hc
      have HA := Lib.hid ha
      clear hc ha hb
      rcases hi with hb | ⟨hb, hb'⟩
      all_goals
        subst hb
        go_enter Tryd.func70, Tryd.ntmps70
        go_wp2_with (go_at_call 113; refine (HC.out _ (HV.out.keep ((Keep.refl M w).alloc _))).mono ?_; rintro e w1 ⟨rfl, hb1⟩; have HB := Lib.hid hb1; clear hb1)
        go_ret2
        refine ⟨?_, ((Below.refl _ w).alloc (Nat.le_refl _) _).trans (HB.out.mono (by simp))⟩
        rw [HS.out, HA.out]
        rfl
  · have hs : operationP k o l = if pairB l then (2, 0) else (0, 5) := by simp [operationP, h6, hb, hi]
    have HS := Lib.hid hs
    clear hs
    have h3 : k ≠ 3 := fun e => hb (.inl e)
    have h4 : k ≠ 4 := fun e => hi (.inl e)
    have h5 : k ≠ 5 ∨ (2 < o ∧ o < 9) := by
      by_cases e : k = 5
      · exact .inr ⟨by omega, by omega⟩
      · exact .inl e
    clear hb hi
    unfold maxLen at hm
    have sl := fun (j : Nat) (x : Int) (hx : l[j]? = some x) => pairB_step l j x hx
    have SL := Lib.hid sl
    clear sl
    have b6 : (k == 6) = false := by simpa using h6
    have b3 : (k == 3) = false := by simpa using h3
    have b4 : (k == 4) = false := by simpa using h4
    rcases h5 with h5 | ⟨ho, ho'⟩
    · have b5 : (k == 5) = false := by simpa using h5
      clear h5 h6 h3 h4
      go_enter Tryd.func70, Tryd.ntmps70
      go_wp2_with fail
      go_loopw [6, 12] (fun ok i wr => ∃ j : Nat, j ≤ l.length ∧ i = .int .i64 j ∧ Below w.heap.size w wr ∧ ok = .bool ((List.range j).all fun i => allB (l.take i) (l.getD i 0))) (fun _ i _ => l.length - (intOf i).toNat)
      case atStart => exact ⟨0, Nat.zero_le _, rfl, (Below.refl _ _).alloc (Nat.le_refl _) _, by simp⟩
      case round =>
        obtain ⟨j, hj, rfl, hbel, rfl⟩ := hrel
        by_cases hlt : j < l.length
        · have hxj : l[j]? = some l[j] := List.getElem?_eq_getElem hlt
          have SJ := Lib.hid (SL.out j _ hxj)
          rcases HV.out.open with ⟨h, h'⟩ | ⟨b', o', cap', hv', hbT, hbs, hl, hm', hx⟩
          · subst h'; simp at hlt
          · simp only [Value.slice.injEq] at hv'
            obtain ⟨rfl, _, rfl⟩ := hv'
            obtain ⟨cs, rfl, _, hcs⟩ := hx j _ hxj
            generalize l[j] = x at hxj hcs SJ
            have hcs' := hcs.keep (M := fun k => w.heap.size ≤ k) (.of_below hbel fun k _ h => h) (by simp; omega)
            have c0 := hcs'.c1
            rw [Nat.mul_one] at c0
            have hc := all_any (M := M) (.slice (some ⟨b', o', none⟩) j cap) (l.take j) x wr ((HV.out.take j (by omega)).map (Keep.bel hbel) fun _ _ _ h => h)
            have HC := Lib.hid hc
            have HB := Lib.hid hbel
            clear hx hcs hxj hbel hcs' hc
            have hjc : j ≤ cap := by omega
            generalize ((List.range j).all fun i => allB (l.take i) (l.getD i 0)) = ok at SJ ⊢
            cases ok
            · go_wp2_with fail
              go_roundw
              case rel => exact ⟨j + 1, by omega, by go_num, HB.out, by rw [SJ.out]; rfl⟩
              case measure => simp [intOf]; omega
            · go_wp2_with (go_at_call 113; refine HC.out.mono ?_; rintro e w1 ⟨rfl, hb1⟩; have HB1 := Lib.hid hb1; clear hb1)
              go_roundw
              case rel => exact ⟨j + 1, by omega, by go_num, bel_trans HB.out HB1.out, by rw [SJ.out]; simp⟩
              case measure => simp [intOf]; omega
        · obtain rfl : j = l.length := by omega
          have HB := Lib.hid hbel
          clear hbel
          cases hp : pairB l with
          | true =>
            have hp' : ((List.range l.length).all fun i => allB (l.take i) (l.getD i 0)) = true := hp
            rw [hp']
            have HP := Lib.hid hp
            clear hp hp'
            go_wp2_with fail
            go_ret2
            refine ⟨?_, HB.out⟩
            rw [HS.out, HP.out]
            rfl
          | false =>
            have hp' : ((List.range l.length).all fun i => allB (l.take i) (l.getD i 0)) = false := hp
            rw [hp']
            have HP := Lib.hid hp
            clear hp hp'
            go_wp2_with fail
            go_ret2
            refine ⟨?_, HB.out⟩
            rw [HS.out, HP.out]
            rfl
    · by_cases h5 : k = 5
      · subst h5
        clear h6 h3 h4 b6 b3 b4
        have o1 : decide (o ≤ 2) = false := by simp; omega
        have o2 : decide (9 ≤ o) = false := by simp; omega
        go_enter Tryd.func70, Tryd.ntmps70
        go_wp2_with fail
        go_loopw [6, 12] (fun ok i wr => ∃ j : Nat, j ≤ l.length ∧ i = .int .i64 j ∧ Below w.heap.size w wr ∧ ok = .bool ((List.range j).all fun i => allB (l.take i) (l.getD i 0))) (fun _ i _ => l.length - (intOf i).toNat)
        case atStart => exact ⟨0, Nat.zero_le _, rfl, (Below.refl _ _).alloc (Nat.le_refl _) _, by simp⟩
        case round =>
          obtain ⟨j, hj, rfl, hbel, rfl⟩ := hrel
          by_cases hlt : j < l.length
          · have hxj : l[j]? = some l[j] := List.getElem?_eq_getElem hlt
            have SJ := Lib.hid (SL.out j _ hxj)
            rcases HV.out.open with ⟨h, h'⟩ | ⟨b', o', cap', hv', hbT, hbs, hl, hm', hx⟩
            · subst h'; simp at hlt
            · simp only [Value.slice.injEq] at hv'
              obtain ⟨rfl, _, rfl⟩ := hv'
              obtain ⟨cs, rfl, _, hcs⟩ := hx j _ hxj
              generalize l[j] = x at hxj hcs SJ
              have hcs' := hcs.keep (M := fun k => w.heap.size ≤ k) (.of_below hbel fun k _ h => h) (by simp; omega)
              have c0 := hcs'.c1
              rw [Nat.mul_one] at c0
              have hc := all_any (M := M) (.slice (some ⟨b', o', none⟩) j cap) (l.take j) x wr ((HV.out.take j (by omega)).map (Keep.bel hbel) fun _ _ _ h => h)
              have HC := Lib.hid hc
              have HB := Lib.hid hbel
              clear hx hcs hxj hbel hcs' hc
              have hjc : j ≤ cap := by omega
              generalize ((List.range j).all fun i => allB (l.take i) (l.getD i 0)) = ok at SJ ⊢
              cases ok
              · go_wp2_with fail
                go_roundw
                case rel => exact ⟨j + 1, by omega, by go_num, HB.out, by rw [SJ.out]; rfl⟩
                case measure => simp [intOf]; omega
              · go_wp2_with (go_at_call 113; refine HC.out.mono ?_; rintro e w1 ⟨rfl, hb1⟩; have HB1 := Lib.hid hb1; clear hb1)
                go_roundw
                case rel => exact ⟨j + 1, by omega, by go_num, bel_trans HB.out HB1.out, by rw [SJ.out]; simp⟩
                case measure => simp [intOf]; omega
          · obtain rfl : j = l.length := by omega
            have HB := Lib.hid hbel
            clear hbel
            cases hp : pairB l with
            | true =>
              have hp' : ((List.range l.length).all fun i => allB (l.take i) (l.getD i 0)) = true := hp
              rw [hp']
              have HP := Lib.hid hp
              clear hp hp'
              go_wp2_with fail
              go_ret2
              refine ⟨?_, HB.out⟩
              rw [HS.out, HP.out]
              rfl
            | false =>
              have hp' : ((List.range l.length).all fun i => allB (l.take i) (l.getD i 0)) = false := hp
              rw [hp']
              have HP := Lib.hid hp
              clear hp hp'
              go_wp2_with fail
              go_ret2
              refine ⟨?_, HB.out⟩
              rw [HS.out, HP.out]
              rfl
      · have b5 : (k == 5) = false := by simpa using h5
        clear h5 h6 h3 h4
        go_enter Tryd.func70, Tryd.ntmps70
        go_wp2_with fail
        go_loopw [6, 12] (fun ok i wr => ∃ j : Nat, j ≤ l.length ∧ i = .int .i64 j ∧ Below w.heap.size w wr ∧ ok = .bool ((List.range j).all fun i => allB (l.take i) (l.getD i 0))) (fun _ i _ => l.length - (intOf i).toNat)
        case atStart => exact ⟨0, Nat.zero_le _, rfl, (Below.refl _ _).alloc (Nat.le_refl _) _, by simp⟩
        case round =>
          obtain ⟨j, hj, rfl, hbel, rfl⟩ := hrel
          by_cases hlt : j < l.length
          · have hxj : l[j]? = some l[j] := List.getElem?_eq_getElem hlt
            have SJ := Lib.hid (SL.out j _ hxj)
            rcases HV.out.open with ⟨h, h'⟩ | ⟨b', o', cap', hv', hbT, hbs, hl, hm', hx⟩
            · subst h'; simp at hlt
            · simp only [Value.slice.injEq] at hv'
              obtain ⟨rfl, _, rfl⟩ := hv'
              obtain ⟨cs, rfl, _, hcs⟩ := hx j _ hxj
              generalize l[j] = x at hxj hcs SJ
              have hcs' := hcs.keep (M := fun k => w.heap.size ≤ k) (.of_below hbel fun k _ h => h) (by simp; omega)
              have c0 := hcs'.c1
              rw [Nat.mul_one] at c0
              have hc := all_any (M := M) (.slice (some ⟨b', o', none⟩) j cap) (l.take j) x wr ((HV.out.take j (by omega)).map (Keep.bel hbel) fun _ _ _ h => h)
              have HC := Lib.hid hc
              have HB := Lib.hid hbel
              clear hx hcs hxj hbel hcs' hc
              have hjc : j ≤ cap := by omega
              generalize ((List.range j).all fun i => allB (l.take i) (l.getD i 0)) = ok at SJ ⊢
              cases ok
              · go_wp2_with fail
                go_roundw
                case rel => exact ⟨j + 1, by omega, by go_num, HB.out, by rw [SJ.out]; rfl⟩
                case measure => simp [intOf]; omega
              · go_wp2_with (go_at_call 113; refine HC.out.mono ?_; rintro e w1 ⟨rfl, hb1⟩; have HB1 := Lib.hid hb1; clear hb1)
                go_roundw
                case rel => exact ⟨j + 1, by omega, by go_num, bel_trans HB.out HB1.out, by rw [SJ.out]; simp⟩
                case measure => simp [intOf]; omega
          · obtain rfl : j = l.length := by omega
            have HB := Lib.hid hbel
            clear hbel
            cases hp : pairB l with
            | true =>
              have hp' : ((List.range l.length).all fun i => allB (l.take i) (l.getD i 0)) = true := hp
              rw [hp']
              have HP := Lib.hid hp
              clear hp hp'
              go_wp2_with fail
              go_ret2
              refine ⟨?_, HB.out⟩
              rw [HS.out, HP.out]
              rfl
            | false =>
              have hp' : ((List.range l.length).all fun i => allB (l.take i) (l.getD i 0)) = false := hp
              rw [hp']
              have HP := Lib.hid hp
              clear hp hp'
              go_wp2_with fail
              go_ret2
              refine ⟨?_, HB.out⟩
              rw [HS.out, HP.out]
              rfl
end

end Go.Proofs.YtiheioajnfggmaaDoor
