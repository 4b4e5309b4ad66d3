/- Names, tables of queries and plain fields: contracts of the references' Letter, Digit, ValidName, source and plain. Shapes and precedences in the reference: contracts of Shape, Precedence and Least. Shapes, precedences and least precedences in the reference, for every expression. Parentheses in the reference: the contract of Wrapped. Lists in the reference: contracts of all and most, over what ValidExpr and LevelsOf answer for each. -/
import Derived.Test.YtpnigfmclmfjaaaGreatDoorKN1
import Derived.Test.YtpnigfmclmfjaaaGreatDoorKL
import Derived.Test.YtpnigfmclmfjaaaGreatDoorKD1
import Derived.Test.YtpnigfmclmfjaaaGreatDoorKN2
import Derived.Deep.RegionHeld3
namespace Go.Proofs.YtpnigfmclmfjaaaGreatDoor
open Go.RowKit

set_option maxHeartbeats 400000 in
theorem rletter_any (c : UInt8) (w : World) : Calls Tryz.prog 191 #[.int .u8 (c.toNat : Int)] w fun e w' => e = .returned (.bool (letB c)) ∧ w = w' := by
  have HQ : Hid (∀ r, (decide (97 ≤ c.toNat) && decide (c.toNat ≤ 122)) = r → letB c = r) := Lib.hid fun _ h => h
  generalize letB c = r at HQ ⊢
  generalize c.toNat = n at HQ ⊢
  go_enter Tryz.func191, Tryz.ntmps191
  go_wp2
  all_goals
    go_ret
    refine ⟨?_, rfl⟩
    rw [HQ.out _ rfl]
    first
      | (simp_all; done)
      | (rw [show decide (97 ≤ n) = false from decide_eq_false (by omega), Bool.false_and]; rfl)
      | (rw [show decide (97 ≤ n) = true from decide_eq_true (by omega), Bool.true_and]; exact congrArg (fun b => Ending.returned (.bool b)) (decide_eq_decide.2 (by omega)))

set_option maxHeartbeats 400000 in
theorem rdigit_any (c : UInt8) (w : World) : Calls Tryz.prog 192 #[.int .u8 (c.toNat : Int)] w fun e w' => e = .returned (.bool (digB c)) ∧ w = w' := by
  have HQ : Hid (∀ r, (decide (48 ≤ c.toNat) && decide (c.toNat ≤ 57)) = r → digB c = r) := Lib.hid fun _ h => h
  generalize digB c = r at HQ ⊢
  generalize c.toNat = n at HQ ⊢
  go_enter Tryz.func192, Tryz.ntmps192
  go_wp2
  all_goals
    go_ret
    refine ⟨?_, rfl⟩
    rw [HQ.out _ rfl]
    first
      | (simp_all; done)
      | (rw [show decide (48 ≤ n) = false from decide_eq_false (by omega), Bool.false_and]; rfl)
      | (rw [show decide (48 ≤ n) = true from decide_eq_true (by omega), Bool.true_and]; exact congrArg (fun b => Ending.returned (.bool b)) (decide_eq_decide.2 (by omega)))

theorem name_parts (s : ByteArray) (h1 : 1 ≤ s.size) (h12 : s.size ≤ 12) : nameB s = (letB s[0] && s.data.toList.all nchB) := by
  have hz : 0 < s.size := by omega
  have hL : s.data.toList = s[0] :: s.data.toList.tail := by
    rcases hd : s.data.toList with _ | ⟨c, l⟩
    · have h1 := congrArg List.length hd
      rw [Array.length_toList] at h1
      exact absurd (show s.size = 0 from h1) (by omega)
    · have h1 : s.data.toList[0]? = some c := by rw [hd]; rfl
      have h2 : s.data.toList[0]? = some s[0] := by simp [hz]; rfl
      rw [h1] at h2
      cases h2
      rfl
  have e1 : decide (1 ≤ s.size) = true := decide_eq_true (by omega)
  have e2 : decide (s.size ≤ 12) = true := decide_eq_true (by omega)
  unfold nameB
  rw [e1, e2, hL]
  generalize s[0] = c
  generalize s.data.toList.tail = l
  simp only [List.all_cons, List.head?_cons, Option.any_some, Bool.true_and]
  rw [Bool.and_comm]

set_option maxHeartbeats 1000000 in
theorem rvalidName_any (s : ByteArray) (w : World) (hs : s.size ≤ maxLen) : Calls Tryz.prog 123 #[.string s] w fun e w' => e = .returned (.bool (nameB s)) ∧ w = w' := by
  unfold maxLen at hs
  by_cases h0 : s.size < 1
  · have hn : Hid (nameB s = false) := Lib.hid (by unfold nameB; simp; omega)
    have h0' : ((s.size : Int) < 1) := by omega
    clear h0
    go_enter Tryz.func123, Tryz.ntmps123
    go_wp2_with fail
    go_ret
    exact ⟨ret_b hn.out.symm, rfl⟩
  · by_cases h12 : 12 < s.size
    · have hn : Hid (nameB s = false) := Lib.hid (by unfold nameB; simp; omega)
      have h12' : ((12 : Int) < s.size) := by omega
      go_enter Tryz.func123, Tryz.ntmps123
      go_wp2_with fail
      go_ret
      exact ⟨ret_b hn.out.symm, rfl⟩
    · have h0' : ¬ ((s.size : Int) < 1) := by omega
      have h12' : ¬ ((12 : Int) < s.size) := by omega
      have hz : 0 < s.size := by omega
      have HN := Lib.hid (name_parts s (by omega) (by omega))
      cases hl : letB s[0]
      · have hn : Hid (nameB s = false) := Lib.hid (by rw [HN.out, hl]; rfl)
        have HL := Lib.hid hl
        clear hl
        go_enter Tryz.func123, Tryz.ntmps123
        go_wp2_with fail
        refine (rletter_any _ _).mono ?_
        rintro e w1 ⟨rfl, rfl⟩
        dsimp only
        rw [HL.out]
        go_wp2_with fail
        go_ret
        exact ⟨ret_b hn.out.symm, rfl⟩
      · have HL := Lib.hid hl
        clear hl
        go_enter Tryz.func123, Tryz.ntmps123
        go_wp2_with fail
        refine (rletter_any _ _).mono ?_
        rintro e w1 ⟨rfl, rfl⟩
        dsimp only
        rw [HL.out]
        go_wp2_with fail
        go_loop [3] (fun i => ∃ j : Nat, j ≤ s.size ∧ i = .int .i64 j ∧ ∀ (m : Nat) (hm : m < s.size), m < j → nchB s[m] = true) (fun i => s.size - (intOf i).toNat)
        case atStart => exact ⟨0, Nat.zero_le _, rfl, fun m _ h => absurd h (by omega)⟩
        case round =>
          obtain ⟨j, hj, rfl, hno⟩ := hrel
          have HNO := Lib.hid hno
          clear hno
          by_cases hlt : j < s.size
          · have HQ : Hid (∀ b, (letB s[j] || digB s[j] || s[j].toNat == 95) = b → nchB s[j] = b) := Lib.hid fun b h => h
            have HS : Hid (nchB s[j] = false → nameB s = false) := Lib.hid fun h => by
              rw [HN.out, show s.data.toList.all nchB = false from List.all_eq_false.2 ⟨s[j], List.mem_iff_getElem.2 ⟨j, by simpa using hlt, rfl⟩, by simp [h]⟩, Bool.and_false]
            have HA := Lib.hid fun wx => rletter_any s[j] wx
            have HD := Lib.hid fun wx => rdigit_any s[j] wx
            generalize hnc : nchB s[j] = nc at HQ HS
            have HNC := Lib.hid hnc
            clear hnc
            generalize letB s[j] = bl at HA HQ
            generalize digB s[j] = bd at HD HQ
            cases bl
            · cases bd
              · go_wp2_with (first
                  | ((go_at_call 191); (refine (HA.out _).mono ?_); rintro e w2 ⟨rfl, rfl⟩)
                  | ((go_at_call 192); (refine (HD.out _).mono ?_); rintro e w2 ⟨rfl, rfl⟩))
                all_goals first
                  | (go_ret
                     refine ⟨ret_b (HS.out (HQ.out false ?_)).symm, rfl⟩
                     simp_all <;> omega)
                  | (go_round
                     case rel =>
                       refine ⟨j + 1, by omega, by go_num, fun m hm h => ?_⟩
                       by_cases e : m = j
                       · subst e
                         rw [HNC.out]
                         refine HQ.out true ?_
                         simp_all <;> omega
                       · exact HNO.out m hm (by omega)
                     case measure => simp [intOf]; omega)
              · go_wp2_with (first
                  | ((go_at_call 191); (refine (HA.out _).mono ?_); rintro e w2 ⟨rfl, rfl⟩)
                  | ((go_at_call 192); (refine (HD.out _).mono ?_); rintro e w2 ⟨rfl, rfl⟩))
                go_round
                case rel =>
                  refine ⟨j + 1, by omega, by go_num, fun m hm h => ?_⟩
                  by_cases e : m = j
                  · subst e
                    rw [HNC.out]
                    exact HQ.out true (by simp)
                  · exact HNO.out m hm (by omega)
                case measure => simp [intOf]; omega
            · go_wp2_with (first
                | ((go_at_call 191); (refine (HA.out _).mono ?_); rintro e w2 ⟨rfl, rfl⟩)
                | ((go_at_call 192); (refine (HD.out _).mono ?_); rintro e w2 ⟨rfl, rfl⟩))
              go_round
              case rel =>
                refine ⟨j + 1, by omega, by go_num, fun m hm h => ?_⟩
                by_cases e : m = j
                · subst e
                  rw [HNC.out]
                  exact HQ.out true (by simp)
                · exact HNO.out m hm (by omega)
              case measure => simp [intOf]; omega
          · have hall : s.data.toList.all nchB = true := by
              rw [List.all_eq_true]
              intro c hc
              obtain ⟨m, hm, rfl⟩ := List.mem_iff_getElem.1 hc
              exact HNO.out m (by simpa using hm) (by have : m < s.size := by simpa using hm
                                                      omega)
            have hn : Hid (nameB s = true) := Lib.hid (by rw [HN.out, hall, HL.out]; rfl)
            clear hall
            go_wp2_with fail
            go_ret
            exact ⟨ret_b hn.out.symm, rfl⟩

set_option maxHeartbeats 1000000 in
theorem rsrc_any (s : ByteArray) (w : World) (hs : s.size ≤ maxLen) : Calls Tryz.prog 118 #[.string s] w fun e w' => e = .returned (.bool (sourceB s)) ∧ w = w' := by
  have HV := Lib.hid fun wx => rvalidName_any s wx hs
  have HS : Hid (sourceB s = (nameB s || s.toList == kwIns || s.toList == kwDel)) := Lib.hid rfl
  generalize nameB s = b at HV HS
  cases b
  all_goals
    go_enter Tryz.func118, Tryz.ntmps118
    go_wp2_with ((go_at_call 123); (refine (HV.out _).mono ?_); rintro e w1 ⟨rfl, rfl⟩)
    all_goals go_ret
    all_goals
      refine ⟨ret_b ?_, rfl⟩
      rw [HS.out]
      simp_all [kwIns, kwDel]

set_option maxRecDepth 100000 in
set_option maxHeartbeats 1000000 in
theorem rplain_any (k o : Int) (no : Bool) (vk vi : Int) (vt t nm : ByteArray) (va vs : Value) (w : World) :
    Calls Tryz.prog 166 #[.agg #[.int .i64 k, .int .i64 o, .bool no, .int .i64 vk, .int .i64 vi, .string vt, .string t, .string nm, va, vs]] w (RetBel (.bool (valZ ⟨vk, vi, vt⟩ && nameZ t nm)) w) := by
  have HQ : Hid (∀ b, (decide (vk = 0) && decide (vi = 0) && (vt.toList == []) && ((t.toList == []) && (nm.toList == []))) = b → (valZ ⟨vk, vi, vt⟩ && nameZ t nm) = b) := Lib.hid fun b h => h
  generalize (valZ ⟨vk, vi, vt⟩ && nameZ t nm) = r at HQ
  go_enter Tryz.func166, Tryz.ntmps166
  go_wp2
  all_goals
    go_ret
    refine ⟨ret_b ?_, by go_grown⟩
    rw [HQ.out _ rfl]
    simp_all
end Go.Proofs.YtpnigfmclmfjaaaGreatDoor

namespace Go.Proofs.YtpnigfmclmfjaaaGreatDoor
open Go.RowKit

def subShape (k : Int) : List Qu → Bool
  | [q] => decide (q.items.length = if k = 8 ∨ k = 9 then 0 else 1) && decide (q.whr.length ≤ 1)
  | _ => false
def shapeP (k o : Int) (an : Nat) (sub : List Qu) : Bool :=
  if k = 1 ∨ k = 2 then decide (an = 0) && decide (sub.length = 0)
  else if k = 3 ∨ k = 4 ∨ k = 6 then decide (an = 1) && decide (sub.length = 0)
  else if k = 5 then decide (1 ≤ o) && decide (o ≤ 13) && decide (an = 2) && decide (sub.length = 0)
  else if k = 7 then decide (an = 3) && decide (sub.length = 0)
  else if 8 ≤ k ∧ k ≤ 12 then decide (an = 0) && subShape k sub
  else false

section
variable (o : Int) (no : Bool) (vk vi : Int) (vt t nm : ByteArray) (a s : Option Addr) (an ac sn sc : Nat) (w : World)

theorem eq_n (n : Nat) (m : Nat) : ((n : Int) == (m : Int)) = decide (n = m) := by
  by_cases h : n = m
  · subst h; simp
  · have h2 : ((n : Int) == (m : Int)) = false := by simp; omega
    rw [h2, decide_eq_false h]

set_option maxRecDepth 100000 in
set_option maxHeartbeats 2000000 in
theorem shape_n (k : Int) (m : Nat) (h : (k = 1 ∧ m = 0) ∨ (k = 2 ∧ m = 0) ∨ (k = 3 ∧ m = 1) ∨ (k = 4 ∧ m = 1) ∨ (k = 6 ∧ m = 1) ∨ (k = 7 ∧ m = 3)) :
    Calls Tryz.prog 165 #[.agg #[.int .i64 k, .int .i64 o, .bool no, .int .i64 vk, .int .i64 vi, .string vt, .string t, .string nm, .slice a an ac, .slice s sn sc]] w (RetBel (.bool (decide (an = m) && decide (sn = 0))) w) := by
  have e1 := eq_n an m
  have e2 := eq_n sn 0
  by_cases h1 : an = m
  · by_cases h2 : sn = 0
    · subst h1 h2
      clear e1 e2
      rcases h with ⟨rfl, rfl⟩ | ⟨rfl, rfl⟩ | ⟨rfl, rfl⟩ | ⟨rfl, rfl⟩ | ⟨rfl, rfl⟩ | ⟨rfl, rfl⟩
      all_goals
        go_enter Tryz.func165, Tryz.ntmps165
        go_wp2_with fail
        go_ret
        exact ⟨rfl, by go_grown⟩
    · have h2' : ((sn : Int) == 0) = false := by simp; omega
      rw [show (decide (an = m) && decide (sn = 0)) = false by rw [decide_eq_false h2, Bool.and_false]]
      subst h1
      clear e1 e2 h2
      rcases h with ⟨rfl, rfl⟩ | ⟨rfl, rfl⟩ | ⟨rfl, rfl⟩ | ⟨rfl, rfl⟩ | ⟨rfl, rfl⟩ | ⟨rfl, rfl⟩
      all_goals
        go_enter Tryz.func165, Tryz.ntmps165
        go_wp2_with fail
        go_ret
        exact ⟨rfl, by go_grown⟩
  · rw [show (decide (an = m) && decide (sn = 0)) = false by rw [decide_eq_false h1, Bool.false_and]]
    have e3 : ((an : Int) == (m : Int)) = false := by rw [e1, decide_eq_false h1]
    clear e1 e2 h1
    rcases h with ⟨rfl, rfl⟩ | ⟨rfl, rfl⟩ | ⟨rfl, rfl⟩ | ⟨rfl, rfl⟩ | ⟨rfl, rfl⟩ | ⟨rfl, rfl⟩
    all_goals
      first | rw [Int.natCast_zero] at e3 | rw [Int.natCast_one] at e3 | rw [Int.cast_ofNat_Int] at e3
      go_enter Tryz.func165, Tryz.ntmps165
      go_wp2_with fail
      go_ret
      exact ⟨rfl, by go_grown⟩

set_option maxRecDepth 100000 in
set_option maxHeartbeats 2000000 in
theorem shape_5 (k : Int) (hk : k = 5) : Calls Tryz.prog 165 #[.agg #[.int .i64 k, .int .i64 o, .bool no, .int .i64 vk, .int .i64 vi, .string vt, .string t, .string nm, .slice a an ac, .slice s sn sc]] w (RetBel (.bool (decide (1 ≤ o) && decide (o ≤ 13) && decide (an = 2) && decide (sn = 0))) w) := by
  subst hk
  by_cases h1 : 1 ≤ o
  · by_cases h13 : o ≤ 13
    · rw [decide_eq_true h1, decide_eq_true h13]
      have h1' : ¬ o < 1 := by omega
      have h13' : ¬ 13 < o := by omega
      by_cases h2 : an = 2
      · subst h2
        by_cases h3 : sn = 0
        · subst h3
          go_enter Tryz.func165, Tryz.ntmps165
          go_wp2_with fail
          go_ret
          exact ⟨rfl, by go_grown⟩
        · have h3' : ((sn : Int) == 0) = false := by simp; omega
          rw [decide_eq_false h3]
          clear h3
          go_enter Tryz.func165, Tryz.ntmps165
          go_wp2_with fail
          go_ret
          exact ⟨rfl, by go_grown⟩
      · have h2' : ((an : Int) == 2) = false := by simp; omega
        rw [decide_eq_false h2]
        clear h2
        go_enter Tryz.func165, Tryz.ntmps165
        go_wp2_with fail
        go_ret
        exact ⟨by simp, by go_grown⟩
    · have h13' : 13 < o := by omega
      have h1' : ¬ o < 1 := by omega
      rw [decide_eq_false h13]
      go_enter Tryz.func165, Tryz.ntmps165
      go_wp2_with fail
      go_ret
      exact ⟨by simp, by go_grown⟩
  · have h1' : o < 1 := by omega
    rw [decide_eq_false h1]
    go_enter Tryz.func165, Tryz.ntmps165
    go_wp2_with fail
    go_ret
    exact ⟨by simp, by go_grown⟩

set_option maxRecDepth 100000 in
set_option maxHeartbeats 2000000 in
theorem shape_no (k : Int) (hk : ¬(1 ≤ k ∧ k ≤ 12)) : Calls Tryz.prog 165 #[.agg #[.int .i64 k, .int .i64 o, .bool no, .int .i64 vk, .int .i64 vi, .string vt, .string t, .string nm, .slice a an ac, .slice s sn sc]] w (RetBel (.bool false) w) := by
  have ek1 : (k == 1) = false := by simp; omega
  have ek2 : (k == 2) = false := by simp; omega
  have ek3 : (k == 3) = false := by simp; omega
  have ek4 : (k == 4) = false := by simp; omega
  have ek5 : (k == 5) = false := by simp; omega
  have ek6 : (k == 6) = false := by simp; omega
  have ek7 : (k == 7) = false := by simp; omega
  have ek8 : (k == 8) = false := by simp; omega
  have ek9 : (k == 9) = false := by simp; omega
  have ek10 : (k == 10) = false := by simp; omega
  have ek11 : (k == 11) = false := by simp; omega
  have ek12 : (k == 12) = false := by simp; omega
  clear hk
  go_enter Tryz.func165, Tryz.ntmps165
  go_wp2_with fail
  go_ret
  exact ⟨rfl, by go_grown⟩

/-- Not one query: no shape. -/
theorem shape_out (k : Int) (hk : 8 ≤ k ∧ k ≤ 12) (h : an ≠ 0 ∨ sn ≠ 1) : Calls Tryz.prog 165 #[.agg #[.int .i64 k, .int .i64 o, .bool no, .int .i64 vk, .int .i64 vi, .string vt, .string t, .string nm, .slice a an ac, .slice s sn sc]] w (RetBel (.bool false) w) := by
  have h5 : k = 8 ∨ k = 9 ∨ k = 10 ∨ k = 11 ∨ k = 12 := by omega
  by_cases h0 : an = 0
  · have h1 : ((sn : Int) == 1) = false := by simp; omega
    subst h0
    clear hk h
    rcases h5 with rfl | rfl | rfl | rfl | rfl
    all_goals
      go_enter Tryz.func165, Tryz.ntmps165
      go_wp2_with fail
      go_ret
      exact ⟨rfl, by go_grown⟩
  · have h1 : ((an : Int) == 0) = false := by simp; omega
    clear hk h h0
    rcases h5 with rfl | rfl | rfl | rfl | rfl
    all_goals
      go_enter Tryz.func165, Tryz.ntmps165
      go_wp2_with fail
      go_ret
      exact ⟨rfl, by go_grown⟩

set_option maxRecDepth 100000 in
set_option maxHeartbeats 4000000 in
theorem shape_sub (k : Int) (hk : 8 ≤ k ∧ k ≤ 12) (ab ao : Nat) (ia wa : Option Addr) (il wl ic wc : Nat)
    (c1 : w.cell? ⟨ab, ao + 1, none⟩ = some (.slice ia il ic)) (c3 : w.cell? ⟨ab, ao + 3, none⟩ = some (.slice wa wl wc)) (hab : ab < w.heap.size) :
    Calls Tryz.prog 165 #[.agg #[.int .i64 k, .int .i64 o, .bool no, .int .i64 vk, .int .i64 vi, .string vt, .string t, .string nm, .slice a 0 ac, .slice (some ⟨ab, ao, none⟩) 1 sc]] w (RetBel (.bool (decide (il = if k = 8 ∨ k = 9 then 0 else 1) && decide (wl ≤ 1))) w) := by
  have h2 : (k = 8 ∨ k = 9) ∧ (if k = 8 ∨ k = 9 then 0 else 1) = 0 ∨ (k = 10 ∨ k = 11 ∨ k = 12) ∧ (if k = 8 ∨ k = 9 then 0 else 1) = 1 := by
    by_cases h : k = 8 ∨ k = 9
    · exact .inl ⟨h, if_pos h⟩
    · exact .inr ⟨by omega, if_neg h⟩
  clear hk
  rcases h2 with ⟨hk, hm⟩ | ⟨hk, hm⟩
  · rw [hm]
    clear hm
    by_cases hi : il = 0
    · subst hi
      by_cases hw : wl ≤ 1
      · have hw' : (wl : Int) ≤ 1 := by omega
        rw [decide_eq_true hw]
        clear hw
        rcases hk with rfl | rfl
        all_goals
          go_enter Tryz.func165, Tryz.ntmps165
          go_wp2_with fail
          go_ret
          exact ⟨by simp, by go_grown⟩
      · have hw' : ¬ (wl : Int) ≤ 1 := by omega
        rw [decide_eq_false hw]
        clear hw
        rcases hk with rfl | rfl
        all_goals
          go_enter Tryz.func165, Tryz.ntmps165
          go_wp2_with fail
          go_ret
          exact ⟨by simp, by go_grown⟩
    · have hi' : ((il : Int) == 0) = false := by simp; omega
      rw [decide_eq_false hi]
      clear hi
      rcases hk with rfl | rfl
      all_goals
        go_enter Tryz.func165, Tryz.ntmps165
        go_wp2_with fail
        go_ret
        exact ⟨by simp, by go_grown⟩
  · rw [hm]
    clear hm
    by_cases hi : il = 1
    · subst hi
      by_cases hw : wl ≤ 1
      · have hw' : (wl : Int) ≤ 1 := by omega
        rw [decide_eq_true hw]
        clear hw
        rcases hk with rfl | rfl | rfl
        all_goals
          go_enter Tryz.func165, Tryz.ntmps165
          go_wp2_with fail
          go_ret
          exact ⟨by simp, by go_grown⟩
      · have hw' : ¬ (wl : Int) ≤ 1 := by omega
        rw [decide_eq_false hw]
        clear hw
        rcases hk with rfl | rfl | rfl
        all_goals
          go_enter Tryz.func165, Tryz.ntmps165
          go_wp2_with fail
          go_ret
          exact ⟨by simp, by go_grown⟩
    · have hi' : ((il : Int) == 1) = false := by simp; omega
      rw [decide_eq_false hi]
      clear hi
      rcases hk with rfl | rfl | rfl
      all_goals
        go_enter Tryz.func165, Tryz.ntmps165
        go_wp2_with fail
        go_ret
        exact ⟨by simp, by go_grown⟩
end
end Go.Proofs.YtpnigfmclmfjaaaGreatDoor

namespace Go.Proofs.YtpnigfmclmfjaaaGreatDoor
open Go.RowKit

theorem rshape_any {M : Nat → Prop} (e : Ex) (cs : List Value) (w : World) (he : EC M w e cs) : Calls Tryz.prog 165 #[.agg cs.toArray] w (RetBel (.bool (shapeP e.kind e.op e.args.length e.sub)) w) := by
  obtain ⟨va, vs, rfl, ha, hs⟩ := (EC_iff ..).1 he
  obtain ⟨a, ac, rfl, _⟩ := ha.shape
  obtain ⟨s, sc, rfl, _⟩ := hs.shape
  show Calls _ _ #[.agg #[.int .i64 e.kind, .int .i64 e.op, .bool e.no, .int .i64 e.val.kind, .int .i64 e.val.int, .string e.val.text, .string e.table, .string e.name, .slice a e.args.length ac, .slice s e.sub.length sc]] w _
  unfold shapeP
  by_cases h1 : e.kind = 1 ∨ e.kind = 2
  · rw [if_pos h1]
    exact shape_n _ _ _ _ _ _ _ _ _ _ _ _ _ w _ 0 (by omega)
  rw [if_neg h1]
  by_cases h3 : e.kind = 3 ∨ e.kind = 4 ∨ e.kind = 6
  · rw [if_pos h3]
    exact shape_n _ _ _ _ _ _ _ _ _ _ _ _ _ w _ 1 (by omega)
  rw [if_neg h3]
  by_cases h5 : e.kind = 5
  · rw [if_pos h5]
    exact shape_5 _ _ _ _ _ _ _ _ _ _ _ _ _ w _ h5
  rw [if_neg h5]
  by_cases h7 : e.kind = 7
  · rw [if_pos h7]
    exact shape_n _ _ _ _ _ _ _ _ _ _ _ _ _ w _ 3 (by omega)
  rw [if_neg h7]
  by_cases h8 : 8 ≤ e.kind ∧ e.kind ≤ 12
  · rw [if_pos h8]
    by_cases ho : e.args.length ≠ 0 ∨ e.sub.length ≠ 1
    · rw [show (decide (e.args.length = 0) && subShape e.kind e.sub) = false by
        by_cases h0 : e.args.length = 0
        · have h2 : e.sub.length ≠ 1 := by omega
          rw [show subShape e.kind e.sub = false by
            rcases hq : e.sub with _ | ⟨q, _ | ⟨q2, l⟩⟩
            · rfl
            · rw [hq] at h2; exact absurd rfl h2
            · rfl, Bool.and_false]
        · rw [decide_eq_false h0, Bool.false_and]]
      exact shape_out _ _ _ _ _ _ _ _ _ _ _ _ _ w _ h8 ho
    · have h0 : e.args.length = 0 := by omega
      have hl : e.sub.length = 1 := by omega
      obtain ⟨q, hq⟩ := List.length_eq_one_iff.1 hl
      rw [hq] at hs
      rcases hs.open with ⟨_, h⟩ | ⟨ab, ao, cap, hv, _, hab, _, _, hx⟩
      · cases h
      obtain ⟨cs, hc, _, hcs⟩ := hx 0 _ rfl
      obtain ⟨vi', vw, rfl, hvi, hvw⟩ := (QC_iff ..).1 hc
      obtain ⟨ia, iac, rfl, _⟩ := hvi.shape
      obtain ⟨wa, wac, rfl, _⟩ := hvw.shape
      rw [Nat.zero_mul, Nat.add_zero] at hcs
      obtain ⟨c0, c1, c2, c3⟩ := hcs.c4
      simp only [Value.slice.injEq] at hv
      obtain ⟨rfl, _, rfl⟩ := hv
      rw [h0, hq]
      exact shape_sub _ _ _ _ _ _ _ _ _ sc w _ h8 ab ao ia wa q.items.length q.whr.length iac wac c1 c3 hab
  · rw [if_neg h8]
    exact shape_no _ _ _ _ _ _ _ _ _ _ _ _ _ w _ (by omega)

/-- The reference's least precedence of the argument i. -/
def leastR (k o : Int) (i : Nat) : Int := if k = 3 then 3 else if k = 4 then 7 else if k = 6 ∨ k = 7 then 5 else if k = 5 then (if opPrec o = 8 then 1 else if opPrec o = 4 then 5 else opPrec o + i) else 1
theorem leastR_eq {k o : Int} {i : Nat} (h : k = 5 → i ≤ 1) : leastR k o i = leastP k o i := by
  unfold leastR leastP precP
  have hr : opPrec o = 1 ∨ opPrec o = 2 ∨ opPrec o = 4 ∨ opPrec o = 5 ∨ opPrec o = 6 ∨ opPrec o = 8 := by unfold opPrec; (repeat' split) <;> simp
  by_cases h3 : k = 3
  · subst h3; rfl
  by_cases h4 : k = 4
  · subst h4; rfl
  by_cases h6 : k = 6 ∨ k = 7
  · rcases h6 with rfl | rfl <;> rfl
  by_cases h5 : k = 5
  · subst h5
    have hi := h rfl
    have hm : min i 1 = i := by omega
    rcases hr with h | h | h | h | h | h <;> simp [h, hm]
  · simp [h3, h4, h6, h5]

section
variable (o : Int) (no : Bool) (vk vi : Int) (vt t nm : ByteArray) (va vs : Value) (w : World)

set_option maxRecDepth 100000 in
set_option maxHeartbeats 2000000 in
theorem rprec_any (k : Int) : Calls Tryz.prog 276 #[.agg #[.int .i64 k, .int .i64 o, .bool no, .int .i64 vk, .int .i64 vi, .string vt, .string t, .string nm, va, vs]] w (RetBel (.int .i64 (precP k o)) w) := by
  by_cases h4 : k = 3 ∨ k = 4 ∨ k = 6 ∨ k = 7
  · rcases h4 with rfl | rfl | rfl | rfl
    all_goals
      go_enter Tryz.func276, Tryz.ntmps276
      go_wp2_with fail
      go_ret
      exact ⟨rfl, by go_grown⟩
  by_cases h5 : k = 5
  · subst h5
    have HP := Lib.hid (show precP 5 o = opPrec o from rfl)
    have HO := Lib.hid (show opPrec o = (if o = 1 then 1 else if o = 2 then 2 else if 3 ≤ o ∧ o ≤ 8 then 4 else if o = 9 ∨ o = 10 then 5 else if 11 ≤ o ∧ o ≤ 13 then 6 else 8) from rfl)
    generalize precP 5 o = p at HP
    generalize opPrec o = q at HP HO
    have h7 : o = 1 ∨ o = 2 ∨ (3 ≤ o ∧ o ≤ 8) ∨ o = 9 ∨ o = 10 ∨ (11 ≤ o ∧ o ≤ 13) ∨ (o < 1 ∨ 13 < o) := by omega
    clear h4
    rcases h7 with rfl | rfl | ⟨h3, h8⟩ | rfl | rfl | ⟨h11, h13⟩ | h
    · obtain rfl : p = 1 := by rw [HP.out, HO.out]; rfl
      go_enter Tryz.func276, Tryz.ntmps276
      go_wp2_with fail
      go_ret
      exact ⟨rfl, by go_grown⟩
    · obtain rfl : p = 2 := by rw [HP.out, HO.out]; rfl
      go_enter Tryz.func276, Tryz.ntmps276
      go_wp2_with fail
      go_ret
      exact ⟨rfl, by go_grown⟩
    · obtain rfl : p = 4 := by rw [HP.out, HO.out, if_neg (by omega), if_neg (by omega), if_pos ⟨h3, h8⟩]
      have e1 : (o == 1) = false := by simp; omega
      have e2 : (o == 2) = false := by simp; omega
      go_enter Tryz.func276, Tryz.ntmps276
      go_wp2_with fail
      go_ret
      exact ⟨rfl, by go_grown⟩
    · obtain rfl : p = 5 := by rw [HP.out, HO.out]; rfl
      go_enter Tryz.func276, Tryz.ntmps276
      go_wp2_with fail
      go_ret
      exact ⟨rfl, by go_grown⟩
    · obtain rfl : p = 5 := by rw [HP.out, HO.out]; rfl
      go_enter Tryz.func276, Tryz.ntmps276
      go_wp2_with fail
      go_ret
      exact ⟨rfl, by go_grown⟩
    · obtain rfl : p = 6 := by rw [HP.out, HO.out, if_neg (by omega), if_neg (by omega), if_neg (by omega), if_neg (by omega), if_pos ⟨h11, h13⟩]
      have e1 : (o == 1) = false := by simp; omega
      have e2 : (o == 2) = false := by simp; omega
      have e9 : (o == 9) = false := by simp; omega
      have e10 : (o == 10) = false := by simp; omega
      have h3 : (3 : Int) ≤ o := by omega
      have h8 : ¬ o ≤ 8 := by omega
      go_enter Tryz.func276, Tryz.ntmps276
      go_wp2_with fail
      go_ret
      exact ⟨rfl, by go_grown⟩
    · obtain rfl : p = 8 := by rw [HP.out, HO.out, if_neg (by omega), if_neg (by omega), if_neg (by omega), if_neg (by omega), if_neg (by omega)]
      have e1 : (o == 1) = false := by simp; omega
      have e2 : (o == 2) = false := by simp; omega
      have e9 : (o == 9) = false := by simp; omega
      have e10 : (o == 10) = false := by simp; omega
      rcases h with h | h
      · have h3 : ¬ (3 : Int) ≤ o := by omega
        have h11 : ¬ (11 : Int) ≤ o := by omega
        go_enter Tryz.func276, Tryz.ntmps276
        go_wp2_with fail
        go_ret
        exact ⟨rfl, by go_grown⟩
      · have h3 : (3 : Int) ≤ o := by omega
        have h8 : ¬ o ≤ 8 := by omega
        have h11 : (11 : Int) ≤ o := by omega
        have h13 : ¬ o ≤ 13 := by omega
        go_enter Tryz.func276, Tryz.ntmps276
        go_wp2_with fail
        go_ret
        exact ⟨rfl, by go_grown⟩
  · have hp : precP k o = 8 := by
      unfold precP
      rw [if_neg (by omega), if_neg (by omega), if_neg (by omega), if_neg h5]
    rw [hp]
    have e3 : (k == 3) = false := by simp; omega
    have e4 : (k == 4) = false := by simp; omega
    have e5 : (k == 5) = false := by simp; omega
    have e6 : (k == 6) = false := by simp; omega
    have e7 : (k == 7) = false := by simp; omega
    clear hp h4 h5
    go_enter Tryz.func276, Tryz.ntmps276
    go_wp2_with fail
    go_ret
    exact ⟨rfl, by go_grown⟩

set_option maxRecDepth 100000 in
set_option maxHeartbeats 2000000 in
theorem rleast_any (k : Int) (i : Nat) (hi : i ≤ 1000000) : Calls Tryz.prog 277 #[.agg #[.int .i64 k, .int .i64 o, .bool no, .int .i64 vk, .int .i64 vi, .string vt, .string t, .string nm, va, vs], .int .i64 i] w (RetBel (.int .i64 (leastR k o i)) w) := by
  by_cases h4 : k = 3 ∨ k = 4 ∨ k = 6 ∨ k = 7
  · rcases h4 with rfl | rfl | rfl | rfl
    all_goals
      go_enter Tryz.func277, Tryz.ntmps277
      go_wp2_with fail
      go_ret
      exact ⟨rfl, by go_grown⟩
  by_cases h5 : k = 5
  · subst h5
    have hr : opPrec o = 1 ∨ opPrec o = 2 ∨ opPrec o = 4 ∨ opPrec o = 5 ∨ opPrec o = 6 ∨ opPrec o = 8 := by unfold opPrec; (repeat' split) <;> simp
    have HL := Lib.hid (show leastR 5 o i = (if opPrec o = 8 then 1 else if opPrec o = 4 then 5 else opPrec o + i) from rfl)
    have hp := fun wx => rprec_any o no vk vi vt t nm va vs wx 5
    rw [show precP 5 o = opPrec o from rfl] at hp
    generalize leastR 5 o i = r at HL ⊢
    generalize opPrec o = p at HL hp hr
    clear h4
    have HP := Lib.hid hp
    clear hp
    rcases hr with rfl | rfl | rfl | rfl | rfl | rfl
    all_goals
      go_enter Tryz.func277, Tryz.ntmps277
      go_wp2_with fail
      refine (HP.out _).mono ?_
      rintro e w1 ⟨rfl, hb⟩
      have HB := Lib.hid (((Below.refl _ w).alloc (Nat.le_refl _) _).trans (hb.mono (by simp)))
      clear hb
      dsimp only
      go_wp2_with fail
      go_ret
      exact ⟨by rw [HL.out]; first | rfl | (simp; done) | (simp; omega), HB.out⟩
  · have hp : leastR k o i = 1 := by
      unfold leastR
      rw [if_neg (by omega), if_neg (by omega), if_neg (by omega), if_neg h5]
    rw [hp]
    have e3 : (k == 3) = false := by simp; omega
    have e4 : (k == 4) = false := by simp; omega
    have e5 : (k == 5) = false := by simp; omega
    have e6 : (k == 6) = false := by simp; omega
    have e7 : (k == 7) = false := by simp; omega
    clear hp h4 h5
    go_enter Tryz.func277, Tryz.ntmps277
    go_wp2_with fail
    go_ret
    exact ⟨rfl, by go_grown⟩
end
end Go.Proofs.YtpnigfmclmfjaaaGreatDoor

namespace Go.Proofs.YtpnigfmclmfjaaaGreatDoor
open Go.RowKit

set_option maxRecDepth 100000 in
set_option maxHeartbeats 10000000 in
theorem rwrapped_any (k o : Int) (no : Bool) (vk vi : Int) (vt t nm : ByteArray) (ab ao an ac : Nat) (vs : Value) (i : Nat) (xk xo : Int) (xn : Bool) (xvk xvi : Int) (xvt xt xnm : ByteArray) (xva xvs : Value) (w : World) (hi : i < an) (hi6 : i ≤ 1000000) (hab : ab < w.heap.size)
    (hc : w.cell? ⟨ab, ao + i * 10, none⟩ = some (.int .i64 xk) ∧ w.cell? ⟨ab, ao + i * 10 + 1, none⟩ = some (.int .i64 xo) ∧ w.cell? ⟨ab, ao + i * 10 + 2, none⟩ = some (.bool xn) ∧ w.cell? ⟨ab, ao + i * 10 + 3, none⟩ = some (.int .i64 xvk) ∧ w.cell? ⟨ab, ao + i * 10 + 4, none⟩ = some (.int .i64 xvi) ∧ w.cell? ⟨ab, ao + i * 10 + 5, none⟩ = some (.string xvt) ∧ w.cell? ⟨ab, ao + i * 10 + 6, none⟩ = some (.string xt) ∧ w.cell? ⟨ab, ao + i * 10 + 7, none⟩ = some (.string xnm) ∧ w.cell? ⟨ab, ao + i * 10 + 8, none⟩ = some (xva) ∧ w.cell? ⟨ab, ao + i * 10 + 9, none⟩ = some (xvs)) :
    Calls Tryz.prog 236 #[.agg #[.int .i64 k, .int .i64 o, .bool no, .int .i64 vk, .int .i64 vi, .string vt, .string t, .string nm, .slice (some ⟨ab, ao, none⟩) an ac, vs], .int .i64 i] w (RetBel (.bool (decide (precP xk xo < leastR k o i))) w) := by
  have HP := Lib.hid fun wx => rprec_any xo xn xvk xvi xvt xt xnm xva xvs wx xk
  have HL := Lib.hid fun wx => rleast_any o no vk vi vt t nm (.slice (some ⟨ab, ao, none⟩) an ac) vs wx k i hi6
  have HD := Lib.hid (show decide (precP xk xo < leastR k o i) = decide (precP xk xo < leastR k o i) from rfl)
  generalize precP xk xo = p at HP HD ⊢
  generalize leastR k o i = q at HL HD ⊢
  generalize hd : decide (p < q) = r at HD ⊢
  clear HD
  have HD := Lib.hid hd
  have i0 : (0 : Int) ≤ (i : Int) := by omega
  have i1 : (i : Int) < (an : Int) := by omega
  obtain ⟨y0, y1, y2, y3, y4, y5, y6, y7, y8, y9⟩ := hc
  go_enter Tryz.func236, Tryz.ntmps236
  go_wp2_with fail
  generalize hW : World.alloc w _ = W1
  have hk0 := blk10 (show W1.heap[w.heap.size]? = some (.cells #[.int .i64 k, .int .i64 o, .bool no, .int .i64 vk, .int .i64 vi, .string vt, .string t, .string nm, .slice (some ⟨ab, ao, none⟩) an ac, vs] 57 (0, 0)) by rw [← hW]; exact heap_alloc_new w _)
  obtain ⟨c0, c1, c2, c3, c4, c5, c6, c7, c8, c9, _, xz⟩ := hk0
  have hb1 : Below w.heap.size w W1 := by rw [← hW]; exact (Below.refl _ _).alloc (Nat.le_refl _) _
  have HB1 := Lib.hid hb1
  have HSQ : Hid (∀ wx, Below W1.heap.size W1 wx → (wx.cell? ⟨w.heap.size, 0, none⟩ = some (.int .i64 k) ∧ wx.cell? ⟨w.heap.size, 1, none⟩ = some (.int .i64 o) ∧ wx.cell? ⟨w.heap.size, 2, none⟩ = some (.bool no) ∧ wx.cell? ⟨w.heap.size, 3, none⟩ = some (.int .i64 vk) ∧ wx.cell? ⟨w.heap.size, 4, none⟩ = some (.int .i64 vi) ∧ wx.cell? ⟨w.heap.size, 5, none⟩ = some (.string vt) ∧ wx.cell? ⟨w.heap.size, 6, none⟩ = some (.string t) ∧ wx.cell? ⟨w.heap.size, 7, none⟩ = some (.string nm) ∧ wx.cell? ⟨w.heap.size, 8, none⟩ = some (.slice (some ⟨ab, ao, none⟩) an ac) ∧ wx.cell? ⟨w.heap.size, 9, none⟩ = some (vs)) ∧ (wx.cell? ⟨ab, ao + i * 10, none⟩ = some (.int .i64 xk) ∧ wx.cell? ⟨ab, ao + i * 10 + 1, none⟩ = some (.int .i64 xo) ∧ wx.cell? ⟨ab, ao + i * 10 + 2, none⟩ = some (.bool xn) ∧ wx.cell? ⟨ab, ao + i * 10 + 3, none⟩ = some (.int .i64 xvk) ∧ wx.cell? ⟨ab, ao + i * 10 + 4, none⟩ = some (.int .i64 xvi) ∧ wx.cell? ⟨ab, ao + i * 10 + 5, none⟩ = some (.string xvt) ∧ wx.cell? ⟨ab, ao + i * 10 + 6, none⟩ = some (.string xt) ∧ wx.cell? ⟨ab, ao + i * 10 + 7, none⟩ = some (.string xnm) ∧ wx.cell? ⟨ab, ao + i * 10 + 8, none⟩ = some (xva) ∧ wx.cell? ⟨ab, ao + i * 10 + 9, none⟩ = some (xvs))) := Lib.hid fun wx hb => by
    have hx : ∀ j, wx.cell? ⟨ab, j, none⟩ = w.cell? ⟨ab, j, none⟩ := fun j => (hb.cell (p := ⟨ab, j, none⟩) (Nat.lt_of_lt_of_le hab hb1.size)).trans (hb1.cell (p := ⟨ab, j, none⟩) hab)
    have hy : ∀ j, wx.cell? ⟨w.heap.size, j, none⟩ = W1.cell? ⟨w.heap.size, j, none⟩ := fun j => hb.cell (p := ⟨w.heap.size, j, none⟩) xz
    simp only [hx, hy]
    exact ⟨⟨c0, c1, c2, c3, c4, c5, c6, c7, c8, c9⟩, ⟨y0, y1, y2, y3, y4, y5, y6, y7, y8, y9⟩⟩
  clear hW hb1 y0 y1 y2 y3 y4 y5 y6 y7 y8 y9 hd
  refine wp_region_noPanic ?_
  refine wp_region_held_drew (S := fun w' => (w'.cell? ⟨w.heap.size, 0, none⟩ = some (.int .i64 k) ∧ w'.cell? ⟨w.heap.size, 1, none⟩ = some (.int .i64 o) ∧ w'.cell? ⟨w.heap.size, 2, none⟩ = some (.bool no) ∧ w'.cell? ⟨w.heap.size, 3, none⟩ = some (.int .i64 vk) ∧ w'.cell? ⟨w.heap.size, 4, none⟩ = some (.int .i64 vi) ∧ w'.cell? ⟨w.heap.size, 5, none⟩ = some (.string vt) ∧ w'.cell? ⟨w.heap.size, 6, none⟩ = some (.string t) ∧ w'.cell? ⟨w.heap.size, 7, none⟩ = some (.string nm) ∧ w'.cell? ⟨w.heap.size, 8, none⟩ = some (.slice (some ⟨ab, ao, none⟩) an ac) ∧ w'.cell? ⟨w.heap.size, 9, none⟩ = some (vs)) ∧ (w'.cell? ⟨ab, ao + i * 10, none⟩ = some (.int .i64 xk) ∧ w'.cell? ⟨ab, ao + i * 10 + 1, none⟩ = some (.int .i64 xo) ∧ w'.cell? ⟨ab, ao + i * 10 + 2, none⟩ = some (.bool xn) ∧ w'.cell? ⟨ab, ao + i * 10 + 3, none⟩ = some (.int .i64 xvk) ∧ w'.cell? ⟨ab, ao + i * 10 + 4, none⟩ = some (.int .i64 xvi) ∧ w'.cell? ⟨ab, ao + i * 10 + 5, none⟩ = some (.string xvt) ∧ w'.cell? ⟨ab, ao + i * 10 + 6, none⟩ = some (.string xt) ∧ w'.cell? ⟨ab, ao + i * 10 + 7, none⟩ = some (.string xnm) ∧ w'.cell? ⟨ab, ao + i * 10 + 8, none⟩ = some (xva) ∧ w'.cell? ⟨ab, ao + i * 10 + 9, none⟩ = some (xvs))) (by kernel_rfl) (HSQ.out _ (drew_below (Below.refl _ _))) (fun hHeld => ?_)
  refine wpAnyH_take (i := 0) (v := _) rfl (by kernel_rfl) (by kernel_rfl) (by kernel_rfl) (fun _ _ _ h => h) (Or.inl ⟨by rfl, by (intro w hSw; (try dsimp only at hSw); go_simp; (try with_reducible rfl))⟩) (by assumption) ?_
  simp only [Act.put, List.getElem_toArray, List.getElem_cons_zero, List.setIfInBounds_toArray, List.set_cons_zero, List.set_cons_succ]
  refine wpAnyH_take (i := 1) (v := _) rfl (by kernel_rfl) (by kernel_rfl) (by kernel_rfl) (fun _ _ _ h => h) (Or.inl ⟨by rfl, by (intro w hSw; (try dsimp only at hSw); go_simp; (try with_reducible rfl))⟩) (by assumption) ?_
  simp only [Act.put, List.getElem_toArray, List.getElem_cons_succ, List.getElem_cons_zero, List.setIfInBounds_toArray, List.set_cons_zero, List.set_cons_succ]
  refine wpAnyH_take (i := 2) (v := _) rfl (by kernel_rfl) (by kernel_rfl) (by kernel_rfl) (fun _ _ _ h => h) (Or.inl ⟨by rfl, by (intro w hSw; (try dsimp only at hSw); go_simp; (try with_reducible rfl))⟩) (by assumption) ?_
  simp only [Act.put, List.getElem_toArray, List.getElem_cons_succ, List.getElem_cons_zero, List.setIfInBounds_toArray, List.set_cons_zero, List.set_cons_succ]
  refine wpAnyH_take (i := 3) (v := _) rfl (by kernel_rfl) (by kernel_rfl) (by kernel_rfl) (fun _ _ _ h => h) (Or.inl ⟨by rfl, by (intro w hSw; (try dsimp only at hSw); go_simp; (try with_reducible rfl))⟩) (by assumption) ?_
  simp only [Act.put, List.getElem_toArray, List.getElem_cons_succ, List.getElem_cons_zero, List.setIfInBounds_toArray, List.set_cons_zero, List.set_cons_succ]
  refine wpAnyH_take (i := 4) (v := _) rfl (by kernel_rfl) (by kernel_rfl) (by kernel_rfl) (fun _ _ _ h => h) (Or.inl ⟨by rfl, by (intro w hSw; (try dsimp only at hSw); go_simp; (try with_reducible rfl))⟩) (by assumption) ?_
  simp only [Act.put, List.getElem_toArray, List.getElem_cons_succ, List.getElem_cons_zero, List.setIfInBounds_toArray, List.set_cons_zero, List.set_cons_succ]
  refine wpAnyH_take (i := 6) (v := _) rfl (by kernel_rfl) (by kernel_rfl) (by kernel_rfl) (fun _ _ _ h => h) (Or.inl ⟨by rfl, by (intro w hSw; (try dsimp only at hSw); go_simp; (try with_reducible rfl))⟩) (by assumption) ?_
  simp only [Act.put, List.getElem_toArray, List.getElem_cons_succ, List.getElem_cons_zero, List.setIfInBounds_toArray, List.set_cons_zero, List.set_cons_succ]
  refine wpAnyH_take (i := 7) (v := _) rfl (by kernel_rfl) (by kernel_rfl) (by kernel_rfl) (fun _ _ _ h => h) (Or.inl ⟨by rfl, by (intro w hSw; (try dsimp only at hSw); go_simp; (try with_reducible rfl))⟩) (by assumption) ?_
  simp only [Act.put, List.getElem_toArray, List.getElem_cons_succ, List.getElem_cons_zero, List.setIfInBounds_toArray, List.set_cons_zero, List.set_cons_succ]
  clear c0 c1 c2 c3 c4 c5 c6 c7 c8 c9
  refine wpAnyH_ready (rs := [5]) (by kernel_rfl) (by simp) ?_
  refine AllReadyH.cons (o := _) rfl (fun K hK => ?_) AllReadyH.nil
  go_simp
  refine (HP.out _).mono ?_
  rintro e wy1 ⟨rfl, hb⟩
  have HC1 := Lib.hid ((drew_below (Below.refl W1.heap.size W1)).trans (hb.mono (Nat.le_refl _)))
  dsimp only
  refine hK.out _ _ (HSQ.out _ HC1.out) (fun hHeld => ?_)
  clear hK K hb
  refine wpAnyH_ready (rs := [8]) (by kernel_rfl) (by simp) ?_
  refine AllReadyH.cons (o := _) rfl (fun K hK => ?_) AllReadyH.nil
  go_simp
  refine (HL.out _).mono ?_
  rintro e wy2 ⟨rfl, hb⟩
  have HC2 := Lib.hid (HC1.out.trans (hb.mono HC1.out.size))
  dsimp only
  refine hK.out _ _ (HSQ.out _ HC2.out) (fun hHeld => ?_)
  clear hK K hb
  refine wpAnyH_take (i := 9) (v := _) rfl (by kernel_rfl) (by kernel_rfl) (by kernel_rfl) (fun _ _ _ h => h) (Or.inl ⟨by rfl, by (intro w hSw; (try dsimp only at hSw); go_simp; (try with_reducible rfl))⟩) (by assumption) ?_
  simp only [Act.put, List.getElem_toArray, List.getElem_cons_succ, List.getElem_cons_zero, List.setIfInBounds_toArray, List.set_cons_zero, List.set_cons_succ]
  refine wpAnyH_take (i := 10) (v := _) rfl (by kernel_rfl) (by kernel_rfl) (by kernel_rfl) (fun _ _ _ h => h) (Or.inl ⟨by rfl, by (intro w hSw; (try dsimp only at hSw); go_simp; (try with_reducible rfl))⟩) (by assumption) ?_
  simp only [Act.put, List.getElem_toArray, List.getElem_cons_succ, List.getElem_cons_zero, List.setIfInBounds_toArray, List.set_cons_zero, List.set_cons_succ]
  refine wpAnyH_done (by kernel_rfl) ?_ _
  refine NoPanic.normal ?_
  go_wp2_with fail
  go_ret
  exact ⟨by rw [← HD.out]; first | rfl | simp, HB1.out.trans (HC2.out.mono HB1.out.size)⟩
end Go.Proofs.YtpnigfmclmfjaaaGreatDoor

namespace Go.Proofs.YtpnigfmclmfjaaaGreatDoor
open Go.RowKit

/-- The reference's ValidExpr answers for e, wherever it lies. -/
def RexOk (M : Nat → Prop) (e : Ex) : Prop := ∀ (cs : List Value) (w : World), EC M w e cs → TxtOk e → Calls Tryz.prog 74 #[.agg cs.toArray] w (RetBel (.bool (validP e)) w)
/-- The reference's LevelsOf answers for e, which is well-formed, wherever it lies. -/
def RlvOk (M : Nat → Prop) (e : Ex) : Prop := ∀ (cs : List Value) (w : World), EC M w e cs → validP e = true → levP e ≤ 1000000000 → Calls Tryz.prog 210 #[.agg cs.toArray] w (RetBel (.int .i64 (levP e)) w)

set_option maxHeartbeats 2000000 in
theorem rmost_any {M : Nat → Prop} (es : List Ex) (hall : ∀ e ∈ es, RlvOk M e) (hok : ∀ e ∈ es, validP e = true) (v : Value) (w : World) (h : ExsR M w v es) (hb : levM es ≤ 1000000000) : Calls Tryz.prog 109 #[v] w (RetBel (.int .i64 (levM es)) w) := by
  obtain ⟨a, c, rfl, hm⟩ := h.shape
  unfold maxLen at hm
  have HA := Lib.hid h
  have HALL := Lib.hid hall
  have HOK := Lib.hid hok
  have HB := Lib.hid hb
  clear h hall hb hok
  go_enter Tryz.func109, Tryz.ntmps109
  go_wp2_with fail
  go_loopw [3, 8] (fun m i wr => ∃ j : Nat, j ≤ es.length ∧ i = .int .i64 j ∧ m = .int .i64 (levM (es.take j)) ∧ Below w.heap.size w wr) (fun _ i _ => es.length - (intOf i).toNat)
  case atStart => exact ⟨0, Nat.zero_le _, rfl, rfl, Below.refl _ _⟩
  case round =>
    rename World => wr
    obtain ⟨j, hj, rfl, rfl, hbel⟩ := hrel
    by_cases hlt : j < es.length
    · rcases HA.out.open with ⟨_, h⟩ | ⟨ab, ao, cap', hv', _, hab, _, _, hx⟩
      · rw [h] at hlt; simp at hlt
      simp only [Value.slice.injEq] at hv'
      obtain ⟨rfl, _, rfl⟩ := hv'
      have hxj : es[j]? = some es[j] := List.getElem?_eq_getElem hlt
      obtain ⟨cs, hc, _, hcs⟩ := hx j _ hxj
      have hmem := List.mem_of_getElem? hxj
      have htk := levM_take hxj
      have hle := levM_le hmem
      generalize es[j] = x at hxj hc hmem htk hle
      have hcw := fun wx (k : Below w.heap.size w wx) => EC.keep (M := M) (.bel k) x cs hc
      have hlx := fun wx (k : Below w.heap.size w wx) => HALL.out x hmem cs wx (hcw wx k) (HOK.out x hmem) (Nat.le_trans hle HB.out)
      have hcs' := hcs.keep (M := NoM) (Keep.bel hbel) id
      obtain ⟨va, vs, rfl, hva, hvs⟩ := (EC_iff ..).1 hc
      obtain ⟨xa, xac, rfl, _⟩ := hva.shape
      obtain ⟨xs, xsc, rfl, _⟩ := hvs.shape
      obtain ⟨c0, c1, c2, c3, c4, c5, c6, c7, c8, c9⟩ := CellsAt.c10 hcs'
      simp only [exCells] at hlx
      have HLX := Lib.hid hlx
      have HBE := Lib.hid hbel
      have HTK := Lib.hid htk
      have HLT := Lib.hid hlt
      have i0 : (0 : Int) ≤ (j : Int) := by omega
      have i1 : (j : Int) < (es.length : Int) := by omega
      clear hlx hbel htk hx hc hcs hcs' hcw hva hvs hxj hmem hle
      go_wp2_with ((go_at_call 210); (refine (HLX.out _ (HBE.out.alloc HBE.out.size _)).mono ?_); rintro e w2 ⟨rfl, hb⟩; have HB2 := Lib.hid ((HBE.out.alloc HBE.out.size _).trans (hb.mono (by have := HBE.out.size; simp; omega))); clear hb)
      go_roundw
      case rel =>
        have hlt2 := HLT.out
        exact ⟨j + 1, by omega, by go_num, by rw [HTK.out]; congr 1; omega, HB2.out⟩
      case measure =>
        have hlt2 := HLT.out
        simp [intOf]
        omega
    · obtain rfl : j = es.length := by omega
      rw [List.take_length]
      have HBE := Lib.hid hbel
      clear hbel
      go_wp2_with fail
      go_ret
      exact ⟨rfl, HBE.out⟩

set_option maxRecDepth 100000 in
set_option maxHeartbeats 2000000 in
theorem rall_any {M : Nat → Prop} (l : List Ex) (hall : ∀ e ∈ l, RexOk M e) (htx : ∀ e ∈ l, TxtOk e) (v : Value) (w : World) (h : ExsR M w v l) :
    Calls Tryz.prog 119 #[v] w (RetBel (.bool (validL l)) w) := by
  obtain ⟨a, c, rfl, hm⟩ := h.shape
  unfold maxLen at hm
  have HA := Lib.hid h
  have HALL := Lib.hid hall
  have HTX := Lib.hid htx
  clear h hall htx
  go_enter Tryz.func119, Tryz.ntmps119
  go_wp2_with fail
  go_loopw [7] (fun i wr => ∃ j : Nat, j ≤ l.length ∧ i = .int .i64 j ∧ Below w.heap.size w wr ∧ ∀ i y, i < j → l[i]? = some y → badP y = false) (fun i _ => l.length - (intOf i).toNat)
  case atStart => exact ⟨0, Nat.zero_le _, rfl, Below.refl _ _, fun i y hi => by omega⟩
  case round =>
    rename World => wr
    obtain ⟨j, hj, rfl, hbel, hno⟩ := hrel
    have HNO := Lib.hid hno
    clear hno
    by_cases hlt : j < l.length
    · rcases HA.out.open with ⟨_, h⟩ | ⟨ab, ao, cap', hv', _, hab, _, _, hx⟩
      · rw [h] at hlt; simp at hlt
      simp only [Value.slice.injEq] at hv'
      obtain ⟨rfl, _, rfl⟩ := hv'
      have hxj : l[j]? = some l[j] := List.getElem?_eq_getElem hlt
      obtain ⟨cs, hc, _, hcs⟩ := hx j _ hxj
      have hmem := List.mem_of_getElem? hxj
      generalize l[j] = x at hxj hc hmem
      have hcs' := hcs.keep (M := NoM) (Keep.bel hbel) id
      have hlx := fun wx (k : Below w.heap.size w wx) => HALL.out x hmem cs wx (EC.keep (M := M) (.bel k) x cs hc) (HTX.out x hmem)
      obtain ⟨va, vs, rfl, hva, hvs⟩ := (EC_iff ..).1 hc
      obtain ⟨xa, xac, rfl, _⟩ := hva.shape
      obtain ⟨xs, xsc, rfl, _⟩ := hvs.shape
      obtain ⟨c0, c1, c2, c3, c4, c5, c6, c7, c8, c9⟩ := CellsAt.c10 hcs'
      simp only [exCells] at hlx
      have HLX := Lib.hid hlx
      have HXJ := Lib.hid hxj
      have HBE := Lib.hid hbel
      have HLT := Lib.hid hlt
      have i0 : (0 : Int) ≤ (j : Int) := by omega
      have i1 : (j : Int) < (l.length : Int) := by omega
      clear hlx hbel hx hc hcs hcs' hva hvs hmem hxj
      have HP := Lib.hid (show badP x = !validP x from rfl)
      generalize validP x = b at HLX HP
      cases b
      · go_wp2_with fail
        refine (HLX.out _ (HBE.out.alloc HBE.out.size _)).mono ?_
        rintro e w2 ⟨rfl, hb⟩
        have HB2 := Lib.hid ((HBE.out.alloc HBE.out.size _).trans (hb.mono (by have := HBE.out.size; simp; omega)))
        clear hb
        dsimp only
        go_wp2_with fail
        go_ret
        refine ⟨?_, HB2.out⟩
        rw [badP_some (show l.findIdx? badP = some j from findIdx_some HXJ.out HP.out HNO.out)]
        rfl
      · go_wp2_with fail
        refine (HLX.out _ (HBE.out.alloc HBE.out.size _)).mono ?_
        rintro e w2 ⟨rfl, hb⟩
        have HB2 := Lib.hid ((HBE.out.alloc HBE.out.size _).trans (hb.mono (by have := HBE.out.size; simp; omega)))
        clear hb
        dsimp only
        go_wp2_with fail
        go_roundw
        case rel =>
          have hlt2 := HLT.out
          refine ⟨j + 1, by omega, by go_num, HB2.out, fun i y hi hy => ?_⟩
          by_cases e : i = j
          · subst e
            rw [HXJ.out] at hy
            cases hy
            exact HP.out
          · exact HNO.out i y (by omega) hy
        case measure =>
          have hlt2 := HLT.out
          simp [intOf]
          omega
    · have HBE := Lib.hid hbel
      clear hbel
      go_wp2_with fail
      go_ret
      refine ⟨?_, HBE.out⟩
      rw [badP_none (show l.findIdx? badP = none from findIdx_none fun i y hi hy => HNO.out i y (by omega) hy)]
      rfl
end Go.Proofs.YtpnigfmclmfjaaaGreatDoor
