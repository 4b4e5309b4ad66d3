/- Names, tables of queries and plain fields: contracts of the references' Letter, Digit, ValidName, source and plain. -/
import Derived.Test.YtppiaaolggpjdaaDoorKN1
namespace Go.Proofs.YtppiaaolggpjdaaDoor
open Go.RowKit

set_option maxHeartbeats 400000 in
theorem rletter_any (c : UInt8) (w : World) : Calls Tryd.prog 145 #[.int .u8 (c.toNat : Int)] w fun e w' => e = .returned (.bool (letB c)) ∧ w = w' := by
  have HQ : Hid (∀ r, (decide (97 ≤ c.toNat) && decide (c.toNat ≤ 122)) = r → letB c = r) := Lib.hid fun _ h => h
  generalize letB c = r at HQ ⊢
  generalize c.toNat = n at HQ ⊢
  go_enter Tryd.func145, Tryd.ntmps145
  go_wp2
  all_goals
    go_ret
    refine ⟨?_, rfl⟩
    rw [HQ.out _ rfl]
    first
      | (simp_all; done)
      | (rw [show decide (97 ≤ n) = false from decide_eq_false (by omega), Bool.false_and]; rfl)
      | (rw [show decide (97 ≤ n) = true from decide_eq_true (by omega), Bool.true_and]; exact congrArg (fun b => Ending.returned (.bool b)) (decide_eq_decide.2 (by omega)))

set_option maxHeartbeats 400000 in
theorem rdigit_any (c : UInt8) (w : World) : Calls Tryd.prog 146 #[.int .u8 (c.toNat : Int)] w fun e w' => e = .returned (.bool (digB c)) ∧ w = w' := by
  have HQ : Hid (∀ r, (decide (48 ≤ c.toNat) && decide (c.toNat ≤ 57)) = r → digB c = r) := Lib.hid fun _ h => h
  generalize digB c = r at HQ ⊢
  generalize c.toNat = n at HQ ⊢
  go_enter Tryd.func146, Tryd.ntmps146
  go_wp2
  all_goals
    go_ret
    refine ⟨?_, rfl⟩
    rw [HQ.out _ rfl]
    first
      | (simp_all; done)
      | (rw [show decide (48 ≤ n) = false from decide_eq_false (by omega), Bool.false_and]; rfl)
      | (rw [show decide (48 ≤ n) = true from decide_eq_true (by omega), Bool.true_and]; exact congrArg (fun b => Ending.returned (.bool b)) (decide_eq_decide.2 (by omega)))

theorem name_parts (s : ByteArray) (h1 : 1 ≤ s.size) (h12 : s.size ≤ 12) : nameB s = (letB s[0] && s.data.toList.all nchB) := by
  have hz : 0 < s.size := by omega
  have hL : s.data.toList = s[0] :: s.data.toList.tail := by
    rcases hd : s.data.toList with _ | ⟨c, l⟩
    · have h1 := congrArg List.length hd
      rw [Array.length_toList] at h1
      exact absurd (show s.size = 0 from h1) (by omega)
    · have h1 : s.data.toList[0]? = some c := by rw [hd]; rfl
      have h2 : s.data.toList[0]? = some s[0] := by simp [hz]; rfl
      rw [h1] at h2
      cases h2
      rfl
  have e1 : decide (1 ≤ s.size) = true := decide_eq_true (by omega)
  have e2 : decide (s.size ≤ 12) = true := decide_eq_true (by omega)
  unfold nameB
  rw [e1, e2, hL]
  generalize s[0] = c
  generalize s.data.toList.tail = l
  simp only [List.all_cons, List.head?_cons, Option.any_some, Bool.true_and]
  rw [Bool.and_comm]

set_option maxHeartbeats 1000000 in
theorem rvalidName_any (s : ByteArray) (w : World) (hs : s.size ≤ maxLen) : Calls Tryd.prog 99 #[.string s] w fun e w' => e = .returned (.bool (nameB s)) ∧ w = w' := by
  unfold maxLen at hs
  by_cases h0 : s.size < 1
  · have hn : Hid (nameB s = false) := Lib.hid (by unfold nameB; simp; omega)
    have h0' : ((s.size : Int) < 1) := by omega
    clear h0
    go_enter Tryd.func99, Tryd.ntmps99
    go_wp2_with fail
    go_ret
    exact ⟨ret_b hn.out.symm, rfl⟩
  · by_cases h12 : 12 < s.size
    · have hn : Hid (nameB s = false) := Lib.hid (by unfold nameB; simp; omega)
      have h12' : ((12 : Int) < s.size) := by omega
      go_enter Tryd.func99, Tryd.ntmps99
      go_wp2_with fail
      go_ret
      exact ⟨ret_b hn.out.symm, rfl⟩
    · have h0' : ¬ ((s.size : Int) < 1) := by omega
      have h12' : ¬ ((12 : Int) < s.size) := by omega
      have hz : 0 < s.size := by omega
      have HN := Lib.hid (name_parts s (by omega) (by omega))
      cases hl : letB s[0]
      · have hn : Hid (nameB s = false) := Lib.hid (by rw [HN.out, hl]; rfl)
        have HL := Lib.hid hl
        clear hl
        go_enter Tryd.func99, Tryd.ntmps99
        go_wp2_with fail
        refine (rletter_any _ _).mono ?_
        rintro e w1 ⟨rfl, rfl⟩
        dsimp only
        rw [HL.out]
        go_wp2_with fail
        go_ret
        exact ⟨ret_b hn.out.symm, rfl⟩
      · have HL := Lib.hid hl
        clear hl
        go_enter Tryd.func99, Tryd.ntmps99
        go_wp2_with fail
        refine (rletter_any _ _).mono ?_
        rintro e w1 ⟨rfl, rfl⟩
        dsimp only
        rw [HL.out]
        go_wp2_with fail
        go_loop [3] (fun i => ∃ j : Nat, j ≤ s.size ∧ i = .int .i64 j ∧ ∀ (m : Nat) (hm : m < s.size), m < j → nchB s[m] = true) (fun i => s.size - (intOf i).toNat)
        case atStart => exact ⟨0, Nat.zero_le _, rfl, fun m _ h => absurd h (by omega)⟩
        case round =>
          obtain ⟨j, hj, rfl, hno⟩ := hrel
          have HNO := Lib.hid hno
          clear hno
          by_cases hlt : j < s.size
          · have HQ : Hid (∀ b, (letB s[j] || digB s[j] || s[j].toNat == 95) = b → nchB s[j] = b) := Lib.hid fun b h => h
            have HS : Hid (nchB s[j] = false → nameB s = false) := Lib.hid fun h => by
              rw [HN.out, show s.data.toList.all nchB = false from List.all_eq_false.2 ⟨s[j], List.mem_iff_getElem.2 ⟨j, by simpa using hlt, rfl⟩, by simp [h]⟩, Bool.and_false]
            have HA := Lib.hid fun wx => rletter_any s[j] wx
            have HD := Lib.hid fun wx => rdigit_any s[j] wx
            generalize hnc : nchB s[j] = nc at HQ HS
            have HNC := Lib.hid hnc
            clear hnc
            generalize letB s[j] = bl at HA HQ
            generalize digB s[j] = bd at HD HQ
            cases bl
            · cases bd
              · go_wp2_with (first
                  | ((go_at_call 145); (refine (HA.out _).mono ?_); rintro e w2 ⟨rfl, rfl⟩)
                  | ((go_at_call 146); (refine (HD.out _).mono ?_); rintro e w2 ⟨rfl, rfl⟩))
                all_goals first
                  | (go_ret
                     refine ⟨ret_b (HS.out (HQ.out false ?_)).symm, rfl⟩
                     simp_all <;> omega)
                  | (go_round
                     case rel =>
                       refine ⟨j + 1, by omega, by go_num, fun m hm h => ?_⟩
                       by_cases e : m = j
                       · subst e
                         rw [HNC.out]
                         refine HQ.out true ?_
                         simp_all <;> omega
                       · exact HNO.out m hm (by omega)
                     case measure => simp [intOf]; omega)
              · go_wp2_with (first
                  | ((go_at_call 145); (refine (HA.out _).mono ?_); rintro e w2 ⟨rfl, rfl⟩)
                  | ((go_at_call 146); (refine (HD.out _).mono ?_); rintro e w2 ⟨rfl, rfl⟩))
                go_round
                case rel =>
                  refine ⟨j + 1, by omega, by go_num, fun m hm h => ?_⟩
                  by_cases e : m = j
                  · subst e
                    rw [HNC.out]
                    exact HQ.out true (by simp)
                  · exact HNO.out m hm (by omega)
                case measure => simp [intOf]; omega
            · go_wp2_with (first
                | ((go_at_call 145); (refine (HA.out _).mono ?_); rintro e w2 ⟨rfl, rfl⟩)
                | ((go_at_call 146); (refine (HD.out _).mono ?_); rintro e w2 ⟨rfl, rfl⟩))
              go_round
              case rel =>
                refine ⟨j + 1, by omega, by go_num, fun m hm h => ?_⟩
                by_cases e : m = j
                · subst e
                  rw [HNC.out]
                  exact HQ.out true (by simp)
                · exact HNO.out m hm (by omega)
              case measure => simp [intOf]; omega
          · have hall : s.data.toList.all nchB = true := by
              rw [List.all_eq_true]
              intro c hc
              obtain ⟨m, hm, rfl⟩ := List.mem_iff_getElem.1 hc
              exact HNO.out m (by simpa using hm) (by have : m < s.size := by simpa using hm
                                                      omega)
            have hn : Hid (nameB s = true) := Lib.hid (by rw [HN.out, hall, HL.out]; rfl)
            clear hall
            go_wp2_with fail
            go_ret
            exact ⟨ret_b hn.out.symm, rfl⟩

set_option maxHeartbeats 1000000 in
theorem rsrc_any (s : ByteArray) (w : World) (hs : s.size ≤ maxLen) : Calls Tryd.prog 98 #[.string s] w fun e w' => e = .returned (.bool (sourceB s)) ∧ w = w' := by
  have HV := Lib.hid fun wx => rvalidName_any s wx hs
  have HS : Hid (sourceB s = (nameB s || s.toList == kwIns || s.toList == kwDel)) := Lib.hid rfl
  generalize nameB s = b at HV HS
  cases b
  all_goals
    go_enter Tryd.func98, Tryd.ntmps98
    go_wp2_with ((go_at_call 99); (refine (HV.out _).mono ?_); rintro e w1 ⟨rfl, rfl⟩)
    all_goals go_ret
    all_goals
      refine ⟨ret_b ?_, rfl⟩
      rw [HS.out]
      simp_all [kwIns, kwDel]

set_option maxRecDepth 100000 in
set_option maxHeartbeats 1000000 in
theorem rplain_any (k o : Int) (no : Bool) (vk vi : Int) (vt t nm : ByteArray) (va vs : Value) (w : World) :
    Calls Tryd.prog 100 #[.agg #[.int .i64 k, .int .i64 o, .bool no, .int .i64 vk, .int .i64 vi, .string vt, .string t, .string nm, va, vs]] w (RetBel (.bool (valZ ⟨vk, vi, vt⟩ && nameZ t nm)) w) := by
  have HQ : Hid (∀ b, (decide (vk = 0) && decide (vi = 0) && (vt.toList == []) && ((t.toList == []) && (nm.toList == []))) = b → (valZ ⟨vk, vi, vt⟩ && nameZ t nm) = b) := Lib.hid fun b h => h
  generalize (valZ ⟨vk, vi, vt⟩ && nameZ t nm) = r at HQ
  go_enter Tryd.func100, Tryd.ntmps100
  go_wp2
  all_goals
    go_ret
    refine ⟨ret_b ?_, by go_grown⟩
    rw [HQ.out _ rfl]
    simp_all
end Go.Proofs.YtppiaaolggpjdaaDoor
