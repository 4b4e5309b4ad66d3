/- Which values are valid: contracts of value.plain, value.Valid and the reference's Valid. -/
import Derived.Test.YtiheioajnfggmaaDoorC3
import Derived.Test.YtiheioajnfggmaaDoorV0
namespace Go.Proofs.YtiheioajnfggmaaDoor
open Go.RowKit

theorem ret_b {a b : Bool} (h : a = b) : Ending.returned (.bool a) = .returned (.bool b) := by rw [h]

theorem chr_lo {c : UInt8} (h : (c.toNat : Int) < 32) : chrOk c = false := by unfold chrOk; simp; omega
theorem chr_hi {c : UInt8} (h : (126 : Int) < (c.toNat : Int)) : chrOk c = false := by unfold chrOk; simp; omega
theorem chr_in {c : UInt8} (h : ¬ (c.toNat : Int) < 32) (k : ¬ (126 : Int) < (c.toNat : Int)) : chrOk c = true := by unfold chrOk; simp; omega

/-- A text's bytes, by their places. -/
theorem textOk_no (s : ByteArray) (k : Nat) (h : k < s.size) (hc : chrOk s[k] = false) : textOk s.data.toList = false := by
  unfold textOk
  rw [List.all_eq_false]
  exact ⟨s[k], List.mem_iff_getElem.2 ⟨k, by simpa using h, rfl⟩, by simp [hc]⟩
theorem textOk_yes (s : ByteArray) (h : ∀ (j : Nat) (hj : j < s.size), chrOk s[j] = true) : textOk s.data.toList = true := by
  unfold textOk
  rw [List.all_eq_true]
  intro c hc
  obtain ⟨j, hj, rfl⟩ := List.mem_iff_getElem.1 hc
  exact h j (by simpa using hj)

set_option maxHeartbeats 400000 in
theorem plain_any (s : ByteArray) (w : World) (hs : s.size ≤ maxLen) : Calls Tryd.prog 99 #[.string s] w fun e w' => e = .returned (.bool (plainB s)) ∧ w = w' := by
  unfold maxLen at hs
  go_enter Tryd.func99, Tryd.ntmps99
  go_wp2
  go_loop [6] (fun i => ∃ k : Nat, k ≤ s.size ∧ i = .int .i64 k ∧ ∀ (j : Nat) (hj : j < s.size), j < k → chrOk s[j] = true) (fun i => s.size - (intOf i).toNat)
  case atStart => exact ⟨0, Nat.zero_le _, rfl, fun j _ h => absurd h (by omega)⟩
  case round =>
    obtain ⟨k, hk, rfl, hno⟩ := hrel
    have HN := Lib.hid hno
    clear hno
    by_cases hlt : k < s.size
    · by_cases h32 : (s[k].toNat : Int) < 32
      · go_wp2
        go_ret
        refine ⟨ret_b ?_, rfl⟩
        rw [plainB, textOk_no s k hlt (chr_lo h32), Bool.false_and]
      · by_cases h126 : (126 : Int) < (s[k].toNat : Int)
        · go_wp2
          go_ret
          refine ⟨ret_b ?_, rfl⟩
          rw [plainB, textOk_no s k hlt (chr_hi h126), Bool.false_and]
        · go_wp2
          go_round
          case rel =>
            refine ⟨k + 1, by omega, by go_num, fun j hj hjk => ?_⟩
            by_cases e : j = k
            · subst e; exact chr_in h32 h126
            · exact HN.out j hj (by omega)
          case measure => simp [intOf]; omega
    · go_wp2
      go_ret
      refine ⟨ret_b ?_, rfl⟩
      rw [plainB, textOk_yes s fun j hj => HN.out j hj (by omega), Bool.true_and]
      simp; omega


theorem bel1 (w : World) (o : Obj) : Below w.heap.size w (w.alloc o) := (Below.refl _ _).alloc (Nat.le_refl _) _

section
variable (n : Int) (s : ByteArray) (w : World)

set_option maxHeartbeats 1000000 in
theorem valid_0 : Calls Tryd.prog 44 #[.agg #[.int .i64 0, .int .i64 n, .string s]] w (RetBel (.bool (validV ⟨0, n, s⟩)) w) := by
  go_enter Tryd.func44, Tryd.ntmps44
  go_wp2
  all_goals go_ret
  all_goals
    refine ⟨ret_b ?_, bel1 _ _⟩
    simp_all [validV, noText]

set_option maxHeartbeats 1000000 in
theorem valid_1 : Calls Tryd.prog 44 #[.agg #[.int .i64 1, .int .i64 n, .string s]] w (RetBel (.bool (validV ⟨1, n, s⟩)) w) := by
  go_enter Tryd.func44, Tryd.ntmps44
  go_wp2
  all_goals go_ret
  all_goals
    refine ⟨ret_b ?_, bel1 _ _⟩
    simp_all [validV, noText]

set_option maxHeartbeats 1000000 in
theorem valid_2 : Calls Tryd.prog 44 #[.agg #[.int .i64 2, .int .i64 n, .string s]] w (RetBel (.bool (validV ⟨2, n, s⟩)) w) := by
  go_enter Tryd.func44, Tryd.ntmps44
  go_wp2
  all_goals go_ret
  all_goals
    refine ⟨ret_b ?_, bel1 _ _⟩
    simp_all [validV, noText]

set_option maxHeartbeats 1000000 in
theorem valid_3 (hs : s.size ≤ maxLen) : Calls Tryd.prog 44 #[.agg #[.int .i64 3, .int .i64 n, .string s]] w (RetBel (.bool (validV ⟨3, n, s⟩)) w) := by
  go_enter Tryd.func44, Tryd.ntmps44
  go_wp2_with (go_at_call 99; refine (plain_any _ _ hs).mono ?_; rintro e w1 ⟨rfl, rfl⟩)
  all_goals go_ret
  all_goals
    refine ⟨ret_b ?_, bel1 _ _⟩
    simp_all [validV]

set_option maxHeartbeats 1000000 in
theorem rvalid_0 : Calls Tryd.prog 45 #[.agg #[.int .i64 0, .int .i64 n, .string s]] w (RetBel (.bool (validV ⟨0, n, s⟩)) w) := by
  go_enter Tryd.func45, Tryd.ntmps45
  go_wp2
  all_goals go_ret
  all_goals
    refine ⟨ret_b ?_, bel1 _ _⟩
    simp_all [validV, noText]

set_option maxHeartbeats 1000000 in
theorem rvalid_1 : Calls Tryd.prog 45 #[.agg #[.int .i64 1, .int .i64 n, .string s]] w (RetBel (.bool (validV ⟨1, n, s⟩)) w) := by
  go_enter Tryd.func45, Tryd.ntmps45
  go_wp2
  all_goals go_ret
  all_goals
    refine ⟨ret_b ?_, bel1 _ _⟩
    simp_all [validV, noText]

set_option maxHeartbeats 1000000 in
theorem rvalid_2 : Calls Tryd.prog 45 #[.agg #[.int .i64 2, .int .i64 n, .string s]] w (RetBel (.bool (validV ⟨2, n, s⟩)) w) := by
  go_enter Tryd.func45, Tryd.ntmps45
  go_wp2
  all_goals go_ret
  all_goals
    refine ⟨ret_b ?_, bel1 _ _⟩
    simp_all [validV, noText]


set_option maxHeartbeats 1000000 in
theorem valid_x (k : Int) (h0 : k ≠ 0) (h1 : k ≠ 1) (h2 : k ≠ 2) (h3 : k ≠ 3) : Calls Tryd.prog 44 #[.agg #[.int .i64 k, .int .i64 n, .string s]] w (RetBel (.bool (validV ⟨k, n, s⟩)) w) := by
  have b0 : (k == 0) = false := by simpa using h0
  have b1 : (k == 1) = false := by simpa using h1
  have b2 : (k == 2) = false := by simpa using h2
  have b3 : (k == 3) = false := by simpa using h3
  have HR : Hid (validV ⟨k, n, s⟩ = false) := Lib.hid (by simp [validV, h0, h1, h2, h3])
  clear h0 h1 h2 h3
  go_enter Tryd.func44, Tryd.ntmps44
  go_wp2
  go_ret
  exact ⟨ret_b HR.out.symm, bel1 _ _⟩

set_option maxHeartbeats 1000000 in
theorem rvalid_x (k : Int) (h0 : k ≠ 0) (h1 : k ≠ 1) (h2 : k ≠ 2) (h3 : k ≠ 3) : Calls Tryd.prog 45 #[.agg #[.int .i64 k, .int .i64 n, .string s]] w (RetBel (.bool (validV ⟨k, n, s⟩)) w) := by
  have b0 : (k == 0) = false := by simpa using h0
  have b1 : (k == 1) = false := by simpa using h1
  have b2 : (k == 2) = false := by simpa using h2
  have b3 : (k == 3) = false := by simpa using h3
  have HR : Hid (validV ⟨k, n, s⟩ = false) := Lib.hid (by simp [validV, h0, h1, h2, h3])
  clear h0 h1 h2 h3
  go_enter Tryd.func45, Tryd.ntmps45
  go_wp2
  go_ret
  exact ⟨ret_b HR.out.symm, bel1 _ _⟩

set_option maxHeartbeats 1000000 in
theorem rvalid_3 (hs : s.size ≤ maxLen) : Calls Tryd.prog 45 #[.agg #[.int .i64 3, .int .i64 n, .string s]] w (RetBel (.bool (validV ⟨3, n, s⟩)) w) := by
  unfold maxLen at hs
  by_cases h1 : n = 0
  · subst h1
    by_cases h2 : s.size ≤ 64
    · have HP : Hid (validV ⟨3, 0, s⟩ = textOk s.data.toList) := Lib.hid (by simp [validV, plainB, h2])
      have h3 : ¬ 64 < (s.size : Int) := by omega
      go_enter Tryd.func45, Tryd.ntmps45
      go_wp2
      go_loop [3] (fun i => ∃ k : Nat, k ≤ s.size ∧ i = .int .i64 k ∧ ∀ (j : Nat) (hj : j < s.size), j < k → chrOk s[j] = true) (fun i => s.size - (intOf i).toNat)
      case atStart => exact ⟨0, Nat.zero_le _, rfl, fun j _ h => absurd h (by omega)⟩
      case round =>
        obtain ⟨k, hk, rfl, hno⟩ := hrel
        have HN := Lib.hid hno
        clear hno
        by_cases hlt : k < s.size
        · by_cases h32 : (s[k].toNat : Int) < 32
          · go_wp2
            go_ret
            exact ⟨ret_b (by rw [HP.out, textOk_no s k hlt (chr_lo h32)]), bel1 _ _⟩
          · by_cases h126 : (126 : Int) < (s[k].toNat : Int)
            · go_wp2
              go_ret
              exact ⟨ret_b (by rw [HP.out, textOk_no s k hlt (chr_hi h126)]), bel1 _ _⟩
            · go_wp2
              go_round
              case rel =>
                refine ⟨k + 1, by omega, by go_num, fun j hj hjk => ?_⟩
                by_cases e : j = k
                · subst e; exact chr_in h32 h126
                · exact HN.out j hj (by omega)
              case measure => simp [intOf]; omega
        · go_wp2
          go_ret
          exact ⟨ret_b (by rw [HP.out, textOk_yes s fun j hj => HN.out j hj (by omega)]), bel1 _ _⟩
    · have HP : Hid (validV ⟨3, 0, s⟩ = false) := Lib.hid (by simp [validV, plainB, h2])
      have h3 : 64 < (s.size : Int) := by omega
      go_enter Tryd.func45, Tryd.ntmps45
      go_wp2
      go_ret
      exact ⟨ret_b HP.out.symm, bel1 _ _⟩
  · have b1 : (n == 0) = false := by simpa using h1
    have b2 : (n != 0) = true := by simpa using h1
    have HP : Hid (validV ⟨3, n, s⟩ = false) := Lib.hid (by simp [validV, h1])
    clear h1
    go_enter Tryd.func45, Tryd.ntmps45
    go_wp2
    go_ret
    exact ⟨ret_b HP.out.symm, bel1 _ _⟩
end

def valOf (v : Val) : Value := .agg #[.int .i64 v.kind, .int .i64 v.int, .string v.text]

theorem valid_any (v : Val) (w : World) (hs : v.text.size ≤ maxLen) : Calls Tryd.prog 44 #[valOf v] w (RetBel (.bool (validV v)) w) := by
  obtain ⟨k, n, s⟩ := v
  by_cases h0 : k = 0
  · subst h0; exact valid_0 n s w
  by_cases h1 : k = 1
  · subst h1; exact valid_1 n s w
  by_cases h2 : k = 2
  · subst h2; exact valid_2 n s w
  by_cases h3 : k = 3
  · subst h3; exact valid_3 n s w hs
  exact valid_x n s w k h0 h1 h2 h3

theorem rvalid_any (v : Val) (w : World) (hs : v.text.size ≤ maxLen) : Calls Tryd.prog 45 #[valOf v] w (RetBel (.bool (validV v)) w) := by
  obtain ⟨k, n, s⟩ := v
  by_cases h0 : k = 0
  · subst h0; exact rvalid_0 n s w
  by_cases h1 : k = 1
  · subst h1; exact rvalid_1 n s w
  by_cases h2 : k = 2
  · subst h2; exact rvalid_2 n s w
  by_cases h3 : k = 3
  · subst h3; exact rvalid_3 n s w hs
  exact rvalid_x n s w k h0 h1 h2 h3

def RetVal (v : Val) (w : World) (e : Ending) (w' : World) : Prop := e = .returned (valOf v) ∧ Below w.heap.size w w'
def RetValB (v : Val) (b : Bool) (w : World) (e : Ending) (w' : World) : Prop := e = .returned (.tuple #[valOf v, .bool b]) ∧ Below w.heap.size w w'

set_option maxHeartbeats 400000 in
theorem number_v (n : Int) (w : World) : Calls Tryd.prog 50 #[.int .i64 n] w (RetVal ⟨1, n, ⟨#[]⟩⟩ w) := by
  go_enter Tryd.func50, Tryd.ntmps50
  go_wp2
  refine bodyPost_ret (v := valOf ⟨1, n, ⟨#[]⟩⟩) (by simp [valOf, results, Tryd.results50, go_sem]) rfl ⟨rfl, bel1 _ _⟩

set_option maxHeartbeats 400000 in
theorem rnumber_v (n : Int) (w : World) : Calls Tryd.prog 51 #[.int .i64 n] w (RetVal ⟨1, n, ⟨#[]⟩⟩ w) := by
  go_enter Tryd.func51, Tryd.ntmps51
  go_wp2
  refine bodyPost_ret (v := valOf ⟨1, n, ⟨#[]⟩⟩) (by simp [valOf, results, Tryd.results51, go_sem]) rfl ⟨rfl, bel1 _ _⟩

def truthV (b : Bool) : Val := ⟨2, if b then 1 else 0, ⟨#[]⟩⟩

set_option maxHeartbeats 400000 in
theorem truth_v (b : Bool) (w : World) : Calls Tryd.prog 52 #[.bool b] w (RetVal (truthV b) w) := by
  cases b
  · go_enter Tryd.func52, Tryd.ntmps52
    go_wp2
    refine bodyPost_ret (v := valOf ⟨2, 0, ⟨#[]⟩⟩) (by simp [valOf, results, Tryd.results52, go_sem]) rfl ⟨rfl, ?_⟩
    go_grown
  · go_enter Tryd.func52, Tryd.ntmps52
    go_wp2
    refine bodyPost_ret (v := valOf ⟨2, 1, ⟨#[]⟩⟩) (by simp [valOf, results, Tryd.results52, go_sem]) rfl ⟨rfl, ?_⟩
    go_grown

set_option maxHeartbeats 400000 in
theorem rtruth_v (b : Bool) (w : World) : Calls Tryd.prog 53 #[.bool b] w (RetVal (truthV b) w) := by
  cases b
  · go_enter Tryd.func53, Tryd.ntmps53
    go_wp2
    refine bodyPost_ret (v := valOf ⟨2, 0, ⟨#[]⟩⟩) (by simp [valOf, results, Tryd.results53, go_sem]) rfl ⟨rfl, ?_⟩
    go_grown
  · go_enter Tryd.func53, Tryd.ntmps53
    go_wp2
    refine bodyPost_ret (v := valOf ⟨2, 1, ⟨#[]⟩⟩) (by simp [valOf, results, Tryd.results53, go_sem]) rfl ⟨rfl, ?_⟩
    go_grown

/-- What Words returns. -/
def wordsV (s : ByteArray) : Val := if plainB s then ⟨3, 0, s⟩ else ⟨0, 0, ⟨#[]⟩⟩

set_option maxHeartbeats 1000000 in
theorem words_v (s : ByteArray) (w : World) (hs : s.size ≤ maxLen) : Calls Tryd.prog 48 #[.string s] w (RetValB (wordsV s) (plainB s) w) := by
  have hv := fun w' => valid_3 0 s w' hs
  rw [show validV ⟨3, 0, s⟩ = plainB s by simp [validV]] at hv
  cases hp : plainB s
  · rw [hp] at hv
    have HV := Lib.hid hv
    have HR : Hid (wordsV s = ⟨0, 0, ⟨#[]⟩⟩) := Lib.hid (by simp [wordsV, hp])
    clear hv hp
    go_enter Tryd.func48, Tryd.ntmps48
    go_wp2_with (go_at_call 44; refine (HV.out _).mono ?_; rintro e w1 ⟨rfl, hb⟩; obtain ⟨k1, k2, k3⟩ := bcell hb; simp only [World.size_alloc] at k1 k2 k3; have k4 : w.heap.size < w1.heap.size := (by omega); have k5 : w.heap.size + 1 < w1.heap.size := (by omega); have c0 : w1.cell? ⟨w.heap.size, 0, none⟩ = some (.int .i64 0) := (k1 _ _ (by omega)).trans (by simp); have c1 : w1.cell? ⟨w.heap.size, 1, none⟩ = some (.int .i64 0) := (k1 _ _ (by omega)).trans (by simp); have c2 : w1.cell? ⟨w.heap.size, 2, none⟩ = some (.string ⟨#[]⟩) := (k1 _ _ (by omega)).trans (by simp); have HB := Lib.hid hb; clear hb)
    refine bodyPost_ret (v := .tuple #[valOf ⟨0, 0, ⟨#[]⟩⟩, .bool false]) (by simp [valOf, results, Tryd.results48, go_sem, c0, c1, c2]) rfl ⟨by rw [HR.out], ?_⟩
    clear k1 k2 c0 c1 c2
    have h0 : Below w.heap.size w w1 := Below.trans (by go_grown) (HB.out.mono (by simp <;> omega))
    go_grown
  · rw [hp] at hv
    have HV := Lib.hid hv
    have HR : Hid (wordsV s = ⟨3, 0, s⟩) := Lib.hid (by simp [wordsV, hp])
    clear hv hp
    go_enter Tryd.func48, Tryd.ntmps48
    go_wp2_with (go_at_call 44; refine (HV.out _).mono ?_; rintro e w1 ⟨rfl, hb⟩; obtain ⟨k1, k2, k3⟩ := bcell hb; simp only [World.size_alloc] at k1 k2 k3; have k4 : w.heap.size < w1.heap.size := (by omega); have k5 : w.heap.size + 1 < w1.heap.size := (by omega); have c0 : w1.cell? ⟨w.heap.size, 0, none⟩ = some (.int .i64 0) := (k1 _ _ (by omega)).trans (by simp); have c1 : w1.cell? ⟨w.heap.size, 1, none⟩ = some (.int .i64 0) := (k1 _ _ (by omega)).trans (by simp); have c2 : w1.cell? ⟨w.heap.size, 2, none⟩ = some (.string ⟨#[]⟩) := (k1 _ _ (by omega)).trans (by simp); have HB := Lib.hid hb; clear hb)
    refine bodyPost_ret (v := .tuple #[valOf ⟨3, 0, s⟩, .bool true]) (by simp [valOf, results, Tryd.results48, go_sem, c0, c1, c2]) rfl ⟨by rw [HR.out], ?_⟩
    clear k1 k2 c0 c1 c2
    have h0 : Below w.heap.size w w1 := Below.trans (by go_grown) (HB.out.mono (by simp <;> omega))
    go_grown

set_option maxHeartbeats 1000000 in
theorem rwords_v (s : ByteArray) (w : World) (hs : s.size ≤ maxLen) : Calls Tryd.prog 49 #[.string s] w (RetValB (wordsV s) (plainB s) w) := by
  have hv := fun w' => rvalid_3 0 s w' hs
  rw [show validV ⟨3, 0, s⟩ = plainB s by simp [validV]] at hv
  cases hp : plainB s
  · rw [hp] at hv
    have HV := Lib.hid hv
    have HR : Hid (wordsV s = ⟨0, 0, ⟨#[]⟩⟩) := Lib.hid (by simp [wordsV, hp])
    clear hv hp
    go_enter Tryd.func49, Tryd.ntmps49
    go_wp2_with (go_at_call 45; refine (HV.out _).mono ?_; rintro e w1 ⟨rfl, hb⟩; obtain ⟨k1, k2, k3⟩ := bcell hb; simp only [World.size_alloc] at k1 k2 k3; have k4 : w.heap.size < w1.heap.size := (by omega); have k5 : w.heap.size + 1 < w1.heap.size := (by omega); have c0 : w1.cell? ⟨w.heap.size, 0, none⟩ = some (.int .i64 0) := (k1 _ _ (by omega)).trans (by simp); have c1 : w1.cell? ⟨w.heap.size, 1, none⟩ = some (.int .i64 0) := (k1 _ _ (by omega)).trans (by simp); have c2 : w1.cell? ⟨w.heap.size, 2, none⟩ = some (.string ⟨#[]⟩) := (k1 _ _ (by omega)).trans (by simp); have HB := Lib.hid hb; clear hb)
    refine bodyPost_ret (v := .tuple #[valOf ⟨0, 0, ⟨#[]⟩⟩, .bool false]) (by simp [valOf, results, Tryd.results49, go_sem, c0, c1, c2]) rfl ⟨by rw [HR.out], ?_⟩
    clear k1 k2 c0 c1 c2
    have h0 : Below w.heap.size w w1 := Below.trans (by go_grown) (HB.out.mono (by simp <;> omega))
    go_grown
  · rw [hp] at hv
    have HV := Lib.hid hv
    have HR : Hid (wordsV s = ⟨3, 0, s⟩) := Lib.hid (by simp [wordsV, hp])
    clear hv hp
    go_enter Tryd.func49, Tryd.ntmps49
    go_wp2_with (go_at_call 45; refine (HV.out _).mono ?_; rintro e w1 ⟨rfl, hb⟩; obtain ⟨k1, k2, k3⟩ := bcell hb; simp only [World.size_alloc] at k1 k2 k3; have k4 : w.heap.size < w1.heap.size := (by omega); have k5 : w.heap.size + 1 < w1.heap.size := (by omega); have c0 : w1.cell? ⟨w.heap.size, 0, none⟩ = some (.int .i64 0) := (k1 _ _ (by omega)).trans (by simp); have c1 : w1.cell? ⟨w.heap.size, 1, none⟩ = some (.int .i64 0) := (k1 _ _ (by omega)).trans (by simp); have c2 : w1.cell? ⟨w.heap.size, 2, none⟩ = some (.string ⟨#[]⟩) := (k1 _ _ (by omega)).trans (by simp); have HB := Lib.hid hb; clear hb)
    refine bodyPost_ret (v := .tuple #[valOf ⟨3, 0, s⟩, .bool true]) (by simp [valOf, results, Tryd.results49, go_sem, c0, c1, c2]) rfl ⟨by rw [HR.out], ?_⟩
    clear k1 k2 c0 c1 c2
    have h0 : Below w.heap.size w w1 := Below.trans (by go_grown) (HB.out.mono (by simp <;> omega))
    go_grown

end Go.Proofs.YtiheioajnfggmaaDoor
