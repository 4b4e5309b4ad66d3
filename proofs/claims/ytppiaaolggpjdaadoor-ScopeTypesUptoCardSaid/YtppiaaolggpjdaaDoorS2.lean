/- Shapes and precedences in the reference: contracts of Shape, Precedence and Least. -/
import Derived.Test.YtppiaaolggpjdaaDoorS1
import Derived.Test.YtppiaaolggpjdaaDoorKL
namespace Go.Proofs.YtppiaaolggpjdaaDoor
open Go.RowKit

def subShape (k : Int) : List Qu → Bool
  | [q] => decide (q.items.length = if k = 8 ∨ k = 9 then 0 else 1) && decide (q.whr.length ≤ 1)
  | _ => false
def shapeP (k o : Int) (an : Nat) (sub : List Qu) : Bool :=
  if k = 1 ∨ k = 2 then decide (an = 0) && decide (sub.length = 0)
  else if k = 3 ∨ k = 4 ∨ k = 6 then decide (an = 1) && decide (sub.length = 0)
  else if k = 5 then decide (1 ≤ o) && decide (o ≤ 13) && decide (an = 2) && decide (sub.length = 0)
  else if k = 7 then decide (an = 3) && decide (sub.length = 0)
  else if 8 ≤ k ∧ k ≤ 12 then decide (an = 0) && subShape k sub
  else false

section
variable (o : Int) (no : Bool) (vk vi : Int) (vt t nm : ByteArray) (a s : Option Addr) (an ac sn sc : Nat) (w : World)

theorem eq_n (n : Nat) (m : Nat) : ((n : Int) == (m : Int)) = decide (n = m) := by
  by_cases h : n = m
  · subst h; simp
  · have h2 : ((n : Int) == (m : Int)) = false := by simp; omega
    rw [h2, decide_eq_false h]

set_option maxRecDepth 100000 in
set_option maxHeartbeats 2000000 in
theorem shape_n (k : Int) (m : Nat) (h : (k = 1 ∧ m = 0) ∨ (k = 2 ∧ m = 0) ∨ (k = 3 ∧ m = 1) ∨ (k = 4 ∧ m = 1) ∨ (k = 6 ∧ m = 1) ∨ (k = 7 ∧ m = 3)) :
    Calls Tryd.prog 97 #[.agg #[.int .i64 k, .int .i64 o, .bool no, .int .i64 vk, .int .i64 vi, .string vt, .string t, .string nm, .slice a an ac, .slice s sn sc]] w (RetBel (.bool (decide (an = m) && decide (sn = 0))) w) := by
  have e1 := eq_n an m
  have e2 := eq_n sn 0
  by_cases h1 : an = m
  · by_cases h2 : sn = 0
    · subst h1 h2
      clear e1 e2
      rcases h with ⟨rfl, rfl⟩ | ⟨rfl, rfl⟩ | ⟨rfl, rfl⟩ | ⟨rfl, rfl⟩ | ⟨rfl, rfl⟩ | ⟨rfl, rfl⟩
      all_goals
        go_enter Tryd.func97, Tryd.ntmps97
        go_wp2_with fail
        go_ret
        exact ⟨rfl, by go_grown⟩
    · have h2' : ((sn : Int) == 0) = false := by simp; omega
      rw [show (decide (an = m) && decide (sn = 0)) = false by rw [decide_eq_false h2, Bool.and_false]]
      subst h1
      clear e1 e2 h2
      rcases h with ⟨rfl, rfl⟩ | ⟨rfl, rfl⟩ | ⟨rfl, rfl⟩ | ⟨rfl, rfl⟩ | ⟨rfl, rfl⟩ | ⟨rfl, rfl⟩
      all_goals
        go_enter Tryd.func97, Tryd.ntmps97
        go_wp2_with fail
        go_ret
        exact ⟨rfl, by go_grown⟩
  · rw [show (decide (an = m) && decide (sn = 0)) = false by rw [decide_eq_false h1, Bool.false_and]]
    have e3 : ((an : Int) == (m : Int)) = false := by rw [e1, decide_eq_false h1]
    clear e1 e2 h1
    rcases h with ⟨rfl, rfl⟩ | ⟨rfl, rfl⟩ | ⟨rfl, rfl⟩ | ⟨rfl, rfl⟩ | ⟨rfl, rfl⟩ | ⟨rfl, rfl⟩
    all_goals
      first | rw [Int.natCast_zero] at e3 | rw [Int.natCast_one] at e3 | rw [Int.cast_ofNat_Int] at e3
      go_enter Tryd.func97, Tryd.ntmps97
      go_wp2_with fail
      go_ret
      exact ⟨rfl, by go_grown⟩

set_option maxRecDepth 100000 in
set_option maxHeartbeats 2000000 in
theorem shape_5 (k : Int) (hk : k = 5) : Calls Tryd.prog 97 #[.agg #[.int .i64 k, .int .i64 o, .bool no, .int .i64 vk, .int .i64 vi, .string vt, .string t, .string nm, .slice a an ac, .slice s sn sc]] w (RetBel (.bool (decide (1 ≤ o) && decide (o ≤ 13) && decide (an = 2) && decide (sn = 0))) w) := by
  subst hk
  by_cases h1 : 1 ≤ o
  · by_cases h13 : o ≤ 13
    · rw [decide_eq_true h1, decide_eq_true h13]
      have h1' : ¬ o < 1 := by omega
      have h13' : ¬ 13 < o := by omega
      by_cases h2 : an = 2
      · subst h2
        by_cases h3 : sn = 0
        · subst h3
          go_enter Tryd.func97, Tryd.ntmps97
          go_wp2_with fail
          go_ret
          exact ⟨rfl, by go_grown⟩
        · have h3' : ((sn : Int) == 0) = false := by simp; omega
          rw [decide_eq_false h3]
          clear h3
          go_enter Tryd.func97, Tryd.ntmps97
          go_wp2_with fail
          go_ret
          exact ⟨rfl, by go_grown⟩
      · have h2' : ((an : Int) == 2) = false := by simp; omega
        rw [decide_eq_false h2]
        clear h2
        go_enter Tryd.func97, Tryd.ntmps97
        go_wp2_with fail
        go_ret
        exact ⟨by simp, by go_grown⟩
    · have h13' : 13 < o := by omega
      have h1' : ¬ o < 1 := by omega
      rw [decide_eq_false h13]
      go_enter Tryd.func97, Tryd.ntmps97
      go_wp2_with fail
      go_ret
      exact ⟨by simp, by go_grown⟩
  · have h1' : o < 1 := by omega
    rw [decide_eq_false h1]
    go_enter Tryd.func97, Tryd.ntmps97
    go_wp2_with fail
    go_ret
    exact ⟨by simp, by go_grown⟩

set_option maxRecDepth 100000 in
set_option maxHeartbeats 2000000 in
theorem shape_no (k : Int) (hk : ¬(1 ≤ k ∧ k ≤ 12)) : Calls Tryd.prog 97 #[.agg #[.int .i64 k, .int .i64 o, .bool no, .int .i64 vk, .int .i64 vi, .string vt, .string t, .string nm, .slice a an ac, .slice s sn sc]] w (RetBel (.bool false) w) := by
  have ek1 : (k == 1) = false := by simp; omega
  have ek2 : (k == 2) = false := by simp; omega
  have ek3 : (k == 3) = false := by simp; omega
  have ek4 : (k == 4) = false := by simp; omega
  have ek5 : (k == 5) = false := by simp; omega
  have ek6 : (k == 6) = false := by simp; omega
  have ek7 : (k == 7) = false := by simp; omega
  have ek8 : (k == 8) = false := by simp; omega
  have ek9 : (k == 9) = false := by simp; omega
  have ek10 : (k == 10) = false := by simp; omega
  have ek11 : (k == 11) = false := by simp; omega
  have ek12 : (k == 12) = false := by simp; omega
  clear hk
  go_enter Tryd.func97, Tryd.ntmps97
  go_wp2_with fail
  go_ret
  exact ⟨rfl, by go_grown⟩

/-- Not one query: no shape. -/
theorem shape_out (k : Int) (hk : 8 ≤ k ∧ k ≤ 12) (h : an ≠ 0 ∨ sn ≠ 1) : Calls Tryd.prog 97 #[.agg #[.int .i64 k, .int .i64 o, .bool no, .int .i64 vk, .int .i64 vi, .string vt, .string t, .string nm, .slice a an ac, .slice s sn sc]] w (RetBel (.bool false) w) := by
  have h5 : k = 8 ∨ k = 9 ∨ k = 10 ∨ k = 11 ∨ k = 12 := by omega
  by_cases h0 : an = 0
  · have h1 : ((sn : Int) == 1) = false := by simp; omega
    subst h0
    clear hk h
    rcases h5 with rfl | rfl | rfl | rfl | rfl
    all_goals
      go_enter Tryd.func97, Tryd.ntmps97
      go_wp2_with fail
      go_ret
      exact ⟨rfl, by go_grown⟩
  · have h1 : ((an : Int) == 0) = false := by simp; omega
    clear hk h h0
    rcases h5 with rfl | rfl | rfl | rfl | rfl
    all_goals
      go_enter Tryd.func97, Tryd.ntmps97
      go_wp2_with fail
      go_ret
      exact ⟨rfl, by go_grown⟩

set_option maxRecDepth 100000 in
set_option maxHeartbeats 4000000 in
theorem shape_sub (k : Int) (hk : 8 ≤ k ∧ k ≤ 12) (ab ao : Nat) (ia wa : Option Addr) (il wl ic wc : Nat)
    (c1 : w.cell? ⟨ab, ao + 1, none⟩ = some (.slice ia il ic)) (c3 : w.cell? ⟨ab, ao + 3, none⟩ = some (.slice wa wl wc)) (hab : ab < w.heap.size) :
    Calls Tryd.prog 97 #[.agg #[.int .i64 k, .int .i64 o, .bool no, .int .i64 vk, .int .i64 vi, .string vt, .string t, .string nm, .slice a 0 ac, .slice (some ⟨ab, ao, none⟩) 1 sc]] w (RetBel (.bool (decide (il = if k = 8 ∨ k = 9 then 0 else 1) && decide (wl ≤ 1))) w) := by
  have h2 : (k = 8 ∨ k = 9) ∧ (if k = 8 ∨ k = 9 then 0 else 1) = 0 ∨ (k = 10 ∨ k = 11 ∨ k = 12) ∧ (if k = 8 ∨ k = 9 then 0 else 1) = 1 := by
    by_cases h : k = 8 ∨ k = 9
    · exact .inl ⟨h, if_pos h⟩
    · exact .inr ⟨by omega, if_neg h⟩
  clear hk
  rcases h2 with ⟨hk, hm⟩ | ⟨hk, hm⟩
  · rw [hm]
    clear hm
    by_cases hi : il = 0
    · subst hi
      by_cases hw : wl ≤ 1
      · have hw' : (wl : Int) ≤ 1 := by omega
        rw [decide_eq_true hw]
        clear hw
        rcases hk with rfl | rfl
        all_goals
          go_enter Tryd.func97, Tryd.ntmps97
          go_wp2_with fail
          go_ret
          exact ⟨by simp, by go_grown⟩
      · have hw' : ¬ (wl : Int) ≤ 1 := by omega
        rw [decide_eq_false hw]
        clear hw
        rcases hk with rfl | rfl
        all_goals
          go_enter Tryd.func97, Tryd.ntmps97
          go_wp2_with fail
          go_ret
          exact ⟨by simp, by go_grown⟩
    · have hi' : ((il : Int) == 0) = false := by simp; omega
      rw [decide_eq_false hi]
      clear hi
      rcases hk with rfl | rfl
      all_goals
        go_enter Tryd.func97, Tryd.ntmps97
        go_wp2_with fail
        go_ret
        exact ⟨by simp, by go_grown⟩
  · rw [hm]
    clear hm
    by_cases hi : il = 1
    · subst hi
      by_cases hw : wl ≤ 1
      · have hw' : (wl : Int) ≤ 1 := by omega
        rw [decide_eq_true hw]
        clear hw
        rcases hk with rfl | rfl | rfl
        all_goals
          go_enter Tryd.func97, Tryd.ntmps97
          go_wp2_with fail
          go_ret
          exact ⟨by simp, by go_grown⟩
      · have hw' : ¬ (wl : Int) ≤ 1 := by omega
        rw [decide_eq_false hw]
        clear hw
        rcases hk with rfl | rfl | rfl
        all_goals
          go_enter Tryd.func97, Tryd.ntmps97
          go_wp2_with fail
          go_ret
          exact ⟨by simp, by go_grown⟩
    · have hi' : ((il : Int) == 1) = false := by simp; omega
      rw [decide_eq_false hi]
      clear hi
      rcases hk with rfl | rfl | rfl
      all_goals
        go_enter Tryd.func97, Tryd.ntmps97
        go_wp2_with fail
        go_ret
        exact ⟨by simp, by go_grown⟩
end
end Go.Proofs.YtppiaaolggpjdaaDoor
