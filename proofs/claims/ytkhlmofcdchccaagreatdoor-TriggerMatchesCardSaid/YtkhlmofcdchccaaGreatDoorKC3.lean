/- Expressions with the parts that their kinds have: contract of scope.Formed. Conditions and expressions with a query, over a contract of Type: contracts of scope.Condition and scope.aggregate. Expressions with a query, over a contract of Type: the contract of scope.aggregate. Expressions with a query of one item: the rest of the contract of scope.aggregate. Types of expressions: the contract of scope.Type, for every expression. -/
import Derived.Test.YtkhlmofcdchccaaGreatDoorKC2
namespace Go.Proofs.YtkhlmofcdchccaaGreatDoor
open Go.RowKit

set_option maxHeartbeats 1000000 in
theorem formed_1 (o : Int) (no : Bool) (vk vi : Int) (vt t nm : ByteArray) (a s : Option Addr) (n m ac sc : Nat) (w : World) :
    Calls Tryz.prog 180 #[.agg #[.int .i64 1, .int .i64 o, .bool no, .int .i64 vk, .int .i64 vi, .string vt, .string t, .string nm, .slice a n ac, .slice s m sc]] w (RetBel (.bool (n == 0 && m == 0)) w) := by
  by_cases hn : n = 0
  · subst hn
    by_cases hm : m = 0
    · subst hm
      go_enter Tryz.func180, Tryz.ntmps180
      go_wp2_with fail
      go_ret
      exact ⟨rfl, (Below.refl _ _).alloc (Nat.le_refl _) _⟩
    · have hm' : ((m : Int) == 0) = false := by simpa using hm
      have H : Hid ((0 == 0 && m == 0) = false) := Lib.hid (by simpa using hm)
      have hm'' : ((m : Int) != 0) = true := by simpa using hm
      clear hm
      go_enter Tryz.func180, Tryz.ntmps180
      go_wp2_with fail
      go_ret
      exact ⟨by rw [H.out]; rfl, (Below.refl _ _).alloc (Nat.le_refl _) _⟩
  · have H : Hid ((n == 0 && m == 0) = false) := Lib.hid (by simp [hn])
    have hn' : ((n : Int) == 0) = false := by simp; omega
    have hn'' : ((n : Int) != 0) = true := by simp; omega
    clear hn
    go_enter Tryz.func180, Tryz.ntmps180
    go_wp2_with fail
    go_ret
    exact ⟨by rw [H.out]; rfl, (Below.refl _ _).alloc (Nat.le_refl _) _⟩

set_option maxHeartbeats 1000000 in
theorem formed_2 (o : Int) (no : Bool) (vk vi : Int) (vt t nm : ByteArray) (a s : Option Addr) (n m ac sc : Nat) (w : World) :
    Calls Tryz.prog 180 #[.agg #[.int .i64 2, .int .i64 o, .bool no, .int .i64 vk, .int .i64 vi, .string vt, .string t, .string nm, .slice a n ac, .slice s m sc]] w (RetBel (.bool (n == 0 && m == 0)) w) := by
  by_cases hn : n = 0
  · subst hn
    by_cases hm : m = 0
    · subst hm
      go_enter Tryz.func180, Tryz.ntmps180
      go_wp2_with fail
      go_ret
      exact ⟨rfl, (Below.refl _ _).alloc (Nat.le_refl _) _⟩
    · have hm' : ((m : Int) == 0) = false := by simpa using hm
      have H : Hid ((0 == 0 && m == 0) = false) := Lib.hid (by simpa using hm)
      have hm'' : ((m : Int) != 0) = true := by simpa using hm
      clear hm
      go_enter Tryz.func180, Tryz.ntmps180
      go_wp2_with fail
      go_ret
      exact ⟨by rw [H.out]; rfl, (Below.refl _ _).alloc (Nat.le_refl _) _⟩
  · have H : Hid ((n == 0 && m == 0) = false) := Lib.hid (by simp [hn])
    have hn' : ((n : Int) == 0) = false := by simp; omega
    have hn'' : ((n : Int) != 0) = true := by simp; omega
    clear hn
    go_enter Tryz.func180, Tryz.ntmps180
    go_wp2_with fail
    go_ret
    exact ⟨by rw [H.out]; rfl, (Below.refl _ _).alloc (Nat.le_refl _) _⟩

set_option maxHeartbeats 1000000 in
theorem formed_3 (o : Int) (no : Bool) (vk vi : Int) (vt t nm : ByteArray) (a s : Option Addr) (n m ac sc : Nat) (w : World) :
    Calls Tryz.prog 180 #[.agg #[.int .i64 3, .int .i64 o, .bool no, .int .i64 vk, .int .i64 vi, .string vt, .string t, .string nm, .slice a n ac, .slice s m sc]] w (RetBel (.bool (n == 1 && m == 0)) w) := by
  by_cases hn : n = 1
  · subst hn
    by_cases hm : m = 0
    · subst hm
      go_enter Tryz.func180, Tryz.ntmps180
      go_wp2_with fail
      go_ret
      exact ⟨rfl, (Below.refl _ _).alloc (Nat.le_refl _) _⟩
    · have hm' : ((m : Int) == 0) = false := by simpa using hm
      have H : Hid ((1 == 1 && m == 0) = false) := Lib.hid (by simpa using hm)
      have hm'' : ((m : Int) != 0) = true := by simpa using hm
      clear hm
      go_enter Tryz.func180, Tryz.ntmps180
      go_wp2_with fail
      go_ret
      exact ⟨by rw [H.out]; rfl, (Below.refl _ _).alloc (Nat.le_refl _) _⟩
  · have H : Hid ((n == 1 && m == 0) = false) := Lib.hid (by simp [hn])
    have hn' : ((n : Int) == 1) = false := by simp; omega
    have hn'' : ((n : Int) != 1) = true := by simp; omega
    clear hn
    go_enter Tryz.func180, Tryz.ntmps180
    go_wp2_with fail
    go_ret
    exact ⟨by rw [H.out]; rfl, (Below.refl _ _).alloc (Nat.le_refl _) _⟩

set_option maxHeartbeats 1000000 in
theorem formed_4 (o : Int) (no : Bool) (vk vi : Int) (vt t nm : ByteArray) (a s : Option Addr) (n m ac sc : Nat) (w : World) :
    Calls Tryz.prog 180 #[.agg #[.int .i64 4, .int .i64 o, .bool no, .int .i64 vk, .int .i64 vi, .string vt, .string t, .string nm, .slice a n ac, .slice s m sc]] w (RetBel (.bool (n == 1 && m == 0)) w) := by
  by_cases hn : n = 1
  · subst hn
    by_cases hm : m = 0
    · subst hm
      go_enter Tryz.func180, Tryz.ntmps180
      go_wp2_with fail
      go_ret
      exact ⟨rfl, (Below.refl _ _).alloc (Nat.le_refl _) _⟩
    · have hm' : ((m : Int) == 0) = false := by simpa using hm
      have H : Hid ((1 == 1 && m == 0) = false) := Lib.hid (by simpa using hm)
      have hm'' : ((m : Int) != 0) = true := by simpa using hm
      clear hm
      go_enter Tryz.func180, Tryz.ntmps180
      go_wp2_with fail
      go_ret
      exact ⟨by rw [H.out]; rfl, (Below.refl _ _).alloc (Nat.le_refl _) _⟩
  · have H : Hid ((n == 1 && m == 0) = false) := Lib.hid (by simp [hn])
    have hn' : ((n : Int) == 1) = false := by simp; omega
    have hn'' : ((n : Int) != 1) = true := by simp; omega
    clear hn
    go_enter Tryz.func180, Tryz.ntmps180
    go_wp2_with fail
    go_ret
    exact ⟨by rw [H.out]; rfl, (Below.refl _ _).alloc (Nat.le_refl _) _⟩

set_option maxHeartbeats 1000000 in
theorem formed_6 (o : Int) (no : Bool) (vk vi : Int) (vt t nm : ByteArray) (a s : Option Addr) (n m ac sc : Nat) (w : World) :
    Calls Tryz.prog 180 #[.agg #[.int .i64 6, .int .i64 o, .bool no, .int .i64 vk, .int .i64 vi, .string vt, .string t, .string nm, .slice a n ac, .slice s m sc]] w (RetBel (.bool (n == 1 && m == 0)) w) := by
  by_cases hn : n = 1
  · subst hn
    by_cases hm : m = 0
    · subst hm
      go_enter Tryz.func180, Tryz.ntmps180
      go_wp2_with fail
      go_ret
      exact ⟨rfl, (Below.refl _ _).alloc (Nat.le_refl _) _⟩
    · have hm' : ((m : Int) == 0) = false := by simpa using hm
      have H : Hid ((1 == 1 && m == 0) = false) := Lib.hid (by simpa using hm)
      have hm'' : ((m : Int) != 0) = true := by simpa using hm
      clear hm
      go_enter Tryz.func180, Tryz.ntmps180
      go_wp2_with fail
      go_ret
      exact ⟨by rw [H.out]; rfl, (Below.refl _ _).alloc (Nat.le_refl _) _⟩
  · have H : Hid ((n == 1 && m == 0) = false) := Lib.hid (by simp [hn])
    have hn' : ((n : Int) == 1) = false := by simp; omega
    have hn'' : ((n : Int) != 1) = true := by simp; omega
    clear hn
    go_enter Tryz.func180, Tryz.ntmps180
    go_wp2_with fail
    go_ret
    exact ⟨by rw [H.out]; rfl, (Below.refl _ _).alloc (Nat.le_refl _) _⟩

set_option maxHeartbeats 1000000 in
theorem formed_7 (o : Int) (no : Bool) (vk vi : Int) (vt t nm : ByteArray) (a s : Option Addr) (n m ac sc : Nat) (w : World) :
    Calls Tryz.prog 180 #[.agg #[.int .i64 7, .int .i64 o, .bool no, .int .i64 vk, .int .i64 vi, .string vt, .string t, .string nm, .slice a n ac, .slice s m sc]] w (RetBel (.bool (n == 3 && m == 0)) w) := by
  by_cases hn : n = 3
  · subst hn
    by_cases hm : m = 0
    · subst hm
      go_enter Tryz.func180, Tryz.ntmps180
      go_wp2_with fail
      go_ret
      exact ⟨rfl, (Below.refl _ _).alloc (Nat.le_refl _) _⟩
    · have hm' : ((m : Int) == 0) = false := by simpa using hm
      have H : Hid ((3 == 3 && m == 0) = false) := Lib.hid (by simpa using hm)
      have hm'' : ((m : Int) != 0) = true := by simpa using hm
      clear hm
      go_enter Tryz.func180, Tryz.ntmps180
      go_wp2_with fail
      go_ret
      exact ⟨by rw [H.out]; rfl, (Below.refl _ _).alloc (Nat.le_refl _) _⟩
  · have H : Hid ((n == 3 && m == 0) = false) := Lib.hid (by simp [hn])
    have hn' : ((n : Int) == 3) = false := by simp; omega
    have hn'' : ((n : Int) != 3) = true := by simp; omega
    clear hn
    go_enter Tryz.func180, Tryz.ntmps180
    go_wp2_with fail
    go_ret
    exact ⟨by rw [H.out]; rfl, (Below.refl _ _).alloc (Nat.le_refl _) _⟩

set_option maxHeartbeats 1000000 in
theorem formed_8 (o : Int) (no : Bool) (vk vi : Int) (vt t nm : ByteArray) (a s : Option Addr) (n m ac sc : Nat) (w : World) (h : n ≠ 0 ∨ m ≠ 1) :
    Calls Tryz.prog 180 #[.agg #[.int .i64 8, .int .i64 o, .bool no, .int .i64 vk, .int .i64 vi, .string vt, .string t, .string nm, .slice a n ac, .slice s m sc]] w (RetBel (.bool false) w) := by
  by_cases hn : n = 0
  · have hm : m ≠ 1 := by omega
    subst hn
    have hm' : ((m : Int) == 1) = false := by simp; omega
    have hm'' : ((m : Int) != 1) = true := by simp; omega
    clear hm h
    go_enter Tryz.func180, Tryz.ntmps180
    go_wp2_with fail
    go_ret
    exact ⟨rfl, (Below.refl _ _).alloc (Nat.le_refl _) _⟩
  · have hn' : ((n : Int) == 0) = false := by simpa using hn
    have hn'' : ((n : Int) != 0) = true := by simpa using hn
    clear hn h
    go_enter Tryz.func180, Tryz.ntmps180
    go_wp2_with fail
    go_ret
    exact ⟨rfl, (Below.refl _ _).alloc (Nat.le_refl _) _⟩

set_option maxHeartbeats 1000000 in
theorem formedq_8 (o : Int) (no : Bool) (vk vi : Int) (vt t nm : ByteArray) (a : Option Addr) (ac sc b off : Nat) (ni ci nw cw : Nat) (ai aw : Option Addr) (w : World) (hb : b < w.heap.size)
    (h1 : w.cell? ⟨b, off + 1, none⟩ = some (.slice ai ni ci)) (h3 : w.cell? ⟨b, off + 3, none⟩ = some (.slice aw nw cw)) :
    Calls Tryz.prog 180 #[.agg #[.int .i64 8, .int .i64 o, .bool no, .int .i64 vk, .int .i64 vi, .string vt, .string t, .string nm, .slice a 0 ac, .slice (some ⟨b, off, none⟩) 1 sc]] w (RetBel (.bool (ni == 0 && decide (nw ≤ 1))) w) := by
  by_cases hn : ni = 0
  · subst hn
    go_enter Tryz.func180, Tryz.ntmps180
    go_wp2_with fail
    go_ret
    exact ⟨by simp; try omega, (Below.refl _ _).alloc (Nat.le_refl _) _⟩
  · have H : Hid ((ni == 0 && decide (nw ≤ 1)) = false) := Lib.hid (by simp [hn])
    have hn' : ((ni : Int) == 0) = false := by simp; omega
    clear hn
    go_enter Tryz.func180, Tryz.ntmps180
    go_wp2_with fail
    go_ret
    exact ⟨by rw [H.out]; rfl, (Below.refl _ _).alloc (Nat.le_refl _) _⟩

set_option maxHeartbeats 1000000 in
theorem formed_9 (o : Int) (no : Bool) (vk vi : Int) (vt t nm : ByteArray) (a s : Option Addr) (n m ac sc : Nat) (w : World) (h : n ≠ 0 ∨ m ≠ 1) :
    Calls Tryz.prog 180 #[.agg #[.int .i64 9, .int .i64 o, .bool no, .int .i64 vk, .int .i64 vi, .string vt, .string t, .string nm, .slice a n ac, .slice s m sc]] w (RetBel (.bool false) w) := by
  by_cases hn : n = 0
  · have hm : m ≠ 1 := by omega
    subst hn
    have hm' : ((m : Int) == 1) = false := by simp; omega
    have hm'' : ((m : Int) != 1) = true := by simp; omega
    clear hm h
    go_enter Tryz.func180, Tryz.ntmps180
    go_wp2_with fail
    go_ret
    exact ⟨rfl, (Below.refl _ _).alloc (Nat.le_refl _) _⟩
  · have hn' : ((n : Int) == 0) = false := by simpa using hn
    have hn'' : ((n : Int) != 0) = true := by simpa using hn
    clear hn h
    go_enter Tryz.func180, Tryz.ntmps180
    go_wp2_with fail
    go_ret
    exact ⟨rfl, (Below.refl _ _).alloc (Nat.le_refl _) _⟩

set_option maxHeartbeats 1000000 in
theorem formedq_9 (o : Int) (no : Bool) (vk vi : Int) (vt t nm : ByteArray) (a : Option Addr) (ac sc b off : Nat) (ni ci nw cw : Nat) (ai aw : Option Addr) (w : World) (hb : b < w.heap.size)
    (h1 : w.cell? ⟨b, off + 1, none⟩ = some (.slice ai ni ci)) (h3 : w.cell? ⟨b, off + 3, none⟩ = some (.slice aw nw cw)) :
    Calls Tryz.prog 180 #[.agg #[.int .i64 9, .int .i64 o, .bool no, .int .i64 vk, .int .i64 vi, .string vt, .string t, .string nm, .slice a 0 ac, .slice (some ⟨b, off, none⟩) 1 sc]] w (RetBel (.bool (ni == 0 && decide (nw ≤ 1))) w) := by
  by_cases hn : ni = 0
  · subst hn
    go_enter Tryz.func180, Tryz.ntmps180
    go_wp2_with fail
    go_ret
    exact ⟨by simp; try omega, (Below.refl _ _).alloc (Nat.le_refl _) _⟩
  · have H : Hid ((ni == 0 && decide (nw ≤ 1)) = false) := Lib.hid (by simp [hn])
    have hn' : ((ni : Int) == 0) = false := by simp; omega
    clear hn
    go_enter Tryz.func180, Tryz.ntmps180
    go_wp2_with fail
    go_ret
    exact ⟨by rw [H.out]; rfl, (Below.refl _ _).alloc (Nat.le_refl _) _⟩

set_option maxHeartbeats 1000000 in
theorem formed_10 (o : Int) (no : Bool) (vk vi : Int) (vt t nm : ByteArray) (a s : Option Addr) (n m ac sc : Nat) (w : World) (h : n ≠ 0 ∨ m ≠ 1) :
    Calls Tryz.prog 180 #[.agg #[.int .i64 10, .int .i64 o, .bool no, .int .i64 vk, .int .i64 vi, .string vt, .string t, .string nm, .slice a n ac, .slice s m sc]] w (RetBel (.bool false) w) := by
  by_cases hn : n = 0
  · have hm : m ≠ 1 := by omega
    subst hn
    have hm' : ((m : Int) == 1) = false := by simp; omega
    have hm'' : ((m : Int) != 1) = true := by simp; omega
    clear hm h
    go_enter Tryz.func180, Tryz.ntmps180
    go_wp2_with fail
    go_ret
    exact ⟨rfl, (Below.refl _ _).alloc (Nat.le_refl _) _⟩
  · have hn' : ((n : Int) == 0) = false := by simpa using hn
    have hn'' : ((n : Int) != 0) = true := by simpa using hn
    clear hn h
    go_enter Tryz.func180, Tryz.ntmps180
    go_wp2_with fail
    go_ret
    exact ⟨rfl, (Below.refl _ _).alloc (Nat.le_refl _) _⟩

set_option maxHeartbeats 1000000 in
theorem formedq_10 (o : Int) (no : Bool) (vk vi : Int) (vt t nm : ByteArray) (a : Option Addr) (ac sc b off : Nat) (ni ci nw cw : Nat) (ai aw : Option Addr) (w : World) (hb : b < w.heap.size)
    (h1 : w.cell? ⟨b, off + 1, none⟩ = some (.slice ai ni ci)) (h3 : w.cell? ⟨b, off + 3, none⟩ = some (.slice aw nw cw)) :
    Calls Tryz.prog 180 #[.agg #[.int .i64 10, .int .i64 o, .bool no, .int .i64 vk, .int .i64 vi, .string vt, .string t, .string nm, .slice a 0 ac, .slice (some ⟨b, off, none⟩) 1 sc]] w (RetBel (.bool (ni == 1 && decide (nw ≤ 1))) w) := by
  by_cases hn : ni = 1
  · subst hn
    go_enter Tryz.func180, Tryz.ntmps180
    go_wp2_with fail
    go_ret
    exact ⟨by simp; try omega, (Below.refl _ _).alloc (Nat.le_refl _) _⟩
  · have H : Hid ((ni == 1 && decide (nw ≤ 1)) = false) := Lib.hid (by simp [hn])
    have hn' : ((ni : Int) == 1) = false := by simp; omega
    clear hn
    go_enter Tryz.func180, Tryz.ntmps180
    go_wp2_with fail
    go_ret
    exact ⟨by rw [H.out]; rfl, (Below.refl _ _).alloc (Nat.le_refl _) _⟩

set_option maxHeartbeats 1000000 in
theorem formed_11 (o : Int) (no : Bool) (vk vi : Int) (vt t nm : ByteArray) (a s : Option Addr) (n m ac sc : Nat) (w : World) (h : n ≠ 0 ∨ m ≠ 1) :
    Calls Tryz.prog 180 #[.agg #[.int .i64 11, .int .i64 o, .bool no, .int .i64 vk, .int .i64 vi, .string vt, .string t, .string nm, .slice a n ac, .slice s m sc]] w (RetBel (.bool false) w) := by
  by_cases hn : n = 0
  · have hm : m ≠ 1 := by omega
    subst hn
    have hm' : ((m : Int) == 1) = false := by simp; omega
    have hm'' : ((m : Int) != 1) = true := by simp; omega
    clear hm h
    go_enter Tryz.func180, Tryz.ntmps180
    go_wp2_with fail
    go_ret
    exact ⟨rfl, (Below.refl _ _).alloc (Nat.le_refl _) _⟩
  · have hn' : ((n : Int) == 0) = false := by simpa using hn
    have hn'' : ((n : Int) != 0) = true := by simpa using hn
    clear hn h
    go_enter Tryz.func180, Tryz.ntmps180
    go_wp2_with fail
    go_ret
    exact ⟨rfl, (Below.refl _ _).alloc (Nat.le_refl _) _⟩

set_option maxHeartbeats 1000000 in
theorem formedq_11 (o : Int) (no : Bool) (vk vi : Int) (vt t nm : ByteArray) (a : Option Addr) (ac sc b off : Nat) (ni ci nw cw : Nat) (ai aw : Option Addr) (w : World) (hb : b < w.heap.size)
    (h1 : w.cell? ⟨b, off + 1, none⟩ = some (.slice ai ni ci)) (h3 : w.cell? ⟨b, off + 3, none⟩ = some (.slice aw nw cw)) :
    Calls Tryz.prog 180 #[.agg #[.int .i64 11, .int .i64 o, .bool no, .int .i64 vk, .int .i64 vi, .string vt, .string t, .string nm, .slice a 0 ac, .slice (some ⟨b, off, none⟩) 1 sc]] w (RetBel (.bool (ni == 1 && decide (nw ≤ 1))) w) := by
  by_cases hn : ni = 1
  · subst hn
    go_enter Tryz.func180, Tryz.ntmps180
    go_wp2_with fail
    go_ret
    exact ⟨by simp; try omega, (Below.refl _ _).alloc (Nat.le_refl _) _⟩
  · have H : Hid ((ni == 1 && decide (nw ≤ 1)) = false) := Lib.hid (by simp [hn])
    have hn' : ((ni : Int) == 1) = false := by simp; omega
    clear hn
    go_enter Tryz.func180, Tryz.ntmps180
    go_wp2_with fail
    go_ret
    exact ⟨by rw [H.out]; rfl, (Below.refl _ _).alloc (Nat.le_refl _) _⟩

set_option maxHeartbeats 1000000 in
theorem formed_12 (o : Int) (no : Bool) (vk vi : Int) (vt t nm : ByteArray) (a s : Option Addr) (n m ac sc : Nat) (w : World) (h : n ≠ 0 ∨ m ≠ 1) :
    Calls Tryz.prog 180 #[.agg #[.int .i64 12, .int .i64 o, .bool no, .int .i64 vk, .int .i64 vi, .string vt, .string t, .string nm, .slice a n ac, .slice s m sc]] w (RetBel (.bool false) w) := by
  by_cases hn : n = 0
  · have hm : m ≠ 1 := by omega
    subst hn
    have hm' : ((m : Int) == 1) = false := by simp; omega
    have hm'' : ((m : Int) != 1) = true := by simp; omega
    clear hm h
    go_enter Tryz.func180, Tryz.ntmps180
    go_wp2_with fail
    go_ret
    exact ⟨rfl, (Below.refl _ _).alloc (Nat.le_refl _) _⟩
  · have hn' : ((n : Int) == 0) = false := by simpa using hn
    have hn'' : ((n : Int) != 0) = true := by simpa using hn
    clear hn h
    go_enter Tryz.func180, Tryz.ntmps180
    go_wp2_with fail
    go_ret
    exact ⟨rfl, (Below.refl _ _).alloc (Nat.le_refl _) _⟩

set_option maxHeartbeats 1000000 in
theorem formedq_12 (o : Int) (no : Bool) (vk vi : Int) (vt t nm : ByteArray) (a : Option Addr) (ac sc b off : Nat) (ni ci nw cw : Nat) (ai aw : Option Addr) (w : World) (hb : b < w.heap.size)
    (h1 : w.cell? ⟨b, off + 1, none⟩ = some (.slice ai ni ci)) (h3 : w.cell? ⟨b, off + 3, none⟩ = some (.slice aw nw cw)) :
    Calls Tryz.prog 180 #[.agg #[.int .i64 12, .int .i64 o, .bool no, .int .i64 vk, .int .i64 vi, .string vt, .string t, .string nm, .slice a 0 ac, .slice (some ⟨b, off, none⟩) 1 sc]] w (RetBel (.bool (ni == 1 && decide (nw ≤ 1))) w) := by
  by_cases hn : ni = 1
  · subst hn
    go_enter Tryz.func180, Tryz.ntmps180
    go_wp2_with fail
    go_ret
    exact ⟨by simp; try omega, (Below.refl _ _).alloc (Nat.le_refl _) _⟩
  · have H : Hid ((ni == 1 && decide (nw ≤ 1)) = false) := Lib.hid (by simp [hn])
    have hn' : ((ni : Int) == 1) = false := by simp; omega
    clear hn
    go_enter Tryz.func180, Tryz.ntmps180
    go_wp2_with fail
    go_ret
    exact ⟨by rw [H.out]; rfl, (Below.refl _ _).alloc (Nat.le_refl _) _⟩

section
variable (o : Int) (no : Bool) (vk vi : Int) (vt t nm : ByteArray) (a s : Option Addr) (n m ac sc : Nat) (w : World)
set_option maxHeartbeats 1000000 in
theorem formed_5' (r : Bool) (hr : r = (decide (1 ≤ o) && decide (o ≤ 13) && n == 2 && m == 0)) : Calls Tryz.prog 180 #[.agg #[.int .i64 5, .int .i64 o, .bool no, .int .i64 vk, .int .i64 vi, .string vt, .string t, .string nm, .slice a n ac, .slice s m sc]] w (RetBel (.bool r) w) := by
  by_cases h1 : o < 1
  · have e1 : decide (1 ≤ o) = false := by simp; omega
    rw [e1] at hr
    subst hr
    clear e1
    go_enter Tryz.func180, Tryz.ntmps180
    go_wp2_with fail
    go_ret
    exact ⟨rfl, (Below.refl _ _).alloc (Nat.le_refl _) _⟩
  have e1 : decide (1 ≤ o) = true := by simp; omega
  by_cases h2 : 13 < o
  · have e2 : decide (o ≤ 13) = false := by simp; omega
    rw [e1, e2] at hr
    subst hr
    clear e1 e2
    go_enter Tryz.func180, Tryz.ntmps180
    go_wp2_with fail
    go_ret
    exact ⟨rfl, (Below.refl _ _).alloc (Nat.le_refl _) _⟩
  have e2 : decide (o ≤ 13) = true := by simp; omega
  rw [e1, e2] at hr
  clear e1 e2
  by_cases hn : n = 2
  · subst hn
    by_cases hm : m = 0
    · subst hm
      subst hr
      go_enter Tryz.func180, Tryz.ntmps180
      go_wp2_with fail
      go_ret
      exact ⟨rfl, (Below.refl _ _).alloc (Nat.le_refl _) _⟩
    · have hm' : ((m : Int) == 0) = false := by simpa using hm
      have H : r = false := by rw [hr]; simpa using hm
      have hm'' : ((m : Int) != 0) = true := by simpa using hm
      clear hm hr
      subst H
      go_enter Tryz.func180, Tryz.ntmps180
      go_wp2_with fail
      go_ret
      exact ⟨rfl, (Below.refl _ _).alloc (Nat.le_refl _) _⟩
  · have H : r = false := by rw [hr]; simp [hn]
    have hn' : ((n : Int) == 2) = false := by simp; omega
    have hn'' : ((n : Int) != 2) = true := by simp; omega
    clear hn hr
    subst H
    go_enter Tryz.func180, Tryz.ntmps180
    go_wp2_with fail
    go_ret
    exact ⟨rfl, (Below.refl _ _).alloc (Nat.le_refl _) _⟩

set_option maxHeartbeats 1000000 in
theorem formed_x (k : Int) (h : k < 1 ∨ 12 < k) : Calls Tryz.prog 180 #[.agg #[.int .i64 k, .int .i64 o, .bool no, .int .i64 vk, .int .i64 vi, .string vt, .string t, .string nm, .slice a n ac, .slice s m sc]] w (RetBel (.bool false) w) := by
  have b1 : (k == 1) = false := by simp; omega
  have b2 : (k == 2) = false := by simp; omega
  have b3 : (k == 3) = false := by simp; omega
  have b4 : (k == 4) = false := by simp; omega
  have b5 : (k == 5) = false := by simp; omega
  have b6 : (k == 6) = false := by simp; omega
  have b7 : (k == 7) = false := by simp; omega
  have b8 : (k == 8) = false := by simp; omega
  have b9 : (k == 9) = false := by simp; omega
  have b10 : (k == 10) = false := by simp; omega
  have b11 : (k == 11) = false := by simp; omega
  have b12 : (k == 12) = false := by simp; omega
  clear h
  go_enter Tryz.func180, Tryz.ntmps180
  go_wp2_with fail
  go_ret
  exact ⟨rfl, (Below.refl _ _).alloc (Nat.le_refl _) _⟩
end

theorem no_sub {e : Ex} {items : Nat} (h : e.args.length ≠ 0 ∨ e.sub.length ≠ 1) : (e.args.length == 0 && subOk items e.sub) = false := by
  by_cases h0 : e.args.length = 0
  · have h1 : e.sub.length ≠ 1 := by omega
    have : subOk items e.sub = false := by
      match hq : e.sub with
      | [] => rfl
      | [q] => simp [hq] at h1
      | q :: r :: l => rfl
    simp [this]
  · simp [h0]

theorem formed_any (e : Ex) (cs : List Value) (w : World) (h : EC NoM w e cs) : Calls Tryz.prog 180 #[.agg cs.toArray] w (RetBel (.bool (formed e)) w) := by
  obtain ⟨va, vs, rfl, ha, hs⟩ := (EC_iff ..).1 h
  obtain ⟨a, ac, rfl, _⟩ := ha.shape
  obtain ⟨s, sc, rfl, _⟩ := hs.shape
  show Calls Tryz.prog 180 #[.agg #[.int .i64 e.kind, .int .i64 e.op, .bool e.no, .int .i64 e.val.kind, .int .i64 e.val.int, .string e.val.text, .string e.table, .string e.name, .slice a e.args.length ac, .slice s e.sub.length sc]] w _
  have hsub : ∀ items, ¬ (e.args.length ≠ 0 ∨ e.sub.length ≠ 1) → ∃ b off q ai ni ci aw nw cw, s = some ⟨b, off, none⟩ ∧ e.args.length = 0 ∧ e.sub = [q] ∧ b < w.heap.size ∧ w.cell? ⟨b, off + 1, none⟩ = some (.slice ai ni ci) ∧ w.cell? ⟨b, off + 3, none⟩ = some (.slice aw nw cw) ∧ subOk items e.sub = (ni == items && decide (nw ≤ 1)) := by
    intro items hh
    have h0 : e.args.length = 0 := by omega
    have h1 : e.sub.length = 1 := by omega
    match hq : e.sub, h1 with
    | [q], _ =>
      rw [hq] at hs
      rcases hs.open with ⟨_, h⟩ | ⟨b, o, cap, hv, hT, hb, hl, hm, hx⟩
      · cases h
      · simp only [Value.slice.injEq] at hv
        obtain ⟨rfl, _, rfl⟩ := hv
        obtain ⟨cs, hc, _, hcs⟩ := hx 0 q rfl
        obtain ⟨vi, vw, rfl, hi, hw⟩ := (QC_iff ..).1 hc
        obtain ⟨ai, ci, rfl, _⟩ := hi.shape
        obtain ⟨aw, cw, rfl, _⟩ := hw.shape
        rw [Nat.zero_mul, Nat.add_zero] at hcs
        exact ⟨b, o, q, ai, _, ci, aw, _, cw, rfl, h0, rfl, hb, hcs.c4.2.1, hcs.c4.2.2.2, rfl⟩
  have fl : ∀ k : Int, e.kind = k → formed e = formed e := fun _ _ => rfl
  unfold formed
  by_cases k1 : e.kind = 1
  · rw [k1, if_pos (.inl rfl)]; exact formed_1 _ _ _ _ _ _ _ _ _ _ _ _ _ _
  by_cases k2 : e.kind = 2
  · rw [k2, if_pos (.inr rfl)]; exact formed_2 _ _ _ _ _ _ _ _ _ _ _ _ _ _
  rw [if_neg (by omega)]
  by_cases k3 : e.kind = 3
  · rw [k3, if_pos (.inl rfl)]; exact formed_3 _ _ _ _ _ _ _ _ _ _ _ _ _ _
  by_cases k4 : e.kind = 4
  · rw [k4, if_pos (.inr (.inl rfl))]; exact formed_4 _ _ _ _ _ _ _ _ _ _ _ _ _ _
  by_cases k6 : e.kind = 6
  · rw [k6, if_pos (.inr (.inr rfl))]; exact formed_6 _ _ _ _ _ _ _ _ _ _ _ _ _ _
  rw [if_neg (by omega)]
  by_cases k5 : e.kind = 5
  · rw [k5, if_pos rfl]; exact formed_5' _ _ _ _ _ _ _ _ _ _ _ _ _ _ _ rfl
  rw [if_neg k5]
  by_cases k7 : e.kind = 7
  · rw [k7, if_pos rfl]; exact formed_7 _ _ _ _ _ _ _ _ _ _ _ _ _ _
  rw [if_neg k7]
  by_cases k8 : e.kind = 8
  · rw [k8, if_pos (.inl rfl)]
    by_cases hh : e.args.length ≠ 0 ∨ e.sub.length ≠ 1
    · rw [no_sub hh]; exact formed_8 _ _ _ _ _ _ _ _ _ _ _ _ _ _ hh
    · obtain ⟨b, off, q, ai, ni, ci, aw, nw, cw, rfl, h0, h1, hb, c1, c3, hsb⟩ := hsub 0 hh
      rw [hsb, h0, h1]; exact formedq_8 _ _ _ _ _ _ _ _ _ _ _ _ _ _ _ _ _ _ _ hb c1 c3
  by_cases k9 : e.kind = 9
  · rw [k9, if_pos (.inr rfl)]
    by_cases hh : e.args.length ≠ 0 ∨ e.sub.length ≠ 1
    · rw [no_sub hh]; exact formed_9 _ _ _ _ _ _ _ _ _ _ _ _ _ _ hh
    · obtain ⟨b, off, q, ai, ni, ci, aw, nw, cw, rfl, h0, h1, hb, c1, c3, hsb⟩ := hsub 0 hh
      rw [hsb, h0, h1]; exact formedq_9 _ _ _ _ _ _ _ _ _ _ _ _ _ _ _ _ _ _ _ hb c1 c3
  rw [if_neg (by omega)]
  by_cases k10 : e.kind = 10
  · rw [k10, if_pos (.inl rfl)]
    by_cases hh : e.args.length ≠ 0 ∨ e.sub.length ≠ 1
    · rw [no_sub hh]; exact formed_10 _ _ _ _ _ _ _ _ _ _ _ _ _ _ hh
    · obtain ⟨b, off, q, ai, ni, ci, aw, nw, cw, rfl, h0, h1, hb, c1, c3, hsb⟩ := hsub 1 hh
      rw [hsb, h0, h1]; exact formedq_10 _ _ _ _ _ _ _ _ _ _ _ _ _ _ _ _ _ _ _ hb c1 c3
  by_cases k11 : e.kind = 11
  · rw [k11, if_pos (.inr (.inl rfl))]
    by_cases hh : e.args.length ≠ 0 ∨ e.sub.length ≠ 1
    · rw [no_sub hh]; exact formed_11 _ _ _ _ _ _ _ _ _ _ _ _ _ _ hh
    · obtain ⟨b, off, q, ai, ni, ci, aw, nw, cw, rfl, h0, h1, hb, c1, c3, hsb⟩ := hsub 1 hh
      rw [hsb, h0, h1]; exact formedq_11 _ _ _ _ _ _ _ _ _ _ _ _ _ _ _ _ _ _ _ hb c1 c3
  by_cases k12 : e.kind = 12
  · rw [k12, if_pos (.inr (.inr rfl))]
    by_cases hh : e.args.length ≠ 0 ∨ e.sub.length ≠ 1
    · rw [no_sub hh]; exact formed_12 _ _ _ _ _ _ _ _ _ _ _ _ _ _ hh
    · obtain ⟨b, off, q, ai, ni, ci, aw, nw, cw, rfl, h0, h1, hb, c1, c3, hsb⟩ := hsub 1 hh
      rw [hsb, h0, h1]; exact formedq_12 _ _ _ _ _ _ _ _ _ _ _ _ _ _ _ _ _ _ _ hb c1 c3
  rw [if_neg (by omega)]
  exact formed_x _ _ _ _ _ _ _ _ _ _ _ _ _ _ _ (by omega)

end Go.Proofs.YtkhlmofcdchccaaGreatDoor

namespace Go.Proofs.YtkhlmofcdchccaaGreatDoor
open Go.RowKit

theorem CellsAt.c10 {w : World} {b o : Nat} {a0 a1 a2 a3 a4 a5 a6 a7 a8 a9 : Value} (h : CellsAt w b o [a0, a1, a2, a3, a4, a5, a6, a7, a8, a9]) :
    w.cell? ⟨b, o, none⟩ = some a0 ∧ w.cell? ⟨b, o + 1, none⟩ = some a1 ∧ w.cell? ⟨b, o + 2, none⟩ = some a2 ∧ w.cell? ⟨b, o + 3, none⟩ = some a3 ∧ w.cell? ⟨b, o + 4, none⟩ = some a4 ∧
    w.cell? ⟨b, o + 5, none⟩ = some a5 ∧ w.cell? ⟨b, o + 6, none⟩ = some a6 ∧ w.cell? ⟨b, o + 7, none⟩ = some a7 ∧ w.cell? ⟨b, o + 8, none⟩ = some a8 ∧ w.cell? ⟨b, o + 9, none⟩ = some a9 :=
  ⟨h 0 _ rfl, h 1 _ rfl, h 2 _ rfl, h 3 _ rfl, h 4 _ rfl, h 5 _ rfl, h 6 _ rfl, h 7 _ rfl, h 8 _ rfl, h 9 _ rfl⟩

def ColsSmall (ts : List Sch) : Prop := ∀ s ∈ ts, s.cols.length * 32 ≤ 140737488355328

/-- What Type does at e, wherever it lies. -/
def TypeOk (ts : List Sch) (e : Ex) : Prop := ∀ (fs : List Frm) (cs : List Value) (vf vt : Value) (w : World), EC NoM w e cs → FrmsR NoM w vf fs → TblsR NoM w vt ts → fs.length + dep e ≤ 1000000000 →
  Calls Tryz.prog 135 #[.agg cs.toArray, vf, vt] w (RetII (typeP ts e fs) w)

set_option maxHeartbeats 1000000 in
theorem condition_any (ts : List Sch) (l : List Ex) (fs : List Frm) (vl vf vt : Value) (w : World) (ht : ∀ e ∈ l, TypeOk ts e) (hl : ExsR NoM w vl l) (hf : FrmsR NoM w vf fs) (hts : TblsR NoM w vt ts) (hd : fs.length + depL l ≤ 1000000000) :
    Calls Tryz.prog 87 #[vl, vf, vt] w (RetBel (.int .i64 (typeC ts l fs)) w) := by
  cases l with
  | nil =>
    obtain ⟨a, cap, rfl, hm⟩ := hl.shape
    clear ht hl hf hts hd
    go_enter Tryz.func87, Tryz.ntmps87
    go_wp2_with fail
    go_ret
    exact ⟨by rw [typeC]; rfl, Below.refl _ _⟩
  | cons e l =>
    rcases hl.open with ⟨_, h⟩ | ⟨b, o, cap, rfl, _, hb, _, hm, hx⟩
    · cases h
    obtain ⟨cs, hc, _, hcs⟩ := hx 0 e rfl
    have hdep : fs.length + dep e ≤ 1000000000 := by rw [depL] at hd; omega
    have hty := ht e (List.mem_cons_self ..) fs cs vf vt w hc hf hts hdep
    obtain ⟨va, vs, rfl, ha, hs⟩ := (EC_iff ..).1 hc
    obtain ⟨a, ac, rfl, _⟩ := ha.shape
    obtain ⟨s, sc, rfl, _⟩ := hs.shape
    rw [Nat.zero_mul, Nat.add_zero] at hcs
    obtain ⟨c0, c1, c2, c3, c4, c5, c6, c7, c8, c9⟩ := CellsAt.c10 hcs
    have hr : typeC ts (e :: l) fs = condP (typeP ts e fs) := by rw [typeC]
    rw [hr]
    generalize typeP ts e fs = r at hty
    obtain ⟨t, c⟩ := r
    simp only [exCells] at hty
    have HT := Lib.hid hty
    clear hty hx hc ha hs hcs hl hf hts hd hdep ht hr
    have hlen : 0 < (e :: l).length := by simp
    generalize (e :: l).length = n at hlen
    have hn0 : ((n : Int) == 0) = false := by simp; omega
    by_cases h0 : c = 0
    · subst h0
      cases hfit : fitsB t 2 with
      | true =>
        have hfc := fun w => fits_any t 2 w
        rw [hfit] at hfc
        have HR : Hid (condP (t, 0) = 0) := Lib.hid (by simp [condP, hfit])
        have HFC := Lib.hid hfc
        clear hfc hfit
        go_enter Tryz.func87, Tryz.ntmps87
        go_wp2_with (first | (go_at_call 135; refine HT.out.mono ?_; rintro e w1 ⟨rfl, hb1⟩; have HB := Lib.hid hb1; clear hb1) | (go_at_call 136; refine (HFC.out _).mono ?_; rintro e w2 ⟨rfl, rfl⟩))
        go_ret
        exact ⟨by rw [HR.out]; rfl, HB.out⟩
      | false =>
        have hfc := fun w => fits_any t 2 w
        rw [hfit] at hfc
        have HR : Hid (condP (t, 0) = 5) := Lib.hid (by simp [condP, hfit])
        have HFC := Lib.hid hfc
        clear hfc hfit
        go_enter Tryz.func87, Tryz.ntmps87
        go_wp2_with (first | (go_at_call 135; refine HT.out.mono ?_; rintro e w1 ⟨rfl, hb1⟩; have HB := Lib.hid hb1; clear hb1) | (go_at_call 136; refine (HFC.out _).mono ?_; rintro e w2 ⟨rfl, rfl⟩))
        go_ret
        exact ⟨by rw [HR.out]; rfl, HB.out⟩
    · have HR : Hid (condP (t, c) = c) := Lib.hid (by simp [condP, h0])
      have hc0 : (c == 0) = false := by simpa using h0
      clear h0
      go_enter Tryz.func87, Tryz.ntmps87
      go_wp2_with (go_at_call 135; refine HT.out.mono ?_; rintro e w1 ⟨rfl, hb1⟩; have HB := Lib.hid hb1; clear hb1)
      go_ret
      exact ⟨by rw [HR.out]; rfl, HB.out⟩

end Go.Proofs.YtkhlmofcdchccaaGreatDoor

namespace Go.Proofs.YtkhlmofcdchccaaGreatDoor
open Go.RowKit

/-- Some cells, each a block, a place and a value. -/
def Cells (W : World) (L : List (Nat × Nat × Value)) : Prop := ∀ p ∈ L, W.cell? ⟨p.1, p.2.1, none⟩ = some p.2.2
theorem Cells.nil (W : World) : Cells W [] := fun _ h => by cases h
theorem Cells.cons {W : World} {b o : Nat} {v : Value} {L : List (Nat × Nat × Value)} (h : W.cell? ⟨b, o, none⟩ = some v) (hl : Cells W L) : Cells W ((b, o, v) :: L) := by
  intro p hp
  rcases List.mem_cons.1 hp with rfl | hp
  · exact h
  · exact hl p hp
theorem Cells.bel {W W' : World} {L : List (Nat × Nat × Value)} (h : Cells W L) (hb : Below W.heap.size W W') : Cells W' L := fun p hp => by
  have := h p hp
  exact (hb.cell (World.block_lt_of_cell? _ _ this)).trans this
theorem Cells.alloc {W : World} {L : List (Nat × Nat × Value)} (h : Cells W L) (o : Obj) : Cells (W.alloc o) L := h.bel ((Below.refl _ _).alloc (Nat.le_refl _) o)
section
variable (ts : List Sch) (k o : Int) (no : Bool) (vk vi : Int) (vt t nm : ByteArray) (a sa : Option Addr) (an ac : Nat) (sc sb so : Nat) (star : Bool) (frm : ByteArray) (ia wa : Option Addr) (ic wc : Nat) (items whr : List Ex) (fs : List Frm) (vf vtb : Value) (w : World)
  (hsb : sb < w.heap.size) (q0 : w.cell? ⟨sb, so, none⟩ = some (.bool star)) (q1 : w.cell? ⟨sb, so + 1, none⟩ = some (.slice ia items.length ic)) (q2 : w.cell? ⟨sb, so + 2, none⟩ = some (.string frm)) (q3 : w.cell? ⟨sb, so + 3, none⟩ = some (.slice wa whr.length wc))
  (hts : TblsR NoM w vtb ts) (hsm : ColsSmall ts)

include hsb q0 q1 q2 q3 hts in
set_option maxHeartbeats 1000000 in
theorem agg_none (hs : findTbl ts frm = none) :
    Calls Tryz.prog 182 #[.agg #[.int .i64 k, .int .i64 o, .bool no, .int .i64 vk, .int .i64 vi, .string vt, .string t, .string nm, .slice a an ac, .slice (some ⟨sb, so, none⟩) 1 sc], vf, vtb] w (RetII (0, 3) w) := by
  have hsrc := fun (w' : World) (hb : Below w.heap.size w w') => source_none vtb ts frm w' (hts.keep (.bel hb)) hs
  have HS := Lib.hid hsrc
  clear hsrc hts hs
  go_enter Tryz.func182, Tryz.ntmps182
  go_wp2_with (go_at_call 82; refine (HS.out _ (by go_grown)).mono ?_; rintro e w1 ⟨rfl, hb⟩; have HB := Lib.hid hb; clear hb)
  go_ret2
  refine ⟨rfl, ?_⟩
  have h0 : Below w.heap.size w w1 := Below.trans (by go_grown) (HB.out.mono (by simp <;> omega))
  have h1 := h0.size
  go_grown

include hsb q0 q1 q2 q3 hts hsm in
set_option maxHeartbeats 1000000 in
theorem agg_zero (hf : FrmsR NoM w vf fs) (hd : fs.length ≤ 999999999) (i : Nat) (s : Sch) (hs : findTbl ts frm = some i) (hi : ts[i]? = some s) (hn : items.length = 0) (hk : k = 8 ∨ k = 9)
    (hw : ExsR NoM w (.slice wa whr.length wc) whr) (htw : ∀ e ∈ whr, TypeOk ts e) (hdw : fs.length + 1 + depL whr ≤ 1000000000) :
    Calls Tryz.prog 182 #[.agg #[.int .i64 k, .int .i64 o, .bool no, .int .i64 vk, .int .i64 vi, .string vt, .string t, .string nm, .slice a an ac, .slice (some ⟨sb, so, none⟩) 1 sc], vf, vtb] w (RetII (if typeC ts whr (fs ++ [frmOf s]) ≠ 0 then (0, typeC ts whr (fs ++ [frmOf s])) else aggP k 0) w) := by
  have hsrc := fun (w' : World) (hb : Below w.heap.size w w') => source_some vtb ts frm w' i s (hts.keep (.bel hb)) hs hi (hsm s (List.mem_of_getElem? hi))
  have hin := fun (w' : World) (hb : Below w.heap.size w w') vc (hc : ColsR NoM w' vc s.cols) => inside_any vf vc fs s.name s.cols w' (hf.keep (.bel hb)) hc (by omega)
  have hcd := fun (w' : World) (hb : Below w.heap.size w w') v (hv : FrmsR NoM w' v (fs ++ [frmOf s])) => condition_any ts whr (fs ++ [frmOf s]) (.slice wa whr.length wc) v vtb w' htw (hw.keep (.bel hb)) hv (hts.keep (.bel hb)) (by simp; omega)
  generalize typeC ts whr (fs ++ [frmOf s]) = c at hcd
  have HS := Lib.hid hsrc
  have HI := Lib.hid hin
  have HC := Lib.hid hcd
  rw [hn] at q1
  clear hsrc hin hcd hts hsm hs hi hf hd hw htw hdw hn
  by_cases hc0 : c = 0
  · subst hc0
    rcases hk with rfl | rfl
    · go_enter Tryz.func182, Tryz.ntmps182
      go_wp2_with (first
        | (go_at_call 82; refine (HS.out _ (by go_grown)).mono ?_; rintro e w1 ⟨vc1, rfl, hc1, hb⟩; obtain ⟨c1a, c1c, rfl, _⟩ := hc1.shape; have h1 : Below w.heap.size w w1 := Below.trans (by go_grown) (hb.mono (by simp <;> omega)); obtain ⟨k1, k2, k3⟩ := bcell hb; simp only [World.size_alloc] at k1 k2 k3; have k4 : w.heap.size < w1.heap.size := (by omega); have k5 : w.heap.size + 1 < w1.heap.size := (by omega); have H1 := Lib.hid h1; have HC1 := Lib.hid (hc1.weak (M' := NoM) fun _ _ h => h.elim); clear hb h1 hc1)
        | (go_at_call 206; refine (HI.out _ (H1.out.alloc (by omega) _) _ (HC1.out.keep (.alloc (.refl _ _) _))).mono ?_; rintro e w2 ⟨v2, rfl, hf2, hb⟩; have h2 : Below w.heap.size w w2 := (H1.out.alloc (by omega) _).trans (hb.mono (by simp <;> omega)); obtain ⟨j1, j2, j3⟩ := bcell hb; simp only [World.size_alloc] at j1 j2 j3; have j4 : w.heap.size < w2.heap.size := (by omega); have j5 : w.heap.size + 1 < w2.heap.size := (by omega); have j6 : w.heap.size < w1.heap.size + 1 := (by omega); have j7 : w.heap.size + 1 < w1.heap.size + 1 := (by omega); have H2 := Lib.hid h2; have HF2 := Lib.hid hf2; clear hb h2 hf2)
        | (go_at_call 87; refine (HC.out _ H2.out _ HF2.out).mono ?_; rintro e w3 ⟨rfl, hb⟩; have h3 : Below w.heap.size w w3 := H2.out.trans (hb.mono (Nat.le_of_lt j4)); obtain ⟨i1, i2, i3⟩ := bcell hb; have i4 : w.heap.size < w3.heap.size := (by omega); have H3 := Lib.hid h3; clear hb h3))
      refine wp_loop_rounds 1 ?_
      repeat any_goals (rw [rounds_succ]; go_wp2_with (first
        | (go_at_call 87; refine (HC.out _ H2.out _ HF2.out).mono ?_; rintro e w3 ⟨rfl, hb⟩; have h3 : Below w.heap.size w w3 := H2.out.trans (hb.mono (Nat.le_of_lt j4)); obtain ⟨i1, i2, i3⟩ := bcell hb; have i4 : w.heap.size < w3.heap.size := (by omega); have H3 := Lib.hid h3; clear hb h3)))
      go_ret2
      exact ⟨rfl, by first | exact H3.out | exact H2.out⟩
    · go_enter Tryz.func182, Tryz.ntmps182
      go_wp2_with (first
        | (go_at_call 82; refine (HS.out _ (by go_grown)).mono ?_; rintro e w1 ⟨vc1, rfl, hc1, hb⟩; obtain ⟨c1a, c1c, rfl, _⟩ := hc1.shape; have h1 : Below w.heap.size w w1 := Below.trans (by go_grown) (hb.mono (by simp <;> omega)); obtain ⟨k1, k2, k3⟩ := bcell hb; simp only [World.size_alloc] at k1 k2 k3; have k4 : w.heap.size < w1.heap.size := (by omega); have k5 : w.heap.size + 1 < w1.heap.size := (by omega); have H1 := Lib.hid h1; have HC1 := Lib.hid (hc1.weak (M' := NoM) fun _ _ h => h.elim); clear hb h1 hc1)
        | (go_at_call 206; refine (HI.out _ (H1.out.alloc (by omega) _) _ (HC1.out.keep (.alloc (.refl _ _) _))).mono ?_; rintro e w2 ⟨v2, rfl, hf2, hb⟩; have h2 : Below w.heap.size w w2 := (H1.out.alloc (by omega) _).trans (hb.mono (by simp <;> omega)); obtain ⟨j1, j2, j3⟩ := bcell hb; simp only [World.size_alloc] at j1 j2 j3; have j4 : w.heap.size < w2.heap.size := (by omega); have j5 : w.heap.size + 1 < w2.heap.size := (by omega); have j6 : w.heap.size < w1.heap.size + 1 := (by omega); have j7 : w.heap.size + 1 < w1.heap.size + 1 := (by omega); have H2 := Lib.hid h2; have HF2 := Lib.hid hf2; clear hb h2 hf2)
        | (go_at_call 87; refine (HC.out _ H2.out _ HF2.out).mono ?_; rintro e w3 ⟨rfl, hb⟩; have h3 : Below w.heap.size w w3 := H2.out.trans (hb.mono (Nat.le_of_lt j4)); obtain ⟨i1, i2, i3⟩ := bcell hb; have i4 : w.heap.size < w3.heap.size := (by omega); have H3 := Lib.hid h3; clear hb h3))
      refine wp_loop_rounds 1 ?_
      repeat any_goals (rw [rounds_succ]; go_wp2_with (first
        | (go_at_call 87; refine (HC.out _ H2.out _ HF2.out).mono ?_; rintro e w3 ⟨rfl, hb⟩; have h3 : Below w.heap.size w w3 := H2.out.trans (hb.mono (Nat.le_of_lt j4)); obtain ⟨i1, i2, i3⟩ := bcell hb; have i4 : w.heap.size < w3.heap.size := (by omega); have H3 := Lib.hid h3; clear hb h3)))
      go_ret2
      exact ⟨rfl, by first | exact H3.out | exact H2.out⟩
  · have hb0 : (c == 0) = false := by simpa using hc0
    have hb1 : (c != 0) = true := by simpa using hc0
    rw [if_pos hc0]
    clear hk hc0
    go_enter Tryz.func182, Tryz.ntmps182
    go_wp2_with (first
      | (go_at_call 82; refine (HS.out _ (by go_grown)).mono ?_; rintro e w1 ⟨vc1, rfl, hc1, hb⟩; obtain ⟨c1a, c1c, rfl, _⟩ := hc1.shape; have h1 : Below w.heap.size w w1 := Below.trans (by go_grown) (hb.mono (by simp <;> omega)); obtain ⟨k1, k2, k3⟩ := bcell hb; simp only [World.size_alloc] at k1 k2 k3; have k4 : w.heap.size < w1.heap.size := (by omega); have k5 : w.heap.size + 1 < w1.heap.size := (by omega); have H1 := Lib.hid h1; have HC1 := Lib.hid (hc1.weak (M' := NoM) fun _ _ h => h.elim); clear hb h1 hc1)
      | (go_at_call 206; refine (HI.out _ (H1.out.alloc (by omega) _) _ (HC1.out.keep (.alloc (.refl _ _) _))).mono ?_; rintro e w2 ⟨v2, rfl, hf2, hb⟩; have h2 : Below w.heap.size w w2 := (H1.out.alloc (by omega) _).trans (hb.mono (by simp <;> omega)); obtain ⟨j1, j2, j3⟩ := bcell hb; simp only [World.size_alloc] at j1 j2 j3; have j4 : w.heap.size < w2.heap.size := (by omega); have j5 : w.heap.size + 1 < w2.heap.size := (by omega); have j6 : w.heap.size < w1.heap.size + 1 := (by omega); have j7 : w.heap.size + 1 < w1.heap.size + 1 := (by omega); have H2 := Lib.hid h2; have HF2 := Lib.hid hf2; clear hb h2 hf2)
      | (go_at_call 87; refine (HC.out _ H2.out _ HF2.out).mono ?_; rintro e w3 ⟨rfl, hb⟩; have h3 : Below w.heap.size w w3 := H2.out.trans (hb.mono (Nat.le_of_lt j4)); obtain ⟨i1, i2, i3⟩ := bcell hb; have i4 : w.heap.size < w3.heap.size := (by omega); have H3 := Lib.hid h3; clear hb h3))
    refine wp_loop_rounds 1 ?_
    repeat any_goals (rw [rounds_succ]; go_wp2_with (first
      | (go_at_call 87; refine (HC.out _ H2.out _ HF2.out).mono ?_; rintro e w3 ⟨rfl, hb⟩; have h3 : Below w.heap.size w w3 := H2.out.trans (hb.mono (Nat.le_of_lt j4)); obtain ⟨i1, i2, i3⟩ := bcell hb; have i4 : w.heap.size < w3.heap.size := (by omega); have H3 := Lib.hid h3; clear hb h3)))
    go_ret2
    exact ⟨rfl, by first | exact H3.out | exact H2.out⟩
end

end Go.Proofs.YtkhlmofcdchccaaGreatDoor

namespace Go.Proofs.YtkhlmofcdchccaaGreatDoor
open Go.RowKit

section
variable (ts : List Sch) (k o : Int) (no : Bool) (vk vi : Int) (vt t nm : ByteArray) (a sa : Option Addr) (an ac : Nat) (sc sb so : Nat) (star : Bool) (frm : ByteArray) (ib io : Nat) (wa : Option Addr) (ic wc : Nat) (x : Ex) (whr : List Ex) (fs : List Frm) (vf vtb : Value) (w : World)
  (hsb : sb < w.heap.size) (q0 : w.cell? ⟨sb, so, none⟩ = some (.bool star)) (q1 : w.cell? ⟨sb, so + 1, none⟩ = some (.slice (some ⟨ib, io, none⟩) 1 ic)) (q2 : w.cell? ⟨sb, so + 2, none⟩ = some (.string frm)) (q3 : w.cell? ⟨sb, so + 3, none⟩ = some (.slice wa whr.length wc))
  (hts : TblsR NoM w vtb ts) (hsm : ColsSmall ts)

include hsb q0 q1 q2 q3 hts hsm in
set_option maxHeartbeats 2000000 in
theorem agg_one (hf : FrmsR NoM w vf fs) (hd : fs.length ≤ 999999999) (i : Nat) (s : Sch) (hs : findTbl ts frm = some i) (hi : ts[i]? = some s) (hk : k = 10 ∨ k = 11 ∨ k = 12)
    (cs : List Value) (hib : ib < w.heap.size) (hcs : CellsAt w ib io cs) (hx : EC NoM w x cs) (htx : TypeOk ts x) (hdx : fs.length + 1 + dep x ≤ 1000000000)
    (hw : ExsR NoM w (.slice wa whr.length wc) whr) (htw : ∀ e ∈ whr, TypeOk ts e) (hdw : fs.length + 1 + depL whr ≤ 1000000000) :
    Calls Tryz.prog 182 #[.agg #[.int .i64 k, .int .i64 o, .bool no, .int .i64 vk, .int .i64 vi, .string vt, .string t, .string nm, .slice a an ac, .slice (some ⟨sb, so, none⟩) 1 sc], vf, vtb] w (RetII (if (typeP ts x (fs ++ [frmOf s])).2 ≠ 0 then (0, (typeP ts x (fs ++ [frmOf s])).2) else if typeC ts whr (fs ++ [frmOf s]) ≠ 0 then (0, typeC ts whr (fs ++ [frmOf s])) else aggP k (typeP ts x (fs ++ [frmOf s])).1) w) := by
  have hsrc := fun (w' : World) (hb : Below w.heap.size w w') => source_some vtb ts frm w' i s (hts.keep (.bel hb)) hs hi (hsm s (List.mem_of_getElem? hi))
  have hin := fun (w' : World) (hb : Below w.heap.size w w') vc (hc : ColsR NoM w' vc s.cols) => inside_any vf vc fs s.name s.cols w' (hf.keep (.bel hb)) hc (by omega)
  have hcd := fun (w' : World) (hb : Below w.heap.size w w') v (hv : FrmsR NoM w' v (fs ++ [frmOf s])) => condition_any ts whr (fs ++ [frmOf s]) (.slice wa whr.length wc) v vtb w' htw (hw.keep (.bel hb)) hv (hts.keep (.bel hb)) (by simp; omega)
  have hty := fun (w' : World) (hb : Below w.heap.size w w') v (hv : FrmsR NoM w' v (fs ++ [frmOf s])) => htx (fs ++ [frmOf s]) cs v vtb w' (EC.keep (.bel hb) x cs hx) hv (hts.keep (.bel hb)) (by simp; omega)
  generalize typeC ts whr (fs ++ [frmOf s]) = c at hcd
  generalize typeP ts x (fs ++ [frmOf s]) = r at hty
  obtain ⟨rt, rc⟩ := r
  obtain ⟨va, vs, rfl, ha, hs'⟩ := (EC_iff ..).1 hx
  obtain ⟨xa, xac, rfl, _⟩ := ha.shape
  obtain ⟨xs, xsc, rfl, _⟩ := hs'.shape
  obtain ⟨c0, c1, c2, c3, c4, c5, c6, c7, c8, c9⟩ := CellsAt.c10 hcs
  simp only [exCells] at hty
  have HS := Lib.hid hsrc
  have HI := Lib.hid hin
  have HC := Lib.hid hcd
  have HT := Lib.hid hty
  clear hsrc hin hcd hty hts hsm hs hi hf hd hw htw hdw hcs hx htx hdx ha hs'
  simp only []
  by_cases hr0 : rc = 0
  · subst hr0
    rw [if_neg (by simp)]
    by_cases hc0 : c = 0
    · subst hc0
      rw [if_neg (by simp)]
      rcases hk with rfl | rfl | rfl
      · cases hfit : fitsB rt 1 with
        | true =>
          have hfc := fun w => fits_any rt 1 w
          rw [hfit] at hfc
          have HR : Hid (aggP 10 rt = (1, 0)) := Lib.hid (by simp [aggP, hfit])
          have HFC := Lib.hid hfc
          clear hfc hfit
          rw [HR.out]
          go_enter Tryz.func182, Tryz.ntmps182
          go_wp2_with (first
            | (go_at_call 82; refine (HS.out _ (by go_grown)).mono ?_; rintro e w1 ⟨vc1, rfl, hc1, hb⟩; obtain ⟨c1a, c1c, rfl, _⟩ := hc1.shape; have h1 : Below w.heap.size w w1 := Below.trans (by go_grown) (hb.mono (by simp <;> omega)); obtain ⟨k1, k2, k3⟩ := bcell hb; simp only [World.size_alloc] at k1 k2 k3; have k4 : w.heap.size < w1.heap.size := (by omega); have k5 : w.heap.size + 1 < w1.heap.size := (by omega); have k6 : ib < w.heap.size + 1 + 1 := (by omega); have k7 : ib < w1.heap.size := (by omega); have k8 : ib < w1.heap.size + 1 := (by omega); have H1 := Lib.hid h1; have HC1 := Lib.hid (hc1.weak (M' := NoM) fun _ _ h => h.elim); clear hb h1 hc1)
            | (go_at_call 206; refine (HI.out _ (H1.out.alloc (by omega) _) _ (HC1.out.keep (.alloc (.refl _ _) _))).mono ?_; rintro e w2 ⟨v2, rfl, hf2, hb⟩; have h2 : Below w.heap.size w w2 := (H1.out.alloc (by omega) _).trans (hb.mono (by simp <;> omega)); obtain ⟨j1, j2, j3⟩ := bcell hb; simp only [World.size_alloc] at j1 j2 j3; have j4 : w.heap.size < w2.heap.size := (by omega); have j5 : w.heap.size + 1 < w2.heap.size := (by omega); have j6 : w.heap.size < w1.heap.size + 1 := (by omega); have j7 : w.heap.size + 1 < w1.heap.size + 1 := (by omega); have H2 := Lib.hid h2; have HF2 := Lib.hid hf2; clear hb h2 hf2)
            | (go_at_call 135; refine (HT.out _ (H2.out.alloc (Nat.le_of_lt j4) _) _ (HF2.out.keep (.alloc (.refl _ _) _))).mono ?_; rintro e w2b ⟨rfl, hb⟩; have h2b : Below w.heap.size w w2b := (H2.out.alloc (Nat.le_of_lt j4) _).trans (hb.mono (by simp; omega)); have hf2b := HF2.out.keep (((Keep.refl NoM w2).alloc _).below hb); obtain ⟨m1, m2, m3⟩ := bcell hb; simp only [World.size_alloc] at m1 m2 m3; have m4 : w.heap.size < w2b.heap.size := (by omega); have m5 : w.heap.size + 1 < w2b.heap.size := (by omega); have m6 : w2.heap.size < w2b.heap.size := (by omega); have m7 : w.heap.size < w2.heap.size + 1 := (by omega); have m8 : w.heap.size + 1 < w2.heap.size + 1 := (by omega); have H2b := Lib.hid h2b; have HF2b := Lib.hid hf2b; clear hb h2b hf2b)
            | (go_at_call 87; refine (HC.out _ H2b.out _ HF2b.out).mono ?_; rintro e w3 ⟨rfl, hb⟩; have h3 : Below w.heap.size w w3 := H2b.out.trans (hb.mono (Nat.le_of_lt m4)); obtain ⟨i1, i2, i3⟩ := bcell hb; have i4 : w.heap.size < w3.heap.size := (by omega); have H3 := Lib.hid h3; clear hb h3)
            | (go_at_call 136; refine (HFC.out _).mono ?_; rintro e w4 ⟨rfl, rfl⟩))
          refine wp_loop_rounds 2 ?_
          repeat any_goals (rw [rounds_succ]; go_wp2_with (first
            | (go_at_call 135; refine (HT.out _ (H2.out.alloc (Nat.le_of_lt j4) _) _ (HF2.out.keep (.alloc (.refl _ _) _))).mono ?_; rintro e w2b ⟨rfl, hb⟩; have h2b : Below w.heap.size w w2b := (H2.out.alloc (Nat.le_of_lt j4) _).trans (hb.mono (by simp; omega)); have hf2b := HF2.out.keep (((Keep.refl NoM w2).alloc _).below hb); obtain ⟨m1, m2, m3⟩ := bcell hb; simp only [World.size_alloc] at m1 m2 m3; have m4 : w.heap.size < w2b.heap.size := (by omega); have m5 : w.heap.size + 1 < w2b.heap.size := (by omega); have m6 : w2.heap.size < w2b.heap.size := (by omega); have m7 : w.heap.size < w2.heap.size + 1 := (by omega); have m8 : w.heap.size + 1 < w2.heap.size + 1 := (by omega); have H2b := Lib.hid h2b; have HF2b := Lib.hid hf2b; clear hb h2b hf2b)
            | (go_at_call 87; refine (HC.out _ H2b.out _ HF2b.out).mono ?_; rintro e w3 ⟨rfl, hb⟩; have h3 : Below w.heap.size w w3 := H2b.out.trans (hb.mono (Nat.le_of_lt m4)); obtain ⟨i1, i2, i3⟩ := bcell hb; have i4 : w.heap.size < w3.heap.size := (by omega); have H3 := Lib.hid h3; clear hb h3)
            | (go_at_call 136; refine (HFC.out _).mono ?_; rintro e w4 ⟨rfl, rfl⟩)))
          go_ret2
          exact ⟨rfl, by first | exact H3.out | exact H2b.out⟩
        | false =>
          have hfc := fun w => fits_any rt 1 w
          rw [hfit] at hfc
          have HR : Hid (aggP 10 rt = (0, 5)) := Lib.hid (by simp [aggP, hfit])
          have HFC := Lib.hid hfc
          clear hfc hfit
          rw [HR.out]
          go_enter Tryz.func182, Tryz.ntmps182
          go_wp2_with (first
            | (go_at_call 82; refine (HS.out _ (by go_grown)).mono ?_; rintro e w1 ⟨vc1, rfl, hc1, hb⟩; obtain ⟨c1a, c1c, rfl, _⟩ := hc1.shape; have h1 : Below w.heap.size w w1 := Below.trans (by go_grown) (hb.mono (by simp <;> omega)); obtain ⟨k1, k2, k3⟩ := bcell hb; simp only [World.size_alloc] at k1 k2 k3; have k4 : w.heap.size < w1.heap.size := (by omega); have k5 : w.heap.size + 1 < w1.heap.size := (by omega); have k6 : ib < w.heap.size + 1 + 1 := (by omega); have k7 : ib < w1.heap.size := (by omega); have k8 : ib < w1.heap.size + 1 := (by omega); have H1 := Lib.hid h1; have HC1 := Lib.hid (hc1.weak (M' := NoM) fun _ _ h => h.elim); clear hb h1 hc1)
            | (go_at_call 206; refine (HI.out _ (H1.out.alloc (by omega) _) _ (HC1.out.keep (.alloc (.refl _ _) _))).mono ?_; rintro e w2 ⟨v2, rfl, hf2, hb⟩; have h2 : Below w.heap.size w w2 := (H1.out.alloc (by omega) _).trans (hb.mono (by simp <;> omega)); obtain ⟨j1, j2, j3⟩ := bcell hb; simp only [World.size_alloc] at j1 j2 j3; have j4 : w.heap.size < w2.heap.size := (by omega); have j5 : w.heap.size + 1 < w2.heap.size := (by omega); have j6 : w.heap.size < w1.heap.size + 1 := (by omega); have j7 : w.heap.size + 1 < w1.heap.size + 1 := (by omega); have H2 := Lib.hid h2; have HF2 := Lib.hid hf2; clear hb h2 hf2)
            | (go_at_call 135; refine (HT.out _ (H2.out.alloc (Nat.le_of_lt j4) _) _ (HF2.out.keep (.alloc (.refl _ _) _))).mono ?_; rintro e w2b ⟨rfl, hb⟩; have h2b : Below w.heap.size w w2b := (H2.out.alloc (Nat.le_of_lt j4) _).trans (hb.mono (by simp; omega)); have hf2b := HF2.out.keep (((Keep.refl NoM w2).alloc _).below hb); obtain ⟨m1, m2, m3⟩ := bcell hb; simp only [World.size_alloc] at m1 m2 m3; have m4 : w.heap.size < w2b.heap.size := (by omega); have m5 : w.heap.size + 1 < w2b.heap.size := (by omega); have m6 : w2.heap.size < w2b.heap.size := (by omega); have m7 : w.heap.size < w2.heap.size + 1 := (by omega); have m8 : w.heap.size + 1 < w2.heap.size + 1 := (by omega); have H2b := Lib.hid h2b; have HF2b := Lib.hid hf2b; clear hb h2b hf2b)
            | (go_at_call 87; refine (HC.out _ H2b.out _ HF2b.out).mono ?_; rintro e w3 ⟨rfl, hb⟩; have h3 : Below w.heap.size w w3 := H2b.out.trans (hb.mono (Nat.le_of_lt m4)); obtain ⟨i1, i2, i3⟩ := bcell hb; have i4 : w.heap.size < w3.heap.size := (by omega); have H3 := Lib.hid h3; clear hb h3)
            | (go_at_call 136; refine (HFC.out _).mono ?_; rintro e w4 ⟨rfl, rfl⟩))
          refine wp_loop_rounds 2 ?_
          repeat any_goals (rw [rounds_succ]; go_wp2_with (first
            | (go_at_call 135; refine (HT.out _ (H2.out.alloc (Nat.le_of_lt j4) _) _ (HF2.out.keep (.alloc (.refl _ _) _))).mono ?_; rintro e w2b ⟨rfl, hb⟩; have h2b : Below w.heap.size w w2b := (H2.out.alloc (Nat.le_of_lt j4) _).trans (hb.mono (by simp; omega)); have hf2b := HF2.out.keep (((Keep.refl NoM w2).alloc _).below hb); obtain ⟨m1, m2, m3⟩ := bcell hb; simp only [World.size_alloc] at m1 m2 m3; have m4 : w.heap.size < w2b.heap.size := (by omega); have m5 : w.heap.size + 1 < w2b.heap.size := (by omega); have m6 : w2.heap.size < w2b.heap.size := (by omega); have m7 : w.heap.size < w2.heap.size + 1 := (by omega); have m8 : w.heap.size + 1 < w2.heap.size + 1 := (by omega); have H2b := Lib.hid h2b; have HF2b := Lib.hid hf2b; clear hb h2b hf2b)
            | (go_at_call 87; refine (HC.out _ H2b.out _ HF2b.out).mono ?_; rintro e w3 ⟨rfl, hb⟩; have h3 : Below w.heap.size w w3 := H2b.out.trans (hb.mono (Nat.le_of_lt m4)); obtain ⟨i1, i2, i3⟩ := bcell hb; have i4 : w.heap.size < w3.heap.size := (by omega); have H3 := Lib.hid h3; clear hb h3)
            | (go_at_call 136; refine (HFC.out _).mono ?_; rintro e w4 ⟨rfl, rfl⟩)))
          go_ret2
          exact ⟨rfl, by first | exact H3.out | exact H2b.out⟩
      · have HFC : Hid True := trivial
        rw [show aggP 11 rt = (rt, 0) from rfl]
        go_enter Tryz.func182, Tryz.ntmps182
        go_wp2_with (first
          | (go_at_call 82; refine (HS.out _ (by go_grown)).mono ?_; rintro e w1 ⟨vc1, rfl, hc1, hb⟩; obtain ⟨c1a, c1c, rfl, _⟩ := hc1.shape; have h1 : Below w.heap.size w w1 := Below.trans (by go_grown) (hb.mono (by simp <;> omega)); obtain ⟨k1, k2, k3⟩ := bcell hb; simp only [World.size_alloc] at k1 k2 k3; have k4 : w.heap.size < w1.heap.size := (by omega); have k5 : w.heap.size + 1 < w1.heap.size := (by omega); have k6 : ib < w.heap.size + 1 + 1 := (by omega); have k7 : ib < w1.heap.size := (by omega); have k8 : ib < w1.heap.size + 1 := (by omega); have H1 := Lib.hid h1; have HC1 := Lib.hid (hc1.weak (M' := NoM) fun _ _ h => h.elim); clear hb h1 hc1)
          | (go_at_call 206; refine (HI.out _ (H1.out.alloc (by omega) _) _ (HC1.out.keep (.alloc (.refl _ _) _))).mono ?_; rintro e w2 ⟨v2, rfl, hf2, hb⟩; have h2 : Below w.heap.size w w2 := (H1.out.alloc (by omega) _).trans (hb.mono (by simp <;> omega)); obtain ⟨j1, j2, j3⟩ := bcell hb; simp only [World.size_alloc] at j1 j2 j3; have j4 : w.heap.size < w2.heap.size := (by omega); have j5 : w.heap.size + 1 < w2.heap.size := (by omega); have j6 : w.heap.size < w1.heap.size + 1 := (by omega); have j7 : w.heap.size + 1 < w1.heap.size + 1 := (by omega); have H2 := Lib.hid h2; have HF2 := Lib.hid hf2; clear hb h2 hf2)
          | (go_at_call 135; refine (HT.out _ (H2.out.alloc (Nat.le_of_lt j4) _) _ (HF2.out.keep (.alloc (.refl _ _) _))).mono ?_; rintro e w2b ⟨rfl, hb⟩; have h2b : Below w.heap.size w w2b := (H2.out.alloc (Nat.le_of_lt j4) _).trans (hb.mono (by simp; omega)); have hf2b := HF2.out.keep (((Keep.refl NoM w2).alloc _).below hb); obtain ⟨m1, m2, m3⟩ := bcell hb; simp only [World.size_alloc] at m1 m2 m3; have m4 : w.heap.size < w2b.heap.size := (by omega); have m5 : w.heap.size + 1 < w2b.heap.size := (by omega); have m6 : w2.heap.size < w2b.heap.size := (by omega); have m7 : w.heap.size < w2.heap.size + 1 := (by omega); have m8 : w.heap.size + 1 < w2.heap.size + 1 := (by omega); have H2b := Lib.hid h2b; have HF2b := Lib.hid hf2b; clear hb h2b hf2b)
          | (go_at_call 87; refine (HC.out _ H2b.out _ HF2b.out).mono ?_; rintro e w3 ⟨rfl, hb⟩; have h3 : Below w.heap.size w w3 := H2b.out.trans (hb.mono (Nat.le_of_lt m4)); obtain ⟨i1, i2, i3⟩ := bcell hb; have i4 : w.heap.size < w3.heap.size := (by omega); have H3 := Lib.hid h3; clear hb h3)
          | (go_at_call 136; refine (HFC.out _).mono ?_; rintro e w4 ⟨rfl, rfl⟩))
        refine wp_loop_rounds 2 ?_
        repeat any_goals (rw [rounds_succ]; go_wp2_with (first
          | (go_at_call 135; refine (HT.out _ (H2.out.alloc (Nat.le_of_lt j4) _) _ (HF2.out.keep (.alloc (.refl _ _) _))).mono ?_; rintro e w2b ⟨rfl, hb⟩; have h2b : Below w.heap.size w w2b := (H2.out.alloc (Nat.le_of_lt j4) _).trans (hb.mono (by simp; omega)); have hf2b := HF2.out.keep (((Keep.refl NoM w2).alloc _).below hb); obtain ⟨m1, m2, m3⟩ := bcell hb; simp only [World.size_alloc] at m1 m2 m3; have m4 : w.heap.size < w2b.heap.size := (by omega); have m5 : w.heap.size + 1 < w2b.heap.size := (by omega); have m6 : w2.heap.size < w2b.heap.size := (by omega); have m7 : w.heap.size < w2.heap.size + 1 := (by omega); have m8 : w.heap.size + 1 < w2.heap.size + 1 := (by omega); have H2b := Lib.hid h2b; have HF2b := Lib.hid hf2b; clear hb h2b hf2b)
          | (go_at_call 87; refine (HC.out _ H2b.out _ HF2b.out).mono ?_; rintro e w3 ⟨rfl, hb⟩; have h3 : Below w.heap.size w w3 := H2b.out.trans (hb.mono (Nat.le_of_lt m4)); obtain ⟨i1, i2, i3⟩ := bcell hb; have i4 : w.heap.size < w3.heap.size := (by omega); have H3 := Lib.hid h3; clear hb h3)
          | (go_at_call 136; refine (HFC.out _).mono ?_; rintro e w4 ⟨rfl, rfl⟩)))
        go_ret2
        exact ⟨rfl, by first | exact H3.out | exact H2b.out⟩
      · have HFC : Hid True := trivial
        rw [show aggP 12 rt = (rt, 0) from rfl]
        go_enter Tryz.func182, Tryz.ntmps182
        go_wp2_with (first
          | (go_at_call 82; refine (HS.out _ (by go_grown)).mono ?_; rintro e w1 ⟨vc1, rfl, hc1, hb⟩; obtain ⟨c1a, c1c, rfl, _⟩ := hc1.shape; have h1 : Below w.heap.size w w1 := Below.trans (by go_grown) (hb.mono (by simp <;> omega)); obtain ⟨k1, k2, k3⟩ := bcell hb; simp only [World.size_alloc] at k1 k2 k3; have k4 : w.heap.size < w1.heap.size := (by omega); have k5 : w.heap.size + 1 < w1.heap.size := (by omega); have k6 : ib < w.heap.size + 1 + 1 := (by omega); have k7 : ib < w1.heap.size := (by omega); have k8 : ib < w1.heap.size + 1 := (by omega); have H1 := Lib.hid h1; have HC1 := Lib.hid (hc1.weak (M' := NoM) fun _ _ h => h.elim); clear hb h1 hc1)
          | (go_at_call 206; refine (HI.out _ (H1.out.alloc (by omega) _) _ (HC1.out.keep (.alloc (.refl _ _) _))).mono ?_; rintro e w2 ⟨v2, rfl, hf2, hb⟩; have h2 : Below w.heap.size w w2 := (H1.out.alloc (by omega) _).trans (hb.mono (by simp <;> omega)); obtain ⟨j1, j2, j3⟩ := bcell hb; simp only [World.size_alloc] at j1 j2 j3; have j4 : w.heap.size < w2.heap.size := (by omega); have j5 : w.heap.size + 1 < w2.heap.size := (by omega); have j6 : w.heap.size < w1.heap.size + 1 := (by omega); have j7 : w.heap.size + 1 < w1.heap.size + 1 := (by omega); have H2 := Lib.hid h2; have HF2 := Lib.hid hf2; clear hb h2 hf2)
          | (go_at_call 135; refine (HT.out _ (H2.out.alloc (Nat.le_of_lt j4) _) _ (HF2.out.keep (.alloc (.refl _ _) _))).mono ?_; rintro e w2b ⟨rfl, hb⟩; have h2b : Below w.heap.size w w2b := (H2.out.alloc (Nat.le_of_lt j4) _).trans (hb.mono (by simp; omega)); have hf2b := HF2.out.keep (((Keep.refl NoM w2).alloc _).below hb); obtain ⟨m1, m2, m3⟩ := bcell hb; simp only [World.size_alloc] at m1 m2 m3; have m4 : w.heap.size < w2b.heap.size := (by omega); have m5 : w.heap.size + 1 < w2b.heap.size := (by omega); have m6 : w2.heap.size < w2b.heap.size := (by omega); have m7 : w.heap.size < w2.heap.size + 1 := (by omega); have m8 : w.heap.size + 1 < w2.heap.size + 1 := (by omega); have H2b := Lib.hid h2b; have HF2b := Lib.hid hf2b; clear hb h2b hf2b)
          | (go_at_call 87; refine (HC.out _ H2b.out _ HF2b.out).mono ?_; rintro e w3 ⟨rfl, hb⟩; have h3 : Below w.heap.size w w3 := H2b.out.trans (hb.mono (Nat.le_of_lt m4)); obtain ⟨i1, i2, i3⟩ := bcell hb; have i4 : w.heap.size < w3.heap.size := (by omega); have H3 := Lib.hid h3; clear hb h3)
          | (go_at_call 136; refine (HFC.out _).mono ?_; rintro e w4 ⟨rfl, rfl⟩))
        refine wp_loop_rounds 2 ?_
        repeat any_goals (rw [rounds_succ]; go_wp2_with (first
          | (go_at_call 135; refine (HT.out _ (H2.out.alloc (Nat.le_of_lt j4) _) _ (HF2.out.keep (.alloc (.refl _ _) _))).mono ?_; rintro e w2b ⟨rfl, hb⟩; have h2b : Below w.heap.size w w2b := (H2.out.alloc (Nat.le_of_lt j4) _).trans (hb.mono (by simp; omega)); have hf2b := HF2.out.keep (((Keep.refl NoM w2).alloc _).below hb); obtain ⟨m1, m2, m3⟩ := bcell hb; simp only [World.size_alloc] at m1 m2 m3; have m4 : w.heap.size < w2b.heap.size := (by omega); have m5 : w.heap.size + 1 < w2b.heap.size := (by omega); have m6 : w2.heap.size < w2b.heap.size := (by omega); have m7 : w.heap.size < w2.heap.size + 1 := (by omega); have m8 : w.heap.size + 1 < w2.heap.size + 1 := (by omega); have H2b := Lib.hid h2b; have HF2b := Lib.hid hf2b; clear hb h2b hf2b)
          | (go_at_call 87; refine (HC.out _ H2b.out _ HF2b.out).mono ?_; rintro e w3 ⟨rfl, hb⟩; have h3 : Below w.heap.size w w3 := H2b.out.trans (hb.mono (Nat.le_of_lt m4)); obtain ⟨i1, i2, i3⟩ := bcell hb; have i4 : w.heap.size < w3.heap.size := (by omega); have H3 := Lib.hid h3; clear hb h3)
          | (go_at_call 136; refine (HFC.out _).mono ?_; rintro e w4 ⟨rfl, rfl⟩)))
        go_ret2
        exact ⟨rfl, by first | exact H3.out | exact H2b.out⟩
    · have HFC : Hid True := trivial
      have hb0 : (c == 0) = false := by simpa using hc0
      have hb1 : (c != 0) = true := by simpa using hc0
      rw [if_pos hc0]
      clear hk hc0
      go_enter Tryz.func182, Tryz.ntmps182
      go_wp2_with (first
        | (go_at_call 82; refine (HS.out _ (by go_grown)).mono ?_; rintro e w1 ⟨vc1, rfl, hc1, hb⟩; obtain ⟨c1a, c1c, rfl, _⟩ := hc1.shape; have h1 : Below w.heap.size w w1 := Below.trans (by go_grown) (hb.mono (by simp <;> omega)); obtain ⟨k1, k2, k3⟩ := bcell hb; simp only [World.size_alloc] at k1 k2 k3; have k4 : w.heap.size < w1.heap.size := (by omega); have k5 : w.heap.size + 1 < w1.heap.size := (by omega); have k6 : ib < w.heap.size + 1 + 1 := (by omega); have k7 : ib < w1.heap.size := (by omega); have k8 : ib < w1.heap.size + 1 := (by omega); have H1 := Lib.hid h1; have HC1 := Lib.hid (hc1.weak (M' := NoM) fun _ _ h => h.elim); clear hb h1 hc1)
        | (go_at_call 206; refine (HI.out _ (H1.out.alloc (by omega) _) _ (HC1.out.keep (.alloc (.refl _ _) _))).mono ?_; rintro e w2 ⟨v2, rfl, hf2, hb⟩; have h2 : Below w.heap.size w w2 := (H1.out.alloc (by omega) _).trans (hb.mono (by simp <;> omega)); obtain ⟨j1, j2, j3⟩ := bcell hb; simp only [World.size_alloc] at j1 j2 j3; have j4 : w.heap.size < w2.heap.size := (by omega); have j5 : w.heap.size + 1 < w2.heap.size := (by omega); have j6 : w.heap.size < w1.heap.size + 1 := (by omega); have j7 : w.heap.size + 1 < w1.heap.size + 1 := (by omega); have H2 := Lib.hid h2; have HF2 := Lib.hid hf2; clear hb h2 hf2)
        | (go_at_call 135; refine (HT.out _ (H2.out.alloc (Nat.le_of_lt j4) _) _ (HF2.out.keep (.alloc (.refl _ _) _))).mono ?_; rintro e w2b ⟨rfl, hb⟩; have h2b : Below w.heap.size w w2b := (H2.out.alloc (Nat.le_of_lt j4) _).trans (hb.mono (by simp; omega)); have hf2b := HF2.out.keep (((Keep.refl NoM w2).alloc _).below hb); obtain ⟨m1, m2, m3⟩ := bcell hb; simp only [World.size_alloc] at m1 m2 m3; have m4 : w.heap.size < w2b.heap.size := (by omega); have m5 : w.heap.size + 1 < w2b.heap.size := (by omega); have m6 : w2.heap.size < w2b.heap.size := (by omega); have m7 : w.heap.size < w2.heap.size + 1 := (by omega); have m8 : w.heap.size + 1 < w2.heap.size + 1 := (by omega); have H2b := Lib.hid h2b; have HF2b := Lib.hid hf2b; clear hb h2b hf2b)
        | (go_at_call 87; refine (HC.out _ H2b.out _ HF2b.out).mono ?_; rintro e w3 ⟨rfl, hb⟩; have h3 : Below w.heap.size w w3 := H2b.out.trans (hb.mono (Nat.le_of_lt m4)); obtain ⟨i1, i2, i3⟩ := bcell hb; have i4 : w.heap.size < w3.heap.size := (by omega); have H3 := Lib.hid h3; clear hb h3)
        | (go_at_call 136; refine (HFC.out _).mono ?_; rintro e w4 ⟨rfl, rfl⟩))
      refine wp_loop_rounds 2 ?_
      repeat any_goals (rw [rounds_succ]; go_wp2_with (first
        | (go_at_call 135; refine (HT.out _ (H2.out.alloc (Nat.le_of_lt j4) _) _ (HF2.out.keep (.alloc (.refl _ _) _))).mono ?_; rintro e w2b ⟨rfl, hb⟩; have h2b : Below w.heap.size w w2b := (H2.out.alloc (Nat.le_of_lt j4) _).trans (hb.mono (by simp; omega)); have hf2b := HF2.out.keep (((Keep.refl NoM w2).alloc _).below hb); obtain ⟨m1, m2, m3⟩ := bcell hb; simp only [World.size_alloc] at m1 m2 m3; have m4 : w.heap.size < w2b.heap.size := (by omega); have m5 : w.heap.size + 1 < w2b.heap.size := (by omega); have m6 : w2.heap.size < w2b.heap.size := (by omega); have m7 : w.heap.size < w2.heap.size + 1 := (by omega); have m8 : w.heap.size + 1 < w2.heap.size + 1 := (by omega); have H2b := Lib.hid h2b; have HF2b := Lib.hid hf2b; clear hb h2b hf2b)
        | (go_at_call 87; refine (HC.out _ H2b.out _ HF2b.out).mono ?_; rintro e w3 ⟨rfl, hb⟩; have h3 : Below w.heap.size w w3 := H2b.out.trans (hb.mono (Nat.le_of_lt m4)); obtain ⟨i1, i2, i3⟩ := bcell hb; have i4 : w.heap.size < w3.heap.size := (by omega); have H3 := Lib.hid h3; clear hb h3)
        | (go_at_call 136; refine (HFC.out _).mono ?_; rintro e w4 ⟨rfl, rfl⟩)))
      go_ret2
      exact ⟨rfl, by first | exact H3.out | exact H2b.out⟩
  · have HFC : Hid True := trivial
    have hb0 : (rc == 0) = false := by simpa using hr0
    have hb1 : (rc != 0) = true := by simpa using hr0
    rw [if_pos hr0]
    clear hk hr0
    go_enter Tryz.func182, Tryz.ntmps182
    go_wp2_with (first
      | (go_at_call 82; refine (HS.out _ (by go_grown)).mono ?_; rintro e w1 ⟨vc1, rfl, hc1, hb⟩; obtain ⟨c1a, c1c, rfl, _⟩ := hc1.shape; have h1 : Below w.heap.size w w1 := Below.trans (by go_grown) (hb.mono (by simp <;> omega)); obtain ⟨k1, k2, k3⟩ := bcell hb; simp only [World.size_alloc] at k1 k2 k3; have k4 : w.heap.size < w1.heap.size := (by omega); have k5 : w.heap.size + 1 < w1.heap.size := (by omega); have k6 : ib < w.heap.size + 1 + 1 := (by omega); have k7 : ib < w1.heap.size := (by omega); have k8 : ib < w1.heap.size + 1 := (by omega); have H1 := Lib.hid h1; have HC1 := Lib.hid (hc1.weak (M' := NoM) fun _ _ h => h.elim); clear hb h1 hc1)
      | (go_at_call 206; refine (HI.out _ (H1.out.alloc (by omega) _) _ (HC1.out.keep (.alloc (.refl _ _) _))).mono ?_; rintro e w2 ⟨v2, rfl, hf2, hb⟩; have h2 : Below w.heap.size w w2 := (H1.out.alloc (by omega) _).trans (hb.mono (by simp <;> omega)); obtain ⟨j1, j2, j3⟩ := bcell hb; simp only [World.size_alloc] at j1 j2 j3; have j4 : w.heap.size < w2.heap.size := (by omega); have j5 : w.heap.size + 1 < w2.heap.size := (by omega); have j6 : w.heap.size < w1.heap.size + 1 := (by omega); have j7 : w.heap.size + 1 < w1.heap.size + 1 := (by omega); have H2 := Lib.hid h2; have HF2 := Lib.hid hf2; clear hb h2 hf2)
      | (go_at_call 135; refine (HT.out _ (H2.out.alloc (Nat.le_of_lt j4) _) _ (HF2.out.keep (.alloc (.refl _ _) _))).mono ?_; rintro e w2b ⟨rfl, hb⟩; have h2b : Below w.heap.size w w2b := (H2.out.alloc (Nat.le_of_lt j4) _).trans (hb.mono (by simp; omega)); have hf2b := HF2.out.keep (((Keep.refl NoM w2).alloc _).below hb); obtain ⟨m1, m2, m3⟩ := bcell hb; simp only [World.size_alloc] at m1 m2 m3; have m4 : w.heap.size < w2b.heap.size := (by omega); have m5 : w.heap.size + 1 < w2b.heap.size := (by omega); have m6 : w2.heap.size < w2b.heap.size := (by omega); have m7 : w.heap.size < w2.heap.size + 1 := (by omega); have m8 : w.heap.size + 1 < w2.heap.size + 1 := (by omega); have H2b := Lib.hid h2b; have HF2b := Lib.hid hf2b; clear hb h2b hf2b)
      | (go_at_call 87; refine (HC.out _ H2b.out _ HF2b.out).mono ?_; rintro e w3 ⟨rfl, hb⟩; have h3 : Below w.heap.size w w3 := H2b.out.trans (hb.mono (Nat.le_of_lt m4)); obtain ⟨i1, i2, i3⟩ := bcell hb; have i4 : w.heap.size < w3.heap.size := (by omega); have H3 := Lib.hid h3; clear hb h3)
      | (go_at_call 136; refine (HFC.out _).mono ?_; rintro e w4 ⟨rfl, rfl⟩))
    refine wp_loop_rounds 2 ?_
    repeat any_goals (rw [rounds_succ]; go_wp2_with (first
      | (go_at_call 135; refine (HT.out _ (H2.out.alloc (Nat.le_of_lt j4) _) _ (HF2.out.keep (.alloc (.refl _ _) _))).mono ?_; rintro e w2b ⟨rfl, hb⟩; have h2b : Below w.heap.size w w2b := (H2.out.alloc (Nat.le_of_lt j4) _).trans (hb.mono (by simp; omega)); have hf2b := HF2.out.keep (((Keep.refl NoM w2).alloc _).below hb); obtain ⟨m1, m2, m3⟩ := bcell hb; simp only [World.size_alloc] at m1 m2 m3; have m4 : w.heap.size < w2b.heap.size := (by omega); have m5 : w.heap.size + 1 < w2b.heap.size := (by omega); have m6 : w2.heap.size < w2b.heap.size := (by omega); have m7 : w.heap.size < w2.heap.size + 1 := (by omega); have m8 : w.heap.size + 1 < w2.heap.size + 1 := (by omega); have H2b := Lib.hid h2b; have HF2b := Lib.hid hf2b; clear hb h2b hf2b)
      | (go_at_call 87; refine (HC.out _ H2b.out _ HF2b.out).mono ?_; rintro e w3 ⟨rfl, hb⟩; have h3 : Below w.heap.size w w3 := H2b.out.trans (hb.mono (Nat.le_of_lt m4)); obtain ⟨i1, i2, i3⟩ := bcell hb; have i4 : w.heap.size < w3.heap.size := (by omega); have H3 := Lib.hid h3; clear hb h3)
      | (go_at_call 136; refine (HFC.out _).mono ?_; rintro e w4 ⟨rfl, rfl⟩)))
    go_ret2
    exact ⟨rfl, by first | exact H3.out | exact H2b.out⟩
end

end Go.Proofs.YtkhlmofcdchccaaGreatDoor

namespace Go.Proofs.YtkhlmofcdchccaaGreatDoor
open Go.RowKit

theorem resolveAt_some {q n : ByteArray} {f : Frm} {j : Nat} (h : resolveAt q n f = some j) : ∃ c, f.cols[j]? = some c := by
  unfold resolveAt at h
  split at h
  · unfold findCol at h
    rw [List.findIdx?_eq_some_iff_getElem] at h
    obtain ⟨hlt, _⟩ := h
    exact ⟨_, List.getElem?_eq_getElem hlt⟩
  · cases h

theorem resolve_spec {q n : ByteArray} : ∀ {fs : List Frm} {i j : Nat}, resolve q n fs = some (i, j) → ∃ f c, fs[i]? = some f ∧ f.cols[j]? = some c
  | [], i, j, h => by cases h
  | f :: fs, i, j, h => by
    rw [resolve] at h
    cases hr : resolve q n fs with
    | some p =>
      obtain ⟨i', k⟩ := p
      rw [hr] at h
      simp only [Option.some.injEq, Prod.mk.injEq] at h
      obtain ⟨rfl, rfl⟩ := h
      obtain ⟨g, c, h1, h2⟩ := resolve_spec hr
      exact ⟨g, c, by simpa using h1, h2⟩
    | none =>
      rw [hr] at h
      simp only [Option.map_eq_some_iff, Prod.mk.injEq] at h
      obtain ⟨k, hk, rfl, rfl⟩ := h
      obtain ⟨c, hc⟩ := resolveAt_some hk
      exact ⟨f, c, rfl, hc⟩

theorem formed_sub {e : Ex} (h : formed e = true) (hk : 8 ≤ e.kind) : (∃ q, e.sub = [q] ∧ q.whr.length ≤ 1 ∧ ((e.kind = 8 ∨ e.kind = 9) ∧ q.items = [] ∨ (e.kind = 10 ∨ e.kind = 11 ∨ e.kind = 12) ∧ ∃ x, q.items = [x])) := by
  unfold formed at h
  rw [if_neg (by omega), if_neg (by omega), if_neg (by omega), if_neg (by omega)] at h
  have sub1 : ∀ items, subOk items e.sub = true → ∃ q, e.sub = [q] ∧ q.items.length = items ∧ q.whr.length ≤ 1 := by
    intro items hs
    match hq : e.sub with
    | [] => rw [hq] at hs; cases hs
    | [q] =>
      rw [hq] at hs
      simp [subOk] at hs
      exact ⟨q, rfl, hs.1, hs.2⟩
    | _ :: _ :: _ => rw [hq] at hs; cases hs
  by_cases k8 : e.kind = 8 ∨ e.kind = 9
  · rw [if_pos k8] at h
    simp only [Bool.and_eq_true] at h
    obtain ⟨q, h1, h2, h3⟩ := sub1 0 h.2
    exact ⟨q, h1, h3, .inl ⟨k8, List.eq_nil_of_length_eq_zero h2⟩⟩
  · rw [if_neg k8] at h
    by_cases k10 : e.kind = 10 ∨ e.kind = 11 ∨ e.kind = 12
    · rw [if_pos k10] at h
      simp only [Bool.and_eq_true] at h
      obtain ⟨q, h1, h2, h3⟩ := sub1 1 h.2
      match hi : q.items, h2 with
      | [x], _ => exact ⟨q, h1, h3, .inr ⟨k10, x, hi⟩⟩
    · rw [if_neg k10] at h
      cases h

theorem aggregate_any (ts : List Sch) (hsm : ColsSmall ts) (e : Ex) (fs : List Frm) (cs : List Value) (vf vt : Value) (w : World) (he : EC NoM w e cs) (hf : FrmsR NoM w vf fs) (ht : TblsR NoM w vt ts) (hd : fs.length + dep e ≤ 1000000000)
    (hfm : formed e = true) (hk : 8 ≤ e.kind) (hq : ∀ q ∈ e.sub, (∀ x ∈ q.items, TypeOk ts x) ∧ (∀ x ∈ q.whr, TypeOk ts x)) :
    Calls Tryz.prog 182 #[.agg cs.toArray, vf, vt] w (RetII (typeSub ts e.kind e.sub fs) w) := by
  obtain ⟨q, hs, hwl, hcase⟩ := formed_sub hfm hk
  obtain ⟨va, vs, rfl, ha, hsr⟩ := (EC_iff ..).1 he
  obtain ⟨a, ac, rfl, _⟩ := ha.shape
  rw [hs] at hsr
  rcases hsr.open with ⟨_, h⟩ | ⟨sb, so, sc, rfl, _, hb, _, _, hx⟩
  · cases h
  obtain ⟨qs, hqc, _, hqs⟩ := hx 0 q rfl
  obtain ⟨vi, vw, rfl, hi, hw⟩ := (QC_iff ..).1 hqc
  obtain ⟨wa, wc, rfl, _⟩ := hw.shape
  rw [Nat.zero_mul, Nat.add_zero] at hqs
  obtain ⟨q0, q1, q2, q3⟩ := hqs.c4
  obtain ⟨hqi, hqw⟩ := hq q (by rw [hs]; exact List.mem_singleton.2 rfl)
  have hdq : dep e ≥ depQ q := by rw [dep_eq, hs]; exact Nat.le_trans (depS_mem (List.mem_singleton.2 rfl)) (Nat.le_max_right _ _)
  have hd1 : max (depL q.items) (depL q.whr) + 1 ≤ dep e := by rw [depQ_eq] at hdq; exact hdq
  have hts : typeSub ts e.kind e.sub fs = typeQ ts e.kind q fs := by rw [hs, typeSub]
  have htq : typeQ ts e.kind q fs = match sourceP ts q.frm with
    | none => (0, 3)
    | some s => match typeL ts q.items (fs ++ [frmOf s]) with
      | .error c => (0, c)
      | .ok l => if typeC ts q.whr (fs ++ [frmOf s]) ≠ 0 then (0, typeC ts q.whr (fs ++ [frmOf s])) else aggP e.kind (l.getLastD 0) := by
    rw [Qu.eta q, typeQ]
    rfl
  rw [hts, htq, sourceP_eq]
  cases hfd : findTbl ts q.frm with
  | none =>
    obtain ⟨ia, ic, rfl, _⟩ := hi.shape
    exact agg_none ts e.kind e.op e.no e.val.kind e.val.int e.val.text e.table e.name a e.args.length ac sc sb so q.star q.frm ia wa ic wc q.items q.whr vf vt w hb q0 q1 q2 q3 ht hfd
  | some i =>
    have hlt : i < ts.length := by
      unfold findTbl at hfd
      rw [List.findIdx?_eq_some_iff_getElem] at hfd
      exact hfd.1
    have hsi : ts[i]? = some ts[i] := List.getElem?_eq_getElem hlt
    generalize ts[i] = s at hsi
    simp only [hsi]
    rcases hcase with ⟨hk', hit⟩ | ⟨hk', x, hit⟩
    · obtain ⟨ia, ic, rfl, _⟩ := hi.shape
      have := agg_zero ts e.kind e.op e.no e.val.kind e.val.int e.val.text e.table e.name a e.args.length ac sc sb so q.star q.frm ia wa ic wc q.items q.whr fs vf vt w hb q0 q1 q2 q3 ht hsm hf (by omega) i s hfd hsi (by rw [hit]; rfl) hk' hw hqw (by omega)
      rw [hit, typeL]
      exact this
    · rw [hit] at hi hqi hd1
      rcases hi.open with ⟨_, h⟩ | ⟨ib, io, ic, rfl, _, hib, _, _, hxi⟩
      · cases h
      obtain ⟨xs, hxc, _, hxs⟩ := hxi 0 x rfl
      rw [Nat.zero_mul, Nat.add_zero] at hxs
      have hdx : depL [x] = dep x := by rw [depL, depL]; omega
      rw [hdx] at hd1
      have := agg_one ts e.kind e.op e.no e.val.kind e.val.int e.val.text e.table e.name a e.args.length ac sc sb so q.star q.frm ib io wa ic wc x q.whr fs vf vt w hb q0 q1 q2 q3 ht hsm hf (by omega) i s hfd hsi hk' xs hib hxs hxc (hqi x (List.mem_singleton.2 rfl)) (by omega) hw hqw (by omega)
      rw [hit, typeL, typeL]
      by_cases hc : (typeP ts x (fs ++ [frmOf s])).2 ≠ 0
      · rw [if_pos hc] at this ⊢
        exact this
      · rw [if_neg hc] at this ⊢
        exact this

end Go.Proofs.YtkhlmofcdchccaaGreatDoor
