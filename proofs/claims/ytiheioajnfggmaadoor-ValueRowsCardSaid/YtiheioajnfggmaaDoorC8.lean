/- Expressions with the parts that their kinds have: contract of scope.Formed. -/
import Derived.Test.YtiheioajnfggmaaDoorC7
namespace Go.Proofs.YtiheioajnfggmaaDoor
open Go.RowKit

set_option maxHeartbeats 1000000 in
theorem formed_1 (o : Int) (no : Bool) (vk vi : Int) (vt t nm : ByteArray) (a s : Option Addr) (n m ac sc : Nat) (w : World) :
    Calls Tryd.prog 68 #[.agg #[.int .i64 1, .int .i64 o, .bool no, .int .i64 vk, .int .i64 vi, .string vt, .string t, .string nm, .slice a n ac, .slice s m sc]] w (RetBel (.bool (n == 0 && m == 0)) w) := by
  by_cases hn : n = 0
  · subst hn
    by_cases hm : m = 0
    · subst hm
      go_enter Tryd.func68, Tryd.ntmps68
      go_wp2_with fail
      go_ret
      exact ⟨rfl, (Below.refl _ _).alloc (Nat.le_refl _) _⟩
    · have hm' : ((m : Int) == 0) = false := by simpa using hm
      have H : Hid ((0 == 0 && m == 0) = false) := Lib.hid (by simpa using hm)
      have hm'' : ((m : Int) != 0) = true := by simpa using hm
      clear hm
      go_enter Tryd.func68, Tryd.ntmps68
      go_wp2_with fail
      go_ret
      exact ⟨by rw [H.out]; rfl, (Below.refl _ _).alloc (Nat.le_refl _) _⟩
  · have H : Hid ((n == 0 && m == 0) = false) := Lib.hid (by simp [hn])
    have hn' : ((n : Int) == 0) = false := by simp; omega
    have hn'' : ((n : Int) != 0) = true := by simp; omega
    clear hn
    go_enter Tryd.func68, Tryd.ntmps68
    go_wp2_with fail
    go_ret
    exact ⟨by rw [H.out]; rfl, (Below.refl _ _).alloc (Nat.le_refl _) _⟩

set_option maxHeartbeats 1000000 in
theorem formed_2 (o : Int) (no : Bool) (vk vi : Int) (vt t nm : ByteArray) (a s : Option Addr) (n m ac sc : Nat) (w : World) :
    Calls Tryd.prog 68 #[.agg #[.int .i64 2, .int .i64 o, .bool no, .int .i64 vk, .int .i64 vi, .string vt, .string t, .string nm, .slice a n ac, .slice s m sc]] w (RetBel (.bool (n == 0 && m == 0)) w) := by
  by_cases hn : n = 0
  · subst hn
    by_cases hm : m = 0
    · subst hm
      go_enter Tryd.func68, Tryd.ntmps68
      go_wp2_with fail
      go_ret
      exact ⟨rfl, (Below.refl _ _).alloc (Nat.le_refl _) _⟩
    · have hm' : ((m : Int) == 0) = false := by simpa using hm
      have H : Hid ((0 == 0 && m == 0) = false) := Lib.hid (by simpa using hm)
      have hm'' : ((m : Int) != 0) = true := by simpa using hm
      clear hm
      go_enter Tryd.func68, Tryd.ntmps68
      go_wp2_with fail
      go_ret
      exact ⟨by rw [H.out]; rfl, (Below.refl _ _).alloc (Nat.le_refl _) _⟩
  · have H : Hid ((n == 0 && m == 0) = false) := Lib.hid (by simp [hn])
    have hn' : ((n : Int) == 0) = false := by simp; omega
    have hn'' : ((n : Int) != 0) = true := by simp; omega
    clear hn
    go_enter Tryd.func68, Tryd.ntmps68
    go_wp2_with fail
    go_ret
    exact ⟨by rw [H.out]; rfl, (Below.refl _ _).alloc (Nat.le_refl _) _⟩

set_option maxHeartbeats 1000000 in
theorem formed_3 (o : Int) (no : Bool) (vk vi : Int) (vt t nm : ByteArray) (a s : Option Addr) (n m ac sc : Nat) (w : World) :
    Calls Tryd.prog 68 #[.agg #[.int .i64 3, .int .i64 o, .bool no, .int .i64 vk, .int .i64 vi, .string vt, .string t, .string nm, .slice a n ac, .slice s m sc]] w (RetBel (.bool (n == 1 && m == 0)) w) := by
  by_cases hn : n = 1
  · subst hn
    by_cases hm : m = 0
    · subst hm
      go_enter Tryd.func68, Tryd.ntmps68
      go_wp2_with fail
      go_ret
      exact ⟨rfl, (Below.refl _ _).alloc (Nat.le_refl _) _⟩
    · have hm' : ((m : Int) == 0) = false := by simpa using hm
      have H : Hid ((1 == 1 && m == 0) = false) := Lib.hid (by simpa using hm)
      have hm'' : ((m : Int) != 0) = true := by simpa using hm
      clear hm
      go_enter Tryd.func68, Tryd.ntmps68
      go_wp2_with fail
      go_ret
      exact ⟨by rw [H.out]; rfl, (Below.refl _ _).alloc (Nat.le_refl _) _⟩
  · have H : Hid ((n == 1 && m == 0) = false) := Lib.hid (by simp [hn])
    have hn' : ((n : Int) == 1) = false := by simp; omega
    have hn'' : ((n : Int) != 1) = true := by simp; omega
    clear hn
    go_enter Tryd.func68, Tryd.ntmps68
    go_wp2_with fail
    go_ret
    exact ⟨by rw [H.out]; rfl, (Below.refl _ _).alloc (Nat.le_refl _) _⟩

set_option maxHeartbeats 1000000 in
theorem formed_4 (o : Int) (no : Bool) (vk vi : Int) (vt t nm : ByteArray) (a s : Option Addr) (n m ac sc : Nat) (w : World) :
    Calls Tryd.prog 68 #[.agg #[.int .i64 4, .int .i64 o, .bool no, .int .i64 vk, .int .i64 vi, .string vt, .string t, .string nm, .slice a n ac, .slice s m sc]] w (RetBel (.bool (n == 1 && m == 0)) w) := by
  by_cases hn : n = 1
  · subst hn
    by_cases hm : m = 0
    · subst hm
      go_enter Tryd.func68, Tryd.ntmps68
      go_wp2_with fail
      go_ret
      exact ⟨rfl, (Below.refl _ _).alloc (Nat.le_refl _) _⟩
    · have hm' : ((m : Int) == 0) = false := by simpa using hm
      have H : Hid ((1 == 1 && m == 0) = false) := Lib.hid (by simpa using hm)
      have hm'' : ((m : Int) != 0) = true := by simpa using hm
      clear hm
      go_enter Tryd.func68, Tryd.ntmps68
      go_wp2_with fail
      go_ret
      exact ⟨by rw [H.out]; rfl, (Below.refl _ _).alloc (Nat.le_refl _) _⟩
  · have H : Hid ((n == 1 && m == 0) = false) := Lib.hid (by simp [hn])
    have hn' : ((n : Int) == 1) = false := by simp; omega
    have hn'' : ((n : Int) != 1) = true := by simp; omega
    clear hn
    go_enter Tryd.func68, Tryd.ntmps68
    go_wp2_with fail
    go_ret
    exact ⟨by rw [H.out]; rfl, (Below.refl _ _).alloc (Nat.le_refl _) _⟩

set_option maxHeartbeats 1000000 in
theorem formed_6 (o : Int) (no : Bool) (vk vi : Int) (vt t nm : ByteArray) (a s : Option Addr) (n m ac sc : Nat) (w : World) :
    Calls Tryd.prog 68 #[.agg #[.int .i64 6, .int .i64 o, .bool no, .int .i64 vk, .int .i64 vi, .string vt, .string t, .string nm, .slice a n ac, .slice s m sc]] w (RetBel (.bool (n == 1 && m == 0)) w) := by
  by_cases hn : n = 1
  · subst hn
    by_cases hm : m = 0
    · subst hm
      go_enter Tryd.func68, Tryd.ntmps68
      go_wp2_with fail
      go_ret
      exact ⟨rfl, (Below.refl _ _).alloc (Nat.le_refl _) _⟩
    · have hm' : ((m : Int) == 0) = false := by simpa using hm
      have H : Hid ((1 == 1 && m == 0) = false) := Lib.hid (by simpa using hm)
      have hm'' : ((m : Int) != 0) = true := by simpa using hm
      clear hm
      go_enter Tryd.func68, Tryd.ntmps68
      go_wp2_with fail
      go_ret
      exact ⟨by rw [H.out]; rfl, (Below.refl _ _).alloc (Nat.le_refl _) _⟩
  · have H : Hid ((n == 1 && m == 0) = false) := Lib.hid (by simp [hn])
    have hn' : ((n : Int) == 1) = false := by simp; omega
    have hn'' : ((n : Int) != 1) = true := by simp; omega
    clear hn
    go_enter Tryd.func68, Tryd.ntmps68
    go_wp2_with fail
    go_ret
    exact ⟨by rw [H.out]; rfl, (Below.refl _ _).alloc (Nat.le_refl _) _⟩

set_option maxHeartbeats 1000000 in
theorem formed_7 (o : Int) (no : Bool) (vk vi : Int) (vt t nm : ByteArray) (a s : Option Addr) (n m ac sc : Nat) (w : World) :
    Calls Tryd.prog 68 #[.agg #[.int .i64 7, .int .i64 o, .bool no, .int .i64 vk, .int .i64 vi, .string vt, .string t, .string nm, .slice a n ac, .slice s m sc]] w (RetBel (.bool (n == 3 && m == 0)) w) := by
  by_cases hn : n = 3
  · subst hn
    by_cases hm : m = 0
    · subst hm
      go_enter Tryd.func68, Tryd.ntmps68
      go_wp2_with fail
      go_ret
      exact ⟨rfl, (Below.refl _ _).alloc (Nat.le_refl _) _⟩
    · have hm' : ((m : Int) == 0) = false := by simpa using hm
      have H : Hid ((3 == 3 && m == 0) = false) := Lib.hid (by simpa using hm)
      have hm'' : ((m : Int) != 0) = true := by simpa using hm
      clear hm
      go_enter Tryd.func68, Tryd.ntmps68
      go_wp2_with fail
      go_ret
      exact ⟨by rw [H.out]; rfl, (Below.refl _ _).alloc (Nat.le_refl _) _⟩
  · have H : Hid ((n == 3 && m == 0) = false) := Lib.hid (by simp [hn])
    have hn' : ((n : Int) == 3) = false := by simp; omega
    have hn'' : ((n : Int) != 3) = true := by simp; omega
    clear hn
    go_enter Tryd.func68, Tryd.ntmps68
    go_wp2_with fail
    go_ret
    exact ⟨by rw [H.out]; rfl, (Below.refl _ _).alloc (Nat.le_refl _) _⟩

set_option maxHeartbeats 1000000 in
theorem formed_8 (o : Int) (no : Bool) (vk vi : Int) (vt t nm : ByteArray) (a s : Option Addr) (n m ac sc : Nat) (w : World) (h : n ≠ 0 ∨ m ≠ 1) :
    Calls Tryd.prog 68 #[.agg #[.int .i64 8, .int .i64 o, .bool no, .int .i64 vk, .int .i64 vi, .string vt, .string t, .string nm, .slice a n ac, .slice s m sc]] w (RetBel (.bool false) w) := by
  by_cases hn : n = 0
  · have hm : m ≠ 1 := by omega
    subst hn
    have hm' : ((m : Int) == 1) = false := by simp; omega
    have hm'' : ((m : Int) != 1) = true := by simp; omega
    clear hm h
    go_enter Tryd.func68, Tryd.ntmps68
    go_wp2_with fail
    go_ret
    exact ⟨rfl, (Below.refl _ _).alloc (Nat.le_refl _) _⟩
  · have hn' : ((n : Int) == 0) = false := by simpa using hn
    have hn'' : ((n : Int) != 0) = true := by simpa using hn
    clear hn h
    go_enter Tryd.func68, Tryd.ntmps68
    go_wp2_with fail
    go_ret
    exact ⟨rfl, (Below.refl _ _).alloc (Nat.le_refl _) _⟩

set_option maxHeartbeats 1000000 in
theorem formedq_8 (o : Int) (no : Bool) (vk vi : Int) (vt t nm : ByteArray) (a : Option Addr) (ac sc b off : Nat) (ni ci nw cw : Nat) (ai aw : Option Addr) (w : World) (hb : b < w.heap.size)
    (h1 : w.cell? ⟨b, off + 1, none⟩ = some (.slice ai ni ci)) (h3 : w.cell? ⟨b, off + 3, none⟩ = some (.slice aw nw cw)) :
    Calls Tryd.prog 68 #[.agg #[.int .i64 8, .int .i64 o, .bool no, .int .i64 vk, .int .i64 vi, .string vt, .string t, .string nm, .slice a 0 ac, .slice (some ⟨b, off, none⟩) 1 sc]] w (RetBel (.bool (ni == 0 && decide (nw ≤ 1))) w) := by
  by_cases hn : ni = 0
  · subst hn
    go_enter Tryd.func68, Tryd.ntmps68
    go_wp2_with fail
    go_ret
    exact ⟨by simp; try omega, (Below.refl _ _).alloc (Nat.le_refl _) _⟩
  · have H : Hid ((ni == 0 && decide (nw ≤ 1)) = false) := Lib.hid (by simp [hn])
    have hn' : ((ni : Int) == 0) = false := by simp; omega
    clear hn
    go_enter Tryd.func68, Tryd.ntmps68
    go_wp2_with fail
    go_ret
    exact ⟨by rw [H.out]; rfl, (Below.refl _ _).alloc (Nat.le_refl _) _⟩

set_option maxHeartbeats 1000000 in
theorem formed_9 (o : Int) (no : Bool) (vk vi : Int) (vt t nm : ByteArray) (a s : Option Addr) (n m ac sc : Nat) (w : World) (h : n ≠ 0 ∨ m ≠ 1) :
    Calls Tryd.prog 68 #[.agg #[.int .i64 9, .int .i64 o, .bool no, .int .i64 vk, .int .i64 vi, .string vt, .string t, .string nm, .slice a n ac, .slice s m sc]] w (RetBel (.bool false) w) := by
  by_cases hn : n = 0
  · have hm : m ≠ 1 := by omega
    subst hn
    have hm' : ((m : Int) == 1) = false := by simp; omega
    have hm'' : ((m : Int) != 1) = true := by simp; omega
    clear hm h
    go_enter Tryd.func68, Tryd.ntmps68
    go_wp2_with fail
    go_ret
    exact ⟨rfl, (Below.refl _ _).alloc (Nat.le_refl _) _⟩
  · have hn' : ((n : Int) == 0) = false := by simpa using hn
    have hn'' : ((n : Int) != 0) = true := by simpa using hn
    clear hn h
    go_enter Tryd.func68, Tryd.ntmps68
    go_wp2_with fail
    go_ret
    exact ⟨rfl, (Below.refl _ _).alloc (Nat.le_refl _) _⟩

set_option maxHeartbeats 1000000 in
theorem formedq_9 (o : Int) (no : Bool) (vk vi : Int) (vt t nm : ByteArray) (a : Option Addr) (ac sc b off : Nat) (ni ci nw cw : Nat) (ai aw : Option Addr) (w : World) (hb : b < w.heap.size)
    (h1 : w.cell? ⟨b, off + 1, none⟩ = some (.slice ai ni ci)) (h3 : w.cell? ⟨b, off + 3, none⟩ = some (.slice aw nw cw)) :
    Calls Tryd.prog 68 #[.agg #[.int .i64 9, .int .i64 o, .bool no, .int .i64 vk, .int .i64 vi, .string vt, .string t, .string nm, .slice a 0 ac, .slice (some ⟨b, off, none⟩) 1 sc]] w (RetBel (.bool (ni == 0 && decide (nw ≤ 1))) w) := by
  by_cases hn : ni = 0
  · subst hn
    go_enter Tryd.func68, Tryd.ntmps68
    go_wp2_with fail
    go_ret
    exact ⟨by simp; try omega, (Below.refl _ _).alloc (Nat.le_refl _) _⟩
  · have H : Hid ((ni == 0 && decide (nw ≤ 1)) = false) := Lib.hid (by simp [hn])
    have hn' : ((ni : Int) == 0) = false := by simp; omega
    clear hn
    go_enter Tryd.func68, Tryd.ntmps68
    go_wp2_with fail
    go_ret
    exact ⟨by rw [H.out]; rfl, (Below.refl _ _).alloc (Nat.le_refl _) _⟩

set_option maxHeartbeats 1000000 in
theorem formed_10 (o : Int) (no : Bool) (vk vi : Int) (vt t nm : ByteArray) (a s : Option Addr) (n m ac sc : Nat) (w : World) (h : n ≠ 0 ∨ m ≠ 1) :
    Calls Tryd.prog 68 #[.agg #[.int .i64 10, .int .i64 o, .bool no, .int .i64 vk, .int .i64 vi, .string vt, .string t, .string nm, .slice a n ac, .slice s m sc]] w (RetBel (.bool false) w) := by
  by_cases hn : n = 0
  · have hm : m ≠ 1 := by omega
    subst hn
    have hm' : ((m : Int) == 1) = false := by simp; omega
    have hm'' : ((m : Int) != 1) = true := by simp; omega
    clear hm h
    go_enter Tryd.func68, Tryd.ntmps68
    go_wp2_with fail
    go_ret
    exact ⟨rfl, (Below.refl _ _).alloc (Nat.le_refl _) _⟩
  · have hn' : ((n : Int) == 0) = false := by simpa using hn
    have hn'' : ((n : Int) != 0) = true := by simpa using hn
    clear hn h
    go_enter Tryd.func68, Tryd.ntmps68
    go_wp2_with fail
    go_ret
    exact ⟨rfl, (Below.refl _ _).alloc (Nat.le_refl _) _⟩

set_option maxHeartbeats 1000000 in
theorem formedq_10 (o : Int) (no : Bool) (vk vi : Int) (vt t nm : ByteArray) (a : Option Addr) (ac sc b off : Nat) (ni ci nw cw : Nat) (ai aw : Option Addr) (w : World) (hb : b < w.heap.size)
    (h1 : w.cell? ⟨b, off + 1, none⟩ = some (.slice ai ni ci)) (h3 : w.cell? ⟨b, off + 3, none⟩ = some (.slice aw nw cw)) :
    Calls Tryd.prog 68 #[.agg #[.int .i64 10, .int .i64 o, .bool no, .int .i64 vk, .int .i64 vi, .string vt, .string t, .string nm, .slice a 0 ac, .slice (some ⟨b, off, none⟩) 1 sc]] w (RetBel (.bool (ni == 1 && decide (nw ≤ 1))) w) := by
  by_cases hn : ni = 1
  · subst hn
    go_enter Tryd.func68, Tryd.ntmps68
    go_wp2_with fail
    go_ret
    exact ⟨by simp; try omega, (Below.refl _ _).alloc (Nat.le_refl _) _⟩
  · have H : Hid ((ni == 1 && decide (nw ≤ 1)) = false) := Lib.hid (by simp [hn])
    have hn' : ((ni : Int) == 1) = false := by simp; omega
    clear hn
    go_enter Tryd.func68, Tryd.ntmps68
    go_wp2_with fail
    go_ret
    exact ⟨by rw [H.out]; rfl, (Below.refl _ _).alloc (Nat.le_refl _) _⟩

set_option maxHeartbeats 1000000 in
theorem formed_11 (o : Int) (no : Bool) (vk vi : Int) (vt t nm : ByteArray) (a s : Option Addr) (n m ac sc : Nat) (w : World) (h : n ≠ 0 ∨ m ≠ 1) :
    Calls Tryd.prog 68 #[.agg #[.int .i64 11, .int .i64 o, .bool no, .int .i64 vk, .int .i64 vi, .string vt, .string t, .string nm, .slice a n ac, .slice s m sc]] w (RetBel (.bool false) w) := by
  by_cases hn : n = 0
  · have hm : m ≠ 1 := by omega
    subst hn
    have hm' : ((m : Int) == 1) = false := by simp; omega
    have hm'' : ((m : Int) != 1) = true := by simp; omega
    clear hm h
    go_enter Tryd.func68, Tryd.ntmps68
    go_wp2_with fail
    go_ret
    exact ⟨rfl, (Below.refl _ _).alloc (Nat.le_refl _) _⟩
  · have hn' : ((n : Int) == 0) = false := by simpa using hn
    have hn'' : ((n : Int) != 0) = true := by simpa using hn
    clear hn h
    go_enter Tryd.func68, Tryd.ntmps68
    go_wp2_with fail
    go_ret
    exact ⟨rfl, (Below.refl _ _).alloc (Nat.le_refl _) _⟩

set_option maxHeartbeats 1000000 in
theorem formedq_11 (o : Int) (no : Bool) (vk vi : Int) (vt t nm : ByteArray) (a : Option Addr) (ac sc b off : Nat) (ni ci nw cw : Nat) (ai aw : Option Addr) (w : World) (hb : b < w.heap.size)
    (h1 : w.cell? ⟨b, off + 1, none⟩ = some (.slice ai ni ci)) (h3 : w.cell? ⟨b, off + 3, none⟩ = some (.slice aw nw cw)) :
    Calls Tryd.prog 68 #[.agg #[.int .i64 11, .int .i64 o, .bool no, .int .i64 vk, .int .i64 vi, .string vt, .string t, .string nm, .slice a 0 ac, .slice (some ⟨b, off, none⟩) 1 sc]] w (RetBel (.bool (ni == 1 && decide (nw ≤ 1))) w) := by
  by_cases hn : ni = 1
  · subst hn
    go_enter Tryd.func68, Tryd.ntmps68
    go_wp2_with fail
    go_ret
    exact ⟨by simp; try omega, (Below.refl _ _).alloc (Nat.le_refl _) _⟩
  · have H : Hid ((ni == 1 && decide (nw ≤ 1)) = false) := Lib.hid (by simp [hn])
    have hn' : ((ni : Int) == 1) = false := by simp; omega
    clear hn
    go_enter Tryd.func68, Tryd.ntmps68
    go_wp2_with fail
    go_ret
    exact ⟨by rw [H.out]; rfl, (Below.refl _ _).alloc (Nat.le_refl _) _⟩

set_option maxHeartbeats 1000000 in
theorem formed_12 (o : Int) (no : Bool) (vk vi : Int) (vt t nm : ByteArray) (a s : Option Addr) (n m ac sc : Nat) (w : World) (h : n ≠ 0 ∨ m ≠ 1) :
    Calls Tryd.prog 68 #[.agg #[.int .i64 12, .int .i64 o, .bool no, .int .i64 vk, .int .i64 vi, .string vt, .string t, .string nm, .slice a n ac, .slice s m sc]] w (RetBel (.bool false) w) := by
  by_cases hn : n = 0
  · have hm : m ≠ 1 := by omega
    subst hn
    have hm' : ((m : Int) == 1) = false := by simp; omega
    have hm'' : ((m : Int) != 1) = true := by simp; omega
    clear hm h
    go_enter Tryd.func68, Tryd.ntmps68
    go_wp2_with fail
    go_ret
    exact ⟨rfl, (Below.refl _ _).alloc (Nat.le_refl _) _⟩
  · have hn' : ((n : Int) == 0) = false := by simpa using hn
    have hn'' : ((n : Int) != 0) = true := by simpa using hn
    clear hn h
    go_enter Tryd.func68, Tryd.ntmps68
    go_wp2_with fail
    go_ret
    exact ⟨rfl, (Below.refl _ _).alloc (Nat.le_refl _) _⟩

set_option maxHeartbeats 1000000 in
theorem formedq_12 (o : Int) (no : Bool) (vk vi : Int) (vt t nm : ByteArray) (a : Option Addr) (ac sc b off : Nat) (ni ci nw cw : Nat) (ai aw : Option Addr) (w : World) (hb : b < w.heap.size)
    (h1 : w.cell? ⟨b, off + 1, none⟩ = some (.slice ai ni ci)) (h3 : w.cell? ⟨b, off + 3, none⟩ = some (.slice aw nw cw)) :
    Calls Tryd.prog 68 #[.agg #[.int .i64 12, .int .i64 o, .bool no, .int .i64 vk, .int .i64 vi, .string vt, .string t, .string nm, .slice a 0 ac, .slice (some ⟨b, off, none⟩) 1 sc]] w (RetBel (.bool (ni == 1 && decide (nw ≤ 1))) w) := by
  by_cases hn : ni = 1
  · subst hn
    go_enter Tryd.func68, Tryd.ntmps68
    go_wp2_with fail
    go_ret
    exact ⟨by simp; try omega, (Below.refl _ _).alloc (Nat.le_refl _) _⟩
  · have H : Hid ((ni == 1 && decide (nw ≤ 1)) = false) := Lib.hid (by simp [hn])
    have hn' : ((ni : Int) == 1) = false := by simp; omega
    clear hn
    go_enter Tryd.func68, Tryd.ntmps68
    go_wp2_with fail
    go_ret
    exact ⟨by rw [H.out]; rfl, (Below.refl _ _).alloc (Nat.le_refl _) _⟩

section
variable (o : Int) (no : Bool) (vk vi : Int) (vt t nm : ByteArray) (a s : Option Addr) (n m ac sc : Nat) (w : World)
set_option maxHeartbeats 1000000 in
theorem formed_5' (r : Bool) (hr : r = (decide (1 ≤ o) && decide (o ≤ 13) && n == 2 && m == 0)) : Calls Tryd.prog 68 #[.agg #[.int .i64 5, .int .i64 o, .bool no, .int .i64 vk, .int .i64 vi, .string vt, .string t, .string nm, .slice a n ac, .slice s m sc]] w (RetBel (.bool r) w) := by
  by_cases h1 : o < 1
  · have e1 : decide (1 ≤ o) = false := by simp; omega
    rw [e1] at hr
    subst hr
    clear e1
    go_enter Tryd.func68, Tryd.ntmps68
    go_wp2_with fail
    go_ret
    exact ⟨rfl, (Below.refl _ _).alloc (Nat.le_refl _) _⟩
  have e1 : decide (1 ≤ o) = true := by simp; omega
  by_cases h2 : 13 < o
  · have e2 : decide (o ≤ 13) = false := by simp; omega
    rw [e1, e2] at hr
    subst hr
    clear e1 e2
    go_enter Tryd.func68, Tryd.ntmps68
    go_wp2_with fail
    go_ret
    exact ⟨rfl, (Below.refl _ _).alloc (Nat.le_refl _) _⟩
  have e2 : decide (o ≤ 13) = true := by simp; omega
  rw [e1, e2] at hr
  clear e1 e2
  by_cases hn : n = 2
  · subst hn
    by_cases hm : m = 0
    · subst hm
      subst hr
      go_enter Tryd.func68, Tryd.ntmps68
      go_wp2_with fail
      go_ret
      exact ⟨rfl, (Below.refl _ _).alloc (Nat.le_refl _) _⟩
    · have hm' : ((m : Int) == 0) = false := by simpa using hm
      have H : r = false := by rw [hr]; simpa using hm
      have hm'' : ((m : Int) != 0) = true := by simpa using hm
      clear hm hr
      subst H
      go_enter Tryd.func68, Tryd.ntmps68
      go_wp2_with fail
      go_ret
      exact ⟨rfl, (Below.refl _ _).alloc (Nat.le_refl _) _⟩
  · have H : r = false := by rw [hr]; simp [hn]
    have hn' : ((n : Int) == 2) = false := by simp; omega
    have hn'' : ((n : Int) != 2) = true := by simp; omega
    clear hn hr
    subst H
    go_enter Tryd.func68, Tryd.ntmps68
    go_wp2_with fail
    go_ret
    exact ⟨rfl, (Below.refl _ _).alloc (Nat.le_refl _) _⟩

set_option maxHeartbeats 1000000 in
theorem formed_x (k : Int) (h : k < 1 ∨ 12 < k) : Calls Tryd.prog 68 #[.agg #[.int .i64 k, .int .i64 o, .bool no, .int .i64 vk, .int .i64 vi, .string vt, .string t, .string nm, .slice a n ac, .slice s m sc]] w (RetBel (.bool false) w) := by
  have b1 : (k == 1) = false := by simp; omega
  have b2 : (k == 2) = false := by simp; omega
  have b3 : (k == 3) = false := by simp; omega
  have b4 : (k == 4) = false := by simp; omega
  have b5 : (k == 5) = false := by simp; omega
  have b6 : (k == 6) = false := by simp; omega
  have b7 : (k == 7) = false := by simp; omega
  have b8 : (k == 8) = false := by simp; omega
  have b9 : (k == 9) = false := by simp; omega
  have b10 : (k == 10) = false := by simp; omega
  have b11 : (k == 11) = false := by simp; omega
  have b12 : (k == 12) = false := by simp; omega
  clear h
  go_enter Tryd.func68, Tryd.ntmps68
  go_wp2_with fail
  go_ret
  exact ⟨rfl, (Below.refl _ _).alloc (Nat.le_refl _) _⟩
end

theorem no_sub {e : Ex} {items : Nat} (h : e.args.length ≠ 0 ∨ e.sub.length ≠ 1) : (e.args.length == 0 && subOk items e.sub) = false := by
  by_cases h0 : e.args.length = 0
  · have h1 : e.sub.length ≠ 1 := by omega
    have : subOk items e.sub = false := by
      match hq : e.sub with
      | [] => rfl
      | [q] => simp [hq] at h1
      | q :: r :: l => rfl
    simp [this]
  · simp [h0]

theorem formed_any (e : Ex) (cs : List Value) (w : World) (h : EC NoM w e cs) : Calls Tryd.prog 68 #[.agg cs.toArray] w (RetBel (.bool (formed e)) w) := by
  obtain ⟨va, vs, rfl, ha, hs⟩ := (EC_iff ..).1 h
  obtain ⟨a, ac, rfl, _⟩ := ha.shape
  obtain ⟨s, sc, rfl, _⟩ := hs.shape
  show Calls Tryd.prog 68 #[.agg #[.int .i64 e.kind, .int .i64 e.op, .bool e.no, .int .i64 e.val.kind, .int .i64 e.val.int, .string e.val.text, .string e.table, .string e.name, .slice a e.args.length ac, .slice s e.sub.length sc]] w _
  have hsub : ∀ items, ¬ (e.args.length ≠ 0 ∨ e.sub.length ≠ 1) → ∃ b off q ai ni ci aw nw cw, s = some ⟨b, off, none⟩ ∧ e.args.length = 0 ∧ e.sub = [q] ∧ b < w.heap.size ∧ w.cell? ⟨b, off + 1, none⟩ = some (.slice ai ni ci) ∧ w.cell? ⟨b, off + 3, none⟩ = some (.slice aw nw cw) ∧ subOk items e.sub = (ni == items && decide (nw ≤ 1)) := by
    intro items hh
    have h0 : e.args.length = 0 := by omega
    have h1 : e.sub.length = 1 := by omega
    match hq : e.sub, h1 with
    | [q], _ =>
      rw [hq] at hs
      rcases hs.open with ⟨_, h⟩ | ⟨b, o, cap, hv, hT, hb, hl, hm, hx⟩
      · cases h
      · simp only [Value.slice.injEq] at hv
        obtain ⟨rfl, _, rfl⟩ := hv
        obtain ⟨cs, hc, _, hcs⟩ := hx 0 q rfl
        obtain ⟨vi, vw, rfl, hi, hw⟩ := (QC_iff ..).1 hc
        obtain ⟨ai, ci, rfl, _⟩ := hi.shape
        obtain ⟨aw, cw, rfl, _⟩ := hw.shape
        rw [Nat.zero_mul, Nat.add_zero] at hcs
        exact ⟨b, o, q, ai, _, ci, aw, _, cw, rfl, h0, rfl, hb, hcs.c4.2.1, hcs.c4.2.2.2, rfl⟩
  have fl : ∀ k : Int, e.kind = k → formed e = formed e := fun _ _ => rfl
  unfold formed
  by_cases k1 : e.kind = 1
  · rw [k1, if_pos (.inl rfl)]; exact formed_1 _ _ _ _ _ _ _ _ _ _ _ _ _ _
  by_cases k2 : e.kind = 2
  · rw [k2, if_pos (.inr rfl)]; exact formed_2 _ _ _ _ _ _ _ _ _ _ _ _ _ _
  rw [if_neg (by omega)]
  by_cases k3 : e.kind = 3
  · rw [k3, if_pos (.inl rfl)]; exact formed_3 _ _ _ _ _ _ _ _ _ _ _ _ _ _
  by_cases k4 : e.kind = 4
  · rw [k4, if_pos (.inr (.inl rfl))]; exact formed_4 _ _ _ _ _ _ _ _ _ _ _ _ _ _
  by_cases k6 : e.kind = 6
  · rw [k6, if_pos (.inr (.inr rfl))]; exact formed_6 _ _ _ _ _ _ _ _ _ _ _ _ _ _
  rw [if_neg (by omega)]
  by_cases k5 : e.kind = 5
  · rw [k5, if_pos rfl]; exact formed_5' _ _ _ _ _ _ _ _ _ _ _ _ _ _ _ rfl
  rw [if_neg k5]
  by_cases k7 : e.kind = 7
  · rw [k7, if_pos rfl]; exact formed_7 _ _ _ _ _ _ _ _ _ _ _ _ _ _
  rw [if_neg k7]
  by_cases k8 : e.kind = 8
  · rw [k8, if_pos (.inl rfl)]
    by_cases hh : e.args.length ≠ 0 ∨ e.sub.length ≠ 1
    · rw [no_sub hh]; exact formed_8 _ _ _ _ _ _ _ _ _ _ _ _ _ _ hh
    · obtain ⟨b, off, q, ai, ni, ci, aw, nw, cw, rfl, h0, h1, hb, c1, c3, hsb⟩ := hsub 0 hh
      rw [hsb, h0, h1]; exact formedq_8 _ _ _ _ _ _ _ _ _ _ _ _ _ _ _ _ _ _ _ hb c1 c3
  by_cases k9 : e.kind = 9
  · rw [k9, if_pos (.inr rfl)]
    by_cases hh : e.args.length ≠ 0 ∨ e.sub.length ≠ 1
    · rw [no_sub hh]; exact formed_9 _ _ _ _ _ _ _ _ _ _ _ _ _ _ hh
    · obtain ⟨b, off, q, ai, ni, ci, aw, nw, cw, rfl, h0, h1, hb, c1, c3, hsb⟩ := hsub 0 hh
      rw [hsb, h0, h1]; exact formedq_9 _ _ _ _ _ _ _ _ _ _ _ _ _ _ _ _ _ _ _ hb c1 c3
  rw [if_neg (by omega)]
  by_cases k10 : e.kind = 10
  · rw [k10, if_pos (.inl rfl)]
    by_cases hh : e.args.length ≠ 0 ∨ e.sub.length ≠ 1
    · rw [no_sub hh]; exact formed_10 _ _ _ _ _ _ _ _ _ _ _ _ _ _ hh
    · obtain ⟨b, off, q, ai, ni, ci, aw, nw, cw, rfl, h0, h1, hb, c1, c3, hsb⟩ := hsub 1 hh
      rw [hsb, h0, h1]; exact formedq_10 _ _ _ _ _ _ _ _ _ _ _ _ _ _ _ _ _ _ _ hb c1 c3
  by_cases k11 : e.kind = 11
  · rw [k11, if_pos (.inr (.inl rfl))]
    by_cases hh : e.args.length ≠ 0 ∨ e.sub.length ≠ 1
    · rw [no_sub hh]; exact formed_11 _ _ _ _ _ _ _ _ _ _ _ _ _ _ hh
    · obtain ⟨b, off, q, ai, ni, ci, aw, nw, cw, rfl, h0, h1, hb, c1, c3, hsb⟩ := hsub 1 hh
      rw [hsb, h0, h1]; exact formedq_11 _ _ _ _ _ _ _ _ _ _ _ _ _ _ _ _ _ _ _ hb c1 c3
  by_cases k12 : e.kind = 12
  · rw [k12, if_pos (.inr (.inr rfl))]
    by_cases hh : e.args.length ≠ 0 ∨ e.sub.length ≠ 1
    · rw [no_sub hh]; exact formed_12 _ _ _ _ _ _ _ _ _ _ _ _ _ _ hh
    · obtain ⟨b, off, q, ai, ni, ci, aw, nw, cw, rfl, h0, h1, hb, c1, c3, hsb⟩ := hsub 1 hh
      rw [hsb, h0, h1]; exact formedq_12 _ _ _ _ _ _ _ _ _ _ _ _ _ _ _ _ _ _ _ hb c1 c3
  rw [if_neg (by omega)]
  exact formed_x _ _ _ _ _ _ _ _ _ _ _ _ _ _ _ (by omega)

end Go.Proofs.YtiheioajnfggmaaDoor
