/- Values la plain data: which are valid, their order and their texts. No program is named here. Which values are valid: contracts of value.plain, value.Valid and the reference's Valid. The order of values: contracts of cmp.Compare, cmp.Or, strings.Compare, value.Compare, Same and the reference's Compare. -/
import Derived.Test.YtkhlmofcdchccaaGreatDoorKB
import Derived.Test.YtkhlmofcdchccaaGreatDoorKC1
import Derived.Lib.Bytealg
import Derived.Lib.Small
import Derived.Lib.Replace
import Derived.Lib.ItoaMem
import Derived.WalkLawsBesides
import Derived.Shelf.Small.Strs
import Derived.Deep.RegionHeld3
namespace Go.Proofs.YtkhlmofcdchccaaGreatDoor
open Go.RowKit

/-- An order la Go's comparing functions give it. -/
structure Ord3 {α : Type} (c : α → α → Int) : Prop where
  neg : ∀ a b, c a b = - c b a
  le : ∀ a b d, c a b ≤ 0 → c b d ≤ 0 → c a d ≤ 0
  eq : ∀ a b, c a b = 0 → a = b

section
variable {α β : Type} {c : α → α → Int} {d : β → β → Int}
theorem Ord3.refl (h : Ord3 c) (a : α) : c a a = 0 := by have := h.neg a a; omega
theorem Ord3.lt_le (h : Ord3 c) {a b e : α} (h1 : c a b < 0) (h2 : c b e ≤ 0) : c a e < 0 := by
  have h3 := h.le a b e (by omega) h2
  rcases Int.lt_or_eq_of_le h3 with h4 | h4
  · exact h4
  · have := h.eq _ _ h4
    subst this
    have := h.neg a b
    omega
/-- First by c, then by the rest. -/
def thenC (x y : Int) : Int := if x ≠ 0 then x else y

def lexC (c : α → α → Int) : List α → List α → Int
  | [], [] => 0
  | [], _ :: _ => -1
  | _ :: _, [] => 1
  | a :: la, b :: lb => thenC (c a b) (lexC c la lb)

theorem lexC_neg (h : Ord3 c) : ∀ x y : List α, lexC c x y = - lexC c y x
  | [], [] => rfl
  | [], _ :: _ => rfl
  | _ :: _, [] => rfl
  | a :: la, b :: lb => by
    have h1 := h.neg a b
    have h2 := lexC_neg h la lb
    simp only [lexC, thenC]
    by_cases hz : c a b = 0
    · rw [if_neg (by omega), if_neg (by omega)]; exact h2
    · rw [if_pos hz, if_pos (by omega)]; exact h1
theorem lexC_eq (h : Ord3 c) : ∀ x y : List α, lexC c x y = 0 → x = y
  | [], [], _ => rfl
  | [], _ :: _, h1 => by simp [lexC] at h1
  | _ :: _, [], h1 => by simp [lexC] at h1
  | a :: la, b :: lb, h1 => by
    simp only [lexC, thenC] at h1
    by_cases hz : c a b = 0
    · rw [if_neg (by omega)] at h1
      rw [h.eq _ _ hz, lexC_eq h la lb h1]
    · rw [if_pos hz] at h1; omega
theorem lexC_le (h : Ord3 c) : ∀ x y z : List α, lexC c x y ≤ 0 → lexC c y z ≤ 0 → lexC c x z ≤ 0
  | [], _, [], _, _ => by simp [lexC]
  | [], _, _ :: _, _, _ => by simp [lexC]
  | _ :: _, [], _, h1, _ => by simp [lexC] at h1
  | _ :: _, _ :: _, [], _, h2 => by simp [lexC] at h2
  | a :: la, b :: lb, e :: es, h1, h2 => by
    simp only [lexC, thenC] at h1 h2 ⊢
    by_cases hz : c a b = 0
    · have he := h.eq _ _ hz
      rw [if_neg (by omega)] at h1
      by_cases hz2 : c b e = 0
      · have he2 := h.eq _ _ hz2
        rw [if_neg (by omega)] at h2
        rw [he, he2, h.refl, if_neg (by omega)]
        exact lexC_le h la lb es h1 h2
      · rw [if_pos hz2] at h2
        rw [he, if_pos hz2]
        exact h2
    · rw [if_pos hz] at h1
      have h3 : c b e ≤ 0 := by
        by_cases hz2 : c b e = 0
        · omega
        · rw [if_pos hz2] at h2; exact h2
      have h4 := h.lt_le (show c a b < 0 by omega) h3
      rw [if_pos (by omega)]
      omega
theorem lexOrd (h : Ord3 c) : Ord3 (lexC c) := ⟨lexC_neg h, lexC_le h, lexC_eq h⟩

end

def byteC (a b : UInt8) : Int := if a < b then -1 else if b < a then 1 else 0

theorem byteOrd : Ord3 byteC where
  neg a b := by
    unfold byteC
    simp only [UInt8.lt_iff_toNat_lt]
    split <;> split <;> (first | omega | (split <;> omega))
  le a b d h1 h2 := by
    unfold byteC at h1 h2 ⊢
    simp only [UInt8.lt_iff_toNat_lt] at h1 h2 ⊢
    split at h1 <;> split at h2 <;> (try split at h1) <;> (try split at h2) <;> split <;> (first | omega | (split <;> omega))
  eq a b h := by
    unfold byteC at h
    simp only [UInt8.lt_iff_toNat_lt] at h
    refine UInt8.toNat_inj.1 ?_
    split at h
    · omega
    · split at h <;> omega

theorem compareBytes_lex : ∀ a b : List UInt8, Lib.compareBytes a b = lexC byteC a b
  | [], [] => rfl
  | [], _ :: _ => rfl
  | _ :: _, [] => rfl
  | a :: la, b :: lb => by
    simp only [Lib.compareBytes, lexC, byteC, thenC]
    rw [compareBytes_lex la lb]
    split
    · rfl
    · split <;> rfl

theorem bytesOrd : Ord3 Lib.compareBytes := by
  have : Lib.compareBytes = lexC byteC := by funext a b; exact compareBytes_lex a b
  rw [this]
  exact lexOrd byteOrd

theorem bytes_ext {a b : ByteArray} (h : a.data.toList = b.data.toList) : a = b := by
  cases a; cases b
  simp only at h
  congr 1
  exact Array.toList_inj.1 h

theorem compareBytes_range : ∀ a b : List UInt8, Lib.compareBytes a b = -1 ∨ Lib.compareBytes a b = 0 ∨ Lib.compareBytes a b = 1
  | [], [] => by simp [Lib.compareBytes]
  | [], _ :: _ => by simp [Lib.compareBytes]
  | _ :: _, [] => by simp [Lib.compareBytes]
  | a :: la, b :: lb => by
    rw [Lib.compareBytes]
    split
    · simp
    · split
      · simp
      · exact compareBytes_range la lb
/-- Which texts a value may have. -/
def chrOk (c : UInt8) : Bool := decide (32 ≤ c.toNat) && decide (c.toNat ≤ 126)
def textOk (l : List UInt8) : Bool := l.all chrOk
def plainB (s : ByteArray) : Bool := textOk s.data.toList && decide (s.size ≤ 64)
def noText (s : ByteArray) : Bool := s.toList == []

def validV (v : Val) : Bool :=
  if v.kind = 0 then decide (v.int = 0) && noText v.text
  else if v.kind = 1 then noText v.text
  else if v.kind = 2 then (decide (v.int = 0) || decide (v.int = 1)) && noText v.text
  else if v.kind = 3 then decide (v.int = 0) && plainB v.text
  else false

end Go.Proofs.YtkhlmofcdchccaaGreatDoor

namespace Go.Proofs.YtkhlmofcdchccaaGreatDoor
open Go.RowKit

theorem ret_b {a b : Bool} (h : a = b) : Ending.returned (.bool a) = .returned (.bool b) := by rw [h]

theorem chr_lo {c : UInt8} (h : (c.toNat : Int) < 32) : chrOk c = false := by unfold chrOk; simp; omega
theorem chr_hi {c : UInt8} (h : (126 : Int) < (c.toNat : Int)) : chrOk c = false := by unfold chrOk; simp; omega
theorem chr_in {c : UInt8} (h : ¬ (c.toNat : Int) < 32) (k : ¬ (126 : Int) < (c.toNat : Int)) : chrOk c = true := by unfold chrOk; simp; omega

/-- A text's bytes, by their places. -/
theorem textOk_no (s : ByteArray) (k : Nat) (h : k < s.size) (hc : chrOk s[k] = false) : textOk s.data.toList = false := by
  unfold textOk
  rw [List.all_eq_false]
  exact ⟨s[k], List.mem_iff_getElem.2 ⟨k, by simpa using h, rfl⟩, by simp [hc]⟩
theorem textOk_yes (s : ByteArray) (h : ∀ (j : Nat) (hj : j < s.size), chrOk s[j] = true) : textOk s.data.toList = true := by
  unfold textOk
  rw [List.all_eq_true]
  intro c hc
  obtain ⟨j, hj, rfl⟩ := List.mem_iff_getElem.1 hc
  exact h j (by simpa using hj)

set_option maxHeartbeats 400000 in
theorem plain_any (s : ByteArray) (w : World) (hs : s.size ≤ maxLen) : Calls Tryz.prog 100 #[.string s] w fun e w' => e = .returned (.bool (plainB s)) ∧ w = w' := by
  unfold maxLen at hs
  go_enter Tryz.func100, Tryz.ntmps100
  go_wp2
  go_loop [6] (fun i => ∃ k : Nat, k ≤ s.size ∧ i = .int .i64 k ∧ ∀ (j : Nat) (hj : j < s.size), j < k → chrOk s[j] = true) (fun i => s.size - (intOf i).toNat)
  case atStart => exact ⟨0, Nat.zero_le _, rfl, fun j _ h => absurd h (by omega)⟩
  case round =>
    obtain ⟨k, hk, rfl, hno⟩ := hrel
    have HN := Lib.hid hno
    clear hno
    by_cases hlt : k < s.size
    · by_cases h32 : (s[k].toNat : Int) < 32
      · go_wp2
        go_ret
        refine ⟨ret_b ?_, rfl⟩
        rw [plainB, textOk_no s k hlt (chr_lo h32), Bool.false_and]
      · by_cases h126 : (126 : Int) < (s[k].toNat : Int)
        · go_wp2
          go_ret
          refine ⟨ret_b ?_, rfl⟩
          rw [plainB, textOk_no s k hlt (chr_hi h126), Bool.false_and]
        · go_wp2
          go_round
          case rel =>
            refine ⟨k + 1, by omega, by go_num, fun j hj hjk => ?_⟩
            by_cases e : j = k
            · subst e; exact chr_in h32 h126
            · exact HN.out j hj (by omega)
          case measure => simp [intOf]; omega
    · go_wp2
      go_ret
      refine ⟨ret_b ?_, rfl⟩
      rw [plainB, textOk_yes s fun j hj => HN.out j hj (by omega), Bool.true_and]
      simp; omega


theorem bel1 (w : World) (o : Obj) : Below w.heap.size w (w.alloc o) := (Below.refl _ _).alloc (Nat.le_refl _) _

section
variable (n : Int) (s : ByteArray) (w : World)

set_option maxHeartbeats 1000000 in
theorem valid_0 : Calls Tryz.prog 51 #[.agg #[.int .i64 0, .int .i64 n, .string s]] w (RetBel (.bool (validV ⟨0, n, s⟩)) w) := by
  go_enter Tryz.func51, Tryz.ntmps51
  go_wp2
  all_goals go_ret
  all_goals
    refine ⟨ret_b ?_, bel1 _ _⟩
    simp_all [validV, noText]

set_option maxHeartbeats 1000000 in
theorem valid_1 : Calls Tryz.prog 51 #[.agg #[.int .i64 1, .int .i64 n, .string s]] w (RetBel (.bool (validV ⟨1, n, s⟩)) w) := by
  go_enter Tryz.func51, Tryz.ntmps51
  go_wp2
  all_goals go_ret
  all_goals
    refine ⟨ret_b ?_, bel1 _ _⟩
    simp_all [validV, noText]

set_option maxHeartbeats 1000000 in
theorem valid_2 : Calls Tryz.prog 51 #[.agg #[.int .i64 2, .int .i64 n, .string s]] w (RetBel (.bool (validV ⟨2, n, s⟩)) w) := by
  go_enter Tryz.func51, Tryz.ntmps51
  go_wp2
  all_goals go_ret
  all_goals
    refine ⟨ret_b ?_, bel1 _ _⟩
    simp_all [validV, noText]

set_option maxHeartbeats 1000000 in
theorem valid_3 (hs : s.size ≤ maxLen) : Calls Tryz.prog 51 #[.agg #[.int .i64 3, .int .i64 n, .string s]] w (RetBel (.bool (validV ⟨3, n, s⟩)) w) := by
  go_enter Tryz.func51, Tryz.ntmps51
  go_wp2_with (go_at_call 100; refine (plain_any _ _ hs).mono ?_; rintro e w1 ⟨rfl, rfl⟩)
  all_goals go_ret
  all_goals
    refine ⟨ret_b ?_, bel1 _ _⟩
    simp_all [validV]

set_option maxHeartbeats 1000000 in
theorem valid_x (k : Int) (h0 : k ≠ 0) (h1 : k ≠ 1) (h2 : k ≠ 2) (h3 : k ≠ 3) : Calls Tryz.prog 51 #[.agg #[.int .i64 k, .int .i64 n, .string s]] w (RetBel (.bool (validV ⟨k, n, s⟩)) w) := by
  have b0 : (k == 0) = false := by simpa using h0
  have b1 : (k == 1) = false := by simpa using h1
  have b2 : (k == 2) = false := by simpa using h2
  have b3 : (k == 3) = false := by simpa using h3
  have HR : Hid (validV ⟨k, n, s⟩ = false) := Lib.hid (by simp [validV, h0, h1, h2, h3])
  clear h0 h1 h2 h3
  go_enter Tryz.func51, Tryz.ntmps51
  go_wp2
  go_ret
  exact ⟨ret_b HR.out.symm, bel1 _ _⟩

end

def valOf (v : Val) : Value := .agg #[.int .i64 v.kind, .int .i64 v.int, .string v.text]

theorem valid_any (v : Val) (w : World) (hs : v.text.size ≤ maxLen) : Calls Tryz.prog 51 #[valOf v] w (RetBel (.bool (validV v)) w) := by
  obtain ⟨k, n, s⟩ := v
  by_cases h0 : k = 0
  · subst h0; exact valid_0 n s w
  by_cases h1 : k = 1
  · subst h1; exact valid_1 n s w
  by_cases h2 : k = 2
  · subst h2; exact valid_2 n s w
  by_cases h3 : k = 3
  · subst h3; exact valid_3 n s w hs
  exact valid_x n s w k h0 h1 h2 h3

def RetValB (v : Val) (b : Bool) (w : World) (e : Ending) (w' : World) : Prop := e = .returned (.tuple #[valOf v, .bool b]) ∧ Below w.heap.size w w'

/-- What Words returns. -/
def wordsV (s : ByteArray) : Val := if plainB s then ⟨3, 0, s⟩ else ⟨0, 0, ⟨#[]⟩⟩

set_option maxHeartbeats 1000000 in
theorem words_v (s : ByteArray) (w : World) (hs : s.size ≤ maxLen) : Calls Tryz.prog 171 #[.string s] w (RetValB (wordsV s) (plainB s) w) := by
  have hv := fun w' => valid_3 0 s w' hs
  rw [show validV ⟨3, 0, s⟩ = plainB s by simp [validV]] at hv
  cases hp : plainB s
  · rw [hp] at hv
    have HV := Lib.hid hv
    have HR : Hid (wordsV s = ⟨0, 0, ⟨#[]⟩⟩) := Lib.hid (by simp [wordsV, hp])
    clear hv hp
    go_enter Tryz.func171, Tryz.ntmps171
    go_wp2_with (go_at_call 51; refine (HV.out _).mono ?_; rintro e w1 ⟨rfl, hb⟩; obtain ⟨k1, k2, k3⟩ := bcell hb; simp only [World.size_alloc] at k1 k2 k3; have k4 : w.heap.size < w1.heap.size := (by omega); have k5 : w.heap.size + 1 < w1.heap.size := (by omega); have c0 : w1.cell? ⟨w.heap.size, 0, none⟩ = some (.int .i64 0) := (k1 _ _ (by omega)).trans (by simp); have c1 : w1.cell? ⟨w.heap.size, 1, none⟩ = some (.int .i64 0) := (k1 _ _ (by omega)).trans (by simp); have c2 : w1.cell? ⟨w.heap.size, 2, none⟩ = some (.string ⟨#[]⟩) := (k1 _ _ (by omega)).trans (by simp); have HB := Lib.hid hb; clear hb)
    refine bodyPost_ret (v := .tuple #[valOf ⟨0, 0, ⟨#[]⟩⟩, .bool false]) (by simp [valOf, results, Tryz.results171, go_sem, c0, c1, c2]) rfl ⟨by rw [HR.out], ?_⟩
    clear k1 k2 c0 c1 c2
    have h0 : Below w.heap.size w w1 := Below.trans (by go_grown) (HB.out.mono (by simp <;> omega))
    go_grown
  · rw [hp] at hv
    have HV := Lib.hid hv
    have HR : Hid (wordsV s = ⟨3, 0, s⟩) := Lib.hid (by simp [wordsV, hp])
    clear hv hp
    go_enter Tryz.func171, Tryz.ntmps171
    go_wp2_with (go_at_call 51; refine (HV.out _).mono ?_; rintro e w1 ⟨rfl, hb⟩; obtain ⟨k1, k2, k3⟩ := bcell hb; simp only [World.size_alloc] at k1 k2 k3; have k4 : w.heap.size < w1.heap.size := (by omega); have k5 : w.heap.size + 1 < w1.heap.size := (by omega); have c0 : w1.cell? ⟨w.heap.size, 0, none⟩ = some (.int .i64 0) := (k1 _ _ (by omega)).trans (by simp); have c1 : w1.cell? ⟨w.heap.size, 1, none⟩ = some (.int .i64 0) := (k1 _ _ (by omega)).trans (by simp); have c2 : w1.cell? ⟨w.heap.size, 2, none⟩ = some (.string ⟨#[]⟩) := (k1 _ _ (by omega)).trans (by simp); have HB := Lib.hid hb; clear hb)
    refine bodyPost_ret (v := .tuple #[valOf ⟨3, 0, s⟩, .bool true]) (by simp [valOf, results, Tryz.results171, go_sem, c0, c1, c2]) rfl ⟨by rw [HR.out], ?_⟩
    clear k1 k2 c0 c1 c2
    have h0 : Below w.heap.size w w1 := Below.trans (by go_grown) (HB.out.mono (by simp <;> omega))
    go_grown

end Go.Proofs.YtkhlmofcdchccaaGreatDoor

namespace Go.Proofs.YtkhlmofcdchccaaGreatDoor
open Go.RowKit

theorem less_cmp : ∀ a b : List UInt8, Op.bytesLess a b = decide (Lib.compareBytes a b = -1)
  | _, [] => by
    rename_i a
    cases a <;> simp [Op.bytesLess, Lib.compareBytes]
  | [], _ :: _ => by simp [Op.bytesLess, Lib.compareBytes]
  | a :: x, b :: y => by
    rw [Op.bytesLess, Lib.compareBytes, less_cmp x y]
    by_cases h1 : a < b
    · simp [h1]
    · by_cases h2 : b < a
      · have hne : (a == b) = false := by
          rw [beq_eq_false_iff_ne]
          rintro rfl
          exact h1 h2
        simp [h1, h2, hne]
      · have he : a = b := by
          simp only [UInt8.lt_iff_toNat_lt] at h1 h2
          exact UInt8.toNat_inj.1 (by omega)
        subst he
        simp [h1]

def cmpS (a b : ByteArray) : Int := Lib.compareBytes a.data.toList b.data.toList

end Go.Proofs.YtkhlmofcdchccaaGreatDoor
