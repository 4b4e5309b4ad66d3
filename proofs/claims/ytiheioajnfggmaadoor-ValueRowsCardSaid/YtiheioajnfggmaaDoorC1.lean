/- The tape of choices: the contracts of Mod, Next, Bool and New. -/
import Derived.Test.YtiheioajnfggmaaDoorProg
import Derived.Test.YtiheioajnfggmaaDoorB1
import Derived.Deep.QuietTactic
import Derived.BigQuiet
namespace Go.Proofs.YtiheioajnfggmaaDoor
open Go.RowKit

theorem tmod_neg (v n : Int) (h1 : 1 ≤ n) (h : v.tmod n < 0) : v.tmod n + n = v % n := by
  rw [Int.tmod_eq_emod] at h ⊢
  split at h
  · have := Int.emod_nonneg v (show n ≠ 0 by omega); omega
  · rw [if_neg (by assumption)]
    have : (n.natAbs : Int) = n := by omega
    omega

theorem tmod_pos (v n : Int) (h1 : 1 ≤ n) (h : ¬ v.tmod n < 0) : v.tmod n = v % n := by
  rw [Int.tmod_eq_emod] at h ⊢
  split at h
  · rw [if_pos (by assumption)]; omega
  · have := Int.emod_lt_of_pos v (show 0 < n by omega)
    have e : (n.natAbs : Int) = n := by omega
    omega

set_option maxHeartbeats 400000 in
theorem mod_any (v n : Int) (w : World) (h1 : 1 ≤ n) (h2 : n ≤ 1000000) :
    Calls Tryd.prog 32 #[.int .i64 v, .int .i64 n] w fun e w' => e = .returned (.int .i64 (v % n)) ∧ w = w' := by
  by_cases h : v.tmod n < 0
  · have hb := Int.lt_tmod_of_pos v (show 0 < n by omega)
    have H := Lib.hid (tmod_neg v n h1 h)
    go_enter Tryd.func32, Tryd.ntmps32
    go_wp2
    go_ret
    rw [← H.out]
    exact ⟨rfl, rfl⟩
  · have H := Lib.hid (tmod_pos v n h1 h)
    go_enter Tryd.func32, Tryd.ntmps32
    go_wp2
    go_ret
    rw [← H.out]
    exact ⟨rfl, rfl⟩

/-- The tape: a place in a list of numbers that lies in another block. -/
def TapeOk (T : Nat) (w : World) : Prop :=
  ∃ (a : Option Addr) (n cap k : Nat), w.cell? ⟨T, 0, none⟩ = some (.slice a n cap) ∧ w.cell? ⟨T, 1, none⟩ = some (.int .i64 k) ∧ w.frozen? ⟨T, 1, none⟩ = false ∧ k ≤ n ∧ n ≤ 500 ∧
    (n = 0 ∨ ∃ b o, a = some ⟨b, o, none⟩ ∧ b < T ∧ ∀ i, i < n → ∃ z : Int, w.cell? ⟨b, o + i, none⟩ = some (.int .i64 z))

theorem TapeOk.lt {T : Nat} {w : World} (h : TapeOk T w) : T < w.heap.size := by
  obtain ⟨a, n, cap, k, h1, _⟩ := h
  exact World.block_lt_of_cell? _ _ h1

theorem TapeOk.keep {M : Nat → Prop} {T : Nat} {w w' : World} (h : TapeOk T w) (hb : Keep M w w') (hM : ∀ k, k ≤ T → ¬ M k) : TapeOk T w' := by
  have hT := h.lt
  obtain ⟨a, n, cap, k, h1, h2, h3, h4, h5, h6⟩ := h
  refine ⟨a, n, cap, k, (hb.cell hT (hM T (Nat.le_refl _))).trans h1, (hb.cell hT (hM T (Nat.le_refl _))).trans h2, (World.frozen?_of_block (hb.block T hT (hM T (Nat.le_refl _)))).trans h3, h4, h5, ?_⟩
  rcases h6 with h6 | ⟨b, o, ha, hbT, hi⟩
  · exact .inl h6
  · exact .inr ⟨b, o, ha, hbT, fun i hin => let ⟨z, hz⟩ := hi i hin; ⟨z, (hb.cell (World.block_lt_of_cell? _ _ hz) (hM b (by omega))).trans hz⟩⟩

theorem TapeOk.bel {T : Nat} {w w' : World} (h : TapeOk T w) (hb : Below w.heap.size w w') : TapeOk T w' :=
  h.keep (M := fun _ => False) (.bel hb) fun _ _ => id

theorem TapeOk.alloc {T : Nat} {w : World} (h : TapeOk T w) (o : Obj) : TapeOk T (w.alloc o) := h.bel ((Below.refl _ _).alloc (Nat.le_refl _) o)
theorem TapeOk.drewN {T : Nat} {w : World} (h : TapeOk T w) (n : Nat) : TapeOk T (w.drewN n) := h
theorem TapeOk.drew {T : Nat} {w : World} (h : TapeOk T w) : TapeOk T w.drew := h

set_option maxHeartbeats 400000 in
theorem next_zero (p n : Int) (T : Nat) (a : Option Addr) (l c : Nat) (w : World)
   (hl : w.cell? ⟨T, 0, none⟩ = some (.slice a l c)) (hp : w.cell? ⟨T, 1, none⟩ = some (.int .i64 p)) (hlp : (l : Int) ≤ p) :
    Calls Tryd.prog 21 #[.pointer (some ⟨T, 0, none⟩), .int .i64 n] w fun e w' => e = .returned (.int .i64 0) ∧ ∃ k, w.drewN k = w' := by
  go_enter Tryd.func21, Tryd.ntmps21
  go_wp2
  go_quiet (fail)
  go_wp2
  go_ret
  exact ⟨rfl, _, rfl⟩

set_option maxHeartbeats 400000 in
theorem next_some (n z : Int) (T b o l c k : Nat) (w : World) (h1 : 1 ≤ n) (h2 : n ≤ 1000000) (hbT : b < T)
   (hl : w.cell? ⟨T, 0, none⟩ = some (.slice (some ⟨b, o, none⟩) l c)) (hp : w.cell? ⟨T, 1, none⟩ = some (.int .i64 k)) (hf : w.frozen? ⟨T, 1, none⟩ = false) (hlp : k < l) (hlm : l ≤ 500)
   (hz : w.cell? ⟨b, o + k, none⟩ = some (.int .i64 z)) :
    Calls Tryd.prog 21 #[.pointer (some ⟨T, 0, none⟩), .int .i64 n] w fun e w' => e = .returned (.int .i64 (z % n)) ∧ ∃ i j, ((w.drewN i).setCell ⟨T, 1, none⟩ (.int .i64 ((k + 1 : Nat) : Int))).drewN j = w' := by
  go_enter Tryd.func21, Tryd.ntmps21
  go_wp2
  go_quiet (fail)
  go_wp2
  go_quiet ((go_at_call 32; exact Calls.quiet_of_same ((mod_any _ _ _ (by omega) (by omega)).mono fun _ _ h => ⟨h.1, h.2.symm⟩)))
  go_wp2
  go_ret
  exact ⟨rfl, _, _, rfl⟩
/-- What a call that chooses from tape T leaves: a value with Q, the tape fit for more, all other blocks as they were. -/
def Gives (T : Nat) (w : World) (Q : Value → World → Prop) (e : Ending) (w' : World) : Prop := ∃ v, e = .returned v ∧ Q v w' ∧ TapeOk T w' ∧ Keep (At T) w w'

def IntIn (n : Int) (v : Value) (_ : World) : Prop := ∃ r : Int, v = .int .i64 r ∧ 0 ≤ r ∧ r < n

theorem next_any (T : Nat) (n : Int) (w : World) (h1 : 1 ≤ n) (h2 : n ≤ 1000000) (ht : TapeOk T w) :
    Calls Tryd.prog 21 #[.pointer (some ⟨T, 0, none⟩), .int .i64 n] w (Gives T w (IntIn n)) := by
  have ht0 := ht
  obtain ⟨a, l, c, k, g1, g2, g3, g4, g5, g6⟩ := ht
  by_cases hk : l ≤ k
  · refine (next_zero k n T a l c w g1 g2 (by omega)).mono ?_
    rintro e w' ⟨rfl, i, rfl⟩
    exact ⟨_, rfl, ⟨0, rfl, by omega, by omega⟩, ht0, (Keep.refl _ _).drewN i⟩
  · rcases g6 with g6 | ⟨b, o, rfl, hbT, hz⟩
    · omega
    · obtain ⟨z, hz0⟩ := hz k (by omega)
      refine (next_some n z T b o l c k w h1 h2 hbT g1 g2 g3 (by omega) g5 hz0).mono ?_
      rintro e w' ⟨rfl, i, j, rfl⟩
      refine ⟨_, rfl, ⟨_, rfl, Int.emod_nonneg z (by omega), Int.emod_lt_of_pos z (by omega)⟩, ?_, ((((Keep.refl (At T) _).drewN i).setCell (p := ⟨T, 1, none⟩) (fun _ => rfl) _).drewN j)⟩
      have hT := ht0.lt
      have hne : ∀ b' o', b' ≠ T ∨ o' ≠ 1 → (((w.drewN i).setCell ⟨T, 1, none⟩ (.int .i64 ((k + 1 : Nat) : Int))).drewN j).cell? ⟨b', o', none⟩ = w.cell? ⟨b', o', none⟩ := by
        intro b' o' h
        show ((w.drewN i).setCell ⟨T, 1, none⟩ (.int .i64 ((k + 1 : Nat) : Int))).cell? ⟨b', o', none⟩ = _
        rw [World.cell?_setCell_other]
        · rfl
        · simp; omega
      refine ⟨_, l, c, k + 1, (hne T 0 (.inr (by omega))).trans g1, ?_, ?_, by omega, g5, .inr ⟨b, o, rfl, hbT, fun i' hi' => ?_⟩⟩
      · exact World.cell?_setCell_same _ _ _ g2
      · exact (World.frozen?_setCell _ _ _ _).trans g3
      · obtain ⟨z', hz'⟩ := hz i' hi'
        exact ⟨z', (hne b _ (.inl (by omega))).trans hz'⟩

def SomeBool (v : Value) (_ : World) : Prop := ∃ r : Bool, v = .bool r

set_option maxHeartbeats 400000 in
theorem bool_any (T : Nat) (n : Int) (w : World) (h1 : 1 ≤ n) (h2 : n ≤ 1000000) (ht : TapeOk T w) :
    Calls Tryd.prog 62 #[.pointer (some ⟨T, 0, none⟩), .int .i64 n] w (Gives T w SomeBool) := by
  have H := Lib.hid ht
  clear ht
  go_enter Tryd.func62, Tryd.ntmps62
  go_wp2_with fail
  refine (next_any T n w h1 h2 H.out).mono ?_
  rintro e w' ⟨v, rfl, ⟨r, rfl, hr0, hr1⟩, ht, hk⟩
  have H2 := Lib.hid ht
  have H3 := Lib.hid hk
  clear ht hk
  go_wp2_with fail
  go_ret
  exact ⟨_, rfl, ⟨_, rfl⟩, H2.out, H3.out⟩

/-- The numbers that a slice of ints holds, up to its length. -/
def IntsAt (w : World) (v : Value) : Prop := ∃ (a : Option Addr) (n cap : Nat), v = .slice a n cap ∧ n ≤ maxLen ∧ n ≤ cap ∧
    (n = 0 ∨ ∃ b o, a = some ⟨b, o, none⟩ ∧ b < w.heap.size ∧ ∀ i, i < n → ∃ z : Int, w.cell? ⟨b, o + i, none⟩ = some (.int .i64 z))

def NewTape (w : World) (e : Ending) (w' : World) : Prop := e = .returned (.pointer (some ⟨w.heap.size, 0, none⟩)) ∧ TapeOk w.heap.size w' ∧ Below w.heap.size w w'

set_option maxHeartbeats 400000 in
theorem new_any (v : Value) (w : World) (h : IntsAt w v) : Calls Tryd.prog 14 #[v] w (NewTape w) := by
  obtain ⟨a, n, cap, rfl, hm, hnc, hi⟩ := h
  unfold maxLen at hm
  have H := Lib.hid hi
  clear hi
  by_cases h5 : 500 < n
  · have h6 : 500 ≤ cap := by omega
    go_enter Tryd.func14, Tryd.ntmps14
    go_wp2
    go_ret
    refine ⟨rfl, ⟨a, 500, cap, 0, ?_, ?_, ?_, by omega, by omega, ?_⟩, (Below.refl _ _).alloc (Nat.le_refl _) _⟩
    · simp
    · simp
    · simp
    · rcases H.out with h | ⟨b, o, rfl, hb, hz⟩
      · omega
      · refine .inr ⟨b, o, rfl, hb, fun i hi => ?_⟩
        obtain ⟨z, hz⟩ := hz i (by omega)
        exact ⟨z, by rw [World.cell?_alloc_lt _ _ _ hb]; exact hz⟩
  · go_enter Tryd.func14, Tryd.ntmps14
    go_wp2
    go_ret
    refine ⟨rfl, ⟨a, n, cap, 0, ?_, ?_, ?_, by omega, by omega, ?_⟩, (Below.refl _ _).alloc (Nat.le_refl _) _⟩
    · simp
    · simp
    · simp
    · rcases H.out with h | ⟨b, o, rfl, hb, hz⟩
      · exact .inl h
      · refine .inr ⟨b, o, rfl, hb, fun i hi => ?_⟩
        obtain ⟨z, hz⟩ := hz i hi
        exact ⟨z, by rw [World.cell?_alloc_lt _ _ _ hb]; exact hz⟩

end Go.Proofs.YtiheioajnfggmaaDoor
