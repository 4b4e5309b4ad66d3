/- The tape of choices: the contracts of Mod, Next, Bool and New. The schemas of the tables log, t and u, and the names: contracts of Name, Schemas, Schema. Names resolved: contracts of schema.Find and scope.Resolve, and of the reference's Resolve. The variable words and its six texts. The types of expressions as plain functions (chapter 14), without any program. Copies of lists of columns and of frames. Expressions made by hand: contracts of Lit, Num, Col and Bin. -/
import Derived.Test.YtkhlmofcdchccaaGreatDoorU01
import Derived.Test.YtkhlmofcdchccaaGreatDoorProg
import Derived.Deep.QuietTactic
import Derived.BigQuiet
namespace Go.Proofs.YtkhlmofcdchccaaGreatDoor
open Go.RowKit

theorem tmod_neg (v n : Int) (h1 : 1 ≤ n) (h : v.tmod n < 0) : v.tmod n + n = v % n := by
  rw [Int.tmod_eq_emod] at h ⊢
  split at h
  · have := Int.emod_nonneg v (show n ≠ 0 by omega); omega
  · rw [if_neg (by assumption)]
    have : (n.natAbs : Int) = n := by omega
    omega

theorem tmod_pos (v n : Int) (h1 : 1 ≤ n) (h : ¬ v.tmod n < 0) : v.tmod n = v % n := by
  rw [Int.tmod_eq_emod] at h ⊢
  split at h
  · rw [if_pos (by assumption)]; omega
  · have := Int.emod_lt_of_pos v (show 0 < n by omega)
    have e : (n.natAbs : Int) = n := by omega
    omega

set_option maxHeartbeats 400000 in
theorem mod_any (v n : Int) (w : World) (h1 : 1 ≤ n) (h2 : n ≤ 1000000) :
    Calls Tryz.prog 5 #[.int .i64 v, .int .i64 n] w fun e w' => e = .returned (.int .i64 (v % n)) ∧ w = w' := by
  by_cases h : v.tmod n < 0
  · have hb := Int.lt_tmod_of_pos v (show 0 < n by omega)
    have H := Lib.hid (tmod_neg v n h1 h)
    go_enter Tryz.func5, Tryz.ntmps5
    go_wp2
    go_ret
    rw [← H.out]
    exact ⟨rfl, rfl⟩
  · have H := Lib.hid (tmod_pos v n h1 h)
    go_enter Tryz.func5, Tryz.ntmps5
    go_wp2
    go_ret
    rw [← H.out]
    exact ⟨rfl, rfl⟩

/-- The tape: a place in a list of numbers that lies in another block. -/
def TapeOk (T : Nat) (w : World) : Prop :=
  ∃ (a : Option Addr) (n cap k : Nat), w.cell? ⟨T, 0, none⟩ = some (.slice a n cap) ∧ w.cell? ⟨T, 1, none⟩ = some (.int .i64 k) ∧ w.frozen? ⟨T, 1, none⟩ = false ∧ k ≤ n ∧ n ≤ 500 ∧
    (n = 0 ∨ ∃ b o, a = some ⟨b, o, none⟩ ∧ b < T ∧ ∀ i, i < n → ∃ z : Int, w.cell? ⟨b, o + i, none⟩ = some (.int .i64 z))

theorem TapeOk.lt {T : Nat} {w : World} (h : TapeOk T w) : T < w.heap.size := by
  obtain ⟨a, n, cap, k, h1, _⟩ := h
  exact World.block_lt_of_cell? _ _ h1

theorem TapeOk.keep {M : Nat → Prop} {T : Nat} {w w' : World} (h : TapeOk T w) (hb : Keep M w w') (hM : ∀ k, k ≤ T → ¬ M k) : TapeOk T w' := by
  have hT := h.lt
  obtain ⟨a, n, cap, k, h1, h2, h3, h4, h5, h6⟩ := h
  refine ⟨a, n, cap, k, (hb.cell hT (hM T (Nat.le_refl _))).trans h1, (hb.cell hT (hM T (Nat.le_refl _))).trans h2, (World.frozen?_of_block (hb.block T hT (hM T (Nat.le_refl _)))).trans h3, h4, h5, ?_⟩
  rcases h6 with h6 | ⟨b, o, ha, hbT, hi⟩
  · exact .inl h6
  · exact .inr ⟨b, o, ha, hbT, fun i hin => let ⟨z, hz⟩ := hi i hin; ⟨z, (hb.cell (World.block_lt_of_cell? _ _ hz) (hM b (by omega))).trans hz⟩⟩

theorem TapeOk.bel {T : Nat} {w w' : World} (h : TapeOk T w) (hb : Below w.heap.size w w') : TapeOk T w' :=
  h.keep (M := fun _ => False) (.bel hb) fun _ _ => id

theorem TapeOk.alloc {T : Nat} {w : World} (h : TapeOk T w) (o : Obj) : TapeOk T (w.alloc o) := h.bel ((Below.refl _ _).alloc (Nat.le_refl _) o)
theorem TapeOk.drewN {T : Nat} {w : World} (h : TapeOk T w) (n : Nat) : TapeOk T (w.drewN n) := h
theorem TapeOk.drew {T : Nat} {w : World} (h : TapeOk T w) : TapeOk T w.drew := h

set_option maxHeartbeats 400000 in
theorem next_zero (p n : Int) (T : Nat) (a : Option Addr) (l c : Nat) (w : World)
   (hl : w.cell? ⟨T, 0, none⟩ = some (.slice a l c)) (hp : w.cell? ⟨T, 1, none⟩ = some (.int .i64 p)) (hlp : (l : Int) ≤ p) :
    Calls Tryz.prog 26 #[.pointer (some ⟨T, 0, none⟩), .int .i64 n] w fun e w' => e = .returned (.int .i64 0) ∧ ∃ k, w.drewN k = w' := by
  go_enter Tryz.func26, Tryz.ntmps26
  go_wp2
  go_quiet (fail)
  go_wp2
  go_ret
  exact ⟨rfl, _, rfl⟩

set_option maxHeartbeats 400000 in
theorem next_some (n z : Int) (T b o l c k : Nat) (w : World) (h1 : 1 ≤ n) (h2 : n ≤ 1000000) (hbT : b < T)
   (hl : w.cell? ⟨T, 0, none⟩ = some (.slice (some ⟨b, o, none⟩) l c)) (hp : w.cell? ⟨T, 1, none⟩ = some (.int .i64 k)) (hf : w.frozen? ⟨T, 1, none⟩ = false) (hlp : k < l) (hlm : l ≤ 500)
   (hz : w.cell? ⟨b, o + k, none⟩ = some (.int .i64 z)) :
    Calls Tryz.prog 26 #[.pointer (some ⟨T, 0, none⟩), .int .i64 n] w fun e w' => e = .returned (.int .i64 (z % n)) ∧ ∃ i j, ((w.drewN i).setCell ⟨T, 1, none⟩ (.int .i64 ((k + 1 : Nat) : Int))).drewN j = w' := by
  go_enter Tryz.func26, Tryz.ntmps26
  go_wp2
  go_quiet (fail)
  go_wp2
  go_quiet ((go_at_call 5; exact Calls.quiet_of_same ((mod_any _ _ _ (by omega) (by omega)).mono fun _ _ h => ⟨h.1, h.2.symm⟩)))
  go_wp2
  go_ret
  exact ⟨rfl, _, _, rfl⟩
/-- What a call that chooses from tape T leaves: a value with Q, the tape fit for more, all other blocks as they were. -/
def Gives (T : Nat) (w : World) (Q : Value → World → Prop) (e : Ending) (w' : World) : Prop := ∃ v, e = .returned v ∧ Q v w' ∧ TapeOk T w' ∧ Keep (At T) w w'

def IntIn (n : Int) (v : Value) (_ : World) : Prop := ∃ r : Int, v = .int .i64 r ∧ 0 ≤ r ∧ r < n

theorem next_any (T : Nat) (n : Int) (w : World) (h1 : 1 ≤ n) (h2 : n ≤ 1000000) (ht : TapeOk T w) :
    Calls Tryz.prog 26 #[.pointer (some ⟨T, 0, none⟩), .int .i64 n] w (Gives T w (IntIn n)) := by
  have ht0 := ht
  obtain ⟨a, l, c, k, g1, g2, g3, g4, g5, g6⟩ := ht
  by_cases hk : l ≤ k
  · refine (next_zero k n T a l c w g1 g2 (by omega)).mono ?_
    rintro e w' ⟨rfl, i, rfl⟩
    exact ⟨_, rfl, ⟨0, rfl, by omega, by omega⟩, ht0, (Keep.refl _ _).drewN i⟩
  · rcases g6 with g6 | ⟨b, o, rfl, hbT, hz⟩
    · omega
    · obtain ⟨z, hz0⟩ := hz k (by omega)
      refine (next_some n z T b o l c k w h1 h2 hbT g1 g2 g3 (by omega) g5 hz0).mono ?_
      rintro e w' ⟨rfl, i, j, rfl⟩
      refine ⟨_, rfl, ⟨_, rfl, Int.emod_nonneg z (by omega), Int.emod_lt_of_pos z (by omega)⟩, ?_, ((((Keep.refl (At T) _).drewN i).setCell (p := ⟨T, 1, none⟩) (fun _ => rfl) _).drewN j)⟩
      have hT := ht0.lt
      have hne : ∀ b' o', b' ≠ T ∨ o' ≠ 1 → (((w.drewN i).setCell ⟨T, 1, none⟩ (.int .i64 ((k + 1 : Nat) : Int))).drewN j).cell? ⟨b', o', none⟩ = w.cell? ⟨b', o', none⟩ := by
        intro b' o' h
        show ((w.drewN i).setCell ⟨T, 1, none⟩ (.int .i64 ((k + 1 : Nat) : Int))).cell? ⟨b', o', none⟩ = _
        rw [World.cell?_setCell_other]
        · rfl
        · simp; omega
      refine ⟨_, l, c, k + 1, (hne T 0 (.inr (by omega))).trans g1, ?_, ?_, by omega, g5, .inr ⟨b, o, rfl, hbT, fun i' hi' => ?_⟩⟩
      · exact World.cell?_setCell_same _ _ _ g2
      · exact (World.frozen?_setCell _ _ _ _).trans g3
      · obtain ⟨z', hz'⟩ := hz i' hi'
        exact ⟨z', (hne b _ (.inl (by omega))).trans hz'⟩

def SomeBool (v : Value) (_ : World) : Prop := ∃ r : Bool, v = .bool r

set_option maxHeartbeats 400000 in
theorem bool_any (T : Nat) (n : Int) (w : World) (h1 : 1 ≤ n) (h2 : n ≤ 1000000) (ht : TapeOk T w) :
    Calls Tryz.prog 67 #[.pointer (some ⟨T, 0, none⟩), .int .i64 n] w (Gives T w SomeBool) := by
  have H := Lib.hid ht
  clear ht
  go_enter Tryz.func67, Tryz.ntmps67
  go_wp2_with fail
  refine (next_any T n w h1 h2 H.out).mono ?_
  rintro e w' ⟨v, rfl, ⟨r, rfl, hr0, hr1⟩, ht, hk⟩
  have H2 := Lib.hid ht
  have H3 := Lib.hid hk
  clear ht hk
  go_wp2_with fail
  go_ret
  exact ⟨_, rfl, ⟨_, rfl⟩, H2.out, H3.out⟩

/-- The numbers that a slice of ints holds, up to its length. -/
def IntsAt (w : World) (v : Value) : Prop := ∃ (a : Option Addr) (n cap : Nat), v = .slice a n cap ∧ n ≤ maxLen ∧ n ≤ cap ∧
    (n = 0 ∨ ∃ b o, a = some ⟨b, o, none⟩ ∧ b < w.heap.size ∧ ∀ i, i < n → ∃ z : Int, w.cell? ⟨b, o + i, none⟩ = some (.int .i64 z))

def NewTape (w : World) (e : Ending) (w' : World) : Prop := e = .returned (.pointer (some ⟨w.heap.size, 0, none⟩)) ∧ TapeOk w.heap.size w' ∧ Below w.heap.size w w'

set_option maxHeartbeats 400000 in
theorem new_any (v : Value) (w : World) (h : IntsAt w v) : Calls Tryz.prog 9 #[v] w (NewTape w) := by
  obtain ⟨a, n, cap, rfl, hm, hnc, hi⟩ := h
  unfold maxLen at hm
  have H := Lib.hid hi
  clear hi
  by_cases h5 : 500 < n
  · have h6 : 500 ≤ cap := by omega
    go_enter Tryz.func9, Tryz.ntmps9
    go_wp2
    go_ret
    refine ⟨rfl, ⟨a, 500, cap, 0, ?_, ?_, ?_, by omega, by omega, ?_⟩, (Below.refl _ _).alloc (Nat.le_refl _) _⟩
    · simp
    · simp
    · simp
    · rcases H.out with h | ⟨b, o, rfl, hb, hz⟩
      · omega
      · refine .inr ⟨b, o, rfl, hb, fun i hi => ?_⟩
        obtain ⟨z, hz⟩ := hz i (by omega)
        exact ⟨z, by rw [World.cell?_alloc_lt _ _ _ hb]; exact hz⟩
  · go_enter Tryz.func9, Tryz.ntmps9
    go_wp2
    go_ret
    refine ⟨rfl, ⟨a, n, cap, 0, ?_, ?_, ?_, by omega, by omega, ?_⟩, (Below.refl _ _).alloc (Nat.le_refl _) _⟩
    · simp
    · simp
    · simp
    · rcases H.out with h | ⟨b, o, rfl, hb, hz⟩
      · exact .inl h
      · refine .inr ⟨b, o, rfl, hb, fun i hi => ?_⟩
        obtain ⟨z, hz⟩ := hz i hi
        exact ⟨z, by rw [World.cell?_alloc_lt _ _ _ hb]; exact hz⟩

end Go.Proofs.YtkhlmofcdchccaaGreatDoor

namespace Go.Proofs.YtkhlmofcdchccaaGreatDoor
open Go.RowKit

def bs (l : List UInt8) : ByteArray := ⟨l.toArray⟩

def nameList : List (List UInt8) := [[105, 100], [110], [109], [98], [115], [120], [97, 49, 95], [97, 98, 99, 100, 101, 102, 103, 104, 105, 106, 107, 108]]
def nameAt (i : Nat) : ByteArray := bs (nameList.getD i [])

def colOf (n : List UInt8) (t : Int) (nn k : Bool) : Col := ⟨bs n, t, nn, k⟩
def schLog : Sch := ⟨bs [108, 111, 103], [colOf [110] 1 false false, colOf [115] 3 false false]⟩
def schT : Sch := ⟨bs [116], [colOf [105, 100] 1 true true, colOf [110] 1 false false, colOf [98] 2 false false, colOf [115] 3 false false]⟩
def schU : Sch := ⟨bs [117], [colOf [105, 100] 1 true true, colOf [110] 1 true false, colOf [109] 1 false false]⟩
def schs3 : List Sch := [schLog, schT, schU]

/-- Fresh: in blocks that were not there before. -/
def SchsPost (w : World) (e : Ending) (w' : World) : Prop := ∃ v, e = .returned v ∧ SchsR (Out w.heap.size w'.heap.size) w' v schs3 ∧ Below w.heap.size w w'

set_option maxHeartbeats 1000000 in
theorem schemas_any (w : World) : Calls Tryz.prog 27 #[] w (SchsPost w) := by
  go_enter Tryz.func27, Tryz.ntmps27
  go_wp2
  go_ret
  refine ⟨_, rfl, ?_, by go_grown⟩
  simp only [World.size_alloc]
  have hM : ∀ j, j < 4 → ¬ Out w.heap.size (w.heap.size + 1 + 1 + 1 + 1) (w.heap.size + j) := fun j hj => by unfold Out; omega
  generalize Out w.heap.size (w.heap.size + 1 + 1 + 1 + 1) = M at hM ⊢
  show SchsR M _ (.slice (some ⟨w.heap.size + 1 + 1 + 1, 0, none⟩) 3 3) schs3
  refine RowsR.new [[.string schLog.name, .slice (some ⟨w.heap.size, 0, none⟩) 2 2], [.string schT.name, .slice (some ⟨w.heap.size + 1, 0, none⟩) 4 4], [.string schU.name, .slice (some ⟨w.heap.size + 1 + 1, 0, none⟩) 3 3]]
    (by simp) (by simp only [World.size_alloc]; exact hM 3 (by omega)) rfl (by simp) rfl (by decide) (by unfold maxLen; omega) rfl ?_
  intro i x cs hi hc
  have hi3 : i < 3 := (List.getElem?_eq_some_iff.1 hi).1
  match i, hi3 with
  | 0, _ =>
    obtain rfl : schLog = x := by simpa [schs3] using hi
    obtain rfl : [_, _] = cs := by simpa using hc
    refine ⟨_, rfl, ColsR.keep ?_ ((((Keep.refl M (w.alloc (.cells _ _))).alloc _).alloc _).alloc _)⟩
    exact cols_new schLog.cols rfl (hM 0 (by omega)) rfl rfl (by decide) (by unfold maxLen; omega)
  | 1, _ =>
    obtain rfl : schT = x := by simpa [schs3] using hi
    obtain rfl : [_, _] = cs := by simpa using hc
    refine ⟨_, rfl, ColsR.keep ?_ (((Keep.refl M ((w.alloc _).alloc (.cells _ _))).alloc _).alloc _)⟩
    exact cols_new schT.cols (by simp) (by simp only [World.size_alloc]; exact hM 1 (by omega)) rfl rfl (by decide) (by unfold maxLen; omega)
  | 2, _ =>
    obtain rfl : schU = x := by simpa [schs3] using hi
    obtain rfl : [_, _] = cs := by simpa using hc
    refine ⟨_, rfl, ColsR.keep ?_ ((Keep.refl M (((w.alloc _).alloc _).alloc (.cells _ _))).alloc _)⟩
    exact cols_new schU.cols (by simp) (by simp only [World.size_alloc]; exact hM 2 (by omega)) rfl rfl (by decide) (by unfold maxLen; omega)

def SchPost (s : Sch) (w : World) (e : Ending) (w' : World) : Prop := ∃ vc, e = .returned (.agg #[.string s.name, vc]) ∧ ColsR (Out w.heap.size w'.heap.size) w' vc s.cols ∧ Below w.heap.size w w'

theorem schs3_open {M : Nat → Prop} {w : World} {v : Value} (h : SchsR M w v schs3) : ∃ b o cap vc0 vc1 vc2, v = .slice (some ⟨b, o, none⟩) 3 cap ∧ b < w.heap.size ∧ ColsR M w vc0 schLog.cols ∧ ColsR M w vc1 schT.cols ∧ ColsR M w vc2 schU.cols ∧
    w.cell? ⟨b, o, none⟩ = some (.string ⟨#[108, 111, 103]⟩) ∧ w.cell? ⟨b, o + 1, none⟩ = some vc0 ∧ w.cell? ⟨b, o + 2, none⟩ = some (.string ⟨#[116]⟩) ∧ w.cell? ⟨b, o + 2 + 1, none⟩ = some vc1 ∧
    w.cell? ⟨b, o + 4, none⟩ = some (.string ⟨#[117]⟩) ∧ w.cell? ⟨b, o + 4 + 1, none⟩ = some vc2 := by
  rcases h.open with ⟨_, h⟩ | ⟨b, o, cap, rfl, hbT, hbs, hl, hm, hx⟩
  · simp [schs3] at h
  · obtain ⟨cs0, ⟨vc0, rfl, hc0⟩, _, g0⟩ := hx 0 schLog rfl
    obtain ⟨cs1, ⟨vc1, rfl, hc1⟩, _, g1⟩ := hx 1 schT rfl
    obtain ⟨cs2, ⟨vc2, rfl, hc2⟩, _, g2⟩ := hx 2 schU rfl
    rw [Nat.zero_mul, Nat.add_zero] at g0
    exact ⟨b, o, cap, vc0, vc1, vc2, rfl, hbs, hc0, hc1, hc2, g0.c2.1, g0.c2.2, g1.c2.1, g1.c2.2, g2.c2.1, g2.c2.2⟩

set_option maxHeartbeats 1000000 in
theorem schema_t (w : World) : Calls Tryz.prog 11 #[.string ⟨#[116]⟩] w (SchPost schT w) := by
  go_enter Tryz.func11, Tryz.ntmps11
  go_wp2_with fail
  refine (schemas_any _).mono ?_
  rintro e w1 ⟨v, rfl, hs, hb⟩
  obtain ⟨b, o, cap, vc0, vc1, vc2, rfl, hbs, hc0, hc1, hc2, a0, a1, a2, a3, a4, a5⟩ := schs3_open hs
  obtain ⟨x0, y0, rfl, _⟩ := hc0.shape
  obtain ⟨x1, y1, rfl, _⟩ := hc1.shape
  obtain ⟨x2, y2, rfl, _⟩ := hc2.shape
  obtain ⟨k1, k2, k3⟩ := bcell hb
  simp only [World.size_alloc] at k1 k2 k3
  have k4 : w.heap.size < w1.heap.size := by omega
  have HB := Lib.hid hb
  have H1 := Lib.hid hc1
  clear hs hb hc0 hc1 hc2
  go_wp2_with fail
  go_rounds 3
  refine bodyPost_ret (v := .agg #[.string ⟨#[116]⟩, .slice x1 schT.cols.length y1]) (by simp [results, Tryz.results11, go_sem, k1, k4]) rfl ⟨_, rfl, ?_, ?_⟩
  · refine ColsR.weak (M := Out (w.heap.size + 1) w1.heap.size) ?_ (ColsR.keep (w := w1) (by simpa using H1.out) ?_)
    · intro k hk h; unfold Out at h ⊢; simp at h hk; omega
    · refine Keep.alloc (Keep.alloc (Keep.setCell (Keep.setCell (Keep.refl _ _) ?_ _) ?_ _) _) _ <;> (intro _; unfold Out; simp)
  · have := HB.out
    have h0 : Below w.heap.size w w1 := ((Below.refl _ w).alloc (Nat.le_refl _) _).trans (this.mono (by simp))
    clear k1 k2
    go_grown

set_option maxHeartbeats 1000000 in
theorem schema_u (w : World) : Calls Tryz.prog 11 #[.string ⟨#[117]⟩] w (SchPost schU w) := by
  go_enter Tryz.func11, Tryz.ntmps11
  go_wp2_with fail
  refine (schemas_any _).mono ?_
  rintro e w1 ⟨v, rfl, hs, hb⟩
  obtain ⟨b, o, cap, vc0, vc1, vc2, rfl, hbs, hc0, hc1, hc2, a0, a1, a2, a3, a4, a5⟩ := schs3_open hs
  obtain ⟨x0, y0, rfl, _⟩ := hc0.shape
  obtain ⟨x1, y1, rfl, _⟩ := hc1.shape
  obtain ⟨x2, y2, rfl, _⟩ := hc2.shape
  obtain ⟨k1, k2, k3⟩ := bcell hb
  simp only [World.size_alloc] at k1 k2 k3
  have k4 : w.heap.size < w1.heap.size := by omega
  have k5 : w.heap.size < w1.heap.size + 1 := by omega
  have k6 : w.heap.size < w1.heap.size + 1 + 1 := by omega
  have HB := Lib.hid hb
  have H1 := Lib.hid hc2
  clear hs hb hc0 hc1 hc2
  go_wp2_with fail
  go_rounds 3
  refine bodyPost_ret (v := .agg #[.string ⟨#[117]⟩, .slice x2 schU.cols.length y2]) (by simp [results, Tryz.results11, go_sem, k1, k4, k5, k6]) rfl ⟨_, rfl, ?_, ?_⟩
  · refine ColsR.weak (M := Out (w.heap.size + 1) w1.heap.size) ?_ (ColsR.keep (w := w1) (by simpa using H1.out) ?_)
    · intro k hk h; unfold Out at h ⊢; simp at h hk; omega
    · refine Keep.alloc (Keep.alloc (Keep.alloc (Keep.setCell (Keep.setCell (Keep.refl _ _) ?_ _) ?_ _) _) _) _ <;> (intro _; unfold Out; simp)
  · have := HB.out
    have h0 : Below w.heap.size w w1 := ((Below.refl _ w).alloc (Nat.le_refl _) _).trans (this.mono (by simp))
    clear k1 k2
    go_grown

end Go.Proofs.YtkhlmofcdchccaaGreatDoor

namespace Go.Proofs.YtkhlmofcdchccaaGreatDoor
open Go.RowKit

def idxI : Option Nat → Int | some i => i | none => -1

theorem findIdx_some {α : Type} {p : α → Bool} {xs : List α} {k : Nat} {x : α} (hx : xs[k]? = some x) (hp : p x = true) (hn : ∀ i y, i < k → xs[i]? = some y → p y = false) : xs.findIdx? p = some k := by
  rw [List.findIdx?_eq_some_iff_getElem]
  obtain ⟨hlt, rfl⟩ := List.getElem?_eq_some_iff.1 hx
  exact ⟨hlt, hp, fun j hj => by simp [hn j _ hj (List.getElem?_eq_getElem (by omega))]⟩

theorem findIdx_none {α : Type} {p : α → Bool} {xs : List α} (hn : ∀ i y, i < xs.length → xs[i]? = some y → p y = false) : xs.findIdx? p = none := by
  rw [List.findIdx?_eq_none_iff]
  intro y hy
  obtain ⟨i, hi, rfl⟩ := List.mem_iff_getElem.1 hy
  exact hn i _ hi (List.getElem?_eq_getElem hi)

def nameIs (c : ByteArray) (x : Col) : Bool := x.name.toList == c.toList
def findCol (l : List Col) (c : ByteArray) : Option Nat := l.findIdx? (nameIs c)

set_option maxHeartbeats 400000 in
theorem find1_any (nm c : ByteArray) (x1 : Int) (x2 x3 : Bool) (b o : Nat) (w : World) (h : w.cell? ⟨b, o, none⟩ = some (.string c)) (hb : b < w.heap.size) :
    Calls Tryz.prog 123 #[.agg #[.string nm, .int .i64 x1, .bool x2, .bool x3], .pointer (some ⟨b, o, none⟩)] w fun e w' => e = .returned (.bool (nm.toList == c.toList)) ∧ Below w.heap.size w w' := by
  go_enter Tryz.func123, Tryz.ntmps123
  go_wp2
  go_ret
  exact ⟨rfl, (Below.refl _ _).alloc (Nat.le_refl _) _⟩

def RetBel (v : Value) (w : World) (e : Ending) (w' : World) : Prop := e = .returned v ∧ Below w.heap.size w w'

set_option maxHeartbeats 1000000 in
theorem idxCol_any {M : Nat → Prop} (v : Value) (l : List Col) (c : ByteArray) (b o : Nat) (w : World) (hv : ColsR M w v l) (h : w.cell? ⟨b, o, none⟩ = some (.string c)) :
    Calls Tryz.prog 122 #[v, .func (.func 123) #[] #[.pointer (some ⟨b, o, none⟩)]] w (RetBel (.int .i64 (idxI (findCol l c))) w) := by
  have hb := World.block_lt_of_cell? _ _ h
  simp only at hb
  have HV := Lib.hid hv
  obtain ⟨a, cap, rfl, hm⟩ := hv.shape
  unfold maxLen at hm
  clear hv
  have hs := @Int.ofNat_le l.length
  go_enter Tryz.func122, Tryz.ntmps122
  go_wp2
  go_loopw [5, 8] (fun j i wr => ∃ k : Nat, k ≤ l.length ∧ i = .int .i64 k ∧ Below w.heap.size w wr ∧ ∀ i y, i < k → l[i]? = some y → nameIs c y = false) (fun _ i _ => l.length - (intOf i).toNat)
  case atStart => exact ⟨0, Nat.zero_le _, rfl, Below.refl _ _, fun i y hi => by omega⟩
  case round =>
    obtain ⟨k, hk, rfl, hbel, hno⟩ := hrel
    have HN := Lib.hid hno
    clear hno
    by_cases hlt : k < l.length
    · rcases HV.out.open with ⟨h, h'⟩ | ⟨b', o', cap', hv', hbT, hbs, hl, hm', hx⟩
      · subst h'; simp at hlt
      · simp only [Value.slice.injEq] at hv'
        obtain ⟨rfl, _, rfl⟩ := hv'
        have hxk : l[k]? = some l[k] := List.getElem?_eq_getElem hlt
        obtain ⟨cs, rfl, _, hcs⟩ := hx k _ hxk
        generalize l[k] = x at hxk hcs
        have hcs' := hcs.keep (M := fun k => w.heap.size ≤ k) (.of_below hbel fun k _ h => h) (by simp; omega)
        obtain ⟨c0, c1, c2, c3⟩ := hcs'.c4
        have h0 : wr.cell? ⟨b, o, none⟩ = some (.string c) := (hbel.cell hb).trans h
        have hbr : b < wr.heap.size := Nat.lt_of_lt_of_le hb hbel.size
        have HX := Lib.hid hxk
        have HB := Lib.hid hbel
        clear hx hcs hxk hbel hcs'
        by_cases hp : (x.name.toList == c.toList) = true
        · go_wp2_with (go_at_call 123; refine (find1_any _ _ _ _ _ _ _ _ h0 hbr).mono ?_; rintro e w1 ⟨rfl, hb1⟩)
          go_ret
          refine ⟨?_, bel_trans HB.out (by assumption)⟩
          rw [show findCol l c = some k from findIdx_some HX.out hp HN.out]
          rfl
        · have hp' : (x.name.toList == c.toList) = false := by simpa using hp
          clear hp
          go_wp2_with (go_at_call 123; refine (find1_any _ _ _ _ _ _ _ _ h0 hbr).mono ?_; rintro e w1 ⟨rfl, hb1⟩)
          go_roundw
          case rel =>
            refine ⟨k + 1, by omega, by go_num, bel_trans HB.out (by assumption), fun i y hi hy => ?_⟩
            by_cases e : i = k
            · subst e
              have := HX.out
              rw [this] at hy
              simp at hy
              subst hy
              exact hp'
            · exact HN.out i y (by omega) hy
          case measure => simp [intOf]; omega
    · go_wp2
      go_ret
      refine ⟨?_, hbel⟩
      rw [show findCol l c = none from findIdx_none fun i y hi hy => HN.out i y (by omega) hy]
      rfl

set_option maxHeartbeats 1000000 in
theorem find_any {M : Nat → Prop} (nm : ByteArray) (v : Value) (l : List Col) (c : ByteArray) (w : World) (hv : ColsR M w v l) :
    Calls Tryz.prog 78 #[.agg #[.string nm, v], .string c] w (RetBel (.int .i64 (idxI (findCol l c))) w) := by
  have HV := Lib.hid hv
  obtain ⟨a, cap, rfl, hm⟩ := hv.shape
  clear hv
  go_enter Tryz.func78, Tryz.ntmps78
  go_wp2_with fail
  refine (idxCol_any (M := M) _ l c _ _ _ (HV.out.keep (((Keep.refl M w).alloc _).alloc _)) (by simp)).mono ?_
  rintro e w1 ⟨rfl, hb⟩
  have HB := Lib.hid hb
  clear hb
  go_wp2_with fail
  go_ret
  refine ⟨rfl, ?_⟩
  have := HB.out.mono (B' := w.heap.size) (by simp; omega)
  exact (((Below.refl _ w).alloc (Nat.le_refl _) _).alloc (by simp) _).trans this

theorem find_some {M : Nat → Prop} (nm : ByteArray) (v : Value) (l : List Col) (c : ByteArray) (w : World) (k : Nat) (hv : ColsR M w v l) (hk : findCol l c = some k) :
    Calls Tryz.prog 78 #[.agg #[.string nm, v], .string c] w (RetBel (.int .i64 k) w) := by
  have := find_any nm v l c w hv
  rw [hk] at this
  exact this

theorem find_none {M : Nat → Prop} (nm : ByteArray) (v : Value) (l : List Col) (c : ByteArray) (w : World) (hv : ColsR M w v l) (hk : findCol l c = none) :
    Calls Tryz.prog 78 #[.agg #[.string nm, v], .string c] w (RetBel (.int .i64 (-1)) w) := by
  have := find_any nm v l c w hv
  rw [hk] at this
  exact this

/-- Which frame may answer to a qualifier. -/
def fits' (q : ByteArray) (f : Frm) : Bool := !((q.toList == []) && f.strict || !(q.toList == []) && !(f.name.toList == q.toList))

def resolveAt (q n : ByteArray) (f : Frm) : Option Nat := if fits' q f then findCol f.cols n else none

/-- The innermost frame with its column. -/
def resolve (q n : ByteArray) : List Frm → Option (Nat × Nat)
  | [] => none
  | f :: fs => match resolve q n fs with
    | some (i, k) => some (i + 1, k)
    | none => (resolveAt q n f).map fun k => (0, k)

theorem resolve_snoc (q n : ByteArray) (l : List Frm) (f : Frm) : resolve q n (l ++ [f]) = match resolveAt q n f with | some k => some (l.length, k) | none => resolve q n l := by
  induction l with
  | nil => cases h : resolveAt q n f <;> simp [resolve, h]
  | cons g l ih =>
    simp only [List.cons_append, resolve, ih]
    cases h : resolveAt q n f <;> simp

theorem resolve_take_succ (q n : ByteArray) (l : List Frm) (k : Nat) (f : Frm) (h : l[k]? = some f) : resolve q n (l.take (k + 1)) = match resolveAt q n f with | some j => some (k, j) | none => resolve q n (l.take k) := by
  obtain ⟨hlt, rfl⟩ := List.getElem?_eq_some_iff.1 h
  rw [List.take_succ_eq_append_getElem hlt, resolve_snoc]
  simp [Nat.min_eq_left (Nat.le_of_lt hlt)]

def resV : Option (Nat × Nat) → Value
  | some (i, k) => .tuple #[.int .i64 i, .int .i64 k, .bool true]
  | none => .tuple #[.int .i64 0, .int .i64 0, .bool false]

set_option maxHeartbeats 1000000 in
theorem resolve_any {M : Nat → Prop} (v : Value) (l : List Frm) (q n : ByteArray) (w : World) (hv : FrmsR M w v l) :
    Calls Tryz.prog 181 #[v, .string q, .string n] w (RetBel (resV (resolve q n l)) w) := by
  have HV := Lib.hid hv
  obtain ⟨a, cap, rfl, hm⟩ := hv.shape
  unfold maxLen at hm
  clear hv
  go_enter Tryz.func181, Tryz.ntmps181
  go_wp2
  go_step3
  go_wp2
  go_step3
  go_wp2
  go_loopw [9] (fun i wr => ∃ k : Nat, k ≤ l.length ∧ i = .int .i64 ((k : Int) - 1) ∧ Below w.heap.size w wr ∧ resolve q n l = resolve q n (l.take k)) (fun i _ => (intOf i + 1).toNat)
  case atStart => exact ⟨l.length, Nat.le_refl _, rfl, Below.refl _ _, by rw [List.take_length]⟩
  case round =>
    obtain ⟨k, hk, rfl, hbel, hno⟩ := hrel
    have HN := Lib.hid hno
    clear hno
    by_cases hlt : 1 ≤ k
    · obtain ⟨j, rfl⟩ : ∃ j, k = j + 1 := ⟨k - 1, by omega⟩
      rcases HV.out.open with ⟨h, h'⟩ | ⟨b', o', cap', hv', hbT, hbs, hl, hm', hx⟩
      · subst h'; simp at hk
      · simp only [Value.slice.injEq] at hv'
        obtain ⟨rfl, _, rfl⟩ := hv'
        have hxk : l[j]? = some l[j] := List.getElem?_eq_getElem (by omega)
        obtain ⟨cs, ⟨vc, a1, n1, p1, rfl, hcols⟩, _, hcs⟩ := hx j _ hxk
        generalize l[j] = f at hxk hcs hcols
        have hcs' := hcs.keep (M := fun k => w.heap.size ≤ k) (.of_below hbel fun k _ h => h) (by simp; omega)
        obtain ⟨c0, c1, c2, c3⟩ := hcs'.c4
        obtain ⟨ca, cc, rfl, _⟩ := hcols.shape
        have hb'r : b' < wr.heap.size := Nat.lt_of_lt_of_le hbs hbel.size
        have HX := Lib.hid hxk
        have HB := Lib.hid hbel
        have HC := Lib.hid hcols
        clear hx hcs hxk hbel hcs' hcols
        have e1 : ((j + 1 : Nat) : Int) - 1 = (j : Int) := by omega
        rw [e1]
        have hcr : ∀ o, ColsR M (wr.alloc o) (.slice ca f.cols.length cc) f.cols := fun o => HC.out.keep ((Keep.bel HB.out).alloc o)
        have HR := Lib.hid hcr
        clear hcr
        have hbw := HB.out.size
        have skip : fits' q f = false → resolve q n l = resolve q n (l.take j) := fun h => by
          rw [HN.out, resolve_take_succ q n l j f HX.out]
          simp [resolveAt, h]
        have here : fits' q f = true → ∀ k, findCol f.cols n = some k → resolve q n l = some (j, k) := fun h k hk => by
          rw [HN.out, resolve_take_succ q n l j f HX.out]
          simp [resolveAt, h, hk]
        have gone : fits' q f = true → findCol f.cols n = none → resolve q n l = resolve q n (l.take j) := fun h hk => by
          rw [HN.out, resolve_take_succ q n l j f HX.out]
          simp [resolveAt, h, hk]
        have S1 := Lib.hid skip
        have S2 := Lib.hid here
        have S3 := Lib.hid gone
        clear skip here gone
        have bl : ∀ (o : Obj) (w1 : World), Below (wr.alloc o).heap.size (wr.alloc o) w1 → Below w.heap.size w w1 := fun o w1 h => bel_trans HB.out (((Below.refl _ wr).alloc (Nat.le_refl _) o).trans (h.mono (by simp)))
        have BL := Lib.hid bl
        clear bl
        cases hf : findCol f.cols n with
        | none =>
          have HF := Lib.hid hf
          clear hf
          go_wp2_with (go_at_call 78; refine (find_none (M := M) _ _ _ _ _ (HR.out _) HF.out).mono ?_; rintro e w1 ⟨rfl, hb1⟩; have HB1 := Lib.hid hb1; clear hb1)
          all_goals
            go_roundw
            case rel =>
              refine ⟨j, by omega, rfl, ?_, ?_⟩
              · first
                | exact BL.out _ _ (Hid.out (by assumption))
                | exact HB.out.trans ((Below.refl _ wr).alloc hbw _)
              · cases hfit : fits' q f with
                | true => exact S3.out hfit HF.out
                | false => exact S1.out hfit
            case measure => simp [intOf]
        | some at_ =>
          have HF := Lib.hid hf
          clear hf
          go_wp2_with (go_at_call 78; refine (find_some (M := M) _ _ _ _ _ at_ (HR.out _) HF.out).mono ?_; rintro e w1 ⟨rfl, hb1⟩; have HB1 := Lib.hid hb1; clear hb1)
          case roundEnd | roundEnd =>
            go_roundw
            case rel =>
              refine ⟨j, by omega, rfl, HB.out.trans ((Below.refl _ wr).alloc hbw _), S1.out ?_⟩
              simp_all [fits']
            case measure => simp [intOf]
          all_goals
            rw [Exit.noGoto_ret]
            go_ret3
            refine ⟨?_, BL.out _ _ (Hid.out (by assumption))⟩
            rw [S2.out (by simp_all [fits']) _ HF.out]
            rfl
    · obtain rfl : k = 0 := by omega
      go_wp2
      go_ret3
      refine ⟨?_, hbel⟩
      rw [HN.out]
      rfl

end Go.Proofs.YtkhlmofcdchccaaGreatDoor

namespace Go.Proofs.YtkhlmofcdchccaaGreatDoor
open Go.RowKit

def wordList : List (List UInt8) := [[], [97], [98], [105, 116, 39, 115], [90, 32, 122], [126]]
def wordAt (i : Nat) : ByteArray := bs (wordList.getD i [])

/-- The variable 'words' holds its six words; it lies below the tape. -/
def WordsOk (T : Nat) (w : World) : Prop := 1 < T ∧ ∀ i : Nat, i < 6 → w.cell? ⟨1, i, none⟩ = some (.string (wordAt i))

theorem WordsOk.keep {M : Nat → Prop} {T : Nat} {w w' : World} (h : WordsOk T w) (k : Keep M w w') (hM : ∀ k, k < T → ¬ M k) : WordsOk T w' := by
  refine ⟨h.1, fun i hi => ?_⟩
  have := h.2 i hi
  rw [k.cell (World.block_lt_of_cell? _ _ this) (hM _ h.1)]
  exact this

theorem WordsOk.at {T : Nat} {w w' : World} (h : WordsOk T w) (k : Keep (At T) w w') : WordsOk T w' := h.keep k fun k hk h => by unfold At at h; omega

end Go.Proofs.YtkhlmofcdchccaaGreatDoor

namespace Go.Proofs.YtkhlmofcdchccaaGreatDoor

def fitsB (a b : Int) : Bool := a == 0 || b == 0 || a == b
def allB (ts : List Int) (want : Int) : Bool := ts.all fun t => fitsB t want
def pairB (ts : List Int) : Bool := (List.range ts.length).all fun i => allB (ts.take i) (ts.getD i 0)

/-- How many arguments and queries a kind has, and how many items its query: -1 for no such kind. -/
def subOk (items : Nat) : List Qu → Bool
  | [q] => q.items.length == items && decide (q.whr.length ≤ 1)
  | _ => false

def formed (e : Ex) : Bool :=
  if e.kind = 1 ∨ e.kind = 2 then e.args.length == 0 && e.sub.length == 0
  else if e.kind = 3 ∨ e.kind = 4 ∨ e.kind = 6 then e.args.length == 1 && e.sub.length == 0
  else if e.kind = 5 then decide (1 ≤ e.op) && decide (e.op ≤ 13) && e.args.length == 2 && e.sub.length == 0
  else if e.kind = 7 then e.args.length == 3 && e.sub.length == 0
  else if e.kind = 8 ∨ e.kind = 9 then e.args.length == 0 && subOk 0 e.sub
  else if e.kind = 10 ∨ e.kind = 11 ∨ e.kind = 12 then e.args.length == 0 && subOk 1 e.sub
  else false

def operationP (k o : Int) (ts : List Int) : Int × Int :=
  if k = 6 then (2, 0)
  else if k = 3 ∨ (k = 5 ∧ o ≤ 2) then (if allB ts 2 then (2, 0) else (0, 5))
  else if k = 4 ∨ (k = 5 ∧ 9 ≤ o) then (if allB ts 1 then (1, 0) else (0, 5))
  else if pairB ts then (2, 0) else (0, 5)

def sourceP (ts : List Sch) (n : ByteArray) : Option Sch := ts.find? fun s => s.name.toList == n.toList

def frmOf (s : Sch) : Frm := ⟨s.name, false, s.cols⟩

/-- What a kind with a query has as its type, of the item's type. -/
def aggP (k item : Int) : Int × Int :=
  if k = 10 ∧ fitsB item 1 = false then (0, 5)
  else if k = 8 then (2, 0)
  else if k = 9 ∨ k = 10 then (1, 0)
  else (item, 0)

def condP : Int × Int → Int
  | (t, c) => if c = 0 ∧ fitsB t 2 = false then 5 else c

def colType (fs : List Frm) (i k : Nat) : Int := ((((fs[i]?).map Frm.cols).getD [])[k]?.map Col.type).getD 0

mutual
def typeP (ts : List Sch) : Ex → List Frm → Int × Int
  | .mk k o no v t nm args sub, fs =>
    if formed (.mk k o no v t nm args sub) = false then (0, 17)
    else if k = 1 then (v.kind, 0)
    else if k = 2 then (match resolve t nm fs with | some (i, j) => (colType fs i j, 0) | none => (0, 3))
    else if 8 ≤ k then typeSub ts k sub fs
    else match typeL ts args fs with
      | .error c => (0, c)
      | .ok l => operationP k o l
def typeL (ts : List Sch) : List Ex → List Frm → Except Int (List Int)
  | [], _ => .ok []
  | e :: es, fs => if (typeP ts e fs).2 ≠ 0 then .error (typeP ts e fs).2
    else match typeL ts es fs with
      | .error c => .error c
      | .ok l => .ok ((typeP ts e fs).1 :: l)
def typeC (ts : List Sch) : List Ex → List Frm → Int
  | [], _ => 0
  | e :: _, fs => condP (typeP ts e fs)
def typeQ (ts : List Sch) (k : Int) : Qu → List Frm → Int × Int
  | .mk _ items frm whr, fs =>
    match sourceP ts frm with
    | none => (0, 3)
    | some s => match typeL ts items (fs ++ [frmOf s]) with
      | .error c => (0, c)
      | .ok l => if typeC ts whr (fs ++ [frmOf s]) ≠ 0 then (0, typeC ts whr (fs ++ [frmOf s])) else aggP k (l.getLastD 0)
def typeSub (ts : List Sch) (k : Int) : List Qu → List Frm → Int × Int
  | [], _ => (0, 17)
  | q :: _, fs => typeQ ts k q fs
end

mutual
/-- How deep queries are nested. -/
def dep : Ex → Nat
  | .mk _ _ _ _ _ _ args sub => max (depL args) (depS sub)
def depL : List Ex → Nat
  | [] => 0
  | e :: es => max (dep e) (depL es)
def depQ : Qu → Nat
  | .mk _ items _ whr => max (depL items) (depL whr) + 1
def depS : List Qu → Nat
  | [] => 0
  | q :: qs => max (depQ q) (depS qs)
end

theorem depL_mem {l : List Ex} {e : Ex} (h : e ∈ l) : dep e ≤ depL l := by
  induction l with
  | nil => cases h
  | cons x l ih =>
    rw [depL]
    rcases List.mem_cons.1 h with rfl | h
    · omega
    · have := ih h; omega

theorem depS_mem {l : List Qu} {e : Qu} (h : e ∈ l) : depQ e ≤ depS l := by
  induction l with
  | nil => cases h
  | cons x l ih =>
    rw [depS]
    rcases List.mem_cons.1 h with rfl | h
    · omega
    · have := ih h; omega

theorem dep_eq (e : Ex) : dep e = max (depL e.args) (depS e.sub) := by cases e; rw [dep]; rfl
theorem depQ_eq (q : Qu) : depQ q = max (depL q.items) (depL q.whr) + 1 := by cases q; rw [depQ]; rfl

end Go.Proofs.YtkhlmofcdchccaaGreatDoor

namespace Go.Proofs.YtkhlmofcdchccaaGreatDoor
open Go.RowKit

theorem infoCol : (Tryz.prog.info? 55).map (fun i => (i.zero, i.size, i.bytes)) = some (some (.agg #[.string ⟨#[]⟩, .int .i64 0, .bool false, .bool false]), 4, 32) := by kernel_rfl

set_option maxHeartbeats 1000000 in
theorem cloneCol_any {M : Nat → Prop} {α : Type} {R : World → α → List Value → Prop} (hk : ∀ w w' x cs, Keep M w w' → R w x cs → R w' x cs) (h1 : ∀ w x cs, R w x cs → ∀ u ∈ cs, u.oneCell' = true) (v : Value) (l : List α) (w : World)
    (hv : RowsR M w 4 (R w) v l) (hN : l.length * 32 ≤ 140737488355328) : Calls Tryz.prog 131 #[v] w (ClonePost M 55 4 R l w) := by
  obtain ⟨i0, hi, hz0, hz1, hz2⟩ := info_parts infoCol
  have hv0 := hv
  obtain ⟨css, hs, hl, hR⟩ := hv
  have HV := Lib.hid hv0
  have HR := Lib.hid hR
  have HL := Lib.hid hl
  have HN := Lib.hid hN
  have HK := Lib.hid hk
  have H1 := Lib.hid h1
  clear hv0 hR hk h1 hN
  rcases hs with ⟨⟨A, rfl⟩, rfl⟩ | ⟨b, o, cap, rfl, hT, hb, hlc, hm, hc⟩
  · rcases A with _ | ad
    · have hnil := fun (w : World) => Lib.run_eql_slice_nil (P := Tryz.prog) w 40 55 none 0 0 0 0 Tryz.underlying40
      clear hl
      go_enter Tryz.func131, Tryz.ntmps131
      go_wp2_with fail
      go_ret
      have hl := HL.out
      obtain rfl : l = [] := List.eq_nil_of_length_eq_zero (by simpa using hl.symm)
      exact ⟨_, rfl, RowsO.nil .., Below.refl _ _⟩
    · have hnil := fun (w : World) => Lib.run_eql_slice_nil (P := Tryz.prog) w 40 55 (some ad) 0 0 0 0 Tryz.underlying40
      have hmade := fun (w : World) => World.ownsRow_made w (base := w.heap.size) (e := 55) (size := 4) #[] 0 (Nat.le_refl _) (by unfold maxLen; omega) (by simp)
      have HM := Lib.hid hmade
      clear hmade hl
      go_enter Tryz.func131, Tryz.ntmps131
      go_wp2_with (at_builtin; refine wpList_append_own _ rfl _ _ 40 rfl w.heap.size 55 i0 (.agg #[.string ⟨#[]⟩, .int .i64 0, .bool false, .bool false]) 4 32 Tryz.underlying40 hi hz0 hz1 hz2 rfl (by decide) (.slice (some ⟨w.heap.size, 0, none⟩) 0 0) 0 [] rfl (HM.out w) ad 0 0 [] rfl rfl (by simp) (by simp) (by unfold maxLen; omega) (by simp) (by simp) ?_; intro v' w1 hown hgrow _; have HW := Lib.hid hown; have HG := Lib.hid hgrow; clear hown hgrow)
      go_ret
      have hbel : Below w.heap.size w w1 := ((Below.refl _ _).alloc (Nat.le_refl _) _).grown HG.out (by simp) (by intro k h; have h' : w.heap.size = k := (by simpa [Value.ownBlock] using h); exact Nat.le_of_eq h')
      have hl := HL.out
      obtain rfl : l = [] := List.eq_nil_of_length_eq_zero (by simpa using hl.symm)
      exact ⟨v', rfl, ⟨[], by simpa using HW.out, rfl, by simp, by simp⟩, hbel⟩
  · have hnil := fun (w : World) => Lib.run_eql_slice_nil (P := Tryz.prog) w 40 55 (some ⟨b, o, none⟩) css.length cap 0 0 Tryz.underlying40
    have hflat := flat_cells hc
    have hsz : ∀ cs ∈ css, cs.length = 4 := fun cs h => let ⟨i, hi⟩ := List.mem_iff_getElem?.1 h; (hc i cs hi).1
    have hfl : css.flatten.length = css.length * 4 := flatten_length 4 css hsz
    have hone : ∀ u ∈ css.flatten, u.oneCell' = true := by
      intro u hu
      obtain ⟨cs, hcs, hu⟩ := List.mem_flatten.1 hu
      obtain ⟨i, hi⟩ := List.mem_iff_getElem?.1 hcs
      have hlt : i < l.length := by rw [← hl]; exact (List.getElem?_eq_some_iff.1 hi).1
      exact H1.out w _ cs (HR.out i _ cs (List.getElem?_eq_getElem hlt) hi) u hu
    have HF := Lib.hid hflat
    have HZ := Lib.hid hsz
    have HFL := Lib.hid hfl
    have HO := Lib.hid hone
    have hmade := fun (w : World) => World.ownsRow_made w (base := w.heap.size) (e := 55) (size := 4) #[] 0 (Nat.le_refl _) (by unfold maxLen; omega) (by simp)
    have HM := Lib.hid hmade
    clear hflat hsz hfl hone hmade hc hl
    go_enter Tryz.func131, Tryz.ntmps131
    go_wp2_with (at_builtin; refine wpList_append_own _ rfl _ _ 40 rfl w.heap.size 55 i0 (.agg #[.string ⟨#[]⟩, .int .i64 0, .bool false, .bool false]) 4 32 Tryz.underlying40 hi hz0 hz1 hz2 rfl (by decide) (.slice (some ⟨w.heap.size, 0, none⟩) 0 0) 0 [] rfl (HM.out w) ⟨b, o, none⟩ css.length cap css.flatten rfl HFL.out ?c1 HO.out ?c3 ?c4 ?c5 ?_; (case c1 => intro j u hu; rw [World.cell?_alloc_lt _ _ _ (by rw [Addr.add_lit]; exact hb)]; exact HF.out j u hu); (case c3 => omega); (case c4 => rw [HL.out, Nat.zero_add]; exact HN.out); (case c5 => simp); intro v' w1 hown hgrow _; have HW := Lib.hid hown; have HG := Lib.hid hgrow; clear hown hgrow)
    go_ret
    have hbel : Below w.heap.size w w1 := ((Below.refl _ w).alloc (Nat.le_refl _) _).grown HG.out (by simp) (by intro k h; have h' : w.heap.size = k := (by simpa [Value.ownBlock] using h); exact Nat.le_of_eq h')
    refine ⟨v', rfl, ⟨css, by simpa using HW.out, HL.out, HZ.out, fun i x cs hi hc => HK.out w w1 x cs (.bel hbel) (HR.out i x cs hi hc)⟩, hbel⟩

theorem infoFrame : (Tryz.prog.info? 205).map (fun i => (i.zero, i.size, i.bytes)) = some (some (.agg #[.string ⟨#[]⟩, .bool false, .slice none 0 0, .slice none 0 0]), 4, 72) := by kernel_rfl

set_option maxHeartbeats 1000000 in
theorem cloneFrame_any {M : Nat → Prop} {α : Type} {R : World → α → List Value → Prop} (hk : ∀ w w' x cs, Keep M w w' → R w x cs → R w' x cs) (h1 : ∀ w x cs, R w x cs → ∀ u ∈ cs, u.oneCell' = true) (v : Value) (l : List α) (w : World)
    (hv : RowsR M w 4 (R w) v l) (hN : l.length * 72 ≤ 140737488355328) : Calls Tryz.prog 209 #[v] w (ClonePost M 205 4 R l w) := by
  obtain ⟨i0, hi, hz0, hz1, hz2⟩ := info_parts infoFrame
  have hv0 := hv
  obtain ⟨css, hs, hl, hR⟩ := hv
  have HV := Lib.hid hv0
  have HR := Lib.hid hR
  have HL := Lib.hid hl
  have HN := Lib.hid hN
  have HK := Lib.hid hk
  have H1 := Lib.hid h1
  clear hv0 hR hk h1 hN
  rcases hs with ⟨⟨A, rfl⟩, rfl⟩ | ⟨b, o, cap, rfl, hT, hb, hlc, hm, hc⟩
  · rcases A with _ | ad
    · have hnil := fun (w : World) => Lib.run_eql_slice_nil (P := Tryz.prog) w 162 205 none 0 0 0 0 Tryz.underlying162
      clear hl
      go_enter Tryz.func209, Tryz.ntmps209
      go_wp2_with fail
      go_ret
      have hl := HL.out
      obtain rfl : l = [] := List.eq_nil_of_length_eq_zero (by simpa using hl.symm)
      exact ⟨_, rfl, RowsO.nil .., Below.refl _ _⟩
    · have hnil := fun (w : World) => Lib.run_eql_slice_nil (P := Tryz.prog) w 162 205 (some ad) 0 0 0 0 Tryz.underlying162
      have hmade := fun (w : World) => World.ownsRow_made w (base := w.heap.size) (e := 205) (size := 4) #[] 0 (Nat.le_refl _) (by unfold maxLen; omega) (by simp)
      have HM := Lib.hid hmade
      clear hmade hl
      go_enter Tryz.func209, Tryz.ntmps209
      go_wp2_with (at_builtin; refine wpList_append_own _ rfl _ _ 162 rfl w.heap.size 205 i0 (.agg #[.string ⟨#[]⟩, .bool false, .slice none 0 0, .slice none 0 0]) 4 72 Tryz.underlying162 hi hz0 hz1 hz2 rfl (by decide) (.slice (some ⟨w.heap.size, 0, none⟩) 0 0) 0 [] rfl (HM.out w) ad 0 0 [] rfl rfl (by simp) (by simp) (by unfold maxLen; omega) (by simp) (by simp) ?_; intro v' w1 hown hgrow _; have HW := Lib.hid hown; have HG := Lib.hid hgrow; clear hown hgrow)
      go_ret
      have hbel : Below w.heap.size w w1 := ((Below.refl _ _).alloc (Nat.le_refl _) _).grown HG.out (by simp) (by intro k h; have h' : w.heap.size = k := (by simpa [Value.ownBlock] using h); exact Nat.le_of_eq h')
      have hl := HL.out
      obtain rfl : l = [] := List.eq_nil_of_length_eq_zero (by simpa using hl.symm)
      exact ⟨v', rfl, ⟨[], by simpa using HW.out, rfl, by simp, by simp⟩, hbel⟩
  · have hnil := fun (w : World) => Lib.run_eql_slice_nil (P := Tryz.prog) w 162 205 (some ⟨b, o, none⟩) css.length cap 0 0 Tryz.underlying162
    have hflat := flat_cells hc
    have hsz : ∀ cs ∈ css, cs.length = 4 := fun cs h => let ⟨i, hi⟩ := List.mem_iff_getElem?.1 h; (hc i cs hi).1
    have hfl : css.flatten.length = css.length * 4 := flatten_length 4 css hsz
    have hone : ∀ u ∈ css.flatten, u.oneCell' = true := by
      intro u hu
      obtain ⟨cs, hcs, hu⟩ := List.mem_flatten.1 hu
      obtain ⟨i, hi⟩ := List.mem_iff_getElem?.1 hcs
      have hlt : i < l.length := by rw [← hl]; exact (List.getElem?_eq_some_iff.1 hi).1
      exact H1.out w _ cs (HR.out i _ cs (List.getElem?_eq_getElem hlt) hi) u hu
    have HF := Lib.hid hflat
    have HZ := Lib.hid hsz
    have HFL := Lib.hid hfl
    have HO := Lib.hid hone
    have hmade := fun (w : World) => World.ownsRow_made w (base := w.heap.size) (e := 205) (size := 4) #[] 0 (Nat.le_refl _) (by unfold maxLen; omega) (by simp)
    have HM := Lib.hid hmade
    clear hflat hsz hfl hone hmade hc hl
    go_enter Tryz.func209, Tryz.ntmps209
    go_wp2_with (at_builtin; refine wpList_append_own _ rfl _ _ 162 rfl w.heap.size 205 i0 (.agg #[.string ⟨#[]⟩, .bool false, .slice none 0 0, .slice none 0 0]) 4 72 Tryz.underlying162 hi hz0 hz1 hz2 rfl (by decide) (.slice (some ⟨w.heap.size, 0, none⟩) 0 0) 0 [] rfl (HM.out w) ⟨b, o, none⟩ css.length cap css.flatten rfl HFL.out ?c1 HO.out ?c3 ?c4 ?c5 ?_; (case c1 => intro j u hu; rw [World.cell?_alloc_lt _ _ _ (by rw [Addr.add_lit]; exact hb)]; exact HF.out j u hu); (case c3 => omega); (case c4 => rw [HL.out, Nat.zero_add]; exact HN.out); (case c5 => simp); intro v' w1 hown hgrow _; have HW := Lib.hid hown; have HG := Lib.hid hgrow; clear hown hgrow)
    go_ret
    have hbel : Below w.heap.size w w1 := ((Below.refl _ w).alloc (Nat.le_refl _) _).grown HG.out (by simp) (by intro k h; have h' : w.heap.size = k := (by simpa [Value.ownBlock] using h); exact Nat.le_of_eq h')
    refine ⟨v', rfl, ⟨css, by simpa using HW.out, HL.out, HZ.out, fun i x cs hi hc => HK.out w w1 x cs (.bel hbel) (HR.out i x cs hi hc)⟩, hbel⟩

end Go.Proofs.YtkhlmofcdchccaaGreatDoor

namespace Go.Proofs.YtkhlmofcdchccaaGreatDoor
open Go.RowKit

def es : ByteArray := ⟨#[]⟩
def val0 : Val := ⟨0, 0, es⟩
def litX (v : Val) : Ex := .mk 1 0 false v es es [] []
def colX (t n : ByteArray) : Ex := .mk 2 0 false val0 t n [] []
def binX (o : Int) (a b : Ex) : Ex := .mk 5 o false val0 es es [a, b] []
def negX (a : Ex) : Ex := .mk 4 0 false val0 es es [a] []

theorem ec_nil {M : Nat → Prop} {w : World} (k o : Int) (no : Bool) (v : Val) (t nm : ByteArray) : EC M w (.mk k o no v t nm [] []) (exCells k o no v t nm (.slice none 0 0) (.slice none 0 0)) :=
  (EC_iff ..).2 ⟨_, _, rfl, RowsR.nil .., RowsR.nil ..⟩

set_option maxHeartbeats 400000 in
theorem lit_any (k i : Int) (s : ByteArray) (w : World) : Calls Tryz.prog 80 #[.agg #[.int .i64 k, .int .i64 i, .string s]] w (RetBel (.agg #[.int .i64 1, .int .i64 0, .bool false, .int .i64 k, .int .i64 i, .string s, .string ⟨#[]⟩, .string ⟨#[]⟩, .slice none 0 0, .slice none 0 0]) w) := by
  go_enter Tryz.func80, Tryz.ntmps80
  go_wp2
  go_returns
  exact ⟨rfl, by go_grown⟩

set_option maxHeartbeats 400000 in
theorem col_any (t n : ByteArray) (w : World) : Calls Tryz.prog 36 #[.string t, .string n] w (RetBel (.agg #[.int .i64 2, .int .i64 0, .bool false, .int .i64 0, .int .i64 0, .string ⟨#[]⟩, .string t, .string n, .slice none 0 0, .slice none 0 0]) w) := by
  go_enter Tryz.func36, Tryz.ntmps36
  go_wp2
  go_returns
  exact ⟨rfl, by go_grown⟩

set_option maxHeartbeats 400000 in
theorem num_pos (n : Int) (h : 0 ≤ n) (w : World) : Calls Tryz.prog 37 #[.int .i64 n] w (RetBel (.agg #[.int .i64 1, .int .i64 0, .bool false, .int .i64 1, .int .i64 n, .string ⟨#[]⟩, .string ⟨#[]⟩, .string ⟨#[]⟩, .slice none 0 0, .slice none 0 0]) w) := by
  go_enter Tryz.func37, Tryz.ntmps37
  go_wp2_with (go_at_call 80; refine (lit_any _ _ _ _).mono ?_; rintro e w1 ⟨rfl, hb⟩; obtain ⟨k1, k2, k3⟩ := bcell hb; simp only [World.size_alloc] at k1 k2 k3; have k4 : w.heap.size < w1.heap.size := (by omega); have HB := Lib.hid hb; clear hb)
  refine bodyPost_ret (v := .agg #[.int .i64 1, .int .i64 0, .bool false, .int .i64 1, .int .i64 n, .string ⟨#[]⟩, .string ⟨#[]⟩, .string ⟨#[]⟩, .slice none 0 0, .slice none 0 0]) (by simp [results, Tryz.results37, go_sem, k1]) rfl ⟨rfl, ?_⟩
  clear k1 k2
  have h0 : Below w.heap.size w w1 := Below.trans (by go_grown) (HB.out.mono (by simp))
  go_grown

/-- A fresh slice of two things. -/
theorem rows_two {α : Type} {M : Nat → Prop} {w : World} {arr : Array Value} {e : TypeId} {size g : Nat} {R : α → List Value → Prop} (x y : α) (cx cy : List Value) (hg : g = w.heap.size) (hT : ¬ M w.heap.size) (ha : arr.toList = cx ++ cy) (hx : cx.length = size) (hy : cy.length = size) (h1 : R x cx) (h2 : R y cy) :
    RowsR M (w.alloc (.cells arr e)) size R (.slice (some ⟨g, 0, none⟩) 2 2) [x, y] :=
  RowsR.new [cx, cy] hg hT (by simpa using ha) (by simp [hx, hy]) rfl (Nat.le_refl _) (by unfold maxLen; omega) rfl fun i z cs hi hc => by
    match i with
    | 0 => simp at hi hc; subst hi; subst hc; exact h1
    | 1 => simp at hi hc; subst hi; subst hc; exact h2
    | i + 2 => simp at hi

def BinPost (M : Nat → Prop) (o : Int) (a b : Ex) (w : World) (e : Ending) (w' : World) : Prop := ∃ cs, e = .returned (.agg cs.toArray) ∧ EC M w' (binX o a b) cs ∧ Below w.heap.size w w'

set_option maxHeartbeats 1000000 in
theorem bin_any {M : Nat → Prop} (o : Int) (a b : Ex) (ca cb : List Value) (w : World) (ha : EC M w a ca) (hb : EC M w b cb) (hM : ∀ k, w.heap.size ≤ k → ¬ M k) : Calls Tryz.prog 35 #[.int .i64 o, .agg ca.toArray, .agg cb.toArray] w (BinPost M o a b w) := by
  have HA := Lib.hid ha
  have HB := Lib.hid hb
  have HM := Lib.hid hM
  obtain ⟨va, vs, rfl, ha1, ha2⟩ := (EC_iff ..).1 ha
  obtain ⟨a1, a2, rfl, _⟩ := ha1.shape
  obtain ⟨a3, a4, rfl, _⟩ := ha2.shape
  obtain ⟨va, vs, rfl, hb1, hb2⟩ := (EC_iff ..).1 hb
  obtain ⟨b1, b2, rfl, _⟩ := hb1.shape
  obtain ⟨b3, b4, rfl, _⟩ := hb2.shape
  clear ha hb hM ha1 ha2 hb1 hb2
  simp only [exCells]
  go_enter Tryz.func35, Tryz.ntmps35
  go_wp2
  go_returns
  refine ⟨exCells 5 o false val0 es es (.slice (some ⟨w.heap.size + 1 + 1 + 1, 0, none⟩) 2 2) (.slice none 0 0), rfl, (EC_iff ..).2 ⟨_, _, rfl, ?_, RowsR.nil ..⟩, by go_grown⟩
  have k := ((((Keep.refl M w).alloc (.cells #[.int .i64 a.kind, .int .i64 a.op, .bool a.no, .int .i64 a.val.kind, .int .i64 a.val.int, .string a.val.text, .string a.table, .string a.name, .slice a1 a.args.length a2, .slice a3 a.sub.length a4] 30)).alloc
    (.cells #[.int .i64 b.kind, .int .i64 b.op, .bool b.no, .int .i64 b.val.kind, .int .i64 b.val.int, .string b.val.text, .string b.table, .string b.name, .slice b1 b.args.length b2, .slice b3 b.sub.length b4] 30)).alloc
    (.cells #[.int .i64 5, .int .i64 o, .bool false, .int .i64 0, .int .i64 0, .string ⟨#[]⟩, .string ⟨#[]⟩, .string ⟨#[]⟩, .slice (some ⟨w.heap.size + 1 + 1 + 1, 0, none⟩) 2 2, .slice none 0 0] 30)).alloc
    (.cells #[.int .i64 a.kind, .int .i64 a.op, .bool a.no, .int .i64 a.val.kind, .int .i64 a.val.int, .string a.val.text, .string a.table, .string a.name, .slice a1 a.args.length a2, .slice a3 a.sub.length a4, .int .i64 b.kind, .int .i64 b.op, .bool b.no, .int .i64 b.val.kind, .int .i64 b.val.int, .string b.val.text, .string b.table, .string b.name, .slice b1 b.args.length b2, .slice b3 b.sub.length b4] 30)
  exact rows_two (R := EC M _) a b _ _ (by simp) (HM.out _ (by simp; omega)) rfl rfl rfl (EC.keep k a _ HA.out) (EC.keep k b _ HB.out)

end Go.Proofs.YtkhlmofcdchccaaGreatDoor
