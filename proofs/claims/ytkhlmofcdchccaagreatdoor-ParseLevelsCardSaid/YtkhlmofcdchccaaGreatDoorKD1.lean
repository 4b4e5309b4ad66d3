/- Blocks behind allocs, and behind tape calls. Values from the tape: contracts of Small, Number, Word and Typed. A place within a query: the contract of Inside. Transition tables without rows: contracts of the reference's copyRows, transition and Transitions. The tables of the statements on names and types: the contract of tables. -/
import Derived.Test.YtkhlmofcdchccaaGreatDoorKC4
import Derived.Test.YtkhlmofcdchccaaGreatDoorKC1
import Derived.Deep.DeepCutAuto
import Derived.Deep.RegionHeld3
namespace Go.Proofs.YtkhlmofcdchccaaGreatDoor
open Go.RowKit

theorem drew_below {B : Nat} {a w : World} (h : Below B a w) : Below B a w.drew := ⟨h.os, h.tape, h.output, h.size, h.block⟩

end Go.Proofs.YtkhlmofcdchccaaGreatDoor

namespace Go.Proofs.YtkhlmofcdchccaaGreatDoor
open Go.RowKit

def I64R (n : Int) : Prop := -9223372036854775808 ≤ n ∧ n ≤ 9223372036854775807

def NumberQ (v : Value) (_ : World) : Prop := ∃ n : Int, v = .int .i64 n ∧ I64R n
def WordQ (v : Value) (_ : World) : Prop := ∃ i : Nat, i < 6 ∧ v = .string (wordAt i)

set_option maxHeartbeats 400000 in
theorem word_any (T : Nat) (w : World) (ht : TapeOk T w) (hn : WordsOk T w) :
    Calls Tryz.prog 173 #[.pointer (some ⟨T, 0, none⟩)] w (Gives T w WordQ) := by
  have H := Lib.hid ht
  have HN := Lib.hid hn
  clear ht hn
  go_enter Tryz.func173, Tryz.ntmps173
  go_wp2_with fail
  refine (next_any T 6 w (by omega) (by omega) H.out).mono ?_
  rintro e w' ⟨v, rfl, ⟨r, rfl, hr0, hr1⟩, ht, hk⟩
  obtain ⟨i, rfl⟩ := Int.eq_ofNat_of_zero_le hr0
  have hi : i < 6 := by omega
  have hc := (HN.out.at hk).2 i hi
  have H2 := Lib.hid ht
  have H3 := Lib.hid hk
  clear ht hk
  go_wp2_with fail
  go_ret
  exact ⟨_, rfl, ⟨i, hi, rfl⟩, H2.out, H3.out⟩

theorem number_end {T : Nat} {w w' : World} {n : Int} (h : I64R n) (ht : TapeOk T w') (hk : Keep (At T) w w') : Gives T w NumberQ (.returned (.int .i64 n)) w' := ⟨_, rfl, ⟨_, rfl, h⟩, ht, hk⟩

set_option maxHeartbeats 400000 in
theorem number_any (T : Nat) (w : World) (ht : TapeOk T w) : Calls Tryz.prog 172 #[.pointer (some ⟨T, 0, none⟩)] w (Gives T w NumberQ) := by
  have H := Lib.hid ht
  have tok1 : Hid True := trivial
  clear ht
  go_enter Tryz.func172, Tryz.ntmps172
  go_wp2_with (first
    | (go_at_call 26; have _t := tok1; refine (next_any T 8 w (by omega) (by omega) H.out).mono ?_; rintro e w1 ⟨v, rfl, ⟨r, rfl, hr0, hr1⟩, ht, hk⟩; have H2 := Lib.hid ht; have H3 := Lib.hid hk; clear ht hk tok1)
    | (go_at_call 26; refine (next_any T _ w1 (by omega) (by omega) H2.out).mono ?_; rintro e w2 ⟨v, rfl, ⟨s, rfl, hs0, hs1⟩, ht, hk⟩; have H4 := Lib.hid ht; have H5 := Lib.hid (H3.out.trans hk); clear ht hk))
  all_goals go_ret
  all_goals exact number_end ⟨by omega, by omega⟩ H4.out H5.out

/-- A value as the statements make it: of its kind, nothing else set. -/
def ValidVal (v : Val) : Prop := (v.kind = 0 ∧ v.int = 0 ∧ v.text = ⟨#[]⟩) ∨ (v.kind = 1 ∧ I64R v.int ∧ v.text = ⟨#[]⟩) ∨ (v.kind = 2 ∧ 0 ≤ v.int ∧ v.int ≤ 1 ∧ v.text = ⟨#[]⟩) ∨ (v.kind = 3 ∧ v.int = 0 ∧ ∃ i : Nat, i < 6 ∧ v.text = wordAt i)

def TypedQ (k : Int) (v : Value) (_ : World) : Prop := ∃ x : Val, v = .agg #[.int .i64 x.kind, .int .i64 x.int, .string x.text] ∧ ValidVal x ∧ (x.kind = k ∨ (x.kind = 0 ∧ (k < 1 ∨ 3 < k)))

theorem typed_end {T : Nat} {w w' : World} (x : Val) (k : Int) (h : ValidVal x) (hk : x.kind = k ∨ (x.kind = 0 ∧ (k < 1 ∨ 3 < k))) (ht : TapeOk T w') (hb : Keep (At T) w w') : Gives T w (TypedQ k) (.returned (.agg #[.int .i64 x.kind, .int .i64 x.int, .string x.text])) w' := ⟨_, rfl, ⟨x, rfl, h, hk⟩, ht, hb⟩

theorem tape_set3 {T S : Nat} {w : World} {a b c : Value} (h : TapeOk T w) (hS : T < S) : TapeOk T (((w.setCell ⟨S, 0, none⟩ a).setCell ⟨S, 1, none⟩ b).setCell ⟨S, 2, none⟩ c) :=
  h.keep ((((Keep.refl (At S) w).setCell (p := ⟨S, 0, none⟩) (fun _ => rfl) _).setCell (p := ⟨S, 1, none⟩) (fun _ => rfl) _).setCell (p := ⟨S, 2, none⟩) (fun _ => rfl) _) fun k hk h => by unfold At at h; omega
theorem keep_set3 {T : Nat} {w0 w : World} {a b c : Value} (h : Keep (At T) w0 w) : Keep (At T) w0 (((w.setCell ⟨w0.heap.size, 0, none⟩ a).setCell ⟨w0.heap.size, 1, none⟩ b).setCell ⟨w0.heap.size, 2, none⟩ c) :=
  ((h.setCell (fun h => by simp at h) _).setCell (fun h => by simp at h) _).setCell (fun h => by simp at h) _

set_option maxHeartbeats 1000000 in
theorem typed_any (T : Nat) (k : Int) (w : World) (ht : TapeOk T w) (hn : WordsOk T w) : Calls Tryz.prog 115 #[.pointer (some ⟨T, 0, none⟩), .int .i64 k] w (Gives T w (TypedQ k)) := by
  have hT := ht.lt
  have hT2 : w.heap.size ≠ T := by omega
  have H := Lib.hid ht
  have HN := Lib.hid hn
  clear ht hn
  go_enter Tryz.func115, Tryz.ntmps115
  go_wp2_with (first
    | (go_at_call 172; refine (number_any T _ (H.out.alloc _)).mono ?_; rintro e w1 ⟨v, rfl, ⟨n, rfl, hn⟩, ht, hk⟩; obtain ⟨k1, k2⟩ := kcell hk; simp only [World.size_alloc] at k1 k2; have c0 : w1.cell? ⟨w.heap.size, 0, none⟩ = some (.int .i64 0) := (k1 _ _ (by omega) hT2).trans (by simp); have c1 : w1.cell? ⟨w.heap.size, 1, none⟩ = some (.int .i64 0) := (k1 _ _ (by omega) hT2).trans (by simp); have c2 : w1.cell? ⟨w.heap.size, 2, none⟩ = some (.string ⟨#[]⟩) := (k1 _ _ (by omega) hT2).trans (by simp); have k4 := hk.size; simp only [World.size_alloc] at k4; have H2 := Lib.hid ht; have H3 := Lib.hid (((Keep.refl (At T) w).alloc _).trans hk); have HI := Lib.hid hn; clear ht hk hn)
    | (go_at_call 26; refine (next_any T 2 _ (by omega) (by omega) (H.out.alloc _)).mono ?_; rintro e w1 ⟨v, rfl, ⟨n, rfl, hn0, hn1⟩, ht, hk⟩; obtain ⟨k1, k2⟩ := kcell hk; simp only [World.size_alloc] at k1 k2; have c0 : w1.cell? ⟨w.heap.size, 0, none⟩ = some (.int .i64 0) := (k1 _ _ (by omega) hT2).trans (by simp); have c1 : w1.cell? ⟨w.heap.size, 1, none⟩ = some (.int .i64 0) := (k1 _ _ (by omega) hT2).trans (by simp); have c2 : w1.cell? ⟨w.heap.size, 2, none⟩ = some (.string ⟨#[]⟩) := (k1 _ _ (by omega) hT2).trans (by simp); have k4 := hk.size; simp only [World.size_alloc] at k4; have H2 := Lib.hid ht; have H3 := Lib.hid (((Keep.refl (At T) w).alloc _).trans hk); clear ht hk)
    | (go_at_call 173; refine (word_any T _ (H.out.alloc _) (HN.out.at ((Keep.refl (At T) w).alloc _))).mono ?_; rintro e w1 ⟨v, rfl, ⟨i, hi, rfl⟩, ht, hk⟩; obtain ⟨k1, k2⟩ := kcell hk; simp only [World.size_alloc] at k1 k2; have c0 : w1.cell? ⟨w.heap.size, 0, none⟩ = some (.int .i64 0) := (k1 _ _ (by omega) hT2).trans (by simp); have c1 : w1.cell? ⟨w.heap.size, 1, none⟩ = some (.int .i64 0) := (k1 _ _ (by omega) hT2).trans (by simp); have c2 : w1.cell? ⟨w.heap.size, 2, none⟩ = some (.string ⟨#[]⟩) := (k1 _ _ (by omega) hT2).trans (by simp); have k4 := hk.size; simp only [World.size_alloc] at k4; have H2 := Lib.hid ht; have H3 := Lib.hid (((Keep.refl (At T) w).alloc _).trans hk); clear ht hk))
  · refine bodyPost_ret (v := .agg #[.int .i64 1, .int .i64 n, .string ⟨#[]⟩]) (by simp [results, Tryz.results115, go_sem, c0, c1, c2]) rfl (typed_end ⟨1, n, ⟨#[]⟩⟩ k (.inr (.inl ⟨rfl, HI.out, rfl⟩)) (.inl (by simp_all)) (tape_set3 H2.out hT) (keep_set3 H3.out))
  · refine bodyPost_ret (v := .agg #[.int .i64 2, .int .i64 n, .string ⟨#[]⟩]) (by simp [results, Tryz.results115, go_sem, c0, c1, c2]) rfl (typed_end ⟨2, n, ⟨#[]⟩⟩ k (.inr (.inr (.inl ⟨rfl, hn0, Int.le_of_lt_add_one hn1, rfl⟩))) (.inl (by simp_all)) (tape_set3 H2.out hT) (keep_set3 H3.out))
  · refine bodyPost_ret (v := .agg #[.int .i64 3, .int .i64 0, .string (wordAt i)]) (by simp [results, Tryz.results115, go_sem, c0, c1, c2]) rfl (typed_end ⟨3, 0, wordAt i⟩ k (.inr (.inr (.inr ⟨rfl, rfl, i, hi, rfl⟩))) (.inl (by simp_all)) (tape_set3 H2.out hT) (keep_set3 H3.out))
  · rename_i g1 g2 g3
    have hk : k < 1 ∨ 3 < k := by simp at g1 g2 g3; omega
    clear g1 g2 g3
    refine bodyPost_ret (v := .agg #[.int .i64 0, .int .i64 0, .string ⟨#[]⟩]) (by simp [results, Tryz.results115, go_sem]) rfl (typed_end ⟨0, 0, ⟨#[]⟩⟩ k (.inl ⟨rfl, rfl, rfl⟩) (.inr ⟨rfl, hk⟩) (H.out.alloc _) ((Keep.refl (At T) w).alloc _))

end Go.Proofs.YtkhlmofcdchccaaGreatDoor

namespace Go.Proofs.YtkhlmofcdchccaaGreatDoor
open Go.RowKit

end Go.Proofs.YtkhlmofcdchccaaGreatDoor

namespace Go.Proofs.YtkhlmofcdchccaaGreatDoor
open Go.RowKit

end Go.Proofs.YtkhlmofcdchccaaGreatDoor

namespace Go.Proofs.YtkhlmofcdchccaaGreatDoor
open Go.RowKit

end Go.Proofs.YtkhlmofcdchccaaGreatDoor
