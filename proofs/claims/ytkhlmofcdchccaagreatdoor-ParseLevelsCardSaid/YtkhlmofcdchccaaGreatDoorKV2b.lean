/- Values from the tape: the contract of Value. -/
import Derived.Test.YtkhlmofcdchccaaGreatDoorKV2
import Derived.Test.YtkhlmofcdchccaaGreatDoorKD1
import Derived.Deep.DeepCutAuto
import Derived.Deep.RegionHeld3
import Derived.Maps.RangeWalk
namespace Go.Proofs.YtkhlmofcdchccaaGreatDoor
open Go.RowKit

def ValQ (v : Value) (_ : World) : Prop := ∃ x : Val, v = valOf x ∧ ValidVal x
def OddQ (v : Value) (_ : World) : Prop := ∃ x : Val, v = valOf x ∧ ValOk x

theorem word_size (i : Nat) (hi : i < 6) : (wordAt i).size ≤ 4 := by
  have : ∀ i, i < 6 → (wordAt i).size ≤ 4 := by decide +kernel
  exact this i hi

theorem validVal_ok {x : Val} (h : ValidVal x) : ValOk x ∧ x.text.size ≤ 4 := by
  unfold ValidVal I64R at h
  have ht : x.text.size ≤ 4 := by
    rcases h with ⟨_, _, h⟩ | ⟨_, _, h⟩ | ⟨_, _, _, h⟩ | ⟨_, _, i, hi, h⟩
    · rw [h]; decide
    · rw [h]; decide
    · rw [h]; decide
    · rw [h]; exact word_size i hi
  unfold ValOk maxLen
  refine ⟨⟨by omega, ?_, ?_, ?_, ?_⟩, ht⟩ <;> rcases h with h | h | h | h <;> omega

set_option maxHeartbeats 1000000 in
theorem value_any (T : Nat) (w : World) (ht : TapeOk T w) (hn : WordsOk T w) : Calls Tryz.prog 68 #[.pointer (some ⟨T, 0, none⟩)] w (Gives T w ValQ) := by
  have hT := ht.lt
  have hT2 : w.heap.size ≠ T := by omega
  have H := Lib.hid ht
  have HN := Lib.hid hn
  clear ht hn
  go_enter Tryz.func68, Tryz.ntmps68
  go_wp2_with fail
  refine (next_any T 4 _ (by omega) (by omega) (H.out.alloc _)).mono ?_
  rintro e w1 ⟨v, rfl, ⟨r, rfl, hr0, hr1⟩, ht, hk⟩
  have H2 := Lib.hid ht
  have H3 := Lib.hid (((Keep.refl (At T) w).alloc _).trans hk)
  have HN2 := Lib.hid (HN.out.at H3.out)
  obtain ⟨k1, k2⟩ := kcell hk
  simp only [World.size_alloc] at k1 k2
  have k4 := hk.size
  simp only [World.size_alloc] at k4
  have c0 : Hid (w1.cell? ⟨w.heap.size, 0, none⟩ = some (.int .i64 0)) := Lib.hid ((k1 _ _ (by omega) hT2).trans (by simp))
  have c1 : Hid (w1.cell? ⟨w.heap.size, 1, none⟩ = some (.int .i64 0)) := Lib.hid ((k1 _ _ (by omega) hT2).trans (by simp))
  have c2 : Hid (w1.cell? ⟨w.heap.size, 2, none⟩ = some (.string ⟨#[]⟩)) := Lib.hid ((k1 _ _ (by omega) hT2).trans (by simp))
  have cf : Hid (∀ i, w1.frozen? ⟨w.heap.size, i, none⟩ = false) := Lib.hid fun i => (k2 _ _ (by omega) hT2).trans (by simp)
  clear ht hk k1 k2
  dsimp only
  go_wp2_with fail
  refine (typed_any T r w1 H2.out HN2.out).mono ?_
  rintro e w2 ⟨v, rfl, ⟨x, rfl, hx, _⟩, ht, hk⟩
  have k5 := hk.size
  have d0 := kcell1 hk c0.out hT2
  have d1 := kcell1 hk c1.out hT2
  have d2 := kcell1 hk c2.out hT2
  have df := fun i => ((kcell hk).2 w.heap.size i (by omega) hT2).trans (cf.out i)
  have H4 := Lib.hid ht
  have H5 := Lib.hid (H3.out.trans hk)
  have HX := Lib.hid hx
  clear ht hk hx
  dsimp only
  go_wp2_with fail
  refine bodyPost_ret (v := valOf x) (by simp [valOf, results, Tryz.results68, go_sem, d0, d1, d2]) rfl ⟨_, rfl, ⟨x, rfl, HX.out⟩, tape_set3 H4.out hT, keep_set3 H5.out⟩

theorem blk3 {w : World} {S : Nat} {a b c : Value} {e : TypeId} (h : w.heap[S]? = some (.cells #[a, b, c] e (0, 0))) : w.cell? ⟨S, 0, none⟩ = some a ∧ w.cell? ⟨S, 1, none⟩ = some b ∧ w.cell? ⟨S, 2, none⟩ = some c ∧ (∀ i, w.frozen? ⟨S, i, none⟩ = false) ∧ S < w.heap.size :=
  ⟨by simp [World.cell?, h], by simp [World.cell?, h], by simp [World.cell?, h], fun i => by simp [World.frozen?, h], (Array.getElem?_eq_some_iff.1 h).1⟩

end Go.Proofs.YtkhlmofcdchccaaGreatDoor
