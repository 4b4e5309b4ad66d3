/- A contract of Expr of the tape; the frames that the statements make. -/
import Derived.Test.YtpnigfmclmfjaaaGreatDoorD9
namespace Go.Proofs.YtpnigfmclmfjaaaGreatDoor
open Go.RowKit

theorem expr_ok : ∀ n : Nat, n ≤ 50 → ExprOk n
  | 0, _ => fun T depth want fa ta fc tc look fs ss w hd hd0 hw0 hw3 ht hw hf hs hP => expr_any 0 T depth want fa ta fc tc look fs ss w (fun h => absurd h (by omega)) (by omega) hd hd0 hw0 hw3 ht hw hf hs hP
  | n + 1, h => fun T depth want fa ta fc tc look fs ss w hd hd0 hw0 hw3 ht hw hf hs hP => expr_any (n + 1) T depth want fa ta fc tc look fs ss w (fun _ => ⟨n, rfl, expr_ok n (by omega)⟩) h hd hd0 hw0 hw3 ht hw hf hs hP

def lookS (l : List UInt8) : List Col := if l = [108, 111, 103] then schLog.cols else if l = [117] then schU.cols else schT.cols

theorem look_one (l : List Col) (h : (l.zipIdx.all fun a => l.zipIdx.all fun b => decide (a.1.name.toList = b.1.name.toList → a.2 = b.2)) = true) : ∀ (i j : Nat) (a b : Col), l[i]? = some a → l[j]? = some b → a.name.toList = b.name.toList → i = j := by
  intro i j a b hi hj hn
  have h1 : (a, i) ∈ l.zipIdx := List.mem_zipIdx_iff_getElem?.2 hi
  have h2 : (b, j) ∈ l.zipIdx := List.mem_zipIdx_iff_getElem?.2 hj
  have := List.all_eq_true.1 (List.all_eq_true.1 h _ h1) _ h2
  simpa using of_decide_eq_true this hn

theorem look_diff (n : List UInt8) : ∀ (i j : Nat) (a b : Col), (lookS n)[i]? = some a → (lookS n)[j]? = some b → a.name.toList = b.name.toList → i = j := by
  unfold lookS
  split
  · exact look_one _ (by decide +kernel)
  · split
    · exact look_one _ (by decide +kernel)
    · exact look_one _ (by decide +kernel)

def frmFine (f : Frm) : Prop := f.cols = lookS f.name.toList ∧ f.name.toList ≠ [] ∧ f.cols.length ≤ 10 ∧ ∀ c ∈ f.cols, columnB f.name c.name = true
theorem source_schs : ∀ s ∈ schs3, sourceB s.name = true := by decide +kernel

theorem fine_schs : ∀ s ∈ schs3, s.cols = lookS s.name.toList ∧ s.name.toList ≠ [] ∧ s.cols.length ≤ 10 ∧ ∀ c ∈ s.cols, columnB s.name c.name = true := by
  intro s hs
  have n1 : schLog.name.toList = [108, 111, 103] := by decide +kernel
  have n2 : schT.name.toList = [116] := by decide +kernel
  have n3 : schU.name.toList = [117] := by decide +kernel
  simp only [schs3, List.mem_cons, List.not_mem_nil, or_false] at hs
  rcases hs with rfl | rfl | rfl
  · rw [n1]; exact ⟨rfl, by simp, by decide, by decide +kernel⟩
  · rw [n2]; exact ⟨rfl, by simp, by decide, by decide +kernel⟩
  · rw [n3]; exact ⟨rfl, by simp, by decide, by decide +kernel⟩

theorem fine_frames (r : Int) (b1 b2 : Bool) : ∀ f ∈ framesL r b1 b2, frmFine f := by
  have hn : frmFine (frmNew schT.cols) := by
    have : (frmNew schT.cols).name.toList = [78, 69, 87] := by decide +kernel
    exact ⟨by rw [this]; rfl, by rw [this]; simp, by decide, by decide +kernel⟩
  have ho : frmFine (frmOld schT.cols) := by
    have : (frmOld schT.cols).name.toList = [79, 76, 68] := by decide +kernel
    exact ⟨by rw [this]; rfl, by rw [this]; simp, by decide, by decide +kernel⟩
  have ht : frmFine (frmOf schT) := by
    have := fine_schs schT (by simp [schs3])
    exact this
  have hu : frmFine (frmOf schU) := by
    have := fine_schs schU (by simp [schs3])
    exact this
  have hb : ∀ f ∈ baseL r schT.cols, frmFine f := by
    intro f hf
    unfold baseL at hf
    split at hf
    · simp at hf; subst hf; exact hn
    · split at hf
      · simp at hf; rcases hf with rfl | rfl
        · exact ho
        · exact hn
      · simp at hf; subst hf; exact ho
  intro f hf
  unfold framesL at hf
  rcases List.mem_append.1 hf with hf | hf
  · cases b2 <;> simp at hf
    subst hf; exact ht
  · rcases List.mem_append.1 hf with hf | hf
    · exact hb f hf
    · cases b1 <;> simp at hf
      subst hf; exact hu

theorem place_frames (r : Int) (b1 b2 : Bool) (n : Nat) (hn : n ≤ 50) : PlaceP lookS (framesL r b1 b2) schs3 n := by
  have h := fine_frames r b1 b2
  have hl := framesL_length r b1 b2
  exact ⟨⟨fun f hf => ⟨(h f hf).1, (h f hf).2.1⟩, fun s hs => ⟨(fine_schs s hs).1, (fine_schs s hs).2.1⟩, look_diff⟩, by omega, fun f hf => (h f hf).2.2.1, fun s hs => (fine_schs s hs).2.2.1, by simp [schs3], by simp [schs3], fun f hf => (h f hf).2.2.2, fun s hs => ⟨source_schs s hs, (fine_schs s hs).2.2.2⟩⟩
theorem place_home (n : Nat) (hn : n ≤ 50) : PlaceP lookS [] schs3 n :=
  ⟨⟨fun f hf => by (cases hf), fun s hs => ⟨(fine_schs s hs).1, (fine_schs s hs).2.1⟩, look_diff⟩, by simp; omega, fun f hf => by (cases hf), fun s hs => (fine_schs s hs).2.2.1, by simp [schs3], by simp [schs3], fun f hf => by (cases hf), fun s hs => ⟨source_schs s hs, (fine_schs s hs).2.2.2⟩⟩
end Go.Proofs.YtpnigfmclmfjaaaGreatDoor
