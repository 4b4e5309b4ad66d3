/- The walk of ScopeMakes. -/
import Derived.Test.YtiheioajnfggmaaDoorD9
import Derived.Test.YtiheioajnfggmaaDoorC21
namespace Go.Proofs.YtiheioajnfggmaaDoor
open Go.RowKit

theorem expr_ok : ∀ n : Nat, n ≤ 50 → ExprOk n
  | 0, _ => fun T depth want fa ta fc tc look fs ss w hd hd0 hw0 hw3 ht hw hf hs hP => expr_any 0 T depth want fa ta fc tc look fs ss w (fun h => absurd h (by omega)) (by omega) hd hd0 hw0 hw3 ht hw hf hs hP
  | n + 1, h => fun T depth want fa ta fc tc look fs ss w hd hd0 hw0 hw3 ht hw hf hs hP => expr_any (n + 1) T depth want fa ta fc tc look fs ss w (fun _ => ⟨n, rfl, expr_ok n (by omega)⟩) h hd hd0 hw0 hw3 ht hw hf hs hP

def lookS (l : List UInt8) : List Col := if l = [108, 111, 103] then schLog.cols else if l = [117] then schU.cols else schT.cols

theorem look_one (l : List Col) (h : (l.zipIdx.all fun a => l.zipIdx.all fun b => decide (a.1.name.toList = b.1.name.toList → a.2 = b.2)) = true) : ∀ (i j : Nat) (a b : Col), l[i]? = some a → l[j]? = some b → a.name.toList = b.name.toList → i = j := by
  intro i j a b hi hj hn
  have h1 : (a, i) ∈ l.zipIdx := List.mem_zipIdx_iff_getElem?.2 hi
  have h2 : (b, j) ∈ l.zipIdx := List.mem_zipIdx_iff_getElem?.2 hj
  have := List.all_eq_true.1 (List.all_eq_true.1 h _ h1) _ h2
  simpa using of_decide_eq_true this hn

theorem look_diff (n : List UInt8) : ∀ (i j : Nat) (a b : Col), (lookS n)[i]? = some a → (lookS n)[j]? = some b → a.name.toList = b.name.toList → i = j := by
  unfold lookS
  split
  · exact look_one _ (by decide +kernel)
  · split
    · exact look_one _ (by decide +kernel)
    · exact look_one _ (by decide +kernel)

def frmFine (f : Frm) : Prop := f.cols = lookS f.name.toList ∧ f.name.toList ≠ [] ∧ f.cols.length ≤ 10

theorem fine_schs : ∀ s ∈ schs3, s.cols = lookS s.name.toList ∧ s.name.toList ≠ [] ∧ s.cols.length ≤ 10 := by
  intro s hs
  have n1 : schLog.name.toList = [108, 111, 103] := by decide +kernel
  have n2 : schT.name.toList = [116] := by decide +kernel
  have n3 : schU.name.toList = [117] := by decide +kernel
  simp only [schs3, List.mem_cons, List.not_mem_nil, or_false] at hs
  rcases hs with rfl | rfl | rfl
  · rw [n1]; exact ⟨rfl, by simp, by decide⟩
  · rw [n2]; exact ⟨rfl, by simp, by decide⟩
  · rw [n3]; exact ⟨rfl, by simp, by decide⟩

theorem fine_frames (r : Int) (b1 b2 : Bool) : ∀ f ∈ framesL r b1 b2, frmFine f := by
  have hn : frmFine (frmNew schT.cols) := by
    have : (frmNew schT.cols).name.toList = [78, 69, 87] := by decide +kernel
    exact ⟨by rw [this]; rfl, by rw [this]; simp, by decide⟩
  have ho : frmFine (frmOld schT.cols) := by
    have : (frmOld schT.cols).name.toList = [79, 76, 68] := by decide +kernel
    exact ⟨by rw [this]; rfl, by rw [this]; simp, by decide⟩
  have ht : frmFine (frmOf schT) := by
    have := fine_schs schT (by simp [schs3])
    exact this
  have hu : frmFine (frmOf schU) := by
    have := fine_schs schU (by simp [schs3])
    exact this
  have hb : ∀ f ∈ baseL r schT.cols, frmFine f := by
    intro f hf
    unfold baseL at hf
    split at hf
    · simp at hf; subst hf; exact hn
    · split at hf
      · simp at hf; rcases hf with rfl | rfl
        · exact ho
        · exact hn
      · simp at hf; subst hf; exact ho
  intro f hf
  unfold framesL at hf
  rcases List.mem_append.1 hf with hf | hf
  · cases b2 <;> simp at hf
    subst hf; exact ht
  · rcases List.mem_append.1 hf with hf | hf
    · exact hb f hf
    · cases b1 <;> simp at hf
      subst hf; exact hu

theorem place_frames (r : Int) (b1 b2 : Bool) (n : Nat) (hn : n ≤ 50) : PlaceP lookS (framesL r b1 b2) schs3 n := by
  have h := fine_frames r b1 b2
  have hl := framesL_length r b1 b2
  exact ⟨⟨fun f hf => ⟨(h f hf).1, (h f hf).2.1⟩, fun s hs => ⟨(fine_schs s hs).1, (fine_schs s hs).2.1⟩, look_diff⟩, by omega, fun f hf => (h f hf).2.2, fun s hs => (fine_schs s hs).2.2, by simp [schs3], by simp [schs3], framesL_ne r b1 b2⟩

set_option maxHeartbeats 400000 in
theorem assign_any (a b : Int) (h : b = 0 ∨ b = a) (w : World) : Calls Tryd.prog 25 #[.int .i64 a, .int .i64 b] w fun e w' => e = .returned (.bool true) ∧ w = w' := by
  rcases h with rfl | rfl
  · go_enter Tryd.func25, Tryd.ntmps25
    go_wp2_with fail
    go_ret
    exact ⟨rfl, rfl⟩
  · by_cases h0 : b = 0
    · subst h0
      go_enter Tryd.func25, Tryd.ntmps25
      go_wp2_with fail
      go_ret
      exact ⟨rfl, rfl⟩
    · have h0' : (b == 0) = false := by simpa using h0
      clear h0
      go_enter Tryd.func25, Tryd.ntmps25
      go_wp2_with fail
      go_ret
      exact ⟨by simp, rfl⟩

theorem type_made {l : List Sch} {x : Ex} {L : List Frm} {want : Int} {n : Nat} {cs : List Value} {vf vt : Value} {w : World} (hl : TsOk l) (hx : EC NoM w x cs) (hf : FrmsR NoM w vf L) (ht : TblsR NoM w vt l) (hL : L.length ≤ 100) (hn : n ≤ 50) (hm : Mk schs3 L want n x) :
    ∃ t : Int, (t = 0 ∨ t = want) ∧ Calls Tryd.prog 22 #[.agg cs.toArray, vf, vt] w (RetBel (.tuple #[.int .i64 t, .int .i64 0]) w) := by
  have h := type_any l (tsOk_small hl) x L cs vf vt w hx hf ht (by have := hm.1; omega)
  have hmd := hm.2 l fun s hs => tsOk_source hl hs
  refine ⟨(typeP l x L).1, hmd.2, ?_⟩
  have h0 := hmd.1
  refine h.mono fun e w' hh => ?_
  unfold RetII at hh
  rw [h0] at hh
  exact hh

set_option maxRecDepth 100000 in
set_option maxHeartbeats 4000000 in
theorem makes_any (v : Value) (w : World) (hv : IntsAt w v) (hn : WordsOk w.heap.size w) : Calls Tryd.prog 4 #[v] w (RetBel (.bool true) w) := by
  have HV := Lib.hid hv
  have HN := Lib.hid hn
  clear hv hn
  go_enter Tryd.func4, Tryd.ntmps4
  go_wp2_with (first
    | (go_at_call 14; go_loud (refine (new_any v w HV.out).mono ?_; rintro e w1 ⟨rfl, ht, hb⟩; have h1 := ht.lt; have HT1 := Lib.hid ht; have HB1 := Lib.hid hb; have HN1 := Lib.hid (HN.out.keep (M := fun _ => False) (.bel hb) fun _ _ => id); clear ht hb))
    | (go_at_call 15; go_loud (refine (frames_any w.heap.size w1 HT1.out).mono ?_; rintro e w2 ⟨v2, rfl, ⟨r, b1, b2, hr0, hr1, hf⟩, ht, hk⟩; have h2 := hk.size; have HT2 := Lib.hid ht; have HN2 := Lib.hid (HN1.out.at hk); have HB2 := Lib.hid (tape_below HB1.out (Nat.le_of_lt h1) hk); have HPL := Lib.hid (place_frames r b1 b2 4 (by omega)); generalize framesL r b1 b2 = L at hf HPL; obtain ⟨a2, c2, rfl, _⟩ := hf.shape; have HF2 := Lib.hid (hf.weak (M' := At w.heap.size) fun k hk h => by unfold At at h; unfold Out; omega); clear ht hk hf hr0 hr1))
    | (go_at_call 20; go_loud (refine (tables_any w.heap.size w2 HT2.out).mono ?_; rintro e w3 ⟨v3, rfl, ⟨l, hl, htb⟩, ht, hk⟩; have h3 := hk.size; have HT3 := Lib.hid ht; have HN3 := Lib.hid (HN2.out.at hk); have HB3 := Lib.hid (tape_below HB2.out (by omega) hk); have HF3 := Lib.hid (HF2.out.keep hk); have HL := Lib.hid hl; obtain ⟨a3, c3, rfl, _⟩ := htb.shape; have HTB3 := Lib.hid (htb.weak (M' := At w.heap.size) fun k hk h => by unfold At at h; unfold Out; omega); clear ht hk htb hl))
    | (go_at_call 21; go_loud (refine (next_any w.heap.size 3 _ (by omega) (by omega) HT3.out).mono ?_; rintro e w4 ⟨v, rfl, ⟨q, rfl, hq0, hq1⟩, ht, hk⟩; have h4 := hk.size; have HT4 := Lib.hid ht; have HN4 := Lib.hid (HN3.out.at hk); have HB4 := Lib.hid (tape_below HB3.out (by omega) hk); have HF4 := Lib.hid (HF3.out.keep hk); have HTB4 := Lib.hid (HTB3.out.keep hk); clear ht hk))
    | (go_at_call 24; go_loud (refine (schemas_any _).mono ?_; rintro e w5 ⟨v5, rfl, hs, hb⟩; have h5 := hb.size; obtain ⟨a5, c5, rfl, _⟩ := hs.shape; have HT5 := Lib.hid (HT4.out.bel hb); have HN5 := Lib.hid (HN4.out.at (.bel hb)); have HB5 := Lib.hid (HB4.out.trans (hb.mono (by omega))); have HF5 := Lib.hid (HF4.out.keep (.bel hb)); have HTB5 := Lib.hid (HTB4.out.keep (.bel hb)); have HS5 := Lib.hid (hs.weak (M' := At w.heap.size) fun k hk h => by unfold At at h; unfold Out; omega); clear hs hb))
    | (go_at_call 23; go_loud (refine (expr_ok 4 (by omega) w.heap.size 4 (1 + q) a2 a5 c2 c5 lookS L schs3 _ (by omega) (by omega) (by omega) (by omega) HT5.out HN5.out HF5.out HS5.out HPL.out).mono ?_; rintro e w6 ⟨v6, rfl, ⟨x, hx, hmk⟩, ht, hk⟩; have h6 := hk.size; have HB6 := Lib.hid (tape_below HB5.out (by omega) hk); have HF6 := Lib.hid ((HF5.out.keep hk).weak (M' := NoM) fun _ _ h => h.elim); have HTB6 := Lib.hid ((HTB5.out.keep hk).weak (M' := NoM) fun _ _ h => h.elim); obtain ⟨cs, rfl, hec⟩ := hx.ec; obtain ⟨t, ht0, hty⟩ := type_made HL.out (EC.weak (M' := NoM) (fun _ _ h => h.elim) x _ hec) HF6.out HTB6.out (by have := HPL.out.2.1; omega) (by omega) hmk; have HTY := Lib.hid hty; have HAS := Lib.hid ht0; clear hx hmk hec hty ht0 ht hk))
    | (go_at_call 22; go_loud (refine HTY.out.mono ?_; rintro e w7 ⟨rfl, hb⟩; have HB7 := Lib.hid (HB6.out.trans (hb.mono (by have := HB6.out.size; omega))); clear hb))
    | (go_at_call 25; go_loud (refine (assign_any _ _ HAS.out _).mono ?_; rintro e w8 ⟨rfl, rfl⟩))
    | (go_at_call 19; go_loud (refine (known14_any _).mono ?_; rintro e w9 ⟨rfl, hb⟩; have HB9 := Lib.hid (HB7.out.trans (hb.mono (by have := HB7.out.size; omega))); clear hb)))
  go_goals
  go_ret
  exact ⟨rfl, HB9.out⟩

end Go.Proofs.YtiheioajnfggmaaDoor
