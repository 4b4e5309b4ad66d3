/- Conditions and expressions with a query, over a contract of Type: contracts of scope.Condition and scope.aggregate. -/
import Derived.Test.YtiheioajnfggmaaDoorC8
namespace Go.Proofs.YtiheioajnfggmaaDoor
open Go.RowKit

theorem CellsAt.c10 {w : World} {b o : Nat} {a0 a1 a2 a3 a4 a5 a6 a7 a8 a9 : Value} (h : CellsAt w b o [a0, a1, a2, a3, a4, a5, a6, a7, a8, a9]) :
    w.cell? ⟨b, o, none⟩ = some a0 ∧ w.cell? ⟨b, o + 1, none⟩ = some a1 ∧ w.cell? ⟨b, o + 2, none⟩ = some a2 ∧ w.cell? ⟨b, o + 3, none⟩ = some a3 ∧ w.cell? ⟨b, o + 4, none⟩ = some a4 ∧
    w.cell? ⟨b, o + 5, none⟩ = some a5 ∧ w.cell? ⟨b, o + 6, none⟩ = some a6 ∧ w.cell? ⟨b, o + 7, none⟩ = some a7 ∧ w.cell? ⟨b, o + 8, none⟩ = some a8 ∧ w.cell? ⟨b, o + 9, none⟩ = some a9 :=
  ⟨h 0 _ rfl, h 1 _ rfl, h 2 _ rfl, h 3 _ rfl, h 4 _ rfl, h 5 _ rfl, h 6 _ rfl, h 7 _ rfl, h 8 _ rfl, h 9 _ rfl⟩

def ColsSmall (ts : List Sch) : Prop := ∀ s ∈ ts, s.cols.length * 32 ≤ 140737488355328

/-- What Type does at e, wherever it lies. -/
def TypeOk (ts : List Sch) (e : Ex) : Prop := ∀ (fs : List Frm) (cs : List Value) (vf vt : Value) (w : World), EC NoM w e cs → FrmsR NoM w vf fs → TblsR NoM w vt ts → fs.length + dep e ≤ 1000000000 →
  Calls Tryd.prog 22 #[.agg cs.toArray, vf, vt] w (RetII (typeP ts e fs) w)

set_option maxHeartbeats 1000000 in
theorem condition_any (ts : List Sch) (l : List Ex) (fs : List Frm) (vl vf vt : Value) (w : World) (ht : ∀ e ∈ l, TypeOk ts e) (hl : ExsR NoM w vl l) (hf : FrmsR NoM w vf fs) (hts : TblsR NoM w vt ts) (hd : fs.length + depL l ≤ 1000000000) :
    Calls Tryd.prog 97 #[vl, vf, vt] w (RetBel (.int .i64 (typeC ts l fs)) w) := by
  cases l with
  | nil =>
    obtain ⟨a, cap, rfl, hm⟩ := hl.shape
    clear ht hl hf hts hd
    go_enter Tryd.func97, Tryd.ntmps97
    go_wp2_with fail
    go_ret
    exact ⟨by rw [typeC]; rfl, Below.refl _ _⟩
  | cons e l =>
    rcases hl.open with ⟨_, h⟩ | ⟨b, o, cap, rfl, _, hb, _, hm, hx⟩
    · cases h
    obtain ⟨cs, hc, _, hcs⟩ := hx 0 e rfl
    have hdep : fs.length + dep e ≤ 1000000000 := by rw [depL] at hd; omega
    have hty := ht e (List.mem_cons_self ..) fs cs vf vt w hc hf hts hdep
    obtain ⟨va, vs, rfl, ha, hs⟩ := (EC_iff ..).1 hc
    obtain ⟨a, ac, rfl, _⟩ := ha.shape
    obtain ⟨s, sc, rfl, _⟩ := hs.shape
    rw [Nat.zero_mul, Nat.add_zero] at hcs
    obtain ⟨c0, c1, c2, c3, c4, c5, c6, c7, c8, c9⟩ := CellsAt.c10 hcs
    have hr : typeC ts (e :: l) fs = condP (typeP ts e fs) := by rw [typeC]
    rw [hr]
    generalize typeP ts e fs = r at hty
    obtain ⟨t, c⟩ := r
    simp only [exCells] at hty
    have HT := Lib.hid hty
    clear hty hx hc ha hs hcs hl hf hts hd hdep ht hr
    have hlen : 0 < (e :: l).length := by simp
    generalize (e :: l).length = n at hlen
    have hn0 : ((n : Int) == 0) = false := by simp; omega
    by_cases h0 : c = 0
    · subst h0
      cases hfit : fitsB t 2 with
      | true =>
        have hfc := fun w => fits_any t 2 w
        rw [hfit] at hfc
        have HR : Hid (condP (t, 0) = 0) := Lib.hid (by simp [condP, hfit])
        have HFC := Lib.hid hfc
        clear hfc hfit
        go_enter Tryd.func97, Tryd.ntmps97
        go_wp2_with (first | (go_at_call 22; refine HT.out.mono ?_; rintro e w1 ⟨rfl, hb1⟩; have HB := Lib.hid hb1; clear hb1) | (go_at_call 112; refine (HFC.out _).mono ?_; rintro e w2 ⟨rfl, rfl⟩))
        go_ret
        exact ⟨by rw [HR.out]; rfl, HB.out⟩
      | false =>
        have hfc := fun w => fits_any t 2 w
        rw [hfit] at hfc
        have HR : Hid (condP (t, 0) = 5) := Lib.hid (by simp [condP, hfit])
        have HFC := Lib.hid hfc
        clear hfc hfit
        go_enter Tryd.func97, Tryd.ntmps97
        go_wp2_with (first | (go_at_call 22; refine HT.out.mono ?_; rintro e w1 ⟨rfl, hb1⟩; have HB := Lib.hid hb1; clear hb1) | (go_at_call 112; refine (HFC.out _).mono ?_; rintro e w2 ⟨rfl, rfl⟩))
        go_ret
        exact ⟨by rw [HR.out]; rfl, HB.out⟩
    · have HR : Hid (condP (t, c) = c) := Lib.hid (by simp [condP, h0])
      have hc0 : (c == 0) = false := by simpa using h0
      clear h0
      go_enter Tryd.func97, Tryd.ntmps97
      go_wp2_with (go_at_call 22; refine HT.out.mono ?_; rintro e w1 ⟨rfl, hb1⟩; have HB := Lib.hid hb1; clear hb1)
      go_ret
      exact ⟨by rw [HR.out]; rfl, HB.out⟩

end Go.Proofs.YtiheioajnfggmaaDoor
