/- Types in the reference: contracts of its Condition, typeOfQuery and Type, for every expression. -/
import Derived.Test.YtppiaaolggpjdaaDoorZ2
import Derived.Test.YtppiaaolggpjdaaDoorS3
namespace Go.Proofs.YtppiaaolggpjdaaDoor
open Go.RowKit

theorem rfits_f (t w0 : Int) (h : w0 ≠ 0) (w : World) : Calls Tryd.prog 125 #[.int .i64 t, .int .i64 w0] w fun e w' => e = .returned (.bool (fitsB t w0)) ∧ w = w' := assign_fits h ▸ rfits_any w0 t w
theorem rsource_none (vt : Value) (l : List Sch) (n : ByteArray) (w : World) (ht : TblsR NoM w vt l) (hsm : ColsSmall l) (hn : findTbl l n = none) : Calls Tryd.prog 122 #[vt, .string n] w (SrcPost none w) := by
  have h := rsource_any vt l n w ht hsm
  rw [sourceP_eq, hn] at h
  exact h
theorem rsource_some (vt : Value) (l : List Sch) (n : ByteArray) (w : World) (i : Nat) (s : Sch) (ht : TblsR NoM w vt l) (hsm : ColsSmall l) (hn : findTbl l n = some i) (hs : l[i]? = some s) : Calls Tryd.prog 122 #[vt, .string n] w (SrcPost (some s) w) := by
  have h := rsource_any vt l n w ht hsm
  rw [sourceP_eq, hn] at h
  simp only [hs] at h
  exact h

theorem subShape_eq (k : Int) (m : Nat) (sub : List Qu) (h : (if k = 8 ∨ k = 9 then 0 else 1) = m) : subShape k sub = subOk m sub := by
  rcases sub with _ | ⟨q, _ | ⟨q2, l⟩⟩
  · rfl
  · show (decide (q.items.length = if k = 8 ∨ k = 9 then 0 else 1) && _) = (q.items.length == m && _)
    rw [h]
    rfl
  · rfl
theorem shape_formed (e : Ex) : shapeP e.kind e.op e.args.length e.sub = formed e := by
  have hn : ∀ n m : Nat, decide (n = m) = (n == m) := fun _ _ => rfl
  unfold shapeP formed
  by_cases h1 : e.kind = 1 ∨ e.kind = 2
  · rw [if_pos h1, if_pos h1]; rfl
  rw [if_neg h1, if_neg h1]
  by_cases h3 : e.kind = 3 ∨ e.kind = 4 ∨ e.kind = 6
  · rw [if_pos h3, if_pos h3]; rfl
  rw [if_neg h3, if_neg h3]
  by_cases h5 : e.kind = 5
  · rw [if_pos h5, if_pos h5]; rfl
  rw [if_neg h5, if_neg h5]
  by_cases h7 : e.kind = 7
  · rw [if_pos h7, if_pos h7]; rfl
  rw [if_neg h7, if_neg h7]
  by_cases h8 : e.kind = 8 ∨ e.kind = 9
  · rw [if_pos (by omega), if_pos h8, subShape_eq e.kind 0 e.sub (if_pos h8)]; rfl
  rw [if_neg h8]
  by_cases h10 : e.kind = 10 ∨ e.kind = 11 ∨ e.kind = 12
  · rw [if_pos (by omega), if_pos h10, subShape_eq e.kind 1 e.sub (if_neg h8)]; rfl
  · rw [if_neg (by omega), if_neg h10]
theorem formed_one {e : Ex} (h : formed e = true) (hk : 8 ≤ e.kind) : e.sub.length = 1 := by
  obtain ⟨q, hq, _⟩ := formed_sub h hk
  rw [hq]
  rfl
theorem formed_none {e : Ex} (h : formed e = true) (hk : e.kind ≤ 7) : e.sub.length = 0 := by
  unfold formed at h
  by_cases h1 : e.kind = 1 ∨ e.kind = 2
  · rw [if_pos h1] at h
    simp only [Bool.and_eq_true, beq_iff_eq] at h
    exact h.2
  rw [if_neg h1] at h
  by_cases h3 : e.kind = 3 ∨ e.kind = 4 ∨ e.kind = 6
  · rw [if_pos h3] at h
    simp only [Bool.and_eq_true, beq_iff_eq] at h
    exact h.2
  rw [if_neg h3] at h
  by_cases h5 : e.kind = 5
  · rw [if_pos h5] at h
    simp only [Bool.and_eq_true, beq_iff_eq] at h
    exact h.2
  rw [if_neg h5] at h
  by_cases h7 : e.kind = 7
  · rw [if_pos h7] at h
    simp only [Bool.and_eq_true, beq_iff_eq] at h
    exact h.2
  rw [if_neg h7, if_neg (by omega), if_neg (by omega)] at h
  cases h

/-- What Type does at e, wherever it lies. -/
def RTypeOk (ts : List Sch) (e : Ex) : Prop := ∀ (fs : List Frm) (cs : List Value) (vf vt : Value) (w : World), EC NoM w e cs → FrmsR NoM w vf fs → TblsR NoM w vt ts → fs.length + dep e ≤ 1000000000 →
  Calls Tryd.prog 76 #[.agg cs.toArray, vf, vt] w (RetII (typeP ts e fs) w)

set_option maxHeartbeats 1000000 in
theorem rcondition_any (ts : List Sch) (l : List Ex) (fs : List Frm) (vl vf vt : Value) (w : World) (ht : ∀ e ∈ l, RTypeOk ts e) (hl : ExsR NoM w vl l) (hf : FrmsR NoM w vf fs) (hts : TblsR NoM w vt ts) (hd : fs.length + depL l ≤ 1000000000) :
    Calls Tryd.prog 81 #[vl, vf, vt] w (RetBel (.int .i64 (typeC ts l fs)) w) := by
  cases l with
  | nil =>
    obtain ⟨a, cap, rfl, hm⟩ := hl.shape
    clear ht hl hf hts hd
    go_enter Tryd.func81, Tryd.ntmps81
    go_wp2_with fail
    go_ret
    exact ⟨by rw [typeC]; rfl, Below.refl _ _⟩
  | cons e l =>
    rcases hl.open with ⟨_, h⟩ | ⟨b, o, cap, rfl, _, hb, _, hm, hx⟩
    · cases h
    obtain ⟨cs, hc, _, hcs⟩ := hx 0 e rfl
    have hdep : fs.length + dep e ≤ 1000000000 := by rw [depL] at hd; omega
    have hty := ht e (List.mem_cons_self ..) fs cs vf vt w hc hf hts hdep
    obtain ⟨va, vs, rfl, ha, hs⟩ := (EC_iff ..).1 hc
    obtain ⟨a, ac, rfl, _⟩ := ha.shape
    obtain ⟨s, sc, rfl, _⟩ := hs.shape
    rw [Nat.zero_mul, Nat.add_zero] at hcs
    obtain ⟨c0, c1, c2, c3, c4, c5, c6, c7, c8, c9⟩ := CellsAt.c10 hcs
    have hr : typeC ts (e :: l) fs = condP (typeP ts e fs) := by rw [typeC]
    rw [hr]
    generalize typeP ts e fs = r at hty
    obtain ⟨t, c⟩ := r
    simp only [exCells] at hty
    have HT := Lib.hid hty
    clear hty hx hc ha hs hcs hl hf hts hd hdep ht hr
    have hlen : 0 < (e :: l).length := by simp
    generalize (e :: l).length = n at hlen
    have hn0 : ((n : Int) == 0) = false := by simp; omega
    by_cases h0 : c = 0
    · subst h0
      cases hfit : fitsB t 2 with
      | true =>
        have hfc := fun w => rfits_f t 2 (by decide) w
        rw [hfit] at hfc
        have HR : Hid (condP (t, 0) = 0) := Lib.hid (by simp [condP, hfit])
        have HFC := Lib.hid hfc
        clear hfc hfit
        go_enter Tryd.func81, Tryd.ntmps81
        go_wp2_with (first | (go_at_call 76; refine HT.out.mono ?_; rintro e w1 ⟨rfl, hb1⟩; have HB := Lib.hid hb1; clear hb1) | (go_at_call 125; refine (HFC.out _).mono ?_; rintro e w2 ⟨rfl, rfl⟩))
        go_ret
        exact ⟨by rw [HR.out]; rfl, HB.out⟩
      | false =>
        have hfc := fun w => rfits_f t 2 (by decide) w
        rw [hfit] at hfc
        have HR : Hid (condP (t, 0) = 5) := Lib.hid (by simp [condP, hfit])
        have HFC := Lib.hid hfc
        clear hfc hfit
        go_enter Tryd.func81, Tryd.ntmps81
        go_wp2_with (first | (go_at_call 76; refine HT.out.mono ?_; rintro e w1 ⟨rfl, hb1⟩; have HB := Lib.hid hb1; clear hb1) | (go_at_call 125; refine (HFC.out _).mono ?_; rintro e w2 ⟨rfl, rfl⟩))
        go_ret
        exact ⟨by rw [HR.out]; rfl, HB.out⟩
    · have HR : Hid (condP (t, c) = c) := Lib.hid (by simp [condP, h0])
      have hc0 : (c == 0) = false := by simpa using h0
      clear h0
      go_enter Tryd.func81, Tryd.ntmps81
      go_wp2_with (go_at_call 76; refine HT.out.mono ?_; rintro e w1 ⟨rfl, hb1⟩; have HB := Lib.hid hb1; clear hb1)
      go_ret
      exact ⟨by rw [HR.out]; rfl, HB.out⟩

section
variable (ts : List Sch) (k o : Int) (no : Bool) (vk vi : Int) (vt t nm : ByteArray) (a sa : Option Addr) (an ac : Nat) (sc sb so : Nat) (star : Bool) (frm : ByteArray) (ia wa : Option Addr) (ic wc : Nat) (items whr : List Ex) (fs : List Frm) (vf vtb : Value) (w : World)
  (hsb : sb < w.heap.size) (q0 : w.cell? ⟨sb, so, none⟩ = some (.bool star)) (q1 : w.cell? ⟨sb, so + 1, none⟩ = some (.slice ia items.length ic)) (q2 : w.cell? ⟨sb, so + 2, none⟩ = some (.string frm)) (q3 : w.cell? ⟨sb, so + 3, none⟩ = some (.slice wa whr.length wc))
  (hts : TblsR NoM w vtb ts) (hsm : ColsSmall ts)

include hsb q0 q1 q2 q3 hts hsm in
set_option maxHeartbeats 1000000 in
theorem ragg_none (hs : findTbl ts frm = none) :
    Calls Tryd.prog 118 #[.agg #[.int .i64 k, .int .i64 o, .bool no, .int .i64 vk, .int .i64 vi, .string vt, .string t, .string nm, .slice a an ac, .slice (some ⟨sb, so, none⟩) 1 sc], vf, vtb] w (RetII (0, 3) w) := by
  have hsrc := fun (w' : World) (hb : Below w.heap.size w w') => rsource_none vtb ts frm w' (hts.keep (.bel hb)) hsm hs
  have HS := Lib.hid hsrc
  clear hsrc hts hs hsm
  go_enter Tryd.func118, Tryd.ntmps118
  go_wp2_with (go_at_call 122; refine (HS.out _ (by go_grown)).mono ?_; rintro e w1 ⟨rfl, hb⟩; have HB := Lib.hid hb; clear hb)
  go_ret2
  refine ⟨rfl, ?_⟩
  have h0 : Below w.heap.size w w1 := Below.trans (by go_grown) (HB.out.mono (by simp <;> omega))
  have h1 := h0.size
  go_grown

include hsb q0 q1 q2 q3 hts hsm in
set_option maxHeartbeats 1000000 in
theorem ragg_zero (hf : FrmsR NoM w vf fs) (hd : fs.length ≤ 999999999) (i : Nat) (s : Sch) (hs : findTbl ts frm = some i) (hi : ts[i]? = some s) (hn : items.length = 0) (hk : k = 8 ∨ k = 9)
    (hw : ExsR NoM w (.slice wa whr.length wc) whr) (htw : ∀ e ∈ whr, RTypeOk ts e) (hdw : fs.length + 1 + depL whr ≤ 1000000000) :
    Calls Tryd.prog 118 #[.agg #[.int .i64 k, .int .i64 o, .bool no, .int .i64 vk, .int .i64 vi, .string vt, .string t, .string nm, .slice a an ac, .slice (some ⟨sb, so, none⟩) 1 sc], vf, vtb] w (RetII (if typeC ts whr (fs ++ [frmOf s]) ≠ 0 then (0, typeC ts whr (fs ++ [frmOf s])) else aggP k 0) w) := by
  have hsrc := fun (w' : World) (hb : Below w.heap.size w w') => rsource_some vtb ts frm w' i s (hts.keep (.bel hb)) hsm hs hi
  have hin := fun (w' : World) (hb : Below w.heap.size w w') vc (hc : ColsR NoM w' vc s.cols) => rinside_any vf vc fs s.name s.cols w' (hf.keep (.bel hb)) hc (by omega)
  have hcd := fun (w' : World) (hb : Below w.heap.size w w') v (hv : FrmsR NoM w' v (fs ++ [frmOf s])) => rcondition_any ts whr (fs ++ [frmOf s]) (.slice wa whr.length wc) v vtb w' htw (hw.keep (.bel hb)) hv (hts.keep (.bel hb)) (by simp; omega)
  generalize typeC ts whr (fs ++ [frmOf s]) = c at hcd
  have HS := Lib.hid hsrc
  have HI := Lib.hid hin
  have HC := Lib.hid hcd
  rw [hn] at q1
  clear hsrc hin hcd hts hsm hs hi hf hd hw htw hdw hn
  by_cases hc0 : c = 0
  · subst hc0
    rcases hk with rfl | rfl
    · go_enter Tryd.func118, Tryd.ntmps118
      go_wp2_with (first
        | (go_at_call 122; refine (HS.out _ (by go_grown)).mono ?_; rintro e w1 ⟨vc1, rfl, hc1, hb⟩; obtain ⟨c1a, c1c, rfl, _⟩ := hc1.shape; have h1 : Below w.heap.size w w1 := Below.trans (by go_grown) (hb.mono (by simp <;> omega)); obtain ⟨k1, k2, k3⟩ := bcell hb; simp only [World.size_alloc] at k1 k2 k3; have k4 : w.heap.size < w1.heap.size := (by omega); have k5 : w.heap.size + 1 < w1.heap.size := (by omega); have H1 := Lib.hid h1; have HC1 := Lib.hid (hc1.weak (M' := NoM) fun _ _ h => h.elim); clear hb h1 hc1)
        | (go_at_call 123; refine (HI.out _ (H1.out.alloc (by omega) _) _ (HC1.out.keep (.alloc (.refl _ _) _))).mono ?_; rintro e w2 ⟨v2, rfl, hf2, hb⟩; have h2 : Below w.heap.size w w2 := (H1.out.alloc (by omega) _).trans (hb.mono (by simp <;> omega)); obtain ⟨j1, j2, j3⟩ := bcell hb; simp only [World.size_alloc] at j1 j2 j3; have j4 : w.heap.size < w2.heap.size := (by omega); have j5 : w.heap.size + 1 < w2.heap.size := (by omega); have j6 : w.heap.size < w1.heap.size + 1 := (by omega); have j7 : w.heap.size + 1 < w1.heap.size + 1 := (by omega); have H2 := Lib.hid h2; have HF2 := Lib.hid hf2; clear hb h2 hf2)
        | (go_at_call 81; refine (HC.out _ H2.out _ HF2.out).mono ?_; rintro e w3 ⟨rfl, hb⟩; have h3 : Below w.heap.size w w3 := H2.out.trans (hb.mono (Nat.le_of_lt j4)); obtain ⟨i1, i2, i3⟩ := bcell hb; have i4 : w.heap.size < w3.heap.size := (by omega); have H3 := Lib.hid h3; clear hb h3))
      refine wp_loop_rounds 1 ?_
      repeat any_goals (rw [rounds_succ]; go_wp2_with (first
        | (go_at_call 81; refine (HC.out _ H2.out _ HF2.out).mono ?_; rintro e w3 ⟨rfl, hb⟩; have h3 : Below w.heap.size w w3 := H2.out.trans (hb.mono (Nat.le_of_lt j4)); obtain ⟨i1, i2, i3⟩ := bcell hb; have i4 : w.heap.size < w3.heap.size := (by omega); have H3 := Lib.hid h3; clear hb h3)))
      go_ret2
      exact ⟨rfl, by first | exact H3.out | exact H2.out⟩
    · go_enter Tryd.func118, Tryd.ntmps118
      go_wp2_with (first
        | (go_at_call 122; refine (HS.out _ (by go_grown)).mono ?_; rintro e w1 ⟨vc1, rfl, hc1, hb⟩; obtain ⟨c1a, c1c, rfl, _⟩ := hc1.shape; have h1 : Below w.heap.size w w1 := Below.trans (by go_grown) (hb.mono (by simp <;> omega)); obtain ⟨k1, k2, k3⟩ := bcell hb; simp only [World.size_alloc] at k1 k2 k3; have k4 : w.heap.size < w1.heap.size := (by omega); have k5 : w.heap.size + 1 < w1.heap.size := (by omega); have H1 := Lib.hid h1; have HC1 := Lib.hid (hc1.weak (M' := NoM) fun _ _ h => h.elim); clear hb h1 hc1)
        | (go_at_call 123; refine (HI.out _ (H1.out.alloc (by omega) _) _ (HC1.out.keep (.alloc (.refl _ _) _))).mono ?_; rintro e w2 ⟨v2, rfl, hf2, hb⟩; have h2 : Below w.heap.size w w2 := (H1.out.alloc (by omega) _).trans (hb.mono (by simp <;> omega)); obtain ⟨j1, j2, j3⟩ := bcell hb; simp only [World.size_alloc] at j1 j2 j3; have j4 : w.heap.size < w2.heap.size := (by omega); have j5 : w.heap.size + 1 < w2.heap.size := (by omega); have j6 : w.heap.size < w1.heap.size + 1 := (by omega); have j7 : w.heap.size + 1 < w1.heap.size + 1 := (by omega); have H2 := Lib.hid h2; have HF2 := Lib.hid hf2; clear hb h2 hf2)
        | (go_at_call 81; refine (HC.out _ H2.out _ HF2.out).mono ?_; rintro e w3 ⟨rfl, hb⟩; have h3 : Below w.heap.size w w3 := H2.out.trans (hb.mono (Nat.le_of_lt j4)); obtain ⟨i1, i2, i3⟩ := bcell hb; have i4 : w.heap.size < w3.heap.size := (by omega); have H3 := Lib.hid h3; clear hb h3))
      refine wp_loop_rounds 1 ?_
      repeat any_goals (rw [rounds_succ]; go_wp2_with (first
        | (go_at_call 81; refine (HC.out _ H2.out _ HF2.out).mono ?_; rintro e w3 ⟨rfl, hb⟩; have h3 : Below w.heap.size w w3 := H2.out.trans (hb.mono (Nat.le_of_lt j4)); obtain ⟨i1, i2, i3⟩ := bcell hb; have i4 : w.heap.size < w3.heap.size := (by omega); have H3 := Lib.hid h3; clear hb h3)))
      go_ret2
      exact ⟨rfl, by first | exact H3.out | exact H2.out⟩
  · have hb0 : (c == 0) = false := by simpa using hc0
    have hb1 : (c != 0) = true := by simpa using hc0
    rw [if_pos hc0]
    clear hk hc0
    go_enter Tryd.func118, Tryd.ntmps118
    go_wp2_with (first
      | (go_at_call 122; refine (HS.out _ (by go_grown)).mono ?_; rintro e w1 ⟨vc1, rfl, hc1, hb⟩; obtain ⟨c1a, c1c, rfl, _⟩ := hc1.shape; have h1 : Below w.heap.size w w1 := Below.trans (by go_grown) (hb.mono (by simp <;> omega)); obtain ⟨k1, k2, k3⟩ := bcell hb; simp only [World.size_alloc] at k1 k2 k3; have k4 : w.heap.size < w1.heap.size := (by omega); have k5 : w.heap.size + 1 < w1.heap.size := (by omega); have H1 := Lib.hid h1; have HC1 := Lib.hid (hc1.weak (M' := NoM) fun _ _ h => h.elim); clear hb h1 hc1)
      | (go_at_call 123; refine (HI.out _ (H1.out.alloc (by omega) _) _ (HC1.out.keep (.alloc (.refl _ _) _))).mono ?_; rintro e w2 ⟨v2, rfl, hf2, hb⟩; have h2 : Below w.heap.size w w2 := (H1.out.alloc (by omega) _).trans (hb.mono (by simp <;> omega)); obtain ⟨j1, j2, j3⟩ := bcell hb; simp only [World.size_alloc] at j1 j2 j3; have j4 : w.heap.size < w2.heap.size := (by omega); have j5 : w.heap.size + 1 < w2.heap.size := (by omega); have j6 : w.heap.size < w1.heap.size + 1 := (by omega); have j7 : w.heap.size + 1 < w1.heap.size + 1 := (by omega); have H2 := Lib.hid h2; have HF2 := Lib.hid hf2; clear hb h2 hf2)
      | (go_at_call 81; refine (HC.out _ H2.out _ HF2.out).mono ?_; rintro e w3 ⟨rfl, hb⟩; have h3 : Below w.heap.size w w3 := H2.out.trans (hb.mono (Nat.le_of_lt j4)); obtain ⟨i1, i2, i3⟩ := bcell hb; have i4 : w.heap.size < w3.heap.size := (by omega); have H3 := Lib.hid h3; clear hb h3))
    refine wp_loop_rounds 1 ?_
    repeat any_goals (rw [rounds_succ]; go_wp2_with (first
      | (go_at_call 81; refine (HC.out _ H2.out _ HF2.out).mono ?_; rintro e w3 ⟨rfl, hb⟩; have h3 : Below w.heap.size w w3 := H2.out.trans (hb.mono (Nat.le_of_lt j4)); obtain ⟨i1, i2, i3⟩ := bcell hb; have i4 : w.heap.size < w3.heap.size := (by omega); have H3 := Lib.hid h3; clear hb h3)))
    go_ret2
    exact ⟨rfl, by first | exact H3.out | exact H2.out⟩
end

section
variable (ts : List Sch) (k o : Int) (no : Bool) (vk vi : Int) (vt t nm : ByteArray) (a sa : Option Addr) (an ac : Nat) (sc sb so : Nat) (star : Bool) (frm : ByteArray) (ib io : Nat) (wa : Option Addr) (ic wc : Nat) (x : Ex) (whr : List Ex) (fs : List Frm) (vf vtb : Value) (w : World)
  (hsb : sb < w.heap.size) (q0 : w.cell? ⟨sb, so, none⟩ = some (.bool star)) (q1 : w.cell? ⟨sb, so + 1, none⟩ = some (.slice (some ⟨ib, io, none⟩) 1 ic)) (q2 : w.cell? ⟨sb, so + 2, none⟩ = some (.string frm)) (q3 : w.cell? ⟨sb, so + 3, none⟩ = some (.slice wa whr.length wc))
  (hts : TblsR NoM w vtb ts) (hsm : ColsSmall ts)

include hsb q0 q1 q2 q3 hts hsm in
set_option maxHeartbeats 2000000 in
theorem ragg_one (hf : FrmsR NoM w vf fs) (hd : fs.length ≤ 999999999) (i : Nat) (s : Sch) (hs : findTbl ts frm = some i) (hi : ts[i]? = some s) (hk : k = 10 ∨ k = 11 ∨ k = 12)
    (cs : List Value) (hib : ib < w.heap.size) (hcs : CellsAt w ib io cs) (hx : EC NoM w x cs) (htx : RTypeOk ts x) (hdx : fs.length + 1 + dep x ≤ 1000000000)
    (hw : ExsR NoM w (.slice wa whr.length wc) whr) (htw : ∀ e ∈ whr, RTypeOk ts e) (hdw : fs.length + 1 + depL whr ≤ 1000000000) :
    Calls Tryd.prog 118 #[.agg #[.int .i64 k, .int .i64 o, .bool no, .int .i64 vk, .int .i64 vi, .string vt, .string t, .string nm, .slice a an ac, .slice (some ⟨sb, so, none⟩) 1 sc], vf, vtb] w (RetII (if (typeP ts x (fs ++ [frmOf s])).2 ≠ 0 then (0, (typeP ts x (fs ++ [frmOf s])).2) else if typeC ts whr (fs ++ [frmOf s]) ≠ 0 then (0, typeC ts whr (fs ++ [frmOf s])) else aggP k (typeP ts x (fs ++ [frmOf s])).1) w) := by
  have hsrc := fun (w' : World) (hb : Below w.heap.size w w') => rsource_some vtb ts frm w' i s (hts.keep (.bel hb)) hsm hs hi
  have hin := fun (w' : World) (hb : Below w.heap.size w w') vc (hc : ColsR NoM w' vc s.cols) => rinside_any vf vc fs s.name s.cols w' (hf.keep (.bel hb)) hc (by omega)
  have hcd := fun (w' : World) (hb : Below w.heap.size w w') v (hv : FrmsR NoM w' v (fs ++ [frmOf s])) => rcondition_any ts whr (fs ++ [frmOf s]) (.slice wa whr.length wc) v vtb w' htw (hw.keep (.bel hb)) hv (hts.keep (.bel hb)) (by simp; omega)
  have hty := fun (w' : World) (hb : Below w.heap.size w w') v (hv : FrmsR NoM w' v (fs ++ [frmOf s])) => htx (fs ++ [frmOf s]) cs v vtb w' (EC.keep (.bel hb) x cs hx) hv (hts.keep (.bel hb)) (by simp; omega)
  generalize typeC ts whr (fs ++ [frmOf s]) = c at hcd
  generalize typeP ts x (fs ++ [frmOf s]) = r at hty
  obtain ⟨rt, rc⟩ := r
  obtain ⟨va, vs, rfl, ha, hs'⟩ := (EC_iff ..).1 hx
  obtain ⟨xa, xac, rfl, _⟩ := ha.shape
  obtain ⟨xs, xsc, rfl, _⟩ := hs'.shape
  obtain ⟨c0, c1, c2, c3, c4, c5, c6, c7, c8, c9⟩ := CellsAt.c10 hcs
  simp only [exCells] at hty
  have HS := Lib.hid hsrc
  have HI := Lib.hid hin
  have HC := Lib.hid hcd
  have HT := Lib.hid hty
  clear hsrc hin hcd hty hts hsm hs hi hf hd hw htw hdw hcs hx htx hdx ha hs'
  simp only []
  by_cases hr0 : rc = 0
  · subst hr0
    rw [if_neg (by simp)]
    by_cases hc0 : c = 0
    · subst hc0
      rw [if_neg (by simp)]
      rcases hk with rfl | rfl | rfl
      · cases hfit : fitsB rt 1 with
        | true =>
          have hfc := fun w => rfits_f rt 1 (by decide) w
          rw [hfit] at hfc
          have HR : Hid (aggP 10 rt = (1, 0)) := Lib.hid (by simp [aggP, hfit])
          have HFC := Lib.hid hfc
          clear hfc hfit
          rw [HR.out]
          go_enter Tryd.func118, Tryd.ntmps118
          go_wp2_with (first
            | (go_at_call 122; refine (HS.out _ (by go_grown)).mono ?_; rintro e w1 ⟨vc1, rfl, hc1, hb⟩; obtain ⟨c1a, c1c, rfl, _⟩ := hc1.shape; have h1 : Below w.heap.size w w1 := Below.trans (by go_grown) (hb.mono (by simp <;> omega)); obtain ⟨k1, k2, k3⟩ := bcell hb; simp only [World.size_alloc] at k1 k2 k3; have k4 : w.heap.size < w1.heap.size := (by omega); have k5 : w.heap.size + 1 < w1.heap.size := (by omega); have k6 : ib < w.heap.size + 1 + 1 := (by omega); have k7 : ib < w1.heap.size := (by omega); have k8 : ib < w1.heap.size + 1 := (by omega); have H1 := Lib.hid h1; have HC1 := Lib.hid (hc1.weak (M' := NoM) fun _ _ h => h.elim); clear hb h1 hc1)
            | (go_at_call 123; refine (HI.out _ (H1.out.alloc (by omega) _) _ (HC1.out.keep (.alloc (.refl _ _) _))).mono ?_; rintro e w2 ⟨v2, rfl, hf2, hb⟩; have h2 : Below w.heap.size w w2 := (H1.out.alloc (by omega) _).trans (hb.mono (by simp <;> omega)); obtain ⟨j1, j2, j3⟩ := bcell hb; simp only [World.size_alloc] at j1 j2 j3; have j4 : w.heap.size < w2.heap.size := (by omega); have j5 : w.heap.size + 1 < w2.heap.size := (by omega); have j6 : w.heap.size < w1.heap.size + 1 := (by omega); have j7 : w.heap.size + 1 < w1.heap.size + 1 := (by omega); have H2 := Lib.hid h2; have HF2 := Lib.hid hf2; clear hb h2 hf2)
            | (go_at_call 76; refine (HT.out _ (H2.out.alloc (Nat.le_of_lt j4) _) _ (HF2.out.keep (.alloc (.refl _ _) _))).mono ?_; rintro e w2b ⟨rfl, hb⟩; have h2b : Below w.heap.size w w2b := (H2.out.alloc (Nat.le_of_lt j4) _).trans (hb.mono (by simp; omega)); have hf2b := HF2.out.keep (((Keep.refl NoM w2).alloc _).below hb); obtain ⟨m1, m2, m3⟩ := bcell hb; simp only [World.size_alloc] at m1 m2 m3; have m4 : w.heap.size < w2b.heap.size := (by omega); have m5 : w.heap.size + 1 < w2b.heap.size := (by omega); have m6 : w2.heap.size < w2b.heap.size := (by omega); have m7 : w.heap.size < w2.heap.size + 1 := (by omega); have m8 : w.heap.size + 1 < w2.heap.size + 1 := (by omega); have H2b := Lib.hid h2b; have HF2b := Lib.hid hf2b; clear hb h2b hf2b)
            | (go_at_call 81; refine (HC.out _ H2b.out _ HF2b.out).mono ?_; rintro e w3 ⟨rfl, hb⟩; have h3 : Below w.heap.size w w3 := H2b.out.trans (hb.mono (Nat.le_of_lt m4)); obtain ⟨i1, i2, i3⟩ := bcell hb; have i4 : w.heap.size < w3.heap.size := (by omega); have H3 := Lib.hid h3; clear hb h3)
            | (go_at_call 125; refine (HFC.out _).mono ?_; rintro e w4 ⟨rfl, rfl⟩))
          refine wp_loop_rounds 2 ?_
          repeat any_goals (rw [rounds_succ]; go_wp2_with (first
            | (go_at_call 76; refine (HT.out _ (H2.out.alloc (Nat.le_of_lt j4) _) _ (HF2.out.keep (.alloc (.refl _ _) _))).mono ?_; rintro e w2b ⟨rfl, hb⟩; have h2b : Below w.heap.size w w2b := (H2.out.alloc (Nat.le_of_lt j4) _).trans (hb.mono (by simp; omega)); have hf2b := HF2.out.keep (((Keep.refl NoM w2).alloc _).below hb); obtain ⟨m1, m2, m3⟩ := bcell hb; simp only [World.size_alloc] at m1 m2 m3; have m4 : w.heap.size < w2b.heap.size := (by omega); have m5 : w.heap.size + 1 < w2b.heap.size := (by omega); have m6 : w2.heap.size < w2b.heap.size := (by omega); have m7 : w.heap.size < w2.heap.size + 1 := (by omega); have m8 : w.heap.size + 1 < w2.heap.size + 1 := (by omega); have H2b := Lib.hid h2b; have HF2b := Lib.hid hf2b; clear hb h2b hf2b)
            | (go_at_call 81; refine (HC.out _ H2b.out _ HF2b.out).mono ?_; rintro e w3 ⟨rfl, hb⟩; have h3 : Below w.heap.size w w3 := H2b.out.trans (hb.mono (Nat.le_of_lt m4)); obtain ⟨i1, i2, i3⟩ := bcell hb; have i4 : w.heap.size < w3.heap.size := (by omega); have H3 := Lib.hid h3; clear hb h3)
            | (go_at_call 125; refine (HFC.out _).mono ?_; rintro e w4 ⟨rfl, rfl⟩)))
          go_ret2
          exact ⟨rfl, by first | exact H3.out | exact H2b.out⟩
        | false =>
          have hfc := fun w => rfits_f rt 1 (by decide) w
          rw [hfit] at hfc
          have HR : Hid (aggP 10 rt = (0, 5)) := Lib.hid (by simp [aggP, hfit])
          have HFC := Lib.hid hfc
          clear hfc hfit
          rw [HR.out]
          go_enter Tryd.func118, Tryd.ntmps118
          go_wp2_with (first
            | (go_at_call 122; refine (HS.out _ (by go_grown)).mono ?_; rintro e w1 ⟨vc1, rfl, hc1, hb⟩; obtain ⟨c1a, c1c, rfl, _⟩ := hc1.shape; have h1 : Below w.heap.size w w1 := Below.trans (by go_grown) (hb.mono (by simp <;> omega)); obtain ⟨k1, k2, k3⟩ := bcell hb; simp only [World.size_alloc] at k1 k2 k3; have k4 : w.heap.size < w1.heap.size := (by omega); have k5 : w.heap.size + 1 < w1.heap.size := (by omega); have k6 : ib < w.heap.size + 1 + 1 := (by omega); have k7 : ib < w1.heap.size := (by omega); have k8 : ib < w1.heap.size + 1 := (by omega); have H1 := Lib.hid h1; have HC1 := Lib.hid (hc1.weak (M' := NoM) fun _ _ h => h.elim); clear hb h1 hc1)
            | (go_at_call 123; refine (HI.out _ (H1.out.alloc (by omega) _) _ (HC1.out.keep (.alloc (.refl _ _) _))).mono ?_; rintro e w2 ⟨v2, rfl, hf2, hb⟩; have h2 : Below w.heap.size w w2 := (H1.out.alloc (by omega) _).trans (hb.mono (by simp <;> omega)); obtain ⟨j1, j2, j3⟩ := bcell hb; simp only [World.size_alloc] at j1 j2 j3; have j4 : w.heap.size < w2.heap.size := (by omega); have j5 : w.heap.size + 1 < w2.heap.size := (by omega); have j6 : w.heap.size < w1.heap.size + 1 := (by omega); have j7 : w.heap.size + 1 < w1.heap.size + 1 := (by omega); have H2 := Lib.hid h2; have HF2 := Lib.hid hf2; clear hb h2 hf2)
            | (go_at_call 76; refine (HT.out _ (H2.out.alloc (Nat.le_of_lt j4) _) _ (HF2.out.keep (.alloc (.refl _ _) _))).mono ?_; rintro e w2b ⟨rfl, hb⟩; have h2b : Below w.heap.size w w2b := (H2.out.alloc (Nat.le_of_lt j4) _).trans (hb.mono (by simp; omega)); have hf2b := HF2.out.keep (((Keep.refl NoM w2).alloc _).below hb); obtain ⟨m1, m2, m3⟩ := bcell hb; simp only [World.size_alloc] at m1 m2 m3; have m4 : w.heap.size < w2b.heap.size := (by omega); have m5 : w.heap.size + 1 < w2b.heap.size := (by omega); have m6 : w2.heap.size < w2b.heap.size := (by omega); have m7 : w.heap.size < w2.heap.size + 1 := (by omega); have m8 : w.heap.size + 1 < w2.heap.size + 1 := (by omega); have H2b := Lib.hid h2b; have HF2b := Lib.hid hf2b; clear hb h2b hf2b)
            | (go_at_call 81; refine (HC.out _ H2b.out _ HF2b.out).mono ?_; rintro e w3 ⟨rfl, hb⟩; have h3 : Below w.heap.size w w3 := H2b.out.trans (hb.mono (Nat.le_of_lt m4)); obtain ⟨i1, i2, i3⟩ := bcell hb; have i4 : w.heap.size < w3.heap.size := (by omega); have H3 := Lib.hid h3; clear hb h3)
            | (go_at_call 125; refine (HFC.out _).mono ?_; rintro e w4 ⟨rfl, rfl⟩))
          refine wp_loop_rounds 2 ?_
          repeat any_goals (rw [rounds_succ]; go_wp2_with (first
            | (go_at_call 76; refine (HT.out _ (H2.out.alloc (Nat.le_of_lt j4) _) _ (HF2.out.keep (.alloc (.refl _ _) _))).mono ?_; rintro e w2b ⟨rfl, hb⟩; have h2b : Below w.heap.size w w2b := (H2.out.alloc (Nat.le_of_lt j4) _).trans (hb.mono (by simp; omega)); have hf2b := HF2.out.keep (((Keep.refl NoM w2).alloc _).below hb); obtain ⟨m1, m2, m3⟩ := bcell hb; simp only [World.size_alloc] at m1 m2 m3; have m4 : w.heap.size < w2b.heap.size := (by omega); have m5 : w.heap.size + 1 < w2b.heap.size := (by omega); have m6 : w2.heap.size < w2b.heap.size := (by omega); have m7 : w.heap.size < w2.heap.size + 1 := (by omega); have m8 : w.heap.size + 1 < w2.heap.size + 1 := (by omega); have H2b := Lib.hid h2b; have HF2b := Lib.hid hf2b; clear hb h2b hf2b)
            | (go_at_call 81; refine (HC.out _ H2b.out _ HF2b.out).mono ?_; rintro e w3 ⟨rfl, hb⟩; have h3 : Below w.heap.size w w3 := H2b.out.trans (hb.mono (Nat.le_of_lt m4)); obtain ⟨i1, i2, i3⟩ := bcell hb; have i4 : w.heap.size < w3.heap.size := (by omega); have H3 := Lib.hid h3; clear hb h3)
            | (go_at_call 125; refine (HFC.out _).mono ?_; rintro e w4 ⟨rfl, rfl⟩)))
          go_ret2
          exact ⟨rfl, by first | exact H3.out | exact H2b.out⟩
      · have HFC : Hid True := trivial
        rw [show aggP 11 rt = (rt, 0) from rfl]
        go_enter Tryd.func118, Tryd.ntmps118
        go_wp2_with (first
          | (go_at_call 122; refine (HS.out _ (by go_grown)).mono ?_; rintro e w1 ⟨vc1, rfl, hc1, hb⟩; obtain ⟨c1a, c1c, rfl, _⟩ := hc1.shape; have h1 : Below w.heap.size w w1 := Below.trans (by go_grown) (hb.mono (by simp <;> omega)); obtain ⟨k1, k2, k3⟩ := bcell hb; simp only [World.size_alloc] at k1 k2 k3; have k4 : w.heap.size < w1.heap.size := (by omega); have k5 : w.heap.size + 1 < w1.heap.size := (by omega); have k6 : ib < w.heap.size + 1 + 1 := (by omega); have k7 : ib < w1.heap.size := (by omega); have k8 : ib < w1.heap.size + 1 := (by omega); have H1 := Lib.hid h1; have HC1 := Lib.hid (hc1.weak (M' := NoM) fun _ _ h => h.elim); clear hb h1 hc1)
          | (go_at_call 123; refine (HI.out _ (H1.out.alloc (by omega) _) _ (HC1.out.keep (.alloc (.refl _ _) _))).mono ?_; rintro e w2 ⟨v2, rfl, hf2, hb⟩; have h2 : Below w.heap.size w w2 := (H1.out.alloc (by omega) _).trans (hb.mono (by simp <;> omega)); obtain ⟨j1, j2, j3⟩ := bcell hb; simp only [World.size_alloc] at j1 j2 j3; have j4 : w.heap.size < w2.heap.size := (by omega); have j5 : w.heap.size + 1 < w2.heap.size := (by omega); have j6 : w.heap.size < w1.heap.size + 1 := (by omega); have j7 : w.heap.size + 1 < w1.heap.size + 1 := (by omega); have H2 := Lib.hid h2; have HF2 := Lib.hid hf2; clear hb h2 hf2)
          | (go_at_call 76; refine (HT.out _ (H2.out.alloc (Nat.le_of_lt j4) _) _ (HF2.out.keep (.alloc (.refl _ _) _))).mono ?_; rintro e w2b ⟨rfl, hb⟩; have h2b : Below w.heap.size w w2b := (H2.out.alloc (Nat.le_of_lt j4) _).trans (hb.mono (by simp; omega)); have hf2b := HF2.out.keep (((Keep.refl NoM w2).alloc _).below hb); obtain ⟨m1, m2, m3⟩ := bcell hb; simp only [World.size_alloc] at m1 m2 m3; have m4 : w.heap.size < w2b.heap.size := (by omega); have m5 : w.heap.size + 1 < w2b.heap.size := (by omega); have m6 : w2.heap.size < w2b.heap.size := (by omega); have m7 : w.heap.size < w2.heap.size + 1 := (by omega); have m8 : w.heap.size + 1 < w2.heap.size + 1 := (by omega); have H2b := Lib.hid h2b; have HF2b := Lib.hid hf2b; clear hb h2b hf2b)
          | (go_at_call 81; refine (HC.out _ H2b.out _ HF2b.out).mono ?_; rintro e w3 ⟨rfl, hb⟩; have h3 : Below w.heap.size w w3 := H2b.out.trans (hb.mono (Nat.le_of_lt m4)); obtain ⟨i1, i2, i3⟩ := bcell hb; have i4 : w.heap.size < w3.heap.size := (by omega); have H3 := Lib.hid h3; clear hb h3)
          | (go_at_call 125; refine (HFC.out _).mono ?_; rintro e w4 ⟨rfl, rfl⟩))
        refine wp_loop_rounds 2 ?_
        repeat any_goals (rw [rounds_succ]; go_wp2_with (first
          | (go_at_call 76; refine (HT.out _ (H2.out.alloc (Nat.le_of_lt j4) _) _ (HF2.out.keep (.alloc (.refl _ _) _))).mono ?_; rintro e w2b ⟨rfl, hb⟩; have h2b : Below w.heap.size w w2b := (H2.out.alloc (Nat.le_of_lt j4) _).trans (hb.mono (by simp; omega)); have hf2b := HF2.out.keep (((Keep.refl NoM w2).alloc _).below hb); obtain ⟨m1, m2, m3⟩ := bcell hb; simp only [World.size_alloc] at m1 m2 m3; have m4 : w.heap.size < w2b.heap.size := (by omega); have m5 : w.heap.size + 1 < w2b.heap.size := (by omega); have m6 : w2.heap.size < w2b.heap.size := (by omega); have m7 : w.heap.size < w2.heap.size + 1 := (by omega); have m8 : w.heap.size + 1 < w2.heap.size + 1 := (by omega); have H2b := Lib.hid h2b; have HF2b := Lib.hid hf2b; clear hb h2b hf2b)
          | (go_at_call 81; refine (HC.out _ H2b.out _ HF2b.out).mono ?_; rintro e w3 ⟨rfl, hb⟩; have h3 : Below w.heap.size w w3 := H2b.out.trans (hb.mono (Nat.le_of_lt m4)); obtain ⟨i1, i2, i3⟩ := bcell hb; have i4 : w.heap.size < w3.heap.size := (by omega); have H3 := Lib.hid h3; clear hb h3)
          | (go_at_call 125; refine (HFC.out _).mono ?_; rintro e w4 ⟨rfl, rfl⟩)))
        go_ret2
        exact ⟨rfl, by first | exact H3.out | exact H2b.out⟩
      · have HFC : Hid True := trivial
        rw [show aggP 12 rt = (rt, 0) from rfl]
        go_enter Tryd.func118, Tryd.ntmps118
        go_wp2_with (first
          | (go_at_call 122; refine (HS.out _ (by go_grown)).mono ?_; rintro e w1 ⟨vc1, rfl, hc1, hb⟩; obtain ⟨c1a, c1c, rfl, _⟩ := hc1.shape; have h1 : Below w.heap.size w w1 := Below.trans (by go_grown) (hb.mono (by simp <;> omega)); obtain ⟨k1, k2, k3⟩ := bcell hb; simp only [World.size_alloc] at k1 k2 k3; have k4 : w.heap.size < w1.heap.size := (by omega); have k5 : w.heap.size + 1 < w1.heap.size := (by omega); have k6 : ib < w.heap.size + 1 + 1 := (by omega); have k7 : ib < w1.heap.size := (by omega); have k8 : ib < w1.heap.size + 1 := (by omega); have H1 := Lib.hid h1; have HC1 := Lib.hid (hc1.weak (M' := NoM) fun _ _ h => h.elim); clear hb h1 hc1)
          | (go_at_call 123; refine (HI.out _ (H1.out.alloc (by omega) _) _ (HC1.out.keep (.alloc (.refl _ _) _))).mono ?_; rintro e w2 ⟨v2, rfl, hf2, hb⟩; have h2 : Below w.heap.size w w2 := (H1.out.alloc (by omega) _).trans (hb.mono (by simp <;> omega)); obtain ⟨j1, j2, j3⟩ := bcell hb; simp only [World.size_alloc] at j1 j2 j3; have j4 : w.heap.size < w2.heap.size := (by omega); have j5 : w.heap.size + 1 < w2.heap.size := (by omega); have j6 : w.heap.size < w1.heap.size + 1 := (by omega); have j7 : w.heap.size + 1 < w1.heap.size + 1 := (by omega); have H2 := Lib.hid h2; have HF2 := Lib.hid hf2; clear hb h2 hf2)
          | (go_at_call 76; refine (HT.out _ (H2.out.alloc (Nat.le_of_lt j4) _) _ (HF2.out.keep (.alloc (.refl _ _) _))).mono ?_; rintro e w2b ⟨rfl, hb⟩; have h2b : Below w.heap.size w w2b := (H2.out.alloc (Nat.le_of_lt j4) _).trans (hb.mono (by simp; omega)); have hf2b := HF2.out.keep (((Keep.refl NoM w2).alloc _).below hb); obtain ⟨m1, m2, m3⟩ := bcell hb; simp only [World.size_alloc] at m1 m2 m3; have m4 : w.heap.size < w2b.heap.size := (by omega); have m5 : w.heap.size + 1 < w2b.heap.size := (by omega); have m6 : w2.heap.size < w2b.heap.size := (by omega); have m7 : w.heap.size < w2.heap.size + 1 := (by omega); have m8 : w.heap.size + 1 < w2.heap.size + 1 := (by omega); have H2b := Lib.hid h2b; have HF2b := Lib.hid hf2b; clear hb h2b hf2b)
          | (go_at_call 81; refine (HC.out _ H2b.out _ HF2b.out).mono ?_; rintro e w3 ⟨rfl, hb⟩; have h3 : Below w.heap.size w w3 := H2b.out.trans (hb.mono (Nat.le_of_lt m4)); obtain ⟨i1, i2, i3⟩ := bcell hb; have i4 : w.heap.size < w3.heap.size := (by omega); have H3 := Lib.hid h3; clear hb h3)
          | (go_at_call 125; refine (HFC.out _).mono ?_; rintro e w4 ⟨rfl, rfl⟩))
        refine wp_loop_rounds 2 ?_
        repeat any_goals (rw [rounds_succ]; go_wp2_with (first
          | (go_at_call 76; refine (HT.out _ (H2.out.alloc (Nat.le_of_lt j4) _) _ (HF2.out.keep (.alloc (.refl _ _) _))).mono ?_; rintro e w2b ⟨rfl, hb⟩; have h2b : Below w.heap.size w w2b := (H2.out.alloc (Nat.le_of_lt j4) _).trans (hb.mono (by simp; omega)); have hf2b := HF2.out.keep (((Keep.refl NoM w2).alloc _).below hb); obtain ⟨m1, m2, m3⟩ := bcell hb; simp only [World.size_alloc] at m1 m2 m3; have m4 : w.heap.size < w2b.heap.size := (by omega); have m5 : w.heap.size + 1 < w2b.heap.size := (by omega); have m6 : w2.heap.size < w2b.heap.size := (by omega); have m7 : w.heap.size < w2.heap.size + 1 := (by omega); have m8 : w.heap.size + 1 < w2.heap.size + 1 := (by omega); have H2b := Lib.hid h2b; have HF2b := Lib.hid hf2b; clear hb h2b hf2b)
          | (go_at_call 81; refine (HC.out _ H2b.out _ HF2b.out).mono ?_; rintro e w3 ⟨rfl, hb⟩; have h3 : Below w.heap.size w w3 := H2b.out.trans (hb.mono (Nat.le_of_lt m4)); obtain ⟨i1, i2, i3⟩ := bcell hb; have i4 : w.heap.size < w3.heap.size := (by omega); have H3 := Lib.hid h3; clear hb h3)
          | (go_at_call 125; refine (HFC.out _).mono ?_; rintro e w4 ⟨rfl, rfl⟩)))
        go_ret2
        exact ⟨rfl, by first | exact H3.out | exact H2b.out⟩
    · have HFC : Hid True := trivial
      have hb0 : (c == 0) = false := by simpa using hc0
      have hb1 : (c != 0) = true := by simpa using hc0
      rw [if_pos hc0]
      clear hk hc0
      go_enter Tryd.func118, Tryd.ntmps118
      go_wp2_with (first
        | (go_at_call 122; refine (HS.out _ (by go_grown)).mono ?_; rintro e w1 ⟨vc1, rfl, hc1, hb⟩; obtain ⟨c1a, c1c, rfl, _⟩ := hc1.shape; have h1 : Below w.heap.size w w1 := Below.trans (by go_grown) (hb.mono (by simp <;> omega)); obtain ⟨k1, k2, k3⟩ := bcell hb; simp only [World.size_alloc] at k1 k2 k3; have k4 : w.heap.size < w1.heap.size := (by omega); have k5 : w.heap.size + 1 < w1.heap.size := (by omega); have k6 : ib < w.heap.size + 1 + 1 := (by omega); have k7 : ib < w1.heap.size := (by omega); have k8 : ib < w1.heap.size + 1 := (by omega); have H1 := Lib.hid h1; have HC1 := Lib.hid (hc1.weak (M' := NoM) fun _ _ h => h.elim); clear hb h1 hc1)
        | (go_at_call 123; refine (HI.out _ (H1.out.alloc (by omega) _) _ (HC1.out.keep (.alloc (.refl _ _) _))).mono ?_; rintro e w2 ⟨v2, rfl, hf2, hb⟩; have h2 : Below w.heap.size w w2 := (H1.out.alloc (by omega) _).trans (hb.mono (by simp <;> omega)); obtain ⟨j1, j2, j3⟩ := bcell hb; simp only [World.size_alloc] at j1 j2 j3; have j4 : w.heap.size < w2.heap.size := (by omega); have j5 : w.heap.size + 1 < w2.heap.size := (by omega); have j6 : w.heap.size < w1.heap.size + 1 := (by omega); have j7 : w.heap.size + 1 < w1.heap.size + 1 := (by omega); have H2 := Lib.hid h2; have HF2 := Lib.hid hf2; clear hb h2 hf2)
        | (go_at_call 76; refine (HT.out _ (H2.out.alloc (Nat.le_of_lt j4) _) _ (HF2.out.keep (.alloc (.refl _ _) _))).mono ?_; rintro e w2b ⟨rfl, hb⟩; have h2b : Below w.heap.size w w2b := (H2.out.alloc (Nat.le_of_lt j4) _).trans (hb.mono (by simp; omega)); have hf2b := HF2.out.keep (((Keep.refl NoM w2).alloc _).below hb); obtain ⟨m1, m2, m3⟩ := bcell hb; simp only [World.size_alloc] at m1 m2 m3; have m4 : w.heap.size < w2b.heap.size := (by omega); have m5 : w.heap.size + 1 < w2b.heap.size := (by omega); have m6 : w2.heap.size < w2b.heap.size := (by omega); have m7 : w.heap.size < w2.heap.size + 1 := (by omega); have m8 : w.heap.size + 1 < w2.heap.size + 1 := (by omega); have H2b := Lib.hid h2b; have HF2b := Lib.hid hf2b; clear hb h2b hf2b)
        | (go_at_call 81; refine (HC.out _ H2b.out _ HF2b.out).mono ?_; rintro e w3 ⟨rfl, hb⟩; have h3 : Below w.heap.size w w3 := H2b.out.trans (hb.mono (Nat.le_of_lt m4)); obtain ⟨i1, i2, i3⟩ := bcell hb; have i4 : w.heap.size < w3.heap.size := (by omega); have H3 := Lib.hid h3; clear hb h3)
        | (go_at_call 125; refine (HFC.out _).mono ?_; rintro e w4 ⟨rfl, rfl⟩))
      refine wp_loop_rounds 2 ?_
      repeat any_goals (rw [rounds_succ]; go_wp2_with (first
        | (go_at_call 76; refine (HT.out _ (H2.out.alloc (Nat.le_of_lt j4) _) _ (HF2.out.keep (.alloc (.refl _ _) _))).mono ?_; rintro e w2b ⟨rfl, hb⟩; have h2b : Below w.heap.size w w2b := (H2.out.alloc (Nat.le_of_lt j4) _).trans (hb.mono (by simp; omega)); have hf2b := HF2.out.keep (((Keep.refl NoM w2).alloc _).below hb); obtain ⟨m1, m2, m3⟩ := bcell hb; simp only [World.size_alloc] at m1 m2 m3; have m4 : w.heap.size < w2b.heap.size := (by omega); have m5 : w.heap.size + 1 < w2b.heap.size := (by omega); have m6 : w2.heap.size < w2b.heap.size := (by omega); have m7 : w.heap.size < w2.heap.size + 1 := (by omega); have m8 : w.heap.size + 1 < w2.heap.size + 1 := (by omega); have H2b := Lib.hid h2b; have HF2b := Lib.hid hf2b; clear hb h2b hf2b)
        | (go_at_call 81; refine (HC.out _ H2b.out _ HF2b.out).mono ?_; rintro e w3 ⟨rfl, hb⟩; have h3 : Below w.heap.size w w3 := H2b.out.trans (hb.mono (Nat.le_of_lt m4)); obtain ⟨i1, i2, i3⟩ := bcell hb; have i4 : w.heap.size < w3.heap.size := (by omega); have H3 := Lib.hid h3; clear hb h3)
        | (go_at_call 125; refine (HFC.out _).mono ?_; rintro e w4 ⟨rfl, rfl⟩)))
      go_ret2
      exact ⟨rfl, by first | exact H3.out | exact H2b.out⟩
  · have HFC : Hid True := trivial
    have hb0 : (rc == 0) = false := by simpa using hr0
    have hb1 : (rc != 0) = true := by simpa using hr0
    rw [if_pos hr0]
    clear hk hr0
    go_enter Tryd.func118, Tryd.ntmps118
    go_wp2_with (first
      | (go_at_call 122; refine (HS.out _ (by go_grown)).mono ?_; rintro e w1 ⟨vc1, rfl, hc1, hb⟩; obtain ⟨c1a, c1c, rfl, _⟩ := hc1.shape; have h1 : Below w.heap.size w w1 := Below.trans (by go_grown) (hb.mono (by simp <;> omega)); obtain ⟨k1, k2, k3⟩ := bcell hb; simp only [World.size_alloc] at k1 k2 k3; have k4 : w.heap.size < w1.heap.size := (by omega); have k5 : w.heap.size + 1 < w1.heap.size := (by omega); have k6 : ib < w.heap.size + 1 + 1 := (by omega); have k7 : ib < w1.heap.size := (by omega); have k8 : ib < w1.heap.size + 1 := (by omega); have H1 := Lib.hid h1; have HC1 := Lib.hid (hc1.weak (M' := NoM) fun _ _ h => h.elim); clear hb h1 hc1)
      | (go_at_call 123; refine (HI.out _ (H1.out.alloc (by omega) _) _ (HC1.out.keep (.alloc (.refl _ _) _))).mono ?_; rintro e w2 ⟨v2, rfl, hf2, hb⟩; have h2 : Below w.heap.size w w2 := (H1.out.alloc (by omega) _).trans (hb.mono (by simp <;> omega)); obtain ⟨j1, j2, j3⟩ := bcell hb; simp only [World.size_alloc] at j1 j2 j3; have j4 : w.heap.size < w2.heap.size := (by omega); have j5 : w.heap.size + 1 < w2.heap.size := (by omega); have j6 : w.heap.size < w1.heap.size + 1 := (by omega); have j7 : w.heap.size + 1 < w1.heap.size + 1 := (by omega); have H2 := Lib.hid h2; have HF2 := Lib.hid hf2; clear hb h2 hf2)
      | (go_at_call 76; refine (HT.out _ (H2.out.alloc (Nat.le_of_lt j4) _) _ (HF2.out.keep (.alloc (.refl _ _) _))).mono ?_; rintro e w2b ⟨rfl, hb⟩; have h2b : Below w.heap.size w w2b := (H2.out.alloc (Nat.le_of_lt j4) _).trans (hb.mono (by simp; omega)); have hf2b := HF2.out.keep (((Keep.refl NoM w2).alloc _).below hb); obtain ⟨m1, m2, m3⟩ := bcell hb; simp only [World.size_alloc] at m1 m2 m3; have m4 : w.heap.size < w2b.heap.size := (by omega); have m5 : w.heap.size + 1 < w2b.heap.size := (by omega); have m6 : w2.heap.size < w2b.heap.size := (by omega); have m7 : w.heap.size < w2.heap.size + 1 := (by omega); have m8 : w.heap.size + 1 < w2.heap.size + 1 := (by omega); have H2b := Lib.hid h2b; have HF2b := Lib.hid hf2b; clear hb h2b hf2b)
      | (go_at_call 81; refine (HC.out _ H2b.out _ HF2b.out).mono ?_; rintro e w3 ⟨rfl, hb⟩; have h3 : Below w.heap.size w w3 := H2b.out.trans (hb.mono (Nat.le_of_lt m4)); obtain ⟨i1, i2, i3⟩ := bcell hb; have i4 : w.heap.size < w3.heap.size := (by omega); have H3 := Lib.hid h3; clear hb h3)
      | (go_at_call 125; refine (HFC.out _).mono ?_; rintro e w4 ⟨rfl, rfl⟩))
    refine wp_loop_rounds 2 ?_
    repeat any_goals (rw [rounds_succ]; go_wp2_with (first
      | (go_at_call 76; refine (HT.out _ (H2.out.alloc (Nat.le_of_lt j4) _) _ (HF2.out.keep (.alloc (.refl _ _) _))).mono ?_; rintro e w2b ⟨rfl, hb⟩; have h2b : Below w.heap.size w w2b := (H2.out.alloc (Nat.le_of_lt j4) _).trans (hb.mono (by simp; omega)); have hf2b := HF2.out.keep (((Keep.refl NoM w2).alloc _).below hb); obtain ⟨m1, m2, m3⟩ := bcell hb; simp only [World.size_alloc] at m1 m2 m3; have m4 : w.heap.size < w2b.heap.size := (by omega); have m5 : w.heap.size + 1 < w2b.heap.size := (by omega); have m6 : w2.heap.size < w2b.heap.size := (by omega); have m7 : w.heap.size < w2.heap.size + 1 := (by omega); have m8 : w.heap.size + 1 < w2.heap.size + 1 := (by omega); have H2b := Lib.hid h2b; have HF2b := Lib.hid hf2b; clear hb h2b hf2b)
      | (go_at_call 81; refine (HC.out _ H2b.out _ HF2b.out).mono ?_; rintro e w3 ⟨rfl, hb⟩; have h3 : Below w.heap.size w w3 := H2b.out.trans (hb.mono (Nat.le_of_lt m4)); obtain ⟨i1, i2, i3⟩ := bcell hb; have i4 : w.heap.size < w3.heap.size := (by omega); have H3 := Lib.hid h3; clear hb h3)
      | (go_at_call 125; refine (HFC.out _).mono ?_; rintro e w4 ⟨rfl, rfl⟩)))
    go_ret2
    exact ⟨rfl, by first | exact H3.out | exact H2b.out⟩
end

theorem raggregate_any (ts : List Sch) (hsm : ColsSmall ts) (e : Ex) (fs : List Frm) (cs : List Value) (vf vt : Value) (w : World) (he : EC NoM w e cs) (hf : FrmsR NoM w vf fs) (ht : TblsR NoM w vt ts) (hd : fs.length + dep e ≤ 1000000000)
    (hfm : formed e = true) (hk : 8 ≤ e.kind) (hq : ∀ q ∈ e.sub, (∀ x ∈ q.items, RTypeOk ts x) ∧ (∀ x ∈ q.whr, RTypeOk ts x)) :
    Calls Tryd.prog 118 #[.agg cs.toArray, vf, vt] w (RetII (typeSub ts e.kind e.sub fs) w) := by
  obtain ⟨q, hs, hwl, hcase⟩ := formed_sub hfm hk
  obtain ⟨va, vs, rfl, ha, hsr⟩ := (EC_iff ..).1 he
  obtain ⟨a, ac, rfl, _⟩ := ha.shape
  rw [hs] at hsr
  rcases hsr.open with ⟨_, h⟩ | ⟨sb, so, sc, rfl, _, hb, _, _, hx⟩
  · cases h
  obtain ⟨qs, hqc, _, hqs⟩ := hx 0 q rfl
  obtain ⟨vi, vw, rfl, hi, hw⟩ := (QC_iff ..).1 hqc
  obtain ⟨wa, wc, rfl, _⟩ := hw.shape
  rw [Nat.zero_mul, Nat.add_zero] at hqs
  obtain ⟨q0, q1, q2, q3⟩ := hqs.c4
  obtain ⟨hqi, hqw⟩ := hq q (by rw [hs]; exact List.mem_singleton.2 rfl)
  have hdq : dep e ≥ depQ q := by rw [dep_eq, hs]; exact Nat.le_trans (depS_mem (List.mem_singleton.2 rfl)) (Nat.le_max_right _ _)
  have hd1 : max (depL q.items) (depL q.whr) + 1 ≤ dep e := by rw [depQ_eq] at hdq; exact hdq
  have hts : typeSub ts e.kind e.sub fs = typeQ ts e.kind q fs := by rw [hs, typeSub]
  have htq : typeQ ts e.kind q fs = match sourceP ts q.frm with
    | none => (0, 3)
    | some s => match typeL ts q.items (fs ++ [frmOf s]) with
      | .error c => (0, c)
      | .ok l => if typeC ts q.whr (fs ++ [frmOf s]) ≠ 0 then (0, typeC ts q.whr (fs ++ [frmOf s])) else aggP e.kind (l.getLastD 0) := by
    rw [Qu.eta q, typeQ]
    rfl
  rw [hts, htq, sourceP_eq]
  cases hfd : findTbl ts q.frm with
  | none =>
    obtain ⟨ia, ic, rfl, _⟩ := hi.shape
    exact ragg_none ts e.kind e.op e.no e.val.kind e.val.int e.val.text e.table e.name a e.args.length ac sc sb so q.star q.frm ia wa ic wc q.items q.whr vf vt w hb q0 q1 q2 q3 ht hsm hfd
  | some i =>
    have hlt : i < ts.length := by
      unfold findTbl at hfd
      rw [List.findIdx?_eq_some_iff_getElem] at hfd
      exact hfd.1
    have hsi : ts[i]? = some ts[i] := List.getElem?_eq_getElem hlt
    generalize ts[i] = s at hsi
    simp only [hsi]
    rcases hcase with ⟨hk', hit⟩ | ⟨hk', x, hit⟩
    · obtain ⟨ia, ic, rfl, _⟩ := hi.shape
      have := ragg_zero ts e.kind e.op e.no e.val.kind e.val.int e.val.text e.table e.name a e.args.length ac sc sb so q.star q.frm ia wa ic wc q.items q.whr fs vf vt w hb q0 q1 q2 q3 ht hsm hf (by omega) i s hfd hsi (by rw [hit]; rfl) hk' hw hqw (by omega)
      rw [hit, typeL]
      exact this
    · rw [hit] at hi hqi hd1
      rcases hi.open with ⟨_, h⟩ | ⟨ib, io, ic, rfl, _, hib, _, _, hxi⟩
      · cases h
      obtain ⟨xs, hxc, _, hxs⟩ := hxi 0 x rfl
      rw [Nat.zero_mul, Nat.add_zero] at hxs
      have hdx : depL [x] = dep x := by rw [depL, depL]; omega
      rw [hdx] at hd1
      have := ragg_one ts e.kind e.op e.no e.val.kind e.val.int e.val.text e.table e.name a e.args.length ac sc sb so q.star q.frm ib io wa ic wc x q.whr fs vf vt w hb q0 q1 q2 q3 ht hsm hf (by omega) i s hfd hsi hk' xs hib hxs hxc (hqi x (List.mem_singleton.2 rfl)) (by omega) hw hqw (by omega)
      rw [hit, typeL, typeL]
      by_cases hc : (typeP ts x (fs ++ [frmOf s])).2 ≠ 0
      · rw [if_pos hc] at this ⊢
        exact this
      · rw [if_neg hc] at this ⊢
        exact this

section
variable (ts : List Sch) (k o : Int) (no : Bool) (vk vi : Int) (vt t nm : ByteArray) (a sa : Option Addr) (args : List Ex) (an ac sn sc : Nat) (fs : List Frm) (vf vtb : Value) (w : World) (r : Bool)
  (hfm : ∀ w', Below w.heap.size w w' → Calls Tryd.prog 97 #[.agg #[.int .i64 k, .int .i64 o, .bool no, .int .i64 vk, .int .i64 vi, .string vt, .string t, .string nm, .slice a an ac, .slice sa sn sc]] w' (RetBel (.bool r) w'))

set_option maxHeartbeats 1000000 in
include hfm in
theorem rtype_bad (hr : r = false) : Calls Tryd.prog 76 #[.agg #[.int .i64 k, .int .i64 o, .bool no, .int .i64 vk, .int .i64 vi, .string vt, .string t, .string nm, .slice a an ac, .slice sa sn sc], vf, vtb] w (RetII (0, 17) w) := by
  subst hr
  have HF := Lib.hid hfm
  clear hfm
  go_enter Tryd.func76, Tryd.ntmps76
  go_wp2_with (go_at_call 97; refine (HF.out _ (by go_grown)).mono ?_; rintro e w1 ⟨rfl, hb⟩; have HB := Lib.hid hb; clear hb)
  go_ret2
  exact ⟨rfl, ((Below.refl _ w).alloc (Nat.le_refl _) _).trans (HB.out.mono (by simp <;> omega))⟩

set_option maxHeartbeats 1000000 in
include hfm in
theorem rtype_lit (hr : r = true) (hk : k = 1) : Calls Tryd.prog 76 #[.agg #[.int .i64 k, .int .i64 o, .bool no, .int .i64 vk, .int .i64 vi, .string vt, .string t, .string nm, .slice a an ac, .slice sa sn sc], vf, vtb] w (RetII (vk, 0) w) := by
  subst hr
  subst hk
  have HF := Lib.hid hfm
  clear hfm
  go_enter Tryd.func76, Tryd.ntmps76
  go_wp2_with (go_at_call 97; refine (HF.out _ (by go_grown)).mono ?_; rintro e w1 ⟨rfl, hb⟩; obtain ⟨k1, k2, k3⟩ := bcell hb; simp only [World.size_alloc] at k1 k2 k3; have k4 : w.heap.size < w1.heap.size := (by omega); have h1 := ((Below.refl _ w).alloc (Nat.le_refl _) _).trans (hb.mono (by simp <;> omega)); have HB := Lib.hid h1; clear hb h1)
  go_ret2
  exact ⟨rfl, HB.out⟩

set_option maxHeartbeats 1000000 in
include hfm in
theorem rtype_col_none (hr : r = true) (hk : k = 2) (hf : FrmsR NoM w vf fs) (hn : resolve t nm fs = none) : Calls Tryd.prog 76 #[.agg #[.int .i64 k, .int .i64 o, .bool no, .int .i64 vk, .int .i64 vi, .string vt, .string t, .string nm, .slice a an ac, .slice sa sn sc], vf, vtb] w (RetII (0, 3) w) := by
  subst hr
  subst hk
  have hres := fun (w' : World) (hb : Below w.heap.size w w') => rresolve_any (M := NoM) vf fs t nm w' (hf.keep (.bel hb))
  rw [hn] at hres
  have HF := Lib.hid hfm
  have HR := Lib.hid hres
  clear hfm hres hf hn
  go_enter Tryd.func76, Tryd.ntmps76
  go_wp2_with (first | (go_at_call 97; refine (HF.out _ (by go_grown)).mono ?_; rintro e w1 ⟨rfl, hb⟩; obtain ⟨k1, k2, k3⟩ := bcell hb; simp only [World.size_alloc] at k1 k2 k3; have k4 : w.heap.size < w1.heap.size := (by omega); have h1 := ((Below.refl _ w).alloc (Nat.le_refl _) _).trans (hb.mono (by simp <;> omega)); have HB := Lib.hid h1; clear hb h1) | (go_at_call 117; refine (HR.out _ HB.out).mono ?_; rintro e w2 ⟨rfl, hb⟩; simp only [resV]; have h2 := HB.out.trans (hb.mono (Nat.le_of_lt k4)); have H2 := Lib.hid h2; clear hb h2))
  go_ret2
  exact ⟨rfl, H2.out⟩

set_option maxHeartbeats 1000000 in
include hfm in
theorem rtype_col_some (hr : r = true) (hk : k = 2) (hf : FrmsR NoM w vf fs) (i j : Nat) (f : Frm) (c : Col) (hn : resolve t nm fs = some (i, j)) (hi : fs[i]? = some f) (hj : f.cols[j]? = some c) : Calls Tryd.prog 76 #[.agg #[.int .i64 k, .int .i64 o, .bool no, .int .i64 vk, .int .i64 vi, .string vt, .string t, .string nm, .slice a an ac, .slice sa sn sc], vf, vtb] w (RetII (c.type, 0) w) := by
  subst hr
  subst hk
  have hres := fun (w' : World) (hb : Below w.heap.size w w') => rresolve_any (M := NoM) vf fs t nm w' (hf.keep (.bel hb))
  rw [hn] at hres
  have hil : i < fs.length := (List.getElem?_eq_some_iff.1 hi).1
  have hjl : j < f.cols.length := (List.getElem?_eq_some_iff.1 hj).1
  rcases hf.open with ⟨_, h⟩ | ⟨b, of, cap, rfl, _, hb, hcap, hm, hx⟩
  · subst h; simp at hil
  obtain ⟨cs, ⟨vc, fa, fn, fc, rfl, hcols⟩, _, hcs⟩ := hx i f hi
  rcases hcols.open with ⟨_, h⟩ | ⟨cb, co, ccap, rfl, _, hcb, hccap, hcm, hcx⟩
  · rw [h] at hjl; simp at hjl
  obtain ⟨ccs, rfl, _, hccs⟩ := hcx j c hj
  have x2 := hcs.c4.2.2.1
  have y1 := hccs.c4.2.1
  have HF := Lib.hid hfm
  have HR := Lib.hid hres
  clear hfm hres hf hn hx hcx hcs hccs hcols hi hj
  unfold maxLen at hm hcm
  go_enter Tryd.func76, Tryd.ntmps76
  go_wp2_with (first | (go_at_call 97; refine (HF.out _ (by go_grown)).mono ?_; rintro e w1 ⟨rfl, hb⟩; obtain ⟨k1, k2, k3⟩ := bcell hb; simp only [World.size_alloc] at k1 k2 k3; have k4 : w.heap.size < w1.heap.size := (by omega); have h1 := ((Below.refl _ w).alloc (Nat.le_refl _) _).trans (hb.mono (by simp <;> omega)); have HB := Lib.hid h1; clear hb h1) | (go_at_call 117; refine (HR.out _ HB.out).mono ?_; rintro e w2 ⟨rfl, hb⟩; simp only [resV]; have h2 := HB.out.trans (hb.mono (Nat.le_of_lt k4)); obtain ⟨j1, _, _⟩ := bcell h2; have H2 := Lib.hid h2; clear hb h2))
  go_ret2
  exact ⟨rfl, H2.out⟩

set_option maxHeartbeats 1000000 in
include hfm in
theorem rtype_sub (hr : r = true) (hsn : sn = 1) (hk : 8 ≤ k) (hk2 : k ≤ 12) (res : Int × Int)
    (hag : ∀ w', Below w.heap.size w w' → Calls Tryd.prog 118 #[.agg #[.int .i64 k, .int .i64 o, .bool no, .int .i64 vk, .int .i64 vi, .string vt, .string t, .string nm, .slice a an ac, .slice sa sn sc], vf, vtb] w' (RetII res w')) : Calls Tryd.prog 76 #[.agg #[.int .i64 k, .int .i64 o, .bool no, .int .i64 vk, .int .i64 vi, .string vt, .string t, .string nm, .slice a an ac, .slice sa sn sc], vf, vtb] w (RetII res w) := by
  subst hr
  subst hsn
  have HF := Lib.hid hfm
  have HA := Lib.hid hag
  clear hfm hag
  have b1 : (k == 1) = false := by simp; omega
  have b2 : (k == 2) = false := by simp; omega
  have hk' : k = 8 ∨ k = 9 ∨ k = 10 ∨ k = 11 ∨ k = 12 := by omega
  clear hk hk2
  rcases hk' with rfl | rfl | rfl | rfl | rfl
  all_goals
    clear b1 b2
    go_enter Tryd.func76, Tryd.ntmps76
    go_wp2_with (first | (go_at_call 97; refine (HF.out _ (by go_grown)).mono ?_; rintro e w1 ⟨rfl, hb⟩; obtain ⟨k1, k2, k3⟩ := bcell hb; simp only [World.size_alloc] at k1 k2 k3; have k4 : w.heap.size < w1.heap.size := (by omega); have h1 := ((Below.refl _ w).alloc (Nat.le_refl _) _).trans (hb.mono (by simp <;> omega)); have HB := Lib.hid h1; clear hb h1) | (go_at_call 118; refine (HA.out _ HB.out).mono ?_; rintro e w2 ⟨rfl, hb⟩; have h2 := HB.out.trans (hb.mono (Nat.le_of_lt k4)); have H2 := Lib.hid h2; clear hb h2))
    go_ret2
    exact ⟨rfl, H2.out⟩
end

set_option maxRecDepth 100000 in
set_option maxHeartbeats 2000000 in
theorem rtype_args (ts : List Sch) (k o : Int) (no : Bool) (vk vi : Int) (vt t nm : ByteArray) (a sa : Option Addr) (args : List Ex) (ac sn sc : Nat) (fs : List Frm) (vf vtb : Value) (w : World)
    (hfm : ∀ w', Below w.heap.size w w' → Calls Tryd.prog 97 #[.agg #[.int .i64 k, .int .i64 o, .bool no, .int .i64 vk, .int .i64 vi, .string vt, .string t, .string nm, .slice a args.length ac, .slice sa sn sc]] w' (RetBel (.bool true) w'))
    (hsn : sn = 0) (hk : 3 ≤ k) (hk2 : k ≤ 7) (hn : args.length ≤ 3) (ha : ExsR NoM w (.slice a args.length ac) args) (hf : FrmsR NoM w vf fs) (ht : TblsR NoM w vtb ts) (hta : ∀ x ∈ args, RTypeOk ts x) (hd : fs.length + depL args ≤ 1000000000) (res : Int × Int) (hres : (match typeL ts args fs with | .error c => (0, c) | .ok l => operationP k o l) = res) :
    Calls Tryd.prog 76 #[.agg #[.int .i64 k, .int .i64 o, .bool no, .int .i64 vk, .int .i64 vi, .string vt, .string t, .string nm, .slice a args.length ac, .slice sa sn sc], vf, vtb] w (RetII res w) := by
  subst hsn
  have HRES := Lib.hid hres
  clear hres
  obtain ⟨i0, hi0, hz0, hz1, hz2⟩ := info_parts infoInt
  have b1 : (k == 1) = false := by simp; omega
  have b2 : (k == 2) = false := by simp; omega
  have b8 : (k == 8) = false := by simp; omega
  have b9 : (k == 9) = false := by simp; omega
  have b10 : (k == 10) = false := by simp; omega
  have b11 : (k == 11) = false := by simp; omega
  have b12 : (k == 12) = false := by simp; omega
  have hk' := hk
  have hk2' := hk2
  clear hk hk2
  have hty := fun (w' : World) (hb : Below w.heap.size w w') x (hx : x ∈ args) cs (hc : EC NoM w' x cs) => hta x hx fs cs vf vtb w' hc (hf.keep (.bel hb)) (ht.keep (.bel hb)) (by have := depL_mem hx; omega)
  have hop := fun (w' : World) v l (hv : IntsR NoM w' v l) => rresult_any k o no vk vi vt t nm (.slice a args.length ac) (.slice sa 0 sc) v l w' ⟨hk', hk2'⟩ hv
  have HF := Lib.hid hfm
  have HT := Lib.hid hty
  have HO := Lib.hid hop
  have HA := Lib.hid ha
  have HE := Lib.hid (typeL_error ts fs args)
  have HS := Lib.hid (typeL_step ts fs args)
  have H0 : Hid (typeL ts (args.take 0) fs = .ok []) := Lib.hid (by simp [typeL])
  have H1 : Hid (args.take args.length = args) := Lib.hid (by simp)
  clear hfm hty hop ha hf ht hta hd hk' hk2'
  go_enter Tryd.func76, Tryd.ntmps76
  go_wp2_with (go_at_call 97; refine (HF.out _ (by go_grown)).mono ?_; rintro e w1 ⟨rfl, hb⟩; obtain ⟨k1, k2, k3⟩ := bcell hb; simp only [World.size_alloc] at k1 k2 k3; have k4 : w.heap.size < w1.heap.size := (by omega); have h1 := ((Below.refl _ w).alloc (Nat.le_refl _) _).trans (hb.mono (by simp <;> omega)); have HB := Lib.hid h1; clear hb h1)
  go_loopw [11, 62] (fun v i wr => ∃ (j : Nat) (l' : List Int), j ≤ args.length ∧ i = .int .i64 j ∧ Below w1.heap.size w1 wr ∧ l'.length = j ∧ wr.ownsRow w1.heap.size 3 1 v j (l'.map (Value.int .i64)) ∧ typeL ts (args.take j) fs = .ok l') (fun _ i _ => args.length - (intOf i).toNat)
  case atStart => exact ⟨0, [], Nat.zero_le _, rfl, Below.refl _ _, rfl, World.ownsRow_nil .., H0.out⟩
  case round =>
    obtain ⟨j, l', hj, rfl, hbel, hl', hown, hok⟩ := hrel
    obtain ⟨r1, r2, r3⟩ := bcell hbel
    have r4 : w.heap.size < wr.heap.size := by omega
    have h2 := HB.out.trans (hbel.mono (Nat.le_of_lt k4))
    by_cases hlt : j < args.length
    · rcases HA.out.open with ⟨_, h⟩ | ⟨ab, ao, cap', hv', _, hab, _, _, hx⟩
      · rw [h] at hlt; simp at hlt
      simp only [Value.slice.injEq] at hv'
      obtain ⟨rfl, _, rfl⟩ := hv'
      have hxj : args[j]? = some args[j] := List.getElem?_eq_getElem hlt
      obtain ⟨cs, hc, _, hcs⟩ := hx j _ hxj
      have hmem := List.mem_of_getElem? hxj
      have hst := HS.out j _ l' hxj hok
      generalize args[j] = x at hxj hc hmem hst
      have hcw := EC.keep (.bel h2) x cs hc
      have hty := fun o => HT.out (wr.alloc o) (h2.alloc (Nat.le_of_lt r4) o) x hmem cs (EC.keep ((Keep.refl NoM wr).alloc o) x cs hcw)
      have hcs' := hcs.keep (Keep.bel (M := NoM) h2) id
      obtain ⟨va, vs, rfl, hva, hvs⟩ := (EC_iff ..).1 hc
      obtain ⟨xa, xac, rfl, _⟩ := hva.shape
      obtain ⟨xs, xsc, rfl, _⟩ := hvs.shape
      obtain ⟨c0, c1, c2, c3, c4, c5, c6, c7, c8, c9⟩ := CellsAt.c10 hcs'
      simp only [exCells] at hty
      generalize typeP ts x fs = r at hty hst
      obtain ⟨rt, rc⟩ := r
      simp only [] at hst
      have HTY := Lib.hid hty
      have HST := Lib.hid hst
      have HOW := Lib.hid hown
      have HL := Lib.hid hl'
      have HBE := Lib.hid hbel
      have H2 := Lib.hid h2
      clear hty hst hown hl' hbel h2 hok hx hc hcs hcs' hcw hva hvs hxj hmem
      by_cases hr0 : rc = 0
      · subst hr0
        go_wp2_with (first
          | (go_at_call 76; refine (HTY.out _).mono ?_; rintro e w2 ⟨rfl, hb⟩; have HB2 := Lib.hid hb; clear hb)
          | (at_builtin; refine wpList_append_own _ rfl _ _ 28 rfl w1.heap.size 3 i0 (.int .i64 0) 1 8 Tryd.underlying28 hi0 hz0 hz1 hz2 rfl (by decide) _ j (l'.map (Value.int .i64)) rfl ((own_bel (HOW.out.alloc _) HB2.out).alloc _) ⟨w2.heap.size, 0, none⟩ 1 1 [.int .i64 rt] rfl rfl (cell_one_new _ _ _) (by simp [Value.oneCell']) (by unfold maxLen; omega) (by omega) (by have h5 := HB2.out.size; simp at h5 ⊢; omega) ?_; intro v' w3 hown' hgrow _; have HW := Lib.hid hown'; have HG := Lib.hid hgrow; clear hown' hgrow))
        go_roundw
        case rel =>
          have h5 := HB2.out.size
          have hb2 : Below w1.heap.size w1 w2 := (HBE.out.alloc (by omega) _).trans (HB2.out.mono (by simp; omega))
          have hb3 : Below w1.heap.size w1 w3 := (hb2.alloc hb2.size _).grown HG.out (by simp; have := hb2.size; omega) (fun k h => by have := (HOW.out.lt k h).1; omega)
          exact ⟨j + 1, l' ++ [rt], by omega, by go_num, hb3, by simp [HL.out], by simpa using HW.out, by rw [HST.out]; rfl⟩
        case measure => simp [intOf]; omega
      · have hb0 : (rc == 0) = false := by simpa using hr0
        have hb1 : (rc != 0) = true := by simpa using hr0
        clear hr0
        go_wp2_with (go_at_call 76; refine (HTY.out _).mono ?_; rintro e w2 ⟨rfl, hb⟩; have HB2 := Lib.hid hb; clear hb)
        go_ret2
        refine ⟨?_, H2.out.trans (((Below.refl _ wr).alloc (Nat.le_refl _) _).trans (HB2.out.mono (by simp)) |>.mono (Nat.le_of_lt r4))⟩
        have he : typeL ts args fs = .error rc := HE.out (j + 1) rc (by rw [HST.out, if_pos (by simpa using hb1)])
        rw [← HRES.out, he]
        rfl
    · have hja : j = args.length := by omega
      have hint := own_ints (M := NoM) hown hl'.symm fun _ _ _ => id
      have hall : typeL ts args fs = .ok l' := by rw [← hok, hja, H1.out]
      have hlen := HRES.out
      rw [hall] at hlen
      have hopr := HO.out wr u11 l' hint
      simp only [] at hlen
      rw [hlen] at hopr
      have HOP := Lib.hid hopr
      have H2 := Lib.hid h2
      have HJ := Lib.hid hja
      clear hopr hint hall hlen hown hl' hok h2 hbel hja
      have hge : ¬ j < args.length := hlt
      go_wp2_with (go_at_call 119; refine HOP.out.mono ?_; rintro e w2 ⟨rfl, hb⟩; have HB2 := Lib.hid hb; clear hb)
      go_ret2
      exact ⟨rfl, H2.out.trans (HB2.out.mono (Nat.le_of_lt r4))⟩

theorem rtype_any (ts : List Sch) (hsm : ColsSmall ts) (e : Ex) : RTypeOk ts e := by
  refine Ex.ind (P := RTypeOk ts) (fun e hargs hsub => ?_) e
  intro fs cs vf vt w he hf ht hd
  have hfm := fun (w' : World) (hb : Below w.heap.size w w') => shape_formed e ▸ rshape_any (M := NoM) e cs w' (EC.keep (.bel hb) e cs he)
  have hag := fun (w' : World) (hb : Below w.heap.size w w') (h1 : formed e = true) (h2 : 8 ≤ e.kind) => raggregate_any ts hsm e fs cs vf vt w' (EC.keep (.bel hb) e cs he) (hf.keep (.bel hb)) (ht.keep (.bel hb)) hd h1 h2 hsub
  have hdl : fs.length + depL e.args ≤ 1000000000 := by have := dep_eq e; omega
  obtain ⟨va, vs, rfl, ha, hs⟩ := (EC_iff ..).1 he
  obtain ⟨a, ac, rfl, _⟩ := ha.shape
  obtain ⟨s, sc, rfl, _⟩ := hs.shape
  rw [typeP_eq]
  simp only [exCells] at hfm hag ⊢
  cases hfo : formed e with
  | false =>
    rw [if_pos rfl]
    exact rtype_bad _ _ _ _ _ _ _ _ _ _ _ _ _ _ _ _ _ _ hfm hfo
  | true =>
    obtain ⟨g1, g2, g3⟩ := formed_kind hfo
    rw [if_neg (by simp)]
    rw [hfo] at hfm
    by_cases k1 : e.kind = 1
    · rw [if_pos k1]
      exact rtype_lit _ _ _ _ _ _ _ _ _ _ _ _ _ _ _ _ _ _ hfm rfl k1
    rw [if_neg k1]
    by_cases k2 : e.kind = 2
    · rw [if_pos k2]
      cases hr : resolve e.table e.name fs with
      | none => exact rtype_col_none _ _ _ _ _ _ _ _ _ _ _ _ _ _ _ _ _ _ _ hfm rfl k2 hf hr
      | some p =>
        obtain ⟨i, j⟩ := p
        obtain ⟨f, c, hi, hj⟩ := resolve_spec hr
        have hct : colType fs i j = c.type := by simp [colType, hi, hj]
        simp only [hct]
        exact rtype_col_some _ _ _ _ _ _ _ _ _ _ _ _ _ _ _ _ _ _ _ hfm rfl k2 hf i j f c hr hi hj
    rw [if_neg k2]
    by_cases k8 : 8 ≤ e.kind
    · rw [if_pos k8]
      exact rtype_sub _ _ _ _ _ _ _ _ _ _ _ _ _ _ _ _ _ _ hfm rfl (formed_one hfo k8) k8 g2 _ fun w' hb => hag w' hb hfo k8
    · rw [if_neg k8]
      exact rtype_args ts _ _ _ _ _ _ _ _ _ _ _ _ _ _ _ _ _ _ hfm (formed_none hfo (by omega)) (by omega) (by omega) (g3 (by omega) (by omega)) ha hf ht hargs hdl _ rfl

end Go.Proofs.YtppiaaolggpjdaaDoor
