/- Expressions with a query of one item: the rest of the contract of scope.aggregate. -/
import Derived.Test.YtiheioajnfggmaaDoorC10
namespace Go.Proofs.YtiheioajnfggmaaDoor
open Go.RowKit

section
variable (ts : List Sch) (k o : Int) (no : Bool) (vk vi : Int) (vt t nm : ByteArray) (a sa : Option Addr) (an ac : Nat) (sc sb so : Nat) (star : Bool) (frm : ByteArray) (ib io : Nat) (wa : Option Addr) (ic wc : Nat) (x : Ex) (whr : List Ex) (fs : List Frm) (vf vtb : Value) (w : World)
  (hsb : sb < w.heap.size) (q0 : w.cell? ⟨sb, so, none⟩ = some (.bool star)) (q1 : w.cell? ⟨sb, so + 1, none⟩ = some (.slice (some ⟨ib, io, none⟩) 1 ic)) (q2 : w.cell? ⟨sb, so + 2, none⟩ = some (.string frm)) (q3 : w.cell? ⟨sb, so + 3, none⟩ = some (.slice wa whr.length wc))
  (hts : TblsR NoM w vtb ts) (hsm : ColsSmall ts)

include hsb q0 q1 q2 q3 hts hsm in
set_option maxHeartbeats 2000000 in
theorem agg_one (hf : FrmsR NoM w vf fs) (hd : fs.length ≤ 999999999) (i : Nat) (s : Sch) (hs : findTbl ts frm = some i) (hi : ts[i]? = some s) (hk : k = 10 ∨ k = 11 ∨ k = 12)
    (cs : List Value) (hib : ib < w.heap.size) (hcs : CellsAt w ib io cs) (hx : EC NoM w x cs) (htx : TypeOk ts x) (hdx : fs.length + 1 + dep x ≤ 1000000000)
    (hw : ExsR NoM w (.slice wa whr.length wc) whr) (htw : ∀ e ∈ whr, TypeOk ts e) (hdw : fs.length + 1 + depL whr ≤ 1000000000) :
    Calls Tryd.prog 69 #[.agg #[.int .i64 k, .int .i64 o, .bool no, .int .i64 vk, .int .i64 vi, .string vt, .string t, .string nm, .slice a an ac, .slice (some ⟨sb, so, none⟩) 1 sc], vf, vtb] w (RetII (if (typeP ts x (fs ++ [frmOf s])).2 ≠ 0 then (0, (typeP ts x (fs ++ [frmOf s])).2) else if typeC ts whr (fs ++ [frmOf s]) ≠ 0 then (0, typeC ts whr (fs ++ [frmOf s])) else aggP k (typeP ts x (fs ++ [frmOf s])).1) w) := by
  have hsrc := fun (w' : World) (hb : Below w.heap.size w w') => source_some vtb ts frm w' i s (hts.keep (.bel hb)) hs hi (hsm s (List.mem_of_getElem? hi))
  have hin := fun (w' : World) (hb : Below w.heap.size w w') vc (hc : ColsR NoM w' vc s.cols) => inside_any vf vc fs s.name s.cols w' (hf.keep (.bel hb)) hc (by omega)
  have hcd := fun (w' : World) (hb : Below w.heap.size w w') v (hv : FrmsR NoM w' v (fs ++ [frmOf s])) => condition_any ts whr (fs ++ [frmOf s]) (.slice wa whr.length wc) v vtb w' htw (hw.keep (.bel hb)) hv (hts.keep (.bel hb)) (by simp; omega)
  have hty := fun (w' : World) (hb : Below w.heap.size w w') v (hv : FrmsR NoM w' v (fs ++ [frmOf s])) => htx (fs ++ [frmOf s]) cs v vtb w' (EC.keep (.bel hb) x cs hx) hv (hts.keep (.bel hb)) (by simp; omega)
  generalize typeC ts whr (fs ++ [frmOf s]) = c at hcd
  generalize typeP ts x (fs ++ [frmOf s]) = r at hty
  obtain ⟨rt, rc⟩ := r
  obtain ⟨va, vs, rfl, ha, hs'⟩ := (EC_iff ..).1 hx
  obtain ⟨xa, xac, rfl, _⟩ := ha.shape
  obtain ⟨xs, xsc, rfl, _⟩ := hs'.shape
  obtain ⟨c0, c1, c2, c3, c4, c5, c6, c7, c8, c9⟩ := CellsAt.c10 hcs
  simp only [exCells] at hty
  have HS := Lib.hid hsrc
  have HI := Lib.hid hin
  have HC := Lib.hid hcd
  have HT := Lib.hid hty
  clear hsrc hin hcd hty hts hsm hs hi hf hd hw htw hdw hcs hx htx hdx ha hs'
  simp only []
  by_cases hr0 : rc = 0
  · subst hr0
    rw [if_neg (by simp)]
    by_cases hc0 : c = 0
    · subst hc0
      rw [if_neg (by simp)]
      rcases hk with rfl | rfl | rfl
      · cases hfit : fitsB rt 1 with
        | true =>
          have hfc := fun w => fits_any rt 1 w
          rw [hfit] at hfc
          have HR : Hid (aggP 10 rt = (1, 0)) := Lib.hid (by simp [aggP, hfit])
          have HFC := Lib.hid hfc
          clear hfc hfit
          rw [HR.out]
          go_enter Tryd.func69, Tryd.ntmps69
          go_wp2_with (first
            | (go_at_call 28; refine (HS.out _ (by go_grown)).mono ?_; rintro e w1 ⟨vc1, rfl, hc1, hb⟩; obtain ⟨c1a, c1c, rfl, _⟩ := hc1.shape; have h1 : Below w.heap.size w w1 := Below.trans (by go_grown) (hb.mono (by simp <;> omega)); obtain ⟨k1, k2, k3⟩ := bcell hb; simp only [World.size_alloc] at k1 k2 k3; have k4 : w.heap.size < w1.heap.size := (by omega); have k5 : w.heap.size + 1 < w1.heap.size := (by omega); have k6 : ib < w.heap.size + 1 + 1 := (by omega); have k7 : ib < w1.heap.size := (by omega); have k8 : ib < w1.heap.size + 1 := (by omega); have H1 := Lib.hid h1; have HC1 := Lib.hid (hc1.weak (M' := NoM) fun _ _ h => h.elim); clear hb h1 hc1)
            | (go_at_call 111; refine (HI.out _ (H1.out.alloc (by omega) _) _ (HC1.out.keep (.alloc (.refl _ _) _))).mono ?_; rintro e w2 ⟨v2, rfl, hf2, hb⟩; have h2 : Below w.heap.size w w2 := (H1.out.alloc (by omega) _).trans (hb.mono (by simp <;> omega)); obtain ⟨j1, j2, j3⟩ := bcell hb; simp only [World.size_alloc] at j1 j2 j3; have j4 : w.heap.size < w2.heap.size := (by omega); have j5 : w.heap.size + 1 < w2.heap.size := (by omega); have j6 : w.heap.size < w1.heap.size + 1 := (by omega); have j7 : w.heap.size + 1 < w1.heap.size + 1 := (by omega); have H2 := Lib.hid h2; have HF2 := Lib.hid hf2; clear hb h2 hf2)
            | (go_at_call 22; refine (HT.out _ (H2.out.alloc (Nat.le_of_lt j4) _) _ (HF2.out.keep (.alloc (.refl _ _) _))).mono ?_; rintro e w2b ⟨rfl, hb⟩; have h2b : Below w.heap.size w w2b := (H2.out.alloc (Nat.le_of_lt j4) _).trans (hb.mono (by simp; omega)); have hf2b := HF2.out.keep (((Keep.refl NoM w2).alloc _).below hb); obtain ⟨m1, m2, m3⟩ := bcell hb; simp only [World.size_alloc] at m1 m2 m3; have m4 : w.heap.size < w2b.heap.size := (by omega); have m5 : w.heap.size + 1 < w2b.heap.size := (by omega); have m6 : w2.heap.size < w2b.heap.size := (by omega); have m7 : w.heap.size < w2.heap.size + 1 := (by omega); have m8 : w.heap.size + 1 < w2.heap.size + 1 := (by omega); have H2b := Lib.hid h2b; have HF2b := Lib.hid hf2b; clear hb h2b hf2b)
            | (go_at_call 97; refine (HC.out _ H2b.out _ HF2b.out).mono ?_; rintro e w3 ⟨rfl, hb⟩; have h3 : Below w.heap.size w w3 := H2b.out.trans (hb.mono (Nat.le_of_lt m4)); obtain ⟨i1, i2, i3⟩ := bcell hb; have i4 : w.heap.size < w3.heap.size := (by omega); have H3 := Lib.hid h3; clear hb h3)
            | (go_at_call 112; refine (HFC.out _).mono ?_; rintro e w4 ⟨rfl, rfl⟩))
          refine wp_loop_rounds 2 ?_
          repeat any_goals (rw [rounds_succ]; go_wp2_with (first
            | (go_at_call 22; refine (HT.out _ (H2.out.alloc (Nat.le_of_lt j4) _) _ (HF2.out.keep (.alloc (.refl _ _) _))).mono ?_; rintro e w2b ⟨rfl, hb⟩; have h2b : Below w.heap.size w w2b := (H2.out.alloc (Nat.le_of_lt j4) _).trans (hb.mono (by simp; omega)); have hf2b := HF2.out.keep (((Keep.refl NoM w2).alloc _).below hb); obtain ⟨m1, m2, m3⟩ := bcell hb; simp only [World.size_alloc] at m1 m2 m3; have m4 : w.heap.size < w2b.heap.size := (by omega); have m5 : w.heap.size + 1 < w2b.heap.size := (by omega); have m6 : w2.heap.size < w2b.heap.size := (by omega); have m7 : w.heap.size < w2.heap.size + 1 := (by omega); have m8 : w.heap.size + 1 < w2.heap.size + 1 := (by omega); have H2b := Lib.hid h2b; have HF2b := Lib.hid hf2b; clear hb h2b hf2b)
            | (go_at_call 97; refine (HC.out _ H2b.out _ HF2b.out).mono ?_; rintro e w3 ⟨rfl, hb⟩; have h3 : Below w.heap.size w w3 := H2b.out.trans (hb.mono (Nat.le_of_lt m4)); obtain ⟨i1, i2, i3⟩ := bcell hb; have i4 : w.heap.size < w3.heap.size := (by omega); have H3 := Lib.hid h3; clear hb h3)
            | (go_at_call 112; refine (HFC.out _).mono ?_; rintro e w4 ⟨rfl, rfl⟩)))
          go_ret2
          exact ⟨rfl, by first | exact H3.out | exact H2b.out⟩
        | false =>
          have hfc := fun w => fits_any rt 1 w
          rw [hfit] at hfc
          have HR : Hid (aggP 10 rt = (0, 5)) := Lib.hid (by simp [aggP, hfit])
          have HFC := Lib.hid hfc
          clear hfc hfit
          rw [HR.out]
          go_enter Tryd.func69, Tryd.ntmps69
          go_wp2_with (first
            | (go_at_call 28; refine (HS.out _ (by go_grown)).mono ?_; rintro e w1 ⟨vc1, rfl, hc1, hb⟩; obtain ⟨c1a, c1c, rfl, _⟩ := hc1.shape; have h1 : Below w.heap.size w w1 := Below.trans (by go_grown) (hb.mono (by simp <;> omega)); obtain ⟨k1, k2, k3⟩ := bcell hb; simp only [World.size_alloc] at k1 k2 k3; have k4 : w.heap.size < w1.heap.size := (by omega); have k5 : w.heap.size + 1 < w1.heap.size := (by omega); have k6 : ib < w.heap.size + 1 + 1 := (by omega); have k7 : ib < w1.heap.size := (by omega); have k8 : ib < w1.heap.size + 1 := (by omega); have H1 := Lib.hid h1; have HC1 := Lib.hid (hc1.weak (M' := NoM) fun _ _ h => h.elim); clear hb h1 hc1)
            | (go_at_call 111; refine (HI.out _ (H1.out.alloc (by omega) _) _ (HC1.out.keep (.alloc (.refl _ _) _))).mono ?_; rintro e w2 ⟨v2, rfl, hf2, hb⟩; have h2 : Below w.heap.size w w2 := (H1.out.alloc (by omega) _).trans (hb.mono (by simp <;> omega)); obtain ⟨j1, j2, j3⟩ := bcell hb; simp only [World.size_alloc] at j1 j2 j3; have j4 : w.heap.size < w2.heap.size := (by omega); have j5 : w.heap.size + 1 < w2.heap.size := (by omega); have j6 : w.heap.size < w1.heap.size + 1 := (by omega); have j7 : w.heap.size + 1 < w1.heap.size + 1 := (by omega); have H2 := Lib.hid h2; have HF2 := Lib.hid hf2; clear hb h2 hf2)
            | (go_at_call 22; refine (HT.out _ (H2.out.alloc (Nat.le_of_lt j4) _) _ (HF2.out.keep (.alloc (.refl _ _) _))).mono ?_; rintro e w2b ⟨rfl, hb⟩; have h2b : Below w.heap.size w w2b := (H2.out.alloc (Nat.le_of_lt j4) _).trans (hb.mono (by simp; omega)); have hf2b := HF2.out.keep (((Keep.refl NoM w2).alloc _).below hb); obtain ⟨m1, m2, m3⟩ := bcell hb; simp only [World.size_alloc] at m1 m2 m3; have m4 : w.heap.size < w2b.heap.size := (by omega); have m5 : w.heap.size + 1 < w2b.heap.size := (by omega); have m6 : w2.heap.size < w2b.heap.size := (by omega); have m7 : w.heap.size < w2.heap.size + 1 := (by omega); have m8 : w.heap.size + 1 < w2.heap.size + 1 := (by omega); have H2b := Lib.hid h2b; have HF2b := Lib.hid hf2b; clear hb h2b hf2b)
            | (go_at_call 97; refine (HC.out _ H2b.out _ HF2b.out).mono ?_; rintro e w3 ⟨rfl, hb⟩; have h3 : Below w.heap.size w w3 := H2b.out.trans (hb.mono (Nat.le_of_lt m4)); obtain ⟨i1, i2, i3⟩ := bcell hb; have i4 : w.heap.size < w3.heap.size := (by omega); have H3 := Lib.hid h3; clear hb h3)
            | (go_at_call 112; refine (HFC.out _).mono ?_; rintro e w4 ⟨rfl, rfl⟩))
          refine wp_loop_rounds 2 ?_
          repeat any_goals (rw [rounds_succ]; go_wp2_with (first
            | (go_at_call 22; refine (HT.out _ (H2.out.alloc (Nat.le_of_lt j4) _) _ (HF2.out.keep (.alloc (.refl _ _) _))).mono ?_; rintro e w2b ⟨rfl, hb⟩; have h2b : Below w.heap.size w w2b := (H2.out.alloc (Nat.le_of_lt j4) _).trans (hb.mono (by simp; omega)); have hf2b := HF2.out.keep (((Keep.refl NoM w2).alloc _).below hb); obtain ⟨m1, m2, m3⟩ := bcell hb; simp only [World.size_alloc] at m1 m2 m3; have m4 : w.heap.size < w2b.heap.size := (by omega); have m5 : w.heap.size + 1 < w2b.heap.size := (by omega); have m6 : w2.heap.size < w2b.heap.size := (by omega); have m7 : w.heap.size < w2.heap.size + 1 := (by omega); have m8 : w.heap.size + 1 < w2.heap.size + 1 := (by omega); have H2b := Lib.hid h2b; have HF2b := Lib.hid hf2b; clear hb h2b hf2b)
            | (go_at_call 97; refine (HC.out _ H2b.out _ HF2b.out).mono ?_; rintro e w3 ⟨rfl, hb⟩; have h3 : Below w.heap.size w w3 := H2b.out.trans (hb.mono (Nat.le_of_lt m4)); obtain ⟨i1, i2, i3⟩ := bcell hb; have i4 : w.heap.size < w3.heap.size := (by omega); have H3 := Lib.hid h3; clear hb h3)
            | (go_at_call 112; refine (HFC.out _).mono ?_; rintro e w4 ⟨rfl, rfl⟩)))
          go_ret2
          exact ⟨rfl, by first | exact H3.out | exact H2b.out⟩
      · have HFC : Hid True := trivial
        rw [show aggP 11 rt = (rt, 0) from rfl]
        go_enter Tryd.func69, Tryd.ntmps69
        go_wp2_with (first
          | (go_at_call 28; refine (HS.out _ (by go_grown)).mono ?_; rintro e w1 ⟨vc1, rfl, hc1, hb⟩; obtain ⟨c1a, c1c, rfl, _⟩ := hc1.shape; have h1 : Below w.heap.size w w1 := Below.trans (by go_grown) (hb.mono (by simp <;> omega)); obtain ⟨k1, k2, k3⟩ := bcell hb; simp only [World.size_alloc] at k1 k2 k3; have k4 : w.heap.size < w1.heap.size := (by omega); have k5 : w.heap.size + 1 < w1.heap.size := (by omega); have k6 : ib < w.heap.size + 1 + 1 := (by omega); have k7 : ib < w1.heap.size := (by omega); have k8 : ib < w1.heap.size + 1 := (by omega); have H1 := Lib.hid h1; have HC1 := Lib.hid (hc1.weak (M' := NoM) fun _ _ h => h.elim); clear hb h1 hc1)
          | (go_at_call 111; refine (HI.out _ (H1.out.alloc (by omega) _) _ (HC1.out.keep (.alloc (.refl _ _) _))).mono ?_; rintro e w2 ⟨v2, rfl, hf2, hb⟩; have h2 : Below w.heap.size w w2 := (H1.out.alloc (by omega) _).trans (hb.mono (by simp <;> omega)); obtain ⟨j1, j2, j3⟩ := bcell hb; simp only [World.size_alloc] at j1 j2 j3; have j4 : w.heap.size < w2.heap.size := (by omega); have j5 : w.heap.size + 1 < w2.heap.size := (by omega); have j6 : w.heap.size < w1.heap.size + 1 := (by omega); have j7 : w.heap.size + 1 < w1.heap.size + 1 := (by omega); have H2 := Lib.hid h2; have HF2 := Lib.hid hf2; clear hb h2 hf2)
          | (go_at_call 22; refine (HT.out _ (H2.out.alloc (Nat.le_of_lt j4) _) _ (HF2.out.keep (.alloc (.refl _ _) _))).mono ?_; rintro e w2b ⟨rfl, hb⟩; have h2b : Below w.heap.size w w2b := (H2.out.alloc (Nat.le_of_lt j4) _).trans (hb.mono (by simp; omega)); have hf2b := HF2.out.keep (((Keep.refl NoM w2).alloc _).below hb); obtain ⟨m1, m2, m3⟩ := bcell hb; simp only [World.size_alloc] at m1 m2 m3; have m4 : w.heap.size < w2b.heap.size := (by omega); have m5 : w.heap.size + 1 < w2b.heap.size := (by omega); have m6 : w2.heap.size < w2b.heap.size := (by omega); have m7 : w.heap.size < w2.heap.size + 1 := (by omega); have m8 : w.heap.size + 1 < w2.heap.size + 1 := (by omega); have H2b := Lib.hid h2b; have HF2b := Lib.hid hf2b; clear hb h2b hf2b)
          | (go_at_call 97; refine (HC.out _ H2b.out _ HF2b.out).mono ?_; rintro e w3 ⟨rfl, hb⟩; have h3 : Below w.heap.size w w3 := H2b.out.trans (hb.mono (Nat.le_of_lt m4)); obtain ⟨i1, i2, i3⟩ := bcell hb; have i4 : w.heap.size < w3.heap.size := (by omega); have H3 := Lib.hid h3; clear hb h3)
          | (go_at_call 112; refine (HFC.out _).mono ?_; rintro e w4 ⟨rfl, rfl⟩))
        refine wp_loop_rounds 2 ?_
        repeat any_goals (rw [rounds_succ]; go_wp2_with (first
          | (go_at_call 22; refine (HT.out _ (H2.out.alloc (Nat.le_of_lt j4) _) _ (HF2.out.keep (.alloc (.refl _ _) _))).mono ?_; rintro e w2b ⟨rfl, hb⟩; have h2b : Below w.heap.size w w2b := (H2.out.alloc (Nat.le_of_lt j4) _).trans (hb.mono (by simp; omega)); have hf2b := HF2.out.keep (((Keep.refl NoM w2).alloc _).below hb); obtain ⟨m1, m2, m3⟩ := bcell hb; simp only [World.size_alloc] at m1 m2 m3; have m4 : w.heap.size < w2b.heap.size := (by omega); have m5 : w.heap.size + 1 < w2b.heap.size := (by omega); have m6 : w2.heap.size < w2b.heap.size := (by omega); have m7 : w.heap.size < w2.heap.size + 1 := (by omega); have m8 : w.heap.size + 1 < w2.heap.size + 1 := (by omega); have H2b := Lib.hid h2b; have HF2b := Lib.hid hf2b; clear hb h2b hf2b)
          | (go_at_call 97; refine (HC.out _ H2b.out _ HF2b.out).mono ?_; rintro e w3 ⟨rfl, hb⟩; have h3 : Below w.heap.size w w3 := H2b.out.trans (hb.mono (Nat.le_of_lt m4)); obtain ⟨i1, i2, i3⟩ := bcell hb; have i4 : w.heap.size < w3.heap.size := (by omega); have H3 := Lib.hid h3; clear hb h3)
          | (go_at_call 112; refine (HFC.out _).mono ?_; rintro e w4 ⟨rfl, rfl⟩)))
        go_ret2
        exact ⟨rfl, by first | exact H3.out | exact H2b.out⟩
      · have HFC : Hid True := trivial
        rw [show aggP 12 rt = (rt, 0) from rfl]
        go_enter Tryd.func69, Tryd.ntmps69
        go_wp2_with (first
          | (go_at_call 28; refine (HS.out _ (by go_grown)).mono ?_; rintro e w1 ⟨vc1, rfl, hc1, hb⟩; obtain ⟨c1a, c1c, rfl, _⟩ := hc1.shape; have h1 : Below w.heap.size w w1 := Below.trans (by go_grown) (hb.mono (by simp <;> omega)); obtain ⟨k1, k2, k3⟩ := bcell hb; simp only [World.size_alloc] at k1 k2 k3; have k4 : w.heap.size < w1.heap.size := (by omega); have k5 : w.heap.size + 1 < w1.heap.size := (by omega); have k6 : ib < w.heap.size + 1 + 1 := (by omega); have k7 : ib < w1.heap.size := (by omega); have k8 : ib < w1.heap.size + 1 := (by omega); have H1 := Lib.hid h1; have HC1 := Lib.hid (hc1.weak (M' := NoM) fun _ _ h => h.elim); clear hb h1 hc1)
          | (go_at_call 111; refine (HI.out _ (H1.out.alloc (by omega) _) _ (HC1.out.keep (.alloc (.refl _ _) _))).mono ?_; rintro e w2 ⟨v2, rfl, hf2, hb⟩; have h2 : Below w.heap.size w w2 := (H1.out.alloc (by omega) _).trans (hb.mono (by simp <;> omega)); obtain ⟨j1, j2, j3⟩ := bcell hb; simp only [World.size_alloc] at j1 j2 j3; have j4 : w.heap.size < w2.heap.size := (by omega); have j5 : w.heap.size + 1 < w2.heap.size := (by omega); have j6 : w.heap.size < w1.heap.size + 1 := (by omega); have j7 : w.heap.size + 1 < w1.heap.size + 1 := (by omega); have H2 := Lib.hid h2; have HF2 := Lib.hid hf2; clear hb h2 hf2)
          | (go_at_call 22; refine (HT.out _ (H2.out.alloc (Nat.le_of_lt j4) _) _ (HF2.out.keep (.alloc (.refl _ _) _))).mono ?_; rintro e w2b ⟨rfl, hb⟩; have h2b : Below w.heap.size w w2b := (H2.out.alloc (Nat.le_of_lt j4) _).trans (hb.mono (by simp; omega)); have hf2b := HF2.out.keep (((Keep.refl NoM w2).alloc _).below hb); obtain ⟨m1, m2, m3⟩ := bcell hb; simp only [World.size_alloc] at m1 m2 m3; have m4 : w.heap.size < w2b.heap.size := (by omega); have m5 : w.heap.size + 1 < w2b.heap.size := (by omega); have m6 : w2.heap.size < w2b.heap.size := (by omega); have m7 : w.heap.size < w2.heap.size + 1 := (by omega); have m8 : w.heap.size + 1 < w2.heap.size + 1 := (by omega); have H2b := Lib.hid h2b; have HF2b := Lib.hid hf2b; clear hb h2b hf2b)
          | (go_at_call 97; refine (HC.out _ H2b.out _ HF2b.out).mono ?_; rintro e w3 ⟨rfl, hb⟩; have h3 : Below w.heap.size w w3 := H2b.out.trans (hb.mono (Nat.le_of_lt m4)); obtain ⟨i1, i2, i3⟩ := bcell hb; have i4 : w.heap.size < w3.heap.size := (by omega); have H3 := Lib.hid h3; clear hb h3)
          | (go_at_call 112; refine (HFC.out _).mono ?_; rintro e w4 ⟨rfl, rfl⟩))
        refine wp_loop_rounds 2 ?_
        repeat any_goals (rw [rounds_succ]; go_wp2_with (first
          | (go_at_call 22; refine (HT.out _ (H2.out.alloc (Nat.le_of_lt j4) _) _ (HF2.out.keep (.alloc (.refl _ _) _))).mono ?_; rintro e w2b ⟨rfl, hb⟩; have h2b : Below w.heap.size w w2b := (H2.out.alloc (Nat.le_of_lt j4) _).trans (hb.mono (by simp; omega)); have hf2b := HF2.out.keep (((Keep.refl NoM w2).alloc _).below hb); obtain ⟨m1, m2, m3⟩ := bcell hb; simp only [World.size_alloc] at m1 m2 m3; have m4 : w.heap.size < w2b.heap.size := (by omega); have m5 : w.heap.size + 1 < w2b.heap.size := (by omega); have m6 : w2.heap.size < w2b.heap.size := (by omega); have m7 : w.heap.size < w2.heap.size + 1 := (by omega); have m8 : w.heap.size + 1 < w2.heap.size + 1 := (by omega); have H2b := Lib.hid h2b; have HF2b := Lib.hid hf2b; clear hb h2b hf2b)
          | (go_at_call 97; refine (HC.out _ H2b.out _ HF2b.out).mono ?_; rintro e w3 ⟨rfl, hb⟩; have h3 : Below w.heap.size w w3 := H2b.out.trans (hb.mono (Nat.le_of_lt m4)); obtain ⟨i1, i2, i3⟩ := bcell hb; have i4 : w.heap.size < w3.heap.size := (by omega); have H3 := Lib.hid h3; clear hb h3)
          | (go_at_call 112; refine (HFC.out _).mono ?_; rintro e w4 ⟨rfl, rfl⟩)))
        go_ret2
        exact ⟨rfl, by first | exact H3.out | exact H2b.out⟩
    · have HFC : Hid True := trivial
      have hb0 : (c == 0) = false := by simpa using hc0
      have hb1 : (c != 0) = true := by simpa using hc0
      rw [if_pos hc0]
      clear hk hc0
      go_enter Tryd.func69, Tryd.ntmps69
      go_wp2_with (first
        | (go_at_call 28; refine (HS.out _ (by go_grown)).mono ?_; rintro e w1 ⟨vc1, rfl, hc1, hb⟩; obtain ⟨c1a, c1c, rfl, _⟩ := hc1.shape; have h1 : Below w.heap.size w w1 := Below.trans (by go_grown) (hb.mono (by simp <;> omega)); obtain ⟨k1, k2, k3⟩ := bcell hb; simp only [World.size_alloc] at k1 k2 k3; have k4 : w.heap.size < w1.heap.size := (by omega); have k5 : w.heap.size + 1 < w1.heap.size := (by omega); have k6 : ib < w.heap.size + 1 + 1 := (by omega); have k7 : ib < w1.heap.size := (by omega); have k8 : ib < w1.heap.size + 1 := (by omega); have H1 := Lib.hid h1; have HC1 := Lib.hid (hc1.weak (M' := NoM) fun _ _ h => h.elim); clear hb h1 hc1)
        | (go_at_call 111; refine (HI.out _ (H1.out.alloc (by omega) _) _ (HC1.out.keep (.alloc (.refl _ _) _))).mono ?_; rintro e w2 ⟨v2, rfl, hf2, hb⟩; have h2 : Below w.heap.size w w2 := (H1.out.alloc (by omega) _).trans (hb.mono (by simp <;> omega)); obtain ⟨j1, j2, j3⟩ := bcell hb; simp only [World.size_alloc] at j1 j2 j3; have j4 : w.heap.size < w2.heap.size := (by omega); have j5 : w.heap.size + 1 < w2.heap.size := (by omega); have j6 : w.heap.size < w1.heap.size + 1 := (by omega); have j7 : w.heap.size + 1 < w1.heap.size + 1 := (by omega); have H2 := Lib.hid h2; have HF2 := Lib.hid hf2; clear hb h2 hf2)
        | (go_at_call 22; refine (HT.out _ (H2.out.alloc (Nat.le_of_lt j4) _) _ (HF2.out.keep (.alloc (.refl _ _) _))).mono ?_; rintro e w2b ⟨rfl, hb⟩; have h2b : Below w.heap.size w w2b := (H2.out.alloc (Nat.le_of_lt j4) _).trans (hb.mono (by simp; omega)); have hf2b := HF2.out.keep (((Keep.refl NoM w2).alloc _).below hb); obtain ⟨m1, m2, m3⟩ := bcell hb; simp only [World.size_alloc] at m1 m2 m3; have m4 : w.heap.size < w2b.heap.size := (by omega); have m5 : w.heap.size + 1 < w2b.heap.size := (by omega); have m6 : w2.heap.size < w2b.heap.size := (by omega); have m7 : w.heap.size < w2.heap.size + 1 := (by omega); have m8 : w.heap.size + 1 < w2.heap.size + 1 := (by omega); have H2b := Lib.hid h2b; have HF2b := Lib.hid hf2b; clear hb h2b hf2b)
        | (go_at_call 97; refine (HC.out _ H2b.out _ HF2b.out).mono ?_; rintro e w3 ⟨rfl, hb⟩; have h3 : Below w.heap.size w w3 := H2b.out.trans (hb.mono (Nat.le_of_lt m4)); obtain ⟨i1, i2, i3⟩ := bcell hb; have i4 : w.heap.size < w3.heap.size := (by omega); have H3 := Lib.hid h3; clear hb h3)
        | (go_at_call 112; refine (HFC.out _).mono ?_; rintro e w4 ⟨rfl, rfl⟩))
      refine wp_loop_rounds 2 ?_
      repeat any_goals (rw [rounds_succ]; go_wp2_with (first
        | (go_at_call 22; refine (HT.out _ (H2.out.alloc (Nat.le_of_lt j4) _) _ (HF2.out.keep (.alloc (.refl _ _) _))).mono ?_; rintro e w2b ⟨rfl, hb⟩; have h2b : Below w.heap.size w w2b := (H2.out.alloc (Nat.le_of_lt j4) _).trans (hb.mono (by simp; omega)); have hf2b := HF2.out.keep (((Keep.refl NoM w2).alloc _).below hb); obtain ⟨m1, m2, m3⟩ := bcell hb; simp only [World.size_alloc] at m1 m2 m3; have m4 : w.heap.size < w2b.heap.size := (by omega); have m5 : w.heap.size + 1 < w2b.heap.size := (by omega); have m6 : w2.heap.size < w2b.heap.size := (by omega); have m7 : w.heap.size < w2.heap.size + 1 := (by omega); have m8 : w.heap.size + 1 < w2.heap.size + 1 := (by omega); have H2b := Lib.hid h2b; have HF2b := Lib.hid hf2b; clear hb h2b hf2b)
        | (go_at_call 97; refine (HC.out _ H2b.out _ HF2b.out).mono ?_; rintro e w3 ⟨rfl, hb⟩; have h3 : Below w.heap.size w w3 := H2b.out.trans (hb.mono (Nat.le_of_lt m4)); obtain ⟨i1, i2, i3⟩ := bcell hb; have i4 : w.heap.size < w3.heap.size := (by omega); have H3 := Lib.hid h3; clear hb h3)
        | (go_at_call 112; refine (HFC.out _).mono ?_; rintro e w4 ⟨rfl, rfl⟩)))
      go_ret2
      exact ⟨rfl, by first | exact H3.out | exact H2b.out⟩
  · have HFC : Hid True := trivial
    have hb0 : (rc == 0) = false := by simpa using hr0
    have hb1 : (rc != 0) = true := by simpa using hr0
    rw [if_pos hr0]
    clear hk hr0
    go_enter Tryd.func69, Tryd.ntmps69
    go_wp2_with (first
      | (go_at_call 28; refine (HS.out _ (by go_grown)).mono ?_; rintro e w1 ⟨vc1, rfl, hc1, hb⟩; obtain ⟨c1a, c1c, rfl, _⟩ := hc1.shape; have h1 : Below w.heap.size w w1 := Below.trans (by go_grown) (hb.mono (by simp <;> omega)); obtain ⟨k1, k2, k3⟩ := bcell hb; simp only [World.size_alloc] at k1 k2 k3; have k4 : w.heap.size < w1.heap.size := (by omega); have k5 : w.heap.size + 1 < w1.heap.size := (by omega); have k6 : ib < w.heap.size + 1 + 1 := (by omega); have k7 : ib < w1.heap.size := (by omega); have k8 : ib < w1.heap.size + 1 := (by omega); have H1 := Lib.hid h1; have HC1 := Lib.hid (hc1.weak (M' := NoM) fun _ _ h => h.elim); clear hb h1 hc1)
      | (go_at_call 111; refine (HI.out _ (H1.out.alloc (by omega) _) _ (HC1.out.keep (.alloc (.refl _ _) _))).mono ?_; rintro e w2 ⟨v2, rfl, hf2, hb⟩; have h2 : Below w.heap.size w w2 := (H1.out.alloc (by omega) _).trans (hb.mono (by simp <;> omega)); obtain ⟨j1, j2, j3⟩ := bcell hb; simp only [World.size_alloc] at j1 j2 j3; have j4 : w.heap.size < w2.heap.size := (by omega); have j5 : w.heap.size + 1 < w2.heap.size := (by omega); have j6 : w.heap.size < w1.heap.size + 1 := (by omega); have j7 : w.heap.size + 1 < w1.heap.size + 1 := (by omega); have H2 := Lib.hid h2; have HF2 := Lib.hid hf2; clear hb h2 hf2)
      | (go_at_call 22; refine (HT.out _ (H2.out.alloc (Nat.le_of_lt j4) _) _ (HF2.out.keep (.alloc (.refl _ _) _))).mono ?_; rintro e w2b ⟨rfl, hb⟩; have h2b : Below w.heap.size w w2b := (H2.out.alloc (Nat.le_of_lt j4) _).trans (hb.mono (by simp; omega)); have hf2b := HF2.out.keep (((Keep.refl NoM w2).alloc _).below hb); obtain ⟨m1, m2, m3⟩ := bcell hb; simp only [World.size_alloc] at m1 m2 m3; have m4 : w.heap.size < w2b.heap.size := (by omega); have m5 : w.heap.size + 1 < w2b.heap.size := (by omega); have m6 : w2.heap.size < w2b.heap.size := (by omega); have m7 : w.heap.size < w2.heap.size + 1 := (by omega); have m8 : w.heap.size + 1 < w2.heap.size + 1 := (by omega); have H2b := Lib.hid h2b; have HF2b := Lib.hid hf2b; clear hb h2b hf2b)
      | (go_at_call 97; refine (HC.out _ H2b.out _ HF2b.out).mono ?_; rintro e w3 ⟨rfl, hb⟩; have h3 : Below w.heap.size w w3 := H2b.out.trans (hb.mono (Nat.le_of_lt m4)); obtain ⟨i1, i2, i3⟩ := bcell hb; have i4 : w.heap.size < w3.heap.size := (by omega); have H3 := Lib.hid h3; clear hb h3)
      | (go_at_call 112; refine (HFC.out _).mono ?_; rintro e w4 ⟨rfl, rfl⟩))
    refine wp_loop_rounds 2 ?_
    repeat any_goals (rw [rounds_succ]; go_wp2_with (first
      | (go_at_call 22; refine (HT.out _ (H2.out.alloc (Nat.le_of_lt j4) _) _ (HF2.out.keep (.alloc (.refl _ _) _))).mono ?_; rintro e w2b ⟨rfl, hb⟩; have h2b : Below w.heap.size w w2b := (H2.out.alloc (Nat.le_of_lt j4) _).trans (hb.mono (by simp; omega)); have hf2b := HF2.out.keep (((Keep.refl NoM w2).alloc _).below hb); obtain ⟨m1, m2, m3⟩ := bcell hb; simp only [World.size_alloc] at m1 m2 m3; have m4 : w.heap.size < w2b.heap.size := (by omega); have m5 : w.heap.size + 1 < w2b.heap.size := (by omega); have m6 : w2.heap.size < w2b.heap.size := (by omega); have m7 : w.heap.size < w2.heap.size + 1 := (by omega); have m8 : w.heap.size + 1 < w2.heap.size + 1 := (by omega); have H2b := Lib.hid h2b; have HF2b := Lib.hid hf2b; clear hb h2b hf2b)
      | (go_at_call 97; refine (HC.out _ H2b.out _ HF2b.out).mono ?_; rintro e w3 ⟨rfl, hb⟩; have h3 : Below w.heap.size w w3 := H2b.out.trans (hb.mono (Nat.le_of_lt m4)); obtain ⟨i1, i2, i3⟩ := bcell hb; have i4 : w.heap.size < w3.heap.size := (by omega); have H3 := Lib.hid h3; clear hb h3)
      | (go_at_call 112; refine (HFC.out _).mono ?_; rintro e w4 ⟨rfl, rfl⟩)))
    go_ret2
    exact ⟨rfl, by first | exact H3.out | exact H2b.out⟩
end

end Go.Proofs.YtiheioajnfggmaaDoor
