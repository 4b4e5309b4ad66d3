/- Expressions with a query, over a contract of Type: the contract of scope.aggregate. -/
import Derived.Test.YtiheioajnfggmaaDoorC9
namespace Go.Proofs.YtiheioajnfggmaaDoor
open Go.RowKit

/-- Some cells, each a block, a place and a value. -/
def Cells (W : World) (L : List (Nat × Nat × Value)) : Prop := ∀ p ∈ L, W.cell? ⟨p.1, p.2.1, none⟩ = some p.2.2
theorem Cells.nil (W : World) : Cells W [] := fun _ h => by cases h
theorem Cells.cons {W : World} {b o : Nat} {v : Value} {L : List (Nat × Nat × Value)} (h : W.cell? ⟨b, o, none⟩ = some v) (hl : Cells W L) : Cells W ((b, o, v) :: L) := by
  intro p hp
  rcases List.mem_cons.1 hp with rfl | hp
  · exact h
  · exact hl p hp
theorem Cells.bel {W W' : World} {L : List (Nat × Nat × Value)} (h : Cells W L) (hb : Below W.heap.size W W') : Cells W' L := fun p hp => by
  have := h p hp
  exact (hb.cell (World.block_lt_of_cell? _ _ this)).trans this
theorem Cells.alloc {W : World} {L : List (Nat × Nat × Value)} (h : Cells W L) (o : Obj) : Cells (W.alloc o) L := h.bel ((Below.refl _ _).alloc (Nat.le_refl _) o)
theorem Cells.un {W : World} {b o : Nat} {v : Value} {L : List (Nat × Nat × Value)} (h : Cells W ((b, o, v) :: L)) : W.cell? ⟨b, o, none⟩ = some v ∧ b < W.heap.size ∧ Cells W L := by
  have h0 := h _ (List.mem_cons_self ..)
  exact ⟨h0, World.block_lt_of_cell? _ _ h0, fun p hp => h p (List.mem_cons_of_mem _ hp)⟩

section
variable (ts : List Sch) (k o : Int) (no : Bool) (vk vi : Int) (vt t nm : ByteArray) (a sa : Option Addr) (an ac : Nat) (sc sb so : Nat) (star : Bool) (frm : ByteArray) (ia wa : Option Addr) (ic wc : Nat) (items whr : List Ex) (fs : List Frm) (vf vtb : Value) (w : World)
  (hsb : sb < w.heap.size) (q0 : w.cell? ⟨sb, so, none⟩ = some (.bool star)) (q1 : w.cell? ⟨sb, so + 1, none⟩ = some (.slice ia items.length ic)) (q2 : w.cell? ⟨sb, so + 2, none⟩ = some (.string frm)) (q3 : w.cell? ⟨sb, so + 3, none⟩ = some (.slice wa whr.length wc))
  (hts : TblsR NoM w vtb ts) (hsm : ColsSmall ts)

include hsb q0 q1 q2 q3 hts in
set_option maxHeartbeats 1000000 in
theorem agg_none (hs : findTbl ts frm = none) :
    Calls Tryd.prog 69 #[.agg #[.int .i64 k, .int .i64 o, .bool no, .int .i64 vk, .int .i64 vi, .string vt, .string t, .string nm, .slice a an ac, .slice (some ⟨sb, so, none⟩) 1 sc], vf, vtb] w (RetII (0, 3) w) := by
  have hsrc := fun (w' : World) (hb : Below w.heap.size w w') => source_none vtb ts frm w' (hts.keep (.bel hb)) hs
  have HS := Lib.hid hsrc
  clear hsrc hts hs
  go_enter Tryd.func69, Tryd.ntmps69
  go_wp2_with (go_at_call 28; refine (HS.out _ (by go_grown)).mono ?_; rintro e w1 ⟨rfl, hb⟩; have HB := Lib.hid hb; clear hb)
  go_ret2
  refine ⟨rfl, ?_⟩
  have h0 : Below w.heap.size w w1 := Below.trans (by go_grown) (HB.out.mono (by simp <;> omega))
  have h1 := h0.size
  go_grown

include hsb q0 q1 q2 q3 hts hsm in
set_option maxHeartbeats 1000000 in
theorem agg_zero (hf : FrmsR NoM w vf fs) (hd : fs.length ≤ 999999999) (i : Nat) (s : Sch) (hs : findTbl ts frm = some i) (hi : ts[i]? = some s) (hn : items.length = 0) (hk : k = 8 ∨ k = 9)
    (hw : ExsR NoM w (.slice wa whr.length wc) whr) (htw : ∀ e ∈ whr, TypeOk ts e) (hdw : fs.length + 1 + depL whr ≤ 1000000000) :
    Calls Tryd.prog 69 #[.agg #[.int .i64 k, .int .i64 o, .bool no, .int .i64 vk, .int .i64 vi, .string vt, .string t, .string nm, .slice a an ac, .slice (some ⟨sb, so, none⟩) 1 sc], vf, vtb] w (RetII (if typeC ts whr (fs ++ [frmOf s]) ≠ 0 then (0, typeC ts whr (fs ++ [frmOf s])) else aggP k 0) w) := by
  have hsrc := fun (w' : World) (hb : Below w.heap.size w w') => source_some vtb ts frm w' i s (hts.keep (.bel hb)) hs hi (hsm s (List.mem_of_getElem? hi))
  have hin := fun (w' : World) (hb : Below w.heap.size w w') vc (hc : ColsR NoM w' vc s.cols) => inside_any vf vc fs s.name s.cols w' (hf.keep (.bel hb)) hc (by omega)
  have hcd := fun (w' : World) (hb : Below w.heap.size w w') v (hv : FrmsR NoM w' v (fs ++ [frmOf s])) => condition_any ts whr (fs ++ [frmOf s]) (.slice wa whr.length wc) v vtb w' htw (hw.keep (.bel hb)) hv (hts.keep (.bel hb)) (by simp; omega)
  generalize typeC ts whr (fs ++ [frmOf s]) = c at hcd
  have HS := Lib.hid hsrc
  have HI := Lib.hid hin
  have HC := Lib.hid hcd
  rw [hn] at q1
  clear hsrc hin hcd hts hsm hs hi hf hd hw htw hdw hn
  by_cases hc0 : c = 0
  · subst hc0
    rcases hk with rfl | rfl
    · go_enter Tryd.func69, Tryd.ntmps69
      go_wp2_with (first
        | (go_at_call 28; refine (HS.out _ (by go_grown)).mono ?_; rintro e w1 ⟨vc1, rfl, hc1, hb⟩; obtain ⟨c1a, c1c, rfl, _⟩ := hc1.shape; have h1 : Below w.heap.size w w1 := Below.trans (by go_grown) (hb.mono (by simp <;> omega)); obtain ⟨k1, k2, k3⟩ := bcell hb; simp only [World.size_alloc] at k1 k2 k3; have k4 : w.heap.size < w1.heap.size := (by omega); have k5 : w.heap.size + 1 < w1.heap.size := (by omega); have H1 := Lib.hid h1; have HC1 := Lib.hid (hc1.weak (M' := NoM) fun _ _ h => h.elim); clear hb h1 hc1)
        | (go_at_call 111; refine (HI.out _ (H1.out.alloc (by omega) _) _ (HC1.out.keep (.alloc (.refl _ _) _))).mono ?_; rintro e w2 ⟨v2, rfl, hf2, hb⟩; have h2 : Below w.heap.size w w2 := (H1.out.alloc (by omega) _).trans (hb.mono (by simp <;> omega)); obtain ⟨j1, j2, j3⟩ := bcell hb; simp only [World.size_alloc] at j1 j2 j3; have j4 : w.heap.size < w2.heap.size := (by omega); have j5 : w.heap.size + 1 < w2.heap.size := (by omega); have j6 : w.heap.size < w1.heap.size + 1 := (by omega); have j7 : w.heap.size + 1 < w1.heap.size + 1 := (by omega); have H2 := Lib.hid h2; have HF2 := Lib.hid hf2; clear hb h2 hf2)
        | (go_at_call 97; refine (HC.out _ H2.out _ HF2.out).mono ?_; rintro e w3 ⟨rfl, hb⟩; have h3 : Below w.heap.size w w3 := H2.out.trans (hb.mono (Nat.le_of_lt j4)); obtain ⟨i1, i2, i3⟩ := bcell hb; have i4 : w.heap.size < w3.heap.size := (by omega); have H3 := Lib.hid h3; clear hb h3))
      refine wp_loop_rounds 1 ?_
      repeat any_goals (rw [rounds_succ]; go_wp2_with (first
        | (go_at_call 97; refine (HC.out _ H2.out _ HF2.out).mono ?_; rintro e w3 ⟨rfl, hb⟩; have h3 : Below w.heap.size w w3 := H2.out.trans (hb.mono (Nat.le_of_lt j4)); obtain ⟨i1, i2, i3⟩ := bcell hb; have i4 : w.heap.size < w3.heap.size := (by omega); have H3 := Lib.hid h3; clear hb h3)))
      go_ret2
      exact ⟨rfl, by first | exact H3.out | exact H2.out⟩
    · go_enter Tryd.func69, Tryd.ntmps69
      go_wp2_with (first
        | (go_at_call 28; refine (HS.out _ (by go_grown)).mono ?_; rintro e w1 ⟨vc1, rfl, hc1, hb⟩; obtain ⟨c1a, c1c, rfl, _⟩ := hc1.shape; have h1 : Below w.heap.size w w1 := Below.trans (by go_grown) (hb.mono (by simp <;> omega)); obtain ⟨k1, k2, k3⟩ := bcell hb; simp only [World.size_alloc] at k1 k2 k3; have k4 : w.heap.size < w1.heap.size := (by omega); have k5 : w.heap.size + 1 < w1.heap.size := (by omega); have H1 := Lib.hid h1; have HC1 := Lib.hid (hc1.weak (M' := NoM) fun _ _ h => h.elim); clear hb h1 hc1)
        | (go_at_call 111; refine (HI.out _ (H1.out.alloc (by omega) _) _ (HC1.out.keep (.alloc (.refl _ _) _))).mono ?_; rintro e w2 ⟨v2, rfl, hf2, hb⟩; have h2 : Below w.heap.size w w2 := (H1.out.alloc (by omega) _).trans (hb.mono (by simp <;> omega)); obtain ⟨j1, j2, j3⟩ := bcell hb; simp only [World.size_alloc] at j1 j2 j3; have j4 : w.heap.size < w2.heap.size := (by omega); have j5 : w.heap.size + 1 < w2.heap.size := (by omega); have j6 : w.heap.size < w1.heap.size + 1 := (by omega); have j7 : w.heap.size + 1 < w1.heap.size + 1 := (by omega); have H2 := Lib.hid h2; have HF2 := Lib.hid hf2; clear hb h2 hf2)
        | (go_at_call 97; refine (HC.out _ H2.out _ HF2.out).mono ?_; rintro e w3 ⟨rfl, hb⟩; have h3 : Below w.heap.size w w3 := H2.out.trans (hb.mono (Nat.le_of_lt j4)); obtain ⟨i1, i2, i3⟩ := bcell hb; have i4 : w.heap.size < w3.heap.size := (by omega); have H3 := Lib.hid h3; clear hb h3))
      refine wp_loop_rounds 1 ?_
      repeat any_goals (rw [rounds_succ]; go_wp2_with (first
        | (go_at_call 97; refine (HC.out _ H2.out _ HF2.out).mono ?_; rintro e w3 ⟨rfl, hb⟩; have h3 : Below w.heap.size w w3 := H2.out.trans (hb.mono (Nat.le_of_lt j4)); obtain ⟨i1, i2, i3⟩ := bcell hb; have i4 : w.heap.size < w3.heap.size := (by omega); have H3 := Lib.hid h3; clear hb h3)))
      go_ret2
      exact ⟨rfl, by first | exact H3.out | exact H2.out⟩
  · have hb0 : (c == 0) = false := by simpa using hc0
    have hb1 : (c != 0) = true := by simpa using hc0
    rw [if_pos hc0]
    clear hk hc0
    go_enter Tryd.func69, Tryd.ntmps69
    go_wp2_with (first
      | (go_at_call 28; refine (HS.out _ (by go_grown)).mono ?_; rintro e w1 ⟨vc1, rfl, hc1, hb⟩; obtain ⟨c1a, c1c, rfl, _⟩ := hc1.shape; have h1 : Below w.heap.size w w1 := Below.trans (by go_grown) (hb.mono (by simp <;> omega)); obtain ⟨k1, k2, k3⟩ := bcell hb; simp only [World.size_alloc] at k1 k2 k3; have k4 : w.heap.size < w1.heap.size := (by omega); have k5 : w.heap.size + 1 < w1.heap.size := (by omega); have H1 := Lib.hid h1; have HC1 := Lib.hid (hc1.weak (M' := NoM) fun _ _ h => h.elim); clear hb h1 hc1)
      | (go_at_call 111; refine (HI.out _ (H1.out.alloc (by omega) _) _ (HC1.out.keep (.alloc (.refl _ _) _))).mono ?_; rintro e w2 ⟨v2, rfl, hf2, hb⟩; have h2 : Below w.heap.size w w2 := (H1.out.alloc (by omega) _).trans (hb.mono (by simp <;> omega)); obtain ⟨j1, j2, j3⟩ := bcell hb; simp only [World.size_alloc] at j1 j2 j3; have j4 : w.heap.size < w2.heap.size := (by omega); have j5 : w.heap.size + 1 < w2.heap.size := (by omega); have j6 : w.heap.size < w1.heap.size + 1 := (by omega); have j7 : w.heap.size + 1 < w1.heap.size + 1 := (by omega); have H2 := Lib.hid h2; have HF2 := Lib.hid hf2; clear hb h2 hf2)
      | (go_at_call 97; refine (HC.out _ H2.out _ HF2.out).mono ?_; rintro e w3 ⟨rfl, hb⟩; have h3 : Below w.heap.size w w3 := H2.out.trans (hb.mono (Nat.le_of_lt j4)); obtain ⟨i1, i2, i3⟩ := bcell hb; have i4 : w.heap.size < w3.heap.size := (by omega); have H3 := Lib.hid h3; clear hb h3))
    refine wp_loop_rounds 1 ?_
    repeat any_goals (rw [rounds_succ]; go_wp2_with (first
      | (go_at_call 97; refine (HC.out _ H2.out _ HF2.out).mono ?_; rintro e w3 ⟨rfl, hb⟩; have h3 : Below w.heap.size w w3 := H2.out.trans (hb.mono (Nat.le_of_lt j4)); obtain ⟨i1, i2, i3⟩ := bcell hb; have i4 : w.heap.size < w3.heap.size := (by omega); have H3 := Lib.hid h3; clear hb h3)))
    go_ret2
    exact ⟨rfl, by first | exact H3.out | exact H2.out⟩
end

end Go.Proofs.YtiheioajnfggmaaDoor
