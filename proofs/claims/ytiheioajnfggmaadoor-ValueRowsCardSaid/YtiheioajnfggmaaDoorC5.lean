/- Copies of lists of columns and of frames. -/
import Derived.Test.YtiheioajnfggmaaDoorC3
namespace Go.Proofs.YtiheioajnfggmaaDoor
open Go.RowKit

theorem infoCol : (Tryd.prog.info? 35).map (fun i => (i.zero, i.size, i.bytes)) = some (some (.agg #[.string ⟨#[]⟩, .int .i64 0, .bool false, .bool false]), 4, 32) := by kernel_rfl

set_option maxHeartbeats 1000000 in
theorem cloneCol_any {M : Nat → Prop} {α : Type} {R : World → α → List Value → Prop} (hk : ∀ w w' x cs, Keep M w w' → R w x cs → R w' x cs) (h1 : ∀ w x cs, R w x cs → ∀ u ∈ cs, u.oneCell' = true) (v : Value) (l : List α) (w : World)
    (hv : RowsR M w 4 (R w) v l) (hN : l.length * 32 ≤ 140737488355328) : Calls Tryd.prog 79 #[v] w (ClonePost M 35 4 R l w) := by
  obtain ⟨i0, hi, hz0, hz1, hz2⟩ := info_parts infoCol
  have hv0 := hv
  obtain ⟨css, hs, hl, hR⟩ := hv
  have HV := Lib.hid hv0
  have HR := Lib.hid hR
  have HL := Lib.hid hl
  have HN := Lib.hid hN
  have HK := Lib.hid hk
  have H1 := Lib.hid h1
  clear hv0 hR hk h1 hN
  rcases hs with ⟨⟨A, rfl⟩, rfl⟩ | ⟨b, o, cap, rfl, hT, hb, hlc, hm, hc⟩
  · rcases A with _ | ad
    · have hnil := fun (w : World) => Lib.run_eql_slice_nil (P := Tryd.prog) w 27 35 none 0 0 0 0 Tryd.underlying27
      clear hl
      go_enter Tryd.func79, Tryd.ntmps79
      go_wp2_with fail
      go_ret
      have hl := HL.out
      obtain rfl : l = [] := List.eq_nil_of_length_eq_zero (by simpa using hl.symm)
      exact ⟨_, rfl, RowsO.nil .., Below.refl _ _⟩
    · have hnil := fun (w : World) => Lib.run_eql_slice_nil (P := Tryd.prog) w 27 35 (some ad) 0 0 0 0 Tryd.underlying27
      have hmade := fun (w : World) => World.ownsRow_made w (base := w.heap.size) (e := 35) (size := 4) #[] 0 (Nat.le_refl _) (by unfold maxLen; omega) (by simp)
      have HM := Lib.hid hmade
      clear hmade hl
      go_enter Tryd.func79, Tryd.ntmps79
      go_wp2_with (at_builtin; refine wpList_append_own _ rfl _ _ 27 rfl w.heap.size 35 i0 (.agg #[.string ⟨#[]⟩, .int .i64 0, .bool false, .bool false]) 4 32 Tryd.underlying27 hi hz0 hz1 hz2 rfl (by decide) (.slice (some ⟨w.heap.size, 0, none⟩) 0 0) 0 [] rfl (HM.out w) ad 0 0 [] rfl rfl (by simp) (by simp) (by unfold maxLen; omega) (by simp) (by simp) ?_; intro v' w1 hown hgrow _; have HW := Lib.hid hown; have HG := Lib.hid hgrow; clear hown hgrow)
      go_ret
      have hbel : Below w.heap.size w w1 := ((Below.refl _ _).alloc (Nat.le_refl _) _).grown HG.out (by simp) (by intro k h; have h' : w.heap.size = k := (by simpa [Value.ownBlock] using h); exact Nat.le_of_eq h')
      have hl := HL.out
      obtain rfl : l = [] := List.eq_nil_of_length_eq_zero (by simpa using hl.symm)
      exact ⟨v', rfl, ⟨[], by simpa using HW.out, rfl, by simp, by simp⟩, hbel⟩
  · have hnil := fun (w : World) => Lib.run_eql_slice_nil (P := Tryd.prog) w 27 35 (some ⟨b, o, none⟩) css.length cap 0 0 Tryd.underlying27
    have hflat := flat_cells hc
    have hsz : ∀ cs ∈ css, cs.length = 4 := fun cs h => let ⟨i, hi⟩ := List.mem_iff_getElem?.1 h; (hc i cs hi).1
    have hfl : css.flatten.length = css.length * 4 := flatten_length 4 css hsz
    have hone : ∀ u ∈ css.flatten, u.oneCell' = true := by
      intro u hu
      obtain ⟨cs, hcs, hu⟩ := List.mem_flatten.1 hu
      obtain ⟨i, hi⟩ := List.mem_iff_getElem?.1 hcs
      have hlt : i < l.length := by rw [← hl]; exact (List.getElem?_eq_some_iff.1 hi).1
      exact H1.out w _ cs (HR.out i _ cs (List.getElem?_eq_getElem hlt) hi) u hu
    have HF := Lib.hid hflat
    have HZ := Lib.hid hsz
    have HFL := Lib.hid hfl
    have HO := Lib.hid hone
    have hmade := fun (w : World) => World.ownsRow_made w (base := w.heap.size) (e := 35) (size := 4) #[] 0 (Nat.le_refl _) (by unfold maxLen; omega) (by simp)
    have HM := Lib.hid hmade
    clear hflat hsz hfl hone hmade hc hl
    go_enter Tryd.func79, Tryd.ntmps79
    go_wp2_with (at_builtin; refine wpList_append_own _ rfl _ _ 27 rfl w.heap.size 35 i0 (.agg #[.string ⟨#[]⟩, .int .i64 0, .bool false, .bool false]) 4 32 Tryd.underlying27 hi hz0 hz1 hz2 rfl (by decide) (.slice (some ⟨w.heap.size, 0, none⟩) 0 0) 0 [] rfl (HM.out w) ⟨b, o, none⟩ css.length cap css.flatten rfl HFL.out ?c1 HO.out ?c3 ?c4 ?c5 ?_; (case c1 => intro j u hu; rw [World.cell?_alloc_lt _ _ _ (by rw [Addr.add_lit]; exact hb)]; exact HF.out j u hu); (case c3 => omega); (case c4 => rw [HL.out, Nat.zero_add]; exact HN.out); (case c5 => simp); intro v' w1 hown hgrow _; have HW := Lib.hid hown; have HG := Lib.hid hgrow; clear hown hgrow)
    go_ret
    have hbel : Below w.heap.size w w1 := ((Below.refl _ w).alloc (Nat.le_refl _) _).grown HG.out (by simp) (by intro k h; have h' : w.heap.size = k := (by simpa [Value.ownBlock] using h); exact Nat.le_of_eq h')
    refine ⟨v', rfl, ⟨css, by simpa using HW.out, HL.out, HZ.out, fun i x cs hi hc => HK.out w w1 x cs (.bel hbel) (HR.out i x cs hi hc)⟩, hbel⟩

theorem infoFrame : (Tryd.prog.info? 33).map (fun i => (i.zero, i.size, i.bytes)) = some (some (.agg #[.string ⟨#[]⟩, .bool false, .slice none 0 0, .slice none 0 0]), 4, 72) := by kernel_rfl

set_option maxHeartbeats 1000000 in
theorem cloneFrame_any {M : Nat → Prop} {α : Type} {R : World → α → List Value → Prop} (hk : ∀ w w' x cs, Keep M w w' → R w x cs → R w' x cs) (h1 : ∀ w x cs, R w x cs → ∀ u ∈ cs, u.oneCell' = true) (v : Value) (l : List α) (w : World)
    (hv : RowsR M w 4 (R w) v l) (hN : l.length * 72 ≤ 140737488355328) : Calls Tryd.prog 138 #[v] w (ClonePost M 33 4 R l w) := by
  obtain ⟨i0, hi, hz0, hz1, hz2⟩ := info_parts infoFrame
  have hv0 := hv
  obtain ⟨css, hs, hl, hR⟩ := hv
  have HV := Lib.hid hv0
  have HR := Lib.hid hR
  have HL := Lib.hid hl
  have HN := Lib.hid hN
  have HK := Lib.hid hk
  have H1 := Lib.hid h1
  clear hv0 hR hk h1 hN
  rcases hs with ⟨⟨A, rfl⟩, rfl⟩ | ⟨b, o, cap, rfl, hT, hb, hlc, hm, hc⟩
  · rcases A with _ | ad
    · have hnil := fun (w : World) => Lib.run_eql_slice_nil (P := Tryd.prog) w 25 33 none 0 0 0 0 Tryd.underlying25
      clear hl
      go_enter Tryd.func138, Tryd.ntmps138
      go_wp2_with fail
      go_ret
      have hl := HL.out
      obtain rfl : l = [] := List.eq_nil_of_length_eq_zero (by simpa using hl.symm)
      exact ⟨_, rfl, RowsO.nil .., Below.refl _ _⟩
    · have hnil := fun (w : World) => Lib.run_eql_slice_nil (P := Tryd.prog) w 25 33 (some ad) 0 0 0 0 Tryd.underlying25
      have hmade := fun (w : World) => World.ownsRow_made w (base := w.heap.size) (e := 33) (size := 4) #[] 0 (Nat.le_refl _) (by unfold maxLen; omega) (by simp)
      have HM := Lib.hid hmade
      clear hmade hl
      go_enter Tryd.func138, Tryd.ntmps138
      go_wp2_with (at_builtin; refine wpList_append_own _ rfl _ _ 25 rfl w.heap.size 33 i0 (.agg #[.string ⟨#[]⟩, .bool false, .slice none 0 0, .slice none 0 0]) 4 72 Tryd.underlying25 hi hz0 hz1 hz2 rfl (by decide) (.slice (some ⟨w.heap.size, 0, none⟩) 0 0) 0 [] rfl (HM.out w) ad 0 0 [] rfl rfl (by simp) (by simp) (by unfold maxLen; omega) (by simp) (by simp) ?_; intro v' w1 hown hgrow _; have HW := Lib.hid hown; have HG := Lib.hid hgrow; clear hown hgrow)
      go_ret
      have hbel : Below w.heap.size w w1 := ((Below.refl _ _).alloc (Nat.le_refl _) _).grown HG.out (by simp) (by intro k h; have h' : w.heap.size = k := (by simpa [Value.ownBlock] using h); exact Nat.le_of_eq h')
      have hl := HL.out
      obtain rfl : l = [] := List.eq_nil_of_length_eq_zero (by simpa using hl.symm)
      exact ⟨v', rfl, ⟨[], by simpa using HW.out, rfl, by simp, by simp⟩, hbel⟩
  · have hnil := fun (w : World) => Lib.run_eql_slice_nil (P := Tryd.prog) w 25 33 (some ⟨b, o, none⟩) css.length cap 0 0 Tryd.underlying25
    have hflat := flat_cells hc
    have hsz : ∀ cs ∈ css, cs.length = 4 := fun cs h => let ⟨i, hi⟩ := List.mem_iff_getElem?.1 h; (hc i cs hi).1
    have hfl : css.flatten.length = css.length * 4 := flatten_length 4 css hsz
    have hone : ∀ u ∈ css.flatten, u.oneCell' = true := by
      intro u hu
      obtain ⟨cs, hcs, hu⟩ := List.mem_flatten.1 hu
      obtain ⟨i, hi⟩ := List.mem_iff_getElem?.1 hcs
      have hlt : i < l.length := by rw [← hl]; exact (List.getElem?_eq_some_iff.1 hi).1
      exact H1.out w _ cs (HR.out i _ cs (List.getElem?_eq_getElem hlt) hi) u hu
    have HF := Lib.hid hflat
    have HZ := Lib.hid hsz
    have HFL := Lib.hid hfl
    have HO := Lib.hid hone
    have hmade := fun (w : World) => World.ownsRow_made w (base := w.heap.size) (e := 33) (size := 4) #[] 0 (Nat.le_refl _) (by unfold maxLen; omega) (by simp)
    have HM := Lib.hid hmade
    clear hflat hsz hfl hone hmade hc hl
    go_enter Tryd.func138, Tryd.ntmps138
    go_wp2_with (at_builtin; refine wpList_append_own _ rfl _ _ 25 rfl w.heap.size 33 i0 (.agg #[.string ⟨#[]⟩, .bool false, .slice none 0 0, .slice none 0 0]) 4 72 Tryd.underlying25 hi hz0 hz1 hz2 rfl (by decide) (.slice (some ⟨w.heap.size, 0, none⟩) 0 0) 0 [] rfl (HM.out w) ⟨b, o, none⟩ css.length cap css.flatten rfl HFL.out ?c1 HO.out ?c3 ?c4 ?c5 ?_; (case c1 => intro j u hu; rw [World.cell?_alloc_lt _ _ _ (by rw [Addr.add_lit]; exact hb)]; exact HF.out j u hu); (case c3 => omega); (case c4 => rw [HL.out, Nat.zero_add]; exact HN.out); (case c5 => simp); intro v' w1 hown hgrow _; have HW := Lib.hid hown; have HG := Lib.hid hgrow; clear hown hgrow)
    go_ret
    have hbel : Below w.heap.size w w1 := ((Below.refl _ w).alloc (Nat.le_refl _) _).grown HG.out (by simp) (by intro k h; have h' : w.heap.size = k := (by simpa [Value.ownBlock] using h); exact Nat.le_of_eq h')
    refine ⟨v', rfl, ⟨css, by simpa using HW.out, HL.out, HZ.out, fun i x cs hi hc => HK.out w w1 x cs (.bel hbel) (HR.out i x cs hi hc)⟩, hbel⟩

end Go.Proofs.YtiheioajnfggmaaDoor
