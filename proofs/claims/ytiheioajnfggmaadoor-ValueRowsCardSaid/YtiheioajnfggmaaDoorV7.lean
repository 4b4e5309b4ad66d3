/- The sanity check of the statements on values: contract of known. -/
import Derived.Test.YtiheioajnfggmaaDoorV4
namespace Go.Proofs.YtiheioajnfggmaaDoor
open Go.RowKit

set_option maxRecDepth 100000 in
set_option maxHeartbeats 2000000 in
theorem known1_any (w : World) (h : LibOk w) (hs : 3 < w.heap.size) : Calls Tryd.prog 54 #[] w (RetBel (.bool true) w) := by
  have HL := Lib.hid h
  clear h
  have hp : plainB ⟨#[105, 116, 39, 115]⟩ = true := by decide +kernel
  have hw := words_v ⟨#[105, 116, 39, 115]⟩ w (by decide)
  rw [hp, show wordsV ⟨#[105, 116, 39, 115]⟩ = ⟨3, 0, ⟨#[105, 116, 39, 115]⟩⟩ by unfold wordsV; rw [hp]; rfl] at hw
  have hf := fun w' (h : LibOk w') (hs : 3 < w'.heap.size) => format_v ⟨3, 0, ⟨#[105, 116, 39, 115]⟩⟩ ⟨by decide, by decide, by decide, by decide, by decide⟩ w' h hs
  rw [show txt (fmtV ⟨3, 0, ⟨#[105, 116, 39, 115]⟩⟩) = ⟨#[39, 105, 116, 39, 39, 115, 39]⟩ by decide +kernel] at hf
  have hc := fun w' => compare_v ⟨1, 5, ⟨#[]⟩⟩ (truthV true) w'
  rw [show cmpV ⟨1, 5, ⟨#[]⟩⟩ (truthV true) = -1 by decide +kernel] at hc
  unfold RetValB valOf at hw
  unfold valOf at hf hc
  have HW := Lib.hid hw
  have HF := Lib.hid hf
  have HC := Lib.hid hc
  clear hp hw hf hc
  go_enter Tryd.func54, Tryd.ntmps54
  go_wp2_with fail
  refine HW.out.mono ?_
  rintro e w1 ⟨rfl, hb⟩
  have z1 := hb.size
  have HB1 := Lib.hid hb
  clear hb
  dsimp only
  go_wp2_with fail
  refine (HF.out _ ((HL.out.bel HB1.out hs).bel ((Below.refl _ w1).alloc (Nat.le_refl _) _) (by omega)) (by simp; omega)).mono ?_
  rintro e w2 ⟨rfl, hb⟩
  have HB2 := Lib.hid ((HB1.out.alloc z1 _).trans (hb.mono (by simp; omega)))
  have z2 := HB2.out.size
  clear hb
  dsimp only
  go_wp2_with fail
  refine (number_v 5 _).mono ?_
  rintro e w3 ⟨rfl, hb⟩
  have HB3 := Lib.hid (HB2.out.trans (hb.mono z2))
  have z3 := HB3.out.size
  clear hb
  unfold valOf
  dsimp only
  go_wp2_with fail
  refine (truth_v true _).mono ?_
  rintro e w4 ⟨rfl, hb⟩
  have HB4 := Lib.hid (HB3.out.trans (hb.mono z3))
  have z4 := HB4.out.size
  clear hb
  unfold valOf
  dsimp only
  go_wp2_with fail
  refine (HC.out _).mono ?_
  rintro e w5 ⟨rfl, hb⟩
  have HB5 := Lib.hid (HB4.out.trans (hb.mono z4))
  clear hb
  dsimp only
  go_wp2_with fail
  go_ret
  exact ⟨rfl, HB5.out⟩

end Go.Proofs.YtiheioajnfggmaaDoor
