/- The sanity check of the statements on printing: the contract of known of the package triggerstorelaw12. -/
import Derived.Test.YtppiaaolggpjdaaDoorX11
import Derived.Test.YtppiaaolggpjdaaDoorX9
import Derived.Test.YtppiaaolggpjdaaDoorKN3
import Derived.Test.YtppiaaolggpjdaaDoorKC1
namespace Go.Proofs.YtppiaaolggpjdaaDoor
open Go.RowKit

def e9 : Ex := opX 5 9 false [colX es ⟨#[97]⟩, litX ⟨1, 1, es⟩] []
def e12 : Ex := opX 5 11 false [e9, litX ⟨1, 2, es⟩] []
theorem vx9 : VX e9 := by
  refine .ops 5 9 false _ (by unfold OpShape; simp) fun a ha => ?_
  simp only [List.mem_cons, List.not_mem_nil, or_false] at ha
  rcases ha with rfl | rfl
  · exact .col _ _ (by decide +kernel)
  · exact .lit _ (by decide +kernel) fun _ => by simp
theorem vx12 : VX e12 := by
  refine .ops 5 11 false _ (by unfold OpShape; simp) fun a ha => ?_
  simp only [List.mem_cons, List.not_mem_nil, or_false] at ha
  rcases ha with rfl | rfl
  · exact vx9
  · exact .lit _ (by decide +kernel) fun _ => by simp
theorem txt12 : TxtOk e12 := by
  refine txt_ops 5 11 false _ fun a ha => ?_
  simp only [List.mem_cons, List.not_mem_nil, or_false] at ha
  rcases ha with rfl | rfl
  · refine txt_ops 5 9 false _ fun b hb => ?_
    simp only [List.mem_cons, List.not_mem_nil, or_false] at hb
    rcases hb with rfl | rfl
    · exact txt_leaf _ _ _ _ _ _ (Nat.zero_le _) (by decide) (by decide)
    · exact txt_leaf _ _ _ _ _ _ (Nat.zero_le _) (by decide) (by decide)
  · exact txt_leaf _ _ _ _ _ _ (Nat.zero_le _) (by decide) (by decide)
theorem valid12 : validP e12 = true := by
  simp [e12, e9, opX, litX, colX, es, val0, validP, validL, valZ, nameZ, noText, columnB, nameB, nchB, letB, ByteArray.toList_eq, ByteArray.size, validV]
theorem words12 : wordsP e12 = [kOpen, ⟨#[97]⟩, opS 9, ⟨#[49]⟩, kShut, opS 11, ⟨#[50]⟩] := by
  have h1 : wordsP (litX ⟨1, 1, es⟩) = [⟨#[49]⟩] := by rw [words_lit]; decide +kernel
  have h2 : wordsP (litX ⟨1, 2, es⟩) = [⟨#[50]⟩] := by rw [words_lit]; decide +kernel
  have h3 : wordsP (colX es ⟨#[97]⟩) = [⟨#[97]⟩] := by rw [words_col, if_pos (by decide +kernel)]
  have h9 : wordsP e9 = [⟨#[97]⟩, opS 9, ⟨#[49]⟩] := by
    unfold e9
    rw [words_bin]
    unfold argW
    rw [if_neg (by decide +kernel), if_neg (by decide +kernel), h1, h3]
    rfl
  unfold e12
  rw [words_bin]
  unfold argW
  rw [if_pos (by decide +kernel), if_neg (by decide +kernel), h2, h9]
  rfl
theorem text12 : textP e12 = ⟨#[40, 97, 32, 43, 32, 49, 41, 32, 42, 32, 50]⟩ := by
  unfold textP
  rw [words12]
  decide +kernel

set_option maxRecDepth 100000 in
set_option maxHeartbeats 4000000 in
theorem known12_any (w : World) (hL : LibOk w) (hs : 4 < w.heap.size) : Calls Tryd.prog 49 #[] w (RetBel (.bool true) w) := by
  have HL := Lib.hid hL
  clear hL
  go_enter Tryd.func49, Tryd.ntmps49
  go_wp2_with fail
  refine (col_any _ _ _).mono ?_
  rintro e w1 ⟨rfl, hb⟩
  have HB1 := Lib.hid hb
  clear hb
  dsimp only
  go_wp2_with fail
  refine (num_pos _ (by omega) _).mono ?_
  rintro e w2 ⟨rfl, hb⟩
  have HB2 := Lib.hid (HB1.out.trans (hb.mono HB1.out.size))
  clear hb
  dsimp only
  go_wp2_with fail
  refine (bin_any (M := NoM) 9 (colX ⟨#[]⟩ ⟨#[97]⟩) (litX ⟨1, 1, ⟨#[]⟩⟩) _ _ _ (ec_nil ..) (ec_nil ..) (fun _ _ => id)).mono ?_
  rintro e w3 ⟨cs3, rfl, he, hb⟩
  have HE3 := Lib.hid he
  have HB3 := Lib.hid (HB2.out.trans (hb.mono HB2.out.size))
  clear hb he
  dsimp only
  go_wp2_with fail
  refine (num_pos _ (by omega) _).mono ?_
  rintro e w4 ⟨rfl, hb⟩
  have HE4 := Lib.hid (EC.keep (.bel hb) _ _ HE3.out)
  have HB4 := Lib.hid (HB3.out.trans (hb.mono HB3.out.size))
  clear hb
  dsimp only
  go_wp2_with fail
  refine (bin_any (M := NoM) 11 _ (litX ⟨1, 2, ⟨#[]⟩⟩) _ _ _ HE4.out (ec_nil ..) (fun _ _ => id)).mono ?_
  rintro e w5 ⟨cs5, rfl, he, hb⟩
  have HE5 := Lib.hid (show EC NoM w5 e12 cs5 from he)
  have HB5 := Lib.hid (HB4.out.trans (hb.mono HB4.out.size))
  have HL5 := Lib.hid (HL.out.keep (M := fun _ => False) (.bel HB5.out) (fun _ _ => id) hs)
  have hs5 := HB5.out.size
  clear hb he
  dsimp only
  go_wp2_with fail
  refine (print_any e12 vx12 valid12 txt12 (by rw [words12]; decide) (by rw [words12]; decide) NoM _ w5 HE5.out HL5.out (by omega)).mono ?_
  rintro e w6 ⟨rfl, hb⟩
  rw [text12]
  have HB6 := Lib.hid (HB5.out.trans (hb.mono HB5.out.size))
  clear hb
  dsimp only
  go_wp2_with fail
  go_ret
  exact ⟨rfl, HB6.out⟩
end Go.Proofs.YtppiaaolggpjdaaDoor
