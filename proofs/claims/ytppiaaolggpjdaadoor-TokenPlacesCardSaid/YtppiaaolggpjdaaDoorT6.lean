/- The sanity check of the statements on tokens: contract of known. -/
import Derived.Test.YtppiaaolggpjdaaDoorT5
namespace Go.Proofs.YtppiaaolggpjdaaDoor
open Go.RowKit

def s1T : ByteArray := ⟨#[97, 60, 61, 49]⟩
def s2T : ByteArray := ⟨#[105, 116, 39, 115]⟩
theorem toks_k1 : toks s1T 5 0 = .ok [(2, ⟨#[97]⟩, 0), (5, ⟨#[60, 61]⟩, 1), (3, ⟨#[49]⟩, 3)] := by decide +kernel
theorem toks_k2 : toks s2T 5 0 = .bad 2 := by decide +kernel
theorem out_k1 {l : List Tok} {a e : Int} (h : TokOut s1T l a e) : l = [(2, ⟨#[97]⟩, 0), (5, ⟨#[60, 61]⟩, 1), (3, ⟨#[49]⟩, 3)] ∧ a = 0 ∧ e = 0 := by
  have k := toks_k1
  rcases h with ⟨h, _⟩ | ⟨_, h, h1, h2⟩ | ⟨_, i, h, _⟩
  · exact absurd h (by decide)
  · rw [show s1T.size + 1 = 5 from rfl, k] at h
    cases h
    exact ⟨rfl, h1, h2⟩
  · rw [show s1T.size + 1 = 5 from rfl, k] at h
    cases h
theorem out_k2 {l : List Tok} {a e : Int} (h : TokOut s2T l a e) : l = [] ∧ a = 2 ∧ e = 1 := by
  have k := toks_k2
  rcases h with ⟨h, _⟩ | ⟨_, h, h1, h2⟩ | ⟨_, i, h, h0, h1, h2⟩
  · exact absurd h (by decide)
  · rw [show s2T.size + 1 = 5 from rfl, k] at h
    cases h
  · rw [show s2T.size + 1 = 5 from rfl, k] at h
    cases h
    exact ⟨h0, h1, h2⟩

set_option maxRecDepth 100000 in
set_option maxHeartbeats 2000000 in
theorem known10_any (w : World) (h : TokOk w) : Calls Tryd.prog 43 #[] w (RetBel (.bool true) w) := by
  have HT := Lib.hid h
  have H1 := Lib.hid (fun w h => tokens_any s1T w (by decide) h)
  have H2 := Lib.hid (fun w h => tokens_any s2T w (by decide) h)
  unfold s1T at H1
  unfold s2T at H2
  clear h
  go_enter Tryd.func43, Tryd.ntmps43
  go_wp2_with fail
  refine (H1.out w HT.out).mono ?_
  rintro e w1 ⟨v1, a1, e1, l, rfl, ho, hb, hout⟩
  obtain ⟨rfl, rfl, rfl⟩ := out_k1 hout
  have HB1 := Lib.hid hb
  have hr := ho.rows (M := fun _ => False) fun _ _ _ => id
  rcases hr.open with ⟨⟨a, rfl⟩, h0⟩ | ⟨b, o, cap, rfl, _, hbz, hcap, hcm, hx⟩
  · cases h0
  obtain ⟨cs, rfl, _, hcs⟩ := hx 1 _ rfl
  have HC := Lib.hid hcs.c3
  clear ho hb hr hx hcs hout
  dsimp only
  go_wp2_with fail
  refine (H2.out w1 (HT.out.bel HB1.out)).mono ?_
  rintro e w2 ⟨v2, a2, e2, l, rfl, ho, hb, hout⟩
  obtain ⟨rfl, rfl, rfl⟩ := out_k2 hout
  have HB2 := Lib.hid (HB1.out.trans (hb.mono HB1.out.size))
  obtain ⟨g0, g1, g2⟩ := HC.out
  have c0 := (hb.cell (p := ⟨b, o + 1 * 3, none⟩) hbz).trans g0
  have c1 := (hb.cell (p := ⟨b, o + 1 * 3 + 1, none⟩) hbz).trans g1
  have c2 := (hb.cell (p := ⟨b, o + 1 * 3 + 2, none⟩) hbz).trans g2
  simp only [Nat.one_mul] at c0 c1 c2
  clear ho hb hout g0 g1 g2
  simp only [List.length_cons, List.length_nil, Nat.zero_add, Nat.reduceAdd] at hcap ⊢
  go_wp2_with fail
  go_ret
  exact ⟨rfl, HB2.out⟩
end Go.Proofs.YtppiaaolggpjdaaDoor
