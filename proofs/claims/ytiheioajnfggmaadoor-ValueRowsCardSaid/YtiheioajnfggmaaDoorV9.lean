/- The walk of ValueFormats. -/
import Derived.Test.YtiheioajnfggmaaDoorV7
import Derived.Test.YtiheioajnfggmaaDoorV8
import Derived.Test.YtiheioajnfggmaaDoorC21
namespace Go.Proofs.YtiheioajnfggmaaDoor
open Go.RowKit

theorem drewN_bel {n : Nat} {w w' : World} (h : Below (w.drewN n).heap.size (w.drewN n) w') : Below w.heap.size w w' := ⟨h.os, h.tape, h.output, h.size, h.block⟩

set_option maxRecDepth 100000 in
set_option maxHeartbeats 4000000 in
theorem formats_any (v : Value) (w : World) (hv : IntsAt w v) (hn : WordsOk w.heap.size w) (hl : LibOk w) (hs : 3 < w.heap.size) : Calls Tryd.prog 11 #[v] w (RetBel (.bool true) w) := by
  have HV := Lib.hid hv
  have HN := Lib.hid hn
  have HL := Lib.hid hl
  clear hv hn hl
  go_enter Tryd.func11, Tryd.ntmps11
  go_wp2_with fail
  refine (new_any v w HV.out).mono ?_
  rintro e w1 ⟨rfl, ht, hb⟩
  have h1 := ht.lt
  have HT1 := Lib.hid ht
  have HB1 := Lib.hid hb
  have HN1 := Lib.hid (HN.out.keep (M := fun _ => False) (.bel hb) fun _ _ => id)
  clear ht hb
  dsimp only
  go_wp2_with fail
  refine (value_any w.heap.size w1 HT1.out HN1.out).mono ?_
  rintro e w2 ⟨v2, rfl, ⟨a, rfl, ha⟩, ht, hk⟩
  have h2 := hk.size
  have HT2 := Lib.hid ht
  have HN2 := Lib.hid (HN1.out.at hk)
  have HB2 := Lib.hid (tape_below HB1.out (Nat.le_of_lt h1) hk)
  have HA := Lib.hid ha
  clear ht hk ha
  dsimp only
  go_wp2_with fail
  refine (value_any w.heap.size w2 HT2.out HN2.out).mono ?_
  rintro e w3 ⟨v3, rfl, ⟨b, rfl, hb⟩, ht, hk⟩
  have h3 := hk.size
  have HB3 := Lib.hid (tape_below HB2.out (by omega) hk)
  have HBV := Lib.hid hb
  clear ht hk hb HT1 HT2 HN1 HN2 HB1 HB2 HN HV
  have hva := fun w' => valid_any a w' (validVal_ok HA.out).1.1
  have hvb := fun w' => valid_any b w' (validVal_ok HBV.out).1.1
  rw [valid_of HA.out] at hva
  rw [valid_of HBV.out] at hvb
  have hfa := fun w' (h : LibOk w') (hs : 3 < w'.heap.size) => format_v a (validVal_ok HA.out).1 w' h hs
  have hfb := fun w' (h : LibOk w') (hs : 3 < w'.heap.size) => format_v b (validVal_ok HBV.out).1 w' h hs
  have hq : ((txt (fmtV a)).toList == [63]) = false := by
    rw [beq_eq_false_iff_ne, ByteArray.toList_eq]
    exact fun h => fmt_not63 HA.out (by simpa [txt] using h)
  have heq : ((txt (fmtV a)).toList == (txt (fmtV b)).toList) = sameV a b := by
    rw [Bool.eq_iff_iff, beq_iff_eq, sameV_iff, ByteArray.toList_eq, ByteArray.toList_eq]
    exact ⟨fun h => fmt_inj HA.out HBV.out (by simpa [txt] using h), fun h => by rw [h]⟩
  generalize txt (fmtV a) = fa at hfa hq heq
  generalize txt (fmtV b) = fb at hfb heq
  obtain ⟨ka, na, sa⟩ := a
  obtain ⟨kb, nb, sb⟩ := b
  unfold valOf at hva hvb hfa hfb ⊢
  simp only [sameV] at heq
  have HVA := Lib.hid hva
  have HVB := Lib.hid hvb
  have HFA := Lib.hid hfa
  have HFB := Lib.hid hfb
  have HQ := Lib.hid hq
  have HE := Lib.hid heq
  clear hva hvb hfa hfb hq heq
  dsimp only
  go_wp2_with fail
  generalize hW : ((w3.alloc _).alloc _) = W0
  have q1 : Hid (W0.heap[w3.heap.size]? = some (.cells #[.int .i64 ka, .int .i64 na, .string sa] 48 (0, 0))) := Lib.hid (by rw [← hW]; exact (Below.heap_alloc _ _ _ (by simp)).trans (heap_alloc_new w3 _))
  have q2 : Hid (W0.heap[w3.heap.size + 1]? = some (.cells #[.int .i64 kb, .int .i64 nb, .string sb] 48 (0, 0))) := Lib.hid (by rw [← hW]; have h9 := heap_alloc_new (w3.alloc (.cells #[.int .i64 ka, .int .i64 na, .string sa] 48)) (.cells #[.int .i64 kb, .int .i64 nb, .string sb] 48); rw [World.size_alloc] at h9; exact h9)
  have HBW : Hid (Below w.heap.size w W0) := Lib.hid (by rw [← hW]; exact (HB3.out.alloc HB3.out.size _).alloc (by simp; have := HB3.out.size; omega) _)
  have hsz : 3 < W0.heap.size := Nat.lt_of_lt_of_le hs HBW.out.size
  have HL0 : Hid (∀ wx, Below W0.heap.size W0 wx → LibOk wx) := Lib.hid fun wx h => (HL.out.bel HBW.out hs).bel h hsz
  have hz1 : w3.heap.size + 1 < W0.heap.size := by rw [← hW]; simp
  clear hW HB3 HL HA HBV h1 h2 h3
  generalize w3.heap.size = g at q1 q2 hz1 ⊢
  have hsq : ∀ wx, Below W0.heap.size W0 wx → (wx.cell? ⟨g, 0, none⟩ = some (.int .i64 ka) ∧ wx.cell? ⟨g, 1, none⟩ = some (.int .i64 na) ∧ wx.cell? ⟨g, 2, none⟩ = some (.string sa) ∧ wx.cell? ⟨g + 1, 0, none⟩ = some (.int .i64 kb) ∧ wx.cell? ⟨g + 1, 1, none⟩ = some (.int .i64 nb) ∧ wx.cell? ⟨g + 1, 2, none⟩ = some (.string sb)) := fun wx h => by
    obtain ⟨a0, a1, a2, _, _⟩ := blk3 ((h.block _ (by omega)).trans q1.out)
    obtain ⟨b0, b1, b2, _, _⟩ := blk3 ((h.block _ (by omega)).trans q2.out)
    exact ⟨a0, a1, a2, b0, b1, b2⟩
  obtain ⟨a0, a1, a2, b0, b1, b2⟩ := hsq W0 (Below.refl _ _)
  have HC := Lib.hid (drew_below (Below.refl W0.heap.size W0))
  have HSQ := Lib.hid hsq
  have hfq := HQ.out
  clear hsq q1 q2 HQ
  by_cases hk : ka = kb
  · subst hk
    by_cases hn : na = nb
    · subst hn
      by_cases ht : sa.toList = sb.toList
      · obtain rfl : sa = sb := bytes_ext (by rw [← ByteArray.toList_eq, ← ByteArray.toList_eq]; exact ht)
        have he : (fa.toList == fb.toList) = true := by rw [HE.out]; simp
        clear HE ht
        go_region_held3 (fun w' => w'.cell? ⟨g, 0, none⟩ = some (.int .i64 ka) ∧ w'.cell? ⟨g, 1, none⟩ = some (.int .i64 na) ∧ w'.cell? ⟨g, 2, none⟩ = some (.string sa) ∧ w'.cell? ⟨g + 1, 0, none⟩ = some (.int .i64 ka) ∧ w'.cell? ⟨g + 1, 1, none⟩ = some (.int .i64 na) ∧ w'.cell? ⟨g + 1, 2, none⟩ = some (.string sa))
          (first | (with_reducible exact HSQ.out _ HC.out) | go_keep)
          (first
            | ((go_at_call 44); ((with_reducible refine (HVA.out _).mono ?_); rintro e wy ⟨rfl, hb⟩; have HC := Lib.hid (HC.out.trans (hb.mono HC.out.size)); clear hb))
            | ((go_at_call 44); ((with_reducible refine (HVB.out _).mono ?_); rintro e wy ⟨rfl, hb⟩; have HC := Lib.hid (HC.out.trans (hb.mono HC.out.size)); clear hb))
            | ((go_at_call 46); ((with_reducible refine (HFA.out _ (HL0.out _ HC.out) (Nat.lt_of_lt_of_le hsz HC.out.size)).mono ?_); rintro e wy ⟨rfl, hb⟩; have HC := Lib.hid (HC.out.trans (hb.mono HC.out.size)); clear hb))
            | ((go_at_call 46); ((with_reducible refine (HFB.out _ (HL0.out _ HC.out) (Nat.lt_of_lt_of_le hsz HC.out.size)).mono ?_); rintro e wy ⟨rfl, hb⟩; have HC := Lib.hid (HC.out.trans (hb.mono HC.out.size)); clear hb))
            | ((go_at_call 54); ((refine (known1_any _ (HL0.out _ HC.out) (Nat.lt_of_lt_of_le hsz HC.out.size)).mono ?_); rintro e wy ⟨rfl, hb⟩; have HC := Lib.hid (HC.out.trans (hb.mono HC.out.size)); clear hb)))
        all_goals
          go_wp2_with fail
          go_ret
          exact ⟨rfl, HBW.out.trans (HC.out.mono HBW.out.size)⟩
      · have he : (fa.toList == fb.toList) = false := by rw [HE.out]; simp [ht]
        have ht' : (sa.toList == sb.toList) = false := by simpa using ht
        clear HE
        go_region_held3 (fun w' => w'.cell? ⟨g, 0, none⟩ = some (.int .i64 ka) ∧ w'.cell? ⟨g, 1, none⟩ = some (.int .i64 na) ∧ w'.cell? ⟨g, 2, none⟩ = some (.string sa) ∧ w'.cell? ⟨g + 1, 0, none⟩ = some (.int .i64 ka) ∧ w'.cell? ⟨g + 1, 1, none⟩ = some (.int .i64 na) ∧ w'.cell? ⟨g + 1, 2, none⟩ = some (.string sb))
          (first | (with_reducible exact HSQ.out _ HC.out) | go_keep)
          (first
            | ((go_at_call 44); ((with_reducible refine (HVA.out _).mono ?_); rintro e wy ⟨rfl, hb⟩; have HC := Lib.hid (HC.out.trans (hb.mono HC.out.size)); clear hb))
            | ((go_at_call 44); ((with_reducible refine (HVB.out _).mono ?_); rintro e wy ⟨rfl, hb⟩; have HC := Lib.hid (HC.out.trans (hb.mono HC.out.size)); clear hb))
            | ((go_at_call 46); ((with_reducible refine (HFA.out _ (HL0.out _ HC.out) (Nat.lt_of_lt_of_le hsz HC.out.size)).mono ?_); rintro e wy ⟨rfl, hb⟩; have HC := Lib.hid (HC.out.trans (hb.mono HC.out.size)); clear hb))
            | ((go_at_call 46); ((with_reducible refine (HFB.out _ (HL0.out _ HC.out) (Nat.lt_of_lt_of_le hsz HC.out.size)).mono ?_); rintro e wy ⟨rfl, hb⟩; have HC := Lib.hid (HC.out.trans (hb.mono HC.out.size)); clear hb))
            | ((go_at_call 54); ((refine (known1_any _ (HL0.out _ HC.out) (Nat.lt_of_lt_of_le hsz HC.out.size)).mono ?_); rintro e wy ⟨rfl, hb⟩; have HC := Lib.hid (HC.out.trans (hb.mono HC.out.size)); clear hb)))
        all_goals
          go_wp2_with fail
          go_ret
          exact ⟨rfl, HBW.out.trans (HC.out.mono HBW.out.size)⟩
    · have he : (fa.toList == fb.toList) = false := by rw [HE.out]; simp [hn]
      have hn' : (na == nb) = false := by simpa using hn
      clear HE
      go_region_held3 (fun w' => w'.cell? ⟨g, 0, none⟩ = some (.int .i64 ka) ∧ w'.cell? ⟨g, 1, none⟩ = some (.int .i64 na) ∧ w'.cell? ⟨g, 2, none⟩ = some (.string sa) ∧ w'.cell? ⟨g + 1, 0, none⟩ = some (.int .i64 ka) ∧ w'.cell? ⟨g + 1, 1, none⟩ = some (.int .i64 nb) ∧ w'.cell? ⟨g + 1, 2, none⟩ = some (.string sb))
        (first | (with_reducible exact HSQ.out _ HC.out) | go_keep)
        (first
          | ((go_at_call 44); ((with_reducible refine (HVA.out _).mono ?_); rintro e wy ⟨rfl, hb⟩; have HC := Lib.hid (HC.out.trans (hb.mono HC.out.size)); clear hb))
          | ((go_at_call 44); ((with_reducible refine (HVB.out _).mono ?_); rintro e wy ⟨rfl, hb⟩; have HC := Lib.hid (HC.out.trans (hb.mono HC.out.size)); clear hb))
          | ((go_at_call 46); ((with_reducible refine (HFA.out _ (HL0.out _ HC.out) (Nat.lt_of_lt_of_le hsz HC.out.size)).mono ?_); rintro e wy ⟨rfl, hb⟩; have HC := Lib.hid (HC.out.trans (hb.mono HC.out.size)); clear hb))
          | ((go_at_call 46); ((with_reducible refine (HFB.out _ (HL0.out _ HC.out) (Nat.lt_of_lt_of_le hsz HC.out.size)).mono ?_); rintro e wy ⟨rfl, hb⟩; have HC := Lib.hid (HC.out.trans (hb.mono HC.out.size)); clear hb))
          | ((go_at_call 54); ((refine (known1_any _ (HL0.out _ HC.out) (Nat.lt_of_lt_of_le hsz HC.out.size)).mono ?_); rintro e wy ⟨rfl, hb⟩; have HC := Lib.hid (HC.out.trans (hb.mono HC.out.size)); clear hb)))
      all_goals
        go_wp2_with fail
        go_ret
        exact ⟨rfl, HBW.out.trans (HC.out.mono HBW.out.size)⟩
  · have he : (fa.toList == fb.toList) = false := by rw [HE.out]; simp [hk]
    have hk' : (ka == kb) = false := by simpa using hk
    clear HE
    go_region_held3 (fun w' => w'.cell? ⟨g, 0, none⟩ = some (.int .i64 ka) ∧ w'.cell? ⟨g, 1, none⟩ = some (.int .i64 na) ∧ w'.cell? ⟨g, 2, none⟩ = some (.string sa) ∧ w'.cell? ⟨g + 1, 0, none⟩ = some (.int .i64 kb) ∧ w'.cell? ⟨g + 1, 1, none⟩ = some (.int .i64 nb) ∧ w'.cell? ⟨g + 1, 2, none⟩ = some (.string sb))
      (first | (with_reducible exact HSQ.out _ HC.out) | go_keep)
      (first
        | ((go_at_call 44); ((with_reducible refine (HVA.out _).mono ?_); rintro e wy ⟨rfl, hb⟩; have HC := Lib.hid (HC.out.trans (hb.mono HC.out.size)); clear hb))
        | ((go_at_call 44); ((with_reducible refine (HVB.out _).mono ?_); rintro e wy ⟨rfl, hb⟩; have HC := Lib.hid (HC.out.trans (hb.mono HC.out.size)); clear hb))
        | ((go_at_call 46); ((with_reducible refine (HFA.out _ (HL0.out _ HC.out) (Nat.lt_of_lt_of_le hsz HC.out.size)).mono ?_); rintro e wy ⟨rfl, hb⟩; have HC := Lib.hid (HC.out.trans (hb.mono HC.out.size)); clear hb))
        | ((go_at_call 46); ((with_reducible refine (HFB.out _ (HL0.out _ HC.out) (Nat.lt_of_lt_of_le hsz HC.out.size)).mono ?_); rintro e wy ⟨rfl, hb⟩; have HC := Lib.hid (HC.out.trans (hb.mono HC.out.size)); clear hb))
        | ((go_at_call 54); ((refine (known1_any _ (HL0.out _ HC.out) (Nat.lt_of_lt_of_le hsz HC.out.size)).mono ?_); rintro e wy ⟨rfl, hb⟩; have HC := Lib.hid (HC.out.trans (hb.mono HC.out.size)); clear hb)))
    all_goals
      go_wp2_with fail
      go_ret
      exact ⟨rfl, HBW.out.trans (HC.out.mono HBW.out.size)⟩

end Go.Proofs.YtiheioajnfggmaaDoor
