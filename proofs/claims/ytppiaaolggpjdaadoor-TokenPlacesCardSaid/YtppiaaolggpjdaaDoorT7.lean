/- The walk of TokenPlaces. -/
import Derived.Test.YtppiaaolggpjdaaDoorT6
import Derived.Test.YtppiaaolggpjdaaDoorKC1
import Derived.BigQuiet
import Derived.Deep.QuietTactic
namespace Go.Proofs.YtppiaaolggpjdaaDoor
open Go.RowKit

def bitList : List (List UInt8) := [[97], [48], [49, 50], [48, 48], [57, 50, 50, 51, 51, 55, 50, 48, 51, 54, 56, 53, 52, 55, 55, 53, 56, 48, 55], [57, 50, 50, 51, 51, 55, 50, 48, 51, 54, 56, 53, 52, 55, 55, 53, 56, 48, 56], [39], [39, 39], [60], [62], [61], [83, 69, 76, 69, 67, 84], [115, 101, 108, 101, 99, 116], [32], [10], [120, 95, 57], [45], [40], [66], [46]]
def bitAt (i : Nat) : ByteArray := ⟨(bitList.getD i []).toArray⟩
theorem bit_small (i : Nat) : (bitAt i).size ≤ 19 := by
  have h : bitList.all (fun l => decide (l.length ≤ 19)) = true := by decide
  show (bitList.getD i []).length ≤ 19
  rw [List.getD_eq_getElem?_getD]
  cases hi : bitList[i]? with
  | none => simp
  | some l => simpa using List.all_eq_true.1 h l (List.mem_of_getElem? hi)

/-- The variable bits holds its twenty texts. -/
def BitsOk (w : World) : Prop := ∀ i : Nat, i < 20 → w.cell? ⟨0, i, none⟩ = some (.string (bitAt i))
theorem BitsOk.keep {M : Nat → Prop} {w w' : World} (h : BitsOk w) (k : Keep M w w') (hM : ¬ M 0) : BitsOk w' := fun i hi =>
  (k.cell (World.block_lt_of_cell? _ _ (h i hi)) hM).trans (h i hi)

theorem TokOk.at {T : Nat} {w w' : World} (h : TokOk w) (k : Keep (At T) w w') (hT : 10 < T) : TokOk w' := h.keep k fun j hj hh => by unfold At at hh; omega

theorem asc_get : ∀ {l : List Tok} {lo hi j : Nat} {x : Tok}, Asc lo hi l → l[j]? = some x → lo ≤ x.2.2 ∧ x.2.2 < hi
  | [], _, _, _, _, _, h => by simp at h
  | y :: l, lo, hi, 0, x, ⟨h1, h2, _⟩, h => by
    simp only [List.getElem?_cons_zero, Option.some.injEq] at h
    subst h
    exact ⟨h1, h2⟩
  | y :: l, lo, hi, j + 1, x, ⟨h1, h2, h3⟩, h => by
    have := asc_get (j := j) h3 (by simpa using h)
    omega
theorem asc_next : ∀ {l : List Tok} {lo hi j : Nat} {x y : Tok}, Asc lo hi l → l[j]? = some x → l[j + 1]? = some y → x.2.2 < y.2.2
  | [], _, _, _, _, _, _, h, _ => by simp at h
  | z :: l, lo, hi, 0, x, y, ⟨h1, h2, h3⟩, h, h' => by
    simp only [List.getElem?_cons_zero, Option.some.injEq] at h
    subst h
    have := asc_get (j := 0) h3 (by simpa using h')
    omega
  | z :: l, lo, hi, j + 1, x, y, ⟨h1, h2, h3⟩, h, h' => asc_next (j := j) h3 (by simpa using h) (by simpa using h')

theorem out_asc {s : ByteArray} {l : List Tok} {a e : Int} (h : TokOut s l a e) : 0 ≤ a ∧ a ≤ s.size ∧ ((a = 0 ∧ e = 0 ∧ Asc 0 s.size l) ∨ (e ≠ 0 ∧ l = [])) := by
  rcases h with ⟨h, h0, h1, h2⟩ | ⟨_, h, h1, h2⟩ | ⟨_, i, h, h0, h1, h2⟩
  · exact ⟨by omega, by omega, .inr ⟨by omega, h0⟩⟩
  · exact ⟨by omega, by omega, .inl ⟨h1, h2, (toks_asc s _ 0).1 _ h⟩⟩
  · have := (toks_asc s _ 0).2 _ h
    exact ⟨by omega, by omega, .inr ⟨by omega, h0⟩⟩

set_option maxRecDepth 100000 in
set_option maxHeartbeats 8000000 in
theorem places_any (s : ByteArray) (v : Value) (w : World) (hs : s.size ≤ maxLen) (hv : IntsAt w v) (hb : BitsOk w) (h : TokOk w) : Calls Tryd.prog 7 #[.string s, v] w (RetBel (.bool true) w) := by
  have HV := Lib.hid hv
  have HBT := Lib.hid hb
  have HT := Lib.hid h
  have hT10 : 10 < w.heap.size := h.2.2.2
  clear hv hb h
  go_enter Tryd.func7, Tryd.ntmps7
  go_wp2_with fail
  refine (new_any v w HV.out).mono ?_
  rintro e w1 ⟨rfl, ht, hb⟩
  have h1 := ht.lt
  have HT1 := Lib.hid ht
  have HB1 := Lib.hid hb
  have HK1 := Lib.hid (HT.out.bel hb)
  have HBT1 := Lib.hid (HBT.out.keep (M := fun _ => False) (.bel hb) id)
  clear ht hb HV HT HBT
  dsimp only
  go_wp2_with fail
  refine (next_any w.heap.size 20 w1 (by omega) (by omega) HT1.out).mono ?_
  rintro e w2 ⟨v2, rfl, ⟨r, rfl, hr0, hr1⟩, ht, hk⟩
  obtain ⟨n0, rfl⟩ := Int.eq_ofNat_of_zero_le hr0
  have HT2 := Lib.hid ht
  have HK2 := Lib.hid hk
  clear ht hk
  dsimp only
  go_wp2_with fail
  go_loopw [6, 7] (fun a b wr => ∃ (m : ByteArray) (n : Nat), a = .string m ∧ b = .int .i64 n ∧ n ≤ 20 ∧ m.size + 19 * n ≤ 380 ∧ TapeOk w.heap.size wr ∧ Keep (At w.heap.size) w1 wr) (fun _ b _ => (intOf b).toNat)
  case atStart => exact ⟨⟨#[]⟩, n0, rfl, rfl, by omega, by show 0 + 19 * n0 ≤ 380; omega, HT2.out, HK2.out⟩
  case round =>
    obtain ⟨m, n, rfl, rfl, hn, hm, ht, hk⟩ := hrel
    have HTr := Lib.hid ht
    have HKr := Lib.hid hk
    clear ht hk
    by_cases hn0 : 0 < n
    · have hn0' : (0 : Int) < n := by omega
      go_wp2_with fail
      refine (next_any w.heap.size 20 wr (by omega) (by omega) HTr.out).mono ?_
      rintro e w3 ⟨v3, rfl, ⟨r, rfl, hr0, hr1⟩, ht, hk⟩
      obtain ⟨i, rfl⟩ := Int.eq_ofNat_of_zero_le hr0
      have hi : i < 20 := by omega
      have hbz := bit_small i
      have hc := HBT1.out.keep (HKr.out.trans hk) (by unfold At; omega) i hi
      generalize bitAt i = bt at hbz hc
      have HT3 := Lib.hid ht
      have HK3 := Lib.hid (HKr.out.trans hk)
      clear ht hk
      dsimp only
      go_wp2_with fail
      go_roundw
      case rel => exact ⟨m ++ bt, n - 1, rfl, by congr 1; omega, by omega, by rw [ByteArray.size_append]; omega, HT3.out, HK3.out⟩
      case measure => simp [intOf]; omega
    · obtain rfl : n = 0 := by omega
      go_upto_region 8 with fail
      generalize hW : World.alloc wr _ = W
      have hc : W.heap[wr.heap.size]? = some (.cells #[.string s, .string m] 9 (0, 0)) := by rw [← hW]; exact heap_alloc_new wr _
      have hb : Below wr.heap.size wr W := by rw [← hW]; exact (Below.refl _ _).alloc (Nat.le_refl _) _
      have hbz := (Array.getElem?_eq_some_iff.1 hc).1
      have HKW := Lib.hid (HKr.out.trans (.bel hb))
      have HTW := Lib.hid (HK1.out.at HKW.out hT10)
      have HCW := Lib.hid (show ∀ wx, Below W.heap.size W wx → wx.cell? ⟨wr.heap.size, 0, none⟩ = some (.string s) ∧ wx.cell? ⟨wr.heap.size, 1, none⟩ = some (.string m) from fun wx hb => by
        have h := (hb.block _ hbz).trans hc
        exact ⟨by simp [World.cell?, h], by simp [World.cell?, h]⟩)
      clear hW hc hb HT1 HT2 HK2 HTr HKr HBT1
      generalize wr.heap.size = b at hbz HCW ⊢
      go_wp2_with fail
      go_loopw [33] (fun i wx => ∃ j : Nat, i = .int .i64 j ∧ j ≤ 2 ∧ Below W.heap.size W wx) (fun i _ => 2 - (intOf i).toNat)
      case atStart => exact ⟨0, rfl, by omega, Below.refl _ _⟩
      case round =>
        rename World => wx
        obtain ⟨j, rfl, hj, hb⟩ := hrel
        have HB := Lib.hid hb
        clear hb
        by_cases hlt : j < 2
        · obtain ⟨x, hx, hc⟩ : ∃ x : ByteArray, x.size ≤ maxLen ∧ wx.cell? ⟨b, j, none⟩ = some (.string x) := by
            obtain ⟨c0, c1⟩ := HCW.out _ HB.out
            match j, hlt with
            | 0, _ => exact ⟨s, hs, c0⟩
            | 1, _ => exact ⟨m, by unfold maxLen; omega, c1⟩
          have hj0 : (0 : Int) ≤ (j : Int) := by omega
          have hj1 : (j : Int) < 2 := by omega
          unfold maxLen at hx
          have HTx := Lib.hid (HTW.out.bel HB.out)
          go_wp2_with fail
          refine (tokens_any x wx hx HTx.out).mono ?_
          rintro e w2 ⟨v2, a2, e2, l, rfl, ho, hb2, hout⟩
          obtain ⟨hca, hcb, hcc⟩ := out_asc hout
          have HB2 := Lib.hid (HB.out.trans (hb2.mono HB.out.size))
          have HR := Lib.hid (ho.rows (M := fun _ => False) fun _ _ _ => id)
          obtain ⟨oa, oc, rfl, hlm⟩ := ho.shape
          have HA : Hid (Asc 0 x.size l) := Lib.hid (by rcases hcc with h | h; exact h.2.2; rw [h.2]; trivial)
          have hlm' : l.length ≤ 9223372036854775807 := hlm
          clear ho hb2 hout
          dsimp only
          have hl0 : (0 : Int) ≤ x.size := by omega
          rcases hcc with ⟨rfl, rfl, _⟩ | ⟨hne, hln⟩
          case' inl => have hee : ((0 : Int) == 0) = true := rfl
          case' inr =>
            have hee : (e2 == 0) = false := by simpa using hne
            have hef : (e2 != 0) = true := by simpa using hne
            have hll : ((l.length : Int) != 0) = false := by rw [hln]; rfl
            clear hne hln
          all_goals
            go_upto_region 13 with fail
            go_wp2_with fail
            go_loopw [70] (fun i wy => ∃ k : Nat, i = .int .i64 k ∧ k ≤ l.length ∧ Below w2.heap.size w2 wy) (fun i _ => l.length - (intOf i).toNat)
            case atStart => exact ⟨0, rfl, Nat.zero_le _, Below.refl _ _⟩
            case round =>
              rename World => wy
              obtain ⟨k, rfl, hk, hb⟩ := hrel
              have HBy := Lib.hid hb
              clear hb
              by_cases hlk : k < l.length
              · rcases HR.out.open with ⟨⟨_, _⟩, h0⟩ | ⟨bb, oo, cap', hv', _, hbz', hcap, hcm, hx⟩
                · rw [h0] at hlk
                  simp at hlk
                simp only [Value.slice.injEq] at hv'
                obtain ⟨rfl, _, rfl⟩ := hv'
                obtain ⟨cs, rfl, _, hcs⟩ := hx k _ (List.getElem?_eq_getElem hlk)
                have hg := asc_get HA.out (List.getElem?_eq_getElem hlk)
                obtain ⟨g0, g1, g2⟩ := (hcs.keep (M := fun _ => False) (.bel HBy.out) id).c3
                have HX := Lib.hid hx
                have HG := Lib.hid (List.getElem?_eq_getElem hlk)
                generalize l[k] = tk at hg g0 g1 g2 HG
                obtain ⟨tk1, tk2, tk3⟩ := tk
                dsimp only at hg g0 g1 g2
                clear hx hcs
                have hlk' : (k : Int) < l.length := by omega
                have hk0 : (0 : Int) ≤ k := by omega
                go_upto_region 16 with fail
                generalize hW5 : World.alloc wy _ = w5
                have hc5 : w5.heap[wy.heap.size]? = some (.cells #[.int .i64 tk1, .string tk2, .int .i64 tk3] 71 (0, 0)) := by rw [← hW5]; exact heap_alloc_new wy _
                have hb5 : Below wy.heap.size wy w5 := by rw [← hW5]; exact (Below.refl _ _).alloc (Nat.le_refl _) _
                have HB5 := Lib.hid (HBy.out.trans (hb5.mono HBy.out.size))
                obtain ⟨d0, d1, d2, df, dz⟩ := blk3t hc5
                have hzy : wy.heap.size ≤ wy.heap.size := Nat.le_refl _
                clear hW5 hc5 hb5 df g0 g1 g2
                obtain ⟨hg1, hg2⟩ := hg
                have q1 : decide ((tk3 : Int) < 0) = false := by simp only [decide_eq_false_iff_not]; omega
                have q2 : decide ((x.size : Int) ≤ tk3) = false := by simp only [decide_eq_false_iff_not]; omega
                have q2' : decide (x.size ≤ tk3) = false := by simp only [decide_eq_false_iff_not]; omega
                rcases Nat.eq_zero_or_pos k with rfl | hkp
                · have q3 : decide ((0 : Int) < 0) = false := by decide
                  go_quiet (fail)
                  go_wp2_with fail
                  go_roundw
                  case rel => first | exact ⟨1, by go_num, by omega, drewN_below HB5.out _⟩ | ((repeat apply Exists.intro); exact ⟨⟨1, by go_num, by omega, drewN_below HB5.out _⟩, rfl⟩)
                  case measure => simp [intOf]; omega
                · obtain ⟨k', rfl⟩ : ∃ k', k = k' + 1 := ⟨k - 1, by omega⟩
                  obtain ⟨cs, rfl, _, hcs⟩ := HX.out k' _ (List.getElem?_eq_getElem (by omega))
                  have hn := asc_next HA.out (List.getElem?_eq_getElem (by omega)) HG.out
                  obtain ⟨_, _, p2⟩ := (hcs.keep (M := fun _ => False) (.bel HB5.out) id).c3
                  generalize l[k'] = pk at hn p2
                  obtain ⟨pk1, pk2, pk3⟩ := pk
                  dsimp only at hn p2
                  clear hcs
                  have q3 : decide ((0 : Int) < (k' : Int) + 1) = true := by simp only [decide_eq_true_eq]; omega
                  have q4 : decide ((tk3 : Int) ≤ pk3) = false := by simp only [decide_eq_false_iff_not]; omega
                  have q4' : decide (tk3 ≤ pk3) = false := by simp only [decide_eq_false_iff_not]; omega
                  have hk1 : (k' : Int) < l.length := by omega
                  have hk2 : (0 : Int) ≤ k' := by omega
                  have hkm : k' ≤ 9223372036854775806 := by omega
                  have hw1 : IntKind.i64.wrap ((k' : Int) + 1 - 1) = k' := by rw [IntWalk.i64_in _ (by omega)]; omega
                  have hw2 : IntKind.i64.wrap (k' : Int) = k' := IntWalk.i64_in _ (by omega)
                  have hk4 : ((k' : Int)).toNat = k' := Int.toNat_natCast k'
                  clear hkm
                  go_quiet (fail)
                  clear hw1 hw2 hk4
                  go_wp2_with fail
                  go_roundw
                  case rel => first | exact ⟨k' + 1 + 1, by go_num, by omega, drewN_below HB5.out _⟩ | ((repeat apply Exists.intro); exact ⟨⟨k' + 1 + 1, by go_num, by omega, drewN_below HB5.out _⟩, rfl⟩)
                  case measure => simp [intOf]; omega
              · obtain rfl : k = l.length := by omega
                have HB4 := Lib.hid (HB2.out.trans (HBy.out.mono HB2.out.size))
                go_wp2_with fail
                go_roundw
                case rel => first | exact ⟨j + 1, by go_num, by omega, HB4.out⟩ | ((repeat apply Exists.intro); exact ⟨⟨j + 1, by go_num, by omega, HB4.out⟩, rfl⟩)
                case measure => simp [intOf]; omega
        · obtain rfl : j = 2 := by omega
          go_wp2_with fail
          refine (known10_any wx (HTW.out.bel HB.out)).mono ?_
          rintro e w3 ⟨rfl, hb⟩
          have HB3 := Lib.hid (HB.out.trans (hb.mono HB.out.size))
          clear hb
          dsimp only
          go_wp2_with fail
          go_ret
          exact ⟨rfl, HB1.out.trans ((HKW.out.toBelow (B := w.heap.size) (by omega) fun k hk h => by unfold At at h; omega).trans (HB3.out.mono (by have := HKW.out.size; omega)))⟩
end Go.Proofs.YtppiaaolggpjdaaDoor
