/- The walk of SyntaxExprs. -/
import Derived.Test.YthcpacadjnpacaaDoorS14
import Derived.Test.YthcpacadjnpacaaDoorS15
import Derived.Test.YthcpacadjnpacaaDoorKN3
namespace Go.Proofs.YthcpacadjnpacaaDoor
open Go.RowKit

theorem name_valid (i : Nat) (h : i < 8) : nameB (nameAt i) = true := by
  have h8 : i = 0 ∨ i = 1 ∨ i = 2 ∨ i = 3 ∨ i = 4 ∨ i = 5 ∨ i = 6 ∨ i = 7 := by omega
  rcases h8 with rfl | rfl | rfl | rfl | rfl | rfl | rfl | rfl <;> decide +kernel
theorem qual_valid {q : ByteArray} (h : q ∈ qualL) (n : ByteArray) (hn : nameB n = true) : columnB q n = true := by
  unfold columnB
  rw [hn]
  simp only [qualL, List.mem_cons, List.not_mem_nil, or_false] at h
  rcases h with rfl | rfl | rfl | rfl | rfl | rfl <;> decide +kernel
theorem from_valid {q : ByteArray} (h : q ∈ fromL) : sourceB q = true := by
  simp only [fromL, List.mem_cons, List.not_mem_nil, or_false] at h
  rcases h with rfl | rfl | rfl | rfl | rfl <;> decide +kernel
theorem val_valid {x : Val} (h : ValidVal x) : validV x = true := by
  have hw : ∀ i, i < 6 → plainB (wordAt i) = true := by decide +kernel
  have he : noText ⟨#[]⟩ = true := by decide +kernel
  obtain ⟨k, n, s⟩ := x
  unfold ValidVal at h
  simp only at h
  rcases h with ⟨rfl, rfl, rfl⟩ | ⟨rfl, _, rfl⟩ | ⟨rfl, h0, h1, rfl⟩ | ⟨rfl, rfl, i, hi, rfl⟩
  · simp [validV, he]
  · simp [validV, he]
  · have : n = 0 ∨ n = 1 := by omega
    simp [validV, he, this]
  · simp [validV, hw i hi]
theorem val0_z : valZ val0 = true := by decide +kernel
theorem es_z : nameZ es es = true := by decide +kernel

/-- What AnyExpr makes is well-formed. -/
theorem any_valid {n : Nat} {e : Ex} (h : AnyX n e) : validP e = true := by
  induction h with
  | col n q i hq hi =>
    rw [validP_eq]
    show (decide ((0 : Int) = 0) && !false && valZ val0 && decide (([] : List Ex).length = 0) && decide (([] : List Qu).length = 0) && columnB q (nameAt i)) = true
    rw [val0_z, qual_valid hq _ (name_valid i hi)]
    rfl
  | lit n v hv h0 =>
    rw [validP_eq]
    show (decide ((0 : Int) = 0) && !false && nameZ es es && decide (([] : List Ex).length = 0) && decide (([] : List Qu).length = 0) && validV v && !(decide (v.kind = 1) && decide (v.int < 0))) = true
    rw [es_z, val_valid hv]
    by_cases h1 : v.kind = 1
    · have := h0 h1
      rw [decide_eq_true h1, decide_eq_false (show ¬ v.int < 0 by omega)]
      rfl
    · rw [decide_eq_false h1]
      rfl
  | ops n k o no args hk ha ih =>
    have hl : validL args = true := by rw [validL_all, List.all_eq_true]; exact ih
    rw [validP_eq]
    simp only [opX, Ex.kind, Ex.op, Ex.no, Ex.val, Ex.table, Ex.name, Ex.args, Ex.sub, val0_z, es_z, hl, List.length_nil]
    unfold OpShape at hk
    rcases hk with ⟨rfl | rfl, rfl, rfl, hn⟩ | ⟨rfl, rfl, hn⟩ | ⟨rfl, h1, h2, rfl, hn⟩ | ⟨rfl, rfl, rfl, hn⟩
    · simp [hn]
    · simp [hn]
    · simp [hn]
    · simp [hn, h1, h2]
    · simp [hn]
  | sub n k f items whr hf hi hw h1 h2 ih1 ih2 =>
    have hl1 : validL items = true := by rw [validL_all, List.all_eq_true]; exact ih1
    have hl2 : validL whr = true := by rw [validL_all, List.all_eq_true]; exact ih2
    rw [validP_eq]
    simp only [opX, Ex.kind, Ex.op, Ex.no, Ex.val, Ex.table, Ex.name, Ex.args, Ex.sub, val0_z, es_z, List.length_nil, List.length_singleton]
    rw [if_neg (by omega), if_neg (by omega), if_pos (by omega), validS, validS, from_valid hf, hl1, hl2, decide_eq_true hw]
    rcases hi with ⟨hk, rfl⟩ | ⟨hk, hi⟩
    · rw [if_pos hk]
      rcases hk with rfl | rfl <;> rfl
    · rw [if_neg (by omega), hi]
      rcases hk with rfl | rfl | rfl <;> rfl

set_option maxRecDepth 100000 in
set_option maxHeartbeats 40000000 in
theorem syntaxExprs_any (x : Ex) (cs : List Value) (v : Value) (m : Nat) (w : World) (hx : EC NoM w x cs) (hd : Dep m x) (hm : m ≤ 100000000) (hv : IntsAt w v) (hn : NamesOk w.heap.size w) (hw : WordsOk w.heap.size w) :
    Calls Tryd.prog 3 #[.agg cs.toArray, v] w (RetBel (.bool true) w) := by
  have hec0 := hx
  obtain ⟨va, vs, rfl, ha, hs⟩ := (EC_iff ..).1 hx
  obtain ⟨a, ac, rfl, _⟩ := ha.shape
  obtain ⟨s, sc, rfl, _⟩ := hs.shape
  have HX := Lib.hid hec0
  have HD := Lib.hid hd
  have HV := Lib.hid hv
  have HN := Lib.hid hn
  have HW := Lib.hid hw
  clear hx hec0 hd hv hn hw ha hs
  simp only [exCells]
  go_enter Tryd.func3, Tryd.ntmps3
  go_wp2_with fail
  generalize hW0 : World.alloc w _ = W0
  have hk0 : W0.heap[w.heap.size]? = some (.cells #[.int .i64 x.kind, .int .i64 x.op, .bool x.no, .int .i64 x.val.kind, .int .i64 x.val.int, .string x.val.text, .string x.table, .string x.name, .slice a x.args.length ac, .slice s x.sub.length sc] 27 (0, 0)) := by rw [← hW0]; exact heap_alloc_new w _
  have hb0 : Below w.heap.size w W0 := by rw [← hW0]; exact (Below.refl _ _).alloc (Nat.le_refl _) _
  have hz0 : w.heap.size < W0.heap.size := by rw [← hW0]; simp
  have HB0 := Lib.hid hb0
  have HX0 := Lib.hid (EC.keep (M := NoM) (.bel hb0) _ _ HX.out)
  have HK0 := Lib.hid hk0
  have HN0 : Hid (NamesOk W0.heap.size W0) := Lib.hid (by have h := HN.out.keep (M := fun _ => False) (.bel hb0) fun _ _ => id; exact ⟨by have := h.1; omega, h.2⟩)
  have HW0 : Hid (WordsOk W0.heap.size W0) := Lib.hid (by have h := HW.out.keep (M := fun _ => False) (.bel hb0) fun _ _ => id; exact ⟨by have := h.1; omega, h.2⟩)
  have HV0 := Lib.hid (HV.out.bel hb0)
  clear hW0 hk0 hb0 HN HW HV
  refine (new_any v W0 HV0.out).mono ?_
  rintro e w1 ⟨rfl, ht, hb⟩
  have h1 := ht.lt
  have HT1 := Lib.hid ht
  have HB1 := Lib.hid hb
  have HN1 := Lib.hid (HN0.out.keep (M := fun _ => False) (.bel hb) fun _ _ => id)
  have HW1 := Lib.hid (HW0.out.keep (M := fun _ => False) (.bel hb) fun _ _ => id)
  clear ht hb HV0
  dsimp only
  go_wp2_with fail
  refine (any_ok 4 (by omega) W0.heap.size 4 w1 (by omega) (by omega) HT1.out HN1.out HW1.out).mono ?_
  rintro e w2 ⟨v2, rfl, ⟨y, hy, hany⟩, ht, hk⟩
  have z2 := hk.size
  have HB2 := Lib.hid (tape_below HB1.out (by omega) hk)
  have hy0 := hy
  obtain ⟨a1, ac1, s1, sc1, rfl, _, _⟩ := hy0
  have HT2 := Lib.hid ht
  have HW2 := Lib.hid (HW1.out.at hk)
  have HY := Lib.hid (exv_cs hy)
  have HANY := Lib.hid hany
  clear ht hk hy hany HT1 HN1 HW1 HN0 HW0
  dsimp only
  go_upto_region 3 with fail
  generalize hW3 : w2.alloc _ = W3
  have hp : W3.heap[w2.heap.size]? = some (.cells #[.int .i64 y.kind, .int .i64 y.op, .bool y.no, .int .i64 y.val.kind, .int .i64 y.val.int, .string y.val.text, .string y.table, .string y.name, .slice a1 y.args.length ac1, .slice s1 y.sub.length sc1] 27 (0, 0)) := by rw [← hW3]; exact heap_alloc_new w2 _
  have hb3 : Below w2.heap.size w2 W3 := by rw [← hW3]; exact (Below.refl _ _).alloc (Nat.le_refl _) _
  have hz3 : w2.heap.size < W3.heap.size := (Array.getElem?_eq_some_iff.1 hp).1
  have HP := Lib.hid hp
  have HT3 := Lib.hid (HT2.out.bel hb3)
  have HW3 := Lib.hid (HW2.out.keep (M := fun _ => False) (.bel hb3) fun _ _ => id)
  have HB3 := Lib.hid (HB2.out.trans (hb3.mono (by omega)))
  have HY3 := Lib.hid (EC.weak (M' := At W0.heap.size) (fun k _ h => by unfold At at h; unfold Old; omega) _ _ (EC.keep (.bel hb3) _ _ HY.out))
  have HX3 := Lib.hid (EC.keep (.bel HB3.out) _ _ (EC.weak (M' := At W0.heap.size) (fun k hk h => by unfold At at h; omega) _ _ HX0.out))
  clear hW3 hp hb3 HT2 HW2 HB2 HY
  -- from here: worlds behind tape calls
  have HQ := Lib.hid (fun (wx : World) (hk : Keep (At W0.heap.size) W3 wx) => blk10 ((hk.block w2.heap.size hz3 (fun h => by unfold At at h; omega)).trans HP.out))
  have HQ0 := Lib.hid (fun (wx : World) (hk : Keep (At W0.heap.size) W3 wx) => blk10 ((hk.block w.heap.size (by omega) (fun h => by unfold At at h; omega)).trans ((HB3.out.block w.heap.size (by omega)).trans HK0.out)))
  go_wp2_with fail
  go_loopw [7] (fun i wr => ∃ j : Nat, j ≤ 4 ∧ i = .int .i64 j ∧ TapeOk W0.heap.size wr ∧ Keep (At W0.heap.size) W3 wr) (fun i _ => 4 - (intOf i).toNat)
  case atStart => exact ⟨0, Nat.zero_le _, rfl, HT3.out, Keep.refl _ _⟩
  case round =>
    rename World => wr
    obtain ⟨j, hj, rfl, ht, hk⟩ := hrel
    have HT := Lib.hid ht
    have HK := Lib.hid hk
    clear ht hk
    obtain ⟨x0, x1, x2, x3, x4, x5, x6, x7, x8, x9, xf, xz⟩ := HQ.out _ HK.out
    by_cases hlt : j < 4
    · have hlt' : (j : Int) < 4 := by omega
      go_wp2_with fail
      refine (sp_ok 4 (At W0.heap.size) W0.heap.size wr y _ rfl HT.out (HW3.out.at HK.out) (EC.keep HK.out _ _ HY3.out) HANY.out).mono ?_
      rintro e w5 ⟨v5, rfl, ⟨z, hz, hdz⟩, ht, hk⟩
      have HT5 := Lib.hid ht
      have HK5 := Lib.hid (HK.out.trans hk)
      have HZ := Lib.hid (hz.weak (M' := NoM) fun _ _ h => h.elim)
      have HDZ := Lib.hid hdz
      clear ht hk hz hdz
      dsimp only
      go_wp2_with fail
      refine (alike_v HZ.out HDZ.out (by omega)).mono ?_
      rintro e w6 ⟨rfl, hb⟩
      have HT6 := Lib.hid (HT5.out.bel hb)
      have HK6 := Lib.hid (HK5.out.trans (.bel hb))
      clear hb
      dsimp only
      go_wp2_with fail
      go_roundw
      case rel => exact ⟨j + 1, by omega, by go_num, HT6.out, HK6.out⟩
      case measure =>
        simp [intOf]
        omega
    · obtain rfl : j = 4 := by omega
      obtain ⟨y0, y1, y2, y3, y4, y5, y6, y7, y8, y9, yf, yz⟩ := HQ0.out _ HK.out
      go_wp2_with fail
      refine (alike_any x _ wr (EC.keep HK.out _ _ HX3.out) HD.out hm).mono ?_
      rintro e w4 ⟨rfl, hb⟩
      have HT4 := Lib.hid (HT.out.bel hb)
      have HK4 := Lib.hid (HK.out.trans (.bel hb))
      clear hb x0 x1 x2 x3 x4 x5 x6 x7 x8 x9 xf xz y0 y1 y2 y3 y4 y5 y6 y7 y8 y9 yf yz
      obtain ⟨x0, x1, x2, x3, x4, x5, x6, x7, x8, x9, xf, xz⟩ := HQ.out _ HK4.out
      dsimp only
      go_wp2_with fail
      refine (alike_any y _ w4 (EC.keep HK4.out _ _ HY3.out) (any_dep HANY.out) (by omega)).mono ?_
      rintro e w5 ⟨rfl, hb⟩
      have HK5 := Lib.hid (HK4.out.trans (.bel hb))
      clear hb x0 x1 x2 x3 x4 x5 x6 x7 x8 x9 xf xz
      obtain ⟨x0, x1, x2, x3, x4, x5, x6, x7, x8, x9, xf, xz⟩ := HQ.out _ HK5.out
      dsimp only
      go_wp2_with fail
      refine (any_valid HANY.out ▸ vexpr_any y _ w5 (EC.keep HK5.out _ _ HY3.out) (any_dep HANY.out).txt).mono ?_
      rintro e w6 ⟨rfl, hb⟩
      have HK6 := Lib.hid (HK5.out.trans (.bel hb))
      clear hb x0 x1 x2 x3 x4 x5 x6 x7 x8 x9 xf xz
      dsimp only
      go_wp2_with fail
      refine (known11_any w6).mono ?_
      rintro e w7 ⟨rfl, hb⟩
      have HK7 := Lib.hid (HK6.out.trans (.bel hb))
      clear hb
      dsimp only
      go_wp2_with fail
      go_ret
      exact ⟨rfl, HB0.out.trans ((tape_below HB3.out (by have := HB3.out.size; omega) HK7.out).mono (by omega))⟩
end Go.Proofs.YthcpacadjnpacaaDoor
