/- Which expressions are well-formed in the reference: the ways of its ValidExpr. -/
import Derived.Test.YthcpacadjnpacaaDoorS7
namespace Go.Proofs.YthcpacadjnpacaaDoor
open Go.RowKit

theorem noText_cases (t : ByteArray) : (t = ⟨#[]⟩ ∧ noText t = true) ∨ (t.toList.isEmpty = false ∧ noText t = false) := by
  by_cases h : t.toList = []
  · refine .inl ⟨?_, by simp [noText, h]⟩
    obtain ⟨d⟩ := t
    rw [ByteArray.toList_eq] at h
    simpa using h
  · exact .inr ⟨by simpa using h, by simpa [noText] using h⟩

section
variable (k o : Int) (no : Bool) (vk vi : Int) (vt t nm : ByteArray) (a s : Option Addr) (an ac sn sc : Nat) (w : World)

set_option maxRecDepth 100000 in
set_option maxHeartbeats 4000000 in
theorem rv_bad1 (hs : ∀ wx, Below w.heap.size w wx → Calls Tryd.prog 81 #[.agg #[.int .i64 k, .int .i64 o, .bool no, .int .i64 vk, .int .i64 vi, .string vt, .string t, .string nm, .slice a an ac, .slice s sn sc]] wx (RetBel (.bool false) wx)) :
    Calls Tryd.prog 43 #[.agg #[.int .i64 k, .int .i64 o, .bool no, .int .i64 vk, .int .i64 vi, .string vt, .string t, .string nm, .slice a an ac, .slice s sn sc]] w (RetBel (.bool (false)) w) := by
  have HS := Lib.hid hs
  clear hs
  go_enter Tryd.func43, Tryd.ntmps43
  go_upto_region 1 with fail
  generalize hW : World.alloc w _ = W1
  have hk0 : W1.heap[w.heap.size]? = some (.cells #[.int .i64 k, .int .i64 o, .bool no, .int .i64 vk, .int .i64 vi, .string vt, .string t, .string nm, .slice a an ac, .slice s sn sc] 27 (0, 0)) := by rw [← hW]; exact heap_alloc_new w _
  have hb1 : Below w.heap.size w W1 := by rw [← hW]; exact (Below.refl _ _).alloc (Nat.le_refl _) _
  have hz : w.heap.size < W1.heap.size := by rw [← hW]; simp
  have HQ : Hid (∀ wx, Below W1.heap.size W1 wx → _) := Lib.hid fun wx hb => blk10 ((hb.block w.heap.size hz).trans hk0)
  have HB1 := Lib.hid hb1
  obtain ⟨x0, x1, x2, x3, x4, x5, x6, x7, x8, x9, xf, _⟩ := HQ.out _ (Below.refl _ _)
  clear hW hb1 hk0
  go_wp2_with fail
  refine (HS.out _ HB1.out).mono ?_
  rintro e w1 ⟨rfl, hb⟩
  have HLw1 := Lib.hid (hb)
  clear hb x0 x1 x2 x3 x4 x5 x6 x7 x8 x9 xf
  obtain ⟨x0, x1, x2, x3, x4, x5, x6, x7, x8, x9, xf, _⟩ := HQ.out _ HLw1.out
  dsimp only
  go_wp2_with fail
  go_ret
  exact ⟨rfl, HB1.out.trans (HLw1.out.mono HB1.out.size)⟩

set_option maxRecDepth 100000 in
set_option maxHeartbeats 4000000 in
theorem rv_bad2 (hs : ∀ wx, Below w.heap.size w wx → Calls Tryd.prog 81 #[.agg #[.int .i64 k, .int .i64 o, .bool no, .int .i64 vk, .int .i64 vi, .string vt, .string t, .string nm, .slice a an ac, .slice s sn sc]] wx (RetBel (.bool true) wx)) (h5 : k ≠ 5) (ho : o ≠ 0) :
    Calls Tryd.prog 43 #[.agg #[.int .i64 k, .int .i64 o, .bool no, .int .i64 vk, .int .i64 vi, .string vt, .string t, .string nm, .slice a an ac, .slice s sn sc]] w (RetBel (.bool (false)) w) := by
  have HS := Lib.hid hs
  have e5 : (k != 5) = true := by simpa using h5
  have eo : (o != 0) = true := by simpa using ho
  clear hs h5 ho
  go_enter Tryd.func43, Tryd.ntmps43
  go_upto_region 1 with fail
  generalize hW : World.alloc w _ = W1
  have hk0 : W1.heap[w.heap.size]? = some (.cells #[.int .i64 k, .int .i64 o, .bool no, .int .i64 vk, .int .i64 vi, .string vt, .string t, .string nm, .slice a an ac, .slice s sn sc] 27 (0, 0)) := by rw [← hW]; exact heap_alloc_new w _
  have hb1 : Below w.heap.size w W1 := by rw [← hW]; exact (Below.refl _ _).alloc (Nat.le_refl _) _
  have hz : w.heap.size < W1.heap.size := by rw [← hW]; simp
  have HQ : Hid (∀ wx, Below W1.heap.size W1 wx → _) := Lib.hid fun wx hb => blk10 ((hb.block w.heap.size hz).trans hk0)
  have HB1 := Lib.hid hb1
  obtain ⟨x0, x1, x2, x3, x4, x5, x6, x7, x8, x9, xf, _⟩ := HQ.out _ (Below.refl _ _)
  clear hW hb1 hk0
  go_wp2_with fail
  refine (HS.out _ HB1.out).mono ?_
  rintro e w1 ⟨rfl, hb⟩
  have HLw1 := Lib.hid (hb)
  clear hb x0 x1 x2 x3 x4 x5 x6 x7 x8 x9 xf
  obtain ⟨x0, x1, x2, x3, x4, x5, x6, x7, x8, x9, xf, _⟩ := HQ.out _ HLw1.out
  dsimp only
  go_wp2_with fail
  go_ret
  exact ⟨rfl, HB1.out.trans (HLw1.out.mono HB1.out.size)⟩

set_option maxRecDepth 100000 in
set_option maxHeartbeats 4000000 in
theorem rv_bad3 (hs : ∀ wx, Below w.heap.size w wx → Calls Tryd.prog 81 #[.agg #[.int .i64 k, .int .i64 o, .bool no, .int .i64 vk, .int .i64 vi, .string vt, .string t, .string nm, .slice a an ac, .slice s sn sc]] wx (RetBel (.bool true) wx)) (h5 : k = 5 ∨ o = 0) (h6 : k ≠ 6) (hno : no = true) :
    Calls Tryd.prog 43 #[.agg #[.int .i64 k, .int .i64 o, .bool no, .int .i64 vk, .int .i64 vi, .string vt, .string t, .string nm, .slice a an ac, .slice s sn sc]] w (RetBel (.bool (false)) w) := by
  have HS := Lib.hid hs
  have e6 : (k != 6) = true := by simpa using h6
  clear hs h6
  subst hno
  rcases h5 with rfl | rfl
  · go_enter Tryd.func43, Tryd.ntmps43
    go_upto_region 1 with fail
    generalize hW : World.alloc w _ = W1
    have hk0 : W1.heap[w.heap.size]? = some (.cells #[.int .i64 5, .int .i64 o, .bool true, .int .i64 vk, .int .i64 vi, .string vt, .string t, .string nm, .slice a an ac, .slice s sn sc] 27 (0, 0)) := by rw [← hW]; exact heap_alloc_new w _
    have hb1 : Below w.heap.size w W1 := by rw [← hW]; exact (Below.refl _ _).alloc (Nat.le_refl _) _
    have hz : w.heap.size < W1.heap.size := by rw [← hW]; simp
    have HQ : Hid (∀ wx, Below W1.heap.size W1 wx → _) := Lib.hid fun wx hb => blk10 ((hb.block w.heap.size hz).trans hk0)
    have HB1 := Lib.hid hb1
    obtain ⟨x0, x1, x2, x3, x4, x5, x6, x7, x8, x9, xf, _⟩ := HQ.out _ (Below.refl _ _)
    clear hW hb1 hk0
    go_wp2_with fail
    refine (HS.out _ HB1.out).mono ?_
    rintro e w1 ⟨rfl, hb⟩
    have HLw1 := Lib.hid (hb)
    clear hb x0 x1 x2 x3 x4 x5 x6 x7 x8 x9 xf
    obtain ⟨x0, x1, x2, x3, x4, x5, x6, x7, x8, x9, xf, _⟩ := HQ.out _ HLw1.out
    dsimp only
    go_wp2_with fail
    go_ret
    exact ⟨rfl, HB1.out.trans (HLw1.out.mono HB1.out.size)⟩
  · by_cases hk5 : k = 5
    · subst hk5
      go_enter Tryd.func43, Tryd.ntmps43
      go_upto_region 1 with fail
      generalize hW : World.alloc w _ = W1
      have hk0 : W1.heap[w.heap.size]? = some (.cells #[.int .i64 5, .int .i64 0, .bool true, .int .i64 vk, .int .i64 vi, .string vt, .string t, .string nm, .slice a an ac, .slice s sn sc] 27 (0, 0)) := by rw [← hW]; exact heap_alloc_new w _
      have hb1 : Below w.heap.size w W1 := by rw [← hW]; exact (Below.refl _ _).alloc (Nat.le_refl _) _
      have hz : w.heap.size < W1.heap.size := by rw [← hW]; simp
      have HQ : Hid (∀ wx, Below W1.heap.size W1 wx → _) := Lib.hid fun wx hb => blk10 ((hb.block w.heap.size hz).trans hk0)
      have HB1 := Lib.hid hb1
      obtain ⟨x0, x1, x2, x3, x4, x5, x6, x7, x8, x9, xf, _⟩ := HQ.out _ (Below.refl _ _)
      clear hW hb1 hk0
      go_wp2_with fail
      refine (HS.out _ HB1.out).mono ?_
      rintro e w1 ⟨rfl, hb⟩
      have HLw1 := Lib.hid (hb)
      clear hb x0 x1 x2 x3 x4 x5 x6 x7 x8 x9 xf
      obtain ⟨x0, x1, x2, x3, x4, x5, x6, x7, x8, x9, xf, _⟩ := HQ.out _ HLw1.out
      dsimp only
      go_wp2_with fail
      go_ret
      exact ⟨rfl, HB1.out.trans (HLw1.out.mono HB1.out.size)⟩
    · have e5 : (k != 5) = true := by simpa using hk5
      clear hk5
      go_enter Tryd.func43, Tryd.ntmps43
      go_upto_region 1 with fail
      generalize hW : World.alloc w _ = W1
      have hk0 : W1.heap[w.heap.size]? = some (.cells #[.int .i64 k, .int .i64 0, .bool true, .int .i64 vk, .int .i64 vi, .string vt, .string t, .string nm, .slice a an ac, .slice s sn sc] 27 (0, 0)) := by rw [← hW]; exact heap_alloc_new w _
      have hb1 : Below w.heap.size w W1 := by rw [← hW]; exact (Below.refl _ _).alloc (Nat.le_refl _) _
      have hz : w.heap.size < W1.heap.size := by rw [← hW]; simp
      have HQ : Hid (∀ wx, Below W1.heap.size W1 wx → _) := Lib.hid fun wx hb => blk10 ((hb.block w.heap.size hz).trans hk0)
      have HB1 := Lib.hid hb1
      obtain ⟨x0, x1, x2, x3, x4, x5, x6, x7, x8, x9, xf, _⟩ := HQ.out _ (Below.refl _ _)
      clear hW hb1 hk0
      go_wp2_with fail
      refine (HS.out _ HB1.out).mono ?_
      rintro e w1 ⟨rfl, hb⟩
      have HLw1 := Lib.hid (hb)
      clear hb x0 x1 x2 x3 x4 x5 x6 x7 x8 x9 xf
      obtain ⟨x0, x1, x2, x3, x4, x5, x6, x7, x8, x9, xf, _⟩ := HQ.out _ HLw1.out
      dsimp only
      go_wp2_with fail
      go_ret
      exact ⟨rfl, HB1.out.trans (HLw1.out.mono HB1.out.size)⟩

set_option maxRecDepth 100000 in
set_option maxHeartbeats 10000000 in
theorem rv_lit (hs : ∀ wx, Below w.heap.size w wx → Calls Tryd.prog 81 #[.agg #[.int .i64 k, .int .i64 o, .bool no, .int .i64 vk, .int .i64 vi, .string vt, .string t, .string nm, .slice a an ac, .slice s sn sc]] wx (RetBel (.bool true) wx)) (hg : k = 1 ∧ o = 0 ∧ no = false) (b2 : Bool) (hv : ∀ wx, Calls Tryd.prog 24 #[.agg #[.int .i64 vk, .int .i64 vi, .string vt]] wx (RetBel (.bool b2) wx)) :
    Calls Tryd.prog 43 #[.agg #[.int .i64 k, .int .i64 o, .bool no, .int .i64 vk, .int .i64 vi, .string vt, .string t, .string nm, .slice a an ac, .slice s sn sc]] w (RetBel (.bool (b2 && !(decide (vk = 1) && decide (vi < 0)) && (noText t && noText nm))) w) := by
  obtain ⟨rfl, rfl, rfl⟩ := hg
  have HS := Lib.hid hs
  have HV := Lib.hid hv
  clear hs hv
  cases b2
  · generalize (noText t && noText nm) = r
    go_enter Tryd.func43, Tryd.ntmps43
    go_upto_region 1 with fail
    generalize hW : World.alloc w _ = W1
    have hk0 : W1.heap[w.heap.size]? = some (.cells #[.int .i64 1, .int .i64 0, .bool false, .int .i64 vk, .int .i64 vi, .string vt, .string t, .string nm, .slice a an ac, .slice s sn sc] 27 (0, 0)) := by rw [← hW]; exact heap_alloc_new w _
    have hb1 : Below w.heap.size w W1 := by rw [← hW]; exact (Below.refl _ _).alloc (Nat.le_refl _) _
    have hz : w.heap.size < W1.heap.size := by rw [← hW]; simp
    have HQ : Hid (∀ wx, Below W1.heap.size W1 wx → _) := Lib.hid fun wx hb => blk10 ((hb.block w.heap.size hz).trans hk0)
    have HB1 := Lib.hid hb1
    obtain ⟨x0, x1, x2, x3, x4, x5, x6, x7, x8, x9, xf, _⟩ := HQ.out _ (Below.refl _ _)
    clear hW hb1 hk0
    go_wp2_with fail
    refine (HS.out _ HB1.out).mono ?_
    rintro e w1 ⟨rfl, hb⟩
    have HLw1 := Lib.hid (hb)
    clear hb x0 x1 x2 x3 x4 x5 x6 x7 x8 x9 xf
    obtain ⟨x0, x1, x2, x3, x4, x5, x6, x7, x8, x9, xf, _⟩ := HQ.out _ HLw1.out
    dsimp only
    go_wp2_with fail
    refine (HV.out _).mono ?_
    rintro e w2 ⟨rfl, hb⟩
    have HLw2 := Lib.hid (HLw1.out.trans (hb.mono HLw1.out.size))
    clear hb x0 x1 x2 x3 x4 x5 x6 x7 x8 x9 xf
    obtain ⟨x0, x1, x2, x3, x4, x5, x6, x7, x8, x9, xf, _⟩ := HQ.out _ HLw2.out
    dsimp only
    go_wp2_with fail
    go_ret
    exact ⟨by simp, HB1.out.trans (HLw2.out.mono HB1.out.size)⟩
  · by_cases hv1 : vk = 1
    · subst hv1
      by_cases hi : vi < 0
      · have hi' : ¬ (0 : Int) ≤ vi := by omega
        rw [decide_eq_true hi]
        clear hi
        generalize (noText t && noText nm) = r
        go_enter Tryd.func43, Tryd.ntmps43
        go_upto_region 1 with fail
        generalize hW : World.alloc w _ = W1
        have hk0 : W1.heap[w.heap.size]? = some (.cells #[.int .i64 1, .int .i64 0, .bool false, .int .i64 1, .int .i64 vi, .string vt, .string t, .string nm, .slice a an ac, .slice s sn sc] 27 (0, 0)) := by rw [← hW]; exact heap_alloc_new w _
        have hb1 : Below w.heap.size w W1 := by rw [← hW]; exact (Below.refl _ _).alloc (Nat.le_refl _) _
        have hz : w.heap.size < W1.heap.size := by rw [← hW]; simp
        have HQ : Hid (∀ wx, Below W1.heap.size W1 wx → _) := Lib.hid fun wx hb => blk10 ((hb.block w.heap.size hz).trans hk0)
        have HB1 := Lib.hid hb1
        obtain ⟨x0, x1, x2, x3, x4, x5, x6, x7, x8, x9, xf, _⟩ := HQ.out _ (Below.refl _ _)
        clear hW hb1 hk0
        go_wp2_with fail
        refine (HS.out _ HB1.out).mono ?_
        rintro e w1 ⟨rfl, hb⟩
        have HLw1 := Lib.hid (hb)
        clear hb x0 x1 x2 x3 x4 x5 x6 x7 x8 x9 xf
        obtain ⟨x0, x1, x2, x3, x4, x5, x6, x7, x8, x9, xf, _⟩ := HQ.out _ HLw1.out
        dsimp only
        go_wp2_with fail
        refine (HV.out _).mono ?_
        rintro e w2 ⟨rfl, hb⟩
        have HLw2 := Lib.hid (HLw1.out.trans (hb.mono HLw1.out.size))
        clear hb x0 x1 x2 x3 x4 x5 x6 x7 x8 x9 xf
        obtain ⟨x0, x1, x2, x3, x4, x5, x6, x7, x8, x9, xf, _⟩ := HQ.out _ HLw2.out
        dsimp only
        go_wp2_with fail
        go_ret
        exact ⟨by simp, HB1.out.trans (HLw2.out.mono HB1.out.size)⟩
      · have hi' : (0 : Int) ≤ vi := by omega
        rw [decide_eq_false hi]
        clear hi
        rcases noText_cases t with ⟨rfl, ht⟩ | ⟨ht0, ht⟩
        · rcases noText_cases nm with ⟨rfl, hn⟩ | ⟨hn0, hn⟩
          · rw [ht]
            clear ht hn
            go_enter Tryd.func43, Tryd.ntmps43
            go_upto_region 1 with fail
            generalize hW : World.alloc w _ = W1
            have hk0 : W1.heap[w.heap.size]? = some (.cells #[.int .i64 1, .int .i64 0, .bool false, .int .i64 1, .int .i64 vi, .string vt, .string ⟨#[]⟩, .string ⟨#[]⟩, .slice a an ac, .slice s sn sc] 27 (0, 0)) := by rw [← hW]; exact heap_alloc_new w _
            have hb1 : Below w.heap.size w W1 := by rw [← hW]; exact (Below.refl _ _).alloc (Nat.le_refl _) _
            have hz : w.heap.size < W1.heap.size := by rw [← hW]; simp
            have HQ : Hid (∀ wx, Below W1.heap.size W1 wx → _) := Lib.hid fun wx hb => blk10 ((hb.block w.heap.size hz).trans hk0)
            have HB1 := Lib.hid hb1
            obtain ⟨x0, x1, x2, x3, x4, x5, x6, x7, x8, x9, xf, _⟩ := HQ.out _ (Below.refl _ _)
            clear hW hb1 hk0
            go_wp2_with fail
            refine (HS.out _ HB1.out).mono ?_
            rintro e w1 ⟨rfl, hb⟩
            have HLw1 := Lib.hid (hb)
            clear hb x0 x1 x2 x3 x4 x5 x6 x7 x8 x9 xf
            obtain ⟨x0, x1, x2, x3, x4, x5, x6, x7, x8, x9, xf, _⟩ := HQ.out _ HLw1.out
            dsimp only
            go_wp2_with fail
            refine (HV.out _).mono ?_
            rintro e w2 ⟨rfl, hb⟩
            have HLw2 := Lib.hid (HLw1.out.trans (hb.mono HLw1.out.size))
            clear hb x0 x1 x2 x3 x4 x5 x6 x7 x8 x9 xf
            obtain ⟨x0, x1, x2, x3, x4, x5, x6, x7, x8, x9, xf, _⟩ := HQ.out _ HLw2.out
            dsimp only
            go_wp2_with fail
            go_ret
            exact ⟨by simp, HB1.out.trans (HLw2.out.mono HB1.out.size)⟩
          · rw [ht, hn]
            clear ht hn
            go_enter Tryd.func43, Tryd.ntmps43
            go_upto_region 1 with fail
            generalize hW : World.alloc w _ = W1
            have hk0 : W1.heap[w.heap.size]? = some (.cells #[.int .i64 1, .int .i64 0, .bool false, .int .i64 1, .int .i64 vi, .string vt, .string ⟨#[]⟩, .string nm, .slice a an ac, .slice s sn sc] 27 (0, 0)) := by rw [← hW]; exact heap_alloc_new w _
            have hb1 : Below w.heap.size w W1 := by rw [← hW]; exact (Below.refl _ _).alloc (Nat.le_refl _) _
            have hz : w.heap.size < W1.heap.size := by rw [← hW]; simp
            have HQ : Hid (∀ wx, Below W1.heap.size W1 wx → _) := Lib.hid fun wx hb => blk10 ((hb.block w.heap.size hz).trans hk0)
            have HB1 := Lib.hid hb1
            obtain ⟨x0, x1, x2, x3, x4, x5, x6, x7, x8, x9, xf, _⟩ := HQ.out _ (Below.refl _ _)
            clear hW hb1 hk0
            go_wp2_with fail
            refine (HS.out _ HB1.out).mono ?_
            rintro e w1 ⟨rfl, hb⟩
            have HLw1 := Lib.hid (hb)
            clear hb x0 x1 x2 x3 x4 x5 x6 x7 x8 x9 xf
            obtain ⟨x0, x1, x2, x3, x4, x5, x6, x7, x8, x9, xf, _⟩ := HQ.out _ HLw1.out
            dsimp only
            go_wp2_with fail
            refine (HV.out _).mono ?_
            rintro e w2 ⟨rfl, hb⟩
            have HLw2 := Lib.hid (HLw1.out.trans (hb.mono HLw1.out.size))
            clear hb x0 x1 x2 x3 x4 x5 x6 x7 x8 x9 xf
            obtain ⟨x0, x1, x2, x3, x4, x5, x6, x7, x8, x9, xf, _⟩ := HQ.out _ HLw2.out
            dsimp only
            go_wp2_with fail
            go_ret
            exact ⟨by simp, HB1.out.trans (HLw2.out.mono HB1.out.size)⟩
        · rw [ht, Bool.false_and]
          clear ht
          go_enter Tryd.func43, Tryd.ntmps43
          go_upto_region 1 with fail
          generalize hW : World.alloc w _ = W1
          have hk0 : W1.heap[w.heap.size]? = some (.cells #[.int .i64 1, .int .i64 0, .bool false, .int .i64 1, .int .i64 vi, .string vt, .string t, .string nm, .slice a an ac, .slice s sn sc] 27 (0, 0)) := by rw [← hW]; exact heap_alloc_new w _
          have hb1 : Below w.heap.size w W1 := by rw [← hW]; exact (Below.refl _ _).alloc (Nat.le_refl _) _
          have hz : w.heap.size < W1.heap.size := by rw [← hW]; simp
          have HQ : Hid (∀ wx, Below W1.heap.size W1 wx → _) := Lib.hid fun wx hb => blk10 ((hb.block w.heap.size hz).trans hk0)
          have HB1 := Lib.hid hb1
          obtain ⟨x0, x1, x2, x3, x4, x5, x6, x7, x8, x9, xf, _⟩ := HQ.out _ (Below.refl _ _)
          clear hW hb1 hk0
          go_wp2_with fail
          refine (HS.out _ HB1.out).mono ?_
          rintro e w1 ⟨rfl, hb⟩
          have HLw1 := Lib.hid (hb)
          clear hb x0 x1 x2 x3 x4 x5 x6 x7 x8 x9 xf
          obtain ⟨x0, x1, x2, x3, x4, x5, x6, x7, x8, x9, xf, _⟩ := HQ.out _ HLw1.out
          dsimp only
          go_wp2_with fail
          refine (HV.out _).mono ?_
          rintro e w2 ⟨rfl, hb⟩
          have HLw2 := Lib.hid (HLw1.out.trans (hb.mono HLw1.out.size))
          clear hb x0 x1 x2 x3 x4 x5 x6 x7 x8 x9 xf
          obtain ⟨x0, x1, x2, x3, x4, x5, x6, x7, x8, x9, xf, _⟩ := HQ.out _ HLw2.out
          dsimp only
          go_wp2_with fail
          go_ret
          exact ⟨by simp, HB1.out.trans (HLw2.out.mono HB1.out.size)⟩
    · have hv1' : (vk != 1) = true := by simpa using hv1
      rw [decide_eq_false hv1]
      clear hv1
      rcases noText_cases t with ⟨rfl, ht⟩ | ⟨ht0, ht⟩
      · rcases noText_cases nm with ⟨rfl, hn⟩ | ⟨hn0, hn⟩
        · rw [ht]
          clear ht hn
          go_enter Tryd.func43, Tryd.ntmps43
          go_upto_region 1 with fail
          generalize hW : World.alloc w _ = W1
          have hk0 : W1.heap[w.heap.size]? = some (.cells #[.int .i64 1, .int .i64 0, .bool false, .int .i64 vk, .int .i64 vi, .string vt, .string ⟨#[]⟩, .string ⟨#[]⟩, .slice a an ac, .slice s sn sc] 27 (0, 0)) := by rw [← hW]; exact heap_alloc_new w _
          have hb1 : Below w.heap.size w W1 := by rw [← hW]; exact (Below.refl _ _).alloc (Nat.le_refl _) _
          have hz : w.heap.size < W1.heap.size := by rw [← hW]; simp
          have HQ : Hid (∀ wx, Below W1.heap.size W1 wx → _) := Lib.hid fun wx hb => blk10 ((hb.block w.heap.size hz).trans hk0)
          have HB1 := Lib.hid hb1
          obtain ⟨x0, x1, x2, x3, x4, x5, x6, x7, x8, x9, xf, _⟩ := HQ.out _ (Below.refl _ _)
          clear hW hb1 hk0
          go_wp2_with fail
          refine (HS.out _ HB1.out).mono ?_
          rintro e w1 ⟨rfl, hb⟩
          have HLw1 := Lib.hid (hb)
          clear hb x0 x1 x2 x3 x4 x5 x6 x7 x8 x9 xf
          obtain ⟨x0, x1, x2, x3, x4, x5, x6, x7, x8, x9, xf, _⟩ := HQ.out _ HLw1.out
          dsimp only
          go_wp2_with fail
          refine (HV.out _).mono ?_
          rintro e w2 ⟨rfl, hb⟩
          have HLw2 := Lib.hid (HLw1.out.trans (hb.mono HLw1.out.size))
          clear hb x0 x1 x2 x3 x4 x5 x6 x7 x8 x9 xf
          obtain ⟨x0, x1, x2, x3, x4, x5, x6, x7, x8, x9, xf, _⟩ := HQ.out _ HLw2.out
          dsimp only
          go_wp2_with fail
          go_ret
          exact ⟨by simp, HB1.out.trans (HLw2.out.mono HB1.out.size)⟩
        · rw [ht, hn]
          clear ht hn
          go_enter Tryd.func43, Tryd.ntmps43
          go_upto_region 1 with fail
          generalize hW : World.alloc w _ = W1
          have hk0 : W1.heap[w.heap.size]? = some (.cells #[.int .i64 1, .int .i64 0, .bool false, .int .i64 vk, .int .i64 vi, .string vt, .string ⟨#[]⟩, .string nm, .slice a an ac, .slice s sn sc] 27 (0, 0)) := by rw [← hW]; exact heap_alloc_new w _
          have hb1 : Below w.heap.size w W1 := by rw [← hW]; exact (Below.refl _ _).alloc (Nat.le_refl _) _
          have hz : w.heap.size < W1.heap.size := by rw [← hW]; simp
          have HQ : Hid (∀ wx, Below W1.heap.size W1 wx → _) := Lib.hid fun wx hb => blk10 ((hb.block w.heap.size hz).trans hk0)
          have HB1 := Lib.hid hb1
          obtain ⟨x0, x1, x2, x3, x4, x5, x6, x7, x8, x9, xf, _⟩ := HQ.out _ (Below.refl _ _)
          clear hW hb1 hk0
          go_wp2_with fail
          refine (HS.out _ HB1.out).mono ?_
          rintro e w1 ⟨rfl, hb⟩
          have HLw1 := Lib.hid (hb)
          clear hb x0 x1 x2 x3 x4 x5 x6 x7 x8 x9 xf
          obtain ⟨x0, x1, x2, x3, x4, x5, x6, x7, x8, x9, xf, _⟩ := HQ.out _ HLw1.out
          dsimp only
          go_wp2_with fail
          refine (HV.out _).mono ?_
          rintro e w2 ⟨rfl, hb⟩
          have HLw2 := Lib.hid (HLw1.out.trans (hb.mono HLw1.out.size))
          clear hb x0 x1 x2 x3 x4 x5 x6 x7 x8 x9 xf
          obtain ⟨x0, x1, x2, x3, x4, x5, x6, x7, x8, x9, xf, _⟩ := HQ.out _ HLw2.out
          dsimp only
          go_wp2_with fail
          go_ret
          exact ⟨by simp, HB1.out.trans (HLw2.out.mono HB1.out.size)⟩
      · rw [ht, Bool.false_and]
        clear ht
        go_enter Tryd.func43, Tryd.ntmps43
        go_upto_region 1 with fail
        generalize hW : World.alloc w _ = W1
        have hk0 : W1.heap[w.heap.size]? = some (.cells #[.int .i64 1, .int .i64 0, .bool false, .int .i64 vk, .int .i64 vi, .string vt, .string t, .string nm, .slice a an ac, .slice s sn sc] 27 (0, 0)) := by rw [← hW]; exact heap_alloc_new w _
        have hb1 : Below w.heap.size w W1 := by rw [← hW]; exact (Below.refl _ _).alloc (Nat.le_refl _) _
        have hz : w.heap.size < W1.heap.size := by rw [← hW]; simp
        have HQ : Hid (∀ wx, Below W1.heap.size W1 wx → _) := Lib.hid fun wx hb => blk10 ((hb.block w.heap.size hz).trans hk0)
        have HB1 := Lib.hid hb1
        obtain ⟨x0, x1, x2, x3, x4, x5, x6, x7, x8, x9, xf, _⟩ := HQ.out _ (Below.refl _ _)
        clear hW hb1 hk0
        go_wp2_with fail
        refine (HS.out _ HB1.out).mono ?_
        rintro e w1 ⟨rfl, hb⟩
        have HLw1 := Lib.hid (hb)
        clear hb x0 x1 x2 x3 x4 x5 x6 x7 x8 x9 xf
        obtain ⟨x0, x1, x2, x3, x4, x5, x6, x7, x8, x9, xf, _⟩ := HQ.out _ HLw1.out
        dsimp only
        go_wp2_with fail
        refine (HV.out _).mono ?_
        rintro e w2 ⟨rfl, hb⟩
        have HLw2 := Lib.hid (HLw1.out.trans (hb.mono HLw1.out.size))
        clear hb x0 x1 x2 x3 x4 x5 x6 x7 x8 x9 xf
        obtain ⟨x0, x1, x2, x3, x4, x5, x6, x7, x8, x9, xf, _⟩ := HQ.out _ HLw2.out
        dsimp only
        go_wp2_with fail
        go_ret
        exact ⟨by simp, HB1.out.trans (HLw2.out.mono HB1.out.size)⟩

set_option maxRecDepth 100000 in
set_option maxHeartbeats 10000000 in
theorem rv_col (hs : ∀ wx, Below w.heap.size w wx → Calls Tryd.prog 81 #[.agg #[.int .i64 k, .int .i64 o, .bool no, .int .i64 vk, .int .i64 vi, .string vt, .string t, .string nm, .slice a an ac, .slice s sn sc]] wx (RetBel (.bool true) wx)) (hg : k = 2 ∧ o = 0 ∧ no = false) (sb nb tb : Bool) (htb : (noText t || sb || t.toList == [78, 69, 87] || t.toList == [79, 76, 68]) = tb) (hso : ∀ wx, Calls Tryd.prog 82 #[.string t] wx fun e w' => e = .returned (.bool sb) ∧ wx = w') (hn : ∀ wx, Calls Tryd.prog 83 #[.string nm] wx fun e w' => e = .returned (.bool nb) ∧ wx = w') :
    Calls Tryd.prog 43 #[.agg #[.int .i64 k, .int .i64 o, .bool no, .int .i64 vk, .int .i64 vi, .string vt, .string t, .string nm, .slice a an ac, .slice s sn sc]] w (RetBel (.bool (tb && nb && valZ ⟨vk, vi, vt⟩)) w) := by
  obtain ⟨rfl, rfl, rfl⟩ := hg
  have HS := Lib.hid hs
  have HSO := Lib.hid hso
  have HN := Lib.hid hn
  clear hs hso hn
  rcases noText_cases t with ⟨rfl, ht⟩ | ⟨ht0, ht⟩
  · have HTB : Hid (Value.bool true = .bool tb) := Lib.hid (by rw [← htb, ht]; simp)
    clear htb ht
    go_enter Tryd.func43, Tryd.ntmps43
    go_upto_region 1 with fail
    generalize hW : World.alloc w _ = W1
    have hk0 : W1.heap[w.heap.size]? = some (.cells #[.int .i64 2, .int .i64 0, .bool false, .int .i64 vk, .int .i64 vi, .string vt, .string ⟨#[]⟩, .string nm, .slice a an ac, .slice s sn sc] 27 (0, 0)) := by rw [← hW]; exact heap_alloc_new w _
    have hb1 : Below w.heap.size w W1 := by rw [← hW]; exact (Below.refl _ _).alloc (Nat.le_refl _) _
    have hz : w.heap.size < W1.heap.size := by rw [← hW]; simp
    have HQ : Hid (∀ wx, Below W1.heap.size W1 wx → _) := Lib.hid fun wx hb => blk10 ((hb.block w.heap.size hz).trans hk0)
    have HB1 := Lib.hid hb1
    obtain ⟨x0, x1, x2, x3, x4, x5, x6, x7, x8, x9, xf, _⟩ := HQ.out _ (Below.refl _ _)
    clear hW hb1 hk0
    go_wp2_with fail
    refine (HS.out _ HB1.out).mono ?_
    rintro e w1 ⟨rfl, hb⟩
    have HLw1 := Lib.hid (hb)
    clear hb x0 x1 x2 x3 x4 x5 x6 x7 x8 x9 xf
    obtain ⟨x0, x1, x2, x3, x4, x5, x6, x7, x8, x9, xf, _⟩ := HQ.out _ HLw1.out
    dsimp only
    go_upto_region 7 with fail
    go_cut [3] (fun v wx => v = .bool tb ∧ Below W1.heap.size W1 wx)
    case first =>
      go_wp2_with fail
      go_meet
      exact ⟨HTB.out, HLw1.out⟩
    case rest =>
      obtain ⟨rfl, hbc⟩ := hcut
      have HLc := Lib.hid hbc
      clear hbc x0 x1 x2 x3 x4 x5 x6 x7 x8 x9 xf
      obtain ⟨x0, x1, x2, x3, x4, x5, x6, x7, x8, x9, xf, _⟩ := HQ.out _ HLc.out
      clear HTB
      cases tb
      · go_wp2_with fail
        go_ret
        exact ⟨by simp, HB1.out.trans (HLc.out.mono HB1.out.size)⟩
      · cases nb
        · go_wp2_with fail
          refine (HN.out _).mono ?_
          rintro e w3 ⟨rfl, rfl⟩
          dsimp only
          go_wp2_with fail
          go_ret
          exact ⟨by simp, HB1.out.trans (HLc.out.mono HB1.out.size)⟩
        · by_cases hvk : vk = 0
          · subst hvk
            by_cases hvi : vi = 0
            · subst hvi
              rcases noText_cases vt with ⟨rfl, hx⟩ | ⟨hx0, hx⟩
              · have HX := Lib.hid hx
                clear hx
                go_wp2_with fail
                refine (HN.out _).mono ?_
                rintro e w3 ⟨rfl, rfl⟩
                dsimp only
                go_wp2_with fail
                go_ret
                exact ⟨by simp [valZ, HX.out], HB1.out.trans (HLc.out.mono HB1.out.size)⟩
              · have HX := Lib.hid hx
                clear hx
                go_wp2_with fail
                refine (HN.out _).mono ?_
                rintro e w3 ⟨rfl, rfl⟩
                dsimp only
                go_wp2_with fail
                go_ret
                exact ⟨by simp [valZ, HX.out], HB1.out.trans (HLc.out.mono HB1.out.size)⟩
            · go_wp2_with fail
              refine (HN.out _).mono ?_
              rintro e w3 ⟨rfl, rfl⟩
              dsimp only
              go_wp2_with fail
              go_ret
              exact ⟨by simp [valZ, hvi], HB1.out.trans (HLc.out.mono HB1.out.size)⟩
          · go_wp2_with fail
            refine (HN.out _).mono ?_
            rintro e w3 ⟨rfl, rfl⟩
            dsimp only
            go_wp2_with fail
            go_ret
            exact ⟨by simp [valZ, hvk], HB1.out.trans (HLc.out.mono HB1.out.size)⟩
  · cases sb
    · cases e2 : (t.toList == [78, 69, 87])
      · cases e3 : (t.toList == [79, 76, 68])
        · have HTB : Hid (Value.bool false = .bool tb) := Lib.hid (by rw [← htb, ht, e2, e3]; rfl)
          clear htb ht
          go_enter Tryd.func43, Tryd.ntmps43
          go_upto_region 1 with fail
          generalize hW : World.alloc w _ = W1
          have hk0 : W1.heap[w.heap.size]? = some (.cells #[.int .i64 2, .int .i64 0, .bool false, .int .i64 vk, .int .i64 vi, .string vt, .string t, .string nm, .slice a an ac, .slice s sn sc] 27 (0, 0)) := by rw [← hW]; exact heap_alloc_new w _
          have hb1 : Below w.heap.size w W1 := by rw [← hW]; exact (Below.refl _ _).alloc (Nat.le_refl _) _
          have hz : w.heap.size < W1.heap.size := by rw [← hW]; simp
          have HQ : Hid (∀ wx, Below W1.heap.size W1 wx → _) := Lib.hid fun wx hb => blk10 ((hb.block w.heap.size hz).trans hk0)
          have HB1 := Lib.hid hb1
          obtain ⟨x0, x1, x2, x3, x4, x5, x6, x7, x8, x9, xf, _⟩ := HQ.out _ (Below.refl _ _)
          clear hW hb1 hk0
          go_wp2_with fail
          refine (HS.out _ HB1.out).mono ?_
          rintro e w1 ⟨rfl, hb⟩
          have HLw1 := Lib.hid (hb)
          clear hb x0 x1 x2 x3 x4 x5 x6 x7 x8 x9 xf
          obtain ⟨x0, x1, x2, x3, x4, x5, x6, x7, x8, x9, xf, _⟩ := HQ.out _ HLw1.out
          dsimp only
          go_upto_region 7 with fail
          go_cut [3] (fun v wx => v = .bool tb ∧ Below W1.heap.size W1 wx)
          case first =>
            go_wp2_with fail
            refine (HSO.out _).mono ?_
            rintro e w2 ⟨rfl, rfl⟩
            dsimp only
            go_wp2_with fail
            go_meet
            exact ⟨HTB.out, HLw1.out⟩
          case rest =>
            obtain ⟨rfl, hbc⟩ := hcut
            have HLc := Lib.hid hbc
            clear hbc x0 x1 x2 x3 x4 x5 x6 x7 x8 x9 xf
            obtain ⟨x0, x1, x2, x3, x4, x5, x6, x7, x8, x9, xf, _⟩ := HQ.out _ HLc.out
            clear HTB
            cases tb
            · go_wp2_with fail
              go_ret
              exact ⟨by simp, HB1.out.trans (HLc.out.mono HB1.out.size)⟩
            · cases nb
              · go_wp2_with fail
                refine (HN.out _).mono ?_
                rintro e w3 ⟨rfl, rfl⟩
                dsimp only
                go_wp2_with fail
                go_ret
                exact ⟨by simp, HB1.out.trans (HLc.out.mono HB1.out.size)⟩
              · by_cases hvk : vk = 0
                · subst hvk
                  by_cases hvi : vi = 0
                  · subst hvi
                    rcases noText_cases vt with ⟨rfl, hx⟩ | ⟨hx0, hx⟩
                    · have HX := Lib.hid hx
                      clear hx
                      go_wp2_with fail
                      refine (HN.out _).mono ?_
                      rintro e w3 ⟨rfl, rfl⟩
                      dsimp only
                      go_wp2_with fail
                      go_ret
                      exact ⟨by simp [valZ, HX.out], HB1.out.trans (HLc.out.mono HB1.out.size)⟩
                    · have HX := Lib.hid hx
                      clear hx
                      go_wp2_with fail
                      refine (HN.out _).mono ?_
                      rintro e w3 ⟨rfl, rfl⟩
                      dsimp only
                      go_wp2_with fail
                      go_ret
                      exact ⟨by simp [valZ, HX.out], HB1.out.trans (HLc.out.mono HB1.out.size)⟩
                  · go_wp2_with fail
                    refine (HN.out _).mono ?_
                    rintro e w3 ⟨rfl, rfl⟩
                    dsimp only
                    go_wp2_with fail
                    go_ret
                    exact ⟨by simp [valZ, hvi], HB1.out.trans (HLc.out.mono HB1.out.size)⟩
                · go_wp2_with fail
                  refine (HN.out _).mono ?_
                  rintro e w3 ⟨rfl, rfl⟩
                  dsimp only
                  go_wp2_with fail
                  go_ret
                  exact ⟨by simp [valZ, hvk], HB1.out.trans (HLc.out.mono HB1.out.size)⟩
        · have HTB : Hid (Value.bool true = .bool tb) := Lib.hid (by rw [← htb, e3]; simp)
          clear htb ht
          go_enter Tryd.func43, Tryd.ntmps43
          go_upto_region 1 with fail
          generalize hW : World.alloc w _ = W1
          have hk0 : W1.heap[w.heap.size]? = some (.cells #[.int .i64 2, .int .i64 0, .bool false, .int .i64 vk, .int .i64 vi, .string vt, .string t, .string nm, .slice a an ac, .slice s sn sc] 27 (0, 0)) := by rw [← hW]; exact heap_alloc_new w _
          have hb1 : Below w.heap.size w W1 := by rw [← hW]; exact (Below.refl _ _).alloc (Nat.le_refl _) _
          have hz : w.heap.size < W1.heap.size := by rw [← hW]; simp
          have HQ : Hid (∀ wx, Below W1.heap.size W1 wx → _) := Lib.hid fun wx hb => blk10 ((hb.block w.heap.size hz).trans hk0)
          have HB1 := Lib.hid hb1
          obtain ⟨x0, x1, x2, x3, x4, x5, x6, x7, x8, x9, xf, _⟩ := HQ.out _ (Below.refl _ _)
          clear hW hb1 hk0
          go_wp2_with fail
          refine (HS.out _ HB1.out).mono ?_
          rintro e w1 ⟨rfl, hb⟩
          have HLw1 := Lib.hid (hb)
          clear hb x0 x1 x2 x3 x4 x5 x6 x7 x8 x9 xf
          obtain ⟨x0, x1, x2, x3, x4, x5, x6, x7, x8, x9, xf, _⟩ := HQ.out _ HLw1.out
          dsimp only
          go_upto_region 7 with fail
          go_cut [3] (fun v wx => v = .bool tb ∧ Below W1.heap.size W1 wx)
          case first =>
            go_wp2_with fail
            refine (HSO.out _).mono ?_
            rintro e w2 ⟨rfl, rfl⟩
            dsimp only
            go_wp2_with fail
            go_meet
            exact ⟨HTB.out, HLw1.out⟩
          case rest =>
            obtain ⟨rfl, hbc⟩ := hcut
            have HLc := Lib.hid hbc
            clear hbc x0 x1 x2 x3 x4 x5 x6 x7 x8 x9 xf
            obtain ⟨x0, x1, x2, x3, x4, x5, x6, x7, x8, x9, xf, _⟩ := HQ.out _ HLc.out
            clear HTB
            cases tb
            · go_wp2_with fail
              go_ret
              exact ⟨by simp, HB1.out.trans (HLc.out.mono HB1.out.size)⟩
            · cases nb
              · go_wp2_with fail
                refine (HN.out _).mono ?_
                rintro e w3 ⟨rfl, rfl⟩
                dsimp only
                go_wp2_with fail
                go_ret
                exact ⟨by simp, HB1.out.trans (HLc.out.mono HB1.out.size)⟩
              · by_cases hvk : vk = 0
                · subst hvk
                  by_cases hvi : vi = 0
                  · subst hvi
                    rcases noText_cases vt with ⟨rfl, hx⟩ | ⟨hx0, hx⟩
                    · have HX := Lib.hid hx
                      clear hx
                      go_wp2_with fail
                      refine (HN.out _).mono ?_
                      rintro e w3 ⟨rfl, rfl⟩
                      dsimp only
                      go_wp2_with fail
                      go_ret
                      exact ⟨by simp [valZ, HX.out], HB1.out.trans (HLc.out.mono HB1.out.size)⟩
                    · have HX := Lib.hid hx
                      clear hx
                      go_wp2_with fail
                      refine (HN.out _).mono ?_
                      rintro e w3 ⟨rfl, rfl⟩
                      dsimp only
                      go_wp2_with fail
                      go_ret
                      exact ⟨by simp [valZ, HX.out], HB1.out.trans (HLc.out.mono HB1.out.size)⟩
                  · go_wp2_with fail
                    refine (HN.out _).mono ?_
                    rintro e w3 ⟨rfl, rfl⟩
                    dsimp only
                    go_wp2_with fail
                    go_ret
                    exact ⟨by simp [valZ, hvi], HB1.out.trans (HLc.out.mono HB1.out.size)⟩
                · go_wp2_with fail
                  refine (HN.out _).mono ?_
                  rintro e w3 ⟨rfl, rfl⟩
                  dsimp only
                  go_wp2_with fail
                  go_ret
                  exact ⟨by simp [valZ, hvk], HB1.out.trans (HLc.out.mono HB1.out.size)⟩
      · have HTB : Hid (Value.bool true = .bool tb) := Lib.hid (by rw [← htb, e2]; simp)
        clear htb ht
        go_enter Tryd.func43, Tryd.ntmps43
        go_upto_region 1 with fail
        generalize hW : World.alloc w _ = W1
        have hk0 : W1.heap[w.heap.size]? = some (.cells #[.int .i64 2, .int .i64 0, .bool false, .int .i64 vk, .int .i64 vi, .string vt, .string t, .string nm, .slice a an ac, .slice s sn sc] 27 (0, 0)) := by rw [← hW]; exact heap_alloc_new w _
        have hb1 : Below w.heap.size w W1 := by rw [← hW]; exact (Below.refl _ _).alloc (Nat.le_refl _) _
        have hz : w.heap.size < W1.heap.size := by rw [← hW]; simp
        have HQ : Hid (∀ wx, Below W1.heap.size W1 wx → _) := Lib.hid fun wx hb => blk10 ((hb.block w.heap.size hz).trans hk0)
        have HB1 := Lib.hid hb1
        obtain ⟨x0, x1, x2, x3, x4, x5, x6, x7, x8, x9, xf, _⟩ := HQ.out _ (Below.refl _ _)
        clear hW hb1 hk0
        go_wp2_with fail
        refine (HS.out _ HB1.out).mono ?_
        rintro e w1 ⟨rfl, hb⟩
        have HLw1 := Lib.hid (hb)
        clear hb x0 x1 x2 x3 x4 x5 x6 x7 x8 x9 xf
        obtain ⟨x0, x1, x2, x3, x4, x5, x6, x7, x8, x9, xf, _⟩ := HQ.out _ HLw1.out
        dsimp only
        go_upto_region 7 with fail
        go_cut [3] (fun v wx => v = .bool tb ∧ Below W1.heap.size W1 wx)
        case first =>
          go_wp2_with fail
          refine (HSO.out _).mono ?_
          rintro e w2 ⟨rfl, rfl⟩
          dsimp only
          go_wp2_with fail
          go_meet
          exact ⟨HTB.out, HLw1.out⟩
        case rest =>
          obtain ⟨rfl, hbc⟩ := hcut
          have HLc := Lib.hid hbc
          clear hbc x0 x1 x2 x3 x4 x5 x6 x7 x8 x9 xf
          obtain ⟨x0, x1, x2, x3, x4, x5, x6, x7, x8, x9, xf, _⟩ := HQ.out _ HLc.out
          clear HTB
          cases tb
          · go_wp2_with fail
            go_ret
            exact ⟨by simp, HB1.out.trans (HLc.out.mono HB1.out.size)⟩
          · cases nb
            · go_wp2_with fail
              refine (HN.out _).mono ?_
              rintro e w3 ⟨rfl, rfl⟩
              dsimp only
              go_wp2_with fail
              go_ret
              exact ⟨by simp, HB1.out.trans (HLc.out.mono HB1.out.size)⟩
            · by_cases hvk : vk = 0
              · subst hvk
                by_cases hvi : vi = 0
                · subst hvi
                  rcases noText_cases vt with ⟨rfl, hx⟩ | ⟨hx0, hx⟩
                  · have HX := Lib.hid hx
                    clear hx
                    go_wp2_with fail
                    refine (HN.out _).mono ?_
                    rintro e w3 ⟨rfl, rfl⟩
                    dsimp only
                    go_wp2_with fail
                    go_ret
                    exact ⟨by simp [valZ, HX.out], HB1.out.trans (HLc.out.mono HB1.out.size)⟩
                  · have HX := Lib.hid hx
                    clear hx
                    go_wp2_with fail
                    refine (HN.out _).mono ?_
                    rintro e w3 ⟨rfl, rfl⟩
                    dsimp only
                    go_wp2_with fail
                    go_ret
                    exact ⟨by simp [valZ, HX.out], HB1.out.trans (HLc.out.mono HB1.out.size)⟩
                · go_wp2_with fail
                  refine (HN.out _).mono ?_
                  rintro e w3 ⟨rfl, rfl⟩
                  dsimp only
                  go_wp2_with fail
                  go_ret
                  exact ⟨by simp [valZ, hvi], HB1.out.trans (HLc.out.mono HB1.out.size)⟩
              · go_wp2_with fail
                refine (HN.out _).mono ?_
                rintro e w3 ⟨rfl, rfl⟩
                dsimp only
                go_wp2_with fail
                go_ret
                exact ⟨by simp [valZ, hvk], HB1.out.trans (HLc.out.mono HB1.out.size)⟩
    · have HTB : Hid (Value.bool true = .bool tb) := Lib.hid (by rw [← htb]; simp)
      clear htb ht
      go_enter Tryd.func43, Tryd.ntmps43
      go_upto_region 1 with fail
      generalize hW : World.alloc w _ = W1
      have hk0 : W1.heap[w.heap.size]? = some (.cells #[.int .i64 2, .int .i64 0, .bool false, .int .i64 vk, .int .i64 vi, .string vt, .string t, .string nm, .slice a an ac, .slice s sn sc] 27 (0, 0)) := by rw [← hW]; exact heap_alloc_new w _
      have hb1 : Below w.heap.size w W1 := by rw [← hW]; exact (Below.refl _ _).alloc (Nat.le_refl _) _
      have hz : w.heap.size < W1.heap.size := by rw [← hW]; simp
      have HQ : Hid (∀ wx, Below W1.heap.size W1 wx → _) := Lib.hid fun wx hb => blk10 ((hb.block w.heap.size hz).trans hk0)
      have HB1 := Lib.hid hb1
      obtain ⟨x0, x1, x2, x3, x4, x5, x6, x7, x8, x9, xf, _⟩ := HQ.out _ (Below.refl _ _)
      clear hW hb1 hk0
      go_wp2_with fail
      refine (HS.out _ HB1.out).mono ?_
      rintro e w1 ⟨rfl, hb⟩
      have HLw1 := Lib.hid (hb)
      clear hb x0 x1 x2 x3 x4 x5 x6 x7 x8 x9 xf
      obtain ⟨x0, x1, x2, x3, x4, x5, x6, x7, x8, x9, xf, _⟩ := HQ.out _ HLw1.out
      dsimp only
      go_upto_region 7 with fail
      go_cut [3] (fun v wx => v = .bool tb ∧ Below W1.heap.size W1 wx)
      case first =>
        go_wp2_with fail
        refine (HSO.out _).mono ?_
        rintro e w2 ⟨rfl, rfl⟩
        dsimp only
        go_wp2_with fail
        go_meet
        exact ⟨HTB.out, HLw1.out⟩
      case rest =>
        obtain ⟨rfl, hbc⟩ := hcut
        have HLc := Lib.hid hbc
        clear hbc x0 x1 x2 x3 x4 x5 x6 x7 x8 x9 xf
        obtain ⟨x0, x1, x2, x3, x4, x5, x6, x7, x8, x9, xf, _⟩ := HQ.out _ HLc.out
        clear HTB
        cases tb
        · go_wp2_with fail
          go_ret
          exact ⟨by simp, HB1.out.trans (HLc.out.mono HB1.out.size)⟩
        · cases nb
          · go_wp2_with fail
            refine (HN.out _).mono ?_
            rintro e w3 ⟨rfl, rfl⟩
            dsimp only
            go_wp2_with fail
            go_ret
            exact ⟨by simp, HB1.out.trans (HLc.out.mono HB1.out.size)⟩
          · by_cases hvk : vk = 0
            · subst hvk
              by_cases hvi : vi = 0
              · subst hvi
                rcases noText_cases vt with ⟨rfl, hx⟩ | ⟨hx0, hx⟩
                · have HX := Lib.hid hx
                  clear hx
                  go_wp2_with fail
                  refine (HN.out _).mono ?_
                  rintro e w3 ⟨rfl, rfl⟩
                  dsimp only
                  go_wp2_with fail
                  go_ret
                  exact ⟨by simp [valZ, HX.out], HB1.out.trans (HLc.out.mono HB1.out.size)⟩
                · have HX := Lib.hid hx
                  clear hx
                  go_wp2_with fail
                  refine (HN.out _).mono ?_
                  rintro e w3 ⟨rfl, rfl⟩
                  dsimp only
                  go_wp2_with fail
                  go_ret
                  exact ⟨by simp [valZ, HX.out], HB1.out.trans (HLc.out.mono HB1.out.size)⟩
              · go_wp2_with fail
                refine (HN.out _).mono ?_
                rintro e w3 ⟨rfl, rfl⟩
                dsimp only
                go_wp2_with fail
                go_ret
                exact ⟨by simp [valZ, hvi], HB1.out.trans (HLc.out.mono HB1.out.size)⟩
            · go_wp2_with fail
              refine (HN.out _).mono ?_
              rintro e w3 ⟨rfl, rfl⟩
              dsimp only
              go_wp2_with fail
              go_ret
              exact ⟨by simp [valZ, hvk], HB1.out.trans (HLc.out.mono HB1.out.size)⟩
end
end Go.Proofs.YthcpacadjnpacaaDoor
