/- Which expressions are well-formed in the reference: the ways of its ValidExpr through arguments and queries. -/
import Derived.Test.YthcpacadjnpacaaDoorS8
namespace Go.Proofs.YthcpacadjnpacaaDoor
open Go.RowKit

section
variable (k o : Int) (no : Bool) (vk vi : Int) (vt t nm : ByteArray) (a s : Option Addr) (an ac sn sc : Nat) (w : World)

set_option maxRecDepth 100000 in
set_option maxHeartbeats 10000000 in
theorem rv_opsA (hs : ∀ wx, Below w.heap.size w wx → Calls Tryd.prog 81 #[.agg #[.int .i64 k, .int .i64 o, .bool no, .int .i64 vk, .int .i64 vi, .string vt, .string t, .string nm, .slice a an ac, .slice s sn sc]] wx (RetBel (.bool true) wx)) (hg : k = 5 ∧ no = false ∧ sn = 0) (pb ab : Bool) (hp : ∀ wx, Calls Tryd.prog 84 #[.agg #[.int .i64 k, .int .i64 o, .bool no, .int .i64 vk, .int .i64 vi, .string vt, .string t, .string nm, .slice a an ac, .slice s sn sc]] wx (RetBel (.bool pb) wx)) (ha : ∀ wx, Below w.heap.size w wx → Calls Tryd.prog 85 #[.slice a an ac] wx (RetBel (.bool ab) wx)) :
    Calls Tryd.prog 43 #[.agg #[.int .i64 k, .int .i64 o, .bool no, .int .i64 vk, .int .i64 vi, .string vt, .string t, .string nm, .slice a an ac, .slice s sn sc]] w (RetBel (.bool (pb && ab)) w) := by
  obtain ⟨rfl, rfl, rfl⟩ := hg
  have HS := Lib.hid hs
  have HP := Lib.hid hp
  have HA := Lib.hid ha
  clear hs hp ha
  cases pb
  · go_enter Tryd.func43, Tryd.ntmps43
    go_upto_region 1 with fail
    generalize hW : World.alloc w _ = W1
    have hk0 : W1.heap[w.heap.size]? = some (.cells #[.int .i64 5, .int .i64 o, .bool false, .int .i64 vk, .int .i64 vi, .string vt, .string t, .string nm, .slice a an ac, .slice s 0 sc] 27 (0, 0)) := by rw [← hW]; exact heap_alloc_new w _
    have hb1 : Below w.heap.size w W1 := by rw [← hW]; exact (Below.refl _ _).alloc (Nat.le_refl _) _
    have hz : w.heap.size < W1.heap.size := by rw [← hW]; simp
    have HQ : Hid (∀ wx, Below W1.heap.size W1 wx → _) := Lib.hid fun wx hb => blk10 ((hb.block w.heap.size hz).trans hk0)
    have HB1 := Lib.hid hb1
    obtain ⟨x0, x1, x2, x3, x4, x5, x6, x7, x8, x9, xf, _⟩ := HQ.out _ (Below.refl _ _)
    clear hW hb1 hk0
    go_wp2_with fail
    refine (HS.out _ HB1.out).mono ?_
    rintro e w1 ⟨rfl, hb⟩
    have HLw1 := Lib.hid (hb)
    clear hb x0 x1 x2 x3 x4 x5 x6 x7 x8 x9 xf
    obtain ⟨x0, x1, x2, x3, x4, x5, x6, x7, x8, x9, xf, _⟩ := HQ.out _ HLw1.out
    dsimp only
    go_wp2_with fail
    refine (HP.out _).mono ?_
    rintro e w2 ⟨rfl, hb⟩
    have HLw2 := Lib.hid (HLw1.out.trans (hb.mono HLw1.out.size))
    clear hb x0 x1 x2 x3 x4 x5 x6 x7 x8 x9 xf
    obtain ⟨x0, x1, x2, x3, x4, x5, x6, x7, x8, x9, xf, _⟩ := HQ.out _ HLw2.out
    dsimp only
    go_wp2_with fail
    go_ret
    exact ⟨by simp, HB1.out.trans (HLw2.out.mono HB1.out.size)⟩
  · cases ab
    · go_enter Tryd.func43, Tryd.ntmps43
      go_upto_region 1 with fail
      generalize hW : World.alloc w _ = W1
      have hk0 : W1.heap[w.heap.size]? = some (.cells #[.int .i64 5, .int .i64 o, .bool false, .int .i64 vk, .int .i64 vi, .string vt, .string t, .string nm, .slice a an ac, .slice s 0 sc] 27 (0, 0)) := by rw [← hW]; exact heap_alloc_new w _
      have hb1 : Below w.heap.size w W1 := by rw [← hW]; exact (Below.refl _ _).alloc (Nat.le_refl _) _
      have hz : w.heap.size < W1.heap.size := by rw [← hW]; simp
      have HQ : Hid (∀ wx, Below W1.heap.size W1 wx → _) := Lib.hid fun wx hb => blk10 ((hb.block w.heap.size hz).trans hk0)
      have HB1 := Lib.hid hb1
      obtain ⟨x0, x1, x2, x3, x4, x5, x6, x7, x8, x9, xf, _⟩ := HQ.out _ (Below.refl _ _)
      clear hW hb1 hk0
      go_wp2_with fail
      refine (HS.out _ HB1.out).mono ?_
      rintro e w1 ⟨rfl, hb⟩
      have HLw1 := Lib.hid (hb)
      clear hb x0 x1 x2 x3 x4 x5 x6 x7 x8 x9 xf
      obtain ⟨x0, x1, x2, x3, x4, x5, x6, x7, x8, x9, xf, _⟩ := HQ.out _ HLw1.out
      dsimp only
      go_wp2_with fail
      refine (HP.out _).mono ?_
      rintro e w2 ⟨rfl, hb⟩
      have HLw2 := Lib.hid (HLw1.out.trans (hb.mono HLw1.out.size))
      clear hb x0 x1 x2 x3 x4 x5 x6 x7 x8 x9 xf
      obtain ⟨x0, x1, x2, x3, x4, x5, x6, x7, x8, x9, xf, _⟩ := HQ.out _ HLw2.out
      dsimp only
      go_wp2_with fail
      refine (HA.out _ (HB1.out.trans (HLw2.out.mono HB1.out.size))).mono ?_
      rintro e w3 ⟨rfl, hb⟩
      have HLw3 := Lib.hid (HLw2.out.trans (hb.mono HLw2.out.size))
      clear hb x0 x1 x2 x3 x4 x5 x6 x7 x8 x9 xf
      obtain ⟨x0, x1, x2, x3, x4, x5, x6, x7, x8, x9, xf, _⟩ := HQ.out _ HLw3.out
      dsimp only
      go_wp2_with fail
      go_ret
      exact ⟨by simp, HB1.out.trans (HLw3.out.mono HB1.out.size)⟩
    · go_enter Tryd.func43, Tryd.ntmps43
      go_upto_region 1 with fail
      generalize hW : World.alloc w _ = W1
      have hk0 : W1.heap[w.heap.size]? = some (.cells #[.int .i64 5, .int .i64 o, .bool false, .int .i64 vk, .int .i64 vi, .string vt, .string t, .string nm, .slice a an ac, .slice s 0 sc] 27 (0, 0)) := by rw [← hW]; exact heap_alloc_new w _
      have hb1 : Below w.heap.size w W1 := by rw [← hW]; exact (Below.refl _ _).alloc (Nat.le_refl _) _
      have hz : w.heap.size < W1.heap.size := by rw [← hW]; simp
      have HQ : Hid (∀ wx, Below W1.heap.size W1 wx → _) := Lib.hid fun wx hb => blk10 ((hb.block w.heap.size hz).trans hk0)
      have HB1 := Lib.hid hb1
      obtain ⟨x0, x1, x2, x3, x4, x5, x6, x7, x8, x9, xf, _⟩ := HQ.out _ (Below.refl _ _)
      clear hW hb1 hk0
      go_wp2_with fail
      refine (HS.out _ HB1.out).mono ?_
      rintro e w1 ⟨rfl, hb⟩
      have HLw1 := Lib.hid (hb)
      clear hb x0 x1 x2 x3 x4 x5 x6 x7 x8 x9 xf
      obtain ⟨x0, x1, x2, x3, x4, x5, x6, x7, x8, x9, xf, _⟩ := HQ.out _ HLw1.out
      dsimp only
      go_wp2_with fail
      refine (HP.out _).mono ?_
      rintro e w2 ⟨rfl, hb⟩
      have HLw2 := Lib.hid (HLw1.out.trans (hb.mono HLw1.out.size))
      clear hb x0 x1 x2 x3 x4 x5 x6 x7 x8 x9 xf
      obtain ⟨x0, x1, x2, x3, x4, x5, x6, x7, x8, x9, xf, _⟩ := HQ.out _ HLw2.out
      dsimp only
      go_wp2_with fail
      refine (HA.out _ (HB1.out.trans (HLw2.out.mono HB1.out.size))).mono ?_
      rintro e w3 ⟨rfl, hb⟩
      have HLw3 := Lib.hid (HLw2.out.trans (hb.mono HLw2.out.size))
      clear hb x0 x1 x2 x3 x4 x5 x6 x7 x8 x9 xf
      obtain ⟨x0, x1, x2, x3, x4, x5, x6, x7, x8, x9, xf, _⟩ := HQ.out _ HLw3.out
      dsimp only
      go_wp2_with fail
      refine wp_loop_rounds 1 ?_
      rw [rounds_succ]
      go_wp2_with fail
      go_ret
      exact ⟨by simp, HB1.out.trans (HLw3.out.mono HB1.out.size)⟩

set_option maxRecDepth 100000 in
set_option maxHeartbeats 10000000 in
theorem rv_opsB (hs : ∀ wx, Below w.heap.size w wx → Calls Tryd.prog 81 #[.agg #[.int .i64 k, .int .i64 o, .bool no, .int .i64 vk, .int .i64 vi, .string vt, .string t, .string nm, .slice a an ac, .slice s sn sc]] wx (RetBel (.bool true) wx)) (hg : k = 6 ∧ o = 0 ∧ sn = 0) (pb ab : Bool) (hp : ∀ wx, Calls Tryd.prog 84 #[.agg #[.int .i64 k, .int .i64 o, .bool no, .int .i64 vk, .int .i64 vi, .string vt, .string t, .string nm, .slice a an ac, .slice s sn sc]] wx (RetBel (.bool pb) wx)) (ha : ∀ wx, Below w.heap.size w wx → Calls Tryd.prog 85 #[.slice a an ac] wx (RetBel (.bool ab) wx)) :
    Calls Tryd.prog 43 #[.agg #[.int .i64 k, .int .i64 o, .bool no, .int .i64 vk, .int .i64 vi, .string vt, .string t, .string nm, .slice a an ac, .slice s sn sc]] w (RetBel (.bool (pb && ab)) w) := by
  obtain ⟨rfl, rfl, rfl⟩ := hg
  have HS := Lib.hid hs
  have HP := Lib.hid hp
  have HA := Lib.hid ha
  clear hs hp ha
  cases pb
  · go_enter Tryd.func43, Tryd.ntmps43
    go_upto_region 1 with fail
    generalize hW : World.alloc w _ = W1
    have hk0 : W1.heap[w.heap.size]? = some (.cells #[.int .i64 6, .int .i64 0, .bool no, .int .i64 vk, .int .i64 vi, .string vt, .string t, .string nm, .slice a an ac, .slice s 0 sc] 27 (0, 0)) := by rw [← hW]; exact heap_alloc_new w _
    have hb1 : Below w.heap.size w W1 := by rw [← hW]; exact (Below.refl _ _).alloc (Nat.le_refl _) _
    have hz : w.heap.size < W1.heap.size := by rw [← hW]; simp
    have HQ : Hid (∀ wx, Below W1.heap.size W1 wx → _) := Lib.hid fun wx hb => blk10 ((hb.block w.heap.size hz).trans hk0)
    have HB1 := Lib.hid hb1
    obtain ⟨x0, x1, x2, x3, x4, x5, x6, x7, x8, x9, xf, _⟩ := HQ.out _ (Below.refl _ _)
    clear hW hb1 hk0
    go_wp2_with fail
    refine (HS.out _ HB1.out).mono ?_
    rintro e w1 ⟨rfl, hb⟩
    have HLw1 := Lib.hid (hb)
    clear hb x0 x1 x2 x3 x4 x5 x6 x7 x8 x9 xf
    obtain ⟨x0, x1, x2, x3, x4, x5, x6, x7, x8, x9, xf, _⟩ := HQ.out _ HLw1.out
    dsimp only
    go_wp2_with fail
    refine (HP.out _).mono ?_
    rintro e w2 ⟨rfl, hb⟩
    have HLw2 := Lib.hid (HLw1.out.trans (hb.mono HLw1.out.size))
    clear hb x0 x1 x2 x3 x4 x5 x6 x7 x8 x9 xf
    obtain ⟨x0, x1, x2, x3, x4, x5, x6, x7, x8, x9, xf, _⟩ := HQ.out _ HLw2.out
    dsimp only
    go_wp2_with fail
    go_ret
    exact ⟨by simp, HB1.out.trans (HLw2.out.mono HB1.out.size)⟩
  · cases ab
    · go_enter Tryd.func43, Tryd.ntmps43
      go_upto_region 1 with fail
      generalize hW : World.alloc w _ = W1
      have hk0 : W1.heap[w.heap.size]? = some (.cells #[.int .i64 6, .int .i64 0, .bool no, .int .i64 vk, .int .i64 vi, .string vt, .string t, .string nm, .slice a an ac, .slice s 0 sc] 27 (0, 0)) := by rw [← hW]; exact heap_alloc_new w _
      have hb1 : Below w.heap.size w W1 := by rw [← hW]; exact (Below.refl _ _).alloc (Nat.le_refl _) _
      have hz : w.heap.size < W1.heap.size := by rw [← hW]; simp
      have HQ : Hid (∀ wx, Below W1.heap.size W1 wx → _) := Lib.hid fun wx hb => blk10 ((hb.block w.heap.size hz).trans hk0)
      have HB1 := Lib.hid hb1
      obtain ⟨x0, x1, x2, x3, x4, x5, x6, x7, x8, x9, xf, _⟩ := HQ.out _ (Below.refl _ _)
      clear hW hb1 hk0
      go_wp2_with fail
      refine (HS.out _ HB1.out).mono ?_
      rintro e w1 ⟨rfl, hb⟩
      have HLw1 := Lib.hid (hb)
      clear hb x0 x1 x2 x3 x4 x5 x6 x7 x8 x9 xf
      obtain ⟨x0, x1, x2, x3, x4, x5, x6, x7, x8, x9, xf, _⟩ := HQ.out _ HLw1.out
      dsimp only
      go_wp2_with fail
      refine (HP.out _).mono ?_
      rintro e w2 ⟨rfl, hb⟩
      have HLw2 := Lib.hid (HLw1.out.trans (hb.mono HLw1.out.size))
      clear hb x0 x1 x2 x3 x4 x5 x6 x7 x8 x9 xf
      obtain ⟨x0, x1, x2, x3, x4, x5, x6, x7, x8, x9, xf, _⟩ := HQ.out _ HLw2.out
      dsimp only
      go_wp2_with fail
      refine (HA.out _ (HB1.out.trans (HLw2.out.mono HB1.out.size))).mono ?_
      rintro e w3 ⟨rfl, hb⟩
      have HLw3 := Lib.hid (HLw2.out.trans (hb.mono HLw2.out.size))
      clear hb x0 x1 x2 x3 x4 x5 x6 x7 x8 x9 xf
      obtain ⟨x0, x1, x2, x3, x4, x5, x6, x7, x8, x9, xf, _⟩ := HQ.out _ HLw3.out
      dsimp only
      go_wp2_with fail
      go_ret
      exact ⟨by simp, HB1.out.trans (HLw3.out.mono HB1.out.size)⟩
    · go_enter Tryd.func43, Tryd.ntmps43
      go_upto_region 1 with fail
      generalize hW : World.alloc w _ = W1
      have hk0 : W1.heap[w.heap.size]? = some (.cells #[.int .i64 6, .int .i64 0, .bool no, .int .i64 vk, .int .i64 vi, .string vt, .string t, .string nm, .slice a an ac, .slice s 0 sc] 27 (0, 0)) := by rw [← hW]; exact heap_alloc_new w _
      have hb1 : Below w.heap.size w W1 := by rw [← hW]; exact (Below.refl _ _).alloc (Nat.le_refl _) _
      have hz : w.heap.size < W1.heap.size := by rw [← hW]; simp
      have HQ : Hid (∀ wx, Below W1.heap.size W1 wx → _) := Lib.hid fun wx hb => blk10 ((hb.block w.heap.size hz).trans hk0)
      have HB1 := Lib.hid hb1
      obtain ⟨x0, x1, x2, x3, x4, x5, x6, x7, x8, x9, xf, _⟩ := HQ.out _ (Below.refl _ _)
      clear hW hb1 hk0
      go_wp2_with fail
      refine (HS.out _ HB1.out).mono ?_
      rintro e w1 ⟨rfl, hb⟩
      have HLw1 := Lib.hid (hb)
      clear hb x0 x1 x2 x3 x4 x5 x6 x7 x8 x9 xf
      obtain ⟨x0, x1, x2, x3, x4, x5, x6, x7, x8, x9, xf, _⟩ := HQ.out _ HLw1.out
      dsimp only
      go_wp2_with fail
      refine (HP.out _).mono ?_
      rintro e w2 ⟨rfl, hb⟩
      have HLw2 := Lib.hid (HLw1.out.trans (hb.mono HLw1.out.size))
      clear hb x0 x1 x2 x3 x4 x5 x6 x7 x8 x9 xf
      obtain ⟨x0, x1, x2, x3, x4, x5, x6, x7, x8, x9, xf, _⟩ := HQ.out _ HLw2.out
      dsimp only
      go_wp2_with fail
      refine (HA.out _ (HB1.out.trans (HLw2.out.mono HB1.out.size))).mono ?_
      rintro e w3 ⟨rfl, hb⟩
      have HLw3 := Lib.hid (HLw2.out.trans (hb.mono HLw2.out.size))
      clear hb x0 x1 x2 x3 x4 x5 x6 x7 x8 x9 xf
      obtain ⟨x0, x1, x2, x3, x4, x5, x6, x7, x8, x9, xf, _⟩ := HQ.out _ HLw3.out
      dsimp only
      go_wp2_with fail
      refine wp_loop_rounds 1 ?_
      rw [rounds_succ]
      go_wp2_with fail
      go_ret
      exact ⟨by simp, HB1.out.trans (HLw3.out.mono HB1.out.size)⟩

set_option maxRecDepth 100000 in
set_option maxHeartbeats 10000000 in
theorem rv_opsC (hs : ∀ wx, Below w.heap.size w wx → Calls Tryd.prog 81 #[.agg #[.int .i64 k, .int .i64 o, .bool no, .int .i64 vk, .int .i64 vi, .string vt, .string t, .string nm, .slice a an ac, .slice s sn sc]] wx (RetBel (.bool true) wx)) (e1 : (k == 1) = false) (e2 : (k == 2) = false) (e5 : (k != 5) = true) (e6 : (k != 6) = true) (hg : o = 0 ∧ no = false ∧ sn = 0) (pb ab : Bool) (hp : ∀ wx, Calls Tryd.prog 84 #[.agg #[.int .i64 k, .int .i64 o, .bool no, .int .i64 vk, .int .i64 vi, .string vt, .string t, .string nm, .slice a an ac, .slice s sn sc]] wx (RetBel (.bool pb) wx)) (ha : ∀ wx, Below w.heap.size w wx → Calls Tryd.prog 85 #[.slice a an ac] wx (RetBel (.bool ab) wx)) :
    Calls Tryd.prog 43 #[.agg #[.int .i64 k, .int .i64 o, .bool no, .int .i64 vk, .int .i64 vi, .string vt, .string t, .string nm, .slice a an ac, .slice s sn sc]] w (RetBel (.bool (pb && ab)) w) := by
  obtain ⟨rfl, rfl, rfl⟩ := hg
  have HS := Lib.hid hs
  have HP := Lib.hid hp
  have HA := Lib.hid ha
  clear hs hp ha
  cases pb
  · go_enter Tryd.func43, Tryd.ntmps43
    go_upto_region 1 with fail
    generalize hW : World.alloc w _ = W1
    have hk0 : W1.heap[w.heap.size]? = some (.cells #[.int .i64 k, .int .i64 0, .bool false, .int .i64 vk, .int .i64 vi, .string vt, .string t, .string nm, .slice a an ac, .slice s 0 sc] 27 (0, 0)) := by rw [← hW]; exact heap_alloc_new w _
    have hb1 : Below w.heap.size w W1 := by rw [← hW]; exact (Below.refl _ _).alloc (Nat.le_refl _) _
    have hz : w.heap.size < W1.heap.size := by rw [← hW]; simp
    have HQ : Hid (∀ wx, Below W1.heap.size W1 wx → _) := Lib.hid fun wx hb => blk10 ((hb.block w.heap.size hz).trans hk0)
    have HB1 := Lib.hid hb1
    obtain ⟨x0, x1, x2, x3, x4, x5, x6, x7, x8, x9, xf, _⟩ := HQ.out _ (Below.refl _ _)
    clear hW hb1 hk0
    go_wp2_with fail
    refine (HS.out _ HB1.out).mono ?_
    rintro e w1 ⟨rfl, hb⟩
    have HLw1 := Lib.hid (hb)
    clear hb x0 x1 x2 x3 x4 x5 x6 x7 x8 x9 xf
    obtain ⟨x0, x1, x2, x3, x4, x5, x6, x7, x8, x9, xf, _⟩ := HQ.out _ HLw1.out
    dsimp only
    go_wp2_with fail
    refine (HP.out _).mono ?_
    rintro e w2 ⟨rfl, hb⟩
    have HLw2 := Lib.hid (HLw1.out.trans (hb.mono HLw1.out.size))
    clear hb x0 x1 x2 x3 x4 x5 x6 x7 x8 x9 xf
    obtain ⟨x0, x1, x2, x3, x4, x5, x6, x7, x8, x9, xf, _⟩ := HQ.out _ HLw2.out
    dsimp only
    go_wp2_with fail
    go_ret
    exact ⟨by simp, HB1.out.trans (HLw2.out.mono HB1.out.size)⟩
  · cases ab
    · go_enter Tryd.func43, Tryd.ntmps43
      go_upto_region 1 with fail
      generalize hW : World.alloc w _ = W1
      have hk0 : W1.heap[w.heap.size]? = some (.cells #[.int .i64 k, .int .i64 0, .bool false, .int .i64 vk, .int .i64 vi, .string vt, .string t, .string nm, .slice a an ac, .slice s 0 sc] 27 (0, 0)) := by rw [← hW]; exact heap_alloc_new w _
      have hb1 : Below w.heap.size w W1 := by rw [← hW]; exact (Below.refl _ _).alloc (Nat.le_refl _) _
      have hz : w.heap.size < W1.heap.size := by rw [← hW]; simp
      have HQ : Hid (∀ wx, Below W1.heap.size W1 wx → _) := Lib.hid fun wx hb => blk10 ((hb.block w.heap.size hz).trans hk0)
      have HB1 := Lib.hid hb1
      obtain ⟨x0, x1, x2, x3, x4, x5, x6, x7, x8, x9, xf, _⟩ := HQ.out _ (Below.refl _ _)
      clear hW hb1 hk0
      go_wp2_with fail
      refine (HS.out _ HB1.out).mono ?_
      rintro e w1 ⟨rfl, hb⟩
      have HLw1 := Lib.hid (hb)
      clear hb x0 x1 x2 x3 x4 x5 x6 x7 x8 x9 xf
      obtain ⟨x0, x1, x2, x3, x4, x5, x6, x7, x8, x9, xf, _⟩ := HQ.out _ HLw1.out
      dsimp only
      go_wp2_with fail
      refine (HP.out _).mono ?_
      rintro e w2 ⟨rfl, hb⟩
      have HLw2 := Lib.hid (HLw1.out.trans (hb.mono HLw1.out.size))
      clear hb x0 x1 x2 x3 x4 x5 x6 x7 x8 x9 xf
      obtain ⟨x0, x1, x2, x3, x4, x5, x6, x7, x8, x9, xf, _⟩ := HQ.out _ HLw2.out
      dsimp only
      go_wp2_with fail
      refine (HA.out _ (HB1.out.trans (HLw2.out.mono HB1.out.size))).mono ?_
      rintro e w3 ⟨rfl, hb⟩
      have HLw3 := Lib.hid (HLw2.out.trans (hb.mono HLw2.out.size))
      clear hb x0 x1 x2 x3 x4 x5 x6 x7 x8 x9 xf
      obtain ⟨x0, x1, x2, x3, x4, x5, x6, x7, x8, x9, xf, _⟩ := HQ.out _ HLw3.out
      dsimp only
      go_wp2_with fail
      go_ret
      exact ⟨by simp, HB1.out.trans (HLw3.out.mono HB1.out.size)⟩
    · go_enter Tryd.func43, Tryd.ntmps43
      go_upto_region 1 with fail
      generalize hW : World.alloc w _ = W1
      have hk0 : W1.heap[w.heap.size]? = some (.cells #[.int .i64 k, .int .i64 0, .bool false, .int .i64 vk, .int .i64 vi, .string vt, .string t, .string nm, .slice a an ac, .slice s 0 sc] 27 (0, 0)) := by rw [← hW]; exact heap_alloc_new w _
      have hb1 : Below w.heap.size w W1 := by rw [← hW]; exact (Below.refl _ _).alloc (Nat.le_refl _) _
      have hz : w.heap.size < W1.heap.size := by rw [← hW]; simp
      have HQ : Hid (∀ wx, Below W1.heap.size W1 wx → _) := Lib.hid fun wx hb => blk10 ((hb.block w.heap.size hz).trans hk0)
      have HB1 := Lib.hid hb1
      obtain ⟨x0, x1, x2, x3, x4, x5, x6, x7, x8, x9, xf, _⟩ := HQ.out _ (Below.refl _ _)
      clear hW hb1 hk0
      go_wp2_with fail
      refine (HS.out _ HB1.out).mono ?_
      rintro e w1 ⟨rfl, hb⟩
      have HLw1 := Lib.hid (hb)
      clear hb x0 x1 x2 x3 x4 x5 x6 x7 x8 x9 xf
      obtain ⟨x0, x1, x2, x3, x4, x5, x6, x7, x8, x9, xf, _⟩ := HQ.out _ HLw1.out
      dsimp only
      go_wp2_with fail
      refine (HP.out _).mono ?_
      rintro e w2 ⟨rfl, hb⟩
      have HLw2 := Lib.hid (HLw1.out.trans (hb.mono HLw1.out.size))
      clear hb x0 x1 x2 x3 x4 x5 x6 x7 x8 x9 xf
      obtain ⟨x0, x1, x2, x3, x4, x5, x6, x7, x8, x9, xf, _⟩ := HQ.out _ HLw2.out
      dsimp only
      go_wp2_with fail
      refine (HA.out _ (HB1.out.trans (HLw2.out.mono HB1.out.size))).mono ?_
      rintro e w3 ⟨rfl, hb⟩
      have HLw3 := Lib.hid (HLw2.out.trans (hb.mono HLw2.out.size))
      clear hb x0 x1 x2 x3 x4 x5 x6 x7 x8 x9 xf
      obtain ⟨x0, x1, x2, x3, x4, x5, x6, x7, x8, x9, xf, _⟩ := HQ.out _ HLw3.out
      dsimp only
      go_wp2_with fail
      refine wp_loop_rounds 1 ?_
      rw [rounds_succ]
      go_wp2_with fail
      go_ret
      exact ⟨by simp, HB1.out.trans (HLw3.out.mono HB1.out.size)⟩

set_option maxRecDepth 100000 in
set_option maxHeartbeats 20000000 in
theorem rv_q8t (hs : ∀ wx, Below w.heap.size w wx → Calls Tryd.prog 81 #[.agg #[.int .i64 k, .int .i64 o, .bool no, .int .i64 vk, .int .i64 vi, .string vt, .string t, .string nm, .slice a an ac, .slice s sn sc]] wx (RetBel (.bool true) wx)) (pb ab : Bool) (hp : ∀ wx, Calls Tryd.prog 84 #[.agg #[.int .i64 k, .int .i64 o, .bool no, .int .i64 vk, .int .i64 vi, .string vt, .string t, .string nm, .slice a an ac, .slice s sn sc]] wx (RetBel (.bool pb) wx)) (ha : ∀ wx, Below w.heap.size w wx → Calls Tryd.prog 85 #[.slice a an ac] wx (RetBel (.bool ab) wx)) (qb qo : Nat) (st : Bool) (f : ByteArray) (ia wa : Option Addr) (il wl ic wc : Nat) (hqb : qb < w.heap.size) (sb ib wb : Bool)
    (c0 : w.cell? ⟨qb, qo, none⟩ = some (.bool st)) (c1 : w.cell? ⟨qb, qo + 1, none⟩ = some (.slice ia il ic)) (c2 : w.cell? ⟨qb, qo + 2, none⟩ = some (.string f)) (c3 : w.cell? ⟨qb, qo + 3, none⟩ = some (.slice wa wl wc))
    (hso : ∀ wx, Calls Tryd.prog 82 #[.string f] wx fun e w' => e = .returned (.bool sb) ∧ wx = w')
    (hi : ∀ wx, Below w.heap.size w wx → Calls Tryd.prog 85 #[.slice ia il ic] wx (RetBel (.bool ib) wx))
    (hw : ∀ wx, Below w.heap.size w wx → Calls Tryd.prog 85 #[.slice wa wl wc] wx (RetBel (.bool wb) wx)) (hg : o = 0 ∧ no = false ∧ st = true ∧ s = some ⟨qb, qo, none⟩ ∧ sn = 1 ∧ an = 0 ∧ k = 8) :
    Calls Tryd.prog 43 #[.agg #[.int .i64 k, .int .i64 o, .bool no, .int .i64 vk, .int .i64 vi, .string vt, .string t, .string nm, .slice a an ac, .slice s sn sc]] w (RetBel (.bool (pb && ab && (sb && ib && wb))) w) := by
  obtain ⟨rfl, rfl, rfl, rfl, rfl, rfl, rfl⟩ := hg
  have HS := Lib.hid hs
  have HP := Lib.hid hp
  have HA := Lib.hid ha
  clear hs hp ha
  have HSO := Lib.hid hso
  have HI := Lib.hid hi
  have HW := Lib.hid hw
  clear hso hi hw
  have HD : Hid (∀ wx, Below w.heap.size w wx → _) := Lib.hid fun wx hb => And.intro ((hb.cell (p := ⟨qb, qo, none⟩) hqb).trans c0) (And.intro ((hb.cell (p := ⟨qb, qo + 1, none⟩) hqb).trans c1) (And.intro ((hb.cell (p := ⟨qb, qo + 2, none⟩) hqb).trans c2) ((hb.cell (p := ⟨qb, qo + 3, none⟩) hqb).trans c3)))
  cases pb
  · clear c0 c1 c2 c3
    go_enter Tryd.func43, Tryd.ntmps43
    go_upto_region 1 with fail
    generalize hW : World.alloc w _ = W1
    have hk0 : W1.heap[w.heap.size]? = some (.cells #[.int .i64 8, .int .i64 0, .bool false, .int .i64 vk, .int .i64 vi, .string vt, .string t, .string nm, .slice a 0 ac, .slice (some ⟨qb, qo, none⟩) 1 sc] 27 (0, 0)) := by rw [← hW]; exact heap_alloc_new w _
    have hb1 : Below w.heap.size w W1 := by rw [← hW]; exact (Below.refl _ _).alloc (Nat.le_refl _) _
    have hz : w.heap.size < W1.heap.size := by rw [← hW]; simp
    have HQ : Hid (∀ wx, Below W1.heap.size W1 wx → _) := Lib.hid fun wx hb => blk10 ((hb.block w.heap.size hz).trans hk0)
    have HB1 := Lib.hid hb1
    obtain ⟨x0, x1, x2, x3, x4, x5, x6, x7, x8, x9, xf, _⟩ := HQ.out _ (Below.refl _ _)
    clear hW hb1 hk0
    go_wp2_with fail
    refine (HS.out _ HB1.out).mono ?_
    rintro e w1 ⟨rfl, hb⟩
    have HLw1 := Lib.hid (hb)
    clear hb x0 x1 x2 x3 x4 x5 x6 x7 x8 x9 xf
    obtain ⟨x0, x1, x2, x3, x4, x5, x6, x7, x8, x9, xf, _⟩ := HQ.out _ HLw1.out
    dsimp only
    go_wp2_with fail
    refine (HP.out _).mono ?_
    rintro e w2 ⟨rfl, hb⟩
    have HLw2 := Lib.hid (HLw1.out.trans (hb.mono HLw1.out.size))
    clear hb x0 x1 x2 x3 x4 x5 x6 x7 x8 x9 xf
    obtain ⟨x0, x1, x2, x3, x4, x5, x6, x7, x8, x9, xf, _⟩ := HQ.out _ HLw2.out
    dsimp only
    go_wp2_with fail
    go_ret
    exact ⟨by simp, HB1.out.trans (HLw2.out.mono HB1.out.size)⟩
  · cases ab
    · clear c0 c1 c2 c3
      go_enter Tryd.func43, Tryd.ntmps43
      go_upto_region 1 with fail
      generalize hW : World.alloc w _ = W1
      have hk0 : W1.heap[w.heap.size]? = some (.cells #[.int .i64 8, .int .i64 0, .bool false, .int .i64 vk, .int .i64 vi, .string vt, .string t, .string nm, .slice a 0 ac, .slice (some ⟨qb, qo, none⟩) 1 sc] 27 (0, 0)) := by rw [← hW]; exact heap_alloc_new w _
      have hb1 : Below w.heap.size w W1 := by rw [← hW]; exact (Below.refl _ _).alloc (Nat.le_refl _) _
      have hz : w.heap.size < W1.heap.size := by rw [← hW]; simp
      have HQ : Hid (∀ wx, Below W1.heap.size W1 wx → _) := Lib.hid fun wx hb => blk10 ((hb.block w.heap.size hz).trans hk0)
      have HB1 := Lib.hid hb1
      obtain ⟨x0, x1, x2, x3, x4, x5, x6, x7, x8, x9, xf, _⟩ := HQ.out _ (Below.refl _ _)
      clear hW hb1 hk0
      go_wp2_with fail
      refine (HS.out _ HB1.out).mono ?_
      rintro e w1 ⟨rfl, hb⟩
      have HLw1 := Lib.hid (hb)
      clear hb x0 x1 x2 x3 x4 x5 x6 x7 x8 x9 xf
      obtain ⟨x0, x1, x2, x3, x4, x5, x6, x7, x8, x9, xf, _⟩ := HQ.out _ HLw1.out
      dsimp only
      go_wp2_with fail
      refine (HP.out _).mono ?_
      rintro e w2 ⟨rfl, hb⟩
      have HLw2 := Lib.hid (HLw1.out.trans (hb.mono HLw1.out.size))
      clear hb x0 x1 x2 x3 x4 x5 x6 x7 x8 x9 xf
      obtain ⟨x0, x1, x2, x3, x4, x5, x6, x7, x8, x9, xf, _⟩ := HQ.out _ HLw2.out
      dsimp only
      go_wp2_with fail
      refine (HA.out _ (HB1.out.trans (HLw2.out.mono HB1.out.size))).mono ?_
      rintro e w3 ⟨rfl, hb⟩
      have HLw3 := Lib.hid (HLw2.out.trans (hb.mono HLw2.out.size))
      clear hb x0 x1 x2 x3 x4 x5 x6 x7 x8 x9 xf
      obtain ⟨x0, x1, x2, x3, x4, x5, x6, x7, x8, x9, xf, _⟩ := HQ.out _ HLw3.out
      dsimp only
      go_wp2_with fail
      go_ret
      exact ⟨by simp, HB1.out.trans (HLw3.out.mono HB1.out.size)⟩
    · cases sb
      · clear c0 c1 c2 c3
        go_enter Tryd.func43, Tryd.ntmps43
        go_upto_region 1 with fail
        generalize hW : World.alloc w _ = W1
        have hk0 : W1.heap[w.heap.size]? = some (.cells #[.int .i64 8, .int .i64 0, .bool false, .int .i64 vk, .int .i64 vi, .string vt, .string t, .string nm, .slice a 0 ac, .slice (some ⟨qb, qo, none⟩) 1 sc] 27 (0, 0)) := by rw [← hW]; exact heap_alloc_new w _
        have hb1 : Below w.heap.size w W1 := by rw [← hW]; exact (Below.refl _ _).alloc (Nat.le_refl _) _
        have hz : w.heap.size < W1.heap.size := by rw [← hW]; simp
        have HQ : Hid (∀ wx, Below W1.heap.size W1 wx → _) := Lib.hid fun wx hb => blk10 ((hb.block w.heap.size hz).trans hk0)
        have HB1 := Lib.hid hb1
        obtain ⟨x0, x1, x2, x3, x4, x5, x6, x7, x8, x9, xf, _⟩ := HQ.out _ (Below.refl _ _)
        clear hW hb1 hk0
        go_wp2_with fail
        refine (HS.out _ HB1.out).mono ?_
        rintro e w1 ⟨rfl, hb⟩
        have HLw1 := Lib.hid (hb)
        clear hb x0 x1 x2 x3 x4 x5 x6 x7 x8 x9 xf
        obtain ⟨x0, x1, x2, x3, x4, x5, x6, x7, x8, x9, xf, _⟩ := HQ.out _ HLw1.out
        dsimp only
        go_wp2_with fail
        refine (HP.out _).mono ?_
        rintro e w2 ⟨rfl, hb⟩
        have HLw2 := Lib.hid (HLw1.out.trans (hb.mono HLw1.out.size))
        clear hb x0 x1 x2 x3 x4 x5 x6 x7 x8 x9 xf
        obtain ⟨x0, x1, x2, x3, x4, x5, x6, x7, x8, x9, xf, _⟩ := HQ.out _ HLw2.out
        dsimp only
        go_wp2_with fail
        refine (HA.out _ (HB1.out.trans (HLw2.out.mono HB1.out.size))).mono ?_
        rintro e w3 ⟨rfl, hb⟩
        have HLw3 := Lib.hid (HLw2.out.trans (hb.mono HLw2.out.size))
        clear hb x0 x1 x2 x3 x4 x5 x6 x7 x8 x9 xf
        obtain ⟨x0, x1, x2, x3, x4, x5, x6, x7, x8, x9, xf, _⟩ := HQ.out _ HLw3.out
        dsimp only
        obtain ⟨d0, d1, d2, d3⟩ := HD.out _ (HB1.out.trans (HLw3.out.mono HB1.out.size))
        go_wp2_with fail
        refine wp_loop_rounds 2 ?_
        rw [rounds_succ]
        go_wp2_with fail
        generalize hW4 : World.alloc w3 _ = W4
        have hq4 : ∀ wx, Below W4.heap.size W4 wx → wx.cell? ⟨w3.heap.size, 0, none⟩ = some (.bool true) ∧ wx.cell? ⟨w3.heap.size, 1, none⟩ = some (.slice ia il ic) ∧ wx.cell? ⟨w3.heap.size, 2, none⟩ = some (.string f) ∧ wx.cell? ⟨w3.heap.size, 3, none⟩ = some (.slice wa wl wc) := by
          intro wx hb
          have hz4 : w3.heap.size < W4.heap.size := by rw [← hW4]; simp
          rw [hb.cell (p := ⟨w3.heap.size, 0, none⟩) hz4, hb.cell (p := ⟨w3.heap.size, 1, none⟩) hz4, hb.cell (p := ⟨w3.heap.size, 2, none⟩) hz4, hb.cell (p := ⟨w3.heap.size, 3, none⟩) hz4, ← hW4]
          refine ⟨?_, ?_, ?_, ?_⟩ <;> simp
        have hb4 : Below w.heap.size w W4 := by rw [← hW4]; exact (HB1.out.trans (HLw3.out.mono HB1.out.size)).alloc (HB1.out.trans (HLw3.out.mono HB1.out.size)).size _
        have HQ4 := Lib.hid hq4
        have HB4 := Lib.hid hb4
        clear hq4 hb4 hW4 x0 x1 x2 x3 x4 x5 x6 x7 x8 x9 xf d0 d1 d2 d3
        obtain ⟨y0, y1, y2, y3⟩ := HQ4.out _ (Below.refl _ _)
        refine (HSO.out _).mono ?_
        rintro e w4 ⟨rfl, rfl⟩
        dsimp only
        go_wp2_with fail
        go_ret
        exact ⟨by simp, HB4.out⟩
      · cases ib
        · clear c0 c1 c2 c3
          go_enter Tryd.func43, Tryd.ntmps43
          go_upto_region 1 with fail
          generalize hW : World.alloc w _ = W1
          have hk0 : W1.heap[w.heap.size]? = some (.cells #[.int .i64 8, .int .i64 0, .bool false, .int .i64 vk, .int .i64 vi, .string vt, .string t, .string nm, .slice a 0 ac, .slice (some ⟨qb, qo, none⟩) 1 sc] 27 (0, 0)) := by rw [← hW]; exact heap_alloc_new w _
          have hb1 : Below w.heap.size w W1 := by rw [← hW]; exact (Below.refl _ _).alloc (Nat.le_refl _) _
          have hz : w.heap.size < W1.heap.size := by rw [← hW]; simp
          have HQ : Hid (∀ wx, Below W1.heap.size W1 wx → _) := Lib.hid fun wx hb => blk10 ((hb.block w.heap.size hz).trans hk0)
          have HB1 := Lib.hid hb1
          obtain ⟨x0, x1, x2, x3, x4, x5, x6, x7, x8, x9, xf, _⟩ := HQ.out _ (Below.refl _ _)
          clear hW hb1 hk0
          go_wp2_with fail
          refine (HS.out _ HB1.out).mono ?_
          rintro e w1 ⟨rfl, hb⟩
          have HLw1 := Lib.hid (hb)
          clear hb x0 x1 x2 x3 x4 x5 x6 x7 x8 x9 xf
          obtain ⟨x0, x1, x2, x3, x4, x5, x6, x7, x8, x9, xf, _⟩ := HQ.out _ HLw1.out
          dsimp only
          go_wp2_with fail
          refine (HP.out _).mono ?_
          rintro e w2 ⟨rfl, hb⟩
          have HLw2 := Lib.hid (HLw1.out.trans (hb.mono HLw1.out.size))
          clear hb x0 x1 x2 x3 x4 x5 x6 x7 x8 x9 xf
          obtain ⟨x0, x1, x2, x3, x4, x5, x6, x7, x8, x9, xf, _⟩ := HQ.out _ HLw2.out
          dsimp only
          go_wp2_with fail
          refine (HA.out _ (HB1.out.trans (HLw2.out.mono HB1.out.size))).mono ?_
          rintro e w3 ⟨rfl, hb⟩
          have HLw3 := Lib.hid (HLw2.out.trans (hb.mono HLw2.out.size))
          clear hb x0 x1 x2 x3 x4 x5 x6 x7 x8 x9 xf
          obtain ⟨x0, x1, x2, x3, x4, x5, x6, x7, x8, x9, xf, _⟩ := HQ.out _ HLw3.out
          dsimp only
          obtain ⟨d0, d1, d2, d3⟩ := HD.out _ (HB1.out.trans (HLw3.out.mono HB1.out.size))
          go_wp2_with fail
          refine wp_loop_rounds 2 ?_
          rw [rounds_succ]
          go_wp2_with fail
          generalize hW4 : World.alloc w3 _ = W4
          have hq4 : ∀ wx, Below W4.heap.size W4 wx → wx.cell? ⟨w3.heap.size, 0, none⟩ = some (.bool true) ∧ wx.cell? ⟨w3.heap.size, 1, none⟩ = some (.slice ia il ic) ∧ wx.cell? ⟨w3.heap.size, 2, none⟩ = some (.string f) ∧ wx.cell? ⟨w3.heap.size, 3, none⟩ = some (.slice wa wl wc) := by
            intro wx hb
            have hz4 : w3.heap.size < W4.heap.size := by rw [← hW4]; simp
            rw [hb.cell (p := ⟨w3.heap.size, 0, none⟩) hz4, hb.cell (p := ⟨w3.heap.size, 1, none⟩) hz4, hb.cell (p := ⟨w3.heap.size, 2, none⟩) hz4, hb.cell (p := ⟨w3.heap.size, 3, none⟩) hz4, ← hW4]
            refine ⟨?_, ?_, ?_, ?_⟩ <;> simp
          have hb4 : Below w.heap.size w W4 := by rw [← hW4]; exact (HB1.out.trans (HLw3.out.mono HB1.out.size)).alloc (HB1.out.trans (HLw3.out.mono HB1.out.size)).size _
          have HQ4 := Lib.hid hq4
          have HB4 := Lib.hid hb4
          clear hq4 hb4 hW4 x0 x1 x2 x3 x4 x5 x6 x7 x8 x9 xf d0 d1 d2 d3
          obtain ⟨y0, y1, y2, y3⟩ := HQ4.out _ (Below.refl _ _)
          refine (HSO.out _).mono ?_
          rintro e w4 ⟨rfl, rfl⟩
          dsimp only
          go_wp2_with fail
          refine (HI.out _ HB4.out).mono ?_
          rintro e w5 ⟨rfl, hb⟩
          have HL5 := Lib.hid hb
          have HB5 := Lib.hid (HB4.out.trans (hb.mono HB4.out.size))
          clear hb y0 y1 y2 y3
          obtain ⟨y0, y1, y2, y3⟩ := HQ4.out _ HL5.out
          dsimp only
          go_wp2_with fail
          go_ret
          exact ⟨by simp, HB5.out⟩
        · cases wb
          · clear c0 c1 c2 c3
            go_enter Tryd.func43, Tryd.ntmps43
            go_upto_region 1 with fail
            generalize hW : World.alloc w _ = W1
            have hk0 : W1.heap[w.heap.size]? = some (.cells #[.int .i64 8, .int .i64 0, .bool false, .int .i64 vk, .int .i64 vi, .string vt, .string t, .string nm, .slice a 0 ac, .slice (some ⟨qb, qo, none⟩) 1 sc] 27 (0, 0)) := by rw [← hW]; exact heap_alloc_new w _
            have hb1 : Below w.heap.size w W1 := by rw [← hW]; exact (Below.refl _ _).alloc (Nat.le_refl _) _
            have hz : w.heap.size < W1.heap.size := by rw [← hW]; simp
            have HQ : Hid (∀ wx, Below W1.heap.size W1 wx → _) := Lib.hid fun wx hb => blk10 ((hb.block w.heap.size hz).trans hk0)
            have HB1 := Lib.hid hb1
            obtain ⟨x0, x1, x2, x3, x4, x5, x6, x7, x8, x9, xf, _⟩ := HQ.out _ (Below.refl _ _)
            clear hW hb1 hk0
            go_wp2_with fail
            refine (HS.out _ HB1.out).mono ?_
            rintro e w1 ⟨rfl, hb⟩
            have HLw1 := Lib.hid (hb)
            clear hb x0 x1 x2 x3 x4 x5 x6 x7 x8 x9 xf
            obtain ⟨x0, x1, x2, x3, x4, x5, x6, x7, x8, x9, xf, _⟩ := HQ.out _ HLw1.out
            dsimp only
            go_wp2_with fail
            refine (HP.out _).mono ?_
            rintro e w2 ⟨rfl, hb⟩
            have HLw2 := Lib.hid (HLw1.out.trans (hb.mono HLw1.out.size))
            clear hb x0 x1 x2 x3 x4 x5 x6 x7 x8 x9 xf
            obtain ⟨x0, x1, x2, x3, x4, x5, x6, x7, x8, x9, xf, _⟩ := HQ.out _ HLw2.out
            dsimp only
            go_wp2_with fail
            refine (HA.out _ (HB1.out.trans (HLw2.out.mono HB1.out.size))).mono ?_
            rintro e w3 ⟨rfl, hb⟩
            have HLw3 := Lib.hid (HLw2.out.trans (hb.mono HLw2.out.size))
            clear hb x0 x1 x2 x3 x4 x5 x6 x7 x8 x9 xf
            obtain ⟨x0, x1, x2, x3, x4, x5, x6, x7, x8, x9, xf, _⟩ := HQ.out _ HLw3.out
            dsimp only
            obtain ⟨d0, d1, d2, d3⟩ := HD.out _ (HB1.out.trans (HLw3.out.mono HB1.out.size))
            go_wp2_with fail
            refine wp_loop_rounds 2 ?_
            rw [rounds_succ]
            go_wp2_with fail
            generalize hW4 : World.alloc w3 _ = W4
            have hq4 : ∀ wx, Below W4.heap.size W4 wx → wx.cell? ⟨w3.heap.size, 0, none⟩ = some (.bool true) ∧ wx.cell? ⟨w3.heap.size, 1, none⟩ = some (.slice ia il ic) ∧ wx.cell? ⟨w3.heap.size, 2, none⟩ = some (.string f) ∧ wx.cell? ⟨w3.heap.size, 3, none⟩ = some (.slice wa wl wc) := by
              intro wx hb
              have hz4 : w3.heap.size < W4.heap.size := by rw [← hW4]; simp
              rw [hb.cell (p := ⟨w3.heap.size, 0, none⟩) hz4, hb.cell (p := ⟨w3.heap.size, 1, none⟩) hz4, hb.cell (p := ⟨w3.heap.size, 2, none⟩) hz4, hb.cell (p := ⟨w3.heap.size, 3, none⟩) hz4, ← hW4]
              refine ⟨?_, ?_, ?_, ?_⟩ <;> simp
            have hb4 : Below w.heap.size w W4 := by rw [← hW4]; exact (HB1.out.trans (HLw3.out.mono HB1.out.size)).alloc (HB1.out.trans (HLw3.out.mono HB1.out.size)).size _
            have HQ4 := Lib.hid hq4
            have HB4 := Lib.hid hb4
            clear hq4 hb4 hW4 x0 x1 x2 x3 x4 x5 x6 x7 x8 x9 xf d0 d1 d2 d3
            obtain ⟨y0, y1, y2, y3⟩ := HQ4.out _ (Below.refl _ _)
            refine (HSO.out _).mono ?_
            rintro e w4 ⟨rfl, rfl⟩
            dsimp only
            go_wp2_with fail
            refine (HI.out _ HB4.out).mono ?_
            rintro e w5 ⟨rfl, hb⟩
            have HL5 := Lib.hid hb
            have HB5 := Lib.hid (HB4.out.trans (hb.mono HB4.out.size))
            clear hb y0 y1 y2 y3
            obtain ⟨y0, y1, y2, y3⟩ := HQ4.out _ HL5.out
            dsimp only
            go_wp2_with fail
            refine (HW.out _ HB5.out).mono ?_
            rintro e w6 ⟨rfl, hb⟩
            have HB6 := Lib.hid (HB5.out.trans (hb.mono HB5.out.size))
            clear hb y0 y1 y2 y3
            dsimp only
            go_wp2_with fail
            go_ret
            exact ⟨by simp, HB6.out⟩
          · clear c0 c1 c2 c3
            go_enter Tryd.func43, Tryd.ntmps43
            go_upto_region 1 with fail
            generalize hW : World.alloc w _ = W1
            have hk0 : W1.heap[w.heap.size]? = some (.cells #[.int .i64 8, .int .i64 0, .bool false, .int .i64 vk, .int .i64 vi, .string vt, .string t, .string nm, .slice a 0 ac, .slice (some ⟨qb, qo, none⟩) 1 sc] 27 (0, 0)) := by rw [← hW]; exact heap_alloc_new w _
            have hb1 : Below w.heap.size w W1 := by rw [← hW]; exact (Below.refl _ _).alloc (Nat.le_refl _) _
            have hz : w.heap.size < W1.heap.size := by rw [← hW]; simp
            have HQ : Hid (∀ wx, Below W1.heap.size W1 wx → _) := Lib.hid fun wx hb => blk10 ((hb.block w.heap.size hz).trans hk0)
            have HB1 := Lib.hid hb1
            obtain ⟨x0, x1, x2, x3, x4, x5, x6, x7, x8, x9, xf, _⟩ := HQ.out _ (Below.refl _ _)
            clear hW hb1 hk0
            go_wp2_with fail
            refine (HS.out _ HB1.out).mono ?_
            rintro e w1 ⟨rfl, hb⟩
            have HLw1 := Lib.hid (hb)
            clear hb x0 x1 x2 x3 x4 x5 x6 x7 x8 x9 xf
            obtain ⟨x0, x1, x2, x3, x4, x5, x6, x7, x8, x9, xf, _⟩ := HQ.out _ HLw1.out
            dsimp only
            go_wp2_with fail
            refine (HP.out _).mono ?_
            rintro e w2 ⟨rfl, hb⟩
            have HLw2 := Lib.hid (HLw1.out.trans (hb.mono HLw1.out.size))
            clear hb x0 x1 x2 x3 x4 x5 x6 x7 x8 x9 xf
            obtain ⟨x0, x1, x2, x3, x4, x5, x6, x7, x8, x9, xf, _⟩ := HQ.out _ HLw2.out
            dsimp only
            go_wp2_with fail
            refine (HA.out _ (HB1.out.trans (HLw2.out.mono HB1.out.size))).mono ?_
            rintro e w3 ⟨rfl, hb⟩
            have HLw3 := Lib.hid (HLw2.out.trans (hb.mono HLw2.out.size))
            clear hb x0 x1 x2 x3 x4 x5 x6 x7 x8 x9 xf
            obtain ⟨x0, x1, x2, x3, x4, x5, x6, x7, x8, x9, xf, _⟩ := HQ.out _ HLw3.out
            dsimp only
            obtain ⟨d0, d1, d2, d3⟩ := HD.out _ (HB1.out.trans (HLw3.out.mono HB1.out.size))
            go_wp2_with fail
            refine wp_loop_rounds 2 ?_
            rw [rounds_succ]
            go_wp2_with fail
            generalize hW4 : World.alloc w3 _ = W4
            have hq4 : ∀ wx, Below W4.heap.size W4 wx → wx.cell? ⟨w3.heap.size, 0, none⟩ = some (.bool true) ∧ wx.cell? ⟨w3.heap.size, 1, none⟩ = some (.slice ia il ic) ∧ wx.cell? ⟨w3.heap.size, 2, none⟩ = some (.string f) ∧ wx.cell? ⟨w3.heap.size, 3, none⟩ = some (.slice wa wl wc) := by
              intro wx hb
              have hz4 : w3.heap.size < W4.heap.size := by rw [← hW4]; simp
              rw [hb.cell (p := ⟨w3.heap.size, 0, none⟩) hz4, hb.cell (p := ⟨w3.heap.size, 1, none⟩) hz4, hb.cell (p := ⟨w3.heap.size, 2, none⟩) hz4, hb.cell (p := ⟨w3.heap.size, 3, none⟩) hz4, ← hW4]
              refine ⟨?_, ?_, ?_, ?_⟩ <;> simp
            have hb4 : Below w.heap.size w W4 := by rw [← hW4]; exact (HB1.out.trans (HLw3.out.mono HB1.out.size)).alloc (HB1.out.trans (HLw3.out.mono HB1.out.size)).size _
            have HQ4 := Lib.hid hq4
            have HB4 := Lib.hid hb4
            clear hq4 hb4 hW4 x0 x1 x2 x3 x4 x5 x6 x7 x8 x9 xf d0 d1 d2 d3
            obtain ⟨y0, y1, y2, y3⟩ := HQ4.out _ (Below.refl _ _)
            refine (HSO.out _).mono ?_
            rintro e w4 ⟨rfl, rfl⟩
            dsimp only
            go_wp2_with fail
            refine (HI.out _ HB4.out).mono ?_
            rintro e w5 ⟨rfl, hb⟩
            have HL5 := Lib.hid hb
            have HB5 := Lib.hid (HB4.out.trans (hb.mono HB4.out.size))
            clear hb y0 y1 y2 y3
            obtain ⟨y0, y1, y2, y3⟩ := HQ4.out _ HL5.out
            dsimp only
            go_wp2_with fail
            refine (HW.out _ HB5.out).mono ?_
            rintro e w6 ⟨rfl, hb⟩
            have HB6 := Lib.hid (HB5.out.trans (hb.mono HB5.out.size))
            clear hb y0 y1 y2 y3
            dsimp only
            go_wp2_with fail
            rw [rounds_succ]
            go_wp2_with fail
            go_ret
            exact ⟨by simp, HB6.out⟩

set_option maxRecDepth 100000 in
set_option maxHeartbeats 20000000 in
theorem rv_q8f (hs : ∀ wx, Below w.heap.size w wx → Calls Tryd.prog 81 #[.agg #[.int .i64 k, .int .i64 o, .bool no, .int .i64 vk, .int .i64 vi, .string vt, .string t, .string nm, .slice a an ac, .slice s sn sc]] wx (RetBel (.bool true) wx)) (pb ab : Bool) (hp : ∀ wx, Calls Tryd.prog 84 #[.agg #[.int .i64 k, .int .i64 o, .bool no, .int .i64 vk, .int .i64 vi, .string vt, .string t, .string nm, .slice a an ac, .slice s sn sc]] wx (RetBel (.bool pb) wx)) (ha : ∀ wx, Below w.heap.size w wx → Calls Tryd.prog 85 #[.slice a an ac] wx (RetBel (.bool ab) wx)) (qb qo : Nat) (st : Bool) (f : ByteArray) (ia wa : Option Addr) (il wl ic wc : Nat) (hqb : qb < w.heap.size) (sb ib wb : Bool)
    (c0 : w.cell? ⟨qb, qo, none⟩ = some (.bool st)) (c1 : w.cell? ⟨qb, qo + 1, none⟩ = some (.slice ia il ic)) (c2 : w.cell? ⟨qb, qo + 2, none⟩ = some (.string f)) (c3 : w.cell? ⟨qb, qo + 3, none⟩ = some (.slice wa wl wc))
    (hso : ∀ wx, Calls Tryd.prog 82 #[.string f] wx fun e w' => e = .returned (.bool sb) ∧ wx = w')
    (hi : ∀ wx, Below w.heap.size w wx → Calls Tryd.prog 85 #[.slice ia il ic] wx (RetBel (.bool ib) wx))
    (hw : ∀ wx, Below w.heap.size w wx → Calls Tryd.prog 85 #[.slice wa wl wc] wx (RetBel (.bool wb) wx)) (hg : o = 0 ∧ no = false ∧ st = false ∧ s = some ⟨qb, qo, none⟩ ∧ sn = 1 ∧ an = 0 ∧ k = 8) :
    Calls Tryd.prog 43 #[.agg #[.int .i64 k, .int .i64 o, .bool no, .int .i64 vk, .int .i64 vi, .string vt, .string t, .string nm, .slice a an ac, .slice s sn sc]] w (RetBel (.bool (pb && ab && false)) w) := by
  obtain ⟨rfl, rfl, rfl, rfl, rfl, rfl, rfl⟩ := hg
  have HS := Lib.hid hs
  have HP := Lib.hid hp
  have HA := Lib.hid ha
  clear hs hp ha
  have HSO := Lib.hid hso
  have HI := Lib.hid hi
  have HW := Lib.hid hw
  clear hso hi hw
  have HD : Hid (∀ wx, Below w.heap.size w wx → _) := Lib.hid fun wx hb => And.intro ((hb.cell (p := ⟨qb, qo, none⟩) hqb).trans c0) (And.intro ((hb.cell (p := ⟨qb, qo + 1, none⟩) hqb).trans c1) (And.intro ((hb.cell (p := ⟨qb, qo + 2, none⟩) hqb).trans c2) ((hb.cell (p := ⟨qb, qo + 3, none⟩) hqb).trans c3)))
  cases pb
  · clear c0 c1 c2 c3
    go_enter Tryd.func43, Tryd.ntmps43
    go_upto_region 1 with fail
    generalize hW : World.alloc w _ = W1
    have hk0 : W1.heap[w.heap.size]? = some (.cells #[.int .i64 8, .int .i64 0, .bool false, .int .i64 vk, .int .i64 vi, .string vt, .string t, .string nm, .slice a 0 ac, .slice (some ⟨qb, qo, none⟩) 1 sc] 27 (0, 0)) := by rw [← hW]; exact heap_alloc_new w _
    have hb1 : Below w.heap.size w W1 := by rw [← hW]; exact (Below.refl _ _).alloc (Nat.le_refl _) _
    have hz : w.heap.size < W1.heap.size := by rw [← hW]; simp
    have HQ : Hid (∀ wx, Below W1.heap.size W1 wx → _) := Lib.hid fun wx hb => blk10 ((hb.block w.heap.size hz).trans hk0)
    have HB1 := Lib.hid hb1
    obtain ⟨x0, x1, x2, x3, x4, x5, x6, x7, x8, x9, xf, _⟩ := HQ.out _ (Below.refl _ _)
    clear hW hb1 hk0
    go_wp2_with fail
    refine (HS.out _ HB1.out).mono ?_
    rintro e w1 ⟨rfl, hb⟩
    have HLw1 := Lib.hid (hb)
    clear hb x0 x1 x2 x3 x4 x5 x6 x7 x8 x9 xf
    obtain ⟨x0, x1, x2, x3, x4, x5, x6, x7, x8, x9, xf, _⟩ := HQ.out _ HLw1.out
    dsimp only
    go_wp2_with fail
    refine (HP.out _).mono ?_
    rintro e w2 ⟨rfl, hb⟩
    have HLw2 := Lib.hid (HLw1.out.trans (hb.mono HLw1.out.size))
    clear hb x0 x1 x2 x3 x4 x5 x6 x7 x8 x9 xf
    obtain ⟨x0, x1, x2, x3, x4, x5, x6, x7, x8, x9, xf, _⟩ := HQ.out _ HLw2.out
    dsimp only
    go_wp2_with fail
    go_ret
    exact ⟨by simp, HB1.out.trans (HLw2.out.mono HB1.out.size)⟩
  · cases ab
    · clear c0 c1 c2 c3
      go_enter Tryd.func43, Tryd.ntmps43
      go_upto_region 1 with fail
      generalize hW : World.alloc w _ = W1
      have hk0 : W1.heap[w.heap.size]? = some (.cells #[.int .i64 8, .int .i64 0, .bool false, .int .i64 vk, .int .i64 vi, .string vt, .string t, .string nm, .slice a 0 ac, .slice (some ⟨qb, qo, none⟩) 1 sc] 27 (0, 0)) := by rw [← hW]; exact heap_alloc_new w _
      have hb1 : Below w.heap.size w W1 := by rw [← hW]; exact (Below.refl _ _).alloc (Nat.le_refl _) _
      have hz : w.heap.size < W1.heap.size := by rw [← hW]; simp
      have HQ : Hid (∀ wx, Below W1.heap.size W1 wx → _) := Lib.hid fun wx hb => blk10 ((hb.block w.heap.size hz).trans hk0)
      have HB1 := Lib.hid hb1
      obtain ⟨x0, x1, x2, x3, x4, x5, x6, x7, x8, x9, xf, _⟩ := HQ.out _ (Below.refl _ _)
      clear hW hb1 hk0
      go_wp2_with fail
      refine (HS.out _ HB1.out).mono ?_
      rintro e w1 ⟨rfl, hb⟩
      have HLw1 := Lib.hid (hb)
      clear hb x0 x1 x2 x3 x4 x5 x6 x7 x8 x9 xf
      obtain ⟨x0, x1, x2, x3, x4, x5, x6, x7, x8, x9, xf, _⟩ := HQ.out _ HLw1.out
      dsimp only
      go_wp2_with fail
      refine (HP.out _).mono ?_
      rintro e w2 ⟨rfl, hb⟩
      have HLw2 := Lib.hid (HLw1.out.trans (hb.mono HLw1.out.size))
      clear hb x0 x1 x2 x3 x4 x5 x6 x7 x8 x9 xf
      obtain ⟨x0, x1, x2, x3, x4, x5, x6, x7, x8, x9, xf, _⟩ := HQ.out _ HLw2.out
      dsimp only
      go_wp2_with fail
      refine (HA.out _ (HB1.out.trans (HLw2.out.mono HB1.out.size))).mono ?_
      rintro e w3 ⟨rfl, hb⟩
      have HLw3 := Lib.hid (HLw2.out.trans (hb.mono HLw2.out.size))
      clear hb x0 x1 x2 x3 x4 x5 x6 x7 x8 x9 xf
      obtain ⟨x0, x1, x2, x3, x4, x5, x6, x7, x8, x9, xf, _⟩ := HQ.out _ HLw3.out
      dsimp only
      go_wp2_with fail
      go_ret
      exact ⟨by simp, HB1.out.trans (HLw3.out.mono HB1.out.size)⟩
    · clear c0 c1 c2 c3
      go_enter Tryd.func43, Tryd.ntmps43
      go_upto_region 1 with fail
      generalize hW : World.alloc w _ = W1
      have hk0 : W1.heap[w.heap.size]? = some (.cells #[.int .i64 8, .int .i64 0, .bool false, .int .i64 vk, .int .i64 vi, .string vt, .string t, .string nm, .slice a 0 ac, .slice (some ⟨qb, qo, none⟩) 1 sc] 27 (0, 0)) := by rw [← hW]; exact heap_alloc_new w _
      have hb1 : Below w.heap.size w W1 := by rw [← hW]; exact (Below.refl _ _).alloc (Nat.le_refl _) _
      have hz : w.heap.size < W1.heap.size := by rw [← hW]; simp
      have HQ : Hid (∀ wx, Below W1.heap.size W1 wx → _) := Lib.hid fun wx hb => blk10 ((hb.block w.heap.size hz).trans hk0)
      have HB1 := Lib.hid hb1
      obtain ⟨x0, x1, x2, x3, x4, x5, x6, x7, x8, x9, xf, _⟩ := HQ.out _ (Below.refl _ _)
      clear hW hb1 hk0
      go_wp2_with fail
      refine (HS.out _ HB1.out).mono ?_
      rintro e w1 ⟨rfl, hb⟩
      have HLw1 := Lib.hid (hb)
      clear hb x0 x1 x2 x3 x4 x5 x6 x7 x8 x9 xf
      obtain ⟨x0, x1, x2, x3, x4, x5, x6, x7, x8, x9, xf, _⟩ := HQ.out _ HLw1.out
      dsimp only
      go_wp2_with fail
      refine (HP.out _).mono ?_
      rintro e w2 ⟨rfl, hb⟩
      have HLw2 := Lib.hid (HLw1.out.trans (hb.mono HLw1.out.size))
      clear hb x0 x1 x2 x3 x4 x5 x6 x7 x8 x9 xf
      obtain ⟨x0, x1, x2, x3, x4, x5, x6, x7, x8, x9, xf, _⟩ := HQ.out _ HLw2.out
      dsimp only
      go_wp2_with fail
      refine (HA.out _ (HB1.out.trans (HLw2.out.mono HB1.out.size))).mono ?_
      rintro e w3 ⟨rfl, hb⟩
      have HLw3 := Lib.hid (HLw2.out.trans (hb.mono HLw2.out.size))
      clear hb x0 x1 x2 x3 x4 x5 x6 x7 x8 x9 xf
      obtain ⟨x0, x1, x2, x3, x4, x5, x6, x7, x8, x9, xf, _⟩ := HQ.out _ HLw3.out
      dsimp only
      obtain ⟨d0, d1, d2, d3⟩ := HD.out _ (HB1.out.trans (HLw3.out.mono HB1.out.size))
      go_wp2_with fail
      refine wp_loop_rounds 2 ?_
      rw [rounds_succ]
      go_wp2_with fail
      go_ret
      exact ⟨by simp, (HB1.out.trans (HLw3.out.mono HB1.out.size)).alloc (HB1.out.trans (HLw3.out.mono HB1.out.size)).size _⟩

set_option maxRecDepth 100000 in
set_option maxHeartbeats 20000000 in
theorem rv_q9f (hs : ∀ wx, Below w.heap.size w wx → Calls Tryd.prog 81 #[.agg #[.int .i64 k, .int .i64 o, .bool no, .int .i64 vk, .int .i64 vi, .string vt, .string t, .string nm, .slice a an ac, .slice s sn sc]] wx (RetBel (.bool true) wx)) (pb ab : Bool) (hp : ∀ wx, Calls Tryd.prog 84 #[.agg #[.int .i64 k, .int .i64 o, .bool no, .int .i64 vk, .int .i64 vi, .string vt, .string t, .string nm, .slice a an ac, .slice s sn sc]] wx (RetBel (.bool pb) wx)) (ha : ∀ wx, Below w.heap.size w wx → Calls Tryd.prog 85 #[.slice a an ac] wx (RetBel (.bool ab) wx)) (qb qo : Nat) (st : Bool) (f : ByteArray) (ia wa : Option Addr) (il wl ic wc : Nat) (hqb : qb < w.heap.size) (sb ib wb : Bool)
    (c0 : w.cell? ⟨qb, qo, none⟩ = some (.bool st)) (c1 : w.cell? ⟨qb, qo + 1, none⟩ = some (.slice ia il ic)) (c2 : w.cell? ⟨qb, qo + 2, none⟩ = some (.string f)) (c3 : w.cell? ⟨qb, qo + 3, none⟩ = some (.slice wa wl wc))
    (hso : ∀ wx, Calls Tryd.prog 82 #[.string f] wx fun e w' => e = .returned (.bool sb) ∧ wx = w')
    (hi : ∀ wx, Below w.heap.size w wx → Calls Tryd.prog 85 #[.slice ia il ic] wx (RetBel (.bool ib) wx))
    (hw : ∀ wx, Below w.heap.size w wx → Calls Tryd.prog 85 #[.slice wa wl wc] wx (RetBel (.bool wb) wx)) (hg : o = 0 ∧ no = false ∧ st = false ∧ s = some ⟨qb, qo, none⟩ ∧ sn = 1 ∧ an = 0) (e1 : (k == 1) = false) (e2 : (k == 2) = false) (e5 : (k != 5) = true) (e6 : (k != 6) = true) (e8 : (k == 8) = false) :
    Calls Tryd.prog 43 #[.agg #[.int .i64 k, .int .i64 o, .bool no, .int .i64 vk, .int .i64 vi, .string vt, .string t, .string nm, .slice a an ac, .slice s sn sc]] w (RetBel (.bool (pb && ab && (sb && ib && wb))) w) := by
  obtain ⟨rfl, rfl, rfl, rfl, rfl, rfl⟩ := hg
  have HS := Lib.hid hs
  have HP := Lib.hid hp
  have HA := Lib.hid ha
  clear hs hp ha
  have HSO := Lib.hid hso
  have HI := Lib.hid hi
  have HW := Lib.hid hw
  clear hso hi hw
  have HD : Hid (∀ wx, Below w.heap.size w wx → _) := Lib.hid fun wx hb => And.intro ((hb.cell (p := ⟨qb, qo, none⟩) hqb).trans c0) (And.intro ((hb.cell (p := ⟨qb, qo + 1, none⟩) hqb).trans c1) (And.intro ((hb.cell (p := ⟨qb, qo + 2, none⟩) hqb).trans c2) ((hb.cell (p := ⟨qb, qo + 3, none⟩) hqb).trans c3)))
  cases pb
  · clear c0 c1 c2 c3
    go_enter Tryd.func43, Tryd.ntmps43
    go_upto_region 1 with fail
    generalize hW : World.alloc w _ = W1
    have hk0 : W1.heap[w.heap.size]? = some (.cells #[.int .i64 k, .int .i64 0, .bool false, .int .i64 vk, .int .i64 vi, .string vt, .string t, .string nm, .slice a 0 ac, .slice (some ⟨qb, qo, none⟩) 1 sc] 27 (0, 0)) := by rw [← hW]; exact heap_alloc_new w _
    have hb1 : Below w.heap.size w W1 := by rw [← hW]; exact (Below.refl _ _).alloc (Nat.le_refl _) _
    have hz : w.heap.size < W1.heap.size := by rw [← hW]; simp
    have HQ : Hid (∀ wx, Below W1.heap.size W1 wx → _) := Lib.hid fun wx hb => blk10 ((hb.block w.heap.size hz).trans hk0)
    have HB1 := Lib.hid hb1
    obtain ⟨x0, x1, x2, x3, x4, x5, x6, x7, x8, x9, xf, _⟩ := HQ.out _ (Below.refl _ _)
    clear hW hb1 hk0
    go_wp2_with fail
    refine (HS.out _ HB1.out).mono ?_
    rintro e w1 ⟨rfl, hb⟩
    have HLw1 := Lib.hid (hb)
    clear hb x0 x1 x2 x3 x4 x5 x6 x7 x8 x9 xf
    obtain ⟨x0, x1, x2, x3, x4, x5, x6, x7, x8, x9, xf, _⟩ := HQ.out _ HLw1.out
    dsimp only
    go_wp2_with fail
    refine (HP.out _).mono ?_
    rintro e w2 ⟨rfl, hb⟩
    have HLw2 := Lib.hid (HLw1.out.trans (hb.mono HLw1.out.size))
    clear hb x0 x1 x2 x3 x4 x5 x6 x7 x8 x9 xf
    obtain ⟨x0, x1, x2, x3, x4, x5, x6, x7, x8, x9, xf, _⟩ := HQ.out _ HLw2.out
    dsimp only
    go_wp2_with fail
    go_ret
    exact ⟨by simp, HB1.out.trans (HLw2.out.mono HB1.out.size)⟩
  · cases ab
    · clear c0 c1 c2 c3
      go_enter Tryd.func43, Tryd.ntmps43
      go_upto_region 1 with fail
      generalize hW : World.alloc w _ = W1
      have hk0 : W1.heap[w.heap.size]? = some (.cells #[.int .i64 k, .int .i64 0, .bool false, .int .i64 vk, .int .i64 vi, .string vt, .string t, .string nm, .slice a 0 ac, .slice (some ⟨qb, qo, none⟩) 1 sc] 27 (0, 0)) := by rw [← hW]; exact heap_alloc_new w _
      have hb1 : Below w.heap.size w W1 := by rw [← hW]; exact (Below.refl _ _).alloc (Nat.le_refl _) _
      have hz : w.heap.size < W1.heap.size := by rw [← hW]; simp
      have HQ : Hid (∀ wx, Below W1.heap.size W1 wx → _) := Lib.hid fun wx hb => blk10 ((hb.block w.heap.size hz).trans hk0)
      have HB1 := Lib.hid hb1
      obtain ⟨x0, x1, x2, x3, x4, x5, x6, x7, x8, x9, xf, _⟩ := HQ.out _ (Below.refl _ _)
      clear hW hb1 hk0
      go_wp2_with fail
      refine (HS.out _ HB1.out).mono ?_
      rintro e w1 ⟨rfl, hb⟩
      have HLw1 := Lib.hid (hb)
      clear hb x0 x1 x2 x3 x4 x5 x6 x7 x8 x9 xf
      obtain ⟨x0, x1, x2, x3, x4, x5, x6, x7, x8, x9, xf, _⟩ := HQ.out _ HLw1.out
      dsimp only
      go_wp2_with fail
      refine (HP.out _).mono ?_
      rintro e w2 ⟨rfl, hb⟩
      have HLw2 := Lib.hid (HLw1.out.trans (hb.mono HLw1.out.size))
      clear hb x0 x1 x2 x3 x4 x5 x6 x7 x8 x9 xf
      obtain ⟨x0, x1, x2, x3, x4, x5, x6, x7, x8, x9, xf, _⟩ := HQ.out _ HLw2.out
      dsimp only
      go_wp2_with fail
      refine (HA.out _ (HB1.out.trans (HLw2.out.mono HB1.out.size))).mono ?_
      rintro e w3 ⟨rfl, hb⟩
      have HLw3 := Lib.hid (HLw2.out.trans (hb.mono HLw2.out.size))
      clear hb x0 x1 x2 x3 x4 x5 x6 x7 x8 x9 xf
      obtain ⟨x0, x1, x2, x3, x4, x5, x6, x7, x8, x9, xf, _⟩ := HQ.out _ HLw3.out
      dsimp only
      go_wp2_with fail
      go_ret
      exact ⟨by simp, HB1.out.trans (HLw3.out.mono HB1.out.size)⟩
    · cases sb
      · clear c0 c1 c2 c3
        go_enter Tryd.func43, Tryd.ntmps43
        go_upto_region 1 with fail
        generalize hW : World.alloc w _ = W1
        have hk0 : W1.heap[w.heap.size]? = some (.cells #[.int .i64 k, .int .i64 0, .bool false, .int .i64 vk, .int .i64 vi, .string vt, .string t, .string nm, .slice a 0 ac, .slice (some ⟨qb, qo, none⟩) 1 sc] 27 (0, 0)) := by rw [← hW]; exact heap_alloc_new w _
        have hb1 : Below w.heap.size w W1 := by rw [← hW]; exact (Below.refl _ _).alloc (Nat.le_refl _) _
        have hz : w.heap.size < W1.heap.size := by rw [← hW]; simp
        have HQ : Hid (∀ wx, Below W1.heap.size W1 wx → _) := Lib.hid fun wx hb => blk10 ((hb.block w.heap.size hz).trans hk0)
        have HB1 := Lib.hid hb1
        obtain ⟨x0, x1, x2, x3, x4, x5, x6, x7, x8, x9, xf, _⟩ := HQ.out _ (Below.refl _ _)
        clear hW hb1 hk0
        go_wp2_with fail
        refine (HS.out _ HB1.out).mono ?_
        rintro e w1 ⟨rfl, hb⟩
        have HLw1 := Lib.hid (hb)
        clear hb x0 x1 x2 x3 x4 x5 x6 x7 x8 x9 xf
        obtain ⟨x0, x1, x2, x3, x4, x5, x6, x7, x8, x9, xf, _⟩ := HQ.out _ HLw1.out
        dsimp only
        go_wp2_with fail
        refine (HP.out _).mono ?_
        rintro e w2 ⟨rfl, hb⟩
        have HLw2 := Lib.hid (HLw1.out.trans (hb.mono HLw1.out.size))
        clear hb x0 x1 x2 x3 x4 x5 x6 x7 x8 x9 xf
        obtain ⟨x0, x1, x2, x3, x4, x5, x6, x7, x8, x9, xf, _⟩ := HQ.out _ HLw2.out
        dsimp only
        go_wp2_with fail
        refine (HA.out _ (HB1.out.trans (HLw2.out.mono HB1.out.size))).mono ?_
        rintro e w3 ⟨rfl, hb⟩
        have HLw3 := Lib.hid (HLw2.out.trans (hb.mono HLw2.out.size))
        clear hb x0 x1 x2 x3 x4 x5 x6 x7 x8 x9 xf
        obtain ⟨x0, x1, x2, x3, x4, x5, x6, x7, x8, x9, xf, _⟩ := HQ.out _ HLw3.out
        dsimp only
        obtain ⟨d0, d1, d2, d3⟩ := HD.out _ (HB1.out.trans (HLw3.out.mono HB1.out.size))
        go_wp2_with fail
        refine wp_loop_rounds 2 ?_
        rw [rounds_succ]
        go_wp2_with fail
        generalize hW4 : World.alloc w3 _ = W4
        have hq4 : ∀ wx, Below W4.heap.size W4 wx → wx.cell? ⟨w3.heap.size, 0, none⟩ = some (.bool false) ∧ wx.cell? ⟨w3.heap.size, 1, none⟩ = some (.slice ia il ic) ∧ wx.cell? ⟨w3.heap.size, 2, none⟩ = some (.string f) ∧ wx.cell? ⟨w3.heap.size, 3, none⟩ = some (.slice wa wl wc) := by
          intro wx hb
          have hz4 : w3.heap.size < W4.heap.size := by rw [← hW4]; simp
          rw [hb.cell (p := ⟨w3.heap.size, 0, none⟩) hz4, hb.cell (p := ⟨w3.heap.size, 1, none⟩) hz4, hb.cell (p := ⟨w3.heap.size, 2, none⟩) hz4, hb.cell (p := ⟨w3.heap.size, 3, none⟩) hz4, ← hW4]
          refine ⟨?_, ?_, ?_, ?_⟩ <;> simp
        have hb4 : Below w.heap.size w W4 := by rw [← hW4]; exact (HB1.out.trans (HLw3.out.mono HB1.out.size)).alloc (HB1.out.trans (HLw3.out.mono HB1.out.size)).size _
        have HQ4 := Lib.hid hq4
        have HB4 := Lib.hid hb4
        clear hq4 hb4 hW4 x0 x1 x2 x3 x4 x5 x6 x7 x8 x9 xf d0 d1 d2 d3
        obtain ⟨y0, y1, y2, y3⟩ := HQ4.out _ (Below.refl _ _)
        refine (HSO.out _).mono ?_
        rintro e w4 ⟨rfl, rfl⟩
        dsimp only
        go_wp2_with fail
        go_ret
        exact ⟨by simp, HB4.out⟩
      · cases ib
        · clear c0 c1 c2 c3
          go_enter Tryd.func43, Tryd.ntmps43
          go_upto_region 1 with fail
          generalize hW : World.alloc w _ = W1
          have hk0 : W1.heap[w.heap.size]? = some (.cells #[.int .i64 k, .int .i64 0, .bool false, .int .i64 vk, .int .i64 vi, .string vt, .string t, .string nm, .slice a 0 ac, .slice (some ⟨qb, qo, none⟩) 1 sc] 27 (0, 0)) := by rw [← hW]; exact heap_alloc_new w _
          have hb1 : Below w.heap.size w W1 := by rw [← hW]; exact (Below.refl _ _).alloc (Nat.le_refl _) _
          have hz : w.heap.size < W1.heap.size := by rw [← hW]; simp
          have HQ : Hid (∀ wx, Below W1.heap.size W1 wx → _) := Lib.hid fun wx hb => blk10 ((hb.block w.heap.size hz).trans hk0)
          have HB1 := Lib.hid hb1
          obtain ⟨x0, x1, x2, x3, x4, x5, x6, x7, x8, x9, xf, _⟩ := HQ.out _ (Below.refl _ _)
          clear hW hb1 hk0
          go_wp2_with fail
          refine (HS.out _ HB1.out).mono ?_
          rintro e w1 ⟨rfl, hb⟩
          have HLw1 := Lib.hid (hb)
          clear hb x0 x1 x2 x3 x4 x5 x6 x7 x8 x9 xf
          obtain ⟨x0, x1, x2, x3, x4, x5, x6, x7, x8, x9, xf, _⟩ := HQ.out _ HLw1.out
          dsimp only
          go_wp2_with fail
          refine (HP.out _).mono ?_
          rintro e w2 ⟨rfl, hb⟩
          have HLw2 := Lib.hid (HLw1.out.trans (hb.mono HLw1.out.size))
          clear hb x0 x1 x2 x3 x4 x5 x6 x7 x8 x9 xf
          obtain ⟨x0, x1, x2, x3, x4, x5, x6, x7, x8, x9, xf, _⟩ := HQ.out _ HLw2.out
          dsimp only
          go_wp2_with fail
          refine (HA.out _ (HB1.out.trans (HLw2.out.mono HB1.out.size))).mono ?_
          rintro e w3 ⟨rfl, hb⟩
          have HLw3 := Lib.hid (HLw2.out.trans (hb.mono HLw2.out.size))
          clear hb x0 x1 x2 x3 x4 x5 x6 x7 x8 x9 xf
          obtain ⟨x0, x1, x2, x3, x4, x5, x6, x7, x8, x9, xf, _⟩ := HQ.out _ HLw3.out
          dsimp only
          obtain ⟨d0, d1, d2, d3⟩ := HD.out _ (HB1.out.trans (HLw3.out.mono HB1.out.size))
          go_wp2_with fail
          refine wp_loop_rounds 2 ?_
          rw [rounds_succ]
          go_wp2_with fail
          generalize hW4 : World.alloc w3 _ = W4
          have hq4 : ∀ wx, Below W4.heap.size W4 wx → wx.cell? ⟨w3.heap.size, 0, none⟩ = some (.bool false) ∧ wx.cell? ⟨w3.heap.size, 1, none⟩ = some (.slice ia il ic) ∧ wx.cell? ⟨w3.heap.size, 2, none⟩ = some (.string f) ∧ wx.cell? ⟨w3.heap.size, 3, none⟩ = some (.slice wa wl wc) := by
            intro wx hb
            have hz4 : w3.heap.size < W4.heap.size := by rw [← hW4]; simp
            rw [hb.cell (p := ⟨w3.heap.size, 0, none⟩) hz4, hb.cell (p := ⟨w3.heap.size, 1, none⟩) hz4, hb.cell (p := ⟨w3.heap.size, 2, none⟩) hz4, hb.cell (p := ⟨w3.heap.size, 3, none⟩) hz4, ← hW4]
            refine ⟨?_, ?_, ?_, ?_⟩ <;> simp
          have hb4 : Below w.heap.size w W4 := by rw [← hW4]; exact (HB1.out.trans (HLw3.out.mono HB1.out.size)).alloc (HB1.out.trans (HLw3.out.mono HB1.out.size)).size _
          have HQ4 := Lib.hid hq4
          have HB4 := Lib.hid hb4
          clear hq4 hb4 hW4 x0 x1 x2 x3 x4 x5 x6 x7 x8 x9 xf d0 d1 d2 d3
          obtain ⟨y0, y1, y2, y3⟩ := HQ4.out _ (Below.refl _ _)
          refine (HSO.out _).mono ?_
          rintro e w4 ⟨rfl, rfl⟩
          dsimp only
          go_wp2_with fail
          refine (HI.out _ HB4.out).mono ?_
          rintro e w5 ⟨rfl, hb⟩
          have HL5 := Lib.hid hb
          have HB5 := Lib.hid (HB4.out.trans (hb.mono HB4.out.size))
          clear hb y0 y1 y2 y3
          obtain ⟨y0, y1, y2, y3⟩ := HQ4.out _ HL5.out
          dsimp only
          go_wp2_with fail
          go_ret
          exact ⟨by simp, HB5.out⟩
        · cases wb
          · clear c0 c1 c2 c3
            go_enter Tryd.func43, Tryd.ntmps43
            go_upto_region 1 with fail
            generalize hW : World.alloc w _ = W1
            have hk0 : W1.heap[w.heap.size]? = some (.cells #[.int .i64 k, .int .i64 0, .bool false, .int .i64 vk, .int .i64 vi, .string vt, .string t, .string nm, .slice a 0 ac, .slice (some ⟨qb, qo, none⟩) 1 sc] 27 (0, 0)) := by rw [← hW]; exact heap_alloc_new w _
            have hb1 : Below w.heap.size w W1 := by rw [← hW]; exact (Below.refl _ _).alloc (Nat.le_refl _) _
            have hz : w.heap.size < W1.heap.size := by rw [← hW]; simp
            have HQ : Hid (∀ wx, Below W1.heap.size W1 wx → _) := Lib.hid fun wx hb => blk10 ((hb.block w.heap.size hz).trans hk0)
            have HB1 := Lib.hid hb1
            obtain ⟨x0, x1, x2, x3, x4, x5, x6, x7, x8, x9, xf, _⟩ := HQ.out _ (Below.refl _ _)
            clear hW hb1 hk0
            go_wp2_with fail
            refine (HS.out _ HB1.out).mono ?_
            rintro e w1 ⟨rfl, hb⟩
            have HLw1 := Lib.hid (hb)
            clear hb x0 x1 x2 x3 x4 x5 x6 x7 x8 x9 xf
            obtain ⟨x0, x1, x2, x3, x4, x5, x6, x7, x8, x9, xf, _⟩ := HQ.out _ HLw1.out
            dsimp only
            go_wp2_with fail
            refine (HP.out _).mono ?_
            rintro e w2 ⟨rfl, hb⟩
            have HLw2 := Lib.hid (HLw1.out.trans (hb.mono HLw1.out.size))
            clear hb x0 x1 x2 x3 x4 x5 x6 x7 x8 x9 xf
            obtain ⟨x0, x1, x2, x3, x4, x5, x6, x7, x8, x9, xf, _⟩ := HQ.out _ HLw2.out
            dsimp only
            go_wp2_with fail
            refine (HA.out _ (HB1.out.trans (HLw2.out.mono HB1.out.size))).mono ?_
            rintro e w3 ⟨rfl, hb⟩
            have HLw3 := Lib.hid (HLw2.out.trans (hb.mono HLw2.out.size))
            clear hb x0 x1 x2 x3 x4 x5 x6 x7 x8 x9 xf
            obtain ⟨x0, x1, x2, x3, x4, x5, x6, x7, x8, x9, xf, _⟩ := HQ.out _ HLw3.out
            dsimp only
            obtain ⟨d0, d1, d2, d3⟩ := HD.out _ (HB1.out.trans (HLw3.out.mono HB1.out.size))
            go_wp2_with fail
            refine wp_loop_rounds 2 ?_
            rw [rounds_succ]
            go_wp2_with fail
            generalize hW4 : World.alloc w3 _ = W4
            have hq4 : ∀ wx, Below W4.heap.size W4 wx → wx.cell? ⟨w3.heap.size, 0, none⟩ = some (.bool false) ∧ wx.cell? ⟨w3.heap.size, 1, none⟩ = some (.slice ia il ic) ∧ wx.cell? ⟨w3.heap.size, 2, none⟩ = some (.string f) ∧ wx.cell? ⟨w3.heap.size, 3, none⟩ = some (.slice wa wl wc) := by
              intro wx hb
              have hz4 : w3.heap.size < W4.heap.size := by rw [← hW4]; simp
              rw [hb.cell (p := ⟨w3.heap.size, 0, none⟩) hz4, hb.cell (p := ⟨w3.heap.size, 1, none⟩) hz4, hb.cell (p := ⟨w3.heap.size, 2, none⟩) hz4, hb.cell (p := ⟨w3.heap.size, 3, none⟩) hz4, ← hW4]
              refine ⟨?_, ?_, ?_, ?_⟩ <;> simp
            have hb4 : Below w.heap.size w W4 := by rw [← hW4]; exact (HB1.out.trans (HLw3.out.mono HB1.out.size)).alloc (HB1.out.trans (HLw3.out.mono HB1.out.size)).size _
            have HQ4 := Lib.hid hq4
            have HB4 := Lib.hid hb4
            clear hq4 hb4 hW4 x0 x1 x2 x3 x4 x5 x6 x7 x8 x9 xf d0 d1 d2 d3
            obtain ⟨y0, y1, y2, y3⟩ := HQ4.out _ (Below.refl _ _)
            refine (HSO.out _).mono ?_
            rintro e w4 ⟨rfl, rfl⟩
            dsimp only
            go_wp2_with fail
            refine (HI.out _ HB4.out).mono ?_
            rintro e w5 ⟨rfl, hb⟩
            have HL5 := Lib.hid hb
            have HB5 := Lib.hid (HB4.out.trans (hb.mono HB4.out.size))
            clear hb y0 y1 y2 y3
            obtain ⟨y0, y1, y2, y3⟩ := HQ4.out _ HL5.out
            dsimp only
            go_wp2_with fail
            refine (HW.out _ HB5.out).mono ?_
            rintro e w6 ⟨rfl, hb⟩
            have HB6 := Lib.hid (HB5.out.trans (hb.mono HB5.out.size))
            clear hb y0 y1 y2 y3
            dsimp only
            go_wp2_with fail
            go_ret
            exact ⟨by simp, HB6.out⟩
          · clear c0 c1 c2 c3
            go_enter Tryd.func43, Tryd.ntmps43
            go_upto_region 1 with fail
            generalize hW : World.alloc w _ = W1
            have hk0 : W1.heap[w.heap.size]? = some (.cells #[.int .i64 k, .int .i64 0, .bool false, .int .i64 vk, .int .i64 vi, .string vt, .string t, .string nm, .slice a 0 ac, .slice (some ⟨qb, qo, none⟩) 1 sc] 27 (0, 0)) := by rw [← hW]; exact heap_alloc_new w _
            have hb1 : Below w.heap.size w W1 := by rw [← hW]; exact (Below.refl _ _).alloc (Nat.le_refl _) _
            have hz : w.heap.size < W1.heap.size := by rw [← hW]; simp
            have HQ : Hid (∀ wx, Below W1.heap.size W1 wx → _) := Lib.hid fun wx hb => blk10 ((hb.block w.heap.size hz).trans hk0)
            have HB1 := Lib.hid hb1
            obtain ⟨x0, x1, x2, x3, x4, x5, x6, x7, x8, x9, xf, _⟩ := HQ.out _ (Below.refl _ _)
            clear hW hb1 hk0
            go_wp2_with fail
            refine (HS.out _ HB1.out).mono ?_
            rintro e w1 ⟨rfl, hb⟩
            have HLw1 := Lib.hid (hb)
            clear hb x0 x1 x2 x3 x4 x5 x6 x7 x8 x9 xf
            obtain ⟨x0, x1, x2, x3, x4, x5, x6, x7, x8, x9, xf, _⟩ := HQ.out _ HLw1.out
            dsimp only
            go_wp2_with fail
            refine (HP.out _).mono ?_
            rintro e w2 ⟨rfl, hb⟩
            have HLw2 := Lib.hid (HLw1.out.trans (hb.mono HLw1.out.size))
            clear hb x0 x1 x2 x3 x4 x5 x6 x7 x8 x9 xf
            obtain ⟨x0, x1, x2, x3, x4, x5, x6, x7, x8, x9, xf, _⟩ := HQ.out _ HLw2.out
            dsimp only
            go_wp2_with fail
            refine (HA.out _ (HB1.out.trans (HLw2.out.mono HB1.out.size))).mono ?_
            rintro e w3 ⟨rfl, hb⟩
            have HLw3 := Lib.hid (HLw2.out.trans (hb.mono HLw2.out.size))
            clear hb x0 x1 x2 x3 x4 x5 x6 x7 x8 x9 xf
            obtain ⟨x0, x1, x2, x3, x4, x5, x6, x7, x8, x9, xf, _⟩ := HQ.out _ HLw3.out
            dsimp only
            obtain ⟨d0, d1, d2, d3⟩ := HD.out _ (HB1.out.trans (HLw3.out.mono HB1.out.size))
            go_wp2_with fail
            refine wp_loop_rounds 2 ?_
            rw [rounds_succ]
            go_wp2_with fail
            generalize hW4 : World.alloc w3 _ = W4
            have hq4 : ∀ wx, Below W4.heap.size W4 wx → wx.cell? ⟨w3.heap.size, 0, none⟩ = some (.bool false) ∧ wx.cell? ⟨w3.heap.size, 1, none⟩ = some (.slice ia il ic) ∧ wx.cell? ⟨w3.heap.size, 2, none⟩ = some (.string f) ∧ wx.cell? ⟨w3.heap.size, 3, none⟩ = some (.slice wa wl wc) := by
              intro wx hb
              have hz4 : w3.heap.size < W4.heap.size := by rw [← hW4]; simp
              rw [hb.cell (p := ⟨w3.heap.size, 0, none⟩) hz4, hb.cell (p := ⟨w3.heap.size, 1, none⟩) hz4, hb.cell (p := ⟨w3.heap.size, 2, none⟩) hz4, hb.cell (p := ⟨w3.heap.size, 3, none⟩) hz4, ← hW4]
              refine ⟨?_, ?_, ?_, ?_⟩ <;> simp
            have hb4 : Below w.heap.size w W4 := by rw [← hW4]; exact (HB1.out.trans (HLw3.out.mono HB1.out.size)).alloc (HB1.out.trans (HLw3.out.mono HB1.out.size)).size _
            have HQ4 := Lib.hid hq4
            have HB4 := Lib.hid hb4
            clear hq4 hb4 hW4 x0 x1 x2 x3 x4 x5 x6 x7 x8 x9 xf d0 d1 d2 d3
            obtain ⟨y0, y1, y2, y3⟩ := HQ4.out _ (Below.refl _ _)
            refine (HSO.out _).mono ?_
            rintro e w4 ⟨rfl, rfl⟩
            dsimp only
            go_wp2_with fail
            refine (HI.out _ HB4.out).mono ?_
            rintro e w5 ⟨rfl, hb⟩
            have HL5 := Lib.hid hb
            have HB5 := Lib.hid (HB4.out.trans (hb.mono HB4.out.size))
            clear hb y0 y1 y2 y3
            obtain ⟨y0, y1, y2, y3⟩ := HQ4.out _ HL5.out
            dsimp only
            go_wp2_with fail
            refine (HW.out _ HB5.out).mono ?_
            rintro e w6 ⟨rfl, hb⟩
            have HB6 := Lib.hid (HB5.out.trans (hb.mono HB5.out.size))
            clear hb y0 y1 y2 y3
            dsimp only
            go_wp2_with fail
            rw [rounds_succ]
            go_wp2_with fail
            go_ret
            exact ⟨by simp, HB6.out⟩

set_option maxRecDepth 100000 in
set_option maxHeartbeats 20000000 in
theorem rv_q9t (hs : ∀ wx, Below w.heap.size w wx → Calls Tryd.prog 81 #[.agg #[.int .i64 k, .int .i64 o, .bool no, .int .i64 vk, .int .i64 vi, .string vt, .string t, .string nm, .slice a an ac, .slice s sn sc]] wx (RetBel (.bool true) wx)) (pb ab : Bool) (hp : ∀ wx, Calls Tryd.prog 84 #[.agg #[.int .i64 k, .int .i64 o, .bool no, .int .i64 vk, .int .i64 vi, .string vt, .string t, .string nm, .slice a an ac, .slice s sn sc]] wx (RetBel (.bool pb) wx)) (ha : ∀ wx, Below w.heap.size w wx → Calls Tryd.prog 85 #[.slice a an ac] wx (RetBel (.bool ab) wx)) (qb qo : Nat) (st : Bool) (f : ByteArray) (ia wa : Option Addr) (il wl ic wc : Nat) (hqb : qb < w.heap.size) (sb ib wb : Bool)
    (c0 : w.cell? ⟨qb, qo, none⟩ = some (.bool st)) (c1 : w.cell? ⟨qb, qo + 1, none⟩ = some (.slice ia il ic)) (c2 : w.cell? ⟨qb, qo + 2, none⟩ = some (.string f)) (c3 : w.cell? ⟨qb, qo + 3, none⟩ = some (.slice wa wl wc))
    (hso : ∀ wx, Calls Tryd.prog 82 #[.string f] wx fun e w' => e = .returned (.bool sb) ∧ wx = w')
    (hi : ∀ wx, Below w.heap.size w wx → Calls Tryd.prog 85 #[.slice ia il ic] wx (RetBel (.bool ib) wx))
    (hw : ∀ wx, Below w.heap.size w wx → Calls Tryd.prog 85 #[.slice wa wl wc] wx (RetBel (.bool wb) wx)) (hg : o = 0 ∧ no = false ∧ st = true ∧ s = some ⟨qb, qo, none⟩ ∧ sn = 1 ∧ an = 0) (e1 : (k == 1) = false) (e2 : (k == 2) = false) (e5 : (k != 5) = true) (e6 : (k != 6) = true) (e8 : (k == 8) = false) :
    Calls Tryd.prog 43 #[.agg #[.int .i64 k, .int .i64 o, .bool no, .int .i64 vk, .int .i64 vi, .string vt, .string t, .string nm, .slice a an ac, .slice s sn sc]] w (RetBel (.bool (pb && ab && false)) w) := by
  obtain ⟨rfl, rfl, rfl, rfl, rfl, rfl⟩ := hg
  have HS := Lib.hid hs
  have HP := Lib.hid hp
  have HA := Lib.hid ha
  clear hs hp ha
  have HSO := Lib.hid hso
  have HI := Lib.hid hi
  have HW := Lib.hid hw
  clear hso hi hw
  have HD : Hid (∀ wx, Below w.heap.size w wx → _) := Lib.hid fun wx hb => And.intro ((hb.cell (p := ⟨qb, qo, none⟩) hqb).trans c0) (And.intro ((hb.cell (p := ⟨qb, qo + 1, none⟩) hqb).trans c1) (And.intro ((hb.cell (p := ⟨qb, qo + 2, none⟩) hqb).trans c2) ((hb.cell (p := ⟨qb, qo + 3, none⟩) hqb).trans c3)))
  cases pb
  · clear c0 c1 c2 c3
    go_enter Tryd.func43, Tryd.ntmps43
    go_upto_region 1 with fail
    generalize hW : World.alloc w _ = W1
    have hk0 : W1.heap[w.heap.size]? = some (.cells #[.int .i64 k, .int .i64 0, .bool false, .int .i64 vk, .int .i64 vi, .string vt, .string t, .string nm, .slice a 0 ac, .slice (some ⟨qb, qo, none⟩) 1 sc] 27 (0, 0)) := by rw [← hW]; exact heap_alloc_new w _
    have hb1 : Below w.heap.size w W1 := by rw [← hW]; exact (Below.refl _ _).alloc (Nat.le_refl _) _
    have hz : w.heap.size < W1.heap.size := by rw [← hW]; simp
    have HQ : Hid (∀ wx, Below W1.heap.size W1 wx → _) := Lib.hid fun wx hb => blk10 ((hb.block w.heap.size hz).trans hk0)
    have HB1 := Lib.hid hb1
    obtain ⟨x0, x1, x2, x3, x4, x5, x6, x7, x8, x9, xf, _⟩ := HQ.out _ (Below.refl _ _)
    clear hW hb1 hk0
    go_wp2_with fail
    refine (HS.out _ HB1.out).mono ?_
    rintro e w1 ⟨rfl, hb⟩
    have HLw1 := Lib.hid (hb)
    clear hb x0 x1 x2 x3 x4 x5 x6 x7 x8 x9 xf
    obtain ⟨x0, x1, x2, x3, x4, x5, x6, x7, x8, x9, xf, _⟩ := HQ.out _ HLw1.out
    dsimp only
    go_wp2_with fail
    refine (HP.out _).mono ?_
    rintro e w2 ⟨rfl, hb⟩
    have HLw2 := Lib.hid (HLw1.out.trans (hb.mono HLw1.out.size))
    clear hb x0 x1 x2 x3 x4 x5 x6 x7 x8 x9 xf
    obtain ⟨x0, x1, x2, x3, x4, x5, x6, x7, x8, x9, xf, _⟩ := HQ.out _ HLw2.out
    dsimp only
    go_wp2_with fail
    go_ret
    exact ⟨by simp, HB1.out.trans (HLw2.out.mono HB1.out.size)⟩
  · cases ab
    · clear c0 c1 c2 c3
      go_enter Tryd.func43, Tryd.ntmps43
      go_upto_region 1 with fail
      generalize hW : World.alloc w _ = W1
      have hk0 : W1.heap[w.heap.size]? = some (.cells #[.int .i64 k, .int .i64 0, .bool false, .int .i64 vk, .int .i64 vi, .string vt, .string t, .string nm, .slice a 0 ac, .slice (some ⟨qb, qo, none⟩) 1 sc] 27 (0, 0)) := by rw [← hW]; exact heap_alloc_new w _
      have hb1 : Below w.heap.size w W1 := by rw [← hW]; exact (Below.refl _ _).alloc (Nat.le_refl _) _
      have hz : w.heap.size < W1.heap.size := by rw [← hW]; simp
      have HQ : Hid (∀ wx, Below W1.heap.size W1 wx → _) := Lib.hid fun wx hb => blk10 ((hb.block w.heap.size hz).trans hk0)
      have HB1 := Lib.hid hb1
      obtain ⟨x0, x1, x2, x3, x4, x5, x6, x7, x8, x9, xf, _⟩ := HQ.out _ (Below.refl _ _)
      clear hW hb1 hk0
      go_wp2_with fail
      refine (HS.out _ HB1.out).mono ?_
      rintro e w1 ⟨rfl, hb⟩
      have HLw1 := Lib.hid (hb)
      clear hb x0 x1 x2 x3 x4 x5 x6 x7 x8 x9 xf
      obtain ⟨x0, x1, x2, x3, x4, x5, x6, x7, x8, x9, xf, _⟩ := HQ.out _ HLw1.out
      dsimp only
      go_wp2_with fail
      refine (HP.out _).mono ?_
      rintro e w2 ⟨rfl, hb⟩
      have HLw2 := Lib.hid (HLw1.out.trans (hb.mono HLw1.out.size))
      clear hb x0 x1 x2 x3 x4 x5 x6 x7 x8 x9 xf
      obtain ⟨x0, x1, x2, x3, x4, x5, x6, x7, x8, x9, xf, _⟩ := HQ.out _ HLw2.out
      dsimp only
      go_wp2_with fail
      refine (HA.out _ (HB1.out.trans (HLw2.out.mono HB1.out.size))).mono ?_
      rintro e w3 ⟨rfl, hb⟩
      have HLw3 := Lib.hid (HLw2.out.trans (hb.mono HLw2.out.size))
      clear hb x0 x1 x2 x3 x4 x5 x6 x7 x8 x9 xf
      obtain ⟨x0, x1, x2, x3, x4, x5, x6, x7, x8, x9, xf, _⟩ := HQ.out _ HLw3.out
      dsimp only
      go_wp2_with fail
      go_ret
      exact ⟨by simp, HB1.out.trans (HLw3.out.mono HB1.out.size)⟩
    · clear c0 c1 c2 c3
      go_enter Tryd.func43, Tryd.ntmps43
      go_upto_region 1 with fail
      generalize hW : World.alloc w _ = W1
      have hk0 : W1.heap[w.heap.size]? = some (.cells #[.int .i64 k, .int .i64 0, .bool false, .int .i64 vk, .int .i64 vi, .string vt, .string t, .string nm, .slice a 0 ac, .slice (some ⟨qb, qo, none⟩) 1 sc] 27 (0, 0)) := by rw [← hW]; exact heap_alloc_new w _
      have hb1 : Below w.heap.size w W1 := by rw [← hW]; exact (Below.refl _ _).alloc (Nat.le_refl _) _
      have hz : w.heap.size < W1.heap.size := by rw [← hW]; simp
      have HQ : Hid (∀ wx, Below W1.heap.size W1 wx → _) := Lib.hid fun wx hb => blk10 ((hb.block w.heap.size hz).trans hk0)
      have HB1 := Lib.hid hb1
      obtain ⟨x0, x1, x2, x3, x4, x5, x6, x7, x8, x9, xf, _⟩ := HQ.out _ (Below.refl _ _)
      clear hW hb1 hk0
      go_wp2_with fail
      refine (HS.out _ HB1.out).mono ?_
      rintro e w1 ⟨rfl, hb⟩
      have HLw1 := Lib.hid (hb)
      clear hb x0 x1 x2 x3 x4 x5 x6 x7 x8 x9 xf
      obtain ⟨x0, x1, x2, x3, x4, x5, x6, x7, x8, x9, xf, _⟩ := HQ.out _ HLw1.out
      dsimp only
      go_wp2_with fail
      refine (HP.out _).mono ?_
      rintro e w2 ⟨rfl, hb⟩
      have HLw2 := Lib.hid (HLw1.out.trans (hb.mono HLw1.out.size))
      clear hb x0 x1 x2 x3 x4 x5 x6 x7 x8 x9 xf
      obtain ⟨x0, x1, x2, x3, x4, x5, x6, x7, x8, x9, xf, _⟩ := HQ.out _ HLw2.out
      dsimp only
      go_wp2_with fail
      refine (HA.out _ (HB1.out.trans (HLw2.out.mono HB1.out.size))).mono ?_
      rintro e w3 ⟨rfl, hb⟩
      have HLw3 := Lib.hid (HLw2.out.trans (hb.mono HLw2.out.size))
      clear hb x0 x1 x2 x3 x4 x5 x6 x7 x8 x9 xf
      obtain ⟨x0, x1, x2, x3, x4, x5, x6, x7, x8, x9, xf, _⟩ := HQ.out _ HLw3.out
      dsimp only
      obtain ⟨d0, d1, d2, d3⟩ := HD.out _ (HB1.out.trans (HLw3.out.mono HB1.out.size))
      go_wp2_with fail
      refine wp_loop_rounds 2 ?_
      rw [rounds_succ]
      go_wp2_with fail
      go_ret
      exact ⟨by simp, (HB1.out.trans (HLw3.out.mono HB1.out.size)).alloc (HB1.out.trans (HLw3.out.mono HB1.out.size)).size _⟩
end
end Go.Proofs.YthcpacadjnpacaaDoor
