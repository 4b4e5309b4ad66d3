/- Which expressions are well-formed: the ways through ValidExpr. Which expressions are well-formed: ValidExpr's ways through arguments. Which expressions are well-formed: the contract of ValidExpr, for every expression. The sanity check of the statements on syntax: the contract of known of the package triggerstorelaw11. -/
import Derived.Test.YtkhlmofcdchccaaGreatDoorKN1
import Derived.Test.YtkhlmofcdchccaaGreatDoorKN2
import Derived.Test.YtkhlmofcdchccaaGreatDoorU04
import Derived.Deep.RegionHeld3
namespace Go.Proofs.YtkhlmofcdchccaaGreatDoor
open Go.RowKit

section
variable (o : Int) (no : Bool) (vk vi : Int) (vt t nm : ByteArray) (an sn : Nat)
theorem bare_table (u : Int) : bareB u (bareV o no vk vi vt t nm an sn) = ((!offB u 1 || o == 0) && (!offB u 2 || !no) && (!offB u 4 || (decide (vk = 0) && decide (vi = 0) && noText vt)) && (!offB u 8 || (noText t && noText nm)) && (!offB u 16 || an == 0) && (!offB u 32 || sn == 0)) := by
  unfold bareB base6
  simp only [List.all_cons, List.all_nil, Bool.and_true, show bareV o no vk vi vt t nm an sn 4 = (o == 0) from rfl, show bareV o no vk vi vt t nm an sn 8 = !no from rfl, show bareV o no vk vi vt t nm an sn 13 = (decide (vk = 0) && decide (vi = 0) && noText vt) from rfl, show bareV o no vk vi vt t nm an sn 22 = (noText t && noText nm) from rfl, show bareV o no vk vi vt t nm an sn 27 = (an == 0) from rfl, show bareV o no vk vi vt t nm an sn 32 = (sn == 0) from rfl,
    show keyOf6 4 = 1 from rfl, show keyOf6 8 = 2 from rfl, show keyOf6 13 = 4 from rfl, show keyOf6 22 = 8 from rfl, show keyOf6 27 = 16 from rfl, show keyOf6 32 = 32 from rfl, Bool.and_assoc]
theorem o_eq (o : Int) : (o == 0) = decide (o = 0) := rfl
theorem n_eq (n : Nat) : (n == 0) = decide (n = 0) := by
  cases n <;> rfl
theorem bare_4 : bareB 4 (bareV o no vk vi vt t nm an sn) = (decide (o = 0) && !no && nameZ t nm && decide (an = 0) && decide (sn = 0)) := by
  rw [bare_table, show offB 4 1 = true by decide +kernel, show offB 4 2 = true by decide +kernel, show offB 4 4 = false by decide +kernel, show offB 4 8 = true by decide +kernel, show offB 4 16 = true by decide +kernel, show offB 4 32 = true by decide +kernel, o_eq, n_eq, n_eq, nameZ]
  simp only [Bool.not_true, Bool.not_false, Bool.false_or, Bool.true_or, Bool.and_true]
theorem bare_8 : bareB 8 (bareV o no vk vi vt t nm an sn) = (decide (o = 0) && !no && valZ ⟨vk, vi, vt⟩ && decide (an = 0) && decide (sn = 0)) := by
  rw [bare_table, show offB 8 1 = true by decide +kernel, show offB 8 2 = true by decide +kernel, show offB 8 4 = true by decide +kernel, show offB 8 8 = false by decide +kernel, show offB 8 16 = true by decide +kernel, show offB 8 32 = true by decide +kernel, o_eq, n_eq, n_eq, valZ]
  simp only [Bool.not_true, Bool.not_false, Bool.false_or, Bool.true_or, Bool.and_true]
theorem bare_32 : bareB 32 (bareV o no vk vi vt t nm an sn) = (decide (o = 0) && !no && valZ ⟨vk, vi, vt⟩ && nameZ t nm && decide (an = 0)) := by
  rw [bare_table, show offB 32 1 = true by decide +kernel, show offB 32 2 = true by decide +kernel, show offB 32 4 = true by decide +kernel, show offB 32 8 = true by decide +kernel, show offB 32 16 = true by decide +kernel, show offB 32 32 = false by decide +kernel, o_eq, n_eq, n_eq, valZ, nameZ]
  simp only [Bool.not_true, Bool.not_false, Bool.false_or, Bool.true_or, Bool.and_true]
theorem bare_17 : bareB 17 (bareV o no vk vi vt t nm an sn) = (!no && valZ ⟨vk, vi, vt⟩ && nameZ t nm && decide (sn = 0)) := by
  rw [bare_table, show offB 17 1 = false by decide +kernel, show offB 17 2 = true by decide +kernel, show offB 17 4 = true by decide +kernel, show offB 17 8 = true by decide +kernel, show offB 17 16 = false by decide +kernel, show offB 17 32 = true by decide +kernel, n_eq, n_eq, valZ, nameZ]
  simp only [Bool.not_true, Bool.not_false, Bool.false_or, Bool.true_or, Bool.and_true, Bool.true_and]
theorem bare_18 : bareB 18 (bareV o no vk vi vt t nm an sn) = (decide (o = 0) && valZ ⟨vk, vi, vt⟩ && nameZ t nm && decide (sn = 0)) := by
  rw [bare_table, show offB 18 1 = true by decide +kernel, show offB 18 2 = false by decide +kernel, show offB 18 4 = true by decide +kernel, show offB 18 8 = true by decide +kernel, show offB 18 16 = false by decide +kernel, show offB 18 32 = true by decide +kernel, o_eq, n_eq, n_eq, valZ, nameZ]
  simp only [Bool.not_true, Bool.not_false, Bool.false_or, Bool.true_or, Bool.and_true]
theorem bare_16 : bareB 16 (bareV o no vk vi vt t nm an sn) = (decide (o = 0) && !no && valZ ⟨vk, vi, vt⟩ && nameZ t nm && decide (sn = 0)) := by
  rw [bare_table, show offB 16 1 = true by decide +kernel, show offB 16 2 = true by decide +kernel, show offB 16 4 = true by decide +kernel, show offB 16 8 = true by decide +kernel, show offB 16 16 = false by decide +kernel, show offB 16 32 = true by decide +kernel, o_eq, n_eq, n_eq, valZ, nameZ]
  simp only [Bool.not_true, Bool.not_false, Bool.false_or, Bool.true_or, Bool.and_true]
end

section
variable (k o : Int) (no : Bool) (vk vi : Int) (vt t nm : ByteArray) (a s : Option Addr) (an ac sn sc : Nat) (w : World)

set_option maxRecDepth 100000 in
set_option maxHeartbeats 4000000 in
theorem vexpr_lit (b1 b2 : Bool) (h1 : ∀ wx, Calls Tryz.prog 50 #[.agg #[.int .i64 k, .int .i64 o, .bool no, .int .i64 vk, .int .i64 vi, .string vt, .string t, .string nm, .slice a an ac, .slice s sn sc], .int .i64 4] wx (RetBel (.bool b1) wx)) (h2 : ∀ wx, Calls Tryz.prog 51 #[.agg #[.int .i64 vk, .int .i64 vi, .string vt]] wx (RetBel (.bool b2) wx)) (hk : k = 1) :
    Calls Tryz.prog 24 #[.agg #[.int .i64 k, .int .i64 o, .bool no, .int .i64 vk, .int .i64 vi, .string vt, .string t, .string nm, .slice a an ac, .slice s sn sc]] w (RetBel (.bool (b1 && b2 && !(decide (vk = 1) && decide (vi < 0)))) w) := by
  subst hk
  have H1 := Lib.hid h1
  have H2 := Lib.hid h2
  clear h1 h2
  cases b1
  · go_enter Tryz.func24, Tryz.ntmps24
    go_wp2_with fail
    refine (H1.out _).mono ?_
    rintro e w2 ⟨rfl, hb⟩
    have HK2 := Lib.hid ((hb.block w.heap.size (by simp)).trans (heap_alloc_new w _))
    have HB2 := Lib.hid (((Below.refl _ w).alloc (Nat.le_refl _) _).trans (hb.mono (by simp)))
    clear hb
    obtain ⟨x0, x1, x2, x3, x4, x5, x6, x7, x8, x9, xf, xz⟩ := blk10 HK2.out
    dsimp only
    go_wp2_with fail
    go_ret
    exact ⟨rfl, HB2.out⟩
  · cases b2
    · go_enter Tryz.func24, Tryz.ntmps24
      go_wp2_with fail
      refine (H1.out _).mono ?_
      rintro e w2 ⟨rfl, hb⟩
      have HK2 := Lib.hid ((hb.block w.heap.size (by simp)).trans (heap_alloc_new w _))
      have HB2 := Lib.hid (((Below.refl _ w).alloc (Nat.le_refl _) _).trans (hb.mono (by simp)))
      clear hb
      obtain ⟨x0, x1, x2, x3, x4, x5, x6, x7, x8, x9, xf, xz⟩ := blk10 HK2.out
      dsimp only
      go_wp2_with fail
      refine (H2.out _).mono ?_
      rintro e w3 ⟨rfl, hb⟩
      clear x0 x1 x2 x3 x4 x5 x6 x7 x8 x9 xf
      obtain ⟨x0, x1, x2, x3, x4, x5, x6, x7, x8, x9, xf, xz'⟩ := blk10 ((hb.block w.heap.size xz).trans HK2.out)
      have HB3 := Lib.hid (HB2.out.trans (hb.mono HB2.out.size))
      clear hb
      dsimp only
      go_wp2_with fail
      go_ret
      exact ⟨rfl, HB3.out⟩
    · by_cases hv : vk = 1
      · subst hv
        go_enter Tryz.func24, Tryz.ntmps24
        go_wp2_with fail
        refine (H1.out _).mono ?_
        rintro e w2 ⟨rfl, hb⟩
        have HK2 := Lib.hid ((hb.block w.heap.size (by simp)).trans (heap_alloc_new w _))
        have HB2 := Lib.hid (((Below.refl _ w).alloc (Nat.le_refl _) _).trans (hb.mono (by simp)))
        clear hb
        obtain ⟨x0, x1, x2, x3, x4, x5, x6, x7, x8, x9, xf, xz⟩ := blk10 HK2.out
        dsimp only
        go_wp2_with fail
        refine (H2.out _).mono ?_
        rintro e w3 ⟨rfl, hb⟩
        clear x0 x1 x2 x3 x4 x5 x6 x7 x8 x9 xf
        obtain ⟨x0, x1, x2, x3, x4, x5, x6, x7, x8, x9, xf, xz'⟩ := blk10 ((hb.block w.heap.size xz).trans HK2.out)
        have HB3 := Lib.hid (HB2.out.trans (hb.mono HB2.out.size))
        clear hb
        dsimp only
        go_wp2_with fail
        go_ret
        exact ⟨by simp, HB3.out⟩
      · have hv' : (vk == 1) = false := by simpa using hv
        have hd : decide (vk = 1) = false := decide_eq_false hv
        rw [hd]
        clear hd hv
        go_enter Tryz.func24, Tryz.ntmps24
        go_wp2_with fail
        refine (H1.out _).mono ?_
        rintro e w2 ⟨rfl, hb⟩
        have HK2 := Lib.hid ((hb.block w.heap.size (by simp)).trans (heap_alloc_new w _))
        have HB2 := Lib.hid (((Below.refl _ w).alloc (Nat.le_refl _) _).trans (hb.mono (by simp)))
        clear hb
        obtain ⟨x0, x1, x2, x3, x4, x5, x6, x7, x8, x9, xf, xz⟩ := blk10 HK2.out
        dsimp only
        go_wp2_with fail
        refine (H2.out _).mono ?_
        rintro e w3 ⟨rfl, hb⟩
        clear x0 x1 x2 x3 x4 x5 x6 x7 x8 x9 xf
        obtain ⟨x0, x1, x2, x3, x4, x5, x6, x7, x8, x9, xf, xz'⟩ := blk10 ((hb.block w.heap.size xz).trans HK2.out)
        have HB3 := Lib.hid (HB2.out.trans (hb.mono HB2.out.size))
        clear hb
        dsimp only
        go_wp2_with fail
        go_ret
        exact ⟨rfl, HB3.out⟩

set_option maxRecDepth 100000 in
set_option maxHeartbeats 4000000 in
theorem vexpr_col (b1 b2 : Bool) (h1 : ∀ wx, Calls Tryz.prog 50 #[.agg #[.int .i64 k, .int .i64 o, .bool no, .int .i64 vk, .int .i64 vi, .string vt, .string t, .string nm, .slice a an ac, .slice s sn sc], .int .i64 8] wx (RetBel (.bool b1) wx)) (h2 : ∀ wx, Calls Tryz.prog 52 #[.agg #[.int .i64 k, .int .i64 o, .bool no, .int .i64 vk, .int .i64 vi, .string vt, .string t, .string nm, .slice a an ac, .slice s sn sc]] wx (RetBel (.bool b2) wx)) (hk : k = 2) :
    Calls Tryz.prog 24 #[.agg #[.int .i64 k, .int .i64 o, .bool no, .int .i64 vk, .int .i64 vi, .string vt, .string t, .string nm, .slice a an ac, .slice s sn sc]] w (RetBel (.bool (b1 && b2)) w) := by
  subst hk
  have H1 := Lib.hid h1
  have H2 := Lib.hid h2
  clear h1 h2
  cases b1
  · go_enter Tryz.func24, Tryz.ntmps24
    go_wp2_with fail
    refine (H1.out _).mono ?_
    rintro e w2 ⟨rfl, hb⟩
    have HK2 := Lib.hid ((hb.block w.heap.size (by simp)).trans (heap_alloc_new w _))
    have HB2 := Lib.hid (((Below.refl _ w).alloc (Nat.le_refl _) _).trans (hb.mono (by simp)))
    clear hb
    obtain ⟨x0, x1, x2, x3, x4, x5, x6, x7, x8, x9, xf, xz⟩ := blk10 HK2.out
    dsimp only
    go_wp2_with fail
    go_ret
    exact ⟨rfl, HB2.out⟩
  · go_enter Tryz.func24, Tryz.ntmps24
    go_wp2_with fail
    refine (H1.out _).mono ?_
    rintro e w2 ⟨rfl, hb⟩
    have HK2 := Lib.hid ((hb.block w.heap.size (by simp)).trans (heap_alloc_new w _))
    have HB2 := Lib.hid (((Below.refl _ w).alloc (Nat.le_refl _) _).trans (hb.mono (by simp)))
    clear hb
    obtain ⟨x0, x1, x2, x3, x4, x5, x6, x7, x8, x9, xf, xz⟩ := blk10 HK2.out
    dsimp only
    go_wp2_with fail
    refine (H2.out _).mono ?_
    rintro e w3 ⟨rfl, hb⟩
    clear x0 x1 x2 x3 x4 x5 x6 x7 x8 x9 xf
    obtain ⟨x0, x1, x2, x3, x4, x5, x6, x7, x8, x9, xf, xz'⟩ := blk10 ((hb.block w.heap.size xz).trans HK2.out)
    have HB3 := Lib.hid (HB2.out.trans (hb.mono HB2.out.size))
    clear hb
    dsimp only
    go_wp2_with fail
    go_ret
    exact ⟨by simp, HB3.out⟩

set_option maxRecDepth 100000 in
set_option maxHeartbeats 10000000 in
theorem vexpr_sub (b1 b2 : Bool) (h1 : ∀ wx, Calls Tryz.prog 50 #[.agg #[.int .i64 k, .int .i64 o, .bool no, .int .i64 vk, .int .i64 vi, .string vt, .string t, .string nm, .slice a an ac, .slice s sn sc], .int .i64 32] wx (RetBel (.bool b1) wx)) (h2 : ∀ wx, Below w.heap.size w wx → Calls Tryz.prog 53 #[.agg #[.int .i64 k, .int .i64 o, .bool no, .int .i64 vk, .int .i64 vi, .string vt, .string t, .string nm, .slice a an ac, .slice s sn sc]] wx (RetBel (.bool b2) wx)) (hk : 8 ≤ k ∧ k ≤ 12) :
    Calls Tryz.prog 24 #[.agg #[.int .i64 k, .int .i64 o, .bool no, .int .i64 vk, .int .i64 vi, .string vt, .string t, .string nm, .slice a an ac, .slice s sn sc]] w (RetBel (.bool (b1 && b2)) w) := by
  have h5 : k = 8 ∨ k = 9 ∨ k = 10 ∨ k = 11 ∨ k = 12 := by omega
  clear hk
  rcases h5 with rfl | rfl | rfl | rfl | rfl
  all_goals
    have H1 := Lib.hid h1
    have H2 := Lib.hid h2
    clear h1 h2
    cases b1
    · go_enter Tryz.func24, Tryz.ntmps24
      go_wp2_with fail
      refine (H1.out _).mono ?_
      rintro e w2 ⟨rfl, hb⟩
      have HK2 := Lib.hid ((hb.block w.heap.size (by simp)).trans (heap_alloc_new w _))
      have HB2 := Lib.hid (((Below.refl _ w).alloc (Nat.le_refl _) _).trans (hb.mono (by simp)))
      clear hb
      obtain ⟨x0, x1, x2, x3, x4, x5, x6, x7, x8, x9, xf, xz⟩ := blk10 HK2.out
      dsimp only
      go_wp2_with fail
      go_ret
      exact ⟨rfl, HB2.out⟩
    · go_enter Tryz.func24, Tryz.ntmps24
      go_wp2_with fail
      refine (H1.out _).mono ?_
      rintro e w2 ⟨rfl, hb⟩
      have HK2 := Lib.hid ((hb.block w.heap.size (by simp)).trans (heap_alloc_new w _))
      have HB2 := Lib.hid (((Below.refl _ w).alloc (Nat.le_refl _) _).trans (hb.mono (by simp)))
      clear hb
      obtain ⟨x0, x1, x2, x3, x4, x5, x6, x7, x8, x9, xf, xz⟩ := blk10 HK2.out
      dsimp only
      go_wp2_with fail
      refine (H2.out _ HB2.out).mono ?_
      rintro e w3 ⟨rfl, hb⟩
      have HB3 := Lib.hid (HB2.out.trans (hb.mono HB2.out.size))
      clear hb x0 x1 x2 x3 x4 x5 x6 x7 x8 x9 xf
      dsimp only
      go_wp2_with fail
      go_ret
      exact ⟨by simp, HB3.out⟩
end
end Go.Proofs.YtkhlmofcdchccaaGreatDoor

namespace Go.Proofs.YtkhlmofcdchccaaGreatDoor
open Go.RowKit

section
variable (k o : Int) (no : Bool) (vk vi : Int) (vt t nm : ByteArray) (a s : Option Addr) (an ac sn sc : Nat) (w : World)
set_option maxRecDepth 100000 in
set_option maxHeartbeats 10000000 in
theorem vexpr_rest (hk : ¬(k = 1 ∨ k = 2 ∨ k = 5 ∨ k = 6 ∨ (8 ≤ k ∧ k ≤ 12))) (b1 bl : Bool) (h1 : ∀ wx, Calls Tryz.prog 50 #[.agg #[.int .i64 k, .int .i64 o, .bool no, .int .i64 vk, .int .i64 vi, .string vt, .string t, .string nm, .slice a an ac, .slice s sn sc], .int .i64 16] wx (RetBel (.bool b1) wx)) (hv : ∀ wx, Below w.heap.size w wx → Calls Tryz.prog 55 #[.slice a an ac] wx (RetBel (.bool bl) wx)) :
    Calls Tryz.prog 24 #[.agg #[.int .i64 k, .int .i64 o, .bool no, .int .i64 vk, .int .i64 vi, .string vt, .string t, .string nm, .slice a an ac, .slice s sn sc]] w (RetBel (.bool (b1 && (decide ((an : Int) = argsOf k) && bl))) w) := by
  have ek1 : (k == 1) = false := by simp; omega
  have ek2 : (k == 2) = false := by simp; omega
  have ek8 : (k == 8) = false := by simp; omega
  have ek9 : (k == 9) = false := by simp; omega
  have ek10 : (k == 10) = false := by simp; omega
  have ek11 : (k == 11) = false := by simp; omega
  have ek12 : (k == 12) = false := by simp; omega
  have ek5 : (k == 5) = false := by simp; omega
  have ek6 : (k == 6) = false := by simp; omega
  clear hk
  have H1 := Lib.hid h1
  have HV := Lib.hid hv
  clear h1 hv
  cases b1
  · go_enter Tryz.func24, Tryz.ntmps24
    go_wp2_with fail
    refine (H1.out _).mono ?_
    rintro e w2 ⟨rfl, hb⟩
    have HK2 := Lib.hid ((hb.block w.heap.size (by simp)).trans (heap_alloc_new w _))
    have HB2 := Lib.hid (((Below.refl _ w).alloc (Nat.le_refl _) _).trans (hb.mono (by simp)))
    clear hb
    obtain ⟨x0, x1, x2, x3, x4, x5, x6, x7, x8, x9, xf, xz⟩ := blk10 HK2.out
    dsimp only
    go_wp2_with fail
    go_ret
    exact ⟨by simp, HB2.out⟩
  · by_cases hEq : (an : Int) = argsOf k
    · have hd : decide ((an : Int) = argsOf k) = true := decide_eq_true hEq
      have HD := Lib.hid hd
      have hE2 : ((an : Int) == argsOf k) = true := by simpa using hEq
      rw [HD.out]
      clear hd hEq
      go_enter Tryz.func24, Tryz.ntmps24
      go_wp2_with fail
      refine (H1.out _).mono ?_
      rintro e w2 ⟨rfl, hb⟩
      have HK2 := Lib.hid ((hb.block w.heap.size (by simp)).trans (heap_alloc_new w _))
      have HB2 := Lib.hid (((Below.refl _ w).alloc (Nat.le_refl _) _).trans (hb.mono (by simp)))
      clear hb
      obtain ⟨x0, x1, x2, x3, x4, x5, x6, x7, x8, x9, xf, xz⟩ := blk10 HK2.out
      dsimp only
      go_upto_region 20 with fail
      have HSQ : Hid (∀ wx, Below w2.heap.size w2 wx → wx.cell? ⟨w.heap.size, 0, none⟩ = some (.int .i64 k) ∧ wx.cell? ⟨w.heap.size, 8, none⟩ = some (.slice a an ac)) := Lib.hid fun wx hb => by
        obtain ⟨a0, _, _, _, _, _, _, _, a8, _⟩ := blk10 ((hb.block w.heap.size xz).trans HK2.out)
        exact ⟨a0, a8⟩
      clear x0 x1 x2 x3 x4 x5 x6 x7 x8 x9 xf
      refine wp_region_noPanic ?_
      refine wp_region_held_drew (S := (fun w' => w'.cell? ⟨w.heap.size, 0, none⟩ = some (.int .i64 k) ∧ w'.cell? ⟨w.heap.size, 8, none⟩ = some (.slice a an ac))) (by kernel_rfl) (HSQ.out _ (drew_below (Below.refl _ _))) (fun hHeld => ?_)
      refine wpAnyH_take (i := 0) (v := _) rfl (by kernel_rfl) (by kernel_rfl) (by kernel_rfl) (fun _ _ _ h => h) (Or.inl ⟨by rfl, by (intro w hSw; (try dsimp only at hSw); go_simp; (try with_reducible rfl))⟩) (by assumption) ?_
      simp only [Act.put, List.getElem_toArray, List.getElem_cons_zero, List.setIfInBounds_toArray, List.set_cons_zero, List.set_cons_succ]
      refine wpAnyH_take (i := 1) (v := _) rfl (by kernel_rfl) (by kernel_rfl) (by kernel_rfl) (fun _ _ _ h => h) (Or.inl ⟨by rfl, by (intro w hSw; (try dsimp only at hSw); go_simp; (try with_reducible rfl))⟩) (by assumption) ?_
      simp only [Act.put, List.getElem_toArray, List.getElem_cons_succ, List.getElem_cons_zero, List.setIfInBounds_toArray, List.set_cons_zero, List.set_cons_succ]
      refine wpAnyH_take (i := 2) (v := _) rfl (by kernel_rfl) (by kernel_rfl) (by kernel_rfl) (fun _ _ _ h => h) (Or.inl ⟨by rfl, by (intro w hSw; (try dsimp only at hSw); go_simp; (try with_reducible rfl))⟩) (by assumption) ?_
      simp only [Act.put, List.getElem_toArray, List.getElem_cons_succ, List.getElem_cons_zero, List.setIfInBounds_toArray, List.set_cons_zero, List.set_cons_succ]
      refine wpAnyH_take (i := 3) (v := _) rfl (by kernel_rfl) (by kernel_rfl) (by kernel_rfl) (fun _ _ _ h => h) (Or.inl ⟨by rfl, by (intro w hSw; (try dsimp only at hSw); go_simp; (try with_reducible rfl))⟩) (by assumption) ?_
      simp only [Act.put, List.getElem_toArray, List.getElem_cons_succ, List.getElem_cons_zero, List.setIfInBounds_toArray, List.set_cons_zero, List.set_cons_succ]
      refine wpAnyH_take (i := 4) (v := _) rfl (by kernel_rfl) (by kernel_rfl) (by kernel_rfl) (fun _ _ _ h => h) (Or.inl ⟨by rfl, by (intro w hSw; (try dsimp only at hSw); go_simp; (try with_reducible rfl))⟩) (by assumption) ?_
      simp only [Act.put, List.getElem_toArray, List.getElem_cons_succ, List.getElem_cons_zero, List.setIfInBounds_toArray, List.set_cons_zero, List.set_cons_succ]
      refine wpAnyH_ready (rs := [5]) (by kernel_rfl) (by simp) ?_
      refine AllReadyH.cons (o := _) rfl (fun K hK => ?_) AllReadyH.nil
      go_simp
      refine (arguments_any _ _).mono ?_
      rintro e wy ⟨rfl, rfl⟩
      dsimp only
      refine hK.out _ _ hHeld (fun _ => ?_)
      clear hK K
      refine wpAnyH_take (i := 6) (v := .bool true) rfl (by kernel_rfl) (by kernel_rfl) (by kernel_rfl) (fun _ _ _ h => h) (Or.inl ⟨by rfl, by (intro w hSw; (try dsimp only at hSw); go_simp; (try with_reducible rfl))⟩) (by assumption) ?_
      simp only [Act.put, List.getElem_toArray, List.getElem_cons_succ, List.getElem_cons_zero, List.setIfInBounds_toArray, List.set_cons_zero, List.set_cons_succ]
      refine wpAnyH_take (i := 7) (v := _) rfl (by kernel_rfl) (by kernel_rfl) (by kernel_rfl) (fun _ _ _ h => h) (Or.inl ⟨by rfl, by (intro w hSw; (try dsimp only at hSw); go_simp; (try with_reducible rfl))⟩) (by assumption) ?_
      simp only [Act.put, List.getElem_toArray, List.getElem_cons_succ, List.getElem_cons_zero, List.setIfInBounds_toArray, List.set_cons_zero, List.set_cons_succ]
      refine wpAnyH_take (i := 8) (v := _) rfl (by kernel_rfl) (by kernel_rfl) (by kernel_rfl) (fun _ _ _ h => h) (Or.inl ⟨by rfl, by (intro w hSw; (try dsimp only at hSw); go_simp; (try with_reducible rfl))⟩) (by assumption) ?_
      simp only [Act.put, List.getElem_toArray, List.getElem_cons_succ, List.getElem_cons_zero, List.setIfInBounds_toArray, List.set_cons_zero, List.set_cons_succ]
      refine wpAnyH_take (i := 9) (v := _) rfl (by kernel_rfl) (by kernel_rfl) (by kernel_rfl) (fun _ _ _ h => h) (Or.inl ⟨by rfl, by (intro w hSw; (try dsimp only at hSw); go_simp; (try with_reducible rfl))⟩) (by assumption) ?_
      simp only [Act.put, List.getElem_toArray, List.getElem_cons_succ, List.getElem_cons_zero, List.setIfInBounds_toArray, List.set_cons_zero, List.set_cons_succ]
      refine wpAnyH_ready (rs := [10]) (by kernel_rfl) (by simp) ?_
      refine AllReadyH.cons (o := _) rfl (fun K hK => ?_) AllReadyH.nil
      go_simp
      refine (HV.out _ HB2.out.drew).mono ?_
      rintro e wy ⟨rfl, hb⟩
      have HB3 := Lib.hid (HB2.out.drew.trans (hb.mono HB2.out.drew.size))
      dsimp only
      refine hK.out _ _ (HSQ.out _ ((drew_below (Below.refl _ _)).trans (hb.mono (Nat.le_refl _)))) (fun hHeld => ?_)
      clear hK K hb
      refine wpAnyH_take (i := 11) (v := _) rfl (by kernel_rfl) (by kernel_rfl) (by kernel_rfl) (fun _ _ _ h => h) (Or.inl ⟨by rfl, by (intro w hSw; (try dsimp only at hSw); go_simp; (try with_reducible rfl))⟩) (by assumption) ?_
      simp only [Act.put, List.getElem_toArray, List.getElem_cons_succ, List.getElem_cons_zero, List.setIfInBounds_toArray, List.set_cons_zero, List.set_cons_succ]
      refine wpAnyH_take (i := 12) (v := _) rfl (by kernel_rfl) (by kernel_rfl) (by kernel_rfl) (fun _ _ _ h => h) (Or.inl ⟨by rfl, by (intro w hSw; (try dsimp only at hSw); go_simp; (try with_reducible rfl))⟩) (by assumption) ?_
      simp only [Act.put, List.getElem_toArray, List.getElem_cons_succ, List.getElem_cons_zero, List.setIfInBounds_toArray, List.set_cons_zero, List.set_cons_succ]
      refine wpAnyH_done (by kernel_rfl) ?_ _
      refine NoPanic.normal ?_
      go_wp2_with fail
      go_ret
      exact ⟨by simp, HB3.out⟩
    · have hd : decide ((an : Int) = argsOf k) = false := decide_eq_false hEq
      have HD := Lib.hid hd
      have hE2 : ((an : Int) == argsOf k) = false := by simpa using hEq
      rw [HD.out]
      clear hd hEq
      go_enter Tryz.func24, Tryz.ntmps24
      go_wp2_with fail
      refine (H1.out _).mono ?_
      rintro e w2 ⟨rfl, hb⟩
      have HK2 := Lib.hid ((hb.block w.heap.size (by simp)).trans (heap_alloc_new w _))
      have HB2 := Lib.hid (((Below.refl _ w).alloc (Nat.le_refl _) _).trans (hb.mono (by simp)))
      clear hb
      obtain ⟨x0, x1, x2, x3, x4, x5, x6, x7, x8, x9, xf, xz⟩ := blk10 HK2.out
      dsimp only
      go_upto_region 20 with fail
      have HSQ : Hid (∀ wx, Below w2.heap.size w2 wx → wx.cell? ⟨w.heap.size, 0, none⟩ = some (.int .i64 k) ∧ wx.cell? ⟨w.heap.size, 8, none⟩ = some (.slice a an ac)) := Lib.hid fun wx hb => by
        obtain ⟨a0, _, _, _, _, _, _, _, a8, _⟩ := blk10 ((hb.block w.heap.size xz).trans HK2.out)
        exact ⟨a0, a8⟩
      clear x0 x1 x2 x3 x4 x5 x6 x7 x8 x9 xf
      refine wp_region_noPanic ?_
      refine wp_region_held_drew (S := (fun w' => w'.cell? ⟨w.heap.size, 0, none⟩ = some (.int .i64 k) ∧ w'.cell? ⟨w.heap.size, 8, none⟩ = some (.slice a an ac))) (by kernel_rfl) (HSQ.out _ (drew_below (Below.refl _ _))) (fun hHeld => ?_)
      refine wpAnyH_take (i := 0) (v := _) rfl (by kernel_rfl) (by kernel_rfl) (by kernel_rfl) (fun _ _ _ h => h) (Or.inl ⟨by rfl, by (intro w hSw; (try dsimp only at hSw); go_simp; (try with_reducible rfl))⟩) (by assumption) ?_
      simp only [Act.put, List.getElem_toArray, List.getElem_cons_zero, List.setIfInBounds_toArray, List.set_cons_zero, List.set_cons_succ]
      refine wpAnyH_take (i := 1) (v := _) rfl (by kernel_rfl) (by kernel_rfl) (by kernel_rfl) (fun _ _ _ h => h) (Or.inl ⟨by rfl, by (intro w hSw; (try dsimp only at hSw); go_simp; (try with_reducible rfl))⟩) (by assumption) ?_
      simp only [Act.put, List.getElem_toArray, List.getElem_cons_succ, List.getElem_cons_zero, List.setIfInBounds_toArray, List.set_cons_zero, List.set_cons_succ]
      refine wpAnyH_take (i := 2) (v := _) rfl (by kernel_rfl) (by kernel_rfl) (by kernel_rfl) (fun _ _ _ h => h) (Or.inl ⟨by rfl, by (intro w hSw; (try dsimp only at hSw); go_simp; (try with_reducible rfl))⟩) (by assumption) ?_
      simp only [Act.put, List.getElem_toArray, List.getElem_cons_succ, List.getElem_cons_zero, List.setIfInBounds_toArray, List.set_cons_zero, List.set_cons_succ]
      refine wpAnyH_take (i := 3) (v := _) rfl (by kernel_rfl) (by kernel_rfl) (by kernel_rfl) (fun _ _ _ h => h) (Or.inl ⟨by rfl, by (intro w hSw; (try dsimp only at hSw); go_simp; (try with_reducible rfl))⟩) (by assumption) ?_
      simp only [Act.put, List.getElem_toArray, List.getElem_cons_succ, List.getElem_cons_zero, List.setIfInBounds_toArray, List.set_cons_zero, List.set_cons_succ]
      refine wpAnyH_take (i := 4) (v := _) rfl (by kernel_rfl) (by kernel_rfl) (by kernel_rfl) (fun _ _ _ h => h) (Or.inl ⟨by rfl, by (intro w hSw; (try dsimp only at hSw); go_simp; (try with_reducible rfl))⟩) (by assumption) ?_
      simp only [Act.put, List.getElem_toArray, List.getElem_cons_succ, List.getElem_cons_zero, List.setIfInBounds_toArray, List.set_cons_zero, List.set_cons_succ]
      refine wpAnyH_ready (rs := [5]) (by kernel_rfl) (by simp) ?_
      refine AllReadyH.cons (o := _) rfl (fun K hK => ?_) AllReadyH.nil
      go_simp
      refine (arguments_any _ _).mono ?_
      rintro e wy ⟨rfl, rfl⟩
      dsimp only
      refine hK.out _ _ hHeld (fun _ => ?_)
      clear hK K
      refine wpAnyH_take (i := 6) (v := .bool false) rfl (by kernel_rfl) (by kernel_rfl) (by kernel_rfl) (fun _ _ _ h => h) (Or.inl ⟨by rfl, by (intro w hSw; (try dsimp only at hSw); go_simp; (try with_reducible rfl))⟩) (by assumption) ?_
      simp only [Act.put, List.getElem_toArray, List.getElem_cons_succ, List.getElem_cons_zero, List.setIfInBounds_toArray, List.set_cons_zero, List.set_cons_succ]
      refine wpAnyH_take (i := 7) (v := _) rfl (by kernel_rfl) (by kernel_rfl) (by kernel_rfl) (fun _ _ _ h => h) (Or.inl ⟨by rfl, by (intro w hSw; (try dsimp only at hSw); go_simp; (try with_reducible rfl))⟩) (by assumption) ?_
      simp only [Act.put, List.getElem_toArray, List.getElem_cons_succ, List.getElem_cons_zero, List.setIfInBounds_toArray, List.set_cons_zero, List.set_cons_succ]
      refine wpAnyH_take (i := 8) (v := _) rfl (by kernel_rfl) (by kernel_rfl) (by kernel_rfl) (fun _ _ _ h => h) (Or.inr ⟨by rfl, rfl⟩) (by assumption) ?_
      simp only [Act.put, List.getElem_toArray, List.getElem_cons_succ, List.getElem_cons_zero, List.setIfInBounds_toArray, List.set_cons_zero, List.set_cons_succ]
      refine wpAnyH_take (i := 9) (v := _) rfl (by kernel_rfl) (by kernel_rfl) (by kernel_rfl) (fun _ _ _ h => h) (Or.inr ⟨by rfl, rfl⟩) (by assumption) ?_
      simp only [Act.put, List.getElem_toArray, List.getElem_cons_succ, List.getElem_cons_zero, List.setIfInBounds_toArray, List.set_cons_zero, List.set_cons_succ]
      refine wpAnyH_take (i := 10) (v := _) rfl (by kernel_rfl) (by kernel_rfl) (by kernel_rfl) (fun _ _ _ h => h) (Or.inr ⟨by rfl, rfl⟩) (by assumption) ?_
      simp only [Act.put, List.getElem_toArray, List.getElem_cons_succ, List.getElem_cons_zero, List.setIfInBounds_toArray, List.set_cons_zero, List.set_cons_succ]
      refine wpAnyH_take (i := 11) (v := _) rfl (by kernel_rfl) (by kernel_rfl) (by kernel_rfl) (fun _ _ _ h => h) (Or.inl ⟨by rfl, by (intro w hSw; (try dsimp only at hSw); go_simp; (try with_reducible rfl))⟩) (by assumption) ?_
      simp only [Act.put, List.getElem_toArray, List.getElem_cons_succ, List.getElem_cons_zero, List.setIfInBounds_toArray, List.set_cons_zero, List.set_cons_succ]
      refine wpAnyH_take (i := 12) (v := _) rfl (by kernel_rfl) (by kernel_rfl) (by kernel_rfl) (fun _ _ _ h => h) (Or.inl ⟨by rfl, by (intro w hSw; (try dsimp only at hSw); go_simp; (try with_reducible rfl))⟩) (by assumption) ?_
      simp only [Act.put, List.getElem_toArray, List.getElem_cons_succ, List.getElem_cons_zero, List.setIfInBounds_toArray, List.set_cons_zero, List.set_cons_succ]
      refine wpAnyH_done (by kernel_rfl) ?_ _
      refine NoPanic.normal ?_
      go_wp2_with fail
      go_ret
      exact ⟨by simp, HB2.out.drew⟩

set_option maxRecDepth 100000 in
set_option maxHeartbeats 10000000 in
theorem vexpr_isnull (hk : k = 6) (b1 bl : Bool) (h1 : ∀ wx, Calls Tryz.prog 50 #[.agg #[.int .i64 k, .int .i64 o, .bool no, .int .i64 vk, .int .i64 vi, .string vt, .string t, .string nm, .slice a an ac, .slice s sn sc], .int .i64 18] wx (RetBel (.bool b1) wx)) (hv : ∀ wx, Below w.heap.size w wx → Calls Tryz.prog 55 #[.slice a an ac] wx (RetBel (.bool bl) wx)) :
    Calls Tryz.prog 24 #[.agg #[.int .i64 k, .int .i64 o, .bool no, .int .i64 vk, .int .i64 vi, .string vt, .string t, .string nm, .slice a an ac, .slice s sn sc]] w (RetBel (.bool (b1 && (decide ((an : Int) = argsOf k) && bl))) w) := by
  subst hk
  have H1 := Lib.hid h1
  have HV := Lib.hid hv
  clear h1 hv
  cases b1
  · go_enter Tryz.func24, Tryz.ntmps24
    go_wp2_with fail
    refine (H1.out _).mono ?_
    rintro e w2 ⟨rfl, hb⟩
    have HK2 := Lib.hid ((hb.block w.heap.size (by simp)).trans (heap_alloc_new w _))
    have HB2 := Lib.hid (((Below.refl _ w).alloc (Nat.le_refl _) _).trans (hb.mono (by simp)))
    clear hb
    obtain ⟨x0, x1, x2, x3, x4, x5, x6, x7, x8, x9, xf, xz⟩ := blk10 HK2.out
    dsimp only
    go_wp2_with fail
    go_ret
    exact ⟨by simp, HB2.out⟩
  · by_cases hEq : (an : Int) = argsOf 6
    · have hd : decide ((an : Int) = argsOf 6) = true := decide_eq_true hEq
      have HD := Lib.hid hd
      have hE2 : ((an : Int) == argsOf 6) = true := by simpa using hEq
      rw [HD.out]
      clear hd hEq
      go_enter Tryz.func24, Tryz.ntmps24
      go_wp2_with fail
      refine (H1.out _).mono ?_
      rintro e w2 ⟨rfl, hb⟩
      have HK2 := Lib.hid ((hb.block w.heap.size (by simp)).trans (heap_alloc_new w _))
      have HB2 := Lib.hid (((Below.refl _ w).alloc (Nat.le_refl _) _).trans (hb.mono (by simp)))
      clear hb
      obtain ⟨x0, x1, x2, x3, x4, x5, x6, x7, x8, x9, xf, xz⟩ := blk10 HK2.out
      dsimp only
      go_upto_region 20 with fail
      have HSQ : Hid (∀ wx, Below w2.heap.size w2 wx → wx.cell? ⟨w.heap.size, 0, none⟩ = some (.int .i64 6) ∧ wx.cell? ⟨w.heap.size, 8, none⟩ = some (.slice a an ac)) := Lib.hid fun wx hb => by
        obtain ⟨a0, _, _, _, _, _, _, _, a8, _⟩ := blk10 ((hb.block w.heap.size xz).trans HK2.out)
        exact ⟨a0, a8⟩
      clear x0 x1 x2 x3 x4 x5 x6 x7 x8 x9 xf
      refine wp_region_noPanic ?_
      refine wp_region_held_drew (S := (fun w' => w'.cell? ⟨w.heap.size, 0, none⟩ = some (.int .i64 6) ∧ w'.cell? ⟨w.heap.size, 8, none⟩ = some (.slice a an ac))) (by kernel_rfl) (HSQ.out _ (drew_below (Below.refl _ _))) (fun hHeld => ?_)
      refine wpAnyH_take (i := 0) (v := _) rfl (by kernel_rfl) (by kernel_rfl) (by kernel_rfl) (fun _ _ _ h => h) (Or.inl ⟨by rfl, by (intro w hSw; (try dsimp only at hSw); go_simp; (try with_reducible rfl))⟩) (by assumption) ?_
      simp only [Act.put, List.getElem_toArray, List.getElem_cons_zero, List.setIfInBounds_toArray, List.set_cons_zero, List.set_cons_succ]
      refine wpAnyH_take (i := 1) (v := _) rfl (by kernel_rfl) (by kernel_rfl) (by kernel_rfl) (fun _ _ _ h => h) (Or.inl ⟨by rfl, by (intro w hSw; (try dsimp only at hSw); go_simp; (try with_reducible rfl))⟩) (by assumption) ?_
      simp only [Act.put, List.getElem_toArray, List.getElem_cons_succ, List.getElem_cons_zero, List.setIfInBounds_toArray, List.set_cons_zero, List.set_cons_succ]
      refine wpAnyH_take (i := 2) (v := _) rfl (by kernel_rfl) (by kernel_rfl) (by kernel_rfl) (fun _ _ _ h => h) (Or.inl ⟨by rfl, by (intro w hSw; (try dsimp only at hSw); go_simp; (try with_reducible rfl))⟩) (by assumption) ?_
      simp only [Act.put, List.getElem_toArray, List.getElem_cons_succ, List.getElem_cons_zero, List.setIfInBounds_toArray, List.set_cons_zero, List.set_cons_succ]
      refine wpAnyH_take (i := 3) (v := _) rfl (by kernel_rfl) (by kernel_rfl) (by kernel_rfl) (fun _ _ _ h => h) (Or.inl ⟨by rfl, by (intro w hSw; (try dsimp only at hSw); go_simp; (try with_reducible rfl))⟩) (by assumption) ?_
      simp only [Act.put, List.getElem_toArray, List.getElem_cons_succ, List.getElem_cons_zero, List.setIfInBounds_toArray, List.set_cons_zero, List.set_cons_succ]
      refine wpAnyH_take (i := 4) (v := _) rfl (by kernel_rfl) (by kernel_rfl) (by kernel_rfl) (fun _ _ _ h => h) (Or.inl ⟨by rfl, by (intro w hSw; (try dsimp only at hSw); go_simp; (try with_reducible rfl))⟩) (by assumption) ?_
      simp only [Act.put, List.getElem_toArray, List.getElem_cons_succ, List.getElem_cons_zero, List.setIfInBounds_toArray, List.set_cons_zero, List.set_cons_succ]
      refine wpAnyH_ready (rs := [5]) (by kernel_rfl) (by simp) ?_
      refine AllReadyH.cons (o := _) rfl (fun K hK => ?_) AllReadyH.nil
      go_simp
      refine (arguments_any _ _).mono ?_
      rintro e wy ⟨rfl, rfl⟩
      dsimp only
      refine hK.out _ _ hHeld (fun _ => ?_)
      clear hK K
      refine wpAnyH_take (i := 6) (v := .bool true) rfl (by kernel_rfl) (by kernel_rfl) (by kernel_rfl) (fun _ _ _ h => h) (Or.inl ⟨by rfl, by (intro w hSw; (try dsimp only at hSw); go_simp; (try with_reducible rfl))⟩) (by assumption) ?_
      simp only [Act.put, List.getElem_toArray, List.getElem_cons_succ, List.getElem_cons_zero, List.setIfInBounds_toArray, List.set_cons_zero, List.set_cons_succ]
      refine wpAnyH_take (i := 7) (v := _) rfl (by kernel_rfl) (by kernel_rfl) (by kernel_rfl) (fun _ _ _ h => h) (Or.inl ⟨by rfl, by (intro w hSw; (try dsimp only at hSw); go_simp; (try with_reducible rfl))⟩) (by assumption) ?_
      simp only [Act.put, List.getElem_toArray, List.getElem_cons_succ, List.getElem_cons_zero, List.setIfInBounds_toArray, List.set_cons_zero, List.set_cons_succ]
      refine wpAnyH_take (i := 8) (v := _) rfl (by kernel_rfl) (by kernel_rfl) (by kernel_rfl) (fun _ _ _ h => h) (Or.inl ⟨by rfl, by (intro w hSw; (try dsimp only at hSw); go_simp; (try with_reducible rfl))⟩) (by assumption) ?_
      simp only [Act.put, List.getElem_toArray, List.getElem_cons_succ, List.getElem_cons_zero, List.setIfInBounds_toArray, List.set_cons_zero, List.set_cons_succ]
      refine wpAnyH_take (i := 9) (v := _) rfl (by kernel_rfl) (by kernel_rfl) (by kernel_rfl) (fun _ _ _ h => h) (Or.inl ⟨by rfl, by (intro w hSw; (try dsimp only at hSw); go_simp; (try with_reducible rfl))⟩) (by assumption) ?_
      simp only [Act.put, List.getElem_toArray, List.getElem_cons_succ, List.getElem_cons_zero, List.setIfInBounds_toArray, List.set_cons_zero, List.set_cons_succ]
      refine wpAnyH_ready (rs := [10]) (by kernel_rfl) (by simp) ?_
      refine AllReadyH.cons (o := _) rfl (fun K hK => ?_) AllReadyH.nil
      go_simp
      refine (HV.out _ HB2.out.drew).mono ?_
      rintro e wy ⟨rfl, hb⟩
      have HB3 := Lib.hid (HB2.out.drew.trans (hb.mono HB2.out.drew.size))
      dsimp only
      refine hK.out _ _ (HSQ.out _ ((drew_below (Below.refl _ _)).trans (hb.mono (Nat.le_refl _)))) (fun hHeld => ?_)
      clear hK K hb
      refine wpAnyH_take (i := 11) (v := _) rfl (by kernel_rfl) (by kernel_rfl) (by kernel_rfl) (fun _ _ _ h => h) (Or.inl ⟨by rfl, by (intro w hSw; (try dsimp only at hSw); go_simp; (try with_reducible rfl))⟩) (by assumption) ?_
      simp only [Act.put, List.getElem_toArray, List.getElem_cons_succ, List.getElem_cons_zero, List.setIfInBounds_toArray, List.set_cons_zero, List.set_cons_succ]
      refine wpAnyH_take (i := 12) (v := _) rfl (by kernel_rfl) (by kernel_rfl) (by kernel_rfl) (fun _ _ _ h => h) (Or.inl ⟨by rfl, by (intro w hSw; (try dsimp only at hSw); go_simp; (try with_reducible rfl))⟩) (by assumption) ?_
      simp only [Act.put, List.getElem_toArray, List.getElem_cons_succ, List.getElem_cons_zero, List.setIfInBounds_toArray, List.set_cons_zero, List.set_cons_succ]
      refine wpAnyH_done (by kernel_rfl) ?_ _
      refine NoPanic.normal ?_
      go_wp2_with fail
      go_ret
      exact ⟨by simp, HB3.out⟩
    · have hd : decide ((an : Int) = argsOf 6) = false := decide_eq_false hEq
      have HD := Lib.hid hd
      have hE2 : ((an : Int) == argsOf 6) = false := by simpa using hEq
      rw [HD.out]
      clear hd hEq
      go_enter Tryz.func24, Tryz.ntmps24
      go_wp2_with fail
      refine (H1.out _).mono ?_
      rintro e w2 ⟨rfl, hb⟩
      have HK2 := Lib.hid ((hb.block w.heap.size (by simp)).trans (heap_alloc_new w _))
      have HB2 := Lib.hid (((Below.refl _ w).alloc (Nat.le_refl _) _).trans (hb.mono (by simp)))
      clear hb
      obtain ⟨x0, x1, x2, x3, x4, x5, x6, x7, x8, x9, xf, xz⟩ := blk10 HK2.out
      dsimp only
      go_upto_region 20 with fail
      have HSQ : Hid (∀ wx, Below w2.heap.size w2 wx → wx.cell? ⟨w.heap.size, 0, none⟩ = some (.int .i64 6) ∧ wx.cell? ⟨w.heap.size, 8, none⟩ = some (.slice a an ac)) := Lib.hid fun wx hb => by
        obtain ⟨a0, _, _, _, _, _, _, _, a8, _⟩ := blk10 ((hb.block w.heap.size xz).trans HK2.out)
        exact ⟨a0, a8⟩
      clear x0 x1 x2 x3 x4 x5 x6 x7 x8 x9 xf
      refine wp_region_noPanic ?_
      refine wp_region_held_drew (S := (fun w' => w'.cell? ⟨w.heap.size, 0, none⟩ = some (.int .i64 6) ∧ w'.cell? ⟨w.heap.size, 8, none⟩ = some (.slice a an ac))) (by kernel_rfl) (HSQ.out _ (drew_below (Below.refl _ _))) (fun hHeld => ?_)
      refine wpAnyH_take (i := 0) (v := _) rfl (by kernel_rfl) (by kernel_rfl) (by kernel_rfl) (fun _ _ _ h => h) (Or.inl ⟨by rfl, by (intro w hSw; (try dsimp only at hSw); go_simp; (try with_reducible rfl))⟩) (by assumption) ?_
      simp only [Act.put, List.getElem_toArray, List.getElem_cons_zero, List.setIfInBounds_toArray, List.set_cons_zero, List.set_cons_succ]
      refine wpAnyH_take (i := 1) (v := _) rfl (by kernel_rfl) (by kernel_rfl) (by kernel_rfl) (fun _ _ _ h => h) (Or.inl ⟨by rfl, by (intro w hSw; (try dsimp only at hSw); go_simp; (try with_reducible rfl))⟩) (by assumption) ?_
      simp only [Act.put, List.getElem_toArray, List.getElem_cons_succ, List.getElem_cons_zero, List.setIfInBounds_toArray, List.set_cons_zero, List.set_cons_succ]
      refine wpAnyH_take (i := 2) (v := _) rfl (by kernel_rfl) (by kernel_rfl) (by kernel_rfl) (fun _ _ _ h => h) (Or.inl ⟨by rfl, by (intro w hSw; (try dsimp only at hSw); go_simp; (try with_reducible rfl))⟩) (by assumption) ?_
      simp only [Act.put, List.getElem_toArray, List.getElem_cons_succ, List.getElem_cons_zero, List.setIfInBounds_toArray, List.set_cons_zero, List.set_cons_succ]
      refine wpAnyH_take (i := 3) (v := _) rfl (by kernel_rfl) (by kernel_rfl) (by kernel_rfl) (fun _ _ _ h => h) (Or.inl ⟨by rfl, by (intro w hSw; (try dsimp only at hSw); go_simp; (try with_reducible rfl))⟩) (by assumption) ?_
      simp only [Act.put, List.getElem_toArray, List.getElem_cons_succ, List.getElem_cons_zero, List.setIfInBounds_toArray, List.set_cons_zero, List.set_cons_succ]
      refine wpAnyH_take (i := 4) (v := _) rfl (by kernel_rfl) (by kernel_rfl) (by kernel_rfl) (fun _ _ _ h => h) (Or.inl ⟨by rfl, by (intro w hSw; (try dsimp only at hSw); go_simp; (try with_reducible rfl))⟩) (by assumption) ?_
      simp only [Act.put, List.getElem_toArray, List.getElem_cons_succ, List.getElem_cons_zero, List.setIfInBounds_toArray, List.set_cons_zero, List.set_cons_succ]
      refine wpAnyH_ready (rs := [5]) (by kernel_rfl) (by simp) ?_
      refine AllReadyH.cons (o := _) rfl (fun K hK => ?_) AllReadyH.nil
      go_simp
      refine (arguments_any _ _).mono ?_
      rintro e wy ⟨rfl, rfl⟩
      dsimp only
      refine hK.out _ _ hHeld (fun _ => ?_)
      clear hK K
      refine wpAnyH_take (i := 6) (v := .bool false) rfl (by kernel_rfl) (by kernel_rfl) (by kernel_rfl) (fun _ _ _ h => h) (Or.inl ⟨by rfl, by (intro w hSw; (try dsimp only at hSw); go_simp; (try with_reducible rfl))⟩) (by assumption) ?_
      simp only [Act.put, List.getElem_toArray, List.getElem_cons_succ, List.getElem_cons_zero, List.setIfInBounds_toArray, List.set_cons_zero, List.set_cons_succ]
      refine wpAnyH_take (i := 7) (v := _) rfl (by kernel_rfl) (by kernel_rfl) (by kernel_rfl) (fun _ _ _ h => h) (Or.inl ⟨by rfl, by (intro w hSw; (try dsimp only at hSw); go_simp; (try with_reducible rfl))⟩) (by assumption) ?_
      simp only [Act.put, List.getElem_toArray, List.getElem_cons_succ, List.getElem_cons_zero, List.setIfInBounds_toArray, List.set_cons_zero, List.set_cons_succ]
      refine wpAnyH_take (i := 8) (v := _) rfl (by kernel_rfl) (by kernel_rfl) (by kernel_rfl) (fun _ _ _ h => h) (Or.inr ⟨by rfl, rfl⟩) (by assumption) ?_
      simp only [Act.put, List.getElem_toArray, List.getElem_cons_succ, List.getElem_cons_zero, List.setIfInBounds_toArray, List.set_cons_zero, List.set_cons_succ]
      refine wpAnyH_take (i := 9) (v := _) rfl (by kernel_rfl) (by kernel_rfl) (by kernel_rfl) (fun _ _ _ h => h) (Or.inr ⟨by rfl, rfl⟩) (by assumption) ?_
      simp only [Act.put, List.getElem_toArray, List.getElem_cons_succ, List.getElem_cons_zero, List.setIfInBounds_toArray, List.set_cons_zero, List.set_cons_succ]
      refine wpAnyH_take (i := 10) (v := _) rfl (by kernel_rfl) (by kernel_rfl) (by kernel_rfl) (fun _ _ _ h => h) (Or.inr ⟨by rfl, rfl⟩) (by assumption) ?_
      simp only [Act.put, List.getElem_toArray, List.getElem_cons_succ, List.getElem_cons_zero, List.setIfInBounds_toArray, List.set_cons_zero, List.set_cons_succ]
      refine wpAnyH_take (i := 11) (v := _) rfl (by kernel_rfl) (by kernel_rfl) (by kernel_rfl) (fun _ _ _ h => h) (Or.inl ⟨by rfl, by (intro w hSw; (try dsimp only at hSw); go_simp; (try with_reducible rfl))⟩) (by assumption) ?_
      simp only [Act.put, List.getElem_toArray, List.getElem_cons_succ, List.getElem_cons_zero, List.setIfInBounds_toArray, List.set_cons_zero, List.set_cons_succ]
      refine wpAnyH_take (i := 12) (v := _) rfl (by kernel_rfl) (by kernel_rfl) (by kernel_rfl) (fun _ _ _ h => h) (Or.inl ⟨by rfl, by (intro w hSw; (try dsimp only at hSw); go_simp; (try with_reducible rfl))⟩) (by assumption) ?_
      simp only [Act.put, List.getElem_toArray, List.getElem_cons_succ, List.getElem_cons_zero, List.setIfInBounds_toArray, List.set_cons_zero, List.set_cons_succ]
      refine wpAnyH_done (by kernel_rfl) ?_ _
      refine NoPanic.normal ?_
      go_wp2_with fail
      go_ret
      exact ⟨by simp, HB2.out.drew⟩

set_option maxRecDepth 100000 in
set_option maxHeartbeats 10000000 in
theorem vexpr_binary (hk : k = 5) (ho : 1 ≤ o ∧ o ≤ 13) (b1 bl : Bool) (h1 : ∀ wx, Calls Tryz.prog 50 #[.agg #[.int .i64 k, .int .i64 o, .bool no, .int .i64 vk, .int .i64 vi, .string vt, .string t, .string nm, .slice a an ac, .slice s sn sc], .int .i64 17] wx (RetBel (.bool b1) wx)) (hv : ∀ wx, Below w.heap.size w wx → Calls Tryz.prog 55 #[.slice a an ac] wx (RetBel (.bool bl) wx)) :
    Calls Tryz.prog 24 #[.agg #[.int .i64 k, .int .i64 o, .bool no, .int .i64 vk, .int .i64 vi, .string vt, .string t, .string nm, .slice a an ac, .slice s sn sc]] w (RetBel (.bool (b1 && (decide ((an : Int) = argsOf k) && bl))) w) := by
  subst hk
  have ho1 : ¬ o < 1 := by omega
  have ho2 : ¬ 13 < o := by omega
  clear ho
  have H1 := Lib.hid h1
  have HV := Lib.hid hv
  clear h1 hv
  cases b1
  · go_enter Tryz.func24, Tryz.ntmps24
    go_wp2_with fail
    refine (H1.out _).mono ?_
    rintro e w2 ⟨rfl, hb⟩
    have HK2 := Lib.hid ((hb.block w.heap.size (by simp)).trans (heap_alloc_new w _))
    have HB2 := Lib.hid (((Below.refl _ w).alloc (Nat.le_refl _) _).trans (hb.mono (by simp)))
    clear hb
    obtain ⟨x0, x1, x2, x3, x4, x5, x6, x7, x8, x9, xf, xz⟩ := blk10 HK2.out
    dsimp only
    go_wp2_with fail
    go_ret
    exact ⟨by simp, HB2.out⟩
  · by_cases hEq : (an : Int) = argsOf 5
    · have hd : decide ((an : Int) = argsOf 5) = true := decide_eq_true hEq
      have HD := Lib.hid hd
      have hE2 : ((an : Int) == argsOf 5) = true := by simpa using hEq
      rw [HD.out]
      clear hd hEq
      go_enter Tryz.func24, Tryz.ntmps24
      go_wp2_with fail
      refine (H1.out _).mono ?_
      rintro e w2 ⟨rfl, hb⟩
      have HK2 := Lib.hid ((hb.block w.heap.size (by simp)).trans (heap_alloc_new w _))
      have HB2 := Lib.hid (((Below.refl _ w).alloc (Nat.le_refl _) _).trans (hb.mono (by simp)))
      clear hb
      obtain ⟨x0, x1, x2, x3, x4, x5, x6, x7, x8, x9, xf, xz⟩ := blk10 HK2.out
      dsimp only
      go_upto_region 20 with fail
      have HSQ : Hid (∀ wx, Below w2.heap.size w2 wx → wx.cell? ⟨w.heap.size, 0, none⟩ = some (.int .i64 5) ∧ wx.cell? ⟨w.heap.size, 8, none⟩ = some (.slice a an ac)) := Lib.hid fun wx hb => by
        obtain ⟨a0, _, _, _, _, _, _, _, a8, _⟩ := blk10 ((hb.block w.heap.size xz).trans HK2.out)
        exact ⟨a0, a8⟩
      clear x0 x1 x2 x3 x4 x5 x6 x7 x8 x9 xf
      refine wp_region_noPanic ?_
      refine wp_region_held_drew (S := (fun w' => w'.cell? ⟨w.heap.size, 0, none⟩ = some (.int .i64 5) ∧ w'.cell? ⟨w.heap.size, 8, none⟩ = some (.slice a an ac))) (by kernel_rfl) (HSQ.out _ (drew_below (Below.refl _ _))) (fun hHeld => ?_)
      refine wpAnyH_take (i := 0) (v := _) rfl (by kernel_rfl) (by kernel_rfl) (by kernel_rfl) (fun _ _ _ h => h) (Or.inl ⟨by rfl, by (intro w hSw; (try dsimp only at hSw); go_simp; (try with_reducible rfl))⟩) (by assumption) ?_
      simp only [Act.put, List.getElem_toArray, List.getElem_cons_zero, List.setIfInBounds_toArray, List.set_cons_zero, List.set_cons_succ]
      refine wpAnyH_take (i := 1) (v := _) rfl (by kernel_rfl) (by kernel_rfl) (by kernel_rfl) (fun _ _ _ h => h) (Or.inl ⟨by rfl, by (intro w hSw; (try dsimp only at hSw); go_simp; (try with_reducible rfl))⟩) (by assumption) ?_
      simp only [Act.put, List.getElem_toArray, List.getElem_cons_succ, List.getElem_cons_zero, List.setIfInBounds_toArray, List.set_cons_zero, List.set_cons_succ]
      refine wpAnyH_take (i := 2) (v := _) rfl (by kernel_rfl) (by kernel_rfl) (by kernel_rfl) (fun _ _ _ h => h) (Or.inl ⟨by rfl, by (intro w hSw; (try dsimp only at hSw); go_simp; (try with_reducible rfl))⟩) (by assumption) ?_
      simp only [Act.put, List.getElem_toArray, List.getElem_cons_succ, List.getElem_cons_zero, List.setIfInBounds_toArray, List.set_cons_zero, List.set_cons_succ]
      refine wpAnyH_take (i := 3) (v := _) rfl (by kernel_rfl) (by kernel_rfl) (by kernel_rfl) (fun _ _ _ h => h) (Or.inl ⟨by rfl, by (intro w hSw; (try dsimp only at hSw); go_simp; (try with_reducible rfl))⟩) (by assumption) ?_
      simp only [Act.put, List.getElem_toArray, List.getElem_cons_succ, List.getElem_cons_zero, List.setIfInBounds_toArray, List.set_cons_zero, List.set_cons_succ]
      refine wpAnyH_take (i := 4) (v := _) rfl (by kernel_rfl) (by kernel_rfl) (by kernel_rfl) (fun _ _ _ h => h) (Or.inl ⟨by rfl, by (intro w hSw; (try dsimp only at hSw); go_simp; (try with_reducible rfl))⟩) (by assumption) ?_
      simp only [Act.put, List.getElem_toArray, List.getElem_cons_succ, List.getElem_cons_zero, List.setIfInBounds_toArray, List.set_cons_zero, List.set_cons_succ]
      refine wpAnyH_ready (rs := [5]) (by kernel_rfl) (by simp) ?_
      refine AllReadyH.cons (o := _) rfl (fun K hK => ?_) AllReadyH.nil
      go_simp
      refine (arguments_any _ _).mono ?_
      rintro e wy ⟨rfl, rfl⟩
      dsimp only
      refine hK.out _ _ hHeld (fun _ => ?_)
      clear hK K
      refine wpAnyH_take (i := 6) (v := .bool true) rfl (by kernel_rfl) (by kernel_rfl) (by kernel_rfl) (fun _ _ _ h => h) (Or.inl ⟨by rfl, by (intro w hSw; (try dsimp only at hSw); go_simp; (try with_reducible rfl))⟩) (by assumption) ?_
      simp only [Act.put, List.getElem_toArray, List.getElem_cons_succ, List.getElem_cons_zero, List.setIfInBounds_toArray, List.set_cons_zero, List.set_cons_succ]
      refine wpAnyH_take (i := 7) (v := _) rfl (by kernel_rfl) (by kernel_rfl) (by kernel_rfl) (fun _ _ _ h => h) (Or.inl ⟨by rfl, by (intro w hSw; (try dsimp only at hSw); go_simp; (try with_reducible rfl))⟩) (by assumption) ?_
      simp only [Act.put, List.getElem_toArray, List.getElem_cons_succ, List.getElem_cons_zero, List.setIfInBounds_toArray, List.set_cons_zero, List.set_cons_succ]
      refine wpAnyH_take (i := 8) (v := _) rfl (by kernel_rfl) (by kernel_rfl) (by kernel_rfl) (fun _ _ _ h => h) (Or.inl ⟨by rfl, by (intro w hSw; (try dsimp only at hSw); go_simp; (try with_reducible rfl))⟩) (by assumption) ?_
      simp only [Act.put, List.getElem_toArray, List.getElem_cons_succ, List.getElem_cons_zero, List.setIfInBounds_toArray, List.set_cons_zero, List.set_cons_succ]
      refine wpAnyH_take (i := 9) (v := _) rfl (by kernel_rfl) (by kernel_rfl) (by kernel_rfl) (fun _ _ _ h => h) (Or.inl ⟨by rfl, by (intro w hSw; (try dsimp only at hSw); go_simp; (try with_reducible rfl))⟩) (by assumption) ?_
      simp only [Act.put, List.getElem_toArray, List.getElem_cons_succ, List.getElem_cons_zero, List.setIfInBounds_toArray, List.set_cons_zero, List.set_cons_succ]
      refine wpAnyH_ready (rs := [10]) (by kernel_rfl) (by simp) ?_
      refine AllReadyH.cons (o := _) rfl (fun K hK => ?_) AllReadyH.nil
      go_simp
      refine (HV.out _ HB2.out.drew).mono ?_
      rintro e wy ⟨rfl, hb⟩
      have HB3 := Lib.hid (HB2.out.drew.trans (hb.mono HB2.out.drew.size))
      dsimp only
      refine hK.out _ _ (HSQ.out _ ((drew_below (Below.refl _ _)).trans (hb.mono (Nat.le_refl _)))) (fun hHeld => ?_)
      clear hK K hb
      refine wpAnyH_take (i := 11) (v := _) rfl (by kernel_rfl) (by kernel_rfl) (by kernel_rfl) (fun _ _ _ h => h) (Or.inl ⟨by rfl, by (intro w hSw; (try dsimp only at hSw); go_simp; (try with_reducible rfl))⟩) (by assumption) ?_
      simp only [Act.put, List.getElem_toArray, List.getElem_cons_succ, List.getElem_cons_zero, List.setIfInBounds_toArray, List.set_cons_zero, List.set_cons_succ]
      refine wpAnyH_take (i := 12) (v := _) rfl (by kernel_rfl) (by kernel_rfl) (by kernel_rfl) (fun _ _ _ h => h) (Or.inl ⟨by rfl, by (intro w hSw; (try dsimp only at hSw); go_simp; (try with_reducible rfl))⟩) (by assumption) ?_
      simp only [Act.put, List.getElem_toArray, List.getElem_cons_succ, List.getElem_cons_zero, List.setIfInBounds_toArray, List.set_cons_zero, List.set_cons_succ]
      refine wpAnyH_done (by kernel_rfl) ?_ _
      refine NoPanic.normal ?_
      go_wp2_with fail
      go_ret
      exact ⟨by simp, HB3.out⟩
    · have hd : decide ((an : Int) = argsOf 5) = false := decide_eq_false hEq
      have HD := Lib.hid hd
      have hE2 : ((an : Int) == argsOf 5) = false := by simpa using hEq
      rw [HD.out]
      clear hd hEq
      go_enter Tryz.func24, Tryz.ntmps24
      go_wp2_with fail
      refine (H1.out _).mono ?_
      rintro e w2 ⟨rfl, hb⟩
      have HK2 := Lib.hid ((hb.block w.heap.size (by simp)).trans (heap_alloc_new w _))
      have HB2 := Lib.hid (((Below.refl _ w).alloc (Nat.le_refl _) _).trans (hb.mono (by simp)))
      clear hb
      obtain ⟨x0, x1, x2, x3, x4, x5, x6, x7, x8, x9, xf, xz⟩ := blk10 HK2.out
      dsimp only
      go_upto_region 20 with fail
      have HSQ : Hid (∀ wx, Below w2.heap.size w2 wx → wx.cell? ⟨w.heap.size, 0, none⟩ = some (.int .i64 5) ∧ wx.cell? ⟨w.heap.size, 8, none⟩ = some (.slice a an ac)) := Lib.hid fun wx hb => by
        obtain ⟨a0, _, _, _, _, _, _, _, a8, _⟩ := blk10 ((hb.block w.heap.size xz).trans HK2.out)
        exact ⟨a0, a8⟩
      clear x0 x1 x2 x3 x4 x5 x6 x7 x8 x9 xf
      refine wp_region_noPanic ?_
      refine wp_region_held_drew (S := (fun w' => w'.cell? ⟨w.heap.size, 0, none⟩ = some (.int .i64 5) ∧ w'.cell? ⟨w.heap.size, 8, none⟩ = some (.slice a an ac))) (by kernel_rfl) (HSQ.out _ (drew_below (Below.refl _ _))) (fun hHeld => ?_)
      refine wpAnyH_take (i := 0) (v := _) rfl (by kernel_rfl) (by kernel_rfl) (by kernel_rfl) (fun _ _ _ h => h) (Or.inl ⟨by rfl, by (intro w hSw; (try dsimp only at hSw); go_simp; (try with_reducible rfl))⟩) (by assumption) ?_
      simp only [Act.put, List.getElem_toArray, List.getElem_cons_zero, List.setIfInBounds_toArray, List.set_cons_zero, List.set_cons_succ]
      refine wpAnyH_take (i := 1) (v := _) rfl (by kernel_rfl) (by kernel_rfl) (by kernel_rfl) (fun _ _ _ h => h) (Or.inl ⟨by rfl, by (intro w hSw; (try dsimp only at hSw); go_simp; (try with_reducible rfl))⟩) (by assumption) ?_
      simp only [Act.put, List.getElem_toArray, List.getElem_cons_succ, List.getElem_cons_zero, List.setIfInBounds_toArray, List.set_cons_zero, List.set_cons_succ]
      refine wpAnyH_take (i := 2) (v := _) rfl (by kernel_rfl) (by kernel_rfl) (by kernel_rfl) (fun _ _ _ h => h) (Or.inl ⟨by rfl, by (intro w hSw; (try dsimp only at hSw); go_simp; (try with_reducible rfl))⟩) (by assumption) ?_
      simp only [Act.put, List.getElem_toArray, List.getElem_cons_succ, List.getElem_cons_zero, List.setIfInBounds_toArray, List.set_cons_zero, List.set_cons_succ]
      refine wpAnyH_take (i := 3) (v := _) rfl (by kernel_rfl) (by kernel_rfl) (by kernel_rfl) (fun _ _ _ h => h) (Or.inl ⟨by rfl, by (intro w hSw; (try dsimp only at hSw); go_simp; (try with_reducible rfl))⟩) (by assumption) ?_
      simp only [Act.put, List.getElem_toArray, List.getElem_cons_succ, List.getElem_cons_zero, List.setIfInBounds_toArray, List.set_cons_zero, List.set_cons_succ]
      refine wpAnyH_take (i := 4) (v := _) rfl (by kernel_rfl) (by kernel_rfl) (by kernel_rfl) (fun _ _ _ h => h) (Or.inl ⟨by rfl, by (intro w hSw; (try dsimp only at hSw); go_simp; (try with_reducible rfl))⟩) (by assumption) ?_
      simp only [Act.put, List.getElem_toArray, List.getElem_cons_succ, List.getElem_cons_zero, List.setIfInBounds_toArray, List.set_cons_zero, List.set_cons_succ]
      refine wpAnyH_ready (rs := [5]) (by kernel_rfl) (by simp) ?_
      refine AllReadyH.cons (o := _) rfl (fun K hK => ?_) AllReadyH.nil
      go_simp
      refine (arguments_any _ _).mono ?_
      rintro e wy ⟨rfl, rfl⟩
      dsimp only
      refine hK.out _ _ hHeld (fun _ => ?_)
      clear hK K
      refine wpAnyH_take (i := 6) (v := .bool false) rfl (by kernel_rfl) (by kernel_rfl) (by kernel_rfl) (fun _ _ _ h => h) (Or.inl ⟨by rfl, by (intro w hSw; (try dsimp only at hSw); go_simp; (try with_reducible rfl))⟩) (by assumption) ?_
      simp only [Act.put, List.getElem_toArray, List.getElem_cons_succ, List.getElem_cons_zero, List.setIfInBounds_toArray, List.set_cons_zero, List.set_cons_succ]
      refine wpAnyH_take (i := 7) (v := _) rfl (by kernel_rfl) (by kernel_rfl) (by kernel_rfl) (fun _ _ _ h => h) (Or.inl ⟨by rfl, by (intro w hSw; (try dsimp only at hSw); go_simp; (try with_reducible rfl))⟩) (by assumption) ?_
      simp only [Act.put, List.getElem_toArray, List.getElem_cons_succ, List.getElem_cons_zero, List.setIfInBounds_toArray, List.set_cons_zero, List.set_cons_succ]
      refine wpAnyH_take (i := 8) (v := _) rfl (by kernel_rfl) (by kernel_rfl) (by kernel_rfl) (fun _ _ _ h => h) (Or.inr ⟨by rfl, rfl⟩) (by assumption) ?_
      simp only [Act.put, List.getElem_toArray, List.getElem_cons_succ, List.getElem_cons_zero, List.setIfInBounds_toArray, List.set_cons_zero, List.set_cons_succ]
      refine wpAnyH_take (i := 9) (v := _) rfl (by kernel_rfl) (by kernel_rfl) (by kernel_rfl) (fun _ _ _ h => h) (Or.inr ⟨by rfl, rfl⟩) (by assumption) ?_
      simp only [Act.put, List.getElem_toArray, List.getElem_cons_succ, List.getElem_cons_zero, List.setIfInBounds_toArray, List.set_cons_zero, List.set_cons_succ]
      refine wpAnyH_take (i := 10) (v := _) rfl (by kernel_rfl) (by kernel_rfl) (by kernel_rfl) (fun _ _ _ h => h) (Or.inr ⟨by rfl, rfl⟩) (by assumption) ?_
      simp only [Act.put, List.getElem_toArray, List.getElem_cons_succ, List.getElem_cons_zero, List.setIfInBounds_toArray, List.set_cons_zero, List.set_cons_succ]
      refine wpAnyH_take (i := 11) (v := _) rfl (by kernel_rfl) (by kernel_rfl) (by kernel_rfl) (fun _ _ _ h => h) (Or.inl ⟨by rfl, by (intro w hSw; (try dsimp only at hSw); go_simp; (try with_reducible rfl))⟩) (by assumption) ?_
      simp only [Act.put, List.getElem_toArray, List.getElem_cons_succ, List.getElem_cons_zero, List.setIfInBounds_toArray, List.set_cons_zero, List.set_cons_succ]
      refine wpAnyH_take (i := 12) (v := _) rfl (by kernel_rfl) (by kernel_rfl) (by kernel_rfl) (fun _ _ _ h => h) (Or.inl ⟨by rfl, by (intro w hSw; (try dsimp only at hSw); go_simp; (try with_reducible rfl))⟩) (by assumption) ?_
      simp only [Act.put, List.getElem_toArray, List.getElem_cons_succ, List.getElem_cons_zero, List.setIfInBounds_toArray, List.set_cons_zero, List.set_cons_succ]
      refine wpAnyH_done (by kernel_rfl) ?_ _
      refine NoPanic.normal ?_
      go_wp2_with fail
      go_ret
      exact ⟨by simp, HB2.out.drew⟩

set_option maxRecDepth 100000 in
set_option maxHeartbeats 4000000 in
theorem vexpr_badop (hk : k = 5) (ho : ¬(1 ≤ o ∧ o ≤ 13)) : Calls Tryz.prog 24 #[.agg #[.int .i64 k, .int .i64 o, .bool no, .int .i64 vk, .int .i64 vi, .string vt, .string t, .string nm, .slice a an ac, .slice s sn sc]] w (RetBel (.bool false) w) := by
  subst hk
  by_cases h1 : o < 1
  · clear ho
    go_enter Tryz.func24, Tryz.ntmps24
    go_wp2_with fail
    go_ret
    exact ⟨rfl, by go_grown⟩
  · have h2 : 13 < o := by omega
    clear ho
    go_enter Tryz.func24, Tryz.ntmps24
    go_wp2_with fail
    go_ret
    exact ⟨rfl, by go_grown⟩
end
end Go.Proofs.YtkhlmofcdchccaaGreatDoor

namespace Go.Proofs.YtkhlmofcdchccaaGreatDoor
open Go.RowKit

theorem args_rest {k : Int} (h5 : k ≠ 5) (h6 : k ≠ 6) : argsOf k = if k = 3 ∨ k = 4 then 1 else if k = 7 then 3 else -1 := by
  unfold argsOf
  by_cases h3 : k = 3 ∨ k = 4
  · rw [if_pos (by omega), if_pos h3]
  · rw [if_neg (by omega), if_neg h5, if_neg h3]

set_option maxRecDepth 100000 in
theorem vexpr_any {M : Nat → Prop} (e : Ex) : VexOk M e := by
  refine Ex.ind (P := VexOk M) (fun e hargs hsub => ?_) e
  intro cs w he htx
  obtain ⟨va, vs, rfl, ha, hs⟩ := (EC_iff ..).1 he
  obtain ⟨hv, ht, hn, hta, htf, hti, htw⟩ : e.val.text.size ≤ maxLen ∧ e.table.size ≤ maxLen ∧ e.name.size ≤ maxLen ∧ (∀ a ∈ e.args, TxtOk a) ∧ (∀ q ∈ e.sub, q.frm.size ≤ maxLen) ∧ (∀ q ∈ e.sub, ∀ x ∈ q.items, TxtOk x) ∧ (∀ q ∈ e.sub, ∀ x ∈ q.whr, TxtOk x) := by
    cases htx
    exact ⟨by assumption, by assumption, by assumption, by assumption, by assumption, by assumption, by assumption⟩
  have hq : ∀ wx, Below w.heap.size w wx → QusR M wx vs e.sub := fun wx kb => hs.keep (.bel kb)
  have hx : ∀ wx, Below w.heap.size w wx → ExsR M wx va e.args := fun wx kb => RowsR.map ha (Keep.bel kb) fun x _ cs h => EC.keep (.bel kb) x cs h
  obtain ⟨a, ac, rfl, _⟩ := ha.shape
  obtain ⟨s, sc, rfl, _⟩ := hs.shape
  have hb := fun u wx => bare_any e.kind e.op e.no e.val.kind e.val.int e.val.text e.table e.name a s e.args.length e.sub.length ac sc u wx
  have hl := fun wx kb => validExprs_any (M := M) e.args hargs hta _ wx (hx wx kb)
  rw [validP_eq]
  show Calls _ _ #[.agg #[.int .i64 e.kind, .int .i64 e.op, .bool e.no, .int .i64 e.val.kind, .int .i64 e.val.int, .string e.val.text, .string e.table, .string e.name, .slice a e.args.length ac, .slice s e.sub.length sc]] w _
  by_cases h1 : e.kind = 1
  · rw [if_pos h1, ← bare_4 e.op e.no e.val.kind e.val.int e.val.text e.table e.name e.args.length e.sub.length]
    exact vexpr_lit _ _ _ _ _ _ _ _ _ _ _ _ _ _ w _ _ (hb 4) (fun wx => valid_any e.val wx hv) h1
  rw [if_neg h1]
  by_cases h2 : e.kind = 2
  · rw [if_pos h2, show valZ e.val = valZ ⟨e.val.kind, e.val.int, e.val.text⟩ from rfl, ← bare_8 e.op e.no e.val.kind e.val.int e.val.text e.table e.name e.args.length e.sub.length]
    exact vexpr_col _ _ _ _ _ _ _ _ _ _ _ _ _ _ w _ _ (hb 8) (fun wx => column_P_any _ _ _ _ _ _ _ _ _ _ wx ht hn) h2
  rw [if_neg h2]
  by_cases h8 : 8 ≤ e.kind ∧ e.kind ≤ 12
  · rw [if_pos h8, Bool.and_assoc _ (decide (e.sub.length = 1)), show valZ e.val = valZ ⟨e.val.kind, e.val.int, e.val.text⟩ from rfl, ← bare_32 e.op e.no e.val.kind e.val.int e.val.text e.table e.name e.args.length e.sub.length]
    exact vexpr_sub _ _ _ _ _ _ _ _ _ _ _ _ _ _ w _ _ (hb 32) (fun wx kb => inner_sub _ _ _ _ _ _ _ _ _ _ e.sub wx h8 (hq wx kb) (fun q hq => hsub q hq) fun q hq => ⟨htf q hq, hti q hq, htw q hq⟩) h8
  rw [if_neg h8]
  by_cases h5 : e.kind = 5
  · rw [if_pos h5]
    by_cases ho : 1 ≤ e.op ∧ e.op ≤ 13
    · have hm := vexpr_binary e.kind e.op e.no e.val.kind e.val.int e.val.text e.table e.name a s e.args.length ac e.sub.length sc w h5 ho _ _ (hb 17) hl
      rw [bare_17, show decide (((e.args.length : Nat) : Int) = argsOf e.kind) = decide (e.args.length = 2) by rw [h5]; exact decide_eq_decide.2 (by show ((_ : Int) = 2) ↔ _; omega)] at hm
      rw [decide_eq_true ho.1, decide_eq_true ho.2, Bool.true_and, Bool.true_and, Bool.and_assoc _ (decide (e.args.length = 2))]
      exact hm
    · have hf : (decide (1 ≤ e.op) && decide (e.op ≤ 13)) = false := by simp; omega
      rw [hf]
      simp only [Bool.false_and]
      exact vexpr_badop _ _ _ _ _ _ _ _ _ _ _ _ _ _ w h5 ho
  rw [if_neg h5]
  by_cases h6 : e.kind = 6
  · rw [if_pos h6]
    have hm := vexpr_isnull e.kind e.op e.no e.val.kind e.val.int e.val.text e.table e.name a s e.args.length ac e.sub.length sc w h6 _ _ (hb 18) hl
    rw [bare_18, show decide (((e.args.length : Nat) : Int) = argsOf e.kind) = decide (e.args.length = 1) by rw [h6]; exact decide_eq_decide.2 (by show ((_ : Int) = 1) ↔ _; omega)] at hm
    rw [Bool.and_assoc _ (decide (e.args.length = 1))]
    exact hm
  rw [if_neg h6]
  have hm := vexpr_rest e.kind e.op e.no e.val.kind e.val.int e.val.text e.table e.name a s e.args.length ac e.sub.length sc w (by omega) _ _ (hb 16) hl
  rw [bare_16, args_rest h5 h6] at hm
  rw [Bool.and_assoc _ (decide (((e.args.length : Nat) : Int) = _))]
  exact hm
end Go.Proofs.YtkhlmofcdchccaaGreatDoor

namespace Go.Proofs.YtkhlmofcdchccaaGreatDoor
open Go.RowKit

end Go.Proofs.YtkhlmofcdchccaaGreatDoor
