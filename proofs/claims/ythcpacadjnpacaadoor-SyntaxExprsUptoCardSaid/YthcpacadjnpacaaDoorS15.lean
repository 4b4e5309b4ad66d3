/- A change of an expression, here or in an argument: the contract of spoiled. -/
import Derived.Test.YthcpacadjnpacaaDoorS12
import Derived.Test.YthcpacadjnpacaaDoorKA
import Derived.Test.YthcpacadjnpacaaDoorS4
namespace Go.Proofs.YthcpacadjnpacaaDoor
open Go.RowKit

theorem infoQuery : (Tryd.prog.info? 37).map (fun i => (i.zero, i.size, i.bytes)) = some (some (.agg #[.bool false, .slice none 0 0, .string ⟨#[]⟩, .slice none 0 0]), 4, 72) := by kernel_rfl

/-- spoiled answers, for what AnyExpr makes at depth n. -/
def SpOk (n : Nat) : Prop := ∀ (M : Nat → Prop) (T : Nat) (w : World) (e : Ex) (cs : List Value), M T → TapeOk T w → WordsOk T w → EC M w e cs → AnyX n e → Calls Tryd.prog 10 #[.pointer (some ⟨T, 0, none⟩), .agg cs.toArray] w (Gives T w (SpQ M (n + 4) w))

/-- A text out of a list of texts that has just been laid. -/
def TxtIn (W : World) (b r : Nat) : Prop := ∃ q : ByteArray, W.cell? ⟨b, r, none⟩ = some (.string q) ∧ q.size ≤ maxLen
theorem txt5 {T : Nat} {w2 W : World} {t : TypeId} (hT : T < w2.heap.size) (hk : Keep (At T) (w2.alloc (.cells #[.string ⟨#[]⟩, .string ⟨#[78, 69, 87]⟩, .string ⟨#[84]⟩, .string ⟨#[83, 69, 76, 69, 67, 84]⟩, .string ⟨#[120]⟩] t)) W) (r : Nat) (hr : r < 5) : TxtIn W w2.heap.size r := by
  have h := fun i => hk.cell (b := w2.heap.size) (o := i) (by simp) (by unfold At; omega)
  have h5 : r = 0 ∨ r = 1 ∨ r = 2 ∨ r = 3 ∨ r = 4 := by omega
  rcases h5 with rfl | rfl | rfl | rfl | rfl
  all_goals exact ⟨_, (h _).trans (by simp; rfl), by decide⟩
theorem txt3 {T : Nat} {w2 W : World} {t : TypeId} (hT : T < w2.heap.size) (hk : Keep (At T) (w2.alloc (.cells #[.string ⟨#[]⟩, .string ⟨#[65]⟩, .string ⟨#[110]⟩] t)) W) (r : Nat) (hr : r < 3) : TxtIn W w2.heap.size r := by
  have h := fun i => hk.cell (b := w2.heap.size) (o := i) (by simp) (by unfold At; omega)
  have h5 : r = 0 ∨ r = 1 ∨ r = 2 := by omega
  rcases h5 with rfl | rfl | rfl
  all_goals exact ⟨_, (h _).trans (by simp; rfl), by decide⟩

set_option maxRecDepth 100000 in
set_option maxHeartbeats 40000000 in
theorem spoiled_any (M : Nat → Prop) (T n : Nat) (k o : Int) (no : Bool) (vk vi : Int) (vt t nm : ByteArray) (args : List Ex) (sub : List Qu) (a s : Option Addr) (ac sc : Nat) (w : World) (hM : M T) (ht : TapeOk T w) (hw : WordsOk T w) (ha : ExsR M w (.slice a args.length ac) args) (hs : QusR M w (.slice s sub.length sc) sub)
    (hx : AnyX n (.mk k o no ⟨vk, vi, vt⟩ t nm args sub)) (hE : ∀ m, n = m + 1 → SpOk m) :
    Calls Tryd.prog 10 #[.pointer (some ⟨T, 0, none⟩), .agg #[.int .i64 k, .int .i64 o, .bool no, .int .i64 vk, .int .i64 vi, .string vt, .string t, .string nm, .slice a args.length ac, .slice s sub.length sc]] w (Gives T w (SpQ M (n + 4) w)) := by
  have hTw := ht.lt
  have HM := Lib.hid hM
  have HT := Lib.hid ht
  have HWD := Lib.hid hw
  have HE := Lib.hid hE
  have HX := Lib.hid (any_small hx)
  have HD := Lib.hid (any_dep hx)
  have HA : Hid (∀ W, Keep (At T) w W → ExsR (AllM M w.heap.size) W (.slice a args.length ac) args) := Lib.hid fun W hk => ExsR.keep (ExsR.weak (fun i hi h => all_of i hi h) ha) (hk.weak fun i _ h => .inl (by unfold At at h; subst h; exact ⟨hTw, hM⟩))
  have HS : Hid (∀ W, Keep (At T) w W → QusR (AllM M w.heap.size) W (.slice s sub.length sc) sub) := Lib.hid fun W hk => QusR.keep (QusR.weak (fun i hi h => all_of i hi h) hs) (hk.weak fun i _ h => .inl (by unfold At at h; subst h; exact ⟨hTw, hM⟩))
  have hal := HX.out.1
  replace hal : args.length ≤ 3 := hal
  have hsl := HX.out.2.1
  replace hsl : sub.length ≤ 1 := hsl
  have HAL := Lib.hid hal
  have HSL := Lib.hid hsl
  clear hM ht hw ha hs hx hE hsl
  go_enter Tryd.func10, Tryd.ntmps10
  go_upto_region 1 with fail
  generalize hW : ((w.alloc _).alloc _) = W0
  have hB0 : SpB T w W0 k o no vk vi vt t nm (.slice a args.length ac) (.slice s sub.length sc) := by
    rw [← hW]
    exact ⟨(HT.out.alloc _).alloc _, ((Keep.refl _ w).alloc _).alloc _, (heap_alloc_old _ _ (by simp)).trans (heap_alloc_new w _), heap_new1⟩
  have HB0 := Lib.hid hB0
  clear hW hB0
  obtain ⟨x0, x1, x2, x3, x4, x5, x6, x7, x8, x9, xf, xz⟩ := HB0.out.cells
  go_cut [14] (fun v wx => ∃ b, v = .bool b ∧ SpB T w wx k o no vk vi vt t nm (.slice a args.length ac) (.slice s sub.length sc) ∧ (b = true → args ≠ []))
  case first =>
    by_cases hl : 0 < (args.length : Int)
    · go_wp2_with fail
      refine (bool_any T 2 _ (by omega) (by omega) HB0.out.tape).mono ?_
      rintro e w1 ⟨v, rfl, ⟨b, rfl⟩, ht, hk⟩
      have HB1 := Lib.hid (HB0.out.step hTw ht hk)
      clear ht hk
      dsimp only
      go_wp2_with fail
      go_meet
      exact ⟨b, rfl, HB1.out, fun _ h => by rw [h] at hl; simp at hl⟩
    · go_wp2_with fail
      go_meet
      exact ⟨false, rfl, HB0.out, fun h => by cases h⟩
  case rest =>
    obtain ⟨b, rfl, hB, hne⟩ := hcut
    have HB1 := Lib.hid hB
    have HNE := Lib.hid hne
    clear hB hne HB0 x0 x1 x2 x3 x4 x5 x6 x7 x8 x9 xf xz
    rename World => w1
    obtain ⟨x0, x1, x2, x3, x4, x5, x6, x7, x8, x9, xf, xz⟩ := HB1.out.cells
    cases b
    · go_wp2_with fail
      refine (next_any T 9 _ (by omega) (by omega) HB1.out.tape).mono ?_
      rintro e w2 ⟨v, rfl, ⟨r, rfl, hr0, hr1⟩, ht, hk⟩
      have HB2 := Lib.hid (HB1.out.step hTw ht hk)
      clear ht hk
      dsimp only
      have h9 : r = 0 ∨ r = 1 ∨ r = 2 ∨ r = 3 ∨ r = 4 ∨ r = 5 ∨ r = 6 ∨ r = 7 ∨ r = 8 := by omega
      clear hr0 hr1 x0 x1 x2 x3 x4 x5 x6 x7 x8 x9 xf xz HB1
      obtain ⟨x0, x1, x2, x3, x4, x5, x6, x7, x8, x9, xf, xz⟩ := HB2.out.cells
      rcases h9 with rfl | rfl | rfl | rfl | rfl | rfl | rfl | rfl | rfl
      · go_wp2_with fail
        refine (next_any T 15 _ (by omega) (by omega) HB2.out.tape).mono ?_
        rintro e w3 ⟨v, rfl, ⟨q, rfl, hq0, hq1⟩, ht, hk⟩
        have HB3 := Lib.hid (HB2.out.step hTw ht hk)
        clear ht hk
        dsimp only
        clear x0 x1 x2 x3 x4 x5 x6 x7 x8 x9 xf xz
        obtain ⟨x0, x1, x2, x3, x4, x5, x6, x7, x8, x9, xf, xz⟩ := HB3.out.cells
        go_upto_region 27 with fail
        have HB4 := Lib.hid (HB3.out.set0 hTw (q - 1))
        generalize hW : World.setCell _ _ _ = W4
        rw [hW] at HB4
        clear hW x0 x1 x2 x3 x4 x5 x6 x7 x8 x9 xf xz
        obtain ⟨x0, x1, x2, x3, x4, x5, x6, x7, x8, x9, xf, xz⟩ := HB4.out.cells
        obtain ⟨r0, r1, r2, r3, r4, r5, r6, r7, r8, r9, rf, rz⟩ := HB4.out.res
        repeat (first | go_values | go_skip | go_guarded | go_step | go_upon)
        refine bodyPost_ret (v := .agg #[.int .i64 (q - 1), .int .i64 o, .bool no, .int .i64 vk, .int .i64 vi, .string vt, .string t, .string nm, .slice a args.length ac, .slice s sub.length sc]) (by simp [results, Tryd.results10, go_sem, r0, r1, r2, r3, r4, r5, r6, r7, r8, r9]) rfl ?_
        have FIN := sp_fin (M := M) (m := n + 4) hTw HB4.out ((HA.out _ HB4.out.kept).weak fun i _ h => all_sp i h) ((HS.out _ HB4.out.kept).weak fun i _ h => all_sp i h) (keep_set10 _ _ (.int .i64 (q - 1)) (.int .i64 o) (.bool no) (.int .i64 vk) (.int .i64 vi) (.string vt) (.string t) (.string nm) (.slice a args.length ac) (.slice s sub.length sc)) (dep_new HD.out _ _ _ (.inr rfl) (.inr rfl) (.inr rfl) (.inr rfl) (.inr rfl))
        exact FIN
      · go_wp2_with fail
        refine (next_any T 16 _ (by omega) (by omega) HB2.out.tape).mono ?_
        rintro e w3 ⟨v, rfl, ⟨q, rfl, hq0, hq1⟩, ht, hk⟩
        have HB3 := Lib.hid (HB2.out.step hTw ht hk)
        clear ht hk
        dsimp only
        clear x0 x1 x2 x3 x4 x5 x6 x7 x8 x9 xf xz
        obtain ⟨x0, x1, x2, x3, x4, x5, x6, x7, x8, x9, xf, xz⟩ := HB3.out.cells
        go_upto_region 27 with fail
        have HB4 := Lib.hid (HB3.out.set1 hTw (q - 1))
        generalize hW : World.setCell _ _ _ = W4
        rw [hW] at HB4
        clear hW x0 x1 x2 x3 x4 x5 x6 x7 x8 x9 xf xz
        obtain ⟨x0, x1, x2, x3, x4, x5, x6, x7, x8, x9, xf, xz⟩ := HB4.out.cells
        obtain ⟨r0, r1, r2, r3, r4, r5, r6, r7, r8, r9, rf, rz⟩ := HB4.out.res
        repeat (first | go_values | go_skip | go_guarded | go_step | go_upon)
        refine bodyPost_ret (v := .agg #[.int .i64 k, .int .i64 (q - 1), .bool no, .int .i64 vk, .int .i64 vi, .string vt, .string t, .string nm, .slice a args.length ac, .slice s sub.length sc]) (by simp [results, Tryd.results10, go_sem, r0, r1, r2, r3, r4, r5, r6, r7, r8, r9]) rfl ?_
        have FIN := sp_fin (M := M) (m := n + 4) hTw HB4.out ((HA.out _ HB4.out.kept).weak fun i _ h => all_sp i h) ((HS.out _ HB4.out.kept).weak fun i _ h => all_sp i h) (keep_set10 _ _ (.int .i64 k) (.int .i64 (q - 1)) (.bool no) (.int .i64 vk) (.int .i64 vi) (.string vt) (.string t) (.string nm) (.slice a args.length ac) (.slice s sub.length sc)) (dep_new HD.out _ _ _ (.inr rfl) (.inr rfl) (.inr rfl) (.inr rfl) (.inr rfl))
        exact FIN
      · go_upto_region 27 with fail
        have HB4 := Lib.hid (HB2.out.set2 hTw (!no))
        generalize hW : World.setCell _ _ _ = W4
        rw [hW] at HB4
        clear hW x0 x1 x2 x3 x4 x5 x6 x7 x8 x9 xf xz
        obtain ⟨x0, x1, x2, x3, x4, x5, x6, x7, x8, x9, xf, xz⟩ := HB4.out.cells
        obtain ⟨r0, r1, r2, r3, r4, r5, r6, r7, r8, r9, rf, rz⟩ := HB4.out.res
        repeat (first | go_values | go_skip | go_guarded | go_step | go_upon)
        refine bodyPost_ret (v := .agg #[.int .i64 k, .int .i64 o, .bool (!no), .int .i64 vk, .int .i64 vi, .string vt, .string t, .string nm, .slice a args.length ac, .slice s sub.length sc]) (by simp [results, Tryd.results10, go_sem, r0, r1, r2, r3, r4, r5, r6, r7, r8, r9]) rfl ?_
        have FIN := sp_fin (M := M) (m := n + 4) hTw HB4.out ((HA.out _ HB4.out.kept).weak fun i _ h => all_sp i h) ((HS.out _ HB4.out.kept).weak fun i _ h => all_sp i h) (keep_set10 _ _ (.int .i64 k) (.int .i64 o) (.bool (!no)) (.int .i64 vk) (.int .i64 vi) (.string vt) (.string t) (.string nm) (.slice a args.length ac) (.slice s sub.length sc)) (dep_new HD.out _ _ _ (.inr rfl) (.inr rfl) (.inr rfl) (.inr rfl) (.inr rfl))
        exact FIN
      · go_wp2_with fail
        refine (odd_any T _ HB2.out.tape (HWD.out.at HB2.out.kept)).mono ?_
        rintro e w3 ⟨v, rfl, ⟨⟨xk, xi, xt⟩, rfl, hxo⟩, ht, hk⟩
        have HB3 := Lib.hid (HB2.out.step hTw ht hk)
        clear ht hk
        dsimp only
        have HXO := Lib.hid hxo.1
        clear hxo x0 x1 x2 x3 x4 x5 x6 x7 x8 x9 xf xz
        unfold valOf
        dsimp only
        obtain ⟨x0, x1, x2, x3, x4, x5, x6, x7, x8, x9, xf, xz⟩ := HB3.out.cells
        go_upto_region 27 with fail
        have HB4 := Lib.hid (((HB3.out.set3 hTw xk).set4 hTw xi).set5 hTw xt)
        generalize hW : World.setCell (World.setCell (World.setCell _ _ _) _ _) _ _ = W4
        rw [hW] at HB4
        clear hW x0 x1 x2 x3 x4 x5 x6 x7 x8 x9 xf xz
        obtain ⟨x0, x1, x2, x3, x4, x5, x6, x7, x8, x9, xf, xz⟩ := HB4.out.cells
        obtain ⟨r0, r1, r2, r3, r4, r5, r6, r7, r8, r9, rf, rz⟩ := HB4.out.res
        repeat (first | go_values | go_skip | go_guarded | go_step | go_upon)
        refine bodyPost_ret (v := .agg #[.int .i64 k, .int .i64 o, .bool no, .int .i64 xk, .int .i64 xi, .string xt, .string t, .string nm, .slice a args.length ac, .slice s sub.length sc]) (by simp [results, Tryd.results10, go_sem, r0, r1, r2, r3, r4, r5, r6, r7, r8, r9]) rfl ?_
        have FIN := sp_fin (M := M) (m := n + 4) hTw HB4.out ((HA.out _ HB4.out.kept).weak fun i _ h => all_sp i h) ((HS.out _ HB4.out.kept).weak fun i _ h => all_sp i h) (keep_set10 _ _ (.int .i64 k) (.int .i64 o) (.bool no) (.int .i64 xk) (.int .i64 xi) (.string xt) (.string t) (.string nm) (.slice a args.length ac) (.slice s sub.length sc)) (dep_new HD.out _ _ _ (.inl HXO.out) (.inr rfl) (.inr rfl) (.inr rfl) (.inr rfl))
        exact FIN
      · go_wp2_with fail
        refine (next_any T 5 _ (by omega) (by omega) (HB2.out.alloc hTw _).tape).mono ?_
        rintro e w3 ⟨v, rfl, ⟨q, rfl, hq0, hq1⟩, ht, hk⟩
        have HB3 := Lib.hid ((HB2.out.alloc hTw _).step hTw ht hk)
        obtain ⟨tq, ht1, ht2⟩ := txt5 (by have := HB2.out.lt; omega) hk q.toNat (by omega)
        have HTQ := Lib.hid ht2
        have hzq : w2.heap.size < w3.heap.size := by have := hk.size; simp at this; omega
        clear ht hk ht2 x0 x1 x2 x3 x4 x5 x6 x7 x8 x9 xf xz
        dsimp only
        obtain ⟨x0, x1, x2, x3, x4, x5, x6, x7, x8, x9, xf, xz⟩ := HB3.out.cells
        go_upto_region 27 with fail
        have HB4 := Lib.hid (HB3.out.set6 hTw tq)
        generalize hW : World.setCell _ _ _ = W4
        rw [hW] at HB4
        clear hW x0 x1 x2 x3 x4 x5 x6 x7 x8 x9 xf xz
        obtain ⟨x0, x1, x2, x3, x4, x5, x6, x7, x8, x9, xf, xz⟩ := HB4.out.cells
        obtain ⟨r0, r1, r2, r3, r4, r5, r6, r7, r8, r9, rf, rz⟩ := HB4.out.res
        repeat (first | go_values | go_skip | go_guarded | go_step | go_upon)
        refine bodyPost_ret (v := .agg #[.int .i64 k, .int .i64 o, .bool no, .int .i64 vk, .int .i64 vi, .string vt, .string tq, .string nm, .slice a args.length ac, .slice s sub.length sc]) (by simp [results, Tryd.results10, go_sem, r0, r1, r2, r3, r4, r5, r6, r7, r8, r9]) rfl ?_
        have FIN := sp_fin (M := M) (m := n + 4) hTw HB4.out ((HA.out _ HB4.out.kept).weak fun i _ h => all_sp i h) ((HS.out _ HB4.out.kept).weak fun i _ h => all_sp i h) (keep_set10 _ _ (.int .i64 k) (.int .i64 o) (.bool no) (.int .i64 vk) (.int .i64 vi) (.string vt) (.string tq) (.string nm) (.slice a args.length ac) (.slice s sub.length sc)) (dep_new HD.out _ _ _ (.inr rfl) (.inl HTQ.out) (.inr rfl) (.inr rfl) (.inr rfl))
        exact FIN
      · go_wp2_with fail
        refine (next_any T 3 _ (by omega) (by omega) (HB2.out.alloc hTw _).tape).mono ?_
        rintro e w3 ⟨v, rfl, ⟨q, rfl, hq0, hq1⟩, ht, hk⟩
        have HB3 := Lib.hid ((HB2.out.alloc hTw _).step hTw ht hk)
        obtain ⟨tq, ht1, ht2⟩ := txt3 (by have := HB2.out.lt; omega) hk q.toNat (by omega)
        have HTQ := Lib.hid ht2
        have hzq : w2.heap.size < w3.heap.size := by have := hk.size; simp at this; omega
        clear ht hk ht2 x0 x1 x2 x3 x4 x5 x6 x7 x8 x9 xf xz
        dsimp only
        obtain ⟨x0, x1, x2, x3, x4, x5, x6, x7, x8, x9, xf, xz⟩ := HB3.out.cells
        go_upto_region 27 with fail
        have HB4 := Lib.hid (HB3.out.set7 hTw tq)
        generalize hW : World.setCell _ _ _ = W4
        rw [hW] at HB4
        clear hW x0 x1 x2 x3 x4 x5 x6 x7 x8 x9 xf xz
        obtain ⟨x0, x1, x2, x3, x4, x5, x6, x7, x8, x9, xf, xz⟩ := HB4.out.cells
        obtain ⟨r0, r1, r2, r3, r4, r5, r6, r7, r8, r9, rf, rz⟩ := HB4.out.res
        repeat (first | go_values | go_skip | go_guarded | go_step | go_upon)
        refine bodyPost_ret (v := .agg #[.int .i64 k, .int .i64 o, .bool no, .int .i64 vk, .int .i64 vi, .string vt, .string t, .string tq, .slice a args.length ac, .slice s sub.length sc]) (by simp [results, Tryd.results10, go_sem, r0, r1, r2, r3, r4, r5, r6, r7, r8, r9]) rfl ?_
        have FIN := sp_fin (M := M) (m := n + 4) hTw HB4.out ((HA.out _ HB4.out.kept).weak fun i _ h => all_sp i h) ((HS.out _ HB4.out.kept).weak fun i _ h => all_sp i h) (keep_set10 _ _ (.int .i64 k) (.int .i64 o) (.bool no) (.int .i64 vk) (.int .i64 vi) (.string vt) (.string t) (.string tq) (.slice a args.length ac) (.slice s sub.length sc)) (dep_new HD.out _ _ _ (.inr rfl) (.inr rfl) (.inl HTQ.out) (.inr rfl) (.inr rfl))
        exact FIN
      · go_upto_region 27 with (first
  | (at_builtin; (refine wpList_copy (w := w2) ecStable rfl _ _ 24 rfl 27 _ 10 136 Tryd.underlying24 infoExpr rfl (by decide) (AllM M w.heap.size) (.slice a args.length ac) args ?h1 ?h2 ?h3 ?h4 ?h5 ?h6 ?_); (case h1 => rfl); (case h2 => rfl); (case h3 => exact HA.out _ HB2.out.kept); (case h4 => exact fun i hi => .inr (by have := HB2.out.lt; omega)); (case h5 => (have := HAL.out; omega)); (case h6 => (have := HAL.out; unfold maxLen; omega)); intro v3 w3 ho hb; obtain ⟨a3, c3, rfl, _⟩ := ho.shape; have HB3 := Lib.hid (HB2.out.bel hTw hb); have HO3 := Lib.hid ho; have HZ3 := Lib.hid (HB2.out.lt); have HS3 := Lib.hid hb.size; clear x0 x1 x2 x3 x4 x5 x6 x7 x8 x9 xf xz; obtain ⟨x0, x1, x2, x3, x4, x5, x6, x7, x8, x9, xf, xz⟩ := HB3.out.cells; clear ho hb)
  | ((go_at_call 48); (refine (num1_any _).mono ?_); rintro e w4 ⟨y, v4, rfl, hy, hd, hb⟩; have hy0 := hy; obtain ⟨a4, ac4, s4, sc4, rfl, _, _⟩ := hy0; have HB4 := Lib.hid (HB3.out.bel hTw hb); have HY4 := Lib.hid hy; have HDY := Lib.hid hd; have HL4 := Lib.hid hb; have HS4 := Lib.hid hb.size; clear x0 x1 x2 x3 x4 x5 x6 x7 x8 x9 xf xz; obtain ⟨x0, x1, x2, x3, x4, x5, x6, x7, x8, x9, xf, xz⟩ := HB4.out.cells; clear hy hd hb)
  | (at_builtin; (refine wpList_app1 (w := w4) ecStable rfl _ _ 24 rfl 27 _ 10 136 Tryd.underlying24 infoExpr rfl (by decide) (SpM M w.heap.size) w2.heap.size (.slice a3 args.length c3) w4.heap.size #[.int .i64 y.kind, .int .i64 y.op, .bool y.no, .int .i64 y.val.kind, .int .i64 y.val.int, .string y.val.text, .string y.table, .string y.name, .slice a4 y.args.length ac4, .slice s4 y.sub.length sc4] args y ?h1 ?h2 rfl ?h4 rfl ?h6 ?h7 ?h8 ?h9 ?_); (case h1 => rfl); (case h2 => rfl); (case h4 => exact RowsO.kept HO3.out (M := fun _ => False) (.bel HL4.out) (fun _ _ h => h) fun x _ cs h => EC.weak (fun i _ h => h.elim (fun h => all_sp i h) fun h => .inr (by have := (HO3.out.lt h).1; have := HZ3.out; omega)) _ _ (EC.keep (.bel HL4.out) _ _ h)); (case h6 => exact EC.weak (fun i _ h => h.elim (fun h => by have := HZ3.out; have := HS3.out; unfold SpM at h; unfold Old; omega) fun h => (HO3.out.lt h).2) _ _ (exv_list HY4.out)); (case h7 => (have := HAL.out; omega)); (case h8 => (have := HAL.out; unfold maxLen; omega)); (case h9 => (have := HS3.out; have := HS4.out; omega)); intro v5 w5 ho hk; obtain ⟨a5, c5, rfl, _⟩ := ho.shape; have HB5 := Lib.hid (HB4.out.then hTw hk fun i hi h => by have := (HO3.out.lt h).1; have := HZ3.out; omega); have HK5 := Lib.hid hk; have HO5 := Lib.hid ho; clear x0 x1 x2 x3 x4 x5 x6 x7 x8 x9 xf xz; obtain ⟨x0, x1, x2, x3, x4, x5, x6, x7, x8, x9, xf, xz⟩ := HB5.out.cells; clear ho hk))
        have HB6 := Lib.hid (HB5.out.set8 hTw (.slice a5 (args ++ [y]).length c5))
        have hrow : ExsR (SpM M w.heap.size) (w5.setCell ⟨w.heap.size, 8, none⟩ (.slice a5 (args ++ [y]).length c5)) (.slice a5 (args ++ [y]).length c5) (args ++ [y]) := ExsR.keep (HO5.out.rows (M := SpM M w.heap.size) fun i h1 _ h2 => by have := HZ3.out; unfold SpM at h2; omega) ((Keep.refl (SpM M w.heap.size) w5).setCell (p := ⟨w.heap.size, 8, none⟩) (fun _ => .inr (by simp)) _)
        rw [List.length_append, List.length_singleton] at HB6 hrow
        generalize hW : World.setCell _ _ _ = W4
        rw [hW] at HB6 hrow
        have HR6 := Lib.hid hrow
        clear hW hrow x0 x1 x2 x3 x4 x5 x6 x7 x8 x9 xf xz
        obtain ⟨x0, x1, x2, x3, x4, x5, x6, x7, x8, x9, xf, xz⟩ := HB6.out.cells
        obtain ⟨r0, r1, r2, r3, r4, r5, r6, r7, r8, r9, rf, rz⟩ := HB6.out.res
        repeat (first | go_values | go_skip | go_guarded | go_step | go_upon)
        refine bodyPost_ret (v := .agg #[.int .i64 k, .int .i64 o, .bool no, .int .i64 vk, .int .i64 vi, .string vt, .string t, .string nm, .slice a5 (args.length + 1) c5, .slice s sub.length sc]) (by simp [results, Tryd.results10, go_sem, r0, r1, r2, r3, r4, r5, r6, r7, r8, r9]) rfl ?_
        have FIN := sp_fin (M := M) (m := n + 4) hTw HB6.out (HR6.out) ((HS.out _ HB6.out.kept).weak fun i _ h => all_sp i h) (keep_set10 _ _ (.int .i64 k) (.int .i64 o) (.bool no) (.int .i64 vk) (.int .i64 vi) (.string vt) (.string t) (.string nm) (.slice a5 (args.length + 1) c5) (.slice s sub.length sc)) (dep_new HD.out _ _ _ (.inr rfl) (.inr rfl) (.inr rfl) (.inl (dep_app (dep_arg HD.out).1 (HDY.out.up (by omega)))) (.inr rfl))
        exact FIN
      · go_upto_region 27 with (first
  | (at_builtin; (refine wpList_copy (w := w2) qcStable rfl _ _ 25 rfl 37 _ 4 72 Tryd.underlying25 infoQuery rfl (by decide) (AllM M w.heap.size) (.slice s sub.length sc) sub ?h1 ?h2 ?h3 ?h4 ?h5 ?h6 ?_); (case h1 => rfl); (case h2 => rfl); (case h3 => exact HS.out _ HB2.out.kept); (case h4 => exact fun i hi => .inr (by have := HB2.out.lt; omega)); (case h5 => (have := HSL.out; omega)); (case h6 => (have := HSL.out; unfold maxLen; omega)); intro v3 w3 ho hb; obtain ⟨a3, c3, rfl, _⟩ := ho.shape; have HB3 := Lib.hid (HB2.out.bel hTw hb); have HO3 := Lib.hid ho; have HZ3 := Lib.hid (HB2.out.lt); have HS3 := Lib.hid hb.size; clear ho hb; clear x0 x1 x2 x3 x4 x5 x6 x7 x8 x9 xf xz; obtain ⟨x0, x1, x2, x3, x4, x5, x6, x7, x8, x9, xf, xz⟩ := HB3.out.cells)
  | ((go_at_call 39); (refine (bool_any T 2 _ (by omega) (by omega) HB3.out.tape).mono ?_); rintro e w4 ⟨v, rfl, ⟨b, rfl⟩, ht, hk⟩; have HB4 := Lib.hid (HB3.out.step hTw ht hk); have HL4 := Lib.hid hk; have HS4 := Lib.hid hk.size; clear ht hk; clear x0 x1 x2 x3 x4 x5 x6 x7 x8 x9 xf xz; obtain ⟨x0, x1, x2, x3, x4, x5, x6, x7, x8, x9, xf, xz⟩ := HB4.out.cells)
  | (at_builtin; (refine wpList_app1 (w := w4) qcStable rfl _ _ 25 rfl 37 _ 4 72 Tryd.underlying25 infoQuery rfl (by decide) (SpM M w.heap.size) w2.heap.size (.slice a3 sub.length c3) w4.heap.size #[.bool b, .slice none 0 0, .string ⟨#[116]⟩, .slice none 0 0] sub (.mk b [] ⟨#[116]⟩ []) ?h1 ?h2 rfl ?h4 rfl ?h6 ?h7 ?h8 ?h9 ?_); (case h1 => rfl); (case h2 => rfl); (case h4 => exact RowsO.kept HO3.out HL4.out (fun i hi h => by have := (HO3.out.lt hi).1; have := HZ3.out; unfold At at h; omega) fun x _ cs h => QC.weak (fun i _ h => h.elim (fun h => all_sp i h) fun h => .inr (by have := (HO3.out.lt h).1; have := HZ3.out; omega)) (QC.keep (HL4.out.weak fun i _ h => .inl (by unfold At at h; subst h; exact ⟨hTw, HM.out⟩)) h)); (case h6 => exact (QC_iff ..).2 ⟨_, _, rfl, RowsR.nil .., RowsR.nil ..⟩); (case h7 => (have := HSL.out; omega)); (case h8 => (have := HSL.out; unfold maxLen; omega)); (case h9 => (have := HS3.out; have := HS4.out; omega)); intro v5 w5 ho hk; obtain ⟨a5, c5, rfl, _⟩ := ho.shape; have HB5 := Lib.hid (HB4.out.then hTw hk fun i hi h => by have := (HO3.out.lt h).1; have := HZ3.out; omega); have HO5 := Lib.hid ho; clear ho hk; clear x0 x1 x2 x3 x4 x5 x6 x7 x8 x9 xf xz; obtain ⟨x0, x1, x2, x3, x4, x5, x6, x7, x8, x9, xf, xz⟩ := HB5.out.cells))
        have HB6 := Lib.hid (HB5.out.set9 hTw (.slice a5 (sub ++ [Qu.mk b [] ⟨#[116]⟩ []]).length c5))
        have hrow : QusR (SpM M w.heap.size) (w5.setCell ⟨w.heap.size, 9, none⟩ (.slice a5 (sub ++ [Qu.mk b [] ⟨#[116]⟩ []]).length c5)) (.slice a5 (sub ++ [Qu.mk b [] ⟨#[116]⟩ []]).length c5) (sub ++ [Qu.mk b [] ⟨#[116]⟩ []]) := QusR.keep (HO5.out.rows (M := SpM M w.heap.size) fun i h1 _ h2 => by have := HZ3.out; unfold SpM at h2; omega) ((Keep.refl (SpM M w.heap.size) w5).setCell (p := ⟨w.heap.size, 9, none⟩) (fun _ => .inr (by simp)) _)
        rw [List.length_append, List.length_singleton] at HB6 hrow
        generalize hW : World.setCell _ _ _ = W4
        rw [hW] at HB6 hrow
        have HR6 := Lib.hid hrow
        clear hW hrow x0 x1 x2 x3 x4 x5 x6 x7 x8 x9 xf xz
        obtain ⟨x0, x1, x2, x3, x4, x5, x6, x7, x8, x9, xf, xz⟩ := HB6.out.cells
        obtain ⟨r0, r1, r2, r3, r4, r5, r6, r7, r8, r9, rf, rz⟩ := HB6.out.res
        repeat (first | go_values | go_skip | go_guarded | go_step | go_upon)
        refine bodyPost_ret (v := .agg #[.int .i64 k, .int .i64 o, .bool no, .int .i64 vk, .int .i64 vi, .string vt, .string t, .string nm, .slice a args.length ac, .slice a5 (sub.length + 1) c5]) (by simp [results, Tryd.results10, go_sem, r0, r1, r2, r3, r4, r5, r6, r7, r8, r9]) rfl ?_
        have FIN := sp_fin (M := M) (m := n + 4) hTw HB6.out ((HA.out _ HB6.out.kept).weak fun i _ h => all_sp i h) (HR6.out) (keep_set10 _ _ (.int .i64 k) (.int .i64 o) (.bool no) (.int .i64 vk) (.int .i64 vi) (.string vt) (.string t) (.string nm) (.slice a args.length ac) (.slice a5 (sub.length + 1) c5)) (dep_new HD.out _ _ _ (.inr rfl) (.inr rfl) (.inr rfl) (.inr rfl) (.inl (qus_app (dep_arg HD.out).2 ⟨(show ByteArray.size ⟨#[116]⟩ ≤ maxLen by decide), fun x h => (by cases h), fun x h => (by cases h)⟩)))
        exact FIN
      · by_cases hsub : 0 < (sub.length : Int)
        · rcases (HS.out _ HB2.out.kept).open with ⟨_, h⟩ | ⟨qb, qo, cap', hv', _, hqb, _, _, hx⟩
          · rw [h] at hsub; simp at hsub
          simp only [Value.slice.injEq] at hv'
          obtain ⟨rfl, _, rfl⟩ := hv'
          have hsub1 : sub.length = 1 := by have := HSL.out; omega
          obtain ⟨q, hq⟩ := List.length_eq_one_iff.1 hsub1
          obtain ⟨cs, hc, _, hcs⟩ := hx 0 q (by rw [hq]; rfl)
          have hqm : q ∈ sub := by rw [hq]; exact List.mem_singleton.2 rfl
          obtain ⟨vi', vw, rfl, hvi, hvw⟩ := (QC_iff ..).1 hc
          obtain ⟨ia, iac, rfl, _⟩ := hvi.shape
          obtain ⟨wa, wac, rfl, _⟩ := hvw.shape
          rw [Nat.zero_mul, Nat.add_zero] at hcs
          obtain ⟨c0, c1, c2, c3'⟩ := hcs.c4
          have hlw := HX.out.2.2.1 q hqm
          have HLW := Lib.hid hlw
          have HQD := Lib.hid ((dep_arg HD.out).2 q hqm)
          have HI2 := Lib.hid hvi
          have HW2 := Lib.hid hvw
          have j0 : (0 : Int) < (sub.length : Int) := hsub
          clear hc hcs hx hvi hvw hqm hlw hq hsub
          go_upto_region 9 with fail
          have hqb3 := heap_alloc_new w2 (.cells #[.bool q.star, .slice ia q.items.length iac, .string q.frm, .slice wa q.whr.length wac] 37)
          have hkA : Keep (AllM M w.heap.size) w2 (w2.alloc (.cells #[.bool q.star, .slice ia q.items.length iac, .string q.frm, .slice wa q.whr.length wac] 37)) := (Keep.refl (AllM M w.heap.size) w2).alloc _
          have hbq := HB2.out.alloc hTw (.cells #[.bool q.star, .slice ia q.items.length iac, .string q.frm, .slice wa q.whr.length wac] 37)
          have hzq : w2.heap.size < (w2.alloc (.cells #[.bool q.star, .slice ia q.items.length iac, .string q.frm, .slice wa q.whr.length wac] 37)).heap.size := by simp
          generalize hW3 : World.alloc w2 _ = W3
          rw [hW3] at hqb3 hkA hbq hzq
          have hz2 := HB2.out.lt
          have HZ2 := Lib.hid hz2
          have HZQ := Lib.hid hzq
          have HBq := Lib.hid hbq
          have HGq := Lib.hid hqb3
          have HI := Lib.hid (ExsR.keep HI2.out hkA)
          have HWH := Lib.hid (ExsR.keep HW2.out hkA)
          clear hW3 hqb3 hkA hbq hzq hz2 c0 c1 c2 c3' x0 x1 x2 x3 x4 x5 x6 x7 x8 x9 xf xz
          obtain ⟨d0, d1, d2, d3, df1, df2, dz⟩ := blk4 HGq.out
          obtain ⟨x0, x1, x2, x3, x4, x5, x6, x7, x8, x9, xf, xz⟩ := HBq.out.cells
          go_upto_region 10 with (first
            | (at_builtin; (refine wpList_copy (w := W3) ecStable rfl _ _ 24 rfl 27 _ 10 136 Tryd.underlying24 infoExpr rfl (by decide) (AllM M w.heap.size) (.slice wa q.whr.length wac) q.whr ?h1 ?h2 ?h3 ?h4 ?h5 ?h6 ?_); (case h1 => rfl); (case h2 => rfl); (case h3 => exact HWH.out); (case h4 => exact fun i hi => .inr (by have := HBq.out.lt; omega)); (case h5 => (have := HLW.out; omega)); (case h6 => (have := HLW.out; unfold maxLen; omega)); intro v3 w3 ho hb; obtain ⟨a3, c3, rfl, _⟩ := ho.shape; have HB3 := Lib.hid (HBq.out.bel hTw hb); have HO3 := Lib.hid ho; have HZ3 := Lib.hid (HBq.out.lt); have HS3 := Lib.hid hb.size; have HLC := Lib.hid hb; have HG3 := Lib.hid ((hb.block w2.heap.size (Array.getElem?_eq_some_iff.1 HGq.out).1).trans HGq.out); clear d0 d1 d2 d3 df1 df2 dz; obtain ⟨d0, d1, d2, d3, df1, df2, dz⟩ := blk4 HG3.out; clear x0 x1 x2 x3 x4 x5 x6 x7 x8 x9 xf xz; obtain ⟨x0, x1, x2, x3, x4, x5, x6, x7, x8, x9, xf, xz⟩ := HB3.out.cells; clear ho hb)
            | ((go_at_call 48); (refine (num1_any _).mono ?_); rintro e w4 ⟨y, v4, rfl, hy, hd, hb⟩; have hy0 := hy; obtain ⟨a4, ac4, s4, sc4, rfl, _, _⟩ := hy0; have HB4 := Lib.hid (HB3.out.bel hTw hb); have HY4 := Lib.hid hy; have HDY := Lib.hid hd; have HL4 := Lib.hid hb; have HS4 := Lib.hid hb.size; have HG4 := Lib.hid ((hb.block w2.heap.size (Array.getElem?_eq_some_iff.1 HG3.out).1).trans HG3.out); clear d0 d1 d2 d3 df1 df2 dz; obtain ⟨d0, d1, d2, d3, df1, df2, dz⟩ := blk4 HG4.out; clear x0 x1 x2 x3 x4 x5 x6 x7 x8 x9 xf xz; obtain ⟨x0, x1, x2, x3, x4, x5, x6, x7, x8, x9, xf, xz⟩ := HB4.out.cells; clear hy hd hb)
            | (at_builtin; ((refine wpList_app1 (w := w4) ecStable rfl _ _ 24 rfl 27 _ 10 136 Tryd.underlying24 infoExpr rfl (by decide) (fun k => SpM M w.heap.size k ∨ k = w2.heap.size) W3.heap.size (.slice a3 q.whr.length c3) w4.heap.size #[.int .i64 y.kind, .int .i64 y.op, .bool y.no, .int .i64 y.val.kind, .int .i64 y.val.int, .string y.val.text, .string y.table, .string y.name, .slice a4 y.args.length ac4, .slice s4 y.sub.length sc4] q.whr y ?h1 ?h2 rfl ?h4 rfl ?h6 ?h7 ?h8 ?h9 ?_); (case h1 => rfl); (case h2 => rfl); (case h4 => exact RowsO.kept HO3.out (M := fun _ => False) (.bel HL4.out) (fun _ _ h => h) fun x _ cs h => EC.weak (fun i _ h => h.elim (fun h => h.elim (fun h => all_sp i h) fun h => .inr (by have := HZ2.out; omega)) fun h => .inr (by have := (HO3.out.lt h).1; have := HZ3.out; omega)) _ _ (EC.keep (.bel HL4.out) _ _ h)); (case h6 => exact EC.weak (fun i _ h => h.elim (fun h => by have := HZ3.out; have := HS3.out; have := HZQ.out; unfold Old; rcases h with h | h; (unfold SpM at h; omega); omega) fun h => (HO3.out.lt h).2) _ _ (exv_list HY4.out)); (case h7 => (have := HLW.out; omega)); (case h8 => (have := HLW.out; unfold maxLen; omega)); (case h9 => (have := HS3.out; have := HS4.out; omega))); intro v5 w5 ho hk; obtain ⟨a5, c5, rfl, _⟩ := ho.shape; have HB5 := Lib.hid (HB4.out.then hTw hk fun i hi h => by have := (HO3.out.lt h).1; have := HZ3.out; omega); have HKA := Lib.hid (((Keep.bel HLC.out).trans (.bel HL4.out)).trans (hk.weak fun i _ h => .inr (by have := (HO3.out.lt h).1; have := HZ3.out; omega)) : Keep (AllM M w.heap.size) W3 w5); have HO5 := Lib.hid ho; have HG5 := Lib.hid ((hk.block w2.heap.size (Array.getElem?_eq_some_iff.1 HG4.out).1 (fun h => by have := (HO3.out.lt h).1; have := HZQ.out; omega)).trans HG4.out); clear d0 d1 d2 d3 df1 df2 dz; obtain ⟨d0, d1, d2, d3, df1, df2, dz⟩ := blk4 HG5.out; clear x0 x1 x2 x3 x4 x5 x6 x7 x8 x9 xf xz; obtain ⟨x0, x1, x2, x3, x4, x5, x6, x7, x8, x9, xf, xz⟩ := HB5.out.cells; clear ho hk))
          have hk6 : Keep (At w2.heap.size) w5 (w5.setCell ⟨w2.heap.size, 3, none⟩ (.slice a5 (q.whr ++ [y]).length c5)) := (Keep.refl (At w2.heap.size) w5).setCell (p := ⟨w2.heap.size, 3, none⟩) (fun _ => rfl) _
          have hg6 : (w5.setCell ⟨w2.heap.size, 3, none⟩ (.slice a5 (q.whr ++ [y]).length c5)).heap[w2.heap.size]? = some (.cells #[.bool q.star, .slice ia q.items.length iac, .string q.frm, .slice a5 (q.whr ++ [y]).length c5] 37 (0, 0)) := by simp [World.setCell, Array.getElem?_modify, HG5.out]
          rw [List.length_append, List.length_singleton] at hk6 hg6
          generalize hW6 : World.setCell w5 _ _ = W6
          rw [hW6] at hk6 hg6
          have HB6 := Lib.hid (HB5.out.then hTw hk6 fun i hi h => by have := HZ2.out; unfold At at h; omega)
          have hrw : ExsR (SpM M w.heap.size) W6 (.slice a5 (q.whr ++ [y]).length c5) (q.whr ++ [y]) := ExsR.weak (M := (fun k => SpM M w.heap.size k ∨ k = w2.heap.size)) (fun i _ h => .inl h) (ExsR.keep (M := (fun k => SpM M w.heap.size k ∨ k = w2.heap.size)) (HO5.out.rows fun i h1 _ h2 => by have := HZQ.out; have := HZ2.out; rcases h2 with h2 | h2; (unfold SpM at h2; omega); omega) (hk6.weak fun i _ h => .inr h))
          have hki : Keep (AllM M w.heap.size) W3 W6 := HKA.out.trans (hk6.weak fun i _ h => .inr (by have := HZ2.out; unfold At at h; omega))
          have hri : ExsR (SpM M w.heap.size) W6 (.slice ia q.items.length iac) q.items := ExsR.weak (fun i _ h => all_sp i h) (ExsR.keep HI.out hki)
          rw [List.length_append, List.length_singleton] at hrw
          have HRW := Lib.hid hrw
          have HRI := Lib.hid hri
          have HZ6 := Lib.hid HB6.out.lt
          clear hW6 hk6 hrw hki hri x0 x1 x2 x3 x4 x5 x6 x7 x8 x9 xf xz d0 d1 d2 d3 df1 df2 dz
          obtain ⟨d0, d1, d2, d3, df1, df2, dz⟩ := blk4 hg6
          obtain ⟨x0, x1, x2, x3, x4, x5, x6, x7, x8, x9, xf, xz⟩ := HB6.out.cells
          clear hg6
          go_upto_region 27 with fail
          have HB7 := Lib.hid ((HB6.out.set9 hTw (.slice (some ⟨W6.heap.size, 0, none⟩) 1 1)).alloc hTw (.cells #[.bool q.star, .slice ia q.items.length iac, .string q.frm, .slice a5 (q.whr.length + 1) c5] 37))
          have hks : Keep (SpM M w.heap.size) W6 ((W6.setCell ⟨w.heap.size, 9, none⟩ (.slice (some ⟨W6.heap.size, 0, none⟩) 1 1)).alloc (.cells #[.bool q.star, .slice ia q.items.length iac, .string q.frm, .slice a5 (q.whr.length + 1) c5] 37)) := ((Keep.refl (SpM M w.heap.size) _).setCell (p := ⟨w.heap.size, 9, none⟩) (fun _ => .inr (by simp)) _).alloc _
          have hrow : QusR (SpM M w.heap.size) ((W6.setCell ⟨w.heap.size, 9, none⟩ (.slice (some ⟨W6.heap.size, 0, none⟩) 1 1)).alloc (.cells #[.bool q.star, .slice ia q.items.length iac, .string q.frm, .slice a5 (q.whr.length + 1) c5] 37)) (.slice (some ⟨W6.heap.size, 0, none⟩) 1 1) [Qu.mk q.star q.items q.frm (q.whr ++ [y])] :=
            rows_one (R := QC _ _) _ (by simp) (by have := HZ6.out; unfold SpM; simp; omega) rfl ((QC_iff ..).2 ⟨_, _, rfl, ExsR.keep HRI.out hks, by rw [← List.length_singleton (a := y), ← List.length_append]; exact (by rw [List.length_append, List.length_singleton]; exact ExsR.keep HRW.out hks)⟩)
          generalize hW : World.alloc (World.setCell _ _ _) _ = W4
          clear hks
          rw [hW] at HB7 hrow
          have HR7 := Lib.hid hrow
          clear hW hrow x0 x1 x2 x3 x4 x5 x6 x7 x8 x9 xf xz d0 d1 d2 d3 df1 df2 dz
          obtain ⟨x0, x1, x2, x3, x4, x5, x6, x7, x8, x9, xf, xz⟩ := HB7.out.cells
          obtain ⟨r0, r1, r2, r3, r4, r5, r6, r7, r8, r9, rf, rz⟩ := HB7.out.res
          repeat (first | go_values | go_skip | go_guarded | go_step | go_upon)
          refine bodyPost_ret (v := .agg #[.int .i64 k, .int .i64 o, .bool no, .int .i64 vk, .int .i64 vi, .string vt, .string t, .string nm, .slice a args.length ac, .slice (some ⟨W6.heap.size, 0, none⟩) 1 1]) (by simp [results, Tryd.results10, go_sem, r0, r1, r2, r3, r4, r5, r6, r7, r8, r9]) rfl ?_
          have FIN := sp_fin (M := M) (m := n + 4) hTw HB7.out ((HA.out _ HB7.out.kept).weak fun i _ h => all_sp i h) (HR7.out) (keep_set10 _ _ (.int .i64 k) (.int .i64 o) (.bool no) (.int .i64 vk) (.int .i64 vi) (.string vt) (.string t) (.string nm) (.slice a args.length ac) (.slice (some ⟨W6.heap.size, 0, none⟩) 1 1)) (dep_new HD.out _ _ _ (.inr rfl) (.inr rfl) (.inr rfl) (.inr rfl) (.inl (qus_one ⟨HQD.out.1, HQD.out.2.1, dep_app HQD.out.2.2 (HDY.out.up (by omega))⟩)))
          exact FIN
        · go_upto_region 27 with fail
          clear x0 x1 x2 x3 x4 x5 x6 x7 x8 x9 xf xz
          obtain ⟨x0, x1, x2, x3, x4, x5, x6, x7, x8, x9, xf, xz⟩ := HB2.out.cells
          obtain ⟨r0, r1, r2, r3, r4, r5, r6, r7, r8, r9, rf, rz⟩ := HB2.out.res
          repeat (first | go_values | go_skip | go_guarded | go_step | go_upon)
          refine bodyPost_ret (v := .agg #[.int .i64 k, .int .i64 o, .bool no, .int .i64 vk, .int .i64 vi, .string vt, .string t, .string nm, .slice a args.length ac, .slice s sub.length sc]) (by simp [results, Tryd.results10, go_sem, r0, r1, r2, r3, r4, r5, r6, r7, r8, r9]) rfl ?_
          have FIN := sp_fin (M := M) (m := n + 4) hTw HB2.out ((HA.out _ HB2.out.kept).weak fun i _ h => all_sp i h) ((HS.out _ HB2.out.kept).weak fun i _ h => all_sp i h) (keep_set10 _ _ (.int .i64 k) (.int .i64 o) (.bool no) (.int .i64 vk) (.int .i64 vi) (.string vt) (.string t) (.string nm) (.slice a args.length ac) (.slice s sub.length sc)) (dep_new HD.out _ _ _ (.inr rfl) (.inr rfl) (.inr rfl) (.inr rfl) (.inr rfl))
          exact FIN
    · have hne : args ≠ [] := HNE.out rfl
      have hpos : 0 < args.length := List.length_pos_iff.2 hne
      go_wp2_with fail
      refine (next_any T args.length _ (by omega) (by omega) HB1.out.tape).mono ?_
      rintro e w2 ⟨v, rfl, ⟨r, rfl, hr0, hr1⟩, ht, hk⟩
      have HB2 := Lib.hid (HB1.out.step hTw ht hk)
      obtain ⟨j, rfl⟩ : ∃ j : Nat, r = (j : Int) := ⟨r.toNat, by omega⟩
      have hj : j < args.length := by omega
      clear ht hk x0 x1 x2 x3 x4 x5 x6 x7 x8 x9 xf xz
      dsimp only
      obtain ⟨x0, x1, x2, x3, x4, x5, x6, x7, x8, x9, xf, xz⟩ := HB2.out.cells
      go_upto_region 4 with (at_builtin; (refine wpList_copy (w := w2) ecStable rfl _ _ 24 rfl 27 _ 10 136 Tryd.underlying24 infoExpr rfl (by decide) (AllM M w.heap.size) (.slice a args.length ac) args ?h1 ?h2 ?h3 ?h4 ?h5 ?h6 ?_); (case h1 => rfl); (case h2 => rfl); (case h3 => exact HA.out _ HB2.out.kept); (case h4 => exact fun i hi => .inr (by have := HB2.out.lt; omega)); (case h5 => (have := HAL.out; omega)); (case h6 => (have := HAL.out; unfold maxLen; omega)); intro v3 w3 ho hb; obtain ⟨a3, c3, rfl, _⟩ := ho.shape; have HB3 := Lib.hid (HB2.out.bel hTw hb); have HO3 := Lib.hid ho; have HZ3 := Lib.hid (HB2.out.lt); have HS3 := Lib.hid hb.size; clear x0 x1 x2 x3 x4 x5 x6 x7 x8 x9 xf xz; obtain ⟨x0, x1, x2, x3, x4, x5, x6, x7, x8, x9, xf, xz⟩ := HB3.out.cells; clear ho hb)
      obtain ⟨g, cg, hv, hg1, hg2, hgf⟩ := HO3.out.at hne
      simp only [Value.slice.injEq] at hv
      obtain ⟨rfl, _, rfl⟩ := hv
      have hz3 := HZ3.out
      have hks : Keep (At w.heap.size) w3 (w3.setCell ⟨w.heap.size, 8, none⟩ (.slice (some ⟨g, 0, none⟩) args.length c3)) := (Keep.refl (At w.heap.size) w3).setCell (p := ⟨w.heap.size, 8, none⟩) (fun _ => rfl) _
      have hb4 := HB3.out.set8 hTw (.slice (some ⟨g, 0, none⟩) args.length c3)
      have hrow : RowsR (fun i => i < w2.heap.size) (w3.setCell ⟨w.heap.size, 8, none⟩ (.slice (some ⟨g, 0, none⟩) args.length c3)) 10 (EC (AllM M w.heap.size) (w3.setCell ⟨w.heap.size, 8, none⟩ (.slice (some ⟨g, 0, none⟩) args.length c3))) (.slice (some ⟨g, 0, none⟩) args.length c3) args :=
        RowsR.map (HO3.out.rows (M := fun i => i < w2.heap.size) fun i h1 _ h2 => by omega) (hks.weak fun i _ h => by unfold At at h; omega) fun x _ cs h => EC.keep (hks.weak fun i _ h => .inr (by unfold At at h; omega)) _ _ h
      have hf4 : ∀ i, (w3.setCell ⟨w.heap.size, 8, none⟩ (.slice (some ⟨g, 0, none⟩) args.length c3)).frozen? ⟨g, i, none⟩ = false := fun i => by rw [(kcell hks).2 g i hg2 (by omega)]; exact hgf i
      have hg4 : g < (w3.setCell ⟨w.heap.size, 8, none⟩ (.slice (some ⟨g, 0, none⟩) args.length c3)).heap.size := by simpa using hg2
      generalize hW4 : World.setCell w3 _ _ = W4
      rw [hW4] at hb4 hrow hf4 hg4
      have HB4 := Lib.hid hb4
      have HR4 := Lib.hid hrow
      have HF4 := Lib.hid hf4
      clear hW4 hks hb4 hf4 hgf HO3 HB3 x0 x1 x2 x3 x4 x5 x6 x7 x8 x9 xf xz
      rcases hrow.open with ⟨_, h⟩ | ⟨ab, ao, cap', hv', _, hab, _, _, hx⟩
      · exact absurd h hne
      simp only [Value.slice.injEq, Option.some.injEq, Addr.mk.injEq, and_true] at hv'
      obtain ⟨⟨rfl, rfl⟩, _, rfl⟩ := hv'
      have hxj : args[j]? = some args[j] := List.getElem?_eq_getElem hj
      obtain ⟨cs, hc, _, hcs⟩ := hx j _ hxj
      have hmem := List.mem_of_getElem? hxj
      generalize args[j] = x at hxj hc hmem
      obtain ⟨m, hm, hax⟩ := HX.out.2.2.2 x hmem
      have HEM := Lib.hid (HE.out m hm)
      have HAX := Lib.hid hax
      have HEC := Lib.hid hc
      rw [Nat.zero_add] at hcs
      obtain ⟨xva, xvs, rfl, hva, hvs⟩ := (EC_iff ..).1 hc
      obtain ⟨xa, xac, rfl, _⟩ := hva.shape
      obtain ⟨xs, xsc, rfl, _⟩ := hvs.shape
      obtain ⟨y0, y1, y2, y3, y4, y5, y6, y7, y8, y9⟩ := CellsAt.c10 hcs
      have HCS := Lib.hid hcs
      have HMN := Lib.hid hm
      have HMEM := Lib.hid hmem
      have i0 : (0 : Int) ≤ (j : Int) := by omega
      have i1 : (j : Int) < (args.length : Int) := by omega
      have hgs : g ≠ w.heap.size := by omega
      have hgT : g ≠ T := by omega
      have HG1 := Lib.hid hg1
      have HJ := Lib.hid hj
      clear hrow hx hc hcs hva hvs hxj hmem hax hm hr0 hr1 hj
      obtain ⟨x0, x1, x2, x3, x4, x5, x6, x7, x8, x9, xf, xz⟩ := HB4.out.cells
      refine wp_region_noPanic ?_
      refine wp_region_held_drew (S := fun w' => w'.cell? ⟨w.heap.size, 8, none⟩ = some (.slice (some ⟨g, 0, none⟩) args.length c3)) (by kernel_rfl) x8 (fun hHeld => ?_)
      refine wpAnyH_take (i := 0) (v := _) rfl (by kernel_rfl) (by kernel_rfl) (by kernel_rfl) (fun _ _ _ h => h) (Or.inl ⟨by rfl, by (intro w hSw; (try dsimp only at hSw); go_simp; (try with_reducible rfl))⟩) (by assumption) ?_
      simp only [Act.put, List.getElem_toArray, List.getElem_cons_zero, List.setIfInBounds_toArray, List.set_cons_zero, List.set_cons_succ]
      refine wpAnyH_take (i := 1) (v := _) rfl (by kernel_rfl) (by kernel_rfl) (by kernel_rfl) (fun _ _ _ h => h) (Or.inl ⟨by rfl, by (intro w hSw; (try dsimp only at hSw); go_simp; (try with_reducible rfl))⟩) (by assumption) ?_
      simp only [Act.put, List.getElem_toArray, List.getElem_cons_succ, List.getElem_cons_zero, List.setIfInBounds_toArray, List.set_cons_zero, List.set_cons_succ]
      refine wpAnyH_take (i := 2) (v := _) rfl (by kernel_rfl) (by kernel_rfl) (by kernel_rfl) (fun _ _ _ h => h) (Or.inl ⟨by rfl, by (intro w hSw; (try dsimp only at hSw); go_simp; (try with_reducible rfl))⟩) (by assumption) ?_
      simp only [Act.put, List.getElem_toArray, List.getElem_cons_succ, List.getElem_cons_zero, List.setIfInBounds_toArray, List.set_cons_zero, List.set_cons_succ]
      refine wpAnyH_take (i := 3) (v := _) rfl (by kernel_rfl) (by kernel_rfl) (by kernel_rfl) (fun _ _ _ h => h) (Or.inl ⟨by rfl, by (intro w hSw; (try dsimp only at hSw); go_simp; (try with_reducible rfl))⟩) (by assumption) ?_
      simp only [Act.put, List.getElem_toArray, List.getElem_cons_succ, List.getElem_cons_zero, List.setIfInBounds_toArray, List.set_cons_zero, List.set_cons_succ]
      refine wpAnyH_take (i := 4) (v := _) rfl (by kernel_rfl) (by kernel_rfl) (by kernel_rfl) (fun _ _ _ h => h) (Or.inl ⟨by rfl, by (intro w hSw; (try dsimp only at hSw); go_simp; (try with_reducible rfl))⟩) (by assumption) ?_
      simp only [Act.put, List.getElem_toArray, List.getElem_cons_succ, List.getElem_cons_zero, List.setIfInBounds_toArray, List.set_cons_zero, List.set_cons_succ]
      refine wpAnyH_take (i := 5) (v := _) rfl (by kernel_rfl) (by kernel_rfl) (by kernel_rfl) (fun _ _ _ h => h) (Or.inl ⟨by rfl, by (intro w hSw; (try dsimp only at hSw); go_simp; (try with_reducible rfl))⟩) (by assumption) ?_
      simp only [Act.put, List.getElem_toArray, List.getElem_cons_succ, List.getElem_cons_zero, List.setIfInBounds_toArray, List.set_cons_zero, List.set_cons_succ]
      refine wpAnyH_take (i := 6) (v := _) rfl (by kernel_rfl) (by kernel_rfl) (by kernel_rfl) (fun _ _ _ h => h) (Or.inl ⟨by rfl, by (intro w hSw; (try dsimp only at hSw); go_simp; (try with_reducible rfl))⟩) (by assumption) ?_
      simp only [Act.put, List.getElem_toArray, List.getElem_cons_succ, List.getElem_cons_zero, List.setIfInBounds_toArray, List.set_cons_zero, List.set_cons_succ]
      refine wpAnyH_take (i := 7) (v := _) rfl (by kernel_rfl) (by kernel_rfl) (by kernel_rfl) (fun _ _ _ h => h) (Or.inl ⟨by rfl, by (intro w hSw; (try dsimp only at hSw); go_simp; (try with_reducible rfl))⟩) (by assumption) ?_
      simp only [Act.put, List.getElem_toArray, List.getElem_cons_succ, List.getElem_cons_zero, List.setIfInBounds_toArray, List.set_cons_zero, List.set_cons_succ]
      refine wpAnyH_ready (rs := [8]) (by kernel_rfl) (by simp) ?_
      refine AllReadyH.cons (o := _) rfl (fun K hK => ?_) AllReadyH.nil
      go_simp
      refine hK.out _ _ hHeld (fun hHeld => ?_)
      clear hK K
      refine wpAnyH_ready (rs := [9]) (by kernel_rfl) (by simp) ?_
      refine AllReadyH.cons (o := _) rfl (fun K hK => ?_) AllReadyH.nil
      go_simp
      refine (HEM.out (AllM M w.heap.size) T _ x _ (.inl ⟨hTw, HM.out⟩) HB4.out.drew.tape (HWD.out.at HB4.out.drew.kept) (EC.keep ((Keep.refl _ W4).drew) _ _ HEC.out) HAX.out).mono ?_
      rintro e w5 ⟨v, rfl, ⟨x', hx', hd'⟩, ht, hk⟩
      have hx0 := hx'
      obtain ⟨a5, ac5, s5, sc5, rfl, _, _⟩ := hx0
      have HB5 := Lib.hid (HB4.out.drew.step hTw ht hk)
      have HX5 := Lib.hid (exv_cs hx')
      have HD5 := Lib.hid hd'
      have hk5 := hk
      have hcs5 := HCS.out.keep (M := At T) (((Keep.refl (At T) W4).drew).trans hk) hgT
      have hf5 : ∀ i, w5.frozen? ⟨g, i, none⟩ = false := fun i => by rw [(kcell hk).2 g i hg4 hgT]; exact HF4.out i
      have HK5 := Lib.hid (((Keep.refl (At T) W4).drew).trans hk)
      dsimp only
      refine hK.out _ _ HB5.out.cells.2.2.2.2.2.2.2.2.1 (fun hHeld => ?_)
      clear hK K ht hk hx' hd' hk5 y0 y1 y2 y3 y4 y5 y6 y7 y8 y9 x0 x1 x2 x3 x4 x5 x6 x7 x8 x9 xf xz
      obtain ⟨y0, y1, y2, y3, y4, y5, y6, y7, y8, y9⟩ := CellsAt.c10 hcs5
      obtain ⟨x0, x1, x2, x3, x4, x5, x6, x7, x8, x9, xf, xz⟩ := HB5.out.cells
      refine wpAnyH_take (i := 10) (v := _) rfl (by kernel_rfl) (by kernel_rfl) (by kernel_rfl) (fun _ _ _ h => h) (Or.inl ⟨by rfl, by (intro w hSw; (try dsimp only at hSw); go_simp; (try with_reducible rfl))⟩) (by assumption) ?_
      simp only [Act.put, List.getElem_toArray, List.getElem_cons_succ, List.getElem_cons_zero, List.setIfInBounds_toArray, List.set_cons_zero, List.set_cons_succ]
      refine wpAnyH_ready (rs := [11]) (by kernel_rfl) (by simp) ?_
      refine AllReadyH.cons (o := _) rfl (fun K hK => ?_) AllReadyH.nil
      go_simp
      refine hK.out _ _ ((((keep_setCells (C := g) [.int .i64 x'.kind, .int .i64 x'.op, .bool x'.no, .int .i64 x'.val.kind, .int .i64 x'.val.int, .string x'.val.text, .string x'.table, .string x'.name, .slice a5 x'.args.length ac5, .slice s5 x'.sub.length sc5] (j * 10) w5)).cell xz fun h => by unfold At at h; omega).trans x8) (fun hHeld => ?_)
      clear hK K
      refine wpAnyH_done (by kernel_rfl) ?_ _
      refine NoPanic.normal ?_
      go_upto_region 5 with fail
      have hks : Keep (At g) w5 (w5.setCells g (j * 10) [.int .i64 x'.kind, .int .i64 x'.op, .bool x'.no, .int .i64 x'.val.kind, .int .i64 x'.val.int, .string x'.val.text, .string x'.table, .string x'.name, .slice a5 x'.args.length ac5, .slice s5 x'.sub.length sc5]) := (keep_setCells (C := g) [.int .i64 x'.kind, .int .i64 x'.op, .bool x'.no, .int .i64 x'.val.kind, .int .i64 x'.val.int, .string x'.val.text, .string x'.table, .string x'.name, .slice a5 x'.args.length ac5, .slice s5 x'.sub.length sc5] (j * 10) w5)
      have hz5 : w.heap.size + 2 ≤ g := by have := HG1.out; omega
      have hg5 : g < w5.heap.size := by have := HK5.out.size; omega
      have hkT : Keep (AllM M w.heap.size) W4 w5 := HK5.out.weak fun i _ h => .inl (by unfold At at h; subst h; exact ⟨hTw, HM.out⟩)
      have hr5 : RowsR (fun i => i < w2.heap.size) w5 10 (EC (AllM M w.heap.size) w5) (.slice (some ⟨g, 0, none⟩) args.length c3) args := RowsR.map HR4.out (HK5.out.weak fun i _ h => by unfold At at h; omega) fun x _ cs h => EC.keep hkT _ _ h
      have hr6 : ExsR (SpM M w.heap.size) (w5.setCells g (j * 10) [.int .i64 x'.kind, .int .i64 x'.op, .bool x'.no, .int .i64 x'.val.kind, .int .i64 x'.val.int, .string x'.val.text, .string x'.table, .string x'.name, .slice a5 x'.args.length ac5, .slice s5 x'.sub.length sc5]) (.slice (some ⟨g, 0, none⟩) args.length c3) (args.set j x') := by
        have h := rows_set (M' := SpM M w.heap.size) (R' := EC (SpM M w.heap.size) (w5.setCells g (j * 10) [.int .i64 x'.kind, .int .i64 x'.op, .bool x'.no, .int .i64 x'.val.kind, .int .i64 x'.val.int, .string x'.val.text, .string x'.table, .string x'.name, .slice a5 x'.args.length ac5, .slice s5 x'.sub.length sc5])) (x := x') (cs := [.int .i64 x'.kind, .int .i64 x'.op, .bool x'.no, .int .i64 x'.val.kind, .int .i64 x'.val.int, .string x'.val.text, .string x'.table, .string x'.name, .slice a5 x'.args.length ac5, .slice s5 x'.sub.length sc5]) hr5 (by unfold SpM; omega) HJ.out rfl (fun z _ c h => EC.weak (fun i _ h => all_sp i h) _ _ (EC.keep (hks.weak fun i _ h => .inr (by unfold At at h; omega)) _ _ h)) ?_
        · rw [Nat.zero_add] at h; exact h
        · refine EC.weak (fun i _ h => ⟨?_, all_sp i h⟩) _ _ (EC.keep (hks.weak fun i _ h => ⟨?_, .inr ?_⟩) _ _ HX5.out)
          · have h1 := HB4.out.lt
            have h2 : W4.drew.heap.size = W4.heap.size := rfl
            unfold SpM at h
            omega
          · unfold At at h; subst h; exact hg4
          · unfold At at h; omega
      have hb6 := HB5.out.then hTw hks fun i hi h => by unfold At at h; omega
      generalize hW6 : World.setCell _ _ _ = W6
      have hW7 : w5.setCells g (j * 10) [.int .i64 x'.kind, .int .i64 x'.op, .bool x'.no, .int .i64 x'.val.kind, .int .i64 x'.val.int, .string x'.val.text, .string x'.table, .string x'.name, .slice a5 x'.args.length ac5, .slice s5 x'.sub.length sc5] = W6 := hW6
      rw [hW7] at hb6 hr6
      have HB6 := Lib.hid hb6
      have HR6 := Lib.hid hr6
      clear hks hkT hr5 hb6 hr6 hW6 hW7 y0 y1 y2 y3 y4 y5 y6 y7 y8 y9 x0 x1 x2 x3 x4 x5 x6 x7 x8 x9 xf xz
      obtain ⟨x0, x1, x2, x3, x4, x5, x6, x7, x8, x9, xf, xz⟩ := HB6.out.cells
      obtain ⟨r0, r1, r2, r3, r4, r5, r6, r7, r8, r9, rf, rz⟩ := HB6.out.res
      repeat (first | go_values | go_skip | go_guarded | go_step | go_upon)
      refine bodyPost_ret (v := .agg #[.int .i64 k, .int .i64 o, .bool no, .int .i64 vk, .int .i64 vi, .string vt, .string t, .string nm, .slice (some ⟨g, 0, none⟩) args.length c3, .slice s sub.length sc]) (by simp [results, Tryd.results10, go_sem, r0, r1, r2, r3, r4, r5, r6, r7, r8, r9]) rfl ?_
      have FIN := sp_fin (M := M) (m := n + 4) hTw HB6.out (HR6.out) ((HS.out _ HB6.out.kept).weak fun i _ h => all_sp i h) (keep_set10 _ _ (.int .i64 k) (.int .i64 o) (.bool no) (.int .i64 vk) (.int .i64 vi) (.string vt) (.string t) (.string nm) (.slice (some ⟨g, 0, none⟩) args.length c3) (.slice s sub.length sc)) (dep_new HD.out _ _ _ (.inr rfl) (.inr rfl) (.inr rfl) (.inl (dep_set (dep_arg HD.out).1 (HD5.out.up (by have := HMN.out; omega)))) (.inr rfl))
      exact FIN

theorem sp_ok : ∀ n : Nat, SpOk n := by
  intro n
  induction n with
  | zero =>
    intro M T w e cs hM ht hw he hx
    obtain ⟨k, o, no, ⟨vk, vi, vt⟩, t, nm, args, sub⟩ := e
    obtain ⟨va, vs, rfl, ha, hs⟩ := (EC_iff ..).1 he
    obtain ⟨a, ac, rfl, _⟩ := ha.shape
    obtain ⟨s, sc, rfl, _⟩ := hs.shape
    exact spoiled_any M T 0 k o no vk vi vt t nm args sub a s ac sc w hM ht hw ha hs hx fun m h => by omega
  | succ n ih =>
    intro M T w e cs hM ht hw he hx
    obtain ⟨k, o, no, ⟨vk, vi, vt⟩, t, nm, args, sub⟩ := e
    obtain ⟨va, vs, rfl, ha, hs⟩ := (EC_iff ..).1 he
    obtain ⟨a, ac, rfl, _⟩ := ha.shape
    obtain ⟨s, sc, rfl, _⟩ := hs.shape
    exact spoiled_any M T (n + 1) k o no vk vi vt t nm args sub a s ac sc w hM ht hw ha hs hx fun m h => by
      obtain rfl : m = n := by omega
      exact ih

end Go.Proofs.YthcpacadjnpacaaDoor
