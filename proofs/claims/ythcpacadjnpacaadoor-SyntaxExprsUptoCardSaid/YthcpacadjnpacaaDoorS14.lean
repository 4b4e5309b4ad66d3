/- The program and the reference answer alike for every expression: the contract of alike. -/
import Derived.Test.YthcpacadjnpacaaDoorS10
import Derived.Test.YthcpacadjnpacaaDoorS11
import Derived.Test.YthcpacadjnpacaaDoorKN3
import Derived.Test.YthcpacadjnpacaaDoorKD1
import Derived.Deep.RegionHeld3
namespace Go.Proofs.YthcpacadjnpacaaDoor
open Go.RowKit

section
variable (k o : Int) (no : Bool) (vk vi : Int) (vt t nm : ByteArray) (a s : Option Addr) (an ac sn sc : Nat) (p : Int) (w : World)
set_option maxRecDepth 100000 in
set_option maxHeartbeats 20000000 in
theorem alike_bad (hv : ∀ wx, Below w.heap.size w wx → Calls Tryd.prog 11 #[.agg #[.int .i64 k, .int .i64 o, .bool no, .int .i64 vk, .int .i64 vi, .string vt, .string t, .string nm, .slice a an ac, .slice s sn sc]] wx (RetBel (.bool false) wx)) (hrv : ∀ wx, Below w.heap.size w wx → Calls Tryd.prog 43 #[.agg #[.int .i64 k, .int .i64 o, .bool no, .int .i64 vk, .int .i64 vi, .string vt, .string t, .string nm, .slice a an ac, .slice s sn sc]] wx (RetBel (.bool false) wx)) (hp : ∀ wx, Calls Tryd.prog 44 #[.agg #[.int .i64 k, .int .i64 o, .bool no, .int .i64 vk, .int .i64 vi, .string vt, .string t, .string nm, .slice a an ac, .slice s sn sc]] wx (RetBel (.int .i64 p) wx)) (hrp : ∀ wx, Calls Tryd.prog 45 #[.agg #[.int .i64 k, .int .i64 o, .bool no, .int .i64 vk, .int .i64 vi, .string vt, .string t, .string nm, .slice a an ac, .slice s sn sc]] wx (RetBel (.int .i64 p) wx)) :
    Calls Tryd.prog 9 #[.agg #[.int .i64 k, .int .i64 o, .bool no, .int .i64 vk, .int .i64 vi, .string vt, .string t, .string nm, .slice a an ac, .slice s sn sc]] w (RetBel (.bool true) w) := by
  have HV := Lib.hid hv
  have HRV := Lib.hid hrv
  have HP := Lib.hid hp
  have HRP := Lib.hid hrp
  clear hv hrv hp hrp
  go_enter Tryd.func9, Tryd.ntmps9
  go_upto_region 1 with fail
  generalize hW : World.alloc w _ = W1
  have hk0 : W1.heap[w.heap.size]? = some (.cells #[.int .i64 k, .int .i64 o, .bool no, .int .i64 vk, .int .i64 vi, .string vt, .string t, .string nm, .slice a an ac, .slice s sn sc] 27 (0, 0)) := by rw [← hW]; exact heap_alloc_new w _
  have hb1 : Below w.heap.size w W1 := by rw [← hW]; exact (Below.refl _ _).alloc (Nat.le_refl _) _
  have hz : w.heap.size < W1.heap.size := by rw [← hW]; simp
  have HB1 := Lib.hid hb1
  have HSQ : Hid (∀ w', Below W1.heap.size W1 w' → w'.cell? ⟨w.heap.size, 0, none⟩ = some (.int .i64 k) ∧ w'.cell? ⟨w.heap.size, 1, none⟩ = some (.int .i64 o) ∧ w'.cell? ⟨w.heap.size, 2, none⟩ = some (.bool no) ∧ w'.cell? ⟨w.heap.size, 3, none⟩ = some (.int .i64 vk) ∧ w'.cell? ⟨w.heap.size, 4, none⟩ = some (.int .i64 vi) ∧ w'.cell? ⟨w.heap.size, 5, none⟩ = some (.string vt) ∧ w'.cell? ⟨w.heap.size, 6, none⟩ = some (.string t) ∧ w'.cell? ⟨w.heap.size, 7, none⟩ = some (.string nm) ∧ w'.cell? ⟨w.heap.size, 8, none⟩ = some (.slice a an ac) ∧ w'.cell? ⟨w.heap.size, 9, none⟩ = some (.slice s sn sc)) := Lib.hid fun wx hb => by
    obtain ⟨x0, x1, x2, x3, x4, x5, x6, x7, x8, x9, _, _⟩ := blk10 ((hb.block w.heap.size hz).trans hk0)
    exact ⟨x0, x1, x2, x3, x4, x5, x6, x7, x8, x9⟩
  clear hW hb1 hk0
  refine wp_region_noPanic ?_
  refine wp_region_held_drew (S := fun w' => w'.cell? ⟨w.heap.size, 0, none⟩ = some (.int .i64 k) ∧ w'.cell? ⟨w.heap.size, 1, none⟩ = some (.int .i64 o) ∧ w'.cell? ⟨w.heap.size, 2, none⟩ = some (.bool no) ∧ w'.cell? ⟨w.heap.size, 3, none⟩ = some (.int .i64 vk) ∧ w'.cell? ⟨w.heap.size, 4, none⟩ = some (.int .i64 vi) ∧ w'.cell? ⟨w.heap.size, 5, none⟩ = some (.string vt) ∧ w'.cell? ⟨w.heap.size, 6, none⟩ = some (.string t) ∧ w'.cell? ⟨w.heap.size, 7, none⟩ = some (.string nm) ∧ w'.cell? ⟨w.heap.size, 8, none⟩ = some (.slice a an ac) ∧ w'.cell? ⟨w.heap.size, 9, none⟩ = some (.slice s sn sc)) (by kernel_rfl) (HSQ.out _ (drew_below (Below.refl _ _))) (fun hHeld => ?_)
  refine wpAnyH_take (i := 0) (v := _) rfl (by kernel_rfl) (by kernel_rfl) (by kernel_rfl) (fun _ _ _ h => h) (Or.inl ⟨by rfl, by (intro w hSw; (try dsimp only at hSw); go_simp; (try with_reducible rfl))⟩) (by assumption) ?_
  simp only [Act.put, List.getElem_toArray, List.getElem_cons_zero, List.setIfInBounds_toArray, List.set_cons_zero, List.set_cons_succ]
  refine wpAnyH_take (i := 2) (v := _) rfl (by kernel_rfl) (by kernel_rfl) (by kernel_rfl) (fun _ _ _ h => h) (Or.inl ⟨by rfl, by (intro w hSw; (try dsimp only at hSw); go_simp; (try with_reducible rfl))⟩) (by assumption) ?_
  simp only [Act.put, List.getElem_toArray, List.getElem_cons_succ, List.getElem_cons_zero, List.setIfInBounds_toArray, List.set_cons_zero, List.set_cons_succ]
  refine wpAnyH_ready (rs := [1]) (by kernel_rfl) (by simp) ?_
  refine AllReadyH.cons (o := _) rfl (fun K hK => ?_) AllReadyH.nil
  go_simp
  refine (HV.out _ (HB1.out.trans ((drew_below (Below.refl W1.heap.size W1)).mono HB1.out.size))).mono ?_
  rintro e wy1 ⟨rfl, hb⟩
  have HC1 := Lib.hid ((drew_below (Below.refl W1.heap.size W1)).trans (hb.mono (Nat.le_refl _)))
  dsimp only
  refine hK.out _ _ (HSQ.out _ HC1.out) (fun hHeld => ?_)
  clear hK K hb
  refine wpAnyH_ready (rs := [3]) (by kernel_rfl) (by simp) ?_
  refine AllReadyH.cons (o := _) rfl (fun K hK => ?_) AllReadyH.nil
  go_simp
  refine (HRV.out _ (HB1.out.trans (HC1.out.mono HB1.out.size))).mono ?_
  rintro e wy2 ⟨rfl, hb⟩
  have HC2 := Lib.hid (HC1.out.trans (hb.mono HC1.out.size))
  dsimp only
  refine hK.out _ _ (HSQ.out _ HC2.out) (fun hHeld => ?_)
  clear hK K hb
  refine wpAnyH_take (i := 4) (v := .bool true) rfl (by kernel_rfl) (by kernel_rfl) (by kernel_rfl) (fun _ _ _ h => h) (Or.inl ⟨by rfl, by (intro w hSw; (try dsimp only at hSw); go_simp; (try with_reducible rfl))⟩) (by assumption) ?_
  simp only [Act.put, List.getElem_toArray, List.getElem_cons_succ, List.getElem_cons_zero, List.setIfInBounds_toArray, List.set_cons_zero, List.set_cons_succ]
  refine wpAnyH_take (i := 5) (v := _) rfl (by kernel_rfl) (by kernel_rfl) (by kernel_rfl) (fun _ _ _ h => h) (Or.inl ⟨by rfl, by (intro w hSw; (try dsimp only at hSw); go_simp; (try with_reducible rfl))⟩) (by assumption) ?_
  simp only [Act.put, List.getElem_toArray, List.getElem_cons_succ, List.getElem_cons_zero, List.setIfInBounds_toArray, List.set_cons_zero, List.set_cons_succ]
  refine wpAnyH_take (i := 6) (v := _) rfl (by kernel_rfl) (by kernel_rfl) (by kernel_rfl) (fun _ _ _ h => h) (Or.inl ⟨by rfl, by (intro w hSw; (try dsimp only at hSw); go_simp; (try with_reducible rfl))⟩) (by assumption) ?_
  simp only [Act.put, List.getElem_toArray, List.getElem_cons_succ, List.getElem_cons_zero, List.setIfInBounds_toArray, List.set_cons_zero, List.set_cons_succ]
  refine wpAnyH_take (i := 8) (v := _) rfl (by kernel_rfl) (by kernel_rfl) (by kernel_rfl) (fun _ _ _ h => h) (Or.inl ⟨by rfl, by (intro w hSw; (try dsimp only at hSw); go_simp; (try with_reducible rfl))⟩) (by assumption) ?_
  simp only [Act.put, List.getElem_toArray, List.getElem_cons_succ, List.getElem_cons_zero, List.setIfInBounds_toArray, List.set_cons_zero, List.set_cons_succ]
  refine wpAnyH_ready (rs := [7]) (by kernel_rfl) (by simp) ?_
  refine AllReadyH.cons (o := _) rfl (fun K hK => ?_) AllReadyH.nil
  go_simp
  refine (HP.out _).mono ?_
  rintro e wy3 ⟨rfl, hb⟩
  have HC3 := Lib.hid (HC2.out.trans (hb.mono HC2.out.size))
  dsimp only
  refine hK.out _ _ (HSQ.out _ HC3.out) (fun hHeld => ?_)
  clear hK K hb
  refine wpAnyH_ready (rs := [9]) (by kernel_rfl) (by simp) ?_
  refine AllReadyH.cons (o := _) rfl (fun K hK => ?_) AllReadyH.nil
  go_simp
  refine (HRP.out _).mono ?_
  rintro e wy4 ⟨rfl, hb⟩
  have HC4 := Lib.hid (HC3.out.trans (hb.mono HC3.out.size))
  dsimp only
  refine hK.out _ _ (HSQ.out _ HC4.out) (fun hHeld => ?_)
  clear hK K hb
  refine wpAnyH_take (i := 10) (v := .bool true) rfl (by kernel_rfl) (by kernel_rfl) (by kernel_rfl) (fun _ _ _ h => h) (Or.inl ⟨by rfl, by (intro w hSw; (try dsimp only at hSw); go_simp; (try with_reducible rfl))⟩) (by assumption) ?_
  simp only [Act.put, List.getElem_toArray, List.getElem_cons_succ, List.getElem_cons_zero, List.setIfInBounds_toArray, List.set_cons_zero, List.set_cons_succ]
  refine wpAnyH_take (i := 11) (v := _) rfl (by kernel_rfl) (by kernel_rfl) (by kernel_rfl) (fun _ _ _ h => h) (Or.inl ⟨by rfl, by (intro w hSw; (try dsimp only at hSw); go_simp; (try with_reducible rfl))⟩) (by assumption) ?_
  simp only [Act.put, List.getElem_toArray, List.getElem_cons_succ, List.getElem_cons_zero, List.setIfInBounds_toArray, List.set_cons_zero, List.set_cons_succ]
  refine wpAnyH_take (i := 12) (v := _) rfl (by kernel_rfl) (by kernel_rfl) (by kernel_rfl) (fun _ _ _ h => h) (Or.inl ⟨by rfl, by (intro w hSw; (try dsimp only at hSw); go_simp; (try with_reducible rfl))⟩) (by assumption) ?_
  simp only [Act.put, List.getElem_toArray, List.getElem_cons_succ, List.getElem_cons_zero, List.setIfInBounds_toArray, List.set_cons_zero, List.set_cons_succ]
  refine wpAnyH_take (i := 13) (v := _) rfl (by kernel_rfl) (by kernel_rfl) (by kernel_rfl) (fun _ _ _ h => h) (Or.inl ⟨by rfl, by (intro w hSw; (try dsimp only at hSw); go_simp; (try with_reducible rfl))⟩) (by assumption) ?_
  simp only [Act.put, List.getElem_toArray, List.getElem_cons_succ, List.getElem_cons_zero, List.setIfInBounds_toArray, List.set_cons_zero, List.set_cons_succ]
  refine wpAnyH_ready (rs := [14]) (by kernel_rfl) (by simp) ?_
  refine AllReadyH.cons (o := _) rfl (fun K hK => ?_) AllReadyH.nil
  go_simp
  refine (HRV.out _ (HB1.out.trans (HC4.out.mono HB1.out.size))).mono ?_
  rintro e wy5 ⟨rfl, hb⟩
  have HC5 := Lib.hid (HC4.out.trans (hb.mono HC4.out.size))
  dsimp only
  refine hK.out _ _ (HSQ.out _ HC5.out) (fun hHeld => ?_)
  clear hK K hb
  refine wpAnyH_take (i := 15) (v := _) rfl (by kernel_rfl) (by kernel_rfl) (by kernel_rfl) (fun _ _ _ h => h) (Or.inl ⟨by rfl, by (intro w hSw; (try dsimp only at hSw); go_simp; (try with_reducible rfl))⟩) (by assumption) ?_
  simp only [Act.put, List.getElem_toArray, List.getElem_cons_succ, List.getElem_cons_zero, List.setIfInBounds_toArray, List.set_cons_zero, List.set_cons_succ]
  refine wpAnyH_take (i := 16) (v := _) rfl (by kernel_rfl) (by kernel_rfl) (by kernel_rfl) (fun _ _ _ h => h) (Or.inl ⟨by rfl, by (intro w hSw; (try dsimp only at hSw); go_simp; (try with_reducible rfl))⟩) (by assumption) ?_
  simp only [Act.put, List.getElem_toArray, List.getElem_cons_succ, List.getElem_cons_zero, List.setIfInBounds_toArray, List.set_cons_zero, List.set_cons_succ]
  refine wpAnyH_take (i := 17) (v := _) rfl (by kernel_rfl) (by kernel_rfl) (by kernel_rfl) (fun _ _ _ h => h) (Or.inr ⟨by rfl, rfl⟩) (by assumption) ?_
  simp only [Act.put, List.getElem_toArray, List.getElem_cons_succ, List.getElem_cons_zero, List.setIfInBounds_toArray, List.set_cons_zero, List.set_cons_succ]
  refine wpAnyH_take (i := 18) (v := _) rfl (by kernel_rfl) (by kernel_rfl) (by kernel_rfl) (fun _ _ _ h => h) (Or.inr ⟨by rfl, rfl⟩) (by assumption) ?_
  simp only [Act.put, List.getElem_toArray, List.getElem_cons_succ, List.getElem_cons_zero, List.setIfInBounds_toArray, List.set_cons_zero, List.set_cons_succ]
  refine wpAnyH_take (i := 19) (v := _) rfl (by kernel_rfl) (by kernel_rfl) (by kernel_rfl) (fun _ _ _ h => h) (Or.inr ⟨by rfl, rfl⟩) (by assumption) ?_
  simp only [Act.put, List.getElem_toArray, List.getElem_cons_succ, List.getElem_cons_zero, List.setIfInBounds_toArray, List.set_cons_zero, List.set_cons_succ]
  refine wpAnyH_take (i := 20) (v := _) rfl (by kernel_rfl) (by kernel_rfl) (by kernel_rfl) (fun _ _ _ h => h) (Or.inr ⟨by rfl, rfl⟩) (by assumption) ?_
  simp only [Act.put, List.getElem_toArray, List.getElem_cons_succ, List.getElem_cons_zero, List.setIfInBounds_toArray, List.set_cons_zero, List.set_cons_succ]
  refine wpAnyH_take (i := 21) (v := _) rfl (by kernel_rfl) (by kernel_rfl) (by kernel_rfl) (fun _ _ _ h => h) (Or.inr ⟨by rfl, rfl⟩) (by assumption) ?_
  simp only [Act.put, List.getElem_toArray, List.getElem_cons_succ, List.getElem_cons_zero, List.setIfInBounds_toArray, List.set_cons_zero, List.set_cons_succ]
  refine wpAnyH_take (i := 22) (v := _) rfl (by kernel_rfl) (by kernel_rfl) (by kernel_rfl) (fun _ _ _ h => h) (Or.inl ⟨by rfl, by (intro w hSw; (try dsimp only at hSw); go_simp; (try with_reducible rfl))⟩) (by assumption) ?_
  simp only [Act.put, List.getElem_toArray, List.getElem_cons_succ, List.getElem_cons_zero, List.setIfInBounds_toArray, List.set_cons_zero, List.set_cons_succ]
  refine wpAnyH_take (i := 23) (v := _) rfl (by kernel_rfl) (by kernel_rfl) (by kernel_rfl) (fun _ _ _ h => h) (Or.inl ⟨by rfl, by (intro w hSw; (try dsimp only at hSw); go_simp; (try with_reducible rfl))⟩) (by assumption) ?_
  simp only [Act.put, List.getElem_toArray, List.getElem_cons_succ, List.getElem_cons_zero, List.setIfInBounds_toArray, List.set_cons_zero, List.set_cons_succ]
  refine wpAnyH_take (i := 24) (v := _) rfl (by kernel_rfl) (by kernel_rfl) (by kernel_rfl) (fun _ _ _ h => h) (Or.inl ⟨by rfl, by (intro w hSw; (try dsimp only at hSw); go_simp; (try with_reducible rfl))⟩) (by assumption) ?_
  simp only [Act.put, List.getElem_toArray, List.getElem_cons_succ, List.getElem_cons_zero, List.setIfInBounds_toArray, List.set_cons_zero, List.set_cons_succ]
  refine wpAnyH_done (by kernel_rfl) ?_ _
  refine NoPanic.normal ?_
  go_wp2_with fail
  go_ret
  exact ⟨rfl, HB1.out.trans (HC5.out.mono HB1.out.size)⟩

set_option maxRecDepth 100000 in
set_option maxHeartbeats 20000000 in
theorem alike_good (n : Nat) (hv : ∀ wx, Below w.heap.size w wx → Calls Tryd.prog 11 #[.agg #[.int .i64 k, .int .i64 o, .bool no, .int .i64 vk, .int .i64 vi, .string vt, .string t, .string nm, .slice a an ac, .slice s sn sc]] wx (RetBel (.bool true) wx)) (hrv : ∀ wx, Below w.heap.size w wx → Calls Tryd.prog 43 #[.agg #[.int .i64 k, .int .i64 o, .bool no, .int .i64 vk, .int .i64 vi, .string vt, .string t, .string nm, .slice a an ac, .slice s sn sc]] wx (RetBel (.bool true) wx)) (hp : ∀ wx, Calls Tryd.prog 44 #[.agg #[.int .i64 k, .int .i64 o, .bool no, .int .i64 vk, .int .i64 vi, .string vt, .string t, .string nm, .slice a an ac, .slice s sn sc]] wx (RetBel (.int .i64 p) wx)) (hrp : ∀ wx, Calls Tryd.prog 45 #[.agg #[.int .i64 k, .int .i64 o, .bool no, .int .i64 vk, .int .i64 vi, .string vt, .string t, .string nm, .slice a an ac, .slice s sn sc]] wx (RetBel (.int .i64 p) wx)) (hl : ∀ wx, Below w.heap.size w wx → Calls Tryd.prog 46 #[.agg #[.int .i64 k, .int .i64 o, .bool no, .int .i64 vk, .int .i64 vi, .string vt, .string t, .string nm, .slice a an ac, .slice s sn sc]] wx (RetBel (.int .i64 n) wx)) (hrl : ∀ wx, Below w.heap.size w wx → Calls Tryd.prog 47 #[.agg #[.int .i64 k, .int .i64 o, .bool no, .int .i64 vk, .int .i64 vi, .string vt, .string t, .string nm, .slice a an ac, .slice s sn sc]] wx (RetBel (.int .i64 n) wx)) :
    Calls Tryd.prog 9 #[.agg #[.int .i64 k, .int .i64 o, .bool no, .int .i64 vk, .int .i64 vi, .string vt, .string t, .string nm, .slice a an ac, .slice s sn sc]] w (RetBel (.bool true) w) := by
  have HV := Lib.hid hv
  have HRV := Lib.hid hrv
  have HP := Lib.hid hp
  have HRP := Lib.hid hrp
  clear hv hrv hp hrp
  have HL := Lib.hid hl
  have HRL := Lib.hid hrl
  clear hl hrl
  go_enter Tryd.func9, Tryd.ntmps9
  go_upto_region 1 with fail
  generalize hW : World.alloc w _ = W1
  have hk0 : W1.heap[w.heap.size]? = some (.cells #[.int .i64 k, .int .i64 o, .bool no, .int .i64 vk, .int .i64 vi, .string vt, .string t, .string nm, .slice a an ac, .slice s sn sc] 27 (0, 0)) := by rw [← hW]; exact heap_alloc_new w _
  have hb1 : Below w.heap.size w W1 := by rw [← hW]; exact (Below.refl _ _).alloc (Nat.le_refl _) _
  have hz : w.heap.size < W1.heap.size := by rw [← hW]; simp
  have HB1 := Lib.hid hb1
  have HSQ : Hid (∀ w', Below W1.heap.size W1 w' → w'.cell? ⟨w.heap.size, 0, none⟩ = some (.int .i64 k) ∧ w'.cell? ⟨w.heap.size, 1, none⟩ = some (.int .i64 o) ∧ w'.cell? ⟨w.heap.size, 2, none⟩ = some (.bool no) ∧ w'.cell? ⟨w.heap.size, 3, none⟩ = some (.int .i64 vk) ∧ w'.cell? ⟨w.heap.size, 4, none⟩ = some (.int .i64 vi) ∧ w'.cell? ⟨w.heap.size, 5, none⟩ = some (.string vt) ∧ w'.cell? ⟨w.heap.size, 6, none⟩ = some (.string t) ∧ w'.cell? ⟨w.heap.size, 7, none⟩ = some (.string nm) ∧ w'.cell? ⟨w.heap.size, 8, none⟩ = some (.slice a an ac) ∧ w'.cell? ⟨w.heap.size, 9, none⟩ = some (.slice s sn sc)) := Lib.hid fun wx hb => by
    obtain ⟨x0, x1, x2, x3, x4, x5, x6, x7, x8, x9, _, _⟩ := blk10 ((hb.block w.heap.size hz).trans hk0)
    exact ⟨x0, x1, x2, x3, x4, x5, x6, x7, x8, x9⟩
  clear hW hb1 hk0
  refine wp_region_noPanic ?_
  refine wp_region_held_drew (S := fun w' => w'.cell? ⟨w.heap.size, 0, none⟩ = some (.int .i64 k) ∧ w'.cell? ⟨w.heap.size, 1, none⟩ = some (.int .i64 o) ∧ w'.cell? ⟨w.heap.size, 2, none⟩ = some (.bool no) ∧ w'.cell? ⟨w.heap.size, 3, none⟩ = some (.int .i64 vk) ∧ w'.cell? ⟨w.heap.size, 4, none⟩ = some (.int .i64 vi) ∧ w'.cell? ⟨w.heap.size, 5, none⟩ = some (.string vt) ∧ w'.cell? ⟨w.heap.size, 6, none⟩ = some (.string t) ∧ w'.cell? ⟨w.heap.size, 7, none⟩ = some (.string nm) ∧ w'.cell? ⟨w.heap.size, 8, none⟩ = some (.slice a an ac) ∧ w'.cell? ⟨w.heap.size, 9, none⟩ = some (.slice s sn sc)) (by kernel_rfl) (HSQ.out _ (drew_below (Below.refl _ _))) (fun hHeld => ?_)
  refine wpAnyH_take (i := 0) (v := _) rfl (by kernel_rfl) (by kernel_rfl) (by kernel_rfl) (fun _ _ _ h => h) (Or.inl ⟨by rfl, by (intro w hSw; (try dsimp only at hSw); go_simp; (try with_reducible rfl))⟩) (by assumption) ?_
  simp only [Act.put, List.getElem_toArray, List.getElem_cons_zero, List.setIfInBounds_toArray, List.set_cons_zero, List.set_cons_succ]
  refine wpAnyH_take (i := 2) (v := _) rfl (by kernel_rfl) (by kernel_rfl) (by kernel_rfl) (fun _ _ _ h => h) (Or.inl ⟨by rfl, by (intro w hSw; (try dsimp only at hSw); go_simp; (try with_reducible rfl))⟩) (by assumption) ?_
  simp only [Act.put, List.getElem_toArray, List.getElem_cons_succ, List.getElem_cons_zero, List.setIfInBounds_toArray, List.set_cons_zero, List.set_cons_succ]
  refine wpAnyH_ready (rs := [1]) (by kernel_rfl) (by simp) ?_
  refine AllReadyH.cons (o := _) rfl (fun K hK => ?_) AllReadyH.nil
  go_simp
  refine (HV.out _ (HB1.out.trans ((drew_below (Below.refl W1.heap.size W1)).mono HB1.out.size))).mono ?_
  rintro e wy1 ⟨rfl, hb⟩
  have HC1 := Lib.hid ((drew_below (Below.refl W1.heap.size W1)).trans (hb.mono (Nat.le_refl _)))
  dsimp only
  refine hK.out _ _ (HSQ.out _ HC1.out) (fun hHeld => ?_)
  clear hK K hb
  refine wpAnyH_ready (rs := [3]) (by kernel_rfl) (by simp) ?_
  refine AllReadyH.cons (o := _) rfl (fun K hK => ?_) AllReadyH.nil
  go_simp
  refine (HRV.out _ (HB1.out.trans (HC1.out.mono HB1.out.size))).mono ?_
  rintro e wy2 ⟨rfl, hb⟩
  have HC2 := Lib.hid (HC1.out.trans (hb.mono HC1.out.size))
  dsimp only
  refine hK.out _ _ (HSQ.out _ HC2.out) (fun hHeld => ?_)
  clear hK K hb
  refine wpAnyH_take (i := 4) (v := .bool true) rfl (by kernel_rfl) (by kernel_rfl) (by kernel_rfl) (fun _ _ _ h => h) (Or.inl ⟨by rfl, by (intro w hSw; (try dsimp only at hSw); go_simp; (try with_reducible rfl))⟩) (by assumption) ?_
  simp only [Act.put, List.getElem_toArray, List.getElem_cons_succ, List.getElem_cons_zero, List.setIfInBounds_toArray, List.set_cons_zero, List.set_cons_succ]
  refine wpAnyH_take (i := 5) (v := _) rfl (by kernel_rfl) (by kernel_rfl) (by kernel_rfl) (fun _ _ _ h => h) (Or.inl ⟨by rfl, by (intro w hSw; (try dsimp only at hSw); go_simp; (try with_reducible rfl))⟩) (by assumption) ?_
  simp only [Act.put, List.getElem_toArray, List.getElem_cons_succ, List.getElem_cons_zero, List.setIfInBounds_toArray, List.set_cons_zero, List.set_cons_succ]
  refine wpAnyH_take (i := 6) (v := _) rfl (by kernel_rfl) (by kernel_rfl) (by kernel_rfl) (fun _ _ _ h => h) (Or.inl ⟨by rfl, by (intro w hSw; (try dsimp only at hSw); go_simp; (try with_reducible rfl))⟩) (by assumption) ?_
  simp only [Act.put, List.getElem_toArray, List.getElem_cons_succ, List.getElem_cons_zero, List.setIfInBounds_toArray, List.set_cons_zero, List.set_cons_succ]
  refine wpAnyH_take (i := 8) (v := _) rfl (by kernel_rfl) (by kernel_rfl) (by kernel_rfl) (fun _ _ _ h => h) (Or.inl ⟨by rfl, by (intro w hSw; (try dsimp only at hSw); go_simp; (try with_reducible rfl))⟩) (by assumption) ?_
  simp only [Act.put, List.getElem_toArray, List.getElem_cons_succ, List.getElem_cons_zero, List.setIfInBounds_toArray, List.set_cons_zero, List.set_cons_succ]
  refine wpAnyH_ready (rs := [7]) (by kernel_rfl) (by simp) ?_
  refine AllReadyH.cons (o := _) rfl (fun K hK => ?_) AllReadyH.nil
  go_simp
  refine (HP.out _).mono ?_
  rintro e wy3 ⟨rfl, hb⟩
  have HC3 := Lib.hid (HC2.out.trans (hb.mono HC2.out.size))
  dsimp only
  refine hK.out _ _ (HSQ.out _ HC3.out) (fun hHeld => ?_)
  clear hK K hb
  refine wpAnyH_ready (rs := [9]) (by kernel_rfl) (by simp) ?_
  refine AllReadyH.cons (o := _) rfl (fun K hK => ?_) AllReadyH.nil
  go_simp
  refine (HRP.out _).mono ?_
  rintro e wy4 ⟨rfl, hb⟩
  have HC4 := Lib.hid (HC3.out.trans (hb.mono HC3.out.size))
  dsimp only
  refine hK.out _ _ (HSQ.out _ HC4.out) (fun hHeld => ?_)
  clear hK K hb
  refine wpAnyH_take (i := 10) (v := .bool true) rfl (by kernel_rfl) (by kernel_rfl) (by kernel_rfl) (fun _ _ _ h => h) (Or.inl ⟨by rfl, by (intro w hSw; (try dsimp only at hSw); go_simp; (try with_reducible rfl))⟩) (by assumption) ?_
  simp only [Act.put, List.getElem_toArray, List.getElem_cons_succ, List.getElem_cons_zero, List.setIfInBounds_toArray, List.set_cons_zero, List.set_cons_succ]
  refine wpAnyH_take (i := 11) (v := _) rfl (by kernel_rfl) (by kernel_rfl) (by kernel_rfl) (fun _ _ _ h => h) (Or.inl ⟨by rfl, by (intro w hSw; (try dsimp only at hSw); go_simp; (try with_reducible rfl))⟩) (by assumption) ?_
  simp only [Act.put, List.getElem_toArray, List.getElem_cons_succ, List.getElem_cons_zero, List.setIfInBounds_toArray, List.set_cons_zero, List.set_cons_succ]
  refine wpAnyH_take (i := 12) (v := _) rfl (by kernel_rfl) (by kernel_rfl) (by kernel_rfl) (fun _ _ _ h => h) (Or.inl ⟨by rfl, by (intro w hSw; (try dsimp only at hSw); go_simp; (try with_reducible rfl))⟩) (by assumption) ?_
  simp only [Act.put, List.getElem_toArray, List.getElem_cons_succ, List.getElem_cons_zero, List.setIfInBounds_toArray, List.set_cons_zero, List.set_cons_succ]
  refine wpAnyH_take (i := 13) (v := _) rfl (by kernel_rfl) (by kernel_rfl) (by kernel_rfl) (fun _ _ _ h => h) (Or.inl ⟨by rfl, by (intro w hSw; (try dsimp only at hSw); go_simp; (try with_reducible rfl))⟩) (by assumption) ?_
  simp only [Act.put, List.getElem_toArray, List.getElem_cons_succ, List.getElem_cons_zero, List.setIfInBounds_toArray, List.set_cons_zero, List.set_cons_succ]
  refine wpAnyH_ready (rs := [14]) (by kernel_rfl) (by simp) ?_
  refine AllReadyH.cons (o := _) rfl (fun K hK => ?_) AllReadyH.nil
  go_simp
  refine (HRV.out _ (HB1.out.trans (HC4.out.mono HB1.out.size))).mono ?_
  rintro e wy5 ⟨rfl, hb⟩
  have HC5 := Lib.hid (HC4.out.trans (hb.mono HC4.out.size))
  dsimp only
  refine hK.out _ _ (HSQ.out _ HC5.out) (fun hHeld => ?_)
  clear hK K hb
  refine wpAnyH_take (i := 15) (v := _) rfl (by kernel_rfl) (by kernel_rfl) (by kernel_rfl) (fun _ _ _ h => h) (Or.inl ⟨by rfl, by (intro w hSw; (try dsimp only at hSw); go_simp; (try with_reducible rfl))⟩) (by assumption) ?_
  simp only [Act.put, List.getElem_toArray, List.getElem_cons_succ, List.getElem_cons_zero, List.setIfInBounds_toArray, List.set_cons_zero, List.set_cons_succ]
  refine wpAnyH_take (i := 16) (v := _) rfl (by kernel_rfl) (by kernel_rfl) (by kernel_rfl) (fun _ _ _ h => h) (Or.inl ⟨by rfl, by (intro w hSw; (try dsimp only at hSw); go_simp; (try with_reducible rfl))⟩) (by assumption) ?_
  simp only [Act.put, List.getElem_toArray, List.getElem_cons_succ, List.getElem_cons_zero, List.setIfInBounds_toArray, List.set_cons_zero, List.set_cons_succ]
  refine wpAnyH_take (i := 17) (v := _) rfl (by kernel_rfl) (by kernel_rfl) (by kernel_rfl) (fun _ _ _ h => h) (Or.inl ⟨by rfl, by (intro w hSw; (try dsimp only at hSw); go_simp; (try with_reducible rfl))⟩) (by assumption) ?_
  simp only [Act.put, List.getElem_toArray, List.getElem_cons_succ, List.getElem_cons_zero, List.setIfInBounds_toArray, List.set_cons_zero, List.set_cons_succ]
  refine wpAnyH_take (i := 19) (v := _) rfl (by kernel_rfl) (by kernel_rfl) (by kernel_rfl) (fun _ _ _ h => h) (Or.inl ⟨by rfl, by (intro w hSw; (try dsimp only at hSw); go_simp; (try with_reducible rfl))⟩) (by assumption) ?_
  simp only [Act.put, List.getElem_toArray, List.getElem_cons_succ, List.getElem_cons_zero, List.setIfInBounds_toArray, List.set_cons_zero, List.set_cons_succ]
  refine wpAnyH_ready (rs := [18]) (by kernel_rfl) (by simp) ?_
  refine AllReadyH.cons (o := _) rfl (fun K hK => ?_) AllReadyH.nil
  go_simp
  refine (HL.out _ (HB1.out.trans (HC5.out.mono HB1.out.size))).mono ?_
  rintro e wy6 ⟨rfl, hb⟩
  have HC6 := Lib.hid (HC5.out.trans (hb.mono HC5.out.size))
  dsimp only
  refine hK.out _ _ (HSQ.out _ HC6.out) (fun hHeld => ?_)
  clear hK K hb
  refine wpAnyH_ready (rs := [20]) (by kernel_rfl) (by simp) ?_
  refine AllReadyH.cons (o := _) rfl (fun K hK => ?_) AllReadyH.nil
  go_simp
  refine (HRL.out _ (HB1.out.trans (HC6.out.mono HB1.out.size))).mono ?_
  rintro e wy7 ⟨rfl, hb⟩
  have HC7 := Lib.hid (HC6.out.trans (hb.mono HC6.out.size))
  dsimp only
  refine hK.out _ _ (HSQ.out _ HC7.out) (fun hHeld => ?_)
  clear hK K hb
  refine wpAnyH_take (i := 21) (v := .bool true) rfl (by kernel_rfl) (by kernel_rfl) (by kernel_rfl) (fun _ _ _ h => h) (Or.inl ⟨by rfl, by (intro w hSw; (try dsimp only at hSw); go_simp; (try with_reducible rfl))⟩) (by assumption) ?_
  simp only [Act.put, List.getElem_toArray, List.getElem_cons_succ, List.getElem_cons_zero, List.setIfInBounds_toArray, List.set_cons_zero, List.set_cons_succ]
  refine wpAnyH_take (i := 22) (v := _) rfl (by kernel_rfl) (by kernel_rfl) (by kernel_rfl) (fun _ _ _ h => h) (Or.inl ⟨by rfl, by (intro w hSw; (try dsimp only at hSw); go_simp; (try with_reducible rfl))⟩) (by assumption) ?_
  simp only [Act.put, List.getElem_toArray, List.getElem_cons_succ, List.getElem_cons_zero, List.setIfInBounds_toArray, List.set_cons_zero, List.set_cons_succ]
  refine wpAnyH_take (i := 23) (v := _) rfl (by kernel_rfl) (by kernel_rfl) (by kernel_rfl) (fun _ _ _ h => h) (Or.inl ⟨by rfl, by (intro w hSw; (try dsimp only at hSw); go_simp; (try with_reducible rfl))⟩) (by assumption) ?_
  simp only [Act.put, List.getElem_toArray, List.getElem_cons_succ, List.getElem_cons_zero, List.setIfInBounds_toArray, List.set_cons_zero, List.set_cons_succ]
  refine wpAnyH_take (i := 24) (v := _) rfl (by kernel_rfl) (by kernel_rfl) (by kernel_rfl) (fun _ _ _ h => h) (Or.inl ⟨by rfl, by (intro w hSw; (try dsimp only at hSw); go_simp; (try with_reducible rfl))⟩) (by assumption) ?_
  simp only [Act.put, List.getElem_toArray, List.getElem_cons_succ, List.getElem_cons_zero, List.setIfInBounds_toArray, List.set_cons_zero, List.set_cons_succ]
  refine wpAnyH_done (by kernel_rfl) ?_ _
  refine NoPanic.normal ?_
  go_wp2_with fail
  go_ret
  exact ⟨rfl, HB1.out.trans (HC7.out.mono HB1.out.size)⟩
end

theorem alike_any {M : Nat → Prop} {m : Nat} (e : Ex) (cs : List Value) (w : World) (he : EC M w e cs) (hd : Dep m e) (hm : m ≤ 100000000) : Calls Tryd.prog 9 #[.agg cs.toArray] w (RetBel (.bool true) w) := by
  have htx := hd.txt
  have hlv : levP e ≤ 1000000000 := by have := hd.lev; omega
  have hec := fun wx (kb : Below w.heap.size w wx) => EC.keep (M := M) (.bel kb) e cs he
  have hv := fun wx kb => vexpr_any (M := M) e cs wx (hec wx kb) htx
  have hrv := fun wx kb => rvexpr_any (M := M) e cs wx (hec wx kb) htx
  have hl := fun wx kb => levels_any (M := M) e cs wx (hec wx kb) hlv
  have hrl := fun wx kb (h : validP e = true) => rlevels_any (M := M) e cs wx (hec wx kb) h hlv
  obtain ⟨va, vs, rfl, ha, hs⟩ := (EC_iff ..).1 he
  obtain ⟨a, ac, rfl, _⟩ := ha.shape
  obtain ⟨s, sc, rfl, _⟩ := hs.shape
  have hp := fun wx => prec_any e.kind e.op e.no e.val.kind e.val.int e.val.text e.table e.name (.slice a e.args.length ac) (.slice s e.sub.length sc) wx
  have hrp := fun wx => rprec_any e.op e.no e.val.kind e.val.int e.val.text e.table e.name (.slice a e.args.length ac) (.slice s e.sub.length sc) wx e.kind
  cases hb : validP e with
  | false =>
    rw [hb] at hv hrv
    exact alike_bad _ _ _ _ _ _ _ _ _ _ _ _ _ _ _ w hv hrv hp hrp
  | true =>
    rw [hb] at hv hrv
    exact alike_good _ _ _ _ _ _ _ _ _ _ _ _ _ _ _ w _ hv hrv hp hrp hl fun wx kb => hrl wx kb hb

theorem alike_v {M : Nat → Prop} {m : Nat} {w : World} {e : Ex} {v : Value} (h : ExV M w e v) (hd : Dep m e) (hm : m ≤ 100000000) : Calls Tryd.prog 9 #[v] w (RetBel (.bool true) w) := by
  obtain ⟨cs, rfl, hc⟩ := h.ec
  exact alike_any e cs w hc hd hm
end Go.Proofs.YthcpacadjnpacaaDoor
