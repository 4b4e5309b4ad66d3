/- The parts of a statement that has a name alone. -/
import Derived.Test.YtkhlmofcdchccaaGreatDoorKPV
import Derived.Test.YtkhlmofcdchccaaGreatDoorM5
import Derived.Test.YtkhlmofcdchccaaGreatDoorM6
namespace Go.Proofs.YtkhlmofcdchccaaGreatDoor
open Go.RowKit Go.Maps

theorem eval_tmp {a : Act} {k : Nat} {v : Value} (h : a.tmps[k]? = some v) : a.eval (.tmp k) = v := by simp [Act.eval, h]

set_option maxRecDepth 100000 in
set_option maxHeartbeats 8000000 in
theorem parts_name (x : ByteArray) (w : World) (hx : x.toList.isEmpty = false) : Calls Tryz.prog 111 #[.agg #[.int .i64 2, .string ⟨#[]⟩, .slice none 0 0, .string x, .string ⟨#[]⟩, .string ⟨#[]⟩, .bool false, .int .i64 0, .slice none 0 0, .bool false, .slice none 0 0, .slice none 0 0, .slice none 0 0, .slice none 0 0, .slice none 0 0, .bool false, .slice none 0 0, .string ⟨#[]⟩, .slice none 0 0, .int .i64 0, .string ⟨#[]⟩, .slice none 0 0, .slice none 0 0, .slice none 0 0, .slice none 0 0, .string ⟨#[]⟩]] w (RetBel (.int .i64 2) w) := by
  go_enter Tryz.func111, Tryz.ntmps111
  go_upto_region 2 with fail
  generalize hW : World.alloc w _ = W1
  have hblk : W1.heap[w.heap.size]? = some (.cells #[.int .i64 2, .string ⟨#[]⟩, .slice none 0 0, .string x, .string ⟨#[]⟩, .string ⟨#[]⟩, .bool false, .int .i64 0, .slice none 0 0, .bool false, .slice none 0 0, .slice none 0 0, .slice none 0 0, .slice none 0 0, .slice none 0 0, .bool false, .slice none 0 0, .string ⟨#[]⟩, .slice none 0 0, .int .i64 0, .string ⟨#[]⟩, .slice none 0 0, .slice none 0 0, .slice none 0 0, .slice none 0 0, .string ⟨#[]⟩] 87 (0, 0)) := by rw [← hW]; exact heap_alloc_new w _
  have hb1 : Below w.heap.size w W1 := by rw [← hW]; exact (Below.refl _ _).alloc (Nat.le_refl _) _
  clear hW
  have HS : Hid (∀ W, Below W1.heap.size W1 W → (fun w' : World => w'.cell? ⟨w.heap.size, 1, none⟩ = some (.string ⟨#[]⟩) ∧ w'.cell? ⟨w.heap.size, 2, none⟩ = some (.slice none 0 0) ∧ w'.cell? ⟨w.heap.size, 3, none⟩ = some (.string x) ∧ w'.cell? ⟨w.heap.size, 4, none⟩ = some (.string ⟨#[]⟩) ∧ w'.cell? ⟨w.heap.size, 5, none⟩ = some (.string ⟨#[]⟩) ∧ w'.cell? ⟨w.heap.size, 6, none⟩ = some (.bool false) ∧ w'.cell? ⟨w.heap.size, 7, none⟩ = some (.int .i64 0) ∧ w'.cell? ⟨w.heap.size, 8, none⟩ = some (.slice none 0 0) ∧ w'.cell? ⟨w.heap.size, 9, none⟩ = some (.bool false) ∧ w'.cell? ⟨w.heap.size, 10, none⟩ = some (.slice none 0 0) ∧ w'.cell? ⟨w.heap.size, 11, none⟩ = some (.slice none 0 0) ∧ w'.cell? ⟨w.heap.size, 12, none⟩ = some (.slice none 0 0) ∧ w'.cell? ⟨w.heap.size, 13, none⟩ = some (.slice none 0 0) ∧ w'.cell? ⟨w.heap.size, 14, none⟩ = some (.slice none 0 0) ∧ w'.cell? ⟨w.heap.size, 15, none⟩ = some (.bool false) ∧ w'.cell? ⟨w.heap.size, 16, none⟩ = some (.slice none 0 0) ∧ w'.cell? ⟨w.heap.size, 17, none⟩ = some (.string ⟨#[]⟩) ∧ w'.cell? ⟨w.heap.size, 18, none⟩ = some (.slice none 0 0) ∧ w'.cell? ⟨w.heap.size, 19, none⟩ = some (.int .i64 0) ∧ w'.cell? ⟨w.heap.size, 20, none⟩ = some (.string ⟨#[]⟩) ∧ w'.cell? ⟨w.heap.size, 21, none⟩ = some (.slice none 0 0) ∧ w'.cell? ⟨w.heap.size, 22, none⟩ = some (.slice none 0 0) ∧ w'.cell? ⟨w.heap.size, 23, none⟩ = some (.slice none 0 0) ∧ w'.cell? ⟨w.heap.size, 24, none⟩ = some (.slice none 0 0) ∧ w'.cell? ⟨w.heap.size, 25, none⟩ = some (.string ⟨#[]⟩)) W) := Lib.hid fun W hb => by
    have h := (hb.block w.heap.size (blkM_lt hblk)).trans hblk
    exact ⟨blkM_at (l := [.int .i64 2, .string ⟨#[]⟩, .slice none 0 0, .string x, .string ⟨#[]⟩, .string ⟨#[]⟩, .bool false, .int .i64 0, .slice none 0 0, .bool false, .slice none 0 0, .slice none 0 0, .slice none 0 0, .slice none 0 0, .slice none 0 0, .bool false, .slice none 0 0, .string ⟨#[]⟩, .slice none 0 0, .int .i64 0, .string ⟨#[]⟩, .slice none 0 0, .slice none 0 0, .slice none 0 0, .slice none 0 0, .string ⟨#[]⟩]) h rfl, blkM_at (l := [.int .i64 2, .string ⟨#[]⟩, .slice none 0 0, .string x, .string ⟨#[]⟩, .string ⟨#[]⟩, .bool false, .int .i64 0, .slice none 0 0, .bool false, .slice none 0 0, .slice none 0 0, .slice none 0 0, .slice none 0 0, .slice none 0 0, .bool false, .slice none 0 0, .string ⟨#[]⟩, .slice none 0 0, .int .i64 0, .string ⟨#[]⟩, .slice none 0 0, .slice none 0 0, .slice none 0 0, .slice none 0 0, .string ⟨#[]⟩]) h rfl, blkM_at (l := [.int .i64 2, .string ⟨#[]⟩, .slice none 0 0, .string x, .string ⟨#[]⟩, .string ⟨#[]⟩, .bool false, .int .i64 0, .slice none 0 0, .bool false, .slice none 0 0, .slice none 0 0, .slice none 0 0, .slice none 0 0, .slice none 0 0, .bool false, .slice none 0 0, .string ⟨#[]⟩, .slice none 0 0, .int .i64 0, .string ⟨#[]⟩, .slice none 0 0, .slice none 0 0, .slice none 0 0, .slice none 0 0, .string ⟨#[]⟩]) h rfl, blkM_at (l := [.int .i64 2, .string ⟨#[]⟩, .slice none 0 0, .string x, .string ⟨#[]⟩, .string ⟨#[]⟩, .bool false, .int .i64 0, .slice none 0 0, .bool false, .slice none 0 0, .slice none 0 0, .slice none 0 0, .slice none 0 0, .slice none 0 0, .bool false, .slice none 0 0, .string ⟨#[]⟩, .slice none 0 0, .int .i64 0, .string ⟨#[]⟩, .slice none 0 0, .slice none 0 0, .slice none 0 0, .slice none 0 0, .string ⟨#[]⟩]) h rfl, blkM_at (l := [.int .i64 2, .string ⟨#[]⟩, .slice none 0 0, .string x, .string ⟨#[]⟩, .string ⟨#[]⟩, .bool false, .int .i64 0, .slice none 0 0, .bool false, .slice none 0 0, .slice none 0 0, .slice none 0 0, .slice none 0 0, .slice none 0 0, .bool false, .slice none 0 0, .string ⟨#[]⟩, .slice none 0 0, .int .i64 0, .string ⟨#[]⟩, .slice none 0 0, .slice none 0 0, .slice none 0 0, .slice none 0 0, .string ⟨#[]⟩]) h rfl, blkM_at (l := [.int .i64 2, .string ⟨#[]⟩, .slice none 0 0, .string x, .string ⟨#[]⟩, .string ⟨#[]⟩, .bool false, .int .i64 0, .slice none 0 0, .bool false, .slice none 0 0, .slice none 0 0, .slice none 0 0, .slice none 0 0, .slice none 0 0, .bool false, .slice none 0 0, .string ⟨#[]⟩, .slice none 0 0, .int .i64 0, .string ⟨#[]⟩, .slice none 0 0, .slice none 0 0, .slice none 0 0, .slice none 0 0, .string ⟨#[]⟩]) h rfl, blkM_at (l := [.int .i64 2, .string ⟨#[]⟩, .slice none 0 0, .string x, .string ⟨#[]⟩, .string ⟨#[]⟩, .bool false, .int .i64 0, .slice none 0 0, .bool false, .slice none 0 0, .slice none 0 0, .slice none 0 0, .slice none 0 0, .slice none 0 0, .bool false, .slice none 0 0, .string ⟨#[]⟩, .slice none 0 0, .int .i64 0, .string ⟨#[]⟩, .slice none 0 0, .slice none 0 0, .slice none 0 0, .slice none 0 0, .string ⟨#[]⟩]) h rfl, blkM_at (l := [.int .i64 2, .string ⟨#[]⟩, .slice none 0 0, .string x, .string ⟨#[]⟩, .string ⟨#[]⟩, .bool false, .int .i64 0, .slice none 0 0, .bool false, .slice none 0 0, .slice none 0 0, .slice none 0 0, .slice none 0 0, .slice none 0 0, .bool false, .slice none 0 0, .string ⟨#[]⟩, .slice none 0 0, .int .i64 0, .string ⟨#[]⟩, .slice none 0 0, .slice none 0 0, .slice none 0 0, .slice none 0 0, .string ⟨#[]⟩]) h rfl, blkM_at (l := [.int .i64 2, .string ⟨#[]⟩, .slice none 0 0, .string x, .string ⟨#[]⟩, .string ⟨#[]⟩, .bool false, .int .i64 0, .slice none 0 0, .bool false, .slice none 0 0, .slice none 0 0, .slice none 0 0, .slice none 0 0, .slice none 0 0, .bool false, .slice none 0 0, .string ⟨#[]⟩, .slice none 0 0, .int .i64 0, .string ⟨#[]⟩, .slice none 0 0, .slice none 0 0, .slice none 0 0, .slice none 0 0, .string ⟨#[]⟩]) h rfl, blkM_at (l := [.int .i64 2, .string ⟨#[]⟩, .slice none 0 0, .string x, .string ⟨#[]⟩, .string ⟨#[]⟩, .bool false, .int .i64 0, .slice none 0 0, .bool false, .slice none 0 0, .slice none 0 0, .slice none 0 0, .slice none 0 0, .slice none 0 0, .bool false, .slice none 0 0, .string ⟨#[]⟩, .slice none 0 0, .int .i64 0, .string ⟨#[]⟩, .slice none 0 0, .slice none 0 0, .slice none 0 0, .slice none 0 0, .string ⟨#[]⟩]) h rfl, blkM_at (l := [.int .i64 2, .string ⟨#[]⟩, .slice none 0 0, .string x, .string ⟨#[]⟩, .string ⟨#[]⟩, .bool false, .int .i64 0, .slice none 0 0, .bool false, .slice none 0 0, .slice none 0 0, .slice none 0 0, .slice none 0 0, .slice none 0 0, .bool false, .slice none 0 0, .string ⟨#[]⟩, .slice none 0 0, .int .i64 0, .string ⟨#[]⟩, .slice none 0 0, .slice none 0 0, .slice none 0 0, .slice none 0 0, .string ⟨#[]⟩]) h rfl, blkM_at (l := [.int .i64 2, .string ⟨#[]⟩, .slice none 0 0, .string x, .string ⟨#[]⟩, .string ⟨#[]⟩, .bool false, .int .i64 0, .slice none 0 0, .bool false, .slice none 0 0, .slice none 0 0, .slice none 0 0, .slice none 0 0, .slice none 0 0, .bool false, .slice none 0 0, .string ⟨#[]⟩, .slice none 0 0, .int .i64 0, .string ⟨#[]⟩, .slice none 0 0, .slice none 0 0, .slice none 0 0, .slice none 0 0, .string ⟨#[]⟩]) h rfl, blkM_at (l := [.int .i64 2, .string ⟨#[]⟩, .slice none 0 0, .string x, .string ⟨#[]⟩, .string ⟨#[]⟩, .bool false, .int .i64 0, .slice none 0 0, .bool false, .slice none 0 0, .slice none 0 0, .slice none 0 0, .slice none 0 0, .slice none 0 0, .bool false, .slice none 0 0, .string ⟨#[]⟩, .slice none 0 0, .int .i64 0, .string ⟨#[]⟩, .slice none 0 0, .slice none 0 0, .slice none 0 0, .slice none 0 0, .string ⟨#[]⟩]) h rfl, blkM_at (l := [.int .i64 2, .string ⟨#[]⟩, .slice none 0 0, .string x, .string ⟨#[]⟩, .string ⟨#[]⟩, .bool false, .int .i64 0, .slice none 0 0, .bool false, .slice none 0 0, .slice none 0 0, .slice none 0 0, .slice none 0 0, .slice none 0 0, .bool false, .slice none 0 0, .string ⟨#[]⟩, .slice none 0 0, .int .i64 0, .string ⟨#[]⟩, .slice none 0 0, .slice none 0 0, .slice none 0 0, .slice none 0 0, .string ⟨#[]⟩]) h rfl, blkM_at (l := [.int .i64 2, .string ⟨#[]⟩, .slice none 0 0, .string x, .string ⟨#[]⟩, .string ⟨#[]⟩, .bool false, .int .i64 0, .slice none 0 0, .bool false, .slice none 0 0, .slice none 0 0, .slice none 0 0, .slice none 0 0, .slice none 0 0, .bool false, .slice none 0 0, .string ⟨#[]⟩, .slice none 0 0, .int .i64 0, .string ⟨#[]⟩, .slice none 0 0, .slice none 0 0, .slice none 0 0, .slice none 0 0, .string ⟨#[]⟩]) h rfl, blkM_at (l := [.int .i64 2, .string ⟨#[]⟩, .slice none 0 0, .string x, .string ⟨#[]⟩, .string ⟨#[]⟩, .bool false, .int .i64 0, .slice none 0 0, .bool false, .slice none 0 0, .slice none 0 0, .slice none 0 0, .slice none 0 0, .slice none 0 0, .bool false, .slice none 0 0, .string ⟨#[]⟩, .slice none 0 0, .int .i64 0, .string ⟨#[]⟩, .slice none 0 0, .slice none 0 0, .slice none 0 0, .slice none 0 0, .string ⟨#[]⟩]) h rfl, blkM_at (l := [.int .i64 2, .string ⟨#[]⟩, .slice none 0 0, .string x, .string ⟨#[]⟩, .string ⟨#[]⟩, .bool false, .int .i64 0, .slice none 0 0, .bool false, .slice none 0 0, .slice none 0 0, .slice none 0 0, .slice none 0 0, .slice none 0 0, .bool false, .slice none 0 0, .string ⟨#[]⟩, .slice none 0 0, .int .i64 0, .string ⟨#[]⟩, .slice none 0 0, .slice none 0 0, .slice none 0 0, .slice none 0 0, .string ⟨#[]⟩]) h rfl, blkM_at (l := [.int .i64 2, .string ⟨#[]⟩, .slice none 0 0, .string x, .string ⟨#[]⟩, .string ⟨#[]⟩, .bool false, .int .i64 0, .slice none 0 0, .bool false, .slice none 0 0, .slice none 0 0, .slice none 0 0, .slice none 0 0, .slice none 0 0, .bool false, .slice none 0 0, .string ⟨#[]⟩, .slice none 0 0, .int .i64 0, .string ⟨#[]⟩, .slice none 0 0, .slice none 0 0, .slice none 0 0, .slice none 0 0, .string ⟨#[]⟩]) h rfl, blkM_at (l := [.int .i64 2, .string ⟨#[]⟩, .slice none 0 0, .string x, .string ⟨#[]⟩, .string ⟨#[]⟩, .bool false, .int .i64 0, .slice none 0 0, .bool false, .slice none 0 0, .slice none 0 0, .slice none 0 0, .slice none 0 0, .slice none 0 0, .bool false, .slice none 0 0, .string ⟨#[]⟩, .slice none 0 0, .int .i64 0, .string ⟨#[]⟩, .slice none 0 0, .slice none 0 0, .slice none 0 0, .slice none 0 0, .string ⟨#[]⟩]) h rfl, blkM_at (l := [.int .i64 2, .string ⟨#[]⟩, .slice none 0 0, .string x, .string ⟨#[]⟩, .string ⟨#[]⟩, .bool false, .int .i64 0, .slice none 0 0, .bool false, .slice none 0 0, .slice none 0 0, .slice none 0 0, .slice none 0 0, .slice none 0 0, .bool false, .slice none 0 0, .string ⟨#[]⟩, .slice none 0 0, .int .i64 0, .string ⟨#[]⟩, .slice none 0 0, .slice none 0 0, .slice none 0 0, .slice none 0 0, .string ⟨#[]⟩]) h rfl, blkM_at (l := [.int .i64 2, .string ⟨#[]⟩, .slice none 0 0, .string x, .string ⟨#[]⟩, .string ⟨#[]⟩, .bool false, .int .i64 0, .slice none 0 0, .bool false, .slice none 0 0, .slice none 0 0, .slice none 0 0, .slice none 0 0, .slice none 0 0, .bool false, .slice none 0 0, .string ⟨#[]⟩, .slice none 0 0, .int .i64 0, .string ⟨#[]⟩, .slice none 0 0, .slice none 0 0, .slice none 0 0, .slice none 0 0, .string ⟨#[]⟩]) h rfl, blkM_at (l := [.int .i64 2, .string ⟨#[]⟩, .slice none 0 0, .string x, .string ⟨#[]⟩, .string ⟨#[]⟩, .bool false, .int .i64 0, .slice none 0 0, .bool false, .slice none 0 0, .slice none 0 0, .slice none 0 0, .slice none 0 0, .slice none 0 0, .bool false, .slice none 0 0, .string ⟨#[]⟩, .slice none 0 0, .int .i64 0, .string ⟨#[]⟩, .slice none 0 0, .slice none 0 0, .slice none 0 0, .slice none 0 0, .string ⟨#[]⟩]) h rfl, blkM_at (l := [.int .i64 2, .string ⟨#[]⟩, .slice none 0 0, .string x, .string ⟨#[]⟩, .string ⟨#[]⟩, .bool false, .int .i64 0, .slice none 0 0, .bool false, .slice none 0 0, .slice none 0 0, .slice none 0 0, .slice none 0 0, .slice none 0 0, .bool false, .slice none 0 0, .string ⟨#[]⟩, .slice none 0 0, .int .i64 0, .string ⟨#[]⟩, .slice none 0 0, .slice none 0 0, .slice none 0 0, .slice none 0 0, .string ⟨#[]⟩]) h rfl, blkM_at (l := [.int .i64 2, .string ⟨#[]⟩, .slice none 0 0, .string x, .string ⟨#[]⟩, .string ⟨#[]⟩, .bool false, .int .i64 0, .slice none 0 0, .bool false, .slice none 0 0, .slice none 0 0, .slice none 0 0, .slice none 0 0, .slice none 0 0, .bool false, .slice none 0 0, .string ⟨#[]⟩, .slice none 0 0, .int .i64 0, .string ⟨#[]⟩, .slice none 0 0, .slice none 0 0, .slice none 0 0, .slice none 0 0, .string ⟨#[]⟩]) h rfl, blkM_at (l := [.int .i64 2, .string ⟨#[]⟩, .slice none 0 0, .string x, .string ⟨#[]⟩, .string ⟨#[]⟩, .bool false, .int .i64 0, .slice none 0 0, .bool false, .slice none 0 0, .slice none 0 0, .slice none 0 0, .slice none 0 0, .slice none 0 0, .bool false, .slice none 0 0, .string ⟨#[]⟩, .slice none 0 0, .int .i64 0, .string ⟨#[]⟩, .slice none 0 0, .slice none 0 0, .slice none 0 0, .slice none 0 0, .string ⟨#[]⟩]) h rfl⟩
  have HB1 := Lib.hid hb1
  clear hb1

  generalize hQ : Exit.then _ _ = QQ
  refine wp_region_noPanic ?_
  refine wp_region_held_drew (S := fun w' => w'.cell? ⟨w.heap.size, 1, none⟩ = some (.string ⟨#[]⟩) ∧ w'.cell? ⟨w.heap.size, 2, none⟩ = some (.slice none 0 0) ∧ w'.cell? ⟨w.heap.size, 3, none⟩ = some (.string x) ∧ w'.cell? ⟨w.heap.size, 4, none⟩ = some (.string ⟨#[]⟩) ∧ w'.cell? ⟨w.heap.size, 5, none⟩ = some (.string ⟨#[]⟩) ∧ w'.cell? ⟨w.heap.size, 6, none⟩ = some (.bool false) ∧ w'.cell? ⟨w.heap.size, 7, none⟩ = some (.int .i64 0) ∧ w'.cell? ⟨w.heap.size, 8, none⟩ = some (.slice none 0 0) ∧ w'.cell? ⟨w.heap.size, 9, none⟩ = some (.bool false) ∧ w'.cell? ⟨w.heap.size, 10, none⟩ = some (.slice none 0 0) ∧ w'.cell? ⟨w.heap.size, 11, none⟩ = some (.slice none 0 0) ∧ w'.cell? ⟨w.heap.size, 12, none⟩ = some (.slice none 0 0) ∧ w'.cell? ⟨w.heap.size, 13, none⟩ = some (.slice none 0 0) ∧ w'.cell? ⟨w.heap.size, 14, none⟩ = some (.slice none 0 0) ∧ w'.cell? ⟨w.heap.size, 15, none⟩ = some (.bool false) ∧ w'.cell? ⟨w.heap.size, 16, none⟩ = some (.slice none 0 0) ∧ w'.cell? ⟨w.heap.size, 17, none⟩ = some (.string ⟨#[]⟩) ∧ w'.cell? ⟨w.heap.size, 18, none⟩ = some (.slice none 0 0) ∧ w'.cell? ⟨w.heap.size, 19, none⟩ = some (.int .i64 0) ∧ w'.cell? ⟨w.heap.size, 20, none⟩ = some (.string ⟨#[]⟩) ∧ w'.cell? ⟨w.heap.size, 21, none⟩ = some (.slice none 0 0) ∧ w'.cell? ⟨w.heap.size, 22, none⟩ = some (.slice none 0 0) ∧ w'.cell? ⟨w.heap.size, 23, none⟩ = some (.slice none 0 0) ∧ w'.cell? ⟨w.heap.size, 24, none⟩ = some (.slice none 0 0) ∧ w'.cell? ⟨w.heap.size, 25, none⟩ = some (.string ⟨#[]⟩)) (by kernel_rfl) ?_ (fun hHeld => ?_)
  · exact HS.out _ (drewN_below (Below.refl _ _) 1)
  refine wpAnyH_take (i := 1) (v := _) rfl (by kernel_rfl) (by kernel_rfl) (by kernel_rfl) (fun _ _ _ h => h) (Or.inl ⟨by rfl, by (intro w hSw; (try dsimp only at hSw); go_simp; (try with_reducible rfl))⟩) (by assumption) ?_
  simp only [Act.put, List.getElem_toArray, List.getElem_cons_succ, List.getElem_cons_zero, List.setIfInBounds_toArray, List.set_cons_zero, List.set_cons_succ]
  refine wpAnyH_take (i := 2) (v := _) rfl (by kernel_rfl) (by kernel_rfl) (by kernel_rfl) (fun _ _ _ h => h) (Or.inl ⟨by rfl, by (intro w hSw; (try dsimp only at hSw); go_simp; (try with_reducible rfl))⟩) (by assumption) ?_
  simp only [Act.put, List.getElem_toArray, List.getElem_cons_succ, List.getElem_cons_zero, List.setIfInBounds_toArray, List.set_cons_zero, List.set_cons_succ]
  refine wpAnyH_take (i := 3) (v := _) rfl (by kernel_rfl) (by kernel_rfl) (by kernel_rfl) (fun _ _ _ h => h) (Or.inl ⟨by rfl, by (intro w hSw; (try dsimp only at hSw); go_simp; (try with_reducible rfl))⟩) (by assumption) ?_
  simp only [Act.put, List.getElem_toArray, List.getElem_cons_succ, List.getElem_cons_zero, List.setIfInBounds_toArray, List.set_cons_zero, List.set_cons_succ]
  refine wpAnyH_take (i := 4) (v := _) rfl (by kernel_rfl) (by kernel_rfl) (by kernel_rfl) (fun _ _ _ h => h) (Or.inl ⟨by rfl, by (intro w hSw; (try dsimp only at hSw); go_simp; (try with_reducible rfl))⟩) (by assumption) ?_
  simp only [Act.put, List.getElem_toArray, List.getElem_cons_succ, List.getElem_cons_zero, List.setIfInBounds_toArray, List.set_cons_zero, List.set_cons_succ]
  refine wpAnyH_take (i := 5) (v := _) rfl (by kernel_rfl) (by kernel_rfl) (by kernel_rfl) (fun _ _ _ h => h) (Or.inl ⟨by rfl, by (intro w hSw; (try dsimp only at hSw); go_simp; (try with_reducible rfl))⟩) (by assumption) ?_
  simp only [Act.put, List.getElem_toArray, List.getElem_cons_succ, List.getElem_cons_zero, List.setIfInBounds_toArray, List.set_cons_zero, List.set_cons_succ]
  refine wpAnyH_take (i := 6) (v := _) rfl (by kernel_rfl) (by kernel_rfl) (by kernel_rfl) (fun _ _ _ h => h) (Or.inl ⟨by rfl, by (intro w hSw; (try dsimp only at hSw); go_simp; (try with_reducible rfl))⟩) (by assumption) ?_
  simp only [Act.put, List.getElem_toArray, List.getElem_cons_succ, List.getElem_cons_zero, List.setIfInBounds_toArray, List.set_cons_zero, List.set_cons_succ]
  refine wpAnyH_take (i := 7) (v := _) rfl (by kernel_rfl) (by kernel_rfl) (by kernel_rfl) (fun _ _ _ h => h) (Or.inl ⟨by rfl, by (intro w hSw; (try dsimp only at hSw); go_simp; (try with_reducible rfl))⟩) (by assumption) ?_
  simp only [Act.put, List.getElem_toArray, List.getElem_cons_succ, List.getElem_cons_zero, List.setIfInBounds_toArray, List.set_cons_zero, List.set_cons_succ]
  refine wpAnyH_take (i := 8) (v := _) rfl (by kernel_rfl) (by kernel_rfl) (by kernel_rfl) (fun _ _ _ h => h) (Or.inl ⟨by rfl, by (intro w hSw; (try dsimp only at hSw); go_simp; (try with_reducible rfl))⟩) (by assumption) ?_
  simp only [Act.put, List.getElem_toArray, List.getElem_cons_succ, List.getElem_cons_zero, List.setIfInBounds_toArray, List.set_cons_zero, List.set_cons_succ]
  refine wpAnyH_take (i := 9) (v := _) rfl (by kernel_rfl) (by kernel_rfl) (by kernel_rfl) (fun _ _ _ h => h) (Or.inl ⟨by rfl, by (intro w hSw; (try dsimp only at hSw); go_simp; (try with_reducible rfl))⟩) (by assumption) ?_
  simp only [Act.put, List.getElem_toArray, List.getElem_cons_succ, List.getElem_cons_zero, List.setIfInBounds_toArray, List.set_cons_zero, List.set_cons_succ]
  refine wpAnyH_take (i := 10) (v := _) rfl (by kernel_rfl) (by kernel_rfl) (by kernel_rfl) (fun _ _ _ h => h) (Or.inl ⟨by rfl, by (intro w hSw; (try dsimp only at hSw); go_simp; (try with_reducible rfl))⟩) (by assumption) ?_
  simp only [Act.put, List.getElem_toArray, List.getElem_cons_succ, List.getElem_cons_zero, List.setIfInBounds_toArray, List.set_cons_zero, List.set_cons_succ]
  refine wpAnyH_take (i := 11) (v := _) rfl (by kernel_rfl) (by kernel_rfl) (by kernel_rfl) (fun _ _ _ h => h) (Or.inl ⟨by rfl, by (intro w hSw; (try dsimp only at hSw); go_simp; (try with_reducible rfl))⟩) (by assumption) ?_
  simp only [Act.put, List.getElem_toArray, List.getElem_cons_succ, List.getElem_cons_zero, List.setIfInBounds_toArray, List.set_cons_zero, List.set_cons_succ]
  refine wpAnyH_take (i := 13) (v := _) rfl (by kernel_rfl) (by kernel_rfl) (by kernel_rfl) (fun _ _ _ h => h) (Or.inl ⟨by rfl, by (intro w hSw; (try dsimp only at hSw); go_simp; (try with_reducible rfl))⟩) (by assumption) ?_
  simp only [Act.put, List.getElem_toArray, List.getElem_cons_succ, List.getElem_cons_zero, List.setIfInBounds_toArray, List.set_cons_zero, List.set_cons_succ]
  refine wpAnyH_take (i := 14) (v := _) rfl (by kernel_rfl) (by kernel_rfl) (by kernel_rfl) (fun _ _ _ h => h) (Or.inl ⟨by rfl, by (intro w hSw; (try dsimp only at hSw); go_simp; (try with_reducible rfl))⟩) (by assumption) ?_
  simp only [Act.put, List.getElem_toArray, List.getElem_cons_succ, List.getElem_cons_zero, List.setIfInBounds_toArray, List.set_cons_zero, List.set_cons_succ]
  refine wpAnyH_take (i := 15) (v := _) rfl (by kernel_rfl) (by kernel_rfl) (by kernel_rfl) (fun _ _ _ h => h) (Or.inl ⟨by rfl, by (intro w hSw; (try dsimp only at hSw); go_simp; (try with_reducible rfl))⟩) (by assumption) ?_
  simp only [Act.put, List.getElem_toArray, List.getElem_cons_succ, List.getElem_cons_zero, List.setIfInBounds_toArray, List.set_cons_zero, List.set_cons_succ]
  refine wpAnyH_take (i := 17) (v := _) rfl (by kernel_rfl) (by kernel_rfl) (by kernel_rfl) (fun _ _ _ h => h) (Or.inl ⟨by rfl, by (intro w hSw; (try dsimp only at hSw); go_simp; (try with_reducible rfl))⟩) (by assumption) ?_
  simp only [Act.put, List.getElem_toArray, List.getElem_cons_succ, List.getElem_cons_zero, List.setIfInBounds_toArray, List.set_cons_zero, List.set_cons_succ]
  refine wpAnyH_take (i := 18) (v := _) rfl (by kernel_rfl) (by kernel_rfl) (by kernel_rfl) (fun _ _ _ h => h) (Or.inl ⟨by rfl, by (intro w hSw; (try dsimp only at hSw); go_simp; (try with_reducible rfl))⟩) (by assumption) ?_
  simp only [Act.put, List.getElem_toArray, List.getElem_cons_succ, List.getElem_cons_zero, List.setIfInBounds_toArray, List.set_cons_zero, List.set_cons_succ]
  refine wpAnyH_take (i := 22) (v := _) rfl (by kernel_rfl) (by kernel_rfl) (by kernel_rfl) (fun _ _ _ h => h) (Or.inl ⟨by rfl, by (intro w hSw; (try dsimp only at hSw); go_simp; (try with_reducible rfl))⟩) (by assumption) ?_
  simp only [Act.put, List.getElem_toArray, List.getElem_cons_succ, List.getElem_cons_zero, List.setIfInBounds_toArray, List.set_cons_zero, List.set_cons_succ]
  refine wpAnyH_take (i := 23) (v := _) rfl (by kernel_rfl) (by kernel_rfl) (by kernel_rfl) (fun _ _ _ h => h) (Or.inl ⟨by rfl, by (intro w hSw; (try dsimp only at hSw); go_simp; (try with_reducible rfl))⟩) (by assumption) ?_
  simp only [Act.put, List.getElem_toArray, List.getElem_cons_succ, List.getElem_cons_zero, List.setIfInBounds_toArray, List.set_cons_zero, List.set_cons_succ]
  refine wpAnyH_take (i := 27) (v := _) rfl (by kernel_rfl) (by kernel_rfl) (by kernel_rfl) (fun _ _ _ h => h) (Or.inl ⟨by rfl, by (intro w hSw; (try dsimp only at hSw); go_simp; (try with_reducible rfl))⟩) (by assumption) ?_
  simp only [Act.put, List.getElem_toArray, List.getElem_cons_succ, List.getElem_cons_zero, List.setIfInBounds_toArray, List.set_cons_zero, List.set_cons_succ]
  refine wpAnyH_take (i := 28) (v := _) rfl (by kernel_rfl) (by kernel_rfl) (by kernel_rfl) (fun _ _ _ h => h) (Or.inl ⟨by rfl, by (intro w hSw; (try dsimp only at hSw); go_simp; (try with_reducible rfl))⟩) (by assumption) ?_
  simp only [Act.put, List.getElem_toArray, List.getElem_cons_succ, List.getElem_cons_zero, List.setIfInBounds_toArray, List.set_cons_zero, List.set_cons_succ]

  refine wpAnyH_listed (L' := Five.LP false 0 Five.base) (by kernel_rfl) ?_
  refine Five.all (P := Tryz.prog) (k := 3) (e := 4) (t := 181) _ 45 rfl (by omega) W1 (fun i => decide (i = 16)) (fun _ => true) Tryz.underlying3 Tryz.underlying4 Tryz.underlying181 ?hv ?hvr ?hS ?hmake ?hcall ?hnot (fun _ _ _ _ _ h => h) ?hins ?hready ?hfree (by kernel_rfl) ?hend 9 none 0 Five.base _ _ (by rfl) (by decide +kernel) (Fr.start _) (drewN_below (Below.refl _ _) 1) (fun b h => by cases h)
  case hv =>
    intro i hi h0
    simp only [Five.base, List.mem_cons, List.not_mem_nil, or_false] at hi
    rcases hi with rfl | rfl | rfl | rfl | rfl
    · rfl
    · rfl
    · cases h0
    · cases h0
    · cases h0
  case hvr =>
    intro i hi h0
    simp only [Five.base, List.mem_cons, List.not_mem_nil, or_false] at hi
    rcases hi with rfl | rfl | rfl | rfl | rfl
    · cases h0
    · cases h0
    · rfl
    · rfl
    · rfl
  case hS => exact fun W hb => HS.out W hb
  case hmake => exact fun a W K h => wpOp_plain (o := _) rfl rfl (by rfl) h
  case hcall =>
    intro c hc a W K l hF hlne hB h
    have hcc : c = 0 ∨ c = 1 ∨ c = 2 := by omega
    rcases hcc with rfl | rfl | rfl
    · have ha : a.tmps[22]? = some (.agg #[.string ⟨#[]⟩, .string ⟨#[]⟩, .bool false, .int .i64 0, .slice none 0 0, .bool false, .slice none 0 0, .slice none 0 0, .slice none 0 0, .slice none 0 0, .slice none 0 0]) := hF.base (k := 22) rfl (fun p hp e => hlne p hp (by omega))
      change wpOp _ _ _ 19 _ _ _
      exact wpOp_call (o := _) rfl rfl (by simp only [List.getElem_toArray, List.getElem_cons_succ, List.getElem_cons_zero]; simp [ha, go_sem]) (noTrigger_zero W) h
    · have ha : a.tmps[26]? = some (.agg #[.bool false, .slice none 0 0, .string ⟨#[]⟩, .slice none 0 0]) := hF.base (k := 26) rfl (fun p hp e => hlne p hp (by omega))
      change wpOp _ _ _ 24 _ _ _
      exact wpOp_call (o := _) rfl rfl (by simp only [List.getElem_toArray, List.getElem_cons_succ, List.getElem_cons_zero]; simp [ha, go_sem]) (noQuery_zero W) h
    · have ha : a.tmps[30]? = some (.agg #[.int .i64 0, .string ⟨#[]⟩, .slice none 0 0, .slice none 0 0, .slice none 0 0, .slice none 0 0, .string ⟨#[]⟩]) := hF.base (k := 30) rfl (fun p hp e => hlne p hp (by omega))
      change wpOp _ _ _ 29 _ _ _
      exact wpOp_call (o := _) rfl rfl (by simp only [List.getElem_toArray, List.getElem_cons_succ, List.getElem_cons_zero]; simp [ha, go_sem]) (noAction_zero W) h
  case hnot =>
    intro c hc
    have hcc : c = 0 ∨ c = 1 ∨ c = 2 := by omega
    rcases hcc with rfl | rfl | rfl
    · refine ⟨_, rfl, rfl, fun a ha => Or.inl ⟨by rfl, fun W _ => ?_⟩⟩
      change a.tmps[23]? = _ at ha
      simp only [Five.ci, List.getElem_toArray, List.getElem_cons_succ, List.getElem_cons_zero]
      simp [ha, go_sem]
    · refine ⟨_, rfl, rfl, fun a ha => Or.inl ⟨by rfl, fun W _ => ?_⟩⟩
      change a.tmps[27]? = _ at ha
      simp only [Five.ci, List.getElem_toArray, List.getElem_cons_succ, List.getElem_cons_zero]
      simp [ha, go_sem]
    · refine ⟨_, rfl, rfl, fun a ha => Or.inl ⟨by rfl, fun W _ => ?_⟩⟩
      change a.tmps[31]? = _ at ha
      simp only [Five.ci, List.getElem_toArray, List.getElem_cons_succ, List.getElem_cons_zero]
      simp [ha, go_sem]
  case hins =>
    intro i hi a W W' K b h6 hv hrun h
    simp only [Five.base, List.mem_cons, List.not_mem_nil, or_false] at hi
    rcases hi with rfl | rfl | rfl | rfl | rfl
    · change a.tmps[17]? = _ at hv
      change Sem.run _ (Instr.mapUpdate _ _ (.int .i64 1) (.bool false)) W = _ at hrun
      refine wpOp_skip (o := _) (w' := W') rfl rfl ?_ h
      simp only [List.getElem_toArray, List.getElem_cons_succ, List.getElem_cons_zero]
      simp [h6, hv, go_sem, hrun]
    · change a.tmps[20]? = _ at hv
      change Sem.run _ (Instr.mapUpdate _ _ (.int .i64 2) (.bool true)) W = _ at hrun
      refine wpOp_skip (o := _) (w' := W') rfl rfl ?_ h
      simp only [List.getElem_toArray, List.getElem_cons_succ, List.getElem_cons_zero]
      simp [h6, hv, go_sem, hrun]
    · change a.tmps[24]? = _ at hv
      change Sem.run _ (Instr.mapUpdate _ _ (.int .i64 4) (.bool false)) W = _ at hrun
      refine wpOp_skip (o := _) (w' := W') rfl rfl ?_ h
      simp only [List.getElem_toArray, List.getElem_cons_succ, List.getElem_cons_zero]
      simp [h6, hv, go_sem, hrun]
    · change a.tmps[28]? = _ at hv
      change Sem.run _ (Instr.mapUpdate _ _ (.int .i64 8) (.bool false)) W = _ at hrun
      refine wpOp_skip (o := _) (w' := W') rfl rfl ?_ h
      simp only [List.getElem_toArray, List.getElem_cons_succ, List.getElem_cons_zero]
      simp [h6, hv, go_sem, hrun]
    · change a.tmps[32]? = _ at hv
      change Sem.run _ (Instr.mapUpdate _ _ (.int .i64 16) (.bool false)) W = _ at hrun
      refine wpOp_skip (o := _) (w' := W') rfl rfl ?_ h
      simp only [List.getElem_toArray, List.getElem_cons_succ, List.getElem_cons_zero]
      simp [h6, hv, go_sem, hrun]
  case hready => exact (by decide +kernel)
  case hfree => exact (by decide +kernel)
  case hend =>
    intro a W b l hF hb hm hl5 hmem hB
    have h6 : a.tmps[6]? = some (.map (some b)) := hF.get (by rfl)
    obtain ⟨D, hown, hhas, hat⟩ := hm
    obtain ⟨w2, hrun, hrg, hg2, hs2⟩ := hown.range (int_keyed Tryz.underlying3) Tryz.underlying181
    have hB2 : Below W1.heap.size W1 w2 := hB.trans ⟨hg2.os, hg2.tape, hg2.output, hg2.size, fun k hk => hg2.block k (Nat.lt_of_lt_of_le hk hB.size) (by simp)⟩
    refine wpAnyH_take (i := 32) (v := .map (some b)) rfl (by kernel_rfl) (by kernel_rfl) (by kernel_rfl) (fun _ _ _ h => h) (Or.inl ⟨by rfl, fun W _ => by simp only [List.getElem_toArray, List.getElem_cons_succ, List.getElem_cons_zero]; simp [h6, go_sem]⟩) (HS.out _ hB) ?_
    refine wpAnyH_ready (rs := [33]) (by kernel_rfl) (by simp) ?_
    intro i hi
    obtain rfl := List.mem_singleton.1 hi
    have hz : a.tmps.size = 45 := hF.2.1
    refine wpOp_plain (o := _) (v := .pointer (some ⟨W.heap.size, 0, none⟩)) (w' := w2) rfl rfl ?_ ⟨HS.out _ hB2, ?_⟩
    · simp only [List.getElem_toArray, List.getElem_cons_succ, List.getElem_cons_zero]
      simp [Act.put, hz, go_sem, hrun]
    refine wpAnyH_done (by kernel_rfl) ?_ _
    refine NoPanic.normal ?_
    simp only [List.getElem_toArray, List.getElem_cons_succ, List.getElem_cons_zero]
    rw [hF.eqA (n := 45) rfl rfl rfl, show Five.lst (fun _ => true) (some b) 3 = [(6, .map (some b)), (23, .bool true), (24, .bool false), (27, .bool true), (28, .bool false), (31, .bool true), (32, .bool false)] from rfl]
    simp only [List.foldl_cons, List.foldl_nil, Act.put, List.setIfInBounds_toArray, List.set_cons_zero, List.set_cons_succ]
    have HB2 := Lib.hid hB2
    have HH := Lib.hid hhas
    have HAT := Lib.hid hat
    have HMEM := Lib.hid hmem
    clear h6 hF hrun hB2 hhas hat hmem hown hz hg2
    rw [← hQ]
    have hHB := HB1.out.trans (HB2.out.mono HB1.out.size)
    have hlo : w.heap.size < W1.heap.size := blkM_lt hblk
    have HBB := Lib.hid hHB
    have hBW : W1.heap.size ≤ W.heap.size := hB.size
    clear hHB
    clear HS hx hblk
    go_step
    go_step
    go_wp2_with fail
  
    go_loopw [3] (fun u wr => ∃ (acc : Int) (left : Lit → Bool) (cnt : Nat), u = .int .i64 acc ∧ Hid (acc = if left (.int .i64 2) = true then 0 else 2) ∧ wr.ranges Tryz.prog 3 (plainElem Tryz.prog 4) b W.heap.size l.length D left cnt ∧ (∀ kl, left kl = true → Maps.has D kl = true) ∧ Below W1.heap.size W1 wr) (fun _ wr => wr.rangeLeft b W.heap.size)
    case atStart =>
      refine ⟨0, _, _, rfl, Lib.hid ?_, hrg, fun _ h => h, HB2.out⟩
      rw [if_pos ((HH.out 2).2 ⟨true, (HMEM.out _).2 ⟨16, by decide, rfl⟩⟩)]
    case round =>
      rename World => wr
      obtain ⟨acc, left, cnt, rfl, HACC, hrg1, hlD, hbw⟩ := hrel
      have HLD := Lib.hid hlD
      have HBW := Lib.hid hbw
      clear hlD hbw hrg
      go_wp2_with (first
        | (at_next; refine Five.next _ rfl _ rfl Tryz.underlying3 Tryz.underlying4 (fun i => decide (i = 16)) b W.heap.size l.length D l left cnt rfl hrg1 HH.out HAT.out HMEM.out HLD.out ?_ ?_)
        | fail)
      · intro hl0
        obtain rfl : acc = 2 := by have h := HACC.out; rw [hl0 (.int .i64 2)] at h; exact h
        clear hl0 HACC
        go_wp2_with fail
        go_ret
        exact ⟨rfl, HB1.out.trans (HBW.out.mono HB1.out.size)⟩
      · intro i w3 cnt3 hi hlk hrg3 hlt hg3 hen
        have HEN := Lib.hid hen
        have HRG := Lib.hid hrg3
        have HRG0 := Lib.hid hrg1
        have HLT := Lib.hid hlt
        have HB3 := Lib.hid (bel_grow HBW.out hg3 HBW.out.size fun k h => by cases h; exact hBW)
        have HLK := Lib.hid hlk
        clear hrg1 hrg3 hlt hg3 hlk
        simp only [Five.base, List.mem_cons, List.not_mem_nil, or_false] at hi
        rcases hi with rfl | rfl | rfl | rfl | rfl
        rotate_left 1
        · have h2 : left (.int .i64 2) = true := HLK.out
          obtain rfl : acc = 0 := by have h := HACC.out; rw [if_pos h2] at h; exact h
          clear h2 HLK HACC
          go_wp2_with fail
          go_roundw
          case rel =>
            refine ⟨_, _, cnt3, rfl, Lib.hid ?_, HRG.out, fun kl h => HLD.out kl (Bool.and_eq_true_iff.1 h).1, HB3.out⟩
            rw [if_neg (by simp [Five.keyOf, Lit.sameKey])]
            rfl
          case measure => rw [HRG.out.left_eq, HRG0.out.left_eq]; exact HLT.out
        all_goals
          clear HLK
          go_wp2_with fail
          go_roundw
          case rel =>
            refine ⟨_, _, cnt3, rfl, Lib.hid ?_, HRG.out, fun kl h => HLD.out kl (Bool.and_eq_true_iff.1 h).1, HB3.out⟩
            have h := HACC.out
            simpa [Five.keyOf, Lit.sameKey] using h
          case measure => rw [HRG.out.left_eq, HRG0.out.left_eq]; exact HLT.out
end Go.Proofs.YtkhlmofcdchccaaGreatDoor
