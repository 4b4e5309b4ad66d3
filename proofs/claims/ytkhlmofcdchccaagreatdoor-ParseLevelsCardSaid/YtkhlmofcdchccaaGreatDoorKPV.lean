/- Parts of a statement that are not there. A statement that drops a table is well-formed. -/
import Derived.Test.YtkhlmofcdchccaaGreatDoorPS1
import Derived.Test.YtkhlmofcdchccaaGreatDoorKN0
namespace Go.Proofs.YtkhlmofcdchccaaGreatDoor
open Go.RowKit

set_option maxRecDepth 100000 in
theorem noTrigger_zero (w : World) : Calls Tryz.prog 166 #[.agg #[.string ⟨#[]⟩, .string ⟨#[]⟩, .bool false, .int .i64 0, .slice none 0 0, .bool false, .slice none 0 0, .slice none 0 0, .slice none 0 0, .slice none 0 0, .slice none 0 0]] w (RetBel (.bool true) w) := by
  go_enter Tryz.func166, Tryz.ntmps166
  go_wp2_with fail
  go_ret
  exact ⟨rfl, (Below.refl _ _).alloc (Nat.le_refl _) _⟩
set_option maxRecDepth 100000 in
theorem noQuery_zero (w : World) : Calls Tryz.prog 167 #[.agg #[.bool false, .slice none 0 0, .string ⟨#[]⟩, .slice none 0 0]] w (RetBel (.bool true) w) := by
  go_enter Tryz.func167, Tryz.ntmps167
  go_wp2_with fail
  go_ret
  exact ⟨rfl, (Below.refl _ _).alloc (Nat.le_refl _) _⟩
set_option maxRecDepth 100000 in
theorem noAction_zero (w : World) : Calls Tryz.prog 168 #[.agg #[.int .i64 0, .string ⟨#[]⟩, .slice none 0 0, .slice none 0 0, .slice none 0 0, .slice none 0 0, .string ⟨#[]⟩]] w (RetBel (.bool true) w) := by
  go_enter Tryz.func168, Tryz.ntmps168
  go_wp2_with fail
  go_ret
  exact ⟨rfl, (Below.refl _ _).alloc (Nat.le_refl _) _⟩
end Go.Proofs.YtkhlmofcdchccaaGreatDoor

namespace Go.Proofs.YtkhlmofcdchccaaGreatDoor
open Go.RowKit

set_option maxRecDepth 100000 in
set_option maxHeartbeats 4000000 in
theorem valid_drop (x : ByteArray) (w : World) (hx : nameB x = true) (hs : x.size ≤ maxLen) (hp : ∀ w, Calls Tryz.prog 111 #[stm26 2 x] w (RetBel (.int .i64 2) w)) : Calls Tryz.prog 58 #[stm26 2 x] w (RetBel (.bool true) w) := by
  unfold stm26 at hp ⊢
  have HP := Lib.hid hp
  have HN := Lib.hid hx
  clear hp hx
  go_enter Tryz.func58, Tryz.ntmps58
  go_upto_region 1 with fail
  generalize hW : World.alloc w _ = W1
  have hblk : W1.heap[w.heap.size]? = some (.cells #[.int .i64 2, .string ⟨#[]⟩, .slice none 0 0, .string x, .string ⟨#[]⟩, .string ⟨#[]⟩, .bool false, .int .i64 0, .slice none 0 0, .bool false, .slice none 0 0, .slice none 0 0, .slice none 0 0, .slice none 0 0, .slice none 0 0, .bool false, .slice none 0 0, .string ⟨#[]⟩, .slice none 0 0, .int .i64 0, .string ⟨#[]⟩, .slice none 0 0, .slice none 0 0, .slice none 0 0, .slice none 0 0, .string ⟨#[]⟩] 87 (0, 0)) := by rw [← hW]; exact heap_alloc_new w _
  have hb1 : Below w.heap.size w W1 := by rw [← hW]; exact (Below.refl _ _).alloc (Nat.le_refl _) _
  clear hW
  have HB1 := Lib.hid hb1
  have HBK := Lib.hid hblk
  clear hb1
  go_wp2_with (refine wpList_load_row rfl 87 _ rfl w.heap.size rfl _ _ _ _ hblk Tryz.underlying87 rfl (by kernel_rfl) ?_)
  refine (HP.out W1).mono ?_
  rintro e w1 ⟨rfl, hb2⟩
  have hblk1 := (hb2.block _ (blkM_lt hblk)).trans hblk
  have k0 := blkM_at (i := 0) (l := [_, _, _, _, _, _, _, _, _, _, _, _, _, _, _, _, _, _, _, _, _, _, _, _, _, _]) hblk1 rfl
  have k3 := blkM_at (i := 3) (l := [_, _, _, _, _, _, _, _, _, _, _, _, _, _, _, _, _, _, _, _, _, _, _, _, _, _]) hblk1 rfl
  have HB2 := Lib.hid (HB1.out.trans (hb2.mono HB1.out.size))
  clear hblk hblk1 hb2 HBK
  dsimp only
  go_wp2_with fail
  refine (validName_any x w1 hs).mono ?_
  rintro e w2 ⟨rfl, hb⟩
  rw [HN.out]
  have HB3 := Lib.hid (HB2.out.trans (hb.mono HB2.out.size))
  clear hb HB2 HB1
  dsimp only
  go_wp2_with fail
  go_ret
  exact ⟨rfl, HB3.out⟩
end Go.Proofs.YtkhlmofcdchccaaGreatDoor
