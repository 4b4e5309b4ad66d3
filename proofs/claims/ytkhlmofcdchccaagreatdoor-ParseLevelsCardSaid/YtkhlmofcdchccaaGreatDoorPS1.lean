/- The two statements of the law's sanity check, as the reader meets them. -/
import Derived.Test.YtkhlmofcdchccaaGreatDoorP7x
import Derived.Test.YtkhlmofcdchccaaGreatDoorML
namespace Go.Proofs.YtkhlmofcdchccaaGreatDoor
open Go.RowKit

def kSel : ByteArray := ⟨#[83, 69, 76, 69, 67, 84]⟩
/-- The tokens behind the first SELECT. -/
def selToks : List Tok := [(2, ⟨#[97]⟩, 7), (2, ⟨#[98]⟩, 9), (1, ⟨#[70, 82, 79, 77]⟩, 11), (2, ⟨#[116]⟩, 16)]
theorem clo_name {x : ByteArray} {i : Nat} {l : List Tok} : Clo ((2, x, i) :: l) := fun _ _ => rfl

set_option maxRecDepth 100000 in
set_option maxHeartbeats 2000000 in
theorem list_one (R : Nat) (en : Int) (x : ByteArray) (i j : Nat) (y : ByteArray) (l : List Tok) (w : World) (h : RdOk R en 0 ((2, x, i) :: (2, y, j) :: l) w) : Calls Tryz.prog 161 #[.pointer (some ⟨R, 0, none⟩)] w (Rds R en 0 ((2, y, j) :: l) (fun v _ => ∃ g, v = .slice (some ⟨g, 0, none⟩) 1 1) w) := by
  have hr : Reads 23 R en 0 ((2, x, i) :: (2, y, j) :: l) (.ok (exCol x) ((2, y, j) :: l)) := up_all (primary_name R en 0 x i _ rfl) rfl rfl fun _ _ h => by cases h; exact clo_name
  have HR := Lib.hid hr
  have HO := Lib.hid h
  clear hr h
  go_enter Tryz.func161, Tryz.ntmps161
  go_wp2_with fail
  refine (HR.out w HO.out).mono ?_
  rintro e w1 ⟨v, rfl, hv, ho, hk⟩
  obtain ⟨a, s, ac, sc, rfl⟩ := hv.shape
  have HO1 := Lib.hid ho
  have HK1 := Lib.hid hk
  clear hv ho hk
  dsimp only
  go_wp2_with fail
  refine wp_loop_rounds 1 ?_
  rw [rounds_succ]
  go_wp2_with fail
  refine (accept_no R en 0 _ _ _ (HO1.out.alloc _) rfl).mono ?_
  rintro e w2 ⟨rfl, hb⟩
  have HB := Lib.hid hb
  clear hb
  dsimp only
  go_wp2_with fail
  go_ret
  exact ⟨_, rfl, ⟨_, rfl⟩, (HO1.out.alloc _).bel HB.out, (HK1.out.alloc _).trans (.bel HB.out)⟩

set_option maxRecDepth 100000 in
set_option maxHeartbeats 2000000 in
theorem from_no (R q : Nat) (en lev : Int) (l : List Tok) (w : World) (h : RdOk R en lev l w) (hn : isB ⟨#[70, 82, 79, 77]⟩ l = false) : Calls Tryz.prog 162 #[.pointer (some ⟨R, 0, none⟩), .pointer (some ⟨q, 0, none⟩)] w (Fails R (atOf en l) 1 w) := by
  have HO := Lib.hid h
  have HN := Lib.hid hn
  clear h hn
  go_enter Tryz.func162, Tryz.ntmps162
  go_wp2_with fail
  refine (expect_no R w.heap.size en lev l _ _ (HO.out.alloc _) HN.out (by simp)).mono ?_
  rintro e w1 ⟨rfl, hk⟩
  have HK := Lib.hid (((Keep.refl _ w).alloc _).trans hk)
  clear hk
  dsimp only
  go_wp2_with fail
  exact ⟨rfl, rfl, HK.out⟩

theorem blk4p {w : World} {S : Nat} {a b c d : Value} {e : TypeId} (h : w.heap[S]? = some (.cells #[a, b, c, d] e (0, 0))) : w.cell? ⟨S, 0, none⟩ = some a ∧ w.cell? ⟨S, 1, none⟩ = some b ∧ w.cell? ⟨S, 2, none⟩ = some c ∧ w.cell? ⟨S, 3, none⟩ = some d ∧ (∀ i, w.frozen? ⟨S, i, none⟩ = false) ∧ S < w.heap.size :=
  ⟨by simp [World.cell?, h], by simp [World.cell?, h], by simp [World.cell?, h], by simp [World.cell?, h], fun i => by simp [World.frozen?, h], (Array.getElem?_eq_some_iff.1 h).1⟩
theorem keep_one (S o : Nat) (w : World) (v : Value) : Keep (At S) w (w.setCell ⟨S, o, none⟩ v) := (Keep.refl (At S) w).setCell (p := ⟨S, o, none⟩) (fun _ => rfl) v
set_option maxRecDepth 100000 in
set_option maxHeartbeats 2000000 in
theorem query_fail (R : Nat) (en : Int) (x : ByteArray) (i j : Nat) (y : ByteArray) (l : List Tok) (w : World) (h : RdOk R en 0 ((2, x, i) :: (2, y, j) :: l) w) : Calls Tryz.prog 109 #[.pointer (some ⟨R, 0, none⟩)] w (Fails R j 1 w) := by
  have HO := Lib.hid h
  clear h
  go_enter Tryz.func109, Tryz.ntmps109
  go_wp2_with fail
  refine (accept_no R en 0 _ _ _ ((HO.out.alloc _).alloc _) rfl).mono ?_
  rintro e w1 ⟨rfl, hb⟩
  have HO1 := Lib.hid (((HO.out.alloc _).alloc _).bel hb)
  have HK1 := Lib.hid ((((Keep.refl (At R) w).alloc _).alloc _).trans (.bel hb))
  have hbk := (hb.block (w.heap.size + 1) (by simp)).trans (show (((w.alloc (.cells #[.bool false, .slice none 0 0, .string ⟨#[]⟩, .slice none 0 0] 81)).alloc (.cells #[.bool false, .slice none 0 0, .string ⟨#[]⟩, .slice none 0 0] 81)).heap[w.heap.size + 1]?) = some (.cells #[.bool false, .slice none 0 0, .string ⟨#[]⟩, .slice none 0 0] 81 (0, 0)) by
    have h := heap_alloc_new (w.alloc (.cells #[.bool false, .slice none 0 0, .string ⟨#[]⟩, .slice none 0 0] 81)) (.cells #[.bool false, .slice none 0 0, .string ⟨#[]⟩, .slice none 0 0] 81)
    rw [show (w.alloc (.cells #[.bool false, .slice none 0 0, .string ⟨#[]⟩, .slice none 0 0] 81)).heap.size = w.heap.size + 1 by simp] at h
    exact h)
  have HBK := Lib.hid hbk
  have hRz := HO.out.lt
  have hz1 : w.heap.size + 1 < w1.heap.size := World.block_lt_of_cell? _ _ (blk4p hbk).1
  clear hb hbk
  dsimp only
  go_wp2_with fail
  refine (list_one R en x i j y l w1 HO1.out).mono ?_
  rintro e w2 ⟨v, rfl, ⟨g, rfl⟩, ho, hk⟩
  have HO2 := Lib.hid ho
  have HK2 := Lib.hid (HK1.out.trans hk)
  have hb2 := (hk.block _ hz1 (by unfold At; omega)).trans HBK.out
  obtain ⟨q0, q1, q2, q3, qf, qz⟩ := blk4p hb2
  have qf1 := qf 1
  clear ho hk hb2 qf
  dsimp only
  go_wp2_with fail
  have ks := keep_one (w.heap.size + 1) 1 w2 (.slice (some ⟨g, 0, none⟩) 1 1)
  refine (from_no R (w.heap.size + 1) en 0 _ _ (HO2.out.keep ks fun k hk => by unfold At at hk; omega) rfl).mono ?_
  rintro e w3 ⟨rfl, hk⟩
  have HK := Lib.hid ((HK2.out.then ks fun k hk h => by unfold At at h; omega).trans hk)
  clear hk ks
  dsimp only
  go_wp2_with fail
  exact ⟨rfl, rfl, HK.out⟩

set_option maxRecDepth 100000 in
set_option maxHeartbeats 4000000 in
theorem stm_select (R : Nat) (en : Int) (i0 : Nat) (x : ByteArray) (i j : Nat) (y : ByteArray) (l : List Tok) (w : World) (h : RdOk R en 0 ((1, kSel, i0) :: (2, x, i) :: (2, y, j) :: l) w) : Calls Tryz.prog 57 #[.pointer (some ⟨R, 0, none⟩)] w (Fails R j 1 w) := by
  have HO := Lib.hid h
  clear h
  go_enter Tryz.func57, Tryz.ntmps57
  go_wp2_with fail
  refine (accept_no R en 0 _ _ _ (HO.out.alloc _) (sym_no (by decide +kernel))).mono ?_
  rintro e w1 ⟨rfl, hb1⟩
  have HO1 := Lib.hid ((HO.out.alloc _).bel hb1)
  have HK1 := Lib.hid (((Keep.refl (At R) w).alloc _).trans (.bel hb1))
  clear hb1
  dsimp only
  go_wp2_with fail
  refine (accept_no R en 0 _ _ _ HO1.out (sym_no (by decide +kernel))).mono ?_
  rintro e w2 ⟨rfl, hb2⟩
  have HO2 := Lib.hid (HO1.out.bel hb2)
  have HK2 := Lib.hid (HK1.out.trans (.bel hb2))
  clear hb2
  dsimp only
  go_wp2_with fail
  refine (accept_yes R en 0 _ _ _ _ HO2.out (sym_is rfl)).mono ?_
  rintro e w3 ⟨v, rfl, rfl, ho, hk⟩
  have HO3 := Lib.hid ho
  have HK3 := Lib.hid (HK2.out.trans hk)
  clear ho hk
  dsimp only
  go_wp2_with fail
  refine (query_fail R en x i j y l w3 HO3.out).mono ?_
  rintro e w4 ⟨rfl, hk⟩
  have HK4 := Lib.hid (HK3.out.trans hk)
  clear hk
  dsimp only
  go_wp2_with fail
  exact ⟨rfl, rfl, HK4.out⟩

/-- One of two words. -/
theorem choose_first (R b : Nat) (en lev : Int) (t : Tok) (l : List Tok) (s : ByteArray) (w : World) (h : RdOk R en lev (t :: l) w) (hn : isB s (t :: l) = true) (hb : w.cell? ⟨b, 0, none⟩ = some (.string s)) : Calls Tryz.prog 105 #[.pointer (some ⟨R, 0, none⟩), .slice (some ⟨b, 0, none⟩) 2 2] w (Rds R en lev l (fun v _ => v = .int .i64 0) w) := by
  have HI := Lib.hid (accept_yes R en lev t l s w h hn)
  clear hn h
  go_enter Tryz.func105, Tryz.ntmps105
  go_wp2_with fail
  refine wp_loop_rounds 1 ?_
  rw [rounds_succ]
  go_wp2_with fail
  refine HI.out.mono ?_
  rintro e w2 ⟨v, rfl, rfl, ho, hk⟩
  have HO2 := Lib.hid ho
  have HK := Lib.hid hk
  clear ho hk
  dsimp only
  go_wp2_with fail
  go_ret
  exact ⟨_, rfl, rfl, HO2.out, HK.out⟩

def kDROPb : ByteArray := ⟨#[68, 82, 79, 80]⟩
def kTABLEb : ByteArray := ⟨#[84, 65, 66, 76, 69]⟩
def stm26 (k : Int) (nm : ByteArray) : Value := .agg #[.int .i64 k, .string ⟨#[]⟩, .slice none 0 0, .string nm, .string ⟨#[]⟩, .string ⟨#[]⟩, .bool false, .int .i64 0, .slice none 0 0, .bool false, .slice none 0 0, .slice none 0 0, .slice none 0 0, .slice none 0 0, .slice none 0 0, .bool false, .slice none 0 0, .string ⟨#[]⟩, .slice none 0 0, .int .i64 0, .string ⟨#[]⟩, .slice none 0 0, .slice none 0 0, .slice none 0 0, .slice none 0 0, .string ⟨#[]⟩]
set_option maxRecDepth 100000 in
set_option maxHeartbeats 4000000 in
theorem stm_drop (R : Nat) (en : Int) (i0 i1 i2 : Nat) (x : ByteArray) (w : World) (h : RdOk R en 0 [(1, kDROPb, i0), (1, kTABLEb, i1), (2, x, i2)] w) : Calls Tryz.prog 57 #[.pointer (some ⟨R, 0, none⟩)] w (Rds R en 0 [] (fun v _ => v = stm26 2 x) w) := by
  have HO := Lib.hid h
  clear h
  go_enter Tryz.func57, Tryz.ntmps57
  go_wp2_with fail
  refine (accept_no R en 0 _ _ _ (HO.out.alloc _) (sym_no (by decide +kernel))).mono ?_
  rintro e w1 ⟨rfl, hb1⟩
  have HO1 := Lib.hid ((HO.out.alloc _).bel hb1)
  have hB1 := (hb1.block w.heap.size (by simp)).trans (heap_alloc_new w _)
  have HB1 := Lib.hid hB1
  have hz1 : w.heap.size < w1.heap.size := Nat.lt_of_lt_of_le (by simp) hb1.size
  have HK1 := Lib.hid (((Keep.refl (At R) w).alloc _).trans (.bel hb1))
  have hRz := HO.out.lt
  clear hb1 hB1
  dsimp only
  go_wp2_with fail
  refine (accept_yes R en 0 _ _ _ _ HO1.out (sym_is rfl)).mono ?_
  rintro e w2 ⟨v, rfl, rfl, ho, hk⟩
  have HO2 := Lib.hid ho
  have HK2 := Lib.hid (HK1.out.trans hk)
  have HB2 := Lib.hid ((hk.block w.heap.size hz1 (by unfold At; omega)).trans HB1.out)
  have hz2 := Nat.lt_of_lt_of_le hz1 hk.size
  clear ho hk HB1
  dsimp only
  go_wp2_with fail
  have hc2 : ((w2.alloc (.cells #[.int .i64 2, .int .i64 4] 3)).alloc (.cells #[.string ⟨#[84, 65, 66, 76, 69]⟩, .string ⟨#[84, 82, 73, 71, 71, 69, 82]⟩] 9)).cell? ⟨w2.heap.size, 0, none⟩ = some (.int .i64 2) := by simp
  have hz3 : w2.heap.size + 1 < ((w2.alloc (.cells #[.int .i64 2, .int .i64 4] 3)).alloc (.cells #[.string ⟨#[84, 65, 66, 76, 69]⟩, .string ⟨#[84, 82, 73, 71, 71, 69, 82]⟩] 9)).heap.size := by simp
  have hk2 : Below w2.heap.size w2 ((w2.alloc (.cells #[.int .i64 2, .int .i64 4] 3)).alloc (.cells #[.string ⟨#[84, 65, 66, 76, 69]⟩, .string ⟨#[84, 82, 73, 71, 71, 69, 82]⟩] 9)) := ((Below.refl _ _).alloc (Nat.le_refl _) _).alloc (by simp) _
  refine (choose_first R (w2.heap.size + 1) en 0 _ _ ⟨#[84, 65, 66, 76, 69]⟩ _ ((HO2.out.alloc _).alloc _) (sym_is rfl) (by simp)).mono ?_
  generalize World.alloc _ _ = W2 at hc2 hz3 hk2 ⊢
  rintro e w3 ⟨v, rfl, rfl, ho, hk⟩
  have HO3 := Lib.hid ho
  have HK3 := Lib.hid ((HK2.out.trans (.bel hk2)).trans hk)
  have HB3 := Lib.hid (((hk.block w.heap.size (by omega) (by unfold At; omega)).trans (hk2.block _ hz2)).trans HB2.out)
  have hc3 : w3.cell? ⟨w2.heap.size, 0, none⟩ = some (.int .i64 2) := (hk.cell (by omega) (by unfold At; omega)).trans hc2
  have hz4 : w.heap.size < w3.heap.size := Nat.lt_of_lt_of_le (by omega) hk.size
  clear ho hk HB2 hk2 hc2
  dsimp only
  go_wp2_with fail
  refine (name_yes R en 0 x i2 [] w3 HO3.out).mono ?_
  rintro e w4 ⟨v, rfl, rfl, ho, hk⟩
  have HO4 := Lib.hid ho
  have HK4 := Lib.hid (HK3.out.trans hk)
  have hb26 := (hk.block w.heap.size hz4 (by unfold At; omega)).trans HB3.out
  clear ho hk HB3 hc3
  dsimp only
  have hth : World.there w4 w.heap.size 0 (#[.int .i64 2, .string ⟨#[]⟩, .slice none 0 0, .string x, .string ⟨#[]⟩, .string ⟨#[]⟩, .bool false, .int .i64 0, .slice none 0 0, .bool false, .slice none 0 0, .slice none 0 0, .slice none 0 0, .slice none 0 0, .slice none 0 0, .bool false, .slice none 0 0, .string ⟨#[]⟩, .slice none 0 0, .int .i64 0, .string ⟨#[]⟩, .slice none 0 0, .slice none 0 0, .slice none 0 0, .slice none 0 0, .string ⟨#[]⟩] : Array Value).size := by have h := there_blkM hb26; exact h
  repeat (first | (refine wpList_store_mid rfl 87 _ _ rfl w.heap.size 0 #[.int .i64 2, .string ⟨#[]⟩, .slice none 0 0, .string x, .string ⟨#[]⟩, .string ⟨#[]⟩, .bool false, .int .i64 0, .slice none 0 0, .bool false, .slice none 0 0, .slice none 0 0, .slice none 0 0, .slice none 0 0, .slice none 0 0, .bool false, .slice none 0 0, .string ⟨#[]⟩, .slice none 0 0, .int .i64 0, .string ⟨#[]⟩, .slice none 0 0, .slice none 0 0, .slice none 0 0, .slice none 0 0, .string ⟨#[]⟩] rfl rfl hth (by kernel_rfl) (by simp [Value.oneCell']) ?_) | go_values | go_skip | go_guarded | go_step | go_upon)
  generalize hwz : World.setCells w4 _ _ _ = wz
  have ks : Keep (At w.heap.size) w4 wz := by rw [← hwz]; exact keep_setCellsM _ 0 w4
  have hblk : wz.heap[w.heap.size]? = some (.cells #[.int .i64 2, .string ⟨#[]⟩, .slice none 0 0, .string x, .string ⟨#[]⟩, .string ⟨#[]⟩, .bool false, .int .i64 0, .slice none 0 0, .bool false, .slice none 0 0, .slice none 0 0, .slice none 0 0, .slice none 0 0, .slice none 0 0, .bool false, .slice none 0 0, .string ⟨#[]⟩, .slice none 0 0, .int .i64 0, .string ⟨#[]⟩, .slice none 0 0, .slice none 0 0, .slice none 0 0, .slice none 0 0, .string ⟨#[]⟩] 87 (0, 0)) := by rw [← hwz]; exact blkM_set (v := [.int .i64 2, .string ⟨#[]⟩, .slice none 0 0, .string x, .string ⟨#[]⟩, .string ⟨#[]⟩, .bool false, .int .i64 0, .slice none 0 0, .bool false, .slice none 0 0, .slice none 0 0, .slice none 0 0, .slice none 0 0, .slice none 0 0, .bool false, .slice none 0 0, .string ⟨#[]⟩, .slice none 0 0, .int .i64 0, .string ⟨#[]⟩, .slice none 0 0, .slice none 0 0, .slice none 0 0, .slice none 0 0, .string ⟨#[]⟩]) (c' := #[.int .i64 2, .string ⟨#[]⟩, .slice none 0 0, .string x, .string ⟨#[]⟩, .string ⟨#[]⟩, .bool false, .int .i64 0, .slice none 0 0, .bool false, .slice none 0 0, .slice none 0 0, .slice none 0 0, .slice none 0 0, .slice none 0 0, .bool false, .slice none 0 0, .string ⟨#[]⟩, .slice none 0 0, .int .i64 0, .string ⟨#[]⟩, .slice none 0 0, .slice none 0 0, .slice none 0 0, .slice none 0 0, .string ⟨#[]⟩]) (by kernel_rfl) hb26
  clear hth hwz
  refine bodyPost_ret (v := .agg #[.int .i64 2, .string ⟨#[]⟩, .slice none 0 0, .string x, .string ⟨#[]⟩, .string ⟨#[]⟩, .bool false, .int .i64 0, .slice none 0 0, .bool false, .slice none 0 0, .slice none 0 0, .slice none 0 0, .slice none 0 0, .slice none 0 0, .bool false, .slice none 0 0, .string ⟨#[]⟩, .slice none 0 0, .int .i64 0, .string ⟨#[]⟩, .slice none 0 0, .slice none 0 0, .slice none 0 0, .slice none 0 0, .string ⟨#[]⟩]) ?_ rfl ?_
  · exact results_cell_row Tryz.results57 _ _ w.heap.size _ _ _ _ rfl hblk Tryz.underlying87 rfl (by kernel_rfl)
  exact ⟨_, rfl, rfl, HO4.out.keep ks fun j hj => by unfold At at hj; omega, HK4.out.then ks fun j hj h => by unfold At at h; omega⟩
end Go.Proofs.YtkhlmofcdchccaaGreatDoor
