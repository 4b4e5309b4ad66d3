/- parse.Statement at two texts. The sanity check of the law of levels. -/
import Derived.Test.YtkhlmofcdchccaaGreatDoorKPV
import Derived.Test.YtkhlmofcdchccaaGreatDoorKPR
import Derived.Test.YtkhlmofcdchccaaGreatDoorP8x
import Derived.Test.YtkhlmofcdchccaaGreatDoorPP2
namespace Go.Proofs.YtkhlmofcdchccaaGreatDoor
open Go.RowKit

theorem results_cell_two {fn : Func} {p u v : Tmp} {ty : TypeId} (h : fn.results = #[.cell p ty, .tmp u, .tmp v]) (tmps : Array Value) (w : World) (g : Nat) (cs : Array Value)
    (hp : tmps.getD p undef = .pointer (some ⟨g, 0, none⟩)) (hl : (loadVar ty ⟨g, 0, none⟩).run Tryz.prog w = .ok (.agg cs) w) :
    (results fn tmps).run Tryz.prog w = .ok (.tuple #[.agg cs, tmps.getD u undef, tmps.getD v undef]) w := by
  have hp' : tmps[p]?.getD undef = .pointer (some ⟨g, 0, none⟩) := by simpa using hp
  simp [results, h, hp', asAddr, hl]

theorem wpList_wanted {P : Program} {ops : Array Oper} {Q : Exit → Act → World → Prop} {a : Act} {w : World} {rest : List Oper} {o : Oper} (hw : Region.wanted o (yielded ops a.tmps) = true)
    (h : ∀ K : Act → World → Prop, (∀ a w, wpList P ops Q rest a w → K a w) → o.wp P a w K Q) : wpList P ops Q (o :: rest) a w := wpList_step fun K hK => by rw [if_pos hw]; exact h K hK

abbrev row0 : Array Value := #[.int .i64 0, .string ⟨#[]⟩, .slice none 0 0, .string ⟨#[]⟩, .string ⟨#[]⟩, .string ⟨#[]⟩, .bool false, .int .i64 0, .slice none 0 0, .bool false, .slice none 0 0, .slice none 0 0, .slice none 0 0, .slice none 0 0, .slice none 0 0, .bool false, .slice none 0 0, .string ⟨#[]⟩, .slice none 0 0, .int .i64 0, .string ⟨#[]⟩, .slice none 0 0, .slice none 0 0, .slice none 0 0, .slice none 0 0, .string ⟨#[]⟩]
abbrev row2 (x : ByteArray) : Array Value := #[.int .i64 2, .string ⟨#[]⟩, .slice none 0 0, .string x, .string ⟨#[]⟩, .string ⟨#[]⟩, .bool false, .int .i64 0, .slice none 0 0, .bool false, .slice none 0 0, .slice none 0 0, .slice none 0 0, .slice none 0 0, .slice none 0 0, .bool false, .slice none 0 0, .string ⟨#[]⟩, .slice none 0 0, .int .i64 0, .string ⟨#[]⟩, .slice none 0 0, .slice none 0 0, .slice none 0 0, .slice none 0 0, .string ⟨#[]⟩]

theorem two_stm (w : World) : ((w.alloc (.cells row0 87)).alloc (.cells row0 87)).heap[w.heap.size]? = some (.cells row0 87 (0, 0)) ∧ ((w.alloc (.cells row0 87)).alloc (.cells row0 87)).heap[w.heap.size + 1]? = some (.cells row0 87 (0, 0)) := by
  refine ⟨?_, ?_⟩
  · exact (((Below.refl (w.alloc (.cells row0 87)).heap.size _).alloc (Nat.le_refl _) (.cells row0 87)).block w.heap.size (by simp)).trans (heap_alloc_new w _)
  · have h := heap_alloc_new (w.alloc (.cells row0 87)) (.cells row0 87)
    rw [show (w.alloc (.cells row0 87)).heap.size = w.heap.size + 1 by simp] at h
    exact h

set_option maxRecDepth 100000 in
set_option maxHeartbeats 2000000 in
theorem stm1_ok (R E : Nat) (en : Int) (x : ByteArray) (w W : World) (hr : Calls Tryz.prog 57 #[.pointer (some ⟨R, 0, none⟩)] W (Rds R en 0 [] (fun v _ => v = stm26 2 x) W)) (hB : Below w.heap.size w W) (hE : E < w.heap.size) (hER : w.heap.size < R)
    (hb : w.heap[E]? = some (.cells #[.int .i64 0, .string ⟨#[]⟩, .slice none 0 0, .string ⟨#[]⟩, .string ⟨#[]⟩, .string ⟨#[]⟩, .bool false, .int .i64 0, .slice none 0 0, .bool false, .slice none 0 0, .slice none 0 0, .slice none 0 0, .slice none 0 0, .slice none 0 0, .bool false, .slice none 0 0, .string ⟨#[]⟩, .slice none 0 0, .int .i64 0, .string ⟨#[]⟩, .slice none 0 0, .slice none 0 0, .slice none 0 0, .slice none 0 0, .string ⟨#[]⟩] 87 (0, 0))) :
    Calls Tryz.prog 56 #[.pointer (some ⟨R, 0, none⟩), .pointer (some ⟨E, 0, none⟩)] W (fun e W' => e = .returned (.tuple #[]) ∧ (∃ a3 c3 e3 l3, W'.heap[R]? = some (.cells #[.slice a3 0 c3, e3, l3] 128 (0, 0))) ∧ Keep (fun k => k = R ∨ k = E) W W' ∧
      W'.heap[E]? = some (.cells #[.int .i64 2, .string ⟨#[]⟩, .slice none 0 0, .string x, .string ⟨#[]⟩, .string ⟨#[]⟩, .bool false, .int .i64 0, .slice none 0 0, .bool false, .slice none 0 0, .slice none 0 0, .slice none 0 0, .slice none 0 0, .slice none 0 0, .bool false, .slice none 0 0, .string ⟨#[]⟩, .slice none 0 0, .int .i64 0, .string ⟨#[]⟩, .slice none 0 0, .slice none 0 0, .slice none 0 0, .slice none 0 0, .string ⟨#[]⟩] 87 (0, 0))) := by
  have HR := Lib.hid hr
  have HBE := Lib.hid ((hB.block E hE).trans hb)
  have hEz := hB.size
  clear hr hb
  go_enter Tryz.func56, Tryz.ntmps56
  go_wp2_with fail
  refine HR.out.mono ?_
  rintro e w1 ⟨v, rfl, rfl, ho, hk⟩
  obtain ⟨⟨a3, c3, hbk, _⟩, _⟩ := ho
  have hE1 := (hk.block E (by omega) (by unfold At; omega)).trans HBE.out
  have HK := Lib.hid hk
  have HBK := Lib.hid hbk
  clear hk hbk HBE HR
  unfold stm26
  dsimp only
  have hth : World.there w1 E 0 (#[.int .i64 2, .string ⟨#[]⟩, .slice none 0 0, .string x, .string ⟨#[]⟩, .string ⟨#[]⟩, .bool false, .int .i64 0, .slice none 0 0, .bool false, .slice none 0 0, .slice none 0 0, .slice none 0 0, .slice none 0 0, .slice none 0 0, .bool false, .slice none 0 0, .string ⟨#[]⟩, .slice none 0 0, .int .i64 0, .string ⟨#[]⟩, .slice none 0 0, .slice none 0 0, .slice none 0 0, .slice none 0 0, .string ⟨#[]⟩] : Array Value).size := by have h := there_blkM hE1; exact h
  repeat (first | (refine wpList_store_mid rfl 87 _ _ rfl (E) 0 #[.int .i64 2, .string ⟨#[]⟩, .slice none 0 0, .string x, .string ⟨#[]⟩, .string ⟨#[]⟩, .bool false, .int .i64 0, .slice none 0 0, .bool false, .slice none 0 0, .slice none 0 0, .slice none 0 0, .slice none 0 0, .slice none 0 0, .bool false, .slice none 0 0, .string ⟨#[]⟩, .slice none 0 0, .int .i64 0, .string ⟨#[]⟩, .slice none 0 0, .slice none 0 0, .slice none 0 0, .slice none 0 0, .string ⟨#[]⟩] rfl rfl hth (by kernel_rfl) (by simp [Value.oneCell']) ?_) | go_values | go_skip | go_guarded | go_step | go_upon)
  generalize hwz : World.setCells w1 _ _ _ = wz
  have ks : Keep (At E) w1 wz := by rw [← hwz]; exact keep_setCellsM _ 0 w1
  have hblk : wz.heap[E]? = some (.cells #[.int .i64 2, .string ⟨#[]⟩, .slice none 0 0, .string x, .string ⟨#[]⟩, .string ⟨#[]⟩, .bool false, .int .i64 0, .slice none 0 0, .bool false, .slice none 0 0, .slice none 0 0, .slice none 0 0, .slice none 0 0, .slice none 0 0, .bool false, .slice none 0 0, .string ⟨#[]⟩, .slice none 0 0, .int .i64 0, .string ⟨#[]⟩, .slice none 0 0, .slice none 0 0, .slice none 0 0, .slice none 0 0, .string ⟨#[]⟩] 87 (0, 0)) := by rw [← hwz]; exact blkM_set (v := [.int .i64 2, .string ⟨#[]⟩, .slice none 0 0, .string x, .string ⟨#[]⟩, .string ⟨#[]⟩, .bool false, .int .i64 0, .slice none 0 0, .bool false, .slice none 0 0, .slice none 0 0, .slice none 0 0, .slice none 0 0, .slice none 0 0, .bool false, .slice none 0 0, .string ⟨#[]⟩, .slice none 0 0, .int .i64 0, .string ⟨#[]⟩, .slice none 0 0, .slice none 0 0, .slice none 0 0, .slice none 0 0, .string ⟨#[]⟩]) (c' := #[.int .i64 2, .string ⟨#[]⟩, .slice none 0 0, .string x, .string ⟨#[]⟩, .string ⟨#[]⟩, .bool false, .int .i64 0, .slice none 0 0, .bool false, .slice none 0 0, .slice none 0 0, .slice none 0 0, .slice none 0 0, .slice none 0 0, .bool false, .slice none 0 0, .string ⟨#[]⟩, .slice none 0 0, .int .i64 0, .string ⟨#[]⟩, .slice none 0 0, .slice none 0 0, .slice none 0 0, .slice none 0 0, .string ⟨#[]⟩]) (by kernel_rfl) hE1
  have hRE : R ≠ E := by omega
  refine ⟨rfl, _, results_none rfl _ _ _, ?_⟩
  exact ⟨rfl, ⟨a3, c3, _, _, (ks.block R (blkM_lt HBK.out) hRE).trans HBK.out⟩, (HK.out.weak (M := fun k => k = R ∨ k = E) fun k _ h => .inl h).trans (ks.weak fun k _ h => .inr h), hblk⟩

set_option maxRecDepth 100000 in
theorem stm1_fail (R E : Nat) (at0 code : Int) (W : World) (hr : Calls Tryz.prog 57 #[.pointer (some ⟨R, 0, none⟩)] W (Fails R at0 code W)) :
    Calls Tryz.prog 56 #[.pointer (some ⟨R, 0, none⟩), .pointer (some ⟨E, 0, none⟩)] W (fun e W' => e = .panicked [{ v := failV at0 code, recovered := false }] ∧ Keep (fun k => k = R ∨ k = E) W W') := by
  have HR := Lib.hid hr
  clear hr
  go_enter Tryz.func56, Tryz.ntmps56
  go_wp2_with fail
  refine HR.out.mono ?_
  rintro e w1 ⟨rfl, hk⟩
  have HK := Lib.hid hk
  clear hk
  dsimp only
  go_wp2_with fail
  exact ⟨rfl, rfl, HK.out.weak fun k _ h => .inl h⟩

set_option maxRecDepth 100000 in
set_option maxHeartbeats 4000000 in
theorem pst_ok (s : ByteArray) (l : List Tok) (x : ByteArray) (w : World) (hs : s.size ≤ 4096) (ht : TokOk w) (h10 : 6 < w.heap.size) (hl : toks s (s.size + 1) 0 = .ok l) (hr : ∀ R W, RdOk R s.size 0 l W → Calls Tryz.prog 57 #[.pointer (some ⟨R, 0, none⟩)] W (Rds R s.size 0 [] (fun v _ => v = stm26 2 x) W)) (hv : ∀ w, Calls Tryz.prog 58 #[stm26 2 x] w (RetBel (.bool true) w)) :
    Calls Tryz.prog 25 #[.string s] w (fun e w' => e = .returned (.tuple #[stm26 2 x, .int .i64 0, .int .i64 0]) ∧ Below w.heap.size w w') := by
  have HR := Lib.hid hr
  have HL := Lib.hid hl
  have HT := Lib.hid ht
  unfold stm26 at hv
  have HV := Lib.hid hv
  have hmf : ∀ (fn : Fn) (first cap : Array Value) (w : World), (Instr.makeFunc fn first cap).run Tryz.prog w = .ok (.func fn first cap) w := fun _ _ _ _ => rfl
  clear hr hl ht hv
  go_enter Tryz.func25, Tryz.ntmps25
  go_wp2_with fail
  have hbx := two_stm w
  have hz0 : ((w.alloc (.cells row0 87)).alloc (.cells row0 87)).heap.size = w.heap.size + 1 + 1 := by simp
  have hb0 : Below w.heap.size w ((w.alloc (.cells row0 87)).alloc (.cells row0 87)) := ((Below.refl _ _).alloc (Nat.le_refl _) _).alloc (by simp) _
  have ht0 := HT.out.keep (M := fun _ => False) (.bel hb0) fun _ _ h => h
  unfold row0 at hbx hz0 hb0 ht0
  generalize World.alloc _ _ = W0 at hbx hz0 hb0 ht0 ⊢
  have HBX := Lib.hid hbx
  have HB0 := Lib.hid hb0
  refine (read_ok 56 (w.heap.size + 1) s l (fun W => W.heap[w.heap.size + 1]? = some (.cells #[.int .i64 2, .string ⟨#[]⟩, .slice none 0 0, .string x, .string ⟨#[]⟩, .string ⟨#[]⟩, .bool false, .int .i64 0, .slice none 0 0, .bool false, .slice none 0 0, .slice none 0 0, .slice none 0 0, .slice none 0 0, .slice none 0 0, .bool false, .slice none 0 0, .string ⟨#[]⟩, .slice none 0 0, .int .i64 0, .string ⟨#[]⟩, .slice none 0 0, .slice none 0 0, .slice none 0 0, .slice none 0 0, .string ⟨#[]⟩] 87 (0, 0))) W0 hs ht0 HL.out (by omega) (by omega) (fun _ _ => rfl) fun R W hrd hbw hR => ?_).mono ?_
  · exact stm1_ok R (w.heap.size + 1) s.size x W0 W (HR.out R W hrd) hbw (by omega) hR HBX.out.2
  clear ht0 hbx hb0
  rintro e w1 ⟨rfl, hk, W1, hbE, hk1⟩
  have hE1 := (hk1.block (w.heap.size + 1) (blkM_lt hbE) (by omega)).trans hbE
  have hR1 := (hk.block w.heap.size (by omega) (by unfold At; omega)).trans HBX.out.1
  have HB1 := Lib.hid (HB0.out.trans (hk.toBelow (by omega) fun k hk h => by unfold At at h; omega))
  have HE1 := Lib.hid hE1
  have HR1 := Lib.hid hR1
  clear hk hk1 hbE hE1 hR1
  dsimp only
  go_wp2_with (with_reducible (show wpList _ _ _ (Oper.mk _ (Op.load _ _) _ _ _ _ :: _) _ _); refine wpList_wanted rfl fun _ hK => wp_load_row 87 _ rfl (w.heap.size + 1) rfl _ _ _ _ HE1.out Tryz.underlying87 rfl (by kernel_rfl) (hK _ _ ?_))
  refine (HV.out w1).mono ?_
  rintro e w2 ⟨rfl, hb2⟩
  have hE2 := (hb2.block _ (blkM_lt HE1.out)).trans HE1.out
  have hR2 := (hb2.block _ (blkM_lt HR1.out)).trans HR1.out
  have HB2 := Lib.hid (HB1.out.trans (hb2.mono HB1.out.size))
  have HE2 := Lib.hid hE2
  clear HE1 HR1 HB1 hb2 hE2
  dsimp only
  have hth : World.there w2 w.heap.size 0 (#[.int .i64 2, .string ⟨#[]⟩, .slice none 0 0, .string x, .string ⟨#[]⟩, .string ⟨#[]⟩, .bool false, .int .i64 0, .slice none 0 0, .bool false, .slice none 0 0, .slice none 0 0, .slice none 0 0, .slice none 0 0, .slice none 0 0, .bool false, .slice none 0 0, .string ⟨#[]⟩, .slice none 0 0, .int .i64 0, .string ⟨#[]⟩, .slice none 0 0, .slice none 0 0, .slice none 0 0, .slice none 0 0, .string ⟨#[]⟩] : Array Value).size := by have h := there_blkM hR2; exact h
  have ks : Keep (At w.heap.size) w2 (World.setCells w2 w.heap.size 0 #[.int .i64 2, .string ⟨#[]⟩, .slice none 0 0, .string x, .string ⟨#[]⟩, .string ⟨#[]⟩, .bool false, .int .i64 0, .slice none 0 0, .bool false, .slice none 0 0, .slice none 0 0, .slice none 0 0, .slice none 0 0, .slice none 0 0, .bool false, .slice none 0 0, .string ⟨#[]⟩, .slice none 0 0, .int .i64 0, .string ⟨#[]⟩, .slice none 0 0, .slice none 0 0, .slice none 0 0, .slice none 0 0, .string ⟨#[]⟩].toList) := keep_setCellsM _ 0 w2
  have hblk : (World.setCells w2 w.heap.size 0 #[.int .i64 2, .string ⟨#[]⟩, .slice none 0 0, .string x, .string ⟨#[]⟩, .string ⟨#[]⟩, .bool false, .int .i64 0, .slice none 0 0, .bool false, .slice none 0 0, .slice none 0 0, .slice none 0 0, .slice none 0 0, .slice none 0 0, .bool false, .slice none 0 0, .string ⟨#[]⟩, .slice none 0 0, .int .i64 0, .string ⟨#[]⟩, .slice none 0 0, .slice none 0 0, .slice none 0 0, .slice none 0 0, .string ⟨#[]⟩].toList).heap[w.heap.size]? = some (.cells #[.int .i64 2, .string ⟨#[]⟩, .slice none 0 0, .string x, .string ⟨#[]⟩, .string ⟨#[]⟩, .bool false, .int .i64 0, .slice none 0 0, .bool false, .slice none 0 0, .slice none 0 0, .slice none 0 0, .slice none 0 0, .slice none 0 0, .bool false, .slice none 0 0, .string ⟨#[]⟩, .slice none 0 0, .int .i64 0, .string ⟨#[]⟩, .slice none 0 0, .slice none 0 0, .slice none 0 0, .slice none 0 0, .string ⟨#[]⟩] 87 (0, 0)) := blkM_set (v := [.int .i64 2, .string ⟨#[]⟩, .slice none 0 0, .string x, .string ⟨#[]⟩, .string ⟨#[]⟩, .bool false, .int .i64 0, .slice none 0 0, .bool false, .slice none 0 0, .slice none 0 0, .slice none 0 0, .slice none 0 0, .slice none 0 0, .bool false, .slice none 0 0, .string ⟨#[]⟩, .slice none 0 0, .int .i64 0, .string ⟨#[]⟩, .slice none 0 0, .slice none 0 0, .slice none 0 0, .slice none 0 0, .string ⟨#[]⟩]) (c' := #[.int .i64 2, .string ⟨#[]⟩, .slice none 0 0, .string x, .string ⟨#[]⟩, .string ⟨#[]⟩, .bool false, .int .i64 0, .slice none 0 0, .bool false, .slice none 0 0, .slice none 0 0, .slice none 0 0, .slice none 0 0, .slice none 0 0, .bool false, .slice none 0 0, .string ⟨#[]⟩, .slice none 0 0, .int .i64 0, .string ⟨#[]⟩, .slice none 0 0, .slice none 0 0, .slice none 0 0, .slice none 0 0, .string ⟨#[]⟩]) (by kernel_rfl) hR2
  go_wp2_with (first | (with_reducible (show wpList _ _ _ (Oper.mk _ (Op.load _ _) _ _ _ _ :: _) _ _); refine wpList_load_row rfl 87 _ rfl (w.heap.size + 1) rfl _ _ _ _ HE2.out Tryz.underlying87 rfl (by kernel_rfl) ?_) | (with_reducible (show wpList _ _ _ (Oper.mk none (Op.store _ _ _) _ _ _ _ :: _) _ _); refine wpList_store_mid rfl 87 _ _ rfl w.heap.size 0 #[.int .i64 2, .string ⟨#[]⟩, .slice none 0 0, .string x, .string ⟨#[]⟩, .string ⟨#[]⟩, .bool false, .int .i64 0, .slice none 0 0, .bool false, .slice none 0 0, .slice none 0 0, .slice none 0 0, .slice none 0 0, .slice none 0 0, .bool false, .slice none 0 0, .string ⟨#[]⟩, .slice none 0 0, .int .i64 0, .string ⟨#[]⟩, .slice none 0 0, .slice none 0 0, .slice none 0 0, .slice none 0 0, .string ⟨#[]⟩] rfl rfl hth (by kernel_rfl) (by simp [Value.oneCell']) ?_; (generalize hwz : World.setCells w2 _ _ _ = wz at hblk ks ⊢); clear hwz hth))
  refine bodyPost_ret (v := .tuple #[.agg #[.int .i64 2, .string ⟨#[]⟩, .slice none 0 0, .string x, .string ⟨#[]⟩, .string ⟨#[]⟩, .bool false, .int .i64 0, .slice none 0 0, .bool false, .slice none 0 0, .slice none 0 0, .slice none 0 0, .slice none 0 0, .slice none 0 0, .bool false, .slice none 0 0, .string ⟨#[]⟩, .slice none 0 0, .int .i64 0, .string ⟨#[]⟩, .slice none 0 0, .slice none 0 0, .slice none 0 0, .slice none 0 0, .string ⟨#[]⟩], .int .i64 0, .int .i64 0]) ?_ rfl ?_
  · exact results_cell_two Tryz.results25 _ _ w.heap.size _ rfl (run_loadVar_row _ w.heap.size _ _ _ _ _ hblk Tryz.underlying87 rfl (by kernel_rfl))
  exact ⟨rfl, HB2.out.trans (ks.toBelow HB2.out.size fun k hk h => by unfold At at h; omega)⟩

set_option maxRecDepth 100000 in
set_option maxHeartbeats 4000000 in
theorem pst_fail (s : ByteArray) (l : List Tok) (at0 : Int) (w : World) (hs : s.size ≤ 4096) (ht : TokOk w) (h10 : 6 < w.heap.size) (hl : toks s (s.size + 1) 0 = .ok l) (hr : ∀ R W, RdOk R s.size 0 l W → Calls Tryz.prog 57 #[.pointer (some ⟨R, 0, none⟩)] W (Fails R at0 1 W)) :
    Calls Tryz.prog 25 #[.string s] w (fun e w' => e = .returned (.tuple #[stm26 0 ⟨#[]⟩, .int .i64 at0, .int .i64 1]) ∧ Below w.heap.size w w') := by
  have HR := Lib.hid hr
  have HL := Lib.hid hl
  have HT := Lib.hid ht
  have hmf : ∀ (fn : Fn) (first cap : Array Value) (w : World), (Instr.makeFunc fn first cap).run Tryz.prog w = .ok (.func fn first cap) w := fun _ _ _ _ => rfl
  clear hr hl ht
  go_enter Tryz.func25, Tryz.ntmps25
  go_wp2_with fail
  have hbx := two_stm w
  have hz0 : ((w.alloc (.cells row0 87)).alloc (.cells row0 87)).heap.size = w.heap.size + 1 + 1 := by simp
  have hb0 : Below w.heap.size w ((w.alloc (.cells row0 87)).alloc (.cells row0 87)) := ((Below.refl _ _).alloc (Nat.le_refl _) _).alloc (by simp) _
  have ht0 := HT.out.keep (M := fun _ => False) (.bel hb0) fun _ _ h => h
  unfold row0 at hbx hz0 hb0 ht0
  generalize World.alloc _ _ = W0 at hbx hz0 hb0 ht0 ⊢
  have HBX := Lib.hid hbx
  have HB0 := Lib.hid hb0
  refine (read_fail 56 (w.heap.size + 1) s l at0 1 W0 hs ht0 HL.out (by omega) (by omega) (fun _ _ => rfl) fun R W hrd hbw hR => ?_).mono ?_
  · exact stm1_fail R (w.heap.size + 1) at0 1 W (HR.out R W hrd)
  clear ht0 hbx hb0
  rintro e w1 ⟨rfl, hk⟩
  have hR1 := (hk.block w.heap.size (by omega) (by unfold At; omega)).trans HBX.out.1
  have HB1 := Lib.hid (HB0.out.trans (hk.toBelow (by omega) fun k hk h => by unfold At at h; omega))
  clear hk
  dsimp only
  have hth : World.there w1 w.heap.size 0 (#[.int .i64 0, .string ⟨#[]⟩, .slice none 0 0, .string ⟨#[]⟩, .string ⟨#[]⟩, .string ⟨#[]⟩, .bool false, .int .i64 0, .slice none 0 0, .bool false, .slice none 0 0, .slice none 0 0, .slice none 0 0, .slice none 0 0, .slice none 0 0, .bool false, .slice none 0 0, .string ⟨#[]⟩, .slice none 0 0, .int .i64 0, .string ⟨#[]⟩, .slice none 0 0, .slice none 0 0, .slice none 0 0, .slice none 0 0, .string ⟨#[]⟩] : Array Value).size := by have h := there_blkM hR1; exact h
  have ks : Keep (At w.heap.size) w1 (World.setCells w1 w.heap.size 0 #[.int .i64 0, .string ⟨#[]⟩, .slice none 0 0, .string ⟨#[]⟩, .string ⟨#[]⟩, .string ⟨#[]⟩, .bool false, .int .i64 0, .slice none 0 0, .bool false, .slice none 0 0, .slice none 0 0, .slice none 0 0, .slice none 0 0, .slice none 0 0, .bool false, .slice none 0 0, .string ⟨#[]⟩, .slice none 0 0, .int .i64 0, .string ⟨#[]⟩, .slice none 0 0, .slice none 0 0, .slice none 0 0, .slice none 0 0, .string ⟨#[]⟩].toList) := keep_setCellsM _ 0 w1
  have hblk : (World.setCells w1 w.heap.size 0 #[.int .i64 0, .string ⟨#[]⟩, .slice none 0 0, .string ⟨#[]⟩, .string ⟨#[]⟩, .string ⟨#[]⟩, .bool false, .int .i64 0, .slice none 0 0, .bool false, .slice none 0 0, .slice none 0 0, .slice none 0 0, .slice none 0 0, .slice none 0 0, .bool false, .slice none 0 0, .string ⟨#[]⟩, .slice none 0 0, .int .i64 0, .string ⟨#[]⟩, .slice none 0 0, .slice none 0 0, .slice none 0 0, .slice none 0 0, .string ⟨#[]⟩].toList).heap[w.heap.size]? = some (.cells #[.int .i64 0, .string ⟨#[]⟩, .slice none 0 0, .string ⟨#[]⟩, .string ⟨#[]⟩, .string ⟨#[]⟩, .bool false, .int .i64 0, .slice none 0 0, .bool false, .slice none 0 0, .slice none 0 0, .slice none 0 0, .slice none 0 0, .slice none 0 0, .bool false, .slice none 0 0, .string ⟨#[]⟩, .slice none 0 0, .int .i64 0, .string ⟨#[]⟩, .slice none 0 0, .slice none 0 0, .slice none 0 0, .slice none 0 0, .string ⟨#[]⟩] 87 (0, 0)) := blkM_set (v := [.int .i64 0, .string ⟨#[]⟩, .slice none 0 0, .string ⟨#[]⟩, .string ⟨#[]⟩, .string ⟨#[]⟩, .bool false, .int .i64 0, .slice none 0 0, .bool false, .slice none 0 0, .slice none 0 0, .slice none 0 0, .slice none 0 0, .slice none 0 0, .bool false, .slice none 0 0, .string ⟨#[]⟩, .slice none 0 0, .int .i64 0, .string ⟨#[]⟩, .slice none 0 0, .slice none 0 0, .slice none 0 0, .slice none 0 0, .string ⟨#[]⟩]) (c' := #[.int .i64 0, .string ⟨#[]⟩, .slice none 0 0, .string ⟨#[]⟩, .string ⟨#[]⟩, .string ⟨#[]⟩, .bool false, .int .i64 0, .slice none 0 0, .bool false, .slice none 0 0, .slice none 0 0, .slice none 0 0, .slice none 0 0, .slice none 0 0, .bool false, .slice none 0 0, .string ⟨#[]⟩, .slice none 0 0, .int .i64 0, .string ⟨#[]⟩, .slice none 0 0, .slice none 0 0, .slice none 0 0, .slice none 0 0, .string ⟨#[]⟩]) (by kernel_rfl) hR1
  go_wp2_with (with_reducible (show wpList _ _ _ (Oper.mk none (Op.store _ _ _) _ _ _ _ :: _) _ _); refine wpList_store_mid rfl 87 _ _ rfl w.heap.size 0 #[.int .i64 0, .string ⟨#[]⟩, .slice none 0 0, .string ⟨#[]⟩, .string ⟨#[]⟩, .string ⟨#[]⟩, .bool false, .int .i64 0, .slice none 0 0, .bool false, .slice none 0 0, .slice none 0 0, .slice none 0 0, .slice none 0 0, .slice none 0 0, .bool false, .slice none 0 0, .string ⟨#[]⟩, .slice none 0 0, .int .i64 0, .string ⟨#[]⟩, .slice none 0 0, .slice none 0 0, .slice none 0 0, .slice none 0 0, .string ⟨#[]⟩] rfl rfl hth (by kernel_rfl) (by simp [Value.oneCell']) ?_; (generalize hwz : World.setCells w1 _ _ _ = wz at hblk ks ⊢); clear hwz hth)
  refine bodyPost_ret (v := .tuple #[.agg #[.int .i64 0, .string ⟨#[]⟩, .slice none 0 0, .string ⟨#[]⟩, .string ⟨#[]⟩, .string ⟨#[]⟩, .bool false, .int .i64 0, .slice none 0 0, .bool false, .slice none 0 0, .slice none 0 0, .slice none 0 0, .slice none 0 0, .slice none 0 0, .bool false, .slice none 0 0, .string ⟨#[]⟩, .slice none 0 0, .int .i64 0, .string ⟨#[]⟩, .slice none 0 0, .slice none 0 0, .slice none 0 0, .slice none 0 0, .string ⟨#[]⟩], .int .i64 at0, .int .i64 1]) ?_ rfl ?_
  · exact results_cell_two Tryz.results25 _ _ w.heap.size _ rfl (run_loadVar_row _ w.heap.size _ _ _ _ _ hblk Tryz.underlying87 rfl (by kernel_rfl))
  exact ⟨rfl, HB1.out.trans (ks.toBelow HB1.out.size fun k hk h => by unfold At at h; omega)⟩
end Go.Proofs.YtkhlmofcdchccaaGreatDoor

namespace Go.Proofs.YtkhlmofcdchccaaGreatDoor
open Go.RowKit

theorem toks_sel : toks ⟨#[83, 69, 76, 69, 67, 84, 32, 97, 32, 98, 32, 70, 82, 79, 77, 32, 116]⟩ 18 0 = .ok ((1, kSel, 0) :: selToks) := by decide +kernel
theorem toks_drop : toks ⟨#[68, 82, 79, 80, 32, 84, 65, 66, 76, 69, 32, 116]⟩ 13 0 = .ok [(1, kDROPb, 0), (1, kTABLEb, 5), (2, ⟨#[116]⟩, 11)] := by decide +kernel

set_option maxRecDepth 100000 in
theorem stm_sel_any (w : World) (ht : TokOk w) (h10 : 6 < w.heap.size) : Calls Tryz.prog 25 #[.string ⟨#[83, 69, 76, 69, 67, 84, 32, 97, 32, 98, 32, 70, 82, 79, 77, 32, 116]⟩] w (RetBel (.tuple #[stm26 0 ⟨#[]⟩, .int .i64 9, .int .i64 1]) w) :=
  pst_fail ⟨#[83, 69, 76, 69, 67, 84, 32, 97, 32, 98, 32, 70, 82, 79, 77, 32, 116]⟩ _ 9 w (by decide) ht h10 toks_sel fun R W h => stm_select R _ 0 ⟨#[97]⟩ 7 9 ⟨#[98]⟩ _ W h
theorem stm_drop_any (w : World) (ht : TokOk w) (h10 : 6 < w.heap.size) : Calls Tryz.prog 25 #[.string ⟨#[68, 82, 79, 80, 32, 84, 65, 66, 76, 69, 32, 116]⟩] w (RetBel (.tuple #[stm26 2 ⟨#[116]⟩, .int .i64 0, .int .i64 0]) w) :=
  pst_ok ⟨#[68, 82, 79, 80, 32, 84, 65, 66, 76, 69, 32, 116]⟩ _ ⟨#[116]⟩ w (by decide) ht h10 toks_drop (fun R W h => stm_drop R _ 0 5 11 ⟨#[116]⟩ W h) fun w => valid_drop ⟨#[116]⟩ w (by decide +kernel) (by decide) fun w => parts_name ⟨#[116]⟩ w (by decide +kernel)

set_option maxRecDepth 100000 in
set_option maxHeartbeats 4000000 in
theorem known13_any (w : World) (ht : TokOk w) (h10 : 6 < w.heap.size) : Calls Tryz.prog 8 #[] w (RetBel (.bool true) w) := by
  have HT := Lib.hid ht
  have hs1 := fun w ht h10 => stm_sel_any w ht h10
  have hs2 := fun w ht h10 => stm_drop_any w ht h10
  unfold stm26 at hs1 hs2
  have HS1 := Lib.hid hs1
  have HS2 := Lib.hid hs2
  clear ht hs1 hs2
  go_enter Tryz.func8, Tryz.ntmps8
  go_wp2_with fail
  refine (HS1.out _ HT.out h10).mono ?_
  rintro e w1 ⟨rfl, hb⟩
  have HB := Lib.hid hb
  have hz1 := hb.size
  clear hb
  dsimp only
  have hth : World.there (w1.alloc (.cells #[.int .i64 0, .string ⟨#[]⟩, .slice none 0 0, .string ⟨#[]⟩, .string ⟨#[]⟩, .string ⟨#[]⟩, .bool false, .int .i64 0, .slice none 0 0, .bool false, .slice none 0 0, .slice none 0 0, .slice none 0 0, .slice none 0 0, .slice none 0 0, .bool false, .slice none 0 0, .string ⟨#[]⟩, .slice none 0 0, .int .i64 0, .string ⟨#[]⟩, .slice none 0 0, .slice none 0 0, .slice none 0 0, .slice none 0 0, .string ⟨#[]⟩] 87)) w1.heap.size 0 (#[.int .i64 0, .string ⟨#[]⟩, .slice none 0 0, .string ⟨#[]⟩, .string ⟨#[]⟩, .string ⟨#[]⟩, .bool false, .int .i64 0, .slice none 0 0, .bool false, .slice none 0 0, .slice none 0 0, .slice none 0 0, .slice none 0 0, .slice none 0 0, .bool false, .slice none 0 0, .string ⟨#[]⟩, .slice none 0 0, .int .i64 0, .string ⟨#[]⟩, .slice none 0 0, .slice none 0 0, .slice none 0 0, .slice none 0 0, .string ⟨#[]⟩] : Array Value).size := by have h := there_blkM (heap_alloc_new w1 (.cells #[.int .i64 0, .string ⟨#[]⟩, .slice none 0 0, .string ⟨#[]⟩, .string ⟨#[]⟩, .string ⟨#[]⟩, .bool false, .int .i64 0, .slice none 0 0, .bool false, .slice none 0 0, .slice none 0 0, .slice none 0 0, .slice none 0 0, .slice none 0 0, .bool false, .slice none 0 0, .string ⟨#[]⟩, .slice none 0 0, .int .i64 0, .string ⟨#[]⟩, .slice none 0 0, .slice none 0 0, .slice none 0 0, .slice none 0 0, .string ⟨#[]⟩] 87)); exact h
  have ks : Keep (At w1.heap.size) (w1.alloc (.cells #[.int .i64 0, .string ⟨#[]⟩, .slice none 0 0, .string ⟨#[]⟩, .string ⟨#[]⟩, .string ⟨#[]⟩, .bool false, .int .i64 0, .slice none 0 0, .bool false, .slice none 0 0, .slice none 0 0, .slice none 0 0, .slice none 0 0, .slice none 0 0, .bool false, .slice none 0 0, .string ⟨#[]⟩, .slice none 0 0, .int .i64 0, .string ⟨#[]⟩, .slice none 0 0, .slice none 0 0, .slice none 0 0, .slice none 0 0, .string ⟨#[]⟩] 87)) (World.setCells (w1.alloc (.cells #[.int .i64 0, .string ⟨#[]⟩, .slice none 0 0, .string ⟨#[]⟩, .string ⟨#[]⟩, .string ⟨#[]⟩, .bool false, .int .i64 0, .slice none 0 0, .bool false, .slice none 0 0, .slice none 0 0, .slice none 0 0, .slice none 0 0, .slice none 0 0, .bool false, .slice none 0 0, .string ⟨#[]⟩, .slice none 0 0, .int .i64 0, .string ⟨#[]⟩, .slice none 0 0, .slice none 0 0, .slice none 0 0, .slice none 0 0, .string ⟨#[]⟩] 87)) w1.heap.size 0 #[.int .i64 0, .string ⟨#[]⟩, .slice none 0 0, .string ⟨#[]⟩, .string ⟨#[]⟩, .string ⟨#[]⟩, .bool false, .int .i64 0, .slice none 0 0, .bool false, .slice none 0 0, .slice none 0 0, .slice none 0 0, .slice none 0 0, .slice none 0 0, .bool false, .slice none 0 0, .string ⟨#[]⟩, .slice none 0 0, .int .i64 0, .string ⟨#[]⟩, .slice none 0 0, .slice none 0 0, .slice none 0 0, .slice none 0 0, .string ⟨#[]⟩].toList) := keep_setCellsM _ 0 _
  have hblk : (World.setCells (w1.alloc (.cells #[.int .i64 0, .string ⟨#[]⟩, .slice none 0 0, .string ⟨#[]⟩, .string ⟨#[]⟩, .string ⟨#[]⟩, .bool false, .int .i64 0, .slice none 0 0, .bool false, .slice none 0 0, .slice none 0 0, .slice none 0 0, .slice none 0 0, .slice none 0 0, .bool false, .slice none 0 0, .string ⟨#[]⟩, .slice none 0 0, .int .i64 0, .string ⟨#[]⟩, .slice none 0 0, .slice none 0 0, .slice none 0 0, .slice none 0 0, .string ⟨#[]⟩] 87)) w1.heap.size 0 #[.int .i64 0, .string ⟨#[]⟩, .slice none 0 0, .string ⟨#[]⟩, .string ⟨#[]⟩, .string ⟨#[]⟩, .bool false, .int .i64 0, .slice none 0 0, .bool false, .slice none 0 0, .slice none 0 0, .slice none 0 0, .slice none 0 0, .slice none 0 0, .bool false, .slice none 0 0, .string ⟨#[]⟩, .slice none 0 0, .int .i64 0, .string ⟨#[]⟩, .slice none 0 0, .slice none 0 0, .slice none 0 0, .slice none 0 0, .string ⟨#[]⟩].toList).heap[w1.heap.size]? = some (.cells #[.int .i64 0, .string ⟨#[]⟩, .slice none 0 0, .string ⟨#[]⟩, .string ⟨#[]⟩, .string ⟨#[]⟩, .bool false, .int .i64 0, .slice none 0 0, .bool false, .slice none 0 0, .slice none 0 0, .slice none 0 0, .slice none 0 0, .slice none 0 0, .bool false, .slice none 0 0, .string ⟨#[]⟩, .slice none 0 0, .int .i64 0, .string ⟨#[]⟩, .slice none 0 0, .slice none 0 0, .slice none 0 0, .slice none 0 0, .string ⟨#[]⟩] 87 (0, 0)) := blkM_set (v := [.int .i64 0, .string ⟨#[]⟩, .slice none 0 0, .string ⟨#[]⟩, .string ⟨#[]⟩, .string ⟨#[]⟩, .bool false, .int .i64 0, .slice none 0 0, .bool false, .slice none 0 0, .slice none 0 0, .slice none 0 0, .slice none 0 0, .slice none 0 0, .bool false, .slice none 0 0, .string ⟨#[]⟩, .slice none 0 0, .int .i64 0, .string ⟨#[]⟩, .slice none 0 0, .slice none 0 0, .slice none 0 0, .slice none 0 0, .string ⟨#[]⟩]) (c' := #[.int .i64 0, .string ⟨#[]⟩, .slice none 0 0, .string ⟨#[]⟩, .string ⟨#[]⟩, .string ⟨#[]⟩, .bool false, .int .i64 0, .slice none 0 0, .bool false, .slice none 0 0, .slice none 0 0, .slice none 0 0, .slice none 0 0, .slice none 0 0, .bool false, .slice none 0 0, .string ⟨#[]⟩, .slice none 0 0, .int .i64 0, .string ⟨#[]⟩, .slice none 0 0, .slice none 0 0, .slice none 0 0, .slice none 0 0, .string ⟨#[]⟩]) (by kernel_rfl) (heap_alloc_new w1 (.cells #[.int .i64 0, .string ⟨#[]⟩, .slice none 0 0, .string ⟨#[]⟩, .string ⟨#[]⟩, .string ⟨#[]⟩, .bool false, .int .i64 0, .slice none 0 0, .bool false, .slice none 0 0, .slice none 0 0, .slice none 0 0, .slice none 0 0, .slice none 0 0, .bool false, .slice none 0 0, .string ⟨#[]⟩, .slice none 0 0, .int .i64 0, .string ⟨#[]⟩, .slice none 0 0, .slice none 0 0, .slice none 0 0, .slice none 0 0, .string ⟨#[]⟩] 87))
  go_wp2_with (with_reducible (show wpList _ _ _ (Oper.mk none (Op.store _ _ _) _ _ _ _ :: _) _ _); refine wpList_store_mid rfl 87 _ _ rfl w1.heap.size 0 #[.int .i64 0, .string ⟨#[]⟩, .slice none 0 0, .string ⟨#[]⟩, .string ⟨#[]⟩, .string ⟨#[]⟩, .bool false, .int .i64 0, .slice none 0 0, .bool false, .slice none 0 0, .slice none 0 0, .slice none 0 0, .slice none 0 0, .slice none 0 0, .bool false, .slice none 0 0, .string ⟨#[]⟩, .slice none 0 0, .int .i64 0, .string ⟨#[]⟩, .slice none 0 0, .slice none 0 0, .slice none 0 0, .slice none 0 0, .string ⟨#[]⟩] rfl rfl hth (by kernel_rfl) (by simp [Value.oneCell']) ?_; (generalize hwz : World.setCells _ _ _ _ = wz at hblk ks ⊢); clear hwz hth; have k0 := blkM_at (i := 0) (l := [.int .i64 0, .string ⟨#[]⟩, .slice none 0 0, .string ⟨#[]⟩, .string ⟨#[]⟩, .string ⟨#[]⟩, .bool false, .int .i64 0, .slice none 0 0, .bool false, .slice none 0 0, .slice none 0 0, .slice none 0 0, .slice none 0 0, .slice none 0 0, .bool false, .slice none 0 0, .string ⟨#[]⟩, .slice none 0 0, .int .i64 0, .string ⟨#[]⟩, .slice none 0 0, .slice none 0 0, .slice none 0 0, .slice none 0 0, .string ⟨#[]⟩]) hblk rfl; have k3 := blkM_at (i := 3) (l := [.int .i64 0, .string ⟨#[]⟩, .slice none 0 0, .string ⟨#[]⟩, .string ⟨#[]⟩, .string ⟨#[]⟩, .bool false, .int .i64 0, .slice none 0 0, .bool false, .slice none 0 0, .slice none 0 0, .slice none 0 0, .slice none 0 0, .slice none 0 0, .bool false, .slice none 0 0, .string ⟨#[]⟩, .slice none 0 0, .int .i64 0, .string ⟨#[]⟩, .slice none 0 0, .slice none 0 0, .slice none 0 0, .slice none 0 0, .string ⟨#[]⟩]) hblk rfl)
  have HB2 := Lib.hid ((HB.out.alloc HB.out.size (.cells #[.int .i64 0, .string ⟨#[]⟩, .slice none 0 0, .string ⟨#[]⟩, .string ⟨#[]⟩, .string ⟨#[]⟩, .bool false, .int .i64 0, .slice none 0 0, .bool false, .slice none 0 0, .slice none 0 0, .slice none 0 0, .slice none 0 0, .slice none 0 0, .bool false, .slice none 0 0, .string ⟨#[]⟩, .slice none 0 0, .int .i64 0, .string ⟨#[]⟩, .slice none 0 0, .slice none 0 0, .slice none 0 0, .slice none 0 0, .string ⟨#[]⟩] 87)).trans (ks.toBelow (by simp; omega) fun k hk h => by unfold At at h; omega))
  have ht2 := HT.out.keep (M := fun _ => False) (.bel HB2.out) fun _ _ h => h
  clear HB ks hblk k0 k3 hz1
  refine (HS2.out _ ht2 (Nat.lt_of_lt_of_le h10 HB2.out.size)).mono ?_
  rintro e w2 ⟨rfl, hb⟩
  have HB3 := Lib.hid (HB2.out.trans (hb.mono HB2.out.size))
  have hz2 := HB3.out.size
  clear hb ht2 HB2
  dsimp only
  have hth : World.there (w2.alloc (.cells #[.int .i64 0, .string ⟨#[]⟩, .slice none 0 0, .string ⟨#[]⟩, .string ⟨#[]⟩, .string ⟨#[]⟩, .bool false, .int .i64 0, .slice none 0 0, .bool false, .slice none 0 0, .slice none 0 0, .slice none 0 0, .slice none 0 0, .slice none 0 0, .bool false, .slice none 0 0, .string ⟨#[]⟩, .slice none 0 0, .int .i64 0, .string ⟨#[]⟩, .slice none 0 0, .slice none 0 0, .slice none 0 0, .slice none 0 0, .string ⟨#[]⟩] 87)) w2.heap.size 0 (#[.int .i64 2, .string ⟨#[]⟩, .slice none 0 0, .string ⟨#[116]⟩, .string ⟨#[]⟩, .string ⟨#[]⟩, .bool false, .int .i64 0, .slice none 0 0, .bool false, .slice none 0 0, .slice none 0 0, .slice none 0 0, .slice none 0 0, .slice none 0 0, .bool false, .slice none 0 0, .string ⟨#[]⟩, .slice none 0 0, .int .i64 0, .string ⟨#[]⟩, .slice none 0 0, .slice none 0 0, .slice none 0 0, .slice none 0 0, .string ⟨#[]⟩] : Array Value).size := by have h := there_blkM (heap_alloc_new w2 (.cells #[.int .i64 0, .string ⟨#[]⟩, .slice none 0 0, .string ⟨#[]⟩, .string ⟨#[]⟩, .string ⟨#[]⟩, .bool false, .int .i64 0, .slice none 0 0, .bool false, .slice none 0 0, .slice none 0 0, .slice none 0 0, .slice none 0 0, .slice none 0 0, .bool false, .slice none 0 0, .string ⟨#[]⟩, .slice none 0 0, .int .i64 0, .string ⟨#[]⟩, .slice none 0 0, .slice none 0 0, .slice none 0 0, .slice none 0 0, .string ⟨#[]⟩] 87)); exact h
  have ks : Keep (At w2.heap.size) (w2.alloc (.cells #[.int .i64 0, .string ⟨#[]⟩, .slice none 0 0, .string ⟨#[]⟩, .string ⟨#[]⟩, .string ⟨#[]⟩, .bool false, .int .i64 0, .slice none 0 0, .bool false, .slice none 0 0, .slice none 0 0, .slice none 0 0, .slice none 0 0, .slice none 0 0, .bool false, .slice none 0 0, .string ⟨#[]⟩, .slice none 0 0, .int .i64 0, .string ⟨#[]⟩, .slice none 0 0, .slice none 0 0, .slice none 0 0, .slice none 0 0, .string ⟨#[]⟩] 87)) (World.setCells (w2.alloc (.cells #[.int .i64 0, .string ⟨#[]⟩, .slice none 0 0, .string ⟨#[]⟩, .string ⟨#[]⟩, .string ⟨#[]⟩, .bool false, .int .i64 0, .slice none 0 0, .bool false, .slice none 0 0, .slice none 0 0, .slice none 0 0, .slice none 0 0, .slice none 0 0, .bool false, .slice none 0 0, .string ⟨#[]⟩, .slice none 0 0, .int .i64 0, .string ⟨#[]⟩, .slice none 0 0, .slice none 0 0, .slice none 0 0, .slice none 0 0, .string ⟨#[]⟩] 87)) w2.heap.size 0 #[.int .i64 2, .string ⟨#[]⟩, .slice none 0 0, .string ⟨#[116]⟩, .string ⟨#[]⟩, .string ⟨#[]⟩, .bool false, .int .i64 0, .slice none 0 0, .bool false, .slice none 0 0, .slice none 0 0, .slice none 0 0, .slice none 0 0, .slice none 0 0, .bool false, .slice none 0 0, .string ⟨#[]⟩, .slice none 0 0, .int .i64 0, .string ⟨#[]⟩, .slice none 0 0, .slice none 0 0, .slice none 0 0, .slice none 0 0, .string ⟨#[]⟩].toList) := keep_setCellsM _ 0 _
  have hblk : (World.setCells (w2.alloc (.cells #[.int .i64 0, .string ⟨#[]⟩, .slice none 0 0, .string ⟨#[]⟩, .string ⟨#[]⟩, .string ⟨#[]⟩, .bool false, .int .i64 0, .slice none 0 0, .bool false, .slice none 0 0, .slice none 0 0, .slice none 0 0, .slice none 0 0, .slice none 0 0, .bool false, .slice none 0 0, .string ⟨#[]⟩, .slice none 0 0, .int .i64 0, .string ⟨#[]⟩, .slice none 0 0, .slice none 0 0, .slice none 0 0, .slice none 0 0, .string ⟨#[]⟩] 87)) w2.heap.size 0 #[.int .i64 2, .string ⟨#[]⟩, .slice none 0 0, .string ⟨#[116]⟩, .string ⟨#[]⟩, .string ⟨#[]⟩, .bool false, .int .i64 0, .slice none 0 0, .bool false, .slice none 0 0, .slice none 0 0, .slice none 0 0, .slice none 0 0, .slice none 0 0, .bool false, .slice none 0 0, .string ⟨#[]⟩, .slice none 0 0, .int .i64 0, .string ⟨#[]⟩, .slice none 0 0, .slice none 0 0, .slice none 0 0, .slice none 0 0, .string ⟨#[]⟩].toList).heap[w2.heap.size]? = some (.cells #[.int .i64 2, .string ⟨#[]⟩, .slice none 0 0, .string ⟨#[116]⟩, .string ⟨#[]⟩, .string ⟨#[]⟩, .bool false, .int .i64 0, .slice none 0 0, .bool false, .slice none 0 0, .slice none 0 0, .slice none 0 0, .slice none 0 0, .slice none 0 0, .bool false, .slice none 0 0, .string ⟨#[]⟩, .slice none 0 0, .int .i64 0, .string ⟨#[]⟩, .slice none 0 0, .slice none 0 0, .slice none 0 0, .slice none 0 0, .string ⟨#[]⟩] 87 (0, 0)) := blkM_set (v := [.int .i64 2, .string ⟨#[]⟩, .slice none 0 0, .string ⟨#[116]⟩, .string ⟨#[]⟩, .string ⟨#[]⟩, .bool false, .int .i64 0, .slice none 0 0, .bool false, .slice none 0 0, .slice none 0 0, .slice none 0 0, .slice none 0 0, .slice none 0 0, .bool false, .slice none 0 0, .string ⟨#[]⟩, .slice none 0 0, .int .i64 0, .string ⟨#[]⟩, .slice none 0 0, .slice none 0 0, .slice none 0 0, .slice none 0 0, .string ⟨#[]⟩]) (c' := #[.int .i64 2, .string ⟨#[]⟩, .slice none 0 0, .string ⟨#[116]⟩, .string ⟨#[]⟩, .string ⟨#[]⟩, .bool false, .int .i64 0, .slice none 0 0, .bool false, .slice none 0 0, .slice none 0 0, .slice none 0 0, .slice none 0 0, .slice none 0 0, .bool false, .slice none 0 0, .string ⟨#[]⟩, .slice none 0 0, .int .i64 0, .string ⟨#[]⟩, .slice none 0 0, .slice none 0 0, .slice none 0 0, .slice none 0 0, .string ⟨#[]⟩]) (by kernel_rfl) (heap_alloc_new w2 (.cells #[.int .i64 0, .string ⟨#[]⟩, .slice none 0 0, .string ⟨#[]⟩, .string ⟨#[]⟩, .string ⟨#[]⟩, .bool false, .int .i64 0, .slice none 0 0, .bool false, .slice none 0 0, .slice none 0 0, .slice none 0 0, .slice none 0 0, .slice none 0 0, .bool false, .slice none 0 0, .string ⟨#[]⟩, .slice none 0 0, .int .i64 0, .string ⟨#[]⟩, .slice none 0 0, .slice none 0 0, .slice none 0 0, .slice none 0 0, .string ⟨#[]⟩] 87))
  go_wp2_with (with_reducible (show wpList _ _ _ (Oper.mk none (Op.store _ _ _) _ _ _ _ :: _) _ _); refine wpList_store_mid rfl 87 _ _ rfl w2.heap.size 0 #[.int .i64 2, .string ⟨#[]⟩, .slice none 0 0, .string ⟨#[116]⟩, .string ⟨#[]⟩, .string ⟨#[]⟩, .bool false, .int .i64 0, .slice none 0 0, .bool false, .slice none 0 0, .slice none 0 0, .slice none 0 0, .slice none 0 0, .slice none 0 0, .bool false, .slice none 0 0, .string ⟨#[]⟩, .slice none 0 0, .int .i64 0, .string ⟨#[]⟩, .slice none 0 0, .slice none 0 0, .slice none 0 0, .slice none 0 0, .string ⟨#[]⟩] rfl rfl hth (by kernel_rfl) (by simp [Value.oneCell']) ?_; (generalize hwz : World.setCells _ _ _ _ = wz at hblk ks ⊢); clear hwz hth; have k0 := blkM_at (i := 0) (l := [.int .i64 2, .string ⟨#[]⟩, .slice none 0 0, .string ⟨#[116]⟩, .string ⟨#[]⟩, .string ⟨#[]⟩, .bool false, .int .i64 0, .slice none 0 0, .bool false, .slice none 0 0, .slice none 0 0, .slice none 0 0, .slice none 0 0, .slice none 0 0, .bool false, .slice none 0 0, .string ⟨#[]⟩, .slice none 0 0, .int .i64 0, .string ⟨#[]⟩, .slice none 0 0, .slice none 0 0, .slice none 0 0, .slice none 0 0, .string ⟨#[]⟩]) hblk rfl; have k3 := blkM_at (i := 3) (l := [.int .i64 2, .string ⟨#[]⟩, .slice none 0 0, .string ⟨#[116]⟩, .string ⟨#[]⟩, .string ⟨#[]⟩, .bool false, .int .i64 0, .slice none 0 0, .bool false, .slice none 0 0, .slice none 0 0, .slice none 0 0, .slice none 0 0, .slice none 0 0, .bool false, .slice none 0 0, .string ⟨#[]⟩, .slice none 0 0, .int .i64 0, .string ⟨#[]⟩, .slice none 0 0, .slice none 0 0, .slice none 0 0, .slice none 0 0, .string ⟨#[]⟩]) hblk rfl)
  go_ret
  exact ⟨rfl, (HB3.out.alloc HB3.out.size (.cells #[.int .i64 0, .string ⟨#[]⟩, .slice none 0 0, .string ⟨#[]⟩, .string ⟨#[]⟩, .string ⟨#[]⟩, .bool false, .int .i64 0, .slice none 0 0, .bool false, .slice none 0 0, .slice none 0 0, .slice none 0 0, .slice none 0 0, .slice none 0 0, .bool false, .slice none 0 0, .string ⟨#[]⟩, .slice none 0 0, .int .i64 0, .string ⟨#[]⟩, .slice none 0 0, .slice none 0 0, .slice none 0 0, .slice none 0 0, .string ⟨#[]⟩] 87)).trans (ks.toBelow (by simp; omega) fun k hk h => by unfold At at h; omega)⟩
end Go.Proofs.YtkhlmofcdchccaaGreatDoor
