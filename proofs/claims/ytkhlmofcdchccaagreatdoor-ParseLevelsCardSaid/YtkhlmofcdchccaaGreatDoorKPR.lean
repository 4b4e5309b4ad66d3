/- The deferred function of the reader: what it makes of a failure. Reading a whole text (read). -/
import Derived.Test.YtkhlmofcdchccaaGreatDoorP0
import Derived.Test.YtkhlmofcdchccaaGreatDoorP2x
import Derived.Defers
import Derived.Recover
import Derived.Deep.RegionHeld3
namespace Go.Proofs.YtkhlmofcdchccaaGreatDoor
open Go.RowKit

theorem run_isfail (a b : Int) (w : World) : Sem.run Tryz.prog (Instr.typeAssert (.iface 126 (.agg #[.int .i64 a, .int .i64 b])) 20 126 true) w = .ok (.tuple #[.agg #[.int .i64 a, .int .i64 b], .bool true]) w := by kernel_rfl

theorem catch_idle (pa pc : Addr) (w : World) : CallsD Tryz.prog 46 #[.pointer (some pa), .pointer (some pc)] .returning w fun e u' w' => e = .returned (.tuple #[]) ∧ u' = .returning ∧ w' = w := by
  refine callsD_of_wpS Tryz.func46 rfl fun c₀ cs hu => ?_
  apply wpS_seq
  apply wpS_region
  simp [wpOpsS, go_sem, recoverD, hu, Tryz.ntmps46, Exit.thenS]
  refine wpS_of_wp ?_
  go_wp2_with fail
  cases c₀
  simp_all [bodyPostS, results, Tryz.results46]

set_option maxRecDepth 100000 in
set_option maxHeartbeats 1000000 in
theorem catch_fail (A C : Nat) (at_ code : Int) (x y : Int) (older : List PanicEntry) (w : World) (ha : w.cell? ⟨A, 0, none⟩ = some (.int .i64 x)) (hc : w.cell? ⟨C, 0, none⟩ = some (.int .i64 y)) (fa : w.frozen? ⟨A, 0, none⟩ = false) (fc : w.frozen? ⟨C, 0, none⟩ = false) (hne : A ≠ C) :
    CallsD Tryz.prog 46 #[.pointer (some ⟨A, 0, none⟩), .pointer (some ⟨C, 0, none⟩)] (.panicking ({ v := failV at_ code, recovered := false } :: older)) w fun e u' w' =>
      e = .returned (.tuple #[]) ∧ u' = .panicking ({ v := failV at_ code, recovered := true } :: older) ∧ w'.cell? ⟨A, 0, none⟩ = some (.int .i64 at_) ∧ w'.cell? ⟨C, 0, none⟩ = some (.int .i64 code) ∧ Keep (fun k => k = A ∨ k = C) w w' := by
  refine callsD_of_wpS Tryz.func46 rfl fun c₀ cs hu => ?_
  apply wpS_seq
  apply wpS_region
  unfold failV at hu
  simp [wpOpsS, go_sem, recoverD, hu, Tryz.ntmps46, Exit.thenS]
  refine wpS_of_wp ?_
  generalize hQ : (fun (e : Exit) (a' : Act) (w' : World) => bodyPostS _ _ _ _ _ e a' _ w') = QQ
  change Code.wp _ _ _ { tmps := #[.pointer (some ⟨A, 0, none⟩), .pointer (some ⟨C, 0, none⟩), undef, undef, undef, .iface 126 (.agg #[.int .i64 at_, .int .i64 code]), undef, undef, undef, undef, undef, undef, undef, undef, undef], defers := [] } w
  have hA : A < w.heap.size := World.block_lt_of_cell? _ _ ha
  have hC : C < w.heap.size := World.block_lt_of_cell? _ _ hc
  have hta := run_isfail
  go_upto_region 7 with fail
  have hb0 : (w.alloc (.cells #[.int .i64 at_, .int .i64 code] 126)).cell? ⟨w.heap.size, 0, none⟩ = some (.int .i64 at_) := by simp
  have hb1 : (w.alloc (.cells #[.int .i64 at_, .int .i64 code] 126)).cell? ⟨w.heap.size, 1, none⟩ = some (.int .i64 code) := by simp
  have hk : Keep (fun k => k = A ∨ k = C) w (w.alloc (.cells #[.int .i64 at_, .int .i64 code] 126)) := (Keep.refl _ w).alloc _
  have hbl : Below w.heap.size w (w.alloc (.cells #[.int .i64 at_, .int .i64 code] 126)) := (Below.refl _ _).alloc (Nat.le_refl _) _
  have ha1 := (hbl.cell (p := ⟨A, 0, none⟩) hA).trans ha
  have hc1 := (hbl.cell (p := ⟨C, 0, none⟩) hC).trans hc
  have fa1 := (World.frozen?_of_block (a := ⟨A, 0, none⟩) (hbl.block A hA)).trans fa
  have fc1 := (World.frozen?_of_block (a := ⟨C, 0, none⟩) (hbl.block C hC)).trans fc
  clear hbl
  generalize World.alloc w _ = W at *
  have hnA : ¬ w.heap.size = A := by omega
  have hnC : ¬ w.heap.size = C := by omega
  go_region
  subst hQ
  simp only [Exit.inBlock]
  have hAC : (⟨A, 0, none⟩ : Addr) ≠ ⟨C, 0, none⟩ := fun e => hne (by injection e)
  have e1 : ((W.setCell ⟨A, 0, none⟩ (.int .i64 at_)).setCell ⟨C, 0, none⟩ (.int .i64 code)).drew.cell? ⟨A, 0, none⟩ = some (.int .i64 at_) := by
    show ((W.setCell ⟨A, 0, none⟩ (.int .i64 at_)).setCell ⟨C, 0, none⟩ (.int .i64 code)).cell? ⟨A, 0, none⟩ = _
    rw [World.cell?_setCell_other _ _ _ _ hAC.symm, World.cell?_setCell_same _ _ _ ha1]
  have e2 : ((W.setCell ⟨A, 0, none⟩ (.int .i64 at_)).setCell ⟨C, 0, none⟩ (.int .i64 code)).drew.cell? ⟨C, 0, none⟩ = some (.int .i64 code) := by
    show ((W.setCell ⟨A, 0, none⟩ (.int .i64 at_)).setCell ⟨C, 0, none⟩ (.int .i64 code)).cell? ⟨C, 0, none⟩ = _
    exact World.cell?_setCell_same _ _ _ ((World.cell?_setCell_other _ _ _ _ hAC).trans hc1)
  have e3 : Keep (fun k => k = A ∨ k = C) w ((W.setCell ⟨A, 0, none⟩ (.int .i64 at_)).setCell ⟨C, 0, none⟩ (.int .i64 code)).drew := ((hk.setCell (p := ⟨A, 0, none⟩) (fun _ => .inl rfl) _).setCell (p := ⟨C, 0, none⟩) (fun _ => .inr rfl) _).drew
  exact ⟨rfl, _, rfl, .tuple #[], (by simp [results, Tryz.results46, go_sem]), rfl, rfl, e1, e2, e3⟩
end Go.Proofs.YtkhlmofcdchccaaGreatDoor

namespace Go.Proofs.YtkhlmofcdchccaaGreatDoor
open Go.RowKit

theorem blk1 {w : World} {S : Nat} {a : Value} {e : TypeId} (h : w.heap[S]? = some (.cells #[a] e (0, 0))) : w.cell? ⟨S, 0, none⟩ = some a ∧ w.frozen? ⟨S, 0, none⟩ = false ∧ S < w.heap.size :=
  ⟨by simp [World.cell?, h], by simp [World.frozen?, h], (Array.getElem?_eq_some_iff.1 h).1⟩
theorem blk1_set {w : World} {S : Nat} {a v : Value} {e : TypeId} (h : w.heap[S]? = some (.cells #[a] e (0, 0))) : (w.setCell ⟨S, 0, none⟩ v).heap[S]? = some (.cells #[v] e (0, 0)) := by simp [World.setCell, Array.getElem?_modify, h]

theorem two_boxes (w : World) (x y : Value) (e1 e2 : TypeId) : ((w.alloc (.cells #[x] e1)).alloc (.cells #[y] e2)).heap[w.heap.size]? = some (.cells #[x] e1 (0, 0)) ∧ ((w.alloc (.cells #[x] e1)).alloc (.cells #[y] e2)).heap[w.heap.size + 1]? = some (.cells #[y] e2 (0, 0)) := by
  refine ⟨?_, ?_⟩
  · exact (((Below.refl (w.alloc (.cells #[x] e1)).heap.size _).alloc (Nat.le_refl _) (.cells #[y] e2)).block w.heap.size (by simp)).trans (heap_alloc_new w _)
  · have h := heap_alloc_new (w.alloc (.cells #[x] e1)) (.cells #[y] e2)
    rw [show (w.alloc (.cells #[x] e1)).heap.size = w.heap.size + 1 by simp] at h
    exact h

set_option maxRecDepth 100000 in
set_option maxHeartbeats 4000000 in
theorem read_ok (f E : Nat) (s : ByteArray) (l : List Tok) (Q : World → Prop) (w : World) (hs : s.size ≤ 4096) (ht : TokOk w) (hl : toks s (s.size + 1) 0 = .ok l) (hE : E < w.heap.size) (h10 : 8 < w.heap.size)
    (hcf : ∀ R w, Sem.run Tryz.prog (callFunc f #[.pointer (some ⟨R, 0, none⟩), .pointer (some ⟨E, 0, none⟩)]) w = .ok (.enter f #[.pointer (some ⟨R, 0, none⟩), .pointer (some ⟨E, 0, none⟩)]) w)
    (hp : ∀ R W, RdOk R s.size 0 l W → Below w.heap.size w W → w.heap.size < R → Calls Tryz.prog f #[.pointer (some ⟨R, 0, none⟩), .pointer (some ⟨E, 0, none⟩)] W (fun e W' => e = .returned (.tuple #[]) ∧ (∃ a3 c3 e3 l3, W'.heap[R]? = some (.cells #[.slice a3 0 c3, e3, l3] 128 (0, 0))) ∧ Keep (fun k => k = R ∨ k = E) W W' ∧ Q W')) :
    Calls Tryz.prog 21 #[.string s, .func (Fn.func f) #[] #[.pointer (some ⟨E, 0, none⟩)]] w (fun e w' => e = .returned (.tuple #[.int .i64 0, .int .i64 0]) ∧ Keep (At E) w w' ∧ ∃ W1, Q W1 ∧ Keep (fun k => k = w.heap.size ∨ k = w.heap.size + 1) W1 w') := by
  have HP := Lib.hid hp
  clear hp
  have HT := Lib.hid ht
  have HL := Lib.hid hl
  have hmf : ∀ (fn : Fn) (first cap : Array Value) (w : World), (Instr.makeFunc fn first cap).run Tryz.prog w = .ok (.func fn first cap) w := fun _ _ _ _ => rfl
  clear ht hl
  go_enter_defers Tryz.func21, Tryz.ntmps21
  go_wp2_with fail
  refine (tokens_any s _ (by unfold maxLen; omega) ((HT.out.keep (M := fun _ => False) ((Keep.refl _ w).alloc _) fun _ _ h => h).keep (M := fun _ => False) ((Keep.refl _ _).alloc _) fun _ _ h => h)).mono ?_
  rintro e w1 ⟨v, at_, er, l', rfl, hr, hb, hout⟩
  obtain ⟨rfl, rfl, rfl⟩ : l' = l ∧ at_ = 0 ∧ er = 0 := by
    rcases hout with ⟨h, _⟩ | ⟨_, h, h1, h2⟩ | ⟨_, i, h, _⟩
    · omega
    · rw [HL.out] at h; cases h; exact ⟨rfl, h1, h2⟩
    · rw [HL.out] at h; cases h
  obtain ⟨a, c, rfl, hlm⟩ := RowsO.shape hr
  have HR := Lib.hid hr
  have HB := Lib.hid hb
  have hz : w.heap.size + 1 + 1 ≤ w1.heap.size := by have := hb.size; simpa using this
  have hb4 := (hb.block w.heap.size (by simp; omega)).trans (two_boxes w (.int .i64 0) (.int .i64 0) 3 31).1
  have hb5 := (hb.block (w.heap.size + 1) (by simp)).trans (two_boxes w (.int .i64 0) (.int .i64 0) 3 31).2
  obtain ⟨c4, f4, _⟩ := blk1 hb4
  obtain ⟨c5, f5, _⟩ := blk1 hb5
  have H4 := Lib.hid hb4
  have H5 := Lib.hid hb5
  clear hr hb hout HL hb4 hb5
  dsimp only
  go_upto_region 2 with fail
  have hk2 : Keep (fun k => k = w.heap.size ∨ k = w.heap.size + 1) w1 ((w1.setCell ⟨w.heap.size, 0, none⟩ (.int .i64 0)).setCell ⟨w.heap.size + 1, 0, none⟩ (.int .i64 0)) := ((Keep.refl _ w1).setCell (p := ⟨w.heap.size, 0, none⟩) (fun _ => .inl rfl) _).setCell (p := ⟨w.heap.size + 1, 0, none⟩) (fun _ => .inr rfl) _
  have hA2 : ((w1.setCell ⟨w.heap.size, 0, none⟩ (.int .i64 0)).setCell ⟨w.heap.size + 1, 0, none⟩ (.int .i64 0)).heap[w.heap.size]? = some (.cells #[.int .i64 0] 3 (0, 0)) := by
    rw [Below.heap_setCell _ _ _ _ (by simp)]
    exact blk1_set H4.out
  have hC2 : ((w1.setCell ⟨w.heap.size, 0, none⟩ (.int .i64 0)).setCell ⟨w.heap.size + 1, 0, none⟩ (.int .i64 0)).heap[w.heap.size + 1]? = some (.cells #[.int .i64 0] 31 (0, 0)) := by
    refine blk1_set (a := .int .i64 0) ?_
    rw [Below.heap_setCell _ _ _ _ (by simp)]
    exact H5.out
  have hb2 : Below w.heap.size w ((w1.setCell ⟨w.heap.size, 0, none⟩ (.int .i64 0)).setCell ⟨w.heap.size + 1, 0, none⟩ (.int .i64 0)) := ((((Below.refl _ _).alloc (Nat.le_refl _) _).alloc (by simp) _).trans (HB.out.mono (by simp; omega))).trans (hk2.toBelow (by omega) fun k hk h => by omega)
  have hr2 := RowsO.keep HR.out hk2 (fun k h1 _ h2 => by simp at h1; omega) fun _ _ _ h => h
  generalize World.setCell _ _ _ = w2 at hk2 hA2 hC2 hb2 hr2 ⊢
  have hz2 : w1.heap.size ≤ w2.heap.size := hk2.size
  obtain ⟨c4, f4, _⟩ := blk1 hA2
  obtain ⟨c5, f5, _⟩ := blk1 hC2
  have HA2 := Lib.hid hA2
  have HC2 := Lib.hid hC2
  have HB2 := Lib.hid hb2
  have HR2 := Lib.hid hr2
  clear hk2 hA2 hC2 hb2 hr2 H4 H5 HR HB
  go_wp2_with fail
  have hrd : RdOk w2.heap.size s.size 0 l' (w2.alloc (.cells #[.slice a l'.length c, .int .i64 s.size, .int .i64 0] 128)) :=
    ⟨⟨a, c, heap_alloc_new w2 _, RowsR.map (HR2.out.rows fun k _ hk h => by unfold TokM at h; omega) (.bel ((Below.refl _ _).alloc (Nat.le_refl _) _)) fun _ _ _ h => h⟩, by have := HB2.out.size; omega⟩
  have hzA : w.heap.size + 1 < w2.heap.size := by omega
  refine (HP.out w2.heap.size _ hrd (HB2.out.alloc HB2.out.size _) (by omega)).mono ?_
  rintro e w3 ⟨rfl, ⟨a3, c3, e3, l3, hbk⟩, hk, hq⟩
  have HQ := Lib.hid hq
  obtain ⟨k0, k1, k2, _, hz3⟩ := blk3 hbk
  have hA3 := ((hk.block w.heap.size (by simp; omega) (by omega)).trans (((Below.refl w2.heap.size w2).alloc (Nat.le_refl _) _).block _ (by omega))).trans HA2.out
  have hC3 := ((hk.block (w.heap.size + 1) (by simp; omega) (by omega)).trans (((Below.refl w2.heap.size w2).alloc (Nat.le_refl _) _).block _ (by omega))).trans HC2.out
  obtain ⟨c4, f4, hzA3⟩ := blk1 hA3
  obtain ⟨c5, f5, hzC3⟩ := blk1 hC3
  have HK3 := Lib.hid ((((Keep.refl (At E) w).then (M' := fun _ => False) (.bel HB2.out) fun _ _ h => h.elim).alloc (.cells #[.slice a l'.length c, .int .i64 s.size, .int .i64 0] 128)).then hk fun i hi h => by unfold At; omega)
  clear hrd hbk hk hq hA3 hC3
  dsimp only
  go_wp2_with fail
  have hk4 : Keep (fun k => k = w.heap.size ∨ k = w.heap.size + 1) w3 ((w3.setCell ⟨w.heap.size, 0, none⟩ (.int .i64 0)).setCell ⟨w.heap.size + 1, 0, none⟩ (.int .i64 0)) := ((Keep.refl _ w3).setCell (p := ⟨w.heap.size, 0, none⟩) (fun _ => .inl rfl) _).setCell (p := ⟨w.heap.size + 1, 0, none⟩) (fun _ => .inr rfl) _
  have e4 : ((w3.setCell ⟨w.heap.size, 0, none⟩ (.int .i64 0)).setCell ⟨w.heap.size + 1, 0, none⟩ (.int .i64 0)).cell? ⟨w.heap.size, 0, none⟩ = some (.int .i64 0) := by
    rw [World.cell?_setCell_other _ _ _ _ (by simp), World.cell?_setCell_same _ _ _ c4]
  have e5 : ((w3.setCell ⟨w.heap.size, 0, none⟩ (.int .i64 0)).setCell ⟨w.heap.size + 1, 0, none⟩ (.int .i64 0)).cell? ⟨w.heap.size + 1, 0, none⟩ = some (.int .i64 0) :=
    World.cell?_setCell_same _ _ _ ((World.cell?_setCell_other _ _ _ _ (by simp)).trans c5)
  generalize World.setCell _ _ _ = w4 at hk4 e4 e5 ⊢
  refine leaves_cons (f := 46) (args := #[.pointer (some ⟨w.heap.size, 0, none⟩), .pointer (some ⟨w.heap.size + 1, 0, none⟩)]) (by simp) (by simp [go_sem]) ?_
  refine (catch_idle _ _ _).mono ?_
  rintro e u' w'' ⟨rfl, rfl, rfl⟩
  have hfin : Keep (At E) w w'' := HK3.out.then hk4 fun i hi h => by omega
  have hq := HQ.out
  simp [Leaves, settle, results, Tryz.results21, go_sem, e4, e5]
  exact ⟨hfin, w3, hq, hk4⟩

set_option maxRecDepth 100000 in
set_option maxHeartbeats 4000000 in
theorem read_fail (f E : Nat) (s : ByteArray) (l : List Tok) (at0 code : Int) (w : World) (hs : s.size ≤ 4096) (ht : TokOk w) (hl : toks s (s.size + 1) 0 = .ok l) (hE : E < w.heap.size) (h10 : 8 < w.heap.size)
    (hcf : ∀ R w, Sem.run Tryz.prog (callFunc f #[.pointer (some ⟨R, 0, none⟩), .pointer (some ⟨E, 0, none⟩)]) w = .ok (.enter f #[.pointer (some ⟨R, 0, none⟩), .pointer (some ⟨E, 0, none⟩)]) w)
    (hp : ∀ R W, RdOk R s.size 0 l W → Below w.heap.size w W → w.heap.size < R → Calls Tryz.prog f #[.pointer (some ⟨R, 0, none⟩), .pointer (some ⟨E, 0, none⟩)] W (fun e W' => e = .panicked [{ v := failV at0 code, recovered := false }] ∧ Keep (fun k => k = R ∨ k = E) W W')) :
    Calls Tryz.prog 21 #[.string s, .func (Fn.func f) #[] #[.pointer (some ⟨E, 0, none⟩)]] w (fun e w' => e = .returned (.tuple #[.int .i64 at0, .int .i64 code]) ∧ Keep (At E) w w') := by
  have HP := Lib.hid hp
  clear hp
  have HT := Lib.hid ht
  have HL := Lib.hid hl
  have hmf : ∀ (fn : Fn) (first cap : Array Value) (w : World), (Instr.makeFunc fn first cap).run Tryz.prog w = .ok (.func fn first cap) w := fun _ _ _ _ => rfl
  clear ht hl
  go_enter_defers Tryz.func21, Tryz.ntmps21
  go_wp2_with fail
  refine (tokens_any s _ (by unfold maxLen; omega) ((HT.out.keep (M := fun _ => False) ((Keep.refl _ w).alloc _) fun _ _ h => h).keep (M := fun _ => False) ((Keep.refl _ _).alloc _) fun _ _ h => h)).mono ?_
  rintro e w1 ⟨v, at_, er, l', rfl, hr, hb, hout⟩
  obtain ⟨rfl, rfl, rfl⟩ : l' = l ∧ at_ = 0 ∧ er = 0 := by
    rcases hout with ⟨h, _⟩ | ⟨_, h, h1, h2⟩ | ⟨_, i, h, _⟩
    · omega
    · rw [HL.out] at h; cases h; exact ⟨rfl, h1, h2⟩
    · rw [HL.out] at h; cases h
  obtain ⟨a, c, rfl, hlm⟩ := RowsO.shape hr
  have HR := Lib.hid hr
  have HB := Lib.hid hb
  have hz : w.heap.size + 1 + 1 ≤ w1.heap.size := by have := hb.size; simpa using this
  have hb4 := (hb.block w.heap.size (by simp; omega)).trans (two_boxes w (.int .i64 0) (.int .i64 0) 3 31).1
  have hb5 := (hb.block (w.heap.size + 1) (by simp)).trans (two_boxes w (.int .i64 0) (.int .i64 0) 3 31).2
  obtain ⟨c4, f4, _⟩ := blk1 hb4
  obtain ⟨c5, f5, _⟩ := blk1 hb5
  have H4 := Lib.hid hb4
  have H5 := Lib.hid hb5
  clear hr hb hout HL hb4 hb5
  dsimp only
  go_upto_region 2 with fail
  have hk2 : Keep (fun k => k = w.heap.size ∨ k = w.heap.size + 1) w1 ((w1.setCell ⟨w.heap.size, 0, none⟩ (.int .i64 0)).setCell ⟨w.heap.size + 1, 0, none⟩ (.int .i64 0)) := ((Keep.refl _ w1).setCell (p := ⟨w.heap.size, 0, none⟩) (fun _ => .inl rfl) _).setCell (p := ⟨w.heap.size + 1, 0, none⟩) (fun _ => .inr rfl) _
  have hA2 : ((w1.setCell ⟨w.heap.size, 0, none⟩ (.int .i64 0)).setCell ⟨w.heap.size + 1, 0, none⟩ (.int .i64 0)).heap[w.heap.size]? = some (.cells #[.int .i64 0] 3 (0, 0)) := by
    rw [Below.heap_setCell _ _ _ _ (by simp)]
    exact blk1_set H4.out
  have hC2 : ((w1.setCell ⟨w.heap.size, 0, none⟩ (.int .i64 0)).setCell ⟨w.heap.size + 1, 0, none⟩ (.int .i64 0)).heap[w.heap.size + 1]? = some (.cells #[.int .i64 0] 31 (0, 0)) := by
    refine blk1_set (a := .int .i64 0) ?_
    rw [Below.heap_setCell _ _ _ _ (by simp)]
    exact H5.out
  have hb2 : Below w.heap.size w ((w1.setCell ⟨w.heap.size, 0, none⟩ (.int .i64 0)).setCell ⟨w.heap.size + 1, 0, none⟩ (.int .i64 0)) := ((((Below.refl _ _).alloc (Nat.le_refl _) _).alloc (by simp) _).trans (HB.out.mono (by simp; omega))).trans (hk2.toBelow (by omega) fun k hk h => by omega)
  have hr2 := RowsO.keep HR.out hk2 (fun k h1 _ h2 => by simp at h1; omega) fun _ _ _ h => h
  generalize World.setCell _ _ _ = w2 at hk2 hA2 hC2 hb2 hr2 ⊢
  have hz2 : w1.heap.size ≤ w2.heap.size := hk2.size
  obtain ⟨c4, f4, _⟩ := blk1 hA2
  obtain ⟨c5, f5, _⟩ := blk1 hC2
  have HA2 := Lib.hid hA2
  have HC2 := Lib.hid hC2
  have HB2 := Lib.hid hb2
  have HR2 := Lib.hid hr2
  clear hk2 hA2 hC2 hb2 hr2 H4 H5 HR HB
  go_wp2_with fail
  have hrd : RdOk w2.heap.size s.size 0 l' (w2.alloc (.cells #[.slice a l'.length c, .int .i64 s.size, .int .i64 0] 128)) :=
    ⟨⟨a, c, heap_alloc_new w2 _, RowsR.map (HR2.out.rows fun k _ hk h => by unfold TokM at h; omega) (.bel ((Below.refl _ _).alloc (Nat.le_refl _) _)) fun _ _ _ h => h⟩, by have := HB2.out.size; omega⟩
  have hzA : w.heap.size + 1 < w2.heap.size := by omega
  refine (HP.out w2.heap.size _ hrd (HB2.out.alloc HB2.out.size _) (by omega)).mono ?_
  rintro e w3 ⟨rfl, hk⟩
  have hA3 := ((hk.block w.heap.size (by simp; omega) (by omega)).trans (((Below.refl w2.heap.size w2).alloc (Nat.le_refl _) _).block _ (by omega))).trans HA2.out
  have hC3 := ((hk.block (w.heap.size + 1) (by simp; omega) (by omega)).trans (((Below.refl w2.heap.size w2).alloc (Nat.le_refl _) _).block _ (by omega))).trans HC2.out
  obtain ⟨c4, f4, hzA3⟩ := blk1 hA3
  obtain ⟨c5, f5, hzC3⟩ := blk1 hC3
  have HK3 := Lib.hid ((((Keep.refl (At E) w).then (M' := fun _ => False) (.bel HB2.out) fun _ _ h => h.elim).alloc (.cells #[.slice a l'.length c, .int .i64 s.size, .int .i64 0] 128)).then hk fun i hi h => by unfold At; omega)
  clear hrd hk hA3 hC3
  dsimp only
  go_wp2_with fail
  refine leaves_cons (f := 46) (args := #[.pointer (some ⟨w.heap.size, 0, none⟩), .pointer (some ⟨w.heap.size + 1, 0, none⟩)]) (by simp) (by simp [go_sem]) ?_
  refine (catch_fail w.heap.size (w.heap.size + 1) at0 code 0 0 _ w3 c4 c5 f4 f5 (by omega)).mono ?_
  rintro e u' w4 ⟨rfl, rfl, e4, e5, hk4⟩
  have hfin : Keep (At E) w w4 := HK3.out.then hk4 fun i hi h => by omega
  simp [Leaves, settle, results, Tryz.results21, go_sem, e4, e5]
  exact hfin

end Go.Proofs.YtkhlmofcdchccaaGreatDoor
