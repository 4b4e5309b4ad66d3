/- The parts of a trigger's definition that known asks: well-formed (syntax.ValidTrigger). A trigger of one abort is well-formed. slices.Grow and slices.Concat of tables. Rows of a table; a row's copy; a row by its number. Maps from values, and from numbers, to bools: what a lookup and an update need. Whether a table holds a key twice. -/
import Derived.Test.YtkhlmofcdchccaaGreatDoorU04
import Derived.Test.YtkhlmofcdchccaaGreatDoorKN3
import Derived.Lib.AppendZeros
import Derived.Maps.RangeWalk
import Derived.Maps.OwnSet
import Derived.DeepKeys4
namespace Go.Proofs.YtkhlmofcdchccaaGreatDoor
open Go.RowKit

set_option maxHeartbeats 1000000 in
theorem words_none (w : World) : Calls Tryz.prog 171 #[.string ⟨#[]⟩] w (fun e w' => e = .returned (.tuple #[.agg #[.int .i64 3, .int .i64 0, .string ⟨#[]⟩], .bool true]) ∧ Below w.heap.size w w') := by
  have hv := fun w' => valid_3 0 ⟨#[]⟩ w' (by decide)
  rw [show validV ⟨3, 0, ⟨#[]⟩⟩ = true by decide +kernel] at hv
  have HV := Lib.hid hv
  clear hv
  go_enter Tryz.func171, Tryz.ntmps171
  go_wp2_with (go_at_call 51; refine (HV.out _).mono ?_; rintro e w1 ⟨rfl, hb⟩; obtain ⟨k1, k2, k3⟩ := bcell hb; simp only [World.size_alloc] at k1 k2 k3; have k4 : w.heap.size < w1.heap.size := (by omega); have k5 : w.heap.size + 1 < w1.heap.size := (by omega); have c0 : w1.cell? ⟨w.heap.size, 0, none⟩ = some (.int .i64 0) := (k1 _ _ (by omega)).trans (by simp); have c1 : w1.cell? ⟨w.heap.size, 1, none⟩ = some (.int .i64 0) := (k1 _ _ (by omega)).trans (by simp); have c2 : w1.cell? ⟨w.heap.size, 2, none⟩ = some (.string ⟨#[]⟩) := (k1 _ _ (by omega)).trans (by simp); have HB := Lib.hid hb; clear hb)
  refine bodyPost_ret (v := .tuple #[.agg #[.int .i64 3, .int .i64 0, .string ⟨#[]⟩], .bool true]) (by simp [results, Tryz.results171, go_sem, c0, c1, c2]) rfl ?_
  refine ⟨rfl, ?_⟩
  clear k1 k2 c0 c1 c2
  have h0 : Below w.heap.size w w1 := Below.trans (by go_grown) (HB.out.mono (by simp <;> omega))
  go_grown

set_option maxHeartbeats 1000000 in
theorem names_nil (w : World) : Calls Tryz.prog 124 #[.slice none 0 0] w (RetBel (.bool true) w) := by
  go_enter Tryz.func124, Tryz.ntmps124
  go_wp2_with fail
  go_loopw [10] (fun i wr => i = .int .i64 0 ∧ wr = w) (fun _ _ => 0)
  case atStart => exact ⟨rfl, rfl⟩
  case round =>
    obtain ⟨rfl, rfl⟩ := hrel
    go_wp2_with fail
    go_ret
    exact ⟨rfl, Below.refl _ _⟩

set_option maxHeartbeats 1000000 in
theorem rank_nil (a0 a1 a2 a3 a4 a5 a6 a7 a9 a10 : Value) (w : World) : Calls Tryz.prog 125 #[.agg #[a0, a1, a2, a3, a4, a5, a6, a7, .slice none 0 0, a9, a10]] w (RetBel (.bool true) w) := by
  go_enter Tryz.func125, Tryz.ntmps125
  go_wp2_with fail
  go_ret
  exact ⟨rfl, (Below.refl _ _).alloc (Nat.le_refl _) _⟩

set_option maxHeartbeats 2000000 in
theorem cond_one {M : Nat → Prop} (x : Ex) (v : Value) (w : World) (hv : ExsR M w v [x]) (ht : TxtOk x) (hp : validL [x] = true) : Calls Tryz.prog 126 #[v] w (RetBel (.bool true) w) := by
  have HV := Lib.hid (validExprs_any [x] (fun e _ => vexpr_any e) (fun e he => by simp only [List.mem_cons, List.not_mem_nil, or_false] at he; subst he; exact ht) v w hv)
  rw [hp] at HV
  obtain ⟨a, c, rfl, _⟩ := hv.shape
  clear hv ht hp
  go_enter Tryz.func126, Tryz.ntmps126
  go_wp2_with fail
  refine HV.out.mono ?_
  rintro e w1 ⟨rfl, hb⟩
  have HB := Lib.hid hb
  clear hb
  dsimp only
  go_wp2_with fail
  go_ret
  exact ⟨rfl, HB.out⟩

set_option maxRecDepth 100000 in
set_option maxHeartbeats 4000000 in
theorem abort_ok (w : World) : Calls Tryz.prog 114 #[.agg #[.int .i64 4, .string ⟨#[]⟩, .slice none 0 0, .slice none 0 0, .slice none 0 0, .slice none 0 0, .string ⟨#[]⟩]] w (RetBel (.bool true) w) := by
  go_enter Tryz.func114, Tryz.ntmps114
  go_upto_region 1 with fail
  have hb0 := heap_alloc_new w (.cells #[.int .i64 4, .string ⟨#[]⟩, .slice none 0 0, .slice none 0 0, .slice none 0 0, .slice none 0 0, .string ⟨#[]⟩] 85)
  have hB : Below w.heap.size w (w.alloc (.cells #[.int .i64 4, .string ⟨#[]⟩, .slice none 0 0, .slice none 0 0, .slice none 0 0, .slice none 0 0, .string ⟨#[]⟩] 85)) := (Below.refl _ _).alloc (Nat.le_refl _) _
  generalize World.alloc w _ = W0 at hb0 hB ⊢
  have HB := Lib.hid hB
  have HK := Lib.hid fun (wx : World) (h : Below W0.heap.size W0 wx) => (h.block w.heap.size (Array.getElem?_eq_some_iff.1 hb0).1).trans hb0
  have HC7 := Lib.hid fun (wx : World) (h : Below W0.heap.size W0 wx) => show wx.cell? ⟨w.heap.size, 0, none⟩ = some (.int .i64 4) ∧ wx.cell? ⟨w.heap.size, 1, none⟩ = some (.string ⟨#[]⟩) ∧ wx.cell? ⟨w.heap.size, 2, none⟩ = some (.slice none 0 0) ∧ wx.cell? ⟨w.heap.size, 3, none⟩ = some (.slice none 0 0) ∧ wx.cell? ⟨w.heap.size, 4, none⟩ = some (.slice none 0 0) ∧ wx.cell? ⟨w.heap.size, 5, none⟩ = some (.slice none 0 0) ∧ wx.cell? ⟨w.heap.size, 6, none⟩ = some (.string ⟨#[]⟩) by
    have hk := HK.out wx h
    simp [World.cell?, hk]
  clear hb0 hB
  obtain ⟨x0, x1, x2, x3, x4, x5, x6⟩ := HC7.out W0 (Below.refl _ _)
  go_quiet (fail)
  have hbd : Below W0.heap.size W0 (W0.drewN nq) := drewN_below (Below.refl _ _) _
  generalize W0.drewN nq = W1 at hbd ⊢
  have HB1 := Lib.hid hbd
  clear hbd x0 x1 x2 x3 x4 x5 x6
  obtain ⟨x0, x1, x2, x3, x4, x5, x6⟩ := HC7.out W1 HB1.out
  go_wp2_with fail
  refine (validName_any ⟨#[]⟩ W1 (by decide)).mono ?_
  rintro e w2 ⟨rfl, hb⟩
  rw [show nameB ⟨#[]⟩ = false by decide +kernel]
  have HB2 := Lib.hid (HB1.out.trans (hb.mono HB1.out.size))
  clear hb x0 x1 x2 x3 x4 x5 x6 HB1
  obtain ⟨x0, x1, x2, x3, x4, x5, x6⟩ := HC7.out w2 HB2.out
  dsimp only
  go_wp2_with fail
  refine (words_none w2).mono ?_
  rintro e w3 ⟨rfl, hb⟩
  have HB3 := Lib.hid (HB2.out.trans (hb.mono HB2.out.size))
  clear hb x0 x1 x2 x3 x4 x5 x6 HB2
  obtain ⟨x0, x1, x2, x3, x4, x5, x6⟩ := HC7.out w3 HB3.out
  have hz3 : w.heap.size < w3.heap.size := (Array.getElem?_eq_some_iff.1 (HK.out w3 HB3.out)).1
  have HFIN := Lib.hid ((HB.out.trans (HB3.out.mono HB.out.size)).alloc (Nat.le_of_lt hz3) (.cells #[.int .i64 3, .int .i64 0, .string ⟨#[]⟩] 26))
  dsimp only
  go_wp2_with fail
  go_ret
  exact ⟨rfl, HFIN.out⟩

set_option maxHeartbeats 1000000 in
theorem allowed_abort (a0 a1 a2 a3 a4 a5 a6 a7 a8 a9 a10 : Value) (w : World) : Calls Tryz.prog 128 #[.agg #[a0, a1, a2, a3, a4, a5, a6, a7, a8, a9, a10], .int .i64 4] w (RetBel (.bool true) w) := by
  go_enter Tryz.func128, Tryz.ntmps128
  go_wp2_with fail
  go_ret
  exact ⟨rfl, (Below.refl _ _).alloc (Nat.le_refl _) _⟩
end Go.Proofs.YtkhlmofcdchccaaGreatDoor
namespace Go.Proofs.YtkhlmofcdchccaaGreatDoor
open Go.RowKit

theorem cells7 {w : World} {S : Nat} {a0 a1 a2 a3 a4 a5 a6 : Value} {e : TypeId} (h : w.heap[S]? = some (.cells #[a0, a1, a2, a3, a4, a5, a6] e (0, 0))) : w.cell? ⟨S, 0, none⟩ = some a0 ∧ w.cell? ⟨S, 1, none⟩ = some a1 ∧ w.cell? ⟨S, 2, none⟩ = some a2 ∧ w.cell? ⟨S, 3, none⟩ = some a3 ∧ w.cell? ⟨S, 4, none⟩ = some a4 ∧ w.cell? ⟨S, 5, none⟩ = some a5 ∧ w.cell? ⟨S, 6, none⟩ = some a6 := by
  simp [World.cell?, h]

set_option maxRecDepth 100000 in
set_option maxHeartbeats 4000000 in
theorem idxTrg_no (ab b : Nat) (w : World) (hc : w.heap[ab]? = some (.cells #[.int .i64 4, .string ⟨#[]⟩, .slice none 0 0, .slice none 0 0, .slice none 0 0, .slice none 0 0, .string ⟨#[]⟩] 85 (0, 0))) (hf : ∀ wx, Below w.heap.size w wx → Calls Tryz.prog 127 #[.agg #[.int .i64 4, .string ⟨#[]⟩, .slice none 0 0, .slice none 0 0, .slice none 0 0, .slice none 0 0, .string ⟨#[]⟩], .pointer (some ⟨b, 0, none⟩)] wx (RetBel (.bool false) wx)) :
    Calls Tryz.prog 145 #[.slice (some ⟨ab, 0, none⟩) 1 1, .func (.func 127) #[] #[.pointer (some ⟨b, 0, none⟩)]] w (RetBel (.int .i64 (-1)) w) := by
  have HF := Lib.hid hf
  have hz := (Array.getElem?_eq_some_iff.1 hc).1
  have HC := Lib.hid fun (wx : World) (h : Below w.heap.size w wx) => cells7 ((h.block ab hz).trans hc)
  clear hf hc
  go_enter Tryz.func145, Tryz.ntmps145
  go_wp2_with fail
  go_loopw [5, 8] (fun _ i wr => ∃ k : Nat, k ≤ 1 ∧ i = .int .i64 (k : Int) ∧ Below w.heap.size w wr) (fun _ i _ => 1 - (intOf i).toNat)
  case atStart => exact ⟨0, Nat.zero_le _, rfl, Below.refl _ _⟩
  case round =>
    rename World => wr
    obtain ⟨k, hk, rfl, hbel⟩ := hrel
    have HB := Lib.hid hbel
    obtain ⟨x0, x1, x2, x3, x4, x5, x6⟩ := HC.out wr hbel
    clear hbel
    by_cases h0 : k = 0
    · subst h0
      go_wp2_with fail
      refine (HF.out wr HB.out).mono ?_
      rintro e w1 ⟨rfl, hb1⟩
      have HB1 := Lib.hid (HB.out.trans (hb1.mono HB.out.size))
      clear hb1 x0 x1 x2 x3 x4 x5 x6
      dsimp only
      go_wp2_with fail
      go_roundw
      case rel => exact ⟨1, by omega, by go_num, HB1.out⟩
      case measure => simp [intOf]
    · obtain rfl : k = 1 := by omega
      go_wp2_with fail
      go_ret
      exact ⟨rfl, HB.out⟩

set_option maxRecDepth 100000 in
set_option maxHeartbeats 4000000 in
theorem hasTrg_no (ab b : Nat) (w : World) (hc : w.heap[ab]? = some (.cells #[.int .i64 4, .string ⟨#[]⟩, .slice none 0 0, .slice none 0 0, .slice none 0 0, .slice none 0 0, .string ⟨#[]⟩] 85 (0, 0))) (hf : ∀ wx, Below w.heap.size w wx → Calls Tryz.prog 127 #[.agg #[.int .i64 4, .string ⟨#[]⟩, .slice none 0 0, .slice none 0 0, .slice none 0 0, .slice none 0 0, .string ⟨#[]⟩], .pointer (some ⟨b, 0, none⟩)] wx (RetBel (.bool false) wx)) :
    Calls Tryz.prog 92 #[.slice (some ⟨ab, 0, none⟩) 1 1, .func (.func 127) #[] #[.pointer (some ⟨b, 0, none⟩)]] w (RetBel (.bool false) w) := by
  have HI := Lib.hid (idxTrg_no ab b w hc hf)
  clear hf hc
  go_enter Tryz.func92, Tryz.ntmps92
  go_wp2_with fail
  refine HI.out.mono ?_
  rintro e w1 ⟨rfl, hb⟩
  have HB := Lib.hid hb
  clear hb
  dsimp only
  go_wp2_with fail
  go_ret
  exact ⟨rfl, HB.out⟩

set_option maxRecDepth 100000 in
set_option maxHeartbeats 4000000 in
theorem idxMen_no (ab b : Nat) (w : World) (hc : w.heap[ab]? = some (.cells #[.int .i64 4, .string ⟨#[]⟩, .slice none 0 0, .slice none 0 0, .slice none 0 0, .slice none 0 0, .string ⟨#[]⟩] 85 (0, 0))) (hf : ∀ wx, Below w.heap.size w wx → Calls Tryz.prog 93 #[.agg #[.int .i64 4, .string ⟨#[]⟩, .slice none 0 0, .slice none 0 0, .slice none 0 0, .slice none 0 0, .string ⟨#[]⟩], .pointer (some ⟨b, 0, none⟩)] wx (RetBel (.bool false) wx)) :
    Calls Tryz.prog 145 #[.slice (some ⟨ab, 0, none⟩) 1 1, .func (.func 93) #[] #[.pointer (some ⟨b, 0, none⟩)]] w (RetBel (.int .i64 (-1)) w) := by
  have HF := Lib.hid hf
  have hz := (Array.getElem?_eq_some_iff.1 hc).1
  have HC := Lib.hid fun (wx : World) (h : Below w.heap.size w wx) => cells7 ((h.block ab hz).trans hc)
  clear hf hc
  go_enter Tryz.func145, Tryz.ntmps145
  go_wp2_with fail
  go_loopw [5, 8] (fun _ i wr => ∃ k : Nat, k ≤ 1 ∧ i = .int .i64 (k : Int) ∧ Below w.heap.size w wr) (fun _ i _ => 1 - (intOf i).toNat)
  case atStart => exact ⟨0, Nat.zero_le _, rfl, Below.refl _ _⟩
  case round =>
    rename World => wr
    obtain ⟨k, hk, rfl, hbel⟩ := hrel
    have HB := Lib.hid hbel
    obtain ⟨x0, x1, x2, x3, x4, x5, x6⟩ := HC.out wr hbel
    clear hbel
    by_cases h0 : k = 0
    · subst h0
      go_wp2_with fail
      refine (HF.out wr HB.out).mono ?_
      rintro e w1 ⟨rfl, hb1⟩
      have HB1 := Lib.hid (HB.out.trans (hb1.mono HB.out.size))
      clear hb1 x0 x1 x2 x3 x4 x5 x6
      dsimp only
      go_wp2_with fail
      go_roundw
      case rel => exact ⟨1, by omega, by go_num, HB1.out⟩
      case measure => simp [intOf]
    · obtain rfl : k = 1 := by omega
      go_wp2_with fail
      go_ret
      exact ⟨rfl, HB.out⟩

set_option maxRecDepth 100000 in
set_option maxHeartbeats 4000000 in
theorem hasMen_no (ab b : Nat) (w : World) (hc : w.heap[ab]? = some (.cells #[.int .i64 4, .string ⟨#[]⟩, .slice none 0 0, .slice none 0 0, .slice none 0 0, .slice none 0 0, .string ⟨#[]⟩] 85 (0, 0))) (hf : ∀ wx, Below w.heap.size w wx → Calls Tryz.prog 93 #[.agg #[.int .i64 4, .string ⟨#[]⟩, .slice none 0 0, .slice none 0 0, .slice none 0 0, .slice none 0 0, .string ⟨#[]⟩], .pointer (some ⟨b, 0, none⟩)] wx (RetBel (.bool false) wx)) :
    Calls Tryz.prog 92 #[.slice (some ⟨ab, 0, none⟩) 1 1, .func (.func 93) #[] #[.pointer (some ⟨b, 0, none⟩)]] w (RetBel (.bool false) w) := by
  have HI := Lib.hid (idxMen_no ab b w hc hf)
  clear hf hc
  go_enter Tryz.func92, Tryz.ntmps92
  go_wp2_with fail
  refine HI.out.mono ?_
  rintro e w1 ⟨rfl, hb⟩
  have HB := Lib.hid hb
  clear hb
  dsimp only
  go_wp2_with fail
  go_ret
  exact ⟨rfl, HB.out⟩

set_option maxRecDepth 100000 in
set_option maxHeartbeats 4000000 in
theorem synTrg1_no (n1 n2 : ByteArray) (each : Bool) (wa : Option Addr) (wc ab b : Nat) (w : World) (hb0 : w.heap[b]? = some (.cells #[.string n1, .string n2, .bool false, .int .i64 1, .slice none 0 0, .bool each, .slice none 0 0, .slice none 0 0, .slice none 0 0, .slice wa 1 wc, .slice (some ⟨ab, 0, none⟩) 1 1] 52 (0, 0))) : Calls Tryz.prog 127 #[.agg #[.int .i64 4, .string ⟨#[]⟩, .slice none 0 0, .slice none 0 0, .slice none 0 0, .slice none 0 0, .string ⟨#[]⟩], .pointer (some ⟨b, 0, none⟩)] w (RetBel (.bool false) w) := by
  have hz := (Array.getElem?_eq_some_iff.1 hb0).1
  have HB0 := Lib.hid fun (wx : World) (h : Below w.heap.size w wx) => blk11 ((h.block b hz).trans hb0)
  have hk := heap_alloc_new w (.cells #[.int .i64 4, .string ⟨#[]⟩, .slice none 0 0, .slice none 0 0, .slice none 0 0, .slice none 0 0, .string ⟨#[]⟩] 85)
  have hB : Below w.heap.size w (w.alloc (.cells #[.int .i64 4, .string ⟨#[]⟩, .slice none 0 0, .slice none 0 0, .slice none 0 0, .slice none 0 0, .string ⟨#[]⟩] 85)) := (Below.refl _ _).alloc (Nat.le_refl _) _
  clear hb0
  go_enter Tryz.func127, Tryz.ntmps127
  go_upto_region 1 with fail
  generalize hp : w.heap.size = p at hk ⊢
  generalize World.alloc w _ = W0 at hk hB ⊢
  have HK := Lib.hid fun (wx : World) (h : Below W0.heap.size W0 wx) => cells7 ((h.block p (Array.getElem?_eq_some_iff.1 hk).1).trans hk)
  have HB := Lib.hid hB
  clear hB hk hp
  obtain ⟨x0, x1, x2, x3, x4, x5, x6⟩ := HK.out W0 (Below.refl _ _)
  go_wp2_with fail
  refine (abort_ok W0).mono ?_
  rintro e w1 ⟨rfl, hb⟩
  have HB1 := Lib.hid (HB.out.trans (hb.mono HB.out.size))
  clear x0 x1 x2 x3 x4 x5 x6
  obtain ⟨x0, x1, x2, x3, x4, x5, x6⟩ := HK.out w1 hb
  obtain ⟨t0, t1, t2, t3, t4, t5, t6, t7, t8, t9, t10, _, _⟩ := HB0.out w1 HB1.out
  clear hb
  dsimp only
  go_wp2_with fail
  refine (allowed_abort _ _ _ _ _ _ _ _ _ _ _ w1).mono ?_
  rintro e w2 ⟨rfl, hb⟩
  have HB2 := Lib.hid (HB1.out.trans (hb.mono HB1.out.size))
  clear hb
  dsimp only
  go_wp2_with fail
  go_ret
  exact ⟨rfl, HB2.out⟩

set_option maxRecDepth 100000 in
set_option maxHeartbeats 8000000 in
theorem validTrigger_ok {M : Nat → Prop} (n1 n2 : ByteArray) (each : Bool) (wv : Value) (x : Ex) (ab : Nat) (w : World) (h1 : nameB n1 = true) (h2 : nameB n2 = true) (hs1 : n1.size ≤ maxLen) (hs2 : n2.size ≤ maxLen) (hx : ExsR M w wv [x]) (ht : TxtOk x) (hp : validL [x] = true) (hab : w.heap[ab]? = some (.cells #[.int .i64 4, .string ⟨#[]⟩, .slice none 0 0, .slice none 0 0, .slice none 0 0, .slice none 0 0, .string ⟨#[]⟩] 85 (0, 0))) :
    Calls Tryz.prog 81 #[.agg #[.string n1, .string n2, .bool false, .int .i64 1, .slice none 0 0, .bool each, .slice none 0 0, .slice none 0 0, .slice none 0 0, wv, .slice (some ⟨ab, 0, none⟩) 1 1]] w (RetBel (.bool true) w) := by
  have HCO := Lib.hid fun (wx : World) (h : Below w.heap.size w wx) => cond_one x wv wx (RowsR.map hx (.bel h) fun _ _ _ hc => EC.keep (.bel h) _ _ hc) ht hp
  have HN1 := Lib.hid fun (wx : World) => validName_any n1 wx hs1
  have HN2 := Lib.hid fun (wx : World) => validName_any n2 wx hs2
  rw [h1] at HN1
  rw [h2] at HN2
  obtain ⟨wa, wc, rfl, _⟩ := hx.shape
  have hz := (Array.getElem?_eq_some_iff.1 hab).1
  have HAB := Lib.hid fun (wx : World) (h : Below w.heap.size w wx) => (h.block ab hz).trans hab
  have hk := heap_alloc_new w (.cells #[.string n1, .string n2, .bool false, .int .i64 1, .slice none 0 0, .bool each, .slice none 0 0, .slice none 0 0, .slice none 0 0, .slice wa 1 wc, .slice (some ⟨ab, 0, none⟩) 1 1] 52)
  have hB : Below w.heap.size w (w.alloc (.cells #[.string n1, .string n2, .bool false, .int .i64 1, .slice none 0 0, .bool each, .slice none 0 0, .slice none 0 0, .slice none 0 0, .slice wa 1 wc, .slice (some ⟨ab, 0, none⟩) 1 1] 52)) := (Below.refl _ _).alloc (Nat.le_refl _) _
  clear hx ht hp h1 h2 hs1 hs2 hab
  go_enter Tryz.func81, Tryz.ntmps81
  go_upto_region 1 with fail
  generalize World.alloc w _ = W0 at hk hB ⊢
  have HKB := Lib.hid fun (wx : World) (h : Below W0.heap.size W0 wx) => blk11 ((h.block w.heap.size (Array.getElem?_eq_some_iff.1 hk).1).trans hk)
  have HB := Lib.hid hB
  have HKB0 := Lib.hid fun (wx : World) (h : Below W0.heap.size W0 wx) => (h.block w.heap.size (Array.getElem?_eq_some_iff.1 hk).1).trans hk
  have HP := Lib.hid (Below.refl W0.heap.size W0)
  clear hB hk
  obtain ⟨t0, t1, t2, t3, t4, t5, t6, t7, t8, t9, t10, _, _⟩ := HKB.out W0 HP.out
  go_wp2_with fail
  refine (HN1.out W0).mono ?_
  rintro e w1 ⟨rfl, hb⟩
  have HPw1 := Lib.hid (HP.out.trans (hb.mono HP.out.size))
  clear hb t0 t1 t2 t3 t4 t5 t6 t7 t8 t9 t10
  obtain ⟨t0, t1, t2, t3, t4, t5, t6, t7, t8, t9, t10, _, _⟩ := HKB.out w1 HPw1.out
  dsimp only
  go_wp2_with fail
  refine (HN2.out w1).mono ?_
  rintro e w2 ⟨rfl, hb⟩
  have HPw2 := Lib.hid (HPw1.out.trans (hb.mono HPw1.out.size))
  clear hb t0 t1 t2 t3 t4 t5 t6 t7 t8 t9 t10
  obtain ⟨t0, t1, t2, t3, t4, t5, t6, t7, t8, t9, t10, _, _⟩ := HKB.out w2 HPw2.out
  dsimp only
  go_wp2_with fail
  refine (names_nil w2).mono ?_
  rintro e w3 ⟨rfl, hb⟩
  have HPw3 := Lib.hid (HPw2.out.trans (hb.mono HPw2.out.size))
  clear hb t0 t1 t2 t3 t4 t5 t6 t7 t8 t9 t10
  obtain ⟨t0, t1, t2, t3, t4, t5, t6, t7, t8, t9, t10, _, _⟩ := HKB.out w3 HPw3.out
  dsimp only
  go_wp2_with fail
  refine (names_nil w3).mono ?_
  rintro e w4 ⟨rfl, hb⟩
  have HPw4 := Lib.hid (HPw3.out.trans (hb.mono HPw3.out.size))
  clear hb t0 t1 t2 t3 t4 t5 t6 t7 t8 t9 t10
  obtain ⟨t0, t1, t2, t3, t4, t5, t6, t7, t8, t9, t10, _, _⟩ := HKB.out w4 HPw4.out
  dsimp only
  go_wp2_with fail
  refine (names_nil w4).mono ?_
  rintro e w5 ⟨rfl, hb⟩
  have HPw5 := Lib.hid (HPw4.out.trans (hb.mono HPw4.out.size))
  clear hb t0 t1 t2 t3 t4 t5 t6 t7 t8 t9 t10
  obtain ⟨t0, t1, t2, t3, t4, t5, t6, t7, t8, t9, t10, _, _⟩ := HKB.out w5 HPw5.out
  dsimp only
  go_wp2_with fail
  refine (rank_nil _ _ _ _ _ _ _ _ _ _ w5).mono ?_
  rintro e w6 ⟨rfl, hb⟩
  have HPw6 := Lib.hid (HPw5.out.trans (hb.mono HPw5.out.size))
  clear hb t0 t1 t2 t3 t4 t5 t6 t7 t8 t9 t10
  obtain ⟨t0, t1, t2, t3, t4, t5, t6, t7, t8, t9, t10, _, _⟩ := HKB.out w6 HPw6.out
  dsimp only
  go_wp2_with fail
  refine (HCO.out w6 (HB.out.trans (HPw6.out.mono HB.out.size))).mono ?_
  rintro e w7 ⟨rfl, hb⟩
  have HPw7 := Lib.hid (HPw6.out.trans (hb.mono HPw6.out.size))
  clear hb t0 t1 t2 t3 t4 t5 t6 t7 t8 t9 t10
  obtain ⟨t0, t1, t2, t3, t4, t5, t6, t7, t8, t9, t10, _, _⟩ := HKB.out w7 HPw7.out
  dsimp only
  go_wp2_with fail
  refine (hasTrg_no ab w.heap.size w7 (HAB.out w7 (HB.out.trans (HPw7.out.mono HB.out.size))) (fun wx h => synTrg1_no n1 n2 each wa wc ab w.heap.size wx (HKB0.out wx (HPw7.out.trans (h.mono HPw7.out.size))))).mono ?_
  rintro e w8 ⟨rfl, hb⟩
  have HF := Lib.hid (HB.out.trans ((HPw7.out.trans (hb.mono HPw7.out.size)).mono HB.out.size))
  clear hb
  dsimp only
  go_wp2_with fail
  go_ret
  exact ⟨rfl, HF.out⟩
end Go.Proofs.YtkhlmofcdchccaaGreatDoor
namespace Go.Proofs.YtkhlmofcdchccaaGreatDoor
open Go.RowKit

theorem tbl_one1 {M : Nat → Prop} {w : World} (y : Sch) (cs : List Value) (h : TblR M w y cs) : ∀ u ∈ cs, u.oneCell' = true := by
  obtain ⟨vc, n, a, l, c, rfl, hc⟩ := h
  obtain ⟨a', c', rfl, _⟩ := hc.shape
  intro u hu
  simp at hu
  rcases hu with rfl | rfl | rfl | rfl <;> rfl

set_option maxRecDepth 100000 in
set_option maxHeartbeats 4000000 in
theorem grow_tbl (R : Sch → List Value → Prop) (n : Nat) (w : World) (h1 : 1 ≤ n) (h2 : n ≤ 100) : Calls Tryz.prog 132 #[.slice none 0 0, .int .i64 (n : Int)] w (fun e w' => ∃ c, e = .returned (.slice (some ⟨w.heap.size, 0, none⟩) 0 c) ∧ RowsO w.heap.size w' 96 4 R (.slice (some ⟨w.heap.size, 0, none⟩) 0 c) [] ∧ Below w.heap.size w w') := by
  obtain ⟨i0, hi, hz0, hz1, hz2⟩ := info_parts infoTbl
  have hw0 : IntKind.i64.wrap ((n : Int) - 0) = (n : Int) := by rw [Int.sub_zero]; exact IntWalk.i64_in _ (by omega)
  have hwn : IntKind.i64.wrap (n : Int) = (n : Int) := IntWalk.i64_in _ (by omega)
  have hrun := fun ty => Lib.run_append_nil_zeros (P := Tryz.prog) w 109 3 ty 96 i0 _ .i64 .i64 Tryz.underlying109 Tryz.underlying3 hi hz0 n (by omega) (by rw [hz1]; decide) (by omega) (by rw [hz2]; omega)
  have hge := grownCap_ge w n 0 96
  have hle := grownCap_le_maxLen w n 0 96 (by unfold maxLen; omega)
  generalize grownCap w n 0 96 = c at hrun hge hle
  have HR := Lib.hid hrun
  have hc0 : (0 : Int) ≤ (c : Int) := by omega
  have hpos : (0 : Int) < (n : Int) := by omega
  clear hrun
  go_enter Tryz.func132, Tryz.ntmps132
  go_wp2_with (at_builtin; refine Lib.wpList_append_run w rfl _ _ 109 3 rfl (.slice none 0 0) (.int .i64 (n : Int)) rfl rfl _ _ (HR.out _) ?_)
  go_ret
  refine ⟨c, rfl, ⟨[], ⟨by simp, .inr ⟨w.heap.size, c, _, rfl, Nat.le_refl _, heap_alloc_new _ _, Nat.zero_le _, hle, ?_, by simp⟩⟩, rfl, by simp, by simp⟩, ?_⟩
  · simp only [Array.size_append, size_zeroCells]
    show n * 4 + (c - n) * 4 = c * 4
    omega
  · have hb := (Below.refl w.heap.size w).alloc (Nat.le_refl _) (.cells (Builtin.zeroCells #[.string ⟨#[]⟩, .slice none 0 0, .int .i64 0, .slice none 0 0] n ++ Builtin.zeroCells #[.string ⟨#[]⟩, .slice none 0 0, .int .i64 0, .slice none 0 0] (c - n)) 96)
    exact ⟨hb.os, hb.tape, hb.output, hb.size, hb.block⟩

theorem tblR_later {M : Nat → Prop} {w W : World} {y : Sch} {cs : List Value} (h : TblR M w y cs) (k : Below w.heap.size w W) : TblR NoM W y cs := by
  obtain ⟨vc, n, a, l, c, rfl, hc⟩ := h
  exact ⟨vc, n, a, l, c, rfl, (hc.keep (.bel k)).weak fun _ _ h => h.elim⟩
def catL (l1 l2 : List Sch) (k : Nat) : List Sch := if k = 0 then [] else if k = 1 then l1 else l1 ++ l2

set_option maxRecDepth 100000 in
set_option maxHeartbeats 8000000 in
theorem concat_tbl {M : Nat → Prop} (v1 v2 : Value) (l1 l2 : List Sch) (b : Nat) (w : World) (h1 : TblsR M w v1 l1) (h2 : TblsR M w v2 l2) (hb : w.heap[b]? = some (.cells #[v1, v2] 109 (0, 0))) (hl1 : 1 ≤ l1.length) (hl : l1.length + l2.length ≤ 100) :
    Calls Tryz.prog 85 #[.slice (some ⟨b, 0, none⟩) 2 2] w (fun e w' => ∃ v, e = .returned v ∧ TblsR NoM w' v (l1 ++ l2) ∧ Below w.heap.size w w') := by
  obtain ⟨a1, c1, rfl, _⟩ := h1.shape
  obtain ⟨a2, c2, rfl, _⟩ := h2.shape
  have hz := (Array.getElem?_eq_some_iff.1 hb).1
  have HC := Lib.hid fun (wx : World) (h : Below w.heap.size w wx) => blk2 ((h.block b hz).trans hb)
  have H1 := Lib.hid fun (wx : World) (h : Below w.heap.size w wx) => (RowsR.map (R' := TblR M w) h1 (.bel h) fun _ _ _ hc => hc : RowsR M wx 4 (TblR M w) _ l1)
  have H2 := Lib.hid fun (wx : World) (h : Below w.heap.size w wx) => (RowsR.map (R' := TblR M w) h2 (.bel h) fun _ _ _ hc => hc : RowsR M wx 4 (TblR M w) _ l2)
  obtain ⟨n1, hn1⟩ : ∃ n, l1.length = n := ⟨_, rfl⟩
  obtain ⟨n2, hn2⟩ : ∃ n, l2.length = n := ⟨_, rfl⟩
  have HN1 := Lib.hid hn1
  have HN2 := Lib.hid hn2
  rw [hn1] at hl1 hl H1 HC
  rw [hn2] at hl H2 HC
  clear h1 h2 hb hn1 hn2
  have hw1 : IntKind.i64.wrap (0 + (n1 : Int)) = (n1 : Int) := by rw [Int.zero_add]; exact IntWalk.i64_in _ (by omega)
  have hw1' : IntKind.i64.wrap (n1 : Int) = (n1 : Int) := IntWalk.i64_in _ (by omega)
  have hw2 : IntKind.i64.wrap ((n1 : Int) + (n2 : Int)) = (n1 : Int) + (n2 : Int) := IntWalk.i64_in _ (by omega)
  go_enter Tryz.func85, Tryz.ntmps85
  go_wp2_with fail
  go_loopw [11, 3] (fun i s wr => ∃ k : Nat, k ≤ 2 ∧ i = .int .i64 (k : Int) ∧ s = .int .i64 (if k = 0 then 0 else if k = 1 then (n1 : Int) else (n1 : Int) + (n2 : Int)) ∧ wr = w) (fun i _ _ => 2 - (intOf i).toNat)
  case atStart => exact ⟨0, Nat.zero_le _, rfl, rfl, rfl⟩
  case round =>
    obtain ⟨k, hk, rfl, rfl, rfl⟩ := hrel
    obtain ⟨x0, x1, _⟩ := HC.out _ (Below.refl _ _)
    by_cases k0 : k = 0
    · subst k0
      simp only [if_true]
      go_wp2_with fail
      go_roundw
      case rel => exact ⟨1, by omega, by go_num, by simp, by first | rfl | trivial⟩
      case measure => simp [intOf]
    by_cases k1 : k = 1
    · subst k1
      simp only [if_true, if_neg (show ¬ (1 : Nat) = 0 by omega)]
      go_wp2_with fail
      go_roundw
      case rel => exact ⟨2, by omega, by go_num, by simp, by first | rfl | trivial⟩
      case measure => simp [intOf]
    · have hk2 : ¬ (k : Int) < 2 := by omega
      simp only [if_neg k0, if_neg k1]
      clear x0 x1 k0 k1
      go_wp2_with fail
      obtain ⟨N, hN⟩ : ∃ N : Nat, n1 + n2 = N := ⟨_, rfl⟩
      have hsum : (n1 : Int) + (n2 : Int) = (N : Int) := by omega
      rw [hsum]
      clear hsum hw1 hw1' hw2
      refine (grow_tbl (TblR M wr) N _ (by omega) (by omega)).mono ?_
      rintro e w1 ⟨c, rfl, ho, hbb⟩
      have HO1 := Lib.hid ho
      have HB1 := Lib.hid hbb
      clear ho hbb
      dsimp only
      go_wp2_with fail
      go_loopw [27, 6] (fun i v wx => ∃ k : Nat, k ≤ 2 ∧ i = .int .i64 (k : Int) ∧ Below wr.heap.size wr wx ∧ RowsO wr.heap.size wx 96 4 (TblR M wr) v (catL l1 l2 k)) (fun i _ _ => 2 - (intOf i).toNat)
      case atStart => exact ⟨0, Nat.zero_le _, rfl, HB1.out, HO1.out⟩
      case round =>
        rename World => wx
        obtain ⟨j, hk, rfl, hbel, ho⟩ := hrel
        have HB := Lib.hid hbel
        have HO := Lib.hid ho
        have hzx := hbel.size
        obtain ⟨x0, x1, _⟩ := HC.out wx hbel
        clear hbel ho HB1 HO1
        by_cases k0 : j = 0
        · subst k0
          have HO0 : Hid (RowsO wr.heap.size wx 96 4 (TblR M wr) _ []) := HO
          obtain ⟨va, vc, hv, _⟩ := HO0.out.shape
          go_wp2_with (at_builtin; go_loud (refine wpList_app rfl _ _ 109 rfl 96 _ 4 72 Tryz.underlying109 infoTbl rfl (by decide) (R := TblR M wr) (M := M) wr.heap.size _ (.slice a1 n1 c1) [] l1 rfl rfl HO0.out (H1.out _ HB.out) (fun y _ cs h => tbl_one1 y cs h) (by have := HN1.out; simp; omega) (by have := HN1.out; simp [maxLen]; omega) hzx ?_; intro v9 w9 ho hk _; have HK9 := Lib.hid hk; have HO9 := Lib.hid ho; clear ho hk))
          go_roundw
          case rel => exact ⟨1, by omega, by go_num, HB.out.trans (HK9.out.toBelow hzx fun k hk hO => absurd (RowsO.lt HO0.out hO).1 (by omega)), by simpa [catL] using HO9.out⟩
          case measure => simp [intOf]
        by_cases k1 : j = 1
        · subst k1
          have HO0 : Hid (RowsO wr.heap.size wx 96 4 (TblR M wr) _ l1) := HO
          obtain ⟨va, vc, hv, _⟩ := HO0.out.shape
          go_wp2_with (at_builtin; go_loud (refine wpList_app rfl _ _ 109 rfl 96 _ 4 72 Tryz.underlying109 infoTbl rfl (by decide) (R := TblR M wr) (M := M) wr.heap.size _ (.slice a2 n2 c2) l1 l2 rfl rfl HO0.out (H2.out _ HB.out) (fun y _ cs h => tbl_one1 y cs h) (by have := HN1.out; have := HN2.out; omega) (by have := HN1.out; have := HN2.out; unfold maxLen; omega) hzx ?_; intro v9 w9 ho hk _; have HK9 := Lib.hid hk; have HO9 := Lib.hid ho; clear ho hk))
          go_roundw
          case rel => exact ⟨2, by omega, by go_num, HB.out.trans (HK9.out.toBelow hzx fun k hk hO => absurd (RowsO.lt HO0.out hO).1 (by omega)), by simpa [catL] using HO9.out⟩
          case measure => simp [intOf]
        · obtain rfl : j = 2 := by omega
          have HO0 : Hid (RowsO wr.heap.size wx 96 4 (TblR M wr) _ (l1 ++ l2)) := HO
          go_wp2_with fail
          go_ret
          refine ⟨_, rfl, ?_, HB.out⟩
          exact (HO0.out.imp fun y _ cs hc => tblR_later hc HB.out).rows fun _ _ _ h => h
end Go.Proofs.YtkhlmofcdchccaaGreatDoor
namespace Go.Proofs.YtkhlmofcdchccaaGreatDoor
open Go.RowKit

theorem infoValT : (Tryz.prog.info? 26).map (fun i => (i.zero, i.size, i.bytes)) = some (some (.agg #[.int .i64 0, .int .i64 0, .string ⟨#[]⟩]), 3, 32) := by kernel_rfl
theorem valR_one1 (y : Val) (cs : List Value) (h : ValR y cs) : ∀ u ∈ cs, u.oneCell' = true := by
  have h : cs = valCells y := h
  subst h
  intro u hu
  unfold valCells at hu
  simp at hu
  rcases hu with rfl | rfl | rfl <;> rfl

set_option maxRecDepth 100000 in
theorem rcopy_any {M : Nat → Prop} (v : Value) (x : List Val) (w : World) (hv : ValsR M w v x) (hx : x.length ≤ 1000) :
    Calls Tryz.prog 65 #[v] w (fun e w' => ∃ v', e = .returned v' ∧ RowsO w.heap.size w' 26 3 ValR v' x ∧ Below w.heap.size w w') := by
  obtain ⟨a, c, rfl, hm⟩ := hv.shape
  have HV := Lib.hid hv
  clear hv
  go_enter Tryz.func65, Tryz.ntmps65
  go_wp2_with (at_builtin; refine wpList_app rfl _ _ 56 rfl 26 _ 3 32 Tryz.underlying56 infoValT rfl (by decide) (R := ValR) (M := M) w.heap.size (.slice none 0 0) (.slice a x.length c) [] x rfl rfl (RowsO.nil ..) HV.out (fun y _ cs h => valR_one1 y cs h) (by simp; omega) (by simpa using hm) (Nat.le_refl _) ?_; intro v2 w2 ho hk _; have HO := Lib.hid ho; have HK := Lib.hid (bel_nil hk); clear ho hk)
  go_ret
  exact ⟨_, rfl, by simpa using HO.out, HK.out⟩

/-- A row with its number. -/
def TrR (M : Nat → Prop) (w : World) (r : Int × List Val) (cs : List Value) : Prop := ∃ v, cs = [.int .i64 r.1, v] ∧ ValsR M w v r.2
theorem TrR.keep {M : Nat → Prop} {w w' : World} {r : Int × List Val} {cs : List Value} (h : TrR M w r cs) (k : Keep M w w') : TrR M w' r cs := by
  obtain ⟨v, rfl, hv⟩ := h
  exact ⟨v, rfl, hv.keep k⟩
theorem TrR.weak {M M' : Nat → Prop} {w : World} (hM : ∀ k, k < w.heap.size → M' k → M k) {r : Int × List Val} {cs : List Value} (h : TrR M w r cs) : TrR M' w r cs := by
  obtain ⟨v, rfl, hv⟩ := h
  exact ⟨v, rfl, hv.weak hM⟩
def TrsR (M : Nat → Prop) (w : World) (v : Value) (l : List (Int × List Val)) : Prop := RowsR M w 2 (TrR M w) v l
theorem TrsR.keep {M : Nat → Prop} {w w' : World} {v : Value} {l : List (Int × List Val)} (h : TrsR M w v l) (k : Keep M w w') : TrsR M w' v l := RowsR.map h k fun _ _ _ h => h.keep k
theorem TrsR.weak {M M' : Nat → Prop} {w : World} {v : Value} {l : List (Int × List Val)} (hM : ∀ k, k < w.heap.size → M' k → M k) (h : TrsR M w v l) : TrsR M' w v l := RowsR.weak h hM fun _ _ _ h => h.weak hM
theorem trR_one {M : Nat → Prop} {w : World} (r : Int × List Val) (cs : List Value) (h : TrR M w r cs) : ∀ u ∈ cs, u.oneCell' = true := by
  obtain ⟨v, rfl, hv⟩ := h
  obtain ⟨a, c, rfl, _⟩ := hv.shape
  intro u hu
  simp at hu
  rcases hu with rfl | rfl <;> rfl
theorem trStable : Stable TrR where
  keep h k := h.keep k
  weak h hM := h.weak hM
  one h := trR_one _ _ h

/-- What a row's number finds. -/
def GotR (l : List (Int × List Val)) (id : Int) (w : World) (e : Ending) (w' : World) : Prop :=
  (∃ r ∈ l, r.1 = id ∧ ∃ v, e = .returned (.tuple #[v, .bool true]) ∧ RowsO w.heap.size w' 26 3 ValR v r.2 ∧ Below w.heap.size w w') ∨ ((∀ r ∈ l, r.1 ≠ id) ∧ e = .returned (.tuple #[.slice none 0 0, .bool false]) ∧ Below w.heap.size w w')

set_option maxRecDepth 100000 in
set_option maxHeartbeats 4000000 in
theorem r6get_any {M : Nat → Prop} (nm : ByteArray) (cv rv : Value) (nx d : Int) (l : List (Int × List Val)) (w : World) (hr : TrsR M w rv l) (hx : ∀ r ∈ l, r.2.length ≤ 1000) (hcv : ∃ a n c, cv = .slice a n c) :
    Calls Tryz.prog 71 #[.agg #[.string nm, cv, .int .i64 nx, rv], .int .i64 d] w (GotR l d w) := by
  obtain ⟨ca, cn, cc, rfl⟩ := hcv
  obtain ⟨a, cap, rfl, hm⟩ := hr.shape
  unfold maxLen at hm
  have HR := Lib.hid hr
  have HX := Lib.hid hx
  have HL := Lib.hid fun j (hj : j < l.length) => rows_row hr hj
  obtain ⟨n, hn⟩ : ∃ n, l.length = n := ⟨_, rfl⟩
  rw [hn] at HL hm ⊢
  have HNL := Lib.hid hn
  clear hr hn hx
  go_enter Tryz.func71, Tryz.ntmps71
  go_wp2_with fail
  go_loopw [11] (fun i wr => ∃ j : Nat, j ≤ n ∧ i = .int .i64 (j : Int) ∧ Below w.heap.size w wr ∧ ∀ i r, i < j → l[i]? = some r → r.1 ≠ d) (fun i _ => n - (intOf i).toNat)
  case atStart => exact ⟨0, Nat.zero_le _, rfl, (Below.refl _ _).alloc (Nat.le_refl _) _, fun i r hi => by omega⟩
  case round =>
    rename World => wr
    obtain ⟨j, hj, rfl, hbel, hno⟩ := hrel
    have HB := Lib.hid hbel
    have HN := Lib.hid hno
    have hz0 := hbel.size
    clear hbel hno
    by_cases hlt : j < n
    · obtain ⟨r, b, o, cs, hrj, hrm, rfl, hbz, ⟨v, rfl, hvr⟩, hcs, hcap, hcm⟩ := HL.out j hlt
      unfold maxLen at hcm
      obtain ⟨c0, c1⟩ := CellsAt.c2 (hcs.keep (M := NoM) (.bel HB.out) fun h => h)
      obtain ⟨ra, rc, rfl, _⟩ := hvr.shape
      have HVR := Lib.hid hvr
      have HRJ := Lib.hid hrj
      have hlen := HX.out r hrm
      have HRM := Lib.hid hrm
      clear hcs hrj hvr hrm
      have i0 : (0 : Int) ≤ (j : Int) := by omega
      have i1 : (j : Int) < (n : Int) := by omega
      have HB1 := Lib.hid (HB.out.alloc HB.out.size (.cells #[.int .i64 r.1, .slice ra r.2.length rc] 139))
      by_cases he : r.1 = d
      · subst he
        go_wp2_with fail
        generalize World.alloc _ _ = W1 at HB1 ⊢
        refine (rcopy_any _ r.2 W1 (HVR.out.keep (.bel HB1.out)) hlen).mono ?_
        rintro e w2 ⟨v2, rfl, ho, hb⟩
        have HO := Lib.hid (RowsO.lower ho HB1.out.size)
        have HB2 := Lib.hid (HB1.out.trans (hb.mono HB1.out.size))
        clear ho hb
        dsimp only
        go_wp2_with fail
        refine bodyPost_ret (v := .tuple #[v2, .bool true]) (by simp [results, Tryz.results71, go_sem]) rfl ?_
        exact .inl ⟨r, HRM.out, rfl, _, rfl, HO.out, HB2.out⟩
      · have he' : (r.1 == d) = false := by simpa using he
        go_wp2_with fail
        go_roundw
        case rel =>
          refine ⟨j + 1, by omega, by go_num, HB1.out, fun i y hi hy => ?_⟩
          by_cases e : i = j
          · subst e
            rw [HRJ.out] at hy
            cases hy
            exact he
          · exact HN.out i y (by omega) hy
        case measure => simp [intOf]; omega
    · obtain rfl : j = n := by omega
      go_wp2_with fail
      refine bodyPost_ret (v := .tuple #[.slice none 0 0, .bool false]) (by simp [results, Tryz.results71, go_sem]) rfl ?_
      refine .inr ⟨fun r hr => ?_, rfl, HB.out⟩
      obtain ⟨i, hi, he⟩ := List.getElem_of_mem hr
      exact HN.out i r (by rw [← HNL.out]; exact hi) (by rw [List.getElem?_eq_getElem hi, he])
end Go.Proofs.YtkhlmofcdchccaaGreatDoor
namespace Go.Proofs.YtkhlmofcdchccaaGreatDoor
open Go.RowKit Go.Maps

theorem i64_wf {n : Int} (h : I64R n) : (Lit.int .i64 n).wf = true := by
  obtain ⟨h1, h2⟩ := h
  have e1 : IntKind.i64.min = -9223372036854775808 := by decide
  have e2 : IntKind.i64.max = 9223372036854775807 := by decide
  simp only [Lit.wf, e1, e2, Bool.and_eq_true, decide_eq_true_eq]
  exact ⟨h1, h2⟩

theorem keyedV : Maps.Keyed Tryz.prog 26 := Maps.Keyed.of_law (deep_law_laid (m := 3) (by kernel_rfl) (by omega) (of_decide_eq_true (by kernel_rfl)) (by kernel_rfl) (by kernel_rfl))
theorem keyedI : Maps.Keyed Tryz.prog 3 := Maps.int_keyed Tryz.underlying3

theorem i64R_valid {v : Val} (h : ValidVal v) : I64R v.kind ∧ I64R v.int ∧ v.text.size ≤ maxLen := by
  unfold I64R maxLen
  rcases h with ⟨h1, h2, h3⟩ | ⟨h1, h2, h3⟩ | ⟨h1, h2, h2', h3⟩ | ⟨h1, h2, i, hi, h3⟩
  · rw [h1, h2, h3]; exact ⟨by omega, by omega, by decide⟩
  · rw [h1, h3]; exact ⟨by omega, h2, by decide⟩
  · rw [h1, h3]; exact ⟨by omega, by omega, by decide⟩
  · rw [h1, h2, h3]
    have : ∀ i, i < 6 → (wordAt i).size ≤ 4 := by decide +kernel
    have := this i hi
    exact ⟨by omega, by omega, by omega⟩

theorem keyV (v : Val) (h : ValidVal v) : ∃ kl, keyOf Tryz.prog 26 (valOf v) = some kl := by
  obtain ⟨h1, h2, h3⟩ := i64R_valid h
  have u := Tryz.underlying26
  have hk : Tryz.prog.keyType 26 = true := by kernel_rfl
  have hf : (valOf v).formed Tryz.prog 26 = true := by
    unfold valOf Value.formed
    rw [u]
    have : Tryz.prog.cellsOf 26 = 3 := by kernel_rfl
    simp [this]
  have hl : ∃ L, Tryz.prog.keyLits (Tryz.prog.types.size + 1) 26 (valOf v).cells.toList = some L := by
    have hp : 0 < Tryz.prog.types.size := of_decide_eq_true (by kernel_rfl)
    obtain ⟨d, hd⟩ : ∃ d, Tryz.prog.types.size = d + 1 := ⟨Tryz.prog.types.size - 1, by omega⟩
    rw [hd]
    have c3 : Tryz.prog.cellsOf 26 = 3 := by kernel_rfl
    have c1 : Tryz.prog.cellsOf 3 = 1 := by kernel_rfl
    have c1' : Tryz.prog.cellsOf 2 = 1 := by kernel_rfl
    have c1s : Tryz.prog.cellsOf 9 = 1 := by kernel_rfl
    simp [Program.keyLits, u, Tryz.underlying3, Tryz.underlying2, Tryz.underlying9, valOf, Value.cells, c3, c1, c1', c1s, i64_wf h1, i64_wf h2, h3]
  obtain ⟨L, hL⟩ := hl
  refine ⟨.string (keyBytes L), ?_⟩
  unfold keyOf
  rw [u]
  show (if (Tryz.prog.keyType 26 && (valOf v).formed Tryz.prog 26) = true then (Tryz.prog.keyLits (Tryz.prog.types.size + 1) 26 (valOf v).cells.toList).map fun ls => Lit.string (keyBytes ls) else none) = _
  rw [hk, hf, hL]
  rfl
theorem keyI (n : Int) (h : I64R n) : keyOf Tryz.prog 3 (.int .i64 n) = some (.int .i64 n) := Maps.keyOf_int_mk Tryz.underlying3 (i64_wf h)

/-- Block b is a map to bools, of at most n entries. -/
def BMap (k : TypeId) (w : World) (b n : Nat) : Prop := ∃ D : DataW Unit, w.ownsMap Tryz.prog k (plainElem Tryz.prog 4) b n D
theorem BMap.made (k : TypeId) (w : World) : BMap k (w.alloc (.map #[] 0)) w.heap.size 0 := ⟨.map [], World.ownsMap_made ..⟩
theorem BMap.lt {k : TypeId} {w : World} {b n : Nat} (h : BMap k w b n) : b < w.heap.size := by
  obtain ⟨D, h1⟩ := h
  exact h1.lt
theorem BMap.keep {k : TypeId} {w w' : World} {b n : Nat} {M : Nat → Prop} (h : BMap k w b n) (hk : Keep M w w') (hM : ¬ M b) : BMap k w' b n := by
  obtain ⟨D, h1⟩ := h
  have hlt := h1.lt
  obtain ⟨es, clock, hb, F, hs, hD⟩ := h1
  exact ⟨D, es, clock, (hk.block b hlt hM).trans hb, F, hs, hD⟩

theorem plain_bool_inv {P : Program} {e : TypeId} (he : P.underlying e = some .bool) {v : Value} {z : DataW Unit × List MemPlace} (h : plainElem P e v = some z) : ∃ c, v = .bool c := by
  unfold plainElem at h
  rw [he] at h
  cases v <;> simp at h
  exact ⟨_, rfl⟩
theorem bool_inv {v : Value} {z : DataW Unit × List MemPlace} (h : plainElem Tryz.prog 4 v = some z) : ∃ c, v = .bool c := plain_bool_inv Tryz.underlying4 h
theorem zero_bool (w : World) : (zeroValue 4).run Tryz.prog w = .ok (.bool false) w := by simp [go_sem]

theorem wpList_lookup_bool (w : World) {ops : Array Oper} {rest : List Oper} {o : Oper} {a : Act} {Q : Exit → Act → World → Prop} (hg : o.guard = none) (m x : Operand) (t : TypeId) (hop : o.op = Op.lookup t m x false) {k : TypeId} (K : Maps.Keyed Tryz.prog k) (ht : Tryz.prog.underlying t = some (.map k 4)) (b n : Nat)
    (hm : a.eval m = .map (some b)) (h : BMap k w b n) (key : Value) (kl : Lit) (hx : a.eval x = key) (hkey : keyOf Tryz.prog k key = some kl) (hK : ∀ c : Bool, wpList Tryz.prog ops Q rest (a.put o.dst (.bool c)) w) : wpList Tryz.prog ops Q (o :: rest) a w := by
  obtain ⟨D, hown⟩ := h
  refine wpList_plain hg fun K' hK' => ?_
  obtain ⟨v, ps, hrun, hv⟩ := hown.lookup K ht (zero_bool w) (plainElem_bool Tryz.underlying4 false) hkey
  obtain ⟨c, rfl⟩ := bool_inv hv
  unfold Oper.wp
  simp [execOp, hop, hm, hx, hrun, Result.andThen]
  exact hK' _ _ (hK c)

theorem wpList_update_bool (w : World) {ops : Array Oper} {rest : List Oper} {o : Oper} {a : Act} {Q : Exit → Act → World → Prop} (hg : o.guard = none) (m x v : Operand) (t : TypeId) (hop : o.op = Op.mapUpdate t m x v) {k : TypeId} (K : Maps.Keyed Tryz.prog k) (ht : Tryz.prog.underlying t = some (.map k 4)) (b n : Nat) (hn : n < maxLen) (c : Bool)
    (hm : a.eval m = .map (some b)) (h : BMap k w b n) (key : Value) (kl : Lit) (hx : a.eval x = key) (hv : a.eval v = .bool c) (hkey : keyOf Tryz.prog k key = some kl) (hK : ∀ w', BMap k w' b (n + 1) → w.grownBy w' (some b) → wpList Tryz.prog ops Q rest (a.put o.dst undef) w') : wpList Tryz.prog ops Q (o :: rest) a w := by
  obtain ⟨D, hown⟩ := h
  exact wpList_mapUpdate_own w hg m x v t hop k 4 K ht _ b n D hm hown hn key (.bool c) kl hx hv hkey _ [] (plainElem_bool Tryz.underlying4 c) fun w' h1 h2 => hK w' ⟨_, h1⟩ h2
end Go.Proofs.YtkhlmofcdchccaaGreatDoor
namespace Go.Proofs.YtkhlmofcdchccaaGreatDoor
open Go.RowKit Go.Maps

set_option maxRecDepth 100000 in
set_option maxHeartbeats 4000000 in
theorem r6dup_any {M : Nat → Prop} (nm : ByteArray) (cv rv : Value) (nx : Int) (cl : List Col) (l : List (Int × List Val)) (w : World) (hc : ColsR M w cv cl) (hr : TrsR M w rv l) (hl : l.length ≤ 200) (hx : ∀ r ∈ l, r.2.length ≤ 1000 ∧ ∀ y ∈ r.2, ValidVal y) :
    Calls Tryz.prog 66 #[.agg #[.string nm, cv, .int .i64 nx, rv]] w (BoolBel w) := by
  obtain ⟨ca, cc, rfl, hcm⟩ := hc.shape
  obtain ⟨a, cap, rfl, hm⟩ := hr.shape
  unfold maxLen at hm
  have HR := Lib.hid hr
  have HX := Lib.hid hx
  have HC := Lib.hid hc
  have HL := Lib.hid fun j (hj : j < l.length) => rows_row hr hj
  obtain ⟨n, hn⟩ : ∃ n, l.length = n := ⟨_, rfl⟩
  rw [hn] at HL hm hl ⊢
  clear hr hn hx hc
  have hmm := @run_makeMap Tryz.prog
  go_enter Tryz.func66, Tryz.ntmps66
  go_wp2_with fail
  refine (r4key_any nm _ cl _ (HC.out.keep ((Keep.refl M w).alloc _))).mono ?_
  rintro e w1 ⟨z, rfl, hz1, hz2, hb⟩
  have HB := Lib.hid (((Below.refl w.heap.size w).alloc (Nat.le_refl _) (.cells #[.string nm, .slice ca cl.length cc, .int .i64 nx, .slice a n cap] 96)).trans (hb.mono (by simp)))
  have hbx := (hb.block w.heap.size (by simp)).trans (heap_alloc_new w (.cells #[.string nm, .slice ca cl.length cc, .int .i64 nx, .slice a n cap] 96))
  obtain ⟨x0, x1, x2, x3, _⟩ := blk4 hbx
  clear hb
  have hsz : w.heap.size ≤ w1.heap.size := HB.out.size
  have HM := Lib.hid (BMap.made 26 w1)
  have HB1 := Lib.hid (HB.out.alloc hsz (.map #[] 0))
  have hsz1 : w1.heap.size < (w1.alloc (.map #[] 0)).heap.size := by simp
  dsimp only
  go_wp2_with fail
  generalize World.alloc _ _ = W1 at HM HB1 hsz1 ⊢
  generalize hG : w1.heap.size = G at HM hsz1 hsz ⊢
  clear hG x0 x1 x2 x3 hbx
  go_loopw [14] (fun i wr => ∃ j : Nat, j ≤ n ∧ i = .int .i64 (j : Int) ∧ Below w.heap.size w wr ∧ BMap 26 wr G j) (fun i _ => n - (intOf i).toNat)
  case atStart => exact ⟨0, Nat.zero_le _, rfl, HB1.out, HM.out⟩
  case round =>
    rename World => wr
    obtain ⟨j, hj, rfl, hbel, hmp⟩ := hrel
    have HBR := Lib.hid hbel
    have hz0 := hbel.size
    have hGz := hmp.lt
    have HMR := Lib.hid hmp
    clear hbel hmp
    by_cases hlt : j < n
    · obtain ⟨r, b, o, cs, hrj, hrm, rfl, hbz, ⟨v, rfl, hvr⟩, hcs, hcap, hcm⟩ := HL.out j hlt
      unfold maxLen at hcm
      obtain ⟨c0, c1⟩ := CellsAt.c2 (hcs.keep (M := NoM) (.bel HBR.out) fun h => h)
      obtain ⟨ra, rc, rfl, _⟩ := hvr.shape
      have HVL := Lib.hid fun j (hj : j < r.2.length) => rows_row hvr hj
      obtain ⟨hlen, hval⟩ := HX.out r hrm
      have HVV := Lib.hid hval
      clear hcs hrj hvr hrm hval
      have i0 : (0 : Int) ≤ (j : Int) := by omega
      have i1 : (j : Int) < (n : Int) := by omega
      have hbx := heap_alloc_new wr (.cells #[.int .i64 r.1, .slice ra r.2.length rc] 139)
      have HB2 := Lib.hid (HBR.out.alloc hz0 (.cells #[.int .i64 r.1, .slice ra r.2.length rc] 139))
      have hM2 : BMap 26 (wr.alloc (.cells #[.int .i64 r.1, .slice ra r.2.length rc] 139)) G j := HMR.out.keep (M := fun _ => False) ((Keep.refl _ wr).alloc _) fun h => h
      by_cases hz : z < 0
      · go_wp2_with fail
        go_roundw
        case rel =>
          obtain ⟨D, h⟩ := hM2
          exact ⟨j + 1, by omega, by go_num, HB2.out, D, h.mono (by omega)⟩
        case measure => simp [intOf]; omega
      · by_cases hzl : z < r.2.length
        · obtain ⟨kz, rfl⟩ : ∃ kz : Nat, z = (kz : Int) := ⟨z.toNat, by omega⟩
          obtain ⟨y, b', o', cs', hyk, hym, rfl, hbz', hcs0', hcs', hcap', hcm'⟩ := HVL.out kz (by omega)
          obtain rfl : cs' = valCells y := hcs0'
          unfold maxLen at hcm'
          obtain ⟨p0, p1, p2⟩ := (hcs'.keep (M := NoM) (.bel HB2.out) fun h => h).vals
          obtain ⟨kl, hkl⟩ := keyV y (HVV.out y hym)
          have HM2 := Lib.hid hM2
          clear hcs' hyk hym hM2
          go_upto_region 7 with fail
          generalize World.alloc wr _ = W2 at HM2 HB2 p0 p1 p2 hbx ⊢
          obtain ⟨e0, e1, _⟩ := blk2 hbx
          have j0 : (0 : Int) ≤ (kz : Int) := by omega
          have j1 : (kz : Int) < (r.2.length : Int) := by omega
          have hGw : w.heap.size ≤ G := hsz
          have hnm : j < maxLen := by unfold maxLen; omega
          have HUP := Lib.hid fun (w3 : World) (hm3 : BMap 26 w3 G (j + 1)) (hg3 : W2.grownBy w3 (some G)) => show Below w.heap.size w w3 ∧ BMap 26 w3 G (j + 1) from
            ⟨HB2.out.trans (((Keep.refl (At G) W2).grown hg3 fun k hk _ => by cases hk; rfl).toBelow HB2.out.size fun k hk h => by unfold At at h; omega), hm3⟩
          go_wp2_with (first
            | (at_lookup; refine wpList_lookup_bool _ rfl _ _ 195 rfl keyedV Tryz.underlying195 G j rfl HM2.out (valOf y) kl rfl hkl ?_; intro c; rcases c with _ | _)
            | (at_mapUpdate; refine wpList_update_bool _ rfl _ _ _ 195 rfl keyedV Tryz.underlying195 G j hnm true rfl HM2.out (valOf y) kl rfl rfl hkl ?_; intro w3 hm3 hg3; have HW3 := Lib.hid (HUP.out w3 hm3 hg3); clear hm3 hg3))
          · go_roundw
            case rel => exact ⟨j + 1, by omega, by go_num, HW3.out.1, HW3.out.2⟩
            case measure => simp [intOf]; omega
          · go_ret
            exact ⟨_, rfl, HB2.out⟩
        · go_wp2_with fail
          go_roundw
          case rel =>
            obtain ⟨D, h⟩ := hM2
            exact ⟨j + 1, by omega, by go_num, HB2.out, D, h.mono (by omega)⟩
          case measure => simp [intOf]; omega
    · obtain rfl : j = n := by omega
      go_wp2_with fail
      go_ret
      exact ⟨_, rfl, HBR.out⟩
end Go.Proofs.YtkhlmofcdchccaaGreatDoor
