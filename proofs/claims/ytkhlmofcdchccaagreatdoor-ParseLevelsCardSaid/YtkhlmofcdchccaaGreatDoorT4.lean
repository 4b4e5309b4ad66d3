/- The token that begins a text: contract of token.next. -/
import Derived.Test.YtkhlmofcdchccaaGreatDoorT3
namespace Go.Proofs.YtkhlmofcdchccaaGreatDoor
open Go.RowKit

def nextR (s : ByteArray) : Value := .tuple #[.agg #[.int .i64 (nextP s).1.1, .string (nextP s).1.2, .int .i64 0], .int .i64 ((nextP s).2.1 : Nat), .bool (nextP s).2.2]

theorem nextR_quote {s : ByteArray} (hz : 0 < s.size) (h : s[0].toNat = 39) : nextR s = quotedR s := by
  unfold nextR quotedR
  rw [nextP_quote hz h]
  cases quotedQ s 1 [] <;> rfl
theorem nextR_run {s : ByteArray} {n : Nat} (hz : 0 < s.size) (h : s[0].toNat ≠ 39) (hr : runC s[0] = true) (hn : runN s.data.toList = n) : ∃ (k : Int) (t : ByteArray) (b : Bool), runR (s.extract 0 n) = .tuple #[.agg #[.int .i64 k, .string t, .int .i64 0], .bool b] ∧ nextR s = .tuple #[.agg #[.int .i64 k, .string t, .int .i64 0], .int .i64 n, .bool b] := by
  unfold nextR runR
  rw [nextP_run hz h hr hn]
  cases runP (s.extract 0 n) with
  | none => exact ⟨0, ⟨#[]⟩, false, rfl, rfl⟩
  | some kt => exact ⟨kt.1, kt.2, true, rfl, rfl⟩
theorem nextR_sym {s : ByteArray} (hz : 0 < s.size) (h : s[0].toNat ≠ 39) (hr : runC s[0] = false) : nextR s = .tuple #[.agg #[.int .i64 5, .string (s.extract 0 (symP s)), .int .i64 0], .int .i64 (symP s), .bool (decide (0 < symP s))] := by
  unfold nextR
  rw [nextP_sym hz h hr]

theorem symP_le {s : ByteArray} (hz : 0 < s.size) : symP s ≤ 2 ∧ symP s ≤ s.size := by
  unfold symP
  split
  · rename_i h; exact ⟨Nat.le_refl _, h.1⟩
  · split <;> omega

theorem quotedR_form (s : ByteArray) : ∃ (k : Int) (t : ByteArray) (n : Int) (b : Bool), quotedR s = .tuple #[.agg #[.int .i64 k, .string t, .int .i64 0], .int .i64 n, .bool b] := by
  unfold quotedR
  cases quotedQ s 1 [] <;> exact ⟨_, _, _, _, rfl⟩

set_option maxRecDepth 100000 in
set_option maxHeartbeats 4000000 in
theorem next_tok (s : ByteArray) (w : World) (hz : 0 < s.size) (hs : s.size ≤ 4096) (h : TokOk w) : Calls Tryz.prog 96 #[.string s] w (RetBel (nextR s) w) := by
  have HT := Lib.hid h
  clear h
  go_enter Tryz.func96, Tryz.ntmps96
  go_upto_region 1 with fail
  generalize hW : World.alloc w _ = W
  have hr : W.heap[w.heap.size]? = some (.cells #[.int .i64 0, .string ⟨#[]⟩, .int .i64 0] 178 (0, 0)) := by rw [← hW]; exact heap_alloc_new w _
  have hb : Below w.heap.size w W := by rw [← hW]; exact (Below.refl _ _).alloc (Nat.le_refl _) _
  have hz0 : w.heap.size < W.heap.size := (Array.getElem?_eq_some_iff.1 hr).1
  have HR := Lib.hid hr
  have HB := Lib.hid hb
  have HTW := Lib.hid (HT.out.bel hb)
  clear hW hr hb
  by_cases hc : s[0].toNat = 39
  · have hct : ((s[0].toNat : Int) == 39) = true := by simp [hc]
    have HN := Lib.hid (nextR_quote hz hc)
    have HQ := Lib.hid (fun w => quoted_any s w hz (by omega))
    obtain ⟨k, t, n, b, hq⟩ := quotedR_form s
    rw [hq] at HN HQ
    clear hc hq
    go_wp2_with fail
    refine (HQ.out W).mono ?_
    rintro e w2 ⟨rfl, hw2⟩
    have HW2 := Lib.hid (HB.out.trans (hw2.mono (by omega)))
    obtain ⟨c0, c1, c2, cf, cz⟩ := blk3t ((hw2.block w.heap.size hz0).trans HR.out)
    clear hw2
    dsimp only
    repeat (first | go_values | go_skip | go_guarded | go_step | go_upon)
    refine bodyPost_ret (v := .tuple #[.agg #[.int .i64 k, .string t, .int .i64 0], .int .i64 n, .bool b]) (by simp [results, Tryz.results96, go_sem, c0, c1, c2]) rfl ⟨by rw [HN.out], ?_⟩
    exact set3_below _ _ _ (Nat.le_refl _) HW2.out
  · have hcf : ((s[0].toNat : Int) == 39) = false := by simp only [beq_eq_false_iff_ne]; omega
    have HC := Lib.hid hc
    clear hc
    have HI := Lib.hid (fun w => inRun_any s[0] w)
    cases hr : runC s[0]
    · have HN := Lib.hid (nextR_sym hz HC.out hr)
      rw [hr] at HI
      clear hr
      go_wp2_with fail
      refine (HI.out W).mono ?_
      rintro e w2 ⟨rfl, rfl⟩
      dsimp only
      go_wp2_with fail
      have hsy := symP_le hz
      have HS := Lib.hid (fun w => symbol_any s w hz)
      generalize symP s = m at HN HS hsy
      obtain ⟨m1, m2⟩ := hsy
      refine (HS.out W).mono ?_
      rintro e w2 ⟨rfl, rfl⟩
      dsimp only
      obtain ⟨c0, c1, c2, cf, cz⟩ := blk3t HR.out
      repeat (first | go_values | go_skip | go_guarded | go_step | go_upon)
      refine bodyPost_ret (v := .tuple #[.agg #[.int .i64 5, .string (s.extract 0 m), .int .i64 0], .int .i64 m, .bool (decide (0 < m))]) (by simp [results, Tryz.results96, go_sem, c0, c1, c2]) rfl ⟨by rw [HN.out], ?_⟩
      exact set3_below _ _ _ (Nat.le_refl _) HB.out
    · have HG := Lib.hid (fun n => nextR_run (n := n) hz HC.out hr)
      have HR0 := Lib.hid hr
      rw [hr] at HI
      clear hr
      go_wp2_with fail
      refine (HI.out W).mono ?_
      rintro e w2 ⟨rfl, rfl⟩
      dsimp only
      go_wp2_with fail
      clear HI
      go_loop [5] (fun i => ∃ n : Nat, i = .int .i64 n ∧ 1 ≤ n ∧ n ≤ s.size ∧ ∀ j, (h : j < n) → (h' : j < s.size) → runC s[j] = true) (fun i => s.size - (intOf i).toNat)
      case atStart => exact ⟨1, rfl, Nat.le_refl _, hz, fun j h h' => by obtain rfl : j = 0 := by omega
                                                                         exact HR0.out⟩
      case round =>
        obtain ⟨n, rfl, hn1, hn2, hall⟩ := hrel
        have HA := Lib.hid hall
        clear hall
        by_cases hgo : ∃ h : n < s.size, runC s[n] = true
        · obtain ⟨hlt, hr⟩ := hgo
          have HI := Lib.hid (fun w => inRun_any s[n] w)
          have HA2 : Hid (∀ j, (h : j < n + 1) → (h' : j < s.size) → runC s[j] = true) := Lib.hid fun j h h' => by
            by_cases e : j = n
            · subst e; exact hr
            · exact HA.out j (by omega) h'
          rw [hr] at HI
          clear hr
          have hlt' : (n : Int) < s.size := by omega
          go_wp2_with fail
          refine (HI.out W).mono ?_
          rintro e w2 ⟨rfl, rfl⟩
          dsimp only
          go_wp2_with fail
          go_round
          case rel => exact ⟨n + 1, by go_num, by omega, by omega, HA2.out⟩
          case measure => simp [intOf]; omega
        · have hno : ∀ h : n < s.size, runC s[n] = false := fun h => by
            cases e : runC s[n]
            · rfl
            · exact absurd ⟨h, e⟩ hgo
          obtain ⟨k, t, b, h1, h2⟩ := HG.out n (runN_eq HA.out hn2 hno)
          have HN := Lib.hid h2
          have HRUN := Lib.hid (fun w h => h1 ▸ run_any (s.extract 0 n) w (by simp; omega) (by simp; omega) h)
          have HNO := Lib.hid hno
          clear h1 h2 hgo hno HG
          by_cases hlt : n < s.size
          case' pos =>
            have HI := Lib.hid (fun w => inRun_any s[n] w)
            rw [HNO.out hlt] at HI
            have hlt' : (n : Int) < s.size := by omega
            go_wp2_with fail
            refine (HI.out W).mono ?_
            rintro e w2 ⟨rfl, rfl⟩
            dsimp only
          case' neg =>
            have hlt' : ¬ (n : Int) < s.size := by omega
          all_goals
            go_wp2_with fail
            refine (HRUN.out W HTW.out).mono ?_
            rintro e w2 ⟨rfl, hw2⟩
            have HW2 := Lib.hid (HB.out.trans (hw2.mono (by omega)))
            have hz2 := hw2.size
            have hr2 := (hw2.block w.heap.size hz0).trans HR.out
            have HR2 := Lib.hid hr2
            clear hw2 hr2
            dsimp only
            go_upto_region 8 with fail
            generalize hW4 : World.alloc w2 _ = w4
            have ht4 : w4.heap[w2.heap.size]? = some (.cells #[.int .i64 k, .string t, .int .i64 0] 178 (0, 0)) := by rw [← hW4]; exact heap_alloc_new w2 _
            have hw4 : Below w2.heap.size w2 w4 := by rw [← hW4]; exact (Below.refl _ _).alloc (Nat.le_refl _) _
            have HW4 := Lib.hid (HW2.out.trans (hw4.mono (by omega)))
            obtain ⟨c0, c1, c2, cf, cz⟩ := blk3t ((hw4.block w.heap.size (by omega)).trans HR2.out)
            obtain ⟨d0, d1, d2, df, dz⟩ := blk3t ht4
            clear hW4 hw4 ht4
            repeat (first | go_values | go_skip | go_guarded | go_step | go_upon)
            refine bodyPost_ret (v := .tuple #[.agg #[.int .i64 k, .string t, .int .i64 0], .int .i64 n, .bool b]) (by simp [results, Tryz.results96, go_sem, c0, c1, c2]) rfl ⟨by rw [HN.out], ?_⟩
            exact set3_below _ _ _ (Nat.le_refl _) HW4.out
end Go.Proofs.YtkhlmofcdchccaaGreatDoor
