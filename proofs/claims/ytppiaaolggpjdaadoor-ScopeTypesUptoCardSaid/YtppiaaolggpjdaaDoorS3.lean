/- Shapes, precedences and least precedences in the reference, for every expression. -/
import Derived.Test.YtppiaaolggpjdaaDoorS2
namespace Go.Proofs.YtppiaaolggpjdaaDoor
open Go.RowKit

theorem rshape_any {M : Nat → Prop} (e : Ex) (cs : List Value) (w : World) (he : EC M w e cs) : Calls Tryd.prog 97 #[.agg cs.toArray] w (RetBel (.bool (shapeP e.kind e.op e.args.length e.sub)) w) := by
  obtain ⟨va, vs, rfl, ha, hs⟩ := (EC_iff ..).1 he
  obtain ⟨a, ac, rfl, _⟩ := ha.shape
  obtain ⟨s, sc, rfl, _⟩ := hs.shape
  show Calls _ _ #[.agg #[.int .i64 e.kind, .int .i64 e.op, .bool e.no, .int .i64 e.val.kind, .int .i64 e.val.int, .string e.val.text, .string e.table, .string e.name, .slice a e.args.length ac, .slice s e.sub.length sc]] w _
  unfold shapeP
  by_cases h1 : e.kind = 1 ∨ e.kind = 2
  · rw [if_pos h1]
    exact shape_n _ _ _ _ _ _ _ _ _ _ _ _ _ w _ 0 (by omega)
  rw [if_neg h1]
  by_cases h3 : e.kind = 3 ∨ e.kind = 4 ∨ e.kind = 6
  · rw [if_pos h3]
    exact shape_n _ _ _ _ _ _ _ _ _ _ _ _ _ w _ 1 (by omega)
  rw [if_neg h3]
  by_cases h5 : e.kind = 5
  · rw [if_pos h5]
    exact shape_5 _ _ _ _ _ _ _ _ _ _ _ _ _ w _ h5
  rw [if_neg h5]
  by_cases h7 : e.kind = 7
  · rw [if_pos h7]
    exact shape_n _ _ _ _ _ _ _ _ _ _ _ _ _ w _ 3 (by omega)
  rw [if_neg h7]
  by_cases h8 : 8 ≤ e.kind ∧ e.kind ≤ 12
  · rw [if_pos h8]
    by_cases ho : e.args.length ≠ 0 ∨ e.sub.length ≠ 1
    · rw [show (decide (e.args.length = 0) && subShape e.kind e.sub) = false by
        by_cases h0 : e.args.length = 0
        · have h2 : e.sub.length ≠ 1 := by omega
          rw [show subShape e.kind e.sub = false by
            rcases hq : e.sub with _ | ⟨q, _ | ⟨q2, l⟩⟩
            · rfl
            · rw [hq] at h2; exact absurd rfl h2
            · rfl, Bool.and_false]
        · rw [decide_eq_false h0, Bool.false_and]]
      exact shape_out _ _ _ _ _ _ _ _ _ _ _ _ _ w _ h8 ho
    · have h0 : e.args.length = 0 := by omega
      have hl : e.sub.length = 1 := by omega
      obtain ⟨q, hq⟩ := List.length_eq_one_iff.1 hl
      rw [hq] at hs
      rcases hs.open with ⟨_, h⟩ | ⟨ab, ao, cap, hv, _, hab, _, _, hx⟩
      · cases h
      obtain ⟨cs, hc, _, hcs⟩ := hx 0 _ rfl
      obtain ⟨vi', vw, rfl, hvi, hvw⟩ := (QC_iff ..).1 hc
      obtain ⟨ia, iac, rfl, _⟩ := hvi.shape
      obtain ⟨wa, wac, rfl, _⟩ := hvw.shape
      rw [Nat.zero_mul, Nat.add_zero] at hcs
      obtain ⟨c0, c1, c2, c3⟩ := hcs.c4
      simp only [Value.slice.injEq] at hv
      obtain ⟨rfl, _, rfl⟩ := hv
      rw [h0, hq]
      exact shape_sub _ _ _ _ _ _ _ _ _ sc w _ h8 ab ao ia wa q.items.length q.whr.length iac wac c1 c3 hab
  · rw [if_neg h8]
    exact shape_no _ _ _ _ _ _ _ _ _ _ _ _ _ w _ (by omega)

/-- The reference's least precedence of the argument i. -/
def leastR (k o : Int) (i : Nat) : Int := if k = 3 then 3 else if k = 4 then 7 else if k = 6 ∨ k = 7 then 5 else if k = 5 then (if opPrec o = 8 then 1 else if opPrec o = 4 then 5 else opPrec o + i) else 1
theorem leastR_eq {k o : Int} {i : Nat} (h : k = 5 → i ≤ 1) : leastR k o i = leastP k o i := by
  unfold leastR leastP precP
  have hr : opPrec o = 1 ∨ opPrec o = 2 ∨ opPrec o = 4 ∨ opPrec o = 5 ∨ opPrec o = 6 ∨ opPrec o = 8 := by unfold opPrec; (repeat' split) <;> simp
  by_cases h3 : k = 3
  · subst h3; rfl
  by_cases h4 : k = 4
  · subst h4; rfl
  by_cases h6 : k = 6 ∨ k = 7
  · rcases h6 with rfl | rfl <;> rfl
  by_cases h5 : k = 5
  · subst h5
    have hi := h rfl
    have hm : min i 1 = i := by omega
    rcases hr with h | h | h | h | h | h <;> simp [h, hm]
  · simp [h3, h4, h6, h5]

section
variable (o : Int) (no : Bool) (vk vi : Int) (vt t nm : ByteArray) (va vs : Value) (w : World)

set_option maxRecDepth 100000 in
set_option maxHeartbeats 2000000 in
theorem rprec_any (k : Int) : Calls Tryd.prog 56 #[.agg #[.int .i64 k, .int .i64 o, .bool no, .int .i64 vk, .int .i64 vi, .string vt, .string t, .string nm, va, vs]] w (RetBel (.int .i64 (precP k o)) w) := by
  by_cases h4 : k = 3 ∨ k = 4 ∨ k = 6 ∨ k = 7
  · rcases h4 with rfl | rfl | rfl | rfl
    all_goals
      go_enter Tryd.func56, Tryd.ntmps56
      go_wp2_with fail
      go_ret
      exact ⟨rfl, by go_grown⟩
  by_cases h5 : k = 5
  · subst h5
    have HP := Lib.hid (show precP 5 o = opPrec o from rfl)
    have HO := Lib.hid (show opPrec o = (if o = 1 then 1 else if o = 2 then 2 else if 3 ≤ o ∧ o ≤ 8 then 4 else if o = 9 ∨ o = 10 then 5 else if 11 ≤ o ∧ o ≤ 13 then 6 else 8) from rfl)
    generalize precP 5 o = p at HP
    generalize opPrec o = q at HP HO
    have h7 : o = 1 ∨ o = 2 ∨ (3 ≤ o ∧ o ≤ 8) ∨ o = 9 ∨ o = 10 ∨ (11 ≤ o ∧ o ≤ 13) ∨ (o < 1 ∨ 13 < o) := by omega
    clear h4
    rcases h7 with rfl | rfl | ⟨h3, h8⟩ | rfl | rfl | ⟨h11, h13⟩ | h
    · obtain rfl : p = 1 := by rw [HP.out, HO.out]; rfl
      go_enter Tryd.func56, Tryd.ntmps56
      go_wp2_with fail
      go_ret
      exact ⟨rfl, by go_grown⟩
    · obtain rfl : p = 2 := by rw [HP.out, HO.out]; rfl
      go_enter Tryd.func56, Tryd.ntmps56
      go_wp2_with fail
      go_ret
      exact ⟨rfl, by go_grown⟩
    · obtain rfl : p = 4 := by rw [HP.out, HO.out, if_neg (by omega), if_neg (by omega), if_pos ⟨h3, h8⟩]
      have e1 : (o == 1) = false := by simp; omega
      have e2 : (o == 2) = false := by simp; omega
      go_enter Tryd.func56, Tryd.ntmps56
      go_wp2_with fail
      go_ret
      exact ⟨rfl, by go_grown⟩
    · obtain rfl : p = 5 := by rw [HP.out, HO.out]; rfl
      go_enter Tryd.func56, Tryd.ntmps56
      go_wp2_with fail
      go_ret
      exact ⟨rfl, by go_grown⟩
    · obtain rfl : p = 5 := by rw [HP.out, HO.out]; rfl
      go_enter Tryd.func56, Tryd.ntmps56
      go_wp2_with fail
      go_ret
      exact ⟨rfl, by go_grown⟩
    · obtain rfl : p = 6 := by rw [HP.out, HO.out, if_neg (by omega), if_neg (by omega), if_neg (by omega), if_neg (by omega), if_pos ⟨h11, h13⟩]
      have e1 : (o == 1) = false := by simp; omega
      have e2 : (o == 2) = false := by simp; omega
      have e9 : (o == 9) = false := by simp; omega
      have e10 : (o == 10) = false := by simp; omega
      have h3 : (3 : Int) ≤ o := by omega
      have h8 : ¬ o ≤ 8 := by omega
      go_enter Tryd.func56, Tryd.ntmps56
      go_wp2_with fail
      go_ret
      exact ⟨rfl, by go_grown⟩
    · obtain rfl : p = 8 := by rw [HP.out, HO.out, if_neg (by omega), if_neg (by omega), if_neg (by omega), if_neg (by omega), if_neg (by omega)]
      have e1 : (o == 1) = false := by simp; omega
      have e2 : (o == 2) = false := by simp; omega
      have e9 : (o == 9) = false := by simp; omega
      have e10 : (o == 10) = false := by simp; omega
      rcases h with h | h
      · have h3 : ¬ (3 : Int) ≤ o := by omega
        have h11 : ¬ (11 : Int) ≤ o := by omega
        go_enter Tryd.func56, Tryd.ntmps56
        go_wp2_with fail
        go_ret
        exact ⟨rfl, by go_grown⟩
      · have h3 : (3 : Int) ≤ o := by omega
        have h8 : ¬ o ≤ 8 := by omega
        have h11 : (11 : Int) ≤ o := by omega
        have h13 : ¬ o ≤ 13 := by omega
        go_enter Tryd.func56, Tryd.ntmps56
        go_wp2_with fail
        go_ret
        exact ⟨rfl, by go_grown⟩
  · have hp : precP k o = 8 := by
      unfold precP
      rw [if_neg (by omega), if_neg (by omega), if_neg (by omega), if_neg h5]
    rw [hp]
    have e3 : (k == 3) = false := by simp; omega
    have e4 : (k == 4) = false := by simp; omega
    have e5 : (k == 5) = false := by simp; omega
    have e6 : (k == 6) = false := by simp; omega
    have e7 : (k == 7) = false := by simp; omega
    clear hp h4 h5
    go_enter Tryd.func56, Tryd.ntmps56
    go_wp2_with fail
    go_ret
    exact ⟨rfl, by go_grown⟩

set_option maxRecDepth 100000 in
set_option maxHeartbeats 2000000 in
theorem rleast_any (k : Int) (i : Nat) (hi : i ≤ 1000000) : Calls Tryd.prog 148 #[.agg #[.int .i64 k, .int .i64 o, .bool no, .int .i64 vk, .int .i64 vi, .string vt, .string t, .string nm, va, vs], .int .i64 i] w (RetBel (.int .i64 (leastR k o i)) w) := by
  by_cases h4 : k = 3 ∨ k = 4 ∨ k = 6 ∨ k = 7
  · rcases h4 with rfl | rfl | rfl | rfl
    all_goals
      go_enter Tryd.func148, Tryd.ntmps148
      go_wp2_with fail
      go_ret
      exact ⟨rfl, by go_grown⟩
  by_cases h5 : k = 5
  · subst h5
    have hr : opPrec o = 1 ∨ opPrec o = 2 ∨ opPrec o = 4 ∨ opPrec o = 5 ∨ opPrec o = 6 ∨ opPrec o = 8 := by unfold opPrec; (repeat' split) <;> simp
    have HL := Lib.hid (show leastR 5 o i = (if opPrec o = 8 then 1 else if opPrec o = 4 then 5 else opPrec o + i) from rfl)
    have hp := fun wx => rprec_any o no vk vi vt t nm va vs wx 5
    rw [show precP 5 o = opPrec o from rfl] at hp
    generalize leastR 5 o i = r at HL ⊢
    generalize opPrec o = p at HL hp hr
    clear h4
    have HP := Lib.hid hp
    clear hp
    rcases hr with rfl | rfl | rfl | rfl | rfl | rfl
    all_goals
      go_enter Tryd.func148, Tryd.ntmps148
      go_wp2_with fail
      refine (HP.out _).mono ?_
      rintro e w1 ⟨rfl, hb⟩
      have HB := Lib.hid (((Below.refl _ w).alloc (Nat.le_refl _) _).trans (hb.mono (by simp)))
      clear hb
      dsimp only
      go_wp2_with fail
      go_ret
      exact ⟨by rw [HL.out]; first | rfl | (simp; done) | (simp; omega), HB.out⟩
  · have hp : leastR k o i = 1 := by
      unfold leastR
      rw [if_neg (by omega), if_neg (by omega), if_neg (by omega), if_neg h5]
    rw [hp]
    have e3 : (k == 3) = false := by simp; omega
    have e4 : (k == 4) = false := by simp; omega
    have e5 : (k == 5) = false := by simp; omega
    have e6 : (k == 6) = false := by simp; omega
    have e7 : (k == 7) = false := by simp; omega
    clear hp h4 h5
    go_enter Tryd.func148, Tryd.ntmps148
    go_wp2_with fail
    go_ret
    exact ⟨rfl, by go_grown⟩
end
end Go.Proofs.YtppiaaolggpjdaaDoor
