/- Names, tables of queries and plain fields: contracts of the references' Letter, Digit, ValidName, source and plain. Shapes and precedences in the reference: contracts of Shape, Precedence and Least. Shapes, precedences and least precedences in the reference, for every expression. Parentheses in the reference: the contract of Wrapped. Lists in the reference: contracts of all and most, over what ValidExpr and LevelsOf answer for each. Levels in the reference: LevelsOf over arguments. Levels in the reference: LevelsOf, for every well-formed expression. Which expressions are well-formed in the reference: the ways of its ValidExpr. Which expressions are well-formed in the reference: the ways of its ValidExpr through arguments and queries. Which expressions are well-formed in the reference: the contract of its ValidExpr, for every expression. Which lists of names and which assignments are well -/
import Derived.Test.YtkhlmofcdchccaaGreatDoorKN1
import Derived.Test.YtkhlmofcdchccaaGreatDoorU03
import Derived.Test.YtkhlmofcdchccaaGreatDoorKN2
import Derived.Test.YtkhlmofcdchccaaGreatDoorU02
import Derived.Test.YtkhlmofcdchccaaGreatDoorKC1
import Derived.Test.YtkhlmofcdchccaaGreatDoorKC2
import Derived.Test.YtkhlmofcdchccaaGreatDoorU01
import Derived.Deep.RegionHeld3
import Derived.Laws.IdiomCopy
namespace Go.Proofs.YtkhlmofcdchccaaGreatDoor
open Go.RowKit

set_option maxHeartbeats 400000 in
theorem rletter_any (c : UInt8) (w : World) : Calls Tryz.prog 202 #[.int .u8 (c.toNat : Int)] w fun e w' => e = .returned (.bool (letB c)) ∧ w = w' := by
  have HQ : Hid (∀ r, (decide (97 ≤ c.toNat) && decide (c.toNat ≤ 122)) = r → letB c = r) := Lib.hid fun _ h => h
  generalize letB c = r at HQ ⊢
  generalize c.toNat = n at HQ ⊢
  go_enter Tryz.func202, Tryz.ntmps202
  go_wp2
  all_goals
    go_ret
    refine ⟨?_, rfl⟩
    rw [HQ.out _ rfl]
    first
      | (simp_all; done)
      | (rw [show decide (97 ≤ n) = false from decide_eq_false (by omega), Bool.false_and]; rfl)
      | (rw [show decide (97 ≤ n) = true from decide_eq_true (by omega), Bool.true_and]; exact congrArg (fun b => Ending.returned (.bool b)) (decide_eq_decide.2 (by omega)))

set_option maxHeartbeats 400000 in
theorem rdigit_any (c : UInt8) (w : World) : Calls Tryz.prog 203 #[.int .u8 (c.toNat : Int)] w fun e w' => e = .returned (.bool (digB c)) ∧ w = w' := by
  have HQ : Hid (∀ r, (decide (48 ≤ c.toNat) && decide (c.toNat ≤ 57)) = r → digB c = r) := Lib.hid fun _ h => h
  generalize digB c = r at HQ ⊢
  generalize c.toNat = n at HQ ⊢
  go_enter Tryz.func203, Tryz.ntmps203
  go_wp2
  all_goals
    go_ret
    refine ⟨?_, rfl⟩
    rw [HQ.out _ rfl]
    first
      | (simp_all; done)
      | (rw [show decide (48 ≤ n) = false from decide_eq_false (by omega), Bool.false_and]; rfl)
      | (rw [show decide (48 ≤ n) = true from decide_eq_true (by omega), Bool.true_and]; exact congrArg (fun b => Ending.returned (.bool b)) (decide_eq_decide.2 (by omega)))

theorem name_parts (s : ByteArray) (h1 : 1 ≤ s.size) (h12 : s.size ≤ 12) : nameB s = (letB s[0] && s.data.toList.all nchB) := by
  have hz : 0 < s.size := by omega
  have hL : s.data.toList = s[0] :: s.data.toList.tail := by
    rcases hd : s.data.toList with _ | ⟨c, l⟩
    · have h1 := congrArg List.length hd
      rw [Array.length_toList] at h1
      exact absurd (show s.size = 0 from h1) (by omega)
    · have h1 : s.data.toList[0]? = some c := by rw [hd]; rfl
      have h2 : s.data.toList[0]? = some s[0] := by simp [hz]; rfl
      rw [h1] at h2
      cases h2
      rfl
  have e1 : decide (1 ≤ s.size) = true := decide_eq_true (by omega)
  have e2 : decide (s.size ≤ 12) = true := decide_eq_true (by omega)
  unfold nameB
  rw [e1, e2, hL]
  generalize s[0] = c
  generalize s.data.toList.tail = l
  simp only [List.all_cons, List.head?_cons, Option.any_some, Bool.true_and]
  rw [Bool.and_comm]

set_option maxHeartbeats 1000000 in
theorem rvalidName_any (s : ByteArray) (w : World) (hs : s.size ≤ maxLen) : Calls Tryz.prog 175 #[.string s] w fun e w' => e = .returned (.bool (nameB s)) ∧ w = w' := by
  unfold maxLen at hs
  by_cases h0 : s.size < 1
  · have hn : Hid (nameB s = false) := Lib.hid (by unfold nameB; simp; omega)
    have h0' : ((s.size : Int) < 1) := by omega
    clear h0
    go_enter Tryz.func175, Tryz.ntmps175
    go_wp2_with fail
    go_ret
    exact ⟨ret_b hn.out.symm, rfl⟩
  · by_cases h12 : 12 < s.size
    · have hn : Hid (nameB s = false) := Lib.hid (by unfold nameB; simp; omega)
      have h12' : ((12 : Int) < s.size) := by omega
      go_enter Tryz.func175, Tryz.ntmps175
      go_wp2_with fail
      go_ret
      exact ⟨ret_b hn.out.symm, rfl⟩
    · have h0' : ¬ ((s.size : Int) < 1) := by omega
      have h12' : ¬ ((12 : Int) < s.size) := by omega
      have hz : 0 < s.size := by omega
      have HN := Lib.hid (name_parts s (by omega) (by omega))
      cases hl : letB s[0]
      · have hn : Hid (nameB s = false) := Lib.hid (by rw [HN.out, hl]; rfl)
        have HL := Lib.hid hl
        clear hl
        go_enter Tryz.func175, Tryz.ntmps175
        go_wp2_with fail
        refine (rletter_any _ _).mono ?_
        rintro e w1 ⟨rfl, rfl⟩
        dsimp only
        rw [HL.out]
        go_wp2_with fail
        go_ret
        exact ⟨ret_b hn.out.symm, rfl⟩
      · have HL := Lib.hid hl
        clear hl
        go_enter Tryz.func175, Tryz.ntmps175
        go_wp2_with fail
        refine (rletter_any _ _).mono ?_
        rintro e w1 ⟨rfl, rfl⟩
        dsimp only
        rw [HL.out]
        go_wp2_with fail
        go_loop [3] (fun i => ∃ j : Nat, j ≤ s.size ∧ i = .int .i64 j ∧ ∀ (m : Nat) (hm : m < s.size), m < j → nchB s[m] = true) (fun i => s.size - (intOf i).toNat)
        case atStart => exact ⟨0, Nat.zero_le _, rfl, fun m _ h => absurd h (by omega)⟩
        case round =>
          obtain ⟨j, hj, rfl, hno⟩ := hrel
          have HNO := Lib.hid hno
          clear hno
          by_cases hlt : j < s.size
          · have HQ : Hid (∀ b, (letB s[j] || digB s[j] || s[j].toNat == 95) = b → nchB s[j] = b) := Lib.hid fun b h => h
            have HS : Hid (nchB s[j] = false → nameB s = false) := Lib.hid fun h => by
              rw [HN.out, show s.data.toList.all nchB = false from List.all_eq_false.2 ⟨s[j], List.mem_iff_getElem.2 ⟨j, by simpa using hlt, rfl⟩, by simp [h]⟩, Bool.and_false]
            have HA := Lib.hid fun wx => rletter_any s[j] wx
            have HD := Lib.hid fun wx => rdigit_any s[j] wx
            generalize hnc : nchB s[j] = nc at HQ HS
            have HNC := Lib.hid hnc
            clear hnc
            generalize letB s[j] = bl at HA HQ
            generalize digB s[j] = bd at HD HQ
            cases bl
            · cases bd
              · go_wp2_with (first
                  | ((go_at_call 202); (refine (HA.out _).mono ?_); rintro e w2 ⟨rfl, rfl⟩)
                  | ((go_at_call 203); (refine (HD.out _).mono ?_); rintro e w2 ⟨rfl, rfl⟩))
                all_goals first
                  | (go_ret
                     refine ⟨ret_b (HS.out (HQ.out false ?_)).symm, rfl⟩
                     simp_all <;> omega)
                  | (go_round
                     case rel =>
                       refine ⟨j + 1, by omega, by go_num, fun m hm h => ?_⟩
                       by_cases e : m = j
                       · subst e
                         rw [HNC.out]
                         refine HQ.out true ?_
                         simp_all <;> omega
                       · exact HNO.out m hm (by omega)
                     case measure => simp [intOf]; omega)
              · go_wp2_with (first
                  | ((go_at_call 202); (refine (HA.out _).mono ?_); rintro e w2 ⟨rfl, rfl⟩)
                  | ((go_at_call 203); (refine (HD.out _).mono ?_); rintro e w2 ⟨rfl, rfl⟩))
                go_round
                case rel =>
                  refine ⟨j + 1, by omega, by go_num, fun m hm h => ?_⟩
                  by_cases e : m = j
                  · subst e
                    rw [HNC.out]
                    exact HQ.out true (by simp)
                  · exact HNO.out m hm (by omega)
                case measure => simp [intOf]; omega
            · go_wp2_with (first
                | ((go_at_call 202); (refine (HA.out _).mono ?_); rintro e w2 ⟨rfl, rfl⟩)
                | ((go_at_call 203); (refine (HD.out _).mono ?_); rintro e w2 ⟨rfl, rfl⟩))
              go_round
              case rel =>
                refine ⟨j + 1, by omega, by go_num, fun m hm h => ?_⟩
                by_cases e : m = j
                · subst e
                  rw [HNC.out]
                  exact HQ.out true (by simp)
                · exact HNO.out m hm (by omega)
              case measure => simp [intOf]; omega
          · have hall : s.data.toList.all nchB = true := by
              rw [List.all_eq_true]
              intro c hc
              obtain ⟨m, hm, rfl⟩ := List.mem_iff_getElem.1 hc
              exact HNO.out m (by simpa using hm) (by have : m < s.size := by simpa using hm
                                                      omega)
            have hn : Hid (nameB s = true) := Lib.hid (by rw [HN.out, hall, HL.out]; rfl)
            clear hall
            go_wp2_with fail
            go_ret
            exact ⟨ret_b hn.out.symm, rfl⟩

end Go.Proofs.YtkhlmofcdchccaaGreatDoor

namespace Go.Proofs.YtkhlmofcdchccaaGreatDoor
open Go.RowKit

section
variable (o : Int) (no : Bool) (vk vi : Int) (vt t nm : ByteArray) (a s : Option Addr) (an ac sn sc : Nat) (w : World)

end
end Go.Proofs.YtkhlmofcdchccaaGreatDoor

namespace Go.Proofs.YtkhlmofcdchccaaGreatDoor
open Go.RowKit

section
variable (o : Int) (no : Bool) (vk vi : Int) (vt t nm : ByteArray) (va vs : Value) (w : World)

end
end Go.Proofs.YtkhlmofcdchccaaGreatDoor

namespace Go.Proofs.YtkhlmofcdchccaaGreatDoor
open Go.RowKit

end Go.Proofs.YtkhlmofcdchccaaGreatDoor

namespace Go.Proofs.YtkhlmofcdchccaaGreatDoor
open Go.RowKit

end Go.Proofs.YtkhlmofcdchccaaGreatDoor
namespace Go.Proofs.YtkhlmofcdchccaaGreatDoor
open Go.RowKit

end Go.Proofs.YtkhlmofcdchccaaGreatDoor

namespace Go.Proofs.YtkhlmofcdchccaaGreatDoor
open Go.RowKit

end Go.Proofs.YtkhlmofcdchccaaGreatDoor

namespace Go.Proofs.YtkhlmofcdchccaaGreatDoor
open Go.RowKit

section
variable (k o : Int) (no : Bool) (vk vi : Int) (vt t nm : ByteArray) (a s : Option Addr) (an ac sn sc : Nat) (w : World)

end
end Go.Proofs.YtkhlmofcdchccaaGreatDoor

namespace Go.Proofs.YtkhlmofcdchccaaGreatDoor
open Go.RowKit

section
variable (k o : Int) (no : Bool) (vk vi : Int) (vt t nm : ByteArray) (a s : Option Addr) (an ac sn sc : Nat) (w : World)

end
end Go.Proofs.YtkhlmofcdchccaaGreatDoor

namespace Go.Proofs.YtkhlmofcdchccaaGreatDoor
open Go.RowKit

end Go.Proofs.YtkhlmofcdchccaaGreatDoor
namespace Go.Proofs.YtkhlmofcdchccaaGreatDoor
open Go.RowKit

end Go.Proofs.YtkhlmofcdchccaaGreatDoor
namespace Go.Proofs.YtkhlmofcdchccaaGreatDoor
open Go.RowKit

set_option maxHeartbeats 1000000 in
theorem schema_log (w : World) : Calls Tryz.prog 11 #[.string ⟨#[108, 111, 103]⟩] w (SchPost schLog w) := by
  go_enter Tryz.func11, Tryz.ntmps11
  go_wp2_with fail
  refine (schemas_any _).mono ?_
  rintro e w1 ⟨v, rfl, hs, hb⟩
  obtain ⟨b, o, cap, vc0, vc1, vc2, rfl, hbs, hc0, hc1, hc2, a0, a1, a2, a3, a4, a5⟩ := schs3_open hs
  obtain ⟨x0, y0, rfl, _⟩ := hc0.shape
  obtain ⟨x1, y1, rfl, _⟩ := hc1.shape
  obtain ⟨x2, y2, rfl, _⟩ := hc2.shape
  obtain ⟨k1, k2, k3⟩ := bcell hb
  simp only [World.size_alloc] at k1 k2 k3
  have k4 : w.heap.size < w1.heap.size := by omega
  have HB := Lib.hid hb
  have H0 := Lib.hid hc0
  clear hs hb hc0 hc1 hc2
  go_wp2_with fail
  go_rounds 3
  refine bodyPost_ret (v := .agg #[.string ⟨#[108, 111, 103]⟩, .slice x0 schLog.cols.length y0]) (by simp [results, Tryz.results11, go_sem, k1, k4]) rfl ⟨_, rfl, ?_, ?_⟩
  · refine ColsR.weak (M := Out (w.heap.size + 1) w1.heap.size) ?_ (ColsR.keep (w := w1) (by simpa using H0.out) ?_)
    · intro k hk h; unfold Out at h ⊢; simp at h hk; omega
    · refine Keep.alloc (Keep.setCell (Keep.setCell (Keep.refl _ _) ?_ _) ?_ _) _ <;> (intro _; unfold Out; simp)
  · have := HB.out
    have h0 : Below w.heap.size w w1 := ((Below.refl _ w).alloc (Nat.le_refl _) _).trans (this.mono (by simp))
    clear k1 k2
    go_grown

theorem schema_any (s : Sch) (hs : s ∈ schs3) (w : World) : Calls Tryz.prog 11 #[.string s.name] w (SchPost s w) := by
  simp only [schs3, List.mem_cons, List.not_mem_nil, or_false] at hs
  rcases hs with rfl | rfl | rfl
  · exact schema_log w
  · exact schema_t w
  · exact schema_u w

def tabAt (i : Nat) : Sch := if i = 0 then schT else if i = 1 then schU else schLog
theorem tabAt_mem (i : Nat) : tabAt i ∈ schs3 := by
  unfold tabAt
  split
  · simp [schs3]
  · split <;> simp [schs3]
theorem tab_cell (W : World) (t : TypeId) (i : Nat) (h : i < 3) : (W.alloc (.cells #[.string ⟨#[116]⟩, .string ⟨#[117]⟩, .string ⟨#[108, 111, 103]⟩] t)).cell? ⟨W.heap.size, i, none⟩ = some (.string (tabAt i).name) := by
  have h' : i = 0 ∨ i = 1 ∨ i = 2 := by omega
  rcases h' with rfl | rfl | rfl <;> simp [tabAt] <;> rfl

def TabQ (v : Value) (_ : World) : Prop := ∃ s, s ∈ schs3 ∧ v = .string s.name
set_option maxHeartbeats 1000000 in
theorem table_any (T : Nat) (w : World) (ht : TapeOk T w) : Calls Tryz.prog 10 #[.pointer (some ⟨T, 0, none⟩)] w (Gives T w TabQ) := by
  have hTw := ht.lt
  have HT := Lib.hid ht
  clear ht
  go_enter Tryz.func10, Tryz.ntmps10
  go_wp2_with fail
  refine (next_any T 3 _ (by omega) (by omega) (HT.out.alloc _)).mono ?_
  rintro e w1 ⟨v, rfl, ⟨r, rfl, hr0, hr1⟩, ht, hk⟩
  obtain ⟨j, rfl⟩ := Int.eq_ofNat_of_zero_le hr0
  have hj : j < 3 := by omega
  have hfc : w1.cell? ⟨w.heap.size, j, none⟩ = some (.string (tabAt j).name) := (hk.cell (by simp) (fun h => by unfold At at h; omega)).trans (tab_cell w _ j hj)
  have HK := Lib.hid (((Keep.refl (At T) w).alloc _).trans hk)
  have HT1 := Lib.hid ht
  clear ht hk
  dsimp only
  go_wp2_with fail
  go_ret
  exact ⟨_, rfl, ⟨tabAt j, tabAt_mem j, rfl⟩, HT1.out, HK.out⟩
end Go.Proofs.YtkhlmofcdchccaaGreatDoor
namespace Go.Proofs.YtkhlmofcdchccaaGreatDoor
open Go.RowKit

end Go.Proofs.YtkhlmofcdchccaaGreatDoor
namespace Go.Proofs.YtkhlmofcdchccaaGreatDoor
open Go.RowKit

section
variable (n1 n2 n3 : ByteArray) (bf each : Bool) (r : Int) (h0 : 0 ≤ r) (h1 : r < 3) (o1 o2 o3 o4 o5 o6 : Option Addr) (l1 l2 l3 l4 l5 l6 c1 c2 c3 c4 c5 c6 : Nat) (s : ByteArray) (ca : Option Addr) (cc : Nat) (cols : List Col) (w : World) (hc : ColsR NoM w (.slice ca cols.length cc) cols) (hN : cols.length ≤ 1000)
include h0 h1 hc hN
end
end Go.Proofs.YtkhlmofcdchccaaGreatDoor
namespace Go.Proofs.YtkhlmofcdchccaaGreatDoor
open Go.RowKit

theorem blk11 {w : World} {S : Nat} {a0 a1 a2 a3 a4 a5 a6 a7 a8 a9 a10 : Value} {e : TypeId} (h : w.heap[S]? = some (.cells #[a0, a1, a2, a3, a4, a5, a6, a7, a8, a9, a10] e (0, 0))) :
    w.cell? ⟨S, 0, none⟩ = some a0 ∧ w.cell? ⟨S, 1, none⟩ = some a1 ∧ w.cell? ⟨S, 2, none⟩ = some a2 ∧ w.cell? ⟨S, 3, none⟩ = some a3 ∧ w.cell? ⟨S, 4, none⟩ = some a4 ∧ w.cell? ⟨S, 5, none⟩ = some a5 ∧ w.cell? ⟨S, 6, none⟩ = some a6 ∧ w.cell? ⟨S, 7, none⟩ = some a7 ∧ w.cell? ⟨S, 8, none⟩ = some a8 ∧ w.cell? ⟨S, 9, none⟩ = some a9 ∧ w.cell? ⟨S, 10, none⟩ = some a10 ∧
    (∀ i, w.frozen? ⟨S, i, none⟩ = false) ∧ S < w.heap.size := by
  refine ⟨by simp [World.cell?, h], by simp [World.cell?, h], by simp [World.cell?, h], by simp [World.cell?, h], by simp [World.cell?, h], by simp [World.cell?, h], by simp [World.cell?, h], by simp [World.cell?, h], by simp [World.cell?, h], by simp [World.cell?, h], by simp [World.cell?, h], fun i => by simp [World.frozen?, h], (Array.getElem?_eq_some_iff.1 h).1⟩

end Go.Proofs.YtkhlmofcdchccaaGreatDoor
namespace Go.Proofs.YtkhlmofcdchccaaGreatDoor
open Go.RowKit

end Go.Proofs.YtkhlmofcdchccaaGreatDoor
namespace Go.Proofs.YtkhlmofcdchccaaGreatDoor
open Go.RowKit

end Go.Proofs.YtkhlmofcdchccaaGreatDoor
namespace Go.Proofs.YtkhlmofcdchccaaGreatDoor
open Go.RowKit

/-- An expression of depth at most n whose texts a machine can hold. -/
inductive Dep : Nat → Ex → Prop
  | mk (n : Nat) (e : Ex) (hv : e.val.text.size ≤ maxLen) (ht : e.table.size ≤ maxLen) (hn : e.name.size ≤ maxLen) (hf : ∀ q ∈ e.sub, q.frm.size ≤ maxLen)
      (ha : ∀ a ∈ e.args, Dep n a) (hi : ∀ q ∈ e.sub, ∀ x ∈ q.items, Dep n x) (hw : ∀ q ∈ e.sub, ∀ x ∈ q.whr, Dep n x) : Dep (n + 1) e

theorem Dep.txt {n : Nat} {e : Ex} (h : Dep n e) : TxtOk e := by
  induction h with
  | mk n e hv ht hn hf ha hi hw iha ihi ihw => exact .mk e hv ht hn iha hf ihi ihw

theorem Dep.up {n m : Nat} {e : Ex} (h : Dep n e) (hm : n ≤ m) : Dep m e := by
  induction h generalizing m with
  | mk n e hv ht hn hf ha hi hw iha ihi ihw =>
    obtain ⟨m, rfl⟩ : ∃ j, m = j + 1 := ⟨m - 1, by omega⟩
    exact .mk m e hv ht hn hf (fun a h => iha a h (by omega)) (fun q hq x hx => ihi q hq x hx (by omega)) (fun q hq x hx => ihw q hq x hx (by omega))

end Go.Proofs.YtkhlmofcdchccaaGreatDoor
namespace Go.Proofs.YtkhlmofcdchccaaGreatDoor
open Go.RowKit

theorem keep_setCells {C : Nat} : ∀ (vs : List Value) (o : Nat) (w : World), Keep (At C) w (w.setCells C o vs)
  | [], _, w => Keep.refl _ w
  | v :: vs, o, w => ((Keep.refl (At C) w).setCell (p := ⟨C, o, none⟩) (fun _ => rfl) v).trans (keep_setCells vs (o + 1) _)
def SpB (T : Nat) (w W : World) (k o : Int) (no : Bool) (vk vi : Int) (vt t nm : ByteArray) (va vs : Value) : Prop :=
  TapeOk T W ∧ Keep (At T) w W ∧ W.heap[w.heap.size]? = some (.cells #[.int .i64 k, .int .i64 o, .bool no, .int .i64 vk, .int .i64 vi, .string vt, .string t, .string nm, va, vs] 30 (0, 0)) ∧
    W.heap[w.heap.size + 1]? = some (.cells #[.int .i64 0, .int .i64 0, .bool false, .int .i64 0, .int .i64 0, .string ⟨#[]⟩, .string ⟨#[]⟩, .string ⟨#[]⟩, .slice none 0 0, .slice none 0 0] 30 (0, 0))

section
variable {T : Nat} {w W W' : World} {k o : Int} {no : Bool} {vk vi : Int} {vt t nm : ByteArray} {va vs : Value}
theorem SpB.lt (h : SpB T w W k o no vk vi vt t nm va vs) : w.heap.size + 1 < W.heap.size := (Array.getElem?_eq_some_iff.1 h.2.2.2).1
theorem SpB.tape (h : SpB T w W k o no vk vi vt t nm va vs) : TapeOk T W := h.1
theorem SpB.kept (h : SpB T w W k o no vk vi vt t nm va vs) : Keep (At T) w W := h.2.1
theorem SpB.then {N : Nat → Prop} (h : SpB T w W k o no vk vi vt t nm va vs) (hT : T < w.heap.size) (kp : Keep N W W') (hN : ∀ i, i ≤ w.heap.size + 1 → ¬ N i) : SpB T w W' k o no vk vi vt t nm va vs :=
  ⟨h.1.keep kp fun i hi => hN i (by omega), h.2.1.then kp fun i hi hh => absurd hh (hN i (by omega)),
    (kp.block _ (by have := h.lt; omega) (hN _ (by omega))).trans h.2.2.1, (kp.block _ h.lt (hN _ (by omega))).trans h.2.2.2⟩
theorem SpB.step (h : SpB T w W k o no vk vi vt t nm va vs) (hT : T < w.heap.size) (ht : TapeOk T W') (hk : Keep (At T) W W') : SpB T w W' k o no vk vi vt t nm va vs :=
  ⟨ht, h.2.1.trans hk, (hk.block _ (by have := h.lt; omega) fun hh => by unfold At at hh; omega).trans h.2.2.1, (hk.block _ h.lt fun hh => by unfold At at hh; omega).trans h.2.2.2⟩
theorem SpB.bel (h : SpB T w W k o no vk vi vt t nm va vs) (hT : T < w.heap.size) (hb : Below W.heap.size W W') : SpB T w W' k o no vk vi vt t nm va vs := h.step hT (h.1.bel hb) (.bel hb)
theorem SpB.alloc (h : SpB T w W k o no vk vi vt t nm va vs) (hT : T < w.heap.size) (ob : Obj) : SpB T w (W.alloc ob) k o no vk vi vt t nm va vs := h.bel hT ((Below.refl _ _).alloc (Nat.le_refl _) ob)
theorem SpB.drew (h : SpB T w W k o no vk vi vt t nm va vs) : SpB T w W.drew k o no vk vi vt t nm va vs := ⟨h.1, h.2.1.drew, h.2.2⟩
theorem SpB.cells (h : SpB T w W k o no vk vi vt t nm va vs) : W.cell? ⟨w.heap.size, 0, none⟩ = some (.int .i64 k) ∧ W.cell? ⟨w.heap.size, 1, none⟩ = some (.int .i64 o) ∧ W.cell? ⟨w.heap.size, 2, none⟩ = some (.bool no) ∧ W.cell? ⟨w.heap.size, 3, none⟩ = some (.int .i64 vk) ∧ W.cell? ⟨w.heap.size, 4, none⟩ = some (.int .i64 vi) ∧
    W.cell? ⟨w.heap.size, 5, none⟩ = some (.string vt) ∧ W.cell? ⟨w.heap.size, 6, none⟩ = some (.string t) ∧ W.cell? ⟨w.heap.size, 7, none⟩ = some (.string nm) ∧ W.cell? ⟨w.heap.size, 8, none⟩ = some va ∧ W.cell? ⟨w.heap.size, 9, none⟩ = some vs ∧ (∀ i, W.frozen? ⟨w.heap.size, i, none⟩ = false) ∧ w.heap.size < W.heap.size := blk10 h.2.2.1
theorem SpB.res (h : SpB T w W k o no vk vi vt t nm va vs) : W.cell? ⟨w.heap.size + 1, 0, none⟩ = some (.int .i64 0) ∧ W.cell? ⟨w.heap.size + 1, 1, none⟩ = some (.int .i64 0) ∧ W.cell? ⟨w.heap.size + 1, 2, none⟩ = some (.bool false) ∧ W.cell? ⟨w.heap.size + 1, 3, none⟩ = some (.int .i64 0) ∧ W.cell? ⟨w.heap.size + 1, 4, none⟩ = some (.int .i64 0) ∧
    W.cell? ⟨w.heap.size + 1, 5, none⟩ = some (.string ⟨#[]⟩) ∧ W.cell? ⟨w.heap.size + 1, 6, none⟩ = some (.string ⟨#[]⟩) ∧ W.cell? ⟨w.heap.size + 1, 7, none⟩ = some (.string ⟨#[]⟩) ∧ W.cell? ⟨w.heap.size + 1, 8, none⟩ = some (.slice none 0 0) ∧ W.cell? ⟨w.heap.size + 1, 9, none⟩ = some (.slice none 0 0) ∧
    (∀ i, W.frozen? ⟨w.heap.size + 1, i, none⟩ = false) ∧ w.heap.size + 1 < W.heap.size := blk10 h.2.2.2
/-- A field is stored. -/
theorem SpB.put (h : SpB T w W k o no vk vi vt t nm va vs) (hT : T < w.heap.size) (i : Nat) (u : Value) : TapeOk T (W.setCell ⟨w.heap.size, i, none⟩ u) ∧ Keep (At T) w (W.setCell ⟨w.heap.size, i, none⟩ u) ∧ (W.setCell ⟨w.heap.size, i, none⟩ u).heap[w.heap.size + 1]? = W.heap[w.heap.size + 1]? := by
  have ks : Keep (At w.heap.size) W (W.setCell ⟨w.heap.size, i, none⟩ u) := (Keep.refl (At w.heap.size) W).setCell (p := ⟨w.heap.size, i, none⟩) (fun _ => rfl) u
  exact ⟨h.1.keep ks fun j hj hh => by unfold At at hh; omega, h.2.1.then ks fun j hj hh => by unfold At at hh; omega, ks.block _ h.lt fun hh => by unfold At at hh; omega⟩
theorem SpB.set1 (h : SpB T w W k o no vk vi vt t nm va vs) (hT : T < w.heap.size) (u : Int) : SpB T w (W.setCell ⟨w.heap.size, 1, none⟩ (.int .i64 u)) k u no vk vi vt t nm va vs :=
  let ⟨a, b, c⟩ := h.put hT 1 (.int .i64 u); ⟨a, b, by simp [World.setCell, Array.getElem?_modify, h.2.2.1], c.trans h.2.2.2⟩
end

section
variable {n : Nat} {k o : Int} {no : Bool} {v : Val} {t nm : ByteArray} {args : List Ex} {sub : List Qu}
end

theorem ec_one {M : Nat → Prop} {w : World} {e : Ex} {cs : List Value} (h : EC M w e cs) : ∀ u ∈ cs, u.oneCell' = true := by
  obtain ⟨va, vs, rfl, ha, hs⟩ := (EC_iff ..).1 h
  obtain ⟨a, ac, rfl, _⟩ := ha.shape
  obtain ⟨s, sc, rfl, _⟩ := hs.shape
  intro u hu
  simp only [exCells, List.mem_cons, List.not_mem_nil, or_false] at hu
  rcases hu with rfl | rfl | rfl | rfl | rfl | rfl | rfl | rfl | rfl | rfl <;> rfl
/-- The block that an owned list lies in. -/
theorem RowsO.at {α : Type} {lo : Nat} {w : World} {e : TypeId} {size : Nat} {R : α → List Value → Prop} {v : Value} {xs : List α} (h : RowsO lo w e size R v xs) (hx : xs ≠ []) : ∃ g cap, v = .slice (some ⟨g, 0, none⟩) xs.length cap ∧ lo ≤ g ∧ g < w.heap.size ∧ ∀ i, w.frozen? ⟨g, i, none⟩ = false := by
  obtain ⟨css, ⟨h1, h2⟩, hl, _⟩ := h
  rcases h2 with ⟨_, h2⟩ | ⟨g, cap, cur, hv, hg, hh, _⟩
  · exact absurd (List.eq_nil_of_length_eq_zero (by omega)) hx
  · refine ⟨g, cap, by rw [hv, hl], hg, (Array.getElem?_eq_some_iff.1 hh).1, fun i => ?_⟩
    simp [World.frozen?, hh]
theorem ecStable : Stable (fun M w (e : Ex) cs => EC M w e cs) where
  keep := fun h k => EC.keep k _ _ h
  weak := fun h hM => EC.weak hM _ _ h
  one := fun h => ec_one h
section
variable {α : Type} {P : Program} {ops : Array Oper} {rest : List Oper} {o : Oper} {a : Act} {Q : Exit → Act → World → Prop} {Rr : (Nat → Prop) → World → α → List Value → Prop} {w : World}
end

end Go.Proofs.YtkhlmofcdchccaaGreatDoor
namespace Go.Proofs.YtkhlmofcdchccaaGreatDoor
open Go.RowKit

/-- A block of one's own with its cells. -/
structure OwnBlk where
  pos : Nat
  cells : Array Value
  ty : TypeId

/-- The tape, the elder world, and the own blocks. -/
structure OB (T : Nat) (w W : World) (L : List OwnBlk) : Prop where
  lo : T < w.heap.size
  tape : TapeOk T W
  kept : Keep (At T) w W
  blks : ∀ b ∈ L, w.heap.size ≤ b.pos ∧ W.heap[b.pos]? = some (.cells b.cells b.ty (0, 0))

section
variable {T : Nat} {w W W' : World} {L L' : List OwnBlk}
theorem OB.start (h : TapeOk T w) : OB T w w [] := ⟨h.lt, h, .refl _ _, fun _ h => by cases h⟩
theorem OB.size (h : OB T w W L) : w.heap.size ≤ W.heap.size := h.kept.size
theorem OB.blk (h : OB T w W L) {b : OwnBlk} (hb : b ∈ L) : W.heap[b.pos]? = some (.cells b.cells b.ty (0, 0)) := (h.blks b hb).2
theorem OB.blt (h : OB T w W L) {b : OwnBlk} (hb : b ∈ L) : b.pos < W.heap.size := (Array.getElem?_eq_some_iff.1 (h.blk hb)).1
theorem OB.then {N : Nat → Prop} (h : OB T w W L) (k : Keep N W W') (h0 : ∀ i, i < w.heap.size → ¬ N i) (h1 : ∀ b ∈ L, ¬ N b.pos) : OB T w W' L :=
  ⟨h.lo, h.tape.keep k fun i hi => h0 i (by have := h.lo; omega), h.kept.then k fun i hi hn => absurd hn (h0 i hi), fun b hb => ⟨(h.blks b hb).1, (k.block _ (h.blt hb) (h1 b hb)).trans (h.blk hb)⟩⟩
theorem OB.step (h : OB T w W L) (ht : TapeOk T W') (k : Keep (At T) W W') : OB T w W' L :=
  ⟨h.lo, ht, h.kept.trans k, fun b hb => ⟨(h.blks b hb).1, (k.block _ (h.blt hb) fun e => by have := (h.blks b hb).1; have := h.lo; unfold At at e; omega).trans (h.blk hb)⟩⟩
theorem OB.bel (h : OB T w W L) (hb : Below W.heap.size W W') : OB T w W' L := h.step (h.tape.bel hb) (.bel hb)
theorem OB.alloc (h : OB T w W L) (o : Obj) : OB T w (W.alloc o) L := h.bel ((Below.refl _ _).alloc (Nat.le_refl _) o)
theorem OB.drew (h : OB T w W L) : OB T w W.drew L := ⟨h.lo, h.tape.drew, h.kept.drew, h.blks⟩
theorem OB.new (h : OB T w W L) (cs : Array Value) (e : TypeId) : OB T w (W.alloc (.cells cs e)) (⟨W.heap.size, cs, e⟩ :: L) :=
  ⟨h.lo, (h.alloc _).tape, (h.alloc _).kept, fun b hb => by
    rcases List.mem_cons.1 hb with rfl | hb
    · exact ⟨h.size, heap_alloc_new W _⟩
    · exact (h.alloc _).blks b hb⟩
/-- A block that is known besides. -/
theorem OB.add (h : OB T w W L) {g : Nat} {cs : Array Value} {e : TypeId} (hg : w.heap.size ≤ g) (hb : W.heap[g]? = some (.cells cs e (0, 0))) : OB T w W (⟨g, cs, e⟩ :: L) :=
  ⟨h.lo, h.tape, h.kept, fun b hm => by
    rcases List.mem_cons.1 hm with rfl | hm
    · exact ⟨hg, hb⟩
    · exact h.blks b hm⟩
theorem OB.new' (h : OB T w W L) {g : Nat} (hg : g = W.heap.size) (cs : Array Value) (e : TypeId) : OB T w (W.alloc (.cells cs e)) (⟨g, cs, e⟩ :: L) := hg ▸ h.new cs e
theorem OB.sub (h : OB T w W L) (hL : ∀ b ∈ L', b ∈ L) : OB T w W L' := ⟨h.lo, h.tape, h.kept, fun b hb => h.blks b (hL b hb)⟩
/-- One cell of the first block is written. -/
theorem OB.put {p : Nat} {c c' : Array Value} {e : TypeId} (h : OB T w W (⟨p, c, e⟩ :: L)) (i : Nat) (u : Value) (hc : (W.setCell ⟨p, i, none⟩ u).heap[p]? = some (.cells c' e (0, 0))) (hL : ∀ b ∈ L, b.pos ≠ p) : OB T w (W.setCell ⟨p, i, none⟩ u) (⟨p, c', e⟩ :: L) := by
  have k : Keep (At p) W (W.setCell ⟨p, i, none⟩ u) := (Keep.refl (At p) W).setCell (p := ⟨p, i, none⟩) (fun _ => rfl) u
  have hp := (h.blks ⟨p, c, e⟩ (List.mem_cons_self ..)).1
  have h2 : OB T w W L := h.sub fun b hb => List.mem_cons_of_mem _ hb
  have h3 := h2.then k (fun j hj e => by unfold At at e; dsimp only at hp; omega) (fun b hb e => hL b hb e)
  exact ⟨h3.lo, h3.tape, h3.kept, fun b hb => by
    rcases List.mem_cons.1 hb with rfl | hb
    · exact ⟨hp, hc⟩
    · exact h3.blks b hb⟩
/-- An elder block is as it was. -/
theorem OB.old (h : OB T w W L) {k : Nat} (hk : k < w.heap.size) (hT : k ≠ T) : W.heap[k]? = w.heap[k]? := h.kept.block _ hk hT
/-- The call's end. -/
theorem OB.gives (h : OB T w W L) {v : Value} {Q : Value → World → Prop} (hq : Q v W) : Gives T w Q (.returned v) W := ⟨v, rfl, hq, h.tape, h.kept⟩
end
end Go.Proofs.YtkhlmofcdchccaaGreatDoor
namespace Go.Proofs.YtkhlmofcdchccaaGreatDoor
open Go.RowKit

section
variable {T : Nat} {vf vt : Value} {w wi wj : World}
end

section
variable {T p h : Nat} {vf vt pv vi : Value} {w W W' : World} {fs : List Frm} {st : Bool} {frm : ByteArray} {items : List Ex}
end

/-- A query of a select, well-formed. -/
def QG (n : Nat) (q : Qu) : Prop := (∀ x ∈ q.items, GX n x) ∧ (∀ x ∈ q.whr, GX n x) ∧ q.whr.length ≤ 1 ∧ sourceB q.frm = true ∧ q.star = (q.items.length == 0)
end Go.Proofs.YtkhlmofcdchccaaGreatDoor
namespace Go.Proofs.YtkhlmofcdchccaaGreatDoor
open Go.RowKit

end Go.Proofs.YtkhlmofcdchccaaGreatDoor
namespace Go.Proofs.YtkhlmofcdchccaaGreatDoor
open Go.RowKit

end Go.Proofs.YtkhlmofcdchccaaGreatDoor
namespace Go.Proofs.YtkhlmofcdchccaaGreatDoor
open Go.RowKit

end Go.Proofs.YtkhlmofcdchccaaGreatDoor
namespace Go.Proofs.YtkhlmofcdchccaaGreatDoor
open Go.RowKit

def TX (T X : Nat) (k : Nat) : Prop := k = T ∨ k = X
/-- A trigger's block beside the tape. -/
structure CB (T X : Nat) (c : Array Value) (w W : World) : Prop where
  tape : TapeOk T W
  keep : Keep (TX T X) w W
  blk : W.heap[X]? = some (.cells c 52 (0, 0))

theorem CB.bel {T X : Nat} {c : Array Value} {w W W' : World} (h : CB T X c w W) (hb : Below W.heap.size W W') : CB T X c w W' :=
  ⟨h.tape.bel hb, h.keep.trans (.bel hb), (hb.block _ (Array.getElem?_eq_some_iff.1 h.blk).1).trans h.blk⟩
theorem CB.step {T X : Nat} {c : Array Value} {w W W' : World} (h : CB T X c w W) (hX : T < X) (ht : TapeOk T W') (hk : Keep (At T) W W') : CB T X c w W' :=
  ⟨ht, h.keep.trans (hk.weak fun _ _ h => .inl h), (hk.block _ (Array.getElem?_eq_some_iff.1 h.blk).1 (fun h => by unfold At at h; omega)).trans h.blk⟩
theorem CB.drew {T X : Nat} {c : Array Value} {w W : World} (h : CB T X c w W) : CB T X c w W.drew := ⟨h.tape.drew, h.keep.drew, h.blk⟩
theorem CB.alloc {T X : Nat} {c : Array Value} {w W : World} (h : CB T X c w W) (o : Obj) : CB T X c w (W.alloc o) := h.bel ((Below.refl _ _).alloc (Nat.le_refl _) o)
theorem CB.put {T X : Nat} {c c' : Array Value} {w W : World} (h : CB T X c w W) (hX : T < X) (i : Nat) (u : Value) (hc : (W.setCell ⟨X, i, none⟩ u).heap[X]? = some (.cells c' 52 (0, 0))) : CB T X c' w (W.setCell ⟨X, i, none⟩ u) :=
  ⟨h.tape.keep ((Keep.refl (At X) W).setCell (p := ⟨X, i, none⟩) (fun _ => rfl) u) (fun k hk h => by unfold At at h; omega), h.keep.setCell (p := ⟨X, i, none⟩) (fun _ => .inr rfl) u, hc⟩
/-- The same, and the priority's one row. -/
structure CR (T X g : Nat) (c : Array Value) (rk : RankX) (w W : World) : Prop where
  cb : CB T X c w W
  row : W.heap[g]? = some (.cells #[.string rk.table, .string rk.col, .int .i64 rk.low, .int .i64 rk.high] 170 (0, 0))
  rows : RanksR (Old w.heap.size) W (.slice (some ⟨g, 0, none⟩) 1 1) [rk]
theorem CR.size {T X g : Nat} {c : Array Value} {rk : RankX} {w W : World} (h : CR T X g c rk w W) : w.heap.size ≤ W.heap.size := h.cb.keep.size
theorem CR.bel {T X g : Nat} {c : Array Value} {rk : RankX} {w W W' : World} (h : CR T X g c rk w W) (hb : Below W.heap.size W W') : CR T X g c rk w W' :=
  ⟨h.cb.bel hb, (hb.block _ (Array.getElem?_eq_some_iff.1 h.row).1).trans h.row, RanksR.keep (M := Old w.heap.size) (.bel hb) h.rows⟩
theorem CR.alloc {T X g : Nat} {c : Array Value} {rk : RankX} {w W : World} (h : CR T X g c rk w W) (o : Obj) : CR T X g c rk w (W.alloc o) := h.bel ((Below.refl _ _).alloc (Nat.le_refl _) o)
theorem CR.drew {T X g : Nat} {c : Array Value} {rk : RankX} {w W : World} (h : CR T X g c rk w W) : CR T X g c rk w W.drew := ⟨h.cb.drew, h.row, RanksR.keep (M := Old w.heap.size) (Keep.refl _ W).drew h.rows⟩
theorem CR.step {T X g : Nat} {c : Array Value} {rk : RankX} {w W W' : World} (h : CR T X g c rk w W) (hX : T < X) (hT : T < w.heap.size) (hg : w.heap.size ≤ g) (ht : TapeOk T W') (hk : Keep (At T) W W') : CR T X g c rk w W' :=
  ⟨h.cb.step hX ht hk, (hk.block _ (Array.getElem?_eq_some_iff.1 h.row).1 (fun h => by unfold At at h; omega)).trans h.row, RanksR.keep (M := Old w.heap.size) (hk.weak fun k hk h => by unfold At at h; unfold Old; omega) h.rows⟩
theorem CR.put {T X g : Nat} {c c' : Array Value} {rk : RankX} {w W : World} (h : CR T X g c rk w W) (hX : T < X) (hz : X < w.heap.size) (hg : w.heap.size ≤ g) (i : Nat) (u : Value) (hc : (W.setCell ⟨X, i, none⟩ u).heap[X]? = some (.cells c' 52 (0, 0))) : CR T X g c' rk w (W.setCell ⟨X, i, none⟩ u) :=
  ⟨h.cb.put hX i u hc, (((Keep.refl (At X) W).setCell (p := ⟨X, i, none⟩) (fun _ => rfl) u).block _ (Array.getElem?_eq_some_iff.1 h.row).1 (fun e => by unfold At at e; omega)).trans h.row,
    RanksR.keep (M := Old w.heap.size) ((Keep.refl _ W).setCell (p := ⟨X, i, none⟩) (fun _ => by unfold Old; exact hz) u) h.rows⟩

end Go.Proofs.YtkhlmofcdchccaaGreatDoor
namespace Go.Proofs.YtkhlmofcdchccaaGreatDoor
open Go.RowKit

end Go.Proofs.YtkhlmofcdchccaaGreatDoor
namespace Go.Proofs.YtkhlmofcdchccaaGreatDoor
open Go.RowKit

end Go.Proofs.YtkhlmofcdchccaaGreatDoor
namespace Go.Proofs.YtkhlmofcdchccaaGreatDoor
open Go.RowKit

end Go.Proofs.YtkhlmofcdchccaaGreatDoor
namespace Go.Proofs.YtkhlmofcdchccaaGreatDoor
open Go.RowKit

/-- The tape's actions. -/
inductive ActG (n : Nat) : ActX → Prop
  | rows (t : ByteArray) (l : List (List Ex)) (ht : nameB t = true) (h1 : 1 ≤ l.length) (h2 : l.length ≤ 3) (hr : ∀ r ∈ l, 1 ≤ r.length ∧ r.length ≤ 4 ∧ ∀ x ∈ r, GX n x) : ActG n ⟨1, t, l, [], [], [], ⟨#[]⟩⟩
  | query (t : ByteArray) (q : Qu) (ht : nameB t = true) (hq : QG n q) (hl : q.items.length ≤ 4) : ActG n ⟨1, t, [], [q], [], [], ⟨#[]⟩⟩
  | update (t : ByteArray) (l : List SetX) (whr : List Ex) (ht : nameB t = true) (h1 : 1 ≤ l.length) (h2 : l.length ≤ 2) (hs : ∀ s ∈ l, nameB s.col = true ∧ GX n s.ex) (hd : distA [] (l.map SetX.col) = true) (hw : whr.length ≤ 1) (hg : ∀ x ∈ whr, GX n x) : ActG n ⟨2, t, [], [], l, whr, ⟨#[]⟩⟩
  | delete (t : ByteArray) (whr : List Ex) (ht : nameB t = true) (hw : whr.length ≤ 1) (hg : ∀ x ∈ whr, GX n x) : ActG n ⟨3, t, [], [], [], whr, ⟨#[]⟩⟩
  | abort (t : ByteArray) (h : plainB t = true) (h2 : t.size ≤ 12) : ActG n ⟨4, ⟨#[]⟩, [], [], [], [], t⟩
  | set (s : SetX) (h : nameB s.col = true ∧ GX n s.ex) : ActG n ⟨5, ⟨#[]⟩, [], [], [s], [], ⟨#[]⟩⟩

end Go.Proofs.YtkhlmofcdchccaaGreatDoor
namespace Go.Proofs.YtkhlmofcdchccaaGreatDoor
open Go.RowKit

end Go.Proofs.YtkhlmofcdchccaaGreatDoor
namespace Go.Proofs.YtkhlmofcdchccaaGreatDoor
open Go.RowKit

/-- A value in a cell of its own. -/
def VR (v : Value) (cs : List Value) : Prop := cs = [v] ∧ v.oneCell' = true
def MG (M : Nat → Prop) (g k : Nat) : Prop := M k ∨ k = g
/-- Values that each stand for a list of expressions. -/
def AllE (M : Nat → Prop) (W : World) (vs : List Value) (rs : List (List Ex)) : Prop := vs.length = rs.length ∧ ∀ (i : Nat) (v : Value) (r : List Ex), vs[i]? = some v → rs[i]? = some r → ExsR M W v r
theorem AllE.keep {M : Nat → Prop} {W W' : World} {vs : List Value} {rs : List (List Ex)} (h : AllE M W vs rs) (k : Keep M W W') : AllE M W' vs rs := ⟨h.1, fun i v r hv hr => (h.2 i v r hv hr).keep k⟩
theorem AllE.weak {M M' : Nat → Prop} {W : World} {vs : List Value} {rs : List (List Ex)} (h : AllE M W vs rs) (hM : ∀ k, k < W.heap.size → M' k → M k) : AllE M' W vs rs := ⟨h.1, fun i v r hv hr => (h.2 i v r hv hr).weak hM⟩
theorem AllE.nil (M : Nat → Prop) (W : World) : AllE M W [] [] := ⟨rfl, fun i v r hv => by simp at hv⟩
theorem AllE.snoc {M : Nat → Prop} {W : World} {vs : List Value} {rs : List (List Ex)} {v : Value} {r : List Ex} (h : AllE M W vs rs) (hv : ExsR M W v r) : AllE M W (vs ++ [v]) (rs ++ [r]) := by
  refine ⟨by simp [h.1], fun i u x hu hx => ?_⟩
  by_cases hi : i < vs.length
  · rw [List.getElem?_append_left hi] at hu
    rw [List.getElem?_append_left (by rw [← h.1]; exact hi)] at hx
    exact h.2 i u x hu hx
  · have hi1 : i < vs.length + 1 := by have := (List.getElem?_eq_some_iff.1 hu).1; simpa using this
    have e : i = vs.length := by omega
    subst e
    rw [List.getElem?_append_right (Nat.le_refl _), Nat.sub_self] at hu
    rw [h.1, List.getElem?_append_right (Nat.le_refl _), Nat.sub_self] at hx
    simp only [List.getElem?_cons_zero, Option.some.injEq] at hu hx
    subst hu hx
    exact hv

theorem RowsR.own {α : Type} {M : Nat → Prop} {w : World} {size : Nat} {R : α → List Value → Prop} {v : Value} {xs : List α} (h : RowsR (fun _ => False) w size R v xs) (hM : ∀ k, OwnB v k → ¬ M k) : RowsR M w size R v xs := by
  obtain ⟨css, hs, hl, hR⟩ := h
  refine ⟨css, ?_, hl, hR⟩
  rcases hs with hs | ⟨b, o, cap, hv, _, hr⟩
  · exact .inl hs
  · exact .inr ⟨b, o, cap, hv, hM b (by rw [hv]; rfl), hr⟩
theorem RowsO.rowsOwn {α : Type} {lo : Nat} {M : Nat → Prop} {w : World} {e : TypeId} {size : Nat} {R : α → List Value → Prop} {v : Value} {xs : List α} (h : RowsO lo w e size R v xs) (hM : ∀ k, OwnB v k → ¬ M k) : RowsR M w size R v xs := RowsR.own (h.rows fun _ _ _ => id) hM
theorem RowsO.blk {α : Type} {lo : Nat} {w : World} {e : TypeId} {size : Nat} {R : α → List Value → Prop} {v : Value} {xs : List α} (h : RowsO lo w e size R v xs) (hx : xs ≠ []) : ∃ g cap cur, v = .slice (some ⟨g, 0, none⟩) xs.length cap ∧ lo ≤ g ∧ w.heap[g]? = some (.cells cur e (0, 0)) ∧ xs.length ≤ cap ∧ cap ≤ maxLen := by
  obtain ⟨css, ⟨h1, h2⟩, hl, _⟩ := h
  rcases h2 with ⟨_, h2⟩ | ⟨g, cap, cur, hv, hg, hh, hc1, hc2, _⟩
  · exact absurd (List.eq_nil_of_length_eq_zero (by omega)) hx
  · exact ⟨g, cap, cur, by rw [hv, hl], hg, hh, by omega, hc2⟩

/-- A list written over from a place on. -/
def setL : List Value → Nat → List Value → List Value
  | l, _, [] => l
  | l, i, c :: cs => setL (l.set i c) (i + 1) cs
theorem setL_length : ∀ (cs : List Value) (l : List Value) (i : Nat), (setL l i cs).length = l.length
  | [], _, _ => rfl
  | c :: cs, l, i => by rw [setL, setL_length cs]; simp
theorem setL_take : ∀ (cs : List Value) (l : List Value) (i n : Nat), (setL l i cs).take n = setL (l.take n) i cs
  | [], _, _, _ => rfl
  | c :: cs, l, i, n => by rw [setL, setL, setL_take cs, List.take_set]
theorem setL_app : ∀ (cs a l : List Value) (i : Nat), setL (a ++ l) (a.length + i) cs = a ++ setL l i cs
  | [], _, _, _ => rfl
  | c :: cs, a, l, i => by
    rw [setL, setL, List.set_append_right _ _ (by omega), Nat.add_sub_cancel_left, Nat.add_assoc, setL_app cs]
theorem setL_front : ∀ (cs a l : List Value), a.length = cs.length → setL (a ++ l) 0 cs = cs ++ l
  | [], a, l, h => by rw [List.length_eq_zero_iff.1 h]; rfl
  | c :: cs, [], _, h => by simp at h
  | c :: cs, x :: a, l, h => by
    rw [setL, List.cons_append, List.set_cons_zero]
    have e := setL_app cs [c] (a ++ l) 0
    rw [List.length_singleton, List.singleton_append, List.singleton_append] at e
    rw [Nat.zero_add, e, setL_front cs a l (by simpa using h), List.cons_append]
theorem setL_flat {size : Nat} {cs : List Value} (hcs : cs.length = size) : ∀ (css : List (List Value)) (k : Nat), k < css.length → (∀ c ∈ css, c.length = size) → setL css.flatten (k * size) cs = (css.set k cs).flatten
  | [], _, h, _ => by simp at h
  | c :: css, 0, _, h => by
    rw [Nat.zero_mul, List.flatten_cons, List.set_cons_zero, List.flatten_cons]
    exact setL_front cs c css.flatten (by rw [hcs]; exact h c (by simp))
  | c :: css, k + 1, hk, h => by
    have e := setL_app cs c css.flatten (k * size)
    rw [h c (by simp)] at e
    rw [List.flatten_cons, List.set_cons_succ, List.flatten_cons, Nat.succ_mul, Nat.add_comm, e, setL_flat hcs css k (by simpa using hk) (fun x hx => h x (by simp [hx]))]
theorem heap_setCells {g : Nat} {e : TypeId} : ∀ (cs : List Value) (i : Nat) (w : World) (cur : Array Value), w.heap[g]? = some (.cells cur e (0, 0)) → ∃ cur', (w.setCells g i cs).heap[g]? = some (.cells cur' e (0, 0)) ∧ cur'.toList = setL cur.toList i cs
  | [], _, _, cur, h => ⟨cur, h, rfl⟩
  | c :: cs, i, w, cur, h => by
    have h' : (w.setCell ⟨g, i, none⟩ c).heap[g]? = some (.cells (cur.setIfInBounds i c) e (0, 0)) := by simp [World.setCell, Array.getElem?_modify, h]
    obtain ⟨cur', h1, h2⟩ := heap_setCells cs (i + 1) _ _ h'
    exact ⟨cur', h1, by rw [h2, setL]; simp⟩
/-- One thing of an owned list is written over. -/
theorem RowsO.set1 {α : Type} {lo : Nat} {w : World} {e : TypeId} {size : Nat} {R : α → List Value → Prop} {g n cap : Nat} {xs : List α} (h : RowsO lo w e size R (.slice (some ⟨g, 0, none⟩) n cap) xs) {k : Nat} (hk : k < xs.length) {x : α} {cs : List Value} (hcs : cs.length = size) (hR : R x cs) :
    RowsO lo (w.setCells g (k * size) cs) e size R (.slice (some ⟨g, 0, none⟩) n cap) (xs.set k x) := by
  obtain ⟨css, ⟨h1, h2⟩, hl, hs, hr⟩ := h
  rcases h2 with ⟨hv, _⟩ | ⟨g', cap', cur, hv, hg, hh, hc1, hc2, hc3, hc4⟩
  · cases hv
  · simp only [Value.slice.injEq, Option.some.injEq, Addr.mk.injEq, and_true] at hv
    obtain ⟨rfl, rfl, rfl⟩ := hv
    obtain ⟨cur', hb, hcur⟩ := heap_setCells cs (k * size) w cur hh
    have hall : ∀ c ∈ css.set k cs, c.length = size := fun c hc => by
      rcases List.mem_or_eq_of_mem_set hc with hc | rfl
      · exact hs c hc
      · exact hcs
    have hfl : (css.set k cs).flatten.length = (css.set k cs).length * size := flatten_length size _ hall
    refine ⟨css.set k cs, ⟨hfl, .inr ⟨g, cap, cur', by simp, hg, hb, by simpa using hc1, hc2, ?_, ?_⟩⟩, by simpa using hl, hall, fun i y ci hy hi => ?_⟩
    · rw [← Array.length_toList, hcur, setL_length, Array.length_toList, hc3]
    · rw [hcur, setL_take, List.length_set, hc4]
      exact setL_flat hcs css k (by omega) hs
    · by_cases hik : i = k
      · subst hik
        rw [List.getElem?_set_self (by omega)] at hi hy
        cases hi
        cases hy
        exact hR
      · rw [List.getElem?_set_ne (fun h => hik h.symm)] at hi hy
        exact hr i y ci hy hi
theorem RowsG.set1 {α : Type} {R : (Nat → Prop) → World → α → List Value → Prop} (S : Stable R) {lo : Nat} {w : World} {e : TypeId} {size : Nat} {g n cap : Nat} {xs : List α} (h : RowsG lo w e size R (.slice (some ⟨g, 0, none⟩) n cap) xs) {k : Nat} (hk : k < xs.length) {x : α} {cs : List Value} (hcs : cs.length = size) (hR : R (OldOr lo (.slice (some ⟨g, 0, none⟩) n cap)) w x cs) :
    RowsG lo (w.setCells g (k * size) cs) e size R (.slice (some ⟨g, 0, none⟩) n cap) (xs.set k x) :=
  RowsO.imp (RowsO.set1 h hk hcs hR) fun _ _ _ hc => S.keep hc ((keep_setCells cs (k * size) w).weak fun j _ hj => .inr (by unfold At at hj; subst hj; rfl))

/-- An insert's rows; the first one lies in a block of its own. -/
def RowsF (M : Nat → Prop) (W : World) (va : Value) (rows : List (List Ex)) : Prop :=
  (rows = [] ∧ va = .slice none 0 0) ∨ ∃ r0 rest v0 vs g0 c0 arr, rows = r0 :: rest ∧ r0 ≠ [] ∧ ¬ M g0 ∧ v0 = .slice (some ⟨g0, 0, none⟩) r0.length c0 ∧ W.heap[g0]? = some (.cells arr 30 (0, 0)) ∧
    RowsR M W 10 (EC (MG M g0) W) v0 r0 ∧ RowsR (MG M g0) W 1 VR va (v0 :: vs) ∧ AllE (MG M g0) W vs rest
theorem RowsF.keep {M : Nat → Prop} {W W' : World} {va : Value} {rows : List (List Ex)} (h : RowsF M W va rows) (k : Keep M W W') : RowsF M W' va rows := by
  rcases h with h | ⟨r0, rest, v0, vs, g0, c0, arr, h1, h1n, h2, h3, h4, h5, h6, h7⟩
  · exact .inl h
  · have k' : Keep (MG M g0) W W' := k.weak fun _ _ h => .inl h
    exact .inr ⟨r0, rest, v0, vs, g0, c0, arr, h1, h1n, h2, h3, (k.block _ (Array.getElem?_eq_some_iff.1 h4).1 h2).trans h4, RowsR.map h5 k fun x _ cs hc => EC.keep k' x cs hc, RowsR.map h6 k' fun _ _ _ h => h, h7.keep k'⟩
theorem RowsF.weak {M M' : Nat → Prop} {W : World} {va : Value} {rows : List (List Ex)} (hM : ∀ k, k < W.heap.size → M' k → M k) (h : RowsF M W va rows) : RowsF M' W va rows := by
  rcases h with h | ⟨r0, rest, v0, vs, g0, c0, arr, h1, h1n, h2, h3, h4, h5, h6, h7⟩
  · exact .inl h
  · have hg := (Array.getElem?_eq_some_iff.1 h4).1
    have hM' : ∀ k, k < W.heap.size → MG M' g0 k → MG M g0 k := fun k hk h => h.imp (hM k hk) id
    exact .inr ⟨r0, rest, v0, vs, g0, c0, arr, h1, h1n, fun h => h2 (hM _ hg h), h3, h4, RowsR.weak h5 hM fun x _ cs hc => EC.weak hM' x cs hc, RowsR.weak h6 hM' fun _ _ _ h => h, h7.weak hM'⟩
theorem RowsF.exLs {M : Nat → Prop} {W : World} {va : Value} {rows : List (List Ex)} (h : RowsF M W va rows) : ExLsR M W va rows := by
  rcases h with ⟨rfl, rfl⟩ | ⟨r0, rest, v0, vs, g0, c0, arr, rfl, h1n, h2, h3, h4, h5, h6, h7⟩
  · exact RowsR.nil ..
  · have hM' : ∀ k, k < W.heap.size → M k → MG M g0 k := fun k _ h => .inl h
    obtain ⟨css, hs, hl, hR⟩ := RowsR.weak h6 hM' fun _ _ _ h => h
    refine ⟨css, hs, by rw [hl]; simp [h7.1], fun i x cs hx hc => ?_⟩
    match i with
    | 0 =>
      obtain ⟨e, _⟩ := hR 0 v0 cs rfl hc
      obtain rfl : r0 = x := by simpa using hx
      exact ⟨v0, e, RowsR.weak h5 (fun _ _ h => h) fun y _ c hc => EC.weak hM' y c hc⟩
    | i + 1 =>
      have hx' : rest[i]? = some x := by simpa using hx
      have hi : i < vs.length := by rw [h7.1]; exact (List.getElem?_eq_some_iff.1 hx').1
      obtain ⟨e, _⟩ := hR (i + 1) vs[i] cs (by simp [hi]) hc
      exact ⟨vs[i], e, (h7.2 i _ x (List.getElem?_eq_getElem hi) hx').weak hM'⟩
theorem RowsF.shape {M : Nat → Prop} {W : World} {va : Value} {rows : List (List Ex)} (h : RowsF M W va rows) : ∃ a c, va = .slice a rows.length c := by
  obtain ⟨a, c, h, _⟩ := RowsR.shape h.exLs
  exact ⟨a, c, h⟩

/-- The same while they are made. -/
def NB (lo : Nat) (va : Value) (g k : Nat) : Prop := Old lo k ∨ OwnB va k ∨ k = g
def RowsB (lo : Nat) (W : World) (va : Value) (vals : List Value) (rows : List (List Ex)) : Prop :=
  RowsO lo W 27 1 VR va vals ∧
  ((vals = [] ∧ rows = [] ∧ va = .slice none 0 0) ∨ ∃ r0 rest v0 vs g0 c0 arr, vals = v0 :: vs ∧ rows = r0 :: rest ∧ r0 ≠ [] ∧ lo ≤ g0 ∧ ¬ OwnB va g0 ∧ v0 = .slice (some ⟨g0, 0, none⟩) r0.length c0 ∧ W.heap[g0]? = some (.cells arr 30 (0, 0)) ∧
    RowsR (OldOr lo va) W 10 (EC (NB lo va g0) W) v0 r0 ∧ AllE (NB lo va g0) W vs rest)
theorem RowsB.nil (lo : Nat) (W : World) : RowsB lo W (.slice none 0 0) [] [] := ⟨RowsO.nil .., .inl ⟨rfl, rfl, rfl⟩⟩
theorem RowsB.keep {lo : Nat} {W W' : World} {va : Value} {vals : List Value} {rows : List (List Ex)} {M : Nat → Prop} (h : RowsB lo W va vals rows) (k : Keep M W W') (hM : ∀ k, lo ≤ k → k < W.heap.size → ¬ M k) : RowsB lo W' va vals rows := by
  refine ⟨RowsO.kept h.1 k (fun j hj => hM j (RowsO.lt h.1 hj).1 (RowsO.lt h.1 hj).2) fun _ _ _ h => h, ?_⟩
  rcases h.2 with h | ⟨r0, rest, v0, vs, g0, c0, arr, h0, h1, h1n, h2, h2', h3, h4, h5, h7⟩
  · exact .inl h
  · have hg := (Array.getElem?_eq_some_iff.1 h4).1
    have k1 : Keep (OldOr lo va) W W' := k.weak fun j hj h => .inl (Nat.lt_of_not_le fun hl => hM j hl hj h)
    have k2 : Keep (NB lo va g0) W W' := k.weak fun j hj h => .inl (Nat.lt_of_not_le fun hl => hM j hl hj h)
    exact .inr ⟨r0, rest, v0, vs, g0, c0, arr, h0, h1, h1n, h2, h2', h3, (k.block _ hg (hM _ h2 hg)).trans h4, RowsR.map h5 k1 fun x _ cs hc => EC.keep k2 x cs hc, h7.keep k2⟩
theorem RowsB.fin {lo : Nat} {W : World} {va : Value} {vals : List Value} {rows : List (List Ex)} (h : RowsB lo W va vals rows) : RowsF (Old lo) W va rows := by
  rcases h.2 with ⟨_, h, h'⟩ | ⟨r0, rest, v0, vs, g0, c0, arr, h0, h1, h1n, h2, h2', h3, h4, h5, h7⟩
  · exact .inl ⟨h, h'⟩
  · have hM : ∀ k, k < W.heap.size → MG (Old lo) g0 k → NB lo va g0 k := fun k _ h => h.elim .inl fun h => .inr (.inr h)
    refine .inr ⟨r0, rest, v0, vs, g0, c0, arr, h1, h1n, fun h => by unfold Old at h; omega, h3, h4, RowsR.weak h5 (fun k _ h => .inl h) fun x _ cs hc => EC.weak hM x cs hc, ?_, h7.weak hM⟩
    rw [← h0]
    exact RowsO.rowsOwn h.1 fun k hk hm => by
      have := (RowsO.lt h.1 hk).1
      rcases hm with hm | rfl
      · unfold Old at hm; omega
      · exact h2' hk
/-- A row has been appended. -/
theorem RowsB.add {T lo : Nat} {ws W W2 : World} {va va' vr : Value} {vals : List Value} {rows : List (List Ex)} {x : List Ex} (h : RowsB lo ws va vals rows) (kw : Keep (At T) ws W) (hT : T < lo) (hlo : lo ≤ ws.heap.size) (hx : RowsG ws.heap.size W 30 10 (fun M w (e : Ex) cs => EC M w e cs) vr x) (hne : x ≠ [])
    (ho : RowsO lo W2 27 1 VR va' (vals ++ [vr])) (hk : Keep (OwnB va) W W2) (hat : ∀ k, OwnB va' k → OwnB va k ∨ W.heap.size ≤ k) : RowsB lo W2 va' (vals ++ [vr]) (rows ++ [x]) := by
  have hz := kw.size
  have hva : ∀ k, OwnB va k → lo ≤ k ∧ k < ws.heap.size := fun k hk => RowsO.lt h.1 hk
  have hat' : ∀ k, k < W.heap.size → OwnB va' k → OwnB va k := fun k hk h => (hat k h).resolve_right (by omega)
  have hW := h.keep kw fun k h1 _ h => by unfold At at h; omega
  obtain ⟨gx, cx, ax, hvr, hgx, hbx, _, _⟩ := RowsO.blk hx hne
  have hgz := (Array.getElem?_eq_some_iff.1 hbx).1
  have hxR : RowsR (Old ws.heap.size) W 10 (EC (OldOr ws.heap.size vr) W) vr x := RowsO.rowsOwn hx fun k hk hm => by have := (RowsO.lt hx hk).1; unfold Old at hm; omega
  have hxE : ExsR (Old ws.heap.size) W vr x := RowsG.rows ecStable hx
  refine ⟨ho, .inr ?_⟩
  rcases hW.2 with ⟨rfl, rfl, rfl⟩ | ⟨r0, rest, v0, vs, g0, c0, arr, rfl, rfl, h1n, h2, h2', h3, h4, h5, h7⟩
  · have hno : ∀ k, ¬ OwnB (.slice none 0 0) k := fun k h => by cases h
    have hM1 : ∀ k, k < W.heap.size → OldOr lo va' k → Old ws.heap.size k := fun k hk h => h.elim (fun h => by unfold Old; omega) fun h => absurd (hat' k hk h) (hno k)
    have hM2 : ∀ k, k < W.heap.size → NB lo va' gx k → OldOr ws.heap.size vr k := fun k hk h => by
      rcases h with h | h | h
      · exact .inl (by unfold Old at h; omega)
      · exact absurd (hat' k hk h) (hno k)
      · exact .inr (by rw [hvr, h]; rfl)
    have kk : ∀ M : Nat → Prop, Keep M W W2 := fun M => hk.weak fun k _ h => absurd h (hno k)
    refine ⟨x, [], vr, [], gx, cx, ax, rfl, rfl, hne, by omega, fun h => hno gx (hat' gx hgz h), hvr, (hk.block _ hgz (hno gx)).trans hbx, ?_, AllE.nil ..⟩
    exact RowsR.map (RowsR.weak hxR hM1 fun y _ cs hc => EC.weak hM2 y cs hc) (kk _) fun y _ cs hc => EC.keep (kk _) y cs hc
  · have hg0 := (Array.getElem?_eq_some_iff.1 h4).1
    have hg0s : g0 < ws.heap.size := by
      rcases h.2 with ⟨h, _⟩ | ⟨r0', rest', v0', vs', g0', c0', arr', e0, _, _, _, _, e3, e4, _⟩
      · cases h
      · injection e0 with e0 _
        rw [← e0, h3] at e3
        injection e3 with e3 _ _
        injection e3 with e3
        injection e3 with e3 _ _
        rw [e3]
        exact (Array.getElem?_eq_some_iff.1 e4).1
    have hm1 : ∀ k, k < W.heap.size → (OldOr lo va k ∨ OldOr lo va' k) → OldOr lo va k := fun k hk h => h.elim id fun h => h.elim .inl fun h => .inr (hat' k hk h)
    have hm2 : ∀ k, k < W.heap.size → (NB lo va g0 k ∨ NB lo va' g0 k) → NB lo va g0 k := fun k hk h => h.elim id fun h => by
      rcases h with h | h | h
      · exact .inl h
      · exact .inr (.inl (hat' k hk h))
      · exact .inr (.inr h)
    have k1 : Keep (fun k => OldOr lo va k ∨ OldOr lo va' k) W W2 := hk.weak fun k _ h => .inl (.inr h)
    have k2 : Keep (fun k => NB lo va g0 k ∨ NB lo va' g0 k) W W2 := hk.weak fun k _ h => .inl (.inr (.inl h))
    refine ⟨r0, rest ++ [x], v0, vs ++ [vr], g0, c0, arr, rfl, rfl, h1n, h2, fun h => h2' (hat' g0 hg0 h), h3, (hk.block _ hg0 h2').trans h4, ?_, ?_⟩
    · exact RowsR.weak (RowsR.map (RowsR.weak h5 hm1 fun y _ cs hc => EC.weak hm2 y cs hc) k1 fun y _ cs hc => EC.keep k2 y cs hc) (fun k _ h => .inr h) fun y _ cs hc => EC.weak (fun k _ h => .inr h) y cs hc
    · refine AllE.snoc (((h7.weak hm2).keep k2).weak fun k _ h => .inr h) (((hxE.weak (M' := fun k => NB lo va g0 k ∨ NB lo va' g0 k) fun k hk h => ?_).keep k2).weak fun k _ h => .inr h)
      rcases hm2 k hk h with h | h | h
      · unfold Old at h ⊢; omega
      · have := hva k h; unfold Old; omega
      · unfold Old; omega

/-- What a change, an action gives. -/
def ActQ (n : Nat) (P : ActX → Prop) (w : World) (v : Value) (W : World) : Prop := ∃ (a : ActX) (vr vq vs vw : Value), v = .agg #[.int .i64 a.kind, .string a.table, vr, vq, vs, vw, .string a.text] ∧ RowsF (Old w.heap.size) W vr a.rows ∧ QusR (Old w.heap.size) W vq a.query ∧ SetsR (Old w.heap.size) W vs a.sets ∧ ExsR (Old w.heap.size) W vw a.whr ∧ ActG n a ∧ P a
theorem ActQ.keep {n : Nat} {P : ActX → Prop} {w W W' : World} {v : Value} (h : ActQ n P w v W) (k : Keep (Old w.heap.size) W W') : ActQ n P w v W' := by
  obtain ⟨a, vr, vq, vs, vw, h0, h1, h2, h3, h4, h5⟩ := h
  exact ⟨a, vr, vq, vs, vw, h0, h1.keep k, QusR.keep h2 k, SetsR.keep k h3, ExsR.keep h4 k, h5⟩
theorem ActQ.up {n : Nat} {P : ActX → Prop} {w w' W : World} {v : Value} (h : ActQ n P w' v W) (hz : w.heap.size ≤ w'.heap.size) : ActQ n P w v W := by
  obtain ⟨a, vr, vq, vs, vw, h0, h1, h2, h3, h4, h5⟩ := h
  have hM : ∀ k, k < W.heap.size → Old w.heap.size k → Old w'.heap.size k := fun k _ h => by unfold Old at h ⊢; omega
  exact ⟨a, vr, vq, vs, vw, h0, h1.weak hM, h2.weak hM, SetsR.weak hM h3, h4.weak hM, h5⟩
/-- The shape of an action. -/
theorem ActQ.shape {n : Nat} {P : ActX → Prop} {w W : World} {v : Value} (h : ActQ n P w v W) : ∃ (a : ActX) (a1 a2 a3 a4 : Option Addr) (c1 c2 c3 c4 : Nat), v = .agg #[.int .i64 a.kind, .string a.table, .slice a1 a.rows.length c1, .slice a2 a.query.length c2, .slice a3 a.sets.length c3, .slice a4 a.whr.length c4, .string a.text] ∧
    RowsF (Old w.heap.size) W (.slice a1 a.rows.length c1) a.rows ∧ QusR (Old w.heap.size) W (.slice a2 a.query.length c2) a.query ∧ SetsR (Old w.heap.size) W (.slice a3 a.sets.length c3) a.sets ∧ ExsR (Old w.heap.size) W (.slice a4 a.whr.length c4) a.whr ∧ ActG n a ∧ P a := by
  obtain ⟨a, vr, vq, vs, vw, rfl, h1, h2, h3, h4, h5⟩ := h
  obtain ⟨a1, c1, rfl⟩ := h1.shape
  obtain ⟨a2, c2, rfl, _⟩ := RowsR.shape h2
  obtain ⟨a3, c3, rfl, _⟩ := RowsR.shape h3
  obtain ⟨a4, c4, rfl, _⟩ := RowsR.shape h4
  exact ⟨a, a1, a2, a3, a4, c1, c2, c3, c4, rfl, h1, h2, h3, h4, h5⟩
end Go.Proofs.YtkhlmofcdchccaaGreatDoor
namespace Go.Proofs.YtkhlmofcdchccaaGreatDoor
open Go.RowKit

/-- Cells are written over one behind the other. -/
theorem OB.puts {T g : Nat} {w W : World} {c c' : Array Value} {e : TypeId} {L : List OwnBlk} (h : OB T w W (⟨g, c, e⟩ :: L)) (i : Nat) (cs : List Value) (hL : ∀ b ∈ L, b.pos ≠ g) (hc : c'.toList = setL c.toList i cs) : OB T w (W.setCells g i cs) (⟨g, c', e⟩ :: L) := by
  obtain ⟨cur, h1, h2⟩ := heap_setCells cs i W c (h.blk (List.mem_cons_self ..))
  have hcur : cur = c' := Array.toList_inj.1 (by rw [h2, hc])
  have hg : w.heap.size ≤ g := (h.blks _ (List.mem_cons_self ..)).1
  exact ((h.sub (L' := L) fun b hb => List.mem_cons_of_mem _ hb).then (keep_setCells cs i W) (fun j hj e => by unfold At at e; omega) (fun b hb e => hL b hb e)).add hg (hcur ▸ h1)
/-- The call's own blocks, and what lay below p when the place was made. -/
structure CX (T : Nat) (w W7 : World) (p : Nat) (L : List OwnBlk) (W : World) : Prop where
  ob : OB T w W L
  kp : Keep (TOr T p) W7 W
section
variable {T p : Nat} {w W7 W W' : World} {L L' : List OwnBlk}
theorem CX.step (h : CX T w W7 p L W) (ht : TapeOk T W') (k : Keep (At T) W W') : CX T w W7 p L W' := ⟨h.ob.step ht k, h.kp.trans (k.weak fun _ _ h => .inl h)⟩
theorem CX.bel (h : CX T w W7 p L W) (hb : Below W.heap.size W W') : CX T w W7 p L W' := h.step (h.ob.tape.bel hb) (.bel hb)
theorem CX.alloc (h : CX T w W7 p L W) (o : Obj) : CX T w W7 p L (W.alloc o) := h.bel ((Below.refl _ _).alloc (Nat.le_refl _) o)
theorem CX.new' (h : CX T w W7 p L W) {g : Nat} (hg : g = W.heap.size) (cs : Array Value) (e : TypeId) : CX T w W7 p (⟨g, cs, e⟩ :: L) (W.alloc (.cells cs e)) := ⟨h.ob.new' hg cs e, (h.alloc _).kp⟩
theorem CX.drew (h : CX T w W7 p L W) : CX T w W7 p L W.drew := ⟨h.ob.drew, h.kp.drew⟩
theorem CX.sub (h : CX T w W7 p L W) (hL : ∀ b ∈ L', b ∈ L) : CX T w W7 p L' W := ⟨h.ob.sub hL, h.kp⟩
theorem CX.tl {b : OwnBlk} (h : CX T w W7 p (b :: L) W) : CX T w W7 p L W := h.sub fun _ hb => List.mem_cons_of_mem _ hb
theorem CX.then {N : Nat → Prop} (h : CX T w W7 p L W) (k : Keep N W W') (hN : ∀ i, N i → p ≤ i) (hp : w.heap.size ≤ p) (hL : ∀ b ∈ L, ¬ N b.pos) : CX T w W7 p L W' :=
  ⟨h.ob.then k (fun i hi hn => by have := hN i hn; omega) hL, h.kp.trans (k.weak fun i _ hn => .inr (hN i hn))⟩
theorem CX.puts {g : Nat} {c c' : Array Value} {e : TypeId} (h : CX T w W7 p (⟨g, c, e⟩ :: L) W) (hg : p ≤ g) (i : Nat) (cs : List Value) (hL : ∀ b ∈ L, b.pos ≠ g) (hc : c'.toList = setL c.toList i cs) : CX T w W7 p (⟨g, c', e⟩ :: L) (W.setCells g i cs) :=
  ⟨h.ob.puts i cs hL hc, h.kp.trans ((keep_setCells cs i W).weak fun j _ hj => .inr (by unfold At at hj; omega))⟩
end
/-- A row that is being made. -/
structure RX (T : Nat) (w W7 wo : World) (p : Nat) (L : List OwnBlk) (vr : Value) (x : List Ex) (W : World) : Prop where
  cx : CX T w W7 p L W
  kp : Keep (At T) wo W
  rows : RowsG wo.heap.size W 30 10 (fun M w (e : Ex) cs => EC M w e cs) vr x
section
variable {T p : Nat} {w W7 wo W W' : World} {L L' : List OwnBlk} {vr : Value} {x : List Ex}
theorem RX.step (h : RX T w W7 wo p L vr x W) (hT : T < wo.heap.size) (ht : TapeOk T W') (k : Keep (At T) W W') : RX T w W7 wo p L vr x W' := ⟨h.cx.step ht k, h.kp.trans k, RowsG.keep ecStable h.rows k fun k h1 _ hh => by unfold At at hh; omega⟩
theorem RX.bel (h : RX T w W7 wo p L vr x W) (hT : T < wo.heap.size) (hb : Below W.heap.size W W') : RX T w W7 wo p L vr x W' := h.step hT (h.cx.ob.tape.bel hb) (.bel hb)
theorem RX.alloc (h : RX T w W7 wo p L vr x W) (hT : T < wo.heap.size) (o : Obj) : RX T w W7 wo p L vr x (W.alloc o) := h.bel hT ((Below.refl _ _).alloc (Nat.le_refl _) o)
theorem RX.new' (h : RX T w W7 wo p L vr x W) (hT : T < wo.heap.size) {g : Nat} (hg : g = W.heap.size) (cs : Array Value) (e : TypeId) : RX T w W7 wo p (⟨g, cs, e⟩ :: L) vr x (W.alloc (.cells cs e)) := ⟨h.cx.new' hg cs e, (h.alloc hT _).kp, (h.alloc hT _).rows⟩
theorem RX.tl {b : OwnBlk} (h : RX T w W7 wo p (b :: L) vr x W) : RX T w W7 wo p L vr x W := ⟨h.cx.tl, h.kp, h.rows⟩
/-- Its last thing is written over. -/
theorem RX.set {g n cap : Nat} {y z : Ex} {cs : List Value} (h : RX T w W7 wo p L (.slice (some ⟨g, 0, none⟩) n cap) (x ++ [y]) W) (hcs : cs.length = 10) (hz : EC (OldOr wo.heap.size (.slice (some ⟨g, 0, none⟩) n cap)) W z cs) (hp : p ≤ wo.heap.size) (hw : w.heap.size ≤ p) (hL : ∀ b ∈ L, b.pos ≠ g) :
    RX T w W7 wo p L (.slice (some ⟨g, 0, none⟩) n cap) (x ++ [z]) (W.setCells g (x.length * 10) cs) := by
  have hg := (RowsO.lt h.rows (k := g) rfl).1
  have hr := RowsG.set1 ecStable h.rows (k := x.length) (by simp) hcs hz
  rw [show (x ++ [y]).set x.length z = x ++ [z] by simp] at hr
  exact ⟨h.cx.then (keep_setCells cs (x.length * 10) W) (fun i hi => by unfold At at hi; omega) hw (fun b hb e => hL b hb e), h.kp.then (keep_setCells cs (x.length * 10) W) (fun i hi hn => by unfold At at hn; omega), hr⟩
end
theorem setStable : Stable (fun M w (x : SetX) cs => SetC M w x cs) where
  keep h k := SetC.keep k h
  weak h hM := SetC.weak hM h
  one h u hu := by
    obtain ⟨ce, rfl, h⟩ := h
    rcases List.mem_cons.1 hu with rfl | hu
    · rfl
    · exact ecStable.one h u hu
/-- Assignments that are being made. -/
structure UX (T : Nat) (w W7 : World) (p lo : Nat) (L : List OwnBlk) (vs : Value) (sets : List SetX) (W : World) : Prop where
  cx : CX T w W7 p L W
  rows : RowsG lo W 212 11 (fun M w (x : SetX) cs => SetC M w x cs) vs sets
section
variable {T p lo : Nat} {w W7 W W' : World} {L L' : List OwnBlk} {vs : Value} {sets : List SetX}
theorem UX.step (h : UX T w W7 p lo L vs sets W) (hT : T < lo) (ht : TapeOk T W') (k : Keep (At T) W W') : UX T w W7 p lo L vs sets W' := ⟨h.cx.step ht k, RowsG.keep setStable h.rows k fun k h1 _ hh => by unfold At at hh; omega⟩
theorem UX.bel (h : UX T w W7 p lo L vs sets W) (hT : T < lo) (hb : Below W.heap.size W W') : UX T w W7 p lo L vs sets W' := h.step hT (h.cx.ob.tape.bel hb) (.bel hb)
theorem UX.alloc (h : UX T w W7 p lo L vs sets W) (hT : T < lo) (o : Obj) : UX T w W7 p lo L vs sets (W.alloc o) := h.bel hT ((Below.refl _ _).alloc (Nat.le_refl _) o)
theorem UX.drew (h : UX T w W7 p lo L vs sets W) (hT : T < lo) : UX T w W7 p lo L vs sets W.drew := h.step hT h.cx.ob.tape.drew (Keep.refl _ W).drew
theorem UX.new' (h : UX T w W7 p lo L vs sets W) (hT : T < lo) {g : Nat} (hg : g = W.heap.size) (cs : Array Value) (e : TypeId) : UX T w W7 p lo (⟨g, cs, e⟩ :: L) vs sets (W.alloc (.cells cs e)) := ⟨h.cx.new' hg cs e, (h.alloc hT _).rows⟩
theorem UX.sub (h : UX T w W7 p lo L vs sets W) (hL : ∀ b ∈ L', b ∈ L) : UX T w W7 p lo L' vs sets W := ⟨h.cx.sub hL, h.rows⟩
theorem UX.tl {b : OwnBlk} (h : UX T w W7 p lo (b :: L) vs sets W) : UX T w W7 p lo L vs sets W := ⟨h.cx.tl, h.rows⟩
theorem UX.own (h : UX T w W7 p lo L vs sets W) {k : Nat} (hk : OwnB vs k) : lo ≤ k ∧ k < W.heap.size := RowsO.lt h.rows hk
/-- A block of one's own that the assignments do not lie in is written. -/
theorem UX.puts {g : Nat} {c c' : Array Value} {e : TypeId} (h : UX T w W7 p lo (⟨g, c, e⟩ :: L) vs sets W) (hg : p ≤ g) (i : Nat) (cs : List Value) (hL : ∀ b ∈ L, b.pos ≠ g) (hc : c'.toList = setL c.toList i cs) (hlo : g < lo) : UX T w W7 p lo (⟨g, c', e⟩ :: L) vs sets (W.setCells g i cs) :=
  ⟨h.cx.puts hg i cs hL hc, RowsG.keep setStable h.rows (keep_setCells cs i W) fun k h1 _ hh => by unfold At at hh; omega⟩
end
/-- An assignment that is being made, in a block of its own. -/
def SX (T : Nat) (w W7 wo : World) (p n : Nat) (L : List OwnBlk) (nm : ByteArray) (c : Nat) (W : World) : Prop :=
  ∃ (x : Ex) (a t : Option Addr) (ac tc : Nat), CX T w W7 p (⟨c, #[.string nm, .int .i64 x.kind, .int .i64 x.op, .bool x.no, .int .i64 x.val.kind, .int .i64 x.val.int, .string x.val.text, .string x.table, .string x.name, .slice a x.args.length ac, .slice t x.sub.length tc], 212⟩ :: L) W ∧ Keep (At T) wo W ∧ wo.heap.size ≤ c ∧ (ExsR (fun k => k < wo.heap.size ∨ k = c) W (.slice a x.args.length ac) x.args ∧ QusR (fun k => k < wo.heap.size ∨ k = c) W (.slice t x.sub.length tc) x.sub) ∧ GX n x
section
variable {T p n c : Nat} {w W7 wo W W' : World} {L L' : List OwnBlk} {nm : ByteArray}
theorem SX.step (H : SX T w W7 wo p n L nm c W) (hT : T < wo.heap.size) (ht : TapeOk T W') (k : Keep (At T) W W') : SX T w W7 wo p n L nm c W' := by
  obtain ⟨x, a, t, ac, tc, h1, h2, h3, h4, h5⟩ := H
  have kk : Keep (fun k => k < wo.heap.size ∨ k = c) W W' := k.weak fun j _ hj => .inl (by unfold At at hj; omega)
  exact ⟨x, a, t, ac, tc, h1.step ht k, h2.trans k, h3, ⟨h4.1.keep kk, h4.2.keep kk⟩, h5⟩
theorem SX.tape (H : SX T w W7 wo p n L nm c W) : TapeOk T W := by obtain ⟨x, a, t, ac, tc, h1, _⟩ := H; exact h1.ob.tape
theorem SX.bel (H : SX T w W7 wo p n L nm c W) (hT : T < wo.heap.size) (hb : Below W.heap.size W W') : SX T w W7 wo p n L nm c W' := H.step hT (H.tape.bel hb) (.bel hb)
theorem SX.drew (H : SX T w W7 wo p n L nm c W) (hT : T < wo.heap.size) : SX T w W7 wo p n L nm c W.drew := H.step hT H.tape.drew (Keep.refl _ W).drew
theorem SX.blk (H : SX T w W7 wo p n L nm c W) {b : OwnBlk} (hb : b ∈ L) : W.heap[b.pos]? = some (.cells b.cells b.ty (0, 0)) := by
  obtain ⟨x, a, t, ac, tc, h1, _⟩ := H
  exact h1.ob.blk (List.mem_cons_of_mem _ hb)
theorem SX.item (H : SX T w W7 wo p n L nm c W) (hp : p ≤ wo.heap.size) (hL : ∀ b ∈ L, b.pos ≠ c) {m1 : Nat} (x : Ex) (a t : Option Addr) (ac tc : Nat) (hm : c < m1) (hx : ExsR (Old m1) W (.slice a x.args.length ac) x.args ∧ QusR (Old m1) W (.slice t x.sub.length tc) x.sub) (hd : GX n x) :
    SX T w W7 wo p n L nm c (W.setCells c 1 [.int .i64 x.kind, .int .i64 x.op, .bool x.no, .int .i64 x.val.kind, .int .i64 x.val.int, .string x.val.text, .string x.table, .string x.name, .slice a x.args.length ac, .slice t x.sub.length tc]) := by
  obtain ⟨y, b, u, bc, uc, h1, h2, h3, h4, h5⟩ := H
  have ks := keep_setCells [.int .i64 x.kind, .int .i64 x.op, .bool x.no, .int .i64 x.val.kind, .int .i64 x.val.int, .string x.val.text, .string x.table, .string x.name, .slice a x.args.length ac, .slice t x.sub.length tc] 1 W (C := c)
  have k1 : Keep (Old m1) W (W.setCells c 1 [.int .i64 x.kind, .int .i64 x.op, .bool x.no, .int .i64 x.val.kind, .int .i64 x.val.int, .string x.val.text, .string x.table, .string x.name, .slice a x.args.length ac, .slice t x.sub.length tc]) := ks.weak fun k _ hk => by unfold At at hk; unfold Old; omega
  have hM : ∀ k, (k < wo.heap.size ∨ k = c) → Old m1 k := fun k hk => by unfold Old; omega
  exact ⟨x, a, t, ac, tc, h1.puts (by omega) 1 _ hL rfl, h2.then ks (fun i hi hn => by unfold At at hn; omega), h3, ⟨(hx.1.keep k1).weak fun k _ hk => hM k hk, (hx.2.keep k1).weak fun k _ hk => hM k hk⟩, hd⟩
end
end Go.Proofs.YtkhlmofcdchccaaGreatDoor
namespace Go.Proofs.YtkhlmofcdchccaaGreatDoor
open Go.RowKit

end Go.Proofs.YtkhlmofcdchccaaGreatDoor
namespace Go.Proofs.YtkhlmofcdchccaaGreatDoor
open Go.RowKit

end Go.Proofs.YtkhlmofcdchccaaGreatDoor
namespace Go.Proofs.YtkhlmofcdchccaaGreatDoor
open Go.RowKit

end Go.Proofs.YtkhlmofcdchccaaGreatDoor
namespace Go.Proofs.YtkhlmofcdchccaaGreatDoor
open Go.RowKit

theorem all_not {α : Type} {p : α → Bool} {l : List α} {i : Nat} {y : α} (h : l[i]? = some y) (hn : p y = false) : l.all p = false := by
  refine Bool.eq_false_iff.2 fun ha => ?_
  have := List.all_eq_true.1 ha y (List.mem_of_getElem? h)
  rw [hn] at this
  cases this
theorem all_yes {α : Type} {p : α → Bool} {l : List α} (h : ∀ (i : Nat) (y : α), i < l.length → l[i]? = some y → p y = true) : l.all p = true :=
  List.all_eq_true.2 fun x hx => by
    obtain ⟨i, hi, rfl⟩ := List.mem_iff_getElem.1 hx
    exact h i _ hi (List.getElem?_eq_getElem hi)
theorem CellsAt.c7 {w : World} {b o : Nat} {a0 a1 a2 a3 a4 a5 a6 : Value} (h : CellsAt w b o [a0, a1, a2, a3, a4, a5, a6]) :
    w.cell? ⟨b, o, none⟩ = some a0 ∧ w.cell? ⟨b, o + 1, none⟩ = some a1 ∧ w.cell? ⟨b, o + 2, none⟩ = some a2 ∧ w.cell? ⟨b, o + 3, none⟩ = some a3 ∧ w.cell? ⟨b, o + 4, none⟩ = some a4 ∧ w.cell? ⟨b, o + 5, none⟩ = some a5 ∧ w.cell? ⟨b, o + 6, none⟩ = some a6 :=
  ⟨h 0 _ rfl, h 1 _ rfl, h 2 _ rfl, h 3 _ rfl, h 4 _ rfl, h 5 _ rfl, h 6 _ rfl⟩
/-- A row of a list lies in memory. -/
theorem rows_row {α : Type} {M : Nat → Prop} {w : World} {sz : Nat} {R : α → List Value → Prop} {a : Option Addr} {n c j : Nat} {l : List α} (h : RowsR M w sz R (.slice a n c) l) (hj : j < l.length) :
    ∃ x b o cs, l[j]? = some x ∧ x ∈ l ∧ a = some ⟨b, o, none⟩ ∧ b < w.heap.size ∧ R x cs ∧ CellsAt w b (o + j * sz) cs ∧ l.length ≤ c ∧ c ≤ maxLen := by
  rcases RowsR.open h with ⟨_, h0⟩ | ⟨b, o, cap, hv, _, hb, hc, hm, hx⟩
  · rw [h0] at hj
    simp at hj
  · simp only [Value.slice.injEq] at hv
    obtain ⟨cs, hr, _, hcs⟩ := hx j _ (List.getElem?_eq_getElem hj)
    exact ⟨l[j], b, o, cs, List.getElem?_eq_getElem hj, List.getElem_mem hj, hv.1, hb, hr, hcs, hv.2.2 ▸ hc, hv.2.2 ▸ hm⟩

end Go.Proofs.YtkhlmofcdchccaaGreatDoor
namespace Go.Proofs.YtkhlmofcdchccaaGreatDoor
open Go.RowKit

set_option maxRecDepth 100000 in
set_option maxHeartbeats 2000000 in
theorem rfind_any {M : Nat → Prop} (nm : ByteArray) (v : Value) (l : List Col) (c : ByteArray) (w : World) (hv : ColsR M w v l) :
    Calls Tryz.prog 176 #[.agg #[.string nm, v], .string c] w (RetBel (.int .i64 (idxI (findCol l c))) w) := by
  obtain ⟨a, cap, rfl, hm⟩ := hv.shape
  unfold maxLen at hm
  have HL := Lib.hid fun j (hj : j < l.length) => rows_row hv hj
  obtain ⟨n, hn⟩ : ∃ n, l.length = n := ⟨_, rfl⟩
  rw [hn] at HL hm ⊢
  have HNL := Lib.hid hn
  clear hv hn
  go_enter Tryz.func176, Tryz.ntmps176
  go_wp2_with fail
  go_loopw [10] (fun i wr => ∃ j : Nat, j ≤ n ∧ i = .int .i64 (j : Int) ∧ Below w.heap.size w wr ∧ ∀ i y, i < j → l[i]? = some y → nameIs c y = false) (fun i _ => n - (intOf i).toNat)
  case atStart => exact ⟨0, Nat.zero_le _, rfl, (Below.refl _ _).alloc (Nat.le_refl _) _, fun i y hi => by omega⟩
  case round =>
    rename World => wr
    obtain ⟨j, hj, rfl, hbel, hnn⟩ := hrel
    have HN := Lib.hid hnn
    have HB := Lib.hid hbel
    have hz0 := hbel.size
    clear hnn hbel
    by_cases hlt : j < n
    · obtain ⟨x, b, o, cs, hxj, _, rfl, hbz, hcs0, hcs, hcap, hcm⟩ := HL.out j hlt
      obtain rfl : cs = [.string x.name, .int .i64 x.type, .bool x.notNull, .bool x.key] := hcs0
      unfold maxLen at hcm
      obtain ⟨c0, c1, c2, c3⟩ := CellsAt.c4 (hcs.keep (M := NoM) (.bel HB.out) id)
      have HXJ := Lib.hid hxj
      clear hcs hxj
      have i0 : (0 : Int) ≤ (j : Int) := by omega
      have i1 : (j : Int) < (n : Int) := by omega
      cases he : (x.name.toList == c.toList)
      · go_wp2_with fail
        go_roundw
        case rel =>
          refine ⟨j + 1, by omega, by go_num, HB.out.alloc HB.out.size _, fun i y hi hy => ?_⟩
          by_cases e : i = j
          · subst e
            rw [HXJ.out] at hy
            cases hy
            exact he
          · exact HN.out i y (by omega) hy
        case measure => simp [intOf]; omega
      · go_wp2_with fail
        go_ret
        refine ⟨?_, HB.out.alloc HB.out.size _⟩
        rw [show findCol l c = some j from findIdx_some HXJ.out he HN.out]
        rfl
    · obtain rfl : j = n := by omega
      go_wp2_with fail
      go_ret
      refine ⟨?_, HB.out⟩
      rw [show findCol l c = none from findIdx_none fun i y hi hy => HN.out i y (by rw [HNL.out] at hi; exact hi) hy]
      rfl

/-- Which columns and schemas are well-formed. -/
def colmV (c : Col) : Bool := nameB c.name && decide (1 ≤ c.type) && decide (c.type ≤ 3) && (!c.key || c.notNull)
def schV (s : Sch) : Bool := nameB s.name && decide (1 ≤ s.cols.length) && decide (s.cols.length ≤ 6) && s.cols.all colmV && distA [] (s.cols.map Col.name) && decide ((s.cols.filter Col.key).length ≤ 1)
theorem find_first {l : List Col} {j : Nat} {x : Col} (hx : l[j]? = some x) (h : findCol l x.name ≠ some j) : distA [] (l.map Col.name) = false := by
  unfold findCol at h
  have hp : nameIs x.name x = true := by unfold nameIs; simp
  cases hf : l.findIdx? (nameIs x.name) with
  | none =>
    rw [List.findIdx?_eq_none_iff] at hf
    have := hf x (List.mem_of_getElem? hx)
    rw [hp] at this
    cases this
  | some i =>
    rw [hf] at h
    have hf' := hf
    rw [List.findIdx?_eq_some_iff_getElem] at hf'
    obtain ⟨hi, hpi, hno⟩ := hf'
    have hle : i ≤ j := by
      rcases Nat.lt_or_ge j i with hlt | hge
      · have h2 := hno j hlt
        obtain ⟨hj, rfl⟩ := List.getElem?_eq_some_iff.1 hx
        rw [hp] at h2
        simp at h2
      · exact hge
    have hne : i ≠ j := fun e => h (by rw [e])
    refine dist_no (i := i) (j := j) (a := l[i].name) (b := x.name) (by omega) (by simp [hi]) (by rw [List.getElem?_map, hx]; rfl) ?_
    exact hpi
theorem find_all {l : List Col} (h : ∀ (j : Nat) (x : Col), j < l.length → l[j]? = some x → findCol l x.name = some j) : distA [] (l.map Col.name) = true := by
  refine dist_yes fun i k x y hik hk hx hy => ?_
  rw [List.length_map] at hk
  rw [List.getElem?_map] at hx hy
  obtain ⟨x', hx', rfl⟩ := Option.map_eq_some_iff.1 hx
  obtain ⟨y', hy', rfl⟩ := Option.map_eq_some_iff.1 hy
  have hf := h k y' hk hy'
  unfold findCol at hf
  rw [List.findIdx?_eq_some_iff_getElem] at hf
  obtain ⟨_, _, hno⟩ := hf
  have h2 := hno i hik
  obtain ⟨hi, rfl⟩ := List.getElem?_eq_some_iff.1 hx'
  simpa [nameIs] using h2
theorem filter_take {l : List Col} {j : Nat} {x : Col} (hx : l[j]? = some x) : (((l.take (j + 1)).filter Col.key).length : Int) = ((l.take j).filter Col.key).length + (if x.key then 1 else 0) := by
  rw [List.take_add_one, hx, List.filter_append, List.length_append]
  cases hk : x.key <;> simp [hk]

set_option maxRecDepth 100000 in
set_option maxHeartbeats 8000000 in
theorem rsch_any {M : Nat → Prop} (s : Sch) (v : Value) (w : World) (hv : ColsR M w v s.cols) (hs : s.name.size ≤ maxLen) (hc : ∀ c ∈ s.cols, c.name.size ≤ maxLen) :
    Calls Tryz.prog 119 #[.agg #[.string s.name, v]] w (RetBel (.bool (schV s)) w) := by
  obtain ⟨a, cap, rfl, hm⟩ := hv.shape
  unfold maxLen at hm
  obtain ⟨nm, l⟩ := s
  dsimp only at *
  have HL := Lib.hid fun j (hj : j < l.length) => rows_row hv hj
  have HFD := Lib.hid fun c wx (k : Below w.heap.size w wx) => rfind_any nm _ l c wx (RowsR.map hv (.bel (M := M) k) fun _ _ _ h => h)
  have HC := Lib.hid hc
  have HV : Hid (schV ⟨nm, l⟩ = (nameB nm && decide (1 ≤ l.length) && decide (l.length ≤ 6) && l.all colmV && distA [] (l.map Col.name) && decide ((l.filter Col.key).length ≤ 1))) := Lib.hid rfl
  have HM1 := Lib.hid fun wx => rvalidName_any nm wx hs
  generalize schV ⟨nm, l⟩ = V at HV ⊢
  obtain ⟨n, hn⟩ : ∃ n, l.length = n := ⟨_, rfl⟩
  rw [hn] at HL HFD HV hm ⊢
  have HNL := Lib.hid hn
  clear hv hn hc hs
  generalize nameB nm = nb at HM1 HV
  go_enter Tryz.func119, Tryz.ntmps119
  go_wp2_with fail
  generalize hW0 : World.alloc w _ = W1
  have hb0 : W1.heap[w.heap.size]? = some (.cells #[.string nm, .slice a n cap] 42 (0, 0)) := by rw [← hW0]; exact heap_alloc_new w _
  have HB1 := Lib.hid (show Below w.heap.size w W1 from by rw [← hW0]; exact (Below.refl _ _).alloc (Nat.le_refl _) _)
  have hz1 := (Array.getElem?_eq_some_iff.1 hb0).1
  obtain ⟨x0, x1, _⟩ := blk2 hb0
  have HC1 := Lib.hid hb0
  clear hW0 hb0
  refine (HM1.out _).mono ?_
  rintro e wy ⟨rfl, rfl⟩
  dsimp only
  cases nb
  case false =>
    go_wp2_with fail
    go_ret
    exact ⟨by rw [HV.out]; rfl, HB1.out⟩
  case true =>
    by_cases p1 : (n : Int) < 1
    · go_wp2_with fail
      go_ret
      refine ⟨?_, HB1.out⟩
      rw [HV.out, show decide (1 ≤ n) = false by simp; omega]
      rfl
    · by_cases p6 : (6 : Int) < (n : Int)
      · go_wp2_with fail
        go_ret
        refine ⟨?_, HB1.out⟩
        rw [HV.out, show decide (n ≤ 6) = false by simp; omega]
        simp
      · have HV1 : Hid (V = (l.all colmV && distA [] (l.map Col.name) && decide ((l.filter Col.key).length ≤ 1))) := Lib.hid (by
          rw [HV.out, show decide (1 ≤ n) = true by simp; omega, show decide (n ≤ 6) = true by simp; omega]
          rfl)
        clear HV
        have HV := HV1
        clear HV1
        go_wp2_with fail
        go_loopw [3, 25] (fun q i wr => ∃ j : Nat, j ≤ n ∧ i = .int .i64 (j : Int) ∧ q = .int .i64 (((l.take j).filter Col.key).length : Int) ∧ Below w.heap.size w wr ∧ wr.heap[w.heap.size]? = some (.cells #[.string nm, .slice a n cap] 42 (0, 0)) ∧ ∀ i y, i < j → l[i]? = some y → colmV y = true ∧ findCol l y.name = some i) (fun _ i _ => n - (intOf i).toNat)
        case atStart => exact ⟨0, Nat.zero_le _, rfl, rfl, HB1.out, HC1.out, fun i y hi => by omega⟩
        case round =>
          rename World => wr
          obtain ⟨j, hj, rfl, rfl, hbel, hblk, hnn⟩ := hrel
          clear x0 x1
          obtain ⟨x0, x1, _⟩ := blk2 hblk
          have HN := Lib.hid hnn
          have HB := Lib.hid hbel
          have HCR := Lib.hid hblk
          have hz0 := hbel.size
          have hzr := (Array.getElem?_eq_some_iff.1 hblk).1
          clear hnn hbel hblk
          by_cases hlt : j < n
          · obtain ⟨x, b, o, cs, hxj, hmem, hab, hbz, hcs0, hcs, hcap, hcm⟩ := HL.out j hlt
            obtain rfl : cs = [.string x.name, .int .i64 x.type, .bool x.notNull, .bool x.key] := hcs0
            unfold maxLen at hcm
            obtain ⟨c0, c1, c2, c3⟩ := CellsAt.c4 (hcs.keep (M := NoM) (.bel HB.out) id)
            have HXJ := Lib.hid hxj
            have HM2 := Lib.hid fun wx => rvalidName_any x.name wx (HC.out x hmem)
            have HFJ := Lib.hid (filter_take hxj)
            have hkl : (((l.take j).filter Col.key).length : Int) ≤ 6 := by
              have h1 := List.length_filter_le Col.key (l.take j)
              have h2 : (l.take j).length ≤ j := by simp; omega
              omega
            have HCV : Hid (colmV x = (nameB x.name && decide (1 ≤ x.type) && decide (x.type ≤ 3) && (!x.key || x.notNull))) := Lib.hid rfl
            have HFX := Lib.hid fun wx k => HFD.out x.name wx k
            have HXN : Hid (∀ y, l[j]? = some y → y = x) := Lib.hid fun y hy => by rw [hxj] at hy; cases hy; rfl
            clear hcs hxj hmem
            have hkl0 : (0 : Int) ≤ (((l.take j).filter Col.key).length : Int) := by omega
            generalize (((l.take j).filter Col.key).length : Int) = kk at hkl hkl0 HFJ ⊢
            have hwk : IntKind.i64.wrap (kk + 1) = kk + 1 := IntWalk.i64_in _ (by omega)
            have HFXN : Hid (findCol l x.name ≠ some j → V = false) := Lib.hid fun h => by
              rw [HV.out, find_first HXJ.out h]
              simp
            have HCVN : Hid (colmV x = false → V = false) := Lib.hid fun h => by
              rw [HV.out, all_not HXJ.out h]
              rfl
            have HSTEP : Hid (colmV x = true → findCol l x.name = some j → ∀ i y, i < j + 1 → l[i]? = some y → colmV y = true ∧ findCol l y.name = some i) := Lib.hid fun h1 h2 i y hi hy => by
              by_cases e : i = j
              · subst e
                rw [HXN.out y hy]
                exact ⟨h1, h2⟩
              · exact HN.out i y (by omega) hy
            generalize colmV x = cv at HCV HCVN HSTEP
            generalize findCol l x.name = fi at HFX HFXN HSTEP
            obtain ⟨xn, xt, xnn, xk⟩ := x
            dsimp only at *
            generalize nameB xn = nn at HM2 HCV
            subst hab
            have i0 : (0 : Int) ≤ (j : Int) := by omega
            have i1 : (j : Int) < (n : Int) := by omega
            go_wp2_with fail
            generalize hW : World.alloc wr _ = wb
            have hb0 : wb.heap[wr.heap.size]? = some (.cells #[.string xn, .int .i64 xt, .bool xnn, .bool xk] 55 (0, 0)) := by rw [← hW]; exact heap_alloc_new wr _
            have HBB := Lib.hid (show Below w.heap.size w wb from by rw [← hW]; exact HB.out.alloc HB.out.size _)
            have HCB := Lib.hid (show wb.heap[w.heap.size]? = some (.cells #[.string nm, .slice (some ⟨b, o, none⟩) n cap] 42 (0, 0)) from by rw [← hW]; exact (heap_alloc_old wr _ hzr).trans HCR.out)
            have hzb := (Array.getElem?_eq_some_iff.1 hb0).1
            have hzc := (Array.getElem?_eq_some_iff.1 HCB.out).1
            obtain ⟨d0, d1, d2, d3, _⟩ := blk4 hb0
            have HD := Lib.hid hb0
            clear hW c0 c1 c2 c3 hb0 x0 x1
            obtain ⟨x0, x1, _⟩ := blk2 HCB.out
            refine (HM2.out _).mono ?_
            rintro e wz ⟨rfl, rfl⟩
            dsimp only
            cases nn
            · go_wp2_with fail
              go_ret
              refine ⟨?_, HBB.out⟩
              rw [HCVN.out (by rw [HCV.out]; rfl)]
              rfl
            · by_cases q1 : xt < 1
              · go_wp2_with fail
                go_ret
                refine ⟨?_, HBB.out⟩
                rw [HCVN.out (by rw [HCV.out]; simp; intros; omega)]
                rfl
              · by_cases q3 : 3 < xt
                · go_wp2_with fail
                  go_ret
                  refine ⟨?_, HBB.out⟩
                  rw [HCVN.out (by rw [HCV.out]; simp; intros; omega)]
                  rfl
                · have gq1 : 1 ≤ xt := by omega
                  have gq3 : xt ≤ 3 := by omega
                  cases xk
                  · go_wp2_with fail
                    refine (HFX.out _ HBB.out).mono ?_
                    rintro e w4 ⟨rfl, hb⟩
                    have HB4 := Lib.hid (HBB.out.trans (hb.mono HBB.out.size))
                    have HC4 := Lib.hid ((hb.block _ hzc).trans HCB.out)
                    clear d0 d1 d2 d3 x0 x1
                    obtain ⟨d0, d1, d2, d3, _⟩ := blk4 ((hb.block _ hzb).trans HD.out)
                    clear hb
                    dsimp only
                    by_cases hfe : fi = some j
                    · have hid : idxI fi = (j : Int) := by rw [hfe]; rfl
                      rw [hid]
                      have HFE := Lib.hid hfe
                      clear hfe hid
                      have hjj : ((j : Int) != (j : Int)) = false := by simp
                      go_wp2_with fail
                      go_roundw
                      case rel =>
                        refine ⟨j + 1, by omega, by go_num, ?_, HB4.out, HC4.out, HSTEP.out ?_ HFE.out⟩
                        · rw [HFJ.out]; simp
                        · rw [HCV.out]; simp; omega
                      case measure => simp [intOf]; omega
                    · have hne : ¬ idxI fi = (j : Int) := by
                        cases fi with
                        | none => show ¬ (-1 : Int) = (j : Int); omega
                        | some i => exact fun e => hfe (by have e2 : (i : Int) = (j : Int) := e; rw [show i = j by omega])
                      have hjj : (idxI fi != (j : Int)) = true := by simp [bne, hne]
                      have HFE := Lib.hid hfe
                      clear hfe
                      generalize idxI fi = fz at hjj hne ⊢
                      go_wp2_with fail
                      go_ret
                      refine ⟨?_, HB4.out⟩
                      rw [HFXN.out HFE.out]
                      rfl
                  · cases xnn
                    · go_wp2_with fail
                      go_ret
                      refine ⟨?_, HBB.out⟩
                      rw [HCVN.out (by rw [HCV.out]; simp)]
                      rfl
                    · go_wp2_with fail
                      refine (HFX.out _ HBB.out).mono ?_
                      rintro e w4 ⟨rfl, hb⟩
                      have HB4 := Lib.hid (HBB.out.trans (hb.mono HBB.out.size))
                      have HC4 := Lib.hid ((hb.block _ hzc).trans HCB.out)
                      clear d0 d1 d2 d3 x0 x1
                      obtain ⟨d0, d1, d2, d3, _⟩ := blk4 ((hb.block _ hzb).trans HD.out)
                      clear hb
                      dsimp only
                      by_cases hfe : fi = some j
                      · have hid : idxI fi = (j : Int) := by rw [hfe]; rfl
                        rw [hid]
                        have HFE := Lib.hid hfe
                        clear hfe hid
                        have hjj : ((j : Int) != (j : Int)) = false := by simp
                        go_wp2_with fail
                        go_roundw
                        case rel =>
                          refine ⟨j + 1, by omega, by go_num, ?_, HB4.out, HC4.out, HSTEP.out ?_ HFE.out⟩
                          · rw [HFJ.out]; simp
                          · rw [HCV.out]; simp; omega
                        case measure => simp [intOf]; omega
                      · have hne : ¬ idxI fi = (j : Int) := by
                          cases fi with
                          | none => show ¬ (-1 : Int) = (j : Int); omega
                          | some i => exact fun e => hfe (by have e2 : (i : Int) = (j : Int) := e; rw [show i = j by omega])
                        have hjj : (idxI fi != (j : Int)) = true := by simp [bne, hne]
                        have HFE := Lib.hid hfe
                        clear hfe
                        generalize idxI fi = fz at hjj hne ⊢
                        go_wp2_with fail
                        go_ret
                        refine ⟨?_, HB4.out⟩
                        rw [HFXN.out HFE.out]
                        rfl
          · obtain rfl : j = n := by omega
            have hta : l.take j = l := List.take_of_length_le (Nat.le_of_eq HNL.out)
            rw [hta]
            have HVE : Hid (V = decide ((l.filter Col.key).length ≤ 1)) := Lib.hid (by
              rw [HV.out, all_yes (fun i y hi hy => (HN.out i y (by rw [HNL.out] at hi; exact hi) hy).1), find_all (fun i y hi hy => (HN.out i y (by rw [HNL.out] at hi; exact hi) hy).2)]
              rfl)
            clear hta HV HN
            generalize (l.filter Col.key).length = kk at HVE ⊢
            by_cases g : (kk : Int) ≤ 1
            · go_wp2_with fail
              go_ret
              refine ⟨?_, HB.out⟩
              rw [HVE.out]
              simp
              omega
            · go_wp2_with fail
              go_ret
              refine ⟨?_, HB.out⟩
              rw [HVE.out]
              simp
              omega
end Go.Proofs.YtkhlmofcdchccaaGreatDoor
namespace Go.Proofs.YtkhlmofcdchccaaGreatDoor
open Go.RowKit

/-- The call returns some number of lo to hi, and makes new memory only. -/
def IntBel (lo hi : Int) (w : World) (e : Ending) (w' : World) : Prop := ∃ z : Int, e = .returned (.int .i64 z) ∧ lo ≤ z ∧ z ≤ hi ∧ Below w.heap.size w w'
def BoolBel (w : World) (e : Ending) (w' : World) : Prop := ∃ b : Bool, e = .returned (.bool b) ∧ Below w.heap.size w w'

set_option maxRecDepth 100000 in
set_option maxHeartbeats 2000000 in
theorem r4key_any {M : Nat → Prop} (nm : ByteArray) (v : Value) (l : List Col) (w : World) (hv : ColsR M w v l) :
    Calls Tryz.prog 118 #[.agg #[.string nm, v]] w (IntBel (-1) ((l.length : Int) - 1) w) := by
  obtain ⟨a, cap, rfl, hm⟩ := hv.shape
  unfold maxLen at hm
  have HL := Lib.hid fun j (hj : j < l.length) => rows_row hv hj
  obtain ⟨n, hn⟩ : ∃ n, l.length = n := ⟨_, rfl⟩
  rw [hn] at HL hm ⊢
  clear hv hn
  go_enter Tryz.func118, Tryz.ntmps118
  go_wp2_with fail
  go_loopw [8] (fun i wr => ∃ j : Nat, j ≤ n ∧ i = .int .i64 (j : Int) ∧ Below w.heap.size w wr) (fun i _ => n - (intOf i).toNat)
  case atStart => exact ⟨0, Nat.zero_le _, rfl, (Below.refl _ _).alloc (Nat.le_refl _) _⟩
  case round =>
    rename World => wr
    obtain ⟨j, hj, rfl, hbel⟩ := hrel
    have HB := Lib.hid hbel
    have hz0 := hbel.size
    clear hbel
    by_cases hlt : j < n
    · obtain ⟨x, b, o, cs, hxj, _, rfl, hbz, hcs0, hcs, hcap, hcm⟩ := HL.out j hlt
      obtain rfl : cs = [.string x.name, .int .i64 x.type, .bool x.notNull, .bool x.key] := hcs0
      unfold maxLen at hcm
      obtain ⟨c0, c1, c2, c3⟩ := CellsAt.c4 (hcs.keep (M := NoM) (.bel HB.out) id)
      clear hcs hxj
      have i0 : (0 : Int) ≤ (j : Int) := by omega
      have i1 : (j : Int) < (n : Int) := by omega
      cases hk : x.key
      · rw [hk] at c3
        go_wp2_with fail
        go_roundw
        case rel => exact ⟨j + 1, by omega, by go_num, HB.out.alloc HB.out.size _⟩
        case measure => simp [intOf]; omega
      · rw [hk] at c3
        go_wp2_with fail
        go_ret
        exact ⟨_, rfl, by omega, by omega, HB.out.alloc HB.out.size _⟩
    · obtain rfl : j = n := by omega
      go_wp2_with fail
      go_ret
      exact ⟨_, rfl, by omega, by omega, HB.out⟩

set_option maxRecDepth 100000 in
set_option maxHeartbeats 2000000 in
theorem r4fits_any (c : Col) (v : Val) (w : World) (hs : v.text.size ≤ maxLen) : Calls Tryz.prog 117 #[.agg #[.string c.name, .int .i64 c.type, .bool c.notNull, .bool c.key], valOf v] w (IntBel 0 100 w) := by
  have HV := Lib.hid fun wx => rvalid_any v wx hs
  obtain ⟨k, i, s⟩ := v
  obtain ⟨cn, ct, cnn, ck⟩ := c
  unfold valOf at *
  dsimp only at *
  generalize validV _ = vb at HV
  clear hs
  go_enter Tryz.func117, Tryz.ntmps117
  go_wp2_with fail
  have hb0 : (w.alloc (.cells #[.string cn, .int .i64 ct, .bool cnn, .bool ck] 55)).alloc (.cells #[.int .i64 k, .int .i64 i, .string s] 26) = (w.alloc (.cells #[.string cn, .int .i64 ct, .bool cnn, .bool ck] 55)).alloc (.cells #[.int .i64 k, .int .i64 i, .string s] 26) := rfl
  generalize hW : ((w.alloc _).alloc _) = W0 at hb0 ⊢
  have hB : Below w.heap.size w W0 := by rw [← hW]; exact ((Below.refl _ _).alloc (Nat.le_refl _) _).alloc (by simp) _
  have h1 : W0.heap[w.heap.size]? = some (.cells #[.string cn, .int .i64 ct, .bool cnn, .bool ck] 55 (0, 0)) := by
    rw [← hW]
    exact (((Below.refl (w.alloc (.cells #[.string cn, .int .i64 ct, .bool cnn, .bool ck] 55)).heap.size _).alloc (Nat.le_refl _) _).block w.heap.size (by simp)).trans (heap_alloc_new w _)
  have h2 : W0.heap[w.heap.size + 1]? = some (.cells #[.int .i64 k, .int .i64 i, .string s] 26 (0, 0)) := by
    rw [← hW]
    have h := heap_alloc_new (w.alloc (.cells #[.string cn, .int .i64 ct, .bool cnn, .bool ck] 55)) (.cells #[.int .i64 k, .int .i64 i, .string s] 26)
    rw [show (w.alloc (.cells #[.string cn, .int .i64 ct, .bool cnn, .bool ck] 55)).heap.size = w.heap.size + 1 by simp] at h
    exact h
  clear hW hb0
  refine (HV.out W0).mono ?_
  rintro e w1 ⟨rfl, hb⟩
  have HB := Lib.hid (hB.trans (hb.mono hB.size))
  obtain ⟨y0, y1, y2, y3, _⟩ := blk4 ((hb.block _ (Array.getElem?_eq_some_iff.1 h1).1).trans h1)
  obtain ⟨z0, z1, z2, _⟩ := blk3 ((hb.block _ (Array.getElem?_eq_some_iff.1 h2).1).trans h2)
  clear hb hB h1 h2
  dsimp only
  cases vb
  · go_wp2_with fail
    go_ret
    exact ⟨_, rfl, by omega, by omega, HB.out⟩
  · by_cases hk : k = 0
    · subst hk
      cases cnn
      all_goals
        go_wp2_with fail
        go_ret
        exact ⟨_, rfl, by omega, by omega, HB.out⟩
    · by_cases ht : k = ct
      · subst ht
        go_wp2_with fail
        go_ret
        exact ⟨_, rfl, by omega, by omega, HB.out⟩
      · go_wp2_with fail
        go_ret
        exact ⟨_, rfl, by omega, by omega, HB.out⟩

set_option maxRecDepth 100000 in
set_option maxHeartbeats 4000000 in
theorem r5fits_any {M : Nat → Prop} (nm : ByteArray) (v u : Value) (l : List Col) (x : List Val) (w : World) (hv : ColsR M w v l) (hu : ValsR M w u x) (hs : ∀ y ∈ x, y.text.size ≤ maxLen) :
    Calls Tryz.prog 61 #[.agg #[.string nm, v], u] w (IntBel 0 100 w) := by
  obtain ⟨a, cap, rfl, hm⟩ := hv.shape
  obtain ⟨a', cap', rfl, hm'⟩ := hu.shape
  unfold maxLen at hm hm'
  have HL := Lib.hid fun j (hj : j < l.length) => rows_row hv hj
  have HX := Lib.hid fun j (hj : j < x.length) => rows_row hu hj
  have HS := Lib.hid hs
  obtain ⟨n, hn⟩ : ∃ n, l.length = n := ⟨_, rfl⟩
  obtain ⟨m, hmx⟩ : ∃ n, x.length = n := ⟨_, rfl⟩
  rw [hn] at HL hm ⊢
  rw [hmx] at HX hm' ⊢
  clear hv hn hu hmx hs
  by_cases hnm : m = n
  · subst hnm
    go_enter Tryz.func61, Tryz.ntmps61
    go_wp2_with fail
    go_loopw [17] (fun i wr => ∃ j : Nat, j ≤ m ∧ i = .int .i64 (j : Int) ∧ Below w.heap.size w wr) (fun i _ => m - (intOf i).toNat)
    case atStart => exact ⟨0, Nat.zero_le _, rfl, (Below.refl _ _).alloc (Nat.le_refl _) _⟩
    case round =>
      rename World => wr
      obtain ⟨j, hj, rfl, hbel⟩ := hrel
      have HB := Lib.hid hbel
      have hz0 := hbel.size
      clear hbel
      by_cases hlt : j < m
      · obtain ⟨c, b, o, cs, hcj, _, rfl, hbz, hcs0, hcs, hcap, hcm⟩ := HL.out j hlt
        obtain rfl : cs = [.string c.name, .int .i64 c.type, .bool c.notNull, .bool c.key] := hcs0
        unfold maxLen at hcm
        obtain ⟨c0, c1, c2, c3⟩ := CellsAt.c4 (hcs.keep (M := NoM) (.bel HB.out) id)
        obtain ⟨y, b', o', cs', hyj, hym, rfl, hbz', hcs0', hcs', hcap', hcm'⟩ := HX.out j hlt
        obtain rfl : cs' = valCells y := hcs0'
        unfold maxLen at hcm'
        have HF := Lib.hid fun wx => r4fits_any c y wx (HS.out y hym)
        obtain ⟨p0, p1, p2⟩ := (hcs'.keep (M := NoM) (.bel HB.out) id).vals
        clear hcs hcj hcs' hyj hym
        have i0 : (0 : Int) ≤ (j : Int) := by omega
        have i1 : (j : Int) < (m : Int) := by omega
        have hbx := heap_alloc_new wr (.cells #[.string c.name, .int .i64 c.type, .bool c.notNull, .bool c.key] 55)
        have HB1 := Lib.hid (HB.out.alloc HB.out.size (.cells #[.string c.name, .int .i64 c.type, .bool c.notNull, .bool c.key] 55))
        have hbw : Below wr.heap.size wr (wr.alloc (.cells #[.string c.name, .int .i64 c.type, .bool c.notNull, .bool c.key] 55)) := (Below.refl _ _).alloc (Nat.le_refl _) _
        go_upto_region 6 with fail
        generalize World.alloc _ _ = W1 at hbx HB1 hbw ⊢
        obtain ⟨e0, e1, e2, e3, _⟩ := blk4 hbx
        have hb1 : b' < wr.heap.size := by omega
        have q0 := (hbw.cell (p := ⟨b', o' + j * 3, none⟩) hb1).trans p0
        have q1 := (hbw.cell (p := ⟨b', o' + j * 3 + 1, none⟩) hb1).trans p1
        have q2 := (hbw.cell (p := ⟨b', o' + j * 3 + 2, none⟩) hb1).trans p2
        have hz1 : wr.heap.size < W1.heap.size := (Array.getElem?_eq_some_iff.1 hbx).1
        have hb2 : b' < W1.heap.size := by omega
        have HKS := Lib.hid (fun (w' : World) (h : Below W1.heap.size W1 w') => show w'.cell? ⟨b', o' + j * 3, none⟩ = some (.int .i64 y.kind) ∧ w'.cell? ⟨b', o' + j * 3 + 1, none⟩ = some (.int .i64 y.int) ∧ w'.cell? ⟨b', o' + j * 3 + 2, none⟩ = some (.string y.text) ∧ w'.cell? ⟨wr.heap.size, 0, none⟩ = some (.string c.name) ∧ w'.cell? ⟨wr.heap.size, 1, none⟩ = some (.int .i64 c.type) ∧ w'.cell? ⟨wr.heap.size, 2, none⟩ = some (.bool c.notNull) ∧ w'.cell? ⟨wr.heap.size, 3, none⟩ = some (.bool c.key) from ⟨(h.cell (p := ⟨b', o' + j * 3, none⟩) hb2).trans q0, (h.cell (p := ⟨b', o' + j * 3 + 1, none⟩) hb2).trans q1, (h.cell (p := ⟨b', o' + j * 3 + 2, none⟩) hb2).trans q2, (h.cell (p := ⟨wr.heap.size, 0, none⟩) hz1).trans e0, (h.cell (p := ⟨wr.heap.size, 1, none⟩) hz1).trans e1, (h.cell (p := ⟨wr.heap.size, 2, none⟩) hz1).trans e2, (h.cell (p := ⟨wr.heap.size, 3, none⟩) hz1).trans e3⟩)
        clear p0 p1 p2 c0 c1 c2 c3 hbx hbw
        go_region_held3 (fun w' => w'.cell? ⟨b', o' + j * 3, none⟩ = some (.int .i64 y.kind) ∧ w'.cell? ⟨b', o' + j * 3 + 1, none⟩ = some (.int .i64 y.int) ∧ w'.cell? ⟨b', o' + j * 3 + 2, none⟩ = some (.string y.text) ∧ w'.cell? ⟨wr.heap.size, 0, none⟩ = some (.string c.name) ∧ w'.cell? ⟨wr.heap.size, 1, none⟩ = some (.int .i64 c.type) ∧ w'.cell? ⟨wr.heap.size, 2, none⟩ = some (.bool c.notNull) ∧ w'.cell? ⟨wr.heap.size, 3, none⟩ = some (.bool c.key))
          (first | (with_reducible exact HKS.out _ HB2.out) | go_keep)
          ((go_at_call 117; refine (HF.out _).mono ?_; rintro e w1 ⟨z, rfl, hl, hh, hb⟩; have HB2 := Lib.hid (below_drew hb); clear hb))
        all_goals
          have HB3 := Lib.hid (bel_trans HB1.out HB2.out)
          by_cases hz : z = 0
          · subst hz
            go_wp2_with fail
            go_roundw
            case rel => exact ⟨j + 1, by omega, by go_num, HB3.out⟩
            case measure => simp [intOf]; omega
          · have bz : (z != 0) = true := by simpa using hz
            go_wp2_with fail
            go_ret
            exact ⟨_, rfl, hl, hh, HB3.out⟩
      · obtain rfl : j = m := by omega
        go_wp2_with fail
        go_ret
        exact ⟨_, rfl, by omega, by omega, HB.out⟩
  · have hnm' : ¬ ((m : Int) = (n : Int)) := by omega
    go_enter Tryz.func61, Tryz.ntmps61
    go_wp2_with fail
    go_ret
    exact ⟨_, rfl, by omega, by omega, (Below.refl _ _).alloc (Nat.le_refl _) _⟩
end Go.Proofs.YtkhlmofcdchccaaGreatDoor
