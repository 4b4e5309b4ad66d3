/- Which expressions are well-formed, over plain trees. No program is named here. Which texts are names: contract of schema.ValidName. -/
import Derived.Test.YtkhlmofcdchccaaGreatDoorKB
import Derived.Test.YtkhlmofcdchccaaGreatDoorKV1
import Derived.Laws.IdiomStrings
namespace Go.Proofs.YtkhlmofcdchccaaGreatDoor
open Go.RowKit

def letB (c : UInt8) : Bool := decide (97 ≤ c.toNat) && decide (c.toNat ≤ 122)
def digB (c : UInt8) : Bool := decide (48 ≤ c.toNat) && decide (c.toNat ≤ 57)
def nchB (c : UInt8) : Bool := letB c || digB c || c.toNat == 95
/-- A name. -/
def nameB (s : ByteArray) : Bool := decide (1 ≤ s.size) && decide (s.size ≤ 12) && s.data.toList.all nchB && (s.data.toList.head?.any letB)
def kwIns : List UInt8 := [73, 78, 83, 69, 82, 84, 69, 68]
def kwDel : List UInt8 := [68, 69, 76, 69, 84, 69, 68]
def sourceB (s : ByteArray) : Bool := nameB s || s.toList == kwIns || s.toList == kwDel
def columnB (t n : ByteArray) : Bool := (t.toList == [] || t.toList == [78, 69, 87] || t.toList == [79, 76, 68] || t.toList == kwIns || t.toList == kwDel || nameB t) && nameB n
def valZ (v : Val) : Bool := decide (v.kind = 0) && decide (v.int = 0) && noText v.text
def nameZ (t n : ByteArray) : Bool := noText t && noText n

mutual
def validP : Ex → Bool
  | .mk k o no v t nm args sub =>
    if k = 1 then decide (o = 0) && !no && nameZ t nm && decide (args.length = 0) && decide (sub.length = 0) && validV v && !(decide (v.kind = 1) && decide (v.int < 0))
    else if k = 2 then decide (o = 0) && !no && valZ v && decide (args.length = 0) && decide (sub.length = 0) && columnB t nm
    else if 8 ≤ k ∧ k ≤ 12 then decide (o = 0) && !no && valZ v && nameZ t nm && decide (args.length = 0) && decide (sub.length = 1) && validS k sub
    else if k = 5 then decide (1 ≤ o) && decide (o ≤ 13) && !no && valZ v && nameZ t nm && decide (sub.length = 0) && decide (args.length = 2) && validL args
    else if k = 6 then decide (o = 0) && valZ v && nameZ t nm && decide (sub.length = 0) && decide (args.length = 1) && validL args
    else decide (o = 0) && !no && valZ v && nameZ t nm && decide (sub.length = 0) && decide ((args.length : Int) = if k = 3 ∨ k = 4 then 1 else if k = 7 then 3 else -1) && validL args
def validS (k : Int) : List Qu → Bool
  | [] => true
  | .mk st items f whr :: qs => (st == decide (k = 8)) && decide (items.length = if k = 8 ∨ k = 9 then 0 else 1) && sourceB f && decide (whr.length ≤ 1) && validL items && validL whr && validS k qs
def validL : List Ex → Bool
  | [] => true
  | e :: es => validP e && validL es
end

theorem validL_all : ∀ l : List Ex, validL l = l.all validP
  | [] => by simp [validL]
  | e :: l => by rw [validL, validL_all l, List.all_cons]

theorem validP_eq (e : Ex) : validP e =
    if e.kind = 1 then decide (e.op = 0) && !e.no && nameZ e.table e.name && decide (e.args.length = 0) && decide (e.sub.length = 0) && validV e.val && !(decide (e.val.kind = 1) && decide (e.val.int < 0))
    else if e.kind = 2 then decide (e.op = 0) && !e.no && valZ e.val && decide (e.args.length = 0) && decide (e.sub.length = 0) && columnB e.table e.name
    else if 8 ≤ e.kind ∧ e.kind ≤ 12 then decide (e.op = 0) && !e.no && valZ e.val && nameZ e.table e.name && decide (e.args.length = 0) && decide (e.sub.length = 1) && validS e.kind e.sub
    else if e.kind = 5 then decide (1 ≤ e.op) && decide (e.op ≤ 13) && !e.no && valZ e.val && nameZ e.table e.name && decide (e.sub.length = 0) && decide (e.args.length = 2) && validL e.args
    else if e.kind = 6 then decide (e.op = 0) && valZ e.val && nameZ e.table e.name && decide (e.sub.length = 0) && decide (e.args.length = 1) && validL e.args
    else decide (e.op = 0) && !e.no && valZ e.val && nameZ e.table e.name && decide (e.sub.length = 0) && decide ((e.args.length : Int) = if e.kind = 3 ∨ e.kind = 4 then 1 else if e.kind = 7 then 3 else -1) && validL e.args := by
  obtain ⟨k, o, no, v, t, nm, args, sub⟩ := e
  rw [validP]
  rfl

/-- Texts that a machine can hold. -/
inductive TxtOk : Ex → Prop
  | mk (e : Ex) (hv : e.val.text.size ≤ maxLen) (ht : e.table.size ≤ maxLen) (hn : e.name.size ≤ maxLen) (ha : ∀ a ∈ e.args, TxtOk a) (hq : ∀ q ∈ e.sub, q.frm.size ≤ maxLen) (hi : ∀ q ∈ e.sub, ∀ x ∈ q.items, TxtOk x) (hw : ∀ q ∈ e.sub, ∀ x ∈ q.whr, TxtOk x) : TxtOk e
end Go.Proofs.YtkhlmofcdchccaaGreatDoor

namespace Go.Proofs.YtkhlmofcdchccaaGreatDoor
open Go.RowKit

set_option maxHeartbeats 1000000 in
theorem validName_any (s : ByteArray) (w : World) (hs : s.size ≤ maxLen) : Calls Tryz.prog 101 #[.string s] w (RetBel (.bool (nameB s)) w) := by
  unfold maxLen at hs
  by_cases h0 : s.size < 1
  · have hn : Hid (nameB s = false) := Lib.hid (by unfold nameB; simp; omega)
    have h0' : ((s.size : Int) < 1) := by omega
    clear h0
    go_enter Tryz.func101, Tryz.ntmps101
    go_wp2_with fail
    go_ret
    exact ⟨ret_b hn.out.symm, Below.refl _ _⟩
  · by_cases h12 : 12 < s.size
    · have hn : Hid (nameB s = false) := Lib.hid (by unfold nameB; simp; omega)
      have h12' : ((12 : Int) < s.size) := by omega
      go_enter Tryz.func101, Tryz.ntmps101
      go_wp2_with fail
      go_ret
      exact ⟨ret_b hn.out.symm, Below.refl _ _⟩
    · have h0' : ¬ ((s.size : Int) < 1) := by omega
      have h12' : ¬ ((12 : Int) < s.size) := by omega
      have hz : 0 < s.size := by omega
      have hL : s.data.toList = s[0] :: s.data.toList.tail := by
        rcases hd : s.data.toList with _ | ⟨c, l⟩
        · have h1 := congrArg List.length hd
          rw [Array.length_toList] at h1
          exact absurd (show s.size = 0 from h1) (by omega)
        · have h1 : s.data.toList[0]? = some c := by rw [hd]; rfl
          have h2 : s.data.toList[0]? = some s[0] := by simp [hz]; rfl
          rw [h1] at h2
          cases h2
          rfl
      have hN : nameB s = (decide (97 ≤ s[0].toNat) && s.data.toList.all nchB) := by
        have e1 : decide (1 ≤ s.size) = true := decide_eq_true (by omega)
        have e2 : decide (s.size ≤ 12) = true := decide_eq_true (by omega)
        unfold nameB
        rw [e1, e2, hL]
        generalize s[0] = c
        generalize s.data.toList.tail = l
        simp only [List.all_cons, List.head?_cons, Option.any_some, Bool.true_and]
        cases hl : l.all nchB
        · simp
        · simp only [Bool.and_true, nchB, letB, digB]
          cases h97 : decide (97 ≤ c.toNat)
          · simp
          · have h97' : 97 ≤ c.toNat := by simpa using h97
            have h57 : decide (c.toNat ≤ 57) = false := by simp; omega
            have h95 : (c.toNat == 95) = false := by simp; omega
            simp [h57, h95]
      by_cases ha : (s[0].toNat : Int) < 97
      · have hn : Hid (nameB s = false) := Lib.hid (by rw [hN]; simp; omega)
        clear hN hL
        go_enter Tryz.func101, Tryz.ntmps101
        go_wp2_with fail
        go_ret
        exact ⟨ret_b hn.out.symm, Below.refl _ _⟩
      · have HN := Lib.hid hN
        have hconv := run_bytes_of_string (P := Tryz.prog) w 9 65 5 s Tryz.underlying9 Tryz.underlying65 Tryz.underlying5
        generalize hcap : grownCap w s.size 0 5 = cap at hconv
        have hcell : ∀ j (h : j < s.size), (bytesRow s cap)[j]? = some (.int .u8 (s[j].toNat : Int)) := fun j h => bytesRow_at s cap j h
        generalize bytesRow s cap = C at hconv hcell
        have HC := Lib.hid hcell
        have h95 : ((s[0].toNat : Int) != 95) = true := by simp; omega
        clear hN hL hcell
        go_enter Tryz.func101, Tryz.ntmps101
        go_wp2_with fail
        clear hconv
        generalize hW : World.drew _ = W2
        have hB2 : Below w.heap.size w W2 := by rw [← hW]; exact ((Below.refl _ _).alloc (Nat.le_refl _) _).drew
        have hc2 : ∀ j (h : j < s.size), W2.cell? ⟨w.heap.size, j, none⟩ = some (.int .u8 (s[j].toNat : Int)) := fun j h => by rw [← hW]; exact (cell_of_row (w.alloc _) w.heap.size j C 5 _ (heap_alloc_new w _)).trans (by simpa using HC.out j h)
        have HB2 := Lib.hid hB2
        have HC2 := Lib.hid hc2
        clear hW hB2 hc2 HC
        go_loopw [21] (fun i wr => ∃ j : Nat, j ≤ s.size ∧ i = .int .i64 j ∧ wr = W2 ∧ ∀ (m : Nat) (hm : m < s.size), m < j → nchB s[m] = true) (fun i _ => s.size - (intOf i).toNat)
        case atStart => exact ⟨0, Nat.zero_le _, rfl, rfl, fun m _ h => absurd h (by omega)⟩
        case round =>
          obtain ⟨j, hj, rfl, rfl, hno⟩ := hrel
          have HNO := Lib.hid hno
          clear hno
          by_cases hlt : j < s.size
          · have c0 := HC2.out j hlt
            have HQ : Hid (∀ b, ((decide (97 ≤ s[j].toNat) && decide (s[j].toNat ≤ 122)) || (decide (48 ≤ s[j].toNat) && decide (s[j].toNat ≤ 57)) || s[j].toNat == 95) = b → nchB s[j] = b) := Lib.hid fun b h => h
            have HS : Hid (nchB s[j] = false → nameB s = false) := Lib.hid fun h => by
              rw [HN.out, show s.data.toList.all nchB = false from List.all_eq_false.2 ⟨s[j], List.mem_iff_getElem.2 ⟨j, by simpa using hlt, rfl⟩, by simp [h]⟩, Bool.and_false]
            generalize hnc : nchB s[j] = nc at HQ HS
            have HNC := Lib.hid hnc
            clear hnc
            generalize s[j].toNat = ch at c0 HQ
            go_wp2_with fail
            all_goals first
              | (go_ret
                 refine ⟨ret_b (HS.out (HQ.out false ?_)).symm, HB2.out⟩
                 simp_all <;> omega)
              | (go_roundw
                 case rel =>
                   refine ⟨j + 1, by omega, by go_num, trivial, fun m hm h => ?_⟩
                   by_cases e : m = j
                   · subst e
                     rw [HNC.out]
                     refine HQ.out true ?_
                     simp_all <;> omega
                   · exact HNO.out m hm (by omega)
                 case measure => simp [intOf]; omega)
          · obtain rfl : j = s.size := by omega
            have hall : s.data.toList.all nchB = true := by
              rw [List.all_eq_true]
              intro c hc
              obtain ⟨m, hm, rfl⟩ := List.mem_iff_getElem.1 hc
              exact HNO.out m (by simpa using hm) (by simpa using hm)
            have hn : Hid (nameB s = true) := Lib.hid (by rw [HN.out, hall]; simp; omega)
            clear hall
            go_wp2_with fail
            go_ret
            exact ⟨ret_b hn.out.symm, HB2.out⟩
end Go.Proofs.YtkhlmofcdchccaaGreatDoor
