/- The smallest parts of token: digit, inRun, symbol, cmp.Less, slices.BinarySearch, schema.Keyword. -/
import Derived.Test.YtkhlmofcdchccaaGreatDoorKQ
import Derived.Test.YtkhlmofcdchccaaGreatDoorKV1
import Derived.Test.YtkhlmofcdchccaaGreatDoorKN0
import Derived.Test.YtkhlmofcdchccaaGreatDoorSk
import Derived.Lib.IndexAny
import Derived.Deep.QuietTactic
namespace Go.Proofs.YtkhlmofcdchccaaGreatDoor
open Go.RowKit

theorem digit_any (c : UInt8) (w : World) : Calls Tryz.prog 192 #[.int .u8 (c.toNat : Int)] w fun e w' => e = .returned (.bool (digC c)) ∧ w = w' := by
  have HQ : Hid (∀ b, (decide (48 ≤ c.toNat) && decide (c.toNat ≤ 57)) = b → digC c = b) := Lib.hid fun b h => h
  generalize digC c = r at HQ ⊢
  generalize c.toNat = ch at HQ ⊢
  go_enter Tryz.func192, Tryz.ntmps192
  go_wp2_with fail
  all_goals
    go_ret
    refine ⟨ret_b (HQ.out _ ?_).symm, rfl⟩
    rw [Bool.eq_iff_iff]
    simp_all <;> omega

set_option maxHeartbeats 1000000 in
theorem inRun_any (c : UInt8) (w : World) : Calls Tryz.prog 147 #[.int .u8 (c.toNat : Int)] w fun e w' => e = .returned (.bool (runC c)) ∧ w = w' := by
  have HD := Lib.hid (digit_any c)
  have HQ : Hid (∀ b, ((decide (97 ≤ c.toNat) && decide (c.toNat ≤ 122)) || (decide (65 ≤ c.toNat) && decide (c.toNat ≤ 90)) || digC c || c.toNat == 95) = b → runC c = b) := Lib.hid fun b h => h
  generalize runC c = r at HQ ⊢
  generalize digC c = d at HQ HD
  generalize c.toNat = ch at HQ HD ⊢
  cases d
  all_goals
    go_enter Tryz.func147, Tryz.ntmps147
    go_wp2_with (go_at_call 192; go_loud (refine (HD.out _).mono ?_; rintro e w2 ⟨rfl, rfl⟩))
    all_goals
      go_ret
      refine ⟨ret_b (HQ.out _ ?_).symm, rfl⟩
      rw [Bool.eq_iff_iff]
      simp_all <;> omega

theorem less_any (a b : ByteArray) (w : World) : Calls Tryz.prog 222 #[.string a, .string b] w fun e w' => e = .returned (.bool (decide (cmpS a b = -1))) ∧ w = w' := by
  have hl : Op.bytesLess a.toList b.toList = decide (cmpS a b = -1) := by rw [less_cmp, ByteArray.toList_eq, ByteArray.toList_eq]; rfl
  have HL := Lib.hid hl
  generalize decide (cmpS a b = -1) = r at HL ⊢
  clear hl
  go_enter Tryz.func222, Tryz.ntmps222
  go_wp2
  all_goals go_ret
  all_goals exact ⟨ret_b (by simp_all [HL.out]), rfl⟩

/-- Halving a sorted list: what lies below is less, what lies from there on is not. -/
def Half (S : Nat → ByteArray) (n : Nat) (x : ByteArray) (lo hi : Nat) : Prop :=
  lo ≤ hi ∧ hi ≤ n ∧ (∀ j, j < lo → cmpS (S j) x = -1) ∧ (∀ j, hi ≤ j → j < n → cmpS (S j) x ≠ -1)

theorem cmpS_trans {a b c : ByteArray} (h1 : cmpS a b = -1) (h2 : cmpS b c = -1) : cmpS a c = -1 := by
  have h := bytesOrd.lt_le (a := a.data.toList) (b := b.data.toList) (e := c.data.toList) (by unfold cmpS at h1; omega) (by unfold cmpS at h2; omega)
  have := compareBytes_range a.data.toList c.data.toList
  unfold cmpS
  omega
theorem cmpS_refl (a : ByteArray) : cmpS a a = 0 := bytesOrd.refl _

theorem half_up {S : Nat → ByteArray} {n : Nat} {x : ByteArray} {lo hi m : Nat} (hs : ∀ i j, i < j → j < n → cmpS (S i) (S j) = -1) (h : Half S n x lo hi) (h1 : lo ≤ m) (h2 : m < hi) (hm : cmpS (S m) x = -1) : Half S n x (m + 1) hi :=
  ⟨h2, h.2.1, fun j hj => by
    by_cases e : j = m
    · subst e; exact hm
    · exact cmpS_trans (hs j m (by omega) (by have := h.2.1; omega)) hm, h.2.2.2⟩
theorem half_down {S : Nat → ByteArray} {n : Nat} {x : ByteArray} {lo hi m : Nat} (hs : ∀ i j, i < j → j < n → cmpS (S i) (S j) = -1) (h : Half S n x lo hi) (h1 : lo ≤ m) (h2 : m < hi) (hm : cmpS (S m) x ≠ -1) : Half S n x lo m :=
  ⟨h1, by have := h.2.1; omega, h.2.2.1, fun j hj hn => by
    by_cases e : j = m
    · subst e; exact hm
    · exact fun hh => hm (cmpS_trans (hs m j (by omega) hn) hh)⟩
/-- At the end the one place where it can be has been found. -/
theorem half_end {S : Nat → ByteArray} {n : Nat} {x : ByteArray} {lo : Nat} (hs : ∀ i j, i < j → j < n → cmpS (S i) (S j) = -1) (h : Half S n x lo lo) : (lo < n ∧ S lo = x) ↔ ∃ j, j < n ∧ S j = x := by
  refine ⟨fun ⟨a, b⟩ => ⟨lo, a, b⟩, fun ⟨j, hj, he⟩ => ?_⟩
  subst he
  have h1 : lo ≤ j := Nat.le_of_not_lt fun hlt => by have := h.2.2.1 j hlt; rw [cmpS_refl] at this; omega
  by_cases e : lo = j
  · subst e; exact ⟨hj, rfl⟩
  · exact absurd (hs lo j (by omega) hj) (h.2.2.2 lo (Nat.le_refl _) (by omega))

def FoundQ (S : Nat → ByteArray) (n : Nat) (x : ByteArray) (w : World) (e : Ending) (w' : World) : Prop :=
  ∃ (i : Nat) (b : Bool), e = .returned (.tuple #[.int .i64 i, .bool b]) ∧ (b = true ↔ ∃ j, j < n ∧ S j = x) ∧ Below w.heap.size w w'

set_option maxRecDepth 1000000 in
set_option maxHeartbeats 4000000 in
theorem binStr_any (b off n c : Nat) (S : Nat → ByteArray) (x : ByteArray) (w : World) (hbig : n < 4611686018427387904) (hc : ∀ j, j < n → w.cell? ⟨b, off + j, none⟩ = some (.string (S j))) (hs : ∀ i j, i < j → j < n → cmpS (S i) (S j) = -1) :
    Calls Tryz.prog 211 #[.slice (some ⟨b, off, none⟩) n c, .string x] w (FoundQ S n x w) := by
  have HC := Lib.hid hc
  have HS := Lib.hid hs
  clear hc hs
  go_enter Tryz.func211, Tryz.ntmps211
  go_wp2_with fail
  go_loopw [7, 8] (fun s7 s8 wr => ∃ lo hi : Nat, s7 = .int .i64 lo ∧ s8 = .int .i64 hi ∧ Half S n x lo hi ∧ wr = w) (fun s7 s8 _ => (intOf s8 - intOf s7).toNat)
  case atStart => exact ⟨0, n, rfl, rfl, ⟨Nat.zero_le _, Nat.le_refl _, fun j h => absurd h (by omega), fun j h1 h2 => absurd h1 (by omega)⟩, rfl⟩
  case round =>
    obtain ⟨lo, hi, rfl, rfl, hh, rfl⟩ := hrel
    have hlh := hh.1
    have hin := hh.2.1
    have HH := Lib.hid hh
    clear hh
    by_cases hlt : lo < hi
    · have cm := HC.out ((lo + hi) / 2) (by omega)
      have HU := Lib.hid (half_up HS.out HH.out (m := (lo + hi) / 2) (by omega) (by omega))
      have HDn := Lib.hid (half_down HS.out HH.out (m := (lo + hi) / 2) (by omega) (by omega))
      generalize S ((lo + hi) / 2) = y at cm HU HDn
      by_cases hy : cmpS y x = -1
      · go_wp2_with (go_at_call 222; go_loud (refine (less_any _ _ _).mono ?_; rintro e w2 ⟨rfl, rfl⟩))
        go_roundw
        case rel => exact ⟨(lo + hi) / 2 + 1, hi, by rw [show ((lo : Int) + (hi : Int)) / 2 + 1 = (((lo + hi) / 2 + 1 : Nat) : Int) by omega], rfl, HU.out hy, trivial⟩
        case measure => simp [intOf]; omega
      · go_wp2_with (go_at_call 222; go_loud (refine (less_any _ _ _).mono ?_; rintro e w2 ⟨rfl, rfl⟩))
        go_roundw
        case rel => exact ⟨lo, (lo + hi) / 2, rfl, by rw [show ((lo : Int) + (hi : Int)) / 2 = (((lo + hi) / 2 : Nat) : Int) by omega], HDn.out hy, trivial⟩
        case measure => simp [intOf]; omega
    · obtain rfl : hi = lo := by omega
      have HE := Lib.hid (half_end HS.out HH.out)
      by_cases hn : hi < n
      · have cl := HC.out hi hn
        generalize S hi = y at cl HE
        by_cases hyx : y = x
        · subst hyx
          go_wp2_with fail
          go_ret2
          exact ⟨hi, true, rfl, ⟨fun _ => HE.out.1 (by simp [hn]), fun _ => rfl⟩, Below.refl _ _⟩
        · have hne : (y.toList == x.toList) = false := by
            rw [beq_eq_false_iff_ne]
            intro h
            rw [ByteArray.toList_eq, ByteArray.toList_eq] at h
            exact hyx (bytes_ext h)
          go_wp2
          all_goals go_ret2
          all_goals exact ⟨hi, false, rfl, ⟨fun h => (by cases h), fun h => absurd (HE.out.2 h).2 hyx⟩, Below.refl _ _⟩
      · go_wp2_with fail
        go_ret2
        exact ⟨hi, false, rfl, ⟨fun h => (by cases h), fun h => absurd (HE.out.2 h).1 hn⟩, Below.refl _ _⟩

theorem head_at {s : ByteArray} (h : 0 < s.size) : s.data.toList.head? = some s[0] := by
  rw [List.head?_eq_getElem?]
  simp [h]
  rfl

theorem eqS (a : ByteArray) (l : List UInt8) : ((a.toList == l) = true) = (a = ⟨l.toArray⟩) := by
  rw [ByteArray.toList_eq, beq_iff_eq]
  refine propext ⟨fun h => bytes_ext (by simpa using h), fun h => by rw [h]⟩

theorem symP_eq {s : ByteArray} (hz : 0 < s.size) : symP s = if 2 ≤ s.size ∧ (((s.extract 0 2).toList == [60, 62]) = true ∨ ((s.extract 0 2).toList == [60, 61]) = true ∨ ((s.extract 0 2).toList == [62, 61]) = true) then 2 else if (0 : Int) ≤ Lib.indexByte symL s[0] then 1 else 0 := by
  unfold symP
  rw [head_at hz]
  have h1 : "<>".toUTF8 = ⟨[60, 62].toArray⟩ := by decide +kernel
  have h2 : "<=".toUTF8 = ⟨[60, 61].toArray⟩ := by decide +kernel
  have h3 : ">=".toUTF8 = ⟨[62, 61].toArray⟩ := by decide +kernel
  simp only [eqS, h1, h2, h3, Option.any_some, Lib.contains_iff_indexByte, decide_eq_true_eq]

set_option maxHeartbeats 1000000 in
theorem symbol_any (s : ByteArray) (w : World) (hz : 0 < s.size) : Calls Tryz.prog 149 #[.string s] w fun e w' => e = .returned (.int .i64 (symP s)) ∧ w = w' := by
  have HC : Hid (∀ w, Calls Tryz.prog 196 #[.string ⟨#[40, 41, 44, 59, 46, 42, 43, 45, 47, 37, 61, 60, 62]⟩, .int .u8 (s[0].toNat : Int)] w fun e w' => e = .returned (.int .i64 (Lib.indexByte symL s[0])) ∧ w' = w) := Lib.hid fun w => by
    have h := Tryz.strings_IndexByte ⟨#[40, 41, 44, 59, 46, 42, 43, 45, 47, 37, 61, 60, 62]⟩ (s[0].toNat : Int) w
    have e : ((s[0].toNat : Int)).toNat.toUInt8 = s[0] := by simp
    rw [e] at h
    exact h
  have HP := Lib.hid (symP_eq hz)
  generalize symP s = r at HP ⊢
  generalize Lib.indexByte symL s[0] = ix at HP HC
  have HR : Hid (∀ n : Nat, (if 2 ≤ s.size ∧ (((s.extract 0 2).toList == [60, 62]) = true ∨ ((s.extract 0 2).toList == [60, 61]) = true ∨ ((s.extract 0 2).toList == [62, 61]) = true) then 2 else if (0 : Int) ≤ ix then 1 else 0) = n → Ending.returned (.int .i64 n) = .returned (.int .i64 r)) := Lib.hid fun n h => by rw [HP.out, h]
  clear HP
  go_enter Tryz.func149, Tryz.ntmps149
  go_wp2_with (go_at_call 196; go_loud (refine (HC.out _).mono ?_; rintro e w2 ⟨rfl, rfl⟩))
  all_goals go_ret
  all_goals first
    | exact ⟨HR.out 0 (by rw [if_neg (fun h => by have := h.1; omega)]; rw [if_neg (by omega)]), rfl⟩
    | exact ⟨HR.out 1 (by rw [if_neg (fun h => by have := h.1; omega)]; rw [if_pos (by omega)]), rfl⟩
    | exact ⟨HR.out 2 (by simp_all <;> omega), rfl⟩
    | exact ⟨HR.out 1 (by simp_all <;> omega), rfl⟩
    | exact ⟨HR.out 0 (by simp_all <;> omega), rfl⟩

def kwS (i : Nat) : ByteArray := ⟨(kwL.getD i []).toArray⟩
theorem kw_sorted : ∀ i j, i < j → j < 51 → cmpS (kwS i) (kwS j) = -1 := by
  have h : (List.range 51).all (fun j => (List.range j).all fun i => decide (Lib.compareBytes (kwL.getD i []) (kwL.getD j []) = -1)) = true := by decide +kernel
  intro i j hij hj
  have h1 := List.all_eq_true.1 (List.all_eq_true.1 h j (List.mem_range.2 hj)) i (List.mem_range.2 hij)
  simpa [cmpS, kwS] using h1
theorem kw_mem (s : ByteArray) : (∃ j, j < 51 ∧ kwS j = s) ↔ kwL.contains s.data.toList = true := by
  have hl : kwL.length = 51 := by decide +kernel
  rw [List.contains_iff_mem, List.mem_iff_getElem]
  constructor
  · rintro ⟨j, hj, rfl⟩
    exact ⟨j, by omega, by simp [kwS, hl, hj]⟩
  · rintro ⟨j, hj, h⟩
    exact ⟨j, by omega, bytes_ext (by simp [kwS, hj, ← h])⟩

set_option maxRecDepth 100000 in
set_option maxHeartbeats 4000000 in
theorem keyword_any (s : ByteArray) (w : World) : Calls Tryz.prog 193 #[.string s] w (RetBel (.bool (kwL.contains s.data.toList)) w) := by
  go_enter Tryz.func193, Tryz.ntmps193
  go_wp2_with fail
  generalize hW : World.alloc w _ = W
  have hh : W = World.alloc w (.cells (kwL.map fun l => Value.string ⟨l.toArray⟩).toArray 9) := hW.symm.trans (by kernel_rfl)
  clear hW
  have hl : kwL.length = 51 := by decide +kernel
  have hc : ∀ j, j < 51 → W.cell? ⟨w.heap.size, 0 + j, none⟩ = some (.string (kwS j)) := by
    intro j hj
    rw [Nat.zero_add, hh]
    refine (cell_of_row (w.alloc _) w.heap.size j _ 9 _ (heap_alloc_new w _)).trans ?_
    simp [kwS, hl, hj]
  have hb : Below w.heap.size w W := by rw [hh]; exact bel1 _ _
  clear hh hl
  refine (binStr_any w.heap.size 0 51 51 kwS s W (by omega) hc kw_sorted).mono ?_
  rintro e w2 ⟨i, b, rfl, hq, hb2⟩
  rw [kw_mem] at hq
  have HQ : Hid (kwL.contains s.data.toList = b) := Lib.hid (by rw [Bool.eq_iff_iff]; exact hq.symm)
  have HB := Lib.hid (hb.trans (hb2.mono hb.size))
  clear hq hb hb2 hc
  go_wp2_with fail
  go_ret
  exact ⟨ret_b HQ.out.symm, HB.out⟩
end Go.Proofs.YtkhlmofcdchccaaGreatDoor
