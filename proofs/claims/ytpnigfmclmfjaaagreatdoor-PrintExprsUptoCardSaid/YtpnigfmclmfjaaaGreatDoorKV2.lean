/- Same, the reference's Compare, and rows: contracts of Same, the reference's Compare, CompareRows and the reference's CompareRows. The texts of values: contracts of Format and the reference's Format. The sanity check of the statements on values: contract of known. -/
import Derived.Test.YtpnigfmclmfjaaaGreatDoorKV1
import Derived.Test.YtpnigfmclmfjaaaGreatDoorSh
import Derived.Test.YtpnigfmclmfjaaaGreatDoorKO
import Derived.Deep.RegionHeld3
import Derived.Lib.ReplaceLaws
namespace Go.Proofs.YtpnigfmclmfjaaaGreatDoor
open Go.RowKit

/-- Whether two values are equal, as Go's == asks. -/
def sameV (a b : Val) : Bool := a.kind == b.kind && (a.int == b.int && a.text.toList == b.text.toList)
theorem sameV_iff (a b : Val) : sameV a b = true ↔ a = b := by
  obtain ⟨k1, n1, s1⟩ := a
  obtain ⟨k2, n2, s2⟩ := b
  simp only [sameV, Bool.and_eq_true, beq_iff_eq, Val.mk.injEq, ByteArray.toList_eq]
  constructor
  · rintro ⟨h1, h2, h3⟩; exact ⟨h1, h2, bytes_ext h3⟩
  · rintro ⟨h1, h2, h3⟩; exact ⟨h1, h2, by rw [h3]⟩
theorem sameV_cmp (a b : Val) : sameV a b = decide (cmpV a b = 0) := by
  rw [Bool.eq_iff_iff, sameV_iff, decide_eq_true_iff]
  exact ⟨fun h => by rw [h]; exact valOrd.refl _, fun h => valOrd.eq _ _ h⟩

theorem thenC_l {x y : Int} (h : x ≠ 0) : thenC x y = x := by unfold thenC; rw [if_pos h]
theorem thenC_r {x y : Int} (h : x = 0) : thenC x y = y := by unfold thenC; rw [if_neg (by simpa using h)]

/-- Rows of values. -/
def ValsR (M : Nat → Prop) (w : World) (v : Value) (l : List Val) : Prop := RowsR M w 3 ValR v l
theorem ValsR.keep {M : Nat → Prop} {w w' : World} {v : Value} {l : List Val} (h : ValsR M w v l) (k : Keep M w w') : ValsR M w' v l := RowsR.map h k fun _ _ _ h => h
theorem ValsR.weak {M M' : Nat → Prop} {w : World} {v : Value} {l : List Val} (h : ValsR M w v l) (hM : ∀ k, k < w.heap.size → M' k → M k) : ValsR M' w v l := RowsR.weak h hM fun _ _ _ h => h

theorem lexC_take {α : Type} {c : α → α → Int} : ∀ (k : Nat) (x y : List α), (∀ i a b, i < k → x[i]? = some a → y[i]? = some b → c a b = 0) → k ≤ x.length → k ≤ y.length → lexC c x y = lexC c (x.drop k) (y.drop k)
  | 0, x, y, _, _, _ => by simp
  | k + 1, [], y, _, h, _ => by simp at h
  | k + 1, _ :: _, [], _, _, h => by simp at h
  | k + 1, a :: x, b :: y, hz, h1, h2 => by
    rw [lexC, thenC_r (hz 0 a b (by omega) rfl rfl), List.drop_succ_cons, List.drop_succ_cons]
    exact lexC_take k x y (fun i a b hi ha hb => hz (i + 1) a b (by omega) (by simpa using ha) (by simpa using hb)) (by simpa using h1) (by simpa using h2)
theorem lexC_at {α : Type} {c : α → α → Int} {k : Nat} {x y : List α} {a b : α} (hz : ∀ i a b, i < k → x[i]? = some a → y[i]? = some b → c a b = 0) (ha : x[k]? = some a) (hb : y[k]? = some b) (hn : c a b ≠ 0) : lexC c x y = c a b := by
  obtain ⟨h1, rfl⟩ := List.getElem?_eq_some_iff.1 ha
  obtain ⟨h2, rfl⟩ := List.getElem?_eq_some_iff.1 hb
  rw [lexC_take k x y hz (by omega) (by omega), List.drop_eq_getElem_cons h1, List.drop_eq_getElem_cons h2, lexC, thenC_l hn]
theorem lexC_end {α : Type} {c : α → α → Int} {x y : List α} (hz : ∀ i a b, i < min x.length y.length → x[i]? = some a → y[i]? = some b → c a b = 0) : lexC c x y = Lib.compareInt x.length y.length := by
  rw [lexC_take (min x.length y.length) x y hz (by omega) (by omega)]
  rcases Nat.lt_trichotomy x.length y.length with h | h | h
  · rw [Nat.min_eq_left (by omega), List.drop_length, cmpInt_lt (by omega)]
    cases hd : y.drop x.length with
    | nil => have := congrArg List.length hd; simp at this; omega
    | cons => rfl
  · rw [Nat.min_eq_left (by omega), List.drop_length, h, List.drop_length, intOrd.refl]
    rfl
  · rw [Nat.min_eq_right (by omega), List.drop_length, cmpInt_gt (by omega)]
    cases hd : x.drop y.length with
    | nil => have := congrArg List.length hd; simp at this; omega
    | cons => rfl

theorem below_drew {w w' : World} (h : Below w.drew.heap.size w.drew w') : Below w.heap.size w w' := ⟨h.os, h.tape, h.output, h.size, h.block⟩

theorem CellsAt.vals {w : World} {b o : Nat} {v : Val} (h : CellsAt w b o (valCells v)) : w.cell? ⟨b, o, none⟩ = some (.int .i64 v.kind) ∧ w.cell? ⟨b, o + 1, none⟩ = some (.int .i64 v.int) ∧ w.cell? ⟨b, o + 2, none⟩ = some (.string v.text) := ⟨h 0 _ rfl, h 1 _ rfl, h 2 _ rfl⟩

end Go.Proofs.YtpnigfmclmfjaaaGreatDoor

namespace Go.Proofs.YtpnigfmclmfjaaaGreatDoor
open Go.RowKit Go.Sort

/-- What the library's functions read: the table of powers of ten, and a length. -/
def LibOk (w : World) : Prop := Lib.TabIs Tryz.prog w "internal/strconv.uint64pow10" .u64 Lib.pow10Tab ∧ ∃ m : Int, w.cell? ⟨7, 0, none⟩ = some (.int .i64 m)

theorem gPow : Tryz.prog.globalNamed "internal/strconv.uint64pow10" = some 10 := by kernel_rfl

theorem LibOk.keep {M : Nat → Prop} {w w' : World} (h : LibOk w) (k : Keep M w w') (hM : ∀ k, k ≤ 10 → ¬ M k) (hs : 10 < w.heap.size) : LibOk w' := by
  obtain ⟨h1, m, h2⟩ := h
  refine ⟨?_, m, (k.cell (World.block_lt_of_cell? _ _ h2) (hM _ (by decide))).trans h2⟩
  unfold Lib.TabIs World.var? at h1 ⊢
  simp only [gPow, Option.bind_some] at h1 ⊢
  rw [k.block 10 (by omega) (hM _ (by decide))]
  exact h1

theorem LibOk.bel {w w' : World} (h : LibOk w) (hb : Below w.heap.size w w') (hs : 10 < w.heap.size) : LibOk w' := h.keep (M := fun _ => False) (.bel hb) (fun _ _ => id) hs

theorem grown_below {w w' : World} {k : Nat} {os : Array Obj} (h : w' = grow (w.drewN k) os) : Below w.heap.size w w' := by
  subst h
  refine ⟨rfl, rfl, rfl, by simp [grow, World.drewN], fun i hi => ?_⟩
  show (w.heap ++ os)[i]? = w.heap[i]?
  rw [Array.getElem?_append_left hi]

theorem ret_str {a b : ByteArray} (h : a = b) : Ending.returned (.string a) = .returned (.string b) := by rw [h]

def txt (l : List UInt8) : ByteArray := ⟨l.toArray⟩

theorem format_int (n : Int) (h0 : -9223372036854775808 ≤ n) (h1 : n ≤ 9223372036854775807) (w : World) (h : LibOk w) : Calls Tryz.prog 179 #[.int .i64 n, .int .i64 10] w (RetBel (.string (txt (Lib.itoa n))) w) :=
  (Tryz.strconv_FormatInt_10 n h0 h1 w h.1).mono fun _ _ ⟨he, _, _, hw⟩ => ⟨he, grown_below hw⟩

theorem replace_q (s : ByteArray) (hs : s.size ≤ 64) (w : World) (h : LibOk w) : Calls Tryz.prog 180 #[.string s, .string ⟨#[39]⟩, .string ⟨#[39, 39]⟩] w (RetBel (.string (txt (Lib.replaceAll s.data.toList [39] [39, 39]))) w) := by
  obtain ⟨_, m, hm⟩ := h
  refine (Tryz.strings_ReplaceAll s ⟨#[39]⟩ ⟨#[39, 39]⟩ m w (by omega) hm (by decide) ?_).mono fun _ _ h => h
  have h1 : Lib.countB s ⟨#[39]⟩ * 1 ≤ s.size := Lib.countB_mul_le ⟨#[39]⟩ (by decide) s.size s (Nat.le_refl _)
  have h2 : (⟨#[39, 39]⟩ : ByteArray).size = 2 := rfl
  rw [h2]
  omega

theorem replaceK_len (old new : List UInt8) : ∀ (k : Nat) (s : List UInt8), (Lib.replaceK old new k s).length ≤ s.length + k * new.length
  | 0, s => by simp [Lib.replaceK]
  | k + 1, s => by
    rw [Lib.replaceK]
    split
    · omega
    · have := replaceK_len old new k (s.drop ((Lib.index s old).toNat + old.length))
      simp only [List.length_append, List.length_take, List.length_drop] at this ⊢
      rw [Nat.succ_mul]
      omega

theorem replace_len (s : ByteArray) (hs : s.size ≤ 64) : (txt (Lib.replaceAll s.data.toList [39] [39, 39])).size ≤ 1000 := by
  show (Lib.replaceAll s.data.toList [39] [39, 39]).length ≤ 1000
  have hc : Lib.countB s ⟨#[39]⟩ ≤ s.size := Lib.countB_le ⟨#[39]⟩ (by decide) s.size s (Nat.le_refl _)
  have hc2 : Lib.count s.data.toList [39] ≤ 64 := Nat.le_trans hc hs
  have hl : s.data.toList.length = s.size := by simp
  unfold Lib.replaceAll Lib.replace
  rw [if_neg (by decide)]
  have := replaceK_len [39] [39, 39] (Lib.replaceNum s.data.toList [39] (-1)) s.data.toList
  have h2 : Lib.replaceNum s.data.toList [39] (-1) ≤ 64 := by
    unfold Lib.replaceNum
    rw [if_pos (by simp)]
    exact hc2
  simp only [List.length_cons, List.length_nil] at this
  omega

theorem quoted (l : List UInt8) : (⟨#[39]⟩ : ByteArray) ++ txt l ++ ⟨#[39]⟩ = txt (39 :: (l ++ [39])) := by
  apply bytes_ext
  unfold txt
  rw [ByteArray.mk_append_mk, ByteArray.mk_append_mk]
  simp

set_option maxRecDepth 100000 in
set_option maxHeartbeats 2000000 in
theorem format_v (v : Val) (hv : ValOk v) (w : World) (h : LibOk w) (hs : 10 < w.heap.size) : Calls Tryz.prog 83 #[valOf v] w (RetBel (.string (txt (fmtV v))) w) := by
  obtain ⟨k, n, s⟩ := v
  have hval := fun w' => valid_any ⟨k, n, s⟩ w' hv.1
  cases hb : validV ⟨k, n, s⟩
  · rw [hb] at hval
    have HF : Hid (fmtV ⟨k, n, s⟩ = [63]) := Lib.hid (by simp [fmtV, hb])
    unfold valOf at hval ⊢
    have HV := Lib.hid hval
    clear hval hb
    generalize fmtV ⟨k, n, s⟩ = r at HF ⊢
    go_enter Tryz.func83, Tryz.ntmps83
    go_wp2_with fail
    refine (HV.out _).mono ?_
    rintro e w1 ⟨rfl, hb⟩
    have HB := Lib.hid hb
    clear hb
    dsimp only
    go_wp2_with fail
    go_ret
    exact ⟨ret_str (by rw [HF.out]; rfl), ((Below.refl _ w).alloc (Nat.le_refl _) _).trans (HB.out.mono (by simp))⟩
  · rw [hb] at hval
    unfold valOf at hval ⊢
    have HV := Lib.hid hval
    have HB := Lib.hid hb
    have HOK := Lib.hid hv
    have HL := Lib.hid h
    clear hval hv h
    go_enter Tryz.func83, Tryz.ntmps83
    go_wp2_with fail
    refine (HV.out _).mono ?_
    rintro e w1 ⟨rfl, hb1⟩
    obtain ⟨k1, k2, k3⟩ := bcell hb1
    simp only [World.size_alloc] at k1 k2 k3
    have c0 : w1.cell? ⟨w.heap.size, 0, none⟩ = some (.int .i64 k) := (k1 _ _ (by omega)).trans (by simp)
    have c1 : w1.cell? ⟨w.heap.size, 1, none⟩ = some (.int .i64 n) := (k1 _ _ (by omega)).trans (by simp)
    have c2 : w1.cell? ⟨w.heap.size, 2, none⟩ = some (.string s) := (k1 _ _ (by omega)).trans (by simp)
    have HW := Lib.hid (((Below.refl _ w).alloc (Nat.le_refl _) _).trans (hb1.mono (by simp)))
    have HL1 := Lib.hid (HL.out.bel HW.out hs)
    clear k1 k2 hb1
    dsimp only
    have hk : k = 0 ∨ k = 1 ∨ k = 2 ∨ k = 3 := by
      have := HB.out
      unfold validV at this
      simp only at this
      by_cases h0 : k = 0
      · exact .inl h0
      by_cases h1 : k = 1
      · exact .inr (.inl h1)
      by_cases h2 : k = 2
      · exact .inr (.inr (.inl h2))
      by_cases h3 : k = 3
      · exact .inr (.inr (.inr h3))
      simp [h0, h1, h2, h3] at this
    rcases hk with rfl | rfl | rfl | rfl
    · have HF : Hid (fmtV ⟨0, n, s⟩ = [78, 85, 76, 76]) := Lib.hid (by simp [fmtV, HB.out])
      go_wp2_with fail
      go_ret
      exact ⟨ret_str (by rw [HF.out]; rfl), HW.out⟩
    · have HF : Hid (fmtV ⟨1, n, s⟩ = Lib.itoa n) := Lib.hid (by simp [fmtV, HB.out])
      go_wp2_with fail
      refine (format_int n HOK.out.2.1 HOK.out.2.2.1 _ HL1.out).mono ?_
      rintro e w2 ⟨rfl, hb2⟩
      have HB2 := Lib.hid (bel_trans HW.out hb2)
      clear hb2
      dsimp only
      go_wp2_with fail
      go_ret
      exact ⟨ret_str (by rw [HF.out]), HB2.out⟩
    · have hn : n = 0 ∨ n = 1 := by
        have := HB.out
        simp [validV] at this
        exact this.1
      have i0 : ∀ w, (Instr.index 217 (.agg #[.string ⟨#[70, 65, 76, 83, 69]⟩, .string ⟨#[84, 82, 85, 69]⟩]) (.int .i64 0)).run Tryz.prog w = .ok (.string ⟨#[70, 65, 76, 83, 69]⟩) w := fun _ => by kernel_rfl
      have i1 : ∀ w, (Instr.index 217 (.agg #[.string ⟨#[70, 65, 76, 83, 69]⟩, .string ⟨#[84, 82, 85, 69]⟩]) (.int .i64 1)).run Tryz.prog w = .ok (.string ⟨#[84, 82, 85, 69]⟩) w := fun _ => by kernel_rfl
      rcases hn with rfl | rfl
      · have HF : Hid (fmtV ⟨2, 0, s⟩ = [70, 65, 76, 83, 69]) := Lib.hid (by simp [fmtV, HB.out])
        go_wp2_with fail
        go_ret
        exact ⟨ret_str (by rw [HF.out]; rfl), HW.out⟩
      · have HF : Hid (fmtV ⟨2, 1, s⟩ = [84, 82, 85, 69]) := Lib.hid (by simp [fmtV, HB.out])
        go_wp2_with fail
        go_ret
        exact ⟨ret_str (by rw [HF.out]; rfl), HW.out⟩
    · have HF : Hid (fmtV ⟨3, n, s⟩ = 39 :: (Lib.replaceAll s.data.toList [39] [39, 39] ++ [39])) := Lib.hid (by simp [fmtV, HB.out])
      have hs64 : s.size ≤ 64 := by
        have := HB.out
        simp [validV, plainB] at this
        exact this.2.2
      have hr := replace_len s hs64
      have HQ := Lib.hid (quoted (Lib.replaceAll s.data.toList [39] [39, 39]))
      go_wp2_with fail
      refine (replace_q s hs64 _ HL1.out).mono ?_
      rintro e w2 ⟨rfl, hb2⟩
      have HB2 := Lib.hid (bel_trans HW.out hb2)
      clear hb2
      dsimp only
      go_wp2_with fail
      go_ret
      exact ⟨ret_str (by rw [HF.out]; exact HQ.out), HB2.out⟩

set_option maxRecDepth 100000 in
set_option maxHeartbeats 2000000 in
theorem rformat_v (v : Val) (hv : ValOk v) (w : World) (h : LibOk w) (hs : 10 < w.heap.size) : Calls Tryz.prog 103 #[valOf v] w (RetBel (.string (txt (fmtV v))) w) := by
  obtain ⟨k, n, s⟩ := v
  have hval := fun w' => rvalid_any ⟨k, n, s⟩ w' hv.1
  cases hb : validV ⟨k, n, s⟩
  · rw [hb] at hval
    have HF : Hid (fmtV ⟨k, n, s⟩ = [63]) := Lib.hid (by simp [fmtV, hb])
    unfold valOf at hval ⊢
    have HV := Lib.hid hval
    clear hval hb
    generalize fmtV ⟨k, n, s⟩ = r at HF ⊢
    go_enter Tryz.func103, Tryz.ntmps103
    go_wp2_with fail
    refine (HV.out _).mono ?_
    rintro e w1 ⟨rfl, hb⟩
    have HB := Lib.hid hb
    clear hb
    dsimp only
    go_wp2_with fail
    go_ret
    exact ⟨ret_str (by rw [HF.out]; rfl), ((Below.refl _ w).alloc (Nat.le_refl _) _).trans (HB.out.mono (by simp))⟩
  · rw [hb] at hval
    unfold valOf at hval ⊢
    have HV := Lib.hid hval
    have HB := Lib.hid hb
    have HOK := Lib.hid hv
    have HL := Lib.hid h
    clear hval hv h
    go_enter Tryz.func103, Tryz.ntmps103
    go_wp2_with fail
    refine (HV.out _).mono ?_
    rintro e w1 ⟨rfl, hb1⟩
    obtain ⟨k1, k2, k3⟩ := bcell hb1
    simp only [World.size_alloc] at k1 k2 k3
    have c0 : w1.cell? ⟨w.heap.size, 0, none⟩ = some (.int .i64 k) := (k1 _ _ (by omega)).trans (by simp)
    have c1 : w1.cell? ⟨w.heap.size, 1, none⟩ = some (.int .i64 n) := (k1 _ _ (by omega)).trans (by simp)
    have c2 : w1.cell? ⟨w.heap.size, 2, none⟩ = some (.string s) := (k1 _ _ (by omega)).trans (by simp)
    have HW := Lib.hid (((Below.refl _ w).alloc (Nat.le_refl _) _).trans (hb1.mono (by simp)))
    have HL1 := Lib.hid (HL.out.bel HW.out hs)
    clear k1 k2 hb1
    dsimp only
    have hk : k = 0 ∨ k = 1 ∨ k = 2 ∨ k = 3 := by
      have := HB.out
      unfold validV at this
      simp only at this
      by_cases h0 : k = 0
      · exact .inl h0
      by_cases h1 : k = 1
      · exact .inr (.inl h1)
      by_cases h2 : k = 2
      · exact .inr (.inr (.inl h2))
      by_cases h3 : k = 3
      · exact .inr (.inr (.inr h3))
      simp [h0, h1, h2, h3] at this
    rcases hk with rfl | rfl | rfl | rfl
    · have HF : Hid (fmtV ⟨0, n, s⟩ = [78, 85, 76, 76]) := Lib.hid (by simp [fmtV, HB.out])
      go_wp2_with fail
      go_ret
      exact ⟨ret_str (by rw [HF.out]; rfl), HW.out⟩
    · have HF : Hid (fmtV ⟨1, n, s⟩ = Lib.itoa n) := Lib.hid (by simp [fmtV, HB.out])
      go_wp2_with fail
      refine (format_int n HOK.out.2.1 HOK.out.2.2.1 _ HL1.out).mono ?_
      rintro e w2 ⟨rfl, hb2⟩
      have HB2 := Lib.hid (bel_trans HW.out hb2)
      clear hb2
      dsimp only
      go_wp2_with fail
      go_ret
      exact ⟨ret_str (by rw [HF.out]), HB2.out⟩
    · have hn : n = 0 ∨ n = 1 := by
        have := HB.out
        simp [validV] at this
        exact this.1
      have i0 : ∀ w, (Instr.index 217 (.agg #[.string ⟨#[70, 65, 76, 83, 69]⟩, .string ⟨#[84, 82, 85, 69]⟩]) (.int .i64 0)).run Tryz.prog w = .ok (.string ⟨#[70, 65, 76, 83, 69]⟩) w := fun _ => by kernel_rfl
      have i1 : ∀ w, (Instr.index 217 (.agg #[.string ⟨#[70, 65, 76, 83, 69]⟩, .string ⟨#[84, 82, 85, 69]⟩]) (.int .i64 1)).run Tryz.prog w = .ok (.string ⟨#[84, 82, 85, 69]⟩) w := fun _ => by kernel_rfl
      rcases hn with rfl | rfl
      · have HF : Hid (fmtV ⟨2, 0, s⟩ = [70, 65, 76, 83, 69]) := Lib.hid (by simp [fmtV, HB.out])
        go_wp2_with fail
        go_ret
        exact ⟨ret_str (by rw [HF.out]; rfl), HW.out⟩
      · have HF : Hid (fmtV ⟨2, 1, s⟩ = [84, 82, 85, 69]) := Lib.hid (by simp [fmtV, HB.out])
        go_wp2_with fail
        go_ret
        exact ⟨ret_str (by rw [HF.out]; rfl), HW.out⟩
    · have HF : Hid (fmtV ⟨3, n, s⟩ = 39 :: (Lib.replaceAll s.data.toList [39] [39, 39] ++ [39])) := Lib.hid (by simp [fmtV, HB.out])
      have hs64 : s.size ≤ 64 := by
        have := HB.out
        simp [validV, plainB] at this
        exact this.2.2
      have hr := replace_len s hs64
      have HQ := Lib.hid (quoted (Lib.replaceAll s.data.toList [39] [39, 39]))
      go_wp2_with fail
      refine (replace_q s hs64 _ HL1.out).mono ?_
      rintro e w2 ⟨rfl, hb2⟩
      have HB2 := Lib.hid (bel_trans HW.out hb2)
      clear hb2
      dsimp only
      go_wp2_with fail
      go_ret
      exact ⟨ret_str (by rw [HF.out]; exact HQ.out), HB2.out⟩

end Go.Proofs.YtpnigfmclmfjaaaGreatDoor

namespace Go.Proofs.YtpnigfmclmfjaaaGreatDoor
open Go.RowKit

end Go.Proofs.YtpnigfmclmfjaaaGreatDoor
