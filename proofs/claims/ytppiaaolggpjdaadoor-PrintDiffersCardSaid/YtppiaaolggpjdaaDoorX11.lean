/- The words of the trees that AnyExpr makes are few and short. -/
import Derived.Test.YtppiaaolggpjdaaDoorX10
import Derived.Lib.ItoaLen
namespace Go.Proofs.YtppiaaolggpjdaaDoor
open Go.RowKit

def costW (l : List ByteArray) : Nat := (l.map fun t => t.size + 1).sum
theorem cost_nil : costW [] = 0 := rfl
theorem cost_cons (t : ByteArray) (l : List ByteArray) : costW (t :: l) = t.size + 1 + costW l := by simp [costW]
theorem cost_app (a b : List ByteArray) : costW (a ++ b) = costW a + costW b := by simp [costW]
theorem cost_len : ∀ l : List ByteArray, l.length ≤ costW l
  | [] => Nat.zero_le _
  | t :: l => by rw [cost_cons, List.length_cons]; have := cost_len l; omega

theorem cost_arg (k o : Int) (i : Nat) (e : Ex) : costW (argW k o i e) ≤ costW (wordsP e) + 4 := by
  unfold argW
  split
  · rw [cost_cons, cost_app, cost_cons, cost_nil]
    have h1 : kOpen.size = 1 := by decide
    have h2 : kShut.size = 1 := by decide
    omega
  · omega
theorem cost_sizes : kNOT.size = 3 ∧ kMinus.size = 1 ∧ kIS.size = 2 ∧ kNULL.size = 4 ∧ kBETWEEN.size = 7 ∧ kAND.size = 3 ∧ kEXISTS.size = 6 ∧ kOpen.size = 1 ∧ kSELECT.size = 6 ∧ kStar.size = 1 ∧ kShut.size = 1 ∧ kCOUNT.size = 5 ∧ kFROM.size = 4 ∧ kWHERE.size = 5 ∧ kDot.size = 1 := by decide
theorem cost_opS (o : Int) (h : 1 ≤ o ∧ o ≤ 13) : (opS o).size ≤ 3 := by
  have h' : o = 1 ∨ o = 2 ∨ o = 3 ∨ o = 4 ∨ o = 5 ∨ o = 6 ∨ o = 7 ∨ o = 8 ∨ o = 9 ∨ o = 10 ∨ o = 11 ∨ o = 12 ∨ o = 13 := by omega
  rcases h' with rfl | rfl | rfl | rfl | rfl | rfl | rfl | rfl | rfl | rfl | rfl | rfl | rfl <;> decide
theorem cost_agg (k : Int) : (aggS k).size ≤ 3 := by
  unfold aggS
  split
  · decide
  · split <;> decide
theorem size_fmt {v : Val} (h : ValidVal v) (h0 : v.kind = 1 → 0 ≤ v.int) : (bs (fmtV v)).size ≤ 40 := by
  have hw : ∀ i, i < 6 → (39 :: (Lib.replaceAll (wordAt i).data.toList [39] [39, 39] ++ [39])).length ≤ 40 := by decide +kernel
  have hv := valid_of h
  show (fmtV v).toArray.size ≤ 40
  rw [List.size_toArray]
  unfold fmtV
  rw [hv]
  obtain ⟨k, n, s⟩ := v
  unfold ValidVal at h
  simp only at h h0 ⊢
  rcases h with ⟨rfl, rfl, rfl⟩ | ⟨rfl, hn, rfl⟩ | ⟨rfl, h0, h1, rfl⟩ | ⟨rfl, rfl, i, hi, rfl⟩
  · simp
  · unfold I64R at hn
    have hn0 := h0 rfl
    obtain ⟨u, rfl⟩ : ∃ u : Nat, n = (u : Int) := ⟨n.toNat, by omega⟩
    have hi : Lib.itoa (u : Int) = Lib.decDigits u := by unfold Lib.itoa; rw [if_neg (by omega)]; rfl
    simp only [Bool.true_eq_false, if_false, if_true, hi]
    rw [if_neg (by decide), Lib.decDigits_length]
    have := Lib.nDigits_le20 u (by omega)
    omega
  · have : n = 0 ∨ n = 1 := by omega
    rcases this with rfl | rfl <;> simp
  · simpa using hw i hi
theorem cost_any {n : Nat} {e : Ex} (h : AnyX n e) : costW (wordsP e) + 50 ≤ 150 * 3 ^ n := by
  obtain ⟨s1, s2, s3, s4, s5, s6, s7, s8, s9, s10, s11, s12, s13, s14, s15⟩ := cost_sizes
  have hp : ∀ n : Nat, 1 ≤ 3 ^ n := fun n => Nat.one_le_pow _ _ (by omega)
  induction h with
  | col n q i hq hi =>
    have := hp n
    have h1 : ∀ i, i < 8 → (nameAt i).size ≤ 20 := by decide +kernel
    have h2 : ∀ q ∈ qualL, q.size ≤ 20 := by decide +kernel
    have h1 := h1 i hi
    have h2 := h2 q hq
    rw [words_col]
    split
    · rw [cost_cons, cost_nil]; omega
    · simp only [cost_cons, cost_nil]; omega
  | lit n v hv h0 =>
    have := hp n
    have h1 := size_fmt hv h0
    rw [words_lit, cost_cons, cost_nil]
    omega
  | ops n k o no args hk ha ih =>
    have h3 := hp n
    rw [Nat.pow_succ]
    unfold OpShape at hk
    rcases hk with ⟨hk, rfl, rfl, hl⟩ | ⟨rfl, rfl, hl⟩ | ⟨rfl, h1, h13, rfl, hl⟩ | ⟨rfl, rfl, rfl, hl⟩
    · match args, hl with
      | [a], _ =>
        have i1 := ih a (by simp)
        rcases hk with rfl | rfl
        · rw [words_not]
          have := cost_arg 3 0 0 a
          simp only [cost_app, cost_cons, cost_nil]
          omega
        · rw [words_neg]
          have := cost_arg 4 0 0 a
          simp only [cost_app, cost_cons, cost_nil]
          omega
    · match args, hl with
      | [a], _ =>
        have i1 := ih a (by simp)
        have := cost_arg 6 0 0 a
        cases no
        · rw [words_null0]
          simp only [cost_app, cost_cons, cost_nil]
          omega
        · rw [words_null1]
          simp only [cost_app, cost_cons, cost_nil]
          omega
    · match args, hl with
      | [a, b], _ =>
        have i1 := ih a (by simp)
        have i2 := ih b (by simp)
        have := cost_arg 5 o 0 a
        have := cost_arg 5 o 1 b
        have := cost_opS o ⟨h1, h13⟩
        rw [words_bin]
        simp only [cost_app, cost_cons, cost_nil]
        omega
    · match args, hl with
      | [a, b, c], _ =>
        have i1 := ih a (by simp)
        have i2 := ih b (by simp)
        have i3 := ih c (by simp)
        have := cost_arg 7 0 0 a
        have := cost_arg 7 0 1 b
        have := cost_arg 7 0 2 c
        rw [words_btw]
        simp only [cost_app, cost_cons, cost_nil]
        omega
  | sub n k f items whr hf hi hw hA hB iA iB =>
    have h3 := hp n
    have h2 : ∀ q ∈ fromL, q.size ≤ 20 := by decide +kernel
    have h2 := h2 f hf
    rw [Nat.pow_succ]
    have hwh : costW (whereW (whr.map wordsP)) ≤ 6 + 150 * 3 ^ n - 50 := by
      match whr, hw with
      | [], _ => simp only [List.map_nil, whereW, cost_nil]; omega
      | [x], _ =>
        have := iB x (by simp)
        simp only [List.map_cons, List.map_nil, whereW, cost_cons, cost_app, cost_nil]
        omega
      | _ :: _ :: _, h => simp at h
    have hhd : costW (headW k (items.map wordsP)) ≤ 30 + 150 * 3 ^ n - 50 := by
      unfold headW
      split
      · simp only [cost_cons, cost_nil]; omega
      · split
        · simp only [cost_cons, cost_nil]; omega
        · have h5 := cost_agg k
          match items, hi with
          | [], _ =>
            simp only [List.map_nil, List.getD_nil, cost_cons, cost_app, cost_nil]
            omega
          | [x], _ =>
            have := iA x (by simp)
            simp only [List.map_cons, List.map_nil, List.getD_cons_zero, cost_cons, cost_app, cost_nil]
            omega
          | _ :: _ :: _, h => simp at h
    rw [words_sub (by rcases hi with ⟨h, _⟩ | ⟨h, _⟩ <;> omega)]
    simp only [cost_cons, cost_app, cost_nil]
    omega
end Go.Proofs.YtppiaaolggpjdaaDoor
