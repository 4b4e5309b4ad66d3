/- Every well-formed expression is read back from its words. No program is named here. -/
import Derived.Test.YtppiaaolggpjdaaDoorQ5
namespace Go.Proofs.YtppiaaolggpjdaaDoor
open Go.RowKit

theorem tokE_ops {k o : Int} {no : Bool} {args : List Ex} (h : 3 ≤ k ∧ k ≤ 7) : tokE (opX k o no args []) = (opW k o no (argsW k o 0 args)).map tokF := by unfold tokE; rw [words_ops h]
theorem args1 (k o : Int) (a : Ex) : (argsW k o 0 [a]).getD 0 [] = argW k o 0 a := argsW_get k o [a] 0 0 a rfl
theorem args2 (k o : Int) (a b : Ex) : (argsW k o 0 [a, b]).getD 0 [] = argW k o 0 a ∧ (argsW k o 0 [a, b]).getD 1 [] = argW k o 1 b := ⟨argsW_get k o [a, b] 0 0 a rfl, argsW_get k o [a, b] 0 1 b rfl⟩
theorem args3 (k o : Int) (a b c : Ex) : (argsW k o 0 [a, b, c]).getD 0 [] = argW k o 0 a ∧ (argsW k o 0 [a, b, c]).getD 1 [] = argW k o 1 b ∧ (argsW k o 0 [a, b, c]).getD 2 [] = argW k o 2 c :=
  ⟨argsW_get k o [a, b, c] 0 0 a rfl, argsW_get k o [a, b, c] 0 1 b rfl, argsW_get k o [a, b, c] 0 2 c rfl⟩

theorem reads_not {a : Ex} (ha : Reads a) : Reads (opX 3 0 false [a] []) := by
  have ht : tokE (opX 3 0 false [a] []) = (1, kNOT) :: argT 3 0 0 a := by
    rw [tokE_ops (by decide)]
    unfold opW
    rw [if_pos rfl, args1, List.map_cons, t_kw (by simp)]
    rfl
  obtain ⟨HB, _, _, _⟩ := arg_reads ha 3 0 0 3 (by decide) (by decide) (by decide)
  refine reads_of (p := 3) rfl (by decide) (by decide) ?_ (fun h => by omega) (fun h => by omega) (fun h => by omega) ?_
  · intro r f hr hf
    have hb := base1 (k := 3) (o := 0) (no := false) (a := a)
    obtain ⟨g, rfl⟩ : ∃ g, f = g + 1 := ⟨f - 1, by omega⟩
    rw [ht, List.cons_append, pE_3, if_pos (by show isH kNOT (1, kNOT) = true; decide +kernel), List.tail_cons, HB r g hr (by omega)]
    rfl
  · intro r
    rw [ht]
    show isH kSELECT (1, kNOT) = false
    decide +kernel
theorem reads_neg {a : Ex} (ha : Reads a) : Reads (opX 4 0 false [a] []) := by
  have ht : tokE (opX 4 0 false [a] []) = (5, kMinus) :: argT 4 0 0 a := by
    rw [tokE_ops (by decide)]
    unfold opW
    rw [if_neg (by decide), if_pos rfl, args1, List.map_cons, t_sym (by simp)]
    rfl
  obtain ⟨HB, _, _, _⟩ := arg_reads ha 4 0 0 7 (by decide) (by decide) (by decide)
  refine reads_of (p := 7) rfl (by decide) (by decide) ?_ (fun h => by omega) (fun _ r => ?_) (fun h => by omega) ?_
  · intro r f hr hf
    have hb := base1 (k := 4) (o := 0) (no := false) (a := a)
    obtain ⟨g, rfl⟩ : ∃ g, f = g + 1 := ⟨f - 1, by omega⟩
    rw [ht, List.cons_append, pE_7, if_pos (by show isH kMinus (5, kMinus) = true; decide +kernel), List.tail_cons, HB r g hr (by omega)]
    rfl
  · rw [ht]
    show isH kNOT (5, kMinus) = false
    decide +kernel
  · intro r
    rw [ht]
    show isH kSELECT (5, kMinus) = false
    decide +kernel

theorem tokE_bin {o x : Int} {a b : Ex} (hx : tokF (opS o) = (x, opS o)) : tokE (opX 5 o false [a, b] []) = argT 5 o 0 a ++ (x, opS o) :: argT 5 o 1 b := by
  rw [tokE_ops (by decide)]
  unfold opW
  rw [if_neg (by decide), if_neg (by decide), if_pos rfl, (args2 5 o a b).1, (args2 5 o a b).2, List.map_append, List.map_cons, hx]
  rfl
theorem prec5 (o : Int) : precP 5 o = opPrec o := by unfold precP; rw [if_neg (by decide), if_neg (by decide), if_neg (by decide), if_pos rfl]
theorem opPrec_cases {o : Int} (h1 : 1 ≤ o) (h2 : o ≤ 13) : opPrec o = 4 ∨ opPrec o = 1 ∨ opPrec o = 2 ∨ opPrec o = 5 ∨ opPrec o = 6 := by
  unfold opPrec
  repeat' split
  all_goals omega
theorem least_grp {o : Int} {q : Nat} (hq : (q : Int) = opPrec o) (hg : q = 1 ∨ q = 2 ∨ q = 5 ∨ q = 6) : (q : Int) = leastP 5 o 0 ∧ ((q + 1 : Nat) : Int) = leastP 5 o 1 := by
  unfold leastP
  rw [prec5, ← hq]
  have h : (q : Int) = 1 ∨ (q : Int) = 2 ∨ (q : Int) = 5 ∨ (q : Int) = 6 := by omega
  simp only [if_pos h]
  exact ⟨by simp, by simp⟩
theorem least_cmp {o : Int} (h : opPrec o = 4) (i : Nat) : (5 : Int) = leastP 5 o i := by
  unfold leastP
  rw [prec5, h]
  simp only
  rw [if_neg (by decide), if_neg (by decide), if_pos (by trivial)]

theorem reads_bin {o : Int} {a b : Ex} (h1 : 1 ≤ o) (h2 : o ≤ 13) (ha : Reads a) (hb : Reads b) : Reads (opX 5 o false [a, b] []) := by
  obtain ⟨x, hx, hx5⟩ := t_op h1 h2
  have ht := tokE_bin (a := a) (b := b) hx
  have hbase := base2 (k := 5) (o := o) (no := false) (a := a) (b := b)
  have hc := op_cont h1 h2 hx5
  rcases opPrec_cases h1 h2 with h4 | hgo
  · obtain ⟨HA, _, HN, HS⟩ := arg_reads ha 5 o 0 5 (least_cmp h4 0) (by decide) (by decide)
    obtain ⟨HB, _, _, _⟩ := arg_reads hb 5 o 1 5 (least_cmp h4 1) (by decide) (by decide)
    refine reads_of (p := 4) (by rw [show (opX 5 o false [a, b] []).kind = 5 from rfl, show (opX 5 o false [a, b] []).op = o from rfl, prec5, h4]; rfl) (by decide) (by decide) ?_ (fun h => by omega) (fun _ r => ?_) (fun h => by omega) (fun r => ?_)
    · intro r f hr hf
      obtain ⟨g, rfl⟩ : ∃ g, f = g + 2 := ⟨f - 2, by omega⟩
      obtain ⟨k1, k2, k3⟩ := (op_find h1 h2 hx5 (argT 5 o 1 b ++ r)).2 h4
      rw [ht, List.append_assoc, List.cons_append, pE_4, HA _ (g + 1) (by show contH (x, opS o) < 5; omega) (by omega)]
      show pC (g + 1) a ((x, opS o) :: (argT 5 o 1 b ++ r)) = _
      rw [pC, if_neg (by rw [k1]; decide), if_neg (by rw [k2]; decide), k3]
      show (pE g 5 (argT 5 o 1 b ++ r)).map _ = _
      rw [HB r g (by omega) (by omega)]
      rfl
    · rw [ht, List.append_assoc]
      exact HN (by decide) _
    · rw [ht, List.append_assoc]
      exact HS _
  · obtain ⟨q, hq⟩ : ∃ q : Nat, (q : Int) = opPrec o := ⟨(opPrec o).toNat, by omega⟩
    have hg : q = 1 ∨ q = 2 ∨ q = 5 ∨ q = 6 := by omega
    obtain ⟨l0, l1⟩ := least_grp hq hg
    obtain ⟨_, HA, HN, HS⟩ := arg_reads ha 5 o 0 q l0 (by omega) (by omega)
    obtain ⟨HB, _, _, _⟩ := arg_reads hb 5 o 1 (q + 1) l1 (by omega) (by omega)
    refine reads_grp (p := q) (by rw [show (opX 5 o false [a, b] []).kind = 5 from rfl, show (opX 5 o false [a, b] []).op = o from rfl, prec5, hq]) hg ?_ (fun h r => ?_) (fun r => ?_)
    · intro r m f hr hf
      obtain ⟨g, hg1, hg2⟩ := HA ((x, opS o) :: (argT 5 o 1 b ++ r)) (m + 1 + (baseX b + 20)) f hg (by show contH (x, opS o) < q + 1; omega) (by omega)
      obtain ⟨g', rfl⟩ : ∃ g', g = g' + 1 := ⟨g - 1, by omega⟩
      refine ⟨g', by omega, ?_⟩
      rw [ht, List.append_assoc, List.cons_append, hg2, pL, (op_find h1 h2 hx5 (argT 5 o 1 b ++ r)).1 q hg hq]
      show (pE g' (q + 1) (argT 5 o 1 b ++ r)).bind _ = _
      rw [HB r g' hr (by omega)]
      rfl
    · rw [ht, List.append_assoc]
      exact HN h _
    · rw [ht, List.append_assoc]
      exact HS _

theorem reads_null {no : Bool} {a : Ex} (ha : Reads a) : Reads (opX 6 0 no [a] []) := by
  have ht : tokE (opX 6 0 no [a] []) = argT 6 0 0 a ++ (1, kIS) :: (if no = true then [(1, kNOT), (1, kNULL)] else [(1, kNULL)]) := by
    rw [tokE_ops (by decide)]
    unfold opW
    rw [if_neg (by decide), if_neg (by decide), if_neg (by decide), if_pos rfl, args1, List.map_append, List.map_cons, t_kw (by simp)]
    cases no
    · show _ ++ (1, kIS) :: [tokF kNULL] = _
      rw [t_kw (by simp)]
      rfl
    · show _ ++ (1, kIS) :: [tokF kNOT, tokF kNULL] = _
      rw [t_kw (by simp), t_kw (by simp)]
      rfl
  have hbase := base1 (k := 6) (o := 0) (no := no) (a := a)
  obtain ⟨HA, _, HN, HS⟩ := arg_reads ha 6 0 0 5 (by decide) (by decide) (by decide)
  refine reads_of (p := 4) rfl (by decide) (by decide) ?_ (fun h => by omega) (fun _ r => ?_) (fun h => by omega) (fun r => ?_)
  · intro r f hr hf
    obtain ⟨g, rfl⟩ : ∃ g, f = g + 2 := ⟨f - 2, by omega⟩
    rw [ht, List.append_assoc, List.cons_append, pE_4, HA _ (g + 1) (by show contH (1, kIS) < 5; decide +kernel) (by omega)]
    simp only [Option.bind_some]
    rw [pC, if_pos (by show isH kIS (1, kIS) = true; decide +kernel)]
    cases no
    · rw [if_neg (by show ¬ isH kNOT (1, kNULL) = true; decide +kernel), if_pos (by show isH kNULL (1, kNULL) = true; decide +kernel)]
      rfl
    · rw [if_pos (by show isH kNOT (1, kNOT) = true; decide +kernel), if_pos (by show isH kNULL (1, kNULL) = true; decide +kernel)]
      rfl
  · rw [ht, List.append_assoc]
    exact HN (by decide) _
  · rw [ht, List.append_assoc]
    exact HS _

theorem reads_btw {a b c : Ex} (ha : Reads a) (hb : Reads b) (hc : Reads c) : Reads (opX 7 0 false [a, b, c] []) := by
  have ht : tokE (opX 7 0 false [a, b, c] []) = argT 7 0 0 a ++ (1, kBETWEEN) :: (argT 7 0 1 b ++ (1, kAND) :: argT 7 0 2 c) := by
    rw [tokE_ops (by decide)]
    unfold opW
    rw [if_neg (by decide), if_neg (by decide), if_neg (by decide), if_neg (by decide), (args3 7 0 a b c).1, (args3 7 0 a b c).2.1, (args3 7 0 a b c).2.2, List.map_append, List.map_cons, List.map_append, List.map_cons, t_kw (by simp), t_kw (by simp)]
    rfl
  have hbase := base3 (k := 7) (o := 0) (no := false) (a := a) (b := b) (c := c)
  obtain ⟨HA, _, HN, HS⟩ := arg_reads ha 7 0 0 5 (by decide) (by decide) (by decide)
  obtain ⟨HB, _, _, _⟩ := arg_reads hb 7 0 1 5 (by decide) (by decide) (by decide)
  obtain ⟨HC, _, _, _⟩ := arg_reads hc 7 0 2 5 (by decide) (by decide) (by decide)
  refine reads_of (p := 4) rfl (by decide) (by decide) ?_ (fun h => by omega) (fun _ r => ?_) (fun h => by omega) (fun r => ?_)
  · intro r f hr hf
    obtain ⟨g, rfl⟩ : ∃ g, f = g + 2 := ⟨f - 2, by omega⟩
    rw [ht, List.append_assoc, List.cons_append, List.append_assoc, List.cons_append, pE_4, HA _ (g + 1) (by show contH (1, kBETWEEN) < 5; decide +kernel) (by omega)]
    simp only [Option.bind_some]
    rw [pC, if_neg (by show ¬ isH kIS (1, kBETWEEN) = true; decide +kernel), if_pos (by show isH kBETWEEN (1, kBETWEEN) = true; decide +kernel), List.tail_cons, HB _ g (by show contH (1, kAND) < 5; decide +kernel) (by omega)]
    show (if isH kAND (1, kAND) = true then (pE g 5 (argT 7 0 2 c ++ r)).map _ else none) = _
    rw [if_pos (by decide +kernel), HC r g (by omega) (by omega)]
    rfl
  · rw [ht, List.append_assoc]
    exact HN (by decide) _
  · rw [ht, List.append_assoc]
    exact HS _
end Go.Proofs.YtppiaaolggpjdaaDoor
