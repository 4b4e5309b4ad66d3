/- Well-formed expressions are read back from their words. No program is named here. -/
import Derived.Test.YtppiaaolggpjdaaDoorQ4
namespace Go.Proofs.YtppiaaolggpjdaaDoor
open Go.RowKit

noncomputable def baseX (e : Ex) : Nat := 64 * SizeOf.sizeOf e
def tokE (e : Ex) : TL := (wordsP e).map tokF

/-- What is to be shown of an expression. -/
def Reads (e : Ex) : Prop := ∀ p : Nat, (p : Int) = precP e.kind e.op →
  (∀ (q : Nat) (r : TL) (f : Nat), 1 ≤ q → q ≤ p → contL r < q → baseX e + (8 - q) ≤ f → pE f q (tokE e ++ r) = some (e, r)) ∧
  (∀ (q : Nat) (r : TL) (m f : Nat), (q = 1 ∨ q = 2 ∨ q = 5 ∨ q = 6) → q ≤ p → contL r < q + 1 → baseX e + (8 - q) + m ≤ f → ∃ g, m ≤ g ∧ pE f q (tokE e ++ r) = pL g q e r) ∧
  (4 ≤ p → ∀ r, isW kNOT (tokE e ++ r) = false) ∧ (p = 8 → ∀ r, isW kMinus (tokE e ++ r) = false) ∧ (∀ r, isW kSELECT (tokE e ++ r) = false)

theorem base_pos (e : Ex) : 1 ≤ baseX e := by
  unfold baseX
  have : 0 < SizeOf.sizeOf e := by cases e; simp only [Ex.mk.sizeOf_spec]; omega
  omega

theorem reads_of {e : Ex} {p : Nat} (hp : (p : Int) = precP e.kind e.op) (h1 : 1 ≤ p) (h8 : p ≤ 8)
    (H : ∀ (r : TL) (f : Nat), contL r < p → baseX e + (8 - p) ≤ f → pE f p (tokE e ++ r) = some (e, r))
    (HA : (p = 1 ∨ p = 2 ∨ p = 5 ∨ p = 6) → ∀ (r : TL) (m f : Nat), contL r < p + 1 → baseX e + (8 - p) + m ≤ f → ∃ g, m ≤ g ∧ pE f p (tokE e ++ r) = pL g p e r)
    (hn : 4 ≤ p → ∀ r, isW kNOT (tokE e ++ r) = false) (hm : p = 8 → ∀ r, isW kMinus (tokE e ++ r) = false) (hs : ∀ r, isW kSELECT (tokE e ++ r) = false) : Reads e := by
  intro p' hp'
  obtain rfl : p' = p := by omega
  have HB : ∀ (q : Nat) (r : TL) (f : Nat), 1 ≤ q → q ≤ p' → contL r < q → baseX e + (8 - q) ≤ f → pE f q (tokE e ++ r) = some (e, r) := fun q r f hq hqp hr hf =>
    down (base_pos e) h8 (fun f hf => H r f (by omega) hf) (fun h => hn h r) (fun h => hm h r) (p' - q) q (by omega) hq hr f hf
  refine ⟨HB, ?_, hn, hm, hs⟩
  intro q r m f hg hqp hr hf
  by_cases e1 : q = p'
  · subst e1
    exact HA hg r m f hr hf
  · obtain ⟨g, rfl⟩ : ∃ g, f = g + 1 := ⟨f - 1, by have := base_pos e; omega⟩
    refine ⟨g, by have := base_pos e; omega, ?_⟩
    rw [pE_grp hg, HB (q + 1) r g (by omega) (by omega) hr (by omega)]
    rfl

theorem reads_grp {e : Ex} {p : Nat} (hp : (p : Int) = precP e.kind e.op) (hg : p = 1 ∨ p = 2 ∨ p = 5 ∨ p = 6)
    (HA : ∀ (r : TL) (m f : Nat), contL r < p + 1 → baseX e + (7 - p) + m ≤ f → ∃ g, m ≤ g ∧ pE f p (tokE e ++ r) = pL g p e r)
    (hn : 4 ≤ p → ∀ r, isW kNOT (tokE e ++ r) = false) (hs : ∀ r, isW kSELECT (tokE e ++ r) = false) : Reads e := by
  refine reads_of hp (by omega) (by omega) ?_ (fun _ r m f hr hf => HA r m f hr (by omega)) hn (fun h => by omega) hs
  intro r f hr hf
  obtain ⟨g, hg1, hg2⟩ := HA r 1 f (by omega) (by omega)
  rw [hg2]
  exact pL_end hg hg1 hr

def argT (k o : Int) (i : Nat) (e : Ex) : TL := (argW k o i e).map tokF

theorem t_kw {w : ByteArray} (h : w ∈ [kNOT, kIS, kNULL, kBETWEEN, kAND, kEXISTS, kSELECT, kCOUNT, kFROM, kWHERE, kNEW, kOLD, kINS, kDEL, kTRUE, kFALSE, aggS 10, aggS 11, aggS 12, opS 1, opS 2]) : tokF w = (1, w) := tw_tok (kw_is h)
theorem t_sym {w : ByteArray} (h : w ∈ [kStar, kOpen, kShut, kDot, kMinus, opS 3, opS 4, opS 5, opS 6, opS 7, opS 8, opS 9, opS 10, opS 11, opS 12, opS 13]) : tokF w = (5, w) := tw_tok (sym_is h)
theorem t_open : tokF kOpen = (5, kOpen) := t_sym (by simp)
theorem t_shut : tokF kShut = (5, kShut) := t_sym (by simp)
theorem prec_pos (e : Ex) : 1 ≤ precP e.kind e.op := (precP_range _ _).1
theorem prec_nat (e : Ex) : ∃ p : Nat, (p : Int) = precP e.kind e.op ∧ 1 ≤ p ∧ p ≤ 8 := by
  have := precP_range e.kind e.op
  exact ⟨(precP e.kind e.op).toNat, by omega, by omega, by omega⟩

/-- An expression in parentheses. -/
theorem wrap_reads {a : Ex} (ha : Reads a) (r : TL) : ∀ f, baseX a + 10 ≤ f → pE f 8 (((5, kOpen) :: (tokE a ++ [(5, kShut)])) ++ r) = some (a, r) := by
  intro f hf
  obtain ⟨p, hp, hp1, _⟩ := prec_nat a
  obtain ⟨HB, _, _, _, hs⟩ := ha p hp
  obtain ⟨g, rfl⟩ : ∃ g, f = g + 2 := ⟨f - 2, by omega⟩
  rw [pE_8, List.cons_append, List.append_assoc, pP]
  have hB := HB 1 ((5, kShut) :: r) g (by omega) hp1 (by show contH (5, kShut) < 1; decide +kernel) (by omega)
  have hS := hs ((5, kShut) :: r)
  rw [if_neg (by decide), if_neg (by decide), if_neg (by decide), if_neg (by decide +kernel), if_neg (by decide +kernel), if_neg (by decide +kernel), if_neg (by decide +kernel), if_neg (by decide +kernel), if_pos (by decide +kernel)]
  show (if isW kSELECT (tokE a ++ (5, kShut) :: r) = true then _ else _) = _
  rw [if_neg (by rw [hS]; decide)]
  show (pE g 1 (tokE a ++ (5, kShut) :: r)).bind _ = _
  rw [hB]
  show (if isH kShut (5, kShut) = true then some (a, r) else none) = _
  rw [if_pos (by decide +kernel)]

theorem arg_reads {a : Ex} (ha : Reads a) (k o : Int) (i L : Nat) (hL : (L : Int) = leastP k o i) (h1 : 1 ≤ L) (h7 : L ≤ 7) :
    (∀ (r : TL) (f : Nat), contL r < L → baseX a + 20 ≤ f → pE f L (argT k o i a ++ r) = some (a, r)) ∧
    (∀ (r : TL) (m f : Nat), (L = 1 ∨ L = 2 ∨ L = 5 ∨ L = 6) → contL r < L + 1 → baseX a + 20 + m ≤ f → ∃ g, m ≤ g ∧ pE f L (argT k o i a ++ r) = pL g L a r) ∧
    (4 ≤ L → ∀ r, isW kNOT (argT k o i a ++ r) = false) ∧ (∀ r, isW kSELECT (argT k o i a ++ r) = false) := by
  obtain ⟨p, hp, hp1, hp8⟩ := prec_nat a
  obtain ⟨HB, HA, hn, _, hs⟩ := ha p hp
  unfold argT argW
  by_cases hlt : precP a.kind a.op < leastP k o i
  · rw [if_pos hlt]
    have e1 : (kOpen :: (wordsP a ++ [kShut])).map tokF = (5, kOpen) :: (tokE a ++ [(5, kShut)]) := by simp [t_open, t_shut, tokE]
    rw [e1]
    have hw := fun r q (hq1 : 1 ≤ q) (hq8 : q ≤ 8) hr f hf => down (c := baseX a + 10) (q0 := 8) (by omega) (by omega) (fun f hf => wrap_reads ha r f (by omega)) (fun _ => by show isH kNOT (5, kOpen) = false; decide +kernel) (fun _ => by show isH kMinus (5, kOpen) = false; decide +kernel) (8 - q) q (by omega) hq1 hr f hf
    refine ⟨fun r f hr hf => hw r L h1 (by omega) hr f (by omega), ?_, fun _ r => by show isH kNOT (5, kOpen) = false; decide +kernel, fun r => by show isH kSELECT (5, kOpen) = false; decide +kernel⟩
    intro r m f hg hr hf
    obtain ⟨g, rfl⟩ : ∃ g, f = g + 1 := ⟨f - 1, by omega⟩
    refine ⟨g, by omega, ?_⟩
    rw [pE_grp hg, hw r (L + 1) (by omega) (by omega) hr g (by omega)]
    rfl
  · rw [if_neg hlt]
    have hLp : L ≤ p := by omega
    refine ⟨fun r f hr hf => HB L r f h1 hLp hr (by omega), fun r m f hg hr hf => HA L r m f hg hLp hr (by omega), fun h r => hn (by omega) r, hs⟩

theorem size_args {k o : Int} {no : Bool} {args : List Ex} {sub : List Qu} : SizeOf.sizeOf (opX k o no args sub) ≥ SizeOf.sizeOf args + SizeOf.sizeOf sub + 1 := by
  unfold opX
  simp only [Ex.mk.sizeOf_spec]
  omega
theorem base1 {k o : Int} {no : Bool} {a : Ex} : baseX a + 64 ≤ baseX (opX k o no [a] []) := by
  have := size_args (k := k) (o := o) (no := no) (args := [a]) (sub := [])
  simp only [List.cons.sizeOf_spec, List.nil.sizeOf_spec] at this
  unfold baseX
  omega
theorem base2 {k o : Int} {no : Bool} {a b : Ex} : baseX a + baseX b + 64 ≤ baseX (opX k o no [a, b] []) := by
  have := size_args (k := k) (o := o) (no := no) (args := [a, b]) (sub := [])
  simp only [List.cons.sizeOf_spec, List.nil.sizeOf_spec] at this
  unfold baseX
  omega
theorem base3 {k o : Int} {no : Bool} {a b c : Ex} : baseX a + baseX b + baseX c + 64 ≤ baseX (opX k o no [a, b, c] []) := by
  have := size_args (k := k) (o := o) (no := no) (args := [a, b, c]) (sub := [])
  simp only [List.cons.sizeOf_spec, List.nil.sizeOf_spec] at this
  unfold baseX
  omega

theorem t_op {o : Int} (h1 : 1 ≤ o) (h2 : o ≤ 13) : ∃ x, tokF (opS o) = (x, opS o) ∧ (x = 1 ∨ x = 5) := by
  refine ⟨_, tw_tok (op_is h1 h2), ?_⟩
  split
  · exact .inl rfl
  · exact .inr rfl
theorem op_cont {o x : Int} (h1 : 1 ≤ o) (h2 : o ≤ 13) (hx : x = 1 ∨ x = 5) : (contH (x, opS o) : Int) = opPrec o := by
  have : o = 1 ∨ o = 2 ∨ o = 3 ∨ o = 4 ∨ o = 5 ∨ o = 6 ∨ o = 7 ∨ o = 8 ∨ o = 9 ∨ o = 10 ∨ o = 11 ∨ o = 12 ∨ o = 13 := by omega
  rcases this with rfl | rfl | rfl | rfl | rfl | rfl | rfl | rfl | rfl | rfl | rfl | rfl | rfl <;> rcases hx with rfl | rfl <;> decide +kernel
theorem op_find0 : ∀ o ∈ ([1, 2, 3, 4, 5, 6, 7, 8, 9, 10, 11, 12, 13] : List Int), ∀ x ∈ ([1, 5] : List Int), (∀ q ∈ [1, 2, 5, 6], ((q : Nat) : Int) = opPrec o → (grp q).find? (fun o' => isH (opS o') (x, opS o)) = some o) ∧ (opPrec o = 4 → isH kIS (x, opS o) = false ∧ isH kBETWEEN (x, opS o) = false ∧ cmpL.find? (fun o' => isH (opS o') (x, opS o)) = some o) := by decide +kernel
theorem op_find {o x : Int} (h1 : 1 ≤ o) (h2 : o ≤ 13) (hx : x = 1 ∨ x = 5) (r : TL) : (∀ q : Nat, (q = 1 ∨ q = 2 ∨ q = 5 ∨ q = 6) → (q : Int) = opPrec o → opAt (grp q) ((x, opS o) :: r) = some o) ∧ (opPrec o = 4 → isW kIS ((x, opS o) :: r) = false ∧ isW kBETWEEN ((x, opS o) :: r) = false ∧ opAt cmpL ((x, opS o) :: r) = some o) := by
  have ho : o ∈ ([1, 2, 3, 4, 5, 6, 7, 8, 9, 10, 11, 12, 13] : List Int) := by simp only [List.mem_cons, List.not_mem_nil, or_false]; omega
  have hx' : x ∈ ([1, 5] : List Int) := by simp only [List.mem_cons, List.not_mem_nil, or_false]; exact hx
  obtain ⟨a, b⟩ := op_find0 o ho x hx'
  exact ⟨fun q hq => a q (by simp only [List.mem_cons, List.not_mem_nil, or_false]; exact hq), b⟩
end Go.Proofs.YtppiaaolggpjdaaDoor
