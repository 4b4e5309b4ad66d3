/- The words of a well-formed expression are tokens. No program is named here. -/
import Derived.Test.YtppiaaolggpjdaaDoorQ2
namespace Go.Proofs.YtppiaaolggpjdaaDoor
open Go.RowKit

/-- Well-formed expressions, by their forms. -/
inductive VX : Ex → Prop
  | lit (v : Val) (hv : validV v = true) (h0 : v.kind = 1 → 0 ≤ v.int ∧ v.int ≤ 9223372036854775807) : VX (litX v)
  | col (t n : ByteArray) (h : columnB t n = true) : VX (colX t n)
  | ops (k o : Int) (no : Bool) (args : List Ex) (hk : OpShape k o no args.length) (ha : ∀ a ∈ args, VX a) : VX (opX k o no args [])
  | sub (k : Int) (f : ByteArray) (items whr : List Ex) (hk : ((k = 8 ∨ k = 9) ∧ items = []) ∨ ((k = 10 ∨ k = 11 ∨ k = 12) ∧ items.length = 1)) (hf : sourceB f = true) (hw : whr.length ≤ 1) (h1 : ∀ x ∈ items, VX x) (h2 : ∀ x ∈ whr, VX x) : VX (opX k 0 false [] [.mk (k == 8) items f whr])

theorem any_vx {n : Nat} {e : Ex} (h : AnyX n e) : VX e := by
  induction h with
  | col n q i hq hi =>
    refine .col _ _ ?_
    have hall : ∀ q ∈ qualL, ∀ i, i < 8 → columnB q (nameAt i) = true := by decide +kernel
    exact hall q hq i hi
  | lit n v hv h0 =>
    refine .lit v (valid_of hv) fun hk => ⟨h0 hk, ?_⟩
    rcases hv with h | h | h | h
    · omega
    · exact h.2.1.2
    · omega
    · omega
  | ops n k o no args hk _ ih => exact .ops k o no args hk ih
  | sub n k f items whr hf hi hw _ _ ih1 ih2 =>
    have hall : ∀ f ∈ fromL, sourceB f = true := by decide +kernel
    exact .sub k f items whr hi (hall f hf) hw ih1 ih2

/-- A word as a token. -/
def tokF (w : ByteArray) : Int × ByteArray := (nextP w).1
theorem tw_tok {w t : ByteArray} {k : Int} (h : TW w k t) : tokF w = (k, t) := by
  unfold tokF
  rw [next_tw h (rest := []) (.inr (.inr fun c r h => by cases h)) (u := w) (by simp)]
def IsT (w : ByteArray) : Prop := ∃ k t, TW w k t
theorem tw_w {w t : ByteArray} {k : Int} (h : TW w k t) : (k = 4 ∧ w = bs (39 :: (dblL t.data.toList ++ [39]))) ∨ (k ≠ 4 ∧ w = t) := by
  cases h with
  | run _ _ h0 ha hr =>
    refine .inr ⟨?_, rfl⟩
    intro e
    subst e
    unfold runP at hr
    split at hr
    · cases hr
    · split at hr
      · cases hr
      · split at hr
        · split at hr
          · cases hr
          · cases hr
        · cases hr
  | sym _ h => exact .inr ⟨by decide, rfl⟩
  | txt _ h => exact .inl ⟨rfl, rfl⟩
theorem tok_inj {w w' : ByteArray} (h : IsT w) (h' : IsT w') (e : tokF w = tokF w') : w = w' := by
  obtain ⟨k, t, h⟩ := h
  obtain ⟨k', t', h'⟩ := h'
  rw [tw_tok h, tw_tok h'] at e
  cases e
  rcases tw_w h with ⟨h1, h2⟩ | ⟨h1, h2⟩ <;> rcases tw_w h' with ⟨h3, h4⟩ | ⟨h3, h4⟩
  · rw [h2, h4]
  · exact absurd h1 h3
  · exact absurd h3 h1
  · rw [h2, h4]
theorem trel_map : ∀ {ws : List ByteArray} {l : List (Int × ByteArray × Nat)}, TRel ws l → l.map (fun x => (x.1, x.2.1)) = ws.map tokF
  | [], [], _ => rfl
  | w :: ws, x :: l, h => by rw [List.map_cons, List.map_cons, tw_tok h.1, trel_map h.2]
  | [], _ :: _, h => h.elim
  | _ :: _, [], h => h.elim

theorem kw_tw (w : ByteArray) (h0 : w.data.toList ≠ []) (ha : w.data.toList.all runC = true) (hk : kwL.contains w.data.toList = true) : TW w 1 w :=
  .run w 1 h0 (List.all_eq_true.1 ha) (by unfold runP; rw [if_pos hk])
theorem letB_run (c : UInt8) (h : nchB c = true) : runC c = true := by
  have : ∀ n : Fin 256, nchB (UInt8.ofNat n.1) = true → runC (UInt8.ofNat n.1) = true := by decide +kernel
  have e : UInt8.ofNat c.toNat = c := by simp
  have := this ⟨c.toNat, c.toNat_lt⟩
  rw [e] at this
  exact this h
theorem kw_heads : kwL.all (fun l => match l with | [] => false | c :: _ => !letB c && !digC c) = true := by decide +kernel
theorem name_tw (w : ByteArray) (h : nameB w = true) : TW w 2 w := by
  have h' := h
  simp only [nameB, Bool.and_eq_true, decide_eq_true_eq] at h'
  obtain ⟨⟨⟨h1, _⟩, h3⟩, h4⟩ := h'
  have hne : w.data.toList ≠ [] := fun e => by rw [size_list, e] at h1; simp at h1
  refine .run w 2 hne (fun c hc => letB_run c (List.all_eq_true.1 h3 c hc)) ?_
  unfold runP
  rw [if_neg, if_pos h]
  intro hk
  have h5 := List.all_eq_true.1 kw_heads _ (by simpa using hk)
  cases hw : w.data.toList with
  | nil => exact hne hw
  | cons c r =>
    rw [hw] at h4 h5
    simp only [List.head?_cons, Option.any_some] at h4
    simp [h4] at h5
theorem num_tw {n : Int} (h0 : 0 ≤ n) (h1 : n ≤ 9223372036854775807) : TW (bs (Lib.itoa n)) 3 (bs (Lib.itoa n)) := by
  have hl : (bs (Lib.itoa n)).data.toList = Lib.itoa n := rfl
  obtain ⟨u, rfl⟩ := Int.eq_ofNat_of_zero_le h0
  have hi : Lib.itoa (u : Int) = Lib.decDigits u := by unfold Lib.itoa; rw [if_neg (by omega)]; rfl
  obtain ⟨hne, hr⟩ := dec_range u
  have hd : ∀ c ∈ Lib.decDigits u, digC c = true := fun c hc => by
    have := hr c hc
    simp [digC, this]
  refine .run _ 3 (by rw [hl, hi]; exact hne) (fun c hc => by rw [hl, hi] at hc; simp [runC, hd c hc]) ?_
  cases hu : Lib.decDigits u with
  | nil => exact absurd hu hne
  | cons c r =>
    have hc := hd c (by rw [hu]; simp)
    have hlc : letB c = false := by
      have := hr c (by rw [hu]; simp)
      simp [letB]
      omega
    unfold runP
    rw [hl, if_neg, if_neg, parseIntB_itoa h0 h1]
    · simp only
      rw [if_pos]
      exact ⟨by rw [hi, hu]; simpa using hc, by trivial⟩
    · intro h
      simp only [nameB, Bool.and_eq_true] at h
      have h4 := h.2
      rw [hl, hi, hu] at h4
      simp [hlc] at h4
    · intro hk
      have h5 := List.all_eq_true.1 kw_heads _ (by simpa using hk)
      rw [hi, hu] at h5
      simp [hc] at h5

def kNEW : ByteArray := bs [78, 69, 87]
def kOLD : ByteArray := bs [79, 76, 68]
def kINS : ByteArray := bs kwIns
def kDEL : ByteArray := bs kwDel
def kTRUE : ByteArray := bs [84, 82, 85, 69]
def kFALSE : ByteArray := bs [70, 65, 76, 83, 69]

theorem quals {t n : ByteArray} (h : columnB t n = true) : nameB n = true ∧ (t = es ∨ t = kNEW ∨ t = kOLD ∨ t = kINS ∨ t = kDEL ∨ nameB t = true) := by
  simp only [columnB, Bool.and_eq_true, Bool.or_eq_true, beq_iff_eq, ByteArray.toList_eq] at h
  refine ⟨h.2, ?_⟩
  have e : ∀ l : List UInt8, t.data.toList = l → t = bs l := fun l hl => bytes_ext (by rw [hl]; rfl)
  rcases h.1 with ((((h | h) | h) | h) | h) | h
  · exact .inl (e _ h)
  · exact .inr (.inl (e _ h))
  · exact .inr (.inr (.inl (e _ h)))
  · exact .inr (.inr (.inr (.inl (e _ h))))
  · exact .inr (.inr (.inr (.inr (.inl (e _ h)))))
  · exact .inr (.inr (.inr (.inr (.inr h))))
theorem sources {f : ByteArray} (h : sourceB f = true) : nameB f = true ∨ f = kINS ∨ f = kDEL := by
  simp only [sourceB, Bool.or_eq_true, beq_iff_eq, ByteArray.toList_eq] at h
  have e : ∀ l : List UInt8, f.data.toList = l → f = bs l := fun l hl => bytes_ext (by rw [hl]; rfl)
  rcases h with (h | h) | h
  · exact .inl h
  · exact .inr (.inl (e _ h))
  · exact .inr (.inr (e _ h))
theorem kw_list : ∀ w ∈ [kNOT, kIS, kNULL, kBETWEEN, kAND, kEXISTS, kSELECT, kCOUNT, kFROM, kWHERE, kNEW, kOLD, kINS, kDEL, kTRUE, kFALSE, aggS 10, aggS 11, aggS 12, opS 1, opS 2], w.data.toList ≠ [] ∧ w.data.toList.all runC = true ∧ kwL.contains w.data.toList = true := by decide +kernel
theorem sym_list : ∀ w ∈ [kStar, kOpen, kShut, kDot, kMinus, opS 3, opS 4, opS 5, opS 6, opS 7, opS 8, opS 9, opS 10, opS 11, opS 12, opS 13], w.data.toList ∈ symWords := by decide +kernel
theorem kw_is {w : ByteArray} (h : w ∈ [kNOT, kIS, kNULL, kBETWEEN, kAND, kEXISTS, kSELECT, kCOUNT, kFROM, kWHERE, kNEW, kOLD, kINS, kDEL, kTRUE, kFALSE, aggS 10, aggS 11, aggS 12, opS 1, opS 2]) : TW w 1 w :=
  let ⟨a, b, c⟩ := kw_list w h; kw_tw w a b c
theorem sym_is {w : ByteArray} (h : w ∈ [kStar, kOpen, kShut, kDot, kMinus, opS 3, opS 4, opS 5, opS 6, opS 7, opS 8, opS 9, opS 10, opS 11, opS 12, opS 13]) : TW w 5 w := .sym w (sym_list w h)
theorem op_is {o : Int} (h1 : 1 ≤ o) (h2 : o ≤ 13) : TW (opS o) (if o ≤ 2 then 1 else 5) (opS o) := by
  have : o = 1 ∨ o = 2 ∨ o = 3 ∨ o = 4 ∨ o = 5 ∨ o = 6 ∨ o = 7 ∨ o = 8 ∨ o = 9 ∨ o = 10 ∨ o = 11 ∨ o = 12 ∨ o = 13 := by omega
  rcases this with rfl | rfl | rfl | rfl | rfl | rfl | rfl | rfl | rfl | rfl | rfl | rfl | rfl
  · exact kw_is (by simp)
  · exact kw_is (by simp)
  all_goals exact sym_is (by simp)

/-- A literal's word. -/
theorem lit_tw {v : Val} (hv : validV v = true) (h0 : v.kind = 1 → 0 ≤ v.int ∧ v.int ≤ 9223372036854775807) :
    (v = ⟨0, 0, es⟩ ∧ bs (fmtV v) = kNULL) ∨ (v.kind = 1 ∧ v = ⟨1, v.int, es⟩ ∧ bs (fmtV v) = bs (Lib.itoa v.int)) ∨ (v = ⟨2, 1, es⟩ ∧ bs (fmtV v) = kTRUE) ∨ (v = ⟨2, 0, es⟩ ∧ bs (fmtV v) = kFALSE) ∨ (v = ⟨3, 0, v.text⟩ ∧ plainB v.text = true ∧ bs (fmtV v) = bs (39 :: (dblL v.text.data.toList ++ [39]))) := by
  obtain ⟨k, n, s⟩ := v
  have hs : ∀ {s : ByteArray}, noText s = true → s = es := fun {s} h => bytes_ext (by
    simp only [noText, beq_iff_eq, ByteArray.toList_eq] at h
    rw [h]; rfl)
  have hf : ¬ validV ⟨k, n, s⟩ = false := by rw [hv]; decide
  unfold validV at hv
  simp only at hv
  split at hv
  · rename_i hk
    subst hk
    simp only [Bool.and_eq_true, decide_eq_true_eq] at hv
    obtain ⟨rfl, h2⟩ := hv
    cases hs h2
    exact .inl ⟨rfl, by decide +kernel⟩
  split at hv
  · rename_i hk
    subst hk
    cases hs hv
    refine .inr (.inl ⟨rfl, rfl, ?_⟩)
    unfold fmtV
    rw [if_neg hf]
    rfl
  split at hv
  · rename_i hk
    subst hk
    simp only [Bool.and_eq_true, Bool.or_eq_true, decide_eq_true_eq] at hv
    obtain ⟨h1, h2⟩ := hv
    cases hs h2
    rcases h1 with rfl | rfl
    · exact .inr (.inr (.inr (.inl ⟨rfl, by decide +kernel⟩)))
    · exact .inr (.inr (.inl ⟨rfl, by decide +kernel⟩))
  split at hv
  · rename_i hk
    subst hk
    simp only [Bool.and_eq_true, decide_eq_true_eq] at hv
    obtain ⟨rfl, h2⟩ := hv
    refine .inr (.inr (.inr (.inr ⟨rfl, h2, ?_⟩)))
    unfold fmtV
    rw [if_neg hf]
    simp only [repAll_dbl]
    rfl
  · cases hv

theorem words_lit (v : Val) : wordsP (litX v) = [bs (fmtV v)] := by rw [wordsP_eq]; rfl
theorem words_col (t n : ByteArray) : wordsP (colX t n) = if noText t = true then [n] else [t, kDot, n] := by rw [wordsP_eq]; rfl
theorem opShape_k {k o : Int} {no : Bool} {n : Nat} (h : OpShape k o no n) : 3 ≤ k ∧ k ≤ 7 := by
  unfold OpShape at h
  omega
theorem words_ops {k o : Int} {no : Bool} {args : List Ex} (h : 3 ≤ k ∧ k ≤ 7) : wordsP (opX k o no args []) = opW k o no (argsW k o 0 args) := by
  rw [wordsP_eq]
  exact (if_neg (show ¬ k = 1 by omega)).trans ((if_neg (show ¬ k = 2 by omega)).trans (if_pos h))
theorem words_sub {k : Int} {st : Bool} {f : ByteArray} {items whr : List Ex} (h : 8 ≤ k) : wordsP (opX k 0 false [] [.mk st items f whr]) = headW k (items.map wordsP) ++ (kFROM :: f :: whereW (whr.map wordsP)) ++ [kShut] := by
  rw [wordsP_eq]
  refine (if_neg (show ¬ k = 1 by omega)).trans ((if_neg (show ¬ k = 2 by omega)).trans ((if_neg (show ¬(3 ≤ k ∧ k ≤ 7) by omega)).trans ?_))
  show subW k [.mk st items f whr] = _
  rw [subW, manyW_eq, manyW_eq]

theorem words_tok {e : Ex} (h : VX e) : ∀ w ∈ wordsP e, IsT w := by
  induction h with
  | lit v hv h0 =>
    intro w hw
    rw [words_lit, List.mem_singleton] at hw
    subst hw
    rcases lit_tw hv h0 with ⟨_, e⟩ | ⟨hk, _, e⟩ | ⟨_, e⟩ | ⟨_, e⟩ | ⟨_, hp, e⟩
    · rw [e]; exact ⟨_, _, kw_is (by simp)⟩
    · rw [e]; exact ⟨_, _, num_tw (h0 hk).1 (h0 hk).2⟩
    · rw [e]; exact ⟨_, _, kw_is (by simp)⟩
    · rw [e]; exact ⟨_, _, kw_is (by simp)⟩
    · rw [e]; exact ⟨_, _, .txt _ hp⟩
  | col t n h =>
    obtain ⟨hn, ht⟩ := quals h
    intro w hw
    rw [words_col] at hw
    by_cases hnt : noText t = true
    · rw [if_pos hnt] at hw
      rw [List.mem_singleton.1 hw]; exact ⟨_, _, name_tw n hn⟩
    · rw [if_neg hnt] at hw
      simp only [List.mem_cons, List.not_mem_nil, or_false] at hw
      rcases hw with rfl | rfl | rfl
      · rcases ht with rfl | rfl | rfl | rfl | rfl | ht
        · exact absurd (by decide +kernel) hnt
        · exact ⟨_, _, kw_is (by simp)⟩
        · exact ⟨_, _, kw_is (by simp)⟩
        · exact ⟨_, _, kw_is (by simp)⟩
        · exact ⟨_, _, kw_is (by simp)⟩
        · exact ⟨_, _, name_tw _ ht⟩
      · exact ⟨_, _, sym_is (by simp)⟩
      · exact ⟨_, _, name_tw _ hn⟩
  | ops k o no args hk _ ih =>
    have harg : ∀ i a, args[i]? = some a → ∀ w ∈ (argsW k o 0 args).getD i [], IsT w := by
      intro i a hi w hw
      rw [argsW_get k o args 0 i a hi] at hw
      unfold argW at hw
      split at hw
      · simp only [List.mem_cons, List.mem_append, List.not_mem_nil, or_false] at hw
        rcases hw with rfl | hw | rfl
        · exact ⟨_, _, sym_is (by simp)⟩
        · exact ih a (List.mem_of_getElem? hi) w hw
        · exact ⟨_, _, sym_is (by simp)⟩
      · exact ih a (List.mem_of_getElem? hi) w hw
    have hA : ∀ i, i < args.length → ∀ w ∈ (argsW k o 0 args).getD i [], IsT w := fun i hi => harg i _ (List.getElem?_eq_getElem hi)
    have hkw : ∀ {w}, w ∈ [kNOT, kIS, kNULL, kBETWEEN, kAND, kEXISTS, kSELECT, kCOUNT, kFROM, kWHERE, kNEW, kOLD, kINS, kDEL, kTRUE, kFALSE, aggS 10, aggS 11, aggS 12, opS 1, opS 2] → IsT w := fun h => ⟨_, _, kw_is h⟩
    have hsy : ∀ {w}, w ∈ [kStar, kOpen, kShut, kDot, kMinus, opS 3, opS 4, opS 5, opS 6, opS 7, opS 8, opS 9, opS 10, opS 11, opS 12, opS 13] → IsT w := fun h => ⟨_, _, sym_is h⟩
    intro w hw
    rw [words_ops (opShape_k hk)] at hw
    unfold opW at hw
    rcases hk with ⟨rfl | rfl, _, _, hn⟩ | ⟨rfl, _, hn⟩ | ⟨rfl, ho1, ho2, _, hn⟩ | ⟨rfl, _, _, hn⟩
    · simp only [if_true, List.mem_cons] at hw
      rcases hw with rfl | hw
      · exact hkw (by simp)
      · exact hA 0 (by omega) w hw
    · rw [if_neg (by decide), if_pos rfl] at hw
      simp only [List.mem_cons] at hw
      rcases hw with rfl | hw
      · exact hsy (by simp)
      · exact hA 0 (by omega) w hw
    · rw [if_neg (by decide), if_neg (by decide), if_neg (by decide), if_pos rfl] at hw
      simp only [List.mem_append, List.mem_cons] at hw
      rcases hw with hw | rfl | hw
      · exact hA 0 (by omega) w hw
      · exact hkw (by simp)
      · split at hw
        · simp only [List.mem_cons, List.not_mem_nil, or_false] at hw
          rcases hw with rfl | rfl <;> exact hkw (by simp)
        · rw [List.mem_singleton.1 hw]; exact hkw (by simp)
    · rw [if_neg (by decide), if_neg (by decide), if_pos rfl] at hw
      simp only [List.mem_append, List.mem_cons] at hw
      rcases hw with hw | rfl | hw
      · exact hA 0 (by omega) w hw
      · exact ⟨_, _, op_is ho1 ho2⟩
      · exact hA 1 (by omega) w hw
    · rw [if_neg (by decide), if_neg (by decide), if_neg (by decide), if_neg (by decide)] at hw
      simp only [List.mem_append, List.mem_cons] at hw
      rcases hw with hw | rfl | hw | rfl | hw
      · exact hA 0 (by omega) w hw
      · exact hkw (by simp)
      · exact hA 1 (by omega) w hw
      · exact hkw (by simp)
      · exact hA 2 (by omega) w hw
  | sub k f items whr hk hf hw _ _ ih1 ih2 =>
    have hkw : ∀ {w}, w ∈ [kNOT, kIS, kNULL, kBETWEEN, kAND, kEXISTS, kSELECT, kCOUNT, kFROM, kWHERE, kNEW, kOLD, kINS, kDEL, kTRUE, kFALSE, aggS 10, aggS 11, aggS 12, opS 1, opS 2] → IsT w := fun h => ⟨_, _, kw_is h⟩
    have hsy : ∀ {w}, w ∈ [kStar, kOpen, kShut, kDot, kMinus, opS 3, opS 4, opS 5, opS 6, opS 7, opS 8, opS 9, opS 10, opS 11, opS 12, opS 13] → IsT w := fun h => ⟨_, _, sym_is h⟩
    intro w hw'
    rw [words_sub (by omega)] at hw'
    simp only [List.mem_append, List.mem_cons, List.not_mem_nil, or_false] at hw'
    rcases hw' with (hw' | rfl | rfl | hw') | rfl
    · unfold headW at hw'
      rcases hk with ⟨rfl | rfl, rfl⟩ | ⟨hk, hlen⟩
      · simp only [if_true, List.mem_cons, List.not_mem_nil, or_false] at hw'
        rcases hw' with rfl | rfl | rfl | rfl
        · exact hkw (by simp)
        · exact hsy (by simp)
        · exact hkw (by simp)
        · exact hsy (by simp)
      · rw [if_neg (by decide), if_pos rfl] at hw'
        simp only [List.mem_cons, List.not_mem_nil, or_false] at hw'
        rcases hw' with rfl | rfl | rfl | rfl | rfl | rfl
        · exact hsy (by simp)
        · exact hkw (by simp)
        · exact hkw (by simp)
        · exact hsy (by simp)
        · exact hsy (by simp)
        · exact hsy (by simp)
      · rw [if_neg (by omega), if_neg (by omega)] at hw'
        obtain ⟨x, rfl⟩ := List.length_eq_one_iff.1 hlen
        simp only [List.map_cons, List.map_nil, List.getD_cons_zero, List.mem_cons, List.mem_append, List.not_mem_nil, or_false] at hw'
        rcases hw' with rfl | rfl | rfl | rfl | hw' | rfl
        · exact hsy (by simp)
        · exact hkw (by simp)
        · rcases hk with rfl | rfl | rfl <;> exact hkw (by simp)
        · exact hsy (by simp)
        · exact ih1 x (by simp) w hw'
        · exact hsy (by simp)
    · exact hkw (by simp)
    · rcases sources hf with h | rfl | rfl
      · exact ⟨_, _, name_tw _ h⟩
      · exact hkw (by simp)
      · exact hkw (by simp)
    · match whr, hw with
      | [], _ => simp [whereW] at hw'
      | [x], _ =>
        simp only [List.map_cons, List.map_nil, whereW, List.append_nil, List.mem_cons] at hw'
        rcases hw' with rfl | hw'
        · exact hkw (by simp)
        · exact ih2 x (by simp) w hw'
    · exact hsy (by simp)
end Go.Proofs.YtppiaaolggpjdaaDoor
