/- Operands are read back; so different expressions have different texts. No program is named here. -/
import Derived.Test.YtppiaaolggpjdaaDoorQ6
namespace Go.Proofs.YtppiaaolggpjdaaDoor
open Go.RowKit

theorem reads_prim {e : Ex} (hp : precP e.kind e.op = 8) (H : ∀ (r : TL) (f : Nat), contL r < 8 → baseX e ≤ f + 1 → pP f (tokE e ++ r) = some (e, r)) (x : Int × ByteArray) (t : TL) (ht : tokE e = x :: t) (hn : isH kNOT x = false) (hm : isH kMinus x = false) (hs : isH kSELECT x = false) : Reads e := by
  refine reads_of (p := 8) hp.symm (by decide) (by decide) ?_ (fun h => by omega) (fun _ r => by rw [ht]; exact hn) (fun _ r => by rw [ht]; exact hm) (fun r => by rw [ht]; exact hs)
  intro r f hr hf
  have := base_pos e
  obtain ⟨g, rfl⟩ : ∃ g, f = g + 1 := ⟨f - 1, by omega⟩
  rw [pE_8]
  exact H r g hr (by omega)

theorem kind_ne {s t : ByteArray} {k : Int} (h : k ≠ 1 ∧ k ≠ 5) : isH s (k, t) = false := by simp [isH, h.1, h.2]
theorem pP_txt {f : Nat} {t : ByteArray} {r : TL} : pP (f + 1) ((4, t) :: r) = some (litX ⟨3, 0, t⟩, r) := by rw [pP]; simp
theorem pP_name {f : Nat} {t : ByteArray} {r : TL} : pP (f + 1) ((2, t) :: r) = pCol t r := by rw [pP]; simp
theorem base_big (e : Ex) : 64 ≤ baseX e := by
  unfold baseX
  have : 0 < SizeOf.sizeOf e := by cases e; simp only [Ex.mk.sizeOf_spec]; omega
  omega

theorem reads_lit {v : Val} (hv : validV v = true) (h0 : v.kind = 1 → 0 ≤ v.int ∧ v.int ≤ 9223372036854775807) : Reads (litX v) := by
  have hw : tokE (litX v) = [tokF (bs (fmtV v))] := by unfold tokE; rw [words_lit]; rfl
  have hb := base_big (litX v)
  rcases lit_tw hv h0 with ⟨rfl, e⟩ | ⟨hk, hv1, e⟩ | ⟨rfl, e⟩ | ⟨rfl, e⟩ | ⟨hv3, hpl, e⟩
  · rw [e, t_kw (by simp)] at hw
    refine reads_prim rfl (fun r f hr hf => ?_) _ _ hw (by decide +kernel) (by decide +kernel) (by decide +kernel)
    obtain ⟨g, rfl⟩ : ∃ g, f = g + 1 := ⟨f - 1, by omega⟩
    rw [hw, List.cons_append, pP, if_neg (by decide), if_neg (by decide), if_neg (by decide), if_pos (by decide +kernel)]
    rfl
  · obtain ⟨n0, n1⟩ := h0 hk
    rw [e, tw_tok (num_tw n0 n1)] at hw
    refine reads_prim rfl (fun r f hr hf => ?_) _ _ hw (kind_ne (by decide)) (kind_ne (by decide)) (kind_ne (by decide))
    obtain ⟨g, rfl⟩ : ∃ g, f = g + 1 := ⟨f - 1, by omega⟩
    rw [hw, List.cons_append, pP, if_pos rfl]
    unfold pNum
    rw [show (bs (Lib.itoa v.int)).data.toList = Lib.itoa v.int from rfl, parseIntB_itoa n0 n1]
    show some (litX ⟨1, v.int, es⟩, r) = _
    rw [← hv1]
  · rw [e, t_kw (by simp)] at hw
    refine reads_prim rfl (fun r f hr hf => ?_) _ _ hw (by decide +kernel) (by decide +kernel) (by decide +kernel)
    obtain ⟨g, rfl⟩ : ∃ g, f = g + 1 := ⟨f - 1, by omega⟩
    rw [hw, List.cons_append, pP, if_neg (by decide), if_neg (by decide), if_neg (by decide), if_neg (by decide +kernel), if_pos (by decide +kernel)]
    rfl
  · rw [e, t_kw (by simp)] at hw
    refine reads_prim rfl (fun r f hr hf => ?_) _ _ hw (by decide +kernel) (by decide +kernel) (by decide +kernel)
    obtain ⟨g, rfl⟩ : ∃ g, f = g + 1 := ⟨f - 1, by omega⟩
    rw [hw, List.cons_append, pP, if_neg (by decide), if_neg (by decide), if_neg (by decide), if_neg (by decide +kernel), if_neg (by decide +kernel), if_pos (by decide +kernel)]
    rfl
  · rw [e, tw_tok (.txt v.text hpl)] at hw
    refine reads_prim rfl (fun r f hr hf => ?_) _ _ hw (kind_ne (by decide)) (kind_ne (by decide)) (kind_ne (by decide))
    obtain ⟨g, rfl⟩ : ∃ g, f = g + 1 := ⟨f - 1, by omega⟩
    rw [hw, List.cons_append, pP_txt, ← hv3]
    rfl

theorem reads_col {t n : ByteArray} (h : columnB t n = true) : Reads (colX t n) := by
  obtain ⟨hn, ht⟩ := quals h
  have hb := base_big (colX t n)
  have tn := tw_tok (name_tw n hn)
  by_cases hnt : noText t = true
  · have hes : t = es := bytes_ext (by
      simp only [noText, beq_iff_eq, ByteArray.toList_eq] at hnt
      rw [hnt]; rfl)
    subst hes
    have hw : tokE (colX es n) = [(2, n)] := by
      unfold tokE
      rw [words_col, if_pos hnt, List.map_cons, tn]
      rfl
    refine reads_prim rfl (fun r f hr hf => ?_) _ _ hw (kind_ne (by decide)) (kind_ne (by decide)) (kind_ne (by decide))
    obtain ⟨g, rfl⟩ : ∃ g, f = g + 1 := ⟨f - 1, by omega⟩
    rw [hw, List.cons_append, pP_name]
    unfold pCol
    rw [List.nil_append, if_neg (by rw [dot_none (by omega)]; decide)]
  · have hw0 : tokE (colX t n) = [tokF t, (5, kDot), (2, n)] := by
      unfold tokE
      rw [words_col, if_neg hnt, List.map_cons, List.map_cons, List.map_cons, tn, show tokF kDot = (5, kDot) from t_sym (by simp)]
      rfl
    have hdot : ∀ r : TL, isW kDot ((5, kDot) :: r) = true := fun r => by show isH kDot (5, kDot) = true; decide +kernel
    rcases ht with rfl | ht | ht | ht | ht | ht
    · exact absurd (by decide +kernel) hnt
    case inr.inr.inr.inr.inr =>
      have hw := hw0
      rw [tw_tok (name_tw t ht)] at hw
      refine reads_prim rfl (fun r f hr hf => ?_) _ _ hw (kind_ne (by decide)) (kind_ne (by decide)) (kind_ne (by decide))
      obtain ⟨g, rfl⟩ : ∃ g, f = g + 1 := ⟨f - 1, by omega⟩
      rw [hw, List.cons_append, pP_name]
      unfold pCol
      rw [List.cons_append, if_pos (hdot _)]
      rfl
    all_goals
      subst ht
      have hw := hw0
      rw [t_kw (by simp)] at hw
      refine reads_prim rfl (fun r f hr hf => ?_) _ _ hw (by decide +kernel) (by decide +kernel) (by decide +kernel)
      obtain ⟨g, rfl⟩ : ∃ g, f = g + 1 := ⟨f - 1, by omega⟩
      rw [hw, List.cons_append, pP, if_neg (by decide), if_neg (by decide), if_neg (by decide), if_neg (by decide +kernel), if_neg (by decide +kernel), if_neg (by decide +kernel), if_pos (by decide +kernel), List.cons_append, if_pos (hdot _)]
      rfl

theorem src_tok {f : ByteArray} (h : sourceB f = true) : ∃ x, tokF f = (x, f) ∧ srcH (x, f) = true := by
  rcases sources h with h | rfl | rfl
  · exact ⟨2, tw_tok (name_tw f h), by simp [srcH]⟩
  · exact ⟨1, t_kw (by simp), by decide +kernel⟩
  · exact ⟨1, t_kw (by simp), by decide +kernel⟩

/-- From FROM on. -/
theorem from_reads {k : Int} {f : ByteArray} {items whr : List Ex} (hf : sourceB f = true) (hw : whr.length ≤ 1) (ih : ∀ x ∈ whr, Reads x) (r : TL) (g c : Nat) (hc : ∀ x ∈ whr, baseX x + 7 ≤ c) (hg : c + 1 ≤ g) :
    pF g k items ((kFROM :: f :: whereW (whr.map wordsP) ++ [kShut]).map tokF ++ r) = some (opX k 0 false [] [.mk (k == 8) items f whr], r) := by
  obtain ⟨x, hx, hs⟩ := src_tok hf
  obtain ⟨n, rfl⟩ : ∃ n, g = n + 1 := ⟨g - 1, by omega⟩
  have e1 : tokF kFROM = (1, kFROM) := t_kw (by simp)
  match whr, hw with
  | [], _ =>
    have e : ((kFROM :: f :: whereW (([] : List Ex).map wordsP) ++ [kShut]).map tokF ++ r) = (1, kFROM) :: (x, f) :: (5, kShut) :: r := by simp [whereW, e1, hx, t_shut]
    rw [e, pF, if_pos (by show isH kFROM (1, kFROM) = true; decide +kernel), List.tail_cons]
    simp only
    rw [if_pos hs, if_neg (by show ¬ isH kWHERE (5, kShut) = true; decide +kernel), if_pos (by show isH kShut (5, kShut) = true; decide +kernel)]
    rfl
  | [a], _ =>
    have e : ((kFROM :: f :: whereW (([a] : List Ex).map wordsP) ++ [kShut]).map tokF ++ r) = (1, kFROM) :: (x, f) :: (1, kWHERE) :: (tokE a ++ (5, kShut) :: r) := by
      simp [whereW, e1, hx, t_shut, show tokF kWHERE = (1, kWHERE) from t_kw (by simp), tokE]
    obtain ⟨p, hp, hp1, _⟩ := prec_nat a
    obtain ⟨HB, _⟩ := ih a (by simp) p hp
    have hcc := hc a (by simp)
    rw [e, pF, if_pos (by show isH kFROM (1, kFROM) = true; decide +kernel), List.tail_cons]
    simp only
    rw [if_pos hs, if_pos (by show isH kWHERE (1, kWHERE) = true; decide +kernel), List.tail_cons, HB 1 _ n (by decide) hp1 (by show contH (5, kShut) < 1; decide +kernel) (by omega)]
    simp only [Option.bind_some]
    rw [if_pos (by show isH kShut (5, kShut) = true; decide +kernel)]
    rfl

theorem base_sub {k : Int} {st : Bool} {f : ByteArray} {items whr : List Ex} : (∀ x ∈ items, baseX x + 64 ≤ baseX (opX k 0 false [] [.mk st items f whr])) ∧ (∀ x ∈ whr, baseX x + 64 ≤ baseX (opX k 0 false [] [.mk st items f whr])) := by
  have h := size_args (k := k) (o := 0) (no := false) (args := []) (sub := [.mk st items f whr])
  simp only [List.cons.sizeOf_spec, List.nil.sizeOf_spec, Qu.mk.sizeOf_spec] at h
  unfold baseX
  constructor
  · intro x hx
    have := List.sizeOf_lt_of_mem hx
    omega
  · intro x hx
    have := List.sizeOf_lt_of_mem hx
    omega

theorem reads_sub {k : Int} {f : ByteArray} {items whr : List Ex} (hk : ((k = 8 ∨ k = 9) ∧ items = []) ∨ ((k = 10 ∨ k = 11 ∨ k = 12) ∧ items.length = 1)) (hf : sourceB f = true) (hw : whr.length ≤ 1) (h1 : ∀ x ∈ items, Reads x) (h2 : ∀ x ∈ whr, Reads x) : Reads (opX k 0 false [] [.mk (k == 8) items f whr]) := by
  obtain ⟨b1, b2⟩ := base_sub (k := k) (st := k == 8) (f := f) (items := items) (whr := whr)
  have hbig := base_big (opX k 0 false [] [.mk (k == 8) items f whr])
  have hprec : precP k 0 = 8 := by unfold precP; rw [if_neg (by omega), if_neg (by omega), if_neg (by omega), if_neg (by omega)]
  have ht : tokE (opX k 0 false [] [.mk (k == 8) items f whr]) = (headW k (items.map wordsP)).map tokF ++ (kFROM :: f :: whereW (whr.map wordsP) ++ [kShut]).map tokF := by
    unfold tokE
    rw [words_sub (by omega), ← List.map_append]
    simp
  have hF := fun r g (hg : baseX (opX k 0 false [] [.mk (k == 8) items f whr]) ≤ g + 56) => from_reads (k := k) (items := items) hf hw h2 r g (baseX (opX k 0 false [] [.mk (k == 8) items f whr]) - 57) (fun x hx => by have := b2 x hx; omega) (by omega)
  generalize hE : opX k 0 false [] [.mk (k == 8) items f whr] = E at *
  generalize (kFROM :: f :: whereW (whr.map wordsP) ++ [kShut]).map tokF = R at *
  have hprec' : precP E.kind E.op = 8 := by rw [← hE]; exact hprec
  have eS : tokF kSELECT = (1, kSELECT) := t_kw (by simp)
  rcases hk with ⟨rfl | rfl, rfl⟩ | ⟨hk, hlen⟩
  · have hh : (headW 8 (([] : List Ex).map wordsP)).map tokF = [(1, kEXISTS), (5, kOpen), (1, kSELECT), (5, kStar)] := by
      unfold headW
      rw [if_pos rfl]
      simp [t_open, eS, show tokF kEXISTS = (1, kEXISTS) from t_kw (by simp), show tokF kStar = (5, kStar) from t_sym (by simp)]
    rw [hh] at ht
    refine reads_prim hprec' (fun r g hr hg => ?_) _ _ ht (by decide +kernel) (by decide +kernel) (by decide +kernel)
    obtain ⟨n, rfl⟩ : ∃ n, g = n + 1 := ⟨g - 1, by omega⟩
    rw [ht]
    show pP (n + 1) ((1, kEXISTS) :: ((5, kOpen) :: (1, kSELECT) :: (5, kStar) :: (R ++ r))) = _
    rw [pP, if_neg (by decide), if_neg (by decide), if_neg (by decide), if_neg (by decide +kernel), if_neg (by decide +kernel), if_neg (by decide +kernel), if_neg (by decide +kernel), if_pos (by decide +kernel), if_pos (by simp only [isWs, isW, List.tail_cons, Bool.and_true]; decide +kernel)]
    exact hF r n (by omega)
  · have hh : (headW 9 (([] : List Ex).map wordsP)).map tokF = [(5, kOpen), (1, kSELECT), (1, kCOUNT), (5, kOpen), (5, kStar), (5, kShut)] := by
      unfold headW
      rw [if_neg (by decide), if_pos rfl]
      simp [t_open, t_shut, eS, show tokF kCOUNT = (1, kCOUNT) from t_kw (by simp), show tokF kStar = (5, kStar) from t_sym (by simp)]
    rw [hh] at ht
    refine reads_prim hprec' (fun r g hr hg => ?_) _ _ ht (by decide +kernel) (by decide +kernel) (by decide +kernel)
    obtain ⟨n, rfl⟩ : ∃ n, g = n + 2 := ⟨g - 2, by omega⟩
    rw [ht]
    show pP (n + 2) ((5, kOpen) :: ((1, kSELECT) :: (1, kCOUNT) :: (5, kOpen) :: (5, kStar) :: (5, kShut) :: (R ++ r))) = _
    rw [pP, if_neg (by decide), if_neg (by decide), if_neg (by decide), if_neg (by decide +kernel), if_neg (by decide +kernel), if_neg (by decide +kernel), if_neg (by decide +kernel), if_neg (by decide +kernel), if_pos (by decide +kernel), if_pos (by show isH kSELECT (1, kSELECT) = true; decide +kernel), List.tail_cons, pA, if_pos (by show isH kCOUNT (1, kCOUNT) = true; decide +kernel), List.tail_cons, if_pos (by simp only [isWs, isW, List.tail_cons, Bool.and_true]; decide +kernel)]
    exact hF r n (by omega)
  · obtain ⟨a, rfl⟩ := List.length_eq_one_iff.1 hlen
    have ha : tokF (aggS k) = (1, aggS k) := by rcases hk with rfl | rfl | rfl <;> exact t_kw (by simp)
    have hh : (headW k ([a].map wordsP)).map tokF = (5, kOpen) :: (1, kSELECT) :: (1, aggS k) :: (5, kOpen) :: (tokE a ++ [(5, kShut)]) := by
      unfold headW
      rw [if_neg (by omega), if_neg (by omega)]
      simp [t_open, t_shut, eS, ha, tokE]
    rw [hh] at ht
    obtain ⟨p, hp, hp1, _⟩ := prec_nat a
    obtain ⟨HB, _⟩ := h1 a (by simp) p hp
    have hba := b1 a (by simp)
    refine reads_prim hprec' (fun r g hr hg => ?_) _ _ ht (by decide +kernel) (by decide +kernel) (by decide +kernel)
    obtain ⟨n, rfl⟩ : ∃ n, g = n + 2 := ⟨g - 2, by omega⟩
    have e2 : tokE E ++ r = (5, kOpen) :: ((1, kSELECT) :: (1, aggS k) :: (5, kOpen) :: (tokE a ++ (5, kShut) :: (R ++ r))) := by rw [ht]; simp
    have hagg : ∀ r : TL, isW kCOUNT ((1, aggS k) :: r) = false ∧ aggAt ((1, aggS k) :: r) = some k := by
      intro r
      unfold aggAt isW
      rcases hk with rfl | rfl | rfl
      · exact ⟨by simp only; decide +kernel, by simp only; rw [if_pos (by decide +kernel)]⟩
      · exact ⟨by simp only; decide +kernel, by simp only; rw [if_neg (by decide +kernel), if_pos (by decide +kernel)]⟩
      · exact ⟨by simp only; decide +kernel, by simp only; rw [if_neg (by decide +kernel), if_neg (by decide +kernel), if_pos (by decide +kernel)]⟩
    rw [e2, pP, if_neg (by decide), if_neg (by decide), if_neg (by decide), if_neg (by decide +kernel), if_neg (by decide +kernel), if_neg (by decide +kernel), if_neg (by decide +kernel), if_neg (by decide +kernel), if_pos (by decide +kernel), if_pos (by show isH kSELECT (1, kSELECT) = true; decide +kernel), List.tail_cons, pA, if_neg (by rw [(hagg _).1]; decide), (hagg _).2]
    simp only
    rw [if_pos (by show isH kOpen (5, kOpen) = true; decide +kernel)]
    show (pE n 1 (tokE a ++ (5, kShut) :: (R ++ r))).bind _ = _
    rw [HB 1 _ n (by decide) hp1 (by show contH (5, kShut) < 1; decide +kernel) (by omega)]
    simp only [Option.bind_some]
    rw [if_pos (by show isH kShut (5, kShut) = true; decide +kernel), List.tail_cons]
    exact hF r n (by omega)

theorem vx_reads {e : Ex} (h : VX e) : Reads e := by
  induction h with
  | lit v hv h0 => exact reads_lit hv h0
  | col t n h => exact reads_col h
  | ops k o no args hk _ ih =>
    rcases hk with ⟨rfl | rfl, rfl, rfl, hn⟩ | ⟨rfl, rfl, hn⟩ | ⟨rfl, ho1, ho2, rfl, hn⟩ | ⟨rfl, rfl, rfl, hn⟩
    · obtain ⟨a, rfl⟩ := List.length_eq_one_iff.1 hn
      exact reads_not (ih a (by simp))
    · obtain ⟨a, rfl⟩ := List.length_eq_one_iff.1 hn
      exact reads_neg (ih a (by simp))
    · obtain ⟨a, rfl⟩ := List.length_eq_one_iff.1 hn
      exact reads_null (ih a (by simp))
    · match args, hn with
      | [a, b], _ => exact reads_bin ho1 ho2 (ih a (by simp)) (ih b (by simp))
    · match args, hn with
      | [a, b, c], _ => exact reads_btw (ih a (by simp)) (ih b (by simp)) (ih c (by simp))
  | sub k f items whr hk hf hw _ _ ih1 ih2 => exact reads_sub hk hf hw ih1 ih2

/-- Different expressions have different words. -/
theorem words_inj {a b : Ex} (ha : VX a) (hb : VX b) (h : wordsP a = wordsP b) : a = b := by
  obtain ⟨p, hp, hp1, _⟩ := prec_nat a
  obtain ⟨q, hq, hq1, _⟩ := prec_nat b
  have h1 := (vx_reads ha p hp).1 1 [] (baseX a + baseX b + 7) (by decide) hp1 (by decide) (by omega)
  have h2 := (vx_reads hb q hq).1 1 [] (baseX a + baseX b + 7) (by decide) hq1 (by decide) (by omega)
  have e : tokE a = tokE b := by unfold tokE; rw [h]
  rw [e, h2] at h1
  cases h1
  rfl
/-- Different expressions have different texts. -/
theorem text_inj {a b : Ex} (ha : VX a) (hb : VX b) (h : textP a = textP b) : a = b := by
  refine words_inj ha hb ?_
  obtain ⟨l, h1, r1⟩ := toks_words (wordsP a) (words_tok ha)
  obtain ⟨l', h2, r2⟩ := toks_words (wordsP b) (words_tok hb)
  unfold textP at h
  rw [h, h2] at h1
  cases h1
  have m1 := trel_map r1
  rw [trel_map r2] at m1
  have hall : ∀ (x y : List ByteArray), (∀ w ∈ x, IsT w) → (∀ w ∈ y, IsT w) → x.map tokF = y.map tokF → x = y := by
    intro x
    induction x with
    | nil => intro y _ _ e; cases y with | nil => rfl | cons _ _ => cases e
    | cons w x ih =>
      intro y hx hy e
      cases y with
      | nil => cases e
      | cons w' y =>
        simp only [List.map_cons, List.cons.injEq] at e
        rw [tok_inj (hx w (by simp)) (hy w' (by simp)) e.1, ih y (fun v hv => hx v (by simp [hv])) (fun v hv => hy v (by simp [hv])) e.2]
  exact hall _ _ (words_tok ha) (words_tok hb) m1.symm
end Go.Proofs.YtppiaaolggpjdaaDoor
