/- The tokens of a text that words make. No program is named here. -/
import Derived.Test.YtppiaaolggpjdaaDoorQ0
import Derived.Test.YtppiaaolggpjdaaDoorT0b
import Derived.Lib.SplitLaws
import Derived.Lib.Replace
namespace Go.Proofs.YtppiaaolggpjdaaDoor
open Go.RowKit

/-- Quotes doubled. -/
def dblL (l : List UInt8) : List UInt8 := l.flatMap fun b => if b = 39 then [39, 39] else [b]
theorem dblL_cons (b : UInt8) (l : List UInt8) : dblL (b :: l) = (if b = 39 then [39, 39] else [b]) ++ dblL l := by simp [dblL]
theorem repK_dbl : ∀ s : List UInt8, Lib.replaceK [39] [39, 39] (Lib.count s [39]) s = dblL s
  | [] => by
    rw [Lib.count_one]
    rfl
  | b :: l => by
    have ih := repK_dbl l
    by_cases hb : b = 39
    · subst hb
      rw [Lib.count_cons_eq, Nat.add_comm, Lib.replaceK_hit [39] [39, 39] _ _ 0 (by simp [Lib.index]), dblL_cons, if_pos rfl, ← ih]
      rfl
    · rw [Lib.count_cons_ne _ _ _ hb, dblL_cons, if_neg hb, ← ih]
      have hix : Lib.index (b :: l) [39] = if Lib.index l [39] == -1 then -1 else Lib.index l [39] + 1 := by
        rw [Lib.index]
        rw [if_neg]
        simp [List.isPrefixOf]
        exact fun h => hb h.symm
      cases hk : Lib.count l [39] with
      | zero => rfl
      | succ k =>
        obtain ⟨i, hi⟩ := Lib.index_of_count (s := l) (old := [39]) (by omega)
        rw [Lib.replaceK_hit [39] [39, 39] k l i hi, Lib.replaceK_hit [39] [39, 39] k (b :: l) (i + 1) (by rw [hix, hi, if_neg (by simp)]; rfl)]
        simp [Nat.add_assoc]
theorem repAll_dbl (s : List UInt8) : Lib.replaceAll s [39] [39, 39] = dblL s := by
  unfold Lib.replaceAll Lib.replace Lib.replaceNum
  rw [if_neg (by decide), if_pos (.inl (by decide))]
  exact repK_dbl s

/-- What stands in quotes is read back. -/
theorem quotedL_dbl : ∀ (t : List UInt8) (i : Nat) (acc rest : List UInt8), (∀ c r, rest = c :: r → c ≠ 39) → quotedL (dblL t ++ 39 :: rest) i acc = some (acc ++ t, i + (dblL t).length + 1)
  | [], i, acc, rest, h => by
    show quotedL (39 :: rest) i acc = _
    cases rest with
    | nil => simp [quotedL, dblL]
    | cons c r =>
      have hc := h c r rfl
      have hn : ¬ c.toNat = 39 := fun e => hc (UInt8.toNat_inj.1 e)
      rw [quotedL, if_pos (by decide), if_neg hn]
      simp [dblL]
  | b :: t, i, acc, rest, h => by
    rw [dblL_cons]
    by_cases hb : b = 39
    · subst hb
      rw [if_pos rfl]
      show quotedL (39 :: 39 :: (dblL t ++ 39 :: rest)) i acc = _
      rw [quotedL, if_pos (by decide), if_pos (by decide), quotedL_dbl t _ _ _ h]
      simp
      omega
    · rw [if_neg hb]
      have hn : ¬ b.toNat = 39 := fun e => hb (UInt8.toNat_inj.1 e)
      have hx : ∃ d l, dblL t ++ 39 :: rest = d :: l := by
        cases dblL t with
        | nil => exact ⟨_, _, rfl⟩
        | cons x y => exact ⟨_, _, rfl⟩
      obtain ⟨d, l, hd⟩ := hx
      show quotedL (b :: (dblL t ++ 39 :: rest)) i acc = _
      rw [hd, quotedL, if_neg hn, ← hd, quotedL_dbl t _ _ _ h]
      simp
      omega

def symWords : List (List UInt8) := [[40], [41], [44], [46], [59], [42], [43], [45], [47], [37], [61], [60], [62], [60, 62], [60, 61], [62, 61]]
/-- A word is a token of this kind and text. -/
inductive TW : ByteArray → Int → ByteArray → Prop
  | run (w : ByteArray) (k : Int) (h0 : w.data.toList ≠ []) (ha : ∀ c ∈ w.data.toList, runC c = true) (hr : runP w = some (k, w)) : TW w k w
  | sym (w : ByteArray) (h : w.data.toList ∈ symWords) : TW w 5 w
  | txt (t : ByteArray) (h : plainB t = true) : TW (bs (39 :: (dblL t.data.toList ++ [39]))) 4 t

/-- What may follow a word directly. -/
def sepH (rest : List UInt8) : Prop := ∀ c r, rest = c :: r → c = 32 ∨ c = 44 ∨ c = 59 ∨ c = 46 ∨ c = 41
theorem sep_run {rest : List UInt8} (h : sepH rest) : rest.takeWhile runC = [] := by
  cases rest with
  | nil => rfl
  | cons c r =>
    have : runC c = false := by rcases h c r rfl with rfl | rfl | rfl | rfl | rfl <;> decide
    rw [List.takeWhile_cons, this]
    rfl

theorem head_of {u : ByteArray} {c : UInt8} {r : List UInt8} (h : u.data.toList = c :: r) : ∃ hz : 0 < u.size, u[0] = c := by
  have hl := congrArg List.length h
  simp only [List.length_cons, Array.length_toList] at hl
  have hz : 0 < u.size := by show 0 < u.data.size; omega
  refine ⟨hz, ?_⟩
  have h0 : u.data.toList[0]? = some c := by rw [h]; rfl
  simp at h0
  obtain ⟨_, h1⟩ := Array.getElem?_eq_some_iff.1 h0
  exact h1

theorem ext_take {u : ByteArray} {a b : List UInt8} (h : u.data.toList = a ++ b) : u.extract 0 a.length = ⟨a.toArray⟩ := by
  apply bytes_ext
  rw [Lib.extract_data, h]
  simp

/-- The symbol that begins a list of bytes. -/
def symLP : List UInt8 → Nat
  | [] => 0
  | [c] => if symL.contains c = true then 1 else 0
  | c :: d :: _ => if (c = 60 ∧ (d = 62 ∨ d = 61)) ∨ (c = 62 ∧ d = 61) then 2 else if symL.contains c = true then 1 else 0
theorem ext2_iff (u : ByteArray) (a b : UInt8) : (u.extract 0 2 = (⟨#[a, b]⟩ : ByteArray)) ↔ u.data.toList.take 2 = [a, b] := by
  constructor
  · intro h
    have := congrArg (fun x : ByteArray => x.data.toList) h
    rw [Lib.extract_data] at this
    simpa using this
  · intro h
    apply bytes_ext
    rw [Lib.extract_data]
    simpa using h
theorem symP_list (u : ByteArray) : symP u = symLP u.data.toList := by
  unfold symP
  have h1 : "<>".toUTF8 = ⟨#[60, 62]⟩ := by decide +kernel
  have h2 : "<=".toUTF8 = ⟨#[60, 61]⟩ := by decide +kernel
  have h3 : ">=".toUTF8 = ⟨#[62, 61]⟩ := by decide +kernel
  have hz : u.size = u.data.toList.length := by simp
  rw [h1, h2, h3, hz]
  simp only [ext2_iff]
  generalize u.data.toList = l
  match l with
  | [] => simp [symLP]
  | [c] => simp [symLP]
  | c :: d :: r =>
    simp only [symLP, List.take_succ_cons, List.take_zero, List.cons.injEq, and_true, List.length_cons, List.head?_cons, Option.any_some]
    have e : (2 ≤ r.length + 1 + 1 ∧ (c = 60 ∧ d = 62 ∨ c = 60 ∧ d = 61 ∨ c = 62 ∧ d = 61)) ↔ (c = 60 ∧ (d = 62 ∨ d = 61) ∨ c = 62 ∧ d = 61) := by
      constructor
      · rintro ⟨_, h | h | h⟩
        · exact .inl ⟨h.1, .inl h.2⟩
        · exact .inl ⟨h.1, .inr h.2⟩
        · exact .inr h
      · rintro (⟨h, h' | h'⟩ | h)
        · exact ⟨by omega, .inl ⟨h, h'⟩⟩
        · exact ⟨by omega, .inr (.inl ⟨h, h'⟩)⟩
        · exact ⟨by omega, .inr (.inr h)⟩
    simp only [e]
    rfl

theorem size_list (w : ByteArray) : w.size = w.data.toList.length := by simp

theorem next_tw {w t : ByteArray} {k : Int} {rest : List UInt8} {u : ByteArray} (hw : TW w k t) (hs : w = kOpen ∨ w = kDot ∨ sepH rest) (hu : u.data.toList = w.data.toList ++ rest) : nextP u = ((k, t), w.size, true) := by
  have hx := ext_take hu
  cases hw with
  | run _ _ h0 ha hr =>
    have hsep : sepH rest := by
      rcases hs with rfl | rfl | h
      · exact absurd (ha 40 (by simp [kOpen, bs])) (by decide)
      · exact absurd (ha 46 (by simp [kDot, bs])) (by decide)
      · exact h
    cases hw : w.data.toList with
    | nil => exact absurd hw h0
    | cons c l =>
      obtain ⟨hz, hc⟩ := head_of (u := u) (c := c) (r := l ++ rest) (by rw [hu, hw]; rfl)
      have hr0 : runC c = true := ha c (by rw [hw]; simp)
      have h39 : u[0].toNat ≠ 39 := by
        rw [hc]
        intro e
        rw [show c = 39 from UInt8.toNat_inj.1 e] at hr0
        exact absurd hr0 (by decide)
      have hn : runN u.data.toList = w.size := by
        unfold runN
        rw [hu, List.takeWhile_append_of_pos ha, sep_run hsep, List.append_nil, size_list]
      rw [nextP_run hz h39 (by rw [hc]; exact hr0) hn, size_list, hx]
      rw [show (⟨w.data.toList.toArray⟩ : ByteArray) = w from rfl, hr]
  | sym _ h =>
    have key : symLP u.data.toList = w.size ∧ ∃ c r, u.data.toList = c :: r ∧ c.toNat ≠ 39 ∧ runC c = false := by
      rw [hu, size_list]
      have hs' : (w.data.toList = [40] ∨ w.data.toList = [46]) ∨ sepH rest := by
        rcases hs with rfl | rfl | h
        · exact .inl (.inl rfl)
        · exact .inl (.inr rfl)
        · exact .inr h
      generalize w.data.toList = l at h hs'
      have hd : ∀ d r, rest = d :: r → sepH rest → d ≠ 62 ∧ d ≠ 61 := by
        intro d r e hsep
        rcases hsep d r e with rfl | rfl | rfl | rfl | rfl <;> decide
      simp only [symWords, List.mem_cons, List.not_mem_nil, or_false] at h
      rcases h with rfl | rfl | rfl | rfl | rfl | rfl | rfl | rfl | rfl | rfl | rfl | rfl | rfl | rfl | rfl | rfl
      all_goals
        refine ⟨?_, _, _, rfl, by decide, by decide⟩
        first
          | (cases rest with
             | nil => rfl
             | cons d r =>
               first
                 | rfl
                 | (have hsep : sepH (d :: r) := by
                      rcases hs' with (h | h) | h
                      · exact absurd h (by decide)
                      · exact absurd h (by decide)
                      · exact h
                    obtain ⟨h1, h2⟩ := hd d r rfl hsep
                    simp [symLP, h1, h2]
                    try decide))
    obtain ⟨h1, c, r, h2, h3, h4⟩ := key
    obtain ⟨hz, hc⟩ := head_of h2
    have hpos : 0 < w.size := by
      rw [size_list]
      simp only [symWords, List.mem_cons, List.not_mem_nil, or_false] at h
      rcases h with h | h | h | h | h | h | h | h | h | h | h | h | h | h | h | h <;> rw [h] <;> decide
    rw [nextP_sym hz (by rw [hc]; exact h3) (by rw [hc]; exact h4), symP_list, h1, size_list, hx]
    rw [← size_list]
    simp [hpos]
  | txt t h =>
    have hsep : sepH rest := by
      rcases hs with h | h | h
      · exact absurd (congrArg (fun x : ByteArray => x.data.toList.head?) h) (by simp [bs, kOpen])
      · exact absurd (congrArg (fun x : ByteArray => x.data.toList.head?) h) (by simp [bs, kDot])
      · exact h
    have hu' : u.data.toList = 39 :: (dblL t.data.toList ++ 39 :: rest) := by rw [hu]; simp [bs]
    obtain ⟨hz, hc⟩ := head_of hu'
    have hq : quotedQ u 1 [] = some (t.data.toList, 1 + (dblL t.data.toList).length + 1) := by
      unfold quotedQ
      rw [hu']
      show quotedL (dblL t.data.toList ++ 39 :: rest) 1 [] = _
      rw [quotedL_dbl _ _ _ _ (fun c r e => by rcases hsep c r e with rfl | rfl | rfl | rfl | rfl <;> decide), List.nil_append]
    rw [nextP_quote hz (by rw [hc]; decide), hq]
    simp only [show (⟨t.data.toList.toArray⟩ : ByteArray) = t from rfl, h]
    congr 2
    rw [size_list]
    simp [bs]
    omega
end Go.Proofs.YtppiaaolggpjdaaDoor
