/- Expressions that are made with a type have this type or that of NULL: the plain law, without any program. -/
import Derived.Test.YtiheioajnfggmaaDoorC19
namespace Go.Proofs.YtiheioajnfggmaaDoor

/-- Its type is the one that was asked for, or that of NULL. -/
def Made (ts : List Sch) (fs : List Frm) (want : Int) (e : Ex) : Prop := (typeP ts e fs).2 = 0 ∧ ((typeP ts e fs).1 = 0 ∨ (typeP ts e fs).1 = want)

def opX (k o : Int) (no : Bool) (args : List Ex) (sub : List Qu) : Ex := .mk k o no val0 es es args sub
def numX (n : Int) : Ex := if n < 0 then negX (litX ⟨1, -n, es⟩) else litX ⟨1, n, es⟩

theorem made_lit (ts : List Sch) (fs : List Frm) (want : Int) (v : Val) (h : v.kind = 0 ∨ v.kind = want) : Made ts fs want (litX v) := by
  unfold Made
  rw [typeP_eq]
  exact ⟨rfl, h⟩

theorem typeL_one (ts : List Sch) (fs : List Frm) (a : Ex) (h : (typeP ts a fs).2 = 0) : typeL ts [a] fs = .ok [(typeP ts a fs).1] := by simp [typeL, h]
theorem typeL_two (ts : List Sch) (fs : List Frm) (a b : Ex) (h : (typeP ts a fs).2 = 0) (h2 : (typeP ts b fs).2 = 0) : typeL ts [a, b] fs = .ok [(typeP ts a fs).1, (typeP ts b fs).1] := by simp [typeL, h, h2]
theorem typeL_three (ts : List Sch) (fs : List Frm) (a b c : Ex) (h : (typeP ts a fs).2 = 0) (h2 : (typeP ts b fs).2 = 0) (h3 : (typeP ts c fs).2 = 0) : typeL ts [a, b, c] fs = .ok [(typeP ts a fs).1, (typeP ts b fs).1, (typeP ts c fs).1] := by simp [typeL, h, h2, h3]

theorem fits_want {t want : Int} (h : t = 0 ∨ t = want) : fitsB t want = true := by
  rcases h with rfl | rfl <;> simp [fitsB]
theorem fits_same {t s want : Int} (h : t = 0 ∨ t = want) (h2 : s = 0 ∨ s = want) : fitsB t s = true := by
  rcases h with rfl | rfl <;> rcases h2 with rfl | rfl <;> simp [fitsB]

theorem made_neg {ts : List Sch} {fs : List Frm} {a : Ex} (h : Made ts fs 1 a) : Made ts fs 1 (negX a) := by
  unfold Made
  rw [typeP_eq]
  have hl := typeL_one ts fs a h.1
  simp [negX, formed, Ex.kind, Ex.args, Ex.sub, Ex.op, hl, operationP, allB, fits_want h.2]

theorem made_num (ts : List Sch) (fs : List Frm) (n : Int) : Made ts fs 1 (numX n) := by
  unfold numX
  split
  · exact made_neg (made_lit _ _ _ _ (.inr rfl))
  · exact made_lit _ _ _ _ (.inr rfl)

theorem made_not {ts : List Sch} {fs : List Frm} {a : Ex} (h : Made ts fs 2 a) : Made ts fs 2 (opX 3 0 false [a] []) := by
  unfold Made
  rw [typeP_eq]
  have hl := typeL_one ts fs a h.1
  simp [opX, formed, Ex.kind, Ex.args, Ex.sub, Ex.op, hl, operationP, allB, fits_want h.2]

theorem made_isnull {ts : List Sch} {fs : List Frm} {a : Ex} {want : Int} (no : Bool) (h : Made ts fs want a) : Made ts fs 2 (opX 6 0 no [a] []) := by
  unfold Made
  rw [typeP_eq]
  have hl := typeL_one ts fs a h.1
  simp [opX, formed, Ex.kind, Ex.args, Ex.sub, hl, operationP]

theorem made_arith {ts : List Sch} {fs : List Frm} {a b : Ex} (o : Int) (h1 : 9 ≤ o) (h2 : o ≤ 13) (ha : Made ts fs 1 a) (hb : Made ts fs 1 b) : Made ts fs 1 (binX o a b) := by
  unfold Made
  rw [typeP_eq]
  have hl := typeL_two ts fs a b ha.1 hb.1
  have h3 : 1 ≤ o := by omega
  have h4 : ¬ o ≤ 2 := by omega
  simp [binX, formed, Ex.kind, Ex.args, Ex.sub, Ex.op, hl, operationP, allB, fits_want ha.2, fits_want hb.2, h1, h2, h3, h4]

theorem made_logic {ts : List Sch} {fs : List Frm} {a b : Ex} (o : Int) (h1 : 1 ≤ o) (h2 : o ≤ 2) (ha : Made ts fs 2 a) (hb : Made ts fs 2 b) : Made ts fs 2 (binX o a b) := by
  unfold Made
  rw [typeP_eq]
  have hl := typeL_two ts fs a b ha.1 hb.1
  have h3 : o ≤ 13 := by omega
  simp [binX, formed, Ex.kind, Ex.args, Ex.sub, Ex.op, hl, operationP, allB, fits_want ha.2, fits_want hb.2, h1, h2, h3]

theorem pair_two {x y want : Int} (hx : x = 0 ∨ x = want) (hy : y = 0 ∨ y = want) : pairB [x, y] = true := by
  simp [pairB, List.range, List.range.loop, allB, fits_same hx hy]
theorem pair_three {x y z want : Int} (hx : x = 0 ∨ x = want) (hy : y = 0 ∨ y = want) (hz : z = 0 ∨ z = want) : pairB [x, y, z] = true := by
  simp [pairB, List.range, List.range.loop, allB, fits_same hx hy, fits_same hx hz, fits_same hy hz]

theorem made_compare {ts : List Sch} {fs : List Frm} {a b : Ex} {want : Int} (o : Int) (h1 : 3 ≤ o) (h2 : o ≤ 8) (ha : Made ts fs want a) (hb : Made ts fs want b) : Made ts fs 2 (binX o a b) := by
  unfold Made
  rw [typeP_eq]
  have hl := typeL_two ts fs a b ha.1 hb.1
  have h3 : 1 ≤ o := by omega
  have h4 : ¬ o ≤ 2 := by omega
  have h5 : ¬ 9 ≤ o := by omega
  have h6 : o ≤ 13 := by omega
  simp [binX, formed, Ex.kind, Ex.args, Ex.sub, Ex.op, hl, operationP, pair_two ha.2 hb.2, h3, h4, h5, h6]

theorem made_between {ts : List Sch} {fs : List Frm} {a b c : Ex} (ha : Made ts fs 1 a) (hb : Made ts fs 1 b) (hc : Made ts fs 1 c) : Made ts fs 2 (opX 7 0 false [a, b, c] []) := by
  unfold Made
  rw [typeP_eq]
  have hl := typeL_three ts fs a b c ha.1 hb.1 hc.1
  simp [opX, formed, Ex.kind, Ex.args, Ex.sub, Ex.op, hl, operationP, pair_three ha.2 hb.2 hc.2]

/-- The items of a query as its kind has them: none, or one that is a number. -/
def itemsOk (ts : List Sch) (fs : List Frm) (k : Int) (items : List Ex) : Prop := ((k = 8 ∨ k = 9) ∧ items = []) ∨ ((k = 10 ∨ k = 11 ∨ k = 12) ∧ ∃ x, items = [x] ∧ Made ts fs 1 x)
def whereOk (ts : List Sch) (fs : List Frm) (whr : List Ex) : Prop := whr = [] ∨ ∃ x, whr = [x] ∧ Made ts fs 2 x

theorem where_zero {ts : List Sch} {fs : List Frm} {whr : List Ex} (h : whereOk ts fs whr) : typeC ts whr fs = 0 ∧ whr.length ≤ 1 := by
  rcases h with rfl | ⟨x, rfl, hx⟩
  · exact ⟨by simp [typeC], by simp⟩
  · refine ⟨?_, by simp⟩
    rw [typeC]
    cases h : typeP ts x fs with
    | mk t c =>
      have h1 := hx.1
      have h2 := hx.2
      rw [h] at h1 h2
      simp only at h1 h2
      simp [condP, h1, fits_want h2]

theorem made_query {ts : List Sch} {fs : List Frm} (k : Int) (st : Bool) (items whr : List Ex) (s : Sch) (hs : sourceP ts s.name = some s) (hi : itemsOk ts (fs ++ [frmOf s]) k items) (hw : whereOk ts (fs ++ [frmOf s]) whr) :
    Made ts fs (if k = 8 then 2 else 1) (opX k 0 false [] [.mk st items s.name whr]) := by
  obtain ⟨hw1, hw2⟩ := where_zero hw
  unfold Made
  rw [typeP_eq]
  rcases hi with ⟨rfl | rfl, rfl⟩ | ⟨rfl | rfl | rfl, x, rfl, hx⟩
  · simp [opX, formed, Ex.kind, Ex.args, Ex.sub, typeSub, typeQ, hs, subOk, Qu.items, Qu.whr, hw2, typeL, hw1, aggP]
  · simp [opX, formed, Ex.kind, Ex.args, Ex.sub, typeSub, typeQ, hs, subOk, Qu.items, Qu.whr, hw2, typeL, hw1, aggP]
  all_goals
    have hl := typeL_one ts (fs ++ [frmOf s]) x hx.1
    have hf := fits_want hx.2
    simp [opX, formed, Ex.kind, Ex.args, Ex.sub, typeSub, typeQ, hs, subOk, Qu.items, Qu.whr, hw2, hl, hw1, aggP, hf]
    try exact hx.2

/-- Frames and tables that go by their names: what has the same name has the same columns, all different. -/
def Named (look : List UInt8 → List Col) (fs : List Frm) (ss : List Sch) : Prop :=
  (∀ f ∈ fs, f.cols = look f.name.toList ∧ f.name.toList ≠ []) ∧ (∀ s ∈ ss, s.cols = look s.name.toList ∧ s.name.toList ≠ []) ∧ (∀ (n : List UInt8) (i j : Nat) (a b : Col), (look n)[i]? = some a → (look n)[j]? = some b → a.name.toList = b.name.toList → i = j)

theorem Named.inside {look : List UInt8 → List Col} {fs : List Frm} {ss : List Sch} {s : Sch} (h : Named look fs ss) (hs : s ∈ ss) : Named look (fs ++ [frmOf s]) ss := by
  refine ⟨fun f hf => ?_, h.2⟩
  rcases List.mem_append.1 hf with hf | hf
  · exact h.1 f hf
  · simp at hf
    subst hf
    exact h.2.1 s hs

theorem Named.sub {look : List UInt8 → List Col} {fs fs' : List Frm} {ss ss' : List Sch} (h : Named look fs ss) (h1 : ∀ f ∈ fs', f ∈ fs) (h2 : ∀ s ∈ ss', s ∈ ss) : Named look fs' ss' :=
  ⟨fun f hf => h.1 f (h1 f hf), fun s hs => h.2.1 s (h2 s hs), h.2.2⟩

theorem find_named {l : List Col} (hn : ∀ (i j : Nat) (a b : Col), l[i]? = some a → l[j]? = some b → a.name.toList = b.name.toList → i = j) {i : Nat} {c : Col} (hi : l[i]? = some c) : findCol l c.name = some i :=
  findIdx_some hi (by simp [nameIs]) fun j y hj hy => by
    unfold nameIs
    cases h : (y.name.toList == c.name.toList) with
    | false => rfl
    | true => have := hn j i y c hy hi (by simpa using h); omega

theorem resolve_some_at {q n : ByteArray} : ∀ {fs : List Frm} {i j : Nat}, resolve q n fs = some (i, j) → ∃ f, fs[i]? = some f ∧ resolveAt q n f = some j
  | [], i, j, h => by simp [resolve] at h
  | f :: fs, i, j, h => by
    rw [resolve] at h
    cases hr : resolve q n fs with
    | some p =>
      obtain ⟨i', j'⟩ := p
      rw [hr] at h
      simp at h
      obtain ⟨rfl, rfl⟩ := h
      obtain ⟨g, hg, hk⟩ := resolve_some_at hr
      exact ⟨g, by simpa using hg, hk⟩
    | none =>
      rw [hr] at h
      cases hk : resolveAt q n f with
      | none => rw [hk] at h; simp at h
      | some k =>
        rw [hk] at h
        simp at h
        obtain ⟨rfl, rfl⟩ := h
        exact ⟨f, rfl, hk⟩

theorem resolve_none_at {q n : ByteArray} : ∀ {fs : List Frm}, resolve q n fs = none → ∀ f ∈ fs, resolveAt q n f = none
  | [], _, f, hf => by cases hf
  | g :: fs, h, f, hf => by
    rw [resolve] at h
    cases hr : resolve q n fs with
    | some p => rw [hr] at h; simp at h
    | none =>
      rw [hr] at h
      rcases List.mem_cons.1 hf with rfl | hf
      · cases hk : resolveAt q n f with
        | none => rfl
        | some k => rw [hk] at h; simp at h
      · exact resolve_none_at hr f hf

theorem colType_at {fs : List Frm} {i k : Nat} {f : Frm} {c : Col} (hf : fs[i]? = some f) (hc : f.cols[k]? = some c) : colType fs i k = c.type := by simp [colType, hf, hc]

theorem made_colX {ts : List Sch} {fs : List Frm} {q n : ByteArray} {i k : Nat} {want : Int} (hr : resolve q n fs = some (i, k)) (ht : colType fs i k = want) : Made ts fs want (colX q n) := by
  unfold Made
  rw [typeP_eq]
  simp [colX, formed, Ex.kind, Ex.args, Ex.sub, Ex.table, Ex.name, hr, ht]

theorem made_qual {look : List UInt8 → List Col} {ts : List Sch} {fs : List Frm} {ss : List Sch} {f : Frm} {c : Col} (h : Named look fs ss) (hf : f ∈ fs) (hc : c ∈ f.cols) : Made ts fs c.type (colX f.name c.name) := by
  obtain ⟨k, hk⟩ := List.mem_iff_getElem?.1 hc
  have hfn := h.1 f hf
  have hn := h.2.2 f.name.toList
  rw [← hfn.1] at hn
  have hff := find_named hn hk
  have hfit : fits' f.name f = true := by
    have : (f.name.toList == []) = false := by simp [hfn.2]
    simp [fits', this]
  cases hr : resolve f.name c.name fs with
  | none =>
    have := resolve_none_at hr f hf
    rw [resolveAt, if_pos hfit, hff] at this
    cases this
  | some p =>
    obtain ⟨i, j⟩ := p
    obtain ⟨g, hg, hk'⟩ := resolve_some_at hr
    have hgm := h.1 g (List.mem_of_getElem? hg)
    unfold resolveAt at hk'
    split at hk'
    · rename_i hfg
      have hname : g.name.toList = f.name.toList := by
        have : (f.name.toList == []) = false := by simp [hfn.2]
        simpa [fits', this] using hfg
      have hcols : g.cols = f.cols := by rw [hgm.1, hfn.1, hname]
      rw [hcols, hff] at hk'
      cases hk'
      exact made_colX hr (colType_at hg (by rw [hcols]; exact hk))
    · cases hk'

theorem made_bare {look : List UInt8 → List Col} {ts : List Sch} {fs : List Frm} {ss : List Sch} {f : Frm} {c : Col} (h : Named look (fs ++ [f]) ss) (hs : f.strict = false) (hc : c ∈ f.cols) : Made ts (fs ++ [f]) c.type (colX ⟨#[]⟩ c.name) := by
  obtain ⟨k, hk⟩ := List.mem_iff_getElem?.1 hc
  have hfn := h.1 f (by simp)
  have hn := h.2.2 f.name.toList
  rw [← hfn.1] at hn
  have hff := find_named hn hk
  have hr : resolve ⟨#[]⟩ c.name (fs ++ [f]) = some (fs.length, k) := by
    rw [resolve_snoc, resolveAt, if_pos (by simp [fits', hs]), hff]
  exact made_colX hr (colType_at (f := f) (by simp) hk)

end Go.Proofs.YtiheioajnfggmaaDoor
