/- Types of expressions: the contract of scope.Type, for every expression. -/
import Derived.Test.YtiheioajnfggmaaDoorC11
namespace Go.Proofs.YtiheioajnfggmaaDoor
open Go.RowKit

theorem resolveAt_some {q n : ByteArray} {f : Frm} {j : Nat} (h : resolveAt q n f = some j) : ∃ c, f.cols[j]? = some c := by
  unfold resolveAt at h
  split at h
  · unfold findCol at h
    rw [List.findIdx?_eq_some_iff_getElem] at h
    obtain ⟨hlt, _⟩ := h
    exact ⟨_, List.getElem?_eq_getElem hlt⟩
  · cases h

theorem resolve_spec {q n : ByteArray} : ∀ {fs : List Frm} {i j : Nat}, resolve q n fs = some (i, j) → ∃ f c, fs[i]? = some f ∧ f.cols[j]? = some c
  | [], i, j, h => by cases h
  | f :: fs, i, j, h => by
    rw [resolve] at h
    cases hr : resolve q n fs with
    | some p =>
      obtain ⟨i', k⟩ := p
      rw [hr] at h
      simp only [Option.some.injEq, Prod.mk.injEq] at h
      obtain ⟨rfl, rfl⟩ := h
      obtain ⟨g, c, h1, h2⟩ := resolve_spec hr
      exact ⟨g, c, by simpa using h1, h2⟩
    | none =>
      rw [hr] at h
      simp only [Option.map_eq_some_iff, Prod.mk.injEq] at h
      obtain ⟨k, hk, rfl, rfl⟩ := h
      obtain ⟨c, hc⟩ := resolveAt_some hk
      exact ⟨f, c, rfl, hc⟩

theorem formed_sub {e : Ex} (h : formed e = true) (hk : 8 ≤ e.kind) : (∃ q, e.sub = [q] ∧ q.whr.length ≤ 1 ∧ ((e.kind = 8 ∨ e.kind = 9) ∧ q.items = [] ∨ (e.kind = 10 ∨ e.kind = 11 ∨ e.kind = 12) ∧ ∃ x, q.items = [x])) := by
  unfold formed at h
  rw [if_neg (by omega), if_neg (by omega), if_neg (by omega), if_neg (by omega)] at h
  have sub1 : ∀ items, subOk items e.sub = true → ∃ q, e.sub = [q] ∧ q.items.length = items ∧ q.whr.length ≤ 1 := by
    intro items hs
    match hq : e.sub with
    | [] => rw [hq] at hs; cases hs
    | [q] =>
      rw [hq] at hs
      simp [subOk] at hs
      exact ⟨q, rfl, hs.1, hs.2⟩
    | _ :: _ :: _ => rw [hq] at hs; cases hs
  by_cases k8 : e.kind = 8 ∨ e.kind = 9
  · rw [if_pos k8] at h
    simp only [Bool.and_eq_true] at h
    obtain ⟨q, h1, h2, h3⟩ := sub1 0 h.2
    exact ⟨q, h1, h3, .inl ⟨k8, List.eq_nil_of_length_eq_zero h2⟩⟩
  · rw [if_neg k8] at h
    by_cases k10 : e.kind = 10 ∨ e.kind = 11 ∨ e.kind = 12
    · rw [if_pos k10] at h
      simp only [Bool.and_eq_true] at h
      obtain ⟨q, h1, h2, h3⟩ := sub1 1 h.2
      match hi : q.items, h2 with
      | [x], _ => exact ⟨q, h1, h3, .inr ⟨k10, x, hi⟩⟩
    · rw [if_neg k10] at h
      cases h

theorem aggregate_any (ts : List Sch) (hsm : ColsSmall ts) (e : Ex) (fs : List Frm) (cs : List Value) (vf vt : Value) (w : World) (he : EC NoM w e cs) (hf : FrmsR NoM w vf fs) (ht : TblsR NoM w vt ts) (hd : fs.length + dep e ≤ 1000000000)
    (hfm : formed e = true) (hk : 8 ≤ e.kind) (hq : ∀ q ∈ e.sub, (∀ x ∈ q.items, TypeOk ts x) ∧ (∀ x ∈ q.whr, TypeOk ts x)) :
    Calls Tryd.prog 69 #[.agg cs.toArray, vf, vt] w (RetII (typeSub ts e.kind e.sub fs) w) := by
  obtain ⟨q, hs, hwl, hcase⟩ := formed_sub hfm hk
  obtain ⟨va, vs, rfl, ha, hsr⟩ := (EC_iff ..).1 he
  obtain ⟨a, ac, rfl, _⟩ := ha.shape
  rw [hs] at hsr
  rcases hsr.open with ⟨_, h⟩ | ⟨sb, so, sc, rfl, _, hb, _, _, hx⟩
  · cases h
  obtain ⟨qs, hqc, _, hqs⟩ := hx 0 q rfl
  obtain ⟨vi, vw, rfl, hi, hw⟩ := (QC_iff ..).1 hqc
  obtain ⟨wa, wc, rfl, _⟩ := hw.shape
  rw [Nat.zero_mul, Nat.add_zero] at hqs
  obtain ⟨q0, q1, q2, q3⟩ := hqs.c4
  obtain ⟨hqi, hqw⟩ := hq q (by rw [hs]; exact List.mem_singleton.2 rfl)
  have hdq : dep e ≥ depQ q := by rw [dep_eq, hs]; exact Nat.le_trans (depS_mem (List.mem_singleton.2 rfl)) (Nat.le_max_right _ _)
  have hd1 : max (depL q.items) (depL q.whr) + 1 ≤ dep e := by rw [depQ_eq] at hdq; exact hdq
  have hts : typeSub ts e.kind e.sub fs = typeQ ts e.kind q fs := by rw [hs, typeSub]
  have htq : typeQ ts e.kind q fs = match sourceP ts q.frm with
    | none => (0, 3)
    | some s => match typeL ts q.items (fs ++ [frmOf s]) with
      | .error c => (0, c)
      | .ok l => if typeC ts q.whr (fs ++ [frmOf s]) ≠ 0 then (0, typeC ts q.whr (fs ++ [frmOf s])) else aggP e.kind (l.getLastD 0) := by
    rw [Qu.eta q, typeQ]
    rfl
  rw [hts, htq, sourceP_eq]
  cases hfd : findTbl ts q.frm with
  | none =>
    obtain ⟨ia, ic, rfl, _⟩ := hi.shape
    exact agg_none ts e.kind e.op e.no e.val.kind e.val.int e.val.text e.table e.name a e.args.length ac sc sb so q.star q.frm ia wa ic wc q.items q.whr vf vt w hb q0 q1 q2 q3 ht hfd
  | some i =>
    have hlt : i < ts.length := by
      unfold findTbl at hfd
      rw [List.findIdx?_eq_some_iff_getElem] at hfd
      exact hfd.1
    have hsi : ts[i]? = some ts[i] := List.getElem?_eq_getElem hlt
    generalize ts[i] = s at hsi
    simp only [hsi]
    rcases hcase with ⟨hk', hit⟩ | ⟨hk', x, hit⟩
    · obtain ⟨ia, ic, rfl, _⟩ := hi.shape
      have := agg_zero ts e.kind e.op e.no e.val.kind e.val.int e.val.text e.table e.name a e.args.length ac sc sb so q.star q.frm ia wa ic wc q.items q.whr fs vf vt w hb q0 q1 q2 q3 ht hsm hf (by omega) i s hfd hsi (by rw [hit]; rfl) hk' hw hqw (by omega)
      rw [hit, typeL]
      exact this
    · rw [hit] at hi hqi hd1
      rcases hi.open with ⟨_, h⟩ | ⟨ib, io, ic, rfl, _, hib, _, _, hxi⟩
      · cases h
      obtain ⟨xs, hxc, _, hxs⟩ := hxi 0 x rfl
      rw [Nat.zero_mul, Nat.add_zero] at hxs
      have hdx : depL [x] = dep x := by rw [depL, depL]; omega
      rw [hdx] at hd1
      have := agg_one ts e.kind e.op e.no e.val.kind e.val.int e.val.text e.table e.name a e.args.length ac sc sb so q.star q.frm ib io wa ic wc x q.whr fs vf vt w hb q0 q1 q2 q3 ht hsm hf (by omega) i s hfd hsi hk' xs hib hxs hxc (hqi x (List.mem_singleton.2 rfl)) (by omega) hw hqw (by omega)
      rw [hit, typeL, typeL]
      by_cases hc : (typeP ts x (fs ++ [frmOf s])).2 ≠ 0
      · rw [if_pos hc] at this ⊢
        exact this
      · rw [if_neg hc] at this ⊢
        exact this

end Go.Proofs.YtiheioajnfggmaaDoor
