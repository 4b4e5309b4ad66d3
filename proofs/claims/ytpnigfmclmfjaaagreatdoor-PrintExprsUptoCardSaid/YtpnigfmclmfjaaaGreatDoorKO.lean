/- Arguments that are slices of structs, as rows in memory; and what the form's own reach says of them. No program is named here. Raw arguments of this program's types: columns, frames, tables, values. -/
import Derived.Test.YtpnigfmclmfjaaaGreatDoorKB
import Derived.Test.YtpnigfmclmfjaaaGreatDoorKC3
import Derived.Deep.Fields
import Derived.SizedLaws
import Derived.ChangeShapes
import Derived.OpenShut
namespace Go.Proofs.YtpnigfmclmfjaaaGreatDoor
open Go.RowKit

section
variable {H : Type} {enc : TypeId × Value → H} {P : Program} {W : World} {t e : TypeId} {size : Nat} {v : Value} {d : DataW H}

/-- The cells read as this datum. -/
def Rd (enc : TypeId × Value → H) (P : Program) (W : World) (t : TypeId) (cs : List Value) (d : DataW H) : Prop := ∃ fuel ps, DataW.trod enc P W 0 (fun _ => true) true fuel t cs = some (d, ps)

theorem cells_plain {a : Addr} {n : Nat} {cs : List Value} (h : W.cells? 0 a n = some cs) (hn : 0 < n) : ∃ b o, a = ⟨b, o, none⟩ ∧ b < W.heap.size := by
  obtain ⟨_, hl, hc⟩ := World.cells?_some h
  have h0 := hc 0 hn
  have hv : cs[0]? = some cs[0] := List.getElem?_eq_getElem (by omega)
  rw [hv] at h0
  have ha : a.add 0 = a := by simp [Addr.add]
  rw [ha] at h0
  obtain ⟨b, o, sp⟩ := a
  have hs : sp = none := World.cell?_spot h0
  subst hs
  exact ⟨b, o, rfl, World.block_lt_of_cell? _ _ h0⟩

theorem rd_slice (ht : P.underlying t = some (.slice e)) (hsz : P.cellsOf e = size) (hpos : 0 < size) (h : Rd enc P W t [v] d) :
    ∃ (css : List (List Value)) (ds : List (DataW H)), SliceOf (fun _ => False) W size v css ∧ ds.length = css.length ∧ ((d = .nil ∧ css = []) ∨ ∃ sp, d = .slice ds sp) ∧
      ∀ (i : Nat) (cs : List Value) (y : DataW H), css[i]? = some cs → ds[i]? = some y → Rd enc P W e cs y := by
  obtain ⟨fuel, ps, h⟩ := h
  rcases DataW.trod_slice ht h with ⟨hcs, hx⟩ | ⟨a, len, cap, elems, rest, n, hf, hcs, hx, hb, hl, hm, hlen, hel, hsp, _⟩
  · simp only [List.cons.injEq, and_true] at hcs
    simp only [Prod.mk.injEq] at hx
    exact ⟨[], [], .inl ⟨⟨none, hcs⟩, rfl⟩, rfl, .inl ⟨hx.1, rfl⟩, by simp⟩
  · simp only [List.cons.injEq, and_true] at hcs
    simp only [Prod.mk.injEq] at hx
    rw [hsz] at hel hsp
    obtain ⟨hrl, hr⟩ := hsp rfl
    have hv := hcs
    by_cases hc0 : cap = 0
    · obtain rfl : len = 0 := by omega
      subst hc0
      have he : elems = [] := List.eq_nil_of_length_eq_zero hlen
      subst he
      exact ⟨[], [], .inl ⟨⟨some a, hv⟩, rfl⟩, rfl, .inr ⟨_, hx.1⟩, by simp⟩
    · have each : ∀ i, i < len → ∃ cs y, W.cells? 0 (a.add (i * size)) size = some cs ∧ DataW.trod enc P W 0 (fun _ => true) true n e cs = some y ∧ elems[i]? = some y := by
        intro i hi
        have h1 := hel i hi
        have h2 : elems[i]? = some elems[i] := List.getElem?_eq_getElem (by omega)
        rw [h2] at h1
        obtain ⟨cs, h3, h4⟩ := Option.bind_eq_some_iff.1 h1
        exact ⟨cs, _, h3, h4, h2⟩
      have hz : ∃ cs, W.cells? 0 a size = some cs := by
        have ha : a.add (0 * size) = a := by simp [Addr.add]
        by_cases hl0 : 0 < len
        · obtain ⟨cs, _, h1, _⟩ := each 0 hl0
          rw [ha] at h1
          exact ⟨cs, h1⟩
        · obtain rfl : len = 0 := by omega
          have h1 := hr 0 (by omega)
          have h2 : rest[0]? = some rest[0] := List.getElem?_eq_getElem (by omega)
          rw [h2] at h1
          obtain ⟨cs, h3, _⟩ := Option.bind_eq_some_iff.1 h1
          rw [show (0 + 0) * size = 0 * size by simp, ha] at h3
          exact ⟨cs, h3⟩
      obtain ⟨cs0, hz⟩ := hz
      obtain ⟨b, o, rfl, hbl⟩ := cells_plain hz hpos
      have hget : ∀ i cs, ((List.range len).map fun i => (W.cells? 0 ((⟨b, o, none⟩ : Addr).add (i * size)) size).getD [])[i]? = some cs → i < len ∧ W.cells? 0 ((⟨b, o, none⟩ : Addr).add (i * size)) size = some cs := by
        intro i cs hi
        rw [List.getElem?_map] at hi
        by_cases hlt : i < len
        · rw [List.getElem?_range hlt] at hi
          obtain ⟨cs', y, h1, _⟩ := each i hlt
          simp only [h1, Option.map_some, Option.getD_some, Option.some.injEq] at hi
          exact ⟨hlt, by rw [h1, hi]⟩
        · rw [List.getElem?_eq_none (by simpa using hlt)] at hi
          cases hi
      refine ⟨(List.range len).map fun i => (W.cells? 0 ((⟨b, o, none⟩ : Addr).add (i * size)) size).getD [], elems.map (·.1), .inr ⟨b, o, cap, by simpa using hv, id, hbl, by simpa using hl, hm, fun i cs hi => ?_⟩, by simp [hlen], .inr ⟨_, hx.1⟩, fun i cs y hi hy => ?_⟩
      · obtain ⟨hlt, hc⟩ := hget i cs hi
        obtain ⟨_, hcl, hat⟩ := World.cells?_some hc
        refine ⟨hcl, fun j u hu => ?_⟩
        have h1 := hat j (by rw [← hcl]; exact (List.getElem?_eq_some_iff.1 hu).1)
        rw [hu, Addr.add_lit, Addr.add_lit] at h1
        exact h1
      · obtain ⟨hlt, hc⟩ := hget i cs hi
        obtain ⟨cs', y', h1, h2, h3⟩ := each i hlt
        rw [hc] at h1
        cases h1
        rw [List.getElem?_map, h3] at hy
        cases hy
        exact ⟨n, y'.2, h2⟩

theorem rd_struct {fs : Array Field} {cs : List Value} (ht : P.underlying t = some (.struct fs)) (h : Rd enc P W t cs d) :
    ∃ ds, d = .agg ds ∧ cs.length = P.cellsOf t ∧ ds.length = fs.size ∧ ∀ (i : Nat) (f : Field), fs[i]? = some f → ∃ y, ds[i]? = some y ∧ Rd enc P W f.type ((cs.drop f.offset).take (P.cellsOf f.type)) y := by
  obtain ⟨fuel, ps, h⟩ := h
  obtain ⟨xs, n, hn, hx, hl, hxl, hf⟩ := DataW.trod_struct ht h
  simp only [Prod.mk.injEq] at hx
  refine ⟨xs.map (·.1), hx.1, hl, by simpa using hxl, fun i f hi => ?_⟩
  have h1 := hf i f hi
  have h2 : xs[i]? = some (xs[i]'(by rw [hxl]; exact (Array.getElem?_eq_some_iff.1 hi).1)) := List.getElem?_eq_getElem _
  rw [h2] at h1
  exact ⟨_, by rw [List.getElem?_map, h2]; rfl, n, _, h1⟩

theorem rd_string {cs : List Value} (ht : P.underlying t = some .string) (h : Rd enc P W t cs d) : ∃ s : ByteArray, cs = [.string s] ∧ s.size ≤ maxLen := by
  obtain ⟨fuel, ps, h⟩ := h
  obtain ⟨s, h1, _, h2⟩ := DataW.trod_string ht h
  exact ⟨s, h1, h2⟩
theorem rd_int {cs : List Value} {k : IntKind} (ht : P.underlying t = some (.int k)) (h : Rd enc P W t cs d) : ∃ n : Int, cs = [.int k n] ∧ (Lit.int k n).wf = true := by
  obtain ⟨fuel, ps, h⟩ := h
  obtain ⟨n, h1, _, h2⟩ := DataW.trod_int ht h
  exact ⟨n, h1, h2⟩
/-- A list of numbers. -/
theorem rd_ints {a : Option Addr} {len cap : Nat} (ht : P.underlying t = some (.slice e)) (he : P.underlying e = some (.int .i64)) (hc : P.cellsOf e = 1) (h : Rd enc P W t [.slice a len cap] d) :
    len ≤ maxLen ∧ len ≤ cap ∧ (len = 0 ∨ ∃ b o, a = some ⟨b, o, none⟩ ∧ b < W.heap.size ∧ ∀ i, i < len → ∃ z : Int, W.cell? ⟨b, o + i, none⟩ = some (.int .i64 z)) := by
  obtain ⟨fuel, ps, h⟩ := h
  rcases Go.ChangeShapes.open_ints ht he hc h with ⟨hcs, _⟩ | ⟨a', len', cap', zs, hcs, _, hl, hm, hz, _, hcell, _⟩
  · simp only [List.cons.injEq, Value.slice.injEq, and_true] at hcs
    obtain ⟨rfl, rfl, rfl⟩ := hcs
    exact ⟨Nat.zero_le _, Nat.le_refl _, .inl rfl⟩
  · simp only [List.cons.injEq, Value.slice.injEq, and_true] at hcs
    obtain ⟨rfl, rfl, rfl⟩ := hcs
    simp only [if_true] at hz
    by_cases h0 : len = 0
    · exact ⟨by omega, hl, .inl h0⟩
    · obtain ⟨b, off, rfl, hb⟩ := ints_at hcell (by omega)
      exact ⟨by omega, hl, .inr ⟨b, off, rfl, World.block_lt_of_cell? _ _ (hb 0 (by omega)), fun i hi => ⟨_, hb i (by omega)⟩⟩⟩
theorem rd_bool {cs : List Value} (ht : P.underlying t = some .bool) (h : Rd enc P W t cs d) : ∃ b : Bool, cs = [.bool b] := by
  obtain ⟨fuel, ps, h⟩ := h
  obtain ⟨b, h1, _⟩ := DataW.trod_bool ht h
  exact ⟨b, h1⟩
theorem rd_slice_v {cs : List Value} (ht : P.underlying t = some (.slice e)) (h : Rd enc P W t cs d) : ∃ a n c, cs = [.slice a n c] := by
  obtain ⟨fuel, ps, h⟩ := h
  rcases DataW.trod_slice ht h with ⟨hcs, _⟩ | ⟨a, len, cap, _, _, _, _, hcs, _⟩
  · exact ⟨_, _, _, hcs⟩
  · exact ⟨_, _, _, hcs⟩

/-- Things for rows. -/
theorem rows_of {α : Type} {M : Nat → Prop} {R : α → List Value → Prop} {Q : α → Prop} {css : List (List Value)} (hs : SliceOf M W size v css) (h : ∀ cs ∈ css, ∃ x, R x cs ∧ Q x) :
    ∃ xs, RowsR M W size R v xs ∧ xs.length = css.length ∧ ∀ x ∈ xs, Q x := by
  have : ∃ xs : List α, xs.length = css.length ∧ (∀ (i : Nat) (x : α) (cs : List Value), xs[i]? = some x → css[i]? = some cs → R x cs) ∧ ∀ x ∈ xs, Q x := by
    clear hs
    induction css with
    | nil => exact ⟨[], rfl, by simp, by simp⟩
    | cons c css ih =>
      obtain ⟨xs, h1, h2, h3⟩ := ih fun cs hc => h cs (List.mem_cons_of_mem _ hc)
      obtain ⟨x, hx, hq⟩ := h c (List.mem_cons_self ..)
      refine ⟨x :: xs, by simp [h1], fun i y cs hi hc => ?_, fun y hy => ?_⟩
      · cases i with
        | zero => simp at hi hc; subst hi; subst hc; exact hx
        | succ i => exact h2 i y cs (by simpa using hi) (by simpa using hc)
      · rcases List.mem_cons.1 hy with rfl | hy
        · exact hq
        · exact h3 y hy
  obtain ⟨xs, h1, h2, h3⟩ := this
  exact ⟨xs, ⟨css, hs, h1.symm, h2⟩, h1, h3⟩

/-- The form's own reach, of one datum. -/
def Fit (P : Program) (t : TypeId) (d : DataW H) : Prop := ∀ n ∈ d.weights P t, n ≤ reachBytes

theorem fit_arg {ts : List TypeId} {ds : List (DataW H)} (h : (DataW.weightsEach P ts ds).all (· ≤ reachBytes) = true) {j : Nat} (ht : ts[j]? = some t) (hd : ds[j]? = some d) : Fit P t d :=
  fun n hn => of_decide_eq_true (List.all_eq_true.1 h n (DataW.weights_mem_each ht hd n hn))

theorem weightsAll_in : ∀ {l : List (DataW H)} {d : DataW H}, d ∈ l → ∀ n ∈ d.weights P e, n ∈ DataW.weightsAll P e l
  | x :: l, d, hd, n, hn => by
    simp only [DataW.weightsAll, List.mem_append]
    rcases List.mem_cons.1 hd with rfl | hd
    · exact .inl hn
    · exact .inr (weightsAll_in hd n hn)

theorem fit_slice {es sp : List (DataW H)} (ht : P.underlying t = some (.slice e)) (h : Fit P t (.slice es sp)) : es.length * P.bytesOf e ≤ reachBytes ∧ ∀ d ∈ es, Fit P e d := by
  unfold Fit at h
  simp only [DataW.weights, ht, List.mem_cons, List.mem_append] at h
  refine ⟨Nat.le_trans (Nat.mul_le_mul_right _ (Nat.le_add_right ..)) (h _ (.inl rfl)), fun d hd n hn => h n (.inr (.inl (weightsAll_in hd n hn)))⟩

theorem fit_struct {fs : Array Field} {ds : List (DataW H)} (ht : P.underlying t = some (.struct fs)) (h : Fit P t (.agg ds)) {i : Nat} {f : Field} (hf : fs[i]? = some f) (hd : ds[i]? = some d) : Fit P f.type d := by
  unfold Fit at h ⊢
  simp only [DataW.weights, ht] at h
  exact fun n hn => h n (DataW.weights_mem_each (by rw [List.getElem?_map]; simp [hf]) hd n hn)

/-- A slice's rows, each with its reading and its share of the reach. -/
theorem rd_rows (ht : P.underlying t = some (.slice e)) (hsz : P.cellsOf e = size) (hpos : 0 < size) (h : Rd enc P W t [v] d) :
    ∃ (css : List (List Value)), SliceOf (fun _ => False) W size v css ∧ (∀ cs ∈ css, ∃ y, Rd enc P W e cs y ∧ (Fit P t d → Fit P e y)) ∧ (Fit P t d → css.length * P.bytesOf e ≤ reachBytes) := by
  obtain ⟨css, ds, hs, hl, hd, hr⟩ := rd_slice ht hsz hpos h
  refine ⟨css, hs, fun cs hc => ?_, fun hf => ?_⟩
  · obtain ⟨i, hi⟩ := List.mem_iff_getElem?.1 hc
    have hlt : i < ds.length := by rw [hl]; exact (List.getElem?_eq_some_iff.1 hi).1
    have hy : ds[i]? = some ds[i] := List.getElem?_eq_getElem hlt
    refine ⟨ds[i], hr i cs _ hi hy, fun hf => ?_⟩
    rcases hd with ⟨_, rfl⟩ | ⟨sp, rfl⟩
    · simp at hi
    · exact (fit_slice ht hf).2 _ (List.getElem_mem hlt)
  · rcases hd with ⟨_, rfl⟩ | ⟨sp, rfl⟩
    · simp
    · rw [← hl]; exact (fit_slice ht hf).1

theorem rd_fields {fs : Array Field} {cs : List Value} (ht : P.underlying t = some (.struct fs)) (h : Rd enc P W t cs d) :
    cs.length = P.cellsOf t ∧ ∀ (i : Nat) (f : Field), fs[i]? = some f → ∃ y, Rd enc P W f.type ((cs.drop f.offset).take (P.cellsOf f.type)) y ∧ (Fit P t d → Fit P f.type y) := by
  obtain ⟨ds, rfl, hl, _, hf⟩ := rd_struct ht h
  refine ⟨hl, fun i f hi => ?_⟩
  obtain ⟨y, hy, hr⟩ := hf i f hi
  exact ⟨y, hr, fun hfit => fit_struct ht hfit hi hy⟩

theorem rd_cast {cs cs' : List Value} (h : Rd enc P W t cs d) (hc : cs = cs') : Rd enc P W t cs' d := hc ▸ h

/-- The arguments one by one. -/
theorem trod_all {ts : List TypeId} {vs : List Value} {ds : List (DataW H)} {ps : List MemPlace} (h : DataW.TrodAll enc P W 0 (fun _ => true) true ts vs ds ps) :
    vs.length = ts.length ∧ ds.length = ts.length ∧ ∀ (i : Nat) (t : TypeId) (v : Value) (d : DataW H), ts[i]? = some t → vs[i]? = some v → ds[i]? = some d → Rd enc P W t v.cells.toList d := by
  induction ts generalizing vs ds ps with
  | nil =>
    obtain ⟨rfl, rfl, _⟩ := Go.ChangeShapes.trodAll_nil h
    exact ⟨rfl, rfl, by simp⟩
  | cons t ts ih =>
    obtain ⟨v, vs', d, ds', p, q, rfl, rfl, _, h1, h2⟩ := Go.ChangeShapes.trodAll_cons h
    obtain ⟨l1, l2, hr⟩ := ih h2
    refine ⟨by simp [l1], by simp [l2], fun i t' v' d' ht hv hd => ?_⟩
    cases i with
    | zero =>
      simp at ht hv hd
      subst ht; subst hv; subst hd
      obtain ⟨n, hn⟩ := h1
      exact ⟨n, _, hn⟩
    | succ i => exact hr i t' v' d' (by simpa using ht) (by simpa using hv) (by simpa using hd)

/-- An argument's reading. -/
theorem rd_trod {ps : List MemPlace} (h : DataW.Trod enc P W 0 (fun _ => true) true t v d ps) : Rd enc P W t v.cells.toList d := let ⟨n, hn⟩ := h; ⟨n, _, hn⟩
end

end Go.Proofs.YtpnigfmclmfjaaaGreatDoor

namespace Go.Proofs.YtpnigfmclmfjaaaGreatDoor
open Go.RowKit

theorem kStr : Tryz.prog.cellsOf 9 = 1 := by kernel_rfl
theorem kInt : Tryz.prog.cellsOf 3 = 1 := by kernel_rfl
theorem kI64 : Tryz.prog.cellsOf 2 = 1 := by kernel_rfl
theorem kBool : Tryz.prog.cellsOf 4 = 1 := by kernel_rfl
theorem kCols : Tryz.prog.cellsOf 22 = 1 := by kernel_rfl
theorem kVals : Tryz.prog.cellsOf 199 = 1 := by kernel_rfl
theorem kRows : Tryz.prog.cellsOf 262 = 1 := by kernel_rfl
theorem kCol : Tryz.prog.cellsOf 186 = 4 := by kernel_rfl
theorem kFrm : Tryz.prog.cellsOf 201 = 4 := by kernel_rfl
theorem kSch : Tryz.prog.cellsOf 24 = 2 := by kernel_rfl
theorem kTbl : Tryz.prog.cellsOf 267 = 4 := by kernel_rfl
theorem kVal : Tryz.prog.cellsOf 55 = 3 := by kernel_rfl
theorem yCol : Tryz.prog.bytesOf 186 = 32 := by kernel_rfl
theorem yVal : Tryz.prog.bytesOf 55 = 32 := by kernel_rfl

theorem list3 {α : Type} {l : List α} (h : l.length = 3) : ∃ a b c, l = [a, b, c] := by
  match l, h with
  | [a, b, c], _ => exact ⟨a, b, c, rfl⟩
theorem list4 {α : Type} {l : List α} (h : l.length = 4) : ∃ a b c d, l = [a, b, c, d] := by
  match l, h with
  | [a, b, c, d], _ => exact ⟨a, b, c, d, rfl⟩

section
variable {H : Type} {enc : TypeId × Value → H} {W : World} {d : DataW H} {cs : List Value} {v : Value}

theorem rd_col (h : Rd enc Tryz.prog W 186 cs d) : ∃ c : Col, ColR c cs := by
  obtain ⟨hl, hf⟩ := rd_fields Tryz.underlying186 h
  rw [kCol] at hl
  obtain ⟨c0, c1, c2, c3, rfl⟩ := list4 hl
  obtain ⟨y0, h0, _⟩ := hf 0 _ rfl
  obtain ⟨y1, h1, _⟩ := hf 1 _ rfl
  obtain ⟨y2, h2, _⟩ := hf 2 _ rfl
  obtain ⟨y3, h3, _⟩ := hf 3 _ rfl
  obtain ⟨s, e0, _⟩ := rd_string Tryz.underlying9 (rd_cast h0 (cs' := [c0]) (by simp [kStr]))
  obtain ⟨n, e1, _⟩ := rd_int Tryz.underlying3 (rd_cast h1 (cs' := [c1]) (by simp [kInt]))
  obtain ⟨b, e2⟩ := rd_bool Tryz.underlying4 (rd_cast h2 (cs' := [c2]) (by simp [kBool]))
  obtain ⟨k, e3⟩ := rd_bool Tryz.underlying4 (rd_cast h3 (cs' := [c3]) (by simp [kBool]))
  cases e0; cases e1; cases e2; cases e3
  exact ⟨⟨s, n, b, k⟩, rfl⟩

theorem rd_cols (h : Rd enc Tryz.prog W 22 [v] d) : ∃ l, ColsR NoM W v l ∧ (Fit Tryz.prog 22 d → l.length * 32 ≤ reachBytes) := by
  obtain ⟨css, hs, hr, hf⟩ := rd_rows Tryz.underlying22 kCol (by decide) h
  obtain ⟨l, hR, hl, _⟩ := rows_of (M := NoM) (R := ColR) (Q := fun _ => True) hs fun cs hc => by
    obtain ⟨y, hy, _⟩ := hr cs hc
    obtain ⟨c, hc⟩ := rd_col hy
    exact ⟨c, hc, trivial⟩
  exact ⟨l, hR, fun k => by rw [hl, ← yCol]; exact hf k⟩

theorem rd_frm (h : Rd enc Tryz.prog W 201 cs d) : ∃ f : Frm, FrmR NoM W f cs := by
  obtain ⟨hl, hf⟩ := rd_fields Tryz.underlying201 h
  rw [kFrm] at hl
  obtain ⟨c0, c1, c2, c3, rfl⟩ := list4 hl
  obtain ⟨y0, h0, _⟩ := hf 0 _ rfl
  obtain ⟨y1, h1, _⟩ := hf 1 _ rfl
  obtain ⟨y2, h2, _⟩ := hf 2 _ rfl
  obtain ⟨y3, h3, _⟩ := hf 3 _ rfl
  obtain ⟨s, e0, _⟩ := rd_string Tryz.underlying9 (rd_cast h0 (cs' := [c0]) (by simp [kStr]))
  obtain ⟨b, e1⟩ := rd_bool Tryz.underlying4 (rd_cast h1 (cs' := [c1]) (by simp [kBool]))
  obtain ⟨l, hR, _⟩ := rd_cols (rd_cast h2 (cs' := [c2]) (by simp [kCols]))
  obtain ⟨a, n, c, e3⟩ := rd_slice_v Tryz.underlying199 (rd_cast h3 (cs' := [c3]) (by simp [kVals]))
  cases e0; cases e1; cases e3
  exact ⟨⟨s, b, l⟩, _, _, _, _, rfl, hR⟩

theorem rd_frms (h : Rd enc Tryz.prog W 61 [v] d) : ∃ l, FrmsR NoM W v l := by
  obtain ⟨css, hs, hr, _⟩ := rd_rows Tryz.underlying61 kFrm (by decide) h
  obtain ⟨l, hR, _, _⟩ := rows_of (M := NoM) (R := FrmR NoM W) (Q := fun _ => True) hs fun cs hc => by
    obtain ⟨y, hy, _⟩ := hr cs hc
    obtain ⟨c, hc⟩ := rd_frm hy
    exact ⟨c, hc, trivial⟩
  exact ⟨l, hR⟩

theorem rd_tbl (h : Rd enc Tryz.prog W 267 cs d) : ∃ s : Sch, TblR NoM W s cs ∧ (Fit Tryz.prog 267 d → s.cols.length * 32 ≤ reachBytes) := by
  obtain ⟨hl, hf⟩ := rd_fields Tryz.underlying267 h
  rw [kTbl] at hl
  obtain ⟨c0, c1, c2, c3, rfl⟩ := list4 hl
  obtain ⟨y0, h0, f0⟩ := hf 0 _ rfl
  obtain ⟨y1, h1, _⟩ := hf 1 _ rfl
  obtain ⟨y2, h2, _⟩ := hf 2 _ rfl
  obtain ⟨_, hg⟩ := rd_fields Tryz.underlying24 (rd_cast h0 (cs' := [c0, c1]) (by simp [kSch]))
  obtain ⟨z0, g0, _⟩ := hg 0 _ rfl
  obtain ⟨z1, g1, k1⟩ := hg 1 _ rfl
  obtain ⟨s, e0, _⟩ := rd_string Tryz.underlying9 (rd_cast g0 (cs' := [c0]) (by simp [kStr]))
  obtain ⟨l, hR, hfl⟩ := rd_cols (rd_cast g1 (cs' := [c1]) (by simp [kCols]))
  obtain ⟨n, e2, _⟩ := rd_int Tryz.underlying3 (rd_cast h1 (cs' := [c2]) (by simp [kInt]))
  obtain ⟨a, m, c, e3⟩ := rd_slice_v Tryz.underlying262 (rd_cast h2 (cs' := [c3]) (by simp [kRows]))
  cases e0; cases e2; cases e3
  exact ⟨⟨s, l⟩, ⟨_, _, _, _, _, rfl, hR⟩, fun hfit => hfl (k1 (f0 hfit))⟩

theorem rd_tbls (h : Rd enc Tryz.prog W 47 [v] d) (hfit : Fit Tryz.prog 47 d) : ∃ l, TblsR NoM W v l ∧ ColsSmall l := by
  obtain ⟨css, hs, hr, _⟩ := rd_rows Tryz.underlying47 kTbl (by decide) h
  obtain ⟨l, hR, _, hq⟩ := rows_of (M := NoM) (R := TblR NoM W) (Q := fun s => s.cols.length * 32 ≤ reachBytes) hs fun cs hc => by
    obtain ⟨y, hy, hfy⟩ := hr cs hc
    obtain ⟨c, hc, hf⟩ := rd_tbl hy
    exact ⟨c, hc, hf (hfy hfit)⟩
  exact ⟨l, hR, fun s hs => by have := hq s hs; unfold reachBytes at this; omega⟩

/-- A value whose text is no longer than any text. -/
def ValOk (v : Val) : Prop := v.text.size ≤ maxLen ∧ -9223372036854775808 ≤ v.int ∧ v.int ≤ 9223372036854775807 ∧ -9223372036854775808 ≤ v.kind ∧ v.kind ≤ 9223372036854775807

theorem wf_i64 {n : Int} (h : (Lit.int .i64 n).wf = true) : -9223372036854775808 ≤ n ∧ n ≤ 9223372036854775807 := Go.bounds_i64 h

theorem rd_val (h : Rd enc Tryz.prog W 55 cs d) : ∃ v : Val, ValR v cs ∧ ValOk v := by
  obtain ⟨hl, hf⟩ := rd_fields Tryz.underlying55 h
  rw [kVal] at hl
  obtain ⟨c0, c1, c2, rfl⟩ := list3 hl
  obtain ⟨y0, h0, _⟩ := hf 0 _ rfl
  obtain ⟨y1, h1, _⟩ := hf 1 _ rfl
  obtain ⟨y2, h2, _⟩ := hf 2 _ rfl
  obtain ⟨k, e0, w0⟩ := rd_int Tryz.underlying3 (rd_cast h0 (cs' := [c0]) (by simp [kInt]))
  obtain ⟨n, e1, w1⟩ := rd_int Tryz.underlying2 (rd_cast h1 (cs' := [c1]) (by simp [kI64]))
  obtain ⟨s, e2, hs⟩ := rd_string Tryz.underlying9 (rd_cast h2 (cs' := [c2]) (by simp [kStr]))
  cases e0; cases e1; cases e2
  exact ⟨⟨k, n, s⟩, rfl, hs, (wf_i64 w1).1, (wf_i64 w1).2, (wf_i64 w0).1, (wf_i64 w0).2⟩

theorem rd_vals (h : Rd enc Tryz.prog W 199 [v] d) : ∃ l, RowsR NoM W 3 ValR v l ∧ (∀ x ∈ l, ValOk x) ∧ (Fit Tryz.prog 199 d → l.length * 32 ≤ reachBytes) := by
  obtain ⟨css, hs, hr, hf⟩ := rd_rows Tryz.underlying199 kVal (by decide) h
  obtain ⟨l, hR, hl, hq⟩ := rows_of (M := NoM) (R := ValR) (Q := ValOk) hs fun cs hc => by
    obtain ⟨y, hy, _⟩ := hr cs hc
    exact rd_val hy
  exact ⟨l, hR, hq, fun k => by rw [hl, ← yVal]; exact hf k⟩

theorem rd_tape {a : Option Addr} {len cap : Nat} (h : Rd enc Tryz.prog W 40 [.slice a len cap] d) : IntsAt W (.slice a len cap) := by
  obtain ⟨h1, h2, h3⟩ := rd_ints Tryz.underlying40 Tryz.underlying3 kInt h
  exact ⟨a, len, cap, rfl, h1, h2, h3⟩
end

theorem list7 {α : Type} {l : List α} (h : l.length = 7) : ∃ a b c d e f g, l = [a, b, c, d, e, f, g] := by
  match l, h with
  | [a, b, c, d, e, f, g], _ => exact ⟨a, b, c, d, e, f, g, rfl⟩

end Go.Proofs.YtpnigfmclmfjaaaGreatDoor
