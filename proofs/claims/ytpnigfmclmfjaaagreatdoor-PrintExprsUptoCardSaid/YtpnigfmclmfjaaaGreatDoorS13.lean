/- Raw expressions and queries as data in memory: what they read, and how deep they are. -/
import Derived.Test.YtpnigfmclmfjaaaGreatDoorS11
import Derived.Test.YtpnigfmclmfjaaaGreatDoorU1
namespace Go.Proofs.YtpnigfmclmfjaaaGreatDoor
open Go.RowKit

theorem kEx : Tryz.prog.cellsOf 57 = 10 := by kernel_rfl
theorem kQu : Tryz.prog.cellsOf 32 = 4 := by kernel_rfl
theorem kExs : Tryz.prog.cellsOf 27 = 1 := by kernel_rfl
theorem kQus : Tryz.prog.cellsOf 34 = 1 := by kernel_rfl

theorem list10 {α : Type} {l : List α} (h : l.length = 10) : ∃ a b c d e f g i j k, l = [a, b, c, d, e, f, g, i, j, k] := by
  match l, h with
  | [a, b, c, d, e, f, g, i, j, k], _ => exact ⟨a, b, c, d, e, f, g, i, j, k, rfl⟩

section
variable {H : Type}
theorem bulk_mem : ∀ {ds : List (DataW H)} {d : DataW H}, d ∈ ds → Rows.uptoBulk d ≤ Rows.uptoBulkAll ds
  | x :: ds, d, h => by
    rw [Rows.uptoBulkAll]
    rcases List.mem_cons.1 h with rfl | h
    · omega
    · have := bulk_mem h
      omega
theorem bulk_agg {ds : List (DataW H)} {i : Nat} {y : DataW H} {n : Nat} (h : Rows.uptoBulk (.agg ds) ≤ n + 1) (hy : ds[i]? = some y) : Rows.uptoBulk y ≤ n := by
  have h1 := bulk_mem (List.mem_of_getElem? hy)
  rw [Rows.uptoBulk] at h
  omega
theorem bulk_slice {ds sp : List (DataW H)} {i : Nat} {y : DataW H} {n : Nat} (h : Rows.uptoBulk (.slice ds sp) ≤ n) (hy : ds[i]? = some y) : Rows.uptoBulk y ≤ n := by
  have h1 := bulk_mem (List.mem_of_getElem? hy)
  rw [Rows.uptoBulk] at h
  omega
end

section
variable {H : Type} {enc : TypeId × Value → H} {W : World}

/-- A slice's things, each with its reading and its bulk. -/
theorem rd_list {t e : TypeId} {size n : Nat} {v : Value} {d : DataW H} {α : Type} {R : α → List Value → Prop} {Q : α → Prop} (ht : Tryz.prog.underlying t = some (.slice e)) (hsz : Tryz.prog.cellsOf e = size) (hpos : 0 < size) (h : Rd enc Tryz.prog W t [v] d) (hb : Rows.uptoBulk d ≤ n)
    (hx : ∀ cs y, Rd enc Tryz.prog W e cs y → Rows.uptoBulk y ≤ n → ∃ x, R x cs ∧ Q x) : ∃ l, RowsR NoM W size R v l ∧ ∀ x ∈ l, Q x := by
  obtain ⟨css, ds, hs, hl, hd, hr⟩ := rd_slice ht hsz hpos h
  obtain ⟨l, hR, _, hq⟩ := rows_of (M := NoM) (R := R) (Q := Q) hs fun cs hc => by
    obtain ⟨i, hi⟩ := List.mem_iff_getElem?.1 hc
    have hlt : i < ds.length := by rw [hl]; exact (List.getElem?_eq_some_iff.1 hi).1
    have hy : ds[i]? = some ds[i] := List.getElem?_eq_getElem hlt
    refine hx cs _ (hr i cs _ hi hy) ?_
    rcases hd with ⟨_, rfl⟩ | ⟨sp, rfl⟩
    · simp at hi
    · exact bulk_slice hb hy
  exact ⟨l, hR, hq⟩

/-- What is read as an expression. -/
def RdEx (enc : TypeId × Value → H) (W : World) (n : Nat) : Prop := ∀ (cs : List Value) (d : DataW H), Rd enc Tryz.prog W 57 cs d → Rows.uptoBulk d ≤ n → ∃ e, EC NoM W e cs ∧ Dep n e

theorem rd_exs {n : Nat} (ih : RdEx enc W n) {v : Value} {d : DataW H} (h : Rd enc Tryz.prog W 27 [v] d) (hb : Rows.uptoBulk d ≤ n) : ∃ l, ExsR NoM W v l ∧ ∀ x ∈ l, Dep n x :=
  rd_list Tryz.underlying27 kEx (by decide) h hb ih

theorem rd_qu {n : Nat} (ih : RdEx enc W n) {cs : List Value} {d : DataW H} (h : Rd enc Tryz.prog W 32 cs d) (hb : Rows.uptoBulk d ≤ n) : ∃ q, QC NoM W q cs ∧ QuDep n q := by
  obtain ⟨ds, rfl, hl, _, hf⟩ := rd_struct Tryz.underlying32 h
  rw [kQu] at hl
  obtain ⟨c0, c1, c2, c3, rfl⟩ := list4 hl
  obtain ⟨y0, m0, h0⟩ := hf 0 _ rfl
  obtain ⟨y1, m1, h1⟩ := hf 1 _ rfl
  obtain ⟨y2, m2, h2⟩ := hf 2 _ rfl
  obtain ⟨y3, m3, h3⟩ := hf 3 _ rfl
  obtain ⟨b, e0⟩ := rd_bool Tryz.underlying4 (rd_cast h0 (cs' := [c0]) (by simp [kBool]))
  obtain ⟨it, hi, qi⟩ := rd_exs ih (rd_cast h1 (cs' := [c1]) (by simp [kExs])) (bulk_agg (Nat.le_succ_of_le hb) m1)
  obtain ⟨s, e2, hs⟩ := rd_string Tryz.underlying9 (rd_cast h2 (cs' := [c2]) (by simp [kStr]))
  obtain ⟨wh, hw, qw⟩ := rd_exs ih (rd_cast h3 (cs' := [c3]) (by simp [kExs])) (bulk_agg (Nat.le_succ_of_le hb) m3)
  cases e0; cases e2
  exact ⟨.mk b it s wh, (QC_iff ..).2 ⟨_, _, rfl, hi, hw⟩, hs, qi, qw⟩

theorem rd_qus {n : Nat} (ih : RdEx enc W n) {v : Value} {d : DataW H} (h : Rd enc Tryz.prog W 34 [v] d) (hb : Rows.uptoBulk d ≤ n) : ∃ l, QusR NoM W v l ∧ ∀ q ∈ l, QuDep n q :=
  rd_list Tryz.underlying34 kQu (by decide) h hb fun _ _ hr hb => rd_qu ih hr hb

theorem rd_ex : ∀ n, RdEx enc W n
  | 0 => fun cs d _ hb => by
    have := bulk_pos d
    omega
  | n + 1 => fun cs d h hb => by
    have ih := rd_ex n
    obtain ⟨ds, rfl, hl, _, hf⟩ := rd_struct Tryz.underlying57 h
    rw [kEx] at hl
    obtain ⟨c0, c1, c2, c3, c4, c5, c6, c7, c8, c9, rfl⟩ := list10 hl
    obtain ⟨y0, m0, h0⟩ := hf 0 _ rfl
    obtain ⟨y1, m1, h1⟩ := hf 1 _ rfl
    obtain ⟨y2, m2, h2⟩ := hf 2 _ rfl
    obtain ⟨y3, m3, h3⟩ := hf 3 _ rfl
    obtain ⟨y4, m4, h4⟩ := hf 4 _ rfl
    obtain ⟨y5, m5, h5⟩ := hf 5 _ rfl
    obtain ⟨y6, m6, h6⟩ := hf 6 _ rfl
    obtain ⟨y7, m7, h7⟩ := hf 7 _ rfl
    obtain ⟨k, e0, _⟩ := rd_int Tryz.underlying3 (rd_cast h0 (cs' := [c0]) (by simp [kInt]))
    obtain ⟨o, e1, _⟩ := rd_int Tryz.underlying3 (rd_cast h1 (cs' := [c1]) (by simp [kInt]))
    obtain ⟨b, e2⟩ := rd_bool Tryz.underlying4 (rd_cast h2 (cs' := [c2]) (by simp [kBool]))
    obtain ⟨x, e3, hx, _⟩ := rd_val (rd_cast h3 (cs' := [c3, c4, c5]) (by simp [kVal]))
    obtain ⟨t, e4, ht⟩ := rd_string Tryz.underlying9 (rd_cast h4 (cs' := [c6]) (by simp [kStr]))
    obtain ⟨nm, e5, hn⟩ := rd_string Tryz.underlying9 (rd_cast h5 (cs' := [c7]) (by simp [kStr]))
    obtain ⟨l, hR, hq⟩ := rd_exs ih (rd_cast h6 (cs' := [c8]) (by simp [kExs])) (bulk_agg hb m6)
    obtain ⟨l2, hR2, hq2⟩ := rd_qus ih (rd_cast h7 (cs' := [c9]) (by simp [kQus])) (bulk_agg hb m7)
    cases e0; cases e1; cases e2; cases e4; cases e5
    unfold ValR valCells at e3
    cases e3
    exact ⟨.mk k o b x t nm l l2, (EC_iff ..).2 ⟨_, _, rfl, hR, hR2⟩, .mk n _ hx ht hn (fun q h => (hq2 q h).1) hq (fun q h => (hq2 q h).2.1) (fun q h => (hq2 q h).2.2)⟩
end
end Go.Proofs.YtpnigfmclmfjaaaGreatDoor
