/- Raw expressions as data in memory: how many nodes they have at most, and that their numbers are 64 bits wide. -/
import Derived.Test.YtpnigfmclmfjaaaGreatDoorS13
import Derived.Test.YtpnigfmclmfjaaaGreatDoorKX3
namespace Go.Proofs.YtpnigfmclmfjaaaGreatDoor
open Go.RowKit

def nodesQ : Qu → Nat
  | .mk _ items _ whr => nodesL items + nodesL whr
theorem nodesL_sum : ∀ l : List Ex, 2 * nodesL l = (l.map fun e => 2 * nodes e).sum
  | [] => by simp [nodesL]
  | e :: l => by rw [nodesL, Nat.mul_add, nodesL_sum l, List.map_cons, List.sum_cons]
theorem nodesS_sum : ∀ l : List Qu, 2 * nodesS l = (l.map fun q => 2 * nodesQ q).sum
  | [] => by simp [nodesS]
  | .mk st items f whr :: l => by rw [nodesS, Nat.mul_add, nodesS_sum l, List.map_cons, List.sum_cons, nodesQ]

section
variable {H : Type}
theorem bulk_one : ∀ {ds : List (DataW H)} {i : Nat} {a : DataW H}, ds[i]? = some a → Rows.uptoBulk a ≤ Rows.uptoBulkAll ds := fun h => bulk_mem (List.mem_of_getElem? h)
theorem bulk_two : ∀ {ds : List (DataW H)} {i j : Nat} {a b : DataW H}, i < j → ds[i]? = some a → ds[j]? = some b → Rows.uptoBulk a + Rows.uptoBulk b ≤ Rows.uptoBulkAll ds
  | [], _, _, _, _, _, h, _ => by simp at h
  | x :: ds, 0, j + 1, a, b, _, h1, h2 => by
    simp only [List.getElem?_cons_zero, Option.some.injEq] at h1
    subst h1
    have := bulk_one (show ds[j]? = some b by simpa using h2)
    rw [Rows.uptoBulkAll]
    omega
  | x :: ds, i + 1, j + 1, a, b, hij, h1, h2 => by
    have := bulk_two (ds := ds) (i := i) (j := j) (by omega) (by simpa using h1) (by simpa using h2)
    rw [Rows.uptoBulkAll]
    omega
theorem bulk_three : ∀ {ds : List (DataW H)} {i j k : Nat} {a b c : DataW H}, i < j → j < k → ds[i]? = some a → ds[j]? = some b → ds[k]? = some c → Rows.uptoBulk a + Rows.uptoBulk b + Rows.uptoBulk c ≤ Rows.uptoBulkAll ds
  | [], _, _, _, _, _, _, _, _, h, _, _ => by simp at h
  | x :: ds, 0, j + 1, k + 1, a, b, c, _, hjk, h1, h2, h3 => by
    simp only [List.getElem?_cons_zero, Option.some.injEq] at h1
    subst h1
    have := bulk_two (ds := ds) (i := j) (j := k) (by omega) (by simpa using h2) (by simpa using h3)
    rw [Rows.uptoBulkAll]
    omega
  | x :: ds, i + 1, j + 1, k + 1, a, b, c, hij, hjk, h1, h2, h3 => by
    have := bulk_three (ds := ds) (i := i) (j := j) (k := k) (by omega) (by omega) (by simpa using h1) (by simpa using h2) (by simpa using h3)
    rw [Rows.uptoBulkAll]
    omega
theorem rows_sum {W : World} {size : Nat} {v : Value} {α : Type} {M : Nat → Prop} {R : α → List Value → Prop} {Q : α → Prop} {f : α → Nat} {css : List (List Value)} {ds : List (DataW H)} (hs : SliceOf M W size v css) (hl : ds.length = css.length)
    (h : ∀ (i : Nat) (cs : List Value) (y : DataW H), css[i]? = some cs → ds[i]? = some y → ∃ x, R x cs ∧ Q x ∧ f x ≤ Rows.uptoBulk y) :
    ∃ xs, RowsR M W size R v xs ∧ (∀ x ∈ xs, Q x) ∧ (xs.map f).sum ≤ Rows.uptoBulkAll ds := by
  have : ∃ xs : List α, xs.length = css.length ∧ (∀ (i : Nat) (x : α) (cs : List Value), xs[i]? = some x → css[i]? = some cs → R x cs) ∧ (∀ x ∈ xs, Q x) ∧ (xs.map f).sum ≤ Rows.uptoBulkAll ds := by
    clear hs
    induction css generalizing ds with
    | nil => exact ⟨[], rfl, by simp, by simp, by simp⟩
    | cons c css ih =>
      match ds, hl with
      | d :: ds, hl =>
        obtain ⟨xs, h1, h2, h3, h4⟩ := ih (by simpa using hl) fun i cs y hi hy => h (i + 1) cs y (by simpa using hi) (by simpa using hy)
        obtain ⟨x, hx, hq, hf⟩ := h 0 c d rfl rfl
        refine ⟨x :: xs, by simp [h1], fun i y cs hi hc => ?_, fun y hy => ?_, ?_⟩
        · cases i with
          | zero => simp at hi hc; subst hi; subst hc; exact hx
          | succ i => exact h2 i y cs (by simpa using hi) (by simpa using hc)
        · rcases List.mem_cons.1 hy with rfl | hy
          · exact hq
          · exact h3 y hy
        · rw [List.map_cons, List.sum_cons, Rows.uptoBulkAll]
          omega
  obtain ⟨xs, h1, h2, h3, h4⟩ := this
  exact ⟨xs, ⟨css, hs, h1.symm, h2⟩, h3, h4⟩
end

section
variable {H : Type} {enc : TypeId × Value → H} {W : World}
theorem rd_listS {t e : TypeId} {size n : Nat} {v : Value} {d : DataW H} {α : Type} {R : α → List Value → Prop} {Q : α → Prop} {f : α → Nat} (ht : Tryz.prog.underlying t = some (.slice e)) (hsz : Tryz.prog.cellsOf e = size) (hpos : 0 < size) (h : Rd enc Tryz.prog W t [v] d) (hb : Rows.uptoBulk d ≤ n)
    (hx : ∀ cs y, Rd enc Tryz.prog W e cs y → Rows.uptoBulk y ≤ n → ∃ x, R x cs ∧ Q x ∧ f x ≤ Rows.uptoBulk y) : ∃ l, RowsR NoM W size R v l ∧ (∀ x ∈ l, Q x) ∧ (l.map f).sum ≤ Rows.uptoBulk d := by
  obtain ⟨css, ds, hs, hl, hd, hr⟩ := rd_slice ht hsz hpos h
  obtain ⟨l, hR, hq, hsum⟩ := rows_sum (M := NoM) (R := R) (Q := Q) (f := f) hs hl fun i cs y hc hy => by
    refine hx cs y (hr i cs y hc hy) ?_
    rcases hd with ⟨_, rfl⟩ | ⟨sp, rfl⟩
    · simp at hc
    · exact bulk_slice hb hy
  refine ⟨l, hR, hq, Nat.le_trans hsum ?_⟩
  rcases hd with ⟨h1, h0⟩ | ⟨sp, rfl⟩
  · subst h0
    rw [List.eq_nil_of_length_eq_zero hl]
    simp [Rows.uptoBulkAll]
  · rw [Rows.uptoBulk]
    omega

/-- What is read as an expression, with its nodes. -/
def ExN (n : Nat) (e : Ex) : Prop := Dep n e ∧ RngX e
def RdExN (enc : TypeId × Value → H) (W : World) (n : Nat) : Prop := ∀ (cs : List Value) (d : DataW H), Rd enc Tryz.prog W 57 cs d → Rows.uptoBulk d ≤ n → ∃ e, EC NoM W e cs ∧ ExN n e ∧ 2 * nodes e ≤ Rows.uptoBulk d
def QuN (n : Nat) (q : Qu) : Prop := q.frm.size ≤ maxLen ∧ (∀ x ∈ q.items, ExN n x) ∧ (∀ x ∈ q.whr, ExN n x)

theorem rd_exsN {n : Nat} (ih : RdExN enc W n) {v : Value} {d : DataW H} (h : Rd enc Tryz.prog W 27 [v] d) (hb : Rows.uptoBulk d ≤ n) : ∃ l, ExsR NoM W v l ∧ (∀ x ∈ l, ExN n x) ∧ (l.map fun e => 2 * nodes e).sum ≤ Rows.uptoBulk d :=
  rd_listS Tryz.underlying27 kEx (by decide) h hb ih

theorem rd_quN {n : Nat} (ih : RdExN enc W n) {cs : List Value} {d : DataW H} (h : Rd enc Tryz.prog W 32 cs d) (hb : Rows.uptoBulk d ≤ n) : ∃ q, QC NoM W q cs ∧ QuN n q ∧ 2 * nodesQ q ≤ Rows.uptoBulk d := by
  obtain ⟨ds, rfl, hl, _, hf⟩ := rd_struct Tryz.underlying32 h
  rw [kQu] at hl
  obtain ⟨c0, c1, c2, c3, rfl⟩ := list4 hl
  obtain ⟨y0, m0, h0⟩ := hf 0 _ rfl
  obtain ⟨y1, m1, h1⟩ := hf 1 _ rfl
  obtain ⟨y2, m2, h2⟩ := hf 2 _ rfl
  obtain ⟨y3, m3, h3⟩ := hf 3 _ rfl
  obtain ⟨b, e0⟩ := rd_bool Tryz.underlying4 (rd_cast h0 (cs' := [c0]) (by simp [kBool]))
  obtain ⟨it, hi, qi, si⟩ := rd_exsN ih (rd_cast h1 (cs' := [c1]) (by simp [kExs])) (bulk_agg (Nat.le_succ_of_le hb) m1)
  obtain ⟨s, e2, hs⟩ := rd_string Tryz.underlying9 (rd_cast h2 (cs' := [c2]) (by simp [kStr]))
  obtain ⟨wh, hw, qw, sw⟩ := rd_exsN ih (rd_cast h3 (cs' := [c3]) (by simp [kExs])) (bulk_agg (Nat.le_succ_of_le hb) m3)
  cases e0; cases e2
  refine ⟨.mk b it s wh, (QC_iff ..).2 ⟨_, _, rfl, hi, hw⟩, ⟨hs, qi, qw⟩, ?_⟩
  have := bulk_two (by decide) m1 m3
  have h1 := nodesL_sum it
  have h2 := nodesL_sum wh
  rw [nodesQ, Rows.uptoBulk]
  omega

theorem rd_qusN {n : Nat} (ih : RdExN enc W n) {v : Value} {d : DataW H} (h : Rd enc Tryz.prog W 34 [v] d) (hb : Rows.uptoBulk d ≤ n) : ∃ l, QusR NoM W v l ∧ (∀ q ∈ l, QuN n q) ∧ (l.map fun q => 2 * nodesQ q).sum ≤ Rows.uptoBulk d :=
  rd_listS Tryz.underlying34 kQu (by decide) h hb fun _ _ hr hb => rd_quN ih hr hb

theorem rd_exN : ∀ n, RdExN enc W n
  | 0 => fun cs d _ hb => by
    have := bulk_pos d
    omega
  | n + 1 => fun cs d h hb => by
    have ih := rd_exN n
    obtain ⟨ds, rfl, hl, _, hf⟩ := rd_struct Tryz.underlying57 h
    rw [kEx] at hl
    obtain ⟨c0, c1, c2, c3, c4, c5, c6, c7, c8, c9, rfl⟩ := list10 hl
    obtain ⟨y0, m0, h0⟩ := hf 0 _ rfl
    obtain ⟨y1, m1, h1⟩ := hf 1 _ rfl
    obtain ⟨y2, m2, h2⟩ := hf 2 _ rfl
    obtain ⟨y3, m3, h3⟩ := hf 3 _ rfl
    obtain ⟨y4, m4, h4⟩ := hf 4 _ rfl
    obtain ⟨y5, m5, h5⟩ := hf 5 _ rfl
    obtain ⟨y6, m6, h6⟩ := hf 6 _ rfl
    obtain ⟨y7, m7, h7⟩ := hf 7 _ rfl
    obtain ⟨k, e0, _⟩ := rd_int Tryz.underlying3 (rd_cast h0 (cs' := [c0]) (by simp [kInt]))
    obtain ⟨o, e1, _⟩ := rd_int Tryz.underlying3 (rd_cast h1 (cs' := [c1]) (by simp [kInt]))
    obtain ⟨b, e2⟩ := rd_bool Tryz.underlying4 (rd_cast h2 (cs' := [c2]) (by simp [kBool]))
    obtain ⟨x, e3, hx⟩ := rd_val (rd_cast h3 (cs' := [c3, c4, c5]) (by simp [kVal]))
    obtain ⟨t, e4, ht⟩ := rd_string Tryz.underlying9 (rd_cast h4 (cs' := [c6]) (by simp [kStr]))
    obtain ⟨nm, e5, hn⟩ := rd_string Tryz.underlying9 (rd_cast h5 (cs' := [c7]) (by simp [kStr]))
    obtain ⟨l, hR, hq, hsum⟩ := rd_exsN ih (rd_cast h6 (cs' := [c8]) (by simp [kExs])) (bulk_agg hb m6)
    obtain ⟨l2, hR2, hq2, hsum2⟩ := rd_qusN ih (rd_cast h7 (cs' := [c9]) (by simp [kQus])) (bulk_agg hb m7)
    cases e0; cases e1; cases e2; cases e4; cases e5
    unfold ValR valCells at e3
    cases e3
    refine ⟨.mk k o b x t nm l l2, (EC_iff ..).2 ⟨_, _, rfl, hR, hR2⟩, ⟨.mk n _ hx.1 ht hn (fun q h => (hq2 q h).1) (fun a h => (hq a h).1) (fun q h x hx => ((hq2 q h).2.1 x hx).1) (fun q h x hx => ((hq2 q h).2.2 x hx).1), .mk _ hx.2.2.1 (fun a h => (hq a h).2) (fun q h x hx => ((hq2 q h).2.1 x hx).2) (fun q h x hx => ((hq2 q h).2.2 x hx).2)⟩, ?_⟩
    have := bulk_three (by decide) (by decide) m5 m6 m7
    have h1 := nodesL_sum l
    have h2 := nodesS_sum l2
    have h5 := bulk_pos y5
    rw [nodes, Rows.uptoBulk]
    omega
end
end Go.Proofs.YtpnigfmclmfjaaaGreatDoor
