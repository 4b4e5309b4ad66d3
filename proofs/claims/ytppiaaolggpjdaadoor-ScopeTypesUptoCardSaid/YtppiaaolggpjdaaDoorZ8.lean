/- The depths of what is read; a query's items are no more than its bulk. -/
import Derived.Test.YtppiaaolggpjdaaDoorS13
import Derived.Test.YtppiaaolggpjdaaDoorZ6
namespace Go.Proofs.YtppiaaolggpjdaaDoor
open Go.RowKit

theorem depS_max {n : Nat} : ∀ {l : List Qu}, (∀ q ∈ l, depL q.items ≤ n ∧ depL q.whr ≤ n) → depS l ≤ n + 1
  | [], _ => by simp [depS]
  | q :: l, h => by
    rw [depS, depQ_eq]
    have h1 := h q (by simp)
    have h2 := depS_max fun y hy => h y (List.mem_cons_of_mem q hy)
    omega
theorem Dep.dep {n : Nat} {e : Ex} (h : Dep n e) : Proofs.YtppiaaolggpjdaaDoor.dep e ≤ n := by
  induction h with
  | mk n e hv ht hn hf ha hi hw iha ihi ihw =>
    rw [dep_eq]
    have h1 := depL_max iha
    have h2 := depS_max (n := n) fun q hq => ⟨depL_max (ihi q hq), depL_max (ihw q hq)⟩
    omega
theorem QuDep.dep {n : Nat} {q : Qu} (h : QuDep n q) : depQ q ≤ n + 1 := by
  rw [depQ_eq]
  have h1 := depL_max fun x hx => (h.2.1 x hx).dep
  have h2 := depL_max fun x hx => (h.2.2 x hx).dep
  omega

section
variable {H : Type} {enc : TypeId × Value → H} {W : World}
theorem rd_len {t e : TypeId} {size : Nat} {v : Value} {d : DataW H} {α : Type} {R : α → List Value → Prop} {l : List α} (ht : Tryd.prog.underlying t = some (.slice e)) (hsz : Tryd.prog.cellsOf e = size) (hpos : 0 < size) (h : Rd enc Tryd.prog W t [v] d) (h1 : RowsR NoM W size R v l) : l.length ≤ Rows.uptoBulk d := by
  obtain ⟨css, ds, hs, hl, hd, _⟩ := rd_slice ht hsz hpos h
  have hlen : l.length = css.length := by
    obtain ⟨a, c, rfl, _⟩ := h1.shape
    have h3 : RowsR NoM W size (fun _ _ => True) (.slice a l.length c) css := ⟨css, hs, rfl, fun _ _ _ _ _ => trivial⟩
    obtain ⟨a', c', he, _⟩ := h3.shape
    simp only [Value.slice.injEq] at he
    exact he.2.1
  rcases hd with ⟨rfl, h0⟩ | ⟨sp, rfl⟩
  · rw [hlen, h0]; exact Nat.zero_le _
  · have := bulk_len ds
    simp only [Rows.uptoBulk]
    omega
theorem rd_quL {n : Nat} {cs : List Value} {d : DataW H} (h : Rd enc Tryd.prog W 37 cs d) (hb : Rows.uptoBulk d ≤ n) : ∃ q, QC NoM W q cs ∧ QuDep n q ∧ q.items.length ≤ n := by
  obtain ⟨q, hq, hd⟩ := rd_qu (rd_ex n) h hb
  refine ⟨q, hq, hd, ?_⟩
  obtain ⟨vi, vw, rfl, hi, _⟩ := (QC_iff ..).1 hq
  obtain ⟨ds, rfl, hl, _, hf⟩ := rd_struct Tryd.underlying37 h
  obtain ⟨y1, m1, h1⟩ := hf 1 _ rfl
  exact Nat.le_trans (rd_len Tryd.underlying24 kEx (by decide) (rd_cast h1 (cs' := [vi]) (by simp [kExs])) hi) (bulk_agg (Nat.le_succ_of_le hb) m1)
end
end Go.Proofs.YtppiaaolggpjdaaDoor
