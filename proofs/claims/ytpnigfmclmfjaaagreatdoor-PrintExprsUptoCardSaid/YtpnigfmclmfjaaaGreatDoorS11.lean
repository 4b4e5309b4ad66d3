/- How deep an expression is, and what that says of its levels. No program is named here. -/
import Derived.Test.YtpnigfmclmfjaaaGreatDoorKL
import Derived.Test.YtpnigfmclmfjaaaGreatDoorKN0
import Derived.Test.YtpnigfmclmfjaaaGreatDoorKV2b
namespace Go.Proofs.YtpnigfmclmfjaaaGreatDoor
open Go.RowKit

/-- An expression of depth at most n whose texts a machine can hold. -/
inductive Dep : Nat → Ex → Prop
  | mk (n : Nat) (e : Ex) (hv : e.val.text.size ≤ maxLen) (ht : e.table.size ≤ maxLen) (hn : e.name.size ≤ maxLen) (hf : ∀ q ∈ e.sub, q.frm.size ≤ maxLen)
      (ha : ∀ a ∈ e.args, Dep n a) (hi : ∀ q ∈ e.sub, ∀ x ∈ q.items, Dep n x) (hw : ∀ q ∈ e.sub, ∀ x ∈ q.whr, Dep n x) : Dep (n + 1) e

/-- A query of depth at most n. -/
def QuDep (n : Nat) (q : Qu) : Prop := q.frm.size ≤ maxLen ∧ (∀ x ∈ q.items, Dep n x) ∧ (∀ x ∈ q.whr, Dep n x)

theorem Dep.txt {n : Nat} {e : Ex} (h : Dep n e) : TxtOk e := by
  induction h with
  | mk n e hv ht hn hf ha hi hw iha ihi ihw => exact .mk e hv ht hn iha hf ihi ihw

theorem Dep.inv {n : Nat} {e : Ex} (h : Dep n e) : ∃ m, n = m + 1 ∧ e.val.text.size ≤ maxLen ∧ e.table.size ≤ maxLen ∧ e.name.size ≤ maxLen ∧ (∀ q ∈ e.sub, q.frm.size ≤ maxLen) ∧ (∀ a ∈ e.args, Dep m a) ∧ (∀ q ∈ e.sub, ∀ x ∈ q.items, Dep m x) ∧ (∀ q ∈ e.sub, ∀ x ∈ q.whr, Dep m x) := by
  cases h with
  | mk n e hv ht hn hf ha hi hw => exact ⟨n, rfl, hv, ht, hn, hf, ha, hi, hw⟩

theorem Dep.up {n m : Nat} {e : Ex} (h : Dep n e) (hm : n ≤ m) : Dep m e := by
  induction h generalizing m with
  | mk n e hv ht hn hf ha hi hw iha ihi ihw =>
    obtain ⟨m, rfl⟩ : ∃ j, m = j + 1 := ⟨m - 1, by omega⟩
    exact .mk m e hv ht hn hf (fun a h => iha a h (by omega)) (fun q hq x hx => ihi q hq x hx (by omega)) (fun q hq x hx => ihw q hq x hx (by omega))

theorem levQ_max {k : Int} {m : Nat} : ∀ (l : List Qu), (∀ q ∈ l, ∀ x ∈ q.items, levP x ≤ m) → (∀ q ∈ l, ∀ x ∈ q.whr, levP x ≤ m) → levQ k l ≤ m + 2
  | [], _, _ => by simp [levQ]
  | .mk st it f wh :: l, h1, h2 => by
    rw [levQ]
    have a := levM_max it fun x hx => h1 _ (List.mem_cons_self ..) x hx
    have b := levM_max wh fun x hx => h2 _ (List.mem_cons_self ..) x hx
    have c := levQ_max (k := k) l (fun q hq => h1 q (List.mem_cons_of_mem _ hq)) (fun q hq => h2 q (List.mem_cons_of_mem _ hq))
    split <;> omega

theorem Dep.lev {n : Nat} {e : Ex} (h : Dep n e) : levP e ≤ 2 * n := by
  induction h with
  | mk n e hv ht hn hf ha hi hw iha ihi ihw =>
    by_cases h1 : e.kind = 1 ∨ e.kind = 2
    · rw [levP_leaf h1]; exact Nat.zero_le _
    by_cases h8 : 8 ≤ e.kind ∧ e.kind ≤ 12
    · rw [levP_query h8]
      have := levQ_max (k := e.kind) e.sub ihi ihw
      omega
    · rw [levP_op h1 h8]
      have := levA_max (k := e.kind) (o := e.op) e.args 0 iha
      split <;> omega

theorem qual_small {q : ByteArray} (h : q ∈ qualL) : q.size ≤ maxLen := by
  simp only [qualL, List.mem_cons, List.not_mem_nil, or_false] at h
  rcases h with rfl | rfl | rfl | rfl | rfl | rfl <;> decide
theorem from_small {q : ByteArray} (h : q ∈ fromL) : q.size ≤ maxLen := by
  simp only [fromL, List.mem_cons, List.not_mem_nil, or_false] at h
  rcases h with rfl | rfl | rfl | rfl | rfl <;> decide
theorem name_small (i : Nat) (h : i < 8) : (nameAt i).size ≤ maxLen := by
  have h8 : i = 0 ∨ i = 1 ∨ i = 2 ∨ i = 3 ∨ i = 4 ∨ i = 5 ∨ i = 6 ∨ i = 7 := by omega
  rcases h8 with rfl | rfl | rfl | rfl | rfl | rfl | rfl | rfl <;> decide
theorem es_small : es.size ≤ maxLen := by decide

theorem dep_leaf (n : Nat) (k o : Int) (no : Bool) (v : Val) (t nm : ByteArray) (hv : v.text.size ≤ maxLen) (ht : t.size ≤ maxLen) (hn : nm.size ≤ maxLen) : Dep (n + 1) (.mk k o no v t nm [] []) :=
  .mk n _ hv ht hn (by intro q h; cases h) (by intro a h; cases h) (by intro q h; cases h) (by intro q h; cases h)

theorem any_dep {n : Nat} {e : Ex} (h : AnyX n e) : Dep (n + 1) e := by
  induction h with
  | col n q i hq hi => exact dep_leaf _ _ _ _ _ _ _ es_small (qual_small hq) (name_small i hi)
  | lit n v hv h0 => exact dep_leaf _ _ _ _ _ _ _ (validVal_ok hv).1.1 es_small es_small
  | ops n k o no args hk ha ih => exact .mk _ _ es_small es_small es_small (by intro q h; cases h) ih (by intro q h; cases h) (by intro q h; cases h)
  | sub n k f items whr hf hi hw h1 h2 ih1 ih2 =>
    refine .mk _ _ es_small es_small es_small ?_ (by intro q h; cases h) ?_ ?_
    · intro q hq
      obtain rfl : q = .mk (k == 8) items f whr := List.mem_singleton.1 hq
      exact from_small hf
    · intro q hq
      obtain rfl : q = .mk (k == 8) items f whr := List.mem_singleton.1 hq
      exact ih1
    · intro q hq
      obtain rfl : q = .mk (k == 8) items f whr := List.mem_singleton.1 hq
      exact ih2
end Go.Proofs.YtpnigfmclmfjaaaGreatDoor
