/- The expressions that the tape makes are well-formed, of few nodes, and their texts are short. No program is named here. -/
import Derived.Test.YtpnigfmclmfjaaaGreatDoorKD2
import Derived.Test.YtpnigfmclmfjaaaGreatDoorKX3
namespace Go.Proofs.YtpnigfmclmfjaaaGreatDoor
open Go.RowKit

theorem numX_vx (m : Int) (h1 : -1000 ≤ m) (h2 : m ≤ 1000) : VX (numX m) := by
  unfold numX
  split
  · exact .ops 4 0 false [litX ⟨1, -m, es⟩] (by simp [OpShape]) fun a ha => by
      rw [List.mem_singleton.1 ha]
      exact .lit _ (by simp [validV, noText, es, ByteArray.toList_eq]) fun _ => ⟨by simp only; omega, by simp only; omega⟩
  · exact .lit _ (by simp [validV, noText, es, ByteArray.toList_eq]) fun _ => ⟨by simp only; omega, by simp only; omega⟩
theorem numX_nodes (m : Int) : nodes (numX m) ≤ 2 := by
  unfold numX
  split <;> simp [negX, litX, nodes, nodesL, nodesS]
theorem gx_vx {n : Nat} {e : Ex} (h : GX n e) : VX e := by
  induction h with
  | col n t nm h => exact .col t nm h
  | lit n v hv h0 =>
    refine .lit v (valid_of hv) fun hk => ⟨h0 hk, ?_⟩
    rcases hv with h | h | h | h
    · omega
    · exact h.2.1.2
    · omega
    · omega
  | num n m h1 h2 => exact numX_vx m h1 h2
  | ops n k o no args hk _ ih => exact .ops k o no args hk ih
  | sub n k f items whr hf hi hw _ _ ih1 ih2 => exact .sub k f items whr hi hf hw ih1 ih2
theorem nodesL_most {m : Nat} : ∀ {l : List Ex}, (∀ x ∈ l, 2 * nodes x + 1 ≤ m) → 1 ≤ m → 2 * nodesL l + l.length ≤ l.length * m
  | [], _, _ => by simp [nodesL]
  | x :: l, h, h1 => by
    have a := h x (by simp)
    have b := nodesL_most (l := l) (fun y hy => h y (by simp [hy])) h1
    rw [nodesL, List.length_cons, Nat.add_mul]
    omega
theorem gx_nodes {n : Nat} {e : Ex} (h : GX n e) : 2 * nodes e + 1 ≤ 3 ^ (n + 2) := by
  have hp : ∀ n : Nat, 9 ≤ 3 ^ (n + 2) := fun n => by
    rw [Nat.pow_add]
    have := Nat.one_le_pow n 3 (by omega)
    omega
  induction h with
  | col n t nm h =>
    have := hp n
    rw [show nodes (colX t nm) = 1 by simp [colX, nodes, nodesL, nodesS]]
    omega
  | lit n v hv h0 =>
    have := hp n
    rw [show nodes (litX v) = 1 by simp [litX, nodes, nodesL, nodesS]]
    omega
  | num n m h1 h2 =>
    have := hp n
    have := numX_nodes m
    omega
  | ops n k o no args hk _ ih =>
    have h9 := hp n
    have hl := nodesL_most ih (by omega)
    have h3 := (opShape_kind hk).2.2
    rw [nodes_ops, Nat.pow_succ]
    have h4 : args.length = 0 ∨ args.length = 1 ∨ args.length = 2 ∨ args.length = 3 := by omega
    rcases h4 with h4 | h4 | h4 | h4 <;> rw [h4] at hl <;> omega
  | sub n k f items whr hf hi hw _ _ ih1 ih2 =>
    have h9 := hp n
    have a := nodesL_most ih1 (by omega)
    have b := nodesL_most ih2 (by omega)
    rw [nodes_sub, Nat.pow_succ]
    have h3 : items.length = 0 ∨ items.length = 1 := by
      rcases hi with ⟨_, rfl⟩ | ⟨_, h⟩
      · exact .inl rfl
      · exact .inr h
    have h4 : whr.length = 0 ∨ whr.length = 1 := by omega
    rcases h3 with h3 | h3 <;> rcases h4 with h4 | h4 <;> rw [h3] at a <;> rw [h4] at b <;> omega
theorem small12 {s : ByteArray} (h : s.size ≤ 12) : s.size ≤ maxLen := by
  unfold maxLen
  omega
theorem gx_dep {n : Nat} {e : Ex} (h : GX n e) : Dep (n + 2) e := by
  induction h with
  | col n t nm h => exact dep_leaf _ _ _ _ _ _ _ es_small (small12 (column_len h).1) (small12 (column_len h).2)
  | lit n v hv h0 => exact dep_leaf _ _ _ _ _ _ _ (validVal_ok hv).1.1 es_small es_small
  | num n m h1 h2 =>
    unfold numX
    split
    · refine .mk _ _ es_small es_small es_small (by intro q h; cases h) (fun x hx => ?_) (by intro q h; cases h) (by intro q h; cases h)
      have hx' : x ∈ [litX ⟨1, -m, es⟩] := hx
      rw [List.mem_singleton.1 hx']
      exact dep_leaf _ _ _ _ _ _ _ es_small es_small es_small
    · exact dep_leaf _ _ _ _ _ _ _ es_small es_small es_small
  | ops n k o no args hk ha ih => exact .mk _ _ es_small es_small es_small (by intro q h; cases h) ih (by intro q h; cases h) (by intro q h; cases h)
  | sub n k f items whr hf hi hw h1 h2 ih1 ih2 =>
    refine .mk _ _ es_small es_small es_small ?_ (by intro q h; cases h) ?_ ?_
    · intro q hq
      obtain rfl : q = .mk (k == 8) items f whr := List.mem_singleton.1 hq
      exact small12 (source_len hf)
    · intro q hq
      obtain rfl : q = .mk (k == 8) items f whr := List.mem_singleton.1 hq
      exact ih1
    · intro q hq
      obtain rfl : q = .mk (k == 8) items f whr := List.mem_singleton.1 hq
      exact ih2
theorem any_gx {n : Nat} {e : Ex} (h : AnyX n e) : GX n e := by
  induction h with
  | col n q i hq hi =>
    have hall : ∀ q ∈ qualL, ∀ i, i < 8 → columnB q (nameAt i) = true := by decide +kernel
    exact .col n q _ (hall q hq i hi)
  | lit n v hv h0 => exact .lit n v hv h0
  | ops n k o no args hk _ ih => exact .ops n k o no args hk ih
  | sub n k f items whr hf hi hw _ _ ih1 ih2 =>
    have hall : ∀ f ∈ fromL, sourceB f = true := by decide +kernel
    exact .sub n k f items whr (hall f hf) hi hw ih1 ih2
end Go.Proofs.YtpnigfmclmfjaaaGreatDoor
