/- Lists that a call lets grow: what they own, and elements that lie elsewhere. No program is named here. -/
import Derived.Test.YtiheioajnfggmaaDoorB2
namespace Go.Proofs.YtiheioajnfggmaaDoor
open Go.RowKit

/-- Blocks from before, and what v owns. -/
def OldOr (s : Nat) (v : Value) (k : Nat) : Prop := k < s ∨ OwnB v k
def Old (s : Nat) (k : Nat) : Prop := k < s

/-- A reading of cells that lasts while what it avoids alone is written. -/
structure Stable {α : Type} (R : (Nat → Prop) → World → α → List Value → Prop) : Prop where
  keep : ∀ {M w w' x cs}, R M w x cs → Keep M w w' → R M w' x cs
  weak : ∀ {M M' : Nat → Prop} {w x cs}, R M w x cs → (∀ k, k < w.heap.size → M' k → M k) → R M' w x cs
  one : ∀ {M w x cs}, R M w x cs → ∀ u ∈ cs, u.oneCell' = true

theorem bel_nil {w w' : World} (h : Keep (OwnB (.slice none 0 0)) w w') : Below w.heap.size w w' := h.toBelow (Nat.le_refl _) fun k _ h => by cases h

def RowsG {α : Type} (lo : Nat) (w : World) (e : TypeId) (size : Nat) (R : (Nat → Prop) → World → α → List Value → Prop) (v : Value) (xs : List α) : Prop := RowsO lo w e size (R (OldOr lo v) w) v xs

section
variable {α : Type} {lo : Nat} {w w' : World} {e : TypeId} {size : Nat} {R : (Nat → Prop) → World → α → List Value → Prop} {v : Value} {xs : List α}

theorem RowsG.nil (lo : Nat) (w : World) (e : TypeId) (size : Nat) (R : (Nat → Prop) → World → α → List Value → Prop) : RowsG lo w e size R (.slice none 0 0) ([] : List α) := RowsO.nil ..

theorem RowsG.keep (S : Stable R) {M : Nat → Prop} (h : RowsG lo w e size R v xs) (k : Keep M w w') (hM : ∀ k, lo ≤ k → k < w.heap.size → ¬ M k) : RowsG lo w' e size R v xs :=
  RowsO.kept h k (fun b hb => hM b (h.lt hb).1 (h.lt hb).2) fun _ _ _ hc => S.keep hc (k.weak fun b hb hMb => Classical.byContradiction fun hn => hM b (Nat.le_of_not_lt fun hl => hn (.inl hl)) hb hMb)

theorem RowsG.bel (S : Stable R) (h : RowsG lo w e size R v xs) (k : Below w.heap.size w w') : RowsG lo w' e size R v xs := h.keep S (M := fun _ => False) (.bel k) fun _ _ _ => id

theorem RowsG.rows (S : Stable R) (h : RowsG lo w e size R v xs) : RowsR (Old lo) w size (R (Old lo) w) v xs :=
  (RowsO.imp h fun _ _ _ hc => S.weak hc fun _ _ hk => .inl hk).rows fun k h1 _ h2 => by unfold Old at h2; omega

theorem RowsG.shape (h : RowsG lo w e size R v xs) : ∃ a cap, v = .slice a xs.length cap ∧ xs.length ≤ maxLen := RowsO.shape h

/-- The lower bound may be lowered, where all lies above the higher. -/
theorem RowsG.of (S : Stable R) {lo' : Nat} {M : Nat → Prop} (h : RowsO lo' w e size (R M w) v xs) (hlo : lo ≤ lo') (hM : ∀ k, k < w.heap.size → OldOr lo v k → M k) : RowsG lo w e size R v xs :=
  (h.imp fun _ _ _ hc => S.weak hc hM).lower hlo

/-- The list behind an append of one thing that has just been built. -/
theorem RowsG.snoc (S : Stable R) {v' : Value} {arr : Array Value} {t : TypeId} {x : α} (h : RowsO lo w' e size (R (OldOr lo v) w) v' (xs ++ [x])) (hk : Keep (OwnB v) (w.alloc (.cells arr t)) w') (hat : ∀ k, OwnB v' k → OwnB v k ∨ k = (w.alloc (.cells arr t)).heap.size) :
    RowsG lo w' e size R v' (xs ++ [x]) := by
  have k1 : Keep (OldOr lo v) w w' := ((Keep.refl _ w).alloc _).then hk fun _ _ h => .inr h
  refine RowsO.imp h fun y _ cs hc => S.weak (S.keep (S.weak (M' := fun k => OldOr lo v k ∨ w.heap.size ≤ k) hc fun k hk hh => hh.resolve_right (by omega)) (k1.weak fun k _ h => .inl h)) fun k _ hk' => ?_
  rcases hk' with hk' | hk'
  · exact .inl (.inl hk')
  · rcases hat k hk' with h | h
    · exact .inl (.inr h)
    · exact .inr (by rw [h]; simp)

/-- append(s, T{..}): s grows by what lies in the block just built. -/
theorem wpList_appG {P : Program} {ops : Array Oper} {rest : List Oper} {o : Oper} {a : Act} {Q : Exit → Act → World → Prop} (S : Stable R) (hgd : o.guard = none) (s x : Operand) (t : TypeId)
    (ho : o.op = .call { callee := .builtin .append, args := #[s, x], argTypes := #[t, t] })
    (e : TypeId) (z : Value) (size bytes : Nat) (ht : P.underlying t = some (.slice e)) (hinfo : (P.info? e).map (fun i => (i.zero, i.size, i.bytes)) = some (some z, size, bytes)) (hzs : z.cells.size = size) (hsz : 0 < size)
    (lo : Nat) (v : Value) (b : Nat) (arr : Array Value) (xs : List α) (y : α) (hs : a.eval s = v) (hx : a.eval x = .slice (some ⟨b, 0, none⟩) 1 1) (hb : b = w.heap.size) (hown : RowsG lo w e size R v xs) (hlen : arr.toList.length = size) (hy : R (OldOr lo v) w y arr.toList)
    (hN : (xs.length + 1) * bytes ≤ 140737488355328) (hN2 : xs.length + 1 ≤ maxLen) (hlo : lo ≤ w.heap.size)
    (h : ∀ v' w', RowsG lo w' e size R v' (xs ++ [y]) → Keep (OwnB v) w w' → wpList P ops Q rest (a.put o.dst v') w') : wpList P ops Q (o :: rest) a (w.alloc (.cells arr e)) := by
  refine wpList_app hgd s x t ho e z size bytes ht hinfo hzs hsz (R := R (OldOr lo v) w) (M := fun _ => False) lo v _ xs [y] hs hx ?_ (rows_one y hb id hlen hy) (fun _ _ cs hc => S.one hc) (by simpa using hN) (by simpa using hN2) (by simp; omega) ?_
  · exact RowsO.kept hown ((Keep.refl (fun _ => False) w).alloc _) (fun _ _ => id) fun _ _ _ h => h
  · intro v' w' ho' hk hat
    exact h v' w' (RowsG.snoc S ho' hk (hat (by simp))) (((Keep.refl _ w).alloc _).trans hk)

end

end Go.Proofs.YtiheioajnfggmaaDoor
