/- A map of texts to numbers: which keys may come up. No program is named here. -/
import Derived.Test.YtkhlmofcdchccaaGreatDoorKB
import Derived.Maps.RangeWalk
import Derived.Maps.OwnSet
import Derived.StringKeys
namespace Go.Proofs.YtkhlmofcdchccaaGreatDoor
open Go.RowKit Go.Maps

/-- Block b is a map whose keys are among ks. -/
def SMap (P : Program) (k e : TypeId) (w : World) (b : Nat) (ks : List ByteArray) : Prop :=
  ∃ (D : DataW Unit) (n : Nat), n ≤ ks.length ∧ w.ownsMap P k (plainElem P e) b n D ∧ ∀ kl, Maps.has D kl = true → ∃ s ∈ ks, kl = .string s.data.toList

theorem SMap.made (P : Program) (k e : TypeId) (w : World) : SMap P k e (w.alloc (.map #[] 0)) w.heap.size [] :=
  ⟨.map [], 0, Nat.le_refl _, World.ownsMap_made .., fun kl h => by simp [Maps.has] at h⟩
theorem SMap.lt {P : Program} {k e : TypeId} {w : World} {b : Nat} {ks : List ByteArray} (h : SMap P k e w b ks) : b < w.heap.size := by
  obtain ⟨D, n, _, h1, _⟩ := h
  exact h1.lt
theorem SMap.keep {P : Program} {k e : TypeId} {w w' : World} {b : Nat} {ks : List ByteArray} {M : Nat → Prop} (h : SMap P k e w b ks) (hk : Keep M w w') (hM : ¬ M b) : SMap P k e w' b ks := by
  obtain ⟨D, n, hn, h1, h2⟩ := h
  have hlt := h1.lt
  obtain ⟨es, clock, hb, F, hs, hD⟩ := h1
  exact ⟨D, n, hn, ⟨es, clock, (hk.block b hlt hM).trans hb, F, hs, hD⟩, h2⟩

theorem wpList_insert_str {P : Program} (w : World) {ops : Array Oper} {rest : List Oper} {o : Oper} {a : Act} {Q : Exit → Act → World → Prop} (hg : o.guard = none) (m : Operand) (s : ByteArray) (x : Int) (t : TypeId)
    (hop : o.op = Op.insert t m (.const (.string s)) (.const (.int .i64 x))) (hd : o.dst = none) {k e : TypeId} (hk : P.underlying k = some .string) (he : P.underlying e = some (.int .i64)) (ht : P.underlying t = some (.map k e)) {b : Nat} {ks : List ByteArray}
    (hm : a.eval m = .map (some b)) (hx : (Lit.int .i64 x).wf = true) (hs : s.size ≤ maxLen) (hl : ks.length < 100) (h : SMap P k e w b ks)
    (hK : ∀ w', SMap P k e w' b (s :: ks) → w.grownBy w' (some b) → wpList P ops Q rest a w') : wpList P ops Q (o :: rest) a w := by
  obtain ⟨D, n, hn, h1, h2⟩ := h
  obtain ⟨w', g1, g2, g3⟩ := h1.update (string_keyed hk) ht (by unfold maxLen; omega) (WideMaps.keyOf_string_mk hk hs) (plainElem_int he hx)
  refine wpList_plain hg fun K' hK' => ?_
  unfold Oper.wp
  have e1 : a.eval (.const (.string s)) = .string s := rfl
  have e2 : a.eval (.const (.int .i64 x)) = .int .i64 x := rfl
  simp [execOp, hop, hm, e1, e2, g1, Result.andThen]
  refine hK' _ _ ?_
  rw [hd]
  show wpList P ops Q rest a w'
  refine hK w' ⟨_, n + 1, by simp; omega, g2, fun kl hkl => ?_⟩ g3
  by_cases hq : kl = .string s.data.toList
  · exact ⟨s, by simp, hq⟩
  · rw [has_put_other hq] at hkl
    obtain ⟨s', hs', e⟩ := h2 kl hkl
    exact ⟨s', List.mem_cons_of_mem _ hs', e⟩

theorem wpList_next_str {P : Program} (w : World) {ops : Array Oper} {rest : List Oper} {o : Oper} {a : Act} {Q : Exit → Act → World → Prop} (hg : o.guard = none) (it : Operand) (hop : o.op = Op.next it false) {k e : TypeId} (hk : P.underlying k = some .string) (he : P.underlying e = some (.int .i64))
    (b r n : Nat) (D : DataW Unit) (ks : List ByteArray) (left : Lit → Bool) (cnt : Nat) (hit : a.eval it = .pointer (some ⟨r, 0, none⟩)) (h : w.ranges P k (plainElem P e) b r n D left cnt)
    (hhas : ∀ kl, Maps.has D kl = true → ∃ s ∈ ks, kl = .string s.data.toList) (hlD : ∀ kl, left kl = true → Maps.has D kl = true)
    (hDone : cnt = 0 → wpList P ops Q rest (a.put o.dst (.tuple #[.bool false])) w)
    (hMore : ∀ (s : ByteArray) (c : Int) (w' : World) (left' : Lit → Bool) (cnt' : Nat), s ∈ ks → w'.ranges P k (plainElem P e) b r n D left' cnt' → (∀ kl, left' kl = true → Maps.has D kl = true) → cnt' < cnt → w.grownBy w' (some r) →
      (Instr.entry (.pointer (some ⟨r, 0, none⟩))).run P w' = .ok (.tuple #[.string s, .int .i64 c]) w' → wpList P ops Q rest (a.put o.dst (.tuple #[.bool true, .string s, .int .i64 c])) w') :
    wpList P ops Q (o :: rest) a w :=
  wpList_next_ranges w hg it hop k (string_keyed hk) (plainElem P e) Value.string (Value.int .i64) (fun key kl hkey => (by cases key <;> simp [keyOf, hk, mapKey] at hkey; exact ⟨_, rfl⟩)) (fun u y hv => (by obtain ⟨c, rfl, _⟩ := plainElem_int_inv he hv; exact ⟨c, rfl⟩)) b r n D left cnt hit h (fun h0 _ => hDone h0)
    fun x c kl y w1 cnt1 hkey hlk hv hat1 hrg1 hlt hg1 hs1 hen => by
      obtain ⟨s, hsk, rfl⟩ := hhas kl (hlD kl hlk)
      have hx : x = s := by
        obtain ⟨s', h1, h2, _⟩ := WideMaps.string_of_keyOf hk hkey
        cases h1
        have h3 : x.data.toList = s.data.toList := by simpa using h2.symm
        obtain ⟨xd⟩ := x
        obtain ⟨sd⟩ := s
        have h4 : xd = sd := Array.toList_inj.1 h3
        rw [h4]
      subst hx
      exact hMore x c w1 _ cnt1 hsk hrg1 (fun kl hkl => hlD kl (Bool.and_eq_true_iff.1 hkl).1) hlt hg1 hen
end Go.Proofs.YtkhlmofcdchccaaGreatDoor
