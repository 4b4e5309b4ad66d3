/- A map of numbers to truth values, filled in whatever order. No program is named here. Which fields of an expression are zero: the contract of syntax.bare. Tables of queries, columns, numbers of arguments: contracts of source, column and arguments of syntax. -/
import Derived.Test.YtkhlmofcdchccaaGreatDoorU01
import Derived.Test.YtkhlmofcdchccaaGreatDoorU02
import Derived.Test.YtkhlmofcdchccaaGreatDoorU03
import Derived.Maps.RangeWalk
import Derived.Maps.OwnSet
import Derived.Deep.RegionHeld3
import Derived.Deep.CutBlock
namespace Go.Proofs.YtkhlmofcdchccaaGreatDoor
open Go.RowKit Go.Maps

/-- Block b is a map of these entries. -/
def MapHas (P : Program) (k e : TypeId) (w : World) (b : Nat) (l : List (Int × Bool)) : Prop :=
  ∃ D : DataW Unit, w.ownsMap P k (plainElem P e) b l.length D ∧ (∀ x : Int, Maps.has D (.int .i64 x) = true ↔ ∃ v, (x, v) ∈ l) ∧ ∀ (x : Int) (v : Bool), (x, v) ∈ l → ∀ zd, D.atKey (.int .i64 x) zd = .lit (.bool v)

theorem MapHas.made (P : Program) (k e : TypeId) (w : World) : MapHas P k e (w.alloc (.map #[] 0)) w.heap.size [] :=
  ⟨.map [], World.ownsMap_made .., fun x => by simp [Maps.has], fun x v h => by cases h⟩

theorem MapHas.kept {P : Program} {k e : TypeId} {w w' : World} {b : Nat} {l : List (Int × Bool)} {row : Option Nat} (h : MapHas P k e w b l) (hg : w.grownBy w' row) (hne : some b ≠ row) : MapHas P k e w' b l := by
  obtain ⟨D, h1, h2, h3⟩ := h
  exact ⟨D, h1.kept hg hne, h2, h3⟩

theorem MapHas.put {P : Program} {k e t : TypeId} {w : World} {b : Nat} {l : List (Int × Bool)} (h : MapHas P k e w b l) (hk : P.underlying k = some (.int .i64)) (he : P.underlying e = some .bool) (ht : P.underlying t = some (.map k e)) (hl : l.length < 100)
    (x : Int) (v : Bool) (hx : (Lit.int .i64 x).wf = true) (hnew : ∀ y ∈ l, y.1 ≠ x) :
    ∃ w', (Instr.mapUpdate t (.map (some b)) (.int .i64 x) (.bool v)).run P w = .ok () w' ∧ MapHas P k e w' b ((x, v) :: l) ∧ w.grownBy w' (some b) := by
  obtain ⟨D, h1, h2, h3⟩ := h
  obtain ⟨w', g1, g2, g3⟩ := h1.update (int_keyed hk) ht (by unfold maxLen; omega) (keyOf_int_mk hk hx) (plainElem_bool he v)
  have hm := h1.isMap
  have hne : ∀ y : Int, y ≠ x → (Lit.int .i64 y) ≠ .int .i64 x := fun y hy he => by simp at he; exact hy he
  refine ⟨w', g1, ⟨_, g2, fun y => ?_, fun y u hy zd => ?_⟩, g3⟩
  · by_cases e : y = x
    · subst e
      rw [has_put_same hm (show WideAt.IsKeyLit (.int .i64 y) from trivial)]
      simp only [true_iff]
      exact ⟨v, by simp⟩
    · rw [has_put_other (hne y e), h2]
      constructor
      · rintro ⟨u, hu⟩; exact ⟨u, by simp [hu]⟩
      · rintro ⟨u, hu⟩
        rcases List.mem_cons.1 hu with hu | hu
        · simp at hu; exact absurd hu.1 e
        · exact ⟨u, hu⟩
  · rcases List.mem_cons.1 hy with hy | hy
    · simp at hy
      obtain ⟨rfl, rfl⟩ := hy
      rw [atKey_put_same hm (show WideAt.IsKeyLit (.int .i64 y) from trivial)]
    · rw [atKey_put_other (hne y (hnew _ hy))]
      exact h3 y u hy zd

/-! ### Six entries of one literal, in whatever order -/
def base6 : List Nat := [4, 8, 13, 22, 27, 32]
def keyOf6 (i : Nat) : Int := if i = 4 then 1 else if i = 8 then 2 else if i = 13 then 4 else if i = 22 then 8 else if i = 27 then 16 else 32
def tmpOf6 (i : Nat) : Nat := if i = 4 then 11 else if i = 8 then 14 else if i = 13 then 18 else if i = 22 then 26 else if i = 27 then 30 else 34
def subs6 : List Nat → List (List Nat)
  | [] => [[]]
  | x :: l => subs6 l ++ (subs6 l).map (x :: ·)
/-- All have come up but R and the two last. -/
def listed6 (R : List Nat) : Array Bool := (Array.range 35).map fun i => !(R.contains i || i == 33 || i == 34)

theorem six_sub : ∀ R ∈ subs6 base6, ∀ i ∈ R, i ∈ base6 ∧ (listed6 R).setIfInBounds i true = listed6 (R.erase i) ∧ R.erase i ∈ subs6 base6 ∧ (R.erase i).length + 1 = R.length ∧ (∀ j ∈ base6, j ∈ R.erase i ↔ j ∈ R ∧ j ≠ i) := by
  decide +kernel
theorem six_keys : ∀ i ∈ base6, ∀ j ∈ base6, keyOf6 i = keyOf6 j → i = j := by decide
theorem six_wf : ∀ i ∈ base6, (Lit.int .i64 (keyOf6 i)).wf = true := by decide

theorem ins_all {P : Program} {ops : Array Oper} {Q : Exit → Act → World → Prop} {S : World → Prop} {k e t : TypeId} (b : Nat) (a : Act) (W0 : World) (v : Nat → Bool) (hk : P.underlying k = some (.int .i64)) (he : P.underlying e = some .bool) (ht : P.underlying t = some (.map k e))
    (hm : a.eval (.tmp 8) = .map (some b)) (hv : ∀ i ∈ base6, a.eval (.tmp (tmpOf6 i)) = .bool (v i))
    (hops : ∀ i ∈ base6, ∃ o, ops[i]? = some o ∧ o.op = .insert t (.tmp 8) (.const (.int .i64 (keyOf6 i))) (.tmp (tmpOf6 i)) ∧ o.dst = none ∧ o.guard = none)
    (hready : ∀ R ∈ subs6 base6, R ≠ [] → Region.ready .any ops (listed6 R) = R)
    (hS : ∀ w w', S w → w.grownBy w' (some b) → S w')
    (hend : ∀ w l, MapHas P k e w b l → l.length ≤ 6 → (∀ p, p ∈ l ↔ ∃ i ∈ base6, p = (keyOf6 i, v i)) → S w → W0.grownBy w (some b) → wpAnyH P .any ops Q S 2 (listed6 []) a w) :
    ∀ (n : Nat) (R : List Nat) (w : World) (l : List (Int × Bool)), R.length = n → R ∈ subs6 base6 → MapHas P k e w b l → l.length + n = 6 → (∀ p, p ∈ l ↔ ∃ i ∈ base6, i ∉ R ∧ p = (keyOf6 i, v i)) → S w → W0.grownBy w (some b) → wpAnyH P .any ops Q S (n + 2) (listed6 R) a w
  | 0, R, w, l, hn, hR, hl, h6, hmem, hSw, hg => by
    obtain rfl := List.length_eq_zero_iff.1 hn
    exact hend w l hl (by omega) (fun p => by simpa using hmem p) hSw hg
  | n + 1, R, w, l, hn, hR, hl, h6, hmem, hSw, hg => by
    have hne : R ≠ [] := by rintro rfl; cases hn
    refine wpAnyH_ready (hready R hR hne) hne ?_
    intro i hi
    obtain ⟨hib, hset, hRe, hlen, hej⟩ := six_sub R hR i hi
    obtain ⟨o, ho, hop, hd, hgd⟩ := hops i hib
    refine wpOp_step ho fun K' hK => ?_
    have hw : Region.wanted o (yielded ops a.tmps) = true := by unfold Region.wanted; rw [hgd]
    rw [if_pos hw]
    obtain ⟨w', hrun, hl', hg'⟩ := hl.put hk he ht (by omega) (keyOf6 i) (v i) (six_wf i hib) (fun y hy hyk => by
      obtain ⟨j, hj, hjR, rfl⟩ := (hmem y).1 hy
      exact hjR ((six_keys j hj i hib hyk) ▸ hi))
    have hev : a.eval (.const (.int .i64 (keyOf6 i))) = .int .i64 (keyOf6 i) := rfl
    unfold Oper.wp
    simp [execOp, hop, hm, hv i hib, hev, hrun, Result.andThen]
    show K' (a.put o.dst undef) w'
    rw [hd]
    refine hK _ _ ?_
    refine ⟨hS _ _ hSw hg', ?_⟩
    rw [hset]
    refine ins_all b a W0 v hk he ht hm hv hops hready hS hend n (R.erase i) w' _ (by omega) hRe hl' (by simp; omega) (fun p => ?_) (hS _ _ hSw hg') (hg.andThen hg' fun j hj => .inr hj)
    rw [List.mem_cons]
    constructor
    · rintro (rfl | hp)
      · exact ⟨i, hib, fun h => ((hej i hib).1 h).2 rfl, rfl⟩
      · obtain ⟨j, hj, hjR, rfl⟩ := (hmem p).1 hp
        exact ⟨j, hj, fun h => hjR ((hej j hj).1 h).1, rfl⟩
    · rintro ⟨j, hj, hjR, rfl⟩
      by_cases e : j = i
      · subst e; exact .inl rfl
      · exact .inr ((hmem _).2 ⟨j, hj, fun h => hjR ((hej j hj).2 ⟨h, e⟩), rfl⟩)
end Go.Proofs.YtkhlmofcdchccaaGreatDoor

namespace Go.Proofs.YtkhlmofcdchccaaGreatDoor
open Go.RowKit Go.Maps

theorem wpAnyH_listed {P : Program} {md : Region.Mode} {ops : Array Oper} {Q : Exit → Act → World → Prop} {S : World → Prop} {fuel : Nat} {L L' : Array Bool} {a : Act} {w : World} (h : L = L') (hw : wpAnyH P md ops Q S fuel L' a w) : wpAnyH P md ops Q S fuel L a w := h ▸ hw

theorem cells9 {W W' : World} {q : Nat} {v1 v2 v3 v4 v5 v6 v7 v8 v9 : Value} (hc : ∀ i, W'.cell? ⟨q, i, none⟩ = W.cell? ⟨q, i, none⟩)
    (h : W.cell? ⟨q, 1, none⟩ = some v1 ∧ W.cell? ⟨q, 2, none⟩ = some v2 ∧ W.cell? ⟨q, 3, none⟩ = some v3 ∧ W.cell? ⟨q, 4, none⟩ = some v4 ∧ W.cell? ⟨q, 5, none⟩ = some v5 ∧ W.cell? ⟨q, 6, none⟩ = some v6 ∧ W.cell? ⟨q, 7, none⟩ = some v7 ∧ W.cell? ⟨q, 8, none⟩ = some v8 ∧ W.cell? ⟨q, 9, none⟩ = some v9) :
    W'.cell? ⟨q, 1, none⟩ = some v1 ∧ W'.cell? ⟨q, 2, none⟩ = some v2 ∧ W'.cell? ⟨q, 3, none⟩ = some v3 ∧ W'.cell? ⟨q, 4, none⟩ = some v4 ∧ W'.cell? ⟨q, 5, none⟩ = some v5 ∧ W'.cell? ⟨q, 6, none⟩ = some v6 ∧ W'.cell? ⟨q, 7, none⟩ = some v7 ∧ W'.cell? ⟨q, 8, none⟩ = some v8 ∧ W'.cell? ⟨q, 9, none⟩ = some v9 := by
  simp only [hc]
  exact h

theorem plainElem_bool_inv {P : Program} {H : Type} {e : TypeId} (he : P.underlying e = some .bool) {v : Value} {y : DataW H × List MemPlace} (h : plainElem (H := H) P e v = some y) : ∃ c, v = .bool c ∧ y = (.lit (.bool c), []) := by
  cases v <;> simp [plainElem, he] at h
  exact ⟨_, rfl, h.symm⟩

/-- An entry of such a map comes up, or none is left. -/
theorem wpList_next_six {P : Program} (w : World) {ops : Array Oper} {rest : List Oper} {o : Oper} {a : Act} {Q : Exit → Act → World → Prop} (hg : o.guard = none) (it : Operand) (hop : o.op = Op.next it false) {k e : TypeId} (hk : P.underlying k = some (.int .i64)) (he : P.underlying e = some .bool)
    (v : Nat → Bool) (b r n : Nat) (D : DataW Unit) (l : List (Int × Bool)) (left : Lit → Bool) (cnt : Nat) (hit : a.eval it = .pointer (some ⟨r, 0, none⟩)) (h : w.ranges P k (plainElem P e) b r n D left cnt)
    (hhas : ∀ x : Int, Maps.has D (.int .i64 x) = true ↔ ∃ u, (x, u) ∈ l) (hat : ∀ (x : Int) (u : Bool), (x, u) ∈ l → ∀ zd, D.atKey (.int .i64 x) zd = .lit (.bool u)) (hmem : ∀ p, p ∈ l ↔ ∃ i ∈ base6, p = (keyOf6 i, v i)) (hlD : ∀ kl, left kl = true → Maps.has D kl = true)
    (hDone : (∀ kl, left kl = false) → wpList P ops Q rest (a.put o.dst (.tuple #[.bool false])) w)
    (hMore : ∀ (i : Nat) (w' : World) (cnt' : Nat), i ∈ base6 → left (.int .i64 (keyOf6 i)) = true → w'.ranges P k (plainElem P e) b r n D (fun z => left z && !z.sameKey (.int .i64 (keyOf6 i))) cnt' → cnt' < cnt →
      w.grownBy w' (some r) → (Instr.entry (.pointer (some ⟨r, 0, none⟩))).run P w' = .ok (.tuple #[.int .i64 (keyOf6 i), .bool (v i)]) w' → wpList P ops Q rest (a.put o.dst (.tuple #[.bool true, .int .i64 (keyOf6 i), .bool (v i)])) w') :
    wpList P ops Q (o :: rest) a w :=
  wpList_next_ranges w hg it hop k (int_keyed hk) (plainElem P e) (Value.int .i64) Value.bool (fun key kl hkey => (by obtain ⟨x, rfl, _⟩ := keyOf_int_inv hk hkey; exact ⟨x, rfl⟩)) (fun u y hv => (by obtain ⟨c, rfl, _⟩ := plainElem_bool_inv he hv; exact ⟨c, rfl⟩)) b r n D left cnt hit h (fun _ hl => hDone hl)
    fun x c kl y w1 cnt1 hkey hlk hv hat1 hrg1 hlt hg1 hs1 hen => by
      obtain ⟨x', hx', rfl, _⟩ := keyOf_int_inv hk hkey
      cases hx'
      obtain ⟨c', hc', rfl⟩ := plainElem_bool_inv he hv
      cases hc'
      obtain ⟨u, hvm⟩ := (hhas x).1 (hlD _ hlk)
      obtain ⟨i, hi, hix⟩ := (hmem _).1 hvm
      have hx : x = keyOf6 i := congrArg Prod.fst hix
      have hvi : u = v i := congrArg Prod.snd hix
      have hcv : c = u := by have h1 := (hat1 (.lit (.bool c))).symm.trans (hat x u hvm (.lit (.bool c))); simpa using h1
      subst hcv
      subst hx
      subst hvi
      exact hMore i w1 cnt1 hi hlk hrg1 hlt hg1 hen

theorem bnot_and {a b : Bool} (h : (a && !b) = false) : a = false ∨ b = true := by
  cases a <;> cases b <;> simp_all
theorem same_int {x y : Int} (h : (Lit.int .i64 x).sameKey (.int .i64 y) = true) : x = y := by
  simpa [Lit.sameKey] using h

/-- u does not have the bit x. -/
def offB (u x : Int) : Bool := bits .and .i64 u x == 0

/-- The six answers. -/
def bareV (o : Int) (no : Bool) (vk vi : Int) (vt t nm : ByteArray) (an sn : Nat) (i : Nat) : Bool :=
  if i = 4 then o == 0 else if i = 8 then !no else if i = 13 then decide (vk = 0) && decide (vi = 0) && noText vt else if i = 22 then noText t && noText nm else if i = 27 then an == 0 else sn == 0

def bareB (u : Int) (v : Nat → Bool) : Bool := base6.all fun i => !(offB u (keyOf6 i)) || v i
theorem bareB_true {u : Int} {v : Nat → Bool} (h : ∀ i ∈ base6, offB u (keyOf6 i) = true → v i = true) : bareB u v = true := by
  unfold bareB
  rw [List.all_eq_true]
  intro i hi
  cases ho : offB u (keyOf6 i)
  · rfl
  · rw [h i hi ho]; rfl
theorem bareB_false {u : Int} {v : Nat → Bool} {i : Nat} (hi : i ∈ base6) (h1 : offB u (keyOf6 i) = true) (h2 : v i = false) : bareB u v = false := by
  rw [Bool.eq_false_iff]
  intro h
  have h3 := List.all_eq_true.1 h i hi
  rw [h1, h2] at h3
  cases h3

set_option maxRecDepth 100000 in
set_option maxHeartbeats 4000000 in
theorem bare_any (k o : Int) (no : Bool) (vk vi : Int) (vt t nm : ByteArray) (a s : Option Addr) (an sn ac sc : Nat) (u : Int) (w : World) :
    Calls Tryz.prog 50 #[.agg #[.int .i64 k, .int .i64 o, .bool no, .int .i64 vk, .int .i64 vi, .string vt, .string t, .string nm, .slice a an ac, .slice s sn sc], .int .i64 u] w (RetBel (.bool (bareB u (bareV o no vk vi vt t nm an sn))) w) := by
  go_enter Tryz.func50, Tryz.ntmps50
  go_wp2_with fail
  generalize hW : World.alloc w _ = W1
  have hk0 := blk10 (show W1.heap[w.heap.size]? = some (.cells #[.int .i64 k, .int .i64 o, .bool no, .int .i64 vk, .int .i64 vi, .string vt, .string t, .string nm, .slice a an ac, .slice s sn sc] 30 (0, 0)) by rw [← hW]; exact heap_alloc_new w _)
  obtain ⟨x0, x1, x2, x3, x4, x5, x6, x7, x8, x9, _, xz⟩ := hk0
  have hb1 : Below w.heap.size w W1 := by rw [← hW]; exact (Below.refl _ _).alloc (Nat.le_refl _) _
  clear hW
  have HB1 := Lib.hid hb1
  clear hb1
  go_cut [5] (fun m wx => ∃ l : List (Int × Bool), m = .map (some W1.heap.size) ∧ MapHas Tryz.prog 3 4 wx W1.heap.size l ∧ l.length ≤ 6 ∧ (∀ p, p ∈ l ↔ ∃ i ∈ base6, p = (keyOf6 i, bareV o no vk vi vt t nm an sn i)) ∧ Below w.heap.size w wx)
  case first =>
    refine wp_region_noPanic ?_
    refine wp_region_held_drew (S := fun w' => w'.cell? ⟨w.heap.size, 1, none⟩ = some (.int .i64 o) ∧ w'.cell? ⟨w.heap.size, 2, none⟩ = some (.bool no) ∧ w'.cell? ⟨w.heap.size, 3, none⟩ = some (.int .i64 vk) ∧ w'.cell? ⟨w.heap.size, 4, none⟩ = some (.int .i64 vi) ∧ w'.cell? ⟨w.heap.size, 5, none⟩ = some (.string vt) ∧ w'.cell? ⟨w.heap.size, 6, none⟩ = some (.string t) ∧ w'.cell? ⟨w.heap.size, 7, none⟩ = some (.string nm) ∧ w'.cell? ⟨w.heap.size, 8, none⟩ = some (.slice a an ac) ∧ w'.cell? ⟨w.heap.size, 9, none⟩ = some (.slice s sn sc)) (by kernel_rfl) ?_ (fun hHeld => ?_)
    · exact ⟨x1, x2, x3, x4, x5, x6, x7, x8, x9⟩
    refine wpAnyH_take (i := 1) (v := _) rfl (by kernel_rfl) (by kernel_rfl) (by kernel_rfl) (fun _ _ _ h => h) (Or.inl ⟨by rfl, by (intro w hSw; (try dsimp only at hSw); go_simp; (try with_reducible rfl))⟩) (by assumption) ?_
    simp only [Act.put, List.getElem_toArray, List.getElem_cons_succ, List.getElem_cons_zero, List.setIfInBounds_toArray, List.set_cons_zero, List.set_cons_succ]
    refine wpAnyH_take (i := 2) (v := _) rfl (by kernel_rfl) (by kernel_rfl) (by kernel_rfl) (fun _ _ _ h => h) (Or.inl ⟨by rfl, by (intro w hSw; (try dsimp only at hSw); go_simp; (try with_reducible rfl))⟩) (by assumption) ?_
    simp only [Act.put, List.getElem_toArray, List.getElem_cons_succ, List.getElem_cons_zero, List.setIfInBounds_toArray, List.set_cons_zero, List.set_cons_succ]
    refine wpAnyH_take (i := 3) (v := _) rfl (by kernel_rfl) (by kernel_rfl) (by kernel_rfl) (fun _ _ _ h => h) (Or.inl ⟨by rfl, by (intro w hSw; (try dsimp only at hSw); go_simp; (try with_reducible rfl))⟩) (by assumption) ?_
    simp only [Act.put, List.getElem_toArray, List.getElem_cons_succ, List.getElem_cons_zero, List.setIfInBounds_toArray, List.set_cons_zero, List.set_cons_succ]
    refine wpAnyH_take (i := 5) (v := _) rfl (by kernel_rfl) (by kernel_rfl) (by kernel_rfl) (fun _ _ _ h => h) (Or.inl ⟨by rfl, by (intro w hSw; (try dsimp only at hSw); go_simp; (try with_reducible rfl))⟩) (by assumption) ?_
    simp only [Act.put, List.getElem_toArray, List.getElem_cons_succ, List.getElem_cons_zero, List.setIfInBounds_toArray, List.set_cons_zero, List.set_cons_succ]
    refine wpAnyH_take (i := 6) (v := _) rfl (by kernel_rfl) (by kernel_rfl) (by kernel_rfl) (fun _ _ _ h => h) (Or.inl ⟨by rfl, by (intro w hSw; (try dsimp only at hSw); go_simp; (try with_reducible rfl))⟩) (by assumption) ?_
    simp only [Act.put, List.getElem_toArray, List.getElem_cons_succ, List.getElem_cons_zero, List.setIfInBounds_toArray, List.set_cons_zero, List.set_cons_succ]
    refine wpAnyH_take (i := 7) (v := _) rfl (by kernel_rfl) (by kernel_rfl) (by kernel_rfl) (fun _ _ _ h => h) (Or.inl ⟨by rfl, by (intro w hSw; (try dsimp only at hSw); go_simp; (try with_reducible rfl))⟩) (by assumption) ?_
    simp only [Act.put, List.getElem_toArray, List.getElem_cons_succ, List.getElem_cons_zero, List.setIfInBounds_toArray, List.set_cons_zero, List.set_cons_succ]
    refine wpAnyH_take (i := 9) (v := _) rfl (by kernel_rfl) (by kernel_rfl) (by kernel_rfl) (fun _ _ _ h => h) (Or.inl ⟨by rfl, by (intro w hSw; (try dsimp only at hSw); go_simp; (try with_reducible rfl))⟩) (by assumption) ?_
    simp only [Act.put, List.getElem_toArray, List.getElem_cons_succ, List.getElem_cons_zero, List.setIfInBounds_toArray, List.set_cons_zero, List.set_cons_succ]
    refine wpAnyH_take (i := 10) (v := _) rfl (by kernel_rfl) (by kernel_rfl) (by kernel_rfl) (fun _ _ _ h => h) (Or.inl ⟨by rfl, by (intro w hSw; (try dsimp only at hSw); go_simp; (try with_reducible rfl))⟩) (by assumption) ?_
    simp only [Act.put, List.getElem_toArray, List.getElem_cons_succ, List.getElem_cons_zero, List.setIfInBounds_toArray, List.set_cons_zero, List.set_cons_succ]
    refine wpAnyH_take (i := 11) (v := _) rfl (by kernel_rfl) (by kernel_rfl) (by kernel_rfl) (fun _ _ _ h => h) (Or.inl ⟨by rfl, by (intro w hSw; (try dsimp only at hSw); go_simp; (try with_reducible rfl))⟩) (by assumption) ?_
    simp only [Act.put, List.getElem_toArray, List.getElem_cons_succ, List.getElem_cons_zero, List.setIfInBounds_toArray, List.set_cons_zero, List.set_cons_succ]
    refine wpAnyH_take (i := 12) (v := .bool (decide (vk = 0) && decide (vi = 0) && noText vt)) rfl (by kernel_rfl) (by kernel_rfl) (by kernel_rfl) (fun _ _ _ h => h) (Or.inl ⟨by rfl, by (intro w hSw; (try dsimp only at hSw); go_simp; unfold noText; (repeat' split) <;> simp_all)⟩) (by assumption) ?_
    simp only [Act.put, List.getElem_toArray, List.getElem_cons_succ, List.getElem_cons_zero, List.setIfInBounds_toArray, List.set_cons_zero, List.set_cons_succ]
    refine wpAnyH_take (i := 14) (v := _) rfl (by kernel_rfl) (by kernel_rfl) (by kernel_rfl) (fun _ _ _ h => h) (Or.inl ⟨by rfl, by (intro w hSw; (try dsimp only at hSw); go_simp; (try with_reducible rfl))⟩) (by assumption) ?_
    simp only [Act.put, List.getElem_toArray, List.getElem_cons_succ, List.getElem_cons_zero, List.setIfInBounds_toArray, List.set_cons_zero, List.set_cons_succ]
    refine wpAnyH_take (i := 15) (v := _) rfl (by kernel_rfl) (by kernel_rfl) (by kernel_rfl) (fun _ _ _ h => h) (Or.inl ⟨by rfl, by (intro w hSw; (try dsimp only at hSw); go_simp; (try with_reducible rfl))⟩) (by assumption) ?_
    simp only [Act.put, List.getElem_toArray, List.getElem_cons_succ, List.getElem_cons_zero, List.setIfInBounds_toArray, List.set_cons_zero, List.set_cons_succ]
    refine wpAnyH_take (i := 16) (v := _) rfl (by kernel_rfl) (by kernel_rfl) (by kernel_rfl) (fun _ _ _ h => h) (Or.inl ⟨by rfl, by (intro w hSw; (try dsimp only at hSw); go_simp; (try with_reducible rfl))⟩) (by assumption) ?_
    simp only [Act.put, List.getElem_toArray, List.getElem_cons_succ, List.getElem_cons_zero, List.setIfInBounds_toArray, List.set_cons_zero, List.set_cons_succ]
    refine wpAnyH_take (i := 17) (v := _) rfl (by kernel_rfl) (by kernel_rfl) (by kernel_rfl) (fun _ _ _ h => h) (Or.inl ⟨by rfl, by (intro w hSw; (try dsimp only at hSw); go_simp; (try with_reducible rfl))⟩) (by assumption) ?_
    simp only [Act.put, List.getElem_toArray, List.getElem_cons_succ, List.getElem_cons_zero, List.setIfInBounds_toArray, List.set_cons_zero, List.set_cons_succ]
    generalize hbt : t.toList.isEmpty = b
    refine wpAnyH_take (i := 18) (v := if b then .pointer (some ⟨w.heap.size, 7, none⟩) else undef) rfl (by kernel_rfl) (by kernel_rfl) (by kernel_rfl) (fun _ _ _ h => h) (by cases b; exact Or.inr ⟨by rfl, rfl⟩; exact Or.inl ⟨by rfl, by (intro w hSw; (try dsimp only at hSw); go_simp; (try with_reducible rfl))⟩) (by assumption) ?_
    simp only [Act.put, List.getElem_toArray, List.getElem_cons_succ, List.getElem_cons_zero, List.setIfInBounds_toArray, List.set_cons_zero, List.set_cons_succ]
    refine wpAnyH_take (i := 19) (v := if b then .string nm else undef) rfl (by kernel_rfl) (by kernel_rfl) (by kernel_rfl) (fun _ _ _ h => h) (by cases b; exact Or.inr ⟨by rfl, rfl⟩; exact Or.inl ⟨by rfl, by (intro w hSw; (try dsimp only at hSw); go_simp; (try with_reducible rfl))⟩) (by assumption) ?_
    simp only [Act.put, List.getElem_toArray, List.getElem_cons_succ, List.getElem_cons_zero, List.setIfInBounds_toArray, List.set_cons_zero, List.set_cons_succ]
    refine wpAnyH_take (i := 20) (v := if b then .bool nm.toList.isEmpty else undef) rfl (by kernel_rfl) (by kernel_rfl) (by kernel_rfl) (fun _ _ _ h => h) (by cases b; exact Or.inr ⟨by rfl, rfl⟩; exact Or.inl ⟨by rfl, by (intro w hSw; (try dsimp only at hSw); go_simp; (try with_reducible rfl))⟩) (by assumption) ?_
    simp only [Act.put, List.getElem_toArray, List.getElem_cons_succ, List.getElem_cons_zero, List.setIfInBounds_toArray, List.set_cons_zero, List.set_cons_succ]
    refine wpAnyH_take (i := 21) (v := .bool (b && nm.toList.isEmpty)) rfl (by kernel_rfl) (by kernel_rfl) (by kernel_rfl) (fun _ _ _ h => h) (Or.inl ⟨by rfl, by (intro w hSw; (try dsimp only at hSw); cases b; rfl; rfl)⟩) (by assumption) ?_
    simp only [Act.put, List.getElem_toArray, List.getElem_cons_succ, List.getElem_cons_zero, List.setIfInBounds_toArray, List.set_cons_zero, List.set_cons_succ]
    generalize (if b = true then Value.pointer (some ⟨w.heap.size, 7, none⟩) else undef) = z1
    generalize (if b = true then Value.string nm else undef) = z2
    generalize (if b = true then Value.bool nm.toList.isEmpty else undef) = z3
    refine wpAnyH_take (i := 23) (v := _) rfl (by kernel_rfl) (by kernel_rfl) (by kernel_rfl) (fun _ _ _ h => h) (Or.inl ⟨by rfl, by (intro w hSw; (try dsimp only at hSw); go_simp; (try with_reducible rfl))⟩) (by assumption) ?_
    simp only [Act.put, List.getElem_toArray, List.getElem_cons_succ, List.getElem_cons_zero, List.setIfInBounds_toArray, List.set_cons_zero, List.set_cons_succ]
    refine wpAnyH_take (i := 24) (v := _) rfl (by kernel_rfl) (by kernel_rfl) (by kernel_rfl) (fun _ _ _ h => h) (Or.inl ⟨by rfl, by (intro w hSw; (try dsimp only at hSw); go_simp; (try with_reducible rfl))⟩) (by assumption) ?_
    simp only [Act.put, List.getElem_toArray, List.getElem_cons_succ, List.getElem_cons_zero, List.setIfInBounds_toArray, List.set_cons_zero, List.set_cons_succ]
    refine wpAnyH_take (i := 25) (v := _) rfl (by kernel_rfl) (by kernel_rfl) (by kernel_rfl) (fun _ _ _ h => h) (Or.inl ⟨by rfl, by (intro w hSw; (try dsimp only at hSw); go_simp; (try with_reducible rfl))⟩) (by assumption) ?_
    simp only [Act.put, List.getElem_toArray, List.getElem_cons_succ, List.getElem_cons_zero, List.setIfInBounds_toArray, List.set_cons_zero, List.set_cons_succ]
    refine wpAnyH_take (i := 26) (v := _) rfl (by kernel_rfl) (by kernel_rfl) (by kernel_rfl) (fun _ _ _ h => h) (Or.inl ⟨by rfl, by (intro w hSw; (try dsimp only at hSw); go_simp; (try with_reducible rfl))⟩) (by assumption) ?_
    simp only [Act.put, List.getElem_toArray, List.getElem_cons_succ, List.getElem_cons_zero, List.setIfInBounds_toArray, List.set_cons_zero, List.set_cons_succ]
    refine wpAnyH_take (i := 28) (v := _) rfl (by kernel_rfl) (by kernel_rfl) (by kernel_rfl) (fun _ _ _ h => h) (Or.inl ⟨by rfl, by (intro w hSw; (try dsimp only at hSw); go_simp; (try with_reducible rfl))⟩) (by assumption) ?_
    simp only [Act.put, List.getElem_toArray, List.getElem_cons_succ, List.getElem_cons_zero, List.setIfInBounds_toArray, List.set_cons_zero, List.set_cons_succ]
    refine wpAnyH_take (i := 29) (v := _) rfl (by kernel_rfl) (by kernel_rfl) (by kernel_rfl) (fun _ _ _ h => h) (Or.inl ⟨by rfl, by (intro w hSw; (try dsimp only at hSw); go_simp; (try with_reducible rfl))⟩) (by assumption) ?_
    simp only [Act.put, List.getElem_toArray, List.getElem_cons_succ, List.getElem_cons_zero, List.setIfInBounds_toArray, List.set_cons_zero, List.set_cons_succ]
    refine wpAnyH_take (i := 30) (v := _) rfl (by kernel_rfl) (by kernel_rfl) (by kernel_rfl) (fun _ _ _ h => h) (Or.inl ⟨by rfl, by (intro w hSw; (try dsimp only at hSw); go_simp; (try with_reducible rfl))⟩) (by assumption) ?_
    simp only [Act.put, List.getElem_toArray, List.getElem_cons_succ, List.getElem_cons_zero, List.setIfInBounds_toArray, List.set_cons_zero, List.set_cons_succ]
    refine wpAnyH_take (i := 31) (v := _) rfl (by kernel_rfl) (by kernel_rfl) (by kernel_rfl) (fun _ _ _ h => h) (Or.inl ⟨by rfl, by (intro w hSw; (try dsimp only at hSw); go_simp; (try with_reducible rfl))⟩) (by assumption) ?_
    simp only [Act.put, List.getElem_toArray, List.getElem_cons_succ, List.getElem_cons_zero, List.setIfInBounds_toArray, List.set_cons_zero, List.set_cons_succ]
    refine wpAnyH_ready (rs := [0]) (by kernel_rfl) (by simp) ?_
    refine AllReadyH.cons (o := _) rfl (fun K hK => ?_) AllReadyH.nil
    have hmm := @run_makeMap Tryz.prog
    go_simp
    clear hmm
    refine hK.out _ _ ?_ (fun hHeld => ?_)
    · exact cells9 (fun i => ((Keep.refl (fun _ => False) W1).alloc (.map #[] 0)).cell (b := w.heap.size) (o := i) xz id) ⟨x1, x2, x3, x4, x5, x6, x7, x8, x9⟩
    clear hK K
    refine wpAnyH_listed (L' := listed6 base6) (by kernel_rfl) ?_
    refine ins_all (k := 3) (e := 4) (t := 181) W1.heap.size _ ((W1.alloc (.map #[] 0)).drew) (bareV o no vk vi vt t nm an sn) Tryz.underlying3 Tryz.underlying4 Tryz.underlying181 rfl ?hv ?hops ?hready ?hS ?hend 6 base6 _ [] rfl (by decide) ?hmap rfl ?hmem hHeld (World.grownBy.refl _ _)
    case hv =>
      intro i hi
      simp only [base6, List.mem_cons, List.not_mem_nil, or_false] at hi
      rcases hi with rfl | rfl | rfl | rfl | rfl | rfl
      · rfl
      · rfl
      · rfl
      · rw [← hbt]
        show Value.bool (_ && _) = Value.bool (noText t && noText nm)
        simp [noText]
      · show Value.bool _ = Value.bool (an == 0)
        cases an <;> rfl
      · show Value.bool _ = Value.bool (sn == 0)
        cases sn <;> rfl
    case hops =>
      intro i hi
      simp only [base6, List.mem_cons, List.not_mem_nil, or_false] at hi
      rcases hi with rfl | rfl | rfl | rfl | rfl | rfl
      all_goals exact ⟨_, rfl, rfl, rfl, rfl⟩
    case hready => decide +kernel
    case hS =>
      intro w' w'' hSw hg
      have hlt' : w.heap.size < w'.heap.size := World.block_lt_of_cell? w' ⟨w.heap.size, 1, none⟩ hSw.1
      exact cells9 (fun i => hg.cell_far ⟨w.heap.size, i, none⟩ hlt' (by simp; omega)) hSw
    case hmap => exact MapHas.made ..
    case hmem => exact fun p => ⟨fun h => (by cases h), fun ⟨i, h1, h2, _⟩ => absurd h1 h2⟩
    case hend =>
      intro w6 l hM hl6 hmem hSw hg
      refine wpAnyH_take (i := 33) (v := _) rfl (by kernel_rfl) (by kernel_rfl) (by kernel_rfl) (fun _ _ _ h => h) (Or.inl ⟨by rfl, by (intro w hSw; (try dsimp only at hSw); go_simp; (try with_reducible rfl))⟩) (by assumption) ?_
      simp only [Act.put, List.getElem_toArray, List.getElem_cons_succ, List.getElem_cons_zero, List.setIfInBounds_toArray, List.set_cons_zero, List.set_cons_succ]
      refine wpAnyH_take (i := 34) (v := _) rfl (by kernel_rfl) (by kernel_rfl) (by kernel_rfl) (fun _ _ _ h => h) (Or.inl ⟨by rfl, by (intro w hSw; (try dsimp only at hSw); go_simp; (try with_reducible rfl))⟩) (by assumption) ?_
      simp only [Act.put, List.getElem_toArray, List.getElem_cons_succ, List.getElem_cons_zero, List.setIfInBounds_toArray, List.set_cons_zero, List.set_cons_succ]
      refine wpAnyH_done (by kernel_rfl) ?_ _
      refine NoPanic.normal ?_
      go_wp2_with fail
      go_meet
      exact ⟨l, rfl, hM, hl6, hmem, ((HB1.out.alloc HB1.out.size _).drew).grown hg (by have := HB1.out.size; simp; omega) (by intro k h; cases h; omega)⟩
    
  case rest =>
    obtain ⟨l, rfl, ⟨D, hown, hhas, hat⟩, hl6, hmem, hb⟩ := hcut
    have hlw : W1.heap.size < wc.heap.size := by obtain ⟨_, _, h, _⟩ := hown; exact (Array.getElem?_eq_some_iff.1 h).1
    have HB := Lib.hid hb
    have HH := Lib.hid hhas
    have HAT := Lib.hid hat
    have HMEM := Lib.hid hmem
    clear hb hhas hat hmem
    go_wp2_with (first
      | (at_range; refine wpList_range_own _ rfl _ 181 rfl 3 4 (int_keyed Tryz.underlying3) Tryz.underlying181 _ W1.heap.size l.length D rfl hown ?_; intro w0 hrg0 hg0 hs0)
      | go_in)
    go_frame
    go_loopw [6] (fun _ wr => ∃ (left : Lit → Bool) (cnt : Nat), wr.ranges Tryz.prog 3 (plainElem Tryz.prog 4) W1.heap.size wc.heap.size l.length D left cnt ∧ wc.grownBy wr none ∧ (∀ kl, left kl = true → Maps.has D kl = true) ∧ (∀ i ∈ base6, left (.int .i64 (keyOf6 i)) = false → offB u (keyOf6 i) = true → bareV o no vk vi vt t nm an sn i = true))
      (fun _ wr => wr.rangeLeft W1.heap.size wc.heap.size)
    case atStart =>
      refine ⟨_, _, hrg0, hg0, fun _ h => h, fun i hi h _ => ?_⟩
      rw [(HH.out (keyOf6 i)).2 ⟨_, (HMEM.out _).2 ⟨i, hi, rfl⟩⟩] at h
      cases h
    case round =>
      rename World => wr
      obtain ⟨left, cnt, hrg, hgw, hlD, hacc⟩ := hrel
      have HLD := Lib.hid hlD
      have HACC := Lib.hid hacc
      have HGW := Lib.hid hgw
      clear hlD hacc hgw hown hrg0 hg0 hs0
      go_wp2_with (first
        | (at_next; refine wpList_next_six _ rfl _ rfl Tryz.underlying3 Tryz.underlying4 (bareV o no vk vi vt t nm an sn) W1.heap.size wc.heap.size l.length D l left cnt rfl hrg HH.out HAT.out HMEM.out HLD.out ?_ ?_)
        | go_in)
      · intro hl0
        have HL0 := Lib.hid hl0
        clear hl0
        go_wp2_with fail
        go_ret
        refine ⟨?_, HB.out.grown HGW.out (by omega) (by intro k h; cases h)⟩
        rw [bareB_true fun i hi hoff => HACC.out i hi (HL0.out _) hoff]
        rfl
      · intro i w1 cnt1 hi hlk hrg1 hlt hg1 hen
        have HEN := Lib.hid hen
        have HRG := Lib.hid hrg1
        have HRG0 := Lib.hid hrg
        have HLT := Lib.hid hlt
        have HG1 := Lib.hid (HGW.out.andThen hg1 fun j hj => by cases hj; exact .inl (Nat.le_refl _))
        clear hlk hg1 hrg hrg1 hlt
        generalize hvi : bareV o no vk vi vt t nm an sn i = vb at *
        generalize hki : keyOf6 i = x at *
        go_wp2_with fail
        · have hb0 : bits .and .i64 u x = 0 := by assumption
          have hvb : vb = false := by simpa using (show (!vb) = true by assumption)
          go_ret
          refine ⟨?_, HB.out.grown HG1.out (by omega) (by intro k h; cases h)⟩
          rw [bareB_false hi (by rw [hki]; unfold offB; rw [hb0]; rfl) (hvi.trans hvb)]
          rfl
        · have hvb : vb = true := by simpa using (show (!vb) = false by assumption)
          go_roundw
          case rel =>
            refine ⟨_, cnt1, HRG.out, HG1.out, fun kl h => HLD.out kl (Bool.and_eq_true_iff.1 h).1, fun j hj h hoff => ?_⟩
            rcases bnot_and h with h | h
            · exact HACC.out j hj h hoff
            · obtain rfl := six_keys j hj i hi (by rw [hki]; exact same_int h)
              exact hvi.trans hvb
          case measure => rw [HRG.out.left_eq, HRG0.out.left_eq]; exact HLT.out
        · have hb0 : bits .and .i64 u x ≠ 0 := by assumption
          go_roundw
          case rel =>
            refine ⟨_, cnt1, HRG.out, HG1.out, fun kl h => HLD.out kl (Bool.and_eq_true_iff.1 h).1, fun j hj h hoff => ?_⟩
            rcases bnot_and h with h | h
            · exact HACC.out j hj h hoff
            · obtain rfl := six_keys j hj i hi (by rw [hki]; exact same_int h)
              rw [hki] at hoff
              exact absurd (by simpa [offB] using hoff) hb0
          case measure => rw [HRG.out.left_eq, HRG0.out.left_eq]; exact HLT.out
end Go.Proofs.YtkhlmofcdchccaaGreatDoor

namespace Go.Proofs.YtkhlmofcdchccaaGreatDoor
open Go.RowKit

def argsOf (k : Int) : Int := if k = 3 ∨ k = 4 ∨ k = 6 then 1 else if k = 5 then 2 else if k = 7 then 3 else -1

set_option maxHeartbeats 1000000 in
theorem arguments_any (k : Int) (w : World) : Calls Tryz.prog 54 #[.int .i64 k] w fun e w' => e = .returned (.int .i64 (argsOf k)) ∧ w = w' := by
  have HQ : Hid (∀ r, argsOf k = r → argsOf k = r) := Lib.hid fun _ h => h
  generalize hr : argsOf k = r at HQ ⊢
  have HR := Lib.hid hr
  clear hr HQ
  go_enter Tryz.func54, Tryz.ntmps54
  go_wp2
  all_goals
    go_ret
    refine ⟨?_, rfl⟩
    rw [← HR.out]
    simp_all [argsOf]

set_option maxHeartbeats 1000000 in
theorem source_any (s : ByteArray) (w : World) (hs : s.size ≤ maxLen) : Calls Tryz.prog 102 #[.string s] w (RetBel (.bool (sourceB s)) w) := by
  have HV := Lib.hid fun wx => validName_any s wx hs
  have HS : Hid (sourceB s = (nameB s || s.toList == kwIns || s.toList == kwDel)) := Lib.hid rfl
  generalize nameB s = b at HV HS
  cases b
  all_goals
    go_enter Tryz.func102, Tryz.ntmps102
    go_wp2_with ((go_at_call 101); (refine (HV.out _).mono ?_); rintro e w1 ⟨rfl, hb⟩; have HB := Lib.hid hb; clear hb)
    all_goals go_ret
    all_goals
      refine ⟨ret_b ?_, HB.out⟩
      rw [HS.out]
      simp_all [kwIns, kwDel]

theorem column_split (t : ByteArray) : t = ⟨#[]⟩ ∨ t = ⟨#[78, 69, 87]⟩ ∨ t = ⟨#[79, 76, 68]⟩ ∨ t = ⟨#[73, 78, 83, 69, 82, 84, 69, 68]⟩ ∨ t = ⟨#[68, 69, 76, 69, 84, 69, 68]⟩ ∨ (t.toList ≠ [] ∧ t.toList ≠ [78, 69, 87] ∧ t.toList ≠ [79, 76, 68] ∧ t.toList ≠ kwIns ∧ t.toList ≠ kwDel) := by
  have key : ∀ l : List UInt8, t.toList = l → t = ⟨l.toArray⟩ := fun l h => by
    obtain ⟨d⟩ := t
    rw [ByteArray.toList_eq] at h
    rw [← h]
  by_cases h1 : t.toList = []
  · exact .inl (key _ h1)
  by_cases h2 : t.toList = [78, 69, 87]
  · exact .inr (.inl (key _ h2))
  by_cases h3 : t.toList = [79, 76, 68]
  · exact .inr (.inr (.inl (key _ h3)))
  by_cases h4 : t.toList = kwIns
  · exact .inr (.inr (.inr (.inl (key _ h4))))
  by_cases h5 : t.toList = kwDel
  · exact .inr (.inr (.inr (.inr (.inl (key _ h5)))))
  exact .inr (.inr (.inr (.inr (.inr ⟨h1, h2, h3, h4, h5⟩))))

set_option maxRecDepth 100000 in
set_option maxHeartbeats 1000000 in
theorem column_P_any (k o : Int) (no : Bool) (vk vi : Int) (vt t nm : ByteArray) (va vs : Value) (w : World) (ht : t.size ≤ maxLen) (hn : nm.size ≤ maxLen) :
    Calls Tryz.prog 52 #[.agg #[.int .i64 k, .int .i64 o, .bool no, .int .i64 vk, .int .i64 vi, .string vt, .string t, .string nm, va, vs]] w (RetBel (.bool (columnB t nm)) w) := by
  have HV := Lib.hid fun wx => validName_any t wx ht
  have HM := Lib.hid fun wx => validName_any nm wx hn
  rcases column_split t with rfl | rfl | rfl | rfl | rfl | ⟨h1, h2, h3, h4, h5⟩
  · have hC : columnB ⟨#[]⟩ nm = nameB nm := by unfold columnB; simp [ByteArray.toList_eq, kwIns, kwDel]
    rw [hC]
    clear HV ht hn
    generalize nameB nm = b at HM
    go_enter Tryz.func52, Tryz.ntmps52
    go_wp2_with fail
    refine (HM.out _).mono ?_
    rintro e w1 ⟨rfl, hb⟩
    have HB := Lib.hid (((Below.refl _ w).alloc (Nat.le_refl _) _).trans (hb.mono (by simp)))
    clear hb
    dsimp only
    go_wp2_with fail
    go_ret
    exact ⟨rfl, HB.out⟩
  · have hC : columnB ⟨#[78, 69, 87]⟩ nm = nameB nm := by unfold columnB; simp [ByteArray.toList_eq, kwIns, kwDel]
    rw [hC]
    clear HV ht hn
    generalize nameB nm = b at HM
    go_enter Tryz.func52, Tryz.ntmps52
    go_wp2_with fail
    refine (HM.out _).mono ?_
    rintro e w1 ⟨rfl, hb⟩
    have HB := Lib.hid (((Below.refl _ w).alloc (Nat.le_refl _) _).trans (hb.mono (by simp)))
    clear hb
    dsimp only
    go_wp2_with fail
    go_ret
    exact ⟨rfl, HB.out⟩
  · have hC : columnB ⟨#[79, 76, 68]⟩ nm = nameB nm := by unfold columnB; simp [ByteArray.toList_eq, kwIns, kwDel]
    rw [hC]
    clear HV ht hn
    generalize nameB nm = b at HM
    go_enter Tryz.func52, Tryz.ntmps52
    go_wp2_with fail
    refine (HM.out _).mono ?_
    rintro e w1 ⟨rfl, hb⟩
    have HB := Lib.hid (((Below.refl _ w).alloc (Nat.le_refl _) _).trans (hb.mono (by simp)))
    clear hb
    dsimp only
    go_wp2_with fail
    go_ret
    exact ⟨rfl, HB.out⟩
  · have hC : columnB ⟨#[73, 78, 83, 69, 82, 84, 69, 68]⟩ nm = nameB nm := by unfold columnB; simp [ByteArray.toList_eq, kwIns, kwDel]
    rw [hC]
    clear HV ht hn
    generalize nameB nm = b at HM
    go_enter Tryz.func52, Tryz.ntmps52
    go_wp2_with fail
    refine (HM.out _).mono ?_
    rintro e w1 ⟨rfl, hb⟩
    have HB := Lib.hid (((Below.refl _ w).alloc (Nat.le_refl _) _).trans (hb.mono (by simp)))
    clear hb
    dsimp only
    go_wp2_with fail
    go_ret
    exact ⟨rfl, HB.out⟩
  · have hC : columnB ⟨#[68, 69, 76, 69, 84, 69, 68]⟩ nm = nameB nm := by unfold columnB; simp [ByteArray.toList_eq, kwIns, kwDel]
    rw [hC]
    clear HV ht hn
    generalize nameB nm = b at HM
    go_enter Tryz.func52, Tryz.ntmps52
    go_wp2_with fail
    refine (HM.out _).mono ?_
    rintro e w1 ⟨rfl, hb⟩
    have HB := Lib.hid (((Below.refl _ w).alloc (Nat.le_refl _) _).trans (hb.mono (by simp)))
    clear hb
    dsimp only
    go_wp2_with fail
    go_ret
    exact ⟨rfl, HB.out⟩
  · have e1 : (t.toList == []) = false := by simpa using h1
    have e2 : (t.toList == [78, 69, 87]) = false := by simpa using h2
    have e3 : (t.toList == [79, 76, 68]) = false := by simpa using h3
    have e4 : (t.toList == [73, 78, 83, 69, 82, 84, 69, 68]) = false := by simpa [kwIns] using h4
    have e5 : (t.toList == [68, 69, 76, 69, 84, 69, 68]) = false := by simpa [kwDel] using h5
    have hC : columnB t nm = (nameB t && nameB nm) := by
      unfold columnB kwIns kwDel
      simp only [e1, e2, e3, e4, e5, Bool.false_or]
    rw [hC]
    have h6 : t.toList.isEmpty = false := by simpa using h1
    clear hC ht hn h1 h2 h3 h4 h5
    generalize nameB nm = b at HM
    generalize nameB t = b2 at HV
    cases b2
    · go_enter Tryz.func52, Tryz.ntmps52
      go_wp2_with fail
      refine (HV.out _).mono ?_
      rintro e w1 ⟨rfl, hb⟩
      have HB := Lib.hid (((Below.refl _ w).alloc (Nat.le_refl _) _).trans (hb.mono (by simp)))
      clear hb
      dsimp only
      go_wp2_with fail
      go_ret
      exact ⟨rfl, HB.out⟩
    · go_enter Tryz.func52, Tryz.ntmps52
      go_wp2_with fail
      refine (HV.out _).mono ?_
      rintro e w1 ⟨rfl, hb⟩
      have y7 : w1.cell? ⟨w.heap.size, 7, none⟩ = some (.string nm) := (hb.cell (p := ⟨w.heap.size, 7, none⟩) (by simp)).trans (by simp)
      have HB := Lib.hid (((Below.refl _ w).alloc (Nat.le_refl _) _).trans (hb.mono (by simp)))
      clear hb
      dsimp only
      go_wp2_with fail
      refine (HM.out _).mono ?_
      rintro e w2 ⟨rfl, hb⟩
      have HB2 := Lib.hid (HB.out.trans (hb.mono HB.out.size))
      clear hb
      dsimp only
      go_wp2_with fail
      go_ret
      exact ⟨rfl, HB2.out⟩
end Go.Proofs.YtkhlmofcdchccaaGreatDoor
