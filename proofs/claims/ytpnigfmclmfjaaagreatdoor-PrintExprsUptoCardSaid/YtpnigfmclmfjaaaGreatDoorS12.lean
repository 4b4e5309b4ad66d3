/- What spoiled has laid in memory on its way: the expression's box and the result's cells. -/
import Derived.Test.YtpnigfmclmfjaaaGreatDoorS11
import Derived.Test.YtpnigfmclmfjaaaGreatDoorKV3
import Derived.Test.YtpnigfmclmfjaaaGreatDoorKC4
import Derived.Laws.IdiomCopy
namespace Go.Proofs.YtpnigfmclmfjaaaGreatDoor
open Go.RowKit

theorem keep_setCells {C : Nat} : ∀ (vs : List Value) (o : Nat) (w : World), Keep (At C) w (w.setCells C o vs)
  | [], _, w => Keep.refl _ w
  | v :: vs, o, w => ((Keep.refl (At C) w).setCell (p := ⟨C, o, none⟩) (fun _ => rfl) v).trans (keep_setCells vs (o + 1) _)
theorem size_setCells {C : Nat} : ∀ (vs : List Value) (o : Nat) (w : World), (w.setCells C o vs).heap.size = w.heap.size
  | [], _, w => rfl
  | v :: vs, o, w => by rw [World.setCells, size_setCells vs (o + 1)]; simp

/-- One thing of a list is written over. -/
theorem rows_set {α : Type} {M M' : Nat → Prop} {R R' : α → List Value → Prop} {w : World} {C o n cap size : Nat} {xs : List α} (h : RowsR M w size R (.slice (some ⟨C, o, none⟩) n cap) xs) (hM' : ¬ M' C) {k : Nat} {x : α} {cs : List Value} (hk : k < xs.length) (hcs : cs.length = size)
    (hR : ∀ y ∈ xs, ∀ c, R y c → R' y c) (hx : R' x cs) : RowsR M' (w.setCells C (o + k * size) cs) size R' (.slice (some ⟨C, o, none⟩) n cap) (xs.set k x) := by
  obtain ⟨css, hs, hl, hR0⟩ := h
  rcases hs with ⟨⟨_, hv⟩, h0⟩ | ⟨b, o', cap', hv, _, hb, hlc, hm, hc⟩
  · subst h0; simp at hl; omega
  simp only [Value.slice.injEq, Option.some.injEq, Addr.mk.injEq, and_true] at hv
  obtain ⟨⟨rfl, rfl⟩, rfl, rfl⟩ := hv
  refine ⟨css.set k cs, .inr ⟨C, o, cap, by simp, hM', by rw [size_setCells]; exact hb, by simpa using hlc, hm, fun i ci hi => ?_⟩, by simpa using hl, fun i y ci hy hi => ?_⟩
  · by_cases hik : i = k
    · subst hik
      rw [List.getElem?_set_self (by omega)] at hi
      cases hi
      refine ⟨hcs, fun j u hu => ?_⟩
      obtain ⟨hj, rfl⟩ := List.getElem?_eq_some_iff.1 hu
      refine World.cell?_setCells_in C cs (o + i * size) w (fun j hj => ?_) j hj
      obtain ⟨hl2, hat⟩ := hc i css[i] (List.getElem?_eq_getElem (by omega))
      rw [hat j _ (List.getElem?_eq_getElem (by omega))]
      rfl
    · rw [List.getElem?_set_ne (fun h => hik h.symm)] at hi
      obtain ⟨hl2, hat⟩ := hc i ci hi
      refine ⟨hl2, fun j u hu => ?_⟩
      have hj : j < size := by rw [← hl2]; exact (List.getElem?_eq_some_iff.1 hu).1
      rw [World.cell?_setCells_out C cs (o + k * size) w _ fun _ _ => ?_]
      · exact hat j u hu
      · show o + i * size + j < o + k * size ∨ o + k * size + cs.length ≤ o + i * size + j
        rw [hcs]
        rcases Nat.lt_or_gt_of_ne hik with h | h
        · have := Nat.mul_le_mul_right size h
          rw [Nat.succ_mul] at this
          omega
        · have := Nat.mul_le_mul_right size h
          rw [Nat.succ_mul] at this
          omega
  · by_cases hik : i = k
    · subst hik
      rw [List.getElem?_set_self (by omega)] at hy
      rw [List.getElem?_set_self (by omega)] at hi
      cases hy
      cases hi
      exact hx
    · rw [List.getElem?_set_ne (fun h => hik h.symm)] at hy
      rw [List.getElem?_set_ne (fun h => hik h.symm)] at hi
      exact hR y (List.mem_of_getElem? hy) ci (hR0 i y ci hy hi)

/-- Blocks of M from before, and the call's own two. -/
def SpM (M : Nat → Prop) (s k : Nat) : Prop := (k < s ∧ M k) ∨ (s ≤ k ∧ k < s + 2)
/-- Blocks of M from before. -/
def OldM (M : Nat → Prop) (s k : Nat) : Prop := k < s ∧ M k
/-- Blocks of M from before, and all later ones. -/
def AllM (M : Nat → Prop) (s k : Nat) : Prop := (k < s ∧ M k) ∨ s ≤ k

def SpQ (M : Nat → Prop) (n : Nat) (w : World) (v : Value) (W : World) : Prop := ∃ e, ExV (OldM M w.heap.size) W e v ∧ Dep n e

def SpB (T : Nat) (w W : World) (k o : Int) (no : Bool) (vk vi : Int) (vt t nm : ByteArray) (va vs : Value) : Prop :=
  TapeOk T W ∧ Keep (At T) w W ∧ W.heap[w.heap.size]? = some (.cells #[.int .i64 k, .int .i64 o, .bool no, .int .i64 vk, .int .i64 vi, .string vt, .string t, .string nm, va, vs] 57 (0, 0)) ∧
    W.heap[w.heap.size + 1]? = some (.cells #[.int .i64 0, .int .i64 0, .bool false, .int .i64 0, .int .i64 0, .string ⟨#[]⟩, .string ⟨#[]⟩, .string ⟨#[]⟩, .slice none 0 0, .slice none 0 0] 57 (0, 0))

section
variable {T : Nat} {w W W' : World} {k o : Int} {no : Bool} {vk vi : Int} {vt t nm : ByteArray} {va vs : Value}
theorem SpB.lt (h : SpB T w W k o no vk vi vt t nm va vs) : w.heap.size + 1 < W.heap.size := (Array.getElem?_eq_some_iff.1 h.2.2.2).1
theorem SpB.tape (h : SpB T w W k o no vk vi vt t nm va vs) : TapeOk T W := h.1
theorem SpB.kept (h : SpB T w W k o no vk vi vt t nm va vs) : Keep (At T) w W := h.2.1
theorem SpB.then {N : Nat → Prop} (h : SpB T w W k o no vk vi vt t nm va vs) (hT : T < w.heap.size) (kp : Keep N W W') (hN : ∀ i, i ≤ w.heap.size + 1 → ¬ N i) : SpB T w W' k o no vk vi vt t nm va vs :=
  ⟨h.1.keep kp fun i hi => hN i (by omega), h.2.1.then kp fun i hi hh => absurd hh (hN i (by omega)),
    (kp.block _ (by have := h.lt; omega) (hN _ (by omega))).trans h.2.2.1, (kp.block _ h.lt (hN _ (by omega))).trans h.2.2.2⟩
theorem SpB.step (h : SpB T w W k o no vk vi vt t nm va vs) (hT : T < w.heap.size) (ht : TapeOk T W') (hk : Keep (At T) W W') : SpB T w W' k o no vk vi vt t nm va vs :=
  ⟨ht, h.2.1.trans hk, (hk.block _ (by have := h.lt; omega) fun hh => by unfold At at hh; omega).trans h.2.2.1, (hk.block _ h.lt fun hh => by unfold At at hh; omega).trans h.2.2.2⟩
theorem SpB.bel (h : SpB T w W k o no vk vi vt t nm va vs) (hT : T < w.heap.size) (hb : Below W.heap.size W W') : SpB T w W' k o no vk vi vt t nm va vs := h.step hT (h.1.bel hb) (.bel hb)
theorem SpB.alloc (h : SpB T w W k o no vk vi vt t nm va vs) (hT : T < w.heap.size) (ob : Obj) : SpB T w (W.alloc ob) k o no vk vi vt t nm va vs := h.bel hT ((Below.refl _ _).alloc (Nat.le_refl _) ob)
theorem SpB.drew (h : SpB T w W k o no vk vi vt t nm va vs) : SpB T w W.drew k o no vk vi vt t nm va vs := ⟨h.1, h.2.1.drew, h.2.2⟩
theorem SpB.cells (h : SpB T w W k o no vk vi vt t nm va vs) : W.cell? ⟨w.heap.size, 0, none⟩ = some (.int .i64 k) ∧ W.cell? ⟨w.heap.size, 1, none⟩ = some (.int .i64 o) ∧ W.cell? ⟨w.heap.size, 2, none⟩ = some (.bool no) ∧ W.cell? ⟨w.heap.size, 3, none⟩ = some (.int .i64 vk) ∧ W.cell? ⟨w.heap.size, 4, none⟩ = some (.int .i64 vi) ∧
    W.cell? ⟨w.heap.size, 5, none⟩ = some (.string vt) ∧ W.cell? ⟨w.heap.size, 6, none⟩ = some (.string t) ∧ W.cell? ⟨w.heap.size, 7, none⟩ = some (.string nm) ∧ W.cell? ⟨w.heap.size, 8, none⟩ = some va ∧ W.cell? ⟨w.heap.size, 9, none⟩ = some vs ∧ (∀ i, W.frozen? ⟨w.heap.size, i, none⟩ = false) ∧ w.heap.size < W.heap.size := blk10 h.2.2.1
theorem SpB.res (h : SpB T w W k o no vk vi vt t nm va vs) : W.cell? ⟨w.heap.size + 1, 0, none⟩ = some (.int .i64 0) ∧ W.cell? ⟨w.heap.size + 1, 1, none⟩ = some (.int .i64 0) ∧ W.cell? ⟨w.heap.size + 1, 2, none⟩ = some (.bool false) ∧ W.cell? ⟨w.heap.size + 1, 3, none⟩ = some (.int .i64 0) ∧ W.cell? ⟨w.heap.size + 1, 4, none⟩ = some (.int .i64 0) ∧
    W.cell? ⟨w.heap.size + 1, 5, none⟩ = some (.string ⟨#[]⟩) ∧ W.cell? ⟨w.heap.size + 1, 6, none⟩ = some (.string ⟨#[]⟩) ∧ W.cell? ⟨w.heap.size + 1, 7, none⟩ = some (.string ⟨#[]⟩) ∧ W.cell? ⟨w.heap.size + 1, 8, none⟩ = some (.slice none 0 0) ∧ W.cell? ⟨w.heap.size + 1, 9, none⟩ = some (.slice none 0 0) ∧
    (∀ i, W.frozen? ⟨w.heap.size + 1, i, none⟩ = false) ∧ w.heap.size + 1 < W.heap.size := blk10 h.2.2.2
/-- A field is stored. -/
theorem SpB.put (h : SpB T w W k o no vk vi vt t nm va vs) (hT : T < w.heap.size) (i : Nat) (u : Value) : TapeOk T (W.setCell ⟨w.heap.size, i, none⟩ u) ∧ Keep (At T) w (W.setCell ⟨w.heap.size, i, none⟩ u) ∧ (W.setCell ⟨w.heap.size, i, none⟩ u).heap[w.heap.size + 1]? = W.heap[w.heap.size + 1]? := by
  have ks : Keep (At w.heap.size) W (W.setCell ⟨w.heap.size, i, none⟩ u) := (Keep.refl (At w.heap.size) W).setCell (p := ⟨w.heap.size, i, none⟩) (fun _ => rfl) u
  exact ⟨h.1.keep ks fun j hj hh => by unfold At at hh; omega, h.2.1.then ks fun j hj hh => by unfold At at hh; omega, ks.block _ h.lt fun hh => by unfold At at hh; omega⟩
theorem SpB.set0 (h : SpB T w W k o no vk vi vt t nm va vs) (hT : T < w.heap.size) (u : Int) : SpB T w (W.setCell ⟨w.heap.size, 0, none⟩ (.int .i64 u)) u o no vk vi vt t nm va vs :=
  let ⟨a, b, c⟩ := h.put hT 0 (.int .i64 u); ⟨a, b, by simp [World.setCell, Array.getElem?_modify, h.2.2.1], c.trans h.2.2.2⟩
theorem SpB.set1 (h : SpB T w W k o no vk vi vt t nm va vs) (hT : T < w.heap.size) (u : Int) : SpB T w (W.setCell ⟨w.heap.size, 1, none⟩ (.int .i64 u)) k u no vk vi vt t nm va vs :=
  let ⟨a, b, c⟩ := h.put hT 1 (.int .i64 u); ⟨a, b, by simp [World.setCell, Array.getElem?_modify, h.2.2.1], c.trans h.2.2.2⟩
theorem SpB.set2 (h : SpB T w W k o no vk vi vt t nm va vs) (hT : T < w.heap.size) (u : Bool) : SpB T w (W.setCell ⟨w.heap.size, 2, none⟩ (.bool u)) k o u vk vi vt t nm va vs :=
  let ⟨a, b, c⟩ := h.put hT 2 (.bool u); ⟨a, b, by simp [World.setCell, Array.getElem?_modify, h.2.2.1], c.trans h.2.2.2⟩
theorem SpB.set3 (h : SpB T w W k o no vk vi vt t nm va vs) (hT : T < w.heap.size) (u : Int) : SpB T w (W.setCell ⟨w.heap.size, 3, none⟩ (.int .i64 u)) k o no u vi vt t nm va vs :=
  let ⟨a, b, c⟩ := h.put hT 3 (.int .i64 u); ⟨a, b, by simp [World.setCell, Array.getElem?_modify, h.2.2.1], c.trans h.2.2.2⟩
theorem SpB.set4 (h : SpB T w W k o no vk vi vt t nm va vs) (hT : T < w.heap.size) (u : Int) : SpB T w (W.setCell ⟨w.heap.size, 4, none⟩ (.int .i64 u)) k o no vk u vt t nm va vs :=
  let ⟨a, b, c⟩ := h.put hT 4 (.int .i64 u); ⟨a, b, by simp [World.setCell, Array.getElem?_modify, h.2.2.1], c.trans h.2.2.2⟩
theorem SpB.set5 (h : SpB T w W k o no vk vi vt t nm va vs) (hT : T < w.heap.size) (u : ByteArray) : SpB T w (W.setCell ⟨w.heap.size, 5, none⟩ (.string u)) k o no vk vi u t nm va vs :=
  let ⟨a, b, c⟩ := h.put hT 5 (.string u); ⟨a, b, by simp [World.setCell, Array.getElem?_modify, h.2.2.1], c.trans h.2.2.2⟩
theorem SpB.set6 (h : SpB T w W k o no vk vi vt t nm va vs) (hT : T < w.heap.size) (u : ByteArray) : SpB T w (W.setCell ⟨w.heap.size, 6, none⟩ (.string u)) k o no vk vi vt u nm va vs :=
  let ⟨a, b, c⟩ := h.put hT 6 (.string u); ⟨a, b, by simp [World.setCell, Array.getElem?_modify, h.2.2.1], c.trans h.2.2.2⟩
theorem SpB.set7 (h : SpB T w W k o no vk vi vt t nm va vs) (hT : T < w.heap.size) (u : ByteArray) : SpB T w (W.setCell ⟨w.heap.size, 7, none⟩ (.string u)) k o no vk vi vt t u va vs :=
  let ⟨a, b, c⟩ := h.put hT 7 (.string u); ⟨a, b, by simp [World.setCell, Array.getElem?_modify, h.2.2.1], c.trans h.2.2.2⟩
theorem SpB.set8 (h : SpB T w W k o no vk vi vt t nm va vs) (hT : T < w.heap.size) (u : Value) : SpB T w (W.setCell ⟨w.heap.size, 8, none⟩ u) k o no vk vi vt t nm u vs :=
  let ⟨a, b, c⟩ := h.put hT 8 u; ⟨a, b, by simp [World.setCell, Array.getElem?_modify, h.2.2.1], c.trans h.2.2.2⟩
theorem SpB.set9 (h : SpB T w W k o no vk vi vt t nm va vs) (hT : T < w.heap.size) (u : Value) : SpB T w (W.setCell ⟨w.heap.size, 9, none⟩ u) k o no vk vi vt t nm va u :=
  let ⟨a, b, c⟩ := h.put hT 9 u; ⟨a, b, by simp [World.setCell, Array.getElem?_modify, h.2.2.1], c.trans h.2.2.2⟩

/-- The call's end: the expression stored into the result's cells. -/
theorem sp_fin {M : Nat → Prop} {m : Nat} {a s : Option Addr} {an ac sn sc : Nat} {args : List Ex} {sub : List Qu} (hT : T < w.heap.size) (h : SpB T w W k o no vk vi vt t nm (.slice a an ac) (.slice s sn sc)) (ha : ExsR (SpM M w.heap.size) W (.slice a an ac) args) (hs : QusR (SpM M w.heap.size) W (.slice s sn sc) sub)
    (ks : Keep (At (w.heap.size + 1)) W W') (hd : Dep m (.mk k o no ⟨vk, vi, vt⟩ t nm args sub)) :
    Gives T w (SpQ M m w) (.returned (.agg #[.int .i64 k, .int .i64 o, .bool no, .int .i64 vk, .int .i64 vi, .string vt, .string t, .string nm, .slice a an ac, .slice s sn sc])) W' := by
  have hS : ∀ i, i < W.heap.size → At (w.heap.size + 1) i → SpM M w.heap.size i := fun i _ hh => by unfold At at hh; unfold SpM; omega
  have hO : ∀ i, i < W'.heap.size → OldM M w.heap.size i → SpM M w.heap.size i := fun i _ hh => .inl hh
  obtain ⟨_, _, ea, _⟩ := ha.shape
  obtain ⟨_, _, es, _⟩ := hs.shape
  simp only [Value.slice.injEq] at ea es
  obtain ⟨_, rfl, _⟩ := ea
  obtain ⟨_, rfl, _⟩ := es
  refine gives_set hT h.2.1 h.1 ks ⟨.mk k o no ⟨vk, vi, vt⟩ t nm args sub, ⟨a, ac, s, sc, rfl, (ha.keep (ks.weak hS)).weak hO, (hs.keep (ks.weak hS)).weak hO⟩, hd⟩
end

theorem all_sp {M : Nat → Prop} {s : Nat} (k : Nat) (h : SpM M s k) : AllM M s k := by
  rcases h with h | h
  · exact .inl h
  · exact .inr h.1
theorem all_of {M : Nat → Prop} {w : World} (k : Nat) (hk : k < w.heap.size) (h : AllM M w.heap.size k) : M k := by
  rcases h with h | h
  · exact h.2
  · omega

/-- A list of expressions, one of which is another. -/
theorem dep_set {n : Nat} : ∀ {l : List Ex} {k : Nat} {x : Ex}, (∀ a ∈ l, Dep n a) → Dep n x → ∀ a ∈ l.set k x, Dep n a := by
  intro l k x h hx a ha
  rcases List.mem_or_eq_of_mem_set ha with h1 | rfl
  · exact h a h1
  · exact hx
theorem qus_one {n : Nat} {x : Qu} (hx : QuDep n x) : ∀ a ∈ [x], QuDep n a := by
  intro a ha
  rw [List.mem_singleton.1 ha]; exact hx
theorem qus_app {n : Nat} {l : List Qu} {x : Qu} (h : ∀ a ∈ l, QuDep n a) (hx : QuDep n x) : ∀ a ∈ l ++ [x], QuDep n a := by
  intro a ha
  rcases List.mem_append.1 ha with h1 | h1
  · exact h a h1
  · rw [List.mem_singleton.1 h1]; exact hx
theorem dep_app {n : Nat} {l : List Ex} {x : Ex} (h : ∀ a ∈ l, Dep n a) (hx : Dep n x) : ∀ a ∈ l ++ [x], Dep n a := by
  intro a ha
  rcases List.mem_append.1 ha with h1 | h1
  · exact h a h1
  · rw [List.mem_singleton.1 h1]; exact hx

section
variable {n : Nat} {k o : Int} {no : Bool} {v : Val} {t nm : ByteArray} {args : List Ex} {sub : List Qu}
/-- Depths after a change. -/
theorem dep_new (h : Dep (n + 1) (.mk k o no v t nm args sub)) (k' o' : Int) (no' : Bool) {v' : Val} {t' nm' : ByteArray} {args' : List Ex} {sub' : List Qu} (hv : v'.text.size ≤ maxLen ∨ v' = v) (ht : t'.size ≤ maxLen ∨ t' = t) (hn : nm'.size ≤ maxLen ∨ nm' = nm) (ha : (∀ a ∈ args', Dep (n + 3) a) ∨ args' = args) (hs : (∀ q ∈ sub', QuDep (n + 3) q) ∨ sub' = sub) :
    Dep (n + 4) (.mk k' o' no' v' t' nm' args' sub') := by
  obtain ⟨m, e, g1, g2, g3, g4, g5, g6, g7⟩ := h.inv
  obtain rfl : n = m := by omega
  have ha' : ∀ a ∈ args', Dep (n + 3) a := by
    rcases ha with ha | rfl
    · exact ha
    · exact fun a h => (g5 a h).up (by omega)
  have hs' : ∀ q ∈ sub', QuDep (n + 3) q := by
    rcases hs with hs | rfl
    · exact hs
    · exact fun q h => ⟨g4 q h, fun x hx => (g6 q h x hx).up (by omega), fun x hx => (g7 q h x hx).up (by omega)⟩
  refine .mk (n + 3) _ ?_ ?_ ?_ (fun q h => (hs' q h).1) ha' (fun q h => (hs' q h).2.1) (fun q h => (hs' q h).2.2)
  · rcases hv with h | rfl
    · exact h
    · exact g1
  · rcases ht with h | rfl
    · exact h
    · exact g2
  · rcases hn with h | rfl
    · exact h
    · exact g3
theorem dep_arg (h : Dep (n + 1) (.mk k o no v t nm args sub)) : (∀ a ∈ args, Dep (n + 3) a) ∧ ∀ q ∈ sub, QuDep (n + 3) q := by
  obtain ⟨m, e, g1, g2, g3, g4, g5, g6, g7⟩ := h.inv
  obtain rfl : n = m := by omega
  exact ⟨fun a h => (g5 a h).up (by omega), fun q h => ⟨g4 q h, fun x hx => (g6 q h x hx).up (by omega), fun x hx => (g7 q h x hx).up (by omega)⟩⟩
end

/-- What AnyExpr makes is small. -/
theorem any_small {n : Nat} {e : Ex} (h : AnyX n e) : e.args.length ≤ 3 ∧ e.sub.length ≤ 1 ∧ (∀ q ∈ e.sub, q.whr.length ≤ 1) ∧ ∀ a ∈ e.args, ∃ m, n = m + 1 ∧ AnyX m a := by
  cases h with
  | col => exact ⟨Nat.zero_le _, Nat.zero_le _, fun a ha => (by cases ha), fun a ha => (by cases ha)⟩
  | lit => exact ⟨Nat.zero_le _, Nat.zero_le _, fun a ha => (by cases ha), fun a ha => (by cases ha)⟩
  | ops n k o no args hk ha => exact ⟨(opShape_kind hk).2.2, Nat.zero_le _, fun a ha => (by cases ha), fun a h => ⟨n, rfl, ha a h⟩⟩
  | sub n k f items whr hf hi hw h1 h2 =>
    refine ⟨Nat.zero_le _, Nat.le_refl _, ?_, fun a ha => (by cases ha)⟩
    intro q hq
    obtain rfl : q = .mk (k == 8) items f whr := List.mem_singleton.1 hq
    exact hw

theorem rowsO_none {α : Type} {w : World} {e : TypeId} {size : Nat} {R : α → List Value → Prop} : RowsO w.heap.size (w.alloc (.cells #[] e)) e size R (.slice (some ⟨w.heap.size, 0, none⟩) 0 0) ([] : List α) :=
  ⟨[], ⟨by simp, .inr ⟨w.heap.size, 0, #[], rfl, Nat.le_refl _, heap_alloc_new w _, Nat.le_refl _, Nat.zero_le _, by simp, by simp⟩⟩, rfl, by simp, by simp⟩

theorem ec_one {M : Nat → Prop} {w : World} {e : Ex} {cs : List Value} (h : EC M w e cs) : ∀ u ∈ cs, u.oneCell' = true := by
  obtain ⟨va, vs, rfl, ha, hs⟩ := (EC_iff ..).1 h
  obtain ⟨a, ac, rfl, _⟩ := ha.shape
  obtain ⟨s, sc, rfl, _⟩ := hs.shape
  intro u hu
  simp only [exCells, List.mem_cons, List.not_mem_nil, or_false] at hu
  rcases hu with rfl | rfl | rfl | rfl | rfl | rfl | rfl | rfl | rfl | rfl <;> rfl
theorem qc_one {M : Nat → Prop} {w : World} {q : Qu} {cs : List Value} (h : QC M w q cs) : ∀ u ∈ cs, u.oneCell' = true := by
  obtain ⟨va, vs, rfl, ha, hs⟩ := (QC_iff ..).1 h
  obtain ⟨a, ac, rfl, _⟩ := ha.shape
  obtain ⟨s, sc, rfl, _⟩ := hs.shape
  intro u hu
  simp only [List.mem_cons, List.not_mem_nil, or_false] at hu
  rcases hu with rfl | rfl | rfl | rfl <;> rfl

/-- The block that an owned list lies in. -/
theorem RowsO.at {α : Type} {lo : Nat} {w : World} {e : TypeId} {size : Nat} {R : α → List Value → Prop} {v : Value} {xs : List α} (h : RowsO lo w e size R v xs) (hx : xs ≠ []) : ∃ g cap, v = .slice (some ⟨g, 0, none⟩) xs.length cap ∧ lo ≤ g ∧ g < w.heap.size ∧ ∀ i, w.frozen? ⟨g, i, none⟩ = false := by
  obtain ⟨css, ⟨h1, h2⟩, hl, _⟩ := h
  rcases h2 with ⟨_, h2⟩ | ⟨g, cap, cur, hv, hg, hh, _⟩
  · exact absurd (List.eq_nil_of_length_eq_zero (by omega)) hx
  · refine ⟨g, cap, by rw [hv, hl], hg, (Array.getElem?_eq_some_iff.1 hh).1, fun i => ?_⟩
    simp [World.frozen?, hh]
theorem exv_cs {M : Nat → Prop} {W : World} {e : Ex} {a s : Option Addr} {ac sc : Nat} (h : ExV M W e (.agg #[.int .i64 e.kind, .int .i64 e.op, .bool e.no, .int .i64 e.val.kind, .int .i64 e.val.int, .string e.val.text, .string e.table, .string e.name, .slice a e.args.length ac, .slice s e.sub.length sc])) :
    EC M W e [.int .i64 e.kind, .int .i64 e.op, .bool e.no, .int .i64 e.val.kind, .int .i64 e.val.int, .string e.val.text, .string e.table, .string e.name, .slice a e.args.length ac, .slice s e.sub.length sc] := by
  obtain ⟨cs, hcs, hec⟩ := h.ec
  simp only [Value.agg.injEq] at hcs
  obtain rfl : cs = [.int .i64 e.kind, .int .i64 e.op, .bool e.no, .int .i64 e.val.kind, .int .i64 e.val.int, .string e.val.text, .string e.table, .string e.name, .slice a e.args.length ac, .slice s e.sub.length sc] := by simpa using (congrArg Array.toList hcs).symm
  exact hec

theorem ecStable : Stable (fun M w (e : Ex) cs => EC M w e cs) where
  keep := fun h k => EC.keep k _ _ h
  weak := fun h hM => EC.weak hM _ _ h
  one := fun h => ec_one h
theorem qcStable : Stable (fun M w (q : Qu) cs => QC M w q cs) where
  keep := fun h k => QC.keep k h
  weak := fun h hM => QC.weak hM h
  one := fun h => qc_one h

section
variable {α : Type} {P : Program} {ops : Array Oper} {rest : List Oper} {o : Oper} {a : Act} {Q : Exit → Act → World → Prop} {Rr : (Nat → Prop) → World → α → List Value → Prop} {w : World}
/-- append(T{}, x...): a copy of x, wherever x lies. -/
theorem wpList_copy (S : Stable Rr) (hgd : o.guard = none) (s x : Operand) (t : TypeId)
    (ho : o.op = .call { callee := .builtin .append, args := #[s, x], argTypes := #[t, t] })
    (e : TypeId) (z : Value) (size bytes : Nat) (ht : P.underlying t = some (.slice e)) (hinfo : (P.info? e).map (fun i => (i.zero, i.size, i.bytes)) = some (some z, size, bytes)) (hzs : z.cells.size = size) (hsz : 0 < size)
    (N : Nat → Prop) (src : Value) (ys : List α) (hs : a.eval s = .slice (some ⟨w.heap.size, 0, none⟩) 0 0) (hx : a.eval x = src) (hsrc : RowsR N w size (Rr N w) src ys) (hall : ∀ k, w.heap.size ≤ k → N k)
    (hN : ys.length * bytes ≤ 140737488355328) (hN2 : ys.length ≤ maxLen)
    (h : ∀ v' w', RowsO w.heap.size w' e size (Rr N w') v' ys → Below w.heap.size w w' → wpList P ops Q rest (a.put o.dst v') w') : wpList P ops Q (o :: rest) a (w.alloc (.cells #[] e)) := by
  have k0 : Keep N w (w.alloc (.cells #[] e)) := (Keep.refl _ w).alloc _
  refine wpList_app hgd s x t ho e z size bytes ht hinfo hzs hsz (R := Rr N (w.alloc (.cells #[] e))) (M := N) w.heap.size _ src [] ys hs hx rowsO_none (RowsR.map hsrc k0 fun y _ cs hc => S.keep hc k0) (fun _ _ cs hc => S.one hc) (by simpa using hN) (by simpa using hN2) (by simp) ?_
  intro v' w' ho' hk _
  rw [List.nil_append] at ho'
  have hlt : ∀ k, OwnB (.slice (some ⟨w.heap.size, 0, none⟩) 0 0) k → w.heap.size ≤ k := fun k hk => (RowsO.lt (rowsO_none (w := w) (e := e) (size := size) (R := fun (_ : Ex) _ => True)) hk).1
  refine h v' w' (RowsO.imp ho' fun y _ cs hc => S.keep hc (hk.weak fun k _ h => hall k (hlt k h))) ?_
  exact ((Below.refl _ w).alloc (Nat.le_refl _) _).trans (hk.toBelow (B := w.heap.size) (by simp) fun k hk h => by have := hlt k h; omega)

/-- append(s, T{..}): a list of the call's own grows by what lies in the block just built; no more is appended to it. -/
theorem wpList_app1 (S : Stable Rr) (hgd : o.guard = none) (s x : Operand) (t : TypeId)
    (ho : o.op = .call { callee := .builtin .append, args := #[s, x], argTypes := #[t, t] })
    (e : TypeId) (z : Value) (size bytes : Nat) (ht : P.underlying t = some (.slice e)) (hinfo : (P.info? e).map (fun i => (i.zero, i.size, i.bytes)) = some (some z, size, bytes)) (hzs : z.cells.size = size) (hsz : 0 < size)
    (N : Nat → Prop) (lo : Nat) (v : Value) (b : Nat) (arr : Array Value) (xs : List α) (y : α) (hs : a.eval s = v) (hx : a.eval x = .slice (some ⟨b, 0, none⟩) 1 1) (hb : b = w.heap.size) (hown : RowsO lo w e size (Rr (fun k => N k ∨ OwnB v k) w) v xs) (hlen : arr.toList.length = size) (hy : Rr (fun k => N k ∨ OwnB v k) w y arr.toList)
    (hN : (xs.length + 1) * bytes ≤ 140737488355328) (hN2 : xs.length + 1 ≤ maxLen) (hlo : lo ≤ w.heap.size)
    (h : ∀ v' w', RowsO lo w' e size (Rr N w') v' (xs ++ [y]) → Keep (OwnB v) w w' → wpList P ops Q rest (a.put o.dst v') w') : wpList P ops Q (o :: rest) a (w.alloc (.cells arr e)) := by
  refine wpList_app hgd s x t ho e z size bytes ht hinfo hzs hsz (R := Rr (fun k => N k ∨ OwnB v k) w) (M := fun _ => False) lo v _ xs [y] hs hx ?_ (rows_one y hb id hlen hy) (fun _ _ cs hc => S.one hc) (by simpa using hN) (by simpa using hN2) (by simp; omega) ?_
  · exact RowsO.kept hown ((Keep.refl (fun _ => False) w).alloc _) (fun _ _ => id) fun _ _ _ h => h
  · intro v' w' ho' hk _
    have k1 : Keep (fun k => N k ∨ OwnB v k) w w' := ((Keep.refl _ w).alloc _).then hk fun _ _ h => .inr h
    exact h v' w' (RowsO.imp ho' fun y _ cs hc => S.weak (S.keep hc k1) fun k _ h => .inl h) (((Keep.refl _ w).alloc _).trans hk)
end

theorem num1_any (w : World) : Calls Tryz.prog 50 #[.int .i64 1] w fun e w' => ∃ y v, e = .returned v ∧ ExV (Old w.heap.size) w' y v ∧ Dep 1 y ∧ Below w.heap.size w w' :=
  (num_any 1 (by omega) w).mono fun _ _ ⟨v, he, hx, hb⟩ => ⟨numX 1, v, he, hx, dep_leaf 0 _ _ _ _ _ _ es_small es_small es_small, hb⟩
end Go.Proofs.YtpnigfmclmfjaaaGreatDoor
