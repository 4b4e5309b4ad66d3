/- A map literal of five entries, three of whose values are calls' answers, in whatever order: which states there are. No program is named here. -/
import Derived.Test.YtkhlmofcdchccaaGreatDoorKN1
import Derived.Test.YtkhlmofcdchccaaGreatDoorOA2
namespace Go.Proofs.YtkhlmofcdchccaaGreatDoor
open Go.RowKit Go.Maps

namespace Five
def base : List Nat := [12, 16, 21, 26, 31]
def keyOf (i : Nat) : Int := if i = 12 then 1 else if i = 16 then 2 else if i = 21 then 4 else if i = 26 then 8 else 16
def tmpOf (i : Nat) : Nat := if i = 12 then 17 else if i = 16 then 20 else if i = 21 then 24 else if i = 26 then 28 else 32
/-- How many calls must have answered. -/
def need (i : Nat) : Nat := if i = 21 then 1 else if i = 26 then 2 else if i = 31 then 3 else 0
def ci (c : Nat) : Nat := 19 + 5 * c
def cd (c : Nat) : Nat := 23 + 4 * c
/-- All have come up but these. -/
def LP (m : Bool) (c : Nat) (R : List Nat) : Array Bool := (Array.range 34).map fun j => !((!m && j == 0) || R.contains j || (decide (c < 1) && (j == 19 || j == 20)) || (decide (c < 2) && (j == 24 || j == 25)) || (decide (c < 3) && (j == 29 || j == 30)) || j == 32 || j == 33)
def fuel (m : Bool) (c : Nat) (R : List Nat) : Nat := (if m then 0 else 1) + 2 * (3 - c) + R.length + 2
def okS (m : Bool) (c : Nat) (R : List Nat) : Bool := (m || R == base) && base.all fun i => decide (need i ≤ c) || R.contains i
def rdy (m : Bool) (c : Nat) (R : List Nat) : List Nat := (if m then R.filter fun i => decide (need i ≤ c) else [0]) ++ (if c < 3 then [ci c] else [])
def states : List (Bool × Nat × List Nat) := ([false, true].flatMap fun m => [0, 1, 2, 3].flatMap fun c => (subs6 base).map fun R => (m, c, R)).filter fun s => okS s.1 s.2.1 s.2.2
theorem f_make : ∀ s ∈ states, s.1 = false → s.2.2 = base ∧ (LP false s.2.1 s.2.2).setIfInBounds 0 true = LP true s.2.1 s.2.2 ∧ (true, s.2.1, s.2.2) ∈ states := by decide +kernel
theorem f_call : ∀ s ∈ states, s.2.1 < 3 → ((LP s.1 s.2.1 s.2.2).setIfInBounds (ci s.2.1) true).setIfInBounds (ci s.2.1 + 1) true = LP s.1 (s.2.1 + 1) s.2.2 ∧ (s.1, s.2.1 + 1, s.2.2) ∈ states := by decide +kernel
theorem f_ins : ∀ s ∈ states, s.1 = true → ∀ i ∈ s.2.2, i ∈ base ∧ (s.2.2.erase i).length + 1 = s.2.2.length ∧ (need i ≤ s.2.1 → (LP true s.2.1 s.2.2).setIfInBounds i true = LP true s.2.1 (s.2.2.erase i) ∧ (true, s.2.1, s.2.2.erase i) ∈ states) := by decide +kernel
theorem f_mem : ∀ s ∈ states, ∀ i ∈ s.2.2, ∀ j ∈ base, j ∈ s.2.2.erase i ↔ j ∈ s.2.2 ∧ j ≠ i := by decide +kernel
theorem f_top : ∀ s ∈ states, s.2.1 ≤ 3 := by decide +kernel
theorem f_some : ∀ s ∈ states, s.2.1 < 3 ∨ s.2.2 ≠ [] → rdy s.1 s.2.1 s.2.2 ≠ [] := by decide +kernel
theorem keys : ∀ i ∈ base, ∀ j ∈ base, keyOf i = keyOf j → i = j := by decide
theorem wfs : ∀ i ∈ base, (Lit.int .i64 (keyOf i)).wf = true := by decide

/-- The temporaries that the region has written. -/
def lst (r : Nat → Bool) (m : Option Nat) (c : Nat) : List (Nat × Value) :=
  (match m with | none => [] | some b => [(6, .map (some b))]) ++ ((if 0 < c then [(23, .bool (r 0)), (24, .bool (!r 0))] else []) ++ ((if 1 < c then [(27, .bool (r 1)), (28, .bool (!r 1))] else []) ++ (if 2 < c then [(31, .bool (r 2)), (32, .bool (!r 2))] else [])))
theorem lst_make (r : Nat → Bool) (b c : Nat) (hc : c ≤ 3) : insS 6 (.map (some b)) (lst r none c) = lst r (some b) c ∧ offL (lst r none c) 6 = true := by
  have h : c = 0 ∨ c = 1 ∨ c = 2 ∨ c = 3 := by omega
  rcases h with rfl | rfl | rfl | rfl <;> exact ⟨rfl, rfl⟩
theorem lst_call (r : Nat → Bool) (m : Option Nat) (c : Nat) (hc : c < 3) : insS (cd c + 1) (.bool (!r c)) (insS (cd c) (.bool (r c)) (lst r m c)) = lst r m (c + 1) ∧ offL (lst r m c) (cd c) = true ∧ offL (insS (cd c) (.bool (r c)) (lst r m c)) (cd c + 1) = true := by
  have h : c = 0 ∨ c = 1 ∨ c = 2 := by omega
  cases m <;> rcases h with rfl | rfl | rfl <;> exact ⟨rfl, rfl, rfl⟩
theorem lst_keys (r : Nat → Bool) (m : Option Nat) (c : Nat) (hc : c ≤ 3) : ∀ p ∈ lst r m c, ¬ (p.1 ≤ 5 ∨ (7 ≤ p.1 ∧ p.1 ≤ 22) ∨ (25 ≤ p.1 ∧ p.1 ≤ 26) ∨ (29 ≤ p.1 ∧ p.1 ≤ 30) ∨ 33 ≤ p.1) := by
  have h : c = 0 ∨ c = 1 ∨ c = 2 ∨ c = 3 := by omega
  have hk : ∀ k ∈ (lst r m c).map (·.1), ¬ (k ≤ 5 ∨ (7 ≤ k ∧ k ≤ 22) ∨ (25 ≤ k ∧ k ≤ 26) ∨ (29 ≤ k ∧ k ≤ 30) ∨ 33 ≤ k) := by
    cases m <;> rcases h with rfl | rfl | rfl | rfl <;> simp [lst]
  exact fun p hp => hk p.1 (List.mem_map.2 ⟨p, hp, rfl⟩)
theorem insS_get (i : Nat) (v : Value) : ∀ l : List (Nat × Value), offL l i = true → (insS i v l).lookup i = some v
  | [], _ => by simp [insS]
  | (k, u) :: l, h => by
    have h' : ¬ k = i ∧ offL l i = true := by simpa [offL] using h
    unfold insS
    split
    · simp [List.lookup]
    · rw [List.lookup_cons, show (i == k) = false by simpa using fun e => h'.1 e.symm]
      exact insS_get i v l h'.2

section
variable {P : Program} {ops : Array Oper} {Q : Exit → Act → World → Prop} {S : World → Prop} {k e t : TypeId}
set_option maxHeartbeats 2000000 in
theorem all (a0 : Act) (n : Nat) (hz : a0.tmps.size = n) (hn : 40 ≤ n) (W0 : World) (v r : Nat → Bool) (hk : P.underlying k = some (.int .i64)) (he : P.underlying e = some .bool) (ht : P.underlying t = some (.map k e))
    (hv : ∀ i ∈ base, need i = 0 → a0.tmps[tmpOf i]? = some (.bool (v i))) (hvr : ∀ i ∈ base, 0 < need i → v i = !r (need i - 1))
    (hS : ∀ W, Below W0.heap.size W0 W → S W)
    (hmake : ∀ (a : Act) (w : World) (K : Act → World → Prop), K (a.put (some 6) (.map (some w.heap.size))) (w.alloc (.map #[] 0)) → wpOp P ops Q 0 K a w)
    (hcall : ∀ c, c < 3 → ∀ (a : Act) (w : World) (K : Act → World → Prop) (l : List (Nat × Value)), Fr a0 l a → (∀ p ∈ l, ¬ (p.1 ≤ 5 ∨ (7 ≤ p.1 ∧ p.1 ≤ 22) ∨ (25 ≤ p.1 ∧ p.1 ≤ 26) ∨ (29 ≤ p.1 ∧ p.1 ≤ 30) ∨ 33 ≤ p.1)) → Below W0.heap.size W0 w → (∀ w', Below w.heap.size w w' → K (a.put (some (cd c)) (.bool (r c))) w') → wpOp P ops Q (ci c) K a w)
    (hnot : ∀ c, c < 3 → ∃ o, ops[ci c + 1]? = some o ∧ o.dst = some (cd c + 1) ∧ ∀ a : Act, a.tmps[cd c]? = some (.bool (r c)) → YieldsIf P ops S o (.bool (!r c)) a)
    (hQ : ∀ c x u a w, Q (.panic c) (a.put (some x) u) w → Q (.panic c) a w)
    (hins : ∀ i ∈ base, ∀ (a : Act) (w w' : World) (K : Act → World → Prop) (b : Nat), a.tmps[6]? = some (.map (some b)) → a.tmps[tmpOf i]? = some (.bool (v i)) → (Instr.mapUpdate t (.map (some b)) (.int .i64 (keyOf i)) (.bool (v i))).run P w = .ok () w' → K a w' → wpOp P ops Q i K a w)
    (hready : ∀ s ∈ states, s.2.1 < 3 ∨ s.2.2 ≠ [] → Region.ready .any ops (LP s.1 s.2.1 s.2.2) = rdy s.1 s.2.1 s.2.2)
    (hfree : ∀ s ∈ states, s.2.1 < 3 → Region.free .any ops ((LP s.1 s.2.1 s.2.2).setIfInBounds (ci s.2.1) true) (ci s.2.1 + 1) = true ∧ (Region.ready .any ops ((LP s.1 s.2.1 s.2.2).setIfInBounds (ci s.2.1) true)).contains (ci s.2.1 + 1) = true)
    (hsel : Region.noSelect ops = true)
    (hend : ∀ a w b l, Fr a0 (lst r (some b) 3) a → W0.heap.size ≤ b → MapHas P k e w b l → l.length ≤ 5 → (∀ p, p ∈ l ↔ ∃ i ∈ base, p = (keyOf i, v i)) → Below W0.heap.size W0 w → wpAnyH P .any ops Q S 2 (LP true 3 []) a w) :
    ∀ (N : Nat) (m : Option Nat) (c : Nat) (R : List Nat) (a : Act) (w : World), (if m.isSome then 0 else 1) + (3 - c) + R.length = N → (m.isSome, c, R) ∈ states → Fr a0 (lst r m c) a → Below W0.heap.size W0 w →
      (∀ b, m = some b → W0.heap.size ≤ b ∧ ∃ l, MapHas P k e w b l ∧ l.length + R.length = 5 ∧ ∀ p, p ∈ l ↔ ∃ i ∈ base, i ∉ R ∧ p = (keyOf i, v i)) → wpAnyH P .any ops Q S (fuel m.isSome c R) (LP m.isSome c R) a w := by
  intro N
  induction N with
  | zero =>
    intro m c R a w hN hst hF hB hm
    have hc3 := f_top _ hst
    dsimp only at hc3
    cases m with
    | none => simp at hN
    | some b =>
      simp only [Option.isSome_some, if_true] at hN
      obtain rfl : c = 3 := by omega
      obtain rfl : R = [] := List.eq_nil_of_length_eq_zero (by omega)
      obtain ⟨hb, l, hl, h5, hmem⟩ := hm b rfl
      exact hend a w b l hF hb hl (by omega) (fun p => by simpa using hmem p) hB
  | succ N ih =>
    intro m c R a w hN hst hF hB hm
    have hc3 := f_top _ hst
    dsimp only at hc3
    have hne : c < 3 ∨ R ≠ [] := by
      cases m with
      | none =>
        have := (f_make _ hst rfl).1
        dsimp only at this
        exact .inr (by rw [this]; decide)
      | some b =>
        simp only [Option.isSome_some, if_true] at hN
        rcases Nat.lt_or_ge c 3 with h | h
        · exact .inl h
        · exact .inr fun e => by rw [e] at hN; simp at hN; omega
    obtain ⟨F, hFu⟩ : ∃ F, fuel m.isSome c R = F + 1 := ⟨fuel m.isSome c R - 1, by unfold fuel; omega⟩
    rw [hFu]
    have hrd : Region.ready .any ops (LP m.isSome c R) = rdy m.isSome c R := hready (m.isSome, c, R) hst hne
    have hrn : rdy m.isSome c R ≠ [] := f_some (m.isSome, c, R) hst hne
    refine wpAnyH_ready hrd hrn ?_
    intro i hi
    unfold rdy at hi
    (try dsimp only at hi)
    rcases List.mem_append.1 hi with hi | hi
    · cases m with
      | none =>
        have h0 : i = 0 := by simpa using hi
        subst h0
        obtain ⟨hR, hLP, hst'⟩ := f_make _ hst rfl
        dsimp only at hR hLP hst'
        refine hmake a w _ ⟨hS _ (hB.alloc hB.size _), ?_⟩
        obtain ⟨h1, h2⟩ := lst_make r w.heap.size c hc3
        have hF' := Fr.put (i := 6) (v := .map (some w.heap.size)) hF (by omega) (offL_ne h2)
        rw [h1] at hF'
        have hfu : F = fuel true c R := by unfold fuel at hFu ⊢; simp at hFu ⊢; omega
        rw [hfu, show (LP (none : Option Nat).isSome c R).setIfInBounds 0 true = LP true c R from hLP]
        refine ih (some w.heap.size) c R _ _ (by simp at hN ⊢; omega) hst' hF' (hB.alloc hB.size _) fun b hb => ?_
        cases hb
        refine ⟨hB.size, [], MapHas.made .., by rw [hR]; rfl, fun p => ⟨fun h => (nomatch h), fun ⟨i, hi, hni, _⟩ => absurd (by rw [hR]; exact hi) hni⟩⟩
      | some b =>
        obtain ⟨hiR, hneed⟩ : i ∈ R ∧ need i ≤ c := by simpa using hi
        obtain ⟨hib, hlen, hLS⟩ := f_ins _ hst rfl i hiR
        dsimp only at hlen hLS
        obtain ⟨hLP, hst'⟩ := hLS hneed
        obtain ⟨hb, l, hl, h5, hmem⟩ := hm b rfl
        have hjm := f_mem _ hst i hiR
        dsimp only at hjm
        obtain ⟨w', hrun, hl', hg'⟩ := hl.put hk he ht (by omega) (keyOf i) (v i) (wfs i hib) (fun y hy hyk => by
          obtain ⟨j, hj, hjR, rfl⟩ := (hmem y).1 hy
          exact hjR ((keys j hj i hib hyk) ▸ hiR))
        have hB' : Below W0.heap.size W0 w' := hB.trans ⟨hg'.os, hg'.tape, hg'.output, hg'.size, fun k hk => hg'.block k (Nat.lt_of_lt_of_le hk hB.size) fun e => by cases e; omega⟩
        have ht6 : a.tmps[6]? = some (.map (some b)) := hF.get (by rfl)
        have htv : a.tmps[tmpOf i]? = some (.bool (v i)) := by
          by_cases h0 : need i = 0
          · refine hF.base (hv i hib h0) fun p hp hpe => ?_
            have : i = 12 ∨ i = 16 := by
              simp only [base, List.mem_cons, List.not_mem_nil, or_false] at hib
              rcases hib with rfl | rfl | rfl | rfl | rfl
              · exact .inl rfl
              · exact .inr rfl
              · cases h0
              · cases h0
              · cases h0
            have hpk := lst_keys r _ c hc3 p hp
            rcases this with rfl | rfl <;> simp [tmpOf] at hpe <;> omega
          · rw [hvr i hib (by omega)]
            refine hF.get ?_
            have : i = 21 ∨ i = 26 ∨ i = 31 := by
              simp only [base, List.mem_cons, List.not_mem_nil, or_false] at hib
              rcases hib with rfl | rfl | h
              · exact absurd rfl h0
              · exact absurd rfl h0
              · exact h
            rcases this with rfl | rfl | rfl
            · have h : c = 1 ∨ c = 2 ∨ c = 3 := by simp [need] at hneed; omega
              rcases h with rfl | rfl | rfl <;> rfl
            · have h : c = 2 ∨ c = 3 := by simp [need] at hneed; omega
              rcases h with rfl | rfl <;> rfl
            · have h : c = 3 := by simp [need] at hneed; omega
              subst h; rfl
        refine hins i hib a w w' _ b ht6 htv hrun ⟨hS _ hB', ?_⟩
        have hfu : F = fuel true c (R.erase i) := by unfold fuel at hFu ⊢; simp at hFu ⊢; omega
        rw [hfu, show (LP (some b).isSome c R).setIfInBounds i true = LP true c (R.erase i) from hLP]
        refine ih (some b) c (R.erase i) a w' (by simp at hN ⊢; omega) hst' hF hB' fun b' hb' => ?_
        cases hb'
        refine ⟨hb, _, hl', by simp; omega, fun p => ?_⟩
        rw [List.mem_cons]
        constructor
        · rintro (rfl | hp)
          · exact ⟨i, hib, fun h => ((hjm i hib).1 h).2 rfl, rfl⟩
          · obtain ⟨j, hj, hjR, rfl⟩ := (hmem p).1 hp
            exact ⟨j, hj, fun h => hjR ((hjm j hj).1 h).1, rfl⟩
        · rintro ⟨j, hj, hjR, rfl⟩
          by_cases e : j = i
          · subst e; exact .inl rfl
          · exact .inr ((hmem _).2 ⟨j, hj, fun h => hjR ((hjm j hj).2 ⟨h, e⟩), rfl⟩)
    · have hc : c < 3 := by
        rcases Nat.lt_or_ge c 3 with h | h
        · exact h
        · rw [if_neg (by omega)] at hi; cases hi
      rw [if_pos hc] at hi
      obtain rfl : i = ci c := List.mem_singleton.1 hi
      obtain ⟨hLP, hst'⟩ := f_call _ hst hc
      dsimp only at hLP hst'
      have hpk := lst_keys r m c hc3
      refine hcall c hc a w _ _ hF hpk hB fun w' hb' => ?_
      have hB' := hB.trans (hb'.mono hB.size)
      refine ⟨hS _ hB', ?_⟩
      obtain ⟨h1, h2, h3⟩ := lst_call r m c hc
      obtain ⟨o, ho, hod, hoy⟩ := hnot c hc
      obtain ⟨hfr, hfc⟩ := hfree _ hst hc
      have hcd : cd c < a0.tmps.size := by unfold cd; omega
      have hF' := Fr.put (i := cd c) (v := .bool (r c)) hF hcd (offL_ne h2)
      obtain ⟨F', hF2⟩ : ∃ F', F = F' + 1 := ⟨F - 1, by unfold fuel at hFu; omega⟩
      rw [hF2]
      refine wpAnyH_takeF (n := n) ho hsel hfr hfc (fun x a w h => by rw [hod] at h; exact hQ _ _ _ _ _ h) (hoy _ (hF'.get (insS_get _ _ _ h2))) (hS _ hB') hod (Lib.hid hF') hz (by unfold cd; simp; omega) h3 fun a' hF3 => ?_
      rw [h1] at hF3
      have hfu : F' = fuel m.isSome (c + 1) R := by unfold fuel at hFu ⊢; omega
      rw [hfu, show ((LP m.isSome c R).setIfInBounds (ci c) true).setIfInBounds (ci c + 1) true = LP m.isSome (c + 1) R from hLP]
      refine ih m (c + 1) R a' w' (by omega) hst' hF3.out hB' fun b hb => ?_
      obtain ⟨h1, l, hl, h5, hmem⟩ := hm b hb
      exact ⟨h1, l, hl.kept (row := none) ⟨hb'.os, hb'.tape, hb'.output, hb'.size, fun i hi _ => hb'.block i hi⟩ (by simp), h5, hmem⟩
end
/-- An entry of such a map comes up, or none is left. -/
theorem next {P : Program} (w : World) {ops : Array Oper} {rest : List Oper} {o : Oper} {a : Act} {Q : Exit → Act → World → Prop} (hg : o.guard = none) (it : Operand) (hop : o.op = Op.next it false) {k e : TypeId} (hk : P.underlying k = some (.int .i64)) (he : P.underlying e = some .bool)
    (v : Nat → Bool) (b r n : Nat) (D : DataW Unit) (l : List (Int × Bool)) (left : Lit → Bool) (cnt : Nat) (hit : a.eval it = .pointer (some ⟨r, 0, none⟩)) (h : w.ranges P k (plainElem P e) b r n D left cnt)
    (hhas : ∀ x : Int, Maps.has D (.int .i64 x) = true ↔ ∃ u, (x, u) ∈ l) (hat : ∀ (x : Int) (u : Bool), (x, u) ∈ l → ∀ zd, D.atKey (.int .i64 x) zd = .lit (.bool u)) (hmem : ∀ p, p ∈ l ↔ ∃ i ∈ base, p = (keyOf i, v i)) (hlD : ∀ kl, left kl = true → Maps.has D kl = true)
    (hDone : (∀ kl, left kl = false) → wpList P ops Q rest (a.put o.dst (.tuple #[.bool false])) w)
    (hMore : ∀ (i : Nat) (w' : World) (cnt' : Nat), i ∈ base → left (.int .i64 (keyOf i)) = true → w'.ranges P k (plainElem P e) b r n D (fun z => left z && !z.sameKey (.int .i64 (keyOf i))) cnt' → cnt' < cnt →
      w.grownBy w' (some r) → (Instr.entry (.pointer (some ⟨r, 0, none⟩))).run P w' = .ok (.tuple #[.int .i64 (keyOf i), .bool (v i)]) w' → wpList P ops Q rest (a.put o.dst (.tuple #[.bool true, .int .i64 (keyOf i), .bool (v i)])) w') :
    wpList P ops Q (o :: rest) a w :=
  wpList_next_ranges w hg it hop k (int_keyed hk) (plainElem P e) (Value.int .i64) Value.bool (fun key kl hkey => (by obtain ⟨x, rfl, _⟩ := keyOf_int_inv hk hkey; exact ⟨x, rfl⟩)) (fun u y hv => (by obtain ⟨c, rfl, _⟩ := plainElem_bool_inv he hv; exact ⟨c, rfl⟩)) b r n D left cnt hit h (fun _ hl => hDone hl)
    fun x c kl y w1 cnt1 hkey hlk hv hat1 hrg1 hlt hg1 hs1 hen => by
      obtain ⟨x', hx', rfl, _⟩ := keyOf_int_inv hk hkey
      cases hx'
      obtain ⟨c', hc', rfl⟩ := plainElem_bool_inv he hv
      cases hc'
      obtain ⟨u, hvm⟩ := (hhas x).1 (hlD _ hlk)
      obtain ⟨i, hi, hix⟩ := (hmem _).1 hvm
      have hx : x = keyOf i := congrArg Prod.fst hix
      have hvi : u = v i := congrArg Prod.snd hix
      have hcv : c = u := by have h1 := (hat1 (.lit (.bool c))).symm.trans (hat x u hvm (.lit (.bool c))); simpa using h1
      subst hcv
      subst hx
      subst hvi
      exact hMore i w1 cnt1 hi hlk hrg1 hlt hg1 hen

end Five
end Go.Proofs.YtkhlmofcdchccaaGreatDoor
