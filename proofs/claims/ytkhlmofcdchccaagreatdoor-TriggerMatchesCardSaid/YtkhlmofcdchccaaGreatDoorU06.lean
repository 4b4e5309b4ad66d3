/- Numbers in lists; updates by a row's number. A number among others. A table's copy: the columns in new memory. A row from the tape: the contract of Row. A row's copy; whether two schemas are equal. Two lists that a call lets grow side by side. -/
import Derived.Test.YtkhlmofcdchccaaGreatDoorTM5
import Derived.Test.YtkhlmofcdchccaaGreatDoorU03
import Derived.Test.YtkhlmofcdchccaaGreatDoorU04
namespace Go.Proofs.YtkhlmofcdchccaaGreatDoor
open Go.RowKit Go.Maps

/-- A row before and after. -/
structure PrD where
  id : Int
  old : List Val
  new : List Val
def PrR (M : Nat → Prop) (w : World) (p : PrD) (cs : List Value) : Prop := ∃ v1 v2, cs = [.int .i64 p.id, v1, v2] ∧ ValsR M w v1 p.old ∧ ValsR M w v2 p.new
theorem PrR.keep {M : Nat → Prop} {w w' : World} {p : PrD} {cs : List Value} (h : PrR M w p cs) (k : Keep M w w') : PrR M w' p cs := by
  obtain ⟨v1, v2, rfl, h1, h2⟩ := h
  exact ⟨v1, v2, rfl, h1.keep k, h2.keep k⟩
theorem PrR.weak {M M' : Nat → Prop} {w : World} (hM : ∀ k, k < w.heap.size → M' k → M k) {p : PrD} {cs : List Value} (h : PrR M w p cs) : PrR M' w p cs := by
  obtain ⟨v1, v2, rfl, h1, h2⟩ := h
  exact ⟨v1, v2, rfl, h1.weak hM, h2.weak hM⟩
def PrsR (M : Nat → Prop) (w : World) (v : Value) (l : List PrD) : Prop := RowsR M w 3 (PrR M w) v l
theorem PrsR.keep {M : Nat → Prop} {w w' : World} {v : Value} {l : List PrD} (h : PrsR M w v l) (k : Keep M w w') : PrsR M w' v l := RowsR.map h k fun _ _ _ h => h.keep k
theorem PrsR.weak {M M' : Nat → Prop} {w : World} {v : Value} {l : List PrD} (hM : ∀ k, k < w.heap.size → M' k → M k) (h : PrsR M w v l) : PrsR M' w v l := RowsR.weak h hM fun _ _ _ h => h.weak hM
theorem prStable : Stable PrR where
  keep h k := h.keep k
  weak h hM := h.weak hM
  one h u hu := by
    obtain ⟨v1, v2, rfl, h1, h2⟩ := h
    obtain ⟨_, _, rfl, _⟩ := h1.shape
    obtain ⟨_, _, rfl, _⟩ := h2.shape
    simp at hu
    rcases hu with rfl | rfl | rfl <;> rfl

/-- What an update's number finds: the new values, where they lie. -/
def FoundR (M : Nat → Prop) (l : List PrD) (w : World) (e : Ending) (w' : World) : Prop :=
  ∃ (v : Value) (b : Bool), e = .returned (.tuple #[v, .bool b]) ∧ (b = true → ∃ p ∈ l, ValsR M w v p.new) ∧ (∃ a n c, v = .slice a n c) ∧ Below w.heap.size w w'

set_option maxRecDepth 100000 in
set_option maxHeartbeats 4000000 in
theorem r7find_any {M : Nat → Prop} (rv : Value) (d : Int) (l : List PrD) (w : World) (hr : PrsR M w rv l) : Calls Tryz.prog 64 #[rv, .int .i64 d] w (FoundR M l w) := by
  obtain ⟨a, cap, rfl, hm⟩ := hr.shape
  unfold maxLen at hm
  have HR := Lib.hid hr
  have HL := Lib.hid fun j (hj : j < l.length) => rows_row hr hj
  obtain ⟨n, hn⟩ : ∃ n, l.length = n := ⟨_, rfl⟩
  rw [hn] at HL hm ⊢
  clear hr hn
  go_enter Tryz.func64, Tryz.ntmps64
  go_wp2_with fail
  go_loopw [10] (fun i wr => ∃ j : Nat, j ≤ n ∧ i = .int .i64 (j : Int) ∧ Below w.heap.size w wr) (fun i _ => n - (intOf i).toNat)
  case atStart => exact ⟨0, Nat.zero_le _, rfl, Below.refl _ _⟩
  case round =>
    rename World => wr
    obtain ⟨j, hj, rfl, hbel⟩ := hrel
    have HB := Lib.hid hbel
    have hz0 := hbel.size
    clear hbel
    by_cases hlt : j < n
    · obtain ⟨p, b, o, cs, hrj, hrm, rfl, hbz, ⟨v1, v2, rfl, h1, h2⟩, hcs, hcap, hcm⟩ := HL.out j hlt
      unfold maxLen at hcm
      obtain ⟨c0, c1, c2⟩ := CellsAt.c3 (hcs.keep (M := NoM) (.bel HB.out) fun h => h)
      obtain ⟨a1, n1, rfl, _⟩ := h1.shape
      obtain ⟨a2, n2, rfl, _⟩ := h2.shape
      have H2 := Lib.hid h2
      have HM := Lib.hid hrm
      clear hcs hrj h1 h2 hrm
      have i0 : (0 : Int) ≤ (j : Int) := by omega
      have i1 : (j : Int) < (n : Int) := by omega
      have HB1 := Lib.hid (HB.out.alloc HB.out.size (.cells #[.int .i64 p.id, .slice a1 p.old.length n1, .slice a2 p.new.length n2] 58))
      by_cases he : p.id = d
      · subst he
        go_wp2_with fail
        refine bodyPost_ret (v := .tuple #[.slice a2 p.new.length n2, .bool true]) (by simp [results, Tryz.results64, go_sem]) rfl ?_
        exact ⟨_, _, rfl, fun _ => ⟨p, HM.out, H2.out⟩, ⟨_, _, _, rfl⟩, HB1.out⟩
      · have he' : (p.id == d) = false := by simpa using he
        go_wp2_with fail
        go_roundw
        case rel => exact ⟨j + 1, by omega, by go_num, HB1.out⟩
        case measure => simp [intOf]; omega
    · obtain rfl : j = n := by omega
      go_wp2_with fail
      refine bodyPost_ret (v := .tuple #[.slice none 0 0, .bool false]) (by simp [results, Tryz.results64, go_sem]) rfl ?_
      refine ⟨.slice none 0 0, false, rfl, ?_, ⟨none, 0, 0, rfl⟩, HB.out⟩
      intro h
      cases h
end Go.Proofs.YtkhlmofcdchccaaGreatDoor
namespace Go.Proofs.YtkhlmofcdchccaaGreatDoor
open Go.RowKit Go.Maps

def NumR (x : Int) (cs : List Value) : Prop := cs = [.int .i64 x]
def NumsR (M : Nat → Prop) (w : World) (v : Value) (l : List Int) : Prop := RowsR M w 1 NumR v l
theorem NumsR.keep {M : Nat → Prop} {w w' : World} {v : Value} {l : List Int} (h : NumsR M w v l) (k : Keep M w w') : NumsR M w' v l := RowsR.map h k fun _ _ _ h => h

set_option maxRecDepth 100000 in
set_option maxHeartbeats 2000000 in
theorem r7has_any {M : Nat → Prop} (rv : Value) (d : Int) (l : List Int) (w : World) (hr : NumsR M w rv l) : Calls Tryz.prog 63 #[rv, .int .i64 d] w (BoolBel w) := by
  obtain ⟨a, cap, rfl, hm⟩ := hr.shape
  unfold maxLen at hm
  have HL := Lib.hid fun j (hj : j < l.length) => rows_row hr hj
  obtain ⟨n, hn⟩ : ∃ n, l.length = n := ⟨_, rfl⟩
  rw [hn] at HL hm ⊢
  clear hr hn
  go_enter Tryz.func63, Tryz.ntmps63
  go_wp2_with fail
  go_loopw [9] (fun i wr => ∃ j : Nat, j ≤ n ∧ i = .int .i64 (j : Int) ∧ Below w.heap.size w wr) (fun i _ => n - (intOf i).toNat)
  case atStart => exact ⟨0, Nat.zero_le _, rfl, Below.refl _ _⟩
  case round =>
    rename World => wr
    obtain ⟨j, hj, rfl, hbel⟩ := hrel
    have HB := Lib.hid hbel
    have hz0 := hbel.size
    clear hbel
    by_cases hlt : j < n
    · obtain ⟨x, b, o, cs, _, _, rfl, hbz, hcs0, hcs, hcap, hcm⟩ := HL.out j hlt
      obtain rfl : cs = [.int .i64 x] := hcs0
      unfold maxLen at hcm
      have c0 := (hcs.keep (M := NoM) (.bel HB.out) fun h => h) 0 _ rfl
      simp only [Nat.mul_one, Nat.add_zero] at c0
      clear hcs
      have i0 : (0 : Int) ≤ (j : Int) := by omega
      have i1 : (j : Int) < (n : Int) := by omega
      by_cases he : x = d
      · subst he
        go_wp2_with fail
        go_ret
        exact ⟨_, rfl, HB.out⟩
      · have he' : (x == d) = false := by simpa using he
        go_wp2_with fail
        go_roundw
        case rel => exact ⟨j + 1, by omega, by go_num, HB.out⟩
        case measure => simp [intOf]; omega
    · obtain rfl : j = n := by omega
      go_wp2_with fail
      go_ret
      exact ⟨_, rfl, HB.out⟩
end Go.Proofs.YtkhlmofcdchccaaGreatDoor
namespace Go.Proofs.YtkhlmofcdchccaaGreatDoor
open Go.RowKit Go.Maps

theorem infoTrw : (Tryz.prog.info? 139).map (fun i => (i.zero, i.size, i.bytes)) = some (some (.agg #[.int .i64 0, .slice none 0 0]), 2, 32) := by kernel_rfl

theorem blk_fr {w : World} {S : Nat} {cs : Array Value} {e : TypeId} (h : w.heap[S]? = some (.cells cs e (0, 0))) (i : Nat) : w.frozen? ⟨S, i, none⟩ = false := by simp [World.frozen?, h]

theorem step_appN {P : Program} {w : World} {ops : Array Oper} {o : Oper} {a : Act} {K : Act → World → Prop} {Q : Exit → Act → World → Prop} {E : Prop} (hgd : o.guard = none) (s x : Operand) (t : TypeId)
    (ho : o.op = .call { callee := .builtin .append, args := #[s, x], argTypes := #[t, t] })
    (e : TypeId) (z : Value) (size bytes : Nat) (ht : P.underlying t = some (.slice e)) (hinfo : (P.info? e).map (fun i => (i.zero, i.size, i.bytes)) = some (some z, size, bytes)) (hzs : z.cells.size = size) (hsz : 0 < size)
    {α : Type} {R : α → List Value → Prop} {M : Nat → Prop} (lo : Nat) (v src : Value) (xs ys : List α) (hs : a.eval s = v) (hx : a.eval x = src) (hown : RowsO lo w e size R v xs) (hsrc : RowsR M w size R src ys) (hne : ys ≠ [])
    (h1 : ∀ y ∈ ys, ∀ cs, R y cs → ∀ u ∈ cs, u.oneCell' = true) (hN : (xs.length + ys.length) * bytes ≤ 140737488355328) (hN2 : xs.length + ys.length ≤ maxLen) (hlo : lo ≤ w.heap.size)
    (h : ∀ v' w', RowsO lo w' e size R v' (xs ++ ys) → Keep (OwnB v) w w' → (∀ k, OwnB v' k → OwnB v k ∨ k = w.heap.size) → K (a.put o.dst v') w') :
    if Region.wanted o (yielded ops a.tmps) = true then Oper.wp P o a w K Q else E := by
  obtain ⟨i0, hi0, hz0, hz1, hz2⟩ := info_parts hinfo
  obtain ⟨css, hro, hl, hcs, hR⟩ := hown
  obtain ⟨dss, hds, hdl, hRd⟩ := hsrc
  rcases hds with ⟨_, hd0⟩ | ⟨b, of, cap, rfl, hT, hb, hlc, hm, hc⟩
  · subst hd0
    exact absurd (List.eq_nil_of_length_eq_zero (by simpa using hdl.symm)) hne
  · have hdsz : ∀ ds ∈ dss, ds.length = size := fun ds h' => let ⟨i, hi⟩ := List.mem_iff_getElem?.1 h'; (hc i ds hi).1
    have hone : ∀ u ∈ dss.flatten, u.oneCell' = true := by
      intro u hu
      obtain ⟨ds, hds, hu⟩ := List.mem_flatten.1 hu
      obtain ⟨i, hi⟩ := List.mem_iff_getElem?.1 hds
      have hlt : i < ys.length := by rw [← hdl]; exact (List.getElem?_eq_some_iff.1 hi).1
      exact h1 _ (List.getElem_mem hlt) ds (hRd i _ ds (List.getElem?_eq_getElem hlt) hi) u hu
    have hm0 : 0 < dss.length := by rw [hdl]; exact List.length_pos_iff.2 hne
    refine step_append_lies w hgd s x t ho lo e i0 z size bytes ht hi0 hz0 hz1 hz2 hzs hsz v css.length css.flatten hs hro ⟨b, of, none⟩ dss.length cap dss.flatten hx (flatten_length size dss hdsz) (flat_cells hc) hone hm0 (by rw [hl, hdl]; exact hN2) (by rw [hl, hdl]; exact hN) hlo w.heap.size rfl ?_
    intro g cp w' how hg hat _
    refine h _ w' ⟨css ++ dss, by simpa using how, by simp [hl, hdl], fun cs hc => ?_, fun i y cs hi hc => ?_⟩ (Keep.grownBy hg) fun k hk => by
      have hk' : g = k := by simpa [OwnB, Value.ownBlock] using hk
      subst hk'
      exact hat
    · rcases List.mem_append.1 hc with hc | hc
      · exact hcs cs hc
      · exact hdsz cs hc
    · by_cases hlt : i < xs.length
      · rw [List.getElem?_append_left hlt] at hi
        rw [List.getElem?_append_left (by omega)] at hc
        exact hR i y cs hi hc
      · rw [List.getElem?_append_right (by omega)] at hi
        rw [List.getElem?_append_right (by omega), hl] at hc
        exact hRd _ y cs hi hc

theorem step_appO {P : Program} {w : World} {ops : Array Oper} {o : Oper} {a : Act} {K : Act → World → Prop} {Q : Exit → Act → World → Prop} {E : Prop} (hgd : o.guard = none) (s x : Operand) (t : TypeId)
    (ho : o.op = .call { callee := .builtin .append, args := #[s, x], argTypes := #[t, t] })
    (e : TypeId) (z : Value) (size bytes : Nat) (ht : P.underlying t = some (.slice e)) (hinfo : (P.info? e).map (fun i => (i.zero, i.size, i.bytes)) = some (some z, size, bytes)) (hzs : z.cells.size = size) (hsz : 0 < size)
    {α : Type} {R : α → List Value → Prop} {M : Nat → Prop} (lo : Nat) (v src : Value) (xs ys : List α) (hs : a.eval s = v) (hx : a.eval x = src) (hown : RowsO lo w e size R v xs) (hsrc : RowsR M w size R src ys)
    (h1 : ∀ y ∈ ys, ∀ cs, R y cs → ∀ u ∈ cs, u.oneCell' = true) (hN : (xs.length + ys.length) * bytes ≤ 140737488355328) (hN2 : xs.length + ys.length ≤ maxLen) (hlo : lo ≤ w.heap.size)
    (h : ∀ v' w', RowsO lo w' e size R v' (xs ++ ys) → Keep (OwnB v) w w' → K (a.put o.dst v') w') :
    if Region.wanted o (yielded ops a.tmps) = true then Oper.wp P o a w K Q else E := by
  by_cases hne : ys = []
  · subst hne
    have hw : Region.wanted o (yielded ops a.tmps) = true := by simp [Region.wanted, hgd]
    rw [if_pos hw]
    obtain ⟨i0, hi0, hz0, hz1, hz2⟩ := info_parts hinfo
    have hown0 := hown
    obtain ⟨css, hro, hl, hcs, hR⟩ := hown
    obtain ⟨dss, hds, hdl, _⟩ := hsrc
    obtain rfl : dss = [] := List.eq_nil_of_length_eq_zero hdl
    have key : ∀ ad : Addr, ∀ c, src = .slice (some ad) 0 c → Oper.wp P o a w K Q := by
      intro ad c hsrc
      subst hsrc
      obtain ⟨v', w', hrun, how, hg, _⟩ := run_append_own w lo t o.type e i0 z size bytes ht hi0 hz0 hz1 hz2 hzs hsz v css.length css.flatten hro ad 0 c [] (by simp) (by simp) (by simp) (by rw [hl]; simpa using hN2) (by rw [hl]; simpa using hN) hlo
      unfold Oper.wp
      simp [execOp, ho, Go.resolve, Go.invoke, Go.builtin, hs, hx, hrun, Result.andThen]
      exact h _ _ (by rw [List.append_nil]; exact ⟨css, by simpa using how, hl, hcs, hR⟩) (Keep.grownBy hg)
    rcases hds with ⟨⟨A, hA⟩, _⟩ | ⟨b, of, cap, hA, _⟩
    · rcases A with _ | ad
      · subst hA
        have hrun := run_append_owned_none (P := P) (w := w) lo t o.type e i0 size ht hi0 v css.length css.flatten hro
        unfold Oper.wp
        simp [execOp, ho, Go.resolve, Go.invoke, Go.builtin, hs, hx, hrun, Result.andThen]
        exact h _ _ (by rw [List.append_nil]; exact hown0) (Keep.refl _ _)
      · exact key ad 0 hA
    · exact key ⟨b, of, none⟩ cap hA
  · exact step_appN hgd s x t ho e z size bytes ht hinfo hzs hsz lo v src xs ys hs hx hown hsrc hne h1 hN hN2 hlo fun v' w' h1 h2 _ => h v' w' h1 h2

/-- append(s, T{..}) at a step of a drawn region: s grows by what lies in the block just built. -/
theorem step_appG {P : Program} {w : World} {ops : Array Oper} {o : Oper} {a : Act} {K : Act → World → Prop} {Q : Exit → Act → World → Prop} {E : Prop} {α : Type} {R : (Nat → Prop) → World → α → List Value → Prop} (S : Stable R) (hgd : o.guard = none) (s x : Operand) (t : TypeId)
    (ho : o.op = .call { callee := .builtin .append, args := #[s, x], argTypes := #[t, t] })
    (e : TypeId) (z : Value) (size bytes : Nat) (ht : P.underlying t = some (.slice e)) (hinfo : (P.info? e).map (fun i => (i.zero, i.size, i.bytes)) = some (some z, size, bytes)) (hzs : z.cells.size = size) (hsz : 0 < size)
    (lo : Nat) (v : Value) (b : Nat) (arr : Array Value) (xs : List α) (y : α) (hs : a.eval s = v) (hx : a.eval x = .slice (some ⟨b, 0, none⟩) 1 1) (hb : b = w.heap.size) (hown : RowsG lo w e size R v xs) (hlen : arr.toList.length = size) (hy : R (OldOr lo v) w y arr.toList)
    (hN : (xs.length + 1) * bytes ≤ 140737488355328) (hN2 : xs.length + 1 ≤ maxLen) (hlo : lo ≤ w.heap.size)
    (h : ∀ v' w', RowsG lo w' e size R v' (xs ++ [y]) → Keep (OwnB v) w w' → K (a.put o.dst v') w') :
    if Region.wanted o (yielded ops a.tmps) = true then Oper.wp P o a (w.alloc (.cells arr e)) K Q else E := by
  refine step_appN hgd s x t ho e z size bytes ht hinfo hzs hsz (R := R (OldOr lo v) w) (M := fun _ => False) lo v _ xs [y] hs hx ?_ (rows_one y hb id hlen hy) (by simp) (fun _ _ cs hc => S.one hc) (by simpa using hN) (by simpa using hN2) (by simp; omega) ?_
  · exact RowsO.kept hown ((Keep.refl (fun _ => False) w).alloc _) (fun _ _ => id) fun _ _ _ h => h
  · intro v' w' ho' hk hat
    exact h v' w' (RowsG.snoc S ho' hk hat) (((Keep.refl _ w).alloc _).trans hk)

/-- The elder world, and the own blocks: where no tape is. -/
structure PB (w W : World) (L : List OwnBlk) : Prop where
  kept : Keep NoM w W
  blks : ∀ b ∈ L, w.heap.size ≤ b.pos ∧ W.heap[b.pos]? = some (.cells b.cells b.ty (0, 0))

section
variable {w W W' : World} {L L' : List OwnBlk}
theorem PB.start (w : World) : PB w w [] := ⟨.refl _ _, fun _ h => by cases h⟩
theorem PB.size (h : PB w W L) : w.heap.size ≤ W.heap.size := h.kept.size
theorem PB.below (h : PB w W L) : Below w.heap.size w W := h.kept.toBelow (Nat.le_refl _) fun _ _ h => h
theorem PB.blk (h : PB w W L) {b : OwnBlk} (hb : b ∈ L) : W.heap[b.pos]? = some (.cells b.cells b.ty (0, 0)) := (h.blks b hb).2
theorem PB.blt (h : PB w W L) {b : OwnBlk} (hb : b ∈ L) : b.pos < W.heap.size := (Array.getElem?_eq_some_iff.1 (h.blk hb)).1
theorem PB.then {N : Nat → Prop} (h : PB w W L) (k : Keep N W W') (h0 : ∀ i, i < w.heap.size → ¬ N i) (h1 : ∀ b ∈ L, ¬ N b.pos) : PB w W' L :=
  ⟨h.kept.then k fun i hi hn => absurd hn (h0 i hi), fun b hb => ⟨(h.blks b hb).1, (k.block _ (h.blt hb) (h1 b hb)).trans (h.blk hb)⟩⟩
theorem PB.bel (h : PB w W L) (hb : Below W.heap.size W W') : PB w W' L := h.then (.bel (M := NoM) hb) (fun _ _ h => h) (fun _ _ h => h)
theorem PB.alloc (h : PB w W L) (o : Obj) : PB w (W.alloc o) L := h.bel ((Below.refl _ _).alloc (Nat.le_refl _) o)
theorem PB.drew (h : PB w W L) : PB w W.drew L := ⟨h.kept.drew, h.blks⟩
theorem PB.new' (h : PB w W L) {g : Nat} (hg : g = W.heap.size) (cs : Array Value) (e : TypeId) : PB w (W.alloc (.cells cs e)) (⟨g, cs, e⟩ :: L) := by
  subst hg
  exact ⟨(h.alloc _).kept, fun b hb => by
    rcases List.mem_cons.1 hb with rfl | hb
    · exact ⟨h.size, heap_alloc_new W _⟩
    · exact (h.alloc _).blks b hb⟩
theorem PB.new (h : PB w W L) (cs : Array Value) (e : TypeId) : PB w (W.alloc (.cells cs e)) (⟨W.heap.size, cs, e⟩ :: L) := h.new' rfl cs e
theorem PB.sub (h : PB w W L) (hL : ∀ b ∈ L', b ∈ L) : PB w W L' := ⟨h.kept, fun b hb => h.blks b (hL b hb)⟩
theorem PB.put {p : Nat} {c c' : Array Value} {e : TypeId} (h : PB w W (⟨p, c, e⟩ :: L)) (i : Nat) (u : Value) (hc : (W.setCell ⟨p, i, none⟩ u).heap[p]? = some (.cells c' e (0, 0))) (hL : ∀ b ∈ L, b.pos ≠ p) : PB w (W.setCell ⟨p, i, none⟩ u) (⟨p, c', e⟩ :: L) := by
  have k : Keep (At p) W (W.setCell ⟨p, i, none⟩ u) := (Keep.refl (At p) W).setCell (p := ⟨p, i, none⟩) (fun _ => rfl) u
  have hp := (h.blks ⟨p, c, e⟩ (List.mem_cons_self ..)).1
  have h2 : PB w W L := h.sub fun b hb => List.mem_cons_of_mem _ hb
  have h3 := h2.then k (fun j hj e => by unfold At at e; dsimp only at hp; omega) (fun b hb e => hL b hb e)
  exact ⟨h3.kept, fun b hb => by
    rcases List.mem_cons.1 hb with rfl | hb
    · exact ⟨hp, hc⟩
    · exact h3.blks b hb⟩
theorem PB.swap {a b : OwnBlk} (h : PB w W (a :: b :: L)) : PB w W (b :: a :: L) := h.sub fun x hx => by
  simp only [List.mem_cons] at hx ⊢
  rcases hx with rfl | rfl | hx
  · exact .inr (.inl rfl)
  · exact .inl rfl
  · exact .inr (.inr hx)
/-- A second walk from where the first one stood. -/
theorem PB.trans {w1 : World} (h : PB w w1 L) (h' : PB w1 W L') : PB w W L := h.then h'.kept (fun _ _ h => h) (fun _ _ h => h)
end
theorem blk4_set0 {w : World} {S : Nat} {a b c d v : Value} {e : TypeId} (h : w.heap[S]? = some (.cells #[a, b, c, d] e (0, 0))) : (w.setCell ⟨S, 0, none⟩ v).heap[S]? = some (.cells #[v, b, c, d] e (0, 0)) := by
  simp [World.setCell, Array.getElem?_modify, h]
theorem blk4_set1 {w : World} {S : Nat} {a b c d v : Value} {e : TypeId} (h : w.heap[S]? = some (.cells #[a, b, c, d] e (0, 0))) : (w.setCell ⟨S, 1, none⟩ v).heap[S]? = some (.cells #[a, v, c, d] e (0, 0)) := by
  simp [World.setCell, Array.getElem?_modify, h]
theorem blk4_set2 {w : World} {S : Nat} {a b c d v : Value} {e : TypeId} (h : w.heap[S]? = some (.cells #[a, b, c, d] e (0, 0))) : (w.setCell ⟨S, 2, none⟩ v).heap[S]? = some (.cells #[a, b, v, d] e (0, 0)) := by
  simp [World.setCell, Array.getElem?_modify, h]
theorem blk4_set3 {w : World} {S : Nat} {a b c d v : Value} {e : TypeId} (h : w.heap[S]? = some (.cells #[a, b, c, d] e (0, 0))) : (w.setCell ⟨S, 3, none⟩ v).heap[S]? = some (.cells #[a, b, c, v] e (0, 0)) := by
  simp [World.setCell, Array.getElem?_modify, h]

theorem set5_keep (w : World) (g : Nat) (a b c d e : Value) : Keep (fun k => k = g ∨ k = g + 1) w (((((w.setCell ⟨g, 3, none⟩ a).setCell ⟨g + 1, 0, none⟩ b).setCell ⟨g + 1, 1, none⟩ c).setCell ⟨g + 1, 2, none⟩ d).setCell ⟨g + 1, 3, none⟩ e) :=
  (((((Keep.refl _ w).setCell (p := ⟨g, 3, none⟩) (fun _ => .inl rfl) _).setCell (p := ⟨g + 1, 0, none⟩) (fun _ => .inr rfl) _).setCell (p := ⟨g + 1, 1, none⟩) (fun _ => .inr rfl) _).setCell (p := ⟨g + 1, 2, none⟩) (fun _ => .inr rfl) _).setCell (p := ⟨g + 1, 3, none⟩) (fun _ => .inr rfl) _

/-- What a copy of a table is: its columns lie in new memory. -/
def CopT (nm : ByteArray) (nx : Int) (cl : List Col) (w : World) (e : Ending) (w' : World) : Prop :=
  ∃ ca cc ra rn rc, e = .returned (.agg #[.string nm, .slice ca cl.length cc, .int .i64 nx, .slice ra rn rc]) ∧ ColsR (Old w.heap.size) w' (.slice ca cl.length cc) cl ∧ Below w.heap.size w w'

set_option maxRecDepth 100000 in
set_option maxHeartbeats 8000000 in
theorem r6copy_any {M : Nat → Prop} (nm : ByteArray) (cv rv : Value) (nx : Int) (cl : List Col) (l : List (Int × List Val)) (w : World) (hc : ColsR M w cv cl) (hr : TrsR M w rv l) (hl : l.length ≤ 200) (hcl : cl.length ≤ 1000) (hx : ∀ r ∈ l, r.2.length ≤ 1000) :
    Calls Tryz.prog 62 #[.agg #[.string nm, cv, .int .i64 nx, rv]] w (CopT nm nx cl w) := by
  obtain ⟨ca, cc, rfl, hcm⟩ := hc.shape
  obtain ⟨a, cap, rfl, hm⟩ := hr.shape
  unfold maxLen at hm
  have HX := Lib.hid hx
  have HC := Lib.hid hc
  have HL := Lib.hid fun j (hj : j < l.length) => rows_row hr hj
  obtain ⟨n, hn⟩ : ∃ n, l.length = n := ⟨_, rfl⟩
  rw [hn] at HL hm hl ⊢
  have HLN := Lib.hid hn
  have HR := Lib.hid hr
  rw [hn] at HR
  clear hr hn hx hc
  have h0 := (PB.start w).new #[.string nm, .slice ca cl.length cc, .int .i64 nx, .slice a n cap] 96
  have h1 := h0.new' (g := w.heap.size + 1) (by simp) #[.string ⟨#[]⟩, .slice none 0 0, .int .i64 0, .slice none 0 0] 96
  go_enter Tryz.func62, Tryz.ntmps62
  go_upto_region 1 with fail
  generalize World.alloc (World.alloc w _) _ = W0 at h1 ⊢
  clear h0
  obtain ⟨x0, x1, x2, x3, xf2, xf3, xz⟩ := blk4 (h1.blk (b := ⟨w.heap.size, _, _⟩) (List.mem_cons_of_mem _ (List.mem_cons_self ..)))
  have HP0 := Lib.hid h1
  have hg1 := h1.blt (List.mem_cons_self ..)
  have HC0 := Lib.hid (HC.out.keep (.bel h1.below))
  clear h1
  dsimp only at hg1
  go_upto_region 2 with (at_builtin; refine wpList_app rfl _ _ 40 rfl 55 _ 4 32 Tryz.underlying40 infoCol rfl (by decide) (R := ColR) (M := M) (w.heap.size + 2) (.slice none 0 0) (.slice ca cl.length cc) [] cl rfl rfl (RowsO.nil ..) HC0.out (fun y _ cs h => colR_one default y cs h) (by simp; omega) (by simpa using hcm) (by omega) ?_; intro v2 w2 ho hk _; obtain ⟨ca2, cc2, rfl, _⟩ := ho.shape; have HO := Lib.hid ho; have HP1 := Lib.hid (HP0.out.bel (bel_nil hk)); have hx2 := HP1.out.blk (b := ⟨w.heap.size, _, _⟩) (List.mem_cons_of_mem _ (List.mem_cons_self ..)); have yf1 := blk_fr hx2 1; obtain ⟨y0, y1, y2, y3, _⟩ := blk4 hx2; clear ho hk hx2)
  rename World => w2
  have hx2 := HP1.out.blk (b := ⟨w.heap.size, _, _⟩) (List.mem_cons_of_mem _ (List.mem_cons_self ..))
  have hC2 : ColsR (fun k => k < w.heap.size + 2) w2 (.slice ca2 cl.length cc2) cl := HO.out.rows fun k h1 _ h2 => by omega
  have h3 := HP1.out.swap.put 1 (.slice ca2 cl.length cc2) (blk4_set1 hx2) (by simp)
  have hC3 := hC2.keep ((Keep.refl _ w2).setCell (p := ⟨w.heap.size, 1, none⟩) (fun _ => by simp) (.slice ca2 cl.length cc2))
  clear hx2 hC2 HO HP1 HP0 HC0 HC x0 x1 x2 x3 xf2 xf3 y0 y1 y2 y3 yf1
  generalize World.setCell w2 _ _ = W3 at h3 hC3 ⊢
  obtain ⟨y0, y1, y2, y3, _, _, yz⟩ := blk4 (h3.blk (b := ⟨w.heap.size, _, _⟩) (List.mem_cons_self ..))
  have HP3 := Lib.hid h3
  have HC3 := Lib.hid hC3
  have HL3 := Lib.hid fun j (hj : j < l.length) => rows_row (HR.out.keep (.bel h3.below)) hj
  rw [HLN.out] at HL3
  clear h3 hC3 HL HR
  go_wp2_with fail
  go_loopw [15, 3] (fun i v wr => ∃ j : Nat, j ≤ n ∧ i = .int .i64 (j : Int) ∧ Below W3.heap.size W3 wr ∧ RowsG W3.heap.size wr 139 2 TrR v (l.take j)) (fun i _ _ => n - (intOf i).toNat)
  case atStart => exact ⟨0, Nat.zero_le _, rfl, Below.refl _ _, RowsG.nil ..⟩
  case round =>
    rename World => wr
    obtain ⟨j, hj, rfl, hbel, hg⟩ := hrel
    obtain ⟨va, vc, hv, hvm⟩ := hg.shape
    have hlj : (l.take j).length = j := by rw [List.length_take, HLN.out]; omega
    rw [hlj] at hv
    subst hv
    have HB := Lib.hid hbel
    have HPR := Lib.hid ((PB.start W3).bel hbel)
    have HG := Lib.hid hg
    have HLJ := Lib.hid hlj
    have hz3 := hbel.size
    clear hbel hg hlj hvm y0 y1 y2 y3
    by_cases hlt : j < n
    · obtain ⟨r, b, o, cs, hrj, hrm, rfl, hbz, ⟨v, rfl, hvr⟩, hcs, hcap, hcm'⟩ := HL3.out j hlt
      unfold maxLen at hcm'
      obtain ⟨c0, c1⟩ := CellsAt.c2 (hcs.keep (M := NoM) (.bel HB.out) fun h => h)
      obtain ⟨ra, rc, rfl, _⟩ := hvr.shape
      have HVR := Lib.hid hvr
      have HRJ := Lib.hid hrj
      have hlen := HX.out r hrm
      clear hcs hrj hvr hrm
      have i0 : (0 : Int) ≤ (j : Int) := by omega
      have i1 : (j : Int) < (n : Int) := by omega
      have hQ : Below wr.heap.size wr (wr.alloc (.cells #[.int .i64 r.1, .slice ra r.2.length rc] 139)) := (Below.refl _ _).alloc (Nat.le_refl _) _
      have hP := HPR.out.new #[.int .i64 r.1, .slice ra r.2.length rc] 139
      go_upto_region 6 with fail
      generalize hp : wr.heap.size = p at hP hQ ⊢
      rw [← hp] at hQ
      have hp1 : wr.heap.size ≤ p := by omega
      clear hp
      generalize World.alloc wr _ = W4 at hP hQ ⊢
      have HQ := Lib.hid hQ
      clear hQ
      obtain ⟨e0, e1, _⟩ := blk2 (hP.blk (b := ⟨p, _, _⟩) (List.mem_cons_self ..))
      have HP4 := Lib.hid hP
      have hz4 := hP.blt (List.mem_cons_self ..)
      dsimp only at hz4
      have HKS := Lib.hid fun (w' : World) (h : PB W3 w' [⟨p, #[.int .i64 r.1, .slice ra r.2.length rc], 139⟩]) => show w'.cell? ⟨p, 0, none⟩ = some (.int .i64 r.1) ∧ w'.cell? ⟨p, 1, none⟩ = some (.slice ra r.2.length rc) from
        (blk2 (h.blk (b := ⟨p, _, _⟩) (List.mem_cons_self ..))).elim fun a0 h => ⟨a0, h.1⟩
      clear hP c0 c1
      have tok1 : Hid True := Lib.hid trivial
      go_region_held3 (fun w' => w'.cell? ⟨p, 0, none⟩ = some (.int .i64 r.1) ∧ w'.cell? ⟨p, 1, none⟩ = some (.slice ra r.2.length rc))
        (first | with_reducible exact HKS.out _ HP4.out.drew | with_reducible exact HKS.out _ HP5.out | with_reducible exact HKS.out _ (HP5.out.alloc _) | with_reducible exact HKS.out _ HP6.out | (trace_state; fail))
        (first
          | (go_at_call 65; have _t := tok1; go_loud (refine (rcopy_any _ r.2 _ (HVR.out.keep (.bel HP4.out.drew.below)) hlen).mono ?_; rintro e w5 ⟨v5, rfl, ho, hb⟩; have HO5 : Hid (RowsO W4.heap.size w5 26 3 ValR v5 r.2) := Lib.hid ho; have HP5 := Lib.hid (HP4.out.drew.bel hb); have HQ5 := Lib.hid ((drew_below HQ.out).trans (hb.mono (drew_below HQ.out).size)); have hz5 := HP5.out.size; obtain ⟨a5, c5, rfl, _⟩ := ho.shape; have HG5 := Lib.hid (HG.out.bel trStable HQ5.out); have HY5 : Hid (TrR (OldOr W3.heap.size (.slice va j vc)) w5 r [.int .i64 r.1, .slice a5 r.2.length c5]) := Lib.hid ⟨_, rfl, HO5.out.rows fun k h1 h2 hA => (by rcases hA with hA | hA; omega; have := (RowsO.lt HG.out hA).2; omega)⟩; clear ho hb tok1 _t))
          | (have _t := HG5; go_loud (refine step_appG (w := w5) trStable (by rfl) _ _ _ (by rfl) 139 _ 2 32 Tryz.underlying44 infoTrw (by rfl) (by decide) W3.heap.size (.slice va j vc) w5.heap.size #[.int .i64 r.1, .slice a5 r.2.length c5] (l.take j) r (by rfl) (by rfl) (by rfl) HG5.out (by rfl) HY5.out (by have := HLJ.out; omega) (by have := HLJ.out; unfold maxLen; omega) (by omega) ?_; intro v6 w6 ho hk; have HG6 := Lib.hid ho; have HP6 := Lib.hid (HP5.out.then hk (fun i hi hO => (by have := (RowsO.lt HG5.out hO).1; omega)) (fun b hb hO => (by simp only [List.mem_cons, List.not_mem_nil, or_false] at hb; subst hb; have := (RowsO.lt HG.out hO).2; dsimp only at this; omega))); clear ho hk)))
      go_wp2_with fail
      go_roundw
      case rel =>
        refine ⟨j + 1, by omega, by go_num, HP6.out.below, ?_⟩
        rw [List.take_add_one, HRJ.out]
        exact HG6.out
      case measure => simp [intOf]; omega
    · obtain rfl : j = n := by omega
      have hw := HP3.out.bel HB.out
      obtain ⟨y0, y1, y2, y3, _, _, yz⟩ := blk4 (hw.blk (b := ⟨w.heap.size, _, _⟩) (List.mem_cons_self ..))
      have hg := blk_fr (hw.blk (b := ⟨w.heap.size + 1, _, _⟩) (List.mem_cons_of_mem _ (List.mem_cons_self ..)))
      have g0 := hg 0
      have g1 := hg 1
      have g2 := hg 2
      have g3 := hg 3
      obtain ⟨u0, u1, u2, u3, _, _, uz⟩ := blk4 (hw.blk (b := ⟨w.heap.size + 1, _, _⟩) (List.mem_cons_of_mem _ (List.mem_cons_self ..)))
      have HW := Lib.hid hw
      clear hw hg
      go_wp2_with fail
      refine bodyPost_ret (v := .agg #[.string nm, .slice ca2 cl.length cc2, .int .i64 nx, .slice va j vc]) (by simp [results, Tryz.results62, go_sem, u0, u1, u2, u3]) rfl ?_
      have k := set5_keep wr w.heap.size (.slice va j vc) (.string nm) (.slice ca2 cl.length cc2) (.int .i64 nx) (.slice va j vc)
      generalize World.setCell _ (⟨w.heap.size + 1, 3, none⟩ : Addr) _ = W9 at k ⊢
      have q1 := HC3.out.keep (.bel HB.out)
      have q2 := q1.keep (k.weak fun k _ h => by rcases h with rfl | rfl <;> omega)
      have q3 := ((HW.out.sub (L' := []) (by simp)).then k (fun i hi h => by omega) (fun b hb => by cases hb)).below
      exact ⟨ca2, cc2, va, j, vc, rfl, q2.weak fun k _ h => by unfold Old at h; omega, q3⟩
end Go.Proofs.YtkhlmofcdchccaaGreatDoor
namespace Go.Proofs.YtkhlmofcdchccaaGreatDoor
open Go.RowKit Go.Maps

theorem rows_rowM {α : Type} {M : Nat → Prop} {w : World} {sz : Nat} {R : α → List Value → Prop} {a : Option Addr} {n c j : Nat} {l : List α} (h : RowsR M w sz R (.slice a n c) l) (hj : j < l.length) :
    ∃ x b o cs, l[j]? = some x ∧ x ∈ l ∧ a = some ⟨b, o, none⟩ ∧ b < w.heap.size ∧ R x cs ∧ CellsAt w b (o + j * sz) cs ∧ l.length ≤ c ∧ c ≤ maxLen ∧ ¬ M b := by
  rcases RowsR.open h with ⟨_, h0⟩ | ⟨b, o, cap, hv, hM, hb, hc, hm, hx⟩
  · rw [h0] at hj
    simp at hj
  · simp only [Value.slice.injEq] at hv
    obtain ⟨cs, hr, _, hcs⟩ := hx j _ (List.getElem?_eq_getElem hj)
    exact ⟨l[j], b, o, cs, List.getElem?_eq_getElem hj, List.getElem_mem hj, hv.1, hb, hr, hcs, hv.2.2 ▸ hc, hv.2.2 ▸ hm, hM⟩

/-- What Row gives: as many valid values as there are columns, in new memory. -/
def RowQ (lo n : Nat) (v : Value) (W : World) : Prop := ∃ r : List Val, r.length = n ∧ (∀ y ∈ r, ValidVal y) ∧ RowsO lo W 26 3 ValR v r

theorem blk3_set1 {w : World} {S : Nat} {a b c v : Value} {e : TypeId} (h : w.heap[S]? = some (.cells #[a, b, c] e (0, 0))) : (w.setCell ⟨S, 1, none⟩ v).heap[S]? = some (.cells #[a, v, c] e (0, 0)) := by
  simp [World.setCell, Array.getElem?_modify, h]
theorem blk3_set0 {w : World} {S : Nat} {a b c v : Value} {e : TypeId} (h : w.heap[S]? = some (.cells #[a, b, c] e (0, 0))) : (w.setCell ⟨S, 0, none⟩ v).heap[S]? = some (.cells #[v, b, c] e (0, 0)) := by
  simp [World.setCell, Array.getElem?_modify, h]
theorem blk3_set2 {w : World} {S : Nat} {a b c v : Value} {e : TypeId} (h : w.heap[S]? = some (.cells #[a, b, c] e (0, 0))) : (w.setCell ⟨S, 2, none⟩ v).heap[S]? = some (.cells #[a, b, v] e (0, 0)) := by
  simp [World.setCell, Array.getElem?_modify, h]
theorem blk3_fr {w : World} {S : Nat} {a b c : Value} {e : TypeId} (h : w.heap[S]? = some (.cells #[a, b, c] e (0, 0))) (i : Nat) : w.frozen? ⟨S, i, none⟩ = false := by simp [World.frozen?, h]

set_option maxRecDepth 100000 in
set_option maxHeartbeats 8000000 in
theorem row_any (T : Nat) (nm : ByteArray) (cv : Value) (cl : List Col) (w : World) (ht : TapeOk T w) (hn : WordsOk T w) (hc : ColsR (At T) w cv cl) (hl : cl.length ≤ 1000) :
    Calls Tryz.prog 59 #[.pointer (some ⟨T, 0, none⟩), .agg #[.string nm, cv]] w (Gives T w (RowQ w.heap.size cl.length)) := by
  obtain ⟨ca, cc, rfl, hcm⟩ := hc.shape
  have HC := Lib.hid fun j (hj : j < cl.length) => rows_rowM hc hj
  obtain ⟨n, hN⟩ : ∃ n, cl.length = n := ⟨_, rfl⟩
  rw [hN] at HC hl ⊢
  have HT := Lib.hid (OB.start ht)
  have HN := Lib.hid hn
  have hTw := ht.lt
  clear ht hn hc hN hcm
  go_enter Tryz.func59, Tryz.ntmps59
  go_wp2_with fail
  go_loopw [12, 5] (fun i v wr => ∃ r : List Val, r.length ≤ n ∧ i = .int .i64 (r.length : Int) ∧ (∀ y ∈ r, ValidVal y) ∧ OB T w wr [] ∧ RowsO w.heap.size wr 26 3 ValR v r) (fun i _ _ => n - (intOf i).toNat)
  case atStart => exact ⟨[], Nat.zero_le _, rfl, by simp, HT.out.alloc _, RowsO.nil ..⟩
  case round =>
    rename World => wr
    obtain ⟨r, hj, rfl, hval, hob, hro⟩ := hrel
    obtain ⟨va, vc, rfl, _⟩ := hro.shape
    have HB := Lib.hid hob
    have HR := Lib.hid hro
    have HV := Lib.hid hval
    have hzr := hob.size
    clear hob hro hval HT
    by_cases hlt : r.length < n
    · obtain ⟨⟨cn, ct, cnn, ck⟩, b, o, cs, _, _, rfl, hbz, hcs0, hcs, hcap, hcm, hMb⟩ := HC.out r.length hlt
      obtain rfl : cs = [.string cn, .int .i64 ct, .bool cnn, .bool ck] := hcs0
      unfold maxLen at hcm
      obtain ⟨c0, c1, c2, c3⟩ := CellsAt.c4 (hcs.keep (M := At T) HB.out.kept hMb)
      clear hcs
      have i0 : (0 : Int) ≤ (r.length : Int) := by omega
      have i1 : (r.length : Int) < (n : Int) := by omega
      have HO1 := Lib.hid ((OB.start (w := wr) HB.out.tape).new #[.string cn, .int .i64 ct, .bool cnn, .bool ck] 55)
      go_upto_region 5 with fail
      generalize hP : wr.heap.size = p at HO1 ⊢
      have hp : w.heap.size ≤ p := by omega
      generalize World.alloc wr _ = W1 at HO1 ⊢
      clear hP
      obtain ⟨c0', c1', c2', c3', _, _, cz'⟩ := blk4 (HO1.out.blk (b := ⟨p, _, _⟩) (List.mem_cons_self ..))
      go_wp2_with fail
      refine (typed_any T ct W1 HO1.out.tape (HN.out.at (HB.out.kept.trans HO1.out.kept))).mono ?_
      rintro e w2 ⟨v, rfl, ⟨x, rfl, hx, hk0⟩, ht2, hk2⟩
      have HO2 := Lib.hid (HO1.out.step ht2 hk2)
      have hp2 : p < w2.heap.size := HO2.out.blt (b := ⟨p, _, _⟩) (List.mem_cons_self ..)
      clear ht2 hk2 HO1 c0 c1 c2 c3
      dsimp only
      go_upto_region 6 with fail
      have HO3 := Lib.hid (HO2.out.new #[.int .i64 x.kind, .int .i64 x.int, .string x.text] 26)
      generalize hQ : w2.heap.size = q at HO3 hp2 ⊢
      generalize World.alloc w2 _ = W3 at HO3 ⊢
      clear HO2 hQ
      obtain ⟨c0, c1, c2, c3, _, _, cz⟩ := blk4 (HO3.out.blk (b := ⟨p, _, _⟩) (List.mem_cons_of_mem _ (List.mem_cons_self ..)))
      have HX := Lib.hid hx
      clear hx
      go_cut [27] (fun v wx => ∃ b : Bool, v = .bool b ∧ (b = true → x.kind = 1) ∧ OB T wr wx [⟨q, #[.int .i64 x.kind, .int .i64 x.int, .string x.text], 26⟩, ⟨p, #[.string cn, .int .i64 ct, .bool cnn, .bool ck], 55⟩])
      case first =>
        by_cases h1 : ct = 1
        · subst h1
          have hk1 : x.kind = 1 := by omega
          go_wp2_with fail
          refine (bool_any T 9 _ (by omega) (by omega) HO3.out.tape).mono ?_
          rintro e w4 ⟨v, rfl, ⟨b, rfl⟩, ht, hk⟩
          have HO4 := Lib.hid (HO3.out.step ht hk)
          clear ht hk
          dsimp only
          go_wp2_with fail
          go_meet
          exact ⟨!b, rfl, fun _ => hk1, HO4.out⟩
        · have h1' : (ct == 1) = false := by simpa using h1
          go_wp2_with fail
          go_meet
          exact ⟨false, rfl, (fun h => by cases h), HO3.out⟩
      case rest =>
        obtain ⟨b, rfl, hb1, hob⟩ := hcut
        rename World => w5
        have HO5 := Lib.hid hob
        clear hob HO3 c0 c1 c2 c3 cz
        obtain ⟨c0, c1, c2, c3, _, _, cz⟩ := blk4 (HO5.out.blk (b := ⟨p, _, _⟩) (List.mem_cons_of_mem _ (List.mem_cons_self ..)))
        go_upto_if 27 with fail
        go_cut [] (fun wx => ∃ y : Val, ValidVal y ∧ OB T wr wx [⟨q, #[.int .i64 y.kind, .int .i64 y.int, .string y.text], 26⟩, ⟨p, #[.string cn, .int .i64 ct, .bool cnn, .bool ck], 55⟩])
        case first =>
          cases b
          · go_wp2_with fail
            go_meet
            exact ⟨x, HX.out, HO5.out⟩
          · go_wp2_with fail
            refine (small_any T _ HO5.out.tape).mono ?_
            rintro e w6 ⟨v, rfl, ⟨m, rfl, hm0, hm1⟩, ht, hk⟩
            have HO6 := Lib.hid (HO5.out.step ht hk)
            clear ht hk c0 c1 c2 c3 cz
            dsimp only
            have hblk := HO6.out.blk (b := ⟨q, _, _⟩) (List.mem_cons_self ..)
            have hz6 := HO6.out.blt (b := ⟨q, _, _⟩) (List.mem_cons_self ..)
            dsimp only at hblk hz6
            have hf := blk3_fr hblk 1
            obtain ⟨e0, e1, e2, _⟩ := blk3 hblk
            go_wp2_with fail
            go_meet
            refine ⟨⟨x.kind, m, x.text⟩, ?_, HO6.out.put 1 _ (blk3_set1 hblk) fun b hb => ?_⟩
            · have hk1 : x.kind = 1 := by simpa using hb1
              have hv := HX.out
              refine .inr (.inl ⟨hk1, ⟨(by omega : (-9223372036854775808 : Int) ≤ m), (by omega : m ≤ 9223372036854775807)⟩, ?_⟩)
              rcases hv with ⟨h, _⟩ | ⟨_, _, h⟩ | ⟨h, _⟩ | ⟨h, _⟩
              · omega
              · exact h
              · omega
              · omega
            · simp only [List.mem_cons, List.not_mem_nil, or_false] at hb
              subst hb
              exact Nat.ne_of_lt hp2
        case rest =>
          obtain ⟨y, hy, hob⟩ := hcut
          rename World => w7
          have HO7 := Lib.hid hob
          have HY := Lib.hid hy
          clear hob hy HO5 c0 c1 c2 c3 cz
          obtain ⟨c0, c1, c2, c3, _, _, cz⟩ := blk4 (HO7.out.blk (b := ⟨p, _, _⟩) (List.mem_cons_of_mem _ (List.mem_cons_self ..)))
          go_upto_region 8 with fail
          go_cut [37] (fun v wx => ∃ b : Bool, v = .bool b ∧ OB T wr wx [⟨q, #[.int .i64 y.kind, .int .i64 y.int, .string y.text], 26⟩, ⟨p, #[.string cn, .int .i64 ct, .bool cnn, .bool ck], 55⟩])
          case first =>
            cases cnn
            · go_wp2_with fail
              refine (bool_any T 5 _ (by omega) (by omega) HO7.out.tape).mono ?_
              rintro e w8 ⟨v, rfl, ⟨b, rfl⟩, ht, hk⟩
              have HO8 := Lib.hid (HO7.out.step ht hk)
              clear ht hk
              dsimp only
              go_wp2_with fail
              go_meet
              exact ⟨b, rfl, HO8.out⟩
            · go_wp2_with fail
              go_meet
              exact ⟨false, rfl, HO7.out⟩
          case rest =>
            obtain ⟨b, rfl, hob⟩ := hcut
            rename World => w8
            have HO8 := Lib.hid hob
            clear hob HO7 c0 c1 c2 c3 cz
            have hblk := HO8.out.blk (b := ⟨q, _, _⟩) (List.mem_cons_self ..)
            have hz8 := HO8.out.blt (b := ⟨q, _, _⟩) (List.mem_cons_self ..)
            dsimp only at hblk hz8
            have f0 := blk3_fr hblk 0
            have f1 := blk3_fr hblk 1
            have f2 := blk3_fr hblk 2
            obtain ⟨e0, e1, e2, _⟩ := blk3 hblk
            have HBK := Lib.hid hblk
            clear hblk
            go_upto_if 37 with fail
            go_cut [] (fun wx => ∃ z : Val, ValidVal z ∧ OB T wr wx [⟨q, #[.int .i64 z.kind, .int .i64 z.int, .string z.text], 26⟩, ⟨p, #[.string cn, .int .i64 ct, .bool cnn, .bool ck], 55⟩])
            case first =>
              cases b
              · go_wp2_with fail
                go_meet
                exact ⟨y, HY.out, HO8.out⟩
              · go_wp2_with fail
                go_meet
                have hne : ∀ b ∈ [(⟨p, #[.string cn, .int .i64 ct, .bool cnn, .bool ck], 55⟩ : OwnBlk)], b.pos ≠ q := fun b hb => by
                  simp only [List.mem_cons, List.not_mem_nil, or_false] at hb
                  subst hb
                  exact Nat.ne_of_lt hp2
                have h0 := blk3_set0 (v := .int .i64 0) HBK.out
                have h1 := blk3_set1 (v := .int .i64 0) h0
                have h2 := blk3_set2 (v := .string ⟨#[]⟩) h1
                exact ⟨⟨0, 0, ⟨#[]⟩⟩, .inl ⟨rfl, rfl, rfl⟩, ((HO8.out.put 0 _ h0 hne).put 1 _ h1 hne).put 2 _ h2 hne⟩
            case rest =>
              obtain ⟨z, hz, hob⟩ := hcut
              rename World => w9
              have HO9 := Lib.hid hob
              have HZ := Lib.hid hz
              clear hob hz HO8 e0 e1 e2 f0 f1 f2
              have hblk := HO9.out.blk (b := ⟨q, _, _⟩) (List.mem_cons_self ..)
              dsimp only at hblk
              obtain ⟨e0, e1, e2, _⟩ := blk3 hblk
              clear hblk
              have HO10 := Lib.hid (HB.out.step HO9.out.tape HO9.out.kept)
              have HR9 := Lib.hid (RowsO.kept HR.out HO9.out.kept (fun k hb hT => by have := (RowsO.lt HR.out hb).1; unfold At at hT; omega) fun _ _ _ h => h)
              have hz9 : w.heap.size ≤ w9.heap.size := HO10.out.size
              go_wp2_with (at_builtin; go_loud (refine wpList_app rfl _ _ 56 rfl 26 _ 3 32 Tryz.underlying56 infoValT rfl (by decide) (R := ValR) (M := NoM) w.heap.size (.slice va r.length vc) (.slice (some ⟨w9.heap.size, 0, none⟩) 1 1) r [z] rfl rfl (RowsO.kept HR9.out ((Keep.refl (fun _ => False) w9).alloc _) (fun _ _ => id) fun _ _ _ h => h) (rows_one z rfl id rfl rfl) (fun y _ cs h => valR_one1 y cs h) (by simp; omega) (by simp [maxLen]; omega) (by simp; omega) ?_; intro v10 w10 ho hk _; have HO11 := Lib.hid ((HO10.out.alloc _).then hk (fun i hi hO => by have := (RowsO.lt HR9.out hO).1; omega) (fun b hb => by cases hb)); have HR10 := Lib.hid ho; clear ho hk))
              go_roundw
              case rel =>
                refine ⟨r ++ [z], by simp; omega, by simp, fun y hy => ?_, HO11.out, HR10.out⟩
                rcases List.mem_append.1 hy with hy | hy
                · exact HV.out y hy
                · simp only [List.mem_cons, List.not_mem_nil, or_false] at hy
                  subst hy
                  exact HZ.out
              case measure => simp [intOf]; omega
    · have hrn : r.length = n := by omega
      go_wp2_with fail
      go_ret
      exact HB.out.gives ⟨r, hrn, HV.out, HR.out⟩
end Go.Proofs.YtkhlmofcdchccaaGreatDoor
namespace Go.Proofs.YtkhlmofcdchccaaGreatDoor
open Go.RowKit Go.Maps

def CopR (r : Int × List Val) (w : World) (e : Ending) (w' : World) : Prop :=
  ∃ v, e = .returned (.agg #[.int .i64 r.1, v]) ∧ RowsO w.heap.size w' 26 3 ValR v r.2 ∧ Below w.heap.size w w'

set_option maxRecDepth 100000 in
set_option maxHeartbeats 4000000 in
theorem r8copy_any {M : Nat → Prop} (r : Int × List Val) (v : Value) (w : World) (hv : ValsR M w v r.2) (hx : r.2.length ≤ 1000) :
    Calls Tryz.prog 72 #[.agg #[.int .i64 r.1, v]] w (CopR r w) := by
  obtain ⟨a, c, rfl, hm⟩ := hv.shape
  have HV := Lib.hid hv
  clear hv
  have hP := (PB.start w).new #[.int .i64 r.1, .slice a r.2.length c] 139
  have hP := hP.new' (g := w.heap.size + 1) (by simp) #[.int .i64 0, .slice none 0 0] 139
  go_enter Tryz.func72, Tryz.ntmps72
  go_upto_region 1 with fail
  generalize World.alloc (World.alloc w _) _ = W4 at hP ⊢
  obtain ⟨e0, e1, _⟩ := blk2 (hP.blk (b := ⟨w.heap.size, _, _⟩) (List.mem_cons_of_mem _ (List.mem_cons_self ..)))
  have HP4 := Lib.hid hP
  have hz4 := hP.blt (List.mem_cons_self ..)
  dsimp only at hz4
  have HKS := Lib.hid fun (w' : World) (h : PB w w' [⟨w.heap.size + 1, #[.int .i64 0, .slice none 0 0], 139⟩, ⟨w.heap.size, #[.int .i64 r.1, .slice a r.2.length c], 139⟩]) => show w'.cell? ⟨w.heap.size, 0, none⟩ = some (.int .i64 r.1) ∧ w'.cell? ⟨w.heap.size, 1, none⟩ = some (.slice a r.2.length c) from
    (blk2 (h.blk (b := ⟨w.heap.size, _, _⟩) (List.mem_cons_of_mem _ (List.mem_cons_self ..)))).elim fun a0 h => ⟨a0, h.1⟩
  clear hP
  go_region_held3 (fun w' => w'.cell? ⟨w.heap.size, 0, none⟩ = some (.int .i64 r.1) ∧ w'.cell? ⟨w.heap.size, 1, none⟩ = some (.slice a r.2.length c))
    (first | with_reducible exact HKS.out _ HP4.out.drew | with_reducible exact HKS.out _ HP5.out | go_keep | (trace_state; fail))
    ((go_at_call 65; go_loud (refine (rcopy_any _ r.2 _ (HV.out.keep (.bel HP4.out.drew.below)) hx).mono ?_; rintro e w5 ⟨v5, rfl, ho, hb⟩; have HO5 : Hid (RowsO W4.heap.size w5 26 3 ValR v5 r.2) := Lib.hid ho; have HP5 := Lib.hid (HP4.out.drew.bel hb); have hz5 := HP5.out.size; obtain ⟨a5, c5, rfl, _⟩ := ho.shape; obtain ⟨g0, g1, f0, f1, gz⟩ := blk2 (HP5.out.blk (b := ⟨w.heap.size + 1, _, _⟩) (List.mem_cons_self ..)); clear ho hb)))
  go_wp2_with fail
  refine bodyPost_ret (v := .agg #[.int .i64 r.1, .slice a5 r.2.length c5]) (by simp [results, Tryz.results72, go_sem, g0, g1]) rfl ?_
  have k := ((Keep.refl (At (w.heap.size + 1)) w5).setCell (p := ⟨w.heap.size + 1, 0, none⟩) (fun _ => rfl) (.int .i64 r.1)).setCell (p := ⟨w.heap.size + 1, 1, none⟩) (fun _ => rfl) (.slice a5 r.2.length c5)
  generalize World.setCell _ (⟨w.heap.size + 1, 1, none⟩ : Addr) _ = W9 at k ⊢
  have q2 := RowsO.kept HO5.out k (fun k hb hA => by have := (RowsO.lt HO5.out hb).1; unfold At at hA; omega) fun _ _ _ h => h
  have q3 := ((HP5.out.sub (L' := []) (by simp)).then k (fun i hi h => by unfold At at h; omega) (fun b hb => by cases hb)).below
  exact ⟨_, rfl, q2.lower (by omega), q3⟩

set_option maxRecDepth 100000 in
set_option maxHeartbeats 8000000 in
theorem r8same_any {M : Nat → Prop} (nm nm2 : ByteArray) (v u : Value) (l x : List Col) (w : World) (hv : ColsR M w v l) (hu : ColsR M w u x) :
    Calls Tryz.prog 70 #[.agg #[.string nm, v], .agg #[.string nm2, u]] w (BoolBel w) := by
  obtain ⟨a, cap, rfl, hm⟩ := hv.shape
  obtain ⟨a', cap', rfl, hm'⟩ := hu.shape
  unfold maxLen at hm hm'
  have HL := Lib.hid fun j (hj : j < l.length) => rows_row hv hj
  have HX := Lib.hid fun j (hj : j < x.length) => rows_row hu hj
  obtain ⟨n, hn⟩ : ∃ n, l.length = n := ⟨_, rfl⟩
  obtain ⟨m, hmx⟩ : ∃ n, x.length = n := ⟨_, rfl⟩
  rw [hn] at HL hm ⊢
  rw [hmx] at HX hm' ⊢
  clear hv hn hu hmx
  have hP := (PB.start w).new #[.string nm, .slice a n cap] 42
  have hP := hP.new' (g := w.heap.size + 1) (by simp) #[.string nm2, .slice a' m cap'] 42
  cases hs : (nm.toList == nm2.toList) with
  | true =>
    by_cases hnm : m = n
    · subst hnm
      go_enter Tryz.func70, Tryz.ntmps70
      go_upto_region 1 with fail
      generalize World.alloc (World.alloc w _) _ = W4 at hP ⊢
      obtain ⟨e0, e1, _⟩ := blk2 (hP.blk (b := ⟨w.heap.size, _, _⟩) (List.mem_cons_of_mem _ (List.mem_cons_self ..)))
      obtain ⟨f0, f1, _⟩ := blk2 (hP.blk (b := ⟨w.heap.size + 1, _, _⟩) (List.mem_cons_self ..))
      have HP4 := Lib.hid hP
      clear hP
      go_wp2_with fail
      go_loopw [23] (fun i wr => ∃ j : Nat, j ≤ m ∧ i = .int .i64 (j : Int) ∧ Below W4.heap.size W4 wr) (fun i _ => m - (intOf i).toNat)
      case atStart => exact ⟨0, Nat.zero_le _, rfl, Below.refl _ _⟩
      case round =>
        rename World => wr
        obtain ⟨j, hj, rfl, hbel⟩ := hrel
        have HB := Lib.hid (HP4.out.bel hbel)
        have HBL := Lib.hid hbel
        clear hbel e0 e1 f0 f1
        obtain ⟨e0, e1, _⟩ := blk2 (HB.out.blk (b := ⟨w.heap.size, _, _⟩) (List.mem_cons_of_mem _ (List.mem_cons_self ..)))
        obtain ⟨f0, f1, _⟩ := blk2 (HB.out.blk (b := ⟨w.heap.size + 1, _, _⟩) (List.mem_cons_self ..))
        by_cases hlt : j < m
        · obtain ⟨⟨cn, ct, cnn, ck⟩, b, o, cs, hcj, _, rfl, hbz, hcs0, hcs, hcap, hcm⟩ := HL.out j hlt
          obtain rfl : cs = [.string cn, .int .i64 ct, .bool cnn, .bool ck] := hcs0
          unfold maxLen at hcm
          obtain ⟨c0, c1, c2, c3⟩ := CellsAt.c4 (hcs.keep (M := NoM) (.bel HB.out.below) id)
          obtain ⟨⟨dn, dt, dnn, dk⟩, b', o', cs', hyj, hym, rfl, hbz', hcs0', hcs', hcap', hcm'⟩ := HX.out j hlt
          obtain rfl : cs' = [.string dn, .int .i64 dt, .bool dnn, .bool dk] := hcs0'
          unfold maxLen at hcm'
          obtain ⟨d0, d1, d2, d3⟩ := CellsAt.c4 (hcs'.keep (M := NoM) (.bel HB.out.below) id)
          clear hcs hcj hcs' hyj hym
          have i0 : (0 : Int) ≤ (j : Int) := by omega
          have i1 : (j : Int) < (m : Int) := by omega
          go_upto_region 6 with fail
          cases h1 : (cn.toList == dn.toList)
          · go_quiet (fail)
            go_wp2_with fail
            go_ret
            exact ⟨_, rfl, drewN_below HB.out.below _⟩
          cases h2 : (ct == dt)
          · go_quiet (fail)
            go_wp2_with fail
            go_ret
            exact ⟨_, rfl, drewN_below HB.out.below _⟩
          cases h3 : (cnn == dnn)
          · go_quiet (fail)
            go_wp2_with fail
            go_ret
            exact ⟨_, rfl, drewN_below HB.out.below _⟩
          cases h4 : (ck == dk)
          · go_quiet (fail)
            go_wp2_with fail
            go_ret
            exact ⟨_, rfl, drewN_below HB.out.below _⟩
          go_quiet (fail)
          go_wp2_with fail
          go_roundw
          case rel => exact ⟨j + 1, by omega, by go_num, drewN_below HBL.out _⟩
          case measure => simp [intOf]; omega
        · obtain rfl : j = m := by omega
          go_wp2_with fail
          go_ret
          exact ⟨_, rfl, HB.out.below⟩
    · have hnm' : ¬ ((n : Int) = (m : Int)) := by omega
      go_enter Tryz.func70, Tryz.ntmps70
      go_wp2_with fail
      go_ret
      exact ⟨_, rfl, hP.below⟩
  | false =>
    go_enter Tryz.func70, Tryz.ntmps70
    go_wp2_with fail
    go_ret
    exact ⟨_, rfl, hP.below⟩
end Go.Proofs.YtkhlmofcdchccaaGreatDoor
namespace Go.Proofs.YtkhlmofcdchccaaGreatDoor
open Go.RowKit Go.Maps

/-- Blocks from before, and what the two lists own. -/
def MM (lo : Nat) (va vb : Value) (k : Nat) : Prop := k < lo ∨ OwnB va k ∨ OwnB vb k

section
variable {α β : Type} {Ra : (Nat → Prop) → World → α → List Value → Prop} {Rb : (Nat → Prop) → World → β → List Value → Prop} {ea eb : TypeId} {sa sb lo : Nat} {w w' : World} {va vb : Value} {la : List α} {lb : List β}

structure G2 (Ra : (Nat → Prop) → World → α → List Value → Prop) (Rb : (Nat → Prop) → World → β → List Value → Prop) (ea eb : TypeId) (sa sb lo : Nat) (w : World) (va : Value) (la : List α) (vb : Value) (lb : List β) : Prop where
  ra : RowsO lo w ea sa (Ra (MM lo va vb) w) va la
  rb : RowsO lo w eb sb (Rb (MM lo va vb) w) vb lb
  dj : ∀ k, OwnB va k → ¬ OwnB vb k

theorem G2.nil (lo : Nat) (w : World) : G2 Ra Rb ea eb sa sb lo w (.slice none 0 0) [] (.slice none 0 0) [] := ⟨RowsO.nil .., RowsO.nil .., fun k h => by cases h⟩
theorem MM.swap {k : Nat} (h : MM lo va vb k) : MM lo vb va k := by
  rcases h with h | h | h
  · exact .inl h
  · exact .inr (.inr h)
  · exact .inr (.inl h)
theorem G2.swap (Sa : Stable Ra) (Sb : Stable Rb) (h : G2 Ra Rb ea eb sa sb lo w va la vb lb) : G2 Rb Ra eb ea sb sa lo w vb lb va la :=
  ⟨h.rb.imp fun _ _ _ hc => Sb.weak hc fun _ _ hk => hk.swap, h.ra.imp fun _ _ _ hc => Sa.weak hc fun _ _ hk => hk.swap, fun k h1 h2 => h.dj k h2 h1⟩
theorem MM.weaken {M : Nat → Prop} (hM : ∀ k, lo ≤ k → k < w.heap.size → ¬ M k) : ∀ k, k < w.heap.size → M k → MM lo va vb k := fun k hk h => .inl (Nat.lt_of_not_le fun hl => hM k hl hk h)
theorem G2.keep (Sa : Stable Ra) (Sb : Stable Rb) {M : Nat → Prop} (h : G2 Ra Rb ea eb sa sb lo w va la vb lb) (k : Keep M w w') (hM : ∀ k, lo ≤ k → k < w.heap.size → ¬ M k) : G2 Ra Rb ea eb sa sb lo w' va la vb lb :=
  ⟨RowsO.kept h.ra k (fun b hb => hM b (RowsO.lt h.ra hb).1 (RowsO.lt h.ra hb).2) fun _ _ _ hc => Sa.keep hc (k.weak fun b hb h => MM.weaken hM b hb h),
   RowsO.kept h.rb k (fun b hb => hM b (RowsO.lt h.rb hb).1 (RowsO.lt h.rb hb).2) fun _ _ _ hc => Sb.keep hc (k.weak fun b hb h => MM.weaken hM b hb h), h.dj⟩
theorem G2.bel (Sa : Stable Ra) (Sb : Stable Rb) (h : G2 Ra Rb ea eb sa sb lo w va la vb lb) (k : Below w.heap.size w w') : G2 Ra Rb ea eb sa sb lo w' va la vb lb := h.keep Sa Sb (M := fun _ => False) (.bel k) fun _ _ _ h => h
theorem G2.rowsA (Sa : Stable Ra) (h : G2 Ra Rb ea eb sa sb lo w va la vb lb) : RowsR (Old lo) w sa (Ra (Old lo) w) va la :=
  (RowsO.imp h.ra fun _ _ _ hc => Sa.weak hc fun _ _ hk => .inl hk).rows fun k h1 _ h2 => by unfold Old at h2; omega
theorem G2.rowsB (Sb : Stable Rb) (h : G2 Ra Rb ea eb sa sb lo w va la vb lb) : RowsR (Old lo) w sb (Rb (Old lo) w) vb lb :=
  (RowsO.imp h.rb fun _ _ _ hc => Sb.weak hc fun _ _ hk => .inl hk).rows fun k h1 _ h2 => by unfold Old at h2; omega
theorem G2.shapeA (h : G2 Ra Rb ea eb sa sb lo w va la vb lb) : ∃ a cap, va = .slice a la.length cap ∧ la.length ≤ maxLen := RowsO.shape h.ra
theorem G2.shapeB (h : G2 Ra Rb ea eb sa sb lo w va la vb lb) : ∃ a cap, vb = .slice a lb.length cap ∧ lb.length ≤ maxLen := RowsO.shape h.rb

theorem G2.snoc (Sa : Stable Ra) (Sb : Stable Rb) (h : G2 Ra Rb ea eb sa sb lo w va la vb lb) {va' : Value} {y : α} {arr : Array Value} {t : TypeId}
    (ho : RowsO lo w' ea sa (Ra (MM lo va vb) w) va' (la ++ [y])) (hk : Keep (OwnB va) (w.alloc (.cells arr t)) w') (hat : ∀ k, OwnB va' k → OwnB va k ∨ k = (w.alloc (.cells arr t)).heap.size) : G2 Ra Rb ea eb sa sb lo w' va' (la ++ [y]) vb lb := by
  have k1 : Keep (OwnB va) w w' := ((Keep.refl _ w).alloc _).trans hk
  have k2 : Keep (MM lo va vb) w w' := k1.weak fun k _ h => .inr (.inl h)
  have step : ∀ k, k < w'.heap.size → MM lo va' vb k → MM lo va vb k ∨ w.heap.size ≤ k := fun k _ hk' => by
    rcases hk' with hk' | hk' | hk'
    · exact .inl (.inl hk')
    · rcases hat k hk' with h | h
      · exact .inl (.inr (.inl h))
      · exact .inr (by rw [h]; simp)
    · exact .inl (.inr (.inr hk'))
  refine ⟨RowsO.imp ho fun x _ cs hc => Sa.weak (Sa.keep (Sa.weak (M' := fun k => MM lo va vb k ∨ w.heap.size ≤ k) hc fun k hk hh => hh.resolve_right (by omega)) (k2.weak fun k _ h => .inl h)) step, ?_, fun k h1 h2 => ?_⟩
  · exact RowsO.kept h.rb k1 (fun b hb ha => h.dj b ha hb) fun x _ cs hc => Sb.weak (Sb.keep (Sb.weak (M' := fun k => MM lo va vb k ∨ w.heap.size ≤ k) hc fun k hk hh => hh.resolve_right (by omega)) (k2.weak fun k _ h => .inl h)) step
  · have hlt := (RowsO.lt h.rb h2).2
    rcases hat k h1 with h3 | h3
    · exact h.dj k h3 h2
    · rw [h3] at hlt
      simp at hlt
      omega

/-- append(s, T{..}) at a step of a drawn region, for the first list. -/
theorem step_appA {P : Program} {ops : Array Oper} {o : Oper} {a : Act} {K : Act → World → Prop} {Q : Exit → Act → World → Prop} {E : Prop} (Sa : Stable Ra) (Sb : Stable Rb) (hgd : o.guard = none) (s x : Operand) (t : TypeId)
    (ho : o.op = .call { callee := .builtin .append, args := #[s, x], argTypes := #[t, t] })
    (z : Value) (bytes : Nat) (ht : P.underlying t = some (.slice ea)) (hinfo : (P.info? ea).map (fun i => (i.zero, i.size, i.bytes)) = some (some z, sa, bytes)) (hzs : z.cells.size = sa) (hsz : 0 < sa)
    (b : Nat) (arr : Array Value) (y : α) (hs : a.eval s = va) (hx : a.eval x = .slice (some ⟨b, 0, none⟩) 1 1) (hb : b = w.heap.size) (hown : G2 Ra Rb ea eb sa sb lo w va la vb lb) (hlen : arr.toList.length = sa) (hy : Ra (MM lo va vb) w y arr.toList)
    (hN : (la.length + 1) * bytes ≤ 140737488355328) (hN2 : la.length + 1 ≤ maxLen) (hlo : lo ≤ w.heap.size)
    (h : ∀ v' w', G2 Ra Rb ea eb sa sb lo w' v' (la ++ [y]) vb lb → Keep (OwnB va) w w' → K (a.put o.dst v') w') :
    if Region.wanted o (yielded ops a.tmps) = true then Oper.wp P o a (w.alloc (.cells arr ea)) K Q else E := by
  refine step_appN hgd s x t ho ea z sa bytes ht hinfo hzs hsz (R := Ra (MM lo va vb) w) (M := fun _ => False) lo va _ la [y] hs hx ?_ (rows_one y hb id hlen hy) (by simp) (fun _ _ cs hc => Sa.one hc) (by simpa using hN) (by simpa using hN2) (by simp; omega) ?_
  · exact RowsO.kept hown.ra ((Keep.refl (fun _ => False) w).alloc _) (fun _ _ => id) fun _ _ _ h => h
  · intro v' w' ho' hk hat
    exact h v' w' (hown.snoc Sa Sb ho' hk hat) (((Keep.refl _ w).alloc _).trans hk)
/-- append(s, T{..}) for the first list. -/
theorem wpList_appA {P : Program} {ops : Array Oper} {rest : List Oper} {o : Oper} {a : Act} {Q : Exit → Act → World → Prop} (Sa : Stable Ra) (Sb : Stable Rb) (hgd : o.guard = none) (s x : Operand) (t : TypeId)
    (ho : o.op = .call { callee := .builtin .append, args := #[s, x], argTypes := #[t, t] })
    (z : Value) (bytes : Nat) (ht : P.underlying t = some (.slice ea)) (hinfo : (P.info? ea).map (fun i => (i.zero, i.size, i.bytes)) = some (some z, sa, bytes)) (hzs : z.cells.size = sa) (hsz : 0 < sa)
    (b : Nat) (arr : Array Value) (y : α) (hs : a.eval s = va) (hx : a.eval x = .slice (some ⟨b, 0, none⟩) 1 1) (hb : b = w.heap.size) (hown : G2 Ra Rb ea eb sa sb lo w va la vb lb) (hlen : arr.toList.length = sa) (hy : Ra (MM lo va vb) w y arr.toList)
    (hN : (la.length + 1) * bytes ≤ 140737488355328) (hN2 : la.length + 1 ≤ maxLen) (hlo : lo ≤ w.heap.size)
    (h : ∀ v' w', G2 Ra Rb ea eb sa sb lo w' v' (la ++ [y]) vb lb → Keep (OwnB va) w w' → wpList P ops Q rest (a.put o.dst v') w') : wpList P ops Q (o :: rest) a (w.alloc (.cells arr ea)) := by
  refine wpList_app hgd s x t ho ea z sa bytes ht hinfo hzs hsz (R := Ra (MM lo va vb) w) (M := fun _ => False) lo va _ la [y] hs hx ?_ (rows_one y hb id hlen hy) (fun _ _ cs hc => Sa.one hc) (by simpa using hN) (by simpa using hN2) (by simp; omega) ?_
  · exact RowsO.kept hown.ra ((Keep.refl (fun _ => False) w).alloc _) (fun _ _ => id) fun _ _ _ h => h
  · intro v' w' ho' hk hat
    exact h v' w' (hown.snoc Sa Sb ho' hk (hat (by simp))) (((Keep.refl _ w).alloc _).trans hk)
end
theorem infoPair : (Tryz.prog.info? 58).map (fun i => (i.zero, i.size, i.bytes)) = some (some (.agg #[.int .i64 0, .slice none 0 0, .slice none 0 0]), 3, 56) := by kernel_rfl
theorem infoIntM : (Tryz.prog.info? 3).map (fun i => (i.zero, i.size, i.bytes)) = some (some (.int .i64 0), 1, 8) := by kernel_rfl
theorem infoVals : (Tryz.prog.info? 56).map (fun i => (i.zero, i.size, i.bytes)) = some (some (.slice none 0 0), 1, 24) := by kernel_rfl
end Go.Proofs.YtkhlmofcdchccaaGreatDoor
