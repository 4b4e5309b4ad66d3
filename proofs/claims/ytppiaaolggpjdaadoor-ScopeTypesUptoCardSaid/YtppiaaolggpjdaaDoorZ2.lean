/- Types of operations in the reference: its result, plain and as a contract. -/
import Derived.Test.YtppiaaolggpjdaaDoorZ1
import Derived.Test.YtppiaaolggpjdaaDoorKC4
namespace Go.Proofs.YtppiaaolggpjdaaDoor
open Go.RowKit

/-- The last type that is not NULL's, else -1. -/
def wantP (l : List Int) : Int := l.foldl (fun w t => if t = 0 then w else t) (-1)
def fitL (want : Int) (l : List Int) : Bool := l.all fun t => assignB want t
theorem wantP_snoc (l : List Int) (x : Int) : wantP (l ++ [x]) = if x = 0 then wantP l else x := by
  unfold wantP
  rw [List.foldl_append]
  rfl
theorem wantP_step {l : List Int} {k : Nat} {x : Int} (h : l[k]? = some x) : wantP (l.take (k + 1)) = if x = 0 then wantP (l.take k) else x := by
  rw [List.take_add_one, h, Option.toList_some, wantP_snoc]
theorem fitL_snoc (w : Int) (l : List Int) (x : Int) : fitL w (l ++ [x]) = (fitL w l && assignB w x) := by
  unfold fitL
  rw [List.all_append, List.all_cons, List.all_nil, Bool.and_true]
theorem assign_fits {w t : Int} (hw : w ≠ 0) : fitsB t w = assignB w t := by
  have h : (w == 0) = false := by simpa using hw
  unfold fitsB assignB
  rw [h, Bool.or_false]
theorem fitL_all {w : Int} (hw : w ≠ 0) (l : List Int) : allB l w = fitL w l := by
  unfold allB fitL
  induction l with
  | nil => rfl
  | cons x l ih => rw [List.all_cons, List.all_cons, ih, assign_fits hw]
theorem allB_zero (l : List Int) : allB l 0 = true := by
  unfold allB
  rw [List.all_eq_true]
  intro x _
  simp [fitsB]
/-- Prefixes: all pairs fit exactly if all fit the last one that is not NULL's. -/
theorem pair_prefix (l : List Int) : ∀ k, k ≤ l.length → ((List.range k).all fun i => allB (l.take i) (l.getD i 0)) = fitL (wantP (l.take k)) (l.take k)
  | 0, _ => rfl
  | k + 1, hk => by
    have hx : l[k]? = some l[k] := List.getElem?_eq_getElem (by omega)
    have ih := pair_prefix l k (by omega)
    rw [pairB_step l k _ hx, ih, wantP_step hx]
    have ht : l.take (k + 1) = l.take k ++ [l[k]] := by rw [List.take_add_one, hx, Option.toList_some]
    rw [ht]
    generalize l.take k = p at *
    generalize l[k] = x
    by_cases h0 : x = 0
    · subst h0
      rw [if_pos rfl, allB_zero, fitL_snoc]
      simp [assignB]
    · rw [if_neg h0, fitL_snoc, fitL_all h0]
      have ha : assignB x x = true := by simp [assignB]
      rw [ha, Bool.and_true]
      cases hf : fitL x p with
      | false => rw [Bool.and_false]
      | true =>
        rw [Bool.and_true]
        -- all of p are NULL's or x; so is the last one of them
        have hw : wantP p = x ∨ (wantP p = -1 ∧ ∀ t ∈ p, t = 0) := by
          clear ht ih
          have hall : ∀ t ∈ p, t = 0 ∨ t = x := by
            intro t ht
            have := List.all_eq_true.1 hf t ht
            simpa [assignB] using this
          have key : ∀ (q : List Int) (a : Int), (∀ t ∈ q, t = 0 ∨ t = x) → (q.foldl (fun w t => if t = 0 then w else t) a = x ∨ (q.foldl (fun w t => if t = 0 then w else t) a = a ∧ ∀ t ∈ q, t = 0)) := by
            intro q
            induction q with
            | nil => intro a _; exact .inr ⟨rfl, fun t h => by cases h⟩
            | cons y q ih =>
              intro a hq
              rw [List.foldl_cons]
              rcases hq y (List.mem_cons_self ..) with h | h
              · rw [if_pos h]
                rcases ih a (fun t ht => hq t (List.mem_cons_of_mem _ ht)) with h1 | ⟨h1, h2⟩
                · exact .inl h1
                · refine .inr ⟨h1, fun t ht => ?_⟩
                  rcases List.mem_cons.1 ht with rfl | ht
                  · exact h
                  · exact h2 t ht
              · rw [h, if_neg h0]
                rcases ih x (fun t ht => hq t (List.mem_cons_of_mem _ ht)) with h1 | ⟨h1, _⟩
                · exact .inl h1
                · exact .inl h1
          exact key p (-1) hall
        rcases hw with hw | ⟨_, hw⟩
        · rw [hw, hf]
        · unfold fitL
          rw [List.all_eq_true]
          intro t ht
          rw [hw t ht]
          simp [assignB]
theorem pair_fit (l : List Int) : pairB l = fitL (wantP l) l := by
  have := pair_prefix l l.length (Nat.le_refl _)
  rw [List.take_length] at this
  exact this

theorem fit_take {w : Int} {l : List Int} {k : Nat} {x : Int} (h : l[k]? = some x) : fitL w (l.take (k + 1)) = (fitL w (l.take k) && assignB w x) := by
  rw [List.take_add_one, h, Option.toList_some, fitL_snoc]
theorem fit_no {w : Int} {l : List Int} {k : Nat} {x : Int} (h : l[k]? = some x) (hx : assignB w x = false) : fitL w l = false := by
  unfold fitL
  rw [List.all_eq_false]
  exact ⟨x, List.mem_of_getElem? h, by simp [hx]⟩

def resI (b : Bool) (g : Int) : Int × Int := if b then (g, 0) else (0, 5)

section
variable {M : Nat → Prop} (k o : Int) (no : Bool) (vk vi : Int) (vt t nm : ByteArray) (va vs v : Value) (l : List Int) (w : World)

set_option maxRecDepth 100000 in
set_option maxHeartbeats 4000000 in
theorem rresult_6 (hv : IntsR NoM w v l) (hk : k = 6) :
    Calls Tryd.prog 119 #[.agg #[.int .i64 k, .int .i64 o, .bool no, .int .i64 vk, .int .i64 vi, .string vt, .string t, .string nm, va, vs], v] w (RetII (2, 0) w) := by
  obtain ⟨a, cap, rfl, hm⟩ := hv.shape
  unfold maxLen at hm
  have HV := Lib.hid hv
  clear hv
  subst hk
  go_enter Tryd.func119, Tryd.ntmps119
  go_upto_region 8 with fail
  generalize hW : World.alloc w _ = W1
  have hk0 : W1.heap[w.heap.size]? = some (.cells #[.int .i64 6, .int .i64 o, .bool no, .int .i64 vk, .int .i64 vi, .string vt, .string t, .string nm, va, vs] 27 (0, 0)) := by rw [← hW]; exact heap_alloc_new w _
  have hb1 : Below w.heap.size w W1 := by rw [← hW]; exact (Below.refl _ _).alloc (Nat.le_refl _) _
  obtain ⟨x0, x1, x2, x3, x4, x5, x6, x7, x8, x9, xf, xz⟩ := blk10 hk0
  have HB1 := Lib.hid hb1
  clear hW hb1 hk0
  go_wp2_with fail
  go_ret2
  exact ⟨rfl, HB1.out⟩

set_option maxRecDepth 100000 in
set_option maxHeartbeats 4000000 in
theorem rresult_3 (hv : IntsR NoM w v l) (hk : k = 3 ∨ k = 5 ∧ o ≤ 2) :
    Calls Tryd.prog 119 #[.agg #[.int .i64 k, .int .i64 o, .bool no, .int .i64 vk, .int .i64 vi, .string vt, .string t, .string nm, va, vs], v] w (RetII (resI (fitL 2 l) 2) w) := by
  obtain ⟨a, cap, rfl, hm⟩ := hv.shape
  unfold maxLen at hm
  have HV := Lib.hid hv
  clear hv
  generalize hr : (resI (fitL 2 l) 2) = r
  have HRES := Lib.hid hr.symm
  clear hr
  rcases hk with rfl | ⟨rfl, ho⟩
  · go_enter Tryd.func119, Tryd.ntmps119
    go_upto_region 8 with fail
    generalize hW : World.alloc w _ = W1
    have hk0 : W1.heap[w.heap.size]? = some (.cells #[.int .i64 3, .int .i64 o, .bool no, .int .i64 vk, .int .i64 vi, .string vt, .string t, .string nm, va, vs] 27 (0, 0)) := by rw [← hW]; exact heap_alloc_new w _
    have hb1 : Below w.heap.size w W1 := by rw [← hW]; exact (Below.refl _ _).alloc (Nat.le_refl _) _
    obtain ⟨x0, x1, x2, x3, x4, x5, x6, x7, x8, x9, xf, xz⟩ := blk10 hk0
    have HB1 := Lib.hid hb1
    clear hW hb1 hk0
    go_wp2_with fail
    go_loopw [11, 56] (fun _ i wr => ∃ j : Nat, j ≤ l.length ∧ i = .int .i64 j ∧ W1 = wr ∧ fitL 2 (l.take j) = true) (fun _ i _ => l.length - (intOf i).toNat)
    case atStart => exact ⟨0, Nat.zero_le _, rfl, rfl, by simp [fitL]⟩
    case round =>
      obtain ⟨j, hj, rfl, rfl, hno⟩ := hrel
      have HNO := Lib.hid hno
      clear hno
      by_cases hlt : j < l.length
      · rcases HV.out.open with ⟨_, h⟩ | ⟨ab, ao, cap', hv', _, hab, _, _, hx⟩
        · rw [h] at hlt; simp at hlt
        simp only [Value.slice.injEq] at hv'
        obtain ⟨rfl, _, rfl⟩ := hv'
        have hxj : l[j]? = some l[j] := List.getElem?_eq_getElem hlt
        obtain ⟨cs, rfl, _, hcs⟩ := hx j _ hxj
        have HXJ := Lib.hid hxj
        generalize l[j] = x at hxj hcs HXJ
        have c0 := (hcs.keep (M := NoM) (Keep.bel HB1.out) id).c1
        rw [Nat.mul_one] at c0
        have i0 : (0 : Int) ≤ (j : Int) := by omega
        have i1 : (j : Int) < (l.length : Int) := by omega
        clear hx hcs hxj
        have HLT := Lib.hid hlt
        cases hfx : assignB 2 x
        · have hfc := fun w => rfits_any 2 x w
          rw [hfx] at hfc
          have HFC := Lib.hid hfc
          have HFN := Lib.hid (fit_no HXJ.out hfx)
          clear hfc hfx
          go_wp2_with (go_at_call 125; refine (HFC.out _).mono ?_; rintro e w2 ⟨rfl, rfl⟩)
          go_ret2
          refine ⟨?_, HB1.out⟩
          rw [HRES.out, HFN.out]
          rfl
        · have hfc := fun w => rfits_any 2 x w
          rw [hfx] at hfc
          have HFC := Lib.hid hfc
          have HFY := Lib.hid hfx
          clear hfc hfx
          go_wp2_with (go_at_call 125; refine (HFC.out _).mono ?_; rintro e w2 ⟨rfl, rfl⟩)
          go_roundw
          case rel =>
            have := HLT.out
            exact ⟨j + 1, by omega, by go_num, (by first | rfl | trivial), by rw [fit_take HXJ.out, HNO.out, HFY.out]; rfl⟩
          case measure =>
            have := HLT.out
            simp [intOf]
            omega
      · obtain rfl : j = l.length := by omega
        have HFA : Hid (fitL 2 l = true) := Lib.hid (by have := HNO.out; rwa [List.take_length] at this)
        go_wp2_with fail
        go_ret2
        refine ⟨?_, HB1.out⟩
        rw [HRES.out, HFA.out]
        rfl
  · go_enter Tryd.func119, Tryd.ntmps119
    go_upto_region 8 with fail
    generalize hW : World.alloc w _ = W1
    have hk0 : W1.heap[w.heap.size]? = some (.cells #[.int .i64 5, .int .i64 o, .bool no, .int .i64 vk, .int .i64 vi, .string vt, .string t, .string nm, va, vs] 27 (0, 0)) := by rw [← hW]; exact heap_alloc_new w _
    have hb1 : Below w.heap.size w W1 := by rw [← hW]; exact (Below.refl _ _).alloc (Nat.le_refl _) _
    obtain ⟨x0, x1, x2, x3, x4, x5, x6, x7, x8, x9, xf, xz⟩ := blk10 hk0
    have HB1 := Lib.hid hb1
    clear hW hb1 hk0
    go_wp2_with fail
    go_loopw [11, 56] (fun _ i wr => ∃ j : Nat, j ≤ l.length ∧ i = .int .i64 j ∧ W1 = wr ∧ fitL 2 (l.take j) = true) (fun _ i _ => l.length - (intOf i).toNat)
    case atStart => exact ⟨0, Nat.zero_le _, rfl, rfl, by simp [fitL]⟩
    case round =>
      obtain ⟨j, hj, rfl, rfl, hno⟩ := hrel
      have HNO := Lib.hid hno
      clear hno
      by_cases hlt : j < l.length
      · rcases HV.out.open with ⟨_, h⟩ | ⟨ab, ao, cap', hv', _, hab, _, _, hx⟩
        · rw [h] at hlt; simp at hlt
        simp only [Value.slice.injEq] at hv'
        obtain ⟨rfl, _, rfl⟩ := hv'
        have hxj : l[j]? = some l[j] := List.getElem?_eq_getElem hlt
        obtain ⟨cs, rfl, _, hcs⟩ := hx j _ hxj
        have HXJ := Lib.hid hxj
        generalize l[j] = x at hxj hcs HXJ
        have c0 := (hcs.keep (M := NoM) (Keep.bel HB1.out) id).c1
        rw [Nat.mul_one] at c0
        have i0 : (0 : Int) ≤ (j : Int) := by omega
        have i1 : (j : Int) < (l.length : Int) := by omega
        clear hx hcs hxj
        have HLT := Lib.hid hlt
        cases hfx : assignB 2 x
        · have hfc := fun w => rfits_any 2 x w
          rw [hfx] at hfc
          have HFC := Lib.hid hfc
          have HFN := Lib.hid (fit_no HXJ.out hfx)
          clear hfc hfx
          go_wp2_with (go_at_call 125; refine (HFC.out _).mono ?_; rintro e w2 ⟨rfl, rfl⟩)
          go_ret2
          refine ⟨?_, HB1.out⟩
          rw [HRES.out, HFN.out]
          rfl
        · have hfc := fun w => rfits_any 2 x w
          rw [hfx] at hfc
          have HFC := Lib.hid hfc
          have HFY := Lib.hid hfx
          clear hfc hfx
          go_wp2_with (go_at_call 125; refine (HFC.out _).mono ?_; rintro e w2 ⟨rfl, rfl⟩)
          go_roundw
          case rel =>
            have := HLT.out
            exact ⟨j + 1, by omega, by go_num, (by first | rfl | trivial), by rw [fit_take HXJ.out, HNO.out, HFY.out]; rfl⟩
          case measure =>
            have := HLT.out
            simp [intOf]
            omega
      · obtain rfl : j = l.length := by omega
        have HFA : Hid (fitL 2 l = true) := Lib.hid (by have := HNO.out; rwa [List.take_length] at this)
        go_wp2_with fail
        go_ret2
        refine ⟨?_, HB1.out⟩
        rw [HRES.out, HFA.out]
        rfl

set_option maxRecDepth 100000 in
set_option maxHeartbeats 4000000 in
theorem rresult_4 (hv : IntsR NoM w v l) (hk : k = 4 ∨ k = 5 ∧ 9 ≤ o) :
    Calls Tryd.prog 119 #[.agg #[.int .i64 k, .int .i64 o, .bool no, .int .i64 vk, .int .i64 vi, .string vt, .string t, .string nm, va, vs], v] w (RetII (resI (fitL 1 l) 1) w) := by
  obtain ⟨a, cap, rfl, hm⟩ := hv.shape
  unfold maxLen at hm
  have HV := Lib.hid hv
  clear hv
  generalize hr : (resI (fitL 1 l) 1) = r
  have HRES := Lib.hid hr.symm
  clear hr
  rcases hk with rfl | ⟨rfl, ho⟩
  · go_enter Tryd.func119, Tryd.ntmps119
    go_upto_region 8 with fail
    generalize hW : World.alloc w _ = W1
    have hk0 : W1.heap[w.heap.size]? = some (.cells #[.int .i64 4, .int .i64 o, .bool no, .int .i64 vk, .int .i64 vi, .string vt, .string t, .string nm, va, vs] 27 (0, 0)) := by rw [← hW]; exact heap_alloc_new w _
    have hb1 : Below w.heap.size w W1 := by rw [← hW]; exact (Below.refl _ _).alloc (Nat.le_refl _) _
    obtain ⟨x0, x1, x2, x3, x4, x5, x6, x7, x8, x9, xf, xz⟩ := blk10 hk0
    have HB1 := Lib.hid hb1
    clear hW hb1 hk0
    go_wp2_with fail
    go_loopw [11, 56] (fun _ i wr => ∃ j : Nat, j ≤ l.length ∧ i = .int .i64 j ∧ W1 = wr ∧ fitL 1 (l.take j) = true) (fun _ i _ => l.length - (intOf i).toNat)
    case atStart => exact ⟨0, Nat.zero_le _, rfl, rfl, by simp [fitL]⟩
    case round =>
      obtain ⟨j, hj, rfl, rfl, hno⟩ := hrel
      have HNO := Lib.hid hno
      clear hno
      by_cases hlt : j < l.length
      · rcases HV.out.open with ⟨_, h⟩ | ⟨ab, ao, cap', hv', _, hab, _, _, hx⟩
        · rw [h] at hlt; simp at hlt
        simp only [Value.slice.injEq] at hv'
        obtain ⟨rfl, _, rfl⟩ := hv'
        have hxj : l[j]? = some l[j] := List.getElem?_eq_getElem hlt
        obtain ⟨cs, rfl, _, hcs⟩ := hx j _ hxj
        have HXJ := Lib.hid hxj
        generalize l[j] = x at hxj hcs HXJ
        have c0 := (hcs.keep (M := NoM) (Keep.bel HB1.out) id).c1
        rw [Nat.mul_one] at c0
        have i0 : (0 : Int) ≤ (j : Int) := by omega
        have i1 : (j : Int) < (l.length : Int) := by omega
        clear hx hcs hxj
        have HLT := Lib.hid hlt
        cases hfx : assignB 1 x
        · have hfc := fun w => rfits_any 1 x w
          rw [hfx] at hfc
          have HFC := Lib.hid hfc
          have HFN := Lib.hid (fit_no HXJ.out hfx)
          clear hfc hfx
          go_wp2_with (go_at_call 125; refine (HFC.out _).mono ?_; rintro e w2 ⟨rfl, rfl⟩)
          go_ret2
          refine ⟨?_, HB1.out⟩
          rw [HRES.out, HFN.out]
          rfl
        · have hfc := fun w => rfits_any 1 x w
          rw [hfx] at hfc
          have HFC := Lib.hid hfc
          have HFY := Lib.hid hfx
          clear hfc hfx
          go_wp2_with (go_at_call 125; refine (HFC.out _).mono ?_; rintro e w2 ⟨rfl, rfl⟩)
          go_roundw
          case rel =>
            have := HLT.out
            exact ⟨j + 1, by omega, by go_num, (by first | rfl | trivial), by rw [fit_take HXJ.out, HNO.out, HFY.out]; rfl⟩
          case measure =>
            have := HLT.out
            simp [intOf]
            omega
      · obtain rfl : j = l.length := by omega
        have HFA : Hid (fitL 1 l = true) := Lib.hid (by have := HNO.out; rwa [List.take_length] at this)
        go_wp2_with fail
        go_ret2
        refine ⟨?_, HB1.out⟩
        rw [HRES.out, HFA.out]
        rfl
  · have ho2 : ¬ o ≤ 2 := by omega
    go_enter Tryd.func119, Tryd.ntmps119
    go_upto_region 8 with fail
    generalize hW : World.alloc w _ = W1
    have hk0 : W1.heap[w.heap.size]? = some (.cells #[.int .i64 5, .int .i64 o, .bool no, .int .i64 vk, .int .i64 vi, .string vt, .string t, .string nm, va, vs] 27 (0, 0)) := by rw [← hW]; exact heap_alloc_new w _
    have hb1 : Below w.heap.size w W1 := by rw [← hW]; exact (Below.refl _ _).alloc (Nat.le_refl _) _
    obtain ⟨x0, x1, x2, x3, x4, x5, x6, x7, x8, x9, xf, xz⟩ := blk10 hk0
    have HB1 := Lib.hid hb1
    clear hW hb1 hk0
    go_wp2_with fail
    go_loopw [11, 56] (fun _ i wr => ∃ j : Nat, j ≤ l.length ∧ i = .int .i64 j ∧ W1 = wr ∧ fitL 1 (l.take j) = true) (fun _ i _ => l.length - (intOf i).toNat)
    case atStart => exact ⟨0, Nat.zero_le _, rfl, rfl, by simp [fitL]⟩
    case round =>
      obtain ⟨j, hj, rfl, rfl, hno⟩ := hrel
      have HNO := Lib.hid hno
      clear hno
      by_cases hlt : j < l.length
      · rcases HV.out.open with ⟨_, h⟩ | ⟨ab, ao, cap', hv', _, hab, _, _, hx⟩
        · rw [h] at hlt; simp at hlt
        simp only [Value.slice.injEq] at hv'
        obtain ⟨rfl, _, rfl⟩ := hv'
        have hxj : l[j]? = some l[j] := List.getElem?_eq_getElem hlt
        obtain ⟨cs, rfl, _, hcs⟩ := hx j _ hxj
        have HXJ := Lib.hid hxj
        generalize l[j] = x at hxj hcs HXJ
        have c0 := (hcs.keep (M := NoM) (Keep.bel HB1.out) id).c1
        rw [Nat.mul_one] at c0
        have i0 : (0 : Int) ≤ (j : Int) := by omega
        have i1 : (j : Int) < (l.length : Int) := by omega
        clear hx hcs hxj
        have HLT := Lib.hid hlt
        cases hfx : assignB 1 x
        · have hfc := fun w => rfits_any 1 x w
          rw [hfx] at hfc
          have HFC := Lib.hid hfc
          have HFN := Lib.hid (fit_no HXJ.out hfx)
          clear hfc hfx
          go_wp2_with (go_at_call 125; refine (HFC.out _).mono ?_; rintro e w2 ⟨rfl, rfl⟩)
          go_ret2
          refine ⟨?_, HB1.out⟩
          rw [HRES.out, HFN.out]
          rfl
        · have hfc := fun w => rfits_any 1 x w
          rw [hfx] at hfc
          have HFC := Lib.hid hfc
          have HFY := Lib.hid hfx
          clear hfc hfx
          go_wp2_with (go_at_call 125; refine (HFC.out _).mono ?_; rintro e w2 ⟨rfl, rfl⟩)
          go_roundw
          case rel =>
            have := HLT.out
            exact ⟨j + 1, by omega, by go_num, (by first | rfl | trivial), by rw [fit_take HXJ.out, HNO.out, HFY.out]; rfl⟩
          case measure =>
            have := HLT.out
            simp [intOf]
            omega
      · obtain rfl : j = l.length := by omega
        have HFA : Hid (fitL 1 l = true) := Lib.hid (by have := HNO.out; rwa [List.take_length] at this)
        go_wp2_with fail
        go_ret2
        refine ⟨?_, HB1.out⟩
        rw [HRES.out, HFA.out]
        rfl

set_option maxRecDepth 100000 in
set_option maxHeartbeats 4000000 in
theorem rresult_7 (hv : IntsR NoM w v l) (hk : k = 7) :
    Calls Tryd.prog 119 #[.agg #[.int .i64 k, .int .i64 o, .bool no, .int .i64 vk, .int .i64 vi, .string vt, .string t, .string nm, va, vs], v] w (RetII (resI (fitL (wantP l) l) 2) w) := by
  obtain ⟨a, cap, rfl, hm⟩ := hv.shape
  unfold maxLen at hm
  have HV := Lib.hid hv
  clear hv
  generalize hr : (resI (fitL (wantP l) l) 2) = r
  have HRES := Lib.hid hr.symm
  clear hr
  subst hk
  go_enter Tryd.func119, Tryd.ntmps119
  go_upto_region 8 with fail
  generalize hW : World.alloc w _ = W1
  have hk0 : W1.heap[w.heap.size]? = some (.cells #[.int .i64 7, .int .i64 o, .bool no, .int .i64 vk, .int .i64 vi, .string vt, .string t, .string nm, va, vs] 27 (0, 0)) := by rw [← hW]; exact heap_alloc_new w _
  have hb1 : Below w.heap.size w W1 := by rw [← hW]; exact (Below.refl _ _).alloc (Nat.le_refl _) _
  obtain ⟨x0, x1, x2, x3, x4, x5, x6, x7, x8, x9, xf, xz⟩ := blk10 hk0
  have HB1 := Lib.hid hb1
  clear hW hb1 hk0
  go_wp2_with fail
  go_loopw [6, 9, 14] (fun m _ i wr => ∃ j : Nat, j ≤ l.length ∧ i = .int .i64 j ∧ W1 = wr ∧ m = .int .i64 (wantP (l.take j))) (fun _ _ i _ => l.length - (intOf i).toNat)
  case atStart => exact ⟨0, Nat.zero_le _, rfl, rfl, rfl⟩
  case round =>
    obtain ⟨j, hj, rfl, rfl, rfl⟩ := hrel
    by_cases hlt : j < l.length
    · rcases HV.out.open with ⟨_, h⟩ | ⟨ab, ao, cap', hv', _, hab, _, _, hx⟩
      · rw [h] at hlt; simp at hlt
      simp only [Value.slice.injEq] at hv'
      obtain ⟨rfl, _, rfl⟩ := hv'
      have hxj : l[j]? = some l[j] := List.getElem?_eq_getElem hlt
      obtain ⟨cs, rfl, _, hcs⟩ := hx j _ hxj
      have HXJ := Lib.hid hxj
      generalize l[j] = x at hxj hcs HXJ
      have c0 := (hcs.keep (M := NoM) (Keep.bel HB1.out) id).c1
      rw [Nat.mul_one] at c0
      have i0 : (0 : Int) ≤ (j : Int) := by omega
      have i1 : (j : Int) < (l.length : Int) := by omega
      clear hx hcs hxj
      have HLT := Lib.hid hlt
      have HWS := Lib.hid (wantP_step HXJ.out)
      generalize wantP (l.take j) = wj at HWS ⊢
      by_cases hx0 : x = 0
      · subst hx0
        go_wp2_with fail
        go_roundw
        case rel =>
          have := HLT.out
          exact ⟨j + 1, by omega, by go_num, (by first | rfl | trivial), by rw [HWS.out, if_pos rfl]⟩
        case measure =>
          have := HLT.out
          simp [intOf]
          omega
      · have hxb : (x == 0) = false := by simpa using hx0
        have hxn : (x != 0) = true := by simpa using hx0
        have HX0 := Lib.hid hx0
        clear hx0
        go_wp2_with fail
        go_roundw
        case rel =>
          have := HLT.out
          exact ⟨j + 1, by omega, by go_num, (by first | rfl | trivial), by rw [HWS.out, if_neg HX0.out]⟩
        case measure =>
          have := HLT.out
          simp [intOf]
          omega
    · obtain rfl : j = l.length := by omega
      rw [List.take_length]
      generalize wantP l = wl at HRES ⊢
      go_wp2_with fail
      go_loopw [11, 56] (fun _ i wr => ∃ j : Nat, j ≤ l.length ∧ i = .int .i64 j ∧ W1 = wr ∧ fitL wl (l.take j) = true) (fun _ i _ => l.length - (intOf i).toNat)
      case atStart => exact ⟨0, Nat.zero_le _, rfl, rfl, by simp [fitL]⟩
      case round =>
        obtain ⟨j, hj, rfl, rfl, hno⟩ := hrel
        have HNO := Lib.hid hno
        clear hno
        by_cases hlt : j < l.length
        · rcases HV.out.open with ⟨_, h⟩ | ⟨ab, ao, cap', hv', _, hab, _, _, hx⟩
          · rw [h] at hlt; simp at hlt
          simp only [Value.slice.injEq] at hv'
          obtain ⟨rfl, _, rfl⟩ := hv'
          have hxj : l[j]? = some l[j] := List.getElem?_eq_getElem hlt
          obtain ⟨cs, rfl, _, hcs⟩ := hx j _ hxj
          have HXJ := Lib.hid hxj
          generalize l[j] = x at hxj hcs HXJ
          have c0 := (hcs.keep (M := NoM) (Keep.bel HB1.out) id).c1
          rw [Nat.mul_one] at c0
          have i0 : (0 : Int) ≤ (j : Int) := by omega
          have i1 : (j : Int) < (l.length : Int) := by omega
          clear hx hcs hxj
          have HLT := Lib.hid hlt
          cases hfx : assignB wl x
          · have hfc := fun w => rfits_any wl x w
            rw [hfx] at hfc
            have HFC := Lib.hid hfc
            have HFN := Lib.hid (fit_no HXJ.out hfx)
            clear hfc hfx
            go_wp2_with (go_at_call 125; refine (HFC.out _).mono ?_; rintro e w2 ⟨rfl, rfl⟩)
            go_ret2
            refine ⟨?_, HB1.out⟩
            rw [HRES.out, HFN.out]
            rfl
          · have hfc := fun w => rfits_any wl x w
            rw [hfx] at hfc
            have HFC := Lib.hid hfc
            have HFY := Lib.hid hfx
            clear hfc hfx
            go_wp2_with (go_at_call 125; refine (HFC.out _).mono ?_; rintro e w2 ⟨rfl, rfl⟩)
            go_roundw
            case rel =>
              have := HLT.out
              exact ⟨j + 1, by omega, by go_num, (by first | rfl | trivial), by rw [fit_take HXJ.out, HNO.out, HFY.out]; rfl⟩
            case measure =>
              have := HLT.out
              simp [intOf]
              omega
        · obtain rfl : j = l.length := by omega
          have HFA : Hid (fitL wl l = true) := Lib.hid (by have := HNO.out; rwa [List.take_length] at this)
          go_wp2_with fail
          go_ret2
          refine ⟨?_, HB1.out⟩
          rw [HRES.out, HFA.out]
          rfl

set_option maxRecDepth 100000 in
set_option maxHeartbeats 4000000 in
theorem rresult_5 (hv : IntsR NoM w v l) (hk : k = 5 ∧ 2 < o ∧ o < 9) :
    Calls Tryd.prog 119 #[.agg #[.int .i64 k, .int .i64 o, .bool no, .int .i64 vk, .int .i64 vi, .string vt, .string t, .string nm, va, vs], v] w (RetII (resI (fitL (wantP l) l) 2) w) := by
  obtain ⟨a, cap, rfl, hm⟩ := hv.shape
  unfold maxLen at hm
  have HV := Lib.hid hv
  clear hv
  generalize hr : (resI (fitL (wantP l) l) 2) = r
  have HRES := Lib.hid hr.symm
  clear hr
  obtain ⟨rfl, ho1, ho2⟩ := hk
  have o1 : ¬ o ≤ 2 := by omega
  have o2 : ¬ 9 ≤ o := by omega
  go_enter Tryd.func119, Tryd.ntmps119
  go_upto_region 8 with fail
  generalize hW : World.alloc w _ = W1
  have hk0 : W1.heap[w.heap.size]? = some (.cells #[.int .i64 5, .int .i64 o, .bool no, .int .i64 vk, .int .i64 vi, .string vt, .string t, .string nm, va, vs] 27 (0, 0)) := by rw [← hW]; exact heap_alloc_new w _
  have hb1 : Below w.heap.size w W1 := by rw [← hW]; exact (Below.refl _ _).alloc (Nat.le_refl _) _
  obtain ⟨x0, x1, x2, x3, x4, x5, x6, x7, x8, x9, xf, xz⟩ := blk10 hk0
  have HB1 := Lib.hid hb1
  clear hW hb1 hk0
  go_wp2_with fail
  go_loopw [6, 9, 14] (fun m _ i wr => ∃ j : Nat, j ≤ l.length ∧ i = .int .i64 j ∧ W1 = wr ∧ m = .int .i64 (wantP (l.take j))) (fun _ _ i _ => l.length - (intOf i).toNat)
  case atStart => exact ⟨0, Nat.zero_le _, rfl, rfl, rfl⟩
  case round =>
    obtain ⟨j, hj, rfl, rfl, rfl⟩ := hrel
    by_cases hlt : j < l.length
    · rcases HV.out.open with ⟨_, h⟩ | ⟨ab, ao, cap', hv', _, hab, _, _, hx⟩
      · rw [h] at hlt; simp at hlt
      simp only [Value.slice.injEq] at hv'
      obtain ⟨rfl, _, rfl⟩ := hv'
      have hxj : l[j]? = some l[j] := List.getElem?_eq_getElem hlt
      obtain ⟨cs, rfl, _, hcs⟩ := hx j _ hxj
      have HXJ := Lib.hid hxj
      generalize l[j] = x at hxj hcs HXJ
      have c0 := (hcs.keep (M := NoM) (Keep.bel HB1.out) id).c1
      rw [Nat.mul_one] at c0
      have i0 : (0 : Int) ≤ (j : Int) := by omega
      have i1 : (j : Int) < (l.length : Int) := by omega
      clear hx hcs hxj
      have HLT := Lib.hid hlt
      have HWS := Lib.hid (wantP_step HXJ.out)
      generalize wantP (l.take j) = wj at HWS ⊢
      by_cases hx0 : x = 0
      · subst hx0
        go_wp2_with fail
        go_roundw
        case rel =>
          have := HLT.out
          exact ⟨j + 1, by omega, by go_num, (by first | rfl | trivial), by rw [HWS.out, if_pos rfl]⟩
        case measure =>
          have := HLT.out
          simp [intOf]
          omega
      · have hxb : (x == 0) = false := by simpa using hx0
        have hxn : (x != 0) = true := by simpa using hx0
        have HX0 := Lib.hid hx0
        clear hx0
        go_wp2_with fail
        go_roundw
        case rel =>
          have := HLT.out
          exact ⟨j + 1, by omega, by go_num, (by first | rfl | trivial), by rw [HWS.out, if_neg HX0.out]⟩
        case measure =>
          have := HLT.out
          simp [intOf]
          omega
    · obtain rfl : j = l.length := by omega
      rw [List.take_length]
      generalize wantP l = wl at HRES ⊢
      go_wp2_with fail
      go_loopw [11, 56] (fun _ i wr => ∃ j : Nat, j ≤ l.length ∧ i = .int .i64 j ∧ W1 = wr ∧ fitL wl (l.take j) = true) (fun _ i _ => l.length - (intOf i).toNat)
      case atStart => exact ⟨0, Nat.zero_le _, rfl, rfl, by simp [fitL]⟩
      case round =>
        obtain ⟨j, hj, rfl, rfl, hno⟩ := hrel
        have HNO := Lib.hid hno
        clear hno
        by_cases hlt : j < l.length
        · rcases HV.out.open with ⟨_, h⟩ | ⟨ab, ao, cap', hv', _, hab, _, _, hx⟩
          · rw [h] at hlt; simp at hlt
          simp only [Value.slice.injEq] at hv'
          obtain ⟨rfl, _, rfl⟩ := hv'
          have hxj : l[j]? = some l[j] := List.getElem?_eq_getElem hlt
          obtain ⟨cs, rfl, _, hcs⟩ := hx j _ hxj
          have HXJ := Lib.hid hxj
          generalize l[j] = x at hxj hcs HXJ
          have c0 := (hcs.keep (M := NoM) (Keep.bel HB1.out) id).c1
          rw [Nat.mul_one] at c0
          have i0 : (0 : Int) ≤ (j : Int) := by omega
          have i1 : (j : Int) < (l.length : Int) := by omega
          clear hx hcs hxj
          have HLT := Lib.hid hlt
          cases hfx : assignB wl x
          · have hfc := fun w => rfits_any wl x w
            rw [hfx] at hfc
            have HFC := Lib.hid hfc
            have HFN := Lib.hid (fit_no HXJ.out hfx)
            clear hfc hfx
            go_wp2_with (go_at_call 125; refine (HFC.out _).mono ?_; rintro e w2 ⟨rfl, rfl⟩)
            go_ret2
            refine ⟨?_, HB1.out⟩
            rw [HRES.out, HFN.out]
            rfl
          · have hfc := fun w => rfits_any wl x w
            rw [hfx] at hfc
            have HFC := Lib.hid hfc
            have HFY := Lib.hid hfx
            clear hfc hfx
            go_wp2_with (go_at_call 125; refine (HFC.out _).mono ?_; rintro e w2 ⟨rfl, rfl⟩)
            go_roundw
            case rel =>
              have := HLT.out
              exact ⟨j + 1, by omega, by go_num, (by first | rfl | trivial), by rw [fit_take HXJ.out, HNO.out, HFY.out]; rfl⟩
            case measure =>
              have := HLT.out
              simp [intOf]
              omega
        · obtain rfl : j = l.length := by omega
          have HFA : Hid (fitL wl l = true) := Lib.hid (by have := HNO.out; rwa [List.take_length] at this)
          go_wp2_with fail
          go_ret2
          refine ⟨?_, HB1.out⟩
          rw [HRES.out, HFA.out]
          rfl

theorem rresult_any (hk : 3 ≤ k ∧ k ≤ 7) (hv : IntsR NoM w v l) : Calls Tryd.prog 119 #[.agg #[.int .i64 k, .int .i64 o, .bool no, .int .i64 vk, .int .i64 vi, .string vt, .string t, .string nm, va, vs], v] w (RetII (operationP k o l) w) := by
  unfold operationP
  by_cases h6 : k = 6
  · rw [if_pos h6]
    exact rresult_6 _ _ _ _ _ _ _ _ _ _ _ l w hv h6
  rw [if_neg h6]
  by_cases h3 : k = 3 ∨ k = 5 ∧ o ≤ 2
  · rw [if_pos h3, fitL_all (by decide)]
    exact rresult_3 _ _ _ _ _ _ _ _ _ _ _ l w hv h3
  rw [if_neg h3]
  by_cases h4 : k = 4 ∨ k = 5 ∧ 9 ≤ o
  · rw [if_pos h4, fitL_all (by decide)]
    exact rresult_4 _ _ _ _ _ _ _ _ _ _ _ l w hv h4
  rw [if_neg h4, pair_fit]
  by_cases h7 : k = 7
  · exact rresult_7 _ _ _ _ _ _ _ _ _ _ _ l w hv h7
  · exact rresult_5 _ _ _ _ _ _ _ _ _ _ _ l w hv (by omega)
end
end Go.Proofs.YtppiaaolggpjdaaDoor
