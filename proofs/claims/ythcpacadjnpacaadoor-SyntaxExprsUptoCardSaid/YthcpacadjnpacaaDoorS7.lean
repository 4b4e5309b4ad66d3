/- Levels in the reference: LevelsOf, for every well-formed expression. -/
import Derived.Test.YthcpacadjnpacaaDoorS6
namespace Go.Proofs.YthcpacadjnpacaaDoor
open Go.RowKit

set_option maxRecDepth 100000 in
set_option maxHeartbeats 10000000 in
theorem rlev_query (k o : Int) (no : Bool) (vk vi : Int) (tx t nm : ByteArray) (a : Option Addr) (ac sc ab ao : Nat) (st : Bool) (f : ByteArray) (ia wa : Option Addr) (il wl ic wc gi gw : Nat) (w : World) (hk : k = 8 ∨ (9 ≤ k ∧ k ≤ 12)) (hab : ab < w.heap.size)
    (c0 : w.cell? ⟨ab, ao, none⟩ = some (.bool st)) (c1 : w.cell? ⟨ab, ao + 1, none⟩ = some (.slice ia il ic)) (c2 : w.cell? ⟨ab, ao + 2, none⟩ = some (.string f)) (c3 : w.cell? ⟨ab, ao + 3, none⟩ = some (.slice wa wl wc))
    (hgi : ∀ wx, Below w.heap.size w wx → Calls Tryd.prog 89 #[.slice ia il ic] wx (RetBel (.int .i64 gi) wx)) (hgw : ∀ wx, Below w.heap.size w wx → Calls Tryd.prog 89 #[.slice wa wl wc] wx (RetBel (.int .i64 gw) wx)) (h1 : gi ≤ 1000000000) (h2 : gw ≤ 1000000000) :
    Calls Tryd.prog 47 #[.agg #[.int .i64 k, .int .i64 o, .bool no, .int .i64 vk, .int .i64 vi, .string tx, .string t, .string nm, .slice a 0 ac, .slice (some ⟨ab, ao, none⟩) 1 sc]] w (RetBel (.int .i64 ((max (1 + gw) (if k = 8 then 0 else 2 + gi) : Nat))) w) := by
  have HI := Lib.hid hgi
  have HW := Lib.hid hgw
  clear hgi hgw
  have b3 : (k == 3) = false := by simp; omega
  have b4 : (k == 4) = false := by simp; omega
  have HK := Lib.hid hk
  clear hk
  generalize hres : (max (1 + gw) (if k = 8 then 0 else 2 + gi) : Nat) = r
  have HR := Lib.hid hres
  clear hres
  go_enter Tryd.func47, Tryd.ntmps47
  go_wp2_with fail
  generalize hW : World.alloc w _ = W1
  have hk0 : W1.heap[w.heap.size]? = some (.cells #[.int .i64 k, .int .i64 o, .bool no, .int .i64 vk, .int .i64 vi, .string tx, .string t, .string nm, .slice a 0 ac, .slice (some ⟨ab, ao, none⟩) 1 sc] 27 (0, 0)) := by rw [← hW]; exact heap_alloc_new w _
  have hb1 : Below w.heap.size w W1 := by rw [← hW]; exact (Below.refl _ _).alloc (Nat.le_refl _) _
  have hz : w.heap.size < W1.heap.size := by rw [← hW]; simp
  obtain ⟨d0, d1, d2, d3⟩ : W1.cell? ⟨ab, ao, none⟩ = some (.bool st) ∧ W1.cell? ⟨ab, ao + 1, none⟩ = some (.slice ia il ic) ∧ W1.cell? ⟨ab, ao + 2, none⟩ = some (.string f) ∧ W1.cell? ⟨ab, ao + 3, none⟩ = some (.slice wa wl wc) :=
    ⟨(hb1.cell hab).trans c0, (hb1.cell hab).trans c1, (hb1.cell hab).trans c2, (hb1.cell hab).trans c3⟩
  have HQ : Hid (∀ wx, Below W1.heap.size W1 wx → _) := Lib.hid fun wx hb => blk10 ((hb.block w.heap.size hz).trans hk0)
  obtain ⟨y0, y1, y2, y3, y4, y5, y6, y7, y8, y9, yf, yz⟩ := HQ.out _ (Below.refl _ _)
  have HB1 := Lib.hid hb1
  clear hW hb1 hk0 c0 c1 c2 c3
  refine wp_loop_rounds 1 ?_
  rw [rounds_succ]
  go_wp2_with fail
  refine wp_loop_rounds 2 ?_
  rw [rounds_succ]
  go_wp2_with fail
  refine (HW.out _ (HB1.out.alloc HB1.out.size _)).mono ?_
  rintro e w2 ⟨rfl, hb⟩
  have e1 : w2.cell? ⟨W1.heap.size, 1, none⟩ = some (.slice ia il ic) := (hb.cell (by simp)).trans (by simp)
  have HB2 := Lib.hid (((Below.refl _ W1).alloc (Nat.le_refl _) _).trans (hb.mono (by simp)))
  clear hb d0 d1 d2 d3 y0 y1 y2 y3 y4 y5 y6 y7 y8 y9 yf yz
  obtain ⟨y0, y1, y2, y3, y4, y5, y6, y7, y8, y9, yf, yz⟩ := HQ.out _ HB2.out
  have HBW := Lib.hid (HB1.out.trans (HB2.out.mono (Nat.le_of_lt hz)))
  dsimp only
  rcases HK.out with rfl | hk
  · obtain rfl : 1 + gw = r := by rw [← HR.out, if_pos rfl]; omega
    clear HR HK
    go_wp2_with fail
    rw [rounds_succ]
    go_wp2_with fail
    go_ret
    exact ⟨by go_num, HBW.out⟩
  · have b8 : (k != 8) = true := by simp; omega
    obtain rfl : max (1 + gw) (2 + gi) = r := by rw [← HR.out, if_neg (by omega)]
    clear hk HR HK
    go_wp2_with fail
    refine (HI.out _ HBW.out).mono ?_
    rintro e w3 ⟨rfl, hb⟩
    have HB3 := Lib.hid (HBW.out.trans (hb.mono HBW.out.size))
    clear hb y0 y1 y2 y3 y4 y5 y6 y7 y8 y9 yf
    dsimp only
    go_wp2_with fail
    rw [rounds_succ]
    go_wp2_with fail
    go_ret
    exact ⟨by go_num, HB3.out⟩

theorem valid_arg_len {e : Ex} (h : validP e = true) : e.args.length ≤ 3 ∧ (e.kind = 5 → e.args.length ≤ 2) ∧ (e.kind = 1 ∨ e.kind = 2 → e.args = [] ∧ e.sub = []) ∧ (8 ≤ e.kind ∧ e.kind ≤ 12 → e.args = [] ∧ ∃ q, e.sub = [q] ∧ validL q.items = true ∧ validL q.whr = true) ∧ (¬(e.kind = 1 ∨ e.kind = 2) → ¬(8 ≤ e.kind ∧ e.kind ≤ 12) → e.sub = [] ∧ validL e.args = true) := by
  rw [validP_eq] at h
  by_cases h1 : e.kind = 1
  · rw [if_pos h1] at h
    simp only [Bool.and_eq_true, decide_eq_true_eq, List.length_eq_zero_iff] at h
    exact ⟨by rw [h.1.1.1.2]; simp, by omega, fun _ => ⟨h.1.1.1.2, h.1.1.2⟩, fun h8 => by omega, fun h2 => by omega⟩
  rw [if_neg h1] at h
  by_cases h2 : e.kind = 2
  · rw [if_pos h2] at h
    simp only [Bool.and_eq_true, decide_eq_true_eq, List.length_eq_zero_iff] at h
    exact ⟨by rw [h.1.1.2]; simp, by omega, fun _ => ⟨h.1.1.2, h.1.2⟩, fun h8 => by omega, fun h2 => by omega⟩
  rw [if_neg h2] at h
  by_cases h8 : 8 ≤ e.kind ∧ e.kind ≤ 12
  · rw [if_pos h8] at h
    simp only [Bool.and_eq_true, decide_eq_true_eq, List.length_eq_zero_iff] at h
    obtain ⟨q, hq⟩ := List.length_eq_one_iff.1 h.1.2
    have hv := h.2
    rw [hq] at hv
    obtain ⟨st, it, f, wh⟩ := q
    rw [validS] at hv
    simp only [Bool.and_eq_true] at hv
    exact ⟨by rw [h.1.1.2]; simp, by omega, fun h12 => by omega, fun _ => ⟨h.1.1.2, _, hq, hv.1.1.2, hv.1.2⟩, fun _ h9 => absurd h8 h9⟩
  rw [if_neg h8] at h
  by_cases h5 : e.kind = 5
  · rw [if_pos h5] at h
    simp only [Bool.and_eq_true, decide_eq_true_eq, List.length_eq_zero_iff] at h
    exact ⟨by omega, fun _ => by omega, fun h12 => by omega, fun h9 => absurd h9 h8, fun _ _ => ⟨h.1.1.2, h.2⟩⟩
  rw [if_neg h5] at h
  by_cases h6 : e.kind = 6
  · rw [if_pos h6] at h
    simp only [Bool.and_eq_true, decide_eq_true_eq, List.length_eq_zero_iff] at h
    exact ⟨by omega, fun h => by omega, fun h12 => by omega, fun h9 => absurd h9 h8, fun _ _ => ⟨h.1.1.2, h.2⟩⟩
  rw [if_neg h6] at h
  simp only [Bool.and_eq_true, decide_eq_true_eq, List.length_eq_zero_iff] at h
  refine ⟨?_, fun h => absurd h h5, fun h12 => by omega, fun h9 => absurd h9 h8, fun _ _ => ⟨h.1.1.2, h.2⟩⟩
  have := h.1.2
  split at this
  · omega
  · split at this <;> omega

theorem rlevels_any {M : Nat → Prop} (e : Ex) : RlvOk M e := by
  refine Ex.ind (P := RlvOk M) (fun e hargs hsub => ?_) e
  intro cs w he hv hb
  obtain ⟨g1, g2, g3, g4, g5⟩ := valid_arg_len hv
  obtain ⟨va, vs, rfl, ha, hs⟩ := (EC_iff ..).1 he
  obtain ⟨s, sc, rfl, _⟩ := hs.shape
  show Calls _ _ #[.agg #[.int .i64 e.kind, .int .i64 e.op, .bool e.no, .int .i64 e.val.kind, .int .i64 e.val.int, .string e.val.text, .string e.table, .string e.name, va, .slice s e.sub.length sc]] w _
  by_cases h1 : e.kind = 1 ∨ e.kind = 2
  · obtain ⟨e1, e2⟩ := g3 h1
    rw [levP_leaf h1, e2]
    rw [e1] at ha
    have hm := rlev_args e.kind e.op e.no e.val.kind e.val.int e.val.text e.table e.name va s sc [] w (fun _ => by simp) (fun x hx => by cases hx) (fun x hx => by cases hx) (by simp) (by simp [levA]) ha 0 (.inr ⟨by omega, rfl⟩)
    simpa [levA] using hm
  by_cases h8 : 8 ≤ e.kind ∧ e.kind ≤ 12
  · obtain ⟨e1, q, e2, v1, v2⟩ := g4 h8
    rw [levP_query h8] at hb ⊢
    rw [e2] at hs hb ⊢
    rw [e1] at ha
    obtain ⟨a, ac, rfl, _⟩ := ha.shape
    obtain ⟨st, items, f, whr⟩ := q
    have hmem : Qu.mk st items f whr ∈ e.sub := by rw [e2]; exact List.mem_singleton.2 rfl
    obtain ⟨q1, q2⟩ := hsub _ hmem
    replace v1 : validL items = true := v1
    replace v2 : validL whr = true := v2
    rcases hs.open with ⟨_, h⟩ | ⟨ab, ao, cap, hv', _, hab, _, _, hx⟩
    · cases h
    obtain ⟨cs, hc, _, hcs⟩ := hx 0 _ rfl
    obtain ⟨vi', vw, rfl, hvi, hvw⟩ := (QC_iff ..).1 hc
    obtain ⟨ia, iac, rfl, _⟩ := hvi.shape
    obtain ⟨wa, wac, rfl, _⟩ := hvw.shape
    rw [Nat.zero_mul, Nat.add_zero] at hcs
    obtain ⟨c0, c1, c2, c3⟩ := hcs.c4
    simp only [Value.slice.injEq] at hv'
    obtain ⟨rfl, _, rfl⟩ := hv'
    have hl : levQ e.kind [.mk st items f whr] = max (1 + levM whr) (if e.kind = 8 then 0 else 2 + levM items) := by
      rw [levQ, levQ]; split <;> omega
    rw [hl] at hb ⊢
    have hgw : levM whr ≤ 1000000000 := by omega
    by_cases hk8 : e.kind = 8
    · have hit : items = [] := by
        have hv2 := hv
        rw [validP_eq, if_neg (by omega), if_neg (by omega), if_pos h8, e2] at hv2
        simp only [Bool.and_eq_true] at hv2
        have h3 := hv2.2
        rw [validS] at h3
        simp only [Bool.and_eq_true, decide_eq_true_eq] at h3
        have h4 := h3.1.1.1.1.1.2
        rw [if_pos (.inl hk8)] at h4
        exact List.length_eq_zero_iff.1 h4
      exact rlev_query _ _ _ _ _ _ _ _ _ _ _ _ _ st f _ _ _ _ _ _ (levM items) (levM whr) w (by omega) hab c0 c1 c2 c3
        (fun wx kb => rmost_any (M := M) items q1 (fun x hx => by have := validL_all items; rw [v1] at this; exact List.all_eq_true.1 this.symm x hx) _ wx (RowsR.map hvi (Keep.bel kb) fun x _ cs h => EC.keep (.bel kb) x cs h) (by rw [hit]; simp [levM]))
        (fun wx kb => rmost_any (M := M) whr q2 (fun x hx => by have := validL_all whr; rw [v2] at this; exact List.all_eq_true.1 this.symm x hx) _ wx (RowsR.map hvw (Keep.bel kb) fun x _ cs h => EC.keep (.bel kb) x cs h) hgw) (by rw [hit]; simp [levM]) hgw
    · have hgi : levM items ≤ 1000000000 := by rw [if_neg hk8] at hb; omega
      exact rlev_query _ _ _ _ _ _ _ _ _ _ _ _ _ st f _ _ _ _ _ _ (levM items) (levM whr) w (by omega) hab c0 c1 c2 c3
        (fun wx kb => rmost_any (M := M) items q1 (fun x hx => by have := validL_all items; rw [v1] at this; exact List.all_eq_true.1 this.symm x hx) _ wx (RowsR.map hvi (Keep.bel kb) fun x _ cs h => EC.keep (.bel kb) x cs h) hgi)
        (fun wx kb => rmost_any (M := M) whr q2 (fun x hx => by have := validL_all whr; rw [v2] at this; exact List.all_eq_true.1 this.symm x hx) _ wx (RowsR.map hvw (Keep.bel kb) fun x _ cs h => EC.keep (.bel kb) x cs h) hgw) hgi hgw
  · obtain ⟨e2, hva⟩ := g5 h1 h8
    rw [levP_op h1 h8] at hb ⊢
    rw [e2]
    refine rlev_args e.kind e.op _ _ _ _ _ _ va s sc e.args w g2 hargs (fun x hx => by have := validL_all e.args; rw [hva] at this; exact List.all_eq_true.1 this.symm x hx) (by omega) (Nat.le_trans (Nat.le_add_right ..) hb) ha _ ?_
    by_cases h : e.kind = 3 ∨ e.kind = 4
    · exact .inl ⟨h, if_pos h⟩
    · exact .inr ⟨h, if_neg h⟩
end Go.Proofs.YthcpacadjnpacaaDoor
