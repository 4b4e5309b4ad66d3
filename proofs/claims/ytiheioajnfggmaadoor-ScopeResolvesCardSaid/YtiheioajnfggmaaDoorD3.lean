/- The tables of the statements on names and types: the contract of tables. -/
import Derived.Test.YtiheioajnfggmaaDoorD2
namespace Go.Proofs.YtiheioajnfggmaaDoor
open Go.RowKit

/-- The tables without rows, and perhaps the transition tables of t. -/
def TsOk (l : List Sch) : Prop := l = schs3 ∨ ∃ r : Int, 0 ≤ r ∧ r < 3 ∧ l = schs3 ++ transL r schT.cols
def TablesQ (w : World) (v : Value) (w' : World) : Prop := ∃ l, TsOk l ∧ TblsR (Out w.heap.size w'.heap.size) w' v l

theorem tsOk_small {l : List Sch} (h : TsOk l) : ColsSmall l := by
  have h3 : ∀ s ∈ schs3, s.cols.length ≤ 4 := by decide +kernel
  have ht : ∀ r, ∀ s ∈ transL r schT.cols, s.cols.length = 4 := by
    intro r s hs
    unfold transL at hs
    have : (schT.cols.map bareCol).length = 4 := rfl
    split at hs
    · simp at hs; subst hs; exact this
    · split at hs
      · simp at hs; rcases hs with rfl | rfl <;> exact this
      · simp at hs; subst hs; exact this
  intro s hs
  rcases h with rfl | ⟨r, _, _, rfl⟩
  · have := h3 s hs; omega
  · rcases List.mem_append.1 hs with hs | hs
    · have := h3 s hs; omega
    · have := ht r s hs; omega

theorem tsOk_length {l : List Sch} (h : TsOk l) : l.length ≤ 5 := by
  rcases h with rfl | ⟨r, _, _, rfl⟩
  · simp [schs3]
  · unfold transL
    split
    · simp [schs3]
    · split <;> simp [schs3]

theorem transL_length (r : Int) : (transL r schT.cols).length ≤ 2 := by
  unfold transL
  split
  · simp
  · split <;> simp

theorem source3 : ∀ s ∈ schs3, sourceP schs3 s.name = some s := by
  intro s hs
  simp only [schs3, List.mem_cons, List.not_mem_nil, or_false] at hs
  rcases hs with rfl | rfl | rfl
  · rw [sourceP, schs3, List.find?_cons_of_pos (by decide +kernel)]
  · rw [sourceP, schs3, List.find?_cons_of_neg (by decide +kernel), List.find?_cons_of_pos (by decide +kernel)]
  · rw [sourceP, schs3, List.find?_cons_of_neg (by decide +kernel), List.find?_cons_of_neg (by decide +kernel), List.find?_cons_of_pos (by decide +kernel)]

theorem tsOk_source {l : List Sch} (h : TsOk l) {s : Sch} (hs : s ∈ schs3) : sourceP l s.name = some s := by
  rcases h with rfl | ⟨r, _, _, rfl⟩
  · exact source3 s hs
  · have := source3 s hs
    unfold sourceP at this ⊢
    rw [List.find?_append, this]
    rfl

theorem infoTbl : (Tryd.prog.info? 106).map (fun i => (i.zero, i.size, i.bytes)) = some (some (.agg #[.string ⟨#[]⟩, .slice none 0 0, .int .i64 0, .slice none 0 0]), 4, 72) := by kernel_rfl

theorem tblStable : Stable TblR where
  keep h k := h.keep k
  weak h hM := h.weak hM
  one h u hu := by
    obtain ⟨vc, n, a, l, c, rfl, hc⟩ := h
    obtain ⟨a', c', rfl, _⟩ := hc.shape
    simp at hu
    rcases hu with rfl | rfl | rfl | rfl <;> rfl

theorem schs3_at {M : Nat → Prop} {w : World} {b o cap : Nat} (h : SchsR M w (.slice (some ⟨b, o, none⟩) 3 cap) schs3) (j : Nat) (hj : j < 3) : ∃ s vc, schs3[j]? = some s ∧ w.cell? ⟨b, o + j * 2, none⟩ = some (.string s.name) ∧ w.cell? ⟨b, o + j * 2 + 1, none⟩ = some vc ∧ ColsR M w vc s.cols := by
  rcases h.open with ⟨h, _⟩ | ⟨b', o', cap', hv, hbT, hbs, hl, hm, hx⟩
  · simp at h
  · simp only [Value.slice.injEq, Option.some.injEq, Addr.mk.injEq] at hv
    obtain ⟨⟨rfl, rfl, _⟩, _, rfl⟩ := hv
    obtain ⟨s, hs⟩ : ∃ s, schs3[j]? = some s := ⟨_, List.getElem?_eq_getElem hj⟩
    obtain ⟨cs, ⟨vc, rfl, hc⟩, _, hcs⟩ := hx j s hs
    exact ⟨s, vc, hs, hcs.c2.1, hcs.c2.2, hc⟩

theorem tables_end {T lo : Nat} {w w' : World} {v : Value} {l : List Sch} {R : Sch → List Value → Prop} (hl : TsOk l) (hO : RowsO lo w' 106 4 R v l) (hlo : w.heap.size ≤ lo) (hR : ∀ s ∈ l, ∀ cs, R s cs → TblR (Out w.heap.size w'.heap.size) w' s cs) (ht : TapeOk T w') (hk : Keep (At T) w w') :
    Gives T w (TablesQ w) (.returned v) w' :=
  ⟨v, rfl, ⟨l, hl, (hO.imp hR).rows fun k h1 h2 h => by unfold Out at h; omega⟩, ht, hk⟩

theorem tbl_up {T : Nat} {w w1 w7 : World} {v : Value} {s : Sch} {cs : List Value} (hT : T < w.heap.size) (hO : ∀ k, OwnB v k → w1.heap.size ≤ k) (k : Keep (At T) w1 w7) (h : TblR (Out w.heap.size w1.heap.size) w1 s cs) : TblR (OldOr w.heap.size v) w7 s cs :=
  (h.keep (k.weak fun k _ h => by unfold At at h; unfold Out; omega)).weak fun k _ h => h.elim (fun h => .inl h) fun h => .inr (hO k h)

theorem tbl_up0 {T : Nat} {w w1 w7 : World} {s : Sch} {cs : List Value} (hT : T < w.heap.size) (k : Keep (At T) w1 w7) (h : TblR (Out w.heap.size w1.heap.size) w1 s cs) : TblR (Out w.heap.size w7.heap.size) w7 s cs :=
  (h.keep (k.weak fun k _ h => by unfold At at h; unfold Out; omega)).weak fun k hk h => by unfold Out at h ⊢; omega

theorem tbl_up2 {w w6 w7 : World} {v : Value} {s : Sch} {cs : List Value} (hw : w.heap.size ≤ w6.heap.size) (hO : ∀ k, OwnB v k → k < w6.heap.size) (h : TblR (Out w6.heap.size w7.heap.size) w7 s cs) : TblR (OldOr w.heap.size v) w7 s cs :=
  h.weak fun k _ h => h.elim (fun h => .inl (by omega)) fun h => .inl (hO k h)

theorem tbl_up3 {w w7 w8 : World} {v : Value} {s : Sch} {cs : List Value} (k : Keep (OwnB v) w7 w8) (h : TblR (OldOr w.heap.size v) w7 s cs) : TblR (Out w.heap.size w8.heap.size) w8 s cs :=
  (h.keep (k.weak fun _ _ h => .inr h)).weak fun k hk h => .inl (by unfold Out at h; omega)

set_option maxRecDepth 100000 in
set_option maxHeartbeats 2000000 in
theorem tables_any (T : Nat) (w : World) (ht : TapeOk T w) : Calls Tryd.prog 20 #[.pointer (some ⟨T, 0, none⟩)] w (Gives T w (TablesQ w)) := by
  have hTw := ht.lt
  have H0 := Lib.hid ht
  clear ht
  go_enter Tryd.func20, Tryd.ntmps20
  go_wp2_with (go_at_call 24; refine (schemas_any _).mono ?_; rintro e w1 ⟨v1, rfl, hs, hb⟩; obtain ⟨b, o, cap, vc0, vc1, vc2, rfl, hbs, _⟩ := schs3_open hs; have h1 := hb.size; have HB1 := Lib.hid hb; have HS1 := Lib.hid hs; clear hs hb)
  have HK1 : Hid (Keep (At T) w w1) := Lib.hid (.bel HB1.out)
  go_loopw [3, 8] (fun out i wr => ∃ (j : Nat), j ≤ 3 ∧ i = .int .i64 j ∧ RowsO w1.heap.size wr 106 4 (TblR (Out w.heap.size w1.heap.size) w1) out (schs3.take j) ∧ Below w1.heap.size w1 wr) (fun _ i _ => 3 - (intOf i).toNat)
  case atStart => exact ⟨0, Nat.zero_le _, rfl, RowsO.nil .., Below.refl _ _⟩
  case round =>
    rename_i out _ wr
    obtain ⟨j, hj, rfl, hO, hb⟩ := hrel
    obtain ⟨oa, op, hout, hom⟩ := hO.shape
    have hlj : (schs3.take j).length = j := by simp [schs3]; omega
    rw [hlj] at hout
    subst hout
    have hz : w1.heap.size ≤ wr.heap.size := hb.size
    have HO := Lib.hid hO
    have HB := Lib.hid hb
    have HLJ := Lib.hid hlj
    clear hO hb hlj
    by_cases hlt : j < 3
    · obtain ⟨s, vc, hs, c0, c1, hc⟩ := schs3_at HS1.out j hlt
      obtain ⟨ca, cc, rfl, _⟩ := hc.shape
      have d0 := (HB.out.cell (p := ⟨b, o + j * 2, none⟩) hbs).trans c0
      have d1 := (HB.out.cell (p := ⟨b, o + j * 2 + 1, none⟩) hbs).trans c1
      have HS := Lib.hid hs
      have HC := Lib.hid hc
      clear hs hc c0 c1
      go_wp2_with (at_builtin; go_loud (refine wpList_app rfl _ _ 41 rfl 106 _ 4 72 Tryd.underlying41 infoTbl rfl (by decide) (R := TblR (Out w.heap.size w1.heap.size) w1) (M := NoM) w1.heap.size (.slice oa j op) (.slice (some ⟨wr.heap.size + 1, 0, none⟩) 1 1) (schs3.take j) [s] rfl rfl (RowsO.kept HO.out (((Keep.refl (fun _ => False) wr).alloc _).alloc _) (fun _ _ => id) fun _ _ _ h => h) (rows_one s (by simp) id rfl ⟨_, 1, none, 0, 0, rfl, HC.out⟩) (fun y _ cs h => tblStable.one h) (by have := HLJ.out; simp; omega) (by have := HLJ.out; simp [maxLen]; omega) (by simp; omega) ?_; intro v2 w2 ho hk _; obtain ⟨oa2, op2, hv2, hom2⟩ := ho.shape; rw [show (schs3.take j ++ [s]).length = j + 1 by simp [HLJ.out]] at hv2; subst hv2; have hO : ∀ k, OwnB (.slice oa j op) k → w1.heap.size ≤ k := (fun k h => (RowsO.lt HO.out h).1); have hB2 : Below w1.heap.size w1 w2 := (HB.out.alloc hz _).alloc (by simp; omega) _ |>.trans (hk.toBelow (by simp; omega) fun k hk h => by have := hO k h; omega); have HB2 := Lib.hid hB2; have HO2 := Lib.hid ho; clear ho hk hO hB2))
      go_roundw
      case rel =>
        refine ⟨j + 1, by omega, by go_num, ?_, HB2.out⟩
        rw [List.take_add_one, HS.out]
        exact HO2.out
      case measure => simp [intOf]; omega
    · obtain rfl : j = 3 := by omega
      have HO3 : Hid (RowsO w1.heap.size wr 106 4 (TblR (Out w.heap.size w1.heap.size) w1) (.slice oa 3 op) schs3) := HO
      have HT3 := Lib.hid (TapeOk.bel (H0.out.bel HB1.out) HB.out)
      have HK3 := Lib.hid (HK1.out.below HB.out)
      clear HO
      go_wp2_with (go_at_call 62; refine (bool_any T 2 _ (by omega) (by omega) HT3.out).mono ?_; rintro e w4 ⟨v, rfl, ⟨b1, rfl⟩, ht, hk⟩; have z4 := hk.size; have HT4 := Lib.hid ht; have HK4 := Lib.hid (HK3.out.trans hk); have HX4 := Lib.hid hk; clear ht hk; cases b1)
      · go_ret
        exact tables_end (.inl rfl) (RowsO.kept HO3.out HX4.out (fun k h hT => by have := (RowsO.lt HO3.out h).1; unfold At at hT; omega) fun _ _ _ h => h) h1 (fun s _ cs h => tbl_up0 hTw ((Keep.bel HB.out).trans HX4.out) h) HT4.out HK4.out
      · go_wp2_with (first
          | (go_at_call 21; refine (next_any T 3 _ (by omega) (by omega) HT4.out).mono ?_; rintro e w5 ⟨v, rfl, ⟨r, rfl, hr0, hr1⟩, ht, hk⟩; have z5 := hk.size; have HT5 := Lib.hid ht; have HK5 := Lib.hid (HK4.out.trans hk); have HX5 := Lib.hid (HX4.out.trans hk); clear ht hk)
          | (go_at_call 18; refine (schema_t _).mono ?_; rintro e w6 ⟨vc, rfl, hc, hb⟩; obtain ⟨a6, p6, rfl, _⟩ := hc.shape; have z6 := hb.size; have HC6 := Lib.hid (hc.weak (M' := NoM) fun _ _ h => h.elim); have HT6 := Lib.hid (HT5.out.bel hb); have HK6 := Lib.hid (HK5.out.below hb); have HX6 := Lib.hid (HX5.out.below hb); clear hc hb)
          | (go_at_call 67; go_loud (refine (trans_any r hr0 hr1 _ _ _ _ _ schT.cols _ HC6.out (by decide)).mono ?_; rintro e w7 ⟨v7, rfl, h7, hb⟩; obtain ⟨a7, c7, rfl, _⟩ := h7.shape; have z7 := hb.size; have HT7 := Lib.hid (HT6.out.bel hb); have HK7 := Lib.hid (HK6.out.below hb); have HX7 := Lib.hid (HX6.out.below hb); have H7 := Lib.hid h7; clear h7 hb))
          | (at_builtin; go_loud (refine wpList_app rfl _ _ 41 rfl 106 _ 4 72 Tryd.underlying41 infoTbl rfl (by decide) (R := TblR (OldOr w.heap.size (.slice oa 3 op)) w7) (M := Out w6.heap.size w7.heap.size) w1.heap.size (.slice oa 3 op) (.slice a7 (transL r schT.cols).length c7) schs3 (transL r schT.cols) rfl rfl (RowsO.kept HO3.out HX7.out (fun k h hT => by have := (RowsO.lt HO3.out h).1; unfold At at hT; omega) fun _ _ _ h => tbl_up hTw (fun k h => (RowsO.lt HO3.out h).1) ((Keep.bel HB.out).trans HX7.out) h) (RowsR.weak H7.out (fun _ _ h => h) fun _ _ _ h => tbl_up2 (by omega) (fun k h => by have := (RowsO.lt HO3.out h).2; omega) h) (fun y _ cs h => tblStable.one h) (by have := transL_length r; have : schs3.length = 3 := rfl; omega) (by have := transL_length r; have : schs3.length = 3 := rfl; unfold maxLen; omega) (by omega) ?_; intro v8 w8 ho hk _; have HO8 := Lib.hid ho; have HK8 := Lib.hid hk; clear ho hk)))
        go_ret
        have hO : ∀ k, OwnB (.slice oa 3 op) k → w1.heap.size ≤ k := fun k h => (RowsO.lt HO3.out h).1
        exact tables_end (.inr ⟨r, hr0, hr1, rfl⟩) HO8.out h1 (fun s _ cs h => tbl_up3 HK8.out h) (HT7.out.keep HK8.out fun k h1 h2 => by have := hO k h2; omega) (HK7.out.then HK8.out fun k h1 h2 => by have := hO k h2; omega)

end Go.Proofs.YtiheioajnfggmaaDoor
