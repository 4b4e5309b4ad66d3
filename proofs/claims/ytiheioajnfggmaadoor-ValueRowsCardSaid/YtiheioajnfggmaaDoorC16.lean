/- The frames of the statements on names and types: the contract of frames. -/
import Derived.Test.YtiheioajnfggmaaDoorC15
namespace Go.Proofs.YtiheioajnfggmaaDoor
open Go.RowKit

def baseL (r : Int) (cols : List Col) : List Frm := if r = 0 then [frmNew cols] else if r = 1 then [frmOld cols, frmNew cols] else [frmOld cols]
def framesL (r : Int) (b1 b2 : Bool) : List Frm := (if b2 then [frmOf schT] else []) ++ (baseL r schT.cols ++ (if b1 then [frmOf schU] else []))

theorem baseL_length (r : Int) (cols : List Col) : (baseL r cols).length ≤ 2 := by
  unfold baseL
  split
  · simp
  · split <;> simp

theorem framesL_length (r : Int) (b1 b2 : Bool) : (framesL r b1 b2).length ≤ 4 := by
  have := baseL_length r schT.cols
  unfold framesL
  cases b1 <;> cases b2 <;> simp <;> omega

theorem frames_ev (r : Int) (h0 : 0 ≤ r) (h1 : r < 3) (n1 n2 : ByteArray) (bf : Bool) (o1 o2 o3 o4 o5 o6 : Option Addr) (l1 l2 l3 l4 l5 l6 c1 c2 c3 c4 c5 c6 : Nat) (s : ByteArray) (vc : Value) (cols : List Col) (w : World) (hc : ColsR NoM w vc cols) (hN : cols.length ≤ 1000000) :
    Calls Tryd.prog 61 #[.agg #[.string n1, .string n2, .bool bf, .int .i64 (1 + r), .slice o1 l1 c1, .bool true, .slice o2 l2 c2, .slice o3 l3 c3, .slice o4 l4 c4, .slice o5 l5 c5, .slice o6 l6 c6], .agg #[.string s, vc], .slice none 0 0, .slice none 0 0] w (FramesPost (baseL r cols) w) := by
  have h : r = 0 ∨ r = 1 ∨ r = 2 := by omega
  rcases h with rfl | rfl | rfl
  · exact frames_1 _ _ _ _ _ _ _ _ _ _ _ _ _ _ _ _ _ _ _ _ _ _ _ _ _ hc hN
  · exact frames_2 _ _ _ _ _ _ _ _ _ _ _ _ _ _ _ _ _ _ _ _ _ _ _ _ _ hc hN
  · exact frames_3 _ _ _ _ _ _ _ _ _ _ _ _ _ _ _ _ _ _ _ _ _ _ _ _ _ hc hN

/-- A one-element slice that has just been built is the call's own. -/
theorem rowsO_one {α : Type} {lo : Nat} {w : World} {arr : Array Value} {e : TypeId} {size g : Nat} {R : α → List Value → Prop} (x : α) (hg : g = w.heap.size) (hlo : lo ≤ w.heap.size) (hs : arr.toList.length = size) (hR : R x arr.toList) :
    RowsO lo (w.alloc (.cells arr e)) e size R (.slice (some ⟨g, 0, none⟩) 1 1) [x] := by
  subst hg
  refine ⟨[arr.toList], ⟨by simpa using hs, .inr ⟨w.heap.size, 1, arr, rfl, hlo, heap_alloc_new w _, Nat.le_refl _, by unfold maxLen; omega, by simpa using hs, ?_⟩⟩, rfl, by simpa using hs, fun i y cs hi hc => ?_⟩
  · have : (1 : Nat) * size = arr.toList.length := by rw [hs]; omega
    simp only [List.length_singleton, this, List.flatten_cons, List.flatten_nil, List.append_nil, List.take_length]
  · match i with
    | 0 => simp at hi hc; subst hi; subst hc; exact hR
    | i + 1 => simp at hi

def FramesQ (w : World) (v : Value) (w' : World) : Prop := ∃ (r : Int) (b1 b2 : Bool), 0 ≤ r ∧ r < 3 ∧ FrmsR (Out w.heap.size w'.heap.size) w' v (framesL r b1 b2)

theorem frames_end {lo T : Nat} {w w' : World} {v : Value} {r : Int} {b1 b2 : Bool} (h0 : 0 ≤ r) (h1 : r < 3) (h : RowsG lo w' 33 4 FrmR v (framesL r b1 b2)) (hlo : lo = w.heap.size) (ht : TapeOk T w') (hk : Keep (At T) w w') : Gives T w (FramesQ w) (.returned v) w' := by
  subst hlo
  refine ⟨v, rfl, ⟨r, b1, b2, h0, h1, ?_⟩, ht, hk⟩
  have := h.rows frmStable
  refine RowsR.weak this (fun k hk h => ?_) fun x _ cs hc => frmStable.weak hc fun k hk h => ?_
  all_goals
    unfold Out at h
    unfold Old
    omega

theorem frames_end2 {T : Nat} {w w8 w9 : World} {v : Value} {r : Int} {b1 : Bool} (h0 : 0 ≤ r) (h1 : r < 3) (h : RowsO w8.heap.size w9 33 4 (FrmR (Old w.heap.size) w8) v ([frmOf schT] ++ (baseL r schT.cols ++ (if b1 then [frmOf schU] else []))))
    (hb : Below w8.heap.size w8 w9) (ht : TapeOk T w8) (hk : Keep (At T) w w8) : Gives T w (FramesQ w) (.returned v) w9 := by
  refine ⟨v, rfl, ⟨r, b1, true, h0, h1, ?_⟩, ht.bel hb, hk.below hb⟩
  have h' := h.imp (R' := FrmR (Out w.heap.size w9.heap.size) w9) fun x _ cs hc => frmStable.weak (frmStable.keep hc (.bel hb)) fun k hk h => by unfold Out at h; unfold Old; omega
  exact h'.rows fun k h1 h2 h => by have := hk.size; unfold Out at h; omega

theorem rowsR_later {α : Type} {M : Nat → Prop} {w w' : World} {size : Nat} {R : α → List Value → Prop} {v : Value} {xs : List α} (h : RowsR M w size R v xs) (k : Keep M w w') : RowsR M w' size R v xs := RowsR.map h k fun _ _ _ h => h

/-- What an old list avoids lies below the world where it was. -/
theorem RowsG.lt_old {α : Type} {lo : Nat} {w w' : World} {e : TypeId} {size : Nat} {R : (Nat → Prop) → World → α → List Value → Prop} {v : Value} {xs : List α} (_h : RowsG lo w' e size R v xs) {k : Nat} (hk : OldOr lo v k) (h : RowsG lo w e size R v xs) : k < w.heap.size ∨ k < lo := by
  rcases hk with hk | hk
  · exact .inr hk
  · exact .inl (RowsO.lt h hk).2

theorem TapeOk.own {T : Nat} {w w' wx : World} {α : Type} {lo : Nat} {e : TypeId} {size : Nat} {R : (Nat → Prop) → World → α → List Value → Prop} {v : Value} {xs : List α} (h : TapeOk T w) (ho : RowsG lo wx e size R v xs) (hT : T < lo) (hk : Keep (OwnB v) w w') : TapeOk T w' :=
  h.keep hk fun k hk hx => by have := (RowsO.lt ho hx).1; omega

theorem Keep.own {T : Nat} {w0 w w' wx : World} {α : Type} {e : TypeId} {size : Nat} {R : (Nat → Prop) → World → α → List Value → Prop} {v : Value} {xs : List α} {lo : Nat} (h : Keep (At T) w0 w) (ho : RowsG lo wx e size R v xs) (hlo : w0.heap.size ≤ lo) (hk : Keep (OwnB v) w w') : Keep (At T) w0 w' :=
  h.then hk fun k hk hx => by have := (RowsO.lt ho hx).1; omega

theorem run_cols (s : ByteArray) (a : Option Addr) (n c : Nat) (w : World) : Sem.run Tryd.prog (Instr.field 29 (.agg #[.string s, .slice a n c]) 1) w = .ok (.slice a n c) w := by kernel_rfl

set_option maxRecDepth 100000 in
set_option maxHeartbeats 4000000 in
theorem frames_any (T : Nat) (w : World) (ht : TapeOk T w) : Calls Tryd.prog 15 #[.pointer (some ⟨T, 0, none⟩)] w (Gives T w (FramesQ w)) := by
  have hTw := ht.lt
  have hcols := run_cols
  have H0 := Lib.hid ht
  have tok1 : Hid True := trivial
  have tok2 : Hid True := trivial
  have tok3 : Hid True := trivial
  have tok4 : Hid True := trivial
  have tok5 : Hid True := trivial
  have hbl := fun r => baseL_length r schT.cols
  have HBL := Lib.hid hbl
  clear ht hbl
  go_enter Tryd.func15, Tryd.ntmps15
  go_wp2_with (first
    | (go_at_call 21; have _t := tok1; refine (next_any T 3 _ (by omega) (by omega) H0.out).mono ?_; rintro e w1 ⟨v, rfl, ⟨r, rfl, hr0, hr1⟩, ht, hk⟩; have HT1 := Lib.hid ht; have HK1 := Lib.hid hk; clear ht hk tok1)
    | (go_at_call 18; have _t := tok2; refine (schema_t _).mono ?_; rintro e w2 ⟨vc, rfl, hc, hb⟩; obtain ⟨a2, p2, rfl, _⟩ := hc.shape; have HC2 := Lib.hid (hc.weak (M' := NoM) fun _ _ h => h.elim); have HT2 := Lib.hid (HT1.out.bel hb); have HK2 := Lib.hid (HK1.out.below hb); clear hc hb tok2)
    | (go_at_call 61; go_loud (refine (frames_ev r hr0 hr1 _ _ _ _ _ _ _ _ _ _ _ _ _ _ _ _ _ _ _ _ _ _ _ _ _ HC2.out (by simp [schT])).mono ?_; rintro e w3 ⟨v3, rfl, hg, hb⟩; have HG3 := Lib.hid (RowsG.of frmStable (lo := w.heap.size) (M := OldOr w2.heap.size v3) hg HK2.out.size fun k _ h => h.imp (fun h => Nat.lt_of_lt_of_le h HK2.out.size) id); have HT3 := Lib.hid (HT2.out.bel hb); have HK3 := Lib.hid (HK2.out.below hb); clear hg hb))
    | (go_at_call 62; have _t := tok3; refine (bool_any T 2 _ (by omega) (by omega) HT3.out).mono ?_; rintro e w4 ⟨v, rfl, ⟨b1, rfl⟩, ht, hk⟩; have HT4 := Lib.hid ht; have HK4 := Lib.hid (HK3.out.trans hk); have HG4 := Lib.hid (HG3.out.keep frmStable hk fun k h1 _ h2 => by unfold At at h2; omega); clear ht hk tok3; cases b1)
    | (go_at_call 18; have _t := tok4; refine (schema_u _).mono ?_; rintro e w5 ⟨vc, rfl, hc, hb⟩; obtain ⟨a5, p5, rfl, _⟩ := hc.shape; have HC5 := Lib.hid hc; have HT5 := Lib.hid (HT4.out.bel hb); have HK5 := Lib.hid (HK4.out.below hb); have HG5 := Lib.hid (HG4.out.bel frmStable hb); have HS5 := Lib.hid hb.size; clear hc hb tok4)
    | (at_builtin; have _t := tok5; refine wpList_appG (w := w5) frmStable rfl _ _ 25 rfl 33 _ 4 72 Tryd.underlying25 infoFrame rfl (by decide) w.heap.size v3 w5.heap.size (#[.string ⟨#[117]⟩, .bool false, .slice a5 schU.cols.length p5, .slice none 0 0]) (baseL r schT.cols) (frmOf schU) rfl rfl rfl HG5.out rfl (frm_cells (s := false) (HC5.out.weak (fun k hk h => by have h9 := HG5.out.lt_old h HG4.out; have h8 := HK4.out.size; unfold Out; omega))) (by have := baseL_length r schT.cols; omega) (by have := baseL_length r schT.cols; unfold maxLen; omega) HK5.out.size ?_; intro v6 w6 ho hk; have HG6 := Lib.hid ho; have HT6 := Lib.hid (HT5.out.own HG5.out (by omega) hk); have HK6 := Lib.hid (HK5.out.own HG5.out (by omega) hk); clear ho hk tok5))
  · have HG6 := Lib.hid (show RowsG w.heap.size w4 33 4 FrmR v3 (baseL r schT.cols ++ (if false = true then [frmOf schU] else [])) by simpa using HG4.out)
    go_wp2_with (first
      | (go_at_call 62; refine (bool_any T 3 _ (by omega) (by omega) HT4.out).mono ?_; rintro e w7 ⟨v, rfl, ⟨b2, rfl⟩, ht, hk⟩; have HT7 := Lib.hid ht; have HK7 := Lib.hid (HK4.out.trans hk); have HG7 := Lib.hid (HG6.out.keep frmStable hk fun k h1 _ h2 => by unfold At at h2; omega); clear ht hk; cases b2)
      | (go_at_call 18; refine (schema_t _).mono ?_; rintro e w8 ⟨vc, rfl, hc, hb⟩; obtain ⟨a8, p8, rfl, _⟩ := hc.shape; have HC8 := Lib.hid (hc.weak (M' := Old w.heap.size) fun k hk h => by have h8 := HK7.out.size; unfold Old at h; unfold Out; omega); have HT8 := Lib.hid (HT7.out.bel hb); have HK8 := Lib.hid (HK7.out.below hb); have HG8 := Lib.hid (HG7.out.bel frmStable hb); clear hc hb)
      | (at_builtin; refine wpList_app rfl _ _ 25 rfl 33 _ 4 72 Tryd.underlying25 infoFrame rfl (by decide) (R := FrmR (Old w.heap.size) w8) (M := Old w.heap.size) w8.heap.size (.slice (some ⟨w8.heap.size, 0, none⟩) 1 1) v3 [frmOf schT] (baseL r schT.cols ++ (if false = true then [frmOf schU] else [])) rfl rfl (rowsO_one (frmOf schT) rfl (Nat.le_refl _) rfl (frm_cells (s := false) HC8.out)) (rowsR_later (HG8.out.rows frmStable) ((Keep.refl _ _).alloc _)) (fun y _ cs h => frmR_one _ y cs h) (by have h7 := HBL.out r; simp; omega) (by have h7 := HBL.out r; simp [maxLen]; omega) (by simp) ?_; intro v9 w9 ho hk hat; have HO9 := Lib.hid ho; have HB9 := Lib.hid (((Below.refl _ w8).alloc (Nat.le_refl _) _).trans (hk.toBelow (B := w8.heap.size) (by simp) fun k hk h => by have h7 : w8.heap.size = k := (by simpa [OwnB, Value.ownBlock] using h); omega)); clear ho hk hat))
    all_goals go_ret
    · exact frames_end (b1 := false) (b2 := false) hr0 hr1 (by simpa [framesL] using HG7.out) rfl HT7.out HK7.out
    · exact frames_end2 (b1 := false) hr0 hr1 HO9.out HB9.out HT8.out HK8.out
  · have HG7 := Lib.hid (show RowsG w.heap.size w6 33 4 FrmR v6 (baseL r schT.cols ++ (if true = true then [frmOf schU] else [])) by simpa using HG6.out)
    go_wp2_with (first
      | (go_at_call 62; refine (bool_any T 3 _ (by omega) (by omega) HT6.out).mono ?_; rintro e w7 ⟨v, rfl, ⟨b2, rfl⟩, ht, hk⟩; have HT7 := Lib.hid ht; have HK7 := Lib.hid (HK6.out.trans hk); have HG7 := Lib.hid (HG7.out.keep frmStable hk fun k h1 _ h2 => by unfold At at h2; omega); clear ht hk; cases b2)
      | (go_at_call 18; refine (schema_t _).mono ?_; rintro e w8 ⟨vc, rfl, hc, hb⟩; obtain ⟨a8, p8, rfl, _⟩ := hc.shape; have HC8 := Lib.hid (hc.weak (M' := Old w.heap.size) fun k hk h => by have h8 := HK7.out.size; unfold Old at h; unfold Out; omega); have HT8 := Lib.hid (HT7.out.bel hb); have HK8 := Lib.hid (HK7.out.below hb); have HG8 := Lib.hid (HG7.out.bel frmStable hb); clear hc hb)
      | (at_builtin; refine wpList_app rfl _ _ 25 rfl 33 _ 4 72 Tryd.underlying25 infoFrame rfl (by decide) (R := FrmR (Old w.heap.size) w8) (M := Old w.heap.size) w8.heap.size (.slice (some ⟨w8.heap.size, 0, none⟩) 1 1) v6 [frmOf schT] (baseL r schT.cols ++ (if true = true then [frmOf schU] else [])) rfl rfl (rowsO_one (frmOf schT) rfl (Nat.le_refl _) rfl (frm_cells (s := false) HC8.out)) (rowsR_later (HG8.out.rows frmStable) ((Keep.refl _ _).alloc _)) (fun y _ cs h => frmR_one _ y cs h) (by have h7 := HBL.out r; simp; omega) (by have h7 := HBL.out r; simp [maxLen]; omega) (by simp) ?_; intro v9 w9 ho hk hat; have HO9 := Lib.hid ho; have HB9 := Lib.hid (((Below.refl _ w8).alloc (Nat.le_refl _) _).trans (hk.toBelow (B := w8.heap.size) (by simp) fun k hk h => by have h7 : w8.heap.size = k := (by simpa [OwnB, Value.ownBlock] using h); omega)); clear ho hk hat))
    all_goals go_ret
    · exact frames_end (b1 := true) (b2 := false) hr0 hr1 (by simpa [framesL] using HG7.out) rfl HT7.out HK7.out
    · exact frames_end2 (b1 := true) hr0 hr1 HO9.out HB9.out HT8.out HK8.out

end Go.Proofs.YtiheioajnfggmaaDoor
