/- Frames of a row trigger: contracts of the reference's Frames and of the statement's frames. -/
import Derived.Test.YtiheioajnfggmaaDoorC2
import Derived.Test.YtiheioajnfggmaaDoorC7
import Derived.Test.YtiheioajnfggmaaDoorB3
namespace Go.Proofs.YtiheioajnfggmaaDoor
open Go.RowKit

set_option maxRecDepth 100000 in
set_option maxHeartbeats 400000 in
theorem copy_nil (w : World) : Calls Tryd.prog 107 #[.slice none 0 0] w fun e w' => e = .returned (.slice none 0 0) ∧ w = w' := by
  go_enter Tryd.func107, Tryd.ntmps107
  go_wp2_with (at_builtin; refine wpList_append_own_none rfl _ _ 31 rfl 0 48 _ 3 Tryd.underlying31 rfl _ 0 [] rfl (World.ownsRow_nil ..) rfl ?_)
  go_ret
  exact ⟨rfl, rfl⟩

def frmOld (cols : List Col) : Frm := ⟨bs [79, 76, 68], true, cols⟩
def frmNew (cols : List Col) : Frm := ⟨bs [78, 69, 87], true, cols⟩

theorem frmStable : Stable FrmR where
  keep h k := FrmR.keep h k
  weak h hM := FrmR.weak hM h
  one h := frmR_one _ _ _ h

def FramesPost (fs : List Frm) (w : World) (e : Ending) (w' : World) : Prop := ∃ v, e = .returned v ∧ RowsG w.heap.size w' 33 4 FrmR v fs ∧ Below w.heap.size w w'

theorem frm_cells {M : Nat → Prop} {w : World} {nm : ByteArray} {s : Bool} {cols : List Col} {a : Option Addr} {n c : Nat} (h : ColsR M w (.slice a n c) cols) : FrmR M w ⟨nm, s, cols⟩ [.string nm, .bool s, .slice a n c, .slice none 0 0] := ⟨_, _, _, _, rfl, h⟩

theorem not_own_nil {k : Nat} (h : OwnB (.slice none 0 0) k) : False := by cases h

theorem bel_own {α : Type} {lo s : Nat} {w0 w w' wx : World} {e : TypeId} {size : Nat} {R : α → List Value → Prop} {v : Value} {xs : List α} (h : Below s w0 w) (ho : RowsO lo wx e size R v xs) (hs : s ≤ lo) (hsz : s ≤ w.heap.size) (k : Keep (OwnB v) w w') : Below s w0 w' :=
  h.trans (k.toBelow hsz fun b hb hx => by have := (ho.lt hx).1; omega)

theorem bcell_own {α : Type} {lo : Nat} {w w' wx : World} {e : TypeId} {size : Nat} {R : α → List Value → Prop} {v : Value} {xs : List α} (ho : RowsO lo wx e size R v xs) (k : Keep (OwnB v) w w') (hs : lo ≤ w.heap.size) : ∀ b o, b < lo → w'.cell? ⟨b, o, none⟩ = w.cell? ⟨b, o, none⟩ :=
  fun b o h => k.cell (by omega) fun hx => by have := (ho.lt hx).1; omega

section
variable (n1 n2 : ByteArray) (bf : Bool) (o1 o2 o3 o4 o5 o6 : Option Addr) (l1 l2 l3 l4 l5 l6 c1 c2 c3 c4 c5 c6 : Nat) (s : ByteArray) (vc : Value) (cols : List Col) (w : World) (hc : ColsR NoM w vc cols) (hN : cols.length ≤ 1000000)

include hc hN in
set_option maxRecDepth 100000 in
set_option maxHeartbeats 2000000 in
theorem frames_1 : Calls Tryd.prog 61 #[.agg #[.string n1, .string n2, .bool bf, .int .i64 1, .slice o1 l1 c1, .bool true, .slice o2 l2 c2, .slice o3 l3 c3, .slice o4 l4 c4, .slice o5 l5 c5, .slice o6 l6 c6], .agg #[.string s, vc], .slice none 0 0, .slice none 0 0] w (FramesPost [frmNew cols] w) := by
  obtain ⟨ca, cc, rfl, _⟩ := hc.shape
  have tok1 : Hid True := trivial
  have HC := Lib.hid (fun (w' : World) (hb : Below w.heap.size w w') => hc.keep (.bel hb))
  have HN := Lib.hid hN
  clear hc hN
  go_enter Tryd.func61, Tryd.ntmps61
  go_wp2_with (first
    | (at_builtin; have _t := tok1; refine wpList_app rfl _ _ 27 rfl 35 _ 4 32 Tryd.underlying27 infoCol rfl (by decide) (w.heap.size + 1 + 1) (.slice none 0 0) (.slice ca cols.length cc) [] cols rfl rfl (RowsO.nil ..) (HC.out _ (by go_grown)) (fun y _ cs h => colR_one default y cs h) (by have := HN.out; simp; omega) (by have := HN.out; simp [maxLen]; omega) (by simp) ?_; intro vx w1 ho hk hat; have hb := bel_nil hk; obtain ⟨a1, p1, rfl, _⟩ := ho.shape; have hbw : Below w.heap.size w w1 := Below.trans (by go_grown) (hb.mono (by simp <;> omega)); have hc1 : ColsR (OldOr (w.heap.size + 1 + 1) (.slice none 0 0)) w1 (.slice a1 cols.length p1) cols := ho.rows (fun k h1 h2 h => h.elim (fun h => by (try (have h8 := HB2.out.size)); omega) (fun h => by first | exact (not_own_nil h).elim | (have h9 := (RowsO.lt HO2.out h).2; omega))); obtain ⟨k1, k2, k3⟩ := bcell hb; (try simp only [World.size_alloc] at k1 k2 k3); have k4 : w.heap.size < w1.heap.size := (by (try (have h8 := HB2.out.size)); omega); have k5 : w.heap.size + 1 < w1.heap.size := (by (try (have h8 := HB2.out.size)); omega); have HC1 := Lib.hid hc1; have HB1 := Lib.hid hbw; have HKw1 := Lib.hid hk; clear ho hk hat hb hbw hc1 tok1)
    | (go_at_call 107; refine (copy_nil _).mono ?_; rintro e w9 ⟨rfl, rfl⟩)
    | (at_builtin; refine wpList_appG (w := w1) frmStable rfl _ _ 25 rfl 33 _ 4 72 Tryd.underlying25 infoFrame rfl (by decide) (w.heap.size + 1 + 1) (.slice none 0 0) w1.heap.size (#[.string ⟨#[78, 69, 87]⟩, .bool true, .slice a1 cols.length p1, .slice none 0 0]) [] (frmNew cols) rfl rfl rfl (RowsG.nil (w.heap.size + 1 + 1) w1 33 4 FrmR) rfl (frm_cells HC1.out) ?_ ?_ ?_ ?_; (focus (simp; done)); (focus (simp [maxLen]; done)); (focus omega); intro v2 w2 ho hk; have hb2 := bel_own (lo := w.heap.size + 1 + 1) (s := w.heap.size) HB1.out (RowsG.nil (w.heap.size + 1 + 1) w1 33 4 FrmR) (by omega) HB1.out.size hk; have j1 := bcell_own (lo := w.heap.size + 1 + 1) (RowsG.nil (w.heap.size + 1 + 1) w1 33 4 FrmR) hk (by omega); have j4 : w.heap.size < w.heap.size + 1 + 1 := (by omega); have j5 := hk.size; have HO2 := Lib.hid ho; have HB2 := Lib.hid hb2; clear ho hk hb2))
  go_ret
  exact ⟨_, rfl, RowsG.of frmStable HO2.out (by omega) fun k _ h => h.imp (fun h => by omega) id, HB2.out⟩

include hc hN in
set_option maxRecDepth 100000 in
set_option maxHeartbeats 2000000 in
theorem frames_3 : Calls Tryd.prog 61 #[.agg #[.string n1, .string n2, .bool bf, .int .i64 3, .slice o1 l1 c1, .bool true, .slice o2 l2 c2, .slice o3 l3 c3, .slice o4 l4 c4, .slice o5 l5 c5, .slice o6 l6 c6], .agg #[.string s, vc], .slice none 0 0, .slice none 0 0] w (FramesPost [frmOld cols] w) := by
  obtain ⟨ca, cc, rfl, _⟩ := hc.shape
  have tok1 : Hid True := trivial
  have HC := Lib.hid (fun (w' : World) (hb : Below w.heap.size w w') => hc.keep (.bel hb))
  have HN := Lib.hid hN
  clear hc hN
  go_enter Tryd.func61, Tryd.ntmps61
  go_wp2_with (first
    | (at_builtin; have _t := tok1; refine wpList_app rfl _ _ 27 rfl 35 _ 4 32 Tryd.underlying27 infoCol rfl (by decide) (w.heap.size + 1 + 1) (.slice none 0 0) (.slice ca cols.length cc) [] cols rfl rfl (RowsO.nil ..) (HC.out _ (by go_grown)) (fun y _ cs h => colR_one default y cs h) (by have := HN.out; simp; omega) (by have := HN.out; simp [maxLen]; omega) (by simp) ?_; intro vx w1 ho hk hat; have hb := bel_nil hk; obtain ⟨a1, p1, rfl, _⟩ := ho.shape; have hbw : Below w.heap.size w w1 := Below.trans (by go_grown) (hb.mono (by simp <;> omega)); have hc1 : ColsR (OldOr (w.heap.size + 1 + 1) (.slice none 0 0)) w1 (.slice a1 cols.length p1) cols := ho.rows (fun k h1 h2 h => h.elim (fun h => by (try (have h8 := HB2.out.size)); omega) (fun h => by first | exact (not_own_nil h).elim | (have h9 := (RowsO.lt HO2.out h).2; omega))); obtain ⟨k1, k2, k3⟩ := bcell hb; (try simp only [World.size_alloc] at k1 k2 k3); have k4 : w.heap.size < w1.heap.size := (by (try (have h8 := HB2.out.size)); omega); have k5 : w.heap.size + 1 < w1.heap.size := (by (try (have h8 := HB2.out.size)); omega); have HC1 := Lib.hid hc1; have HB1 := Lib.hid hbw; have HKw1 := Lib.hid hk; clear ho hk hat hb hbw hc1 tok1)
    | (go_at_call 107; refine (copy_nil _).mono ?_; rintro e w9 ⟨rfl, rfl⟩)
    | (at_builtin; refine wpList_appG (w := w1) frmStable rfl _ _ 25 rfl 33 _ 4 72 Tryd.underlying25 infoFrame rfl (by decide) (w.heap.size + 1 + 1) (.slice none 0 0) w1.heap.size (#[.string ⟨#[79, 76, 68]⟩, .bool true, .slice a1 cols.length p1, .slice none 0 0]) [] (frmOld cols) rfl rfl rfl (RowsG.nil (w.heap.size + 1 + 1) w1 33 4 FrmR) rfl (frm_cells HC1.out) ?_ ?_ ?_ ?_; (focus (simp; done)); (focus (simp [maxLen]; done)); (focus omega); intro v2 w2 ho hk; have hb2 := bel_own (lo := w.heap.size + 1 + 1) (s := w.heap.size) HB1.out (RowsG.nil (w.heap.size + 1 + 1) w1 33 4 FrmR) (by omega) HB1.out.size hk; have j1 := bcell_own (lo := w.heap.size + 1 + 1) (RowsG.nil (w.heap.size + 1 + 1) w1 33 4 FrmR) hk (by omega); have j4 : w.heap.size < w.heap.size + 1 + 1 := (by omega); have j5 := hk.size; have HO2 := Lib.hid ho; have HB2 := Lib.hid hb2; clear ho hk hb2))
  go_ret
  exact ⟨_, rfl, RowsG.of frmStable HO2.out (by omega) fun k _ h => h.imp (fun h => by omega) id, HB2.out⟩

include hc hN in
set_option maxRecDepth 100000 in
set_option maxHeartbeats 2000000 in
theorem frames_2 : Calls Tryd.prog 61 #[.agg #[.string n1, .string n2, .bool bf, .int .i64 2, .slice o1 l1 c1, .bool true, .slice o2 l2 c2, .slice o3 l3 c3, .slice o4 l4 c4, .slice o5 l5 c5, .slice o6 l6 c6], .agg #[.string s, vc], .slice none 0 0, .slice none 0 0] w (FramesPost [frmOld cols, frmNew cols] w) := by
  obtain ⟨ca, cc, rfl, _⟩ := hc.shape
  have tok1 : Hid True := trivial
  have tok2 : Hid True := trivial
  have tok3 : Hid True := trivial
  have HC := Lib.hid (fun (w' : World) (hb : Below w.heap.size w w') => hc.keep (.bel hb))
  have HN := Lib.hid hN
  clear hc hN
  go_enter Tryd.func61, Tryd.ntmps61
  go_wp2_with (first
    | (at_builtin; have _t := tok1; refine wpList_app rfl _ _ 27 rfl 35 _ 4 32 Tryd.underlying27 infoCol rfl (by decide) (w.heap.size + 1 + 1) (.slice none 0 0) (.slice ca cols.length cc) [] cols rfl rfl (RowsO.nil ..) (HC.out _ (by go_grown)) (fun y _ cs h => colR_one default y cs h) (by have := HN.out; simp; omega) (by have := HN.out; simp [maxLen]; omega) (by simp) ?_; intro vx w1 ho hk hat; have hb := bel_nil hk; obtain ⟨a1, p1, rfl, _⟩ := ho.shape; have hbw : Below w.heap.size w w1 := Below.trans (by go_grown) (hb.mono (by simp <;> omega)); have hc1 : ColsR (OldOr (w.heap.size + 1 + 1) (.slice none 0 0)) w1 (.slice a1 cols.length p1) cols := ho.rows (fun k h1 h2 h => h.elim (fun h => by (try (have h8 := HB2.out.size)); omega) (fun h => by first | exact (not_own_nil h).elim | (have h9 := (RowsO.lt HO2.out h).2; omega))); obtain ⟨k1, k2, k3⟩ := bcell hb; (try simp only [World.size_alloc] at k1 k2 k3); have k4 : w.heap.size < w1.heap.size := (by (try (have h8 := HB2.out.size)); omega); have k5 : w.heap.size + 1 < w1.heap.size := (by (try (have h8 := HB2.out.size)); omega); have HC1 := Lib.hid hc1; have HB1 := Lib.hid hbw; have HKw1 := Lib.hid hk; clear ho hk hat hb hbw hc1 tok1)
    | (go_at_call 107; refine (copy_nil _).mono ?_; rintro e w9 ⟨rfl, rfl⟩)
    | (at_builtin; have _t := tok2; refine wpList_appG (w := w1) frmStable rfl _ _ 25 rfl 33 _ 4 72 Tryd.underlying25 infoFrame rfl (by decide) (w.heap.size + 1 + 1) (.slice none 0 0) w1.heap.size (#[.string ⟨#[79, 76, 68]⟩, .bool true, .slice a1 cols.length p1, .slice none 0 0]) [] (frmOld cols) rfl rfl rfl (RowsG.nil (w.heap.size + 1 + 1) w1 33 4 FrmR) rfl (frm_cells HC1.out) ?_ ?_ ?_ ?_; (focus (simp; done)); (focus (simp [maxLen]; done)); (focus omega); intro v2 w2 ho hk; have hb2 := bel_own (lo := w.heap.size + 1 + 1) (s := w.heap.size) HB1.out (RowsG.nil (w.heap.size + 1 + 1) w1 33 4 FrmR) (by omega) HB1.out.size hk; have j1 := bcell_own (lo := w.heap.size + 1 + 1) (RowsG.nil (w.heap.size + 1 + 1) w1 33 4 FrmR) hk (by omega); have j4 : w.heap.size < w.heap.size + 1 + 1 := (by omega); have j5 := hk.size; have HO2 := Lib.hid ho; have HB2 := Lib.hid hb2; clear ho hk hb2; clear tok2)
    | (at_builtin; have _t := tok3; refine wpList_app rfl _ _ 27 rfl 35 _ 4 32 Tryd.underlying27 infoCol rfl (by decide) w2.heap.size (.slice none 0 0) (.slice ca cols.length cc) [] cols rfl rfl (RowsO.nil ..) (HC.out _ HB2.out) (fun y _ cs h => colR_one default y cs h) (by have := HN.out; simp; omega) (by have := HN.out; simp [maxLen]; omega) (by simp) ?_; intro vx w3 ho hk hat; have hb := bel_nil hk; obtain ⟨a3, p3, rfl, _⟩ := ho.shape; have hbw : Below w.heap.size w w3 := HB2.out.trans (hb.mono HB2.out.size); have hc1 : ColsR (OldOr (w.heap.size + 1 + 1) v2) w3 (.slice a3 cols.length p3) cols := ho.rows (fun k h1 h2 h => h.elim (fun h => by (try (have h8 := HB2.out.size)); omega) (fun h => by first | exact (not_own_nil h).elim | (have h9 := (RowsO.lt HO2.out h).2; omega))); obtain ⟨k1, k2, k3⟩ := bcell hb; (try simp only [World.size_alloc] at k1 k2 k3); have k4 : w.heap.size < w3.heap.size := (by (try (have h8 := HB2.out.size)); omega); have k5 : w.heap.size + 1 < w3.heap.size := (by (try (have h8 := HB2.out.size)); omega); have HC3 := Lib.hid hc1; have HB3 := Lib.hid hbw; have HKw3 := Lib.hid hk; clear ho hk hat hb hbw hc1 tok3)
    | (at_builtin; refine wpList_appG (w := w3) frmStable rfl _ _ 25 rfl 33 _ 4 72 Tryd.underlying25 infoFrame rfl (by decide) (w.heap.size + 1 + 1) v2 w3.heap.size (#[.string ⟨#[78, 69, 87]⟩, .bool true, .slice a3 cols.length p3, .slice none 0 0]) [frmOld cols] (frmNew cols) rfl rfl rfl (RowsG.bel frmStable HO2.out (bel_nil HKw3.out)) rfl (frm_cells HC3.out) ?_ ?_ ?_ ?_; (focus (simp; done)); (focus (simp [maxLen]; done)); (focus omega); intro v4 w4 ho hk; have hb2 := bel_own (lo := w.heap.size + 1 + 1) (s := w.heap.size) HB3.out (RowsG.bel frmStable HO2.out (bel_nil HKw3.out)) (by omega) HB3.out.size hk; have j1 := bcell_own (lo := w.heap.size + 1 + 1) (RowsG.bel frmStable HO2.out (bel_nil HKw3.out)) hk (by omega); have j4 : w.heap.size < w.heap.size + 1 + 1 := (by omega); have j5 := hk.size; have HO4 := Lib.hid ho; have HB4 := Lib.hid hb2; clear ho hk hb2))
  go_ret
  exact ⟨_, rfl, RowsG.of frmStable HO4.out (by omega) fun k _ h => h.imp (fun h => by omega) id, HB4.out⟩
end

end Go.Proofs.YtiheioajnfggmaaDoor
