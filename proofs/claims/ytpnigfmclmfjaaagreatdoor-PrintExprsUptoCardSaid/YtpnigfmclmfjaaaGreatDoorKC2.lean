/- Types that fit: contracts of fits, all and operation. A frame more: contract of scope.inside. Tables found: contracts of scope.Source. Frames of a row trigger: contracts of the reference's Frames and of the statement's frames. The frames of the statements on names and types: the contract of frames. -/
import Derived.Test.YtpnigfmclmfjaaaGreatDoorKC1
import Derived.Test.YtpnigfmclmfjaaaGreatDoorKB
import Derived.Deep.RegionHeld3
import Derived.Deep.AppendLies
namespace Go.Proofs.YtpnigfmclmfjaaaGreatDoor
open Go.RowKit

def IntsR (M : Nat → Prop) (w : World) (v : Value) (l : List Int) : Prop := RowsR M w 1 IntR v l
theorem IntsR.keep {M : Nat → Prop} {w w' : World} {v : Value} {l : List Int} (h : IntsR M w v l) (k : Keep M w w') : IntsR M w' v l := RowsR.map h k fun _ _ _ h => h

theorem ret_bool {a b : Bool} (h : a = b) : Ending.returned (.bool a) = .returned (.bool b) := by rw [h]

def notFits (want t : Int) : Bool := !fitsB t want

theorem allB_idx (l : List Int) (want : Int) : (decide (0 ≤ idxI (l.findIdx? (notFits want)))) = !allB l want := by
  cases h : l.findIdx? (notFits want) with
  | none =>
    rw [List.findIdx?_eq_none_iff] at h
    have : allB l want = true := by
      simp only [allB, List.all_eq_true]
      intro x hx
      simpa [notFits] using h x hx
    simp [idxI, this]
  | some i =>
    rw [List.findIdx?_eq_some_iff_getElem] at h
    obtain ⟨hlt, hp, _⟩ := h
    have : allB l want = false := by
      simp only [allB, List.all_eq_false]
      exact ⟨l[i], List.getElem_mem hlt, by simpa [notFits] using hp⟩
    simp [idxI, this]

theorem fin2 {a b : Int × Int} (h : a = b) : Ending.returned (.tuple #[.int .i64 a.1, .int .i64 a.2]) = .returned (.tuple #[.int .i64 b.1, .int .i64 b.2]) := by rw [h]

def RetII (r : Int × Int) (w : World) (e : Ending) (w' : World) : Prop := e = .returned (.tuple #[.int .i64 r.1, .int .i64 r.2]) ∧ Below w.heap.size w w'

theorem pairB_step (l : List Int) (k : Nat) (x : Int) (h : l[k]? = some x) : ((List.range (k + 1)).all fun i => allB (l.take i) (l.getD i 0)) = (((List.range k).all fun i => allB (l.take i) (l.getD i 0)) && allB (l.take k) x) := by
  rw [List.range_succ, List.all_append]
  simp [h]

section
variable {M : Nat → Prop} (k o : Int) (no : Bool) (vk vi : Int) (vt t nm : ByteArray) (va vs v : Value) (l : List Int) (w : World)

end

end Go.Proofs.YtpnigfmclmfjaaaGreatDoor

namespace Go.Proofs.YtpnigfmclmfjaaaGreatDoor
open Go.RowKit

def NoM : Nat → Prop := fun _ => False
/-- Blocks that were there at w are not written. -/
def Later (w : World) (k : Nat) : Prop := w.heap.size ≤ k

theorem frmR_keep {M : Nat → Prop} (w w' : World) (x : Frm) (cs : List Value) (k : Keep M w w') (h : FrmR M w x cs) : FrmR M w' x cs := h.keep k
theorem frmR_one {M : Nat → Prop} (w : World) (x : Frm) (cs : List Value) (h : FrmR M w x cs) : ∀ u ∈ cs, u.oneCell' = true := by
  obtain ⟨vc, a, n, c, rfl, hc⟩ := h
  obtain ⟨a', c', rfl, _⟩ := hc.shape
  simp [Value.oneCell']

/-- A row that the call owns, with one thing more. -/
theorem rows_snoc {α : Type} {lo : Nat} {w : World} {e : TypeId} {size : Nat} {R : α → List Value → Prop} {v : Value} {xs : List α} {x : α} {cells : List Value} (css : List (List Value)) (h : w.ownsRow lo e size v (css.length + 1) (css.flatten ++ cells))
    (hl : css.length = xs.length) (hs : ∀ cs ∈ css, cs.length = size) (hc : cells.length = size) (hR : ∀ (i : Nat) (x : α) (cs : List Value), xs[i]? = some x → css[i]? = some cs → R x cs) (hx : R x cells) : RowsO lo w e size R v (xs ++ [x]) := by
  refine ⟨css ++ [cells], by simpa using h, by simp [hl], fun cs h => ?_, fun i y cs hi hcs => ?_⟩
  · rcases List.mem_append.1 h with h | h
    · exact hs cs h
    · rw [List.mem_singleton.1 h]; exact hc
  · by_cases hlt : i < xs.length
    · rw [List.getElem?_append_left hlt] at hi
      rw [List.getElem?_append_left (by omega)] at hcs
      exact hR i y cs hi hcs
    · rw [List.getElem?_append_right (by omega)] at hi
      rw [List.getElem?_append_right (by omega), hl] at hcs
      have : i - xs.length = 0 := by
        have := (List.getElem?_eq_some_iff.1 hi).1
        simp at this; omega
      rw [this] at hi hcs
      simp at hi hcs
      subst hi
      subst hcs
      exact hx

theorem own_lower {w : World} {base b' : Nat} {e : TypeId} {size : Nat} {v : Value} {n : Nat} {xs : List Value} (h : w.ownsRow base e size v n xs) (hb : b' ≤ base) : w.ownsRow b' e size v n xs := by
  obtain ⟨h1, h2⟩ := h
  refine ⟨h1, ?_⟩
  rcases h2 with h2 | ⟨g, cap, cur, hv, hg, r⟩
  · exact .inl h2
  · exact .inr ⟨g, cap, cur, hv, by omega, r⟩

theorem news_later {w w1 : World} {b : Nat} {cs : Array Value} {t : TypeId} {fr : Nat × Nat} {size : Nat} (h : w.heap[b]? = some (.cells cs t fr)) (hb : Below size w w1) (hlt : b < size) : ∀ j u, cs.toList[j]? = some u → w1.cell? ((⟨b, 0, none⟩ : Addr).add j) = some u := by
  intro j u hu
  have h' : w1.heap[b]? = some (.cells cs t fr) := (hb.block b hlt).trans h
  exact World.news_of_block h' j u hu

def InsidePost (fs : List Frm) (w : World) (e : Ending) (w' : World) : Prop := ∃ v, e = .returned v ∧ FrmsR NoM w' v fs ∧ Below w.heap.size w w'

theorem inside_fin {w w1 w2 : World} {lo : Nat} {v2 : Value} {fs : List Frm} {nm : ByteArray} {cols : List Col} {ca : Option Addr} {cc : Nat} (css : List (List Value)) (hc : ColsR (Later w) w (.slice ca cols.length cc) cols)
    (h : w2.ownsRow lo 201 4 v2 (css.length + 1) (css.flatten ++ [.string nm, .bool false, .slice ca cols.length cc, .slice none 0 0])) (hl : css.length = fs.length) (hs : ∀ cs ∈ css, cs.length = 4)
    (hR : ∀ (i : Nat) (x : Frm) (cs : List Value), fs[i]? = some x → css[i]? = some cs → FrmR (Later w) w1 x cs) (hb : Keep (Later w) w w2) (hb1 : Keep (Later w) w1 w2) :
    FrmsR NoM w2 v2 (fs ++ [⟨nm, false, cols⟩]) :=
  (rows_snoc (R := FrmR NoM w2) css h hl hs rfl (fun i x cs hi hcs => ((hR i x cs hi hcs).keep hb1).weak fun _ _ h => h.elim) ⟨_, _, _, _, rfl, (ColsR.keep hc hb).weak fun _ _ h => h.elim⟩).rows fun _ _ _ => id

end Go.Proofs.YtpnigfmclmfjaaaGreatDoor

namespace Go.Proofs.YtpnigfmclmfjaaaGreatDoor
open Go.RowKit

def tblIs (c : ByteArray) (x : Sch) : Bool := x.name.toList == c.toList
def findTbl (l : List Sch) (c : ByteArray) : Option Nat := l.findIdx? (tblIs c)

theorem sourceP_eq (l : List Sch) (c : ByteArray) : sourceP l c = match findTbl l c with | some i => l[i]? | none => none := by
  unfold sourceP findTbl
  rw [List.find?_eq_bind_findIdx?_getElem?]
  show (l.findIdx? (tblIs c)).bind (fun x => l[x]?) = match l.findIdx? (tblIs c) with | some i => l[i]? | none => none
  cases l.findIdx? (tblIs c) <;> rfl

def srcV (vc : Value) : Option Sch → Value
  | some s => .tuple #[.agg #[.string s.name, vc], .bool true]
  | none => .tuple #[.agg #[.string ⟨#[]⟩, .slice none 0 0], .bool false]

/-- The schema with columns of its own. -/
def SrcPost (r : Option Sch) (w : World) (e : Ending) (w' : World) : Prop := match r with
  | some s => ∃ vc, e = .returned (.tuple #[.agg #[.string s.name, vc], .bool true]) ∧ ColsR (Out w.heap.size w'.heap.size) w' vc s.cols ∧ Below w.heap.size w w'
  | none => e = .returned (.tuple #[.agg #[.string ⟨#[]⟩, .slice none 0 0], .bool false]) ∧ Below w.heap.size w w'

theorem colR_keep {M : Nat → Prop} (w w' : World) (x : Col) (cs : List Value) (_ : Keep M w w') (h : ColR x cs) : ColR x cs := h
theorem colR_one (_ : World) (x : Col) (cs : List Value) (h : ColR x cs) : ∀ u ∈ cs, u.oneCell' = true := by
  rw [h]
  simp [colCells, Value.oneCell']

end Go.Proofs.YtpnigfmclmfjaaaGreatDoor

namespace Go.Proofs.YtpnigfmclmfjaaaGreatDoor
open Go.RowKit

set_option maxRecDepth 100000 in
set_option maxHeartbeats 400000 in
theorem copy_nil (w : World) : Calls Tryz.prog 274 #[.slice none 0 0] w fun e w' => e = .returned (.slice none 0 0) ∧ w = w' := by
  go_enter Tryz.func274, Tryz.ntmps274
  go_wp2_with (at_builtin; refine wpList_append_own_none rfl _ _ 199 rfl 0 55 _ 3 Tryz.underlying199 rfl _ 0 [] rfl (World.ownsRow_nil ..) rfl ?_)
  go_ret
  exact ⟨rfl, rfl⟩

def frmOld (cols : List Col) : Frm := ⟨bs [79, 76, 68], true, cols⟩
def frmNew (cols : List Col) : Frm := ⟨bs [78, 69, 87], true, cols⟩

theorem frmStable : Stable FrmR where
  keep h k := FrmR.keep h k
  weak h hM := FrmR.weak hM h
  one h := frmR_one _ _ _ h

def FramesPost (fs : List Frm) (w : World) (e : Ending) (w' : World) : Prop := ∃ v, e = .returned v ∧ RowsG w.heap.size w' 201 4 FrmR v fs ∧ Below w.heap.size w w'

theorem frm_cells {M : Nat → Prop} {w : World} {nm : ByteArray} {s : Bool} {cols : List Col} {a : Option Addr} {n c : Nat} (h : ColsR M w (.slice a n c) cols) : FrmR M w ⟨nm, s, cols⟩ [.string nm, .bool s, .slice a n c, .slice none 0 0] := ⟨_, _, _, _, rfl, h⟩

theorem not_own_nil {k : Nat} (h : OwnB (.slice none 0 0) k) : False := by cases h

theorem bel_own {α : Type} {lo s : Nat} {w0 w w' wx : World} {e : TypeId} {size : Nat} {R : α → List Value → Prop} {v : Value} {xs : List α} (h : Below s w0 w) (ho : RowsO lo wx e size R v xs) (hs : s ≤ lo) (hsz : s ≤ w.heap.size) (k : Keep (OwnB v) w w') : Below s w0 w' :=
  h.trans (k.toBelow hsz fun b hb hx => by have := (ho.lt hx).1; omega)

theorem bcell_own {α : Type} {lo : Nat} {w w' wx : World} {e : TypeId} {size : Nat} {R : α → List Value → Prop} {v : Value} {xs : List α} (ho : RowsO lo wx e size R v xs) (k : Keep (OwnB v) w w') (hs : lo ≤ w.heap.size) : ∀ b o, b < lo → w'.cell? ⟨b, o, none⟩ = w.cell? ⟨b, o, none⟩ :=
  fun b o h => k.cell (by omega) fun hx => by have := (ho.lt hx).1; omega

section
variable (n1 n2 : ByteArray) (bf : Bool) (o1 o2 o3 o4 o5 o6 : Option Addr) (l1 l2 l3 l4 l5 l6 c1 c2 c3 c4 c5 c6 : Nat) (s : ByteArray) (vc : Value) (cols : List Col) (w : World) (hc : ColsR NoM w vc cols) (hN : cols.length ≤ 1000000)

include hc hN in
set_option maxRecDepth 100000 in
set_option maxHeartbeats 2000000 in
theorem frames_1 : Calls Tryz.prog 229 #[.agg #[.string n1, .string n2, .bool bf, .int .i64 1, .slice o1 l1 c1, .bool true, .slice o2 l2 c2, .slice o3 l3 c3, .slice o4 l4 c4, .slice o5 l5 c5, .slice o6 l6 c6], .agg #[.string s, vc], .slice none 0 0, .slice none 0 0] w (FramesPost [frmNew cols] w) := by
  obtain ⟨ca, cc, rfl, _⟩ := hc.shape
  have tok1 : Hid True := trivial
  have HC := Lib.hid (fun (w' : World) (hb : Below w.heap.size w w') => hc.keep (.bel hb))
  have HN := Lib.hid hN
  clear hc hN
  go_enter Tryz.func229, Tryz.ntmps229
  go_wp2_with (first
    | (at_builtin; have _t := tok1; refine wpList_app rfl _ _ 22 rfl 186 _ 4 32 Tryz.underlying22 infoCol rfl (by decide) (w.heap.size + 1 + 1) (.slice none 0 0) (.slice ca cols.length cc) [] cols rfl rfl (RowsO.nil ..) (HC.out _ (by go_grown)) (fun y _ cs h => colR_one default y cs h) (by have := HN.out; simp; omega) (by have := HN.out; simp [maxLen]; omega) (by simp) ?_; intro vx w1 ho hk hat; have hb := bel_nil hk; obtain ⟨a1, p1, rfl, _⟩ := ho.shape; have hbw : Below w.heap.size w w1 := Below.trans (by go_grown) (hb.mono (by simp <;> omega)); have hc1 : ColsR (OldOr (w.heap.size + 1 + 1) (.slice none 0 0)) w1 (.slice a1 cols.length p1) cols := ho.rows (fun k h1 h2 h => h.elim (fun h => by (try (have h8 := HB2.out.size)); omega) (fun h => by first | exact (not_own_nil h).elim | (have h9 := (RowsO.lt HO2.out h).2; omega))); obtain ⟨k1, k2, k3⟩ := bcell hb; (try simp only [World.size_alloc] at k1 k2 k3); have k4 : w.heap.size < w1.heap.size := (by (try (have h8 := HB2.out.size)); omega); have k5 : w.heap.size + 1 < w1.heap.size := (by (try (have h8 := HB2.out.size)); omega); have HC1 := Lib.hid hc1; have HB1 := Lib.hid hbw; have HKw1 := Lib.hid hk; clear ho hk hat hb hbw hc1 tok1)
    | (go_at_call 274; refine (copy_nil _).mono ?_; rintro e w9 ⟨rfl, rfl⟩)
    | (at_builtin; refine wpList_appG (w := w1) frmStable rfl _ _ 61 rfl 201 _ 4 72 Tryz.underlying61 infoFrame rfl (by decide) (w.heap.size + 1 + 1) (.slice none 0 0) w1.heap.size (#[.string ⟨#[78, 69, 87]⟩, .bool true, .slice a1 cols.length p1, .slice none 0 0]) [] (frmNew cols) rfl rfl rfl (RowsG.nil (w.heap.size + 1 + 1) w1 201 4 FrmR) rfl (frm_cells HC1.out) ?_ ?_ ?_ ?_; (focus (simp; done)); (focus (simp [maxLen]; done)); (focus omega); intro v2 w2 ho hk; have hb2 := bel_own (lo := w.heap.size + 1 + 1) (s := w.heap.size) HB1.out (RowsG.nil (w.heap.size + 1 + 1) w1 201 4 FrmR) (by omega) HB1.out.size hk; have j1 := bcell_own (lo := w.heap.size + 1 + 1) (RowsG.nil (w.heap.size + 1 + 1) w1 201 4 FrmR) hk (by omega); have j4 : w.heap.size < w.heap.size + 1 + 1 := (by omega); have j5 := hk.size; have HO2 := Lib.hid ho; have HB2 := Lib.hid hb2; clear ho hk hb2))
  go_ret
  exact ⟨_, rfl, RowsG.of frmStable HO2.out (by omega) fun k _ h => h.imp (fun h => by omega) id, HB2.out⟩

include hc hN in
set_option maxRecDepth 100000 in
set_option maxHeartbeats 2000000 in
theorem frames_3 : Calls Tryz.prog 229 #[.agg #[.string n1, .string n2, .bool bf, .int .i64 3, .slice o1 l1 c1, .bool true, .slice o2 l2 c2, .slice o3 l3 c3, .slice o4 l4 c4, .slice o5 l5 c5, .slice o6 l6 c6], .agg #[.string s, vc], .slice none 0 0, .slice none 0 0] w (FramesPost [frmOld cols] w) := by
  obtain ⟨ca, cc, rfl, _⟩ := hc.shape
  have tok1 : Hid True := trivial
  have HC := Lib.hid (fun (w' : World) (hb : Below w.heap.size w w') => hc.keep (.bel hb))
  have HN := Lib.hid hN
  clear hc hN
  go_enter Tryz.func229, Tryz.ntmps229
  go_wp2_with (first
    | (at_builtin; have _t := tok1; refine wpList_app rfl _ _ 22 rfl 186 _ 4 32 Tryz.underlying22 infoCol rfl (by decide) (w.heap.size + 1 + 1) (.slice none 0 0) (.slice ca cols.length cc) [] cols rfl rfl (RowsO.nil ..) (HC.out _ (by go_grown)) (fun y _ cs h => colR_one default y cs h) (by have := HN.out; simp; omega) (by have := HN.out; simp [maxLen]; omega) (by simp) ?_; intro vx w1 ho hk hat; have hb := bel_nil hk; obtain ⟨a1, p1, rfl, _⟩ := ho.shape; have hbw : Below w.heap.size w w1 := Below.trans (by go_grown) (hb.mono (by simp <;> omega)); have hc1 : ColsR (OldOr (w.heap.size + 1 + 1) (.slice none 0 0)) w1 (.slice a1 cols.length p1) cols := ho.rows (fun k h1 h2 h => h.elim (fun h => by (try (have h8 := HB2.out.size)); omega) (fun h => by first | exact (not_own_nil h).elim | (have h9 := (RowsO.lt HO2.out h).2; omega))); obtain ⟨k1, k2, k3⟩ := bcell hb; (try simp only [World.size_alloc] at k1 k2 k3); have k4 : w.heap.size < w1.heap.size := (by (try (have h8 := HB2.out.size)); omega); have k5 : w.heap.size + 1 < w1.heap.size := (by (try (have h8 := HB2.out.size)); omega); have HC1 := Lib.hid hc1; have HB1 := Lib.hid hbw; have HKw1 := Lib.hid hk; clear ho hk hat hb hbw hc1 tok1)
    | (go_at_call 274; refine (copy_nil _).mono ?_; rintro e w9 ⟨rfl, rfl⟩)
    | (at_builtin; refine wpList_appG (w := w1) frmStable rfl _ _ 61 rfl 201 _ 4 72 Tryz.underlying61 infoFrame rfl (by decide) (w.heap.size + 1 + 1) (.slice none 0 0) w1.heap.size (#[.string ⟨#[79, 76, 68]⟩, .bool true, .slice a1 cols.length p1, .slice none 0 0]) [] (frmOld cols) rfl rfl rfl (RowsG.nil (w.heap.size + 1 + 1) w1 201 4 FrmR) rfl (frm_cells HC1.out) ?_ ?_ ?_ ?_; (focus (simp; done)); (focus (simp [maxLen]; done)); (focus omega); intro v2 w2 ho hk; have hb2 := bel_own (lo := w.heap.size + 1 + 1) (s := w.heap.size) HB1.out (RowsG.nil (w.heap.size + 1 + 1) w1 201 4 FrmR) (by omega) HB1.out.size hk; have j1 := bcell_own (lo := w.heap.size + 1 + 1) (RowsG.nil (w.heap.size + 1 + 1) w1 201 4 FrmR) hk (by omega); have j4 : w.heap.size < w.heap.size + 1 + 1 := (by omega); have j5 := hk.size; have HO2 := Lib.hid ho; have HB2 := Lib.hid hb2; clear ho hk hb2))
  go_ret
  exact ⟨_, rfl, RowsG.of frmStable HO2.out (by omega) fun k _ h => h.imp (fun h => by omega) id, HB2.out⟩

include hc hN in
set_option maxRecDepth 100000 in
set_option maxHeartbeats 2000000 in
theorem frames_2 : Calls Tryz.prog 229 #[.agg #[.string n1, .string n2, .bool bf, .int .i64 2, .slice o1 l1 c1, .bool true, .slice o2 l2 c2, .slice o3 l3 c3, .slice o4 l4 c4, .slice o5 l5 c5, .slice o6 l6 c6], .agg #[.string s, vc], .slice none 0 0, .slice none 0 0] w (FramesPost [frmOld cols, frmNew cols] w) := by
  obtain ⟨ca, cc, rfl, _⟩ := hc.shape
  have tok1 : Hid True := trivial
  have tok2 : Hid True := trivial
  have tok3 : Hid True := trivial
  have HC := Lib.hid (fun (w' : World) (hb : Below w.heap.size w w') => hc.keep (.bel hb))
  have HN := Lib.hid hN
  clear hc hN
  go_enter Tryz.func229, Tryz.ntmps229
  go_wp2_with (first
    | (at_builtin; have _t := tok1; refine wpList_app rfl _ _ 22 rfl 186 _ 4 32 Tryz.underlying22 infoCol rfl (by decide) (w.heap.size + 1 + 1) (.slice none 0 0) (.slice ca cols.length cc) [] cols rfl rfl (RowsO.nil ..) (HC.out _ (by go_grown)) (fun y _ cs h => colR_one default y cs h) (by have := HN.out; simp; omega) (by have := HN.out; simp [maxLen]; omega) (by simp) ?_; intro vx w1 ho hk hat; have hb := bel_nil hk; obtain ⟨a1, p1, rfl, _⟩ := ho.shape; have hbw : Below w.heap.size w w1 := Below.trans (by go_grown) (hb.mono (by simp <;> omega)); have hc1 : ColsR (OldOr (w.heap.size + 1 + 1) (.slice none 0 0)) w1 (.slice a1 cols.length p1) cols := ho.rows (fun k h1 h2 h => h.elim (fun h => by (try (have h8 := HB2.out.size)); omega) (fun h => by first | exact (not_own_nil h).elim | (have h9 := (RowsO.lt HO2.out h).2; omega))); obtain ⟨k1, k2, k3⟩ := bcell hb; (try simp only [World.size_alloc] at k1 k2 k3); have k4 : w.heap.size < w1.heap.size := (by (try (have h8 := HB2.out.size)); omega); have k5 : w.heap.size + 1 < w1.heap.size := (by (try (have h8 := HB2.out.size)); omega); have HC1 := Lib.hid hc1; have HB1 := Lib.hid hbw; have HKw1 := Lib.hid hk; clear ho hk hat hb hbw hc1 tok1)
    | (go_at_call 274; refine (copy_nil _).mono ?_; rintro e w9 ⟨rfl, rfl⟩)
    | (at_builtin; have _t := tok2; refine wpList_appG (w := w1) frmStable rfl _ _ 61 rfl 201 _ 4 72 Tryz.underlying61 infoFrame rfl (by decide) (w.heap.size + 1 + 1) (.slice none 0 0) w1.heap.size (#[.string ⟨#[79, 76, 68]⟩, .bool true, .slice a1 cols.length p1, .slice none 0 0]) [] (frmOld cols) rfl rfl rfl (RowsG.nil (w.heap.size + 1 + 1) w1 201 4 FrmR) rfl (frm_cells HC1.out) ?_ ?_ ?_ ?_; (focus (simp; done)); (focus (simp [maxLen]; done)); (focus omega); intro v2 w2 ho hk; have hb2 := bel_own (lo := w.heap.size + 1 + 1) (s := w.heap.size) HB1.out (RowsG.nil (w.heap.size + 1 + 1) w1 201 4 FrmR) (by omega) HB1.out.size hk; have j1 := bcell_own (lo := w.heap.size + 1 + 1) (RowsG.nil (w.heap.size + 1 + 1) w1 201 4 FrmR) hk (by omega); have j4 : w.heap.size < w.heap.size + 1 + 1 := (by omega); have j5 := hk.size; have HO2 := Lib.hid ho; have HB2 := Lib.hid hb2; clear ho hk hb2; clear tok2)
    | (at_builtin; have _t := tok3; refine wpList_app rfl _ _ 22 rfl 186 _ 4 32 Tryz.underlying22 infoCol rfl (by decide) w2.heap.size (.slice none 0 0) (.slice ca cols.length cc) [] cols rfl rfl (RowsO.nil ..) (HC.out _ HB2.out) (fun y _ cs h => colR_one default y cs h) (by have := HN.out; simp; omega) (by have := HN.out; simp [maxLen]; omega) (by simp) ?_; intro vx w3 ho hk hat; have hb := bel_nil hk; obtain ⟨a3, p3, rfl, _⟩ := ho.shape; have hbw : Below w.heap.size w w3 := HB2.out.trans (hb.mono HB2.out.size); have hc1 : ColsR (OldOr (w.heap.size + 1 + 1) v2) w3 (.slice a3 cols.length p3) cols := ho.rows (fun k h1 h2 h => h.elim (fun h => by (try (have h8 := HB2.out.size)); omega) (fun h => by first | exact (not_own_nil h).elim | (have h9 := (RowsO.lt HO2.out h).2; omega))); obtain ⟨k1, k2, k3⟩ := bcell hb; (try simp only [World.size_alloc] at k1 k2 k3); have k4 : w.heap.size < w3.heap.size := (by (try (have h8 := HB2.out.size)); omega); have k5 : w.heap.size + 1 < w3.heap.size := (by (try (have h8 := HB2.out.size)); omega); have HC3 := Lib.hid hc1; have HB3 := Lib.hid hbw; have HKw3 := Lib.hid hk; clear ho hk hat hb hbw hc1 tok3)
    | (at_builtin; refine wpList_appG (w := w3) frmStable rfl _ _ 61 rfl 201 _ 4 72 Tryz.underlying61 infoFrame rfl (by decide) (w.heap.size + 1 + 1) v2 w3.heap.size (#[.string ⟨#[78, 69, 87]⟩, .bool true, .slice a3 cols.length p3, .slice none 0 0]) [frmOld cols] (frmNew cols) rfl rfl rfl (RowsG.bel frmStable HO2.out (bel_nil HKw3.out)) rfl (frm_cells HC3.out) ?_ ?_ ?_ ?_; (focus (simp; done)); (focus (simp [maxLen]; done)); (focus omega); intro v4 w4 ho hk; have hb2 := bel_own (lo := w.heap.size + 1 + 1) (s := w.heap.size) HB3.out (RowsG.bel frmStable HO2.out (bel_nil HKw3.out)) (by omega) HB3.out.size hk; have j1 := bcell_own (lo := w.heap.size + 1 + 1) (RowsG.bel frmStable HO2.out (bel_nil HKw3.out)) hk (by omega); have j4 : w.heap.size < w.heap.size + 1 + 1 := (by omega); have j5 := hk.size; have HO4 := Lib.hid ho; have HB4 := Lib.hid hb2; clear ho hk hb2))
  go_ret
  exact ⟨_, rfl, RowsG.of frmStable HO4.out (by omega) fun k _ h => h.imp (fun h => by omega) id, HB4.out⟩
end

end Go.Proofs.YtpnigfmclmfjaaaGreatDoor

namespace Go.Proofs.YtpnigfmclmfjaaaGreatDoor
open Go.RowKit

def baseL (r : Int) (cols : List Col) : List Frm := if r = 0 then [frmNew cols] else if r = 1 then [frmOld cols, frmNew cols] else [frmOld cols]
def framesL (r : Int) (b1 b2 : Bool) : List Frm := (if b2 then [frmOf schT] else []) ++ (baseL r schT.cols ++ (if b1 then [frmOf schU] else []))

theorem baseL_length (r : Int) (cols : List Col) : (baseL r cols).length ≤ 2 := by
  unfold baseL
  split
  · simp
  · split <;> simp

theorem framesL_length (r : Int) (b1 b2 : Bool) : (framesL r b1 b2).length ≤ 4 := by
  have := baseL_length r schT.cols
  unfold framesL
  cases b1 <;> cases b2 <;> simp <;> omega

theorem frames_ev (r : Int) (h0 : 0 ≤ r) (h1 : r < 3) (n1 n2 : ByteArray) (bf : Bool) (o1 o2 o3 o4 o5 o6 : Option Addr) (l1 l2 l3 l4 l5 l6 c1 c2 c3 c4 c5 c6 : Nat) (s : ByteArray) (vc : Value) (cols : List Col) (w : World) (hc : ColsR NoM w vc cols) (hN : cols.length ≤ 1000000) :
    Calls Tryz.prog 229 #[.agg #[.string n1, .string n2, .bool bf, .int .i64 (1 + r), .slice o1 l1 c1, .bool true, .slice o2 l2 c2, .slice o3 l3 c3, .slice o4 l4 c4, .slice o5 l5 c5, .slice o6 l6 c6], .agg #[.string s, vc], .slice none 0 0, .slice none 0 0] w (FramesPost (baseL r cols) w) := by
  have h : r = 0 ∨ r = 1 ∨ r = 2 := by omega
  rcases h with rfl | rfl | rfl
  · exact frames_1 _ _ _ _ _ _ _ _ _ _ _ _ _ _ _ _ _ _ _ _ _ _ _ _ _ hc hN
  · exact frames_2 _ _ _ _ _ _ _ _ _ _ _ _ _ _ _ _ _ _ _ _ _ _ _ _ _ hc hN
  · exact frames_3 _ _ _ _ _ _ _ _ _ _ _ _ _ _ _ _ _ _ _ _ _ _ _ _ _ hc hN

/-- A one-element slice that has just been built is the call's own. -/
theorem rowsO_one {α : Type} {lo : Nat} {w : World} {arr : Array Value} {e : TypeId} {size g : Nat} {R : α → List Value → Prop} (x : α) (hg : g = w.heap.size) (hlo : lo ≤ w.heap.size) (hs : arr.toList.length = size) (hR : R x arr.toList) :
    RowsO lo (w.alloc (.cells arr e)) e size R (.slice (some ⟨g, 0, none⟩) 1 1) [x] := by
  subst hg
  refine ⟨[arr.toList], ⟨by simpa using hs, .inr ⟨w.heap.size, 1, arr, rfl, hlo, heap_alloc_new w _, Nat.le_refl _, by unfold maxLen; omega, by simpa using hs, ?_⟩⟩, rfl, by simpa using hs, fun i y cs hi hc => ?_⟩
  · have : (1 : Nat) * size = arr.toList.length := by rw [hs]; omega
    simp only [List.length_singleton, this, List.flatten_cons, List.flatten_nil, List.append_nil, List.take_length]
  · match i with
    | 0 => simp at hi hc; subst hi; subst hc; exact hR
    | i + 1 => simp at hi

def FramesQ (w : World) (v : Value) (w' : World) : Prop := ∃ (r : Int) (b1 b2 : Bool), 0 ≤ r ∧ r < 3 ∧ FrmsR (Out w.heap.size w'.heap.size) w' v (framesL r b1 b2)

theorem frames_end {lo T : Nat} {w w' : World} {v : Value} {r : Int} {b1 b2 : Bool} (h0 : 0 ≤ r) (h1 : r < 3) (h : RowsG lo w' 201 4 FrmR v (framesL r b1 b2)) (hlo : lo = w.heap.size) (ht : TapeOk T w') (hk : Keep (At T) w w') : Gives T w (FramesQ w) (.returned v) w' := by
  subst hlo
  refine ⟨v, rfl, ⟨r, b1, b2, h0, h1, ?_⟩, ht, hk⟩
  have := h.rows frmStable
  refine RowsR.weak this (fun k hk h => ?_) fun x _ cs hc => frmStable.weak hc fun k hk h => ?_
  all_goals
    unfold Out at h
    unfold Old
    omega

theorem frames_end2 {T : Nat} {w w8 w9 : World} {v : Value} {r : Int} {b1 : Bool} (h0 : 0 ≤ r) (h1 : r < 3) (h : RowsO w8.heap.size w9 201 4 (FrmR (Old w.heap.size) w8) v ([frmOf schT] ++ (baseL r schT.cols ++ (if b1 then [frmOf schU] else []))))
    (hb : Below w8.heap.size w8 w9) (ht : TapeOk T w8) (hk : Keep (At T) w w8) : Gives T w (FramesQ w) (.returned v) w9 := by
  refine ⟨v, rfl, ⟨r, b1, true, h0, h1, ?_⟩, ht.bel hb, hk.below hb⟩
  have h' := h.imp (R' := FrmR (Out w.heap.size w9.heap.size) w9) fun x _ cs hc => frmStable.weak (frmStable.keep hc (.bel hb)) fun k hk h => by unfold Out at h; unfold Old; omega
  exact h'.rows fun k h1 h2 h => by have := hk.size; unfold Out at h; omega

theorem rowsR_later {α : Type} {M : Nat → Prop} {w w' : World} {size : Nat} {R : α → List Value → Prop} {v : Value} {xs : List α} (h : RowsR M w size R v xs) (k : Keep M w w') : RowsR M w' size R v xs := RowsR.map h k fun _ _ _ h => h

/-- What an old list avoids lies below the world where it was. -/
theorem RowsG.lt_old {α : Type} {lo : Nat} {w w' : World} {e : TypeId} {size : Nat} {R : (Nat → Prop) → World → α → List Value → Prop} {v : Value} {xs : List α} (_h : RowsG lo w' e size R v xs) {k : Nat} (hk : OldOr lo v k) (h : RowsG lo w e size R v xs) : k < w.heap.size ∨ k < lo := by
  rcases hk with hk | hk
  · exact .inr hk
  · exact .inl (RowsO.lt h hk).2

theorem TapeOk.own {T : Nat} {w w' wx : World} {α : Type} {lo : Nat} {e : TypeId} {size : Nat} {R : (Nat → Prop) → World → α → List Value → Prop} {v : Value} {xs : List α} (h : TapeOk T w) (ho : RowsG lo wx e size R v xs) (hT : T < lo) (hk : Keep (OwnB v) w w') : TapeOk T w' :=
  h.keep hk fun k hk hx => by have := (RowsO.lt ho hx).1; omega

theorem Keep.own {T : Nat} {w0 w w' wx : World} {α : Type} {e : TypeId} {size : Nat} {R : (Nat → Prop) → World → α → List Value → Prop} {v : Value} {xs : List α} {lo : Nat} (h : Keep (At T) w0 w) (ho : RowsG lo wx e size R v xs) (hlo : w0.heap.size ≤ lo) (hk : Keep (OwnB v) w w') : Keep (At T) w0 w' :=
  h.then hk fun k hk hx => by have := (RowsO.lt ho hx).1; omega

theorem run_cols (s : ByteArray) (a : Option Addr) (n c : Nat) (w : World) : Sem.run Tryz.prog (Instr.field 24 (.agg #[.string s, .slice a n c]) 1) w = .ok (.slice a n c) w := by kernel_rfl

end Go.Proofs.YtpnigfmclmfjaaaGreatDoor
