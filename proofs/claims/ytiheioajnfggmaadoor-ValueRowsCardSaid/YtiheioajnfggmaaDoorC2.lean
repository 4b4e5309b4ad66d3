/- The schemas of the tables log, t and u, and the names: contracts of Name, Schemas, Schema. -/
import Derived.Test.YtiheioajnfggmaaDoorC1
namespace Go.Proofs.YtiheioajnfggmaaDoor
open Go.RowKit

def bs (l : List UInt8) : ByteArray := ⟨l.toArray⟩

def nameList : List (List UInt8) := [[105, 100], [110], [109], [98], [115], [120], [97, 49, 95], [97, 98, 99, 100, 101, 102, 103, 104, 105, 106, 107, 108]]
def nameAt (i : Nat) : ByteArray := bs (nameList.getD i [])

/-- The variable 'names' holds its eight names; it lies below the tape. -/
def NamesOk (T : Nat) (w : World) : Prop := 0 < T ∧ ∀ i : Nat, i < 8 → w.cell? ⟨0, i, none⟩ = some (.string (nameAt i))

theorem NamesOk.keep {M : Nat → Prop} {T : Nat} {w w' : World} (h : NamesOk T w) (k : Keep M w w') (hM : ∀ k, k < T → ¬ M k) : NamesOk T w' := by
  refine ⟨h.1, fun i hi => ?_⟩
  have := h.2 i hi
  rw [k.cell (World.block_lt_of_cell? _ _ this) (hM _ h.1)]
  exact this

theorem NamesOk.at {T : Nat} {w w' : World} (h : NamesOk T w) (k : Keep (At T) w w') : NamesOk T w' := h.keep k fun k hk h => by unfold At at h; omega

def colOf (n : List UInt8) (t : Int) (nn k : Bool) : Col := ⟨bs n, t, nn, k⟩
def schLog : Sch := ⟨bs [108, 111, 103], [colOf [110] 1 false false, colOf [115] 3 false false]⟩
def schT : Sch := ⟨bs [116], [colOf [105, 100] 1 true true, colOf [110] 1 false false, colOf [98] 2 false false, colOf [115] 3 false false]⟩
def schU : Sch := ⟨bs [117], [colOf [105, 100] 1 true true, colOf [110] 1 true false, colOf [109] 1 false false]⟩
def schs3 : List Sch := [schLog, schT, schU]

def SomeName (v : Value) (_ : World) : Prop := ∃ i : Nat, i < 8 ∧ v = .string (nameAt i)

set_option maxHeartbeats 400000 in
theorem name_any (T : Nat) (w : World) (ht : TapeOk T w) (hn : NamesOk T w) :
    Calls Tryd.prog 26 #[.pointer (some ⟨T, 0, none⟩)] w (Gives T w SomeName) := by
  have H := Lib.hid ht
  have HN := Lib.hid hn
  clear ht hn
  go_enter Tryd.func26, Tryd.ntmps26
  go_wp2_with fail
  refine (next_any T 8 w (by omega) (by omega) H.out).mono ?_
  rintro e w' ⟨v, rfl, ⟨r, rfl, hr0, hr1⟩, ht, hk⟩
  obtain ⟨i, rfl⟩ := Int.eq_ofNat_of_zero_le hr0
  have hi : i < 8 := by omega
  have hc := (HN.out.at hk).2 i hi
  have H2 := Lib.hid ht
  have H3 := Lib.hid hk
  clear ht hk
  go_wp2_with fail
  go_ret
  exact ⟨_, rfl, ⟨i, hi, rfl⟩, H2.out, H3.out⟩

/-- Fresh: in blocks that were not there before. -/
def SchsPost (w : World) (e : Ending) (w' : World) : Prop := ∃ v, e = .returned v ∧ SchsR (Out w.heap.size w'.heap.size) w' v schs3 ∧ Below w.heap.size w w'

set_option maxHeartbeats 1000000 in
theorem schemas_any (w : World) : Calls Tryd.prog 24 #[] w (SchsPost w) := by
  go_enter Tryd.func24, Tryd.ntmps24
  go_wp2
  go_ret
  refine ⟨_, rfl, ?_, by go_grown⟩
  simp only [World.size_alloc]
  have hM : ∀ j, j < 4 → ¬ Out w.heap.size (w.heap.size + 1 + 1 + 1 + 1) (w.heap.size + j) := fun j hj => by unfold Out; omega
  generalize Out w.heap.size (w.heap.size + 1 + 1 + 1 + 1) = M at hM ⊢
  show SchsR M _ (.slice (some ⟨w.heap.size + 1 + 1 + 1, 0, none⟩) 3 3) schs3
  refine RowsR.new [[.string schLog.name, .slice (some ⟨w.heap.size, 0, none⟩) 2 2], [.string schT.name, .slice (some ⟨w.heap.size + 1, 0, none⟩) 4 4], [.string schU.name, .slice (some ⟨w.heap.size + 1 + 1, 0, none⟩) 3 3]]
    (by simp) (by simp only [World.size_alloc]; exact hM 3 (by omega)) rfl (by simp) rfl (by decide) (by unfold maxLen; omega) rfl ?_
  intro i x cs hi hc
  have hi3 : i < 3 := (List.getElem?_eq_some_iff.1 hi).1
  match i, hi3 with
  | 0, _ =>
    obtain rfl : schLog = x := by simpa [schs3] using hi
    obtain rfl : [_, _] = cs := by simpa using hc
    refine ⟨_, rfl, ColsR.keep ?_ ((((Keep.refl M (w.alloc (.cells _ _))).alloc _).alloc _).alloc _)⟩
    exact cols_new schLog.cols rfl (hM 0 (by omega)) rfl rfl (by decide) (by unfold maxLen; omega)
  | 1, _ =>
    obtain rfl : schT = x := by simpa [schs3] using hi
    obtain rfl : [_, _] = cs := by simpa using hc
    refine ⟨_, rfl, ColsR.keep ?_ (((Keep.refl M ((w.alloc _).alloc (.cells _ _))).alloc _).alloc _)⟩
    exact cols_new schT.cols (by simp) (by simp only [World.size_alloc]; exact hM 1 (by omega)) rfl rfl (by decide) (by unfold maxLen; omega)
  | 2, _ =>
    obtain rfl : schU = x := by simpa [schs3] using hi
    obtain rfl : [_, _] = cs := by simpa using hc
    refine ⟨_, rfl, ColsR.keep ?_ ((Keep.refl M (((w.alloc _).alloc _).alloc (.cells _ _))).alloc _)⟩
    exact cols_new schU.cols (by simp) (by simp only [World.size_alloc]; exact hM 2 (by omega)) rfl rfl (by decide) (by unfold maxLen; omega)

def SchPost (s : Sch) (w : World) (e : Ending) (w' : World) : Prop := ∃ vc, e = .returned (.agg #[.string s.name, vc]) ∧ ColsR (Out w.heap.size w'.heap.size) w' vc s.cols ∧ Below w.heap.size w w'

theorem schs3_open {M : Nat → Prop} {w : World} {v : Value} (h : SchsR M w v schs3) : ∃ b o cap vc0 vc1 vc2, v = .slice (some ⟨b, o, none⟩) 3 cap ∧ b < w.heap.size ∧ ColsR M w vc0 schLog.cols ∧ ColsR M w vc1 schT.cols ∧ ColsR M w vc2 schU.cols ∧
    w.cell? ⟨b, o, none⟩ = some (.string ⟨#[108, 111, 103]⟩) ∧ w.cell? ⟨b, o + 1, none⟩ = some vc0 ∧ w.cell? ⟨b, o + 2, none⟩ = some (.string ⟨#[116]⟩) ∧ w.cell? ⟨b, o + 2 + 1, none⟩ = some vc1 ∧
    w.cell? ⟨b, o + 4, none⟩ = some (.string ⟨#[117]⟩) ∧ w.cell? ⟨b, o + 4 + 1, none⟩ = some vc2 := by
  rcases h.open with ⟨_, h⟩ | ⟨b, o, cap, rfl, hbT, hbs, hl, hm, hx⟩
  · simp [schs3] at h
  · obtain ⟨cs0, ⟨vc0, rfl, hc0⟩, _, g0⟩ := hx 0 schLog rfl
    obtain ⟨cs1, ⟨vc1, rfl, hc1⟩, _, g1⟩ := hx 1 schT rfl
    obtain ⟨cs2, ⟨vc2, rfl, hc2⟩, _, g2⟩ := hx 2 schU rfl
    rw [Nat.zero_mul, Nat.add_zero] at g0
    exact ⟨b, o, cap, vc0, vc1, vc2, rfl, hbs, hc0, hc1, hc2, g0.c2.1, g0.c2.2, g1.c2.1, g1.c2.2, g2.c2.1, g2.c2.2⟩

set_option maxHeartbeats 1000000 in
theorem schema_t (w : World) : Calls Tryd.prog 18 #[.string ⟨#[116]⟩] w (SchPost schT w) := by
  go_enter Tryd.func18, Tryd.ntmps18
  go_wp2_with fail
  refine (schemas_any _).mono ?_
  rintro e w1 ⟨v, rfl, hs, hb⟩
  obtain ⟨b, o, cap, vc0, vc1, vc2, rfl, hbs, hc0, hc1, hc2, a0, a1, a2, a3, a4, a5⟩ := schs3_open hs
  obtain ⟨x0, y0, rfl, _⟩ := hc0.shape
  obtain ⟨x1, y1, rfl, _⟩ := hc1.shape
  obtain ⟨x2, y2, rfl, _⟩ := hc2.shape
  obtain ⟨k1, k2, k3⟩ := bcell hb
  simp only [World.size_alloc] at k1 k2 k3
  have k4 : w.heap.size < w1.heap.size := by omega
  have HB := Lib.hid hb
  have H1 := Lib.hid hc1
  clear hs hb hc0 hc1 hc2
  go_wp2_with fail
  go_rounds 3
  refine bodyPost_ret (v := .agg #[.string ⟨#[116]⟩, .slice x1 schT.cols.length y1]) (by simp [results, Tryd.results18, go_sem, k1, k4]) rfl ⟨_, rfl, ?_, ?_⟩
  · refine ColsR.weak (M := Out (w.heap.size + 1) w1.heap.size) ?_ (ColsR.keep (w := w1) (by simpa using H1.out) ?_)
    · intro k hk h; unfold Out at h ⊢; simp at h hk; omega
    · refine Keep.alloc (Keep.alloc (Keep.setCell (Keep.setCell (Keep.refl _ _) ?_ _) ?_ _) _) _ <;> (intro _; unfold Out; simp)
  · have := HB.out
    have h0 : Below w.heap.size w w1 := ((Below.refl _ w).alloc (Nat.le_refl _) _).trans (this.mono (by simp))
    clear k1 k2
    go_grown

set_option maxHeartbeats 1000000 in
theorem schema_u (w : World) : Calls Tryd.prog 18 #[.string ⟨#[117]⟩] w (SchPost schU w) := by
  go_enter Tryd.func18, Tryd.ntmps18
  go_wp2_with fail
  refine (schemas_any _).mono ?_
  rintro e w1 ⟨v, rfl, hs, hb⟩
  obtain ⟨b, o, cap, vc0, vc1, vc2, rfl, hbs, hc0, hc1, hc2, a0, a1, a2, a3, a4, a5⟩ := schs3_open hs
  obtain ⟨x0, y0, rfl, _⟩ := hc0.shape
  obtain ⟨x1, y1, rfl, _⟩ := hc1.shape
  obtain ⟨x2, y2, rfl, _⟩ := hc2.shape
  obtain ⟨k1, k2, k3⟩ := bcell hb
  simp only [World.size_alloc] at k1 k2 k3
  have k4 : w.heap.size < w1.heap.size := by omega
  have k5 : w.heap.size < w1.heap.size + 1 := by omega
  have k6 : w.heap.size < w1.heap.size + 1 + 1 := by omega
  have HB := Lib.hid hb
  have H1 := Lib.hid hc2
  clear hs hb hc0 hc1 hc2
  go_wp2_with fail
  go_rounds 3
  refine bodyPost_ret (v := .agg #[.string ⟨#[117]⟩, .slice x2 schU.cols.length y2]) (by simp [results, Tryd.results18, go_sem, k1, k4, k5, k6]) rfl ⟨_, rfl, ?_, ?_⟩
  · refine ColsR.weak (M := Out (w.heap.size + 1) w1.heap.size) ?_ (ColsR.keep (w := w1) (by simpa using H1.out) ?_)
    · intro k hk h; unfold Out at h ⊢; simp at h hk; omega
    · refine Keep.alloc (Keep.alloc (Keep.alloc (Keep.setCell (Keep.setCell (Keep.refl _ _) ?_ _) ?_ _) _) _) _ <;> (intro _; unfold Out; simp)
  · have := HB.out
    have h0 : Below w.heap.size w w1 := ((Below.refl _ w).alloc (Nat.le_refl _) _).trans (this.mono (by simp))
    clear k1 k2
    go_grown

end Go.Proofs.YtiheioajnfggmaaDoor
