/- What the expressions from the tape look like in memory; the contract of Num for every small number. -/
import Derived.Test.YtiheioajnfggmaaDoorD5
import Derived.Test.YtiheioajnfggmaaDoorD3
namespace Go.Proofs.YtiheioajnfggmaaDoor
open Go.RowKit

/-- The expression e as a value. -/
def ExV (M : Nat → Prop) (w : World) (e : Ex) (v : Value) : Prop :=
  ∃ a ac s sc, v = .agg #[.int .i64 e.kind, .int .i64 e.op, .bool e.no, .int .i64 e.val.kind, .int .i64 e.val.int, .string e.val.text, .string e.table, .string e.name, .slice a e.args.length ac, .slice s e.sub.length sc] ∧
    ExsR M w (.slice a e.args.length ac) e.args ∧ QusR M w (.slice s e.sub.length sc) e.sub

theorem ExV.ec {M : Nat → Prop} {w : World} {e : Ex} {v : Value} (h : ExV M w e v) : ∃ cs, v = .agg cs.toArray ∧ EC M w e cs := by
  obtain ⟨a, ac, s, sc, rfl, h1, h2⟩ := h
  exact ⟨_, rfl, (EC_iff ..).2 ⟨_, _, rfl, h1, h2⟩⟩
theorem ExV.keep {M : Nat → Prop} {w w' : World} {e : Ex} {v : Value} (h : ExV M w e v) (k : Keep M w w') : ExV M w' e v := by
  obtain ⟨a, ac, s, sc, rfl, h1, h2⟩ := h
  exact ⟨a, ac, s, sc, rfl, h1.keep k, h2.keep k⟩
theorem ExV.weak {M M' : Nat → Prop} {w : World} {e : Ex} {v : Value} (hM : ∀ k, k < w.heap.size → M' k → M k) (h : ExV M w e v) : ExV M' w e v := by
  obtain ⟨a, ac, s, sc, rfl, h1, h2⟩ := h
  exact ⟨a, ac, s, sc, rfl, h1.weak hM, h2.weak hM⟩
/-- Without parts it needs no memory. -/
theorem exV_bare {M : Nat → Prop} {w : World} (k o : Int) (no : Bool) (x : Val) (t n : ByteArray) : ExV M w (.mk k o no x t n [] []) (.agg #[.int .i64 k, .int .i64 o, .bool no, .int .i64 x.kind, .int .i64 x.int, .string x.text, .string t, .string n, .slice none 0 0, .slice none 0 0]) :=
  ⟨none, 0, none, 0, rfl, RowsR.nil .., RowsR.nil ..⟩

def ExQ (P : Ex → Prop) (w : World) (v : Value) (w' : World) : Prop := ∃ e, ExV (Old w.heap.size) w' e v ∧ P e

/-- Made as was asked, over every list of tables that has the place's. -/
def Mk (ss : List Sch) (fs : List Frm) (want : Int) (n : Nat) (e : Ex) : Prop := dep e ≤ n ∧ ∀ ts, (∀ s ∈ ss, sourceP ts s.name = some s) → Made ts fs want e
theorem Mk.mono {ss : List Sch} {fs : List Frm} {want : Int} {n m : Nat} {e : Ex} (h : Mk ss fs want n e) (hn : n ≤ m) : Mk ss fs want m e := ⟨Nat.le_trans h.1 hn, h.2⟩

def PlaceP (look : List UInt8 → List Col) (fs : List Frm) (ss : List Sch) (n : Nat) : Prop :=
  Named look fs ss ∧ fs.length + n ≤ 100 ∧ (∀ f ∈ fs, f.cols.length ≤ 10) ∧ (∀ s ∈ ss, s.cols.length ≤ 10) ∧ ss ≠ [] ∧ ss.length ≤ 10 ∧ fs ≠ []
theorem PlaceP.mono {look : List UInt8 → List Col} {fs : List Frm} {ss : List Sch} {n m : Nat} (h : PlaceP look fs ss n) (hn : m ≤ n) : PlaceP look fs ss m := ⟨h.1, by have := h.2.1; omega, h.2.2⟩
theorem PlaceP.inside {look : List UInt8 → List Col} {fs : List Frm} {ss : List Sch} {n : Nat} {s : Sch} (h : PlaceP look fs ss (n + 1)) (hs : s ∈ ss) : PlaceP look (fs ++ [frmOf s]) ss n := by
  obtain ⟨h1, h2, h3, h4, h5, h6, h7⟩ := h
  refine ⟨h1.inside hs, by simp; omega, fun f hf => ?_, h4, h5, h6, by simp⟩
  rcases List.mem_append.1 hf with hf | hf
  · exact h3 f hf
  · simp at hf
    subst hf
    exact h4 s hs

/-- The place's box and the result's cells, behind tape calls. -/
def Loc (T : Nat) (vf vt : Value) (w wi : World) : Prop :=
  TapeOk T wi ∧ Keep (At T) w wi ∧ wi.heap[w.heap.size]? = some (.cells #[vf, vt] 57 (0, 0)) ∧
    wi.heap[w.heap.size + 1]? = some (.cells #[.int .i64 0, .int .i64 0, .bool false, .int .i64 0, .int .i64 0, .string ⟨#[]⟩, .string ⟨#[]⟩, .string ⟨#[]⟩, .slice none 0 0, .slice none 0 0] 52 (0, 0))

section
variable {T : Nat} {vf vt : Value} {w wi wj : World}
theorem Loc.step (h : Loc T vf vt w wi) (hT : T < w.heap.size) (ht : TapeOk T wj) (hk : Keep (At T) wi wj) : Loc T vf vt w wj :=
  ⟨ht, h.2.1.trans hk, (hk.block _ (Array.getElem?_eq_some_iff.1 h.2.2.1).1 fun h => by unfold At at h; omega).trans h.2.2.1, (hk.block _ (Array.getElem?_eq_some_iff.1 h.2.2.2).1 fun h => by unfold At at h; omega).trans h.2.2.2⟩
theorem Loc.bel (h : Loc T vf vt w wi) (hT : T < w.heap.size) (hb : Below wi.heap.size wi wj) : Loc T vf vt w wj := h.step hT (h.1.bel hb) (.bel hb)
theorem Loc.alloc (h : Loc T vf vt w wi) (hT : T < w.heap.size) (o : Obj) : Loc T vf vt w (wi.alloc o) := h.bel hT ((Below.refl _ _).alloc (Nat.le_refl _) o)
theorem Loc.drew (h : Loc T vf vt w wi) : Loc T vf vt w wi.drew := ⟨h.1, h.2.1.drew, h.2.2.1, h.2.2.2⟩
theorem Loc.set (h : Loc T vf vt w wi) (hT : T < w.heap.size) {g i : Nat} (hg : w.heap.size + 1 < g) (u : Value) : Loc T vf vt w (wi.setCell ⟨g, i, none⟩ u) :=
  ⟨h.1.keep ((Keep.refl (At g) wi).setCell (p := ⟨g, i, none⟩) (fun _ => rfl) u) fun k hk hh => by unfold At at hh; omega, h.2.1.setCell (p := ⟨g, i, none⟩) (fun hh => by simp at hh; omega) u,
    (Below.heap_setCell _ _ _ _ (by simp; omega)).trans h.2.2.1, (Below.heap_setCell _ _ _ _ (by simp; omega)).trans h.2.2.2⟩
theorem Loc.tape (h : Loc T vf vt w wi) : TapeOk T wi := h.1
theorem Loc.kept (h : Loc T vf vt w wi) : Keep (At T) w wi := h.2.1
theorem Loc.place (h : Loc T vf vt w wi) : wi.cell? ⟨w.heap.size, 0, none⟩ = some vf ∧ wi.cell? ⟨w.heap.size, 1, none⟩ = some vt ∧ w.heap.size < wi.heap.size := by
  obtain ⟨a, b, _, _, c⟩ := blk2 h.2.2.1
  exact ⟨a, b, c⟩
theorem Loc.res (h : Loc T vf vt w wi) : wi.cell? ⟨w.heap.size + 1, 0, none⟩ = some (.int .i64 0) ∧ wi.cell? ⟨w.heap.size + 1, 1, none⟩ = some (.int .i64 0) ∧ wi.cell? ⟨w.heap.size + 1, 2, none⟩ = some (.bool false) ∧ wi.cell? ⟨w.heap.size + 1, 3, none⟩ = some (.int .i64 0) ∧ wi.cell? ⟨w.heap.size + 1, 4, none⟩ = some (.int .i64 0) ∧
    wi.cell? ⟨w.heap.size + 1, 5, none⟩ = some (.string ⟨#[]⟩) ∧ wi.cell? ⟨w.heap.size + 1, 6, none⟩ = some (.string ⟨#[]⟩) ∧ wi.cell? ⟨w.heap.size + 1, 7, none⟩ = some (.string ⟨#[]⟩) ∧ wi.cell? ⟨w.heap.size + 1, 8, none⟩ = some (.slice none 0 0) ∧ wi.cell? ⟨w.heap.size + 1, 9, none⟩ = some (.slice none 0 0) ∧
    (∀ i, wi.frozen? ⟨w.heap.size + 1, i, none⟩ = false) ∧ w.heap.size + 1 < wi.heap.size := blk10 h.2.2.2
end

/-- The call's end: the expression stored into the result's cells. -/
theorem ex_fin {T lo : Nat} {vf vt v : Value} {w wk W' : World} {e : Ex} {P : Ex → Prop} (hT : T < w.heap.size) (L : Loc T vf vt w wk) (hx : ExV (Old lo) wk e v) (hlo : w.heap.size + 1 < lo) (ks : Keep (At (w.heap.size + 1)) wk W') (hP : P e) : Gives T w (ExQ P w) (.returned v) W' := by
  refine gives_set hT L.2.1 L.1 ks ⟨e, (hx.keep (ks.weak fun k _ h => ?_)).weak fun k _ h => ?_, hP⟩
  · unfold At at h; unfold Old; omega
  · unfold Old at h ⊢; omega

/-- The same, where the arguments' list has been made besides. -/
theorem ex_fin1 {T : Nat} {vf vt v : Value} {w wk W1 : World} {o : Obj} {e : Ex} {P : Ex → Prop} (hT : T < w.heap.size) (L : Loc T vf vt w wk) (ks : Keep (At (w.heap.size + 1)) wk W1) (hx : ExV (Old (w.heap.size + 1 + 1)) (W1.alloc o) e v) (hP : P e) : Gives T w (ExQ P w) (.returned v) (W1.alloc o) :=
  ⟨v, rfl, ⟨e, hx.weak fun k _ h => by unfold Old at h ⊢; omega, hP⟩, (L.1.keep ks fun k hk h => by unfold At at h; omega).alloc _, (L.2.1.then ks fun k hk h => by unfold At at h; omega).alloc _⟩

/-- A part that was made before the result was stored. -/
theorem ex_part {lo : Nat} {va : Value} {w wk W1 : World} {o : Obj} {a : Ex} (hx : ExV (Old lo) wk a va) (hlo : w.heap.size + 1 + 1 ≤ lo) (ks : Keep (At (w.heap.size + 1)) wk W1) : ExV (Old (w.heap.size + 1 + 1)) (W1.alloc o) a va :=
  ((hx.keep (ks.weak fun k _ h => by unfold At at h; unfold Old; omega)).keep ((Keep.refl _ W1).alloc _)).weak fun k _ h => by unfold Old at h ⊢; omega

def NumPost (n : Int) (w : World) (e : Ending) (w' : World) : Prop := ∃ v, e = .returned v ∧ ExV (Old w.heap.size) w' (numX n) v ∧ Below w.heap.size w w'

theorem old_new {s : Nat} {w : World} (h : s ≤ w.heap.size) : ¬ Old s w.heap.size := by unfold Old; omega

theorem num_fin {n : Int} {w w1 W1 : World} {e : TypeId} (h : n < 0) (hz : w.heap.size < w1.heap.size) (hb : Below w.heap.size w w1) (ks : Keep (At w.heap.size) w1 W1) (hs : W1.heap.size = w1.heap.size) :
    NumPost n w (.returned (.agg #[.int .i64 4, .int .i64 0, .bool false, .int .i64 0, .int .i64 0, .string ⟨#[]⟩, .string ⟨#[]⟩, .string ⟨#[]⟩, .slice (some ⟨w1.heap.size, 0, none⟩) 1 1, .slice none 0 0]))
      (W1.alloc (.cells #[.int .i64 1, .int .i64 0, .bool false, .int .i64 1, .int .i64 (-n), .string ⟨#[]⟩, .string ⟨#[]⟩, .string ⟨#[]⟩, .slice none 0 0, .slice none 0 0] e)) := by
  have hb1 : Below w.heap.size w W1 := hb.trans (ks.toBelow hb.size fun k hk h => by unfold At at h; omega)
  refine ⟨_, rfl, ?_, hb1.alloc hb1.size _⟩
  rw [numX, if_pos h, ← hs]
  exact ⟨_, 1, none, 0, rfl, rows_one (R := EC _ _) (litX ⟨1, -n, es⟩) rfl (old_new (by omega)) rfl (ec_nil ..), RowsR.nil ..⟩

set_option maxRecDepth 100000 in
set_option maxHeartbeats 1000000 in
theorem num_neg (n : Int) (h : n < 0) (h2 : -1000 ≤ n) (w : World) : Calls Tryd.prog 66 #[.int .i64 n] w (NumPost n w) := by
  go_enter Tryd.func66, Tryd.ntmps66
  go_wp2_with fail
  generalize hW : w.alloc _ = W0
  have g0 : W0.heap[w.heap.size]? = some (.cells #[.int .i64 0, .int .i64 0, .bool false, .int .i64 0, .int .i64 0, .string ⟨#[]⟩, .string ⟨#[]⟩, .string ⟨#[]⟩, .slice none 0 0, .slice none 0 0] 52 (0, 0)) := by rw [← hW]; exact heap_alloc_new w _
  have g1 : Below w.heap.size w W0 := by rw [← hW]; exact (Below.refl _ _).alloc (Nat.le_refl _) _
  have g2 : W0.heap.size = w.heap.size + 1 := by rw [← hW]; simp
  clear hW
  refine (num_pos (-n) (by omega) _).mono ?_
  rintro e w1 ⟨rfl, hb⟩
  have hs := hb.size
  have h0 := (hb.block w.heap.size (by omega)).trans g0
  obtain ⟨r0, r1, r2, r3, r4, r5, r6, r7, r8, r9, rf, rz⟩ := blk10 h0
  have HB := Lib.hid (g1.trans (hb.mono (by omega)))
  clear g0 g1 g2 hb h0
  dsimp only
  repeat (first | go_values | go_skip | go_guarded | go_step | go_upon)
  refine bodyPost_ret (v := .agg #[.int .i64 4, .int .i64 0, .bool false, .int .i64 0, .int .i64 0, .string ⟨#[]⟩, .string ⟨#[]⟩, .string ⟨#[]⟩, .slice (some ⟨w1.heap.size, 0, none⟩) 1 1, .slice none 0 0]) (by simp [results, Tryd.results66, go_sem, r0, r1, r2, r3, r4, r5, r6, r7, r8, r9, rz]) rfl ?_
  exact num_fin h rz HB.out (keep_set10 _ _ _ _ _ _ _ _ _ _ _ _) (by simp)

theorem num_any (n : Int) (h : -1000 ≤ n) (w : World) : Calls Tryd.prog 66 #[.int .i64 n] w (NumPost n w) := by
  by_cases h0 : n < 0
  · exact num_neg n h0 h w
  · refine (num_pos n (by omega) w).mono ?_
    rintro e w1 ⟨rfl, hb⟩
    refine ⟨_, rfl, ?_, hb⟩
    rw [numX, if_neg h0]
    exact exV_bare ..

end Go.Proofs.YtiheioajnfggmaaDoor
