/- A place within a query: the contract of Inside (at least one frame). -/
import Derived.Test.YtiheioajnfggmaaDoorC21
import Derived.Deep.RegionHeld3
namespace Go.Proofs.YtiheioajnfggmaaDoor
open Go.RowKit

theorem heap_first {w : World} {o1 o2 o3 : Obj} : (((w.alloc o1).alloc o2).alloc o3).heap[w.heap.size]? = some o1 := by
  have h := ((Keep.refl (fun _ => False) (w.alloc o1)).alloc o2 |>.alloc o3).block w.heap.size (by simp) id
  exact h.trans (heap_alloc_new w o1)

/-- Three new blocks of two cells. -/
theorem world3 {w W : World} {a b c d e f : Value} {t1 t2 t3 : TypeId} (h : ((w.alloc (.cells #[a, b] t1)).alloc (.cells #[c, d] t2)).alloc (.cells #[e, f] t3) = W) :
    W.cell? ⟨w.heap.size, 0, none⟩ = some a ∧ W.cell? ⟨w.heap.size, 1, none⟩ = some b ∧ W.cell? ⟨w.heap.size + 1, 0, none⟩ = some c ∧ W.cell? ⟨w.heap.size + 1, 1, none⟩ = some d ∧ Below w.heap.size w W ∧ W.heap.size = w.heap.size + 3 ∧ W.heap[w.heap.size + 1 + 1]? = some (.cells #[e, f] t3 (0, 0)) := by
  subst h
  obtain ⟨p1, p2, _⟩ := blk2 (heap_first (w := w) (o1 := .cells #[a, b] t1) (o2 := .cells #[c, d] t2) (o3 := .cells #[e, f] t3))
  obtain ⟨q1, q2, _⟩ := blk2 (heap_mid (w := w) (o1 := .cells #[a, b] t1) (o2 := .cells #[c, d] t2) (o3 := .cells #[e, f] t3))
  exact ⟨p1, p2, q1, q2, by go_grown, by simp, heap_new2⟩

/-- Frames with one more, in new memory; the tables as they were. -/
def InPost (M : Nat → Prop) (fs : List Frm) (vt : Value) (w : World) (e : Ending) (w' : World) : Prop := ∃ a c, e = .returned (.agg #[.slice a fs.length c, vt]) ∧ FrmsR M w' (.slice a fs.length c) fs ∧ Below w.heap.size w w'

/-- M, and what was made from w on below lo. -/
def MOr (M : Nat → Prop) (s lo : Nat) (k : Nat) : Prop := M k ∨ (s ≤ k ∧ k < lo)

theorem in_end {M : Nat → Prop} {lo : Nat} {w w8 : World} {v8 : Value} {fs : List Frm} (h : RowsO lo w8 33 4 (FrmR M w) v8 fs) (hlo : w.heap.size ≤ lo) (hb : Below w.heap.size w w8) (hM : ∀ k, w.heap.size ≤ k → ¬ M k) :
    ∃ a p, v8 = .slice a fs.length p ∧ FrmsR (MOr M w.heap.size lo) w8 (.slice a fs.length p) fs := by
  have h' := h.imp (R' := FrmR (MOr M w.heap.size lo) w8) fun x _ cs hc => FrmR.keep (hc.weak fun k hk h => h.elim id fun h => by omega) (.bel hb)
  obtain ⟨a, p, rfl, _⟩ := h'.shape
  exact ⟨a, p, rfl, h'.rows fun k h1 _ h => h.elim (hM k (by omega)) fun h => by omega⟩

theorem in_fin {M : Nat → Prop} {w w8 : World} {a : Option Addr} {p : Nat} {fs : List Frm} {u1 u2 vt : Value} (h : FrmsR (MOr M w.heap.size (w.heap.size + 1 + 1 + 1)) w8 (.slice a fs.length p) fs) (hb : Below w.heap.size w w8) :
    InPost M fs vt w (.returned (.agg #[.slice a fs.length p, vt])) ((w8.setCell ⟨w.heap.size + 1 + 1, 0, none⟩ u1).setCell ⟨w.heap.size + 1 + 1, 1, none⟩ u2) := by
  have ks : Keep (At (w.heap.size + 1 + 1)) w8 ((w8.setCell ⟨w.heap.size + 1 + 1, 0, none⟩ u1).setCell ⟨w.heap.size + 1 + 1, 1, none⟩ u2) := ((Keep.refl (At (w.heap.size + 1 + 1)) w8).setCell (p := ⟨w.heap.size + 1 + 1, 0, none⟩) (fun _ => rfl) _).setCell (p := ⟨w.heap.size + 1 + 1, 1, none⟩) (fun _ => rfl) _
  refine ⟨a, p, rfl, (h.keep (ks.weak fun k _ h => .inr (by unfold At at h; omega))).weak fun k _ h => .inl h, hb.trans (ks.toBelow hb.size fun k hk h => by unfold At at h; omega)⟩

set_option maxRecDepth 100000 in
set_option maxHeartbeats 4000000 in
theorem inside_w {M : Nat → Prop} (vf vt : Value) (fs : List Frm) (nm : ByteArray) (vc : Value) (cols : List Col) (ta : Option Addr) (tn tc : Nat) (w : World) (hvt : vt = .slice ta tn tc) (hf : FrmsR M w vf fs) (hc : ColsR M w vc cols) (hM : ∀ k, w.heap.size ≤ k → ¬ M k) (hne : fs ≠ []) (hN : fs.length ≤ 1000) :
    Calls Tryd.prog 92 #[.agg #[vf, vt], .agg #[.string nm, vc]] w (InPost M (fs ++ [⟨nm, false, cols⟩]) vt w) := by
  subst hvt
  obtain ⟨a2, p2, rfl, _⟩ := hf.shape
  obtain ⟨ca, cc, rfl, _⟩ := hc.shape
  have HF := Lib.hid hf
  have HC := Lib.hid hc
  have HM := Lib.hid hM
  have HNE := Lib.hid hne
  have tok1 : Hid True := trivial
  clear hf hc hM hne
  go_enter Tryd.func92, Tryd.ntmps92
  go_wp2_with fail
  generalize hW : (((w.alloc _).alloc _).alloc _) = W0
  obtain ⟨s0, s0b, s1, s2, hb0, hz0, hr0⟩ := world3 hW
  have hz1 : w.heap.size < W0.heap.size := by omega
  have hz2 : w.heap.size + 1 < W0.heap.size := by omega
  have hz3 : w.heap.size + 1 + 1 < W0.heap.size := by omega
  have HB0 := Lib.hid hb0
  have HR0 := Lib.hid hr0
  have HZ0 := Lib.hid hz0
  clear hW hb0 hz0 hr0
  go_region_held3 (fun w' => w'.cell? ⟨w.heap.size, 0, none⟩ = some (.slice a2 fs.length p2) ∧ w'.cell? ⟨w.heap.size + 1, 0, none⟩ = some (.string nm) ∧ w'.cell? ⟨w.heap.size + 1, 1, none⟩ = some (.slice ca cols.length cc))
    (first | (go_split_ands; first | with_reducible exact ⟨x0, x1, x2⟩ | with_reducible exact ⟨u0, u1, u2⟩ | with_reducible exact ⟨s0, s1, s2⟩) | go_keep)
    (first
      | (have _t := tok1; refine step_app (α := Frm) (by rfl) _ _ _ (by rfl) 33 _ 4 72 Tryd.underlying25 infoFrame (by rfl) (by decide) (R := FrmR M w) (M := M) (w.heap.size + 1 + 1 + 1) (.slice none 0 0) (.slice a2 fs.length p2) [] fs (by rfl) (by rfl) (RowsO.nil ..) (rowsR_later HF.out (.bel (by first | exact drew_below HB0.out | exact drew_below (HB0.out.alloc (Nat.le_of_lt hz1) _) | exact (drew_below HB0.out).alloc (Nat.le_of_lt hz1) _))) HNE.out (fun y _ cs h => frmR_one _ y cs h) (by simp; omega) (by simp [maxLen]; omega) (by have := HZ0.out; simp; omega) ?_; intro v7 w7 ho hk hat; have hb7 := bel_nil hk; have hz7 := hb7.size; (try simp only [World.size_drew, World.size_alloc] at hb7 hz7); have hB7 : Below w.heap.size w w7 := Below.trans (B := w.heap.size) (by first | exact drew_below HB0.out | exact drew_below (HB0.out.alloc (Nat.le_of_lt hz1) _) | exact (drew_below HB0.out).alloc (Nat.le_of_lt hz1) _) (hb7.mono (by omega)); have hB7' : Below W0.heap.size W0 w7 := Below.trans (B := W0.heap.size) (by first | exact drew_below (Below.refl _ _) | exact drew_below ((Below.refl _ _).alloc (Nat.le_refl _) _) | exact (drew_below (Below.refl _ _)).alloc (Nat.le_refl _) _) (hb7.mono (by omega)); have u0 := (hB7'.cell (p := ⟨w.heap.size, 0, none⟩) hz1).trans s0; have u0b := (hB7'.cell (p := ⟨w.heap.size, 1, none⟩) hz1).trans s0b; have u1 := (hB7'.cell (p := ⟨w.heap.size + 1, 0, none⟩) hz2).trans s1; have u2 := (hB7'.cell (p := ⟨w.heap.size + 1, 1, none⟩) hz2).trans s2; (first | have HX7 := Lib.hid ((hb7.block W0.heap.size (by omega)).trans (show _ = some (.cells #[.string nm, .bool false, .slice ca cols.length cc, .slice none 0 0] 33 (0, 0)) by first | exact heap_alloc_new W0 _ | exact heap_alloc_new W0.drew _)) | skip); have HR7 := Lib.hid ((hB7'.block (w.heap.size + 1 + 1) hz3).trans HR0.out); have HO7 := Lib.hid ho; have HB7 := Lib.hid hB7; have HB7' := Lib.hid hB7'; clear ho hk hat hb7 hB7 hB7' tok1)
      | (go_loud (refine step_app (α := Frm) (by rfl) _ _ _ (by rfl) 33 _ 4 72 Tryd.underlying25 infoFrame (by rfl) (by decide) (R := FrmR M w) (M := M) (w.heap.size + 1 + 1 + 1) v7 (.slice (some ⟨w7.heap.size, 0, none⟩) 1 1) fs [⟨nm, false, cols⟩] (by rfl) (by rfl) (RowsO.kept HO7.out ((Keep.refl (fun _ => False) w7).alloc _) (fun _ _ => id) fun _ _ _ h => h) (rows_one_at (size := 4) (R := FrmR M w) (arr := #[.string nm, .bool false, .slice ca cols.length cc, .slice none 0 0]) (e := 33) (Frm.mk nm false cols) (heap_alloc_new w7 _) (HM.out _ (by omega)) rfl (frm_cells HC.out)) (by simp) (fun y _ cs h => frmR_one _ y cs h) (by simp; omega) (by simp [maxLen]; omega) (by simp; omega) ?_; intro v8 w8 ho hk _; have HO8 := Lib.hid ho; have HK8 := Lib.hid (((Keep.refl (OwnB v7) w7).alloc _).trans hk); have hO7 : ∀ k, OwnB v7 k → w.heap.size + 1 + 1 + 1 ≤ k := (fun k h => (RowsO.lt HO7.out h).1); have K8 := HK8.out; have x0 := (K8.cell (b := w.heap.size) (o := 0) (by omega) (fun h => by have := hO7 _ h; omega)).trans u0; have x0b := (K8.cell (b := w.heap.size) (o := 1) (by omega) (fun h => by have := hO7 _ h; omega)).trans u0b; have x1 := (K8.cell (b := w.heap.size + 1) (o := 0) (by omega) (fun h => by have := hO7 _ h; omega)).trans u1; have x2 := (K8.cell (b := w.heap.size + 1) (o := 1) (by omega) (fun h => by have := hO7 _ h; omega)).trans u2; have hr8 := (K8.block (w.heap.size + 1 + 1) (by omega) (fun h => by have := hO7 _ h; omega)).trans HR7.out; have HR8 := Lib.hid hr8; have HB8 := Lib.hid (HB7.out.trans (K8.toBelow (B := w.heap.size) (by omega) fun k hk h => by have := hO7 k h; omega)); clear ho hk hO7 K8 hr8))
      | (go_loud (refine step_app (α := Frm) (by rfl) _ _ _ (by rfl) 33 _ 4 72 Tryd.underlying25 infoFrame (by rfl) (by decide) (R := FrmR M w) (M := M) (w.heap.size + 1 + 1 + 1) v7 (.slice (some ⟨W0.heap.size, 0, none⟩) 1 1) fs [⟨nm, false, cols⟩] (by rfl) (by rfl) HO7.out (rows_one_at (size := 4) (R := FrmR M w) (Frm.mk nm false cols) HX7.out (HM.out _ (Nat.le_of_lt hz1)) rfl (frm_cells HC.out)) (by simp) (fun y _ cs h => frmR_one _ y cs h) (by simp; omega) (by simp [maxLen]; omega) (by omega) ?_; intro v8 w8 ho hk _; have HO8 := Lib.hid ho; have HK8 := Lib.hid hk; have hO7 : ∀ k, OwnB v7 k → w.heap.size + 1 + 1 + 1 ≤ k := (fun k h => (RowsO.lt HO7.out h).1); have K8 := HK8.out; have x0 := (K8.cell (b := w.heap.size) (o := 0) (by omega) (fun h => by have := hO7 _ h; omega)).trans u0; have x0b := (K8.cell (b := w.heap.size) (o := 1) (by omega) (fun h => by have := hO7 _ h; omega)).trans u0b; have x1 := (K8.cell (b := w.heap.size + 1) (o := 0) (by omega) (fun h => by have := hO7 _ h; omega)).trans u1; have x2 := (K8.cell (b := w.heap.size + 1) (o := 1) (by omega) (fun h => by have := hO7 _ h; omega)).trans u2; have hr8 := (K8.block (w.heap.size + 1 + 1) (by omega) (fun h => by have := hO7 _ h; omega)).trans HR7.out; have HR8 := Lib.hid hr8; have HB8 := Lib.hid (HB7.out.trans (K8.toBelow (B := w.heap.size) (by omega) fun k hk h => by have := hO7 k h; omega)); clear ho hk hO7 K8 hr8)))
  all_goals
    obtain ⟨a8, p8, hv8, hf8⟩ := in_end HO8.out (by omega) HB8.out HM.out
    have hlen : (fs ++ [Frm.mk nm false cols]).length = fs.length + 1 := by simp
    rw [hlen] at hv8 hf8
    subst hv8
    obtain ⟨r0, r1, rf0, rf1, rz⟩ := blk2 HR8.out
    have HF8 := Lib.hid hf8
    have HL := Lib.hid hlen
    clear hf8 hlen
    go_wp2_with fail
    refine bodyPost_ret (v := .agg #[.slice a8 (fs.length + 1) p8, .slice ta tn tc]) (by simp [results, Tryd.results92, go_sem, r0, r1]) rfl ?_
    rw [← HL.out]
    exact in_fin (by rw [HL.out]; exact HF8.out) HB8.out

end Go.Proofs.YtiheioajnfggmaaDoor
