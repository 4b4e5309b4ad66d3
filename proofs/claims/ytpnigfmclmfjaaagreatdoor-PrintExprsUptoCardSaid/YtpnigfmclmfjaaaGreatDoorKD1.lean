/- Blocks behind allocs, and behind tape calls. Values from the tape: contracts of Small, Number, Word and Typed. A place within a query: the contract of Inside. Transition tables without rows: contracts of the reference's copyRows, transition and Transitions. The tables of the statements on names and types: the contract of tables. -/
import Derived.Test.YtpnigfmclmfjaaaGreatDoorKC4
import Derived.Test.YtpnigfmclmfjaaaGreatDoorKC1
import Derived.Deep.DeepCutAuto
import Derived.Deep.RegionHeld3
namespace Go.Proofs.YtpnigfmclmfjaaaGreatDoor
open Go.RowKit

theorem drew_below {B : Nat} {a w : World} (h : Below B a w) : Below B a w.drew := ⟨h.os, h.tape, h.output, h.size, h.block⟩

theorem heap_new1 {w : World} {o1 o2 : Obj} : ((w.alloc o1).alloc o2).heap[w.heap.size + 1]? = some o2 := by
  have := heap_alloc_new (w.alloc o1) o2
  rw [World.size_alloc] at this
  exact this
theorem heap_new2 {w : World} {o1 o2 o3 : Obj} : (((w.alloc o1).alloc o2).alloc o3).heap[w.heap.size + 1 + 1]? = some o3 := by
  have := heap_alloc_new ((w.alloc o1).alloc o2) o3
  rw [World.size_alloc, World.size_alloc] at this
  exact this
theorem heap_mid {w : World} {o1 o2 o3 : Obj} : (((w.alloc o1).alloc o2).alloc o3).heap[w.heap.size + 1]? = some o2 := by
  have h := ((Keep.refl (fun _ => False) ((w.alloc o1).alloc o2)).alloc o3).block (w.heap.size + 1) (by simp) id
  exact h.trans heap_new1

theorem inner_end {lo : Nat} {w3 w8 : World} {v8 : Value} {l : List Frm} (h : RowsO lo w8 201 4 (FrmR NoM w3) v8 l) (hb : Below w3.heap.size w3 w8) :
    ∃ a p, v8 = .slice a l.length p ∧ FrmsR NoM w8 (.slice a l.length p) l ∧ Below w3.heap.size w3 w8 := by
  have h' := h.imp (R' := FrmR NoM w8) fun x _ cs hc => FrmR.keep hc (.bel hb)
  obtain ⟨a, p, rfl, _⟩ := h'.shape
  exact ⟨a, p, rfl, h'.rows fun _ _ _ => id, hb⟩

theorem tape_below {T : Nat} {w0 w w' : World} (h : Below T w0 w) (hT : T ≤ w.heap.size) (k : Keep (At T) w w') : Below T w0 w' :=
  h.trans (k.toBelow hT fun k h e => by unfold At at e; omega)
end Go.Proofs.YtpnigfmclmfjaaaGreatDoor

namespace Go.Proofs.YtpnigfmclmfjaaaGreatDoor
open Go.RowKit

def I64R (n : Int) : Prop := -9223372036854775808 ≤ n ∧ n ≤ 9223372036854775807

def SmallQ (v : Value) (_ : World) : Prop := ∃ n : Int, v = .int .i64 n ∧ -3 ≤ n ∧ n ≤ 12
def NumberQ (v : Value) (_ : World) : Prop := ∃ n : Int, v = .int .i64 n ∧ I64R n
def WordQ (v : Value) (_ : World) : Prop := ∃ i : Nat, i < 6 ∧ v = .string (wordAt i)

set_option maxHeartbeats 400000 in
theorem small_any (T : Nat) (w : World) (ht : TapeOk T w) : Calls Tryz.prog 67 #[.pointer (some ⟨T, 0, none⟩)] w (Gives T w SmallQ) := by
  have H := Lib.hid ht
  clear ht
  go_enter Tryz.func67, Tryz.ntmps67
  go_wp2_with (go_at_call 29; refine (next_any T 16 w (by omega) (by omega) H.out).mono ?_; rintro e w' ⟨v, rfl, ⟨r, rfl, hr0, hr1⟩, ht, hk⟩; have H2 := Lib.hid ht; have H3 := Lib.hid hk; clear ht hk)
  go_ret
  exact ⟨_, rfl, ⟨_, rfl, by omega, by omega⟩, H2.out, H3.out⟩

set_option maxHeartbeats 400000 in
theorem word_any (T : Nat) (w : World) (ht : TapeOk T w) (hn : WordsOk T w) :
    Calls Tryz.prog 159 #[.pointer (some ⟨T, 0, none⟩)] w (Gives T w WordQ) := by
  have H := Lib.hid ht
  have HN := Lib.hid hn
  clear ht hn
  go_enter Tryz.func159, Tryz.ntmps159
  go_wp2_with fail
  refine (next_any T 6 w (by omega) (by omega) H.out).mono ?_
  rintro e w' ⟨v, rfl, ⟨r, rfl, hr0, hr1⟩, ht, hk⟩
  obtain ⟨i, rfl⟩ := Int.eq_ofNat_of_zero_le hr0
  have hi : i < 6 := by omega
  have hc := (HN.out.at hk).2 i hi
  have H2 := Lib.hid ht
  have H3 := Lib.hid hk
  clear ht hk
  go_wp2_with fail
  go_ret
  exact ⟨_, rfl, ⟨i, hi, rfl⟩, H2.out, H3.out⟩

theorem number_end {T : Nat} {w w' : World} {n : Int} (h : I64R n) (ht : TapeOk T w') (hk : Keep (At T) w w') : Gives T w NumberQ (.returned (.int .i64 n)) w' := ⟨_, rfl, ⟨_, rfl, h⟩, ht, hk⟩

theorem i64R_small {n : Int} (h : -1000000 ≤ n) (h2 : n ≤ 1000000) : I64R n := ⟨by omega, by omega⟩
theorem i64R_wrap (n : Int) : I64R (wrap64 n) := by unfold I64R wrap64; omega

set_option maxHeartbeats 400000 in
theorem number_any (T : Nat) (w : World) (ht : TapeOk T w) : Calls Tryz.prog 158 #[.pointer (some ⟨T, 0, none⟩)] w (Gives T w NumberQ) := by
  have H := Lib.hid ht
  have tok1 : Hid True := trivial
  clear ht
  go_enter Tryz.func158, Tryz.ntmps158
  go_wp2_with (first
    | (go_at_call 29; have _t := tok1; refine (next_any T 8 w (by omega) (by omega) H.out).mono ?_; rintro e w1 ⟨v, rfl, ⟨r, rfl, hr0, hr1⟩, ht, hk⟩; have H2 := Lib.hid ht; have H3 := Lib.hid hk; clear ht hk tok1)
    | (go_at_call 29; refine (next_any T _ w1 (by omega) (by omega) H2.out).mono ?_; rintro e w2 ⟨v, rfl, ⟨s, rfl, hs0, hs1⟩, ht, hk⟩; have H4 := Lib.hid ht; have H5 := Lib.hid (H3.out.trans hk); clear ht hk))
  all_goals go_ret
  all_goals exact number_end ⟨by omega, by omega⟩ H4.out H5.out

/-- A value as the statements make it: of its kind, nothing else set. -/
def ValidVal (v : Val) : Prop := (v.kind = 0 ∧ v.int = 0 ∧ v.text = ⟨#[]⟩) ∨ (v.kind = 1 ∧ I64R v.int ∧ v.text = ⟨#[]⟩) ∨ (v.kind = 2 ∧ 0 ≤ v.int ∧ v.int ≤ 1 ∧ v.text = ⟨#[]⟩) ∨ (v.kind = 3 ∧ v.int = 0 ∧ ∃ i : Nat, i < 6 ∧ v.text = wordAt i)

def TypedQ (k : Int) (v : Value) (_ : World) : Prop := ∃ x : Val, v = .agg #[.int .i64 x.kind, .int .i64 x.int, .string x.text] ∧ ValidVal x ∧ (x.kind = k ∨ (x.kind = 0 ∧ (k < 1 ∨ 3 < k)))

theorem typed_end {T : Nat} {w w' : World} (x : Val) (k : Int) (h : ValidVal x) (hk : x.kind = k ∨ (x.kind = 0 ∧ (k < 1 ∨ 3 < k))) (ht : TapeOk T w') (hb : Keep (At T) w w') : Gives T w (TypedQ k) (.returned (.agg #[.int .i64 x.kind, .int .i64 x.int, .string x.text])) w' := ⟨_, rfl, ⟨x, rfl, h, hk⟩, ht, hb⟩

theorem tape_set3 {T S : Nat} {w : World} {a b c : Value} (h : TapeOk T w) (hS : T < S) : TapeOk T (((w.setCell ⟨S, 0, none⟩ a).setCell ⟨S, 1, none⟩ b).setCell ⟨S, 2, none⟩ c) :=
  h.keep ((((Keep.refl (At S) w).setCell (p := ⟨S, 0, none⟩) (fun _ => rfl) _).setCell (p := ⟨S, 1, none⟩) (fun _ => rfl) _).setCell (p := ⟨S, 2, none⟩) (fun _ => rfl) _) fun k hk h => by unfold At at h; omega
theorem keep_set3 {T : Nat} {w0 w : World} {a b c : Value} (h : Keep (At T) w0 w) : Keep (At T) w0 (((w.setCell ⟨w0.heap.size, 0, none⟩ a).setCell ⟨w0.heap.size, 1, none⟩ b).setCell ⟨w0.heap.size, 2, none⟩ c) :=
  ((h.setCell (fun h => by simp at h) _).setCell (fun h => by simp at h) _).setCell (fun h => by simp at h) _

set_option maxHeartbeats 1000000 in
theorem typed_any (T : Nat) (k : Int) (w : World) (ht : TapeOk T w) (hn : WordsOk T w) : Calls Tryz.prog 68 #[.pointer (some ⟨T, 0, none⟩), .int .i64 k] w (Gives T w (TypedQ k)) := by
  have hT := ht.lt
  have hT2 : w.heap.size ≠ T := by omega
  have H := Lib.hid ht
  have HN := Lib.hid hn
  clear ht hn
  go_enter Tryz.func68, Tryz.ntmps68
  go_wp2_with (first
    | (go_at_call 158; refine (number_any T _ (H.out.alloc _)).mono ?_; rintro e w1 ⟨v, rfl, ⟨n, rfl, hn⟩, ht, hk⟩; obtain ⟨k1, k2⟩ := kcell hk; simp only [World.size_alloc] at k1 k2; have c0 : w1.cell? ⟨w.heap.size, 0, none⟩ = some (.int .i64 0) := (k1 _ _ (by omega) hT2).trans (by simp); have c1 : w1.cell? ⟨w.heap.size, 1, none⟩ = some (.int .i64 0) := (k1 _ _ (by omega) hT2).trans (by simp); have c2 : w1.cell? ⟨w.heap.size, 2, none⟩ = some (.string ⟨#[]⟩) := (k1 _ _ (by omega) hT2).trans (by simp); have k4 := hk.size; simp only [World.size_alloc] at k4; have H2 := Lib.hid ht; have H3 := Lib.hid (((Keep.refl (At T) w).alloc _).trans hk); have HI := Lib.hid hn; clear ht hk hn)
    | (go_at_call 29; refine (next_any T 2 _ (by omega) (by omega) (H.out.alloc _)).mono ?_; rintro e w1 ⟨v, rfl, ⟨n, rfl, hn0, hn1⟩, ht, hk⟩; obtain ⟨k1, k2⟩ := kcell hk; simp only [World.size_alloc] at k1 k2; have c0 : w1.cell? ⟨w.heap.size, 0, none⟩ = some (.int .i64 0) := (k1 _ _ (by omega) hT2).trans (by simp); have c1 : w1.cell? ⟨w.heap.size, 1, none⟩ = some (.int .i64 0) := (k1 _ _ (by omega) hT2).trans (by simp); have c2 : w1.cell? ⟨w.heap.size, 2, none⟩ = some (.string ⟨#[]⟩) := (k1 _ _ (by omega) hT2).trans (by simp); have k4 := hk.size; simp only [World.size_alloc] at k4; have H2 := Lib.hid ht; have H3 := Lib.hid (((Keep.refl (At T) w).alloc _).trans hk); clear ht hk)
    | (go_at_call 159; refine (word_any T _ (H.out.alloc _) (HN.out.at ((Keep.refl (At T) w).alloc _))).mono ?_; rintro e w1 ⟨v, rfl, ⟨i, hi, rfl⟩, ht, hk⟩; obtain ⟨k1, k2⟩ := kcell hk; simp only [World.size_alloc] at k1 k2; have c0 : w1.cell? ⟨w.heap.size, 0, none⟩ = some (.int .i64 0) := (k1 _ _ (by omega) hT2).trans (by simp); have c1 : w1.cell? ⟨w.heap.size, 1, none⟩ = some (.int .i64 0) := (k1 _ _ (by omega) hT2).trans (by simp); have c2 : w1.cell? ⟨w.heap.size, 2, none⟩ = some (.string ⟨#[]⟩) := (k1 _ _ (by omega) hT2).trans (by simp); have k4 := hk.size; simp only [World.size_alloc] at k4; have H2 := Lib.hid ht; have H3 := Lib.hid (((Keep.refl (At T) w).alloc _).trans hk); clear ht hk))
  · refine bodyPost_ret (v := .agg #[.int .i64 1, .int .i64 n, .string ⟨#[]⟩]) (by simp [results, Tryz.results68, go_sem, c0, c1, c2]) rfl (typed_end ⟨1, n, ⟨#[]⟩⟩ k (.inr (.inl ⟨rfl, HI.out, rfl⟩)) (.inl (by simp_all)) (tape_set3 H2.out hT) (keep_set3 H3.out))
  · refine bodyPost_ret (v := .agg #[.int .i64 2, .int .i64 n, .string ⟨#[]⟩]) (by simp [results, Tryz.results68, go_sem, c0, c1, c2]) rfl (typed_end ⟨2, n, ⟨#[]⟩⟩ k (.inr (.inr (.inl ⟨rfl, hn0, Int.le_of_lt_add_one hn1, rfl⟩))) (.inl (by simp_all)) (tape_set3 H2.out hT) (keep_set3 H3.out))
  · refine bodyPost_ret (v := .agg #[.int .i64 3, .int .i64 0, .string (wordAt i)]) (by simp [results, Tryz.results68, go_sem, c0, c1, c2]) rfl (typed_end ⟨3, 0, wordAt i⟩ k (.inr (.inr (.inr ⟨rfl, rfl, i, hi, rfl⟩))) (.inl (by simp_all)) (tape_set3 H2.out hT) (keep_set3 H3.out))
  · rename_i g1 g2 g3
    have hk : k < 1 ∨ 3 < k := by simp at g1 g2 g3; omega
    clear g1 g2 g3
    refine bodyPost_ret (v := .agg #[.int .i64 0, .int .i64 0, .string ⟨#[]⟩]) (by simp [results, Tryz.results68, go_sem]) rfl (typed_end ⟨0, 0, ⟨#[]⟩⟩ k (.inl ⟨rfl, rfl, rfl⟩) (.inr ⟨rfl, hk⟩) (H.out.alloc _) ((Keep.refl (At T) w).alloc _))

end Go.Proofs.YtpnigfmclmfjaaaGreatDoor

namespace Go.Proofs.YtpnigfmclmfjaaaGreatDoor
open Go.RowKit

theorem heap_first {w : World} {o1 o2 o3 : Obj} : (((w.alloc o1).alloc o2).alloc o3).heap[w.heap.size]? = some o1 := by
  have h := ((Keep.refl (fun _ => False) (w.alloc o1)).alloc o2 |>.alloc o3).block w.heap.size (by simp) id
  exact h.trans (heap_alloc_new w o1)

/-- Three new blocks of two cells. -/
theorem world3 {w W : World} {a b c d e f : Value} {t1 t2 t3 : TypeId} (h : ((w.alloc (.cells #[a, b] t1)).alloc (.cells #[c, d] t2)).alloc (.cells #[e, f] t3) = W) :
    W.cell? ⟨w.heap.size, 0, none⟩ = some a ∧ W.cell? ⟨w.heap.size, 1, none⟩ = some b ∧ W.cell? ⟨w.heap.size + 1, 0, none⟩ = some c ∧ W.cell? ⟨w.heap.size + 1, 1, none⟩ = some d ∧ Below w.heap.size w W ∧ W.heap.size = w.heap.size + 3 ∧ W.heap[w.heap.size + 1 + 1]? = some (.cells #[e, f] t3 (0, 0)) := by
  subst h
  obtain ⟨p1, p2, _⟩ := blk2 (heap_first (w := w) (o1 := .cells #[a, b] t1) (o2 := .cells #[c, d] t2) (o3 := .cells #[e, f] t3))
  obtain ⟨q1, q2, _⟩ := blk2 (heap_mid (w := w) (o1 := .cells #[a, b] t1) (o2 := .cells #[c, d] t2) (o3 := .cells #[e, f] t3))
  exact ⟨p1, p2, q1, q2, by go_grown, by simp, heap_new2⟩

/-- Frames with one more, in new memory; the tables as they were. -/
def InPost (M : Nat → Prop) (fs : List Frm) (vt : Value) (w : World) (e : Ending) (w' : World) : Prop := ∃ a c, e = .returned (.agg #[.slice a fs.length c, vt]) ∧ FrmsR M w' (.slice a fs.length c) fs ∧ Below w.heap.size w w'

/-- M, and what was made from w on below lo. -/
def MOr (M : Nat → Prop) (s lo : Nat) (k : Nat) : Prop := M k ∨ (s ≤ k ∧ k < lo)

theorem in_end {M : Nat → Prop} {lo : Nat} {w w8 : World} {v8 : Value} {fs : List Frm} (h : RowsO lo w8 201 4 (FrmR M w) v8 fs) (hlo : w.heap.size ≤ lo) (hb : Below w.heap.size w w8) (hM : ∀ k, w.heap.size ≤ k → ¬ M k) :
    ∃ a p, v8 = .slice a fs.length p ∧ FrmsR (MOr M w.heap.size lo) w8 (.slice a fs.length p) fs := by
  have h' := h.imp (R' := FrmR (MOr M w.heap.size lo) w8) fun x _ cs hc => FrmR.keep (hc.weak fun k hk h => h.elim id fun h => by omega) (.bel hb)
  obtain ⟨a, p, rfl, _⟩ := h'.shape
  exact ⟨a, p, rfl, h'.rows fun k h1 _ h => h.elim (hM k (by omega)) fun h => by omega⟩

theorem in_fin {M : Nat → Prop} {w w8 : World} {a : Option Addr} {p : Nat} {fs : List Frm} {u1 u2 vt : Value} (h : FrmsR (MOr M w.heap.size (w.heap.size + 1 + 1 + 1)) w8 (.slice a fs.length p) fs) (hb : Below w.heap.size w w8) :
    InPost M fs vt w (.returned (.agg #[.slice a fs.length p, vt])) ((w8.setCell ⟨w.heap.size + 1 + 1, 0, none⟩ u1).setCell ⟨w.heap.size + 1 + 1, 1, none⟩ u2) := by
  have ks : Keep (At (w.heap.size + 1 + 1)) w8 ((w8.setCell ⟨w.heap.size + 1 + 1, 0, none⟩ u1).setCell ⟨w.heap.size + 1 + 1, 1, none⟩ u2) := ((Keep.refl (At (w.heap.size + 1 + 1)) w8).setCell (p := ⟨w.heap.size + 1 + 1, 0, none⟩) (fun _ => rfl) _).setCell (p := ⟨w.heap.size + 1 + 1, 1, none⟩) (fun _ => rfl) _
  refine ⟨a, p, rfl, (h.keep (ks.weak fun k _ h => .inr (by unfold At at h; omega))).weak fun k _ h => .inl h, hb.trans (ks.toBelow hb.size fun k hk h => by unfold At at h; omega)⟩

set_option maxRecDepth 100000 in
set_option maxHeartbeats 4000000 in
theorem inside_w {M : Nat → Prop} (vf vt : Value) (fs : List Frm) (nm : ByteArray) (vc : Value) (cols : List Col) (ta : Option Addr) (tn tc : Nat) (w : World) (hvt : vt = .slice ta tn tc) (hf : FrmsR M w vf fs) (hc : ColsR M w vc cols) (hM : ∀ k, w.heap.size ≤ k → ¬ M k) (hN : fs.length ≤ 1000) :
    Calls Tryz.prog 145 #[.agg #[vf, vt], .agg #[.string nm, vc]] w (InPost M (fs ++ [⟨nm, false, cols⟩]) vt w) := by
  subst hvt
  obtain ⟨a2, p2, rfl, _⟩ := hf.shape
  obtain ⟨ca, cc, rfl, _⟩ := hc.shape
  have HF := Lib.hid hf
  have HC := Lib.hid hc
  have HM := Lib.hid hM
  have tok1 : Hid True := trivial
  clear hf hc hM
  go_enter Tryz.func145, Tryz.ntmps145
  go_wp2_with fail
  generalize hW : (((w.alloc _).alloc _).alloc _) = W0
  obtain ⟨s0, s0b, s1, s2, hb0, hz0, hr0⟩ := world3 hW
  have hz1 : w.heap.size < W0.heap.size := by omega
  have hz2 : w.heap.size + 1 < W0.heap.size := by omega
  have hz3 : w.heap.size + 1 + 1 < W0.heap.size := by omega
  have HB0 := Lib.hid hb0
  have HR0 := Lib.hid hr0
  have HZ0 := Lib.hid hz0
  clear hW hb0 hz0 hr0
  go_region_held3 (fun w' => w'.cell? ⟨w.heap.size, 0, none⟩ = some (.slice a2 fs.length p2) ∧ w'.cell? ⟨w.heap.size + 1, 0, none⟩ = some (.string nm) ∧ w'.cell? ⟨w.heap.size + 1, 1, none⟩ = some (.slice ca cols.length cc))
    (first | (go_split_ands; first | with_reducible exact ⟨x0, x1, x2⟩ | with_reducible exact ⟨u0, u1, u2⟩ | with_reducible exact ⟨s0, s1, s2⟩) | go_keep)
    (first
      | (have _t := tok1; refine step_app0 (α := Frm) (by rfl) _ _ _ (by rfl) 201 _ 4 72 Tryz.underlying61 infoFrame (by rfl) (by decide) (R := FrmR M w) (M := M) (w.heap.size + 1 + 1 + 1) (.slice none 0 0) (.slice a2 fs.length p2) [] fs (by rfl) (by rfl) (RowsO.nil ..) (rowsR_later HF.out (.bel (by first | exact drew_below HB0.out | exact drew_below (HB0.out.alloc (Nat.le_of_lt hz1) _) | exact (drew_below HB0.out).alloc (Nat.le_of_lt hz1) _))) (fun y _ cs h => frmR_one _ y cs h) (by simp; omega) (by simp [maxLen]; omega) (by have := HZ0.out; simp; omega) ?_; intro v7 w7 ho hk; have hb7 := bel_nil hk; have hz7 := hb7.size; (try simp only [World.size_drew, World.size_alloc] at hb7 hz7); have hB7 : Below w.heap.size w w7 := Below.trans (B := w.heap.size) (by first | exact drew_below HB0.out | exact drew_below (HB0.out.alloc (Nat.le_of_lt hz1) _) | exact (drew_below HB0.out).alloc (Nat.le_of_lt hz1) _) (hb7.mono (by omega)); have hB7' : Below W0.heap.size W0 w7 := Below.trans (B := W0.heap.size) (by first | exact drew_below (Below.refl _ _) | exact drew_below ((Below.refl _ _).alloc (Nat.le_refl _) _) | exact (drew_below (Below.refl _ _)).alloc (Nat.le_refl _) _) (hb7.mono (by omega)); have u0 := (hB7'.cell (p := ⟨w.heap.size, 0, none⟩) hz1).trans s0; have u0b := (hB7'.cell (p := ⟨w.heap.size, 1, none⟩) hz1).trans s0b; have u1 := (hB7'.cell (p := ⟨w.heap.size + 1, 0, none⟩) hz2).trans s1; have u2 := (hB7'.cell (p := ⟨w.heap.size + 1, 1, none⟩) hz2).trans s2; (first | have HX7 := Lib.hid ((hb7.block W0.heap.size (by omega)).trans (show _ = some (.cells #[.string nm, .bool false, .slice ca cols.length cc, .slice none 0 0] 201 (0, 0)) by first | exact heap_alloc_new W0 _ | exact heap_alloc_new W0.drew _)) | skip); have HR7 := Lib.hid ((hB7'.block (w.heap.size + 1 + 1) hz3).trans HR0.out); have HO7 := Lib.hid ho; have HB7 := Lib.hid hB7; have HB7' := Lib.hid hB7'; clear ho hk hb7 hB7 hB7' tok1)
      | (go_loud (refine step_app (α := Frm) (by rfl) _ _ _ (by rfl) 201 _ 4 72 Tryz.underlying61 infoFrame (by rfl) (by decide) (R := FrmR M w) (M := M) (w.heap.size + 1 + 1 + 1) v7 (.slice (some ⟨w7.heap.size, 0, none⟩) 1 1) fs [⟨nm, false, cols⟩] (by rfl) (by rfl) (RowsO.kept HO7.out ((Keep.refl (fun _ => False) w7).alloc _) (fun _ _ => id) fun _ _ _ h => h) (rows_one_at (size := 4) (R := FrmR M w) (arr := #[.string nm, .bool false, .slice ca cols.length cc, .slice none 0 0]) (e := 201) (Frm.mk nm false cols) (heap_alloc_new w7 _) (HM.out _ (by omega)) rfl (frm_cells HC.out)) (by simp) (fun y _ cs h => frmR_one _ y cs h) (by simp; omega) (by simp [maxLen]; omega) (by simp; omega) ?_; intro v8 w8 ho hk _; have HO8 := Lib.hid ho; have HK8 := Lib.hid (((Keep.refl (OwnB v7) w7).alloc _).trans hk); have hO7 : ∀ k, OwnB v7 k → w.heap.size + 1 + 1 + 1 ≤ k := (fun k h => (RowsO.lt HO7.out h).1); have K8 := HK8.out; have x0 := (K8.cell (b := w.heap.size) (o := 0) (by omega) (fun h => by have := hO7 _ h; omega)).trans u0; have x0b := (K8.cell (b := w.heap.size) (o := 1) (by omega) (fun h => by have := hO7 _ h; omega)).trans u0b; have x1 := (K8.cell (b := w.heap.size + 1) (o := 0) (by omega) (fun h => by have := hO7 _ h; omega)).trans u1; have x2 := (K8.cell (b := w.heap.size + 1) (o := 1) (by omega) (fun h => by have := hO7 _ h; omega)).trans u2; have hr8 := (K8.block (w.heap.size + 1 + 1) (by omega) (fun h => by have := hO7 _ h; omega)).trans HR7.out; have HR8 := Lib.hid hr8; have HB8 := Lib.hid (HB7.out.trans (K8.toBelow (B := w.heap.size) (by omega) fun k hk h => by have := hO7 k h; omega)); clear ho hk hO7 K8 hr8))
      | (go_loud (refine step_app (α := Frm) (by rfl) _ _ _ (by rfl) 201 _ 4 72 Tryz.underlying61 infoFrame (by rfl) (by decide) (R := FrmR M w) (M := M) (w.heap.size + 1 + 1 + 1) v7 (.slice (some ⟨W0.heap.size, 0, none⟩) 1 1) fs [⟨nm, false, cols⟩] (by rfl) (by rfl) HO7.out (rows_one_at (size := 4) (R := FrmR M w) (Frm.mk nm false cols) HX7.out (HM.out _ (Nat.le_of_lt hz1)) rfl (frm_cells HC.out)) (by simp) (fun y _ cs h => frmR_one _ y cs h) (by simp; omega) (by simp [maxLen]; omega) (by omega) ?_; intro v8 w8 ho hk _; have HO8 := Lib.hid ho; have HK8 := Lib.hid hk; have hO7 : ∀ k, OwnB v7 k → w.heap.size + 1 + 1 + 1 ≤ k := (fun k h => (RowsO.lt HO7.out h).1); have K8 := HK8.out; have x0 := (K8.cell (b := w.heap.size) (o := 0) (by omega) (fun h => by have := hO7 _ h; omega)).trans u0; have x0b := (K8.cell (b := w.heap.size) (o := 1) (by omega) (fun h => by have := hO7 _ h; omega)).trans u0b; have x1 := (K8.cell (b := w.heap.size + 1) (o := 0) (by omega) (fun h => by have := hO7 _ h; omega)).trans u1; have x2 := (K8.cell (b := w.heap.size + 1) (o := 1) (by omega) (fun h => by have := hO7 _ h; omega)).trans u2; have hr8 := (K8.block (w.heap.size + 1 + 1) (by omega) (fun h => by have := hO7 _ h; omega)).trans HR7.out; have HR8 := Lib.hid hr8; have HB8 := Lib.hid (HB7.out.trans (K8.toBelow (B := w.heap.size) (by omega) fun k hk h => by have := hO7 k h; omega)); clear ho hk hO7 K8 hr8)))
  all_goals
    obtain ⟨a8, p8, hv8, hf8⟩ := in_end HO8.out (by omega) HB8.out HM.out
    have hlen : (fs ++ [Frm.mk nm false cols]).length = fs.length + 1 := by simp
    rw [hlen] at hv8 hf8
    subst hv8
    obtain ⟨r0, r1, rf0, rf1, rz⟩ := blk2 HR8.out
    have HF8 := Lib.hid hf8
    have HL := Lib.hid hlen
    clear hf8 hlen
    go_wp2_with fail
    refine bodyPost_ret (v := .agg #[.slice a8 (fs.length + 1) p8, .slice ta tn tc]) (by simp [results, Tryz.results145, go_sem, r0, r1]) rfl ?_
    rw [← HL.out]
    exact in_fin (by rw [HL.out]; exact HF8.out) HB8.out

end Go.Proofs.YtpnigfmclmfjaaaGreatDoor

namespace Go.Proofs.YtpnigfmclmfjaaaGreatDoor
open Go.RowKit

def bareCol (c : Col) : Col := ⟨c.name, c.type, false, false⟩

set_option maxHeartbeats 400000 in
theorem copyRows_nil (w : World) : Calls Tryz.prog 295 #[.slice none 0 0] w fun e w' => e = .returned (.slice none 0 0) ∧ w = w' := by
  go_enter Tryz.func295, Tryz.ntmps295
  go_wp2
  go_rounds 1
  go_ret
  exact ⟨rfl, rfl⟩

/-- A table without rows, in new memory. -/
def TblPost (s : Sch) (w : World) (e : Ending) (w' : World) : Prop := ∃ vc, e = .returned (.agg #[.string s.name, vc, .int .i64 1, .slice none 0 0]) ∧ ColsR (Out w.heap.size w'.heap.size) w' vc s.cols ∧ Below w.heap.size w w'

theorem blk4_set1 {w : World} {S : Nat} {a b c d v : Value} {e : TypeId} (h : w.heap[S]? = some (.cells #[a, b, c, d] e (0, 0))) : (w.setCell ⟨S, 1, none⟩ v).heap[S]? = some (.cells #[a, v, c, d] e (0, 0)) := by
  simp [World.setCell, Array.getElem?_modify, h]
theorem blk4f {w : World} {S : Nat} {a b c d : Value} {e : TypeId} (h : w.heap[S]? = some (.cells #[a, b, c, d] e (0, 0))) : w.frozen? ⟨S, 0, none⟩ = false ∧ w.frozen? ⟨S, 1, none⟩ = false := by
  simp [World.frozen?, h]

theorem cols_snoc_end {w wr w' : World} {B : Nat} {v v' : Value} {e : TypeId} {nm : ByteArray} {xs : List Col} (hB : w.heap.size + 1 < B) (hS : wr.heap[B]? = some (.cells #[.string nm, v, .int .i64 1, .slice none 0 0] e (0, 0))) (hR : wr.heap[w.heap.size + 1]? = some (.cells #[.string ⟨#[]⟩, .slice none 0 0, .int .i64 0, .slice none 0 0] e (0, 0)))
    (hO : ∀ k, OwnB v k → B + 1 ≤ k) (hk : Keep (OwnB v) wr w') (hG : RowsG (B + 1) w' 186 4 ColRR v' xs) (hb : Below w.heap.size w wr) :
    (w'.setCell ⟨B, 1, none⟩ v').heap[B]? = some (.cells #[.string nm, v', .int .i64 1, .slice none 0 0] e (0, 0)) ∧ (w'.setCell ⟨B, 1, none⟩ v').heap[w.heap.size + 1]? = some (.cells #[.string ⟨#[]⟩, .slice none 0 0, .int .i64 0, .slice none 0 0] e (0, 0)) ∧
      RowsG (B + 1) (w'.setCell ⟨B, 1, none⟩ v') 186 4 ColRR v' xs ∧ Below w.heap.size w (w'.setCell ⟨B, 1, none⟩ v') := by
  have ks : Keep (At B) w' (w'.setCell ⟨B, 1, none⟩ v') := (Keep.refl (At B) w').setCell (p := ⟨B, 1, none⟩) (fun _ => rfl) _
  have hS' : w'.heap[B]? = some (.cells #[.string nm, v, .int .i64 1, .slice none 0 0] e (0, 0)) := (hk.block _ (Array.getElem?_eq_some_iff.1 hS).1 fun h => by have := hO _ h; omega).trans hS
  have hR' : w'.heap[w.heap.size + 1]? = some (.cells #[.string ⟨#[]⟩, .slice none 0 0, .int .i64 0, .slice none 0 0] e (0, 0)) := (hk.block _ (Array.getElem?_eq_some_iff.1 hR).1 fun h => by have := hO _ h; omega).trans hR
  refine ⟨blk4_set1 hS', ?_, hG.keep colStable ks fun k h1 _ h => by unfold At at h; omega, ?_⟩
  · rw [Below.heap_setCell _ _ _ _ (by simp; omega)]
    exact hR'
  · have h1 : Below w.heap.size w w' := hb.trans (hk.toBelow hb.size fun k hk h => by have := hO _ h; omega)
    exact h1.setCell (by simp; omega) _

theorem transition_end {w w' w'' : World} {B : Nat} {v : Value} {nm : ByteArray} {xs : List Col} (hG : RowsG (B + 1) w' 186 4 ColRR v xs) (hB : w.heap.size + 1 < B) (hb : Below w.heap.size w w') (hk : Keep (At (w.heap.size + 1)) w' w'') :
    TblPost ⟨nm, xs⟩ w (.returned (.agg #[.string nm, v, .int .i64 1, .slice none 0 0])) w'' := by
  refine ⟨v, rfl, ?_, hb.trans (hk.toBelow hb.size fun k h1 h => by unfold At at h; omega)⟩
  have h1 := hG.keep colStable hk fun k h1 _ h => by unfold At at h; omega
  have h2 := h1.rows colStable
  refine RowsR.weak h2 (fun k hk' h => ?_) fun _ _ _ h => h
  unfold Out at h
  unfold Old
  omega

set_option maxRecDepth 100000 in
set_option maxHeartbeats 2000000 in
theorem transition_any (nm s : ByteArray) (vc : Value) (cols : List Col) (w : World) (hc : ColsR NoM w vc cols) (hN : cols.length ≤ 1000) :
    Calls Tryz.prog 275 #[.string nm, .agg #[.string s, vc], .slice none 0 0] w (TblPost ⟨nm, cols.map bareCol⟩ w) := by
  obtain ⟨ca, cc, rfl, hm⟩ := hc.shape
  unfold maxLen at hm
  have HC := Lib.hid hc
  clear hc
  go_enter Tryz.func275, Tryz.ntmps275
  go_wp2_with (go_at_call 295; refine (copyRows_nil _).mono ?_; rintro e w1 ⟨rfl, rfl⟩)
  have g0 : (((w.alloc (.cells #[.string s, .slice ca cols.length cc] 24)).alloc (.cells #[.string ⟨#[]⟩, .slice none 0 0, .int .i64 0, .slice none 0 0] 267)).alloc (.cells #[.string nm, .slice none 0 0, .int .i64 1, .slice none 0 0] 267)).heap[w.heap.size + 1 + 1]? = some (.cells #[.string nm, .slice none 0 0, .int .i64 1, .slice none 0 0] 267 (0, 0)) := heap_new2
  have g1 : (((w.alloc (.cells #[.string s, .slice ca cols.length cc] 24)).alloc (.cells #[.string ⟨#[]⟩, .slice none 0 0, .int .i64 0, .slice none 0 0] 267)).alloc (.cells #[.string nm, .slice none 0 0, .int .i64 1, .slice none 0 0] 267)).heap[w.heap.size + 1]? = some (.cells #[.string ⟨#[]⟩, .slice none 0 0, .int .i64 0, .slice none 0 0] 267 (0, 0)) := heap_mid
  have G0 := Lib.hid g0
  have G1 := Lib.hid g1
  clear g0 g1
  go_loopw [18] (fun i wr => ∃ (j : Nat) (v : Value), j ≤ cols.length ∧ i = .int .i64 j ∧ wr.heap[w.heap.size + 1 + 1]? = some (.cells #[.string nm, v, .int .i64 1, .slice none 0 0] 267 (0, 0)) ∧ wr.heap[w.heap.size + 1]? = some (.cells #[.string ⟨#[]⟩, .slice none 0 0, .int .i64 0, .slice none 0 0] 267 (0, 0)) ∧
      RowsG (w.heap.size + 1 + 1 + 1) wr 186 4 ColRR v ((cols.take j).map bareCol) ∧ Below w.heap.size w wr) (fun i _ => cols.length - (intOf i).toNat)
  case atStart => exact ⟨0, .slice none 0 0, Nat.zero_le _, rfl, G0.out, G1.out, RowsG.nil .., by go_grown⟩
  case round =>
    obtain ⟨j, v, hj, rfl, hB, hR, hG, hb⟩ := hrel
    obtain ⟨va, vp, rfl, hvm⟩ := hG.shape
    have hlj : ((cols.take j).map bareCol).length = j := by simp; omega
    rw [hlj] at hB hG hvm
    obtain ⟨b0, b1, b2, b3, bf2, bf3, bz⟩ := blk4 hB
    obtain ⟨bf0, bf1⟩ := blk4f hB
    obtain ⟨r0, r1, r2, r3, rf2, rf3, rz⟩ := blk4 hR
    obtain ⟨rf0, rf1⟩ := blk4f hR
    have HB := Lib.hid hb
    have HG := Lib.hid hG
    have HBB := Lib.hid hB
    have HRR := Lib.hid hR
    clear hb hG hB hR
    by_cases hlt : j < cols.length
    · rcases HC.out.open with ⟨h, h'⟩ | ⟨b', o', cap', hv', hbT, hbs, hl, hm', hx⟩
      · subst h'; simp at hlt
      · simp only [Value.slice.injEq] at hv'
        obtain ⟨rfl, _, rfl⟩ := hv'
        have hxj : cols[j]? = some cols[j] := List.getElem?_eq_getElem hlt
        obtain ⟨cs, rfl, _, hcs⟩ := hx j _ hxj
        generalize cols[j] = c at hxj hcs
        have hcs' := hcs.keep (M := NoM) (.bel HB.out) id
        obtain ⟨c0, c1, c2, c3⟩ := hcs'.c4
        have HX := Lib.hid hxj
        have hz : w.heap.size ≤ wr.heap.size := HB.out.size
        clear hx hcs hcs' hxj
        have HLEN := Lib.hid hlj
        clear hlj
        generalize hxs : (cols.take j).map bareCol = xs at HG HLEN
        have HXS := Lib.hid hxs
        clear hxs
        go_wp2_with (at_builtin; go_loud (refine wpList_appG (w := wr.alloc (.cells #[.string c.name, .int .i64 c.type, .bool c.notNull, .bool c.key] 186)) colStable rfl _ _ 22 rfl 186 _ 4 32 Tryz.underlying22 infoCol rfl (by decide) (w.heap.size + 1 + 1 + 1) (.slice va j vp) (wr.heap.size + 1) #[.string c.name, .int .i64 c.type, .bool false, .bool false] xs (bareCol c) rfl rfl (by simp) (HG.out.bel colStable ((Below.refl _ _).alloc (Nat.le_refl _) _)) rfl rfl ?_ ?_ ?_ ?_; (focus (have := HLEN.out; omega)); (focus (have := HLEN.out; unfold maxLen; omega)); (focus (simp; omega)); intro v2 w2 ho hk; obtain ⟨va2, vp2, rfl, hvm2⟩ := ho.shape; simp only [List.length_append, List.length_singleton] at ho; have hO : ∀ k, OwnB (.slice va j vp) k → w.heap.size + 1 + 1 + 1 ≤ k := fun k h => (RowsO.lt HG.out h).1; have HO := Lib.hid hO; have hB2 := ((((Keep.refl _ wr).alloc _).trans hk).block _ bz (fun h => by have := hO _ h; omega)).trans HBB.out; obtain ⟨d0, d1, d2, d3, df2, df3, dz⟩ := blk4 hB2; obtain ⟨df0, df1⟩ := blk4f hB2; have HK := Lib.hid (((Keep.refl _ wr).alloc _).trans hk); have HG2 := Lib.hid ho; clear ho hO hk hB2))
        obtain ⟨e1, e2, e3, e4⟩ := cols_snoc_end (nm := nm) (by omega : w.heap.size + 1 < w.heap.size + 1 + 1) HBB.out HRR.out HO.out HK.out HG2.out HB.out
        go_roundw
        case rel =>
          refine ⟨j + 1, _, by omega, by go_num, e1, e2, ?_, e4⟩
          rw [List.take_add_one, HX.out, List.map_append, HXS.out]
          exact e3
        case measure => simp [intOf]; omega
    · obtain rfl : j = cols.length := by omega
      go_wp2_with fail
      refine bodyPost_ret (v := .agg #[.string nm, .slice va cols.length vp, .int .i64 1, .slice none 0 0]) (by simp [results, Tryz.results275, go_sem, r0, r1, r2, r3]) rfl ?_
      rw [List.take_length] at HG
      exact transition_end HG.out (by omega) HB.out (((((Keep.refl (At (w.heap.size + 1)) wr).setCell (p := ⟨w.heap.size + 1, 0, none⟩) (fun _ => rfl) _).setCell (p := ⟨w.heap.size + 1, 1, none⟩) (fun _ => rfl) _).setCell (p := ⟨w.heap.size + 1, 2, none⟩) (fun _ => rfl) _).setCell (p := ⟨w.heap.size + 1, 3, none⟩) (fun _ => rfl) _)

def insName : ByteArray := ⟨#[73, 78, 83, 69, 82, 84, 69, 68]⟩
def delName : ByteArray := ⟨#[68, 69, 76, 69, 84, 69, 68]⟩
def transL (r : Int) (cols : List Col) : List Sch := if r = 0 then [⟨insName, cols.map bareCol⟩] else if r = 1 then [⟨delName, cols.map bareCol⟩, ⟨insName, cols.map bareCol⟩] else [⟨delName, cols.map bareCol⟩]

def TblsPost (l : List Sch) (w : World) (e : Ending) (w' : World) : Prop := ∃ v, e = .returned v ∧ TblsR (Out w.heap.size w'.heap.size) w' v l ∧ Below w.heap.size w w'

theorem out_new {lo : Nat} {w : World} (h : lo ≤ w.heap.size) (o : Obj) : ¬ Out lo (w.alloc o).heap.size w.heap.size := by unfold Out; simp; omega
theorem out_grow {lo hi hi' : Nat} (h : hi ≤ hi') : ∀ k, k < hi → Out lo hi' k → Out lo hi k := fun k hk h => by unfold Out at h ⊢; omega

theorem tbl_one {w w1 : World} {v : Value} {s : Sch} (h : ColsR (Out w.heap.size w1.heap.size) w1 v s.cols) (hb : Below w.heap.size w w1) :
    TblsR (Out w.heap.size (w1.alloc (.cells #[.string s.name, v, .int .i64 1, .slice none 0 0] 267)).heap.size) (w1.alloc (.cells #[.string s.name, v, .int .i64 1, .slice none 0 0] 267)) (.slice (some ⟨w1.heap.size, 0, none⟩) 1 1) [s] :=
  rows_one (R := TblR _ _) s rfl (out_new hb.size _) rfl ⟨v, 1, none, 0, 0, rfl, (h.keep ((Keep.refl _ w1).alloc _)).weak fun k hk h => by simp [Out] at h hk ⊢; omega⟩

set_option maxRecDepth 100000 in
set_option maxHeartbeats 1000000 in
theorem trans_1 (n1 n2 n3 s : ByteArray) (vc : Value) (cols : List Col) (w : World) (hc : ColsR NoM w vc cols) (hN : cols.length ≤ 1000) :
    Calls Tryz.prog 230 #[.agg #[.string n1, .string n2, .bool false, .int .i64 1, .slice none 0 0, .bool false, .slice none 0 0, .slice none 0 0, .slice none 0 0, .slice none 0 0, .slice none 0 0], .agg #[.string s, vc], .agg #[.string n3, .slice none 0 0, .slice none 0 0, .slice none 0 0]] w (TblsPost [⟨insName, cols.map bareCol⟩] w) := by
  obtain ⟨ca, cc, rfl, hm⟩ := hc.shape
  have HC := Lib.hid fun (w' : World) (h : Below w.heap.size w w') => hc.keep (.bel h)
  clear hc
  go_enter Tryz.func230, Tryz.ntmps230
  go_wp2_with fail
  refine wp_loop_rounds 1 ?_
  rw [rounds_succ]
  go_wp2_with (go_at_call 275; go_loud (refine (transition_any _ _ _ cols _ (HC.out _ (by go_grown)) hN).mono ?_; rintro e w1 ⟨v1, rfl, h1, hb⟩; obtain ⟨a1, c1, hv1, _⟩ := h1.shape; rw [show (Sch.cols ⟨_, cols.map bareCol⟩).length = cols.length from List.length_map ..] at hv1; subst hv1; have hb' : Below w.heap.size w w1 := Below.trans (by go_grown) (hb.mono (by simp <;> omega)); have HB := Lib.hid hb'; have H1 := Lib.hid (h1.weak (M' := Out w.heap.size w1.heap.size) fun k hk h => by unfold Out at h ⊢; simp <;> omega); clear h1 hb hb'))
  go_ret
  exact ⟨_, rfl, tbl_one (s := ⟨insName, cols.map bareCol⟩) H1.out HB.out, HB.out.alloc HB.out.size _⟩

set_option maxRecDepth 100000 in
set_option maxHeartbeats 1000000 in
theorem trans_3 (n1 n2 n3 s : ByteArray) (vc : Value) (cols : List Col) (w : World) (hc : ColsR NoM w vc cols) (hN : cols.length ≤ 1000) :
    Calls Tryz.prog 230 #[.agg #[.string n1, .string n2, .bool false, .int .i64 3, .slice none 0 0, .bool false, .slice none 0 0, .slice none 0 0, .slice none 0 0, .slice none 0 0, .slice none 0 0], .agg #[.string s, vc], .agg #[.string n3, .slice none 0 0, .slice none 0 0, .slice none 0 0]] w (TblsPost [⟨delName, cols.map bareCol⟩] w) := by
  obtain ⟨ca, cc, rfl, hm⟩ := hc.shape
  have HC := Lib.hid fun (w' : World) (h : Below w.heap.size w w') => hc.keep (.bel h)
  clear hc
  go_enter Tryz.func230, Tryz.ntmps230
  go_wp2_with fail
  refine wp_loop_rounds 1 ?_
  rw [rounds_succ]
  go_wp2_with (go_at_call 275; go_loud (refine (transition_any _ _ _ cols _ (HC.out _ (by go_grown)) hN).mono ?_; rintro e w1 ⟨v1, rfl, h1, hb⟩; obtain ⟨a1, c1, hv1, _⟩ := h1.shape; rw [show (Sch.cols ⟨_, cols.map bareCol⟩).length = cols.length from List.length_map ..] at hv1; subst hv1; have hb' : Below w.heap.size w w1 := Below.trans (by go_grown) (hb.mono (by simp <;> omega)); have HB := Lib.hid hb'; have H1 := Lib.hid (h1.weak (M' := Out w.heap.size w1.heap.size) fun k hk h => by unfold Out at h ⊢; simp <;> omega); clear h1 hb hb'))
  go_ret
  exact ⟨_, rfl, tbl_one (s := ⟨delName, cols.map bareCol⟩) H1.out HB.out, HB.out.alloc HB.out.size _⟩

theorem tbl_two {w w2 : World} {v1 v2 : Value} {s1 s2 : Sch} (h1 : ColsR (Out w.heap.size w2.heap.size) w2 v1 s1.cols) (h2 : ColsR (Out w.heap.size w2.heap.size) w2 v2 s2.cols) (hb : Below w.heap.size w w2) :
    TblsR (Out w.heap.size (w2.alloc (.cells #[.string s1.name, v1, .int .i64 1, .slice none 0 0, .string s2.name, v2, .int .i64 1, .slice none 0 0] 267)).heap.size) (w2.alloc (.cells #[.string s1.name, v1, .int .i64 1, .slice none 0 0, .string s2.name, v2, .int .i64 1, .slice none 0 0] 267)) (.slice (some ⟨w2.heap.size, 0, none⟩) 2 2) [s1, s2] :=
  rows_two (R := TblR _ _) s1 s2 [.string s1.name, v1, .int .i64 1, .slice none 0 0] [.string s2.name, v2, .int .i64 1, .slice none 0 0] rfl (out_new hb.size _) rfl rfl rfl
    ⟨v1, 1, none, 0, 0, rfl, (h1.keep ((Keep.refl _ w2).alloc _)).weak fun k hk h => by simp [Out] at h hk ⊢; omega⟩ ⟨v2, 1, none, 0, 0, rfl, (h2.keep ((Keep.refl _ w2).alloc _)).weak fun k hk h => by simp [Out] at h hk ⊢; omega⟩

set_option maxRecDepth 100000 in
set_option maxHeartbeats 2000000 in
theorem trans_2 (n1 n2 n3 s : ByteArray) (vc : Value) (cols : List Col) (w : World) (hc : ColsR NoM w vc cols) (hN : cols.length ≤ 1000) :
    Calls Tryz.prog 230 #[.agg #[.string n1, .string n2, .bool false, .int .i64 2, .slice none 0 0, .bool false, .slice none 0 0, .slice none 0 0, .slice none 0 0, .slice none 0 0, .slice none 0 0], .agg #[.string s, vc], .agg #[.string n3, .slice none 0 0, .slice none 0 0, .slice none 0 0]] w (TblsPost [⟨delName, cols.map bareCol⟩, ⟨insName, cols.map bareCol⟩] w) := by
  obtain ⟨ca, cc, rfl, hm⟩ := hc.shape
  have HC := Lib.hid fun (w' : World) (h : Below w.heap.size w w') => hc.keep (.bel h)
  have tok1 : Hid True := trivial
  clear hc
  go_enter Tryz.func230, Tryz.ntmps230
  go_wp2_with fail
  go_rounds 1
  go_wp2_with fail
  go_region_held3 (fun w' => w'.cell? ⟨w.heap.size + 1, 0, none⟩ = some (.string s) ∧ w'.cell? ⟨w.heap.size + 1, 1, none⟩ = some (.slice ca cols.length cc))
    (first | (go_split_ands; first | with_reducible exact ⟨p2, q2⟩ | with_reducible exact ⟨p1, q1⟩) | go_keep)
    (first
      | (go_at_call 275; have _t := tok1; refine (transition_any _ _ _ cols _ (HC.out _ (by exact drew_below (by go_grown))) hN).mono ?_; rintro e w1 ⟨v1, rfl, h1, hb⟩; obtain ⟨a1, c1, hv1, _⟩ := h1.shape; rw [show (Sch.cols ⟨_, cols.map bareCol⟩).length = cols.length from List.length_map ..] at hv1; subst hv1; have hb' : Below w.heap.size w w1 := Below.trans (drew_below (by go_grown)) (hb.mono (by simp; omega)); have p1 : w1.cell? ⟨w.heap.size + 1, 0, none⟩ = some (.string s) := (hb.cell (by simp)).trans (blk2 heap_mid).1; have q1 : w1.cell? ⟨w.heap.size + 1, 1, none⟩ = some (.slice ca cols.length cc) := (hb.cell (by simp)).trans (blk2 heap_mid).2.1; have z1 := hb.size; simp at z1; have HB := Lib.hid hb'; have H1 := Lib.hid (h1.weak (M' := Out w.heap.size w1.heap.size) fun k hk h => by unfold Out at h ⊢; simp; omega); clear h1 hb hb' tok1)
      | (go_at_call 275; refine (transition_any _ _ _ cols _ (HC.out _ HB.out) hN).mono ?_; rintro e w2 ⟨v2, rfl, h2, hb⟩; obtain ⟨a2, c2, hv2, _⟩ := h2.shape; rw [show (Sch.cols ⟨_, cols.map bareCol⟩).length = cols.length from List.length_map ..] at hv2; subst hv2; have hb' : Below w.heap.size w w2 := Below.trans HB.out (hb.mono HB.out.size); have p2 : w2.cell? ⟨w.heap.size + 1, 0, none⟩ = some (.string s) := (hb.cell (by simp; omega)).trans p1; have q2 : w2.cell? ⟨w.heap.size + 1, 1, none⟩ = some (.slice ca cols.length cc) := (hb.cell (by simp; omega)).trans q1; have z2 := hb.size; have HB2 := Lib.hid hb'; have H2 := Lib.hid (h2.weak (M' := Out w.heap.size w2.heap.size) fun k hk h => by unfold Out at h ⊢; omega); have H3 := Lib.hid ((H1.out.keep (.bel hb)).weak (M' := Out w.heap.size w2.heap.size) fun k hk h => by unfold Out at h ⊢; omega); clear h2 hb hb'))
  go_wp2_with fail
  go_ret
  exact ⟨_, rfl, tbl_two (s1 := ⟨delName, cols.map bareCol⟩) (s2 := ⟨insName, cols.map bareCol⟩) H3.out H2.out HB2.out, HB2.out.alloc HB2.out.size _⟩

theorem trans_any (r : Int) (h0 : 0 ≤ r) (h1 : r < 3) (n1 n2 n3 s : ByteArray) (vc : Value) (cols : List Col) (w : World) (hc : ColsR NoM w vc cols) (hN : cols.length ≤ 1000) :
    Calls Tryz.prog 230 #[.agg #[.string n1, .string n2, .bool false, .int .i64 (1 + r), .slice none 0 0, .bool false, .slice none 0 0, .slice none 0 0, .slice none 0 0, .slice none 0 0, .slice none 0 0], .agg #[.string s, vc], .agg #[.string n3, .slice none 0 0, .slice none 0 0, .slice none 0 0]] w (TblsPost (transL r cols) w) := by
  have h : r = 0 ∨ r = 1 ∨ r = 2 := by omega
  rcases h with rfl | rfl | rfl
  · exact trans_1 _ _ _ _ _ _ _ hc hN
  · exact trans_2 _ _ _ _ _ _ _ hc hN
  · exact trans_3 _ _ _ _ _ _ _ hc hN

end Go.Proofs.YtpnigfmclmfjaaaGreatDoor

namespace Go.Proofs.YtpnigfmclmfjaaaGreatDoor
open Go.RowKit

/-- The tables without rows, and perhaps the transition tables of t. -/
def TsOk (l : List Sch) : Prop := l = schs3 ∨ ∃ r : Int, 0 ≤ r ∧ r < 3 ∧ l = schs3 ++ transL r schT.cols
def TablesQ (w : World) (v : Value) (w' : World) : Prop := ∃ l, TsOk l ∧ TblsR (Out w.heap.size w'.heap.size) w' v l

theorem tsOk_small {l : List Sch} (h : TsOk l) : ColsSmall l := by
  have h3 : ∀ s ∈ schs3, s.cols.length ≤ 4 := by decide +kernel
  have ht : ∀ r, ∀ s ∈ transL r schT.cols, s.cols.length = 4 := by
    intro r s hs
    unfold transL at hs
    have : (schT.cols.map bareCol).length = 4 := rfl
    split at hs
    · simp at hs; subst hs; exact this
    · split at hs
      · simp at hs; rcases hs with rfl | rfl <;> exact this
      · simp at hs; subst hs; exact this
  intro s hs
  rcases h with rfl | ⟨r, _, _, rfl⟩
  · have := h3 s hs; omega
  · rcases List.mem_append.1 hs with hs | hs
    · have := h3 s hs; omega
    · have := ht r s hs; omega

theorem tsOk_length {l : List Sch} (h : TsOk l) : l.length ≤ 5 := by
  rcases h with rfl | ⟨r, _, _, rfl⟩
  · simp [schs3]
  · unfold transL
    split
    · simp [schs3]
    · split <;> simp [schs3]

theorem transL_length (r : Int) : (transL r schT.cols).length ≤ 2 := by
  unfold transL
  split
  · simp
  · split <;> simp

theorem source3 : ∀ s ∈ schs3, sourceP schs3 s.name = some s := by
  intro s hs
  simp only [schs3, List.mem_cons, List.not_mem_nil, or_false] at hs
  rcases hs with rfl | rfl | rfl
  · rw [sourceP, schs3, List.find?_cons_of_pos (by decide +kernel)]
  · rw [sourceP, schs3, List.find?_cons_of_neg (by decide +kernel), List.find?_cons_of_pos (by decide +kernel)]
  · rw [sourceP, schs3, List.find?_cons_of_neg (by decide +kernel), List.find?_cons_of_neg (by decide +kernel), List.find?_cons_of_pos (by decide +kernel)]

theorem tsOk_source {l : List Sch} (h : TsOk l) {s : Sch} (hs : s ∈ schs3) : sourceP l s.name = some s := by
  rcases h with rfl | ⟨r, _, _, rfl⟩
  · exact source3 s hs
  · have := source3 s hs
    unfold sourceP at this ⊢
    rw [List.find?_append, this]
    rfl

theorem infoTbl : (Tryz.prog.info? 267).map (fun i => (i.zero, i.size, i.bytes)) = some (some (.agg #[.string ⟨#[]⟩, .slice none 0 0, .int .i64 0, .slice none 0 0]), 4, 72) := by kernel_rfl

theorem tblStable : Stable TblR where
  keep h k := h.keep k
  weak h hM := h.weak hM
  one h u hu := by
    obtain ⟨vc, n, a, l, c, rfl, hc⟩ := h
    obtain ⟨a', c', rfl, _⟩ := hc.shape
    simp at hu
    rcases hu with rfl | rfl | rfl | rfl <;> rfl

theorem schs3_at {M : Nat → Prop} {w : World} {b o cap : Nat} (h : SchsR M w (.slice (some ⟨b, o, none⟩) 3 cap) schs3) (j : Nat) (hj : j < 3) : ∃ s vc, schs3[j]? = some s ∧ w.cell? ⟨b, o + j * 2, none⟩ = some (.string s.name) ∧ w.cell? ⟨b, o + j * 2 + 1, none⟩ = some vc ∧ ColsR M w vc s.cols := by
  rcases h.open with ⟨h, _⟩ | ⟨b', o', cap', hv, hbT, hbs, hl, hm, hx⟩
  · simp at h
  · simp only [Value.slice.injEq, Option.some.injEq, Addr.mk.injEq] at hv
    obtain ⟨⟨rfl, rfl, _⟩, _, rfl⟩ := hv
    obtain ⟨s, hs⟩ : ∃ s, schs3[j]? = some s := ⟨_, List.getElem?_eq_getElem hj⟩
    obtain ⟨cs, ⟨vc, rfl, hc⟩, _, hcs⟩ := hx j s hs
    exact ⟨s, vc, hs, hcs.c2.1, hcs.c2.2, hc⟩

theorem tables_end {T lo : Nat} {w w' : World} {v : Value} {l : List Sch} {R : Sch → List Value → Prop} (hl : TsOk l) (hO : RowsO lo w' 267 4 R v l) (hlo : w.heap.size ≤ lo) (hR : ∀ s ∈ l, ∀ cs, R s cs → TblR (Out w.heap.size w'.heap.size) w' s cs) (ht : TapeOk T w') (hk : Keep (At T) w w') :
    Gives T w (TablesQ w) (.returned v) w' :=
  ⟨v, rfl, ⟨l, hl, (hO.imp hR).rows fun k h1 h2 h => by unfold Out at h; omega⟩, ht, hk⟩

theorem tbl_up {T : Nat} {w w1 w7 : World} {v : Value} {s : Sch} {cs : List Value} (hT : T < w.heap.size) (hO : ∀ k, OwnB v k → w1.heap.size ≤ k) (k : Keep (At T) w1 w7) (h : TblR (Out w.heap.size w1.heap.size) w1 s cs) : TblR (OldOr w.heap.size v) w7 s cs :=
  (h.keep (k.weak fun k _ h => by unfold At at h; unfold Out; omega)).weak fun k _ h => h.elim (fun h => .inl h) fun h => .inr (hO k h)

theorem tbl_up0 {T : Nat} {w w1 w7 : World} {s : Sch} {cs : List Value} (hT : T < w.heap.size) (k : Keep (At T) w1 w7) (h : TblR (Out w.heap.size w1.heap.size) w1 s cs) : TblR (Out w.heap.size w7.heap.size) w7 s cs :=
  (h.keep (k.weak fun k _ h => by unfold At at h; unfold Out; omega)).weak fun k hk h => by unfold Out at h ⊢; omega

theorem tbl_up2 {w w6 w7 : World} {v : Value} {s : Sch} {cs : List Value} (hw : w.heap.size ≤ w6.heap.size) (hO : ∀ k, OwnB v k → k < w6.heap.size) (h : TblR (Out w6.heap.size w7.heap.size) w7 s cs) : TblR (OldOr w.heap.size v) w7 s cs :=
  h.weak fun k _ h => h.elim (fun h => .inl (by omega)) fun h => .inl (hO k h)

theorem tbl_up3 {w w7 w8 : World} {v : Value} {s : Sch} {cs : List Value} (k : Keep (OwnB v) w7 w8) (h : TblR (OldOr w.heap.size v) w7 s cs) : TblR (Out w.heap.size w8.heap.size) w8 s cs :=
  (h.keep (k.weak fun _ _ h => .inr h)).weak fun k hk h => .inl (by unfold Out at h; omega)

end Go.Proofs.YtpnigfmclmfjaaaGreatDoor
