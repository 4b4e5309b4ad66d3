/- Expressions that the reader makes: a column, one argument. -/
import Derived.Test.YtkhlmofcdchccaaGreatDoorP0
import Derived.Test.YtkhlmofcdchccaaGreatDoorKD2
namespace Go.Proofs.YtkhlmofcdchccaaGreatDoor
open Go.RowKit

def exCol (s : ByteArray) : Ex := .mk 2 0 false ⟨0, 0, ⟨#[]⟩⟩ ⟨#[]⟩ s [] []
def exUn (k : Int) (e : Ex) : Ex := .mk k 0 false ⟨0, 0, ⟨#[]⟩⟩ ⟨#[]⟩ ⟨#[]⟩ [e] []
/-- A value that is this expression; what it points to is not older than block lo. -/
def ExQ (lo : Nat) (x : Ex) (v : Value) (w : World) : Prop := ∃ cs : List Value, v = .agg cs.toArray ∧ EC (Old lo) w x cs

theorem ExQ.keep {lo : Nat} {M : Nat → Prop} {x : Ex} {v : Value} {w w' : World} (h : ExQ lo x v w) (k : Keep M w w') (hM : ∀ j, M j → j < lo) : ExQ lo x v w' := by
  obtain ⟨cs, rfl, hx⟩ := h
  exact ⟨cs, rfl, EC.keep (k.weak fun j _ hj => hM j hj) x cs hx⟩
theorem ExQ.low {lo lo' : Nat} {x : Ex} {v : Value} {w : World} (h : ExQ lo x v w) (hl : lo' ≤ lo) : ExQ lo' x v w := by
  obtain ⟨cs, rfl, hx⟩ := h
  exact ⟨cs, rfl, EC.weak (fun k _ hk => by unfold Old at hk ⊢; omega) x cs hx⟩
theorem ExQ.shape {lo : Nat} {x : Ex} {v : Value} {w : World} (h : ExQ lo x v w) : ∃ (a s : Option Addr) (ac sc : Nat), v = .agg #[.int .i64 x.kind, .int .i64 x.op, .bool x.no, .int .i64 x.val.kind, .int .i64 x.val.int, .string x.val.text, .string x.table, .string x.name, .slice a x.args.length ac, .slice s x.sub.length sc] := by
  obtain ⟨cs, rfl, hx⟩ := h
  obtain ⟨va, vs, rfl, ha, hs⟩ := (EC_iff ..).1 hx
  obtain ⟨aa, ac, rfl, _⟩ := ha.shape
  obtain ⟨sa, sc, rfl, _⟩ := hs.shape
  exact ⟨aa, sa, ac, sc, rfl⟩
theorem RdOk.keep {R : Nat} {en lev : Int} {l : List Tok} {w w' : World} {M : Nat → Prop} (h : RdOk R en lev l w) (k : Keep M w w') (hM : ∀ j, M j → R < j) : RdOk R en lev l w' := by
  have hz := h.lt
  obtain ⟨⟨a, c, h1, h2⟩, h3⟩ := h
  exact ⟨⟨a, c, (k.block R hz fun e => Nat.lt_irrefl _ (hM R e)).trans h1, RowsR.map h2 (k.weak fun j _ hj => Nat.le_of_lt (hM j hj)) fun _ _ _ h => h⟩, h3⟩

theorem keep10 (S : Nat) (w : World) (a0 a1 a2 a3 a4 a5 a6 a7 a8 a9 : Value) : Keep (At S) w ((((((((((w.setCell ⟨S, 0, none⟩ a0).setCell ⟨S, 1, none⟩ a1).setCell ⟨S, 2, none⟩ a2).setCell ⟨S, 3, none⟩ a3).setCell ⟨S, 4, none⟩ a4).setCell ⟨S, 5, none⟩ a5).setCell ⟨S, 6, none⟩ a6).setCell ⟨S, 7, none⟩ a7).setCell ⟨S, 8, none⟩ a8).setCell ⟨S, 9, none⟩ a9) :=
  ((((((((((Keep.refl (At S) w).setCell (p := ⟨S, 0, none⟩) (fun _ => rfl) a0).setCell (p := ⟨S, 1, none⟩) (fun _ => rfl) a1).setCell (p := ⟨S, 2, none⟩) (fun _ => rfl) a2).setCell (p := ⟨S, 3, none⟩) (fun _ => rfl) a3).setCell (p := ⟨S, 4, none⟩) (fun _ => rfl) a4).setCell (p := ⟨S, 5, none⟩) (fun _ => rfl) a5).setCell (p := ⟨S, 6, none⟩) (fun _ => rfl) a6).setCell (p := ⟨S, 7, none⟩) (fun _ => rfl) a7).setCell (p := ⟨S, 8, none⟩) (fun _ => rfl) a8).setCell (p := ⟨S, 9, none⟩) (fun _ => rfl) a9

/-- The end of a method that returns an expression in its result's cell (block S). -/
theorem ex_end {R S lo : Nat} {en lev : Int} {l : List Tok} {x : Ex} {v : Value} {w W : World} (HO : RdOk R en lev l W) (hx : ExQ lo x v W) (hk : Keep (At R) w W) (hR : R < w.heap.size) (hS : w.heap.size ≤ S) (hlo : S < lo) (a0 a1 a2 a3 a4 a5 a6 a7 a8 a9 : Value) :
    Rds R en lev l (ExQ w.heap.size x) w (.returned v) ((((((((((W.setCell ⟨S, 0, none⟩ a0).setCell ⟨S, 1, none⟩ a1).setCell ⟨S, 2, none⟩ a2).setCell ⟨S, 3, none⟩ a3).setCell ⟨S, 4, none⟩ a4).setCell ⟨S, 5, none⟩ a5).setCell ⟨S, 6, none⟩ a6).setCell ⟨S, 7, none⟩ a7).setCell ⟨S, 8, none⟩ a8).setCell ⟨S, 9, none⟩ a9) := by
  have ks := keep10 S W a0 a1 a2 a3 a4 a5 a6 a7 a8 a9
  exact ⟨v, rfl, (hx.keep ks fun j hj => by unfold At at hj; omega).low (by omega), HO.keep ks fun j hj => by unfold At at hj; omega, hk.then ks fun j hj h => by unfold At at h; omega⟩

/-- A result's block of ten cells, kept. -/
theorem box10 {R : Nat} {w w1 : World} {a0 a1 a2 a3 a4 a5 a6 a7 a8 a9 : Value} {e : TypeId} (hk : Keep (At R) (w.alloc (.cells #[a0, a1, a2, a3, a4, a5, a6, a7, a8, a9] e)) w1) (hR : R < w.heap.size) :
    w1.heap[w.heap.size]? = some (.cells #[a0, a1, a2, a3, a4, a5, a6, a7, a8, a9] e (0, 0)) ∧ w.heap.size < w1.heap.size ∧ Keep (At R) w w1 :=
  ⟨(hk.block w.heap.size (by simp) (by unfold At; omega)).trans (heap_alloc_new w _), Nat.lt_of_lt_of_le (by simp) hk.size, ((Keep.refl _ w).alloc _).trans hk⟩

set_option maxRecDepth 100000 in
set_option maxHeartbeats 1000000 in
theorem pcolumn_any (R : Nat) (en lev : Int) (s : ByteArray) (i : Nat) (l : List Tok) (w : World) (h : RdOk R en lev ((2, s, i) :: l) w) (hn : isB ⟨#[46]⟩ l = false) : Calls Tryz.prog 253 #[.pointer (some ⟨R, 0, none⟩)] w (Rds R en lev l (ExQ w.heap.size (exCol s)) w) := by
  have HO := Lib.hid h
  have HN := Lib.hid hn
  have hRz := h.lt
  clear h hn
  go_enter Tryz.func253, Tryz.ntmps253
  go_wp2_with fail
  refine (name_yes R en lev s i l _ (HO.out.alloc _)).mono ?_
  rintro e w1 ⟨v, rfl, rfl, ho, hk⟩
  have HO1 := Lib.hid ho
  obtain ⟨hb, hz, hk1⟩ := box10 hk hRz
  have HK := Lib.hid hk1
  clear ho hk hk1
  dsimp only
  go_wp2_with fail
  refine (accept_no R en lev l _ w1 HO1.out HN.out).mono ?_
  rintro e w2 ⟨rfl, hb2⟩
  have HO2 := Lib.hid (HO1.out.bel hb2)
  have HK2 := Lib.hid (HK.out.trans (.bel hb2))
  have hb2' := (hb2.block _ hz).trans hb
  have hz2 : w.heap.size < w2.heap.size := Nat.lt_of_lt_of_le hz hb2.size
  obtain ⟨x0, x1, x2, x3, x4, x5, x6, x7, x8, x9, xf, _⟩ := blk10 hb2'
  clear hb2 hb hb2'
  dsimp only
  go_wp2_with fail
  refine bodyPost_ret (v := .agg #[.int .i64 2, .int .i64 0, .bool false, .int .i64 0, .int .i64 0, .string ⟨#[]⟩, .string ⟨#[]⟩, .string s, .slice none 0 0, .slice none 0 0]) (by simp [results, Tryz.results253, go_sem, x0, x1, x2, x3, x4, x5, x6, x7, x8, x9]) rfl ?_
  have FIN := ex_end HO2.out (x := exCol s) (lo := w2.heap.size) (S := w.heap.size) (v := .agg #[.int .i64 2, .int .i64 0, .bool false, .int .i64 0, .int .i64 0, .string ⟨#[]⟩, .string ⟨#[]⟩, .string s, .slice none 0 0, .slice none 0 0]) ⟨_, rfl, (EC_iff ..).2 ⟨_, _, rfl, RowsR.nil .., RowsR.nil ..⟩⟩ HK2.out hRz (Nat.le_refl _) hz2 (.int .i64 2) (.int .i64 0) (.bool false) (.int .i64 0) (.int .i64 0) (.string ⟨#[]⟩) (.string ⟨#[]⟩) (.string s) (.slice none 0 0) (.slice none 0 0)
  exact FIN

set_option maxRecDepth 100000 in
set_option maxHeartbeats 1000000 in
theorem unary_any (lo : Nat) (k : Int) (x : Ex) (v : Value) (w : World) (h : ExQ lo x v w) (hlo : lo ≤ w.heap.size) : Calls Tryz.prog 154 #[.int .i64 k, v] w (fun e w' => ∃ u, e = .returned u ∧ ExQ lo (exUn k x) u w' ∧ Below w.heap.size w w') := by
  obtain ⟨cs, rfl, hx⟩ := h
  obtain ⟨va, vs, rfl, ha, hs⟩ := (EC_iff ..).1 hx
  obtain ⟨aa, ac, rfl, _⟩ := ha.shape
  obtain ⟨sa, sc, rfl, _⟩ := hs.shape
  have HX := Lib.hid hx
  clear ha hs hx
  unfold exCells
  go_enter Tryz.func154, Tryz.ntmps154
  go_wp2_with fail
  have hu : ((.agg #[.int .i64 k, .int .i64 0, .bool false, .int .i64 0, .int .i64 0, .string ⟨#[]⟩, .string ⟨#[]⟩, .string ⟨#[]⟩, .slice (some ⟨w.heap.size + 1 + 1, 0, none⟩) 1 1, .slice none 0 0] : Value)) = .agg (exCells k 0 false ⟨0, 0, ⟨#[]⟩⟩ ⟨#[]⟩ ⟨#[]⟩ (.slice (some ⟨w.heap.size + 1 + 1, 0, none⟩) 1 1) (.slice none 0 0)).toArray := rfl
  refine bodyPost_ret (v := .agg #[.int .i64 k, .int .i64 0, .bool false, .int .i64 0, .int .i64 0, .string ⟨#[]⟩, .string ⟨#[]⟩, .string ⟨#[]⟩, .slice (some ⟨w.heap.size + 1 + 1, 0, none⟩) 1 1, .slice none 0 0]) (by simp [results, Tryz.results154, go_sem]) rfl ?_
  refine ⟨_, rfl, ⟨_, hu, (EC_iff ..).2 ⟨_, _, rfl, rows_one x (by simp) (by unfold Old; simp; omega) rfl (EC.keep (((Keep.refl _ w).alloc _).alloc _ |>.alloc _) x _ HX.out), RowsR.nil ..⟩⟩, (((Below.refl _ _).alloc (Nat.le_refl _) _).alloc (by simp) _).alloc (by simp; omega) _⟩
end Go.Proofs.YtkhlmofcdchccaaGreatDoor
