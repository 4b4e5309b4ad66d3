/- Expressions made by hand: contracts of Lit, Num, Col and Bin. -/
import Derived.Test.YtiheioajnfggmaaDoorB3
import Derived.Test.YtiheioajnfggmaaDoorC3
namespace Go.Proofs.YtiheioajnfggmaaDoor
open Go.RowKit

def es : ByteArray := ⟨#[]⟩
def val0 : Val := ⟨0, 0, es⟩
def litX (v : Val) : Ex := .mk 1 0 false v es es [] []
def colX (t n : ByteArray) : Ex := .mk 2 0 false val0 t n [] []
def binX (o : Int) (a b : Ex) : Ex := .mk 5 o false val0 es es [a, b] []
def negX (a : Ex) : Ex := .mk 4 0 false val0 es es [a] []

theorem ec_nil {M : Nat → Prop} {w : World} (k o : Int) (no : Bool) (v : Val) (t nm : ByteArray) : EC M w (.mk k o no v t nm [] []) (exCells k o no v t nm (.slice none 0 0) (.slice none 0 0)) :=
  (EC_iff ..).2 ⟨_, _, rfl, RowsR.nil .., RowsR.nil ..⟩

set_option maxHeartbeats 400000 in
theorem lit_any (k i : Int) (s : ByteArray) (w : World) : Calls Tryd.prog 72 #[.agg #[.int .i64 k, .int .i64 i, .string s]] w (RetBel (.agg #[.int .i64 1, .int .i64 0, .bool false, .int .i64 k, .int .i64 i, .string s, .string ⟨#[]⟩, .string ⟨#[]⟩, .slice none 0 0, .slice none 0 0]) w) := by
  go_enter Tryd.func72, Tryd.ntmps72
  go_wp2
  go_returns
  exact ⟨rfl, by go_grown⟩

set_option maxHeartbeats 400000 in
theorem col_any (t n : ByteArray) (w : World) : Calls Tryd.prog 65 #[.string t, .string n] w (RetBel (.agg #[.int .i64 2, .int .i64 0, .bool false, .int .i64 0, .int .i64 0, .string ⟨#[]⟩, .string t, .string n, .slice none 0 0, .slice none 0 0]) w) := by
  go_enter Tryd.func65, Tryd.ntmps65
  go_wp2
  go_returns
  exact ⟨rfl, by go_grown⟩

set_option maxHeartbeats 400000 in
theorem num_pos (n : Int) (h : 0 ≤ n) (w : World) : Calls Tryd.prog 66 #[.int .i64 n] w (RetBel (.agg #[.int .i64 1, .int .i64 0, .bool false, .int .i64 1, .int .i64 n, .string ⟨#[]⟩, .string ⟨#[]⟩, .string ⟨#[]⟩, .slice none 0 0, .slice none 0 0]) w) := by
  go_enter Tryd.func66, Tryd.ntmps66
  go_wp2_with (go_at_call 72; refine (lit_any _ _ _ _).mono ?_; rintro e w1 ⟨rfl, hb⟩; obtain ⟨k1, k2, k3⟩ := bcell hb; simp only [World.size_alloc] at k1 k2 k3; have k4 : w.heap.size < w1.heap.size := (by omega); have HB := Lib.hid hb; clear hb)
  refine bodyPost_ret (v := .agg #[.int .i64 1, .int .i64 0, .bool false, .int .i64 1, .int .i64 n, .string ⟨#[]⟩, .string ⟨#[]⟩, .string ⟨#[]⟩, .slice none 0 0, .slice none 0 0]) (by simp [results, Tryd.results66, go_sem, k1]) rfl ⟨rfl, ?_⟩
  clear k1 k2
  have h0 : Below w.heap.size w w1 := Below.trans (by go_grown) (HB.out.mono (by simp))
  go_grown

theorem exStable : Stable (fun M w e cs => EC M w e cs) where
  keep h k := EC.keep k _ _ h
  weak h hM := EC.weak hM _ _ h
  one h u hu := by
    obtain ⟨va, vs, rfl, ha, hs⟩ := (EC_iff ..).1 h
    obtain ⟨a, c, rfl, _⟩ := ha.shape
    obtain ⟨a', c', rfl, _⟩ := hs.shape
    simp [exCells] at hu
    rcases hu with rfl | rfl | rfl | rfl | rfl | rfl | rfl | rfl | rfl | rfl <;> rfl

/-- A fresh slice of two things. -/
theorem rows_two {α : Type} {M : Nat → Prop} {w : World} {arr : Array Value} {e : TypeId} {size g : Nat} {R : α → List Value → Prop} (x y : α) (cx cy : List Value) (hg : g = w.heap.size) (hT : ¬ M w.heap.size) (ha : arr.toList = cx ++ cy) (hx : cx.length = size) (hy : cy.length = size) (h1 : R x cx) (h2 : R y cy) :
    RowsR M (w.alloc (.cells arr e)) size R (.slice (some ⟨g, 0, none⟩) 2 2) [x, y] :=
  RowsR.new [cx, cy] hg hT (by simpa using ha) (by simp [hx, hy]) rfl (Nat.le_refl _) (by unfold maxLen; omega) rfl fun i z cs hi hc => by
    match i with
    | 0 => simp at hi hc; subst hi; subst hc; exact h1
    | 1 => simp at hi hc; subst hi; subst hc; exact h2
    | i + 2 => simp at hi

def BinPost (M : Nat → Prop) (o : Int) (a b : Ex) (w : World) (e : Ending) (w' : World) : Prop := ∃ cs, e = .returned (.agg cs.toArray) ∧ EC M w' (binX o a b) cs ∧ Below w.heap.size w w'

set_option maxHeartbeats 1000000 in
theorem bin_any {M : Nat → Prop} (o : Int) (a b : Ex) (ca cb : List Value) (w : World) (ha : EC M w a ca) (hb : EC M w b cb) (hM : ∀ k, w.heap.size ≤ k → ¬ M k) : Calls Tryd.prog 64 #[.int .i64 o, .agg ca.toArray, .agg cb.toArray] w (BinPost M o a b w) := by
  have HA := Lib.hid ha
  have HB := Lib.hid hb
  have HM := Lib.hid hM
  obtain ⟨va, vs, rfl, ha1, ha2⟩ := (EC_iff ..).1 ha
  obtain ⟨a1, a2, rfl, _⟩ := ha1.shape
  obtain ⟨a3, a4, rfl, _⟩ := ha2.shape
  obtain ⟨va, vs, rfl, hb1, hb2⟩ := (EC_iff ..).1 hb
  obtain ⟨b1, b2, rfl, _⟩ := hb1.shape
  obtain ⟨b3, b4, rfl, _⟩ := hb2.shape
  clear ha hb hM ha1 ha2 hb1 hb2
  simp only [exCells]
  go_enter Tryd.func64, Tryd.ntmps64
  go_wp2
  go_returns
  refine ⟨exCells 5 o false val0 es es (.slice (some ⟨w.heap.size + 1 + 1 + 1, 0, none⟩) 2 2) (.slice none 0 0), rfl, (EC_iff ..).2 ⟨_, _, rfl, ?_, RowsR.nil ..⟩, by go_grown⟩
  have k := ((((Keep.refl M w).alloc (.cells #[.int .i64 a.kind, .int .i64 a.op, .bool a.no, .int .i64 a.val.kind, .int .i64 a.val.int, .string a.val.text, .string a.table, .string a.name, .slice a1 a.args.length a2, .slice a3 a.sub.length a4] 52)).alloc
    (.cells #[.int .i64 b.kind, .int .i64 b.op, .bool b.no, .int .i64 b.val.kind, .int .i64 b.val.int, .string b.val.text, .string b.table, .string b.name, .slice b1 b.args.length b2, .slice b3 b.sub.length b4] 52)).alloc
    (.cells #[.int .i64 5, .int .i64 o, .bool false, .int .i64 0, .int .i64 0, .string ⟨#[]⟩, .string ⟨#[]⟩, .string ⟨#[]⟩, .slice (some ⟨w.heap.size + 1 + 1 + 1, 0, none⟩) 2 2, .slice none 0 0] 52)).alloc
    (.cells #[.int .i64 a.kind, .int .i64 a.op, .bool a.no, .int .i64 a.val.kind, .int .i64 a.val.int, .string a.val.text, .string a.table, .string a.name, .slice a1 a.args.length a2, .slice a3 a.sub.length a4, .int .i64 b.kind, .int .i64 b.op, .bool b.no, .int .i64 b.val.kind, .int .i64 b.val.int, .string b.val.text, .string b.table, .string b.name, .slice b1 b.args.length b2, .slice b3 b.sub.length b4] 52)
  exact rows_two (R := EC M _) a b _ _ (by simp) (HM.out _ (by simp; omega)) rfl rfl rfl (EC.keep k a _ HA.out) (EC.keep k b _ HB.out)

end Go.Proofs.YtiheioajnfggmaaDoor
