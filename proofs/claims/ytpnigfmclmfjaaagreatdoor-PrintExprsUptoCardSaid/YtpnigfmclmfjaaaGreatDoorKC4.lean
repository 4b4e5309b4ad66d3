/- Types of expressions: the contract of scope.Type, for every expression. The contract of scope.Type, for every expression, joined. What a schema of any kind leaves in memory. The sanity check of the statements of chapter 14: the contract of known. What ScopeInner needs: an append at a step of a drawn region, and plain laws on resolving in one more frame. append(s, x...) at a step of a drawn region, whatever x. No program is named here. Expressions that are made with a type have this type or that of NULL: the plain law, without any program. -/
import Derived.Test.YtpnigfmclmfjaaaGreatDoorKC3
import Derived.Test.YtpnigfmclmfjaaaGreatDoorKC2
import Derived.Test.YtpnigfmclmfjaaaGreatDoorKC1
import Derived.Deep.RegionHeld3
import Derived.Deep.DeepCutAuto
import Derived.Deep.AppendLies
namespace Go.Proofs.YtpnigfmclmfjaaaGreatDoor
open Go.RowKit

theorem infoInt : (Tryz.prog.info? 3).map (fun i => (i.zero, i.size, i.bytes)) = some (some (.int .i64 0), 1, 8) := by kernel_rfl

theorem ints_flat : ∀ l : List Int, (l.map fun x => [Value.int .i64 x]).flatten = l.map (Value.int .i64)
  | [] => rfl
  | x :: l => by rw [List.map_cons, List.flatten_cons, ints_flat l]; rfl

theorem own_ints {M : Nat → Prop} {lo : Nat} {w : World} {v : Value} {n : Nat} {l : List Int} (h : w.ownsRow lo 3 1 v n (l.map (Value.int .i64))) (hn : n = l.length) (hM : ∀ k, lo ≤ k → k < w.heap.size → ¬ M k) : IntsR M w v l := by
  have he := ints_flat l
  refine RowsR.mk (l.map fun x => [Value.int .i64 x]) (slice_of_own (e := 3) (base := lo) (by rw [he]; simpa [hn] using h) (by simp) hM) (by simp) fun i x cs hi hc => ?_
  rw [List.getElem?_map, hi] at hc
  simp at hc
  exact hc.symm

/-- What is owned stays so while new blocks alone are made. -/
theorem own_bel {w w' : World} {base : Nat} {e : TypeId} {size : Nat} {v : Value} {n : Nat} {xs : List Value} (h : w.ownsRow base e size v n xs) (k : Below w.heap.size w w') : w'.ownsRow base e size v n xs := by
  obtain ⟨h1, h2⟩ := h
  refine ⟨h1, ?_⟩
  rcases h2 with h2 | ⟨g, cap, cur, hv, hg, hh, r⟩
  · exact .inl h2
  · exact .inr ⟨g, cap, cur, hv, hg, by rw [k.block g (Array.getElem?_eq_some_iff.1 hh).1]; exact hh, r⟩

theorem typeL_step (ts : List Sch) (fs : List Frm) : ∀ (l : List Ex) (k : Nat) (x : Ex) (l' : List Int), l[k]? = some x → typeL ts (l.take k) fs = .ok l' →
    typeL ts (l.take (k + 1)) fs = (if (typeP ts x fs).2 ≠ 0 then .error (typeP ts x fs).2 else .ok (l' ++ [(typeP ts x fs).1]))
  | [], k, x, l', h, _ => by simp at h
  | e :: es, 0, x, l', h, hl => by
    simp at h
    subst h
    simp only [List.take_zero, typeL] at hl
    cases hl
    rw [List.take_succ_cons, List.take_zero, typeL, typeL]
    rfl
  | e :: es, k + 1, x, l', h, hl => by
    simp only [List.getElem?_cons_succ] at h
    rw [List.take_succ_cons, typeL] at hl
    rw [List.take_succ_cons, typeL]
    by_cases hc : (typeP ts e fs).2 ≠ 0
    · rw [if_pos hc] at hl; cases hl
    · rw [if_neg hc] at hl ⊢
      cases hr : typeL ts (es.take k) fs with
      | error c => rw [hr] at hl; cases hl
      | ok r =>
        rw [hr] at hl
        cases hl
        rw [typeL_step ts fs es k x r h hr]
        by_cases hx : (typeP ts x fs).2 ≠ 0
        · rw [if_pos hx, if_pos hx]
        · rw [if_neg hx, if_neg hx]; rfl

theorem typeL_error (ts : List Sch) (fs : List Frm) : ∀ (l : List Ex) (k : Nat) (c : Int), typeL ts (l.take k) fs = .error c → typeL ts l fs = .error c
  | [], k, c, h => by simpa using h
  | e :: es, 0, c, h => by simp [typeL] at h
  | e :: es, k + 1, c, h => by
    rw [List.take_succ_cons, typeL] at h
    rw [typeL]
    by_cases hc : (typeP ts e fs).2 ≠ 0
    · rw [if_pos hc] at h ⊢; exact h
    · rw [if_neg hc] at h ⊢
      cases hr : typeL ts (es.take k) fs with
      | error c' =>
        rw [hr] at h
        rw [typeL_error ts fs es k c' hr]
        exact h
      | ok r => rw [hr] at h; cases h

section
end

end Go.Proofs.YtpnigfmclmfjaaaGreatDoor

namespace Go.Proofs.YtpnigfmclmfjaaaGreatDoor
open Go.RowKit

theorem formed_kind {e : Ex} (h : formed e = true) : 1 ≤ e.kind ∧ e.kind ≤ 12 ∧ (3 ≤ e.kind → e.kind ≤ 7 → e.args.length ≤ 3) := by
  unfold formed at h
  by_cases k1 : e.kind = 1 ∨ e.kind = 2
  · exact ⟨by omega, by omega, fun h3 => by omega⟩
  rw [if_neg k1] at h
  by_cases k3 : e.kind = 3 ∨ e.kind = 4 ∨ e.kind = 6
  · rw [if_pos k3] at h
    simp at h
    exact ⟨by omega, by omega, fun _ _ => by omega⟩
  rw [if_neg k3] at h
  by_cases k5 : e.kind = 5
  · rw [if_pos k5] at h
    simp at h
    exact ⟨by omega, by omega, fun _ _ => by omega⟩
  rw [if_neg k5] at h
  by_cases k7 : e.kind = 7
  · rw [if_pos k7] at h
    simp at h
    exact ⟨by omega, by omega, fun _ _ => by omega⟩
  rw [if_neg k7] at h
  by_cases k8 : e.kind = 8 ∨ e.kind = 9
  · exact ⟨by omega, by omega, fun h3 => by omega⟩
  rw [if_neg k8] at h
  by_cases k10 : e.kind = 10 ∨ e.kind = 11 ∨ e.kind = 12
  · exact ⟨by omega, by omega, fun h3 => by omega⟩
  rw [if_neg k10] at h
  cases h

theorem typeP_eq (ts : List Sch) (e : Ex) (fs : List Frm) : typeP ts e fs =
    if formed e = false then ((0, 17) : Int × Int)
    else if e.kind = 1 then (e.val.kind, 0)
    else if e.kind = 2 then (match resolve e.table e.name fs with | some (i, j) => (colType fs i j, 0) | none => (0, 3))
    else if 8 ≤ e.kind then typeSub ts e.kind e.sub fs
    else match typeL ts e.args fs with
      | .error c => (0, c)
      | .ok l => operationP e.kind e.op l := by
  obtain ⟨k, o, no, v, t, nm, args, sub⟩ := e
  rw [typeP]
  rfl

end Go.Proofs.YtpnigfmclmfjaaaGreatDoor

namespace Go.Proofs.YtpnigfmclmfjaaaGreatDoor
open Go.RowKit

theorem kcell {T : Nat} {w w' : World} (k : Keep (At T) w w') : (∀ b o, b < w.heap.size → b ≠ T → w'.cell? ⟨b, o, none⟩ = w.cell? ⟨b, o, none⟩) ∧ (∀ b o, b < w.heap.size → b ≠ T → w'.frozen? ⟨b, o, none⟩ = w.frozen? ⟨b, o, none⟩) :=
  ⟨fun _ _ h hT => k.cell h hT, fun b _ h hT => World.frozen?_of_block (k.block b h hT)⟩

theorem kcell1 {T : Nat} {w w' : World} (k : Keep (At T) w w') {b o : Nat} {x : Value} (h : w.cell? ⟨b, o, none⟩ = some x) (hT : b ≠ T) : w'.cell? ⟨b, o, none⟩ = some x :=
  (k.cell (World.block_lt_of_cell? _ _ h) hT).trans h

theorem set_far {w : World} {g i b o : Nat} {u : Value} (h : b ≠ g) : (w.setCell ⟨g, i, none⟩ u).cell? ⟨b, o, none⟩ = w.cell? ⟨b, o, none⟩ := World.cell?_setCell_other _ _ _ _ (fun e => h (by injection e with e1; exact e1.symm))

theorem blk4_set {w : World} {S : Nat} {x0 x1 x2 x3 a b c d : Value} {e : TypeId} (h : w.heap[S]? = some (.cells #[x0, x1, x2, x3] e (0, 0))) :
    ((((w.setCell ⟨S, 0, none⟩ a).setCell ⟨S, 1, none⟩ b).setCell ⟨S, 2, none⟩ c).setCell ⟨S, 3, none⟩ d).heap[S]? = some (.cells #[a, b, c, d] e (0, 0)) := by
  simp [World.setCell, Array.getElem?_modify, h]

theorem blk2_set0 {w : World} {S : Nat} {a b a' : Value} {e : TypeId} (h : w.heap[S]? = some (.cells #[a, b] e (0, 0))) : (w.setCell ⟨S, 0, none⟩ a').heap[S]? = some (.cells #[a', b] e (0, 0)) := by
  simp [World.setCell, Array.getElem?_modify, h]

theorem blk4 {w : World} {S : Nat} {a b c d : Value} {e : TypeId} (h : w.heap[S]? = some (.cells #[a, b, c, d] e (0, 0))) : w.cell? ⟨S, 0, none⟩ = some a ∧ w.cell? ⟨S, 1, none⟩ = some b ∧ w.cell? ⟨S, 2, none⟩ = some c ∧ w.cell? ⟨S, 3, none⟩ = some d ∧ w.frozen? ⟨S, 2, none⟩ = false ∧ w.frozen? ⟨S, 3, none⟩ = false ∧ S < w.heap.size := by
  refine ⟨by simp [World.cell?, h], by simp [World.cell?, h], by simp [World.cell?, h], by simp [World.cell?, h], by simp [World.frozen?, h], by simp [World.frozen?, h], (Array.getElem?_eq_some_iff.1 h).1⟩

theorem tape_set4 {T S : Nat} {w : World} {a b c d : Value} (h : TapeOk T w) (hS : T < S) : TapeOk T ((((w.setCell ⟨S, 0, none⟩ a).setCell ⟨S, 1, none⟩ b).setCell ⟨S, 2, none⟩ c).setCell ⟨S, 3, none⟩ d) :=
  h.keep (M := At S) (((((Keep.refl (At S) w).setCell (p := ⟨S, 0, none⟩) (fun _ => rfl) _).setCell (p := ⟨S, 1, none⟩) (fun _ => rfl) _).setCell (p := ⟨S, 2, none⟩) (fun _ => rfl) _).setCell (p := ⟨S, 3, none⟩) (fun _ => rfl) _) fun k hk h => by unfold At at h; omega

theorem keep_set4 {T S : Nat} {w0 w : World} {a b c d : Value} (h : Keep (At T) w0 w) (hS : w0.heap.size ≤ S) : Keep (At T) w0 ((((w.setCell ⟨S, 0, none⟩ a).setCell ⟨S, 1, none⟩ b).setCell ⟨S, 2, none⟩ c).setCell ⟨S, 3, none⟩ d) :=
  (((h.setCell (p := ⟨S, 0, none⟩) (fun h => absurd h (Nat.not_lt_of_le hS)) _).setCell (p := ⟨S, 1, none⟩) (fun h => absurd h (Nat.not_lt_of_le hS)) _).setCell (p := ⟨S, 2, none⟩) (fun h => absurd h (Nat.not_lt_of_le hS)) _).setCell (p := ⟨S, 3, none⟩) (fun h => absurd h (Nat.not_lt_of_le hS)) _

def ColRR (_ : Nat → Prop) (_ : World) (c : Col) (cs : List Value) : Prop := ColR c cs
theorem colStable : Stable ColRR where
  keep h _ := h
  weak h _ := h
  one h := colR_one default _ _ h

/-- A block of two cells. -/
theorem blk2 {w : World} {S : Nat} {a b : Value} {e : TypeId} (h : w.heap[S]? = some (.cells #[a, b] e (0, 0))) : w.cell? ⟨S, 0, none⟩ = some a ∧ w.cell? ⟨S, 1, none⟩ = some b ∧ w.frozen? ⟨S, 0, none⟩ = false ∧ w.frozen? ⟨S, 1, none⟩ = false ∧ S < w.heap.size := by
  refine ⟨by simp [World.cell?, h], by simp [World.cell?, h], by simp [World.frozen?, h], by simp [World.frozen?, h], (Array.getElem?_eq_some_iff.1 h).1⟩

theorem blk2_set {w : World} {S : Nat} {a b v : Value} {e : TypeId} (h : w.heap[S]? = some (.cells #[a, b] e (0, 0))) : (w.setCell ⟨S, 1, none⟩ v).heap[S]? = some (.cells #[a, v] e (0, 0)) := by
  simp [World.setCell, Array.getElem?_modify, h]

/-- What an append to the columns leaves of the rest. -/
theorem after_app {T S r : Nat} {w0 wc w' : World} {v x : Value} {nm : ByteArray} {er : TypeId} (hk : Keep (OwnB v) wc w') (HO : ∀ k, OwnB v k → S + 1 ≤ k) (hT : T < S) (hr : r < S) (h0 : w0.heap.size ≤ S) (hS : wc.heap[S]? = some (.cells #[.string nm, x] er (0, 0)))
    (hR : wc.heap[r]? = some (.cells #[.string ⟨#[]⟩, .slice none 0 0] er (0, 0))) (ht : TapeOk T wc) (hkk : Keep (At T) w0 wc) :
    w'.heap[S]? = some (.cells #[.string nm, x] er (0, 0)) ∧ w'.heap[r]? = some (.cells #[.string ⟨#[]⟩, .slice none 0 0] er (0, 0)) ∧ TapeOk T w' ∧ Keep (At T) w0 w' := by
  refine ⟨(hk.block _ (Array.getElem?_eq_some_iff.1 hS).1 fun h => ?_).trans hS, (hk.block _ (Array.getElem?_eq_some_iff.1 hR).1 fun h => ?_).trans hR, ht.keep hk fun k h1 h2 => ?_, hkk.then hk fun k h1 h2 => ?_⟩
  · have := HO _ h; omega
  · have := HO _ h; omega
  · have := HO _ h2; omega
  · have := HO _ h2; omega

/-- The column number i of a schema that was drawn with a key. -/
def anyCol (key : Nat) (i : Nat) (c : Col) : Prop := c.name = nameAt ((3 * i + key) % 8) ∧ 1 ≤ c.type ∧ c.type ≤ 3 ∧ c.key = decide (key = i) ∧ (c.key = true → c.notNull = true)
/-- One column more, and stored back. -/
theorem end_app {T S r tot m' key idx : Nat} {w0 w' : World} {nm : ByteArray} {x : Value} {a' : Option Addr} {n' p' : Nat} {cols : List Col} {ty : Int} {nn kk : Bool} (hT : T < S) (hr : r < S) (h0 : w0.heap.size ≤ S) (hnm : cols.length + (m' + 1) = tot + 1) (hidx : (cols.length * 3 + key) % 8 = idx) (h1 : 1 ≤ ty) (h3 : ty ≤ 3) (hkk : kk = decide (key = cols.length)) (hnn : kk = true → nn = true)
    (hall : ∀ i c, cols[i]? = some c → anyCol key i c) (hS : w'.heap[S]? = some (.cells #[.string nm, x] 24 (0, 0))) (hR : w'.heap[r]? = some (.cells #[.string ⟨#[]⟩, .slice none 0 0] 24 (0, 0)))
    (hG : RowsG (S + 1) w' 186 4 ColRR (.slice a' n' p') (cols ++ [⟨nameAt idx, ty, nn, kk⟩])) (ht : TapeOk T w') (hk : Keep (At T) w0 w') :
    ∃ (n m : Nat) (v : Value) (cols : List Col), n + m = tot + 1 ∧ Value.int .i64 (m' : Int) = .int .i64 m ∧ cols.length = n ∧ (∀ i c, cols[i]? = some c → anyCol key i c) ∧ (w'.setCell ⟨S, 1, none⟩ (.slice a' n' p')).heap[S]? = some (.cells #[.string nm, v] 24 (0, 0)) ∧
      (w'.setCell ⟨S, 1, none⟩ (.slice a' n' p')).heap[r]? = some (.cells #[.string ⟨#[]⟩, .slice none 0 0] 24 (0, 0)) ∧ RowsG (S + 1) (w'.setCell ⟨S, 1, none⟩ (.slice a' n' p')) 186 4 ColRR v cols ∧ TapeOk T (w'.setCell ⟨S, 1, none⟩ (.slice a' n' p')) ∧ Keep (At T) w0 (w'.setCell ⟨S, 1, none⟩ (.slice a' n' p')) := by
  have ks : Keep (At S) w' (w'.setCell ⟨S, 1, none⟩ (.slice a' n' p')) := (Keep.refl (At S) w').setCell (p := ⟨S, 1, none⟩) (fun _ => rfl) _
  refine ⟨cols.length + 1, m', _, _, by omega, rfl, by simp, fun i c hi => ?_, blk2_set hS, ?_, hG.keep colStable ks fun k h1 _ h => by unfold At at h; omega, ht.keep ks fun k h1 h => by unfold At at h; omega,
    hk.setCell (p := ⟨S, 1, none⟩) (fun h => absurd h (Nat.not_lt_of_le h0)) _⟩
  · by_cases hlt : i < cols.length
    · rw [List.getElem?_append_left hlt] at hi
      exact hall i c hi
    · rw [List.getElem?_append_right (by omega)] at hi
      have h5 := (List.getElem?_eq_some_iff.1 hi).1
      simp at h5
      obtain rfl : i = cols.length := by omega
      simp at hi
      subst hi
      refine ⟨?_, h1, h3, hkk, hnn⟩
      rw [← hidx, Nat.mul_comm]
  · rw [Below.heap_setCell _ _ _ _ (by simp; omega)]
    exact hR

/-- Two stores into a block that lies above all. -/
theorem two_sets {T S r g : Nat} {w0 wr wc : World} {nm : ByteArray} {x v u1 u2 : Value} {cols : List Col} (hgS : S < g) (hT : T < S) (hr : r < S) (h0 : w0.heap.size ≤ S) (hO : ∀ k, OwnB v k → S + 1 ≤ k ∧ k < wr.heap.size) (hgr : wr.heap.size ≤ g) (hS : wc.heap[S]? = some (.cells #[.string nm, x] 24 (0, 0)))
    (hR : wc.heap[r]? = some (.cells #[.string ⟨#[]⟩, .slice none 0 0] 24 (0, 0))) (hG : RowsG (S + 1) wc 186 4 ColRR v cols) (ht : TapeOk T wc) (hk : Keep (At T) w0 wc) :
    ((wc.setCell ⟨g, 3, none⟩ u1).setCell ⟨g, 2, none⟩ u2).heap[S]? = some (.cells #[.string nm, x] 24 (0, 0)) ∧ ((wc.setCell ⟨g, 3, none⟩ u1).setCell ⟨g, 2, none⟩ u2).heap[r]? = some (.cells #[.string ⟨#[]⟩, .slice none 0 0] 24 (0, 0)) ∧
      RowsG (S + 1) ((wc.setCell ⟨g, 3, none⟩ u1).setCell ⟨g, 2, none⟩ u2) 186 4 ColRR v cols ∧ TapeOk T ((wc.setCell ⟨g, 3, none⟩ u1).setCell ⟨g, 2, none⟩ u2) ∧ Keep (At T) w0 ((wc.setCell ⟨g, 3, none⟩ u1).setCell ⟨g, 2, none⟩ u2) := by
  have ks : Keep (At g) wc ((wc.setCell ⟨g, 3, none⟩ u1).setCell ⟨g, 2, none⟩ u2) := ((Keep.refl (At g) wc).setCell (p := ⟨g, 3, none⟩) (fun _ => rfl) _).setCell (p := ⟨g, 2, none⟩) (fun _ => rfl) _
  refine ⟨(ks.block _ (Array.getElem?_eq_some_iff.1 hS).1 fun h => ?_).trans hS, (ks.block _ (Array.getElem?_eq_some_iff.1 hR).1 fun h => ?_).trans hR, RowsO.kept hG ks (fun k h hg => ?_) fun _ _ _ h => h, ht.keep ks fun k h1 h => ?_, hk.then ks fun k h1 h => ?_⟩
  all_goals try unfold At at h
  · omega
  · omega
  · unfold At at hg; have := hO k h; omega
  · omega
  · omega

def AnySch (s : Sch) : Prop := (∃ i : Nat, i < 8 ∧ s.name = nameAt i) ∧ 1 ≤ s.cols.length ∧ s.cols.length ≤ 5 ∧ ∃ key : Nat, key < 4 ∧ ∀ i c, s.cols[i]? = some c → anyCol key i c

def AnySchQ (w : World) (v : Value) (w' : World) : Prop := ∃ s vc, v = .agg #[.string s.name, vc] ∧ AnySch s ∧ ColsR (Out w.heap.size w'.heap.size) w' vc s.cols
end Go.Proofs.YtpnigfmclmfjaaaGreatDoor

namespace Go.Proofs.YtpnigfmclmfjaaaGreatDoor
open Go.RowKit

def lK : List Frm := [⟨bs [78, 69, 87], true, schT.cols⟩, ⟨bs [117], false, schU.cols⟩]
def eK : Ex := binX 5 (colX ⟨#[]⟩ ⟨#[109]⟩) (litX ⟨1, 1, ⟨#[]⟩⟩)

theorem resK1 : resolve ⟨#[78, 69, 87]⟩ ⟨#[98]⟩ lK = some (0, 2) := by decide +kernel
theorem resK2 : resolve ⟨#[]⟩ ⟨#[109]⟩ lK = some (1, 2) := by decide +kernel
theorem resK3 : resolve ⟨#[]⟩ ⟨#[98]⟩ lK = none := by decide +kernel
theorem typK : typeP [] eK lK = (2, 0) := by decide +kernel

theorem lK_rep {w : World} {a1 a2 : Option Addr} {p1 p2 : Nat} (h1 : ColsR NoM w (.slice a1 schT.cols.length p1) schT.cols) (h2 : ColsR NoM w (.slice a2 schU.cols.length p2) schU.cols) :
    FrmsR NoM (w.alloc (.cells #[.string ⟨#[78, 69, 87]⟩, .bool true, .slice a1 schT.cols.length p1, .slice none 0 0, .string ⟨#[117]⟩, .bool false, .slice a2 schU.cols.length p2, .slice none 0 0] 201)) (.slice (some ⟨w.heap.size, 0, none⟩) 2 2) lK :=
  rows_two (R := FrmR NoM _) _ _ [.string ⟨#[78, 69, 87]⟩, .bool true, .slice a1 schT.cols.length p1, .slice none 0 0] [.string ⟨#[117]⟩, .bool false, .slice a2 schU.cols.length p2, .slice none 0 0] rfl id rfl rfl rfl
    (frm_cells (h1.keep ((Keep.refl _ w).alloc _))) (frm_cells (h2.keep ((Keep.refl _ w).alloc _)))

end Go.Proofs.YtpnigfmclmfjaaaGreatDoor

namespace Go.Proofs.YtpnigfmclmfjaaaGreatDoor
open Go.RowKit

/-- append(s, x...) at a step of a drawn region: s is the call's own, x not empty. -/
theorem step_app {P : Program} {w : World} {ops : Array Oper} {o : Oper} {a : Act} {K : Act → World → Prop} {Q : Exit → Act → World → Prop} {E : Prop} (hgd : o.guard = none) (s x : Operand) (t : TypeId)
    (ho : o.op = .call { callee := .builtin .append, args := #[s, x], argTypes := #[t, t] })
    (e : TypeId) (z : Value) (size bytes : Nat) (ht : P.underlying t = some (.slice e)) (hinfo : (P.info? e).map (fun i => (i.zero, i.size, i.bytes)) = some (some z, size, bytes)) (hzs : z.cells.size = size) (hsz : 0 < size)
    {α : Type} {R : α → List Value → Prop} {M : Nat → Prop} (lo : Nat) (v src : Value) (xs ys : List α) (hs : a.eval s = v) (hx : a.eval x = src) (hown : RowsO lo w e size R v xs) (hsrc : RowsR M w size R src ys) (hne : ys ≠ [])
    (h1 : ∀ y ∈ ys, ∀ cs, R y cs → ∀ u ∈ cs, u.oneCell' = true) (hN : (xs.length + ys.length) * bytes ≤ 140737488355328) (hN2 : xs.length + ys.length ≤ maxLen) (hlo : lo ≤ w.heap.size)
    (h : ∀ v' w', RowsO lo w' e size R v' (xs ++ ys) → Keep (OwnB v) w w' → (∀ k, OwnB v' k → OwnB v k ∨ k = w.heap.size) → K (a.put o.dst v') w') :
    if Region.wanted o (yielded ops a.tmps) = true then Oper.wp P o a w K Q else E := by
  obtain ⟨i0, hi0, hz0, hz1, hz2⟩ := info_parts hinfo
  obtain ⟨css, hro, hl, hcs, hR⟩ := hown
  obtain ⟨dss, hds, hdl, hRd⟩ := hsrc
  rcases hds with ⟨_, hd0⟩ | ⟨b, of, cap, rfl, hT, hb, hlc, hm, hc⟩
  · subst hd0
    exact absurd (List.eq_nil_of_length_eq_zero (by simpa using hdl.symm)) hne
  · have hdsz : ∀ ds ∈ dss, ds.length = size := fun ds h' => let ⟨i, hi⟩ := List.mem_iff_getElem?.1 h'; (hc i ds hi).1
    have hone : ∀ u ∈ dss.flatten, u.oneCell' = true := by
      intro u hu
      obtain ⟨ds, hds, hu⟩ := List.mem_flatten.1 hu
      obtain ⟨i, hi⟩ := List.mem_iff_getElem?.1 hds
      have hlt : i < ys.length := by rw [← hdl]; exact (List.getElem?_eq_some_iff.1 hi).1
      exact h1 _ (List.getElem_mem hlt) ds (hRd i _ ds (List.getElem?_eq_getElem hlt) hi) u hu
    have hm0 : 0 < dss.length := by rw [hdl]; exact List.length_pos_iff.2 hne
    refine step_append_lies w hgd s x t ho lo e i0 z size bytes ht hi0 hz0 hz1 hz2 hzs hsz v css.length css.flatten hs hro ⟨b, of, none⟩ dss.length cap dss.flatten hx (flatten_length size dss hdsz) (flat_cells hc) hone hm0 (by rw [hl, hdl]; exact hN2) (by rw [hl, hdl]; exact hN) hlo w.heap.size rfl ?_
    intro g cp w' how hg hat _
    refine h _ w' ⟨css ++ dss, by simpa using how, by simp [hl, hdl], fun cs hc => ?_, fun i y cs hi hc => ?_⟩ (Keep.grownBy hg) fun k hk => by
      have hk' : g = k := by simpa [OwnB, Value.ownBlock] using hk
      subst hk'
      exact hat
    · rcases List.mem_append.1 hc with hc | hc
      · exact hcs cs hc
      · exact hdsz cs hc
    · by_cases hlt : i < xs.length
      · rw [List.getElem?_append_left hlt] at hi
        rw [List.getElem?_append_left (by omega)] at hc
        exact hR i y cs hi hc
      · rw [List.getElem?_append_right (by omega)] at hi
        rw [List.getElem?_append_right (by omega), hl] at hc
        exact hRd _ y cs hi hc

/-- An empty slice over a block of no cells is the call's own. -/
theorem rowsO_empty {α : Type} {lo : Nat} {w : World} {e : TypeId} {size g : Nat} {R : α → List Value → Prop} (hh : w.heap[g]? = some (.cells #[] e (0, 0))) (hlo : lo ≤ g) :
    RowsO lo w e size R (.slice (some ⟨g, 0, none⟩) 0 0) ([] : List α) :=
  ⟨[], ⟨by simp, .inr ⟨g, 0, #[], rfl, hlo, hh, Nat.le_refl _, by unfold maxLen; omega, by simp, by simp⟩⟩, rfl, by simp, by simp⟩

/-- A block that holds one thing. -/
theorem rows_one_at {α : Type} {M : Nat → Prop} {w : World} {arr : Array Value} {e : TypeId} {size g : Nat} {R : α → List Value → Prop} (x : α) (hh : w.heap[g]? = some (.cells arr e (0, 0))) (hT : ¬ M g) (hs : arr.toList.length = size) (hR : R x arr.toList) :
    RowsR M w size R (.slice (some ⟨g, 0, none⟩) 1 1) [x] := by
  refine ⟨[arr.toList], .inr ⟨g, 0, 1, rfl, hT, (Array.getElem?_eq_some_iff.1 hh).1, by simp, by unfold maxLen; omega, fun i cs hi => ?_⟩, rfl, fun i y cs hi hc => ?_⟩
  · match i with
    | 0 =>
      simp at hi
      subst hi
      refine ⟨hs, fun j u hu => ?_⟩
      rw [cell_of_row w g _ arr e (0, 0) hh]
      simpa using hu
    | i + 1 => simp at hi
  · match i with
    | 0 => simp at hi hc; subst hi; subst hc; exact hR
    | i + 1 => simp at hi

def frmX (cols : List Col) : Frm := ⟨bs [120], false, cols⟩

theorem nameAt_inj {i j : Nat} (hi : i < 8) (hj : j < 8) (h : (nameAt i).toList == (nameAt j).toList) : i = j := by
  have : ∀ i, i < 8 → ∀ j, j < 8 → ((nameAt i).toList == (nameAt j).toList) = true → i = j := by decide +kernel
  exact this i hi j hj h

theorem find_own {s : Sch} (h : AnySch s) (i : Nat) (c : Col) (hi : s.cols[i]? = some c) : findCol s.cols c.name = some i := by
  obtain ⟨_, h1, h5, key, hk, hall⟩ := h
  have hlt : i < s.cols.length := (List.getElem?_eq_some_iff.1 hi).1
  refine findIdx_some hi (by simp [nameIs]) fun j y hj hy => ?_
  obtain ⟨hn, _⟩ := hall i c hi
  obtain ⟨hm, _⟩ := hall j y hy
  unfold nameIs
  rw [hn, hm]
  cases hb : ((nameAt ((3 * j + key) % 8)).toList == (nameAt ((3 * i + key) % 8)).toList) with
  | false => rfl
  | true =>
    have := nameAt_inj (by omega) (by omega) hb
    omega

theorem res_bare {s : Sch} (h : AnySch s) (fs : List Frm) (i : Nat) (c : Col) (hi : s.cols[i]? = some c) : resolve ⟨#[]⟩ c.name (fs ++ [frmX s.cols]) = some (fs.length, i) := by
  rw [resolve_snoc]
  have : resolveAt ⟨#[]⟩ c.name (frmX s.cols) = some i := by
    unfold resolveAt
    rw [if_pos (by simp [fits', frmX])]
    exact find_own h i c hi
  rw [this]

theorem res_x {s : Sch} (h : AnySch s) (i : Nat) (c : Col) (hi : s.cols[i]? = some c) : resolve ⟨#[120]⟩ c.name [frmX s.cols] = some (0, i) := by
  have : resolveAt ⟨#[120]⟩ c.name (frmX s.cols) = some i := by
    unfold resolveAt
    have : fits' ⟨#[120]⟩ (frmX s.cols) = true := by
      have : ((⟨#[120]⟩ : ByteArray).toList == []) = false := by decide +kernel
      have h2 : ((bs [120]).toList == (⟨#[120]⟩ : ByteArray).toList) = true := by decide +kernel
      simp only [fits', frmX, this, h2]
      rfl
    rw [if_pos this]
    exact find_own h i c hi
  simp [resolve, this]

theorem res_new (n : ByteArray) (fs : List Frm) (cols : List Col) : resolve ⟨#[78, 69, 87]⟩ n (fs ++ [frmX cols]) = resolve ⟨#[78, 69, 87]⟩ n fs := by
  rw [resolve_snoc]
  have : resolveAt ⟨#[78, 69, 87]⟩ n (frmX cols) = none := by
    unfold resolveAt
    have : fits' ⟨#[78, 69, 87]⟩ (frmX cols) = false := by
      have : ((⟨#[78, 69, 87]⟩ : ByteArray).toList == []) = false := by decide +kernel
      have h2 : ((bs [120]).toList == (⟨#[78, 69, 87]⟩ : ByteArray).toList) = false := by decide +kernel
      simp only [fits', frmX, this, h2]
      rfl
    rw [this]
    rfl
  rw [this]

theorem framesL_ne (r : Int) (b1 b2 : Bool) : framesL r b1 b2 ≠ [] := by
  unfold framesL baseL
  intro h
  have h2 := (List.append_eq_nil_iff.1 (List.append_eq_nil_iff.1 h).2).1
  split at h2
  · cases h2
  · split at h2 <;> cases h2

end Go.Proofs.YtpnigfmclmfjaaaGreatDoor

namespace Go.Proofs.YtpnigfmclmfjaaaGreatDoor
open Go.RowKit

theorem step_app0 {P : Program} {w : World} {ops : Array Oper} {o : Oper} {a : Act} {K : Act → World → Prop} {Q : Exit → Act → World → Prop} {E : Prop} (hgd : o.guard = none) (s x : Operand) (t : TypeId)
    (ho : o.op = .call { callee := .builtin .append, args := #[s, x], argTypes := #[t, t] })
    (e : TypeId) (z : Value) (size bytes : Nat) (ht : P.underlying t = some (.slice e)) (hinfo : (P.info? e).map (fun i => (i.zero, i.size, i.bytes)) = some (some z, size, bytes)) (hzs : z.cells.size = size) (hsz : 0 < size)
    {α : Type} {R : α → List Value → Prop} {M : Nat → Prop} (lo : Nat) (v src : Value) (xs ys : List α) (hs : a.eval s = v) (hx : a.eval x = src) (hown : RowsO lo w e size R v xs) (hsrc : RowsR M w size R src ys)
    (h1 : ∀ y ∈ ys, ∀ cs, R y cs → ∀ u ∈ cs, u.oneCell' = true) (hN : (xs.length + ys.length) * bytes ≤ 140737488355328) (hN2 : xs.length + ys.length ≤ maxLen) (hlo : lo ≤ w.heap.size)
    (h : ∀ v' w', RowsO lo w' e size R v' (xs ++ ys) → Keep (OwnB v) w w' → K (a.put o.dst v') w') :
    if Region.wanted o (yielded ops a.tmps) = true then Oper.wp P o a w K Q else E := by
  by_cases hne : ys = []
  · subst hne
    have hw : Region.wanted o (yielded ops a.tmps) = true := by simp [Region.wanted, hgd]
    rw [if_pos hw]
    obtain ⟨i0, hi0, hz0, hz1, hz2⟩ := info_parts hinfo
    have hown0 := hown
    obtain ⟨css, hro, hl, hcs, hR⟩ := hown
    obtain ⟨dss, hds, hdl, _⟩ := hsrc
    obtain rfl : dss = [] := List.eq_nil_of_length_eq_zero hdl
    have key : ∀ ad : Addr, ∀ c, src = .slice (some ad) 0 c → Oper.wp P o a w K Q := by
      intro ad c hsrc
      subst hsrc
      obtain ⟨v', w', hrun, how, hg, _⟩ := run_append_own w lo t o.type e i0 z size bytes ht hi0 hz0 hz1 hz2 hzs hsz v css.length css.flatten hro ad 0 c [] (by simp) (by simp) (by simp) (by rw [hl]; simpa using hN2) (by rw [hl]; simpa using hN) hlo
      unfold Oper.wp
      simp [execOp, ho, Go.resolve, Go.invoke, Go.builtin, hs, hx, hrun, Result.andThen]
      exact h _ _ (by rw [List.append_nil]; exact ⟨css, by simpa using how, hl, hcs, hR⟩) (Keep.grownBy hg)
    rcases hds with ⟨⟨A, hA⟩, _⟩ | ⟨b, of, cap, hA, _⟩
    · rcases A with _ | ad
      · subst hA
        have hrun := run_append_owned_none (P := P) (w := w) lo t o.type e i0 size ht hi0 v css.length css.flatten hro
        unfold Oper.wp
        simp [execOp, ho, Go.resolve, Go.invoke, Go.builtin, hs, hx, hrun, Result.andThen]
        exact h _ _ (by rw [List.append_nil]; exact hown0) (Keep.refl _ _)
      · exact key ad 0 hA
    · exact key ⟨b, of, none⟩ cap hA
  · exact step_app hgd s x t ho e z size bytes ht hinfo hzs hsz lo v src xs ys hs hx hown hsrc hne h1 hN hN2 hlo fun v' w' h1 h2 _ => h v' w' h1 h2
end Go.Proofs.YtpnigfmclmfjaaaGreatDoor

namespace Go.Proofs.YtpnigfmclmfjaaaGreatDoor

/-- Its type is the one that was asked for, or that of NULL. -/
def Made (ts : List Sch) (fs : List Frm) (want : Int) (e : Ex) : Prop := (typeP ts e fs).2 = 0 ∧ ((typeP ts e fs).1 = 0 ∨ (typeP ts e fs).1 = want)

def opX (k o : Int) (no : Bool) (args : List Ex) (sub : List Qu) : Ex := .mk k o no val0 es es args sub
/-- Kinds with arguments. -/
def OpShape (k o : Int) (no : Bool) (n : Nat) : Prop :=
  ((k = 3 ∨ k = 4) ∧ o = 0 ∧ no = false ∧ n = 1) ∨ (k = 6 ∧ o = 0 ∧ n = 1) ∨ (k = 5 ∧ 1 ≤ o ∧ o ≤ 13 ∧ no = false ∧ n = 2) ∨ (k = 7 ∧ o = 0 ∧ no = false ∧ n = 3)

def numX (n : Int) : Ex := if n < 0 then negX (litX ⟨1, -n, es⟩) else litX ⟨1, n, es⟩

theorem made_lit (ts : List Sch) (fs : List Frm) (want : Int) (v : Val) (h : v.kind = 0 ∨ v.kind = want) : Made ts fs want (litX v) := by
  unfold Made
  rw [typeP_eq]
  exact ⟨rfl, h⟩

theorem typeL_one (ts : List Sch) (fs : List Frm) (a : Ex) (h : (typeP ts a fs).2 = 0) : typeL ts [a] fs = .ok [(typeP ts a fs).1] := by simp [typeL, h]
theorem typeL_two (ts : List Sch) (fs : List Frm) (a b : Ex) (h : (typeP ts a fs).2 = 0) (h2 : (typeP ts b fs).2 = 0) : typeL ts [a, b] fs = .ok [(typeP ts a fs).1, (typeP ts b fs).1] := by simp [typeL, h, h2]
theorem typeL_three (ts : List Sch) (fs : List Frm) (a b c : Ex) (h : (typeP ts a fs).2 = 0) (h2 : (typeP ts b fs).2 = 0) (h3 : (typeP ts c fs).2 = 0) : typeL ts [a, b, c] fs = .ok [(typeP ts a fs).1, (typeP ts b fs).1, (typeP ts c fs).1] := by simp [typeL, h, h2, h3]

theorem fits_want {t want : Int} (h : t = 0 ∨ t = want) : fitsB t want = true := by
  rcases h with rfl | rfl <;> simp [fitsB]
theorem fits_same {t s want : Int} (h : t = 0 ∨ t = want) (h2 : s = 0 ∨ s = want) : fitsB t s = true := by
  rcases h with rfl | rfl <;> rcases h2 with rfl | rfl <;> simp [fitsB]

theorem made_neg {ts : List Sch} {fs : List Frm} {a : Ex} (h : Made ts fs 1 a) : Made ts fs 1 (negX a) := by
  unfold Made
  rw [typeP_eq]
  have hl := typeL_one ts fs a h.1
  simp [negX, formed, Ex.kind, Ex.args, Ex.sub, Ex.op, hl, operationP, allB, fits_want h.2]

theorem made_num (ts : List Sch) (fs : List Frm) (n : Int) : Made ts fs 1 (numX n) := by
  unfold numX
  split
  · exact made_neg (made_lit _ _ _ _ (.inr rfl))
  · exact made_lit _ _ _ _ (.inr rfl)

theorem made_not {ts : List Sch} {fs : List Frm} {a : Ex} (h : Made ts fs 2 a) : Made ts fs 2 (opX 3 0 false [a] []) := by
  unfold Made
  rw [typeP_eq]
  have hl := typeL_one ts fs a h.1
  simp [opX, formed, Ex.kind, Ex.args, Ex.sub, Ex.op, hl, operationP, allB, fits_want h.2]

theorem made_isnull {ts : List Sch} {fs : List Frm} {a : Ex} {want : Int} (no : Bool) (h : Made ts fs want a) : Made ts fs 2 (opX 6 0 no [a] []) := by
  unfold Made
  rw [typeP_eq]
  have hl := typeL_one ts fs a h.1
  simp [opX, formed, Ex.kind, Ex.args, Ex.sub, hl, operationP]

theorem made_arith {ts : List Sch} {fs : List Frm} {a b : Ex} (o : Int) (h1 : 9 ≤ o) (h2 : o ≤ 13) (ha : Made ts fs 1 a) (hb : Made ts fs 1 b) : Made ts fs 1 (binX o a b) := by
  unfold Made
  rw [typeP_eq]
  have hl := typeL_two ts fs a b ha.1 hb.1
  have h3 : 1 ≤ o := by omega
  have h4 : ¬ o ≤ 2 := by omega
  simp [binX, formed, Ex.kind, Ex.args, Ex.sub, Ex.op, hl, operationP, allB, fits_want ha.2, fits_want hb.2, h1, h2, h3, h4]

theorem made_logic {ts : List Sch} {fs : List Frm} {a b : Ex} (o : Int) (h1 : 1 ≤ o) (h2 : o ≤ 2) (ha : Made ts fs 2 a) (hb : Made ts fs 2 b) : Made ts fs 2 (binX o a b) := by
  unfold Made
  rw [typeP_eq]
  have hl := typeL_two ts fs a b ha.1 hb.1
  have h3 : o ≤ 13 := by omega
  simp [binX, formed, Ex.kind, Ex.args, Ex.sub, Ex.op, hl, operationP, allB, fits_want ha.2, fits_want hb.2, h1, h2, h3]

theorem pair_two {x y want : Int} (hx : x = 0 ∨ x = want) (hy : y = 0 ∨ y = want) : pairB [x, y] = true := by
  simp [pairB, List.range, List.range.loop, allB, fits_same hx hy]
theorem pair_three {x y z want : Int} (hx : x = 0 ∨ x = want) (hy : y = 0 ∨ y = want) (hz : z = 0 ∨ z = want) : pairB [x, y, z] = true := by
  simp [pairB, List.range, List.range.loop, allB, fits_same hx hy, fits_same hx hz, fits_same hy hz]

theorem made_compare {ts : List Sch} {fs : List Frm} {a b : Ex} {want : Int} (o : Int) (h1 : 3 ≤ o) (h2 : o ≤ 8) (ha : Made ts fs want a) (hb : Made ts fs want b) : Made ts fs 2 (binX o a b) := by
  unfold Made
  rw [typeP_eq]
  have hl := typeL_two ts fs a b ha.1 hb.1
  have h3 : 1 ≤ o := by omega
  have h4 : ¬ o ≤ 2 := by omega
  have h5 : ¬ 9 ≤ o := by omega
  have h6 : o ≤ 13 := by omega
  simp [binX, formed, Ex.kind, Ex.args, Ex.sub, Ex.op, hl, operationP, pair_two ha.2 hb.2, h3, h4, h5, h6]

theorem made_between {ts : List Sch} {fs : List Frm} {a b c : Ex} (ha : Made ts fs 1 a) (hb : Made ts fs 1 b) (hc : Made ts fs 1 c) : Made ts fs 2 (opX 7 0 false [a, b, c] []) := by
  unfold Made
  rw [typeP_eq]
  have hl := typeL_three ts fs a b c ha.1 hb.1 hc.1
  simp [opX, formed, Ex.kind, Ex.args, Ex.sub, Ex.op, hl, operationP, pair_three ha.2 hb.2 hc.2]

/-- The items of a query as its kind has them: none, or one that is a number. -/
def itemsOk (ts : List Sch) (fs : List Frm) (k : Int) (items : List Ex) : Prop := ((k = 8 ∨ k = 9) ∧ items = []) ∨ ((k = 10 ∨ k = 11 ∨ k = 12) ∧ ∃ x, items = [x] ∧ Made ts fs 1 x)
def whereOk (ts : List Sch) (fs : List Frm) (whr : List Ex) : Prop := whr = [] ∨ ∃ x, whr = [x] ∧ Made ts fs 2 x

theorem where_zero {ts : List Sch} {fs : List Frm} {whr : List Ex} (h : whereOk ts fs whr) : typeC ts whr fs = 0 ∧ whr.length ≤ 1 := by
  rcases h with rfl | ⟨x, rfl, hx⟩
  · exact ⟨by simp [typeC], by simp⟩
  · refine ⟨?_, by simp⟩
    rw [typeC]
    cases h : typeP ts x fs with
    | mk t c =>
      have h1 := hx.1
      have h2 := hx.2
      rw [h] at h1 h2
      simp only at h1 h2
      simp [condP, h1, fits_want h2]

theorem made_query {ts : List Sch} {fs : List Frm} (k : Int) (st : Bool) (items whr : List Ex) (s : Sch) (hs : sourceP ts s.name = some s) (hi : itemsOk ts (fs ++ [frmOf s]) k items) (hw : whereOk ts (fs ++ [frmOf s]) whr) :
    Made ts fs (if k = 8 then 2 else 1) (opX k 0 false [] [.mk st items s.name whr]) := by
  obtain ⟨hw1, hw2⟩ := where_zero hw
  unfold Made
  rw [typeP_eq]
  rcases hi with ⟨rfl | rfl, rfl⟩ | ⟨rfl | rfl | rfl, x, rfl, hx⟩
  · simp [opX, formed, Ex.kind, Ex.args, Ex.sub, typeSub, typeQ, hs, subOk, Qu.items, Qu.whr, hw2, typeL, hw1, aggP]
  · simp [opX, formed, Ex.kind, Ex.args, Ex.sub, typeSub, typeQ, hs, subOk, Qu.items, Qu.whr, hw2, typeL, hw1, aggP]
  all_goals
    have hl := typeL_one ts (fs ++ [frmOf s]) x hx.1
    have hf := fits_want hx.2
    simp [opX, formed, Ex.kind, Ex.args, Ex.sub, typeSub, typeQ, hs, subOk, Qu.items, Qu.whr, hw2, hl, hw1, aggP, hf]
    try exact hx.2

/-- Frames and tables that go by their names: what has the same name has the same columns, all different. -/
def Named (look : List UInt8 → List Col) (fs : List Frm) (ss : List Sch) : Prop :=
  (∀ f ∈ fs, f.cols = look f.name.toList ∧ f.name.toList ≠ []) ∧ (∀ s ∈ ss, s.cols = look s.name.toList ∧ s.name.toList ≠ []) ∧ (∀ (n : List UInt8) (i j : Nat) (a b : Col), (look n)[i]? = some a → (look n)[j]? = some b → a.name.toList = b.name.toList → i = j)

theorem Named.inside {look : List UInt8 → List Col} {fs : List Frm} {ss : List Sch} {s : Sch} (h : Named look fs ss) (hs : s ∈ ss) : Named look (fs ++ [frmOf s]) ss := by
  refine ⟨fun f hf => ?_, h.2⟩
  rcases List.mem_append.1 hf with hf | hf
  · exact h.1 f hf
  · simp at hf
    subst hf
    exact h.2.1 s hs

theorem Named.sub {look : List UInt8 → List Col} {fs fs' : List Frm} {ss ss' : List Sch} (h : Named look fs ss) (h1 : ∀ f ∈ fs', f ∈ fs) (h2 : ∀ s ∈ ss', s ∈ ss) : Named look fs' ss' :=
  ⟨fun f hf => h.1 f (h1 f hf), fun s hs => h.2.1 s (h2 s hs), h.2.2⟩

theorem find_named {l : List Col} (hn : ∀ (i j : Nat) (a b : Col), l[i]? = some a → l[j]? = some b → a.name.toList = b.name.toList → i = j) {i : Nat} {c : Col} (hi : l[i]? = some c) : findCol l c.name = some i :=
  findIdx_some hi (by simp [nameIs]) fun j y hj hy => by
    unfold nameIs
    cases h : (y.name.toList == c.name.toList) with
    | false => rfl
    | true => have := hn j i y c hy hi (by simpa using h); omega

theorem resolve_some_at {q n : ByteArray} : ∀ {fs : List Frm} {i j : Nat}, resolve q n fs = some (i, j) → ∃ f, fs[i]? = some f ∧ resolveAt q n f = some j
  | [], i, j, h => by simp [resolve] at h
  | f :: fs, i, j, h => by
    rw [resolve] at h
    cases hr : resolve q n fs with
    | some p =>
      obtain ⟨i', j'⟩ := p
      rw [hr] at h
      simp at h
      obtain ⟨rfl, rfl⟩ := h
      obtain ⟨g, hg, hk⟩ := resolve_some_at hr
      exact ⟨g, by simpa using hg, hk⟩
    | none =>
      rw [hr] at h
      cases hk : resolveAt q n f with
      | none => rw [hk] at h; simp at h
      | some k =>
        rw [hk] at h
        simp at h
        obtain ⟨rfl, rfl⟩ := h
        exact ⟨f, rfl, hk⟩

theorem resolve_none_at {q n : ByteArray} : ∀ {fs : List Frm}, resolve q n fs = none → ∀ f ∈ fs, resolveAt q n f = none
  | [], _, f, hf => by cases hf
  | g :: fs, h, f, hf => by
    rw [resolve] at h
    cases hr : resolve q n fs with
    | some p => rw [hr] at h; simp at h
    | none =>
      rw [hr] at h
      rcases List.mem_cons.1 hf with rfl | hf
      · cases hk : resolveAt q n f with
        | none => rfl
        | some k => rw [hk] at h; simp at h
      · exact resolve_none_at hr f hf

theorem colType_at {fs : List Frm} {i k : Nat} {f : Frm} {c : Col} (hf : fs[i]? = some f) (hc : f.cols[k]? = some c) : colType fs i k = c.type := by simp [colType, hf, hc]

theorem made_colX {ts : List Sch} {fs : List Frm} {q n : ByteArray} {i k : Nat} {want : Int} (hr : resolve q n fs = some (i, k)) (ht : colType fs i k = want) : Made ts fs want (colX q n) := by
  unfold Made
  rw [typeP_eq]
  simp [colX, formed, Ex.kind, Ex.args, Ex.sub, Ex.table, Ex.name, hr, ht]

theorem made_qual {look : List UInt8 → List Col} {ts : List Sch} {fs : List Frm} {ss : List Sch} {f : Frm} {c : Col} (h : Named look fs ss) (hf : f ∈ fs) (hc : c ∈ f.cols) : Made ts fs c.type (colX f.name c.name) := by
  obtain ⟨k, hk⟩ := List.mem_iff_getElem?.1 hc
  have hfn := h.1 f hf
  have hn := h.2.2 f.name.toList
  rw [← hfn.1] at hn
  have hff := find_named hn hk
  have hfit : fits' f.name f = true := by
    have : (f.name.toList == []) = false := by simp [hfn.2]
    simp [fits', this]
  cases hr : resolve f.name c.name fs with
  | none =>
    have := resolve_none_at hr f hf
    rw [resolveAt, if_pos hfit, hff] at this
    cases this
  | some p =>
    obtain ⟨i, j⟩ := p
    obtain ⟨g, hg, hk'⟩ := resolve_some_at hr
    have hgm := h.1 g (List.mem_of_getElem? hg)
    unfold resolveAt at hk'
    split at hk'
    · rename_i hfg
      have hname : g.name.toList = f.name.toList := by
        have : (f.name.toList == []) = false := by simp [hfn.2]
        simpa [fits', this] using hfg
      have hcols : g.cols = f.cols := by rw [hgm.1, hfn.1, hname]
      rw [hcols, hff] at hk'
      cases hk'
      exact made_colX hr (colType_at hg (by rw [hcols]; exact hk))
    · cases hk'

theorem made_bare {look : List UInt8 → List Col} {ts : List Sch} {fs : List Frm} {ss : List Sch} {f : Frm} {c : Col} (h : Named look (fs ++ [f]) ss) (hs : f.strict = false) (hc : c ∈ f.cols) : Made ts (fs ++ [f]) c.type (colX ⟨#[]⟩ c.name) := by
  obtain ⟨k, hk⟩ := List.mem_iff_getElem?.1 hc
  have hfn := h.1 f (by simp)
  have hn := h.2.2 f.name.toList
  rw [← hfn.1] at hn
  have hff := find_named hn hk
  have hr : resolve ⟨#[]⟩ c.name (fs ++ [f]) = some (fs.length, k) := by
    rw [resolve_snoc, resolveAt, if_pos (by simp [fits', hs]), hff]
  exact made_colX hr (colType_at (f := f) (by simp) hk)

end Go.Proofs.YtpnigfmclmfjaaaGreatDoor
