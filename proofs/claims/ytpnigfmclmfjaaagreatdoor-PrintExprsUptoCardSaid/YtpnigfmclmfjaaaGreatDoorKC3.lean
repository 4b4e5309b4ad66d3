/- Expressions with the parts that their kinds have: contract of scope.Formed. Conditions and expressions with a query, over a contract of Type: contracts of scope.Condition and scope.aggregate. Expressions with a query, over a contract of Type: the contract of scope.aggregate. Expressions with a query of one item: the rest of the contract of scope.aggregate. Types of expressions: the contract of scope.Type, for every expression. -/
import Derived.Test.YtpnigfmclmfjaaaGreatDoorKC2
namespace Go.Proofs.YtpnigfmclmfjaaaGreatDoor
open Go.RowKit

section
variable (o : Int) (no : Bool) (vk vi : Int) (vt t nm : ByteArray) (a s : Option Addr) (n m ac sc : Nat) (w : World)
end

theorem no_sub {e : Ex} {items : Nat} (h : e.args.length ≠ 0 ∨ e.sub.length ≠ 1) : (e.args.length == 0 && subOk items e.sub) = false := by
  by_cases h0 : e.args.length = 0
  · have h1 : e.sub.length ≠ 1 := by omega
    have : subOk items e.sub = false := by
      match hq : e.sub with
      | [] => rfl
      | [q] => simp [hq] at h1
      | q :: r :: l => rfl
    simp [this]
  · simp [h0]

end Go.Proofs.YtpnigfmclmfjaaaGreatDoor

namespace Go.Proofs.YtpnigfmclmfjaaaGreatDoor
open Go.RowKit

theorem CellsAt.c10 {w : World} {b o : Nat} {a0 a1 a2 a3 a4 a5 a6 a7 a8 a9 : Value} (h : CellsAt w b o [a0, a1, a2, a3, a4, a5, a6, a7, a8, a9]) :
    w.cell? ⟨b, o, none⟩ = some a0 ∧ w.cell? ⟨b, o + 1, none⟩ = some a1 ∧ w.cell? ⟨b, o + 2, none⟩ = some a2 ∧ w.cell? ⟨b, o + 3, none⟩ = some a3 ∧ w.cell? ⟨b, o + 4, none⟩ = some a4 ∧
    w.cell? ⟨b, o + 5, none⟩ = some a5 ∧ w.cell? ⟨b, o + 6, none⟩ = some a6 ∧ w.cell? ⟨b, o + 7, none⟩ = some a7 ∧ w.cell? ⟨b, o + 8, none⟩ = some a8 ∧ w.cell? ⟨b, o + 9, none⟩ = some a9 :=
  ⟨h 0 _ rfl, h 1 _ rfl, h 2 _ rfl, h 3 _ rfl, h 4 _ rfl, h 5 _ rfl, h 6 _ rfl, h 7 _ rfl, h 8 _ rfl, h 9 _ rfl⟩

def ColsSmall (ts : List Sch) : Prop := ∀ s ∈ ts, s.cols.length * 32 ≤ 140737488355328

end Go.Proofs.YtpnigfmclmfjaaaGreatDoor

namespace Go.Proofs.YtpnigfmclmfjaaaGreatDoor
open Go.RowKit

/-- Some cells, each a block, a place and a value. -/
def Cells (W : World) (L : List (Nat × Nat × Value)) : Prop := ∀ p ∈ L, W.cell? ⟨p.1, p.2.1, none⟩ = some p.2.2
theorem Cells.nil (W : World) : Cells W [] := fun _ h => by cases h
theorem Cells.cons {W : World} {b o : Nat} {v : Value} {L : List (Nat × Nat × Value)} (h : W.cell? ⟨b, o, none⟩ = some v) (hl : Cells W L) : Cells W ((b, o, v) :: L) := by
  intro p hp
  rcases List.mem_cons.1 hp with rfl | hp
  · exact h
  · exact hl p hp
theorem Cells.bel {W W' : World} {L : List (Nat × Nat × Value)} (h : Cells W L) (hb : Below W.heap.size W W') : Cells W' L := fun p hp => by
  have := h p hp
  exact (hb.cell (World.block_lt_of_cell? _ _ this)).trans this
theorem Cells.alloc {W : World} {L : List (Nat × Nat × Value)} (h : Cells W L) (o : Obj) : Cells (W.alloc o) L := h.bel ((Below.refl _ _).alloc (Nat.le_refl _) o)
theorem Cells.un {W : World} {b o : Nat} {v : Value} {L : List (Nat × Nat × Value)} (h : Cells W ((b, o, v) :: L)) : W.cell? ⟨b, o, none⟩ = some v ∧ b < W.heap.size ∧ Cells W L := by
  have h0 := h _ (List.mem_cons_self ..)
  exact ⟨h0, World.block_lt_of_cell? _ _ h0, fun p hp => h p (List.mem_cons_of_mem _ hp)⟩

section
variable (ts : List Sch) (k o : Int) (no : Bool) (vk vi : Int) (vt t nm : ByteArray) (a sa : Option Addr) (an ac : Nat) (sc sb so : Nat) (star : Bool) (frm : ByteArray) (ia wa : Option Addr) (ic wc : Nat) (items whr : List Ex) (fs : List Frm) (vf vtb : Value) (w : World)
  (hsb : sb < w.heap.size) (q0 : w.cell? ⟨sb, so, none⟩ = some (.bool star)) (q1 : w.cell? ⟨sb, so + 1, none⟩ = some (.slice ia items.length ic)) (q2 : w.cell? ⟨sb, so + 2, none⟩ = some (.string frm)) (q3 : w.cell? ⟨sb, so + 3, none⟩ = some (.slice wa whr.length wc))
  (hts : TblsR NoM w vtb ts) (hsm : ColsSmall ts)

include hsb q0 q1 q2 q3 hts in
end

end Go.Proofs.YtpnigfmclmfjaaaGreatDoor

namespace Go.Proofs.YtpnigfmclmfjaaaGreatDoor
open Go.RowKit

section
variable (ts : List Sch) (k o : Int) (no : Bool) (vk vi : Int) (vt t nm : ByteArray) (a sa : Option Addr) (an ac : Nat) (sc sb so : Nat) (star : Bool) (frm : ByteArray) (ib io : Nat) (wa : Option Addr) (ic wc : Nat) (x : Ex) (whr : List Ex) (fs : List Frm) (vf vtb : Value) (w : World)
  (hsb : sb < w.heap.size) (q0 : w.cell? ⟨sb, so, none⟩ = some (.bool star)) (q1 : w.cell? ⟨sb, so + 1, none⟩ = some (.slice (some ⟨ib, io, none⟩) 1 ic)) (q2 : w.cell? ⟨sb, so + 2, none⟩ = some (.string frm)) (q3 : w.cell? ⟨sb, so + 3, none⟩ = some (.slice wa whr.length wc))
  (hts : TblsR NoM w vtb ts) (hsm : ColsSmall ts)

include hsb q0 q1 q2 q3 hts hsm in
end

end Go.Proofs.YtpnigfmclmfjaaaGreatDoor

namespace Go.Proofs.YtpnigfmclmfjaaaGreatDoor
open Go.RowKit

theorem resolveAt_some {q n : ByteArray} {f : Frm} {j : Nat} (h : resolveAt q n f = some j) : ∃ c, f.cols[j]? = some c := by
  unfold resolveAt at h
  split at h
  · unfold findCol at h
    rw [List.findIdx?_eq_some_iff_getElem] at h
    obtain ⟨hlt, _⟩ := h
    exact ⟨_, List.getElem?_eq_getElem hlt⟩
  · cases h

theorem resolve_spec {q n : ByteArray} : ∀ {fs : List Frm} {i j : Nat}, resolve q n fs = some (i, j) → ∃ f c, fs[i]? = some f ∧ f.cols[j]? = some c
  | [], i, j, h => by cases h
  | f :: fs, i, j, h => by
    rw [resolve] at h
    cases hr : resolve q n fs with
    | some p =>
      obtain ⟨i', k⟩ := p
      rw [hr] at h
      simp only [Option.some.injEq, Prod.mk.injEq] at h
      obtain ⟨rfl, rfl⟩ := h
      obtain ⟨g, c, h1, h2⟩ := resolve_spec hr
      exact ⟨g, c, by simpa using h1, h2⟩
    | none =>
      rw [hr] at h
      simp only [Option.map_eq_some_iff, Prod.mk.injEq] at h
      obtain ⟨k, hk, rfl, rfl⟩ := h
      obtain ⟨c, hc⟩ := resolveAt_some hk
      exact ⟨f, c, rfl, hc⟩

theorem formed_sub {e : Ex} (h : formed e = true) (hk : 8 ≤ e.kind) : (∃ q, e.sub = [q] ∧ q.whr.length ≤ 1 ∧ ((e.kind = 8 ∨ e.kind = 9) ∧ q.items = [] ∨ (e.kind = 10 ∨ e.kind = 11 ∨ e.kind = 12) ∧ ∃ x, q.items = [x])) := by
  unfold formed at h
  rw [if_neg (by omega), if_neg (by omega), if_neg (by omega), if_neg (by omega)] at h
  have sub1 : ∀ items, subOk items e.sub = true → ∃ q, e.sub = [q] ∧ q.items.length = items ∧ q.whr.length ≤ 1 := by
    intro items hs
    match hq : e.sub with
    | [] => rw [hq] at hs; cases hs
    | [q] =>
      rw [hq] at hs
      simp [subOk] at hs
      exact ⟨q, rfl, hs.1, hs.2⟩
    | _ :: _ :: _ => rw [hq] at hs; cases hs
  by_cases k8 : e.kind = 8 ∨ e.kind = 9
  · rw [if_pos k8] at h
    simp only [Bool.and_eq_true] at h
    obtain ⟨q, h1, h2, h3⟩ := sub1 0 h.2
    exact ⟨q, h1, h3, .inl ⟨k8, List.eq_nil_of_length_eq_zero h2⟩⟩
  · rw [if_neg k8] at h
    by_cases k10 : e.kind = 10 ∨ e.kind = 11 ∨ e.kind = 12
    · rw [if_pos k10] at h
      simp only [Bool.and_eq_true] at h
      obtain ⟨q, h1, h2, h3⟩ := sub1 1 h.2
      match hi : q.items, h2 with
      | [x], _ => exact ⟨q, h1, h3, .inr ⟨k10, x, hi⟩⟩
    · rw [if_neg k10] at h
      cases h

end Go.Proofs.YtpnigfmclmfjaaaGreatDoor
