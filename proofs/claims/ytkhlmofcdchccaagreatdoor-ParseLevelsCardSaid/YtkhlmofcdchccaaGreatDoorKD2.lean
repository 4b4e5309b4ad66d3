/- A column of a type from the tape: the contract of column. What the expressions from the tape look like in memory; the contract of Num for every small number. An expression with a query from the tape: the contract of query, over a contract of Expr. -/
import Derived.Test.YtkhlmofcdchccaaGreatDoorKD1
import Derived.Test.YtkhlmofcdchccaaGreatDoorKC4
import Derived.Test.YtkhlmofcdchccaaGreatDoorKN0
namespace Go.Proofs.YtkhlmofcdchccaaGreatDoor
open Go.RowKit

theorem infoExpr : (Tryz.prog.info? 30).map (fun i => (i.zero, i.size, i.bytes)) = some (some (.agg #[.int .i64 0, .int .i64 0, .bool false, .int .i64 0, .int .i64 0, .string ⟨#[]⟩, .string ⟨#[]⟩, .string ⟨#[]⟩, .slice none 0 0, .slice none 0 0]), 10, 136) := by kernel_rfl

theorem blk10 {w : World} {S : Nat} {a0 a1 a2 a3 a4 a5 a6 a7 a8 a9 : Value} {e : TypeId} (h : w.heap[S]? = some (.cells #[a0, a1, a2, a3, a4, a5, a6, a7, a8, a9] e (0, 0))) :
    w.cell? ⟨S, 0, none⟩ = some a0 ∧ w.cell? ⟨S, 1, none⟩ = some a1 ∧ w.cell? ⟨S, 2, none⟩ = some a2 ∧ w.cell? ⟨S, 3, none⟩ = some a3 ∧ w.cell? ⟨S, 4, none⟩ = some a4 ∧ w.cell? ⟨S, 5, none⟩ = some a5 ∧ w.cell? ⟨S, 6, none⟩ = some a6 ∧ w.cell? ⟨S, 7, none⟩ = some a7 ∧ w.cell? ⟨S, 8, none⟩ = some a8 ∧ w.cell? ⟨S, 9, none⟩ = some a9 ∧
    (∀ i, w.frozen? ⟨S, i, none⟩ = false) ∧ S < w.heap.size := by
  refine ⟨by simp [World.cell?, h], by simp [World.cell?, h], by simp [World.cell?, h], by simp [World.cell?, h], by simp [World.cell?, h], by simp [World.cell?, h], by simp [World.cell?, h], by simp [World.cell?, h], by simp [World.cell?, h], by simp [World.cell?, h], fun i => by simp [World.frozen?, h], (Array.getElem?_eq_some_iff.1 h).1⟩

theorem keep_set10 (S : Nat) (w : World) (a0 a1 a2 a3 a4 a5 a6 a7 a8 a9 : Value) : Keep (At S) w ((((((((((w.setCell ⟨S, 0, none⟩ a0).setCell ⟨S, 1, none⟩ a1).setCell ⟨S, 2, none⟩ a2).setCell ⟨S, 3, none⟩ a3).setCell ⟨S, 4, none⟩ a4).setCell ⟨S, 5, none⟩ a5).setCell ⟨S, 6, none⟩ a6).setCell ⟨S, 7, none⟩ a7).setCell ⟨S, 8, none⟩ a8).setCell ⟨S, 9, none⟩ a9) :=
  ((((((((((Keep.refl (At S) w).setCell (p := ⟨S, 0, none⟩) (fun _ => rfl) a0).setCell (p := ⟨S, 1, none⟩) (fun _ => rfl) a1).setCell (p := ⟨S, 2, none⟩) (fun _ => rfl) a2).setCell (p := ⟨S, 3, none⟩) (fun _ => rfl) a3).setCell (p := ⟨S, 4, none⟩) (fun _ => rfl) a4).setCell (p := ⟨S, 5, none⟩) (fun _ => rfl) a5).setCell (p := ⟨S, 6, none⟩) (fun _ => rfl) a6).setCell (p := ⟨S, 7, none⟩) (fun _ => rfl) a7).setCell (p := ⟨S, 8, none⟩) (fun _ => rfl) a8).setCell (p := ⟨S, 9, none⟩) (fun _ => rfl) a9

end Go.Proofs.YtkhlmofcdchccaaGreatDoor

namespace Go.Proofs.YtkhlmofcdchccaaGreatDoor
open Go.RowKit

/-- The expression e as a value. -/
def ExV (M : Nat → Prop) (w : World) (e : Ex) (v : Value) : Prop :=
  ∃ a ac s sc, v = .agg #[.int .i64 e.kind, .int .i64 e.op, .bool e.no, .int .i64 e.val.kind, .int .i64 e.val.int, .string e.val.text, .string e.table, .string e.name, .slice a e.args.length ac, .slice s e.sub.length sc] ∧
    ExsR M w (.slice a e.args.length ac) e.args ∧ QusR M w (.slice s e.sub.length sc) e.sub

theorem ExV.ec {M : Nat → Prop} {w : World} {e : Ex} {v : Value} (h : ExV M w e v) : ∃ cs, v = .agg cs.toArray ∧ EC M w e cs := by
  obtain ⟨a, ac, s, sc, rfl, h1, h2⟩ := h
  exact ⟨_, rfl, (EC_iff ..).2 ⟨_, _, rfl, h1, h2⟩⟩
theorem ExV.keep {M : Nat → Prop} {w w' : World} {e : Ex} {v : Value} (h : ExV M w e v) (k : Keep M w w') : ExV M w' e v := by
  obtain ⟨a, ac, s, sc, rfl, h1, h2⟩ := h
  exact ⟨a, ac, s, sc, rfl, h1.keep k, h2.keep k⟩
theorem ExV.weak {M M' : Nat → Prop} {w : World} {e : Ex} {v : Value} (hM : ∀ k, k < w.heap.size → M' k → M k) (h : ExV M w e v) : ExV M' w e v := by
  obtain ⟨a, ac, s, sc, rfl, h1, h2⟩ := h
  exact ⟨a, ac, s, sc, rfl, h1.weak hM, h2.weak hM⟩
/-- The names of triggers. -/
def trigName (i : Nat) : ByteArray := ⟨#[97 + UInt8.ofNat i, 97 + UInt8.ofNat i]⟩
/-- Well-formed expressions of a depth. -/
inductive GX : Nat → Ex → Prop
  | col (n : Nat) (t nm : ByteArray) (h : columnB t nm = true) : GX n (colX t nm)
  | lit (n : Nat) (v : Val) (hv : ValidVal v) (h0 : v.kind = 1 → 0 ≤ v.int) : GX n (litX v)
  | num (n : Nat) (m : Int) (h1 : -1000 ≤ m) (h2 : m ≤ 1000) : GX n (numX m)
  | txt (n i : Nat) (hi : i < 8) : GX n (litX ⟨3, 0, trigName i⟩)
  | ops (n : Nat) (k o : Int) (no : Bool) (args : List Ex) (hk : OpShape k o no args.length) (ha : ∀ x ∈ args, GX n x) : GX (n + 1) (opX k o no args [])
  | sub (n : Nat) (k : Int) (f : ByteArray) (items whr : List Ex) (hf : sourceB f = true) (hi : ((k = 8 ∨ k = 9) ∧ items = []) ∨ ((k = 10 ∨ k = 11 ∨ k = 12) ∧ items.length = 1)) (hw : whr.length ≤ 1) (h1 : ∀ x ∈ items, GX n x) (h2 : ∀ x ∈ whr, GX n x) :
      GX (n + 1) (opX k 0 false [] [.mk (k == 8) items f whr])
theorem GX.up {n m : Nat} {e : Ex} (h : GX n e) (hm : n ≤ m) : GX m e := by
  induction h generalizing m with
  | col n t nm h => exact .col m t nm h
  | lit n v hv h0 => exact .lit m v hv h0
  | num n u h1 h2 => exact .num m u h1 h2
  | txt n i hi => exact .txt m i hi
  | ops n k o no args hk _ ih =>
    obtain ⟨m, rfl⟩ : ∃ j, m = j + 1 := ⟨m - 1, by omega⟩
    exact .ops m k o no args hk fun x hx => ih x hx (by omega)
  | sub n k f items whr hf hi hw _ _ ih1 ih2 =>
    obtain ⟨m, rfl⟩ : ∃ j, m = j + 1 := ⟨m - 1, by omega⟩
    exact .sub m k f items whr hf hi hw (fun x hx => ih1 x hx (by omega)) fun x hx => ih2 x hx (by omega)
/-- The names of a place are names. -/
def PlaceN (fs : List Frm) (ss : List Sch) : Prop := (∀ f ∈ fs, ∀ c ∈ f.cols, columnB f.name c.name = true) ∧ ∀ s ∈ ss, sourceB s.name = true ∧ ∀ c ∈ s.cols, columnB s.name c.name = true
/-- Made as was asked, over every list of tables that has the place's. -/
def Mk (ss : List Sch) (fs : List Frm) (want : Int) (n : Nat) (e : Ex) : Prop := (dep e ≤ n ∧ GX n e) ∧ ∀ ts, (∀ s ∈ ss, sourceP ts s.name = some s) → Made ts fs want e
theorem Mk.mono {ss : List Sch} {fs : List Frm} {want : Int} {n m : Nat} {e : Ex} (h : Mk ss fs want n e) (hn : n ≤ m) : Mk ss fs want m e := ⟨⟨Nat.le_trans h.1.1 hn, h.1.2.up hn⟩, h.2⟩

def PlaceP (look : List UInt8 → List Col) (fs : List Frm) (ss : List Sch) (n : Nat) : Prop :=
  Named look fs ss ∧ fs.length + n ≤ 100 ∧ (∀ f ∈ fs, f.cols.length ≤ 10) ∧ (∀ s ∈ ss, s.cols.length ≤ 10) ∧ ss ≠ [] ∧ ss.length ≤ 10 ∧ PlaceN fs ss
theorem PlaceP.mono {look : List UInt8 → List Col} {fs : List Frm} {ss : List Sch} {n m : Nat} (h : PlaceP look fs ss n) (hn : m ≤ n) : PlaceP look fs ss m := ⟨h.1, by have := h.2.1; omega, h.2.2⟩
section
variable {T : Nat} {vf vt : Value} {w wi wj : World}
end

end Go.Proofs.YtkhlmofcdchccaaGreatDoor

namespace Go.Proofs.YtkhlmofcdchccaaGreatDoor
open Go.RowKit

section
variable {T p h : Nat} {vf vt pv : Value} {w W W' : World} {fs : List Frm} {st : Bool} {frm : ByteArray} {items whr : List Ex}
end

end Go.Proofs.YtkhlmofcdchccaaGreatDoor
