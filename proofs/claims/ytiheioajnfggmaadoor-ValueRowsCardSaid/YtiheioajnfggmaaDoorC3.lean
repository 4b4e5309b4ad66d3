/- Names resolved: contracts of schema.Find and scope.Resolve, and of the reference's Resolve. -/
import Derived.Test.YtiheioajnfggmaaDoorC1
namespace Go.Proofs.YtiheioajnfggmaaDoor
open Go.RowKit

def idxI : Option Nat → Int | some i => i | none => -1

theorem findIdx_some {α : Type} {p : α → Bool} {xs : List α} {k : Nat} {x : α} (hx : xs[k]? = some x) (hp : p x = true) (hn : ∀ i y, i < k → xs[i]? = some y → p y = false) : xs.findIdx? p = some k := by
  rw [List.findIdx?_eq_some_iff_getElem]
  obtain ⟨hlt, rfl⟩ := List.getElem?_eq_some_iff.1 hx
  exact ⟨hlt, hp, fun j hj => by simp [hn j _ hj (List.getElem?_eq_getElem (by omega))]⟩

theorem findIdx_none {α : Type} {p : α → Bool} {xs : List α} (hn : ∀ i y, i < xs.length → xs[i]? = some y → p y = false) : xs.findIdx? p = none := by
  rw [List.findIdx?_eq_none_iff]
  intro y hy
  obtain ⟨i, hi, rfl⟩ := List.mem_iff_getElem.1 hy
  exact hn i _ hi (List.getElem?_eq_getElem hi)

def nameIs (c : ByteArray) (x : Col) : Bool := x.name.toList == c.toList
def findCol (l : List Col) (c : ByteArray) : Option Nat := l.findIdx? (nameIs c)

set_option maxHeartbeats 400000 in
theorem find1_any (nm c : ByteArray) (x1 : Int) (x2 x3 : Bool) (b o : Nat) (w : World) (h : w.cell? ⟨b, o, none⟩ = some (.string c)) (hb : b < w.heap.size) :
    Calls Tryd.prog 109 #[.agg #[.string nm, .int .i64 x1, .bool x2, .bool x3], .pointer (some ⟨b, o, none⟩)] w fun e w' => e = .returned (.bool (nm.toList == c.toList)) ∧ Below w.heap.size w w' := by
  go_enter Tryd.func109, Tryd.ntmps109
  go_wp2
  go_ret
  exact ⟨rfl, (Below.refl _ _).alloc (Nat.le_refl _) _⟩

def RetBel (v : Value) (w : World) (e : Ending) (w' : World) : Prop := e = .returned v ∧ Below w.heap.size w w'

set_option maxHeartbeats 1000000 in
theorem idxCol_any {M : Nat → Prop} (v : Value) (l : List Col) (c : ByteArray) (b o : Nat) (w : World) (hv : ColsR M w v l) (h : w.cell? ⟨b, o, none⟩ = some (.string c)) :
    Calls Tryd.prog 108 #[v, .func (.func 109) #[] #[.pointer (some ⟨b, o, none⟩)]] w (RetBel (.int .i64 (idxI (findCol l c))) w) := by
  have hb := World.block_lt_of_cell? _ _ h
  simp only at hb
  have HV := Lib.hid hv
  obtain ⟨a, cap, rfl, hm⟩ := hv.shape
  unfold maxLen at hm
  clear hv
  have hs := @Int.ofNat_le l.length
  go_enter Tryd.func108, Tryd.ntmps108
  go_wp2
  go_loopw [5, 8] (fun j i wr => ∃ k : Nat, k ≤ l.length ∧ i = .int .i64 k ∧ Below w.heap.size w wr ∧ ∀ i y, i < k → l[i]? = some y → nameIs c y = false) (fun _ i _ => l.length - (intOf i).toNat)
  case atStart => exact ⟨0, Nat.zero_le _, rfl, Below.refl _ _, fun i y hi => by omega⟩
  case round =>
    obtain ⟨k, hk, rfl, hbel, hno⟩ := hrel
    have HN := Lib.hid hno
    clear hno
    by_cases hlt : k < l.length
    · rcases HV.out.open with ⟨h, h'⟩ | ⟨b', o', cap', hv', hbT, hbs, hl, hm', hx⟩
      · subst h'; simp at hlt
      · simp only [Value.slice.injEq] at hv'
        obtain ⟨rfl, _, rfl⟩ := hv'
        have hxk : l[k]? = some l[k] := List.getElem?_eq_getElem hlt
        obtain ⟨cs, rfl, _, hcs⟩ := hx k _ hxk
        generalize l[k] = x at hxk hcs
        have hcs' := hcs.keep (M := fun k => w.heap.size ≤ k) (.of_below hbel fun k _ h => h) (by simp; omega)
        obtain ⟨c0, c1, c2, c3⟩ := hcs'.c4
        have h0 : wr.cell? ⟨b, o, none⟩ = some (.string c) := (hbel.cell hb).trans h
        have hbr : b < wr.heap.size := Nat.lt_of_lt_of_le hb hbel.size
        have HX := Lib.hid hxk
        have HB := Lib.hid hbel
        clear hx hcs hxk hbel hcs'
        by_cases hp : (x.name.toList == c.toList) = true
        · go_wp2_with (go_at_call 109; refine (find1_any _ _ _ _ _ _ _ _ h0 hbr).mono ?_; rintro e w1 ⟨rfl, hb1⟩)
          go_ret
          refine ⟨?_, bel_trans HB.out (by assumption)⟩
          rw [show findCol l c = some k from findIdx_some HX.out hp HN.out]
          rfl
        · have hp' : (x.name.toList == c.toList) = false := by simpa using hp
          clear hp
          go_wp2_with (go_at_call 109; refine (find1_any _ _ _ _ _ _ _ _ h0 hbr).mono ?_; rintro e w1 ⟨rfl, hb1⟩)
          go_roundw
          case rel =>
            refine ⟨k + 1, by omega, by go_num, bel_trans HB.out (by assumption), fun i y hi hy => ?_⟩
            by_cases e : i = k
            · subst e
              have := HX.out
              rw [this] at hy
              simp at hy
              subst hy
              exact hp'
            · exact HN.out i y (by omega) hy
          case measure => simp [intOf]; omega
    · go_wp2
      go_ret
      refine ⟨?_, hbel⟩
      rw [show findCol l c = none from findIdx_none fun i y hi hy => HN.out i y (by omega) hy]
      rfl

set_option maxHeartbeats 1000000 in
theorem find_any {M : Nat → Prop} (nm : ByteArray) (v : Value) (l : List Col) (c : ByteArray) (w : World) (hv : ColsR M w v l) :
    Calls Tryd.prog 63 #[.agg #[.string nm, v], .string c] w (RetBel (.int .i64 (idxI (findCol l c))) w) := by
  have HV := Lib.hid hv
  obtain ⟨a, cap, rfl, hm⟩ := hv.shape
  clear hv
  go_enter Tryd.func63, Tryd.ntmps63
  go_wp2_with fail
  refine (idxCol_any (M := M) _ l c _ _ _ (HV.out.keep (((Keep.refl M w).alloc _).alloc _)) (by simp)).mono ?_
  rintro e w1 ⟨rfl, hb⟩
  have HB := Lib.hid hb
  clear hb
  go_wp2_with fail
  go_ret
  refine ⟨rfl, ?_⟩
  have := HB.out.mono (B' := w.heap.size) (by simp; omega)
  exact (((Below.refl _ w).alloc (Nat.le_refl _) _).alloc (by simp) _).trans this

theorem find_some {M : Nat → Prop} (nm : ByteArray) (v : Value) (l : List Col) (c : ByteArray) (w : World) (k : Nat) (hv : ColsR M w v l) (hk : findCol l c = some k) :
    Calls Tryd.prog 63 #[.agg #[.string nm, v], .string c] w (RetBel (.int .i64 k) w) := by
  have := find_any nm v l c w hv
  rw [hk] at this
  exact this

theorem find_none {M : Nat → Prop} (nm : ByteArray) (v : Value) (l : List Col) (c : ByteArray) (w : World) (hv : ColsR M w v l) (hk : findCol l c = none) :
    Calls Tryd.prog 63 #[.agg #[.string nm, v], .string c] w (RetBel (.int .i64 (-1)) w) := by
  have := find_any nm v l c w hv
  rw [hk] at this
  exact this

/-- Which frame may answer to a qualifier. -/
def fits' (q : ByteArray) (f : Frm) : Bool := !((q.toList == []) && f.strict || !(q.toList == []) && !(f.name.toList == q.toList))

def resolveAt (q n : ByteArray) (f : Frm) : Option Nat := if fits' q f then findCol f.cols n else none

/-- The innermost frame with its column. -/
def resolve (q n : ByteArray) : List Frm → Option (Nat × Nat)
  | [] => none
  | f :: fs => match resolve q n fs with
    | some (i, k) => some (i + 1, k)
    | none => (resolveAt q n f).map fun k => (0, k)

theorem resolve_snoc (q n : ByteArray) (l : List Frm) (f : Frm) : resolve q n (l ++ [f]) = match resolveAt q n f with | some k => some (l.length, k) | none => resolve q n l := by
  induction l with
  | nil => cases h : resolveAt q n f <;> simp [resolve, h]
  | cons g l ih =>
    simp only [List.cons_append, resolve, ih]
    cases h : resolveAt q n f <;> simp

theorem resolve_take_succ (q n : ByteArray) (l : List Frm) (k : Nat) (f : Frm) (h : l[k]? = some f) : resolve q n (l.take (k + 1)) = match resolveAt q n f with | some j => some (k, j) | none => resolve q n (l.take k) := by
  obtain ⟨hlt, rfl⟩ := List.getElem?_eq_some_iff.1 h
  rw [List.take_succ_eq_append_getElem hlt, resolve_snoc]
  simp [Nat.min_eq_left (Nat.le_of_lt hlt)]

def resV : Option (Nat × Nat) → Value
  | some (i, k) => .tuple #[.int .i64 i, .int .i64 k, .bool true]
  | none => .tuple #[.int .i64 0, .int .i64 0, .bool false]

set_option maxHeartbeats 1000000 in
theorem resolve_any {M : Nat → Prop} (v : Value) (l : List Frm) (q n : ByteArray) (w : World) (hv : FrmsR M w v l) :
    Calls Tryd.prog 17 #[v, .string q, .string n] w (RetBel (resV (resolve q n l)) w) := by
  have HV := Lib.hid hv
  obtain ⟨a, cap, rfl, hm⟩ := hv.shape
  unfold maxLen at hm
  clear hv
  go_enter Tryd.func17, Tryd.ntmps17
  go_wp2
  go_step3
  go_wp2
  go_step3
  go_wp2
  go_loopw [9] (fun i wr => ∃ k : Nat, k ≤ l.length ∧ i = .int .i64 ((k : Int) - 1) ∧ Below w.heap.size w wr ∧ resolve q n l = resolve q n (l.take k)) (fun i _ => (intOf i + 1).toNat)
  case atStart => exact ⟨l.length, Nat.le_refl _, rfl, Below.refl _ _, by rw [List.take_length]⟩
  case round =>
    obtain ⟨k, hk, rfl, hbel, hno⟩ := hrel
    have HN := Lib.hid hno
    clear hno
    by_cases hlt : 1 ≤ k
    · obtain ⟨j, rfl⟩ : ∃ j, k = j + 1 := ⟨k - 1, by omega⟩
      rcases HV.out.open with ⟨h, h'⟩ | ⟨b', o', cap', hv', hbT, hbs, hl, hm', hx⟩
      · subst h'; simp at hk
      · simp only [Value.slice.injEq] at hv'
        obtain ⟨rfl, _, rfl⟩ := hv'
        have hxk : l[j]? = some l[j] := List.getElem?_eq_getElem (by omega)
        obtain ⟨cs, ⟨vc, a1, n1, p1, rfl, hcols⟩, _, hcs⟩ := hx j _ hxk
        generalize l[j] = f at hxk hcs hcols
        have hcs' := hcs.keep (M := fun k => w.heap.size ≤ k) (.of_below hbel fun k _ h => h) (by simp; omega)
        obtain ⟨c0, c1, c2, c3⟩ := hcs'.c4
        obtain ⟨ca, cc, rfl, _⟩ := hcols.shape
        have hb'r : b' < wr.heap.size := Nat.lt_of_lt_of_le hbs hbel.size
        have HX := Lib.hid hxk
        have HB := Lib.hid hbel
        have HC := Lib.hid hcols
        clear hx hcs hxk hbel hcs' hcols
        have e1 : ((j + 1 : Nat) : Int) - 1 = (j : Int) := by omega
        rw [e1]
        have hcr : ∀ o, ColsR M (wr.alloc o) (.slice ca f.cols.length cc) f.cols := fun o => HC.out.keep ((Keep.bel HB.out).alloc o)
        have HR := Lib.hid hcr
        clear hcr
        have hbw := HB.out.size
        have skip : fits' q f = false → resolve q n l = resolve q n (l.take j) := fun h => by
          rw [HN.out, resolve_take_succ q n l j f HX.out]
          simp [resolveAt, h]
        have here : fits' q f = true → ∀ k, findCol f.cols n = some k → resolve q n l = some (j, k) := fun h k hk => by
          rw [HN.out, resolve_take_succ q n l j f HX.out]
          simp [resolveAt, h, hk]
        have gone : fits' q f = true → findCol f.cols n = none → resolve q n l = resolve q n (l.take j) := fun h hk => by
          rw [HN.out, resolve_take_succ q n l j f HX.out]
          simp [resolveAt, h, hk]
        have S1 := Lib.hid skip
        have S2 := Lib.hid here
        have S3 := Lib.hid gone
        clear skip here gone
        have bl : ∀ (o : Obj) (w1 : World), Below (wr.alloc o).heap.size (wr.alloc o) w1 → Below w.heap.size w w1 := fun o w1 h => bel_trans HB.out (((Below.refl _ wr).alloc (Nat.le_refl _) o).trans (h.mono (by simp)))
        have BL := Lib.hid bl
        clear bl
        cases hf : findCol f.cols n with
        | none =>
          have HF := Lib.hid hf
          clear hf
          go_wp2_with (go_at_call 63; refine (find_none (M := M) _ _ _ _ _ (HR.out _) HF.out).mono ?_; rintro e w1 ⟨rfl, hb1⟩; have HB1 := Lib.hid hb1; clear hb1)
          all_goals
            go_roundw
            case rel =>
              refine ⟨j, by omega, rfl, ?_, ?_⟩
              · first
                | exact BL.out _ _ (Hid.out (by assumption))
                | exact HB.out.trans ((Below.refl _ wr).alloc hbw _)
              · cases hfit : fits' q f with
                | true => exact S3.out hfit HF.out
                | false => exact S1.out hfit
            case measure => simp [intOf]
        | some at_ =>
          have HF := Lib.hid hf
          clear hf
          go_wp2_with (go_at_call 63; refine (find_some (M := M) _ _ _ _ _ at_ (HR.out _) HF.out).mono ?_; rintro e w1 ⟨rfl, hb1⟩; have HB1 := Lib.hid hb1; clear hb1)
          case roundEnd | roundEnd =>
            go_roundw
            case rel =>
              refine ⟨j, by omega, rfl, HB.out.trans ((Below.refl _ wr).alloc hbw _), S1.out ?_⟩
              simp_all [fits']
            case measure => simp [intOf]
          all_goals
            rw [Exit.noGoto_ret]
            go_ret3
            refine ⟨?_, BL.out _ _ (Hid.out (by assumption))⟩
            rw [S2.out (by simp_all [fits']) _ HF.out]
            rfl
    · obtain rfl : k = 0 := by omega
      go_wp2
      go_ret3
      refine ⟨?_, hbel⟩
      rw [HN.out]
      rfl

end Go.Proofs.YtiheioajnfggmaaDoor
