/- Tables found: contracts of scope.Source. -/
import Derived.Test.YtiheioajnfggmaaDoorC6
namespace Go.Proofs.YtiheioajnfggmaaDoor
open Go.RowKit

def tblIs (c : ByteArray) (x : Sch) : Bool := x.name.toList == c.toList
def findTbl (l : List Sch) (c : ByteArray) : Option Nat := l.findIdx? (tblIs c)

set_option maxHeartbeats 400000 in
theorem source1_any (nm c : ByteArray) (ca : Option Addr) (cn cc : Nat) (n : Int) (a : Option Addr) (l cp : Nat) (b o : Nat) (w : World) (h : w.cell? ⟨b, o, none⟩ = some (.string c)) (hb : b < w.heap.size) :
    Calls Tryd.prog 78 #[.agg #[.string nm, .slice ca cn cc, .int .i64 n, .slice a l cp], .pointer (some ⟨b, o, none⟩)] w fun e w' => e = .returned (.bool (nm.toList == c.toList)) ∧ Below w.heap.size w w' := by
  go_enter Tryd.func78, Tryd.ntmps78
  go_wp2
  go_ret
  exact ⟨rfl, (Below.refl _ _).alloc (Nat.le_refl _) _⟩

set_option maxRecDepth 100000 in
set_option maxHeartbeats 1000000 in
theorem idxTbl_any {M : Nat → Prop} (v : Value) (l : List Sch) (c : ByteArray) (b o : Nat) (w : World) (hv : TblsR M w v l) (h : w.cell? ⟨b, o, none⟩ = some (.string c)) :
    Calls Tryd.prog 77 #[v, .func (.func 78) #[] #[.pointer (some ⟨b, o, none⟩)]] w (RetBel (.int .i64 (idxI (findTbl l c))) w) := by
  have hb := World.block_lt_of_cell? _ _ h
  simp only at hb
  have HV := Lib.hid hv
  obtain ⟨a, cap, rfl, hm⟩ := hv.shape
  unfold maxLen at hm
  clear hv
  have hs := @Int.ofNat_le l.length
  go_enter Tryd.func77, Tryd.ntmps77
  go_wp2
  go_loopw [5, 8] (fun j i wr => ∃ k : Nat, k ≤ l.length ∧ i = .int .i64 k ∧ Below w.heap.size w wr ∧ ∀ i y, i < k → l[i]? = some y → tblIs c y = false) (fun _ i _ => l.length - (intOf i).toNat)
  case atStart => exact ⟨0, Nat.zero_le _, rfl, Below.refl _ _, fun i y hi => by omega⟩
  case round =>
    obtain ⟨k, hk, rfl, hbel, hno⟩ := hrel
    have HN := Lib.hid hno
    clear hno
    by_cases hlt : k < l.length
    · rcases HV.out.open with ⟨h, h'⟩ | ⟨b', o', cap', hv', hbT, hbs, hl, hm', hx⟩
      · subst h'; simp at hlt
      · simp only [Value.slice.injEq] at hv'
        obtain ⟨rfl, _, rfl⟩ := hv'
        have hxk : l[k]? = some l[k] := List.getElem?_eq_getElem hlt
        obtain ⟨cs, ⟨vc, tn, ta, tl, tc, rfl, hcols⟩, _, hcs⟩ := hx k _ hxk
        obtain ⟨ca, cc, rfl, _⟩ := hcols.shape
        generalize l[k] = x at hxk hcs hcols
        have hcs' := hcs.keep (M := fun k => w.heap.size ≤ k) (.of_below hbel fun k _ h => h) (by simp; omega)
        obtain ⟨c0, c1, c2, c3⟩ := hcs'.c4
        have h0 : wr.cell? ⟨b, o, none⟩ = some (.string c) := (hbel.cell hb).trans h
        have hbr : b < wr.heap.size := Nat.lt_of_lt_of_le hb hbel.size
        have HX := Lib.hid hxk
        have HB := Lib.hid hbel
        clear hx hcs hxk hbel hcs' hcols
        by_cases hp : (x.name.toList == c.toList) = true
        · go_wp2_with (go_at_call 78; refine (source1_any _ _ _ _ _ _ _ _ _ _ _ _ h0 hbr).mono ?_; rintro e w1 ⟨rfl, hb1⟩)
          go_ret
          refine ⟨?_, bel_trans HB.out (by assumption)⟩
          rw [show findTbl l c = some k from findIdx_some HX.out hp HN.out]
          rfl
        · have hp' : (x.name.toList == c.toList) = false := by simpa using hp
          clear hp
          go_wp2_with (go_at_call 78; refine (source1_any _ _ _ _ _ _ _ _ _ _ _ _ h0 hbr).mono ?_; rintro e w1 ⟨rfl, hb1⟩)
          go_roundw
          case rel =>
            refine ⟨k + 1, by omega, by go_num, bel_trans HB.out (by assumption), fun i y hi hy => ?_⟩
            by_cases e : i = k
            · subst e
              have := HX.out
              rw [this] at hy
              simp at hy
              subst hy
              exact hp'
            · exact HN.out i y (by omega) hy
          case measure => simp [intOf]; omega
    · go_wp2
      go_ret
      refine ⟨?_, hbel⟩
      rw [show findTbl l c = none from findIdx_none fun i y hi hy => HN.out i y (by omega) hy]
      rfl

theorem sourceP_eq (l : List Sch) (c : ByteArray) : sourceP l c = match findTbl l c with | some i => l[i]? | none => none := by
  unfold sourceP findTbl
  rw [List.find?_eq_bind_findIdx?_getElem?]
  show (l.findIdx? (tblIs c)).bind (fun x => l[x]?) = match l.findIdx? (tblIs c) with | some i => l[i]? | none => none
  cases l.findIdx? (tblIs c) <;> rfl

def srcV (vc : Value) : Option Sch → Value
  | some s => .tuple #[.agg #[.string s.name, vc], .bool true]
  | none => .tuple #[.agg #[.string ⟨#[]⟩, .slice none 0 0], .bool false]

/-- The schema with columns of its own. -/
def SrcPost (r : Option Sch) (w : World) (e : Ending) (w' : World) : Prop := match r with
  | some s => ∃ vc, e = .returned (.tuple #[.agg #[.string s.name, vc], .bool true]) ∧ ColsR (Out w.heap.size w'.heap.size) w' vc s.cols ∧ Below w.heap.size w w'
  | none => e = .returned (.tuple #[.agg #[.string ⟨#[]⟩, .slice none 0 0], .bool false]) ∧ Below w.heap.size w w'

set_option maxHeartbeats 1000000 in
theorem source_none (vt : Value) (l : List Sch) (n : ByteArray) (w : World) (ht : TblsR NoM w vt l) (hn : findTbl l n = none) :
    Calls Tryd.prog 28 #[vt, .string n] w (SrcPost none w) := by
  obtain ⟨a, cap, rfl, hm⟩ := ht.shape
  have hi := fun w' h => idxTbl_any (M := NoM) (.slice a l.length cap) l n w.heap.size 0 w' (ht.keep h)
  rw [hn] at hi
  have HI := Lib.hid hi
  clear hi ht hn
  go_enter Tryd.func28, Tryd.ntmps28
  go_wp2_with (go_at_call 77; refine (HI.out _ (((Keep.refl NoM w).alloc _).alloc _) (by simp)).mono ?_; rintro e w1 ⟨rfl, hb⟩; obtain ⟨k1, k2, k3⟩ := bcell hb; simp only [World.size_alloc] at k1 k2 k3; have k4 : w.heap.size < w1.heap.size := (by omega); have k5 : w.heap.size + 1 < w1.heap.size := (by omega); have HB := Lib.hid hb; clear hb)
  refine bodyPost_ret (v := .tuple #[.agg #[.string ⟨#[]⟩, .slice none 0 0], .bool false]) (by simp [results, Tryd.results28, go_sem, k1]) rfl ⟨rfl, ?_⟩
  clear k1 k2
  have h0 : Below w.heap.size w w1 := Below.trans (by go_grown) (HB.out.mono (by simp <;> omega))
  go_grown

theorem colR_keep {M : Nat → Prop} (w w' : World) (x : Col) (cs : List Value) (_ : Keep M w w') (h : ColR x cs) : ColR x cs := h
theorem colR_one (_ : World) (x : Col) (cs : List Value) (h : ColR x cs) : ∀ u ∈ cs, u.oneCell' = true := by
  rw [h]
  simp [colCells, Value.oneCell']

set_option maxHeartbeats 1000000 in
theorem source_some (vt : Value) (l : List Sch) (n : ByteArray) (w : World) (i : Nat) (s : Sch) (ht : TblsR NoM w vt l) (hn : findTbl l n = some i) (hs : l[i]? = some s) (hN : s.cols.length * 32 ≤ 140737488355328) :
    Calls Tryd.prog 28 #[vt, .string n] w (SrcPost (some s) w) := by
  obtain ⟨a, cap, rfl, hm⟩ := ht.shape
  have hlt : i < l.length := (List.getElem?_eq_some_iff.1 hs).1
  have hi := fun w' h => idxTbl_any (M := NoM) (.slice a l.length cap) l n w.heap.size 0 w' (ht.keep h)
  rw [hn] at hi
  rcases ht.open with ⟨_, h'⟩ | ⟨b', o', cap', hv', hbT, hbs, hl, hm', hx⟩
  · subst h'; simp at hlt
  simp only [Value.slice.injEq] at hv'
  obtain ⟨rfl, _, rfl⟩ := hv'
  obtain ⟨cs, ⟨vc, tn, ta, tl, tc, rfl, hcols⟩, _, hcs⟩ := hx i _ hs
  obtain ⟨ca, cc, rfl, _⟩ := hcols.shape
  have HI := Lib.hid hi
  have HC := Lib.hid hcols
  have HX := Lib.hid hcs
  have HN := Lib.hid hN
  clear hi ht hn hx hs hcols hcs hN
  unfold maxLen at hm
  go_enter Tryd.func28, Tryd.ntmps28
  go_wp2_with (first | (go_at_call 77; refine (HI.out _ (((Keep.refl NoM w).alloc _).alloc _) (by simp)).mono ?_; rintro e w1 ⟨rfl, hb⟩; simp only [idxI]; obtain ⟨k1, k2, k3⟩ := bcell hb; simp only [World.size_alloc] at k1 k2 k3; have k4 : w.heap.size < w1.heap.size := (by omega); have k5 : w.heap.size + 1 < w1.heap.size := (by omega); have h0 : Below w.heap.size w w1 := Below.trans (by go_grown) (hb.mono (by simp <;> omega)); obtain ⟨c0, c1, _, _⟩ := ((HX.out.keep (Keep.bel (M := NoM) h0) id).c4); have HB := Lib.hid h0; have k6 : b' < w1.heap.size := (by omega); clear hb h0) | (go_at_call 79; refine (cloneCol_any (M := NoM) (R := fun _ => ColR) colR_keep colR_one _ s.cols _ (ColsR.keep HC.out ((Keep.bel HB.out).alloc _)) HN.out).mono ?_; rintro e w2 ⟨v2, rfl, ho, hb2⟩; obtain ⟨a2, p2, rfl, _⟩ := ho.shape; obtain ⟨j1, j2, j3⟩ := bcell hb2; simp only [World.size_alloc] at j1 j2 j3; have j4 : w1.heap.size < w2.heap.size := (by omega); have j5 : w.heap.size < w2.heap.size := (by omega); have j6 : w.heap.size + 1 < w2.heap.size := (by omega); have j7 : w.heap.size < w1.heap.size + 1 := (by omega); have j8 : w.heap.size + 1 < w1.heap.size + 1 := (by omega); have HO := Lib.hid ho; have HB2 := Lib.hid hb2; clear ho hb2))
  refine bodyPost_ret (v := .tuple #[.agg #[.string s.name, .slice a2 s.cols.length p2], .bool true]) (by simp [results, Tryd.results28, go_sem, k1, k5, j1, j8]) rfl ⟨_, rfl, ?_, ?_⟩
  · have hc := HO.out.rows (M := Out (w1.heap.size + 1) w2.heap.size) fun k h1 h2 => by unfold Out; simp at h1 h2 ⊢ <;> omega
    refine ColsR.weak (M := Out (w1.heap.size + 1) w2.heap.size) ?_ (ColsR.keep (w := w2) hc ?_)
    · intro k hk h; unfold Out at h ⊢; simp at h hk; omega
    · (repeat' (first | (refine Keep.setCell ?_ ?_ _) | (exact Keep.refl _ _))) <;> (intro _; unfold Out; simp <;> omega)
  · clear k1 k2 j1 j2
    have h1 := HB.out
    have h2 := HB2.out
    have h0 : Below w.heap.size w w2 := (h1.alloc (by omega) _).trans (h2.mono (by simp <;> omega))
    go_grown

end Go.Proofs.YtiheioajnfggmaaDoor
