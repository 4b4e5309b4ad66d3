/- Whether two expressions are equal: contracts of SameExpr, SameQuery and EqualFunc. -/
import Derived.Test.YtppiaaolggpjdaaDoorKD2
namespace Go.Proofs.YtppiaaolggpjdaaDoor
open Go.RowKit

/-- A truth value that says P. -/
def SaysQ (P : Prop) (w : World) (e : Ending) (w' : World) : Prop := ∃ r : Bool, e = .returned (.bool r) ∧ (r = true ↔ P) ∧ Below w.heap.size w w'
def SameOk (a : Ex) : Prop := ∀ (M : Nat → Prop) (b : Ex) (csa csb : List Value) (w : World), EC M w a csa → EC M w b csb → Calls Tryd.prog 48 #[.agg csa.toArray, .agg csb.toArray] w (SaysQ (a = b) w)
def SameQOk (q : Qu) : Prop := ∀ (M : Nat → Prop) (p : Qu) (csa csb : List Value) (w : World), QC M w q csa → QC M w p csb → Calls Tryd.prog 96 #[.agg csa.toArray, .agg csb.toArray] w (SaysQ (q = p) w)

theorem list_snoc_ne {α : Type} {l m : List α} {j : Nat} {x y : α} (hx : l[j]? = some x) (hy : m[j]? = some y) (h : x ≠ y) : l ≠ m := fun e => by
  subst e
  rw [hx] at hy
  exact h (Option.some.inj hy)
theorem list_all_eq {α : Type} {l m : List α} (hl : l.length = m.length) (h : ∀ i x y, i < l.length → l[i]? = some x → m[i]? = some y → x = y) : l = m := by
  apply List.ext_getElem hl
  intro i h1 h2
  exact h i _ _ h1 (List.getElem?_eq_getElem h1) (List.getElem?_eq_getElem h2)

set_option maxRecDepth 100000 in
set_option maxHeartbeats 4000000 in
theorem eqExprs_any (l m : List Ex) (hall : ∀ x ∈ l, SameOk x) (M : Nat → Prop) (va vb : Value) (w : World) (ha : ExsR M w va l) (hb : ExsR M w vb m) :
    Calls Tryd.prog 94 #[va, vb, .func (.func 48) #[] #[]] w (SaysQ (l = m) w) := by
  have HA := Lib.hid ha
  have HB := Lib.hid hb
  have HALL := Lib.hid hall
  obtain ⟨aa, ac, rfl, hma⟩ := ha.shape
  obtain ⟨ba, bc, rfl, hmb⟩ := hb.shape
  unfold maxLen at hma hmb
  clear ha hb hall
  by_cases hlen : l.length = m.length
  · have hne : ((l.length : Int) != (m.length : Int)) = false := by simp [hlen]
    have HLEN := Lib.hid hlen
    clear hlen
    go_enter Tryd.func94, Tryd.ntmps94
    go_wp2_with fail
    clear hne
    go_loopw [17] (fun i wr => ∃ j : Nat, j ≤ l.length ∧ i = .int .i64 j ∧ Below w.heap.size w wr ∧ ∀ i x y, i < j → l[i]? = some x → m[i]? = some y → x = y) (fun i _ => l.length - (intOf i).toNat)
    case atStart => exact ⟨0, Nat.zero_le _, rfl, Below.refl _ _, fun i x y hi => by omega⟩
    case round =>
      rename World => wr
      obtain ⟨j, hj, rfl, hb, hal⟩ := hrel
      have HBE := Lib.hid hb
      have HAL := Lib.hid hal
      clear hb hal
      by_cases hlt : j < l.length
      · have hlm : j < m.length := by have := HLEN.out; omega
        rcases HA.out.open with ⟨_, h0⟩ | ⟨ab, ao, cap', hv', _, hab, _, _, hx⟩
        · rw [h0] at hlt
          simp at hlt
        rcases HB.out.open with ⟨_, h0⟩ | ⟨bb, bo, cap2, hv2, _, hbb, _, _, hy⟩
        · rw [h0] at hlm
          simp at hlm
        simp only [Value.slice.injEq] at hv' hv2
        obtain ⟨rfl, _, rfl⟩ := hv'
        obtain ⟨rfl, _, rfl⟩ := hv2
        have hxj : l[j]? = some l[j] := List.getElem?_eq_getElem hlt
        have hyj : m[j]? = some m[j] := List.getElem?_eq_getElem hlm
        obtain ⟨cs, hc, _, hcs⟩ := hx j _ hxj
        obtain ⟨ds, hd, _, hds⟩ := hy j _ hyj
        have HX := Lib.hid (HALL.out _ (List.mem_of_getElem? hxj))
        generalize l[j] = x at hxj hc HX
        generalize m[j] = y at hyj hd
        have HC := Lib.hid hc
        have HD := Lib.hid hd
        obtain ⟨xva, xvs, rfl, hva, hvs⟩ := (EC_iff ..).1 hc
        obtain ⟨xa, xac, rfl, _⟩ := hva.shape
        obtain ⟨xs, xsc, rfl, _⟩ := hvs.shape
        obtain ⟨yva, yvs, rfl, hwa, hws⟩ := (EC_iff ..).1 hd
        obtain ⟨ya, yac, rfl, _⟩ := hwa.shape
        obtain ⟨ys, ysc, rfl, _⟩ := hws.shape
        obtain ⟨c0, c1, c2, c3, c4, c5, c6, c7, c8, c9⟩ := CellsAt.c10 (hcs.keep (M := NoM) (Keep.bel HBE.out) id)
        have HDS := Lib.hid hds
        simp only [exCells] at HC HD
        clear hva hvs hwa hws
        have HXJ := Lib.hid hxj
        have HYJ := Lib.hid hyj
        have i0 : (0 : Int) ≤ (j : Int) := by omega
        have i1 : (j : Int) < (l.length : Int) := by omega
        have i2 : (j : Int) < (m.length : Int) := by omega
        have hzr := HBE.out.size
        clear hx hy hc hd hcs hds hxj hyj
        go_upto_region 6 with fail
        generalize hW1 : World.alloc wr _ = W1
        have hS : W1.heap[wr.heap.size]? = some (.cells #[.int .i64 x.kind, .int .i64 x.op, .bool x.no, .int .i64 x.val.kind, .int .i64 x.val.int, .string x.val.text, .string x.table, .string x.name, .slice xa x.args.length xac, .slice xs x.sub.length xsc] 27 (0, 0)) := by rw [← hW1]; exact heap_alloc_new wr _
        have hz1 : W1.heap.size = wr.heap.size + 1 := by rw [← hW1]; simp
        have HB1 := Lib.hid (show Below w.heap.size w W1 from by rw [← hW1]; exact HBE.out.alloc HBE.out.size _)
        have HS := Lib.hid hS
        obtain ⟨d0, d1, d2, d3, d4, d5, d6, d7, d8, d9⟩ := CellsAt.c10 (HDS.out.keep (M := NoM) (Keep.bel HB1.out) id)
        clear hS hW1
        go_upto_region 7 with fail
        generalize hW : World.alloc W1 _ = W
        have hS0 : W.heap[wr.heap.size]? = some (.cells #[.int .i64 x.kind, .int .i64 x.op, .bool x.no, .int .i64 x.val.kind, .int .i64 x.val.int, .string x.val.text, .string x.table, .string x.name, .slice xa x.args.length xac, .slice xs x.sub.length xsc] 27 (0, 0)) := by rw [← hW]; exact (heap_alloc_old W1 _ (by omega)).trans HS.out
        have hS1 : W.heap[W1.heap.size]? = some (.cells #[.int .i64 y.kind, .int .i64 y.op, .bool y.no, .int .i64 y.val.kind, .int .i64 y.val.int, .string y.val.text, .string y.table, .string y.name, .slice ya y.args.length yac, .slice ys y.sub.length ysc] 27 (0, 0)) := by rw [← hW]; exact heap_alloc_new W1 _
        rw [hz1] at hS1
        have hbW : Below w.heap.size w W := by rw [← hW]; exact HB1.out.alloc (by omega) _
        have HBW := Lib.hid hbW
        obtain ⟨e0, e1, e2, e3, e4, e5, e6, e7, e8, e9, _⟩ := blk10 hS0
        obtain ⟨f0, f1, f2, f3, f4, f5, f6, f7, f8, f9, _⟩ := blk10 hS1
        clear hS0 hS1 hbW hW hz1 d0 d1 d2 d3 d4 d5 d6 d7 d8 d9
        go_wp2_with fail
        refine (HX.out M y _ _ W (EC.keep (.bel HBW.out) _ _ HC.out) (EC.keep (.bel HBW.out) _ _ HD.out)).mono ?_
        rintro e w3 ⟨r, rfl, hr, hb3⟩
        have HR := Lib.hid hr
        have HB3 := Lib.hid (HBW.out.trans (hb3.mono HBW.out.size))
        clear hr hb3
        dsimp only
        cases r
        · have HN := Lib.hid (list_snoc_ne HXJ.out HYJ.out (fun e => by have := HR.out.2 e; cases this))
          go_wp2_with fail
          go_ret
          exact ⟨false, rfl, by simp [HN.out], HB3.out⟩
        · have HXY := Lib.hid (HR.out.1 rfl)
          go_wp2_with fail
          go_roundw
          case rel => exact ⟨j + 1, by omega, by go_num, HB3.out, fun i x' y' hi hx' hy' => by
            by_cases e : i = j
            · subst e
              rw [HXJ.out] at hx'
              rw [HYJ.out] at hy'
              cases hx'
              cases hy'
              exact HXY.out
            · exact HAL.out i x' y' (by omega) hx' hy'⟩
          case measure => simp [intOf]; omega
      · obtain rfl : j = l.length := by omega
        have HE := Lib.hid (list_all_eq HLEN.out HAL.out)
        go_wp2_with fail
        go_ret
        exact ⟨true, rfl, by simp [HE.out], HBE.out⟩
  · have hne : ((l.length : Int) != (m.length : Int)) = true := by simp only [bne_iff_ne]; omega
    have HN := Lib.hid (show l ≠ m from fun e => hlen (by rw [e]))
    clear hlen
    go_enter Tryd.func94, Tryd.ntmps94
    go_wp2_with fail
    go_ret
    exact ⟨false, rfl, by simp [HN.out], Below.refl _ _⟩

set_option maxRecDepth 100000 in
set_option maxHeartbeats 4000000 in
theorem eqQueries_any (l m : List Qu) (hall : ∀ x ∈ l, SameQOk x) (M : Nat → Prop) (va vb : Value) (w : World) (ha : QusR M w va l) (hb : QusR M w vb m) :
    Calls Tryd.prog 95 #[va, vb, .func (.func 96) #[] #[]] w (SaysQ (l = m) w) := by
  have HA := Lib.hid ha
  have HB := Lib.hid hb
  have HALL := Lib.hid hall
  obtain ⟨aa, ac, rfl, hma⟩ := ha.shape
  obtain ⟨ba, bc, rfl, hmb⟩ := hb.shape
  unfold maxLen at hma hmb
  clear ha hb hall
  by_cases hlen : l.length = m.length
  · have hne : ((l.length : Int) != (m.length : Int)) = false := by simp [hlen]
    have HLEN := Lib.hid hlen
    clear hlen
    go_enter Tryd.func95, Tryd.ntmps95
    go_wp2_with fail
    clear hne
    go_loopw [17] (fun i wr => ∃ j : Nat, j ≤ l.length ∧ i = .int .i64 j ∧ Below w.heap.size w wr ∧ ∀ i x y, i < j → l[i]? = some x → m[i]? = some y → x = y) (fun i _ => l.length - (intOf i).toNat)
    case atStart => exact ⟨0, Nat.zero_le _, rfl, Below.refl _ _, fun i x y hi => by omega⟩
    case round =>
      rename World => wr
      obtain ⟨j, hj, rfl, hb, hal⟩ := hrel
      have HBE := Lib.hid hb
      have HAL := Lib.hid hal
      clear hb hal
      by_cases hlt : j < l.length
      · have hlm : j < m.length := by have := HLEN.out; omega
        rcases HA.out.open with ⟨_, h0⟩ | ⟨ab, ao, cap', hv', _, hab, _, _, hx⟩
        · rw [h0] at hlt
          simp at hlt
        rcases HB.out.open with ⟨_, h0⟩ | ⟨bb, bo, cap2, hv2, _, hbb, _, _, hy⟩
        · rw [h0] at hlm
          simp at hlm
        simp only [Value.slice.injEq] at hv' hv2
        obtain ⟨rfl, _, rfl⟩ := hv'
        obtain ⟨rfl, _, rfl⟩ := hv2
        have hxj : l[j]? = some l[j] := List.getElem?_eq_getElem hlt
        have hyj : m[j]? = some m[j] := List.getElem?_eq_getElem hlm
        obtain ⟨cs, hc, _, hcs⟩ := hx j _ hxj
        obtain ⟨ds, hd, _, hds⟩ := hy j _ hyj
        have HX := Lib.hid (HALL.out _ (List.mem_of_getElem? hxj))
        generalize l[j] = x at hxj hc HX
        generalize m[j] = y at hyj hd
        have HC := Lib.hid hc
        have HD := Lib.hid hd
        obtain ⟨xvi, xvw, rfl, hvi, hvw⟩ := (QC_iff ..).1 hc
        obtain ⟨xi, xic, rfl, _⟩ := hvi.shape
        obtain ⟨xw, xwc, rfl, _⟩ := hvw.shape
        obtain ⟨yvi, yvw, rfl, hwi, hww⟩ := (QC_iff ..).1 hd
        obtain ⟨yi, yic, rfl, _⟩ := hwi.shape
        obtain ⟨yw, ywc, rfl, _⟩ := hww.shape
        obtain ⟨c0, c1, c2, c3⟩ := CellsAt.c4 (hcs.keep (M := NoM) (Keep.bel HBE.out) id)
        have HDS := Lib.hid hds
        clear hvi hvw hwi hww
        have HXJ := Lib.hid hxj
        have HYJ := Lib.hid hyj
        have i0 : (0 : Int) ≤ (j : Int) := by omega
        have i1 : (j : Int) < (l.length : Int) := by omega
        have i2 : (j : Int) < (m.length : Int) := by omega
        have hzr := HBE.out.size
        clear hx hy hc hd hcs hds hxj hyj
        go_upto_region 6 with fail
        generalize hW1 : World.alloc wr _ = W1
        have hS : W1.heap[wr.heap.size]? = some (.cells #[.bool x.star, .slice xi x.items.length xic, .string x.frm, .slice xw x.whr.length xwc] 37 (0, 0)) := by rw [← hW1]; exact heap_alloc_new wr _
        have hz1 : W1.heap.size = wr.heap.size + 1 := by rw [← hW1]; simp
        have HB1 := Lib.hid (show Below w.heap.size w W1 from by rw [← hW1]; exact HBE.out.alloc HBE.out.size _)
        have HS := Lib.hid hS
        obtain ⟨d0, d1, d2, d3⟩ := CellsAt.c4 (HDS.out.keep (M := NoM) (Keep.bel HB1.out) id)
        clear hS hW1
        go_upto_region 7 with fail
        generalize hW : World.alloc W1 _ = W
        have hS0 : W.heap[wr.heap.size]? = some (.cells #[.bool x.star, .slice xi x.items.length xic, .string x.frm, .slice xw x.whr.length xwc] 37 (0, 0)) := by rw [← hW]; exact (heap_alloc_old W1 _ (by omega)).trans HS.out
        have hS1 : W.heap[W1.heap.size]? = some (.cells #[.bool y.star, .slice yi y.items.length yic, .string y.frm, .slice yw y.whr.length ywc] 37 (0, 0)) := by rw [← hW]; exact heap_alloc_new W1 _
        rw [hz1] at hS1
        have hbW : Below w.heap.size w W := by rw [← hW]; exact HB1.out.alloc (by omega) _
        have HBW := Lib.hid hbW
        obtain ⟨e0, e1, e2, e3, _⟩ := blk4 hS0
        obtain ⟨f0, f1, f2, f3, _⟩ := blk4 hS1
        clear hS0 hS1 hbW hW hz1 d0 d1 d2 d3
        go_wp2_with fail
        refine (HX.out M y _ _ W (QC.keep (.bel HBW.out) HC.out) (QC.keep (.bel HBW.out) HD.out)).mono ?_
        rintro e w3 ⟨r, rfl, hr, hb3⟩
        have HR := Lib.hid hr
        have HB3 := Lib.hid (HBW.out.trans (hb3.mono HBW.out.size))
        clear hr hb3
        dsimp only
        cases r
        · have HN := Lib.hid (list_snoc_ne HXJ.out HYJ.out (fun e => by have := HR.out.2 e; cases this))
          go_wp2_with fail
          go_ret
          exact ⟨false, rfl, by simp [HN.out], HB3.out⟩
        · have HXY := Lib.hid (HR.out.1 rfl)
          go_wp2_with fail
          go_roundw
          case rel => exact ⟨j + 1, by omega, by go_num, HB3.out, fun i x' y' hi hx' hy' => by
            by_cases e : i = j
            · subst e
              rw [HXJ.out] at hx'
              rw [HYJ.out] at hy'
              cases hx'
              cases hy'
              exact HXY.out
            · exact HAL.out i x' y' (by omega) hx' hy'⟩
          case measure => simp [intOf]; omega
      · obtain rfl : j = l.length := by omega
        have HE := Lib.hid (list_all_eq HLEN.out HAL.out)
        go_wp2_with fail
        go_ret
        exact ⟨true, rfl, by simp [HE.out], HBE.out⟩
  · have hne : ((l.length : Int) != (m.length : Int)) = true := by simp only [bne_iff_ne]; omega
    have HN := Lib.hid (show l ≠ m from fun e => hlen (by rw [e]))
    clear hlen
    go_enter Tryd.func95, Tryd.ntmps95
    go_wp2_with fail
    go_ret
    exact ⟨false, rfl, by simp [HN.out], Below.refl _ _⟩

end Go.Proofs.YtppiaaolggpjdaaDoor
