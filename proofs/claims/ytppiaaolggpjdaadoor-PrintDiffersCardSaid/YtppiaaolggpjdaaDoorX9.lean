/- SameQuery, SameExpr: contracts. -/
import Derived.Test.YtppiaaolggpjdaaDoorX8
namespace Go.Proofs.YtppiaaolggpjdaaDoor
open Go.RowKit

theorem text_eq {s t : ByteArray} (h : s.toList = t.toList) : s = t := by
  rw [ByteArray.toList_eq, ByteArray.toList_eq] at h
  exact ByteArray.ext (Array.toList_inj.1 h)
theorem qu_ext {x y : Qu} (h1 : x.star = y.star) (h2 : x.items = y.items) (h3 : x.frm = y.frm) (h4 : x.whr = y.whr) : x = y := by
  cases x
  cases y
  simp only [Qu.star, Qu.items, Qu.frm, Qu.whr] at h1 h2 h3 h4
  subst h1 h2 h3 h4
  rfl
theorem ex_ext {x y : Ex} (h1 : x.kind = y.kind) (h2 : x.op = y.op) (h3 : x.no = y.no) (h4 : x.val.kind = y.val.kind) (h5 : x.val.int = y.val.int) (h6 : x.val.text = y.val.text) (h7 : x.table = y.table) (h8 : x.name = y.name) (h9 : x.args = y.args) (h10 : x.sub = y.sub) : x = y := by
  obtain ⟨_, _, _, ⟨_, _, _⟩, _, _, _, _⟩ := x
  obtain ⟨_, _, _, ⟨_, _, _⟩, _, _, _, _⟩ := y
  simp only [Ex.kind, Ex.op, Ex.no, Ex.val, Ex.table, Ex.name, Ex.args, Ex.sub] at h1 h2 h3 h4 h5 h6 h7 h8 h9 h10
  subst h1 h2 h3 h4 h5 h6 h7 h8 h9 h10
  rfl

set_option maxRecDepth 100000 in
set_option maxHeartbeats 8000000 in
theorem sameQ_any (x : Qu) (hA : ∀ a ∈ x.items, SameOk a) (hB : ∀ a ∈ x.whr, SameOk a) : SameQOk x := by
  intro M y csa csb w hc hd
  obtain ⟨xvi, xvw, rfl, hvi, hvw⟩ := (QC_iff ..).1 hc
  obtain ⟨xi, xic, rfl, _⟩ := hvi.shape
  obtain ⟨xw, xwc, rfl, _⟩ := hvw.shape
  obtain ⟨yvi, yvw, rfl, hwi, hww⟩ := (QC_iff ..).1 hd
  obtain ⟨yi, yic, rfl, _⟩ := hwi.shape
  obtain ⟨yw, ywc, rfl, _⟩ := hww.shape
  have HXI : Hid (∀ wx, Below w.heap.size w wx → ExsR M wx (.slice xi x.items.length xic) x.items) := Lib.hid fun wx k => hvi.keep (.bel k)
  have HXW : Hid (∀ wx, Below w.heap.size w wx → ExsR M wx (.slice xw x.whr.length xwc) x.whr) := Lib.hid fun wx k => hvw.keep (.bel k)
  have HYI : Hid (∀ wx, Below w.heap.size w wx → ExsR M wx (.slice yi y.items.length yic) y.items) := Lib.hid fun wx k => hwi.keep (.bel k)
  have HYW : Hid (∀ wx, Below w.heap.size w wx → ExsR M wx (.slice yw y.whr.length ywc) y.whr) := Lib.hid fun wx k => hww.keep (.bel k)
  have HAI := Lib.hid hA
  have HAW := Lib.hid hB
  clear hc hd hvi hvw hwi hww hA hB
  go_enter Tryd.func96, Tryd.ntmps96
  go_upto_region 1 with fail
  generalize hW1 : World.alloc w _ = W1
  have hz1 : W1.heap.size = w.heap.size + 1 := by rw [← hW1]; simp
  have hS0 : W1.heap[w.heap.size]? = some (.cells #[.bool x.star, .slice xi x.items.length xic, .string x.frm, .slice xw x.whr.length xwc] 37 (0, 0)) := by rw [← hW1]; exact heap_alloc_new w _
  have hb1 : Below w.heap.size w W1 := by rw [← hW1]; exact (Below.refl _ _).alloc (Nat.le_refl _) _
  clear hW1
  generalize hW : World.alloc W1 _ = W
  have hS : W.heap[w.heap.size]? = some (.cells #[.bool x.star, .slice xi x.items.length xic, .string x.frm, .slice xw x.whr.length xwc] 37 (0, 0)) := by rw [← hW]; exact (heap_alloc_old W1 _ (by omega)).trans hS0
  have hS1 : W.heap[W1.heap.size]? = some (.cells #[.bool y.star, .slice yi y.items.length yic, .string y.frm, .slice yw y.whr.length ywc] 37 (0, 0)) := by rw [← hW]; exact heap_alloc_new W1 _
  rw [hz1] at hS1
  have HBW := Lib.hid (show Below w.heap.size w W from by rw [← hW]; exact hb1.alloc (by omega) _)
  have hzW : W.heap.size = w.heap.size + 2 := by rw [← hW]; simp [hz1]
  have HBB := Lib.hid (Below.refl W.heap.size W)
  have HBOX : Hid (∀ wx, Below W.heap.size W wx → (wx.cell? ⟨w.heap.size, 0, none⟩ = some (.bool x.star) ∧ wx.cell? ⟨w.heap.size, 1, none⟩ = some (.slice xi x.items.length xic) ∧ wx.cell? ⟨w.heap.size, 2, none⟩ = some (.string x.frm) ∧ wx.cell? ⟨w.heap.size, 3, none⟩ = some (.slice xw x.whr.length xwc)) ∧ wx.cell? ⟨w.heap.size + 1, 0, none⟩ = some (.bool y.star) ∧ wx.cell? ⟨w.heap.size + 1, 1, none⟩ = some (.slice yi y.items.length yic) ∧ wx.cell? ⟨w.heap.size + 1, 2, none⟩ = some (.string y.frm) ∧ wx.cell? ⟨w.heap.size + 1, 3, none⟩ = some (.slice yw y.whr.length ywc)) := Lib.hid fun wx k => by
    obtain ⟨e0, e1, e2, e3, _⟩ := blk4 ((k.block _ (by omega)).trans hS)
    obtain ⟨f0, f1, f2, f3, _⟩ := blk4 ((k.block _ (by omega)).trans hS1)
    exact ⟨⟨e0, e1, e2, e3⟩, f0, f1, f2, f3⟩
  obtain ⟨⟨e0, e1, e2, e3⟩, f0, f1, f2, f3⟩ := HBOX.out _ HBB.out
  clear hS0 hS hS1 hb1 hz1 hW
  by_cases h0 : x.star = y.star
  · have HF0 := Lib.hid h0
    have g0 : (x.star == y.star) = true := by rw [h0]; simp
    clear h0
    go_wp2_with fail
    refine (eqExprs_any x.items y.items HAI.out M _ _ W (HXI.out _ HBW.out) (HYI.out _ HBW.out)).mono ?_
    rintro e w1 ⟨r, rfl, hr, hb⟩
    have HR := Lib.hid hr
    have HB1 := Lib.hid (HBW.out.trans (hb.mono HBW.out.size))
    have HC1 := Lib.hid (HBB.out.trans (hb.mono HBB.out.size))
    clear hr hb
    dsimp only
    clear e0 f0 e1 f1 e2 f2 e3 f3
    obtain ⟨⟨e0, e1, e2, e3⟩, f0, f1, f2, f3⟩ := HBOX.out _ HC1.out
    cases r
    · have HN := Lib.hid (show ¬ x = y from fun e => by have := HR.out.2 (by rw [e]); cases this)
      go_wp2_with fail
      go_ret
      exact ⟨false, rfl, by simp [HN.out], HB1.out⟩
    · have HF1 := Lib.hid (HR.out.1 rfl)
      clear HR
      by_cases h2 : x.frm = y.frm
      · have HF2 := Lib.hid h2
        have g2 : (x.frm.toList == y.frm.toList) = true := by rw [h2]; simp
        clear h2
        go_wp2_with fail
        refine (eqExprs_any x.whr y.whr HAW.out M _ _ w1 (HXW.out _ HB1.out) (HYW.out _ HB1.out)).mono ?_
        rintro e w2 ⟨r, rfl, hr, hb⟩
        have HR := Lib.hid hr
        have HB2 := Lib.hid (HB1.out.trans (hb.mono HB1.out.size))
        have HC2 := Lib.hid (HC1.out.trans (hb.mono HC1.out.size))
        clear hr hb
        dsimp only
        clear e0 f0 e1 f1 e2 f2 e3 f3
        obtain ⟨⟨e0, e1, e2, e3⟩, f0, f1, f2, f3⟩ := HBOX.out _ HC2.out
        cases r
        · have HN := Lib.hid (show ¬ x = y from fun e => by have := HR.out.2 (by rw [e]); cases this)
          go_wp2_with fail
          go_ret
          exact ⟨false, rfl, by simp [HN.out], HB2.out⟩
        · have HF3 := Lib.hid (HR.out.1 rfl)
          clear HR
          have HE := Lib.hid (qu_ext HF0.out HF1.out HF2.out HF3.out)
          go_wp2_with fail
          go_ret
          exact ⟨true, rfl, by simp [HE.out], HB2.out⟩
      · have g2 : (x.frm.toList == y.frm.toList) = false := by simp only [beq_eq_false_iff_ne]; exact fun e => h2 (text_eq e)
        have HN := Lib.hid (show ¬ x = y from fun e => h2 (by rw [e]))
        clear h2
        go_wp2_with fail
        go_ret
        exact ⟨false, rfl, by simp [HN.out], HB1.out⟩
  · have g0 : (x.star == y.star) = false := by simp only [beq_eq_false_iff_ne]; exact h0
    have HN := Lib.hid (show ¬ x = y from fun e => h0 (by rw [e]))
    clear h0
    go_wp2_with fail
    go_ret
    exact ⟨false, rfl, by simp [HN.out], HBW.out⟩

set_option maxRecDepth 100000 in
set_option maxHeartbeats 8000000 in
theorem sameE_any (x : Ex) (hA : ∀ a ∈ x.args, SameOk a) (hB : ∀ q ∈ x.sub, SameQOk q) : SameOk x := by
  intro M y csa csb w hc hd
  obtain ⟨xva, xvs, rfl, hva, hvs⟩ := (EC_iff ..).1 hc
  obtain ⟨xa, xac, rfl, _⟩ := hva.shape
  obtain ⟨xs, xsc, rfl, _⟩ := hvs.shape
  obtain ⟨yva, yvs, rfl, hwa, hws⟩ := (EC_iff ..).1 hd
  obtain ⟨ya, yac, rfl, _⟩ := hwa.shape
  obtain ⟨ys, ysc, rfl, _⟩ := hws.shape
  have HXA : Hid (∀ wx, Below w.heap.size w wx → ExsR M wx (.slice xa x.args.length xac) x.args) := Lib.hid fun wx k => hva.keep (.bel k)
  have HXS : Hid (∀ wx, Below w.heap.size w wx → QusR M wx (.slice xs x.sub.length xsc) x.sub) := Lib.hid fun wx k => hvs.keep (.bel k)
  have HYA : Hid (∀ wx, Below w.heap.size w wx → ExsR M wx (.slice ya y.args.length yac) y.args) := Lib.hid fun wx k => hwa.keep (.bel k)
  have HYS : Hid (∀ wx, Below w.heap.size w wx → QusR M wx (.slice ys y.sub.length ysc) y.sub) := Lib.hid fun wx k => hws.keep (.bel k)
  have HAA := Lib.hid hA
  have HAS := Lib.hid hB
  simp only [exCells]
  clear hc hd hva hvs hwa hws hA hB
  go_enter Tryd.func48, Tryd.ntmps48
  go_upto_region 1 with fail
  generalize hW1 : World.alloc w _ = W1
  have hz1 : W1.heap.size = w.heap.size + 1 := by rw [← hW1]; simp
  have hS0 : W1.heap[w.heap.size]? = some (.cells #[.int .i64 x.kind, .int .i64 x.op, .bool x.no, .int .i64 x.val.kind, .int .i64 x.val.int, .string x.val.text, .string x.table, .string x.name, .slice xa x.args.length xac, .slice xs x.sub.length xsc] 27 (0, 0)) := by rw [← hW1]; exact heap_alloc_new w _
  have hb1 : Below w.heap.size w W1 := by rw [← hW1]; exact (Below.refl _ _).alloc (Nat.le_refl _) _
  clear hW1
  generalize hW : World.alloc W1 _ = W
  have hS : W.heap[w.heap.size]? = some (.cells #[.int .i64 x.kind, .int .i64 x.op, .bool x.no, .int .i64 x.val.kind, .int .i64 x.val.int, .string x.val.text, .string x.table, .string x.name, .slice xa x.args.length xac, .slice xs x.sub.length xsc] 27 (0, 0)) := by rw [← hW]; exact (heap_alloc_old W1 _ (by omega)).trans hS0
  have hS1 : W.heap[W1.heap.size]? = some (.cells #[.int .i64 y.kind, .int .i64 y.op, .bool y.no, .int .i64 y.val.kind, .int .i64 y.val.int, .string y.val.text, .string y.table, .string y.name, .slice ya y.args.length yac, .slice ys y.sub.length ysc] 27 (0, 0)) := by rw [← hW]; exact heap_alloc_new W1 _
  rw [hz1] at hS1
  have HBW := Lib.hid (show Below w.heap.size w W from by rw [← hW]; exact hb1.alloc (by omega) _)
  have hzW : W.heap.size = w.heap.size + 2 := by rw [← hW]; simp [hz1]
  have HBB := Lib.hid (Below.refl W.heap.size W)
  have HBOX : Hid (∀ wx, Below W.heap.size W wx → (wx.cell? ⟨w.heap.size, 0, none⟩ = some (.int .i64 x.kind) ∧ wx.cell? ⟨w.heap.size, 1, none⟩ = some (.int .i64 x.op) ∧ wx.cell? ⟨w.heap.size, 2, none⟩ = some (.bool x.no) ∧ wx.cell? ⟨w.heap.size, 3, none⟩ = some (.int .i64 x.val.kind) ∧ wx.cell? ⟨w.heap.size, 4, none⟩ = some (.int .i64 x.val.int) ∧ wx.cell? ⟨w.heap.size, 5, none⟩ = some (.string x.val.text) ∧ wx.cell? ⟨w.heap.size, 6, none⟩ = some (.string x.table) ∧ wx.cell? ⟨w.heap.size, 7, none⟩ = some (.string x.name) ∧ wx.cell? ⟨w.heap.size, 8, none⟩ = some (.slice xa x.args.length xac) ∧ wx.cell? ⟨w.heap.size, 9, none⟩ = some (.slice xs x.sub.length xsc)) ∧ wx.cell? ⟨w.heap.size + 1, 0, none⟩ = some (.int .i64 y.kind) ∧ wx.cell? ⟨w.heap.size + 1, 1, none⟩ = some (.int .i64 y.op) ∧ wx.cell? ⟨w.heap.size + 1, 2, none⟩ = some (.bool y.no) ∧ wx.cell? ⟨w.heap.size + 1, 3, none⟩ = some (.int .i64 y.val.kind) ∧ wx.cell? ⟨w.heap.size + 1, 4, none⟩ = some (.int .i64 y.val.int) ∧ wx.cell? ⟨w.heap.size + 1, 5, none⟩ = some (.string y.val.text) ∧ wx.cell? ⟨w.heap.size + 1, 6, none⟩ = some (.string y.table) ∧ wx.cell? ⟨w.heap.size + 1, 7, none⟩ = some (.string y.name) ∧ wx.cell? ⟨w.heap.size + 1, 8, none⟩ = some (.slice ya y.args.length yac) ∧ wx.cell? ⟨w.heap.size + 1, 9, none⟩ = some (.slice ys y.sub.length ysc)) := Lib.hid fun wx k => by
    obtain ⟨e0, e1, e2, e3, e4, e5, e6, e7, e8, e9, _⟩ := blk10 ((k.block _ (by omega)).trans hS)
    obtain ⟨f0, f1, f2, f3, f4, f5, f6, f7, f8, f9, _⟩ := blk10 ((k.block _ (by omega)).trans hS1)
    exact ⟨⟨e0, e1, e2, e3, e4, e5, e6, e7, e8, e9⟩, f0, f1, f2, f3, f4, f5, f6, f7, f8, f9⟩
  obtain ⟨⟨e0, e1, e2, e3, e4, e5, e6, e7, e8, e9⟩, f0, f1, f2, f3, f4, f5, f6, f7, f8, f9⟩ := HBOX.out _ HBB.out
  clear hS0 hS hS1 hb1 hz1 hW
  by_cases h0 : x.kind = y.kind
  · have HF0 := Lib.hid h0
    have g0 : (x.kind == y.kind) = true := by rw [h0]; simp
    clear h0
    by_cases h1 : x.op = y.op
    · have HF1 := Lib.hid h1
      have g1 : (x.op == y.op) = true := by rw [h1]; simp
      clear h1
      by_cases h2 : x.no = y.no
      · have HF2 := Lib.hid h2
        have g2 : (x.no == y.no) = true := by rw [h2]; simp
        clear h2
        by_cases h3 : x.val.kind = y.val.kind
        · have HF3 := Lib.hid h3
          have g3 : (x.val.kind == y.val.kind) = true := by rw [h3]; simp
          clear h3
          by_cases h4 : x.val.int = y.val.int
          · have HF4 := Lib.hid h4
            have g4 : (x.val.int == y.val.int) = true := by rw [h4]; simp
            clear h4
            by_cases h5 : x.val.text = y.val.text
            · have HF5 := Lib.hid h5
              have g5 : (x.val.text.toList == y.val.text.toList) = true := by rw [h5]; simp
              clear h5
              by_cases h6 : x.table = y.table
              · have HF6 := Lib.hid h6
                have g6 : (x.table.toList == y.table.toList) = true := by rw [h6]; simp
                clear h6
                by_cases h7 : x.name = y.name
                · have HF7 := Lib.hid h7
                  have g7 : (x.name.toList == y.name.toList) = true := by rw [h7]; simp
                  clear h7
                  go_wp2_with fail
                  refine (eqExprs_any x.args y.args HAA.out M _ _ W (HXA.out _ HBW.out) (HYA.out _ HBW.out)).mono ?_
                  rintro e w1 ⟨r, rfl, hr, hb⟩
                  have HR := Lib.hid hr
                  have HB1 := Lib.hid (HBW.out.trans (hb.mono HBW.out.size))
                  have HC1 := Lib.hid (HBB.out.trans (hb.mono HBB.out.size))
                  clear hr hb
                  dsimp only
                  clear e0 f0 e1 f1 e2 f2 e3 f3 e4 f4 e5 f5 e6 f6 e7 f7 e8 f8 e9 f9
                  obtain ⟨⟨e0, e1, e2, e3, e4, e5, e6, e7, e8, e9⟩, f0, f1, f2, f3, f4, f5, f6, f7, f8, f9⟩ := HBOX.out _ HC1.out
                  cases r
                  · have HN := Lib.hid (show ¬ x = y from fun e => by have := HR.out.2 (by rw [e]); cases this)
                    go_wp2_with fail
                    go_ret
                    exact ⟨false, rfl, by simp [HN.out], HB1.out⟩
                  · have HF8 := Lib.hid (HR.out.1 rfl)
                    clear HR
                    go_wp2_with fail
                    refine (eqQueries_any x.sub y.sub HAS.out M _ _ w1 (HXS.out _ HB1.out) (HYS.out _ HB1.out)).mono ?_
                    rintro e w2 ⟨r, rfl, hr, hb⟩
                    have HR := Lib.hid hr
                    have HB2 := Lib.hid (HB1.out.trans (hb.mono HB1.out.size))
                    have HC2 := Lib.hid (HC1.out.trans (hb.mono HC1.out.size))
                    clear hr hb
                    dsimp only
                    clear e0 f0 e1 f1 e2 f2 e3 f3 e4 f4 e5 f5 e6 f6 e7 f7 e8 f8 e9 f9
                    obtain ⟨⟨e0, e1, e2, e3, e4, e5, e6, e7, e8, e9⟩, f0, f1, f2, f3, f4, f5, f6, f7, f8, f9⟩ := HBOX.out _ HC2.out
                    cases r
                    · have HN := Lib.hid (show ¬ x = y from fun e => by have := HR.out.2 (by rw [e]); cases this)
                      go_wp2_with fail
                      go_ret
                      exact ⟨false, rfl, by simp [HN.out], HB2.out⟩
                    · have HF9 := Lib.hid (HR.out.1 rfl)
                      clear HR
                      have HE := Lib.hid (ex_ext HF0.out HF1.out HF2.out HF3.out HF4.out HF5.out HF6.out HF7.out HF8.out HF9.out)
                      go_wp2_with fail
                      go_ret
                      exact ⟨true, rfl, by simp [HE.out], HB2.out⟩
                · have g7 : (x.name.toList == y.name.toList) = false := by simp only [beq_eq_false_iff_ne]; exact fun e => h7 (text_eq e)
                  have HN := Lib.hid (show ¬ x = y from fun e => h7 (by rw [e]))
                  clear h7
                  go_wp2_with fail
                  go_ret
                  exact ⟨false, rfl, by simp [HN.out], HBW.out⟩
              · have g6 : (x.table.toList == y.table.toList) = false := by simp only [beq_eq_false_iff_ne]; exact fun e => h6 (text_eq e)
                have HN := Lib.hid (show ¬ x = y from fun e => h6 (by rw [e]))
                clear h6
                go_wp2_with fail
                go_ret
                exact ⟨false, rfl, by simp [HN.out], HBW.out⟩
            · have g5 : (x.val.text.toList == y.val.text.toList) = false := by simp only [beq_eq_false_iff_ne]; exact fun e => h5 (text_eq e)
              have HN := Lib.hid (show ¬ x = y from fun e => h5 (by rw [e]))
              clear h5
              go_wp2_with fail
              go_ret
              exact ⟨false, rfl, by simp [HN.out], HBW.out⟩
          · have g4 : (x.val.int == y.val.int) = false := by simp only [beq_eq_false_iff_ne]; exact h4
            have HN := Lib.hid (show ¬ x = y from fun e => h4 (by rw [e]))
            clear h4
            go_wp2_with fail
            go_ret
            exact ⟨false, rfl, by simp [HN.out], HBW.out⟩
        · have g3 : (x.val.kind == y.val.kind) = false := by simp only [beq_eq_false_iff_ne]; exact h3
          have HN := Lib.hid (show ¬ x = y from fun e => h3 (by rw [e]))
          clear h3
          go_wp2_with fail
          go_ret
          exact ⟨false, rfl, by simp [HN.out], HBW.out⟩
      · have g2 : (x.no == y.no) = false := by simp only [beq_eq_false_iff_ne]; exact h2
        have HN := Lib.hid (show ¬ x = y from fun e => h2 (by rw [e]))
        clear h2
        go_wp2_with fail
        go_ret
        exact ⟨false, rfl, by simp [HN.out], HBW.out⟩
    · have g1 : (x.op == y.op) = false := by simp only [beq_eq_false_iff_ne]; exact h1
      have HN := Lib.hid (show ¬ x = y from fun e => h1 (by rw [e]))
      clear h1
      go_wp2_with fail
      go_ret
      exact ⟨false, rfl, by simp [HN.out], HBW.out⟩
  · have g0 : (x.kind == y.kind) = false := by simp only [beq_eq_false_iff_ne]; exact h0
    have HN := Lib.hid (show ¬ x = y from fun e => h0 (by rw [e]))
    clear h0
    go_wp2_with fail
    go_ret
    exact ⟨false, rfl, by simp [HN.out], HBW.out⟩

theorem same_any (e : Ex) : SameOk e := Ex.ind (P := SameOk) (fun e hA hB => sameE_any e hA fun q hq => sameQ_any q (hB q hq).1 (hB q hq).2) e
end Go.Proofs.YtppiaaolggpjdaaDoor
