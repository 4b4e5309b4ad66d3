/- The walk of PrintDiffers. -/
import Derived.Test.YtppiaaolggpjdaaDoorX12
import Derived.Test.YtppiaaolggpjdaaDoorS16a
import Derived.Test.YtppiaaolggpjdaaDoorS11
import Derived.Test.YtppiaaolggpjdaaDoorS12
import Derived.Test.YtppiaaolggpjdaaDoorQ7
import Derived.Test.YtppiaaolggpjdaaDoorKA
namespace Go.Proofs.YtppiaaolggpjdaaDoor
open Go.RowKit

theorem print_of {x : Ex} (h : AnyX 2 x) (M : Nat → Prop) (cs : List Value) (w : World) (hE : EC M w x cs) (hL : LibOk w) (hs : 4 < w.heap.size) :
    Calls Tryd.prog 47 #[.agg cs.toArray] w (RetBel (.tuple #[.string (textP x), .bool true]) w) := by
  have h1 := cost_any h
  have h2 := cost_len (wordsP x)
  exact print_any x (any_vx h) (any_valid h) (any_dep h).txt (by omega) (by unfold costW at h1; omega) M cs w hE hL hs

set_option maxRecDepth 100000 in
set_option maxHeartbeats 8000000 in
theorem printDiffers_any (v : Value) (w : World) (hv : IntsAt w v) (hn : NamesOk w.heap.size w) (hw : WordsOk w.heap.size w) (hL : LibOk w) (hs : 4 < w.heap.size) : Calls Tryd.prog 9 #[v] w (RetBel (.bool true) w) := by
  have HV := Lib.hid hv
  have HN := Lib.hid hn
  have HWO := Lib.hid hw
  have HL := Lib.hid hL
  clear hv hn hw hL
  go_enter Tryd.func9, Tryd.ntmps9
  go_wp2_with fail
  refine (new_any v w HV.out).mono ?_
  rintro e w1 ⟨rfl, ht, hb⟩
  have h1 := ht.lt
  have HT1 := Lib.hid ht
  have HB1 := Lib.hid hb
  have HN1 := Lib.hid (HN.out.keep (M := fun _ => False) (.bel hb) fun _ _ => id)
  have HW1 := Lib.hid (HWO.out.keep (M := fun _ => False) (.bel hb) fun _ _ => id)
  clear ht hb HV HN HWO
  dsimp only
  go_wp2_with fail
  refine (any_ok 2 (by omega) w.heap.size 2 w1 (by omega) (by omega) HT1.out HN1.out HW1.out).mono ?_
  rintro e w2 ⟨v2, rfl, ⟨x, hx, hanx⟩, ht, hk⟩
  have z2 := hk.size
  have HB2 := Lib.hid (tape_below HB1.out (by omega) hk)
  have hx0 := hx
  obtain ⟨a1, ac1, s1, sc1, rfl, _, _⟩ := hx0
  have HT2 := Lib.hid ht
  have HN2 := Lib.hid (HN1.out.at hk)
  have HW2 := Lib.hid (HW1.out.at hk)
  have HX := Lib.hid (exv_cs hx)
  have HAX := Lib.hid hanx
  clear ht hk hx hanx HT1 HN1 HW1
  dsimp only
  go_wp2_with fail
  refine (any_ok 2 (by omega) w.heap.size 2 w2 (by omega) (by omega) HT2.out HN2.out HW2.out).mono ?_
  rintro e w3 ⟨v3, rfl, ⟨y, hy, hany⟩, ht, hk⟩
  have z3 := hk.size
  have HB3 := Lib.hid (tape_below HB2.out (by omega) hk)
  have HX3 := Lib.hid (EC.weak (M' := NoM) (fun _ _ h => h.elim) _ _ (EC.keep hk _ _ (EC.weak (M' := At w.heap.size) (fun k _ h => by unfold At at h; unfold Old; omega) _ _ HX.out)))
  have hy0 := hy
  obtain ⟨a2, ac2, s2, sc2, rfl, _, _⟩ := hy0
  have HY3 := Lib.hid (EC.weak (M' := NoM) (fun _ _ h => h.elim) _ _ (exv_cs hy))
  have HAY := Lib.hid hany
  clear ht hk hy hany HT2 HN2 HW2 HB2 HX
  dsimp only
  go_upto_region 3 with fail
  generalize hW1 : World.alloc w3 _ = W1
  have hz1 : W1.heap.size = w3.heap.size + 1 := by rw [← hW1]; simp
  have hS0 : W1.heap[w3.heap.size]? = some (.cells #[.int .i64 x.kind, .int .i64 x.op, .bool x.no, .int .i64 x.val.kind, .int .i64 x.val.int, .string x.val.text, .string x.table, .string x.name, .slice a1 x.args.length ac1, .slice s1 x.sub.length sc1] 27 (0, 0)) := by rw [← hW1]; exact heap_alloc_new w3 _
  have hb1 : Below w3.heap.size w3 W1 := by rw [← hW1]; exact (Below.refl _ _).alloc (Nat.le_refl _) _
  clear hW1
  generalize hW : World.alloc W1 _ = W
  have hS : W.heap[w3.heap.size]? = some (.cells #[.int .i64 x.kind, .int .i64 x.op, .bool x.no, .int .i64 x.val.kind, .int .i64 x.val.int, .string x.val.text, .string x.table, .string x.name, .slice a1 x.args.length ac1, .slice s1 x.sub.length sc1] 27 (0, 0)) := by rw [← hW]; exact (heap_alloc_old W1 _ (by omega)).trans hS0
  have hS1 : W.heap[W1.heap.size]? = some (.cells #[.int .i64 y.kind, .int .i64 y.op, .bool y.no, .int .i64 y.val.kind, .int .i64 y.val.int, .string y.val.text, .string y.table, .string y.name, .slice a2 y.args.length ac2, .slice s2 y.sub.length sc2] 27 (0, 0)) := by rw [← hW]; exact heap_alloc_new W1 _
  rw [hz1] at hS1
  have hb4 : Below w3.heap.size w3 W := by rw [← hW]; exact hb1.alloc (by omega) _
  have hzW : W.heap.size = w3.heap.size + 2 := by rw [← hW]; simp [hz1]
  have HBB := Lib.hid (Below.refl W.heap.size W)
  have hzw : w.heap.size ≤ w3.heap.size := by omega
  have HB4 := Lib.hid (HB3.out.trans (hb4.mono hzw))
  have HX4 := Lib.hid (EC.keep (.bel hb4) _ _ HX3.out)
  have HY4 := Lib.hid (EC.keep (.bel hb4) _ _ HY3.out)
  have HL4 := Lib.hid (HL.out.keep (M := fun _ => False) (.bel HB4.out) (fun _ _ => id) hs)
  have HBOX : Hid (∀ wx, Below W.heap.size W wx → (wx.cell? ⟨w3.heap.size, 0, none⟩ = some (.int .i64 x.kind) ∧ wx.cell? ⟨w3.heap.size, 1, none⟩ = some (.int .i64 x.op) ∧ wx.cell? ⟨w3.heap.size, 2, none⟩ = some (.bool x.no) ∧ wx.cell? ⟨w3.heap.size, 3, none⟩ = some (.int .i64 x.val.kind) ∧ wx.cell? ⟨w3.heap.size, 4, none⟩ = some (.int .i64 x.val.int) ∧ wx.cell? ⟨w3.heap.size, 5, none⟩ = some (.string x.val.text) ∧ wx.cell? ⟨w3.heap.size, 6, none⟩ = some (.string x.table) ∧ wx.cell? ⟨w3.heap.size, 7, none⟩ = some (.string x.name) ∧ wx.cell? ⟨w3.heap.size, 8, none⟩ = some (.slice a1 x.args.length ac1) ∧ wx.cell? ⟨w3.heap.size, 9, none⟩ = some (.slice s1 x.sub.length sc1)) ∧ wx.cell? ⟨w3.heap.size + 1, 0, none⟩ = some (.int .i64 y.kind) ∧ wx.cell? ⟨w3.heap.size + 1, 1, none⟩ = some (.int .i64 y.op) ∧ wx.cell? ⟨w3.heap.size + 1, 2, none⟩ = some (.bool y.no) ∧ wx.cell? ⟨w3.heap.size + 1, 3, none⟩ = some (.int .i64 y.val.kind) ∧ wx.cell? ⟨w3.heap.size + 1, 4, none⟩ = some (.int .i64 y.val.int) ∧ wx.cell? ⟨w3.heap.size + 1, 5, none⟩ = some (.string y.val.text) ∧ wx.cell? ⟨w3.heap.size + 1, 6, none⟩ = some (.string y.table) ∧ wx.cell? ⟨w3.heap.size + 1, 7, none⟩ = some (.string y.name) ∧ wx.cell? ⟨w3.heap.size + 1, 8, none⟩ = some (.slice a2 y.args.length ac2) ∧ wx.cell? ⟨w3.heap.size + 1, 9, none⟩ = some (.slice s2 y.sub.length sc2)) := Lib.hid fun wx k => by
    obtain ⟨e0, e1, e2, e3, e4, e5, e6, e7, e8, e9, _⟩ := blk10 ((k.block _ (by omega)).trans hS)
    obtain ⟨f0, f1, f2, f3, f4, f5, f6, f7, f8, f9, _⟩ := blk10 ((k.block _ (by omega)).trans hS1)
    exact ⟨⟨e0, e1, e2, e3, e4, e5, e6, e7, e8, e9⟩, f0, f1, f2, f3, f4, f5, f6, f7, f8, f9⟩
  clear hS0 hS hS1 hb1 hb4 hz1 hW HX3 HY3
  obtain ⟨⟨e0, e1, e2, e3, e4, e5, e6, e7, e8, e9⟩, f0, f1, f2, f3, f4, f5, f6, f7, f8, f9⟩ := HBOX.out _ HBB.out
  go_wp2_with fail
  refine (print_of HAX.out NoM _ W HX4.out HL4.out (by omega)).mono ?_
  rintro e w5 ⟨rfl, hb⟩
  have HC5 := Lib.hid hb
  have HY5 := Lib.hid (EC.keep (.bel hb) _ _ HY4.out)
  have HX5 := Lib.hid (EC.keep (.bel hb) _ _ HX4.out)
  have HB5 := Lib.hid (HB4.out.trans (hb.mono (by omega)))
  have HL5 := Lib.hid (HL.out.keep (M := fun _ => False) (.bel HB5.out) (fun _ _ => id) hs)
  have z5 := hb.size
  clear hb HX4 HY4 HL4
  clear e0 f0 e1 f1 e2 f2 e3 f3 e4 f4 e5 f5 e6 f6 e7 f7 e8 f8 e9 f9
  obtain ⟨⟨e0, e1, e2, e3, e4, e5, e6, e7, e8, e9⟩, f0, f1, f2, f3, f4, f5, f6, f7, f8, f9⟩ := HBOX.out _ HC5.out
  dsimp only
  go_wp2_with fail
  refine (print_of HAY.out NoM _ w5 HY5.out HL5.out (by omega)).mono ?_
  rintro e w6 ⟨rfl, hb⟩
  have HC6 := Lib.hid (HC5.out.trans (hb.mono z5))
  have HY6 := Lib.hid (EC.keep (.bel hb) _ _ HY5.out)
  have HX6 := Lib.hid (EC.keep (.bel hb) _ _ HX5.out)
  have HB6 := Lib.hid (HB5.out.trans (hb.mono (by omega)))
  have z6 := hb.size
  clear hb HX5 HY5 HL5
  clear e0 f0 e1 f1 e2 f2 e3 f3 e4 f4 e5 f5 e6 f6 e7 f7 e8 f8 e9 f9
  obtain ⟨⟨e0, e1, e2, e3, e4, e5, e6, e7, e8, e9⟩, f0, f1, f2, f3, f4, f5, f6, f7, f8, f9⟩ := HBOX.out _ HC6.out
  dsimp only
  go_upto_region 5 with fail
  have HINJ := Lib.hid (text_inj (any_vx HAX.out) (any_vx HAY.out))
  by_cases hxy : x = y
  · have g : ((textP x).toList == (textP y).toList) = true := by rw [hxy]; simp
    have HXY := Lib.hid hxy
    clear hxy
    go_wp2_with fail
    refine (same_any x NoM y _ _ w6 HX6.out HY6.out).mono ?_
    rintro e w7 ⟨r, rfl, hr, hb⟩
    obtain rfl : r = true := hr.2 HXY.out
    have HB7 := Lib.hid (HB6.out.trans (hb.mono (by omega)))
    have HL7 := Lib.hid (HL.out.keep (M := fun _ => False) (.bel HB7.out) (fun _ _ => id) hs)
    have z7 := hb.size
    clear hb hr
    clear e0 f0 e1 f1 e2 f2 e3 f3 e4 f4 e5 f5 e6 f6 e7 f7 e8 f8 e9 f9
    dsimp only
    go_wp2_with fail
    refine (known12_any w7 HL7.out (by omega)).mono ?_
    rintro e w8 ⟨rfl, hb⟩
    have HB8 := Lib.hid (HB7.out.trans (hb.mono (by omega)))
    clear hb
    dsimp only
    go_wp2_with fail
    go_ret
    exact ⟨rfl, HB8.out⟩
  · have g : ((textP x).toList == (textP y).toList) = false := by
      simp only [beq_eq_false_iff_ne]
      exact fun e => hxy (HINJ.out (text_eq e))
    have HXY := Lib.hid hxy
    clear hxy
    go_wp2_with fail
    refine (same_any x NoM y _ _ w6 HX6.out HY6.out).mono ?_
    rintro e w7 ⟨r, rfl, hr, hb⟩
    obtain rfl : r = false := by
      cases r
      · rfl
      · exact absurd (hr.1 rfl) HXY.out
    have HB7 := Lib.hid (HB6.out.trans (hb.mono (by omega)))
    have HL7 := Lib.hid (HL.out.keep (M := fun _ => False) (.bel HB7.out) (fun _ _ => id) hs)
    have z7 := hb.size
    clear hb hr
    clear e0 f0 e1 f1 e2 f2 e3 f3 e4 f4 e5 f5 e6 f6 e7 f7 e8 f8 e9 f9
    dsimp only
    go_wp2_with fail
    refine (known12_any w7 HL7.out (by omega)).mono ?_
    rintro e w8 ⟨rfl, hb⟩
    have HB8 := Lib.hid (HB7.out.trans (hb.mono (by omega)))
    clear hb
    dsimp only
    go_wp2_with fail
    go_ret
    exact ⟨rfl, HB8.out⟩
end Go.Proofs.YtppiaaolggpjdaaDoor
