/- The walk of ScopeTypes. -/
import Derived.Test.YtppiaaolggpjdaaDoorD11
import Derived.Test.YtppiaaolggpjdaaDoorZ5
import Derived.Test.YtppiaaolggpjdaaDoorZ7
import Derived.Test.YtppiaaolggpjdaaDoorZ8
import Derived.Test.YtppiaaolggpjdaaDoorKA
namespace Go.Proofs.YtppiaaolggpjdaaDoor
open Go.RowKit

theorem keep_set10n {T S : Nat} {w0 w : World} (a0 a1 a2 a3 a4 a5 a6 a7 a8 a9 : Value) (h : Keep (At T) w0 w) (hS : w0.heap.size ≤ S) :
    Keep (At T) w0 ((((((((((w.setCell ⟨S, 0, none⟩ a0).setCell ⟨S, 1, none⟩ a1).setCell ⟨S, 2, none⟩ a2).setCell ⟨S, 3, none⟩ a3).setCell ⟨S, 4, none⟩ a4).setCell ⟨S, 5, none⟩ a5).setCell ⟨S, 6, none⟩ a6).setCell ⟨S, 7, none⟩ a7).setCell ⟨S, 8, none⟩ a8).setCell ⟨S, 9, none⟩ a9) :=
  h.then (keep_set10 S w a0 a1 a2 a3 a4 a5 a6 a7 a8 a9) fun k hk hh => by unfold At at hh; omega
theorem blk10_set {w : World} {S : Nat} {x0 x1 x2 x3 x4 x5 x6 x7 x8 x9 : Value} {e : TypeId} (a0 a1 a2 a3 a4 a5 a6 a7 a8 a9 : Value) (h : w.heap[S]? = some (.cells #[x0, x1, x2, x3, x4, x5, x6, x7, x8, x9] e (0, 0))) :
    ((((((((((w.setCell ⟨S, 0, none⟩ a0).setCell ⟨S, 1, none⟩ a1).setCell ⟨S, 2, none⟩ a2).setCell ⟨S, 3, none⟩ a3).setCell ⟨S, 4, none⟩ a4).setCell ⟨S, 5, none⟩ a5).setCell ⟨S, 6, none⟩ a6).setCell ⟨S, 7, none⟩ a7).setCell ⟨S, 8, none⟩ a8).setCell ⟨S, 9, none⟩ a9).heap[S]? = some (.cells #[a0, a1, a2, a3, a4, a5, a6, a7, a8, a9] e (0, 0)) := by
  simp [World.setCell, Array.getElem?_modify, h]

set_option maxRecDepth 100000 in
set_option maxHeartbeats 40000000 in
theorem scopeTypes_any (x : Ex) (q : Qu) (ce cq : List Value) (v : Value) (m : Nat) (w : World) (hx : EC NoM w x ce) (hd : Dep m x) (hq : QC NoM w q cq) (hdq : QuDep m q) (hlen : q.items.length ≤ m) (hm : m ≤ 100000000) (hv : IntsAt w v) (hn : NamesOk w.heap.size w) (hw : WordsOk w.heap.size w) :
    Calls Tryd.prog 4 #[.agg ce.toArray, .agg cq.toArray, v] w (RetBel (.bool true) w) := by
  have hec0 := hx
  obtain ⟨va, vs, rfl, ha, hs⟩ := (EC_iff ..).1 hx
  obtain ⟨a, ac, rfl, _⟩ := ha.shape
  obtain ⟨s, sc, rfl, _⟩ := hs.shape
  have hqc0 := hq
  obtain ⟨vi, vw, rfl, hi, hwh⟩ := (QC_iff ..).1 hq
  obtain ⟨ia, ic, rfl, _⟩ := hi.shape
  obtain ⟨wa, wc, rfl, _⟩ := hwh.shape
  have HX := Lib.hid hec0
  have HQ := Lib.hid hqc0
  have HD := Lib.hid hd.dep
  have HDQ := Lib.hid hdq.dep
  have HLEN := Lib.hid hlen
  have HV := Lib.hid hv
  have HN := Lib.hid hn
  have HW := Lib.hid hw
  clear hx hec0 hd hq hqc0 hdq hlen hv hn hw ha hs hi hwh
  simp only [exCells] at HX ⊢
  go_enter Tryd.func4, Tryd.ntmps4
  go_wp2_with fail
  generalize hW0 : World.alloc (World.alloc w _) _ = W0
  have hk0 : W0.heap[w.heap.size]? = some (.cells #[.int .i64 x.kind, .int .i64 x.op, .bool x.no, .int .i64 x.val.kind, .int .i64 x.val.int, .string x.val.text, .string x.table, .string x.name, .slice a x.args.length ac, .slice s x.sub.length sc] 27 (0, 0)) := by rw [← hW0]; exact (heap_alloc_old _ _ (by simp)).trans (heap_alloc_new w _)
  have hk1 : W0.heap[w.heap.size + 1]? = some (.cells #[.bool q.star, .slice ia q.items.length ic, .string q.frm, .slice wa q.whr.length wc] 37 (0, 0)) := by rw [← hW0]; have h := heap_alloc_new (w.alloc (.cells #[.int .i64 x.kind, .int .i64 x.op, .bool x.no, .int .i64 x.val.kind, .int .i64 x.val.int, .string x.val.text, .string x.table, .string x.name, .slice a x.args.length ac, .slice s x.sub.length sc] 27)) (.cells #[.bool q.star, .slice ia q.items.length ic, .string q.frm, .slice wa q.whr.length wc] 37); rw [show (w.alloc (.cells #[.int .i64 x.kind, .int .i64 x.op, .bool x.no, .int .i64 x.val.kind, .int .i64 x.val.int, .string x.val.text, .string x.table, .string x.name, .slice a x.args.length ac, .slice s x.sub.length sc] 27)).heap.size = w.heap.size + 1 by simp] at h; exact h
  have hb0 : Below w.heap.size w W0 := by rw [← hW0]; exact ((Below.refl _ _).alloc (Nat.le_refl _) _).alloc (by simp) _
  have hz0 : w.heap.size + 1 < W0.heap.size := (Array.getElem?_eq_some_iff.1 hk1).1
  have HB0 := Lib.hid hb0
  have HX0 := Lib.hid (EC.weak (M' := At W0.heap.size) (fun k hk h => by unfold At at h; omega) _ _ (EC.keep (M := NoM) (.bel hb0) _ _ HX.out))
  have HQ0 := Lib.hid (QC.weak (M' := At W0.heap.size) (fun k hk h => by unfold At at h; omega) (QC.keep (M := NoM) (.bel hb0) HQ.out))
  have HK0 := Lib.hid hk0
  have HK1 := Lib.hid hk1
  have HN0 : Hid (NamesOk W0.heap.size W0) := Lib.hid (by have h := HN.out.keep (M := fun _ => False) (.bel hb0) fun _ _ => id; exact ⟨by have := h.1; omega, h.2⟩)
  have HW0 : Hid (WordsOk W0.heap.size W0) := Lib.hid (by have h := HW.out.keep (M := fun _ => False) (.bel hb0) fun _ _ => id; exact ⟨by have := h.1; omega, h.2⟩)
  have HV0 := Lib.hid (HV.out.bel hb0)
  clear hW0 hk0 hk1 hb0 HN HW HV HX HQ
  refine (new_any v W0 HV0.out).mono ?_
  rintro e w1 ⟨rfl, ht, hb⟩
  have h1 := ht.lt
  have HT1 := Lib.hid ht
  have HB1 := Lib.hid hb
  have HN1 := Lib.hid (HN0.out.keep (M := fun _ => False) (.bel hb) fun _ _ => id)
  have HW1 := Lib.hid (HW0.out.keep (M := fun _ => False) (.bel hb) fun _ _ => id)
  clear ht hb HV0 HN0 HW0
  dsimp only
  go_wp2_with fail
  refine (frames_any W0.heap.size w1 HT1.out).mono ?_
  rintro e w2 ⟨v2, rfl, ⟨r, b1, b2, hr0, hr1, hf⟩, ht, hk⟩
  have h2 := hk.size
  have HT2 := Lib.hid ht
  have HN2 := Lib.hid (HN1.out.at hk)
  have HW2 := Lib.hid (HW1.out.at hk)
  have HB2 := Lib.hid (tape_below HB1.out (Nat.le_of_lt h1) hk)
  have HPL := Lib.hid (place_frames r b1 b2 3 (by omega))
  generalize framesL r b1 b2 = L at hf HPL
  obtain ⟨a2, c2, rfl, _⟩ := hf.shape
  have HF2 := Lib.hid (hf.weak (M' := At W0.heap.size) fun k hk h => by unfold At at h; unfold Out; omega)
  clear ht hk hf hr0 hr1 HT1 HN1 HW1
  dsimp only
  go_wp2_with fail
  refine (tables_any W0.heap.size w2 HT2.out).mono ?_
  rintro e w3 ⟨v3, rfl, ⟨l, hl, htb⟩, ht, hk⟩
  have h3 := hk.size
  have HT3 := Lib.hid ht
  have HN3 := Lib.hid (HN2.out.at hk)
  have HW3 := Lib.hid (HW2.out.at hk)
  have HB3 := Lib.hid (tape_below HB2.out (by omega) hk)
  have HF3 := Lib.hid (HF2.out.keep hk)
  have HL := Lib.hid hl
  obtain ⟨a3, c3, rfl, _⟩ := htb.shape
  have HTB3 := Lib.hid (htb.weak (M' := At W0.heap.size) fun k hk h => by unfold At at h; unfold Out; omega)
  clear ht hk htb hl HT2 HN2 HW2 HF2
  dsimp only
  go_wp2_with fail
  refine (schemas_any _).mono ?_
  rintro e w5 ⟨v5, rfl, hs, hb⟩
  have h5 := hb.size
  obtain ⟨a5, c5, rfl, _⟩ := hs.shape
  have HT5 := Lib.hid (HT3.out.bel hb)
  have HN5 := Lib.hid (HN3.out.at (.bel hb))
  have HW5 := Lib.hid (HW3.out.at (.bel hb))
  have HB5 := Lib.hid (HB3.out.trans (hb.mono (by omega)))
  have HF5 := Lib.hid (HF3.out.keep (.bel hb))
  have HTB5 := Lib.hid (HTB3.out.keep (.bel hb))
  have HS5 := Lib.hid (hs.weak (M' := At W0.heap.size) fun k hk h => by unfold At at h; unfold Out; omega)
  clear hs hb HT3 HN3 HW3 HF3 HTB3
  dsimp only
  go_upto_region 4 with fail
  generalize hW6 : World.alloc w5 _ = W
  have hp : W.heap[w5.heap.size]? = some (.cells #[.slice a2 L.length c2, .slice a5 schs3.length c5] 45 (0, 0)) := by rw [← hW6]; exact heap_alloc_new w5 _
  have hb6 : Below w5.heap.size w5 W := by rw [← hW6]; exact (Below.refl _ _).alloc (Nat.le_refl _) _
  have hz6 : w5.heap.size < W.heap.size := (Array.getElem?_eq_some_iff.1 hp).1
  have HT := Lib.hid (HT5.out.bel hb6)
  have HN := Lib.hid (HN5.out.at (.bel hb6))
  have HW := Lib.hid (HW5.out.at (.bel hb6))
  have HB := Lib.hid (HB5.out.trans (hb6.mono (by omega)))
  have HF := Lib.hid (HF5.out.keep (.bel hb6))
  have HTB := Lib.hid (HTB5.out.keep (.bel hb6))
  have HS := Lib.hid (HS5.out.keep (.bel hb6))
  have HXW := Lib.hid (EC.keep (.bel HB.out) _ _ HX0.out)
  have HQW := Lib.hid (QC.keep (.bel HB.out) HQ0.out)
  have hk0 : W.heap[w.heap.size]? = some (.cells #[.int .i64 x.kind, .int .i64 x.op, .bool x.no, .int .i64 x.val.kind, .int .i64 x.val.int, .string x.val.text, .string x.table, .string x.name, .slice a x.args.length ac, .slice s x.sub.length sc] 27 (0, 0)) := (HB.out.block _ (by omega)).trans HK0.out
  have hk1 : W.heap[w.heap.size + 1]? = some (.cells #[.bool q.star, .slice ia q.items.length ic, .string q.frm, .slice wa q.whr.length wc] 37 (0, 0)) := (HB.out.block _ hz0).trans HK1.out
  have HPS : Hid (∀ wx, Keep (At W0.heap.size) W wx → wx.cell? ⟨w5.heap.size, 0, none⟩ = some (.slice a2 L.length c2) ∧ wx.cell? ⟨w5.heap.size, 1, none⟩ = some (.slice a5 schs3.length c5)) := Lib.hid fun wx hk => by
    obtain ⟨p0, p1, _⟩ := blk2 ((hk.block _ hz6 fun hh => by unfold At at hh; omega).trans hp)
    exact ⟨p0, p1⟩
  have HR0 : Hid (∀ wx, Keep (At W0.heap.size) W wx → _) := Lib.hid fun wx hk => blk10 ((hk.block w.heap.size (by omega) (fun hh => by unfold At at hh; omega)).trans hk0)
  have HR1 : Hid (∀ wx, Keep (At W0.heap.size) W wx → _) := Lib.hid fun wx hk => blk4 ((hk.block (w.heap.size + 1) (by omega) (fun hh => by unfold At at hh; omega)).trans hk1)
  generalize w5.heap.size = p at HPS ⊢
  have HTT : Hid (W0.heap.size < W.heap.size) := Lib.hid HT.out.lt
  have HLL : Hid (L.length ≤ 100) := Lib.hid (by have := HPL.out.2.1; omega)
  clear hW6 hp hb6 hk0 hk1 HT5 HN5 HW5 HB5 HF5 HTB5 HS5 HX0 HQ0 HK0 HK1 HB1 HB2 HB3 hz6 h5 h3 h2 h1
  go_wp2_with fail
  go_loopw [11] (fun i wr => ∃ j : Nat, j ≤ 3 ∧ i = .int .i64 j ∧ TapeOk W0.heap.size wr ∧ Keep (At W0.heap.size) W wr) (fun i _ => 3 - (intOf i).toNat)
  case atStart => exact ⟨0, Nat.zero_le _, rfl, HT.out, Keep.refl _ _⟩
  case round =>
    rename World => wr
    obtain ⟨j, hj, rfl, ht, hk⟩ := hrel
    have HTr := Lib.hid ht
    have HK := Lib.hid hk
    clear ht hk
    by_cases hlt : j < 3
    · have hlt' : (j : Int) < 3 := by omega
      go_upto_region 7 with fail
      go_cut [12] (fun v wx => ∃ (g : Nat) (y : Ex) (ya : Option Addr) (yac : Nat) (ys : Option Addr) (ysc : Nat), v = .pointer (some ⟨g, 0, none⟩) ∧ W.heap.size ≤ g ∧ wx.heap[g]? = some (.cells #[.int .i64 y.kind, .int .i64 y.op, .bool y.no, .int .i64 y.val.kind, .int .i64 y.val.int, .string y.val.text, .string y.table, .string y.name, .slice ya y.args.length yac, .slice ys y.sub.length ysc] 27 (0, 0)) ∧ EC (At W0.heap.size) wx y [.int .i64 y.kind, .int .i64 y.op, .bool y.no, .int .i64 y.val.kind, .int .i64 y.val.int, .string y.val.text, .string y.table, .string y.name, .slice ya y.args.length yac, .slice ys y.sub.length ysc] ∧ dep y ≤ 3 ∧ TapeOk W0.heap.size wx ∧ Keep (At W0.heap.size) W wx)
      case first =>
        obtain ⟨p0, p1⟩ := HPS.out _ HK.out
        refine wp_region_noPanic ?_
        refine wp_region_held_drew (S := fun w' => w'.cell? ⟨p, 0, none⟩ = some (.slice a2 L.length c2) ∧ w'.cell? ⟨p, 1, none⟩ = some (.slice a5 schs3.length c5)) (by kernel_rfl) ⟨p0, p1⟩ (fun hHeld => ?_)
        clear p0 p1
        refine wpAnyH_take (i := 0) (v := _) rfl (by kernel_rfl) (by kernel_rfl) (by kernel_rfl) (fun _ _ _ h => h) (Or.inl ⟨by rfl, by (intro w hSw; (try dsimp only at hSw); go_simp; (try with_reducible rfl))⟩) (by assumption) ?_
        simp only [Act.put, List.getElem_toArray, List.getElem_cons_zero, List.setIfInBounds_toArray, List.set_cons_zero, List.set_cons_succ]
        refine wpAnyH_take (i := 1) (v := _) rfl (by kernel_rfl) (by kernel_rfl) (by kernel_rfl) (fun _ _ _ h => h) (Or.inl ⟨by rfl, by (intro w hSw; (try dsimp only at hSw); go_simp; (try with_reducible rfl))⟩) (by assumption) ?_
        simp only [Act.put, List.getElem_toArray, List.getElem_cons_succ, List.getElem_cons_zero, List.setIfInBounds_toArray, List.set_cons_zero, List.set_cons_succ]
        refine wpAnyH_take (i := 2) (v := _) rfl (by kernel_rfl) (by kernel_rfl) (by kernel_rfl) (fun _ _ _ h => h) (Or.inl ⟨by rfl, by (intro w hSw; (try dsimp only at hSw); go_simp; (try with_reducible rfl))⟩) (by assumption) ?_
        simp only [Act.put, List.getElem_toArray, List.getElem_cons_succ, List.getElem_cons_zero, List.setIfInBounds_toArray, List.set_cons_zero, List.set_cons_succ]
        refine wpAnyH_ready (rs := [3, 6]) (by kernel_rfl) (by simp) ?_
        refine AllReadyH.cons (o := _) rfl (fun K hK => ?_) (AllReadyH.cons (o := _) rfl (fun K hK => ?_) AllReadyH.nil)
        · go_simp
          refine (next_any W0.heap.size 3 _ (by omega) (by omega) (show TapeOk W0.heap.size wr.drew from HTr.out)).mono ?_
          rintro e y1 ⟨v, rfl, ⟨r, rfl, hr0, hr1⟩, ht, hk⟩
          have HT1 := Lib.hid ht
          have HK1 := Lib.hid (HK.out.drew.trans hk)
          clear ht hk
          dsimp only
          refine hK.out _ _ (HPS.out _ HK1.out) (fun hHeld => ?_)
          clear hK K
          refine wpAnyH_take (i := 4) (v := _) rfl (by kernel_rfl) (by kernel_rfl) (by kernel_rfl) (fun _ _ _ h => h) (Or.inl ⟨by rfl, by (intro w hSw; (try dsimp only at hSw); go_simp; (try with_reducible rfl))⟩) (by assumption) ?_
          simp only [Act.put, List.getElem_toArray, List.getElem_cons_succ, List.getElem_cons_zero, List.setIfInBounds_toArray, List.set_cons_zero, List.set_cons_succ]
          refine wpAnyH_ready (rs := [5, 6]) (by kernel_rfl) (by simp) ?_
          refine AllReadyH.cons (o := _) rfl (fun K hK => ?_) (AllReadyH.cons (o := _) rfl (fun K hK => ?_) AllReadyH.nil)
          · go_simp
            rw [show IntKind.i64.wrap (1 + r) = 1 + r from IntWalk.i64_in _ (by omega)]
            refine (expr_ok 3 (by omega) W0.heap.size 3 (1 + r) a2 a5 c2 c5 lookS L schs3 _ (by omega) (by omega) (by omega) (by omega) HT1.out (HW.out.at HK1.out) (HF.out.keep HK1.out) (HS.out.keep HK1.out) HPL.out).mono ?_
            rintro e y2 ⟨v, rfl, ⟨y, hy, hmk⟩, ht, hk⟩
            have hy0 := hy
            obtain ⟨ya, yac, ys, ysc, rfl, _, _⟩ := hy0
            have HT2 := Lib.hid ht
            have HK2 := Lib.hid (HK1.out.trans hk)
            have HY := Lib.hid (exv_cs hy)
            have HDY := Lib.hid hmk.1
            have htz : W0.heap.size < y1.heap.size := by have := HTT.out; have := HK1.out.size; omega
            have hweak : ∀ wx, EC (Old y1.heap.size) wx y [.int .i64 y.kind, .int .i64 y.op, .bool y.no, .int .i64 y.val.kind, .int .i64 y.val.int, .string y.val.text, .string y.table, .string y.name, .slice ya y.args.length yac, .slice ys y.sub.length ysc] → EC (At W0.heap.size) wx y [.int .i64 y.kind, .int .i64 y.op, .bool y.no, .int .i64 y.val.kind, .int .i64 y.val.int, .string y.val.text, .string y.table, .string y.name, .slice ya y.args.length yac, .slice ys y.sub.length ysc] := fun wx h => EC.weak (fun k _ h => by unfold At at h; unfold Old; omega) _ _ h
            clear ht hk hy hmk
            dsimp only
            refine hK.out _ _ (HPS.out _ HK2.out) (fun hHeld => ?_)
            clear hK K
            refine wpAnyH_ready (rs := [6]) (by kernel_rfl) (by simp) ?_
            refine AllReadyH.cons (o := _) rfl (fun K hK => ?_) AllReadyH.nil
            go_simp
            refine hK.out _ _ (HPS.out _ (HK2.out.alloc _)) (fun hHeld => ?_)
            clear hK K
            refine wpAnyH_ready (rs := [7]) (by kernel_rfl) (by simp) ?_
            refine AllReadyH.cons (o := _) rfl (fun K hK => ?_) AllReadyH.nil
            have hf0 := frz (heap_alloc_new y2 (.cells #[.int .i64 0, .int .i64 0, .bool false, .int .i64 0, .int .i64 0, .string ⟨#[]⟩, .string ⟨#[]⟩, .string ⟨#[]⟩, .slice none 0 0, .slice none 0 0] 27))
            obtain ⟨z0, z1, z2, z3, z4, z5, z6, z7, z8, z9, zf, zz⟩ := blk10 (heap_alloc_new y2 (.cells #[.int .i64 0, .int .i64 0, .bool false, .int .i64 0, .int .i64 0, .string ⟨#[]⟩, .string ⟨#[]⟩, .string ⟨#[]⟩, .slice none 0 0, .slice none 0 0] 27))
            go_simp
            refine hK.out _ _ (HPS.out _ (HK2.out.alloc _)) (fun hHeld => ?_)
            clear hK K
            refine wpAnyH_done (by kernel_rfl) ?_ _
            refine NoPanic.normal ?_
            go_wp2_with fail
            go_meet
            exact ⟨y2.heap.size, y, ya, yac, ys, ysc, rfl, HK2.out.size, heap_alloc_new y2 _, hweak _ (EC.keep ((Keep.refl _ _).alloc _) _ _ HY.out), HDY.out, HT2.out.bel ((Below.refl _ _).alloc (Nat.le_refl _) _), HK2.out.alloc _⟩
          · go_simp
            have hg : (World.alloc y1 (.cells #[.int .i64 0, .int .i64 0, .bool false, .int .i64 0, .int .i64 0, .string ⟨#[]⟩, .string ⟨#[]⟩, .string ⟨#[]⟩, .slice none 0 0, .slice none 0 0] 27)).heap[y1.heap.size]? = some (.cells #[.int .i64 0, .int .i64 0, .bool false, .int .i64 0, .int .i64 0, .string ⟨#[]⟩, .string ⟨#[]⟩, .string ⟨#[]⟩, .slice none 0 0, .slice none 0 0] 27 (0, 0)) := heap_alloc_new _ _
            have hk : Keep (At W0.heap.size) W (World.alloc y1 (.cells #[.int .i64 0, .int .i64 0, .bool false, .int .i64 0, .int .i64 0, .string ⟨#[]⟩, .string ⟨#[]⟩, .string ⟨#[]⟩, .slice none 0 0, .slice none 0 0] 27)) := HK1.out.alloc _
            have ht : TapeOk W0.heap.size (World.alloc y1 (.cells #[.int .i64 0, .int .i64 0, .bool false, .int .i64 0, .int .i64 0, .string ⟨#[]⟩, .string ⟨#[]⟩, .string ⟨#[]⟩, .slice none 0 0, .slice none 0 0] 27)) := HT1.out.bel ((Below.refl _ _).alloc (Nat.le_refl _) _)
            generalize hWa : World.alloc y1 (.cells #[.int .i64 0, .int .i64 0, .bool false, .int .i64 0, .int .i64 0, .string ⟨#[]⟩, .string ⟨#[]⟩, .string ⟨#[]⟩, .slice none 0 0, .slice none 0 0] 27) = y3 at hg hk ht ⊢
            have hgz : W.heap.size ≤ y1.heap.size := HK1.out.size
            generalize y1.heap.size = g at hg hgz ⊢
            have HG3 := Lib.hid hg
            have HK3 := Lib.hid hk
            have HT3 := Lib.hid ht
            clear hWa hg hk ht
            refine hK.out _ _ (HPS.out _ HK3.out) (fun hHeld => ?_)
            clear hK K
            refine wpAnyH_ready (rs := [5]) (by kernel_rfl) (by simp) ?_
            refine AllReadyH.cons (o := _) rfl (fun K hK => ?_) AllReadyH.nil
            go_simp
            rw [show IntKind.i64.wrap (1 + r) = 1 + r from IntWalk.i64_in _ (by omega)]
            refine (expr_ok 3 (by omega) W0.heap.size 3 (1 + r) a2 a5 c2 c5 lookS L schs3 _ (by omega) (by omega) (by omega) (by omega) HT3.out (HW.out.at HK3.out) (HF.out.keep HK3.out) (HS.out.keep HK3.out) HPL.out).mono ?_
            rintro e y4 ⟨v, rfl, ⟨y, hy, hmk⟩, ht, hk⟩
            have hy0 := hy
            obtain ⟨ya, yac, ys, ysc, rfl, _, _⟩ := hy0
            have HT4 := Lib.hid ht
            have HK4 := Lib.hid (HK3.out.trans hk)
            have HY := Lib.hid (exv_cs hy)
            have HDY := Lib.hid hmk.1
            have htz : W0.heap.size < y3.heap.size := by have := HTT.out; have := HK3.out.size; omega
            have hgs := (Array.getElem?_eq_some_iff.1 HG3.out).1
            have hweak : ∀ wx, EC (Old y3.heap.size) wx y [.int .i64 y.kind, .int .i64 y.op, .bool y.no, .int .i64 y.val.kind, .int .i64 y.val.int, .string y.val.text, .string y.table, .string y.name, .slice ya y.args.length yac, .slice ys y.sub.length ysc] → EC (At W0.heap.size) wx y [.int .i64 y.kind, .int .i64 y.op, .bool y.no, .int .i64 y.val.kind, .int .i64 y.val.int, .string y.val.text, .string y.table, .string y.name, .slice ya y.args.length yac, .slice ys y.sub.length ysc] := fun wx h => EC.weak (fun k _ h => by unfold At at h; unfold Old; omega) _ _ h
            have HG4 := Lib.hid ((hk.block _ (Array.getElem?_eq_some_iff.1 HG3.out).1 (fun hh => by unfold At at hh; have := HTT.out; omega)).trans HG3.out)
            clear ht hk hy hmk
            dsimp only
            refine hK.out _ _ (HPS.out _ HK4.out) (fun hHeld => ?_)
            clear hK K
            refine wpAnyH_ready (rs := [7]) (by kernel_rfl) (by simp) ?_
            refine AllReadyH.cons (o := _) rfl (fun K hK => ?_) AllReadyH.nil
            obtain ⟨z0, z1, z2, z3, z4, z5, z6, z7, z8, z9, zf, zz⟩ := blk10 HG4.out
            go_simp
            refine hK.out _ _ (HPS.out _ (keep_set10n _ _ _ _ _ _ _ _ _ _ HK4.out hgz)) (fun hHeld => ?_)
            clear hK K
            refine wpAnyH_done (by kernel_rfl) ?_ _
            refine NoPanic.normal ?_
            go_wp2_with fail
            go_meet
            have hk10 := keep_set10 g y4 (.int .i64 y.kind) (.int .i64 y.op) (.bool y.no) (.int .i64 y.val.kind) (.int .i64 y.val.int) (.string y.val.text) (.string y.table) (.string y.name) (.slice ya y.args.length yac) (.slice ys y.sub.length ysc)
            exact ⟨g, y, ya, yac, ys, ysc, rfl, hgz, blk10_set _ _ _ _ _ _ _ _ _ _ HG4.out, hweak _ (EC.keep (hk10.weak fun k _ h => by unfold At at h; unfold Old; omega) _ _ HY.out), HDY.out, HT4.out.keep hk10 (fun k hk hh => by unfold At at hh; have := HTT.out; omega), keep_set10n _ _ _ _ _ _ _ _ _ _ HK4.out hgz⟩
        · go_simp
          have hg : (World.drew (World.alloc wr (.cells #[.int .i64 0, .int .i64 0, .bool false, .int .i64 0, .int .i64 0, .string ⟨#[]⟩, .string ⟨#[]⟩, .string ⟨#[]⟩, .slice none 0 0, .slice none 0 0] 27))).heap[wr.heap.size]? = some (.cells #[.int .i64 0, .int .i64 0, .bool false, .int .i64 0, .int .i64 0, .string ⟨#[]⟩, .string ⟨#[]⟩, .string ⟨#[]⟩, .slice none 0 0, .slice none 0 0] 27 (0, 0)) := heap_alloc_new _ _
          have hk : Keep (At W0.heap.size) W (World.drew (World.alloc wr (.cells #[.int .i64 0, .int .i64 0, .bool false, .int .i64 0, .int .i64 0, .string ⟨#[]⟩, .string ⟨#[]⟩, .string ⟨#[]⟩, .slice none 0 0, .slice none 0 0] 27))) := (HK.out.alloc _).drew
          have ht : TapeOk W0.heap.size (World.drew (World.alloc wr (.cells #[.int .i64 0, .int .i64 0, .bool false, .int .i64 0, .int .i64 0, .string ⟨#[]⟩, .string ⟨#[]⟩, .string ⟨#[]⟩, .slice none 0 0, .slice none 0 0] 27))) := (show TapeOk W0.heap.size (World.alloc wr (.cells #[.int .i64 0, .int .i64 0, .bool false, .int .i64 0, .int .i64 0, .string ⟨#[]⟩, .string ⟨#[]⟩, .string ⟨#[]⟩, .slice none 0 0, .slice none 0 0] 27)) from HTr.out.bel ((Below.refl _ _).alloc (Nat.le_refl _) _))
          generalize hWa : World.drew (World.alloc wr (.cells #[.int .i64 0, .int .i64 0, .bool false, .int .i64 0, .int .i64 0, .string ⟨#[]⟩, .string ⟨#[]⟩, .string ⟨#[]⟩, .slice none 0 0, .slice none 0 0] 27)) = y5 at hg hk ht ⊢
          have hgz : W.heap.size ≤ wr.heap.size := HK.out.size
          generalize wr.heap.size = g at hg hgz ⊢
          have HG5 := Lib.hid hg
          have HK5 := Lib.hid hk
          have HT5 := Lib.hid ht
          clear hWa hg hk ht
          refine hK.out _ _ (HPS.out _ HK5.out) (fun hHeld => ?_)
          clear hK K
          refine wpAnyH_ready (rs := [3]) (by kernel_rfl) (by simp) ?_
          refine AllReadyH.cons (o := _) rfl (fun K hK => ?_) AllReadyH.nil
          go_simp
          refine (next_any W0.heap.size 3 _ (by omega) (by omega) HT5.out).mono ?_
          rintro e y6 ⟨v, rfl, ⟨r, rfl, hr0, hr1⟩, ht, hk⟩
          have HT6 := Lib.hid ht
          have HK6 := Lib.hid (HK5.out.trans hk)
          have HG6 := Lib.hid ((hk.block _ (Array.getElem?_eq_some_iff.1 HG5.out).1 (fun hh => by unfold At at hh; have := HTT.out; omega)).trans HG5.out)
          clear ht hk
          dsimp only
          refine hK.out _ _ (HPS.out _ HK6.out) (fun hHeld => ?_)
          clear hK K
          refine wpAnyH_take (i := 4) (v := _) rfl (by kernel_rfl) (by kernel_rfl) (by kernel_rfl) (fun _ _ _ h => h) (Or.inl ⟨by rfl, by (intro w hSw; (try dsimp only at hSw); go_simp; (try with_reducible rfl))⟩) (by assumption) ?_
          simp only [Act.put, List.getElem_toArray, List.getElem_cons_succ, List.getElem_cons_zero, List.setIfInBounds_toArray, List.set_cons_zero, List.set_cons_succ]
          refine wpAnyH_ready (rs := [5]) (by kernel_rfl) (by simp) ?_
          refine AllReadyH.cons (o := _) rfl (fun K hK => ?_) AllReadyH.nil
          go_simp
          rw [show IntKind.i64.wrap (1 + r) = 1 + r from IntWalk.i64_in _ (by omega)]
          refine (expr_ok 3 (by omega) W0.heap.size 3 (1 + r) a2 a5 c2 c5 lookS L schs3 _ (by omega) (by omega) (by omega) (by omega) HT6.out (HW.out.at HK6.out) (HF.out.keep HK6.out) (HS.out.keep HK6.out) HPL.out).mono ?_
          rintro e y7 ⟨v, rfl, ⟨y, hy, hmk⟩, ht, hk⟩
          have hy0 := hy
          obtain ⟨ya, yac, ys, ysc, rfl, _, _⟩ := hy0
          have HT7 := Lib.hid ht
          have HK7 := Lib.hid (HK6.out.trans hk)
          have HY := Lib.hid (exv_cs hy)
          have HDY := Lib.hid hmk.1
          have htz : W0.heap.size < y6.heap.size := by have := HTT.out; have := HK6.out.size; omega
          have hgs := (Array.getElem?_eq_some_iff.1 HG6.out).1
          have hweak : ∀ wx, EC (Old y6.heap.size) wx y [.int .i64 y.kind, .int .i64 y.op, .bool y.no, .int .i64 y.val.kind, .int .i64 y.val.int, .string y.val.text, .string y.table, .string y.name, .slice ya y.args.length yac, .slice ys y.sub.length ysc] → EC (At W0.heap.size) wx y [.int .i64 y.kind, .int .i64 y.op, .bool y.no, .int .i64 y.val.kind, .int .i64 y.val.int, .string y.val.text, .string y.table, .string y.name, .slice ya y.args.length yac, .slice ys y.sub.length ysc] := fun wx h => EC.weak (fun k _ h => by unfold At at h; unfold Old; omega) _ _ h
          have HG7 := Lib.hid ((hk.block _ (Array.getElem?_eq_some_iff.1 HG6.out).1 (fun hh => by unfold At at hh; have := HTT.out; omega)).trans HG6.out)
          clear ht hk hy hmk
          dsimp only
          refine hK.out _ _ (HPS.out _ HK7.out) (fun hHeld => ?_)
          clear hK K
          refine wpAnyH_ready (rs := [7]) (by kernel_rfl) (by simp) ?_
          refine AllReadyH.cons (o := _) rfl (fun K hK => ?_) AllReadyH.nil
          obtain ⟨z0, z1, z2, z3, z4, z5, z6, z7, z8, z9, zf, zz⟩ := blk10 HG7.out
          go_simp
          refine hK.out _ _ (HPS.out _ (keep_set10n _ _ _ _ _ _ _ _ _ _ HK7.out hgz)) (fun hHeld => ?_)
          clear hK K
          refine wpAnyH_done (by kernel_rfl) ?_ _
          refine NoPanic.normal ?_
          go_wp2_with fail
          go_meet
          have hk10 := keep_set10 g y7 (.int .i64 y.kind) (.int .i64 y.op) (.bool y.no) (.int .i64 y.val.kind) (.int .i64 y.val.int) (.string y.val.text) (.string y.table) (.string y.name) (.slice ya y.args.length yac) (.slice ys y.sub.length ysc)
          exact ⟨g, y, ya, yac, ys, ysc, rfl, hgz, blk10_set _ _ _ _ _ _ _ _ _ _ HG7.out, hweak _ (EC.keep (hk10.weak fun k _ h => by unfold At at h; unfold Old; omega) _ _ HY.out), HDY.out, HT7.out.keep hk10 (fun k hk hh => by unfold At at hh; have := HTT.out; omega), keep_set10n _ _ _ _ _ _ _ _ _ _ HK7.out hgz⟩
      case rest =>
        obtain ⟨g, y, ya, yac, ys, ysc, rfl, hg, hc, hey, hdy, ht, hk⟩ := hcut
        rename World => w7
        have hgz := (Array.getElem?_eq_some_iff.1 hc).1
        have HT7 := Lib.hid ht
        have HK7 := Lib.hid hk
        have HY7 := Lib.hid hey
        have HDY := Lib.hid hdy
        have HC7 := Lib.hid (show ∀ wx, Keep (At W0.heap.size) w7 wx → _ from fun wx hk => blk10 ((hk.block g hgz (fun hh => by unfold At at hh; have := HTT.out; omega)).trans hc))
        clear hc hey hdy ht hk
        go_wp2_with fail
        refine (any_ok 3 (by omega) W0.heap.size 3 w7 (by omega) (by omega) HT7.out (HN.out.at HK7.out) (HW.out.at HK7.out)).mono ?_
        rintro e w8 ⟨v8, rfl, ⟨z, hz, hany⟩, ht, hk⟩
        have hz0' := hz
        obtain ⟨za, zac, zs, zsc, rfl, _, _⟩ := hz0'
        have z8 := hk.size
        have HT8 := Lib.hid ht
        have HK8 := Lib.hid (HK7.out.trans hk)
        have HK78 := Lib.hid hk
        have HZ8 := Lib.hid (EC.weak (M' := At W0.heap.size) (fun k _ h => by unfold At at h; have := HTT.out; have := HK7.out.size; unfold Old; omega) _ _ (exv_cs hz))
        have HDZ := Lib.hid (any_dep hany).dep
        clear ht hk hz hany
        dsimp only
        go_upto_region 9 with fail
        generalize hW9 : World.alloc w8 _ = w9
        have hc : w9.heap[w8.heap.size]? = some (.cells #[.int .i64 z.kind, .int .i64 z.op, .bool z.no, .int .i64 z.val.kind, .int .i64 z.val.int, .string z.val.text, .string z.table, .string z.name, .slice za z.args.length zac, .slice zs z.sub.length zsc] 27 (0, 0)) := by rw [← hW9]; exact heap_alloc_new w8 _
        have hb9 : Below w8.heap.size w8 w9 := by rw [← hW9]; exact (Below.refl _ _).alloc (Nat.le_refl _) _
        have hgz8 := (Array.getElem?_eq_some_iff.1 hc).1
        have HT9 := Lib.hid (HT8.out.bel hb9)
        have HK9 := Lib.hid (HK8.out.trans (.bel hb9))
        have HK79 := Lib.hid (HK78.out.trans (.bel hb9))
        have HZ9 := Lib.hid (EC.keep (.bel hb9) _ _ HZ8.out)
        have HC9 := Lib.hid (show ∀ wx, Keep (At W0.heap.size) w9 wx → _ from fun wx hk => blk10 ((hk.block w8.heap.size hgz8 (fun hh => by unfold At at hh; have := HTT.out; have := HK8.out.size; omega)).trans hc))
        have hg8 : W.heap.size ≤ w8.heap.size := HK8.out.size
        generalize w8.heap.size = g8 at HC9 hg8 ⊢
        clear hW9 hc hb9 HT8 HZ8 HK78
        obtain ⟨p0, p1⟩ := HPS.out _ HK9.out
        go_wp2_with fail
        refine (tapeQuery_any 2 (expr_ok 2 (by omega)) W0.heap.size 2 a2 a5 c2 c5 lookS L schs3 w9 (by omega) (by omega) (by omega) HT9.out (HW.out.at HK9.out) (HF.out.keep HK9.out) (HS.out.keep HK9.out) HPL.out).mono ?_
        rintro e w10 ⟨v10, rfl, ⟨u, ui, uw, rfl, hui, huw, hdu, hlu⟩, ht, hk⟩
        obtain ⟨uia, uic, rfl, _⟩ := hui.shape
        obtain ⟨uwa, uwc, rfl, _⟩ := huw.shape
        have HT10 := Lib.hid ht
        have HK10 := Lib.hid (HK9.out.trans hk)
        have HK910 := Lib.hid hk
        have HU10 := Lib.hid (show QC (At W0.heap.size) w10 u [.bool u.star, .slice uia u.items.length uic, .string u.frm, .slice uwa u.whr.length uwc] from QC.weak (M := Old w9.heap.size) (fun k _ h => by unfold At at h; have := HTT.out; have := HK9.out.size; unfold Old; omega) ((QC_iff ..).2 ⟨_, _, rfl, hui, huw⟩))
        have HDU := Lib.hid hdu
        have HLU := Lib.hid hlu
        clear ht hk hui huw hdu hlu p0 p1
        dsimp only
        go_upto_region 10 with fail
        generalize hW11 : World.alloc w10 _ = w11
        have hc : w11.heap[w10.heap.size]? = some (.cells #[.bool u.star, .slice uia u.items.length uic, .string u.frm, .slice uwa u.whr.length uwc] 37 (0, 0)) := by rw [← hW11]; exact heap_alloc_new w10 _
        have hb11 : Below w10.heap.size w10 w11 := by rw [← hW11]; exact (Below.refl _ _).alloc (Nat.le_refl _) _
        have hgz10 := (Array.getElem?_eq_some_iff.1 hc).1
        have HT11 := Lib.hid (HT10.out.bel hb11)
        have HK11 := Lib.hid (HK10.out.trans (.bel hb11))
        have HK911 := Lib.hid (HK910.out.trans (.bel hb11))
        have HK711 := Lib.hid (HK79.out.trans HK911.out)
        have HU11 := Lib.hid (QC.keep (.bel hb11) HU10.out)
        have HC11 := Lib.hid (show ∀ wx, Keep (At W0.heap.size) w11 wx → _ from fun wx hk => blk4 ((hk.block w10.heap.size hgz10 (fun hh => by unfold At at hh; have := HTT.out; have := HK10.out.size; omega)).trans hc))
        generalize w10.heap.size = g10 at HC11 ⊢
        clear hW11 hc hb11 HT10 HU10 HK910
        -- what holds in all worlds from here
        have HALL : Hid (∀ wx, Keep (At W0.heap.size) w11 wx → EC NoM wx y [.int .i64 y.kind, .int .i64 y.op, .bool y.no, .int .i64 y.val.kind, .int .i64 y.val.int, .string y.val.text, .string y.table, .string y.name, .slice ya y.args.length yac, .slice ys y.sub.length ysc] ∧ EC NoM wx z [.int .i64 z.kind, .int .i64 z.op, .bool z.no, .int .i64 z.val.kind, .int .i64 z.val.int, .string z.val.text, .string z.table, .string z.name, .slice za z.args.length zac, .slice zs z.sub.length zsc] ∧ QC NoM wx u [.bool u.star, .slice uia u.items.length uic, .string u.frm, .slice uwa u.whr.length uwc] ∧ FrmsR NoM wx (.slice a2 L.length c2) L ∧ TblsR NoM wx (.slice a3 l.length c3) l) := Lib.hid fun wx hk =>
          ⟨EC.weak (fun _ _ h => h.elim) _ _ (EC.keep (HK711.out.trans hk) _ _ HY7.out), EC.weak (fun _ _ h => h.elim) _ _ (EC.keep (HK911.out.trans hk) _ _ HZ9.out), QC.weak (fun _ _ h => h.elim) (QC.keep hk HU11.out), (HF.out.keep (HK11.out.trans hk)).weak fun _ _ h => h.elim, (HTB.out.keep (HK11.out.trans hk)).weak fun _ _ h => h.elim⟩
        clear HY7 HZ9 HU11
        obtain ⟨x0, x1, x2, x3, x4, x5, x6, x7, x8, x9, xf, xz⟩ := HC7.out _ HK711.out
        obtain ⟨u0, u1, u2, u3, uf, uf', uz⟩ := HC11.out _ (Keep.refl _ _)
        go_wp2_with fail
        refine (lawTypes_any l (tsOk_small HL.out) y u L _ _ _ _ w11 (HALL.out _ (Keep.refl _ _)).1 (HALL.out _ (Keep.refl _ _)).2.2.1 (HALL.out _ (Keep.refl _ _)).2.2.2.1 (HALL.out _ (Keep.refl _ _)).2.2.2.2 (by have := HLL.out; have := HDY.out; omega) (by have := HLL.out; have := HDU.out; omega) (by have := HLU.out; omega)).mono ?_
        rintro e w12 ⟨rfl, hb⟩
        have HB12 := Lib.hid hb
        have HK12 := Lib.hid (Keep.bel (M := At W0.heap.size) hb)
        clear hb x0 x1 x2 x3 x4 x5 x6 x7 x8 x9 xf xz u0 u1 u2 u3 uf uf' uz
        obtain ⟨x0, x1, x2, x3, x4, x5, x6, x7, x8, x9, xf, xz⟩ := HC9.out _ (HK911.out.trans HK12.out)
        obtain ⟨u0, u1, u2, u3, uf, uf', uz⟩ := HC11.out _ HK12.out
        dsimp only
        go_wp2_with fail
        refine (lawTypes_any l (tsOk_small HL.out) z u L _ _ _ _ w12 (HALL.out _ HK12.out).2.1 (HALL.out _ HK12.out).2.2.1 (HALL.out _ HK12.out).2.2.2.1 (HALL.out _ HK12.out).2.2.2.2 (by have := HLL.out; have := HDZ.out; omega) (by have := HLL.out; have := HDU.out; omega) (by have := HLU.out; omega)).mono ?_
        rintro e w13 ⟨rfl, hb⟩
        have HB13 := Lib.hid (HB12.out.trans (hb.mono HB12.out.size))
        have HK13 := Lib.hid (HK12.out.trans (.bel hb))
        clear hb x0 x1 x2 x3 x4 x5 x6 x7 x8 x9 xf xz u0 u1 u2 u3 uf uf' uz
        obtain ⟨x0, x1, x2, x3, x4, x5, x6, x7, x8, x9, xf, xz⟩ := HC9.out _ (HK911.out.trans HK13.out)
        obtain ⟨y0, y1, y2, y3, y4, y5, y6, y7, y8, y9, yf, yz⟩ := HC7.out _ (HK711.out.trans HK13.out)
        dsimp only
        go_wp2_with fail
        have hk14 := (HK13.out.alloc (.cells #[.int .i64 z.kind, .int .i64 z.op, .bool z.no, .int .i64 z.val.kind, .int .i64 z.val.int, .string z.val.text, .string z.table, .string z.name, .slice za z.args.length zac, .slice zs z.sub.length zsc] 27)).alloc (.cells #[.int .i64 y.kind, .int .i64 y.op, .bool y.no, .int .i64 y.val.kind, .int .i64 y.val.int, .string y.val.text, .string y.table, .string y.name, .slice ya y.args.length yac, .slice ys y.sub.length ysc] 27)
        refine (lawTypes_any l (tsOk_small HL.out) z (.mk false [z] ⟨#[116]⟩ [y]) L _ _ _ _ _ (HALL.out _ hk14).2.1 ((QC_iff ..).2 ⟨_, _, rfl, ?_, ?_⟩) (HALL.out _ hk14).2.2.2.1 (HALL.out _ hk14).2.2.2.2 (by have := HLL.out; have := HDZ.out; omega) ?_ (by simp [Qu.items])).mono ?_
        · exact RowsR.map (rows_one (R := EC NoM w13) z (by simp) id (by simp) (HALL.out _ HK13.out).2.1) ((Keep.refl _ _).alloc _) fun x _ cs hc => EC.keep (((Keep.refl NoM w13).alloc _).alloc _) x cs hc
        · exact rows_one (R := EC NoM _) y (by simp) id (by simp) (EC.keep (((Keep.refl NoM w13).alloc _).alloc _) _ _ (HALL.out _ HK13.out).1)
        · rw [depQ_eq]
          have := HLL.out
          have := HDY.out
          have := HDZ.out
          simp only [Qu.items, Qu.whr, depL]
          omega
        rintro e w15 ⟨rfl, hb⟩
        have HB15 := Lib.hid (((HB13.out.alloc HB13.out.size (.cells #[.int .i64 z.kind, .int .i64 z.op, .bool z.no, .int .i64 z.val.kind, .int .i64 z.val.int, .string z.val.text, .string z.table, .string z.name, .slice za z.args.length zac, .slice zs z.sub.length zsc] 27)).alloc (by have := HB13.out.size; simp; omega) (.cells #[.int .i64 y.kind, .int .i64 y.op, .bool y.no, .int .i64 y.val.kind, .int .i64 y.val.int, .string y.val.text, .string y.table, .string y.name, .slice ya y.args.length yac, .slice ys y.sub.length ysc] 27)).trans (hb.mono (by have := HB13.out.size; simp; omega)))
        clear hk14 hb x0 x1 x2 x3 x4 x5 x6 x7 x8 x9 xf xz y0 y1 y2 y3 y4 y5 y6 y7 y8 y9 yf yz
        dsimp only
        go_wp2_with fail
        go_roundw
        case rel => exact ⟨j + 1, by omega, by go_num, HT11.out.bel HB15.out, HK11.out.trans (.bel HB15.out)⟩
        case measure =>
          simp [intOf]
          omega
    · obtain rfl : j = 3 := by omega
      obtain ⟨x0, x1, x2, x3, x4, x5, x6, x7, x8, x9, xf, xz⟩ := HR0.out _ HK.out
      obtain ⟨u0, u1, u2, u3, uf, uf', uz⟩ := HR1.out _ HK.out
      go_wp2_with fail
      refine (lawTypes_any l (tsOk_small HL.out) x q L _ _ _ _ wr (EC.weak (fun _ _ h => h.elim) _ _ (EC.keep HK.out _ _ HXW.out)) (QC.weak (fun _ _ h => h.elim) (QC.keep HK.out HQW.out)) ((HF.out.keep HK.out).weak fun _ _ h => h.elim) ((HTB.out.keep HK.out).weak fun _ _ h => h.elim) (by have := HLL.out; have := HD.out; omega) (by have := HLL.out; have := HDQ.out; omega) (by have := HLEN.out; omega)).mono ?_
      rintro e w4 ⟨rfl, hb⟩
      have HK4 := Lib.hid (HK.out.trans (.bel hb))
      clear hb x0 x1 x2 x3 x4 x5 x6 x7 x8 x9 xf xz u0 u1 u2 u3 uf uf' uz
      dsimp only
      go_wp2_with fail
      refine (known14_any w4).mono ?_
      rintro e w6 ⟨rfl, hb⟩
      have HK6 := Lib.hid (HK4.out.trans (.bel hb))
      clear hb
      dsimp only
      go_wp2_with fail
      go_ret
      exact ⟨rfl, HB0.out.trans ((tape_below HB.out (Nat.le_of_lt HTT.out) HK6.out).mono (by omega))⟩
end Go.Proofs.YtppiaaolggpjdaaDoor
