/- The walk of ScopeInner. -/
import Derived.Test.YtiheioajnfggmaaDoorC20
import Derived.Deep.DeepCutAuto
import Derived.Deep.RegionHeld3
namespace Go.Proofs.YtiheioajnfggmaaDoor
open Go.RowKit

theorem drew_below {B : Nat} {a w : World} (h : Below B a w) : Below B a w.drew := ⟨h.os, h.tape, h.output, h.size, h.block⟩

theorem heap_new1 {w : World} {o1 o2 : Obj} : ((w.alloc o1).alloc o2).heap[w.heap.size + 1]? = some o2 := by
  have := heap_alloc_new (w.alloc o1) o2
  rw [World.size_alloc] at this
  exact this
theorem heap_new2 {w : World} {o1 o2 o3 : Obj} : (((w.alloc o1).alloc o2).alloc o3).heap[w.heap.size + 1 + 1]? = some o3 := by
  have := heap_alloc_new ((w.alloc o1).alloc o2) o3
  rw [World.size_alloc, World.size_alloc] at this
  exact this
theorem heap_mid {w : World} {o1 o2 o3 : Obj} : (((w.alloc o1).alloc o2).alloc o3).heap[w.heap.size + 1]? = some o2 := by
  have h := ((Keep.refl (fun _ => False) ((w.alloc o1).alloc o2)).alloc o3).block (w.heap.size + 1) (by simp) id
  exact h.trans heap_new1

theorem inner_end {lo : Nat} {w3 w8 : World} {v8 : Value} {l : List Frm} (h : RowsO lo w8 33 4 (FrmR NoM w3) v8 l) (hb : Below w3.heap.size w3 w8) :
    ∃ a p, v8 = .slice a l.length p ∧ FrmsR NoM w8 (.slice a l.length p) l ∧ Below w3.heap.size w3 w8 := by
  have h' := h.imp (R' := FrmR NoM w8) fun x _ cs hc => FrmR.keep hc (.bel hb)
  obtain ⟨a, p, rfl, _⟩ := h'.shape
  exact ⟨a, p, rfl, h'.rows fun _ _ _ => id, hb⟩

theorem tape_below {T : Nat} {w0 w w' : World} (h : Below T w0 w) (hT : T ≤ w.heap.size) (k : Keep (At T) w w') : Below T w0 w' :=
  h.trans (k.toBelow hT fun k h e => by unfold At at e; omega)

set_option maxRecDepth 100000 in
set_option maxHeartbeats 8000000 in
theorem inner_any (v : Value) (w : World) (hv : IntsAt w v) (hn : NamesOk w.heap.size w) : Calls Tryd.prog 3 #[v] w (RetBel (.bool true) w) := by
  have HV := Lib.hid hv
  have HN := Lib.hid hn
  clear hv hn
  go_enter Tryd.func3, Tryd.ntmps3
  go_upto_region 4 with (first
    | (go_at_call 14; refine (new_any v w HV.out).mono ?_; rintro e w1 ⟨rfl, ht, hb⟩; have h1 := ht.lt; have HT1 := Lib.hid ht; have HB1 := Lib.hid hb; have HN1 := Lib.hid (HN.out.keep (M := fun _ => False) (.bel hb) fun _ _ => id); clear ht hb)
    | (go_at_call 15; refine (frames_any w.heap.size w1 HT1.out).mono ?_; rintro e w2 ⟨v2, rfl, ⟨r, b1, b2, hr0, hr1, hf⟩, ht, hk⟩; have h2 := hk.size; have HT2 := Lib.hid ht; have HN2 := Lib.hid (HN1.out.at hk); have HB2 := Lib.hid (tape_below HB1.out (Nat.le_of_lt h1) hk); have HL := Lib.hid (framesL_ne r b1 b2); have HL4 := Lib.hid (framesL_length r b1 b2); generalize framesL r b1 b2 = L at hf HL HL4; have HF2 := Lib.hid (hf.weak (M' := At w.heap.size) fun k hk h => by unfold At at h; unfold Out; omega); clear ht hk hf hr0 hr1)
    | (go_at_call 16; refine (anySchema_any w.heap.size w2 HT2.out HN2.out).mono ?_; rintro e w3 ⟨v3, rfl, ⟨s, vc, rfl, hs, hc⟩, ht, hk⟩; obtain ⟨ca, cc, rfl, _⟩ := hc.shape; have h3 := hk.size; have HB3 := Lib.hid (tape_below HB2.out (by omega) hk); have HS := Lib.hid hs; have HC3 := Lib.hid (hc.weak (M' := NoM) fun _ _ h => h.elim); have HF3 := Lib.hid ((HF2.out.keep hk).weak (M' := NoM) fun _ _ h => h.elim); clear ht hk hc hs))
  obtain ⟨a2, p2, rfl, _⟩ := HF3.out.shape
  go_cut [6] (fun c wx => ∃ a6 p6, c = .slice a6 (L ++ [frmX s.cols]).length p6 ∧ FrmsR NoM wx (.slice a6 (L ++ [frmX s.cols]).length p6) (L ++ [frmX s.cols]) ∧ Below w3.heap.size w3 wx ∧ wx.cell? ⟨w3.heap.size, 1, none⟩ = some (.slice ca s.cols.length cc))
  case first =>
    have tok1 : Hid True := trivial
    go_region_held3 (fun w' => w'.cell? ⟨w3.heap.size, 1, none⟩ = some (.slice ca s.cols.length cc))
      (go_keep)
      (first
        | ((have _t := tok1; refine step_app (α := Frm) (by rfl) _ _ _ (by rfl) 33 _ 4 72 Tryd.underlying25 infoFrame (by rfl) (by decide) (R := FrmR NoM w3) (M := NoM) (w3.heap.size + 1) (.slice (some ⟨w3.heap.size + 1, 0, none⟩) 0 0) (.slice a2 L.length p2) [] L (by rfl) (by rfl) (rowsO_empty (by first | exact heap_new1 | exact heap_mid | exact heap_new2) (by omega)) (rowsR_later HF3.out (.bel (by go_grown))) HL.out (fun y _ cs h => frmR_one _ y cs h) (by have := HL4.out; simp; omega) (by have := HL4.out; simp [maxLen]; omega) (by simp) ?_; intro v7 w7 ho hk _; have hS7 : w7.cell? ⟨w3.heap.size, 1, none⟩ = some (.slice ca s.cols.length cc) := ((hk.cell (by first | omega | (simp <;> omega)) (by simp [OwnB, Value.ownBlock] <;> omega)).trans (by first | assumption | (simp; done))); have hB7 : Below w3.heap.size w3 w7 := Below.trans (B := w3.heap.size) (by go_grown) (hk.toBelow (B := w3.heap.size) (by first | omega | (simp <;> omega)) (fun k hk h => by simp [OwnB, Value.ownBlock] at h; omega)); (first | have HX7 := Lib.hid ((hk.block (w3.heap.size + 1 + 1) (by simp <;> omega) (by simp [OwnB, Value.ownBlock] <;> omega)).trans (show _ = some (.cells #[.string ⟨#[120]⟩, .bool false, .slice ca s.cols.length cc, .slice none 0 0] 33 (0, 0)) by first | exact heap_mid | exact heap_new2 | exact heap_new1)) | skip); have HO7 := Lib.hid ho; have HB7 := Lib.hid hB7; have h7 : w3.heap.size + 1 ≤ w7.heap.size := (by have h := hk.size; simp at h; omega); clear ho hk hB7 tok1))
        | (have _t := tok1; refine step_app (α := Frm) (by rfl) _ _ _ (by rfl) 33 _ 4 72 Tryd.underlying25 infoFrame (by rfl) (by decide) (R := FrmR NoM w3) (M := NoM) (w3.heap.size + 1) (.slice (some ⟨w3.heap.size + 1 + 1, 0, none⟩) 0 0) (.slice a2 L.length p2) [] L (by rfl) (by rfl) (rowsO_empty (by first | exact heap_new1 | exact heap_mid | exact heap_new2) (by omega)) (rowsR_later HF3.out (.bel (by go_grown))) HL.out (fun y _ cs h => frmR_one _ y cs h) (by have := HL4.out; simp; omega) (by have := HL4.out; simp [maxLen]; omega) (by simp) ?_; intro v7 w7 ho hk _; have hS7 : w7.cell? ⟨w3.heap.size, 1, none⟩ = some (.slice ca s.cols.length cc) := ((hk.cell (by first | omega | (simp <;> omega)) (by simp [OwnB, Value.ownBlock] <;> omega)).trans (by first | assumption | (simp; done))); have hB7 : Below w3.heap.size w3 w7 := Below.trans (B := w3.heap.size) (by go_grown) (hk.toBelow (B := w3.heap.size) (by first | omega | (simp <;> omega)) (fun k hk h => by simp [OwnB, Value.ownBlock] at h; omega)); have HX7 := Lib.hid ((hk.block (w3.heap.size + 1) (by simp <;> omega) (by simp [OwnB, Value.ownBlock] <;> omega)).trans (show _ = some (.cells #[.string ⟨#[120]⟩, .bool false, .slice ca s.cols.length cc, .slice none 0 0] 33 (0, 0)) by first | exact heap_mid | exact heap_new2 | exact heap_new1)); have HO7 := Lib.hid ho; have HB7 := Lib.hid hB7; have h7 : w3.heap.size + 1 ≤ w7.heap.size := (by have h := hk.size; simp at h; omega); clear ho hk hB7 tok1)
        | (refine step_app (α := Frm) (by rfl) _ _ _ (by rfl) 33 _ 4 72 Tryd.underlying25 infoFrame (by rfl) (by decide) (R := FrmR NoM w3) (M := NoM) (w3.heap.size + 1) v7 (.slice (some ⟨w7.heap.size, 0, none⟩) 1 1) L [frmX s.cols] (by rfl) (by rfl) (RowsO.kept HO7.out ((Keep.refl (fun _ => False) w7).alloc _) (fun _ _ => id) fun _ _ _ h => h) (rows_one_at (arr := #[.string ⟨#[120]⟩, .bool false, .slice ca s.cols.length cc, .slice none 0 0]) (e := 33) (frmX s.cols) (heap_alloc_new w7 _) id rfl (frm_cells HC3.out)) (by simp) (fun y _ cs h => frmR_one _ y cs h) (by have := HL4.out; simp; omega) (by have := HL4.out; simp [maxLen]; omega) (by first | omega | (simp <;> omega)) ?_; intro v8 w8 ho hk _; have hS8 : w8.cell? ⟨w3.heap.size, 1, none⟩ = some (.slice ca s.cols.length cc) := ((hk.cell (by first | omega | (simp <;> omega)) (fun h => by have : w3.heap.size + 1 ≤ w3.heap.size := (RowsO.lt HO7.out h).1; omega)).trans (by first | exact hS7 | (rw [World.cell?_alloc_lt _ _ _ (show w3.heap.size < w7.heap.size by omega)]; exact hS7))); have HB8 : Hid (Below w3.heap.size w3 w8) := Lib.hid (Below.trans (B := w3.heap.size) (by first | exact HB7.out | exact HB7.out.alloc (by omega) _) (hk.toBelow (B := w3.heap.size) (by first | omega | (simp <;> omega)) (fun k hk h => by have := (RowsO.lt HO7.out h).1; omega))); have HO8 := Lib.hid ho; clear ho hk)
        | (refine step_app (α := Frm) (by rfl) _ _ _ (by rfl) 33 _ 4 72 Tryd.underlying25 infoFrame (by rfl) (by decide) (R := FrmR NoM w3) (M := NoM) (w3.heap.size + 1) v7 (.slice (some ⟨w3.heap.size + 1 + 1, 0, none⟩) 1 1) L [frmX s.cols] (by rfl) (by rfl) HO7.out (rows_one_at (frmX s.cols) HX7.out id rfl (frm_cells HC3.out)) (by simp) (fun y _ cs h => frmR_one _ y cs h) (by have := HL4.out; simp; omega) (by have := HL4.out; simp [maxLen]; omega) (by first | omega | (simp <;> omega)) ?_; intro v8 w8 ho hk _; have hS8 : w8.cell? ⟨w3.heap.size, 1, none⟩ = some (.slice ca s.cols.length cc) := ((hk.cell (by first | omega | (simp <;> omega)) (fun h => by have : w3.heap.size + 1 ≤ w3.heap.size := (RowsO.lt HO7.out h).1; omega)).trans (by first | exact hS7 | (rw [World.cell?_alloc_lt _ _ _ (show w3.heap.size < w7.heap.size by omega)]; exact hS7))); have HB8 : Hid (Below w3.heap.size w3 w8) := Lib.hid (Below.trans (B := w3.heap.size) (by first | exact HB7.out | exact HB7.out.alloc (by omega) _) (hk.toBelow (B := w3.heap.size) (by first | omega | (simp <;> omega)) (fun k hk h => by have := (RowsO.lt HO7.out h).1; omega))); have HO8 := Lib.hid ho; clear ho hk)
        | (refine step_app (α := Frm) (by rfl) _ _ _ (by rfl) 33 _ 4 72 Tryd.underlying25 infoFrame (by rfl) (by decide) (R := FrmR NoM w3) (M := NoM) (w3.heap.size + 1) v7 (.slice (some ⟨w3.heap.size + 1, 0, none⟩) 1 1) L [frmX s.cols] (by rfl) (by rfl) HO7.out (rows_one_at (frmX s.cols) HX7.out id rfl (frm_cells HC3.out)) (by simp) (fun y _ cs h => frmR_one _ y cs h) (by have := HL4.out; simp; omega) (by have := HL4.out; simp [maxLen]; omega) (by first | omega | (simp <;> omega)) ?_; intro v8 w8 ho hk _; have hS8 : w8.cell? ⟨w3.heap.size, 1, none⟩ = some (.slice ca s.cols.length cc) := ((hk.cell (by first | omega | (simp <;> omega)) (fun h => by have : w3.heap.size + 1 ≤ w3.heap.size := (RowsO.lt HO7.out h).1; omega)).trans (by first | exact hS7 | (rw [World.cell?_alloc_lt _ _ _ (show w3.heap.size < w7.heap.size by omega)]; exact hS7))); have HB8 : Hid (Below w3.heap.size w3 w8) := Lib.hid (Below.trans (B := w3.heap.size) (by first | exact HB7.out | exact HB7.out.alloc (by omega) _) (hk.toBelow (B := w3.heap.size) (by first | omega | (simp <;> omega)) (fun k hk h => by have := (RowsO.lt HO7.out h).1; omega))); have HO8 := Lib.hid ho; clear ho hk))
    all_goals
      have FIN := Lib.hid (inner_end HO8.out HB8.out)
      obtain ⟨a8, p8, rfl, hf8, hb8⟩ := FIN.out
      have HF8 := Lib.hid hf8
      have HS8 := Lib.hid hS8
      clear hf8 hS8 hS7 HO8 HO7 HB7
      go_wp2_with fail
      go_meet
      exact ⟨a8, p8, rfl, HF8.out, hb8, HS8.out⟩
  case rest =>
    obtain ⟨a6, p6, rfl, hf, hb, hs1⟩ := hcut
    have HC := Lib.hid (HC3.out.keep (.bel hb))
    have HB := Lib.hid (HB3.out.trans (hb.mono (by omega : w.heap.size ≤ w3.heap.size)))
    rcases RowsR.open hf with ⟨_, h⟩ | ⟨b6, o6, cap6, hv6, _, hb6, hle6, hm6, _⟩
    · simp at h
    simp only [Value.slice.injEq] at hv6
    obtain ⟨rfl, _, rfl⟩ := hv6
    have HFL := Lib.hid (HF3.out.keep (.bel hb))
    simp only [List.length_append, List.length_singleton] at hf
    have HF := Lib.hid hf
    clear hf hb HC3 HF3 HB3 HF2 HB2 HB1 HT2 HT1 HN2 HN1
    simp only [List.length_append, List.length_singleton] at hle6 ⊢
    unfold maxLen at hm6
    have hn5 : s.cols.length ≤ 5 := HS.out.2.2.1
    go_wp2
    go_loopw [40] (fun i wr => ∃ j : Nat, j ≤ s.cols.length ∧ i = .int .i64 j ∧ Below wc.heap.size wc wr) (fun i _ => s.cols.length - (intOf i).toNat)
    case atStart => exact ⟨0, Nat.zero_le _, rfl, Below.refl _ _⟩
    case round =>
      obtain ⟨j, hj, rfl, hbel⟩ := hrel
      by_cases hlt : j < s.cols.length
      · rcases RowsR.open HC.out with ⟨h, h'⟩ | ⟨b', o', cap', hv', hbT, hbs, hl, hm', hx⟩
        · rw [h'] at hlt; simp at hlt
        · simp only [Value.slice.injEq] at hv'
          obtain ⟨rfl, _, rfl⟩ := hv'
          have hxj : s.cols[j]? = some s.cols[j] := List.getElem?_eq_getElem hlt
          obtain ⟨cs, rfl, _, hcs⟩ := hx j _ hxj
          generalize s.cols[j] = c at hxj hcs
          have hcs' := hcs.keep (M := NoM) (.bel hbel) id
          obtain ⟨c0, c1, c2, c3⟩ := hcs'.c4
          have HX := Lib.hid hxj
          have HBL := Lib.hid hbel
          have HFb := Lib.hid (fun (w' : World) (h : Below wc.heap.size wc w') => RowsR.map (R' := FrmR NoM w') HF.out (.bel h) fun x _ cs hc => FrmR.keep hc (.bel h))
          have HX2 := Lib.hid (fun (w' : World) (h : Below wc.heap.size wc w') => show FrmsR NoM w' (.slice (some ⟨b6, o6 + L.length * 4, none⟩) 1 (p6 - L.length)) [frmX s.cols] by
            have h2 := RowsR.drop (HFb.out w' h) L.length (Nat.le_succ _)
            rw [Nat.add_sub_cancel_left, List.drop_left] at h2
            exact h2)
          have tok1 : Hid True := trivial
          clear hx hcs hcs' hxj hbel
          go_wp2_with (go_at_call 17; have _t := tok1; go_loud (refine (callR _ (L ++ [frmX s.cols]) _ _ L.length j _ (HFb.out _ (HBL.out.alloc HBL.out.size _)) (res_bare HS.out L j c HX.out)).mono ?_; rintro e w4 ⟨rfl, hb4⟩; have hS4 : w4.cell? ⟨wr.heap.size, 0, none⟩ = some (.string c.name) := (hb4.cell (by simp)).trans (by simp); have hS4d : Hid (w4.drew.cell? ⟨wr.heap.size, 0, none⟩ = some (.string c.name)) := hS4; have k4 : wr.heap.size < w4.heap.size := (by have := hb4.size; simp at this; omega); have HB4 := Lib.hid (bel_trans (HBL.out.alloc HBL.out.size _) hb4); clear hb4 tok1))
          have i1 : (0 : Int) ≤ (L.length : Int) := by omega
          have i2 : (L.length : Int) ≤ (L.length : Int) + 1 := by omega
          have i3 : (L.length : Int) + 1 ≤ (p6 : Int) := by omega
          have HCALL := Lib.hid (callR (M := NoM) (.slice (some ⟨b6, o6 + L.length * 4, none⟩) 1 (p6 - L.length)) [frmX s.cols] ⟨#[120]⟩ c.name 0 j w4.drew (HX2.out _ (drew_below HB4.out)) (res_x HS.out j c HX.out))
          have HB4d := Lib.hid (drew_below HB4.out)
          have HK4d : Hid (wr.heap.size < w4.drew.heap.size) := Lib.hid k4
          have hq := fun (w5 : World) (h : Below w4.drew.heap.size w4.drew w5) => (h.cell (p := ⟨wr.heap.size, 0, none⟩) HK4d.out).trans hS4d.out
          have HQ := Lib.hid hq
          clear hq
          have i4 : ¬ p6 = L.length := by omega
          go_cut [12, 13, 14] (fun c1 c2 c3 wx => c1 = .int .i64 0 ∧ c2 = .int .i64 j ∧ c3 = .bool true ∧ Below wc.heap.size wc wx)
          case first =>
            go_region_held3 (fun w' => w'.cell? ⟨wr.heap.size, 0, none⟩ = some (.string c.name)) (first | with_reducible exact hS5 | with_reducible exact hS4d.out | fail)
              ((go_at_call 17; have hc := HCALL.out; refine Calls.mono (R := RetBel _ _) (by with_reducible exact hc) ?_; clear hc; rintro e w5 ⟨rfl, hb5⟩; have hS5 := HQ.out _ hb5; have HB5 := Lib.hid (bel_trans HB4d.out hb5); clear hb5))
            go_wp2_with fail
            go_meet
            exact ⟨rfl, rfl, rfl, HB5.out⟩
          case rest =>
            obtain ⟨rfl, rfl, rfl, hb5⟩ := hcut
            have HB5 := Lib.hid hb5
            clear hb5
            go_wp2_with fail
            go_roundw
            case rel => exact ⟨j + 1, by omega, by go_num, HB5.out⟩
            case measure => simp [intOf]; omega
      · have hcols := run_cols
        have HBL := Lib.hid hbel
        clear hbel
        go_wp2_with (go_at_call 18; refine (schema_t _).mono ?_; rintro e w6 ⟨vc, rfl, hc, hb6'⟩; obtain ⟨a7, p7, rfl, _⟩ := hc.shape; have HC7 := Lib.hid (hc.weak (M' := NoM) fun _ _ h => h.elim); have HB6 := Lib.hid (bel_trans HBL.out hb6'); clear hc hb6')
        go_loopw [94] (fun i wx => ∃ j : Nat, j ≤ schT.cols.length ∧ i = .int .i64 j ∧ Below wc.heap.size wc wx ∧ Below w6.heap.size w6 wx) (fun i _ => schT.cols.length - (intOf i).toNat)
        case atStart => exact ⟨0, Nat.zero_le _, rfl, HB6.out, Below.refl _ _⟩
        case round =>
          obtain ⟨j, hj, rfl, hbx, hby⟩ := hrel
          by_cases hlt2 : j < schT.cols.length
          · rcases RowsR.open HC7.out with ⟨h, h'⟩ | ⟨b', o', cap', hv', hbT, hbs, hl, hm', hx⟩
            · rw [h'] at hlt2; simp at hlt2
            · simp only [Value.slice.injEq] at hv'
              obtain ⟨rfl, _, rfl⟩ := hv'
              have hxj : schT.cols[j]? = some schT.cols[j] := List.getElem?_eq_getElem hlt2
              obtain ⟨cs, rfl, _, hcs⟩ := hx j _ hxj
              generalize schT.cols[j] = c at hxj hcs
              have hcs' := hcs.keep (M := NoM) (.bel hby) id
              obtain ⟨c0, c1, c2, c3⟩ := hcs'.c4
              have HBX := Lib.hid hbx
              have HBY := Lib.hid hby
              have HFb := Lib.hid (fun (w' : World) (h : Below wc.heap.size wc w') => RowsR.map (R' := FrmR NoM w') HF.out (.bel h) fun x _ cs hc => FrmR.keep hc (.bel h))
              have HLb := Lib.hid (fun (w' : World) (h : Below wc.heap.size wc w') => RowsR.map (R' := FrmR NoM w') HFL.out (.bel h) fun x _ cs hc => FrmR.keep hc (.bel h))
              have hn4 : schT.cols.length = 4 := rfl
              clear hx hcs hcs' hxj hbx hby
              have hA := fun (w' : World) (h : Below wc.heap.size wc w') => resolve_any _ _ ⟨#[78, 69, 87]⟩ c.name w' (HFb.out w' h)
              have hB := fun (w' : World) (h : Below wc.heap.size wc w') => resolve_any _ _ ⟨#[78, 69, 87]⟩ c.name w' (HLb.out w' h)
              simp only [res_new] at hA
              have tok2 : Hid True := trivial
              rcases hr : resolve ⟨#[78, 69, 87]⟩ c.name L with _ | ⟨ri, rk⟩
              all_goals
                rw [hr] at hA hB
                simp only [resV] at hA hB
                have HA := Lib.hid hA
                have HBB := Lib.hid hB
                clear hA hB hr
                go_wp2_with (first
                  | (go_at_call 17; have _t := tok2; go_loud (refine (HA.out _ (HBX.out.alloc HBX.out.size _)).mono ?_; rintro e w7 ⟨rfl, hb7⟩; obtain ⟨k1, k2, k3⟩ := bcell hb7; simp only [World.size_alloc] at k1 k2 k3; have k4 : wr.heap.size < w7.heap.size := (by omega); have HB7 := Lib.hid (bel_trans (HBX.out.alloc HBX.out.size _) hb7); have HY7 := Lib.hid (bel_trans (HBY.out.alloc HBY.out.size _) hb7); clear hb7 tok2))
                  | (go_at_call 17; go_loud (refine (HBB.out _ HB7.out).mono ?_; rintro e w8 ⟨rfl, hb8⟩; have HB8 := Lib.hid (bel_trans HB7.out hb8); have HY8 := Lib.hid (bel_trans HY7.out hb8); clear hb8)))
                go_roundw
                case rel =>
                  clear HFb HLb HA HBB HC7 HF HFL HC HS
                  (repeat apply Exists.intro)
                  exact ⟨⟨j + 1, by omega, by go_num, HB8.out, HY8.out⟩, rfl⟩
                case measure => simp [intOf]; omega
          · have HBX := Lib.hid hbx
            clear hbx
            go_wp2_with (go_at_call 19; refine (known14_any _).mono ?_; rintro e w9 ⟨rfl, hb9⟩; have HB9 := Lib.hid (bel_trans HBX.out hb9); clear hb9)
            go_ret
            exact ⟨rfl, HB.out.trans (HB9.out.mono HB.out.size)⟩

end Go.Proofs.YtiheioajnfggmaaDoor
