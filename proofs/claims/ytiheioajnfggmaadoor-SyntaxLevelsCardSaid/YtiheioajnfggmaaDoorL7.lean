/- The walk of SyntaxLevels. -/
import Derived.Test.YtiheioajnfggmaaDoorKN3
import Derived.Test.YtiheioajnfggmaaDoorKA
import Derived.Test.YtiheioajnfggmaaDoorKC4
namespace Go.Proofs.YtiheioajnfggmaaDoor
open Go.RowKit

theorem any_len {n : Nat} {e : Ex} (h : AnyX n e) : ∀ q ∈ e.sub, q.items.length ≤ 1 ∧ q.whr.length ≤ 1 := by
  cases h with
  | col => intro a ha; cases ha
  | lit => intro a ha; cases ha
  | ops => intro a ha; cases ha
  | sub n k f items whr hf hi hw h1 h2 =>
    intro q hq
    obtain rfl : q = .mk (k == 8) items f whr := List.mem_singleton.1 hq
    refine ⟨?_, hw⟩
    rcases hi with ⟨_, rfl⟩ | ⟨_, h⟩
    · exact Nat.zero_le _
    · exact Nat.le_of_eq h

set_option maxRecDepth 100000 in
set_option maxHeartbeats 40000000 in
theorem syntaxLevels_any (v : Value) (w : World) (hv : IntsAt w v) (hn : NamesOk w.heap.size w) (hw : WordsOk w.heap.size w) : Calls Tryd.prog 7 #[v] w (RetBel (.bool true) w) := by
  have HV := Lib.hid hv
  have HN := Lib.hid hn
  have HW := Lib.hid hw
  clear hv hn hw
  go_enter Tryd.func7, Tryd.ntmps7
  go_wp2_with fail
  refine (new_any v w HV.out).mono ?_
  rintro e w1 ⟨rfl, ht, hb⟩
  have h1 := ht.lt
  have HT1 := Lib.hid ht
  have HB1 := Lib.hid hb
  have HN1 := Lib.hid (HN.out.keep (M := fun _ => False) (.bel hb) fun _ _ => id)
  have HW1 := Lib.hid (HW.out.keep (M := fun _ => False) (.bel hb) fun _ _ => id)
  clear ht hb
  dsimp only
  go_wp2_with fail
  refine (any_ok 4 (by omega) w.heap.size 4 w1 (by omega) (by omega) HT1.out HN1.out HW1.out).mono ?_
  rintro e w2 ⟨v2, rfl, ⟨x, hx, hany⟩, ht, hk⟩
  have HB2 := Lib.hid (tape_below HB1.out (by omega) hk)
  have z2 := hk.size
  have hx0 := hx
  obtain ⟨a1, ac1, s1, sc1, rfl, ha, hs⟩ := hx0
  have hec := exv_cells hx
  have HX := Lib.hid hx
  have HEC := Lib.hid hec
  have HA := Lib.hid ha
  have HS := Lib.hid hs
  have HANY := Lib.hid hany
  clear ht hk hx hany hec ha hs HV HN HW HT1 HN1 HW1
  dsimp only
  go_upto_region 3 with fail
  generalize hW3 : w2.alloc _ = W3
  have hp : W3.heap[w2.heap.size]? = some (.cells #[.int .i64 x.kind, .int .i64 x.op, .bool x.no, .int .i64 x.val.kind, .int .i64 x.val.int, .string x.val.text, .string x.table, .string x.name, .slice a1 x.args.length ac1, .slice s1 x.sub.length sc1] 52 (0, 0)) := by rw [← hW3]; exact heap_alloc_new w2 _
  have hk3 : Keep (fun _ => False) w2 W3 := by rw [← hW3]; exact (Keep.refl _ w2).alloc _
  have hb3 : Below w.heap.size w W3 := by rw [← hW3]; exact HB2.out.alloc (by have := HB2.out.size; omega) _
  have HB3 := Lib.hid hb3
  have HP := Lib.hid hp
  have HX3 := Lib.hid (HX.out.keep (hk3.weak fun _ _ h => h.elim))
  have HA3 := Lib.hid (ExsR.keep HA.out (hk3.weak fun _ _ h => h.elim))
  have HS3 := Lib.hid (QusR.keep HS.out (hk3.weak fun _ _ h => h.elim))
  have hz3 : w2.heap.size < W3.heap.size := (Array.getElem?_eq_some_iff.1 hp).1
  have hl8 := any_levels HANY.out
  have HAR := Lib.hid (any_args HANY.out)
  have HSU := Lib.hid (any_sub HANY.out)
  have HLE := Lib.hid (any_len HANY.out)
  have HLN := Lib.hid (lev_not x)
  obtain ⟨x0, x1, x2, x3, x4, x5, x6, x7, x8, x9, xf, _⟩ := blk10 HP.out
  obtain ⟨_, _, _, hal⟩ := HA3.out.shape
  obtain ⟨_, _, _, hsl⟩ := HS3.out.shape
  unfold maxLen at hal hsl
  clear hW3 hp hk3 hb3 HX HEC HA HS HANY HB1 HB2
  go_wp2_with fail
  have HLV := Lib.hid (levels_v HX3.out (by omega))
  generalize levP x = n at HLV HAR HSU HLN hl8
  have HQ := Lib.hid (fun (wx : World) (hb : Below W3.heap.size W3 wx) => blk10 ((hb.block _ hz3).trans HP.out))
  clear x0 x1 x2 x3 x4 x5 x6 x7 x8 x9 xf
  refine HLV.out.mono ?_
  rintro e w4 ⟨rfl, hb⟩
  have HB4 := Lib.hid hb
  clear hb
  obtain ⟨x0, x1, x2, x3, x4, x5, x6, x7, x8, x9, xf, xz⟩ := HQ.out _ HB4.out
  dsimp only
  go_wp2_with fail
  clear x0 x1 x2 x3 x4 x5 x6 x7 x8 x9 xf xz
  go_loopw [24] (fun i wr => ∃ j : Nat, j ≤ x.args.length ∧ i = .int .i64 j ∧ Below W3.heap.size W3 wr) (fun i _ => x.args.length - (intOf i).toNat)
  case atStart => exact ⟨0, Nat.zero_le _, rfl, HB4.out⟩
  case round =>
    rename World => wr
    obtain ⟨j, hj, rfl, hbel⟩ := hrel
    have HBE := Lib.hid hbel
    clear hbel
    by_cases hlt : j < x.args.length
    · rcases HA3.out.open with ⟨_, h⟩ | ⟨ab, ao, cap', hv', _, hab, _, _, hx⟩
      · rw [h] at hlt; simp at hlt
      simp only [Value.slice.injEq] at hv'
      obtain ⟨rfl, _, rfl⟩ := hv'
      have hxj : x.args[j]? = some x.args[j] := List.getElem?_eq_getElem hlt
      obtain ⟨cs, hc, _, hcs⟩ := hx j _ hxj
      have hmem := List.mem_of_getElem? hxj
      obtain ⟨har1, har2⟩ := HAR.out _ hmem
      generalize x.args[j] = y at hxj hc hmem har1 har2
      have hcs' := hcs.keep (M := NoM) (Keep.bel HBE.out) id
      have hlx := fun wx (k : Below W3.heap.size W3 wx) => levels_any y cs wx (EC.keep (.bel k) y cs hc) (by omega)
      obtain ⟨va, vs, rfl, hva, hvs⟩ := (EC_iff ..).1 hc
      obtain ⟨ya, yac, rfl, _⟩ := hva.shape
      obtain ⟨ys, ysc, rfl, _⟩ := hvs.shape
      obtain ⟨c0, c1, c2, c3, c4, c5, c6, c7, c8, c9⟩ := CellsAt.c10 hcs'
      simp only [exCells] at hlx
      have HLX := Lib.hid hlx
      have HLT := Lib.hid hlt
      have i0 : (0 : Int) ≤ (j : Int) := by omega
      have i1 : (j : Int) < (x.args.length : Int) := by omega
      clear hlx hx hc hcs hcs' hva hvs hxj hmem
      go_wp2_with fail
      refine (HLX.out _ (HBE.out.alloc HBE.out.size _)).mono ?_
      rintro e w5 ⟨rfl, hb⟩
      have HB5 := Lib.hid ((HBE.out.alloc HBE.out.size _).trans (hb.mono (by have := HBE.out.size; simp; omega)))
      clear hb c0 c1 c2 c3 c4 c5 c6 c7 c8 c9
      obtain ⟨x0, x1, x2, x3, x4, x5, x6, x7, x8, x9, xf, xz⟩ := HQ.out _ HB5.out
      generalize levP y = m at har1 har2
      have m1 : ¬ (n : Int) < (m : Int) := by omega
      dsimp only
      by_cases hk3 : x.kind = 3
      · have m2 : ¬ (n : Int) ≤ (m : Int) := by have := har2 hk3; omega
        have k3 : (x.kind == 3) = true := by simpa using hk3
        clear har1 har2 hk3
        go_wp2_with fail
        go_roundw
        case rel =>
          have hlt2 := HLT.out
          exact ⟨j + 1, by omega, by go_num, HB5.out⟩
        case measure =>
          have hlt2 := HLT.out
          simp [intOf]
          omega
      · have k3 : (x.kind == 3) = false := by simpa using hk3
        clear har1 har2 hk3
        go_wp2_with fail
        go_roundw
        case rel =>
          have hlt2 := HLT.out
          exact ⟨j + 1, by omega, by go_num, HB5.out⟩
        case measure =>
          have hlt2 := HLT.out
          simp [intOf]
          omega
    · obtain ⟨x0, x1, x2, x3, x4, x5, x6, x7, x8, x9, xf, xz⟩ := HQ.out _ HBE.out
      go_wp2_with fail
      clear x0 x1 x2 x3 x4 x5 x6 x7 x8 x9 xf xz
      have HB6 := Lib.hid HBE.out
      clear HB4 HBE
      go_loopw [47] (fun i wq => ∃ j : Nat, j ≤ x.sub.length ∧ i = .int .i64 j ∧ Below W3.heap.size W3 wq) (fun i _ => x.sub.length - (intOf i).toNat)
      case atStart => exact ⟨0, Nat.zero_le _, rfl, HB6.out⟩
      case round =>
        rename World => wq
        obtain ⟨j, hj, rfl, hbel⟩ := hrel
        have HBE := Lib.hid hbel
        clear hbel
        by_cases hlt : j < x.sub.length
        · rcases HS3.out.open with ⟨_, h⟩ | ⟨ab, ao, cap', hv', _, hab, _, _, hx⟩
          · rw [h] at hlt; simp at hlt
          simp only [Value.slice.injEq] at hv'
          obtain ⟨rfl, _, rfl⟩ := hv'
          have hxj : x.sub[j]? = some x.sub[j] := List.getElem?_eq_getElem hlt
          obtain ⟨cs, hc, _, hcs⟩ := hx j _ hxj
          have hmem := List.mem_of_getElem? hxj
          have hsu := HSU.out _ hmem
          obtain ⟨hl1, hl2⟩ := HLE.out _ hmem
          generalize x.sub[j] = q at hxj hc hmem hsu hl1 hl2
          have hcs' := hcs.keep (M := NoM) (Keep.bel HBE.out) id
          obtain ⟨vi', vw, rfl, hvi, hvw⟩ := (QC_iff ..).1 hc
          obtain ⟨ia, iac, rfl, hil⟩ := hvi.shape
          obtain ⟨wa, wac, rfl, hwl⟩ := hvw.shape
          obtain ⟨c0, c1, c2, c3⟩ := hcs'.c4
          have HI := Lib.hid hvi
          have HWH := Lib.hid hvw
          have HSQ := Lib.hid hsu
          have HLT := Lib.hid hlt
          have i0 : (0 : Int) ≤ (j : Int) := by omega
          have i1 : (j : Int) < (x.sub.length : Int) := by omega
          clear hx hc hcs hcs' hvi hvw hxj hmem hsu
          go_upto_region 14 with fail
          generalize hW7 : wq.alloc _ = W7
          have hq7 := blk4 (show W7.heap[wq.heap.size]? = some (.cells #[.bool q.star, .slice ia q.items.length iac, .string q.frm, .slice wa q.whr.length wac] 72 (0, 0)) by rw [← hW7]; exact heap_alloc_new wq _)
          have hb7 : Below W3.heap.size W3 W7 := by rw [← hW7]; exact HBE.out.alloc HBE.out.size _
          have HB7 := Lib.hid hb7
          obtain ⟨d0, d1, d2, d3, _, _, dz⟩ := hq7
          have HI7 : Hid (RowsR (Old w1.heap.size) W7 10 (EC (Old w1.heap.size) W7) (.slice ia q.items.length iac) q.items) := Lib.hid (ExsR.keep HI.out (.bel hb7))
          have HW7 : Hid (RowsR (Old w1.heap.size) W7 10 (EC (Old w1.heap.size) W7) (.slice wa q.whr.length wac) q.whr) := Lib.hid (ExsR.keep HWH.out (.bel hb7))
          clear hW7 hb7 c0 c1 c2 c3
          go_cut [57, 58, 59] (fun v l i wx => ∃ a c nn, nn = (q.items ++ q.whr).length ∧ v = .slice a nn c ∧ l = .int .i64 nn ∧ i = .int .i64 0 ∧ Below W3.heap.size W3 wx ∧ RowsR (fun _ => False) wx 10 (EC (Old w1.heap.size) wx) v (q.items ++ q.whr))
          case first =>
            have HK := Lib.hid (fun (wx : World) (k : Keep (fun k => W7.heap.size ≤ k) W7 wx) => (show wx.cell? ⟨wq.heap.size, 1, none⟩ = some (.slice ia q.items.length iac) ∧ wx.cell? ⟨wq.heap.size, 3, none⟩ = some (.slice wa q.whr.length wac) from
              ⟨(k.cell dz (fun h => by omega)).trans d1, (k.cell dz (fun h => by omega)).trans d3⟩))
            refine wp_region_noPanic ?_
            refine wp_region_held_drew (S := fun w' => w'.cell? ⟨wq.heap.size, 1, none⟩ = some (.slice ia q.items.length iac) ∧ w'.cell? ⟨wq.heap.size, 3, none⟩ = some (.slice wa q.whr.length wac)) (by kernel_rfl) ⟨d1, d3⟩ (fun hHeld => ?_)
            refine wpAnyH_take (i := 1) (v := _) rfl (by kernel_rfl) (by kernel_rfl) (by kernel_rfl) (fun _ _ _ h => h) (Or.inl ⟨by rfl, by (intro w hSw; (try dsimp only at hSw); go_simp; (try with_reducible rfl))⟩) (by assumption) ?_
            simp only [Act.put, List.getElem_toArray, List.getElem_cons_succ, List.getElem_cons_zero, List.setIfInBounds_toArray, List.set_cons_zero, List.set_cons_succ]
            refine wpAnyH_take (i := 2) (v := _) rfl (by kernel_rfl) (by kernel_rfl) (by kernel_rfl) (fun _ _ _ h => h) (Or.inl ⟨by rfl, by (intro w hSw; (try dsimp only at hSw); go_simp; (try with_reducible rfl))⟩) (by assumption) ?_
            simp only [Act.put, List.getElem_toArray, List.getElem_cons_succ, List.getElem_cons_zero, List.setIfInBounds_toArray, List.set_cons_zero, List.set_cons_succ]
            refine wpAnyH_take (i := 4) (v := _) rfl (by kernel_rfl) (by kernel_rfl) (by kernel_rfl) (fun _ _ _ h => h) (Or.inl ⟨by rfl, by (intro w hSw; (try dsimp only at hSw); go_simp; (try with_reducible rfl))⟩) (by assumption) ?_
            simp only [Act.put, List.getElem_toArray, List.getElem_cons_succ, List.getElem_cons_zero, List.setIfInBounds_toArray, List.set_cons_zero, List.set_cons_succ]
            refine wpAnyH_take (i := 5) (v := _) rfl (by kernel_rfl) (by kernel_rfl) (by kernel_rfl) (fun _ _ _ h => h) (Or.inl ⟨by rfl, by (intro w hSw; (try dsimp only at hSw); go_simp; (try with_reducible rfl))⟩) (by assumption) ?_
            simp only [Act.put, List.getElem_toArray, List.getElem_cons_succ, List.getElem_cons_zero, List.setIfInBounds_toArray, List.set_cons_zero, List.set_cons_succ]
            refine wpAnyH_take (i := 8) (v := _) rfl (by kernel_rfl) (by kernel_rfl) (by kernel_rfl) (fun _ _ _ h => h) (Or.inl ⟨by rfl, by (intro w hSw; (try dsimp only at hSw); go_simp; (try with_reducible rfl))⟩) (by assumption) ?_
            simp only [Act.put, List.getElem_toArray, List.getElem_cons_succ, List.getElem_cons_zero, List.setIfInBounds_toArray, List.set_cons_zero, List.set_cons_succ]
            refine wpAnyH_ready (rs := [0]) (by kernel_rfl) (by simp) ?_
            refine AllReadyH.cons (o := _) rfl (fun K hK => ?_) AllReadyH.nil
            go_simp
            have k8 : Keep (fun k => W7.heap.size ≤ k) W7 ((W7.alloc (.cells #[] 52)).drew) := ((Keep.refl _ W7).alloc _).drew
            have h8 : ((W7.alloc (.cells #[] 52)).drew).heap[W7.heap.size]? = some (.cells #[] 52 (0, 0)) := heap_alloc_new W7 _
            have z8 : W7.heap.size < ((W7.alloc (.cells #[] 52)).drew).heap.size := (Array.getElem?_eq_some_iff.1 h8).1
            generalize (W7.alloc (.cells #[] 52)).drew = W8 at *
            refine hK.out _ _ (HK.out _ k8) (fun hHeld => ?_)
            clear hK K
            refine wpAnyH_ready (rs := [3]) (by kernel_rfl) (by simp) ?_
            refine AllReadyH.cons (o := _) rfl (fun K hK => ?_) AllReadyH.nil
            refine step_app0 (by rfl) _ _ _ (by rfl) 52 _ 10 136 Tryd.underlying49 infoExpr (by rfl) (by decide) (R := EC (Old w1.heap.size) W7) (M := Old w1.heap.size) W7.heap.size (.slice (some ⟨W7.heap.size, 0, none⟩) 0 0) (.slice ia q.items.length iac) [] q.items (by rfl) (by rfl) (rowsO_empty h8 (Nat.le_refl _)) (RowsR.map HI7.out (k8.weak fun k hk h => absurd hk (by omega)) fun _ _ _ h => h) (fun y _ cs h => exStable.one h) (by simp; omega) (by simp [maxLen]; omega) (by omega) ?_
            intro v9 w9 ho9 hk9
            have ho9' : RowsO W7.heap.size w9 52 10 (EC (Old w1.heap.size) W7) v9 q.items := by simpa using ho9
            have k9 : Keep (fun k => W7.heap.size ≤ k) W7 w9 := k8.then hk9 fun k hk h => by
              have h7 : W7.heap.size = k := by simpa [OwnB, Value.ownBlock] using h
              omega
            refine hK.out _ _ (HK.out _ k9) (fun hHeld => ?_)
            clear hK K ho9 hk9 h8 k8
            simp only [Act.put, List.getElem_toArray, List.getElem_cons_succ, List.getElem_cons_zero, List.setIfInBounds_toArray, List.set_cons_zero, List.set_cons_succ]
            refine wpAnyH_ready (rs := [6]) (by kernel_rfl) (by simp) ?_
            refine AllReadyH.cons (o := _) rfl (fun K hK => ?_) AllReadyH.nil
            refine step_app0 (by rfl) _ _ _ (by rfl) 52 _ 10 136 Tryd.underlying49 infoExpr (by rfl) (by decide) (R := EC (Old w1.heap.size) W7) (M := Old w1.heap.size) W7.heap.size v9 (.slice wa q.whr.length wac) q.items q.whr (by rfl) (by rfl) ho9' (RowsR.map HW7.out (k9.weak fun k hk h => absurd hk (by omega)) fun _ _ _ h => h) (fun y _ cs h => exStable.one h) (by omega) (by simp [maxLen]; omega) (by have := k9.size; omega) ?_
            intro v10 w10 ho10 hk10
            have k10 : Keep (fun k => W7.heap.size ≤ k) W7 w10 := k9.then hk10 fun k hk h => by have := (RowsO.lt ho9' h).1; omega
            have hr10 : RowsR (fun _ => False) w10 10 (EC (Old w1.heap.size) W7) v10 (q.items ++ q.whr) := ho10.rows fun _ _ _ => id
            obtain ⟨a10, c10, hv10, _⟩ := hr10.shape
            obtain ⟨nn, hnn⟩ : ∃ nn, nn = (q.items ++ q.whr).length := ⟨_, rfl⟩
            rw [← hnn] at hv10
            subst hv10
            have HR10 := Lib.hid hr10
            have HNN := Lib.hid hnn
            have K10 := Lib.hid k10
            refine hK.out _ _ (HK.out _ k10) (fun hHeld => ?_)
            clear hK K ho10 hk10 ho9' k9 hr10 hnn k10
            simp only [Act.put, List.getElem_toArray, List.getElem_cons_succ, List.getElem_cons_zero, List.setIfInBounds_toArray, List.set_cons_zero, List.set_cons_succ]
            refine wpAnyH_take (i := 7) (v := _) rfl (by kernel_rfl) (by kernel_rfl) (by kernel_rfl) (fun _ _ _ h => h) (Or.inl ⟨by rfl, by (intro w hSw; (try dsimp only at hSw); go_simp; (try with_reducible rfl))⟩) (by assumption) ?_
            simp only [Act.put, List.getElem_toArray, List.getElem_cons_succ, List.getElem_cons_zero, List.setIfInBounds_toArray, List.set_cons_zero, List.set_cons_succ]
            refine wpAnyH_done (by kernel_rfl) ?_ _
            refine NoPanic.normal ?_
            go_wp2_with fail
            go_meet
            exact ⟨a10, c10, nn, HNN.out, rfl, rfl, rfl, HB7.out.trans (K10.out.toBelow HB7.out.size fun k hk h => by have := HB7.out.size; omega), RowsR.map HR10.out (Keep.refl _ _) fun x _ cs h => EC.keep (K10.out.weak fun k hk h => absurd hk (by omega)) x cs h⟩
          case rest =>
            obtain ⟨a10, c10, nn, hnn, rfl, rfl, rfl, hbc, hrows⟩ := hcut
            have HBC := Lib.hid hbc
            have HRW := Lib.hid hrows
            have hsq := HSQ.out
            generalize q.items ++ q.whr = l at hnn hrows HRW hsq
            have hlm : l.length ≤ 9223372036854775807 := by obtain ⟨_, _, _, h⟩ := hrows.shape; simpa [maxLen] using h
            subst hnn
            have HSL := Lib.hid hsq
            clear hbc hrows hsq HI HWH HSQ HI7 HW7 HB7 d0 d1 d2 d3 dz hl1 hl2 hil hwl
            go_wp2_with fail
            go_loopw [59] (fun i wi => ∃ j2 : Nat, j2 ≤ l.length ∧ i = .int .i64 j2 ∧ Below wc.heap.size wc wi) (fun i _ => l.length - (intOf i).toNat)
            case atStart => exact ⟨0, Nat.zero_le _, rfl, Below.refl _ _⟩
            case round =>
              rename World => wi
              obtain ⟨j2, hj2, rfl, hbi⟩ := hrel
              have HBI := Lib.hid hbi
              have HBJ := Lib.hid (HBC.out.trans (hbi.mono HBC.out.size))
              clear hbi
              by_cases hlt2 : j2 < l.length
              · rcases HRW.out.open with ⟨_, h⟩ | ⟨bb, bo, cap2, hv2, _, hbb, _, _, hx⟩
                · rw [h] at hlt2; simp at hlt2
                simp only [Value.slice.injEq] at hv2
                obtain ⟨rfl, _, rfl⟩ := hv2
                have hxj : l[j2]? = some l[j2] := List.getElem?_eq_getElem hlt2
                obtain ⟨cs, hc, _, hcs⟩ := hx j2 _ hxj
                have hmem := List.mem_of_getElem? hxj
                have har := HSL.out _ hmem
                generalize l[j2] = y at hxj hc hmem har
                have hcs' := hcs.keep (M := NoM) (Keep.bel HBI.out) id
                have hlx := fun wx (k : Below wc.heap.size wc wx) => levels_any y cs wx (EC.keep (.bel k) y cs hc) (by omega)
                obtain ⟨va, vs, rfl, hva, hvs⟩ := (EC_iff ..).1 hc
                obtain ⟨ya, yac, rfl, _⟩ := hva.shape
                obtain ⟨ys, ysc, rfl, _⟩ := hvs.shape
                obtain ⟨c0, c1, c2, c3, c4, c5, c6, c7, c8, c9⟩ := CellsAt.c10 hcs'
                simp only [exCells] at hlx
                have HLX := Lib.hid hlx
                have HLT2 := Lib.hid hlt2
                have j0 : (0 : Int) ≤ (j2 : Int) := by omega
                have j1 : (j2 : Int) < (l.length : Int) := by omega
                clear hlx hx hc hcs hcs' hva hvs hxj hmem
                go_wp2_with fail
                refine (HLX.out _ (HBI.out.alloc HBI.out.size _)).mono ?_
                rintro e w11 ⟨rfl, hb⟩
                have HB11 := Lib.hid ((HBI.out.alloc HBI.out.size _).trans (hb.mono (by have := HBI.out.size; simp; omega)))
                clear hb c0 c1 c2 c3 c4 c5 c6 c7 c8 c9
                generalize levP y = m at har
                have m1 : ¬ (n : Int) ≤ (m : Int) := by omega
                clear har
                dsimp only
                go_wp2_with fail
                go_roundw
                case rel =>
                  have hlt3 := HLT2.out
                  exact ⟨j2 + 1, by omega, by go_num, HB11.out⟩
                case measure =>
                  have hlt3 := HLT2.out
                  simp [intOf]
                  omega
              · go_wp2_with fail
                go_roundw
                case rel =>
                  have hlt3 := HLT.out
                  exact ⟨j + 1, by omega, by go_num, HBJ.out⟩
                case measure =>
                  have hlt3 := HLT.out
                  simp [intOf]
                  omega
        · obtain ⟨x0, x1, x2, x3, x4, x5, x6, x7, x8, x9, xf, xz⟩ := HQ.out _ HBE.out
          go_upto_region 22 with fail
          generalize hW20 : ((wq.alloc _).alloc _) = W20
          have hb20 : Below W3.heap.size W3 W20 := by rw [← hW20]; exact (HBE.out.alloc HBE.out.size _).alloc (by have := HBE.out.size; simp; omega) _
          have hx20 : ExV (Old w1.heap.size) W20 (opX 3 0 false [x] []) (.agg #[.int .i64 3, .int .i64 0, .bool false, .int .i64 0, .int .i64 0, .string ⟨#[]⟩, .string ⟨#[]⟩, .string ⟨#[]⟩, .slice (some ⟨wq.heap.size, 0, none⟩) 1 1, .slice none 0 0]) := by
            refine ⟨some ⟨wq.heap.size, 0, none⟩, 1, none, 0, rfl, ?_, RowsR.nil ..⟩
            rw [← hW20]
            have hr1 : ExsR (Old w1.heap.size) (wq.alloc (.cells #[.int .i64 x.kind, .int .i64 x.op, .bool x.no, .int .i64 x.val.kind, .int .i64 x.val.int, .string x.val.text, .string x.table, .string x.name, .slice a1 x.args.length ac1, .slice s1 x.sub.length sc1] 52)) (.slice (some ⟨wq.heap.size, 0, none⟩) 1 1) [x] :=
              rows_one (R := EC _ _) x rfl (by have := HBE.out.size; unfold Old; omega) rfl (EC.keep (.bel (HBE.out.alloc HBE.out.size _)) _ _ (exv_cells HX3.out))
            exact ExsR.keep hr1 ((Keep.refl _ _).alloc _)
          have hk20 : W20.heap[wq.heap.size + 1]? = some (.cells #[.int .i64 3, .int .i64 0, .bool false, .int .i64 0, .int .i64 0, .string ⟨#[]⟩, .string ⟨#[]⟩, .string ⟨#[]⟩, .slice (some ⟨wq.heap.size, 0, none⟩) 1 1, .slice none 0 0] 52 (0, 0)) := by rw [← hW20]; exact heap_new1
          have hz20 : wq.heap.size + 1 < W20.heap.size := (Array.getElem?_eq_some_iff.1 hk20).1
          have HK20 := Lib.hid hk20
          have HX20 := Lib.hid hx20
          have HB20 := Lib.hid hb20
          clear hW20 hk20 hx20 hb20 x0 x1 x2 x3 x4 x5 x6 x7 x8 x9 xf xz
          obtain ⟨x0, x1, x2, x3, x4, x5, x6, x7, x8, x9, xf, xz⟩ := HQ.out _ HB20.out
          have hpr := prec_v (HX3.out.keep (M := Old w1.heap.size) (.bel HB20.out))
          have hlv := fun (wx : World) (k : Below W20.heap.size W20 wx) => levels_v (HX20.out.keep (.bel k)) (by rw [HLN.out]; split <;> omega)
          rw [HLN.out] at hlv
          generalize precP x.kind x.op = p at hpr hlv
          have HPR := Lib.hid hpr
          by_cases hp3 : p < 3
          · rw [if_pos hp3] at hlv
            have HLV2 := Lib.hid hlv
            clear hpr hlv
            go_wp2_with fail
            refine HPR.out.mono ?_
            rintro e w21 ⟨rfl, hb⟩
            have HB21 := Lib.hid hb
            clear hb x0 x1 x2 x3 x4 x5 x6 x7 x8 x9 xf xz
            obtain ⟨y0, y1, y2, y3, y4, y5, y6, y7, y8, y9, yf, yz⟩ := blk10 ((HB21.out.block _ hz20).trans HK20.out)
            dsimp only
            go_wp2_with fail
            refine (HLV2.out _ HB21.out).mono ?_
            rintro e w22 ⟨rfl, hb⟩
            have HB22 := Lib.hid (HB21.out.trans (hb.mono HB21.out.size))
            clear hb y0 y1 y2 y3 y4 y5 y6 y7 y8 y9 yf
            dsimp only
            go_wp2_with fail
            refine (known11_any _).mono ?_
            rintro e w23 ⟨rfl, hb⟩
            have HB23 := Lib.hid (HB22.out.trans (hb.mono HB22.out.size))
            clear hb
            dsimp only
            go_wp2_with fail
            go_ret
            exact ⟨rfl, HB3.out.trans ((HB20.out.trans (HB23.out.mono HB20.out.size)).mono HB3.out.size)⟩
          · rw [if_neg hp3] at hlv
            have HLV2 := Lib.hid hlv
            clear hpr hlv
            go_wp2_with fail
            refine HPR.out.mono ?_
            rintro e w21 ⟨rfl, hb⟩
            have HB21 := Lib.hid hb
            clear hb x0 x1 x2 x3 x4 x5 x6 x7 x8 x9 xf xz
            obtain ⟨y0, y1, y2, y3, y4, y5, y6, y7, y8, y9, yf, yz⟩ := blk10 ((HB21.out.block _ hz20).trans HK20.out)
            dsimp only
            go_wp2_with fail
            refine (HLV2.out _ HB21.out).mono ?_
            rintro e w22 ⟨rfl, hb⟩
            have HB22 := Lib.hid (HB21.out.trans (hb.mono HB21.out.size))
            clear hb y0 y1 y2 y3 y4 y5 y6 y7 y8 y9 yf
            dsimp only
            go_wp2_with fail
            refine (known11_any _).mono ?_
            rintro e w23 ⟨rfl, hb⟩
            have HB23 := Lib.hid (HB22.out.trans (hb.mono HB22.out.size))
            clear hb
            dsimp only
            go_wp2_with fail
            go_ret
            exact ⟨rfl, HB3.out.trans ((HB20.out.trans (HB23.out.mono HB20.out.size)).mono HB3.out.size)⟩
end Go.Proofs.YtiheioajnfggmaaDoor
