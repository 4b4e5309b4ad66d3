/- A column of a type from the tape: the contract of column. -/
import Derived.Test.YtiheioajnfggmaaDoorD4
import Derived.Test.YtiheioajnfggmaaDoorD1
import Derived.Test.YtiheioajnfggmaaDoorP2
namespace Go.Proofs.YtiheioajnfggmaaDoor
open Go.RowKit

def colV (q n : ByteArray) : List Value := [.int .i64 2, .int .i64 0, .bool false, .int .i64 0, .int .i64 0, .string ⟨#[]⟩, .string q, .string n, .slice none 0 0, .slice none 0 0]
def ColXR (p : ByteArray × ByteArray) (cs : List Value) : Prop := cs = colV p.1 p.2
theorem colXR_one (p : ByteArray × ByteArray) (cs : List Value) (h : ColXR p cs) : ∀ u ∈ cs, u.oneCell' = true := by
  unfold ColXR at h
  subst h
  simp [colV, Value.oneCell']

theorem infoExpr : (Tryd.prog.info? 52).map (fun i => (i.zero, i.size, i.bytes)) = some (some (.agg #[.int .i64 0, .int .i64 0, .bool false, .int .i64 0, .int .i64 0, .string ⟨#[]⟩, .string ⟨#[]⟩, .string ⟨#[]⟩, .slice none 0 0, .slice none 0 0]), 10, 136) := by kernel_rfl

/-- No column, or one that is as P says. -/
def ColQ (P : ByteArray × ByteArray → Prop) (v : Value) (_ : World) : Prop :=
  v = .tuple #[.agg #[.int .i64 0, .int .i64 0, .bool false, .int .i64 0, .int .i64 0, .string ⟨#[]⟩, .string ⟨#[]⟩, .string ⟨#[]⟩, .slice none 0 0, .slice none 0 0], .bool false] ∨
  ∃ q n, v = .tuple #[.agg #[.int .i64 2, .int .i64 0, .bool false, .int .i64 0, .int .i64 0, .string ⟨#[]⟩, .string q, .string n, .slice none 0 0, .slice none 0 0], .bool true] ∧ P (q, n)

/-- Two new blocks, of two cells and of ten. -/
theorem world_2_10 {w W : World} {a b : Value} {t1 t2 : TypeId} {cs : Array Value} (h : (w.alloc (.cells #[a, b] t1)).alloc (.cells cs t2) = W) :
    W.cell? ⟨w.heap.size, 0, none⟩ = some a ∧ W.cell? ⟨w.heap.size, 1, none⟩ = some b ∧ Below w.heap.size w W ∧ W.heap.size = w.heap.size + 1 + 1 ∧ W.heap[w.heap.size + 1]? = some (.cells cs t2 (0, 0)) := by
  subst h
  exact ⟨by simp, by simp, by go_grown, by simp, heap_new1⟩

theorem blk10 {w : World} {S : Nat} {a0 a1 a2 a3 a4 a5 a6 a7 a8 a9 : Value} {e : TypeId} (h : w.heap[S]? = some (.cells #[a0, a1, a2, a3, a4, a5, a6, a7, a8, a9] e (0, 0))) :
    w.cell? ⟨S, 0, none⟩ = some a0 ∧ w.cell? ⟨S, 1, none⟩ = some a1 ∧ w.cell? ⟨S, 2, none⟩ = some a2 ∧ w.cell? ⟨S, 3, none⟩ = some a3 ∧ w.cell? ⟨S, 4, none⟩ = some a4 ∧ w.cell? ⟨S, 5, none⟩ = some a5 ∧ w.cell? ⟨S, 6, none⟩ = some a6 ∧ w.cell? ⟨S, 7, none⟩ = some a7 ∧ w.cell? ⟨S, 8, none⟩ = some a8 ∧ w.cell? ⟨S, 9, none⟩ = some a9 ∧
    (∀ i, w.frozen? ⟨S, i, none⟩ = false) ∧ S < w.heap.size := by
  refine ⟨by simp [World.cell?, h], by simp [World.cell?, h], by simp [World.cell?, h], by simp [World.cell?, h], by simp [World.cell?, h], by simp [World.cell?, h], by simp [World.cell?, h], by simp [World.cell?, h], by simp [World.cell?, h], by simp [World.cell?, h], fun i => by simp [World.frozen?, h], (Array.getElem?_eq_some_iff.1 h).1⟩

theorem keep_set10 (S : Nat) (w : World) (a0 a1 a2 a3 a4 a5 a6 a7 a8 a9 : Value) : Keep (At S) w ((((((((((w.setCell ⟨S, 0, none⟩ a0).setCell ⟨S, 1, none⟩ a1).setCell ⟨S, 2, none⟩ a2).setCell ⟨S, 3, none⟩ a3).setCell ⟨S, 4, none⟩ a4).setCell ⟨S, 5, none⟩ a5).setCell ⟨S, 6, none⟩ a6).setCell ⟨S, 7, none⟩ a7).setCell ⟨S, 8, none⟩ a8).setCell ⟨S, 9, none⟩ a9) :=
  ((((((((((Keep.refl (At S) w).setCell (p := ⟨S, 0, none⟩) (fun _ => rfl) a0).setCell (p := ⟨S, 1, none⟩) (fun _ => rfl) a1).setCell (p := ⟨S, 2, none⟩) (fun _ => rfl) a2).setCell (p := ⟨S, 3, none⟩) (fun _ => rfl) a3).setCell (p := ⟨S, 4, none⟩) (fun _ => rfl) a4).setCell (p := ⟨S, 5, none⟩) (fun _ => rfl) a5).setCell (p := ⟨S, 6, none⟩) (fun _ => rfl) a6).setCell (p := ⟨S, 7, none⟩) (fun _ => rfl) a7).setCell (p := ⟨S, 8, none⟩) (fun _ => rfl) a8).setCell (p := ⟨S, 9, none⟩) (fun _ => rfl) a9

theorem gives_set {T : Nat} {w w5 W' : World} {Q : Value → World → Prop} {v : Value} (hT : T < w.heap.size) (k5 : Keep (At T) w w5) (ht : TapeOk T w5) (ks : Keep (At (w.heap.size + 1)) w5 W') (hq : Q v W') : Gives T w Q (.returned v) W' :=
  ⟨v, rfl, hq, ht.keep ks fun k hk h => by unfold At at h; omega, k5.then ks fun k hk h => by unfold At at h; omega⟩

set_option maxRecDepth 100000 in
set_option maxHeartbeats 4000000 in
theorem column_any (P : ByteArray × ByteArray → Prop) (T : Nat) (vf vt : Value) (ta : Option Addr) (tn tc : Nat) (fs : List Frm) (want : Int) (w : World) (hvt : vt = .slice ta tn tc) (ht : TapeOk T w) (hf : FrmsR (At T) w vf fs) (hN : fs.length ≤ 1000) (hC : ∀ f ∈ fs, f.cols.length ≤ 10)
    (hP : ∀ j f c, fs[j]? = some f → c ∈ f.cols → c.type = want → P (f.name, c.name) ∧ (f.strict = false → j + 1 = fs.length → P (⟨#[]⟩, c.name))) :
    Calls Tryd.prog 71 #[.pointer (some ⟨T, 0, none⟩), .agg #[vf, vt], .int .i64 want] w (Gives T w (ColQ P)) := by
  subst hvt
  obtain ⟨fa, fc, rfl, hfm⟩ := hf.shape
  have hTw := ht.lt
  have HT := Lib.hid ht
  have HF := Lib.hid hf
  have HC := Lib.hid hC
  have HP := Lib.hid hP
  clear ht hf hC hP
  go_enter Tryd.func71, Tryd.ntmps71
  go_wp2_with fail
  generalize hW : ((w.alloc _).alloc _) = W0
  obtain ⟨s0, s1, hb0, hz0, hr0⟩ := world_2_10 hW
  clear hW
  have hT0 : T < W0.heap.size := by omega
  have HB0 := Lib.hid hb0
  have HR0 := Lib.hid hr0
  have HZ0 := Lib.hid hz0
  have hz1 : w.heap.size < W0.heap.size := by omega
  have hz2 : w.heap.size + 1 < W0.heap.size := by omega
  clear hb0 hr0 hz0
  go_loopw [8, 16] (fun l i wr => ∃ (j : Nat) (xs : List (ByteArray × ByteArray)), j ≤ fs.length ∧ i = .int .i64 j ∧ RowsO W0.heap.size wr 52 10 ColXR l xs ∧ (∀ x ∈ xs, P x) ∧ xs.length ≤ j * 20 ∧ Below W0.heap.size W0 wr) (fun _ i _ => fs.length - (intOf i).toNat)
  case atStart => exact ⟨0, [], Nat.zero_le _, rfl, RowsO.nil .., by simp, by simp, Below.refl _ _⟩
  case round =>
    rename World => wo
    obtain ⟨j, xs, hj, rfl, hO, hall, hlen, hb⟩ := hrel
    obtain ⟨la, lp, rfl, hlm⟩ := hO.shape
    have s0' := (hb.cell (p := ⟨w.heap.size, 0, none⟩) hz1).trans s0
    have hzr := hb.size
    have HO := Lib.hid hO
    have HALL := Lib.hid hall
    have HB := Lib.hid hb
    clear hO hall hb
    by_cases hlt : j < fs.length
    · rcases HF.out.open with ⟨h, h'⟩ | ⟨b', o', cap', hv', hbT, hbs, hl, hm', hx⟩
      · subst h'; simp at hlt
      · simp only [Value.slice.injEq] at hv'
        obtain ⟨rfl, _, rfl⟩ := hv'
        have hxj : fs[j]? = some fs[j] := List.getElem?_eq_getElem hlt
        obtain ⟨cs, ⟨vc, va, vn, vp, rfl, hcols⟩, _, hcs⟩ := hx j _ hxj
        have hcl := HC.out fs[j] (List.getElem_mem hlt)
        generalize fs[j] = f at hxj hcs hcols hcl
        obtain ⟨ca, cc, rfl, hcm⟩ := hcols.shape
        have hcs' := hcs.keep (M := NoM) ((Keep.bel HB0.out).below HB.out) id
        obtain ⟨c0, c1, c2, c3⟩ := hcs'.c4
        have HX := Lib.hid hxj
        have HCOL := Lib.hid hcols
        clear hx hcs hcs' hxj hcols
        obtain ⟨fn, fst, fcols⟩ := f
        simp only at hcl hcm c0 c1 c2
        go_wp2_with fail
        generalize hW : wo.alloc _ = W1
        have g1 : W1.heap[wo.heap.size]? = some (.cells #[.string fn, .bool fst, .slice ca fcols.length cc, .slice va vn vp] 33 (0, 0)) := by rw [← hW]; exact heap_alloc_new wo _
        have hB1 : Below wo.heap.size wo W1 := by rw [← hW]; exact (Below.refl _ _).alloc (Nat.le_refl _) _
        have hz1' : W1.heap.size = wo.heap.size + 1 := by rw [← hW]; simp
        clear hW
        have G1 := Lib.hid g1
        have HB1 := Lib.hid hB1
        have HB01 := Lib.hid (HB.out.trans (hB1.mono hzr))
        clear g1 hB1
        go_loopw [8, 24] (fun l i wx => ∃ (k : Nat) (ys : List (ByteArray × ByteArray)), k ≤ fcols.length ∧ i = .int .i64 k ∧ RowsO W0.heap.size wx 52 10 ColXR l ys ∧ (∀ x ∈ ys, P x) ∧ ys.length ≤ j * 20 + 2 * k ∧ Below W0.heap.size W0 wx ∧
            wx.heap[wo.heap.size]? = some (.cells #[.string fn, .bool fst, .slice ca fcols.length cc, .slice va vn vp] 33 (0, 0)) ∧ (∀ m, OwnB l m → m ≠ wo.heap.size)) (fun _ i _ => fcols.length - (intOf i).toNat)
        case atStart =>
          refine ⟨0, xs, Nat.zero_le _, rfl, RowsO.kept HO.out (M := fun _ => False) (.bel HB1.out) (fun _ _ => id) fun _ _ _ h => h, HALL.out, by omega, HB01.out, G1.out, fun m h => ?_⟩
          have := (RowsO.lt HO.out h).2
          omega
        case round =>
          obtain ⟨k, ys, hk, rfl, hO, hall, hlen2, hb, hg, hne⟩ := hrel
          obtain ⟨la2, lp2, rfl, hlm2⟩ := hO.shape
          obtain ⟨f0, f1, f2, f3, _, _, fz⟩ := blk4 hg
          have hzx := hb.size
          have s0x := (hb.cell (p := ⟨w.heap.size, 0, none⟩) hz1).trans s0
          have HO2 := Lib.hid hO
          have HALL2 := Lib.hid hall
          have HB2 := Lib.hid hb
          have HG2 := Lib.hid hg
          have HNE2 := Lib.hid hne
          have HLE2 := Lib.hid hlen2
          clear hO hall hb hg hne
          by_cases hltk : k < fcols.length
          · rcases HCOL.out.open with ⟨h, h'⟩ | ⟨b2, o2, cap2, hv2, hbT2, hbs2, hl2, hm2, hx2⟩
            · rw [h'] at hltk; simp at hltk
            · simp only [Value.slice.injEq] at hv2
              obtain ⟨rfl, _, rfl⟩ := hv2
              have hxk : fcols[k]? = some fcols[k] := List.getElem?_eq_getElem hltk
              obtain ⟨cs2, rfl, _, hcs2⟩ := hx2 k _ hxk
              have hmem : fcols[k] ∈ fcols := List.getElem_mem hltk
              generalize fcols[k] = c at hxk hcs2 hmem
              have hcs2' := hcs2.keep (M := NoM) ((Keep.bel HB0.out).below HB2.out) id
              obtain ⟨d0, d1, d2, d3⟩ := hcs2'.c4
              have HMEM := Lib.hid hmem
              clear hx2 hcs2 hcs2' hxk hmem
              by_cases hty : c.type = want
              · have hne : (c.type != want) = false := by simp [hty]
                have HPJ := Lib.hid (HP.out j _ c HX.out HMEM.out hty)
                clear hty
                go_wp2_with fail
                generalize hW2 : wr.alloc _ = W2
                have q1 : W2.heap[wr.heap.size]? = some (.cells #[.string c.name, .int .i64 c.type, .bool c.notNull, .bool c.key] 35 (0, 0)) := by rw [← hW2]; exact heap_alloc_new wr _
                have q2 : Below wr.heap.size wr W2 := by rw [← hW2]; exact (Below.refl _ _).alloc (Nat.le_refl _) _
                have q3 : W2.heap.size = wr.heap.size + 1 := by rw [← hW2]; simp
                clear hW2
                refine (col_any _ _ _).mono ?_
                rintro e w3 ⟨rfl, hb3⟩
                have q4 := hb3.size
                have q5 : w3.heap[wr.heap.size]? = some (.cells #[.string c.name, .int .i64 c.type, .bool c.notNull, .bool c.key] 35 (0, 0)) := (hb3.block _ (by omega)).trans q1
                have q6 : Below wr.heap.size wr w3 := q2.trans (hb3.mono (by omega))
                have q7 := (q6.block _ fz).trans HG2.out
                have Q5 := Lib.hid q5
                have Q6 := Lib.hid q6
                have Q7 := Lib.hid q7
                have HO3 := Lib.hid (RowsO.kept HO2.out (M := fun _ => False) (.bel q6) (fun _ _ => id) fun _ _ _ h => h)
                have q8 : wr.heap.size < w3.heap.size := by omega
                clear q1 q2 q3 q4 q5 q6 q7 hb3 d0 d1 d2 d3 f0 f1 f2 f3 s0x s0'
                have tok1 : Hid True := trivial
                cases hst : fst with
                | true =>
                  subst hst
                  go_wp2_with ((at_builtin; go_loud (refine wpList_app rfl _ _ 49 rfl 52 _ 10 136 Tryd.underlying49 infoExpr rfl (by decide) (R := ColXR) (M := NoM) W0.heap.size (.slice la2 ys.length lp2) (.slice (some ⟨w3.heap.size, 0, none⟩) 1 1) ys [(fn, c.name)] rfl rfl (RowsO.kept HO3.out ((Keep.refl (fun _ => False) w3).alloc _) (fun _ _ => id) fun _ _ _ h => h) (rows_one (size := 10) (R := ColXR) (fn, c.name) rfl id rfl rfl) (fun y _ cs h => colXR_one y cs h) (by have := HLE2.out; simp; omega) (by have := HLE2.out; simp [maxLen]; omega) (by simp; omega) ?_; intro v4 w4 ho hk hat; have HO4 := Lib.hid ho; have HK4 := Lib.hid (((Keep.refl _ w3).alloc _).trans hk); have HAT4 := Lib.hid (hat (by simp)); clear ho hk hat)); have hO : ∀ m, OwnB (.slice la2 ys.length lp2) m → W0.heap.size ≤ m ∧ m < wr.heap.size ∧ m ≠ wo.heap.size := (fun m h => ⟨(RowsO.lt HO2.out h).1, (RowsO.lt HO2.out h).2, HNE2.out m h⟩); have p7 := (HK4.out.block wo.heap.size (by omega) (fun h => (hO _ h).2.2 rfl)).trans Q7.out; have p5 := (HK4.out.block wr.heap.size q8 (fun h => by have := (hO _ h).2.1; omega)).trans Q5.out; obtain ⟨f0, f1, f2, f3, ff2, ff3, fz4⟩ := blk4 p7; obtain ⟨d0, d1, d2, d3, df2, df3, dz⟩ := blk4 p5; have b4 : Below W0.heap.size W0 w4 := (HB2.out.trans (Q6.out.mono hzx)).trans (HK4.out.toBelow (B := W0.heap.size) (by omega) fun m hm h => by have := (hO m h).1; omega); have s0x := (b4.cell (p := ⟨w.heap.size, 0, none⟩) hz1).trans s0; obtain ⟨la4, lp4, hv4, _⟩ := HO4.out.shape; rw [show (ys ++ [(fn, c.name)]).length = ys.length + 1 by simp] at hv4; subst hv4; have HB4 := Lib.hid b4; have HG4 := Lib.hid p7; have H5 := Lib.hid p5; have HNE4 := Lib.hid (fun m (h : OwnB (.slice la4 (ys.length + 1) lp4) m) => show m ≠ wo.heap.size from (HAT4.out m h).elim (fun h => (hO m h).2.2) (fun h => by have := q8; simp at h; omega)); clear hO p7 p5 b4 tok1)
                  go_roundw
                  case rel =>
                    refine ⟨k + 1, ys ++ [(fn, c.name)], by omega, by go_num, by simpa using HO4.out, fun x hx => ?_, by have := HLE2.out; simp; omega, HB4.out, HG4.out, HNE4.out⟩
                    rcases List.mem_append.1 hx with hx | hx
                    · exact HALL2.out x hx
                    · obtain rfl := List.mem_singleton.1 hx
                      exact HPJ.out.1
                  case measure => simp [intOf]; omega
                | false =>
                  subst hst
                  by_cases hlast : j + 1 = fs.length
                  · have hl2 : ((j : Int) == (fs.length : Int) - 1) = true := by simp; omega
                    have HP2 := Lib.hid (HPJ.out.2 rfl hlast)
                    clear hlast
                    go_wp2_with (first | (have _t := tok1; (at_builtin; go_loud (refine wpList_app rfl _ _ 49 rfl 52 _ 10 136 Tryd.underlying49 infoExpr rfl (by decide) (R := ColXR) (M := NoM) W0.heap.size (.slice la2 ys.length lp2) (.slice (some ⟨w3.heap.size, 0, none⟩) 1 1) ys [(fn, c.name)] rfl rfl (RowsO.kept HO3.out ((Keep.refl (fun _ => False) w3).alloc _) (fun _ _ => id) fun _ _ _ h => h) (rows_one (size := 10) (R := ColXR) (fn, c.name) rfl id rfl rfl) (fun y _ cs h => colXR_one y cs h) (by have := HLE2.out; simp; omega) (by have := HLE2.out; simp [maxLen]; omega) (by simp; omega) ?_; intro v4 w4 ho hk hat; have HO4 := Lib.hid ho; have HK4 := Lib.hid (((Keep.refl _ w3).alloc _).trans hk); have HAT4 := Lib.hid (hat (by simp)); clear ho hk hat)); have hO : ∀ m, OwnB (.slice la2 ys.length lp2) m → W0.heap.size ≤ m ∧ m < wr.heap.size ∧ m ≠ wo.heap.size := (fun m h => ⟨(RowsO.lt HO2.out h).1, (RowsO.lt HO2.out h).2, HNE2.out m h⟩); have p7 := (HK4.out.block wo.heap.size (by omega) (fun h => (hO _ h).2.2 rfl)).trans Q7.out; have p5 := (HK4.out.block wr.heap.size q8 (fun h => by have := (hO _ h).2.1; omega)).trans Q5.out; obtain ⟨f0, f1, f2, f3, ff2, ff3, fz4⟩ := blk4 p7; obtain ⟨d0, d1, d2, d3, df2, df3, dz⟩ := blk4 p5; have b4 : Below W0.heap.size W0 w4 := (HB2.out.trans (Q6.out.mono hzx)).trans (HK4.out.toBelow (B := W0.heap.size) (by omega) fun m hm h => by have := (hO m h).1; omega); have s0x := (b4.cell (p := ⟨w.heap.size, 0, none⟩) hz1).trans s0; obtain ⟨la4, lp4, hv4, _⟩ := HO4.out.shape; rw [show (ys ++ [(fn, c.name)]).length = ys.length + 1 by simp] at hv4; subst hv4; have HB4 := Lib.hid b4; have HG4 := Lib.hid p7; have H5 := Lib.hid p5; have HNE4 := Lib.hid (fun m (h : OwnB (.slice la4 (ys.length + 1) lp4) m) => show m ≠ wo.heap.size from (HAT4.out m h).elim (fun h => (hO m h).2.2) (fun h => by have := q8; simp at h; omega)); clear hO p7 p5 b4 tok1))
                    refine (col_any _ _ _).mono ?_
                    rintro e w5 ⟨rfl, hb5⟩
                    have q4 := hb5.size
                    have z40 := HB4.out.size
                    have z4 : wo.heap.size < w4.heap.size := (Array.getElem?_eq_some_iff.1 HG4.out).1
                    have HG5 := Lib.hid ((hb5.block _ z4).trans HG4.out)
                    have HB5 := Lib.hid (HB4.out.trans (hb5.mono z40))
                    have HO5 := Lib.hid (RowsO.kept HO4.out (M := fun _ => False) (.bel hb5) (fun _ _ => id) fun _ _ _ h => h)
                    clear hb5 f0 f1 f2 f3 ff2 ff3 fz4 d0 d1 d2 d3 df2 df3 dz s0x
                    go_wp2_with ((at_builtin; go_loud (refine wpList_app rfl _ _ 49 rfl 52 _ 10 136 Tryd.underlying49 infoExpr rfl (by decide) (R := ColXR) (M := NoM) W0.heap.size (.slice la4 (ys.length + 1) lp4) (.slice (some ⟨w5.heap.size, 0, none⟩) 1 1) (ys ++ [(fn, c.name)]) [((⟨#[]⟩ : ByteArray), c.name)] rfl rfl (RowsO.kept HO5.out ((Keep.refl (fun _ => False) w5).alloc _) (fun _ _ => id) fun _ _ _ h => h) (rows_one (size := 10) (R := ColXR) ((⟨#[]⟩ : ByteArray), c.name) rfl id rfl rfl) (fun y _ cs h => colXR_one y cs h) (by have := HLE2.out; simp; omega) (by have := HLE2.out; simp [maxLen]; omega) (by simp; omega) ?_; intro v6 w6 ho hk hat; have HO6 := Lib.hid ho; have HK6 := Lib.hid (((Keep.refl _ w5).alloc _).trans hk); have HAT6 := Lib.hid (hat (by simp)); clear ho hk hat)); have hO : ∀ m, OwnB (.slice la4 (ys.length + 1) lp4) m → W0.heap.size ≤ m ∧ m < w4.heap.size ∧ m ≠ wo.heap.size := (fun m h => ⟨(RowsO.lt HO4.out h).1, (RowsO.lt HO4.out h).2, HNE4.out m h⟩); have p7 := (HK6.out.block wo.heap.size (by omega) (fun h => (hO _ h).2.2 rfl)).trans HG5.out; have b6 : Below W0.heap.size W0 w6 := HB5.out.trans (HK6.out.toBelow (B := W0.heap.size) (by omega) fun m hm h => by have := (hO m h).1; omega); obtain ⟨la6, lp6, hv6, _⟩ := HO6.out.shape; rw [show (ys ++ [(fn, c.name)] ++ [((⟨#[]⟩ : ByteArray), c.name)]).length = ys.length + 1 + 1 by simp] at hv6; subst hv6; have HB6 := Lib.hid b6; have HG6 := Lib.hid p7; have HNE6 := Lib.hid (fun m (h : OwnB (.slice la6 (ys.length + 1 + 1) lp6) m) => show m ≠ wo.heap.size from (HAT6.out m h).elim (fun h => (hO m h).2.2) (fun h => by simp at h; omega)); clear hO p7 b6)
                    go_roundw
                    case rel =>
                      refine ⟨k + 1, ys ++ [(fn, c.name)] ++ [((⟨#[]⟩ : ByteArray), c.name)], by omega, by go_num, by simpa using HO6.out, fun x hx => ?_, by have := HLE2.out; simp; omega, HB6.out, HG6.out, HNE6.out⟩
                      rcases List.mem_append.1 hx with hx | hx
                      · rcases List.mem_append.1 hx with hx | hx
                        · exact HALL2.out x hx
                        · obtain rfl := List.mem_singleton.1 hx
                          exact HPJ.out.1
                      · obtain rfl := List.mem_singleton.1 hx
                        exact HP2.out
                    case measure => simp [intOf]; omega
                  · have hl2 : ((j : Int) == (fs.length : Int) - 1) = false := by simp; omega
                    clear hlast
                    go_wp2_with ((at_builtin; go_loud (refine wpList_app rfl _ _ 49 rfl 52 _ 10 136 Tryd.underlying49 infoExpr rfl (by decide) (R := ColXR) (M := NoM) W0.heap.size (.slice la2 ys.length lp2) (.slice (some ⟨w3.heap.size, 0, none⟩) 1 1) ys [(fn, c.name)] rfl rfl (RowsO.kept HO3.out ((Keep.refl (fun _ => False) w3).alloc _) (fun _ _ => id) fun _ _ _ h => h) (rows_one (size := 10) (R := ColXR) (fn, c.name) rfl id rfl rfl) (fun y _ cs h => colXR_one y cs h) (by have := HLE2.out; simp; omega) (by have := HLE2.out; simp [maxLen]; omega) (by simp; omega) ?_; intro v4 w4 ho hk hat; have HO4 := Lib.hid ho; have HK4 := Lib.hid (((Keep.refl _ w3).alloc _).trans hk); have HAT4 := Lib.hid (hat (by simp)); clear ho hk hat)); have hO : ∀ m, OwnB (.slice la2 ys.length lp2) m → W0.heap.size ≤ m ∧ m < wr.heap.size ∧ m ≠ wo.heap.size := (fun m h => ⟨(RowsO.lt HO2.out h).1, (RowsO.lt HO2.out h).2, HNE2.out m h⟩); have p7 := (HK4.out.block wo.heap.size (by omega) (fun h => (hO _ h).2.2 rfl)).trans Q7.out; have p5 := (HK4.out.block wr.heap.size q8 (fun h => by have := (hO _ h).2.1; omega)).trans Q5.out; obtain ⟨f0, f1, f2, f3, ff2, ff3, fz4⟩ := blk4 p7; obtain ⟨d0, d1, d2, d3, df2, df3, dz⟩ := blk4 p5; have b4 : Below W0.heap.size W0 w4 := (HB2.out.trans (Q6.out.mono hzx)).trans (HK4.out.toBelow (B := W0.heap.size) (by omega) fun m hm h => by have := (hO m h).1; omega); have s0x := (b4.cell (p := ⟨w.heap.size, 0, none⟩) hz1).trans s0; obtain ⟨la4, lp4, hv4, _⟩ := HO4.out.shape; rw [show (ys ++ [(fn, c.name)]).length = ys.length + 1 by simp] at hv4; subst hv4; have HB4 := Lib.hid b4; have HG4 := Lib.hid p7; have H5 := Lib.hid p5; have HNE4 := Lib.hid (fun m (h : OwnB (.slice la4 (ys.length + 1) lp4) m) => show m ≠ wo.heap.size from (HAT4.out m h).elim (fun h => (hO m h).2.2) (fun h => by have := q8; simp at h; omega)); clear hO p7 p5 b4 tok1)
                    go_roundw
                    case rel =>
                      refine ⟨k + 1, ys ++ [(fn, c.name)], by omega, by go_num, by simpa using HO4.out, fun x hx => ?_, by have := HLE2.out; simp; omega, HB4.out, HG4.out, HNE4.out⟩
                      rcases List.mem_append.1 hx with hx | hx
                      · exact HALL2.out x hx
                      · obtain rfl := List.mem_singleton.1 hx
                        exact HPJ.out.1
                    case measure => simp [intOf]; omega
              · have hne : (c.type != want) = true := by simpa using hty
                clear hty
                go_wp2_with fail
                go_roundw
                case rel => exact ⟨k + 1, ys, by omega, by go_num, RowsO.kept HO2.out ((Keep.refl (fun _ => False) wr).alloc _) (fun _ _ => id) fun _ _ _ h => h, HALL2.out, by omega, HB2.out.alloc hzx _, (heap_alloc_old _ _ fz).trans HG2.out, HNE2.out⟩
                case measure => simp [intOf]; omega
          · go_wp2_with fail
            go_roundw
            case rel => exact ⟨j + 1, ys, by omega, by go_num, HO2.out, HALL2.out, by omega, HB2.out⟩
            case measure => simp [intOf]; omega
    · have hr := (HB.out.block _ hz2).trans HR0.out
      obtain ⟨r0, r1, r2, r3, r4, r5, r6, r7, r8, r9, rf, rz⟩ := blk10 hr
      have HRR := Lib.hid hr
      have HTR := Lib.hid (TapeOk.bel (HT.out.bel HB0.out) HB.out)
      have HKR : Hid (Keep (At T) w wo) := Lib.hid ((Keep.bel HB0.out).below HB.out)
      clear hr
      by_cases h0 : xs.length = 0
      · have h0' : ((xs.length : Int) == 0) = true := by simp [h0]
        clear h0
        go_wp2_with fail
        refine bodyPost_ret (v := .tuple #[.agg #[.int .i64 0, .int .i64 0, .bool false, .int .i64 0, .int .i64 0, .string ⟨#[]⟩, .string ⟨#[]⟩, .string ⟨#[]⟩, .slice none 0 0, .slice none 0 0], .bool false]) (by simp [results, Tryd.results71, go_sem, r0, r1, r2, r3, r4, r5, r6, r7, r8, r9]) rfl ?_
        exact gives_set hTw HKR.out HTR.out (keep_set10 _ _ _ _ _ _ _ _ _ _ _ _) (.inl rfl)
      · have h0' : ((xs.length : Int) == 0) = false := by simpa using h0
        clear r0 r1 r2 r3 r4 r5 r6 r7 r8 r9 rf
        rcases (HO.out.rows (M := fun k => k < W0.heap.size) fun k h1 _ h2 => by omega).open with ⟨_, h⟩ | ⟨b3, o3, cap3, hv3, hbT3, hbs3, hl3, hm3, hx3⟩
        · rw [h] at h0; simp at h0
        · simp only [Value.slice.injEq] at hv3
          obtain ⟨rfl, _, rfl⟩ := hv3
          have HX3 := Lib.hid hx3
          have hb3T : ¬ At T b3 := by unfold At; omega
          clear hx3
          go_wp2_with (go_at_call 21; refine (next_any T xs.length _ (by omega) (by omega) HTR.out).mono ?_; rintro e w5 ⟨v, rfl, ⟨r, rfl, hr0, hr1⟩, ht, hk⟩; obtain ⟨i, rfl⟩ := Int.eq_ofNat_of_zero_le hr0; have hi : i < xs.length := (by omega); have hxi : xs[i]? = some xs[i] := List.getElem?_eq_getElem hi; have hmem : xs[i] ∈ xs := List.getElem_mem hi; obtain ⟨cs, hcs0, _, hcs⟩ := HX3.out i _ hxi; unfold ColXR at hcs0; subst hcs0; generalize xs[i] = x at hcs hmem; have hcs' := hcs.keep hk hb3T; obtain ⟨e0, e1, e2, e3, e4, e5, e6, e7, e8, e9⟩ := CellsAt.c10 hcs'; have hr := (hk.block _ rz (fun h => by unfold At at h; omega)).trans HRR.out; obtain ⟨r0, r1, r2, r3, r4, r5, r6, r7, r8, r9, rf, rz5⟩ := blk10 hr; have HT5 := Lib.hid ht; have HK5 := Lib.hid (HKR.out.trans hk); have HM := Lib.hid (HALL.out x hmem); clear hcs hcs' hxi hmem ht hk hr)
          refine bodyPost_ret (v := .tuple #[.agg #[.int .i64 2, .int .i64 0, .bool false, .int .i64 0, .int .i64 0, .string ⟨#[]⟩, .string x.1, .string x.2, .slice none 0 0, .slice none 0 0], .bool true]) (by simp [results, Tryd.results71, go_sem, r0, r1, r2, r3, r4, r5, r6, r7, r8, r9]) rfl ?_
          exact gives_set hTw HK5.out HT5.out (keep_set10 _ _ _ _ _ _ _ _ _ _ _ _) (.inr ⟨_, _, rfl, HM.out⟩)

end Go.Proofs.YtiheioajnfggmaaDoor
