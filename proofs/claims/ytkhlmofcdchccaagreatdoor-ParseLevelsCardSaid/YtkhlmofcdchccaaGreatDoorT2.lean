/- A run's token: contract of token.run. -/
import Derived.Test.YtkhlmofcdchccaaGreatDoorT1
import Derived.Test.YtkhlmofcdchccaaGreatDoorSh
import Derived.Test.YtkhlmofcdchccaaGreatDoorSp
namespace Go.Proofs.YtkhlmofcdchccaaGreatDoor
open Go.RowKit Go.Sort

/-- The tables and the errors of the library that the tokens need. -/
def TokOk (w : World) : Prop := Lib.TabIs Tryz.prog w "internal/strconv.uint64pow10" .u64 Lib.pow10Tab ∧ (∃ te pe, w.cell? ⟨2, 0, none⟩ = some (.iface te pe)) ∧ (∃ te pe, w.cell? ⟨3, 0, none⟩ = some (.iface te pe)) ∧ 4 < w.heap.size

theorem gPowT : Tryz.prog.globalNamed "internal/strconv.uint64pow10" = some 4 := by kernel_rfl

theorem TokOk.keep {M : Nat → Prop} {w w' : World} (h : TokOk w) (k : Keep M w w') (hM : ∀ k, k ≤ 4 → ¬ M k) : TokOk w' := by
  obtain ⟨h1, ⟨te, pe, h2⟩, ⟨tf, pf, h3⟩, hs⟩ := h
  refine ⟨?_, ⟨te, pe, (k.cell (World.block_lt_of_cell? _ _ h2) (hM _ (by decide))).trans h2⟩, ⟨tf, pf, (k.cell (World.block_lt_of_cell? _ _ h3) (hM _ (by decide))).trans h3⟩, Nat.lt_of_lt_of_le hs k.size⟩
  unfold Lib.TabIs World.var? at h1 ⊢
  simp only [gPowT, Option.bind_some] at h1 ⊢
  rw [k.block 4 (by omega) (hM _ (by decide))]
  exact h1
theorem TokOk.bel {w w' : World} (h : TokOk w) (hb : Below w.heap.size w w') : TokOk w' := h.keep (M := fun _ => False) (.bel hb) fun _ _ => id

/-- What run returns. -/
def runR (s : ByteArray) : Value := match runP s with
  | some kt => .tuple #[.agg #[.int .i64 kt.1, .string kt.2, .int .i64 0], .bool true]
  | none => .tuple #[.agg #[.int .i64 0, .string ⟨#[]⟩, .int .i64 0], .bool false]

theorem parseInt_any (s : ByteArray) (w : World) (hs : s.size ≤ 4096) (h : TokOk w) : Calls Tryz.prog 194 #[.string s, .int .i64 10, .int .i64 64] w fun e w' =>
    (∃ n : Int, Lib.parseIntB 64 s.data.toList = .ok n ∧ e = .returned (.tuple #[.int .i64 n, .nilIface]) ∧ Below w.heap.size w w') ∨ ((∀ n, Lib.parseIntB 64 s.data.toList ≠ .ok n) ∧ ∃ (n : Int) (t : TypeId) (p : Value), e = .returned (.tuple #[.int .i64 n, .iface t p]) ∧ Below w.heap.size w w') := by
  obtain ⟨_, ⟨te, pe, h2⟩, ⟨tf, pf, h3⟩, _⟩ := h
  cases hp : Lib.parseIntB 64 s.data.toList
  · rename_i n
    refine (Tryz.strconv_ParseInt_10_at64_ok s (by omega) n hp w).mono ?_
    rintro e w' ⟨rfl, hw⟩
    refine .inl ⟨n, rfl, rfl, ?_⟩
    rcases hw with rfl | ⟨t, rfl⟩
    · exact Below.refl _ _
    · exact Lib.bytesWorld_below _ _ _
  · refine (Any.strconv_ParseInt_10_at64_syntax Tryz.laysC174 s (by omega) hp _ w h2 (.inr ⟨_, _, rfl⟩)).mono ?_
    rintro e w' ⟨N, rfl, _, _, hb⟩
    exact .inr ⟨fun n h => (by cases h), _, _, _, rfl, hb⟩
  · refine (Any.strconv_ParseInt_10_at64_range Tryz.laysC174 s (by omega) hp _ w h3 (.inr ⟨_, _, rfl⟩)).mono ?_
    rintro e w' ⟨N, rfl, _, _, hb⟩
    exact .inr ⟨fun n h => (by cases h), _, _, _, rfl, hb⟩

theorem blk3t {w : World} {S : Nat} {a b c : Value} {e : TypeId} (h : w.heap[S]? = some (.cells #[a, b, c] e (0, 0))) : w.cell? ⟨S, 0, none⟩ = some a ∧ w.cell? ⟨S, 1, none⟩ = some b ∧ w.cell? ⟨S, 2, none⟩ = some c ∧ (∀ i, w.frozen? ⟨S, i, none⟩ = false) ∧ S < w.heap.size := by
  refine ⟨by simp [World.cell?, h], by simp [World.cell?, h], by simp [World.cell?, h], fun i => by simp [World.frozen?, h], (Array.getElem?_eq_some_iff.1 h).1⟩
theorem set3_below {w W : World} {g : Nat} (a b c : Value) (hg : w.heap.size ≤ g) (h : Below w.heap.size w W) : Below w.heap.size w (((W.setCell ⟨g, 0, none⟩ a).setCell ⟨g, 1, none⟩ b).setCell ⟨g, 2, none⟩ c) :=
  ((h.setCell (p := ⟨g, 0, none⟩) hg a).setCell (p := ⟨g, 1, none⟩) hg b).setCell (p := ⟨g, 2, none⟩) hg c

theorem grown_belowT {w w' : World} {k : Nat} {os : Array Obj} (h : w' = grow (w.drewN k) os) : Below w.heap.size w w' := by
  subst h
  refine ⟨rfl, rfl, rfl, by simp [grow, World.drewN], fun i hi => ?_⟩
  show (w.heap ++ os)[i]? = w.heap[i]?
  rw [Array.getElem?_append_left hi]

set_option maxRecDepth 100000 in
set_option maxHeartbeats 4000000 in
theorem run_any (s : ByteArray) (w : World) (hz : 0 < s.size) (hs : s.size ≤ 4096) (h : TokOk w) : Calls Tryz.prog 148 #[.string s] w (RetBel (runR s) w) := by
  have HK := Lib.hid (fun w => keyword_any s w)
  have HN := Lib.hid (fun w => validName_any s w (by unfold maxLen; omega))
  have HP := Lib.hid (fun (w : World) (h : TokOk w) => parseInt_any s w hs h)
  have HD := Lib.hid (fun w => digit_any s[0] w)
  have HR : Hid (runR s = match runP s with | some kt => .tuple #[.agg #[.int .i64 kt.1, .string kt.2, .int .i64 0], .bool true] | none => .tuple #[.agg #[.int .i64 0, .string ⟨#[]⟩, .int .i64 0], .bool false]) := Lib.hid rfl
  have HT := Lib.hid h
  have hu : Hid (runP s = if kwL.contains s.data.toList = true then some ((1 : Int), s) else if nameB s = true then some ((2 : Int), s) else match Lib.parseIntB 64 s.data.toList with
    | .ok n => if digC s[0] = true ∧ Lib.itoa n = s.data.toList then some ((3 : Int), s) else none
    | _ => none) := Lib.hid (by unfold runP; rw [head_at hz]; simp only [Option.any_some]; rfl)
  clear h hs
  generalize runR s = r at HR ⊢
  generalize hrp : runP s = rp at HR hu
  clear hrp
  generalize kwL.contains s.data.toList = kw at HK hu
  generalize nameB s = nb at HN hu
  generalize hpi : Lib.parseIntB 64 s.data.toList = pi at HP hu
  have HPI := Lib.hid hpi
  clear hpi
  go_enter Tryz.func148, Tryz.ntmps148
  go_wp2_with fail
  have hb0 : Below w.heap.size w (w.alloc (.cells #[.int .i64 0, .string ⟨#[]⟩, .int .i64 0] 178)) := (Below.refl _ _).alloc (Nat.le_refl _) _
  have hc0 := heap_alloc_new w (.cells #[.int .i64 0, .string ⟨#[]⟩, .int .i64 0] 178)
  generalize hW : World.alloc w _ = W0 at hb0 hc0 ⊢
  have HB0 := Lib.hid hb0
  have HC0 := Lib.hid hc0
  clear hW hb0 hc0
  refine (HK.out W0).mono ?_
  rintro e W1 ⟨rfl, hb⟩
  have HB1 := Lib.hid (HB0.out.trans (hb.mono HB0.out.size))
  have HC1 := Lib.hid ((hb.block _ (blk3t HC0.out).2.2.2.2).trans HC0.out)
  clear hb
  dsimp only
  cases kw
  case true =>
    have hu1 : rp = some ((1 : Int), s) := by rw [hu.out, if_pos rfl]
    clear hu
    obtain ⟨c0, c1, c2, cf, cz⟩ := blk3t HC1.out
    repeat (first | go_values | go_skip | go_guarded | go_step | go_upon)
    refine bodyPost_ret (v := .tuple #[.agg #[.int .i64 1, .string s, .int .i64 0], .bool true]) (by simp [results, Tryz.results148, go_sem, c0, c1, c2]) rfl ⟨by rw [HR.out, hu1], ?_⟩
    exact set3_below _ _ _ (Nat.le_refl _) HB1.out
  case false =>
    go_wp2_with fail
    refine (HN.out W1).mono ?_
    rintro e W2 ⟨rfl, hb⟩
    have HB2 := Lib.hid (HB1.out.trans (hb.mono HB1.out.size))
    have HC2 := Lib.hid ((hb.block _ (blk3t HC1.out).2.2.2.2).trans HC1.out)
    clear hb
    dsimp only
    cases nb
    case true =>
      have hu1 : rp = some ((2 : Int), s) := by rw [hu.out, if_neg (by simp), if_pos rfl]
      clear hu
      obtain ⟨c0, c1, c2, cf, cz⟩ := blk3t HC2.out
      repeat (first | go_values | go_skip | go_guarded | go_step | go_upon)
      refine bodyPost_ret (v := .tuple #[.agg #[.int .i64 2, .string s, .int .i64 0], .bool true]) (by simp [results, Tryz.results148, go_sem, c0, c1, c2]) rfl ⟨by rw [HR.out, hu1], ?_⟩
      exact set3_below _ _ _ (Nat.le_refl _) HB2.out
    case false =>
      go_wp2_with fail
      have HT2 := Lib.hid (HT.out.bel HB2.out)
      refine (HP.out W2 HT2.out).mono ?_
      rintro e W3 (⟨n, hn, rfl, hb⟩ | ⟨hn, n, t, p, rfl, hb⟩)
      · have HB3 := Lib.hid (HB2.out.trans (hb.mono HB2.out.size))
        have HC3 := Lib.hid ((hb.block _ (blk3t HC2.out).2.2.2.2).trans HC2.out)
        have HT3 := Lib.hid (HT.out.bel HB3.out)
        have hnb := Lib.parseIntB_bounds (HPI.out.trans hn)
        have HF : Hid (∀ w, TokOk w → Calls Tryz.prog 195 #[.int .i64 n, .int .i64 10] w fun e w' => e = .returned (.string ⟨(Lib.itoa n).toArray⟩) ∧ Below w.heap.size w w') := Lib.hid fun w h => (Tryz.strconv_FormatInt_10 n (by have := hnb.1; simp at this; omega) (by have := hnb.2; simp at this; omega) w h.1).mono fun _ _ ⟨he, _, _, hw⟩ => ⟨he, grown_belowT hw⟩
        have HE : Hid ((((⟨(Lib.itoa n).toArray⟩ : ByteArray).toList == s.toList) = true) = (Lib.itoa n = s.data.toList)) := Lib.hid (by rw [ByteArray.toList_eq, ByteArray.toList_eq, beq_iff_eq])
        have HU : Hid (rp = if digC s[0] = true ∧ Lib.itoa n = s.data.toList then some ((3 : Int), s) else none) := Lib.hid (by rw [hu.out, hn]; simp)
        generalize (⟨(Lib.itoa n).toArray⟩ : ByteArray) = f at HF HE
        generalize digC s[0] = d at HD HU
        clear hb hn hu hnb
        dsimp only
        go_wp2_with fail
        refine (HD.out W3).mono ?_
        rintro e W4 ⟨rfl, rfl⟩
        dsimp only
        cases d
        · have hu1 : rp = none := by rw [HU.out, if_neg (by simp)]
          clear HU
          obtain ⟨c0, c1, c2, cf, cz⟩ := blk3t HC3.out
          repeat (first | go_values | go_skip | go_guarded | go_step | go_upon)
          refine bodyPost_ret (v := .tuple #[.agg #[.int .i64 0, .string ⟨#[]⟩, .int .i64 0], .bool false]) (by simp [results, Tryz.results148, go_sem, c0, c1, c2]) rfl ⟨by rw [HR.out, hu1], ?_⟩
          exact set3_below _ _ _ (Nat.le_refl _) HB3.out
        · go_wp2_with fail
          refine (HF.out W3 HT3.out).mono ?_
          rintro e W5 ⟨rfl, hb⟩
          have HB5 := Lib.hid (HB3.out.trans (hb.mono HB3.out.size))
          have HC5 := Lib.hid ((hb.block _ (blk3t HC3.out).2.2.2.2).trans HC3.out)
          clear hb
          dsimp only
          cases hfs : (f.toList == s.toList)
          · have hu1 : rp = none := by rw [HU.out, if_neg (fun h => by have := HE.out ▸ h.2; rw [hfs] at this; cases this)]
            clear HU
            obtain ⟨c0, c1, c2, cf, cz⟩ := blk3t HC5.out
            repeat (first | go_values | go_skip | go_guarded | go_step | go_upon)
            refine bodyPost_ret (v := .tuple #[.agg #[.int .i64 0, .string ⟨#[]⟩, .int .i64 0], .bool false]) (by simp [results, Tryz.results148, go_sem, c0, c1, c2]) rfl ⟨by rw [HR.out, hu1], ?_⟩
            exact set3_below _ _ _ (Nat.le_refl _) HB5.out
          · have hu1 : rp = some ((3 : Int), s) := by rw [HU.out, if_pos ⟨by trivial, by have h := HE.out; rw [hfs] at h; exact h.mp (by trivial)⟩]
            clear HU
            obtain ⟨c0, c1, c2, cf, cz⟩ := blk3t HC5.out
            repeat (first | go_values | go_skip | go_guarded | go_step | go_upon)
            refine bodyPost_ret (v := .tuple #[.agg #[.int .i64 3, .string s, .int .i64 0], .bool true]) (by simp [results, Tryz.results148, go_sem, c0, c1, c2]) rfl ⟨by rw [HR.out, hu1], ?_⟩
            exact set3_below _ _ _ (Nat.le_refl _) HB5.out
      · have HB3 := Lib.hid (HB2.out.trans (hb.mono HB2.out.size))
        have HC3 := Lib.hid ((hb.block _ (blk3t HC2.out).2.2.2.2).trans HC2.out)
        have hu1 : rp = none := by
          rw [hu.out, if_neg (by simp), if_neg (by simp)]
          cases pi with
          | ok m => exact absurd rfl (hn m)
          | _ => rfl
        clear hb hn hu
        dsimp only
        obtain ⟨c0, c1, c2, cf, cz⟩ := blk3t HC3.out
        repeat (first | go_values | go_skip | go_guarded | go_step | go_upon)
        refine bodyPost_ret (v := .tuple #[.agg #[.int .i64 0, .string ⟨#[]⟩, .int .i64 0], .bool false]) (by simp [results, Tryz.results148, go_sem, c0, c1, c2]) rfl ⟨by rw [HR.out, hu1], ?_⟩
        exact set3_below _ _ _ (Nat.le_refl _) HB3.out
end Go.Proofs.YtkhlmofcdchccaaGreatDoor
