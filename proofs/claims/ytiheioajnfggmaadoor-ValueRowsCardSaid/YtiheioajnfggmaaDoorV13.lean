/- Rows from the tape: the contract of Rows. -/
import Derived.Test.YtiheioajnfggmaaDoorV12
namespace Go.Proofs.YtiheioajnfggmaaDoor
open Go.RowKit

/-- A row of values, as a cell of a list of rows. -/
def RowR (M : Nat → Prop) (w : World) (r : List Val) (cs : List Value) : Prop := ∃ v, cs = [v] ∧ ValsR M w v r
theorem rowStable : Stable RowR where
  keep := fun ⟨v, h1, h2⟩ k => ⟨v, h1, h2.keep k⟩
  weak := fun ⟨v, h1, h2⟩ hM => ⟨v, h1, h2.weak hM⟩
  one := by
    rintro M w x cs ⟨v, rfl, h⟩ u hu
    obtain ⟨a, c, rfl, _⟩ := h.shape
    simp only [List.mem_cons, List.not_mem_nil, or_false] at hu
    subst hu
    rfl
theorem infoRow : (Tryd.prog.info? 31).map (fun i => (i.zero, i.size, i.bytes)) = some (some (.slice none 0 0), 1, 24) := by kernel_rfl

/-- What Rows gives: at most five rows of at most four values. -/
def RowsQ (T : Nat) (v : Value) (w : World) : Prop := ∃ l : List (List Val), l.length ≤ 5 ∧ (∀ r ∈ l, r.length ≤ 4) ∧ RowsR (At T) w 1 (RowR (At T) w) v l

/-- The row that is being built, behind a call on the tape. -/
def RB (T lo : Nat) (w0 w : World) (v : Value) (r : List Val) : Prop := TapeOk T w ∧ Keep (At T) w0 w ∧ RowsO lo w 48 3 ValR v r ∧ T < lo ∧ w0.heap.size = lo
theorem RB.step {T lo : Nat} {w0 w w' : World} {v : Value} {r : List Val} (h : RB T lo w0 w v r) (ht : TapeOk T w') (hk : Keep (At T) w w') : RB T lo w0 w' v r :=
  ⟨ht, h.2.1.trans hk, RowsO.kept h.2.2.1 hk (fun k hb hT => by have := (RowsO.lt h.2.2.1 hb).1; have := h.2.2.2.1; unfold At at hT; omega) fun _ _ _ h => h, h.2.2.2⟩
theorem RB.own {T lo : Nat} {w0 w w1 w2 : World} {v v2 : Value} {r r2 : List Val} (h : RB T lo w0 w v r) (h1 : Below w.heap.size w w1) (hk : Keep (OwnB v) w1 w2) (ho : RowsO lo w2 48 3 ValR v2 r2) : RB T lo w0 w2 v2 r2 := by
  have hlt := h.2.2.2
  refine ⟨h.1.keep (M := OwnB v) ((Keep.bel h1).trans hk) fun k hkT hb => ?_, h.2.1.then (M' := OwnB v) ((Keep.bel h1).trans hk) fun i hi hb => ?_, ho, hlt⟩
  · have := (RowsO.lt h.2.2.1 hb).1
    omega
  · have := (RowsO.lt h.2.2.1 hb).1
    omega

set_option maxRecDepth 100000 in
set_option maxHeartbeats 4000000 in
theorem rows_tape (T : Nat) (w : World) (ht : TapeOk T w) (hn : WordsOk T w) : Calls Tryd.prog 56 #[.pointer (some ⟨T, 0, none⟩), .int .i64 5] w (Gives T w (RowsQ T)) := by
  have hT := ht.lt
  have H := Lib.hid ht
  have HN := Lib.hid hn
  clear ht hn
  go_enter Tryd.func56, Tryd.ntmps56
  go_wp2_with fail
  refine (next_any T 6 _ (by omega) (by omega) H.out).mono ?_
  rintro e w1 ⟨v, rfl, ⟨r, rfl, hr0, hr1⟩, ht, hk⟩
  have HT1 := Lib.hid ht
  have HK1 := Lib.hid hk
  clear ht hk
  dsimp only
  go_wp2_with fail
  go_loopw [6, 5] (fun cnt v wr => ∃ (k : Nat) (l : List (List Val)), cnt = .int .i64 k ∧ l.length + k ≤ 5 ∧ (∀ r ∈ l, r.length ≤ 4) ∧ TapeOk T wr ∧ Keep (At T) w wr ∧ RowsG w.heap.size wr 31 1 RowR v l) (fun cnt _ _ => (intOf cnt).toNat)
  case atStart =>
    obtain ⟨k, rfl⟩ : ∃ k : Nat, r = k := ⟨r.toNat, by omega⟩
    exact ⟨k, [], rfl, by simp; omega, by simp, HT1.out, HK1.out, RowsG.nil ..⟩
  case round =>
    rename World => wo
    obtain ⟨k, l, rfl, hlk, hlr, ht, hk, hg⟩ := hrel
    obtain ⟨oa, oc, rfl, _⟩ := hg.shape
    have HT := Lib.hid ht
    have HK := Lib.hid hk
    have HG := Lib.hid hg
    have HLR := Lib.hid hlr
    have hwo : T < wo.heap.size := ht.lt
    clear ht hk hg hlr HT1 HK1
    by_cases h0 : 0 < k
    · have i0 : (0 : Int) < (k : Int) := by omega
      go_wp2_with fail
      refine (next_any T 4 _ (by omega) (by omega) HT.out).mono ?_
      rintro e w2 ⟨v, rfl, ⟨q, rfl, hq0, hq1⟩, ht, hk⟩
      have HRB : Hid (RB T wo.heap.size wo w2 (.slice none 0 0) []) := Lib.hid ⟨ht, hk, RowsO.nil .., hwo, rfl⟩
      clear ht hk
      dsimp only
      go_wp2_with fail
      go_loopw [8, 7] (fun cnt v wr => ∃ (m : Nat) (r : List Val), cnt = .int .i64 m ∧ r.length + m ≤ 3 ∧ RB T wo.heap.size wo wr v r) (fun cnt _ _ => (intOf cnt).toNat)
      case atStart =>
        obtain ⟨m, rfl⟩ : ∃ m : Nat, q = m := ⟨q.toNat, by omega⟩
        exact ⟨m, [], rfl, by simp; omega, HRB.out⟩
      case round =>
        rename World => wi
        obtain ⟨m, r, rfl, hrm, hb⟩ := hrel
        obtain ⟨va, vc, rfl, _⟩ := hb.2.2.1.shape
        have HB := Lib.hid hb
        clear hb HRB
        by_cases h1 : 0 < m
        · have i1 : (0 : Int) < (m : Int) := by omega
          go_wp2_with fail
          refine (next_any T 3 _ (by omega) (by omega) HB.out.1).mono ?_
          rintro e w3 ⟨v, rfl, ⟨x, rfl, hx0, hx1⟩, ht, hk⟩
          have HB3 := Lib.hid (HB.out.step ht hk)
          clear ht hk HB
          have z3 := HB3.out.2.2.2.1
          dsimp only
          go_wp2_with (at_builtin; go_loud (refine wpList_app rfl _ _ 31 rfl 48 _ 3 32 Tryd.underlying31 infoVal rfl (by decide) (R := ValR) (M := NoM) wo.heap.size (.slice va r.length vc) (.slice (some ⟨w3.heap.size, 0, none⟩) 1 1) r [⟨1, x, ⟨#[]⟩⟩] rfl rfl (RowsO.kept HB3.out.2.2.1 ((Keep.refl (fun _ => False) w3).alloc _) (fun _ _ => id) fun _ _ _ h => h) (rows_one (⟨1, x, ⟨#[]⟩⟩ : Val) rfl id rfl rfl) (fun y _ cs h => valR_one y cs h) (by simp; omega) (by simp [maxLen]; omega) (by have := HB3.out.2.1.size; simp; omega) ?_; intro v4 w4 ho hk _; have HB4 := Lib.hid (HB3.out.own ((Below.refl w3.heap.size w3).alloc (Nat.le_refl _) _) hk ho); clear ho hk HB3))
          go_roundw
          case rel => exact ⟨m - 1, r ++ [⟨1, x, ⟨#[]⟩⟩], by go_num, by simp; omega, HB4.out⟩
          case measure => simp [intOf]; omega
        · obtain rfl : m = 0 := by omega
          go_wp2_with fail
          refine (bool_any T 4 _ (by omega) (by omega) HB.out.1).mono ?_
          rintro e w5 ⟨v, rfl, ⟨b, rfl⟩, ht, hk⟩
          have HB5 := Lib.hid (HB.out.step ht hk)
          clear ht hk HB
          dsimp only
          go_upto_if 30 with fail
          go_cut [7] (fun v wx => ∃ r : List Val, r.length ≤ 4 ∧ RB T wo.heap.size wo wx v r)
          case first =>
            cases b with
            | false =>
              go_wp2_with fail
              go_meet
              exact ⟨r, by omega, HB5.out⟩
            | true =>
              go_wp2_with fail
              refine (value_t T _ HB5.out.1 (HN.out.at (HK.out.trans HB5.out.2.1))).mono ?_
              rintro e w6 ⟨_, rfl, ⟨xk, xn, xs, rfl⟩, ht, hk⟩
              have HB6 := Lib.hid (HB5.out.step ht hk)
              clear ht hk HB5
              dsimp only
              go_wp2_with (at_builtin; go_loud (refine wpList_app rfl _ _ 31 rfl 48 _ 3 32 Tryd.underlying31 infoVal rfl (by decide) (R := ValR) (M := NoM) wo.heap.size (.slice va r.length vc) (.slice (some ⟨w6.heap.size, 0, none⟩) 1 1) r [⟨xk, xn, xs⟩] rfl rfl (RowsO.kept HB6.out.2.2.1 ((Keep.refl (fun _ => False) w6).alloc _) (fun _ _ => id) fun _ _ _ h => h) (rows_one (⟨xk, xn, xs⟩ : Val) rfl id rfl rfl) (fun y _ cs h => valR_one y cs h) (by simp; omega) (by simp [maxLen]; omega) (by have := HB6.out.2.1.size; simp; omega) ?_; intro v7 w7 ho hk _; have HB7 := Lib.hid (HB6.out.own ((Below.refl w6.heap.size w6).alloc (Nat.le_refl _) _) hk ho); clear ho hk HB6))
              go_meet
              exact ⟨r ++ [⟨xk, xn, xs⟩], by simp; omega, HB7.out⟩
          case rest =>
            obtain ⟨r2, hr2, hb2⟩ := hcut
            rename World => w8
            obtain ⟨va, vc, rfl, _⟩ := hb2.2.2.1.shape
            have HB2 := Lib.hid hb2
            have hz8 : wo.heap.size ≤ w8.heap.size := hb2.2.1.size
            have hzo : w.heap.size ≤ wo.heap.size := HK.out.size
            have HG8 := Lib.hid (HG.out.keep rowStable HB2.out.2.1 fun k h1 h2 hA => by unfold At at hA; omega)
            have HY : Hid (RowR (OldOr w.heap.size (.slice oa l.length oc)) w8 r2 [.slice va r2.length vc]) := Lib.hid ⟨_, rfl, HB2.out.2.2.1.rows fun k h1 h2 hA => by
              rcases hA with hA | hA
              · omega
              · have := (RowsO.lt HG.out hA).2
                omega⟩
            have HK8 := Lib.hid (HK.out.trans HB2.out.2.1)
            have HT8 := Lib.hid HB2.out.1
            clear hb2 HB2 HT HK HN
            go_wp2_with (at_builtin; go_loud (refine wpList_appG (w := w8) rowStable rfl _ _ 86 rfl 31 _ 1 24 Tryd.underlying86 infoRow rfl (by decide) w.heap.size (.slice oa l.length oc) w8.heap.size #[.slice va r2.length vc] l r2 rfl rfl rfl HG8.out rfl HY.out (by omega) (by unfold maxLen; omega) (by omega) ?_; intro v9 w9 ho hk; have HT9 := Lib.hid (HT8.out.keep hk fun k hk hO => by have := (RowsO.lt HG8.out hO).1; omega); have HK9 := Lib.hid (HK8.out.then hk fun i hi hO => by have := (RowsO.lt HG8.out hO).1; omega); have HG9 := Lib.hid ho; clear ho hk))
            go_roundw
            case rel =>
              refine ⟨k - 1, l ++ [r2], by go_num, by simp; omega, fun x hx => ?_, HT9.out, HK9.out, HG9.out⟩
              rcases List.mem_append.1 hx with hx | hx
              · exact HLR.out x hx
              · simp only [List.mem_cons, List.not_mem_nil, or_false] at hx
                subst hx
                exact hr2
            case measure => simp [intOf]; omega
    · obtain rfl : k = 0 := by omega
      go_wp2_with fail
      go_ret
      refine ⟨_, rfl, ⟨l, by omega, HLR.out, ?_⟩, HT.out, HK.out⟩
      have hw : ∀ k, k < wo.heap.size → At T k → Old w.heap.size k := fun k _ h => by unfold At at h; unfold Old; omega
      exact (HG.out.rows rowStable).weak hw fun x _ cs hc => rowStable.weak hc hw
end Go.Proofs.YtiheioajnfggmaaDoor
