/- Arguments that are slices of structs, as rows in memory; and what the form's own reach says of them. No program is named here. Raw arguments of this program's types: columns, frames, tables, values. Same, the reference's Compare, and rows: contracts of Same, the reference's Compare, CompareRows and the reference's CompareRows. The texts of values: contracts of Format and the reference's Format. The sanity check of the statements on values: contract of known. Types of expressions: the contract of scope.Type, for every expression. The contract of scope.Type, for every expression, joined. What a schema of any kind leaves in memory. The sanity check of the statements of chapter 14: the contract of known. What ScopeInner needs: an append at a step of a drawn region, and plain laws on resolving in one more frame. append(s, x...) at a step of a drawn region, whatever x. No program is named here -/
import Derived.Test.YtkhlmofcdchccaaGreatDoorU01
import Derived.Test.YtkhlmofcdchccaaGreatDoorKC3
import Derived.Test.YtkhlmofcdchccaaGreatDoorU02
import Derived.Test.YtkhlmofcdchccaaGreatDoorKC2
import Derived.Test.YtkhlmofcdchccaaGreatDoorKC1
import Derived.Deep.Fields
import Derived.SizedLaws
import Derived.ChangeShapes
import Derived.OpenShut
import Derived.Deep.RegionHeld3
import Derived.Lib.ReplaceLaws
import Derived.Deep.DeepCutAuto
import Derived.Deep.AppendLies
import Derived.Maps.RangeWalk
import Derived.Deep.CutBlock
import Derived.Lib.ParseIntBTie
import Derived.Lib.IndexMore
import Derived.Lib.SplitLaws
import Derived.Lib.Replace
namespace Go.Proofs.YtkhlmofcdchccaaGreatDoor
open Go.RowKit

section
variable {H : Type} {enc : TypeId × Value → H} {P : Program} {W : World} {t e : TypeId} {size : Nat} {v : Value} {d : DataW H}

end

end Go.Proofs.YtkhlmofcdchccaaGreatDoor

namespace Go.Proofs.YtkhlmofcdchccaaGreatDoor
open Go.RowKit

section
variable {H : Type} {enc : TypeId × Value → H} {W : World} {d : DataW H} {cs : List Value} {v : Value}

end

end Go.Proofs.YtkhlmofcdchccaaGreatDoor
namespace Go.Proofs.YtkhlmofcdchccaaGreatDoor
open Go.RowKit

theorem thenC_l {x y : Int} (h : x ≠ 0) : thenC x y = x := by unfold thenC; rw [if_pos h]
theorem thenC_r {x y : Int} (h : x = 0) : thenC x y = y := by unfold thenC; rw [if_neg (by simpa using h)]

set_option maxHeartbeats 1000000 in
theorem rcompare_v (a b : Val) (w : World) : Calls Tryz.prog 120 #[valOf a, valOf b] w (RetBel (.int .i64 (cmpV a b)) w) := by
  obtain ⟨k1, n1, s1⟩ := a
  obtain ⟨k2, n2, s2⟩ := b
  have HR : Hid (cmpV ⟨k1, n1, s1⟩ ⟨k2, n2, s2⟩ = thenC (Lib.compareInt k1 k2) (thenC (Lib.compareInt n1 n2) (Lib.compareBytes s1.data.toList s2.data.toList))) := Lib.hid rfl
  generalize cmpV ⟨k1, n1, s1⟩ ⟨k2, n2, s2⟩ = r at HR ⊢
  unfold valOf
  by_cases hk : k1 = k2
  · subst hk
    have h1 : Lib.compareInt k1 k1 = 0 := intOrd.refl _
    by_cases hn : n1 = n2
    · subst hn
      have h2 : Lib.compareInt n1 n1 = 0 := intOrd.refl _
      have HR2 : Hid (r = Lib.compareBytes s1.data.toList s2.data.toList) := Lib.hid (by rw [HR.out, thenC_r h1, thenC_r h2])
      clear h1 h2
      go_enter Tryz.func120, Tryz.ntmps120
      go_wp2_with fail
      refine (Tryz.strings_Compare s1 s2 _).mono ?_
      rintro e w1 ⟨rfl, rfl⟩
      dsimp only
      go_wp2_with fail
      go_ret
      exact ⟨ret_int HR2.out.symm, by go_grown⟩
    · have HR2 : Hid (r = Lib.compareInt n1 n2) := Lib.hid (by rw [HR.out, thenC_r h1, thenC_l]; exact fun h => hn (intOrd.eq _ _ h))
      have b1 : (n1 != n2) = true := by simpa using hn
      have hlt := Int.lt_or_gt_of_ne hn
      clear hn h1
      rcases hlt with hlt | hlt
      · have HR3 := Lib.hid (cmpInt_lt hlt)
        go_enter Tryz.func120, Tryz.ntmps120
        go_wp2_with fail
        go_ret
        exact ⟨ret_int (by rw [HR2.out, HR3.out]), by go_grown⟩
      · have HR3 := Lib.hid (cmpInt_gt hlt)
        have hge : n2 ≤ n1 := by omega
        go_enter Tryz.func120, Tryz.ntmps120
        go_wp2_with fail
        go_ret
        exact ⟨ret_int (by rw [HR2.out, HR3.out]), by go_grown⟩
  · have HR2 : Hid (r = Lib.compareInt k1 k2) := Lib.hid (by rw [HR.out, thenC_l]; exact fun h => hk (intOrd.eq _ _ h))
    have b1 : (k1 != k2) = true := by simpa using hk
    have hlt := Int.lt_or_gt_of_ne hk
    clear hk
    rcases hlt with hlt | hlt
    · have HR3 := Lib.hid (cmpInt_lt hlt)
      go_enter Tryz.func120, Tryz.ntmps120
      go_wp2_with fail
      go_ret
      exact ⟨ret_int (by rw [HR2.out, HR3.out]), by go_grown⟩
    · have HR3 := Lib.hid (cmpInt_gt hlt)
      have hge : k2 ≤ k1 := by omega
      go_enter Tryz.func120, Tryz.ntmps120
      go_wp2_with fail
      go_ret
      exact ⟨ret_int (by rw [HR2.out, HR3.out]), by go_grown⟩

/-- Rows of values. -/
def ValsR (M : Nat → Prop) (w : World) (v : Value) (l : List Val) : Prop := RowsR M w 3 ValR v l
theorem ValsR.keep {M : Nat → Prop} {w w' : World} {v : Value} {l : List Val} (h : ValsR M w v l) (k : Keep M w w') : ValsR M w' v l := RowsR.map h k fun _ _ _ h => h
theorem ValsR.weak {M M' : Nat → Prop} {w : World} {v : Value} {l : List Val} (h : ValsR M w v l) (hM : ∀ k, k < w.heap.size → M' k → M k) : ValsR M' w v l := RowsR.weak h hM fun _ _ _ h => h

theorem lexC_take {α : Type} {c : α → α → Int} : ∀ (k : Nat) (x y : List α), (∀ i a b, i < k → x[i]? = some a → y[i]? = some b → c a b = 0) → k ≤ x.length → k ≤ y.length → lexC c x y = lexC c (x.drop k) (y.drop k)
  | 0, x, y, _, _, _ => by simp
  | k + 1, [], y, _, h, _ => by simp at h
  | k + 1, _ :: _, [], _, _, h => by simp at h
  | k + 1, a :: x, b :: y, hz, h1, h2 => by
    rw [lexC, thenC_r (hz 0 a b (by omega) rfl rfl), List.drop_succ_cons, List.drop_succ_cons]
    exact lexC_take k x y (fun i a b hi ha hb => hz (i + 1) a b (by omega) (by simpa using ha) (by simpa using hb)) (by simpa using h1) (by simpa using h2)
theorem lexC_at {α : Type} {c : α → α → Int} {k : Nat} {x y : List α} {a b : α} (hz : ∀ i a b, i < k → x[i]? = some a → y[i]? = some b → c a b = 0) (ha : x[k]? = some a) (hb : y[k]? = some b) (hn : c a b ≠ 0) : lexC c x y = c a b := by
  obtain ⟨h1, rfl⟩ := List.getElem?_eq_some_iff.1 ha
  obtain ⟨h2, rfl⟩ := List.getElem?_eq_some_iff.1 hb
  rw [lexC_take k x y hz (by omega) (by omega), List.drop_eq_getElem_cons h1, List.drop_eq_getElem_cons h2, lexC, thenC_l hn]
theorem lexC_end {α : Type} {c : α → α → Int} {x y : List α} (hz : ∀ i a b, i < min x.length y.length → x[i]? = some a → y[i]? = some b → c a b = 0) : lexC c x y = Lib.compareInt x.length y.length := by
  rw [lexC_take (min x.length y.length) x y hz (by omega) (by omega)]
  rcases Nat.lt_trichotomy x.length y.length with h | h | h
  · rw [Nat.min_eq_left (by omega), List.drop_length, cmpInt_lt (by omega)]
    cases hd : y.drop x.length with
    | nil => have := congrArg List.length hd; simp at this; omega
    | cons => rfl
  · rw [Nat.min_eq_left (by omega), List.drop_length, h, List.drop_length, intOrd.refl]
    rfl
  · rw [Nat.min_eq_right (by omega), List.drop_length, cmpInt_gt (by omega)]
    cases hd : x.drop y.length with
    | nil => have := congrArg List.length hd; simp at this; omega
    | cons => rfl

theorem below_drew {w w' : World} (h : Below w.drew.heap.size w.drew w') : Below w.heap.size w w' := ⟨h.os, h.tape, h.output, h.size, h.block⟩

theorem CellsAt.vals {w : World} {b o : Nat} {v : Val} (h : CellsAt w b o (valCells v)) : w.cell? ⟨b, o, none⟩ = some (.int .i64 v.kind) ∧ w.cell? ⟨b, o + 1, none⟩ = some (.int .i64 v.int) ∧ w.cell? ⟨b, o + 2, none⟩ = some (.string v.text) := ⟨h 0 _ rfl, h 1 _ rfl, h 2 _ rfl⟩

set_option maxRecDepth 100000 in
set_option maxHeartbeats 4000000 in
theorem rrows_v {M : Nat → Prop} (va vb : Value) (la lb : List Val) (w : World) (ha : ValsR M w va la) (hb : ValsR M w vb lb) : Calls Tryz.prog 73 #[va, vb] w (RetBel (.int .i64 (lexC cmpV la lb)) w) := by
  obtain ⟨a1, c1, rfl, hm1⟩ := ha.shape
  obtain ⟨a2, c2, rfl, hm2⟩ := hb.shape
  unfold maxLen at hm1 hm2
  have HA := Lib.hid ha
  have HB := Lib.hid hb
  have HE := Lib.hid (fun h => @lexC_end Val cmpV la lb h)
  have HAT := Lib.hid (fun k a b (hz : ∀ i a b, i < k → la[i]? = some a → lb[i]? = some b → cmpV a b = 0) ha hb hn => @lexC_at Val cmpV k la lb a b hz ha hb hn)
  generalize lexC cmpV la lb = r at HE HAT ⊢
  clear ha hb
  go_enter Tryz.func73, Tryz.ntmps73
  go_wp2_with fail
  go_loopw [5] (fun i wr => ∃ k : Nat, k ≤ la.length ∧ k ≤ lb.length ∧ i = .int .i64 k ∧ Below w.heap.size w wr ∧ ∀ i a b, i < k → la[i]? = some a → lb[i]? = some b → cmpV a b = 0) (fun i _ => la.length - (intOf i).toNat)
  case atStart => exact ⟨0, Nat.zero_le _, Nat.zero_le _, rfl, Below.refl _ _, fun i a b h => absurd h (by omega)⟩
  case round =>
    obtain ⟨k, hk1, hk2, rfl, hbel, hno⟩ := hrel
    have HZ := Lib.hid hno
    have HW := Lib.hid hbel
    have hbw := hbel.size
    clear hno hbel
    by_cases hlt : k < la.length ∧ k < lb.length
    · rcases HA.out.open with ⟨_, h'⟩ | ⟨b1, o1, cap1, hv1, hT1, hb1, hl1, _, hx1⟩
      · rw [h'] at hlt; simp at hlt
      rcases HB.out.open with ⟨_, h'⟩ | ⟨b2, o2, cap2, hv2, hT2, hb2, hl2, _, hx2⟩
      · rw [h'] at hlt; simp at hlt
      obtain ⟨hla, hlb⟩ := hlt
      simp only [Value.slice.injEq] at hv1 hv2
      obtain ⟨rfl, _, rfl⟩ := hv1
      obtain ⟨rfl, _, rfl⟩ := hv2
      have hxa : la[k]? = some la[k] := List.getElem?_eq_getElem (by omega)
      have hxb : lb[k]? = some lb[k] := List.getElem?_eq_getElem (by omega)
      obtain ⟨cs1, rfl, _, hc1⟩ := hx1 k _ hxa
      obtain ⟨cs2, rfl, _, hc2⟩ := hx2 k _ hxb
      generalize la[k] = x at hxa hc1
      generalize lb[k] = y at hxb hc2
      obtain ⟨p0, p1, p2⟩ := (hc1.keep (M := fun k => w.heap.size ≤ k) (.of_below HW.out fun k _ h => h) (by simp; omega)).vals
      obtain ⟨q0, q1, q2⟩ := (hc2.keep (M := fun k => w.heap.size ≤ k) (.of_below HW.out fun k _ h => h) (by simp; omega)).vals
      have i0 : (0 : Int) ≤ (k : Int) := by omega
      have i1 : (k : Int) < (la.length : Int) := by omega
      have i2 : (k : Int) < (lb.length : Int) := by omega
      have HXA := Lib.hid hxa
      have HXB := Lib.hid hxb
      have lb1 : b1 < wr.heap.size := by omega
      have lb2 : b2 < wr.heap.size := by omega
      have HSQ := Lib.hid (fun (w' : World) (h : Below wr.heap.size wr w') => show w'.cell? ⟨b1, o1 + k * 3, none⟩ = some (.int .i64 x.kind) ∧ w'.cell? ⟨b1, o1 + k * 3 + 1, none⟩ = some (.int .i64 x.int) ∧ w'.cell? ⟨b1, o1 + k * 3 + 2, none⟩ = some (.string x.text) ∧ w'.cell? ⟨b2, o2 + k * 3, none⟩ = some (.int .i64 y.kind) ∧ w'.cell? ⟨b2, o2 + k * 3 + 1, none⟩ = some (.int .i64 y.int) ∧ w'.cell? ⟨b2, o2 + k * 3 + 2, none⟩ = some (.string y.text) from ⟨(h.cell (p := ⟨b1, o1 + k * 3, none⟩) lb1).trans p0, (h.cell (p := ⟨b1, o1 + k * 3 + 1, none⟩) lb1).trans p1, (h.cell (p := ⟨b1, o1 + k * 3 + 2, none⟩) lb1).trans p2, (h.cell (p := ⟨b2, o2 + k * 3, none⟩) lb2).trans q0, (h.cell (p := ⟨b2, o2 + k * 3 + 1, none⟩) lb2).trans q1, (h.cell (p := ⟨b2, o2 + k * 3 + 2, none⟩) lb2).trans q2⟩)
      have hc := fun w => rcompare_v x y w
      clear hx1 hx2 hc1 hc2 hxa hxb hT1 hT2
      by_cases hz : cmpV x y = 0
      · rw [hz] at hc
        have HC := Lib.hid hc
        have HZZ := Lib.hid hz
        clear hc hz
        go_wp2_with fail
        go_region_held3 (fun w' => w'.cell? ⟨b1, o1 + k * 3, none⟩ = some (.int .i64 x.kind) ∧ w'.cell? ⟨b1, o1 + k * 3 + 1, none⟩ = some (.int .i64 x.int) ∧ w'.cell? ⟨b1, o1 + k * 3 + 2, none⟩ = some (.string x.text) ∧ w'.cell? ⟨b2, o2 + k * 3, none⟩ = some (.int .i64 y.kind) ∧ w'.cell? ⟨b2, o2 + k * 3 + 1, none⟩ = some (.int .i64 y.int) ∧ w'.cell? ⟨b2, o2 + k * 3 + 2, none⟩ = some (.string y.text))
          (first | (with_reducible exact HSQ.out _ HB1.out) | go_keep)
          ((go_at_call 120; refine (HC.out _).mono ?_; rintro e w1 ⟨rfl, hb⟩; have HB1 := Lib.hid (below_drew hb); clear hb))
        all_goals
          go_wp2_with fail
          go_roundw
          case rel =>
            refine ⟨k + 1, by omega, by omega, by go_num, bel_trans HW.out HB1.out, fun i a b hi ha hb => ?_⟩
            by_cases e : i = k
            · subst e
              rw [HXA.out] at ha
              rw [HXB.out] at hb
              cases ha
              cases hb
              exact HZZ.out
            · exact HZ.out i a b (by omega) ha hb
          case measure => simp [intOf]; omega
      · have HF := Lib.hid (HAT.out k x y HZ.out HXA.out HXB.out hz)
        generalize cmpV x y = c at hc hz HF
        have bz : (c != 0) = true := by simpa using hz
        have HC := Lib.hid hc
        clear hc hz
        go_wp2_with fail
        go_region_held3 (fun w' => w'.cell? ⟨b1, o1 + k * 3, none⟩ = some (.int .i64 x.kind) ∧ w'.cell? ⟨b1, o1 + k * 3 + 1, none⟩ = some (.int .i64 x.int) ∧ w'.cell? ⟨b1, o1 + k * 3 + 2, none⟩ = some (.string x.text) ∧ w'.cell? ⟨b2, o2 + k * 3, none⟩ = some (.int .i64 y.kind) ∧ w'.cell? ⟨b2, o2 + k * 3 + 1, none⟩ = some (.int .i64 y.int) ∧ w'.cell? ⟨b2, o2 + k * 3 + 2, none⟩ = some (.string y.text))
          (first | (with_reducible exact HSQ.out _ HB1.out) | go_keep)
          ((go_at_call 120; refine (HC.out _).mono ?_; rintro e w1 ⟨rfl, hb⟩; have HB1 := Lib.hid (below_drew hb); clear hb))
        all_goals
          go_wp2_with fail
          go_ret
          exact ⟨ret_int HF.out.symm, bel_trans HW.out HB1.out⟩
    · have hke : k = min la.length lb.length := by omega
      have HF := Lib.hid (HE.out fun i a b hi => HZ.out i a b (by omega))
      have HKE := Lib.hid hke
      clear hke
      rcases Nat.lt_trichotomy la.length lb.length with h | h | h
      · have HF2 := Lib.hid (HF.out.trans (cmpInt_lt (show (la.length : Int) < (lb.length : Int) by omega)))
        have hge : ¬ k < la.length := by omega
        clear hlt
        go_wp2_with fail
        go_ret
        exact ⟨ret_int HF2.out.symm, HW.out⟩
      · have HF2 := Lib.hid (HF.out.trans (cmpInt_eq (show (lb.length : Int) ≤ (la.length : Int) by omega) (by omega)))
        have hge : ¬ k < la.length := by omega
        have hle1 : ¬ la.length < lb.length := by omega
        have hle2 : ¬ lb.length < la.length := by omega
        clear hlt h
        go_wp2_with fail
        go_ret
        exact ⟨ret_int HF2.out.symm, HW.out⟩
      · have HF2 := Lib.hid (HF.out.trans (cmpInt_gt (show (lb.length : Int) < (la.length : Int) by omega)))
        have hla : k < la.length := by omega
        have hge : ¬ k < lb.length := by omega
        have hle1 : ¬ la.length < lb.length := by omega
        clear hlt
        go_wp2_with fail
        go_ret
        exact ⟨ret_int HF2.out.symm, HW.out⟩

end Go.Proofs.YtkhlmofcdchccaaGreatDoor

namespace Go.Proofs.YtkhlmofcdchccaaGreatDoor
open Go.RowKit Go.Sort

/-- What the library's functions read: the table of powers of ten, and a length. -/
def LibOk (w : World) : Prop := Lib.TabIs Tryz.prog w "internal/strconv.uint64pow10" .u64 Lib.pow10Tab ∧ ∃ m : Int, w.cell? ⟨0, 0, none⟩ = some (.int .i64 m)

theorem gPow : Tryz.prog.globalNamed "internal/strconv.uint64pow10" = some 4 := by kernel_rfl

theorem LibOk.keep {M : Nat → Prop} {w w' : World} (h : LibOk w) (k : Keep M w w') (hM : ∀ k, k ≤ 4 → ¬ M k) (hs : 4 < w.heap.size) : LibOk w' := by
  obtain ⟨h1, m, h2⟩ := h
  refine ⟨?_, m, (k.cell (World.block_lt_of_cell? _ _ h2) (hM _ (by decide))).trans h2⟩
  unfold Lib.TabIs World.var? at h1 ⊢
  simp only [gPow, Option.bind_some] at h1 ⊢
  rw [k.block 4 (by omega) (hM _ (by decide))]
  exact h1

theorem LibOk.bel {w w' : World} (h : LibOk w) (hb : Below w.heap.size w w') (hs : 4 < w.heap.size) : LibOk w' := h.keep (M := fun _ => False) (.bel hb) (fun _ _ => id) hs

def txt (l : List UInt8) : ByteArray := ⟨l.toArray⟩

end Go.Proofs.YtkhlmofcdchccaaGreatDoor

namespace Go.Proofs.YtkhlmofcdchccaaGreatDoor
open Go.RowKit

end Go.Proofs.YtkhlmofcdchccaaGreatDoor
namespace Go.Proofs.YtkhlmofcdchccaaGreatDoor
open Go.RowKit

theorem infoInt : (Tryz.prog.info? 3).map (fun i => (i.zero, i.size, i.bytes)) = some (some (.int .i64 0), 1, 8) := by kernel_rfl

theorem ints_flat : ∀ l : List Int, (l.map fun x => [Value.int .i64 x]).flatten = l.map (Value.int .i64)
  | [] => rfl
  | x :: l => by rw [List.map_cons, List.flatten_cons, ints_flat l]; rfl

theorem own_ints {M : Nat → Prop} {lo : Nat} {w : World} {v : Value} {n : Nat} {l : List Int} (h : w.ownsRow lo 3 1 v n (l.map (Value.int .i64))) (hn : n = l.length) (hM : ∀ k, lo ≤ k → k < w.heap.size → ¬ M k) : IntsR M w v l := by
  have he := ints_flat l
  refine RowsR.mk (l.map fun x => [Value.int .i64 x]) (slice_of_own (e := 3) (base := lo) (by rw [he]; simpa [hn] using h) (by simp) hM) (by simp) fun i x cs hi hc => ?_
  rw [List.getElem?_map, hi] at hc
  simp at hc
  exact hc.symm

/-- What is owned stays so while new blocks alone are made. -/
theorem own_bel {w w' : World} {base : Nat} {e : TypeId} {size : Nat} {v : Value} {n : Nat} {xs : List Value} (h : w.ownsRow base e size v n xs) (k : Below w.heap.size w w') : w'.ownsRow base e size v n xs := by
  obtain ⟨h1, h2⟩ := h
  refine ⟨h1, ?_⟩
  rcases h2 with h2 | ⟨g, cap, cur, hv, hg, hh, r⟩
  · exact .inl h2
  · exact .inr ⟨g, cap, cur, hv, hg, by rw [k.block g (Array.getElem?_eq_some_iff.1 hh).1]; exact hh, r⟩

theorem typeL_step (ts : List Sch) (fs : List Frm) : ∀ (l : List Ex) (k : Nat) (x : Ex) (l' : List Int), l[k]? = some x → typeL ts (l.take k) fs = .ok l' →
    typeL ts (l.take (k + 1)) fs = (if (typeP ts x fs).2 ≠ 0 then .error (typeP ts x fs).2 else .ok (l' ++ [(typeP ts x fs).1]))
  | [], k, x, l', h, _ => by simp at h
  | e :: es, 0, x, l', h, hl => by
    simp at h
    subst h
    simp only [List.take_zero, typeL] at hl
    cases hl
    rw [List.take_succ_cons, List.take_zero, typeL, typeL]
    rfl
  | e :: es, k + 1, x, l', h, hl => by
    simp only [List.getElem?_cons_succ] at h
    rw [List.take_succ_cons, typeL] at hl
    rw [List.take_succ_cons, typeL]
    by_cases hc : (typeP ts e fs).2 ≠ 0
    · rw [if_pos hc] at hl; cases hl
    · rw [if_neg hc] at hl ⊢
      cases hr : typeL ts (es.take k) fs with
      | error c => rw [hr] at hl; cases hl
      | ok r =>
        rw [hr] at hl
        cases hl
        rw [typeL_step ts fs es k x r h hr]
        by_cases hx : (typeP ts x fs).2 ≠ 0
        · rw [if_pos hx, if_pos hx]
        · rw [if_neg hx, if_neg hx]; rfl

theorem typeL_error (ts : List Sch) (fs : List Frm) : ∀ (l : List Ex) (k : Nat) (c : Int), typeL ts (l.take k) fs = .error c → typeL ts l fs = .error c
  | [], k, c, h => by simpa using h
  | e :: es, 0, c, h => by simp [typeL] at h
  | e :: es, k + 1, c, h => by
    rw [List.take_succ_cons, typeL] at h
    rw [typeL]
    by_cases hc : (typeP ts e fs).2 ≠ 0
    · rw [if_pos hc] at h ⊢; exact h
    · rw [if_neg hc] at h ⊢
      cases hr : typeL ts (es.take k) fs with
      | error c' =>
        rw [hr] at h
        rw [typeL_error ts fs es k c' hr]
        exact h
      | ok r => rw [hr] at h; cases h

section
variable (ts : List Sch) (k o : Int) (no : Bool) (vk vi : Int) (vt t nm : ByteArray) (a sa : Option Addr) (args : List Ex) (an ac sn sc : Nat) (fs : List Frm) (vf vtb : Value) (w : World) (r : Bool)
  (hfm : ∀ w', Below w.heap.size w w' → Calls Tryz.prog 180 #[.agg #[.int .i64 k, .int .i64 o, .bool no, .int .i64 vk, .int .i64 vi, .string vt, .string t, .string nm, .slice a an ac, .slice sa sn sc]] w' (RetBel (.bool r) w'))

set_option maxHeartbeats 1000000 in
include hfm in
theorem type_bad (hr : r = false) : Calls Tryz.prog 135 #[.agg #[.int .i64 k, .int .i64 o, .bool no, .int .i64 vk, .int .i64 vi, .string vt, .string t, .string nm, .slice a an ac, .slice sa sn sc], vf, vtb] w (RetII (0, 17) w) := by
  subst hr
  have HF := Lib.hid hfm
  clear hfm
  go_enter Tryz.func135, Tryz.ntmps135
  go_wp2_with (go_at_call 180; refine (HF.out _ (by go_grown)).mono ?_; rintro e w1 ⟨rfl, hb⟩; have HB := Lib.hid hb; clear hb)
  go_ret2
  exact ⟨rfl, ((Below.refl _ w).alloc (Nat.le_refl _) _).trans (HB.out.mono (by simp <;> omega))⟩

set_option maxHeartbeats 1000000 in
include hfm in
theorem type_lit (hr : r = true) (hk : k = 1) : Calls Tryz.prog 135 #[.agg #[.int .i64 k, .int .i64 o, .bool no, .int .i64 vk, .int .i64 vi, .string vt, .string t, .string nm, .slice a an ac, .slice sa sn sc], vf, vtb] w (RetII (vk, 0) w) := by
  subst hr
  subst hk
  have HF := Lib.hid hfm
  clear hfm
  go_enter Tryz.func135, Tryz.ntmps135
  go_wp2_with (go_at_call 180; refine (HF.out _ (by go_grown)).mono ?_; rintro e w1 ⟨rfl, hb⟩; obtain ⟨k1, k2, k3⟩ := bcell hb; simp only [World.size_alloc] at k1 k2 k3; have k4 : w.heap.size < w1.heap.size := (by omega); have h1 := ((Below.refl _ w).alloc (Nat.le_refl _) _).trans (hb.mono (by simp <;> omega)); have HB := Lib.hid h1; clear hb h1)
  go_ret2
  exact ⟨rfl, HB.out⟩

set_option maxHeartbeats 1000000 in
include hfm in
theorem type_col_none (hr : r = true) (hk : k = 2) (hf : FrmsR NoM w vf fs) (hn : resolve t nm fs = none) : Calls Tryz.prog 135 #[.agg #[.int .i64 k, .int .i64 o, .bool no, .int .i64 vk, .int .i64 vi, .string vt, .string t, .string nm, .slice a an ac, .slice sa sn sc], vf, vtb] w (RetII (0, 3) w) := by
  subst hr
  subst hk
  have hres := fun (w' : World) (hb : Below w.heap.size w w') => resolve_any (M := NoM) vf fs t nm w' (hf.keep (.bel hb))
  rw [hn] at hres
  have HF := Lib.hid hfm
  have HR := Lib.hid hres
  clear hfm hres hf hn
  go_enter Tryz.func135, Tryz.ntmps135
  go_wp2_with (first | (go_at_call 180; refine (HF.out _ (by go_grown)).mono ?_; rintro e w1 ⟨rfl, hb⟩; obtain ⟨k1, k2, k3⟩ := bcell hb; simp only [World.size_alloc] at k1 k2 k3; have k4 : w.heap.size < w1.heap.size := (by omega); have h1 := ((Below.refl _ w).alloc (Nat.le_refl _) _).trans (hb.mono (by simp <;> omega)); have HB := Lib.hid h1; clear hb h1) | (go_at_call 181; refine (HR.out _ HB.out).mono ?_; rintro e w2 ⟨rfl, hb⟩; simp only [resV]; have h2 := HB.out.trans (hb.mono (Nat.le_of_lt k4)); have H2 := Lib.hid h2; clear hb h2))
  go_ret2
  exact ⟨rfl, H2.out⟩

set_option maxHeartbeats 1000000 in
include hfm in
theorem type_col_some (hr : r = true) (hk : k = 2) (hf : FrmsR NoM w vf fs) (i j : Nat) (f : Frm) (c : Col) (hn : resolve t nm fs = some (i, j)) (hi : fs[i]? = some f) (hj : f.cols[j]? = some c) : Calls Tryz.prog 135 #[.agg #[.int .i64 k, .int .i64 o, .bool no, .int .i64 vk, .int .i64 vi, .string vt, .string t, .string nm, .slice a an ac, .slice sa sn sc], vf, vtb] w (RetII (c.type, 0) w) := by
  subst hr
  subst hk
  have hres := fun (w' : World) (hb : Below w.heap.size w w') => resolve_any (M := NoM) vf fs t nm w' (hf.keep (.bel hb))
  rw [hn] at hres
  have hil : i < fs.length := (List.getElem?_eq_some_iff.1 hi).1
  have hjl : j < f.cols.length := (List.getElem?_eq_some_iff.1 hj).1
  rcases hf.open with ⟨_, h⟩ | ⟨b, of, cap, rfl, _, hb, hcap, hm, hx⟩
  · subst h; simp at hil
  obtain ⟨cs, ⟨vc, fa, fn, fc, rfl, hcols⟩, _, hcs⟩ := hx i f hi
  rcases hcols.open with ⟨_, h⟩ | ⟨cb, co, ccap, rfl, _, hcb, hccap, hcm, hcx⟩
  · rw [h] at hjl; simp at hjl
  obtain ⟨ccs, rfl, _, hccs⟩ := hcx j c hj
  have x2 := hcs.c4.2.2.1
  have y1 := hccs.c4.2.1
  have HF := Lib.hid hfm
  have HR := Lib.hid hres
  clear hfm hres hf hn hx hcx hcs hccs hcols hi hj
  unfold maxLen at hm hcm
  go_enter Tryz.func135, Tryz.ntmps135
  go_wp2_with (first | (go_at_call 180; refine (HF.out _ (by go_grown)).mono ?_; rintro e w1 ⟨rfl, hb⟩; obtain ⟨k1, k2, k3⟩ := bcell hb; simp only [World.size_alloc] at k1 k2 k3; have k4 : w.heap.size < w1.heap.size := (by omega); have h1 := ((Below.refl _ w).alloc (Nat.le_refl _) _).trans (hb.mono (by simp <;> omega)); have HB := Lib.hid h1; clear hb h1) | (go_at_call 181; refine (HR.out _ HB.out).mono ?_; rintro e w2 ⟨rfl, hb⟩; simp only [resV]; have h2 := HB.out.trans (hb.mono (Nat.le_of_lt k4)); obtain ⟨j1, _, _⟩ := bcell h2; have H2 := Lib.hid h2; clear hb h2))
  go_ret2
  exact ⟨rfl, H2.out⟩

set_option maxHeartbeats 1000000 in
include hfm in
theorem type_sub (hr : r = true) (hk : 8 ≤ k) (hk2 : k ≤ 12) (res : Int × Int)
    (hag : ∀ w', Below w.heap.size w w' → Calls Tryz.prog 182 #[.agg #[.int .i64 k, .int .i64 o, .bool no, .int .i64 vk, .int .i64 vi, .string vt, .string t, .string nm, .slice a an ac, .slice sa sn sc], vf, vtb] w' (RetII res w')) : Calls Tryz.prog 135 #[.agg #[.int .i64 k, .int .i64 o, .bool no, .int .i64 vk, .int .i64 vi, .string vt, .string t, .string nm, .slice a an ac, .slice sa sn sc], vf, vtb] w (RetII res w) := by
  subst hr
  have HF := Lib.hid hfm
  have HA := Lib.hid hag
  clear hfm hag
  have b1 : (k == 1) = false := by simp; omega
  have b2 : (k == 2) = false := by simp; omega
  have hk' : k = 8 ∨ k = 9 ∨ k = 10 ∨ k = 11 ∨ k = 12 := by omega
  clear hk hk2
  rcases hk' with rfl | rfl | rfl | rfl | rfl
  all_goals
    clear b1 b2
    go_enter Tryz.func135, Tryz.ntmps135
    go_wp2_with (first | (go_at_call 180; refine (HF.out _ (by go_grown)).mono ?_; rintro e w1 ⟨rfl, hb⟩; obtain ⟨k1, k2, k3⟩ := bcell hb; simp only [World.size_alloc] at k1 k2 k3; have k4 : w.heap.size < w1.heap.size := (by omega); have h1 := ((Below.refl _ w).alloc (Nat.le_refl _) _).trans (hb.mono (by simp <;> omega)); have HB := Lib.hid h1; clear hb h1) | (go_at_call 182; refine (HA.out _ HB.out).mono ?_; rintro e w2 ⟨rfl, hb⟩; have h2 := HB.out.trans (hb.mono (Nat.le_of_lt k4)); have H2 := Lib.hid h2; clear hb h2))
    go_ret2
    exact ⟨rfl, H2.out⟩
end

set_option maxRecDepth 100000 in
set_option maxHeartbeats 2000000 in
theorem type_args (ts : List Sch) (k o : Int) (no : Bool) (vk vi : Int) (vt t nm : ByteArray) (a sa : Option Addr) (args : List Ex) (ac sn sc : Nat) (fs : List Frm) (vf vtb : Value) (w : World)
    (hfm : ∀ w', Below w.heap.size w w' → Calls Tryz.prog 180 #[.agg #[.int .i64 k, .int .i64 o, .bool no, .int .i64 vk, .int .i64 vi, .string vt, .string t, .string nm, .slice a args.length ac, .slice sa sn sc]] w' (RetBel (.bool true) w'))
    (hk : 3 ≤ k) (hk2 : k ≤ 7) (hn : args.length ≤ 3) (ha : ExsR NoM w (.slice a args.length ac) args) (hf : FrmsR NoM w vf fs) (ht : TblsR NoM w vtb ts) (hta : ∀ x ∈ args, TypeOk ts x) (hd : fs.length + depL args ≤ 1000000000) (res : Int × Int) (hres : (match typeL ts args fs with | .error c => (0, c) | .ok l => operationP k o l) = res) :
    Calls Tryz.prog 135 #[.agg #[.int .i64 k, .int .i64 o, .bool no, .int .i64 vk, .int .i64 vi, .string vt, .string t, .string nm, .slice a args.length ac, .slice sa sn sc], vf, vtb] w (RetII res w) := by
  have HRES := Lib.hid hres
  clear hres
  obtain ⟨i0, hi0, hz0, hz1, hz2⟩ := info_parts infoInt
  have b1 : (k == 1) = false := by simp; omega
  have b2 : (k == 2) = false := by simp; omega
  have b8 : (k == 8) = false := by simp; omega
  have b9 : (k == 9) = false := by simp; omega
  have b10 : (k == 10) = false := by simp; omega
  have b11 : (k == 11) = false := by simp; omega
  have b12 : (k == 12) = false := by simp; omega
  clear hk hk2
  have hty := fun (w' : World) (hb : Below w.heap.size w w') x (hx : x ∈ args) cs (hc : EC NoM w' x cs) => hta x hx fs cs vf vtb w' hc (hf.keep (.bel hb)) (ht.keep (.bel hb)) (by have := depL_mem hx; omega)
  have hop := fun (w' : World) v l (hv : IntsR NoM w' v l) => operation_any (M := NoM) k o no vk vi vt t nm (.slice a args.length ac) (.slice sa sn sc) v l w' hv
  have HF := Lib.hid hfm
  have HT := Lib.hid hty
  have HO := Lib.hid hop
  have HA := Lib.hid ha
  have HE := Lib.hid (typeL_error ts fs args)
  have HS := Lib.hid (typeL_step ts fs args)
  have H0 : Hid (typeL ts (args.take 0) fs = .ok []) := Lib.hid (by simp [typeL])
  have H1 : Hid (args.take args.length = args) := Lib.hid (by simp)
  clear hfm hty hop ha hf ht hta hd
  go_enter Tryz.func135, Tryz.ntmps135
  go_wp2_with (go_at_call 180; refine (HF.out _ (by go_grown)).mono ?_; rintro e w1 ⟨rfl, hb⟩; obtain ⟨k1, k2, k3⟩ := bcell hb; simp only [World.size_alloc] at k1 k2 k3; have k4 : w.heap.size < w1.heap.size := (by omega); have h1 := ((Below.refl _ w).alloc (Nat.le_refl _) _).trans (hb.mono (by simp <;> omega)); have HB := Lib.hid h1; clear hb h1)
  go_loopw [11, 64] (fun v i wr => ∃ (j : Nat) (l' : List Int), j ≤ args.length ∧ i = .int .i64 j ∧ Below w1.heap.size w1 wr ∧ l'.length = j ∧ wr.ownsRow w1.heap.size 3 1 v j (l'.map (Value.int .i64)) ∧ typeL ts (args.take j) fs = .ok l') (fun _ i _ => args.length - (intOf i).toNat)
  case atStart => exact ⟨0, [], Nat.zero_le _, rfl, Below.refl _ _, rfl, World.ownsRow_nil .., H0.out⟩
  case round =>
    obtain ⟨j, l', hj, rfl, hbel, hl', hown, hok⟩ := hrel
    obtain ⟨r1, r2, r3⟩ := bcell hbel
    have r4 : w.heap.size < wr.heap.size := by omega
    have h2 := HB.out.trans (hbel.mono (Nat.le_of_lt k4))
    by_cases hlt : j < args.length
    · rcases HA.out.open with ⟨_, h⟩ | ⟨ab, ao, cap', hv', _, hab, _, _, hx⟩
      · rw [h] at hlt; simp at hlt
      simp only [Value.slice.injEq] at hv'
      obtain ⟨rfl, _, rfl⟩ := hv'
      have hxj : args[j]? = some args[j] := List.getElem?_eq_getElem hlt
      obtain ⟨cs, hc, _, hcs⟩ := hx j _ hxj
      have hmem := List.mem_of_getElem? hxj
      have hst := HS.out j _ l' hxj hok
      generalize args[j] = x at hxj hc hmem hst
      have hcw := EC.keep (.bel h2) x cs hc
      have hty := fun o => HT.out (wr.alloc o) (h2.alloc (Nat.le_of_lt r4) o) x hmem cs (EC.keep ((Keep.refl NoM wr).alloc o) x cs hcw)
      have hcs' := hcs.keep (Keep.bel (M := NoM) h2) id
      obtain ⟨va, vs, rfl, hva, hvs⟩ := (EC_iff ..).1 hc
      obtain ⟨xa, xac, rfl, _⟩ := hva.shape
      obtain ⟨xs, xsc, rfl, _⟩ := hvs.shape
      obtain ⟨c0, c1, c2, c3, c4, c5, c6, c7, c8, c9⟩ := CellsAt.c10 hcs'
      simp only [exCells] at hty
      generalize typeP ts x fs = r at hty hst
      obtain ⟨rt, rc⟩ := r
      simp only [] at hst
      have HTY := Lib.hid hty
      have HST := Lib.hid hst
      have HOW := Lib.hid hown
      have HL := Lib.hid hl'
      have HBE := Lib.hid hbel
      have H2 := Lib.hid h2
      clear hty hst hown hl' hbel h2 hok hx hc hcs hcs' hcw hva hvs hxj hmem
      by_cases hr0 : rc = 0
      · subst hr0
        go_wp2_with (first
          | (go_at_call 135; refine (HTY.out _).mono ?_; rintro e w2 ⟨rfl, hb⟩; have HB2 := Lib.hid hb; clear hb)
          | (at_builtin; refine wpList_append_own _ rfl _ _ 36 rfl w1.heap.size 3 i0 (.int .i64 0) 1 8 Tryz.underlying36 hi0 hz0 hz1 hz2 rfl (by decide) _ j (l'.map (Value.int .i64)) rfl ((own_bel (HOW.out.alloc _) HB2.out).alloc _) ⟨w2.heap.size, 0, none⟩ 1 1 [.int .i64 rt] rfl rfl (cell_one_new _ _ _) (by simp [Value.oneCell']) (by unfold maxLen; omega) (by omega) (by have h5 := HB2.out.size; simp at h5 ⊢; omega) ?_; intro v' w3 hown' hgrow _; have HW := Lib.hid hown'; have HG := Lib.hid hgrow; clear hown' hgrow))
        go_roundw
        case rel =>
          have h5 := HB2.out.size
          have hb2 : Below w1.heap.size w1 w2 := (HBE.out.alloc (by omega) _).trans (HB2.out.mono (by simp; omega))
          have hb3 : Below w1.heap.size w1 w3 := (hb2.alloc hb2.size _).grown HG.out (by simp; have := hb2.size; omega) (fun k h => by have := (HOW.out.lt k h).1; omega)
          exact ⟨j + 1, l' ++ [rt], by omega, by go_num, hb3, by simp [HL.out], by simpa using HW.out, by rw [HST.out]; rfl⟩
        case measure => simp [intOf]; omega
      · have hb0 : (rc == 0) = false := by simpa using hr0
        have hb1 : (rc != 0) = true := by simpa using hr0
        clear hr0
        go_wp2_with (go_at_call 135; refine (HTY.out _).mono ?_; rintro e w2 ⟨rfl, hb⟩; have HB2 := Lib.hid hb; clear hb)
        go_ret2
        refine ⟨?_, H2.out.trans (((Below.refl _ wr).alloc (Nat.le_refl _) _).trans (HB2.out.mono (by simp)) |>.mono (Nat.le_of_lt r4))⟩
        have he : typeL ts args fs = .error rc := HE.out (j + 1) rc (by rw [HST.out, if_pos (by simpa using hb1)])
        rw [← HRES.out, he]
        rfl
    · have hja : j = args.length := by omega
      have hint := own_ints (M := NoM) hown hl'.symm fun _ _ _ => id
      have hall : typeL ts args fs = .ok l' := by rw [← hok, hja, H1.out]
      have hlen := HRES.out
      rw [hall] at hlen
      have hopr := HO.out wr u11 l' hint
      simp only [] at hlen
      rw [hlen] at hopr
      have HOP := Lib.hid hopr
      have H2 := Lib.hid h2
      have HJ := Lib.hid hja
      clear hopr hint hall hlen hown hl' hok h2 hbel hja
      have hge : ¬ j < args.length := hlt
      go_wp2_with (go_at_call 183; refine HOP.out.mono ?_; rintro e w2 ⟨rfl, hb⟩; have HB2 := Lib.hid hb; clear hb)
      go_ret2
      exact ⟨rfl, H2.out.trans (HB2.out.mono (Nat.le_of_lt r4))⟩

end Go.Proofs.YtkhlmofcdchccaaGreatDoor

namespace Go.Proofs.YtkhlmofcdchccaaGreatDoor
open Go.RowKit

theorem formed_kind {e : Ex} (h : formed e = true) : 1 ≤ e.kind ∧ e.kind ≤ 12 ∧ (3 ≤ e.kind → e.kind ≤ 7 → e.args.length ≤ 3) := by
  unfold formed at h
  by_cases k1 : e.kind = 1 ∨ e.kind = 2
  · exact ⟨by omega, by omega, fun h3 => by omega⟩
  rw [if_neg k1] at h
  by_cases k3 : e.kind = 3 ∨ e.kind = 4 ∨ e.kind = 6
  · rw [if_pos k3] at h
    simp at h
    exact ⟨by omega, by omega, fun _ _ => by omega⟩
  rw [if_neg k3] at h
  by_cases k5 : e.kind = 5
  · rw [if_pos k5] at h
    simp at h
    exact ⟨by omega, by omega, fun _ _ => by omega⟩
  rw [if_neg k5] at h
  by_cases k7 : e.kind = 7
  · rw [if_pos k7] at h
    simp at h
    exact ⟨by omega, by omega, fun _ _ => by omega⟩
  rw [if_neg k7] at h
  by_cases k8 : e.kind = 8 ∨ e.kind = 9
  · exact ⟨by omega, by omega, fun h3 => by omega⟩
  rw [if_neg k8] at h
  by_cases k10 : e.kind = 10 ∨ e.kind = 11 ∨ e.kind = 12
  · exact ⟨by omega, by omega, fun h3 => by omega⟩
  rw [if_neg k10] at h
  cases h

theorem typeP_eq (ts : List Sch) (e : Ex) (fs : List Frm) : typeP ts e fs =
    if formed e = false then ((0, 17) : Int × Int)
    else if e.kind = 1 then (e.val.kind, 0)
    else if e.kind = 2 then (match resolve e.table e.name fs with | some (i, j) => (colType fs i j, 0) | none => (0, 3))
    else if 8 ≤ e.kind then typeSub ts e.kind e.sub fs
    else match typeL ts e.args fs with
      | .error c => (0, c)
      | .ok l => operationP e.kind e.op l := by
  obtain ⟨k, o, no, v, t, nm, args, sub⟩ := e
  rw [typeP]
  rfl

theorem type_any (ts : List Sch) (hsm : ColsSmall ts) (e : Ex) : TypeOk ts e := by
  refine Ex.ind (P := TypeOk ts) (fun e hargs hsub => ?_) e
  intro fs cs vf vt w he hf ht hd
  have hfm := fun (w' : World) (hb : Below w.heap.size w w') => formed_any e cs w' (EC.keep (.bel hb) e cs he)
  have hag := fun (w' : World) (hb : Below w.heap.size w w') (h1 : formed e = true) (h2 : 8 ≤ e.kind) => aggregate_any ts hsm e fs cs vf vt w' (EC.keep (.bel hb) e cs he) (hf.keep (.bel hb)) (ht.keep (.bel hb)) hd h1 h2 hsub
  have hdl : fs.length + depL e.args ≤ 1000000000 := by have := dep_eq e; omega
  obtain ⟨va, vs, rfl, ha, hs⟩ := (EC_iff ..).1 he
  obtain ⟨a, ac, rfl, _⟩ := ha.shape
  obtain ⟨s, sc, rfl, _⟩ := hs.shape
  rw [typeP_eq]
  simp only [exCells] at hfm hag ⊢
  cases hfo : formed e with
  | false =>
    rw [if_pos rfl]
    exact type_bad _ _ _ _ _ _ _ _ _ _ _ _ _ _ _ _ _ _ hfm hfo
  | true =>
    obtain ⟨g1, g2, g3⟩ := formed_kind hfo
    rw [if_neg (by simp)]
    rw [hfo] at hfm
    by_cases k1 : e.kind = 1
    · rw [if_pos k1]
      exact type_lit _ _ _ _ _ _ _ _ _ _ _ _ _ _ _ _ _ _ hfm rfl k1
    rw [if_neg k1]
    by_cases k2 : e.kind = 2
    · rw [if_pos k2]
      cases hr : resolve e.table e.name fs with
      | none => exact type_col_none _ _ _ _ _ _ _ _ _ _ _ _ _ _ _ _ _ _ _ hfm rfl k2 hf hr
      | some p =>
        obtain ⟨i, j⟩ := p
        obtain ⟨f, c, hi, hj⟩ := resolve_spec hr
        have hct : colType fs i j = c.type := by simp [colType, hi, hj]
        simp only [hct]
        exact type_col_some _ _ _ _ _ _ _ _ _ _ _ _ _ _ _ _ _ _ _ hfm rfl k2 hf i j f c hr hi hj
    rw [if_neg k2]
    by_cases k8 : 8 ≤ e.kind
    · rw [if_pos k8]
      exact type_sub _ _ _ _ _ _ _ _ _ _ _ _ _ _ _ _ _ _ hfm rfl k8 g2 _ fun w' hb => hag w' hb hfo k8
    · rw [if_neg k8]
      exact type_args ts _ _ _ _ _ _ _ _ _ _ _ _ _ _ _ _ _ _ hfm (by omega) (by omega) (g3 (by omega) (by omega)) ha hf ht hargs hdl _ rfl

end Go.Proofs.YtkhlmofcdchccaaGreatDoor

namespace Go.Proofs.YtkhlmofcdchccaaGreatDoor
open Go.RowKit

theorem kcell {T : Nat} {w w' : World} (k : Keep (At T) w w') : (∀ b o, b < w.heap.size → b ≠ T → w'.cell? ⟨b, o, none⟩ = w.cell? ⟨b, o, none⟩) ∧ (∀ b o, b < w.heap.size → b ≠ T → w'.frozen? ⟨b, o, none⟩ = w.frozen? ⟨b, o, none⟩) :=
  ⟨fun _ _ h hT => k.cell h hT, fun b _ h hT => World.frozen?_of_block (k.block b h hT)⟩

theorem kcell1 {T : Nat} {w w' : World} (k : Keep (At T) w w') {b o : Nat} {x : Value} (h : w.cell? ⟨b, o, none⟩ = some x) (hT : b ≠ T) : w'.cell? ⟨b, o, none⟩ = some x :=
  (k.cell (World.block_lt_of_cell? _ _ h) hT).trans h

theorem blk4 {w : World} {S : Nat} {a b c d : Value} {e : TypeId} (h : w.heap[S]? = some (.cells #[a, b, c, d] e (0, 0))) : w.cell? ⟨S, 0, none⟩ = some a ∧ w.cell? ⟨S, 1, none⟩ = some b ∧ w.cell? ⟨S, 2, none⟩ = some c ∧ w.cell? ⟨S, 3, none⟩ = some d ∧ w.frozen? ⟨S, 2, none⟩ = false ∧ w.frozen? ⟨S, 3, none⟩ = false ∧ S < w.heap.size := by
  refine ⟨by simp [World.cell?, h], by simp [World.cell?, h], by simp [World.cell?, h], by simp [World.cell?, h], by simp [World.frozen?, h], by simp [World.frozen?, h], (Array.getElem?_eq_some_iff.1 h).1⟩

/-- A block of two cells. -/
theorem blk2 {w : World} {S : Nat} {a b : Value} {e : TypeId} (h : w.heap[S]? = some (.cells #[a, b] e (0, 0))) : w.cell? ⟨S, 0, none⟩ = some a ∧ w.cell? ⟨S, 1, none⟩ = some b ∧ w.frozen? ⟨S, 0, none⟩ = false ∧ w.frozen? ⟨S, 1, none⟩ = false ∧ S < w.heap.size := by
  refine ⟨by simp [World.cell?, h], by simp [World.cell?, h], by simp [World.frozen?, h], by simp [World.frozen?, h], (Array.getElem?_eq_some_iff.1 h).1⟩

end Go.Proofs.YtkhlmofcdchccaaGreatDoor

namespace Go.Proofs.YtkhlmofcdchccaaGreatDoor
open Go.RowKit

end Go.Proofs.YtkhlmofcdchccaaGreatDoor

namespace Go.Proofs.YtkhlmofcdchccaaGreatDoor
open Go.RowKit

end Go.Proofs.YtkhlmofcdchccaaGreatDoor

namespace Go.Proofs.YtkhlmofcdchccaaGreatDoor
open Go.RowKit

end Go.Proofs.YtkhlmofcdchccaaGreatDoor

namespace Go.Proofs.YtkhlmofcdchccaaGreatDoor

/-- Its type is the one that was asked for, or that of NULL. -/
def Made (ts : List Sch) (fs : List Frm) (want : Int) (e : Ex) : Prop := (typeP ts e fs).2 = 0 ∧ ((typeP ts e fs).1 = 0 ∨ (typeP ts e fs).1 = want)

def opX (k o : Int) (no : Bool) (args : List Ex) (sub : List Qu) : Ex := .mk k o no val0 es es args sub
/-- Kinds with arguments. -/
def OpShape (k o : Int) (no : Bool) (n : Nat) : Prop :=
  ((k = 3 ∨ k = 4) ∧ o = 0 ∧ no = false ∧ n = 1) ∨ (k = 6 ∧ o = 0 ∧ n = 1) ∨ (k = 5 ∧ 1 ≤ o ∧ o ≤ 13 ∧ no = false ∧ n = 2) ∨ (k = 7 ∧ o = 0 ∧ no = false ∧ n = 3)

def numX (n : Int) : Ex := if n < 0 then negX (litX ⟨1, -n, es⟩) else litX ⟨1, n, es⟩

/-- Frames and tables that go by their names: what has the same name has the same columns, all different. -/
def Named (look : List UInt8 → List Col) (fs : List Frm) (ss : List Sch) : Prop :=
  (∀ f ∈ fs, f.cols = look f.name.toList ∧ f.name.toList ≠ []) ∧ (∀ s ∈ ss, s.cols = look s.name.toList ∧ s.name.toList ≠ []) ∧ (∀ (n : List UInt8) (i j : Nat) (a b : Col), (look n)[i]? = some a → (look n)[j]? = some b → a.name.toList = b.name.toList → i = j)

theorem Named.sub {look : List UInt8 → List Col} {fs fs' : List Frm} {ss ss' : List Sch} (h : Named look fs ss) (h1 : ∀ f ∈ fs', f ∈ fs) (h2 : ∀ s ∈ ss', s ∈ ss) : Named look fs' ss' :=
  ⟨fun f hf => h.1 f (h1 f hf), fun s hs => h.2.1 s (h2 s hs), h.2.2⟩

end Go.Proofs.YtkhlmofcdchccaaGreatDoor
namespace Go.Proofs.YtkhlmofcdchccaaGreatDoor
open Go.RowKit

theorem drew_below {B : Nat} {a w : World} (h : Below B a w) : Below B a w.drew := ⟨h.os, h.tape, h.output, h.size, h.block⟩

end Go.Proofs.YtkhlmofcdchccaaGreatDoor

namespace Go.Proofs.YtkhlmofcdchccaaGreatDoor
open Go.RowKit

def I64R (n : Int) : Prop := -9223372036854775808 ≤ n ∧ n ≤ 9223372036854775807

def SmallQ (v : Value) (_ : World) : Prop := ∃ n : Int, v = .int .i64 n ∧ -3 ≤ n ∧ n ≤ 12
def NumberQ (v : Value) (_ : World) : Prop := ∃ n : Int, v = .int .i64 n ∧ I64R n
def WordQ (v : Value) (_ : World) : Prop := ∃ i : Nat, i < 6 ∧ v = .string (wordAt i)

set_option maxHeartbeats 400000 in
theorem small_any (T : Nat) (w : World) (ht : TapeOk T w) : Calls Tryz.prog 116 #[.pointer (some ⟨T, 0, none⟩)] w (Gives T w SmallQ) := by
  have H := Lib.hid ht
  clear ht
  go_enter Tryz.func116, Tryz.ntmps116
  go_wp2_with (go_at_call 26; refine (next_any T 16 w (by omega) (by omega) H.out).mono ?_; rintro e w' ⟨v, rfl, ⟨r, rfl, hr0, hr1⟩, ht, hk⟩; have H2 := Lib.hid ht; have H3 := Lib.hid hk; clear ht hk)
  go_ret
  exact ⟨_, rfl, ⟨_, rfl, by omega, by omega⟩, H2.out, H3.out⟩

set_option maxHeartbeats 400000 in
theorem word_any (T : Nat) (w : World) (ht : TapeOk T w) (hn : WordsOk T w) :
    Calls Tryz.prog 173 #[.pointer (some ⟨T, 0, none⟩)] w (Gives T w WordQ) := by
  have H := Lib.hid ht
  have HN := Lib.hid hn
  clear ht hn
  go_enter Tryz.func173, Tryz.ntmps173
  go_wp2_with fail
  refine (next_any T 6 w (by omega) (by omega) H.out).mono ?_
  rintro e w' ⟨v, rfl, ⟨r, rfl, hr0, hr1⟩, ht, hk⟩
  obtain ⟨i, rfl⟩ := Int.eq_ofNat_of_zero_le hr0
  have hi : i < 6 := by omega
  have hc := (HN.out.at hk).2 i hi
  have H2 := Lib.hid ht
  have H3 := Lib.hid hk
  clear ht hk
  go_wp2_with fail
  go_ret
  exact ⟨_, rfl, ⟨i, hi, rfl⟩, H2.out, H3.out⟩

theorem number_end {T : Nat} {w w' : World} {n : Int} (h : I64R n) (ht : TapeOk T w') (hk : Keep (At T) w w') : Gives T w NumberQ (.returned (.int .i64 n)) w' := ⟨_, rfl, ⟨_, rfl, h⟩, ht, hk⟩

set_option maxHeartbeats 400000 in
theorem number_any (T : Nat) (w : World) (ht : TapeOk T w) : Calls Tryz.prog 172 #[.pointer (some ⟨T, 0, none⟩)] w (Gives T w NumberQ) := by
  have H := Lib.hid ht
  have tok1 : Hid True := trivial
  clear ht
  go_enter Tryz.func172, Tryz.ntmps172
  go_wp2_with (first
    | (go_at_call 26; have _t := tok1; refine (next_any T 8 w (by omega) (by omega) H.out).mono ?_; rintro e w1 ⟨v, rfl, ⟨r, rfl, hr0, hr1⟩, ht, hk⟩; have H2 := Lib.hid ht; have H3 := Lib.hid hk; clear ht hk tok1)
    | (go_at_call 26; refine (next_any T _ w1 (by omega) (by omega) H2.out).mono ?_; rintro e w2 ⟨v, rfl, ⟨s, rfl, hs0, hs1⟩, ht, hk⟩; have H4 := Lib.hid ht; have H5 := Lib.hid (H3.out.trans hk); clear ht hk))
  all_goals go_ret
  all_goals exact number_end ⟨by omega, by omega⟩ H4.out H5.out

/-- A value as the statements make it: of its kind, nothing else set. -/
def ValidVal (v : Val) : Prop := (v.kind = 0 ∧ v.int = 0 ∧ v.text = ⟨#[]⟩) ∨ (v.kind = 1 ∧ I64R v.int ∧ v.text = ⟨#[]⟩) ∨ (v.kind = 2 ∧ 0 ≤ v.int ∧ v.int ≤ 1 ∧ v.text = ⟨#[]⟩) ∨ (v.kind = 3 ∧ v.int = 0 ∧ ∃ i : Nat, i < 6 ∧ v.text = wordAt i)

def TypedQ (k : Int) (v : Value) (_ : World) : Prop := ∃ x : Val, v = .agg #[.int .i64 x.kind, .int .i64 x.int, .string x.text] ∧ ValidVal x ∧ (x.kind = k ∨ (x.kind = 0 ∧ (k < 1 ∨ 3 < k)))

theorem typed_end {T : Nat} {w w' : World} (x : Val) (k : Int) (h : ValidVal x) (hk : x.kind = k ∨ (x.kind = 0 ∧ (k < 1 ∨ 3 < k))) (ht : TapeOk T w') (hb : Keep (At T) w w') : Gives T w (TypedQ k) (.returned (.agg #[.int .i64 x.kind, .int .i64 x.int, .string x.text])) w' := ⟨_, rfl, ⟨x, rfl, h, hk⟩, ht, hb⟩

theorem tape_set3 {T S : Nat} {w : World} {a b c : Value} (h : TapeOk T w) (hS : T < S) : TapeOk T (((w.setCell ⟨S, 0, none⟩ a).setCell ⟨S, 1, none⟩ b).setCell ⟨S, 2, none⟩ c) :=
  h.keep ((((Keep.refl (At S) w).setCell (p := ⟨S, 0, none⟩) (fun _ => rfl) _).setCell (p := ⟨S, 1, none⟩) (fun _ => rfl) _).setCell (p := ⟨S, 2, none⟩) (fun _ => rfl) _) fun k hk h => by unfold At at h; omega
theorem keep_set3 {T : Nat} {w0 w : World} {a b c : Value} (h : Keep (At T) w0 w) : Keep (At T) w0 (((w.setCell ⟨w0.heap.size, 0, none⟩ a).setCell ⟨w0.heap.size, 1, none⟩ b).setCell ⟨w0.heap.size, 2, none⟩ c) :=
  ((h.setCell (fun h => by simp at h) _).setCell (fun h => by simp at h) _).setCell (fun h => by simp at h) _

set_option maxHeartbeats 1000000 in
theorem typed_any (T : Nat) (k : Int) (w : World) (ht : TapeOk T w) (hn : WordsOk T w) : Calls Tryz.prog 115 #[.pointer (some ⟨T, 0, none⟩), .int .i64 k] w (Gives T w (TypedQ k)) := by
  have hT := ht.lt
  have hT2 : w.heap.size ≠ T := by omega
  have H := Lib.hid ht
  have HN := Lib.hid hn
  clear ht hn
  go_enter Tryz.func115, Tryz.ntmps115
  go_wp2_with (first
    | (go_at_call 172; refine (number_any T _ (H.out.alloc _)).mono ?_; rintro e w1 ⟨v, rfl, ⟨n, rfl, hn⟩, ht, hk⟩; obtain ⟨k1, k2⟩ := kcell hk; simp only [World.size_alloc] at k1 k2; have c0 : w1.cell? ⟨w.heap.size, 0, none⟩ = some (.int .i64 0) := (k1 _ _ (by omega) hT2).trans (by simp); have c1 : w1.cell? ⟨w.heap.size, 1, none⟩ = some (.int .i64 0) := (k1 _ _ (by omega) hT2).trans (by simp); have c2 : w1.cell? ⟨w.heap.size, 2, none⟩ = some (.string ⟨#[]⟩) := (k1 _ _ (by omega) hT2).trans (by simp); have k4 := hk.size; simp only [World.size_alloc] at k4; have H2 := Lib.hid ht; have H3 := Lib.hid (((Keep.refl (At T) w).alloc _).trans hk); have HI := Lib.hid hn; clear ht hk hn)
    | (go_at_call 26; refine (next_any T 2 _ (by omega) (by omega) (H.out.alloc _)).mono ?_; rintro e w1 ⟨v, rfl, ⟨n, rfl, hn0, hn1⟩, ht, hk⟩; obtain ⟨k1, k2⟩ := kcell hk; simp only [World.size_alloc] at k1 k2; have c0 : w1.cell? ⟨w.heap.size, 0, none⟩ = some (.int .i64 0) := (k1 _ _ (by omega) hT2).trans (by simp); have c1 : w1.cell? ⟨w.heap.size, 1, none⟩ = some (.int .i64 0) := (k1 _ _ (by omega) hT2).trans (by simp); have c2 : w1.cell? ⟨w.heap.size, 2, none⟩ = some (.string ⟨#[]⟩) := (k1 _ _ (by omega) hT2).trans (by simp); have k4 := hk.size; simp only [World.size_alloc] at k4; have H2 := Lib.hid ht; have H3 := Lib.hid (((Keep.refl (At T) w).alloc _).trans hk); clear ht hk)
    | (go_at_call 173; refine (word_any T _ (H.out.alloc _) (HN.out.at ((Keep.refl (At T) w).alloc _))).mono ?_; rintro e w1 ⟨v, rfl, ⟨i, hi, rfl⟩, ht, hk⟩; obtain ⟨k1, k2⟩ := kcell hk; simp only [World.size_alloc] at k1 k2; have c0 : w1.cell? ⟨w.heap.size, 0, none⟩ = some (.int .i64 0) := (k1 _ _ (by omega) hT2).trans (by simp); have c1 : w1.cell? ⟨w.heap.size, 1, none⟩ = some (.int .i64 0) := (k1 _ _ (by omega) hT2).trans (by simp); have c2 : w1.cell? ⟨w.heap.size, 2, none⟩ = some (.string ⟨#[]⟩) := (k1 _ _ (by omega) hT2).trans (by simp); have k4 := hk.size; simp only [World.size_alloc] at k4; have H2 := Lib.hid ht; have H3 := Lib.hid (((Keep.refl (At T) w).alloc _).trans hk); clear ht hk))
  · refine bodyPost_ret (v := .agg #[.int .i64 1, .int .i64 n, .string ⟨#[]⟩]) (by simp [results, Tryz.results115, go_sem, c0, c1, c2]) rfl (typed_end ⟨1, n, ⟨#[]⟩⟩ k (.inr (.inl ⟨rfl, HI.out, rfl⟩)) (.inl (by simp_all)) (tape_set3 H2.out hT) (keep_set3 H3.out))
  · refine bodyPost_ret (v := .agg #[.int .i64 2, .int .i64 n, .string ⟨#[]⟩]) (by simp [results, Tryz.results115, go_sem, c0, c1, c2]) rfl (typed_end ⟨2, n, ⟨#[]⟩⟩ k (.inr (.inr (.inl ⟨rfl, hn0, Int.le_of_lt_add_one hn1, rfl⟩))) (.inl (by simp_all)) (tape_set3 H2.out hT) (keep_set3 H3.out))
  · refine bodyPost_ret (v := .agg #[.int .i64 3, .int .i64 0, .string (wordAt i)]) (by simp [results, Tryz.results115, go_sem, c0, c1, c2]) rfl (typed_end ⟨3, 0, wordAt i⟩ k (.inr (.inr (.inr ⟨rfl, rfl, i, hi, rfl⟩))) (.inl (by simp_all)) (tape_set3 H2.out hT) (keep_set3 H3.out))
  · rename_i g1 g2 g3
    have hk : k < 1 ∨ 3 < k := by simp at g1 g2 g3; omega
    clear g1 g2 g3
    refine bodyPost_ret (v := .agg #[.int .i64 0, .int .i64 0, .string ⟨#[]⟩]) (by simp [results, Tryz.results115, go_sem]) rfl (typed_end ⟨0, 0, ⟨#[]⟩⟩ k (.inl ⟨rfl, rfl, rfl⟩) (.inr ⟨rfl, hk⟩) (H.out.alloc _) ((Keep.refl (At T) w).alloc _))

end Go.Proofs.YtkhlmofcdchccaaGreatDoor

namespace Go.Proofs.YtkhlmofcdchccaaGreatDoor
open Go.RowKit

end Go.Proofs.YtkhlmofcdchccaaGreatDoor

namespace Go.Proofs.YtkhlmofcdchccaaGreatDoor
open Go.RowKit

end Go.Proofs.YtkhlmofcdchccaaGreatDoor

namespace Go.Proofs.YtkhlmofcdchccaaGreatDoor
open Go.RowKit

theorem infoTbl : (Tryz.prog.info? 96).map (fun i => (i.zero, i.size, i.bytes)) = some (some (.agg #[.string ⟨#[]⟩, .slice none 0 0, .int .i64 0, .slice none 0 0]), 4, 72) := by kernel_rfl

end Go.Proofs.YtkhlmofcdchccaaGreatDoor
namespace Go.Proofs.YtkhlmofcdchccaaGreatDoor
open Go.RowKit

def ValQ (v : Value) (_ : World) : Prop := ∃ x : Val, v = valOf x ∧ ValidVal x
set_option maxHeartbeats 1000000 in
theorem value_any (T : Nat) (w : World) (ht : TapeOk T w) (hn : WordsOk T w) : Calls Tryz.prog 68 #[.pointer (some ⟨T, 0, none⟩)] w (Gives T w ValQ) := by
  have hT := ht.lt
  have hT2 : w.heap.size ≠ T := by omega
  have H := Lib.hid ht
  have HN := Lib.hid hn
  clear ht hn
  go_enter Tryz.func68, Tryz.ntmps68
  go_wp2_with fail
  refine (next_any T 4 _ (by omega) (by omega) (H.out.alloc _)).mono ?_
  rintro e w1 ⟨v, rfl, ⟨r, rfl, hr0, hr1⟩, ht, hk⟩
  have H2 := Lib.hid ht
  have H3 := Lib.hid (((Keep.refl (At T) w).alloc _).trans hk)
  have HN2 := Lib.hid (HN.out.at H3.out)
  obtain ⟨k1, k2⟩ := kcell hk
  simp only [World.size_alloc] at k1 k2
  have k4 := hk.size
  simp only [World.size_alloc] at k4
  have c0 : Hid (w1.cell? ⟨w.heap.size, 0, none⟩ = some (.int .i64 0)) := Lib.hid ((k1 _ _ (by omega) hT2).trans (by simp))
  have c1 : Hid (w1.cell? ⟨w.heap.size, 1, none⟩ = some (.int .i64 0)) := Lib.hid ((k1 _ _ (by omega) hT2).trans (by simp))
  have c2 : Hid (w1.cell? ⟨w.heap.size, 2, none⟩ = some (.string ⟨#[]⟩)) := Lib.hid ((k1 _ _ (by omega) hT2).trans (by simp))
  have cf : Hid (∀ i, w1.frozen? ⟨w.heap.size, i, none⟩ = false) := Lib.hid fun i => (k2 _ _ (by omega) hT2).trans (by simp)
  clear ht hk k1 k2
  dsimp only
  go_wp2_with fail
  refine (typed_any T r w1 H2.out HN2.out).mono ?_
  rintro e w2 ⟨v, rfl, ⟨x, rfl, hx, _⟩, ht, hk⟩
  have k5 := hk.size
  have d0 := kcell1 hk c0.out hT2
  have d1 := kcell1 hk c1.out hT2
  have d2 := kcell1 hk c2.out hT2
  have df := fun i => ((kcell hk).2 w.heap.size i (by omega) hT2).trans (cf.out i)
  have H4 := Lib.hid ht
  have H5 := Lib.hid (H3.out.trans hk)
  have HX := Lib.hid hx
  clear ht hk hx
  dsimp only
  go_wp2_with fail
  refine bodyPost_ret (v := valOf x) (by simp [valOf, results, Tryz.results68, go_sem, d0, d1, d2]) rfl ⟨_, rfl, ⟨x, rfl, HX.out⟩, tape_set3 H4.out hT, keep_set3 H5.out⟩

theorem blk3 {w : World} {S : Nat} {a b c : Value} {e : TypeId} (h : w.heap[S]? = some (.cells #[a, b, c] e (0, 0))) : w.cell? ⟨S, 0, none⟩ = some a ∧ w.cell? ⟨S, 1, none⟩ = some b ∧ w.cell? ⟨S, 2, none⟩ = some c ∧ (∀ i, w.frozen? ⟨S, i, none⟩ = false) ∧ S < w.heap.size :=
  ⟨by simp [World.cell?, h], by simp [World.cell?, h], by simp [World.cell?, h], fun i => by simp [World.frozen?, h], (Array.getElem?_eq_some_iff.1 h).1⟩

end Go.Proofs.YtkhlmofcdchccaaGreatDoor
namespace Go.Proofs.YtkhlmofcdchccaaGreatDoor
open Go.RowKit

/-- The result's cells and those of v, behind tape calls. -/
def OL (T : Nat) (w wi : World) (S : Nat) (x : Val) : Prop :=
  TapeOk T wi ∧ Keep (At T) w wi ∧ wi.heap[w.heap.size]? = some (.cells #[.int .i64 0, .int .i64 0, .string ⟨#[]⟩] 26 (0, 0)) ∧ wi.heap[S]? = some (.cells #[.int .i64 x.kind, .int .i64 x.int, .string x.text] 26 (0, 0)) ∧ w.heap.size < S

section
variable {T S : Nat} {w wi wj : World} {x : Val}
theorem OL.step (h : OL T w wi S x) (hT : T < w.heap.size) (ht : TapeOk T wj) (hk : Keep (At T) wi wj) : OL T w wj S x :=
  ⟨ht, h.2.1.trans hk, (hk.block _ (Array.getElem?_eq_some_iff.1 h.2.2.1).1 fun h => by unfold At at h; omega).trans h.2.2.1, (hk.block _ (Array.getElem?_eq_some_iff.1 h.2.2.2.1).1 fun hh => by have := h.2.2.2.2; unfold At at hh; omega).trans h.2.2.2.1, h.2.2.2.2⟩
theorem OL.drew (h : OL T w wi S x) : OL T w wi.drew S x := ⟨h.1, h.2.1.drew, h.2.2.1, h.2.2.2.1, h.2.2.2.2⟩
theorem OL.alloc (h : OL T w wi S x) (hT : T < w.heap.size) (o : Obj) : OL T w (wi.alloc o) S x := h.step hT (h.1.alloc o) ((Keep.refl _ _).alloc o)
theorem OL.cells (h : OL T w wi S x) : wi.cell? ⟨S, 0, none⟩ = some (.int .i64 x.kind) ∧ wi.cell? ⟨S, 1, none⟩ = some (.int .i64 x.int) ∧ wi.cell? ⟨S, 2, none⟩ = some (.string x.text) ∧ (∀ i, wi.frozen? ⟨S, i, none⟩ = false) ∧ S < wi.heap.size := blk3 h.2.2.2.1
theorem OL.res (h : OL T w wi S x) : wi.cell? ⟨w.heap.size, 0, none⟩ = some (.int .i64 0) ∧ wi.cell? ⟨w.heap.size, 1, none⟩ = some (.int .i64 0) ∧ wi.cell? ⟨w.heap.size, 2, none⟩ = some (.string ⟨#[]⟩) ∧ (∀ i, wi.frozen? ⟨w.heap.size, i, none⟩ = false) ∧ w.heap.size < wi.heap.size := blk3 h.2.2.1
theorem OL.write (h : OL T w wi S x) (hT : T < w.heap.size) {W : World} {y : Val} (ks : Keep (At S) wi W) (hc : W.heap[S]? = some (.cells #[.int .i64 y.kind, .int .i64 y.int, .string y.text] 26 (0, 0))) : OL T w W S y :=
  ⟨h.1.keep ks fun k hk hh => by have := h.2.2.2.2; unfold At at hh; omega, h.2.1.then ks fun k hk hh => by have := h.2.2.2.2; unfold At at hh; omega, (ks.block _ (Array.getElem?_eq_some_iff.1 h.2.2.1).1 fun hh => by have := h.2.2.2.2; unfold At at hh; omega).trans h.2.2.1, hc, h.2.2.2.2⟩
end

theorem set3_1 {w : World} {S : Nat} {a b c u : Value} {e : TypeId} (h : w.heap[S]? = some (.cells #[a, b, c] e (0, 0))) : (w.setCell ⟨S, 1, none⟩ u).heap[S]? = some (.cells #[a, u, c] e (0, 0)) := by simp [World.setCell, Array.getElem?_modify, h]
theorem keep_s1 {w : World} {S i : Nat} {u : Value} : Keep (At S) w (w.setCell ⟨S, i, none⟩ u) := (Keep.refl (At S) w).setCell (p := ⟨S, i, none⟩) (fun _ => rfl) u

theorem OL.set1 {T S : Nat} {w wi : World} {x : Val} (h : OL T w wi S x) (hT : T < w.heap.size) (n : Int) : OL T w (wi.setCell ⟨S, 1, none⟩ (.int .i64 n)) S ⟨x.kind, n, x.text⟩ := h.write hT keep_s1 (set3_1 h.2.2.2.1)
end Go.Proofs.YtkhlmofcdchccaaGreatDoor

namespace Go.Proofs.YtkhlmofcdchccaaGreatDoor
open Go.RowKit

theorem IntsAt.bel {w w' : World} {v : Value} (h : IntsAt w v) (k : Below w.heap.size w w') : IntsAt w' v := by
  obtain ⟨a, n, cap, rfl, h1, h2, h3⟩ := h
  refine ⟨a, n, cap, rfl, h1, h2, ?_⟩
  rcases h3 with h3 | ⟨b, o, rfl, hb, hi⟩
  · exact .inl h3
  · refine .inr ⟨b, o, rfl, Nat.lt_of_lt_of_le hb k.size, fun i hi' => ?_⟩
    obtain ⟨z, hz⟩ := hi i hi'
    exact ⟨z, (k.cell (p := ⟨b, o + i, none⟩) hb).trans hz⟩

/-- The cells of a value at an offset. -/
def ValAt (w : World) (b o : Nat) (x : Val) : Prop := w.cell? ⟨b, o, none⟩ = some (.int .i64 x.kind) ∧ w.cell? ⟨b, o + 1, none⟩ = some (.int .i64 x.int) ∧ w.cell? ⟨b, o + 2, none⟩ = some (.string x.text)
/-- A list of values lies from offset o of block b on. -/
def ListAt (w : World) (b o : Nat) (l : List Val) : Prop := b < w.heap.size ∧ ∀ (j : Nat) (x : Val), l[j]? = some x → ValAt w b (o + j * 3) x

theorem ValAt.bel {w w' : World} {b o : Nat} {x : Val} (h : ValAt w b o x) (hb : b < w.heap.size) (k : Below w.heap.size w w') : ValAt w' b o x :=
  ⟨(k.cell (p := ⟨b, o, none⟩) hb).trans h.1, (k.cell (p := ⟨b, o + 1, none⟩) hb).trans h.2.1, (k.cell (p := ⟨b, o + 2, none⟩) hb).trans h.2.2⟩
theorem ListAt.bel {w w' : World} {b o : Nat} {l : List Val} (h : ListAt w b o l) (k : Below w.heap.size w w') : ListAt w' b o l :=
  ⟨Nat.lt_of_lt_of_le h.1 k.size, fun j x hx => (h.2 j x hx).bel h.1 k⟩

end Go.Proofs.YtkhlmofcdchccaaGreatDoor
namespace Go.Proofs.YtkhlmofcdchccaaGreatDoor
open Go.RowKit

theorem blk10 {w : World} {S : Nat} {a0 a1 a2 a3 a4 a5 a6 a7 a8 a9 : Value} {e : TypeId} (h : w.heap[S]? = some (.cells #[a0, a1, a2, a3, a4, a5, a6, a7, a8, a9] e (0, 0))) :
    w.cell? ⟨S, 0, none⟩ = some a0 ∧ w.cell? ⟨S, 1, none⟩ = some a1 ∧ w.cell? ⟨S, 2, none⟩ = some a2 ∧ w.cell? ⟨S, 3, none⟩ = some a3 ∧ w.cell? ⟨S, 4, none⟩ = some a4 ∧ w.cell? ⟨S, 5, none⟩ = some a5 ∧ w.cell? ⟨S, 6, none⟩ = some a6 ∧ w.cell? ⟨S, 7, none⟩ = some a7 ∧ w.cell? ⟨S, 8, none⟩ = some a8 ∧ w.cell? ⟨S, 9, none⟩ = some a9 ∧
    (∀ i, w.frozen? ⟨S, i, none⟩ = false) ∧ S < w.heap.size := by
  refine ⟨by simp [World.cell?, h], by simp [World.cell?, h], by simp [World.cell?, h], by simp [World.cell?, h], by simp [World.cell?, h], by simp [World.cell?, h], by simp [World.cell?, h], by simp [World.cell?, h], by simp [World.cell?, h], by simp [World.cell?, h], fun i => by simp [World.frozen?, h], (Array.getElem?_eq_some_iff.1 h).1⟩

end Go.Proofs.YtkhlmofcdchccaaGreatDoor

namespace Go.Proofs.YtkhlmofcdchccaaGreatDoor
open Go.RowKit

/-- The expression e as a value. -/
def ExV (M : Nat → Prop) (w : World) (e : Ex) (v : Value) : Prop :=
  ∃ a ac s sc, v = .agg #[.int .i64 e.kind, .int .i64 e.op, .bool e.no, .int .i64 e.val.kind, .int .i64 e.val.int, .string e.val.text, .string e.table, .string e.name, .slice a e.args.length ac, .slice s e.sub.length sc] ∧
    ExsR M w (.slice a e.args.length ac) e.args ∧ QusR M w (.slice s e.sub.length sc) e.sub

theorem ExV.keep {M : Nat → Prop} {w w' : World} {e : Ex} {v : Value} (h : ExV M w e v) (k : Keep M w w') : ExV M w' e v := by
  obtain ⟨a, ac, s, sc, rfl, h1, h2⟩ := h
  exact ⟨a, ac, s, sc, rfl, h1.keep k, h2.keep k⟩
theorem ExV.weak {M M' : Nat → Prop} {w : World} {e : Ex} {v : Value} (hM : ∀ k, k < w.heap.size → M' k → M k) (h : ExV M w e v) : ExV M' w e v := by
  obtain ⟨a, ac, s, sc, rfl, h1, h2⟩ := h
  exact ⟨a, ac, s, sc, rfl, h1.weak hM, h2.weak hM⟩
/-- The names of triggers. -/
def trigName (i : Nat) : ByteArray := ⟨#[97 + UInt8.ofNat i, 97 + UInt8.ofNat i]⟩
/-- Well-formed expressions of a depth. -/
inductive GX : Nat → Ex → Prop
  | col (n : Nat) (t nm : ByteArray) (h : columnB t nm = true) : GX n (colX t nm)
  | lit (n : Nat) (v : Val) (hv : ValidVal v) (h0 : v.kind = 1 → 0 ≤ v.int) : GX n (litX v)
  | num (n : Nat) (m : Int) (h1 : -1000 ≤ m) (h2 : m ≤ 1000) : GX n (numX m)
  | txt (n i : Nat) (hi : i < 8) : GX n (litX ⟨3, 0, trigName i⟩)
  | ops (n : Nat) (k o : Int) (no : Bool) (args : List Ex) (hk : OpShape k o no args.length) (ha : ∀ x ∈ args, GX n x) : GX (n + 1) (opX k o no args [])
  | sub (n : Nat) (k : Int) (f : ByteArray) (items whr : List Ex) (hf : sourceB f = true) (hi : ((k = 8 ∨ k = 9) ∧ items = []) ∨ ((k = 10 ∨ k = 11 ∨ k = 12) ∧ items.length = 1)) (hw : whr.length ≤ 1) (h1 : ∀ x ∈ items, GX n x) (h2 : ∀ x ∈ whr, GX n x) :
      GX (n + 1) (opX k 0 false [] [.mk (k == 8) items f whr])
theorem GX.up {n m : Nat} {e : Ex} (h : GX n e) (hm : n ≤ m) : GX m e := by
  induction h generalizing m with
  | col n t nm h => exact .col m t nm h
  | lit n v hv h0 => exact .lit m v hv h0
  | num n u h1 h2 => exact .num m u h1 h2
  | txt n i hi => exact .txt m i hi
  | ops n k o no args hk _ ih =>
    obtain ⟨m, rfl⟩ : ∃ j, m = j + 1 := ⟨m - 1, by omega⟩
    exact .ops m k o no args hk fun x hx => ih x hx (by omega)
  | sub n k f items whr hf hi hw _ _ ih1 ih2 =>
    obtain ⟨m, rfl⟩ : ∃ j, m = j + 1 := ⟨m - 1, by omega⟩
    exact .sub m k f items whr hf hi hw (fun x hx => ih1 x hx (by omega)) fun x hx => ih2 x hx (by omega)
/-- The names of a place are names. -/
def PlaceN (fs : List Frm) (ss : List Sch) : Prop := (∀ f ∈ fs, ∀ c ∈ f.cols, columnB f.name c.name = true) ∧ ∀ s ∈ ss, sourceB s.name = true ∧ ∀ c ∈ s.cols, columnB s.name c.name = true
/-- Made as was asked, over every list of tables that has the place's. -/
def Mk (ss : List Sch) (fs : List Frm) (want : Int) (n : Nat) (e : Ex) : Prop := (dep e ≤ n ∧ GX n e) ∧ ∀ ts, (∀ s ∈ ss, sourceP ts s.name = some s) → Made ts fs want e
theorem Mk.mono {ss : List Sch} {fs : List Frm} {want : Int} {n m : Nat} {e : Ex} (h : Mk ss fs want n e) (hn : n ≤ m) : Mk ss fs want m e := ⟨⟨Nat.le_trans h.1.1 hn, h.1.2.up hn⟩, h.2⟩

def PlaceP (look : List UInt8 → List Col) (fs : List Frm) (ss : List Sch) (n : Nat) : Prop :=
  Named look fs ss ∧ fs.length + n ≤ 100 ∧ (∀ f ∈ fs, f.cols.length ≤ 10) ∧ (∀ s ∈ ss, s.cols.length ≤ 10) ∧ ss ≠ [] ∧ ss.length ≤ 10 ∧ PlaceN fs ss
theorem PlaceP.mono {look : List UInt8 → List Col} {fs : List Frm} {ss : List Sch} {n m : Nat} (h : PlaceP look fs ss n) (hn : m ≤ n) : PlaceP look fs ss m := ⟨h.1, by have := h.2.1; omega, h.2.2⟩
section
variable {T : Nat} {vf vt : Value} {w wi wj : World}
end

end Go.Proofs.YtkhlmofcdchccaaGreatDoor

namespace Go.Proofs.YtkhlmofcdchccaaGreatDoor
open Go.RowKit

/-- Block T, and all from p on. -/
def TOr (T p k : Nat) : Prop := k = T ∨ p ≤ k

section
variable {T p h : Nat} {vf vt pv : Value} {w W W' : World} {fs : List Frm} {st : Bool} {frm : ByteArray} {items whr : List Ex}
end

end Go.Proofs.YtkhlmofcdchccaaGreatDoor
namespace Go.Proofs.YtkhlmofcdchccaaGreatDoor
open Go.RowKit


end Go.Proofs.YtkhlmofcdchccaaGreatDoor

namespace Go.Proofs.YtkhlmofcdchccaaGreatDoor
open Go.RowKit

end Go.Proofs.YtkhlmofcdchccaaGreatDoor

namespace Go.Proofs.YtkhlmofcdchccaaGreatDoor
open Go.RowKit

end Go.Proofs.YtkhlmofcdchccaaGreatDoor

namespace Go.Proofs.YtkhlmofcdchccaaGreatDoor
open Go.RowKit

end Go.Proofs.YtkhlmofcdchccaaGreatDoor

namespace Go.Proofs.YtkhlmofcdchccaaGreatDoor
open Go.RowKit

end Go.Proofs.YtkhlmofcdchccaaGreatDoor

namespace Go.Proofs.YtkhlmofcdchccaaGreatDoor
open Go.RowKit

def qualL : List ByteArray := [es, bs [78, 69, 87], bs [79, 76, 68], bs [73, 78, 83, 69, 82, 84, 69, 68], bs [116], bs [117]]
def fromL : List ByteArray := [bs [116], bs [117], bs [108, 111, 103], bs [73, 78, 83, 69, 82, 84, 69, 68], bs [68, 69, 76, 69, 84, 69, 68]]

/-- What AnyExpr makes at a depth. -/
inductive AnyX : Nat → Ex → Prop
  | col (n : Nat) (q : ByteArray) (i : Nat) (hq : q ∈ qualL) (hi : i < 8) : AnyX n (colX q (nameAt i))
  | lit (n : Nat) (v : Val) (hv : ValidVal v) (h0 : v.kind = 1 → 0 ≤ v.int) : AnyX n (litX v)
  | ops (n : Nat) (k o : Int) (no : Bool) (args : List Ex) (hk : OpShape k o no args.length) (ha : ∀ x ∈ args, AnyX n x) : AnyX (n + 1) (opX k o no args [])
  | sub (n : Nat) (k : Int) (f : ByteArray) (items whr : List Ex) (hf : f ∈ fromL) (hi : ((k = 8 ∨ k = 9) ∧ items = []) ∨ ((k = 10 ∨ k = 11 ∨ k = 12) ∧ items.length = 1)) (hw : whr.length ≤ 1) (h1 : ∀ x ∈ items, AnyX n x) (h2 : ∀ x ∈ whr, AnyX n x) :
      AnyX (n + 1) (opX k 0 false [] [.mk (k == 8) items f whr])

theorem AnyX.up {n m : Nat} {e : Ex} (h : AnyX n e) (hm : n ≤ m) : AnyX m e := by
  induction h generalizing m with
  | col n q i hq hi => exact .col m q i hq hi
  | lit n v hv h0 => exact .lit m v hv h0
  | ops n k o no args hk ha ih =>
    obtain ⟨m, rfl⟩ : ∃ j, m = j + 1 := ⟨m - 1, by omega⟩
    exact .ops m k o no args hk fun x hx => ih x hx (by omega)
  | sub n k f items whr hf hi hw h1 h2 ih1 ih2 =>
    obtain ⟨m, rfl⟩ : ∃ j, m = j + 1 := ⟨m - 1, by omega⟩
    exact .sub m k f items whr hf hi hw (fun x hx => ih1 x hx (by omega)) fun x hx => ih2 x hx (by omega)
end Go.Proofs.YtkhlmofcdchccaaGreatDoor

namespace Go.Proofs.YtkhlmofcdchccaaGreatDoor
open Go.RowKit

section
variable (o : Int) (no : Bool) (vk vi : Int) (tx t nm : ByteArray) (va vs : Value) (w : World)

end

end Go.Proofs.YtkhlmofcdchccaaGreatDoor
namespace Go.Proofs.YtkhlmofcdchccaaGreatDoor
open Go.RowKit

/-- Tokens lie one behind another, inside the text. -/
def Asc (lo hi : Nat) : List (Int × ByteArray × Nat) → Prop
  | [] => True
  | x :: l => lo ≤ x.2.2 ∧ x.2.2 < hi ∧ Asc (x.2.2 + 1) hi l
theorem Asc.low {lo lo' hi : Nat} : ∀ {l : List (Int × ByteArray × Nat)}, Asc lo' hi l → lo ≤ lo' → Asc lo hi l
  | [], _, _ => trivial
  | _ :: _, ⟨h1, h2, h3⟩, h => ⟨by omega, h2, h3⟩
end Go.Proofs.YtkhlmofcdchccaaGreatDoor

namespace Go.Proofs.YtkhlmofcdchccaaGreatDoor
open Go.RowKit

end Go.Proofs.YtkhlmofcdchccaaGreatDoor

namespace Go.Proofs.YtkhlmofcdchccaaGreatDoor
open Go.RowKit


end Go.Proofs.YtkhlmofcdchccaaGreatDoor

namespace Go.Proofs.YtkhlmofcdchccaaGreatDoor
open Go.RowKit

end Go.Proofs.YtkhlmofcdchccaaGreatDoor

namespace Go.Proofs.YtkhlmofcdchccaaGreatDoor
open Go.RowKit

end Go.Proofs.YtkhlmofcdchccaaGreatDoor

namespace Go.Proofs.YtkhlmofcdchccaaGreatDoor
open Go.RowKit

end Go.Proofs.YtkhlmofcdchccaaGreatDoor

namespace Go.Proofs.YtkhlmofcdchccaaGreatDoor
open Go.RowKit

end Go.Proofs.YtkhlmofcdchccaaGreatDoor

namespace Go.Proofs.YtkhlmofcdchccaaGreatDoor
open Go.RowKit


end Go.Proofs.YtkhlmofcdchccaaGreatDoor

namespace Go.Proofs.YtkhlmofcdchccaaGreatDoor
open Go.RowKit

end Go.Proofs.YtkhlmofcdchccaaGreatDoor

namespace Go.Proofs.YtkhlmofcdchccaaGreatDoor
open Go.RowKit

end Go.Proofs.YtkhlmofcdchccaaGreatDoor
namespace Go.Proofs.YtkhlmofcdchccaaGreatDoor
open Go.RowKit

/-- None of the names stands among those seen, nor twice. -/
def distA (seen : List ByteArray) : List ByteArray → Bool
  | [] => true
  | s :: l => !(seen.any fun x => x.toList == s.toList) && distA (seen ++ [s]) l
end Go.Proofs.YtkhlmofcdchccaaGreatDoor
namespace Go.Proofs.YtkhlmofcdchccaaGreatDoor
open Go.RowKit

theorem distA_iff : ∀ (l seen : List ByteArray), distA seen l = true ↔ (∀ x ∈ l, ∀ y ∈ seen, y.toList ≠ x.toList) ∧ l.Pairwise fun a b => a.toList ≠ b.toList
  | [], seen => by simp [distA]
  | s :: l, seen => by
    rw [distA, Bool.and_eq_true, distA_iff l (seen ++ [s]), List.pairwise_cons]
    simp only [Bool.not_eq_true', List.any_eq_false, beq_iff_eq, List.mem_append, List.mem_cons, List.not_mem_nil, or_false]
    constructor
    · rintro ⟨h1, h2, h3⟩
      refine ⟨fun x hx y hy => ?_, fun x hx => h2 x hx s (Or.inr rfl), h3⟩
      rcases hx with rfl | hx
      · exact h1 y hy
      · exact h2 x hx y (.inl hy)
    · rintro ⟨h1, h2, h3⟩
      refine ⟨fun y hy => h1 s (.inl rfl) y hy, fun x hx y hy => ?_, h3⟩
      rcases hy with hy | rfl
      · exact h1 x (.inr hx) y hy
      · exact h2 x hx
theorem dist_no {l : List ByteArray} {i j : Nat} {a b : ByteArray} (h : i < j) (ha : l[i]? = some a) (hb : l[j]? = some b) (he : (a.toList == b.toList) = true) : distA [] l = false := by
  refine Bool.eq_false_iff.2 fun hd => ?_
  have hp := ((distA_iff l []).1 hd).2
  rw [List.pairwise_iff_getElem] at hp
  obtain ⟨hi, rfl⟩ := List.getElem?_eq_some_iff.1 ha
  obtain ⟨hj, rfl⟩ := List.getElem?_eq_some_iff.1 hb
  exact hp i j hi hj h (by simpa using he)
theorem dist_yes {l : List ByteArray} (h : ∀ (i k : Nat) (x y : ByteArray), i < k → k < l.length → l[i]? = some x → l[k]? = some y → (x.toList == y.toList) = false) : distA [] l = true := by
  refine (distA_iff l []).2 ⟨fun x _ y hy => (by cases hy), List.pairwise_iff_getElem.2 fun i j hi hj hij => ?_⟩
  have := h i j l[i] l[j] hij hj (List.getElem?_eq_getElem hi) (List.getElem?_eq_getElem hj)
  simpa using this
end Go.Proofs.YtkhlmofcdchccaaGreatDoor
