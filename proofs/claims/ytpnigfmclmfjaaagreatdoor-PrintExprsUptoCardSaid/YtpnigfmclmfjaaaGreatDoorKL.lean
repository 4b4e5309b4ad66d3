/- Levels and precedences of expressions, over plain trees. No program is named here. Precedences: contracts of Precedence and Least. The contract of Least. Levels: contracts of greatest, levelsOfQuery and LevelsOf. Levels of an expression with a query: contract of levelsOfQuery. The expressions that AnyExpr makes, as plain trees, and their levels. Levels of an expression: the contract of LevelsOf, for every expression. -/
import Derived.Test.YtpnigfmclmfjaaaGreatDoorKB
import Derived.Test.YtpnigfmclmfjaaaGreatDoorKV3
import Derived.Test.YtpnigfmclmfjaaaGreatDoorKC4
import Derived.Test.YtpnigfmclmfjaaaGreatDoorKD1
import Derived.Test.YtpnigfmclmfjaaaGreatDoorKD2
namespace Go.Proofs.YtpnigfmclmfjaaaGreatDoor
open Go.RowKit

/-- How strongly a kind and an operator bind. -/
def opPrec (o : Int) : Int := if o = 1 then 1 else if o = 2 then 2 else if 3 ≤ o ∧ o ≤ 8 then 4 else if o = 9 ∨ o = 10 then 5 else if 11 ≤ o ∧ o ≤ 13 then 6 else 8
def precP (k o : Int) : Int := if k = 3 then 3 else if k = 6 ∨ k = 7 then 4 else if k = 4 then 7 else if k = 5 then opPrec o else 8
/-- The least precedence of the argument i that is written without parentheses. -/
def leastP (k o : Int) (i : Nat) : Int := let p := precP k o; if p = 1 ∨ p = 2 ∨ p = 5 ∨ p = 6 then p + min i 1 else if p = 3 ∨ p = 7 then p else if p = 4 then 5 else 1

theorem precP_range (k o : Int) : 1 ≤ precP k o ∧ precP k o ≤ 8 := by
  unfold precP opPrec
  repeat' split
  all_goals omega

mutual
/-- The levels of an expression. -/
def levP : Ex → Nat
  | .mk k o _ _ _ _ args sub =>
    if k = 1 ∨ k = 2 then 0
    else if 8 ≤ k ∧ k ≤ 12 then levQ k sub
    else levA k o 0 args + (if k = 3 ∨ k = 4 then 1 else 0)
def levA (k o : Int) (i : Nat) : List Ex → Nat
  | [] => 0
  | e :: es => max (levP e + (if precP e.kind e.op < leastP k o i then 1 else 0)) (levA k o (i + 1) es)
def levQ (k : Int) : List Qu → Nat
  | [] => 1
  | .mk _ items _ whr :: qs => max (max (1 + levM whr) (if k = 8 then 0 else 2 + levM items)) (levQ k qs)
def levM : List Ex → Nat
  | [] => 0
  | e :: es => max (levP e) (levM es)
end

theorem levA_le {k o : Int} : ∀ {es : List Ex} {i : Nat} {e : Ex}, e ∈ es → levP e ≤ levA k o i es
  | x :: es, i, e, h => by
    rw [levA]
    rcases List.mem_cons.1 h with rfl | h
    · exact Nat.le_trans (Nat.le_add_right _ _) (Nat.le_max_left _ _)
    · exact Nat.le_trans (levA_le h) (Nat.le_max_right _ _)
theorem levM_le : ∀ {es : List Ex} {e : Ex}, e ∈ es → levP e ≤ levM es
  | x :: es, e, h => by
    rw [levM]
    rcases List.mem_cons.1 h with rfl | h
    · exact Nat.le_max_left _ _
    · exact Nat.le_trans (levM_le h) (Nat.le_max_right _ _)
theorem levQ_whr {k : Int} : ∀ {qs : List Qu} {q : Qu} {e : Ex}, q ∈ qs → e ∈ q.whr → levP e < levQ k qs
  | .mk s it f wh :: qs, q, e, h, he => by
    rw [levQ]
    rcases List.mem_cons.1 h with rfl | h
    · have := levM_le (show e ∈ wh from he)
      omega
    · have := levQ_whr h he (k := k)
      omega
theorem levQ_items {k : Int} (hk : k ≠ 8) : ∀ {qs : List Qu} {q : Qu} {e : Ex}, q ∈ qs → e ∈ q.items → levP e < levQ k qs
  | .mk s it f wh :: qs, q, e, h, he => by
    rw [levQ, if_neg hk]
    rcases List.mem_cons.1 h with rfl | h
    · have := levM_le (show e ∈ it from he)
      omega
    · have := levQ_items hk h he
      omega
end Go.Proofs.YtpnigfmclmfjaaaGreatDoor

namespace Go.Proofs.YtpnigfmclmfjaaaGreatDoor
open Go.RowKit

set_option maxHeartbeats 2000000 in
theorem prec_any (k o : Int) (no : Bool) (vk vi : Int) (vs t nm : ByteArray) (va vq : Value) (w : World) : Calls Tryz.prog 61 #[.agg #[.int .i64 k, .int .i64 o, .bool no, .int .i64 vk, .int .i64 vi, .string vs, .string t, .string nm, va, vq]] w (RetBel (.int .i64 (precP k o)) w) := by
  have HP := Lib.hid (show precP k o = precP k o from rfl)
  generalize hp : precP k o = p at HP ⊢
  have HQ := Lib.hid hp
  clear hp HP
  go_enter Tryz.func61, Tryz.ntmps61
  go_wp2
  all_goals go_ret
  all_goals
    refine ⟨?_, by go_grown⟩
    rw [← HQ.out]
    first
      | (simp_all [precP, opPrec]; done)
      | (simp_all [precP, opPrec]; (repeat' split) <;> omega)
end Go.Proofs.YtpnigfmclmfjaaaGreatDoor

namespace Go.Proofs.YtpnigfmclmfjaaaGreatDoor
open Go.RowKit

set_option maxHeartbeats 2000000 in
theorem least_any (k o : Int) (no : Bool) (vk vi : Int) (vs t nm : ByteArray) (va vq : Value) (i : Nat) (w : World) : Calls Tryz.prog 157 #[.agg #[.int .i64 k, .int .i64 o, .bool no, .int .i64 vk, .int .i64 vi, .string vs, .string t, .string nm, va, vq], .int .i64 i] w (RetBel (.int .i64 (leastP k o i)) w) := by
  have hp := fun wx => prec_any k o no vk vi vs t nm va vq wx
  have hr := precP_range k o
  have hl : leastP k o i = (if precP k o = 1 ∨ precP k o = 2 ∨ precP k o = 5 ∨ precP k o = 6 then precP k o + min i 1 else if precP k o = 3 ∨ precP k o = 7 then precP k o else if precP k o = 4 then 5 else 1) := rfl
  rw [hl]
  clear hl
  generalize precP k o = p at hp hr ⊢
  have h8 : p = 1 ∨ p = 2 ∨ p = 3 ∨ p = 4 ∨ p = 5 ∨ p = 6 ∨ p = 7 ∨ p = 8 := by omega
  clear hr
  have hi : i = 0 ∨ 1 ≤ i := by omega
  rcases h8 with rfl | rfl | rfl | rfl | rfl | rfl | rfl | rfl
  all_goals
    have HP := Lib.hid hp
    clear hp
    rcases hi with rfl | hi
    all_goals
      go_enter Tryz.func157, Tryz.ntmps157
      go_wp2_with ((go_at_call 61); (refine (HP.out _).mono ?_); rintro e w1 ⟨rfl, hb⟩; have HB := Lib.hid hb; clear hb)
      all_goals
        go_ret
        refine ⟨?_, Below.trans ((Below.refl _ _).alloc (Nat.le_refl _) _) (HB.out.mono (by simp))⟩
        first
          | rfl
          | (simp; omega)
end Go.Proofs.YtpnigfmclmfjaaaGreatDoor

namespace Go.Proofs.YtpnigfmclmfjaaaGreatDoor
open Go.RowKit

/-- LevelsOf answers for e, wherever it lies. -/
def LevOk (M : Nat → Prop) (e : Ex) : Prop := ∀ (cs : List Value) (w : World), EC M w e cs → levP e ≤ 1000000000 → Calls Tryz.prog 60 #[.agg cs.toArray] w (RetBel (.int .i64 (levP e)) w)

theorem levM_snoc : ∀ (l : List Ex) (x : Ex), levM (l ++ [x]) = max (levM l) (levP x)
  | [], x => by simp [levM]
  | y :: l, x => by
    rw [List.cons_append, levM, levM, levM_snoc l x, Nat.max_assoc]
theorem levM_take {l : List Ex} {j : Nat} {x : Ex} (h : l[j]? = some x) : levM (l.take (j + 1)) = max (levM (l.take j)) (levP x) := by
  rw [List.take_add_one, h, ← levM_snoc]
  rfl
theorem levA_snoc (k o : Int) : ∀ (l : List Ex) (x : Ex) (i : Nat), levA k o i (l ++ [x]) = max (levA k o i l) (levP x + (if precP x.kind x.op < leastP k o (i + l.length) then 1 else 0))
  | [], x, i => by simp [levA]
  | y :: l, x, i => by
    rw [List.cons_append, levA, levA, levA_snoc k o l x (i + 1), Nat.max_assoc, List.length_cons, show i + 1 + l.length = i + (l.length + 1) by omega]
theorem levQ_snoc (k : Int) : ∀ (l : List Qu) (q : Qu), levQ k (l ++ [q]) = max (levQ k l) (max (1 + levM q.whr) (if k = 8 then 0 else 2 + levM q.items))
  | [], .mk s it f wh => by
    show levQ k [.mk s it f wh] = _
    rw [levQ, levQ, Nat.max_comm]
    rfl
  | .mk s it f wh :: l, q => by
    rw [List.cons_append, levQ, levQ, levQ_snoc k l q]
    simp only [Nat.max_assoc]

theorem levM_take_le (l : List Ex) (j : Nat) : levM (l.take j) ≤ levM l := by
  rw [show levM l = levM (l.take j ++ l.drop j) by rw [List.take_append_drop]]
  have : ∀ (a b : List Ex), levM a ≤ levM (a ++ b) := fun a b => by
    induction a with
    | nil => exact Nat.zero_le _
    | cons x a ih => rw [List.cons_append, levM, levM]; omega
  exact this _ _

set_option maxHeartbeats 2000000 in
theorem greatest_any {M : Nat → Prop} (es : List Ex) (hall : ∀ e ∈ es, LevOk M e) (v : Value) (w : World) (h : ExsR M w v es) (hb : levM es ≤ 1000000000) : Calls Tryz.prog 137 #[v] w (RetBel (.int .i64 (levM es)) w) := by
  obtain ⟨a, c, rfl, hm⟩ := h.shape
  unfold maxLen at hm
  have HA := Lib.hid h
  have HALL := Lib.hid hall
  have HB := Lib.hid hb
  clear h hall hb
  go_enter Tryz.func137, Tryz.ntmps137
  go_wp2_with fail
  go_loopw [3, 8] (fun m i wr => ∃ j : Nat, j ≤ es.length ∧ i = .int .i64 j ∧ m = .int .i64 (levM (es.take j)) ∧ Below w.heap.size w wr) (fun _ i _ => es.length - (intOf i).toNat)
  case atStart => exact ⟨0, Nat.zero_le _, rfl, rfl, Below.refl _ _⟩
  case round =>
    rename World => wr
    obtain ⟨j, hj, rfl, rfl, hbel⟩ := hrel
    by_cases hlt : j < es.length
    · rcases HA.out.open with ⟨_, h⟩ | ⟨ab, ao, cap', hv', _, hab, _, _, hx⟩
      · rw [h] at hlt; simp at hlt
      simp only [Value.slice.injEq] at hv'
      obtain ⟨rfl, _, rfl⟩ := hv'
      have hxj : es[j]? = some es[j] := List.getElem?_eq_getElem hlt
      obtain ⟨cs, hc, _, hcs⟩ := hx j _ hxj
      have hmem := List.mem_of_getElem? hxj
      have htk := levM_take hxj
      have hle := levM_le hmem
      generalize es[j] = x at hxj hc hmem htk hle
      have hcw := fun wx (k : Below w.heap.size w wx) => EC.keep (M := M) (.bel k) x cs hc
      have hlx := fun wx (k : Below w.heap.size w wx) => HALL.out x hmem cs wx (hcw wx k) (Nat.le_trans hle HB.out)
      have hcs' := hcs.keep (M := NoM) (Keep.bel hbel) id
      obtain ⟨va, vs, rfl, hva, hvs⟩ := (EC_iff ..).1 hc
      obtain ⟨xa, xac, rfl, _⟩ := hva.shape
      obtain ⟨xs, xsc, rfl, _⟩ := hvs.shape
      obtain ⟨c0, c1, c2, c3, c4, c5, c6, c7, c8, c9⟩ := CellsAt.c10 hcs'
      simp only [exCells] at hlx
      have HLX := Lib.hid hlx
      have HBE := Lib.hid hbel
      have HTK := Lib.hid htk
      have HLT := Lib.hid hlt
      have i0 : (0 : Int) ≤ (j : Int) := by omega
      have i1 : (j : Int) < (es.length : Int) := by omega
      clear hlx hbel htk hx hc hcs hcs' hcw hva hvs hxj hmem hle
      go_wp2_with ((go_at_call 60); (refine (HLX.out _ (HBE.out.alloc HBE.out.size _)).mono ?_); rintro e w2 ⟨rfl, hb⟩; have HB2 := Lib.hid ((HBE.out.alloc HBE.out.size _).trans (hb.mono (by have := HBE.out.size; simp; omega))); clear hb)
      go_roundw
      case rel =>
        have hlt2 := HLT.out
        exact ⟨j + 1, by omega, by go_num, by rw [HTK.out]; congr 1; omega, HB2.out⟩
      case measure =>
        have hlt2 := HLT.out
        simp [intOf]
        omega
    · obtain rfl : j = es.length := by omega
      rw [List.take_length]
      have HBE := Lib.hid hbel
      clear hbel
      go_wp2_with fail
      go_ret
      exact ⟨rfl, HBE.out⟩
end Go.Proofs.YtpnigfmclmfjaaaGreatDoor

namespace Go.Proofs.YtpnigfmclmfjaaaGreatDoor
open Go.RowKit

theorem levQ_take {k : Int} {l : List Qu} {j : Nat} {q : Qu} (h : l[j]? = some q) : levQ k (l.take (j + 1)) = max (levQ k (l.take j)) (max (1 + levM q.whr) (if k = 8 then 0 else 2 + levM q.items)) := by
  rw [List.take_add_one, h, ← levQ_snoc]
  rfl

theorem levQ_take_le (k : Int) (l : List Qu) (j : Nat) : levQ k (l.take j) ≤ levQ k l := by
  rw [show levQ k l = levQ k (l.take j ++ l.drop j) by rw [List.take_append_drop]]
  have : ∀ (a b : List Qu), levQ k a ≤ levQ k (a ++ b) := fun a b => by
    induction a with
    | nil =>
      rw [List.nil_append, levQ]
      cases b with
      | nil => simp [levQ]
      | cons q b => obtain ⟨s, it, f, wh⟩ := q; rw [levQ]; omega
    | cons x a ih => obtain ⟨s, it, f, wh⟩ := x; rw [List.cons_append, levQ, levQ]; omega
  exact this _ _

set_option maxRecDepth 100000 in
set_option maxHeartbeats 2000000 in
theorem query_levels {M : Nat → Prop} (k o : Int) (no : Bool) (vk vi : Int) (tx t nm : ByteArray) (va vs : Value) (sub : List Qu) (w : World)
    (hall : ∀ q ∈ sub, (∀ e ∈ q.items, LevOk M e) ∧ (∀ e ∈ q.whr, LevOk M e)) (hmax : levQ k sub ≤ 1000000000) (h : QusR M w vs sub) :
    Calls Tryz.prog 156 #[.agg #[.int .i64 k, .int .i64 o, .bool no, .int .i64 vk, .int .i64 vi, .string tx, .string t, .string nm, va, vs]] w (RetBel (.int .i64 (levQ k sub)) w) := by
  obtain ⟨a, c, rfl, hm⟩ := h.shape
  unfold maxLen at hm
  have HA := Lib.hid h
  have HALL := Lib.hid hall
  have HMAX := Lib.hid hmax
  clear h hall hmax
  go_enter Tryz.func156, Tryz.ntmps156
  go_wp2_with fail
  generalize hW : World.alloc w _ = W1
  have hk0 : Hid (W1.cell? ⟨w.heap.size, 0, none⟩ = some (.int .i64 k)) := Lib.hid (by rw [← hW]; simp)
  have hb1 : Below w.heap.size w W1 := by rw [← hW]; exact (Below.refl _ _).alloc (Nat.le_refl _) _
  have hz : w.heap.size < W1.heap.size := by rw [← hW]; simp
  clear hW
  have HB1 := Lib.hid hb1
  clear hb1
  go_loopw [3, 9] (fun m i wr => ∃ j : Nat, j ≤ sub.length ∧ i = .int .i64 j ∧ m = .int .i64 (levQ k (sub.take j)) ∧ Below W1.heap.size W1 wr) (fun _ i _ => sub.length - (intOf i).toNat)
  case atStart => exact ⟨0, Nat.zero_le _, rfl, by simp [levQ], Below.refl _ _⟩
  case round =>
    rename World => wr
    obtain ⟨j, hj, rfl, rfl, hbel⟩ := hrel
    have HBE := Lib.hid hbel
    have HBW := Lib.hid (HB1.out.trans (hbel.mono (Nat.le_of_lt hz)))
    by_cases hlt : j < sub.length
    · rcases HA.out.open with ⟨_, h⟩ | ⟨ab, ao, cap', hv', _, hab, _, _, hx⟩
      · rw [h] at hlt; simp at hlt
      simp only [Value.slice.injEq] at hv'
      obtain ⟨rfl, _, rfl⟩ := hv'
      have hxj : sub[j]? = some sub[j] := List.getElem?_eq_getElem hlt
      obtain ⟨cs, hc, _, hcs⟩ := hx j _ hxj
      have hmem := List.mem_of_getElem? hxj
      have htk := levQ_take (k := k) hxj
      have hq6 : levQ k (sub.take j) ≤ 1000000000 := Nat.le_trans (levQ_take_le ..) HMAX.out
      have hq7 : levQ k (sub.take (j + 1)) ≤ 1000000000 := Nat.le_trans (levQ_take_le ..) HMAX.out
      generalize sub[j] = q at hxj hc hmem htk
      obtain ⟨g1, g2⟩ := HALL.out q hmem
      have hcs' := hcs.keep (M := NoM) (Keep.bel HBW.out) id
      obtain ⟨vi', vw, rfl, hvi, hvw⟩ := (QC_iff ..).1 hc
      obtain ⟨ia, iac, rfl, _⟩ := hvi.shape
      obtain ⟨wa, wac, rfl, _⟩ := hvw.shape
      obtain ⟨c0, c1, c2, c3⟩ := hcs'.c4
      have hgi := fun (h8 : levM q.items ≤ 1000000000) wx (kb : Below w.heap.size w wx) => greatest_any (M := M) q.items g1 _ wx (RowsR.map hvi (Keep.bel kb) fun x _ cs h => EC.keep (.bel kb) x cs h) h8
      have hgw := fun (h8 : levM q.whr ≤ 1000000000) wx (kb : Below w.heap.size w wx) => greatest_any (M := M) q.whr g2 _ wx (RowsR.map hvw (Keep.bel kb) fun x _ cs h => EC.keep (.bel kb) x cs h) h8
      rw [htk] at hq7
      generalize levM q.items = gi at hgi htk hq7
      generalize levM q.whr = gw at hgw htk hq7
      generalize q.items.length = il at c1 hgi
      generalize q.whr.length = wl at c3 hgw
      generalize q.star = qs at c0
      generalize q.frm = qf at c2
      have HGW := Lib.hid (hgw (by omega))
      have HLT := Lib.hid hlt
      have d0 := (HBE.out.cell (p := ⟨w.heap.size, 0, none⟩) hz).trans hk0.out
      have i0 : (0 : Int) ≤ (j : Int) := by omega
      have i1 : (j : Int) < (sub.length : Int) := by omega
      have g4 : gw ≤ 1000000000 := by omega
      clear hgw hx hc hcs hcs' hvi hvw hxj hmem hbel g1 g2
      by_cases h8 : k = 8
      · subst h8
        rw [if_pos rfl] at htk
        generalize levQ 8 (sub.take j) = mq at htk hq6 ⊢
        have HTK := Lib.hid htk
        clear htk hq7 hgi
        go_wp2_with fail
        refine (HGW.out _ (HBW.out.alloc HBW.out.size _)).mono ?_
        rintro e w2 ⟨rfl, hb⟩
        have HB2 := Lib.hid ((HBE.out.alloc HBE.out.size _).trans (hb.mono (by have := HBE.out.size; simp; omega)))
        have d2 := (HB2.out.cell (p := ⟨w.heap.size, 0, none⟩) hz).trans hk0.out
        have e1 : w2.cell? ⟨wr.heap.size, 1, none⟩ = some (.slice ia il iac) := (hb.cell (by simp)).trans (by simp)
        clear hb d0 c0 c1 c2 c3
        dsimp only
        go_wp2_with fail
        go_roundw
        case rel =>
          have hlt2 := HLT.out
          exact ⟨j + 1, by omega, by go_num, by rw [HTK.out]; congr 1; omega, HB2.out⟩
        case measure =>
          have hlt2 := HLT.out
          simp [intOf]
          omega
      · have bz : (k != 8) = true := by simpa using h8
        rw [if_neg h8] at htk hq7
        have HGI := Lib.hid (hgi (by omega))
        have g5 : gi ≤ 1000000000 := by omega
        generalize levQ k (sub.take j) = mq at htk hq6 hq7 ⊢
        have HTK := Lib.hid htk
        clear htk hq7 hgi
        go_wp2_with fail
        refine (HGW.out _ (HBW.out.alloc HBW.out.size _)).mono ?_
        rintro e w2 ⟨rfl, hb⟩
        have HB2 := Lib.hid ((HBE.out.alloc HBE.out.size _).trans (hb.mono (by have := HBE.out.size; simp; omega)))
        have d2 := (HB2.out.cell (p := ⟨w.heap.size, 0, none⟩) hz).trans hk0.out
        have e1 : w2.cell? ⟨wr.heap.size, 1, none⟩ = some (.slice ia il iac) := (hb.cell (by simp)).trans (by simp)
        clear hb d0 c0 c1 c2 c3
        dsimp only
        go_wp2_with fail
        refine (HGI.out _ (HB1.out.trans (HB2.out.mono (Nat.le_of_lt hz)))).mono ?_
        rintro e w3 ⟨rfl, hb⟩
        have HB3 := Lib.hid (HB2.out.trans (hb.mono HB2.out.size))
        clear hb d2 e1
        dsimp only
        go_wp2_with fail
        go_roundw
        case rel =>
          have hlt2 := HLT.out
          exact ⟨j + 1, by omega, by go_num, by rw [HTK.out]; congr 1; omega, HB3.out⟩
        case measure =>
          have hlt2 := HLT.out
          simp [intOf]
          omega
    · obtain rfl : j = sub.length := by omega
      rw [List.take_length]
      clear hbel
      go_wp2_with fail
      go_ret
      exact ⟨rfl, HBW.out⟩
end Go.Proofs.YtpnigfmclmfjaaaGreatDoor

namespace Go.Proofs.YtpnigfmclmfjaaaGreatDoor
open Go.RowKit

def qualL : List ByteArray := [es, bs [78, 69, 87], bs [79, 76, 68], bs [73, 78, 83, 69, 82, 84, 69, 68], bs [116], bs [117]]
def fromL : List ByteArray := [bs [116], bs [117], bs [108, 111, 103], bs [73, 78, 83, 69, 82, 84, 69, 68], bs [68, 69, 76, 69, 84, 69, 68]]

/-- What AnyExpr makes at a depth. -/
inductive AnyX : Nat → Ex → Prop
  | col (n : Nat) (q : ByteArray) (i : Nat) (hq : q ∈ qualL) (hi : i < 8) : AnyX n (colX q (nameAt i))
  | lit (n : Nat) (v : Val) (hv : ValidVal v) (h0 : v.kind = 1 → 0 ≤ v.int) : AnyX n (litX v)
  | ops (n : Nat) (k o : Int) (no : Bool) (args : List Ex) (hk : OpShape k o no args.length) (ha : ∀ x ∈ args, AnyX n x) : AnyX (n + 1) (opX k o no args [])
  | sub (n : Nat) (k : Int) (f : ByteArray) (items whr : List Ex) (hf : f ∈ fromL) (hi : ((k = 8 ∨ k = 9) ∧ items = []) ∨ ((k = 10 ∨ k = 11 ∨ k = 12) ∧ items.length = 1)) (hw : whr.length ≤ 1) (h1 : ∀ x ∈ items, AnyX n x) (h2 : ∀ x ∈ whr, AnyX n x) :
      AnyX (n + 1) (opX k 0 false [] [.mk (k == 8) items f whr])

theorem levA_max {k o : Int} {m : Nat} : ∀ (l : List Ex) (i : Nat), (∀ x ∈ l, levP x ≤ m) → levA k o i l ≤ m + 1
  | [], i, _ => by simp [levA]
  | x :: l, i, h => by
    rw [levA]
    have h1 := h x (by simp)
    have h2 := levA_max (k := k) (o := o) l (i + 1) fun y hy => h y (by simp [hy])
    have h3 : (if precP x.kind x.op < leastP k o i then 1 else 0) ≤ 1 := by split <;> omega
    omega
theorem levM_max {m : Nat} : ∀ (l : List Ex), (∀ x ∈ l, levP x ≤ m) → levM l ≤ m
  | [], _ => by simp [levM]
  | x :: l, h => by
    rw [levM]
    have h1 := h x (by simp)
    have h2 := levM_max l fun y hy => h y (by simp [hy])
    omega
theorem levM_whr {k : Int} : ∀ {qs : List Qu} {q : Qu}, q ∈ qs → levM q.whr < levQ k qs
  | .mk s it f wh :: qs, q, h => by
    rw [levQ]
    rcases List.mem_cons.1 h with rfl | h
    · show levM wh < _
      omega
    · have := levM_whr h (k := k)
      omega
theorem levM_items {k : Int} (hk : k ≠ 8) : ∀ {qs : List Qu} {q : Qu}, q ∈ qs → levM q.items < levQ k qs
  | .mk s it f wh :: qs, q, h => by
    rw [levQ, if_neg hk]
    rcases List.mem_cons.1 h with rfl | h
    · show levM it < _
      omega
    · have := levM_items hk h
      omega

theorem levP_leaf {e : Ex} (h : e.kind = 1 ∨ e.kind = 2) : levP e = 0 := by
  obtain ⟨k, o, no, v, t, nm, args, sub⟩ := e
  simp only [Ex.kind] at h
  rw [levP, if_pos h]
theorem levP_query {e : Ex} (h : 8 ≤ e.kind ∧ e.kind ≤ 12) : levP e = levQ e.kind e.sub := by
  obtain ⟨k, o, no, v, t, nm, args, sub⟩ := e
  simp only [Ex.kind] at h
  rw [levP, if_neg (by omega), if_pos h]
  rfl
theorem levP_op {e : Ex} (h1 : ¬(e.kind = 1 ∨ e.kind = 2)) (h2 : ¬(8 ≤ e.kind ∧ e.kind ≤ 12)) : levP e = levA e.kind e.op 0 e.args + (if e.kind = 3 ∨ e.kind = 4 then 1 else 0) := by
  obtain ⟨k, o, no, v, t, nm, args, sub⟩ := e
  simp only [Ex.kind] at h1 h2
  rw [levP, if_neg h1, if_neg h2]
  rfl

theorem opShape_kind {k o : Int} {no : Bool} {n : Nat} (h : OpShape k o no n) : ¬(k = 1 ∨ k = 2) ∧ ¬(8 ≤ k ∧ k ≤ 12) ∧ n ≤ 3 := by
  unfold OpShape at h
  omega

theorem any_levels {n : Nat} {e : Ex} (h : AnyX n e) : levP e ≤ 2 * n := by
  induction h with
  | col => rw [levP_leaf (.inr rfl)]; exact Nat.zero_le _
  | lit => rw [levP_leaf (.inl rfl)]; exact Nat.zero_le _
  | ops n k o no args hk ha ih =>
    obtain ⟨h1, h2, _⟩ := opShape_kind hk
    rw [levP_op (e := opX k o no args []) h1 h2]
    have := levA_max (k := k) (o := o) args 0 ih
    show levA k o 0 args + (if k = 3 ∨ k = 4 then 1 else 0) ≤ _
    have h3 : (if k = 3 ∨ k = 4 then 1 else 0) ≤ 1 := by split <;> omega
    omega
  | sub n k f items whr hf hi hw h1 h2 ih1 ih2 =>
    rw [levP_query (by simp only [opX, Ex.kind]; omega)]
    have a := levM_max items ih1
    have b := levM_max whr ih2
    simp only [opX, Ex.kind, Ex.sub, levQ]
    split <;> omega

/-- The parts' levels. -/
theorem any_args {n : Nat} {e : Ex} (h : AnyX n e) : ∀ a ∈ e.args, levP a ≤ levP e ∧ (e.kind = 3 → levP a < levP e) := by
  cases h with
  | col => intro a ha; cases ha
  | lit => intro a ha; cases ha
  | ops n k o no args hk ha' =>
    intro a ha
    obtain ⟨h1, h2, _⟩ := opShape_kind hk
    rw [levP_op (e := opX k o no args []) h1 h2]
    have := levA_le (k := k) (o := o) (i := 0) (show a ∈ args from ha)
    show levP a ≤ levA k o 0 args + (if k = 3 ∨ k = 4 then 1 else 0) ∧ (k = 3 → levP a < levA k o 0 args + (if k = 3 ∨ k = 4 then 1 else 0))
    refine ⟨by omega, fun h3 => ?_⟩
    rw [if_pos (.inl h3)]
    omega
  | sub => intro a ha; cases ha
theorem any_sub {n : Nat} {e : Ex} (h : AnyX n e) : ∀ q ∈ e.sub, ∀ x ∈ q.items ++ q.whr, levP x < levP e := by
  cases h with
  | col => intro a ha; cases ha
  | lit => intro a ha; cases ha
  | ops => intro a ha; cases ha
  | sub n k f items whr hf hi hw h1 h2 =>
    intro q hq x hx
    rw [levP_query (e := opX k 0 false [] [.mk (k == 8) items f whr]) (by simp only [opX, Ex.kind]; omega)]
    rcases List.mem_append.1 hx with hx | hx
    · by_cases h8 : k = 8
      · obtain rfl : q = .mk (k == 8) items f whr := List.mem_singleton.1 hq
        rcases hi with ⟨_, rfl⟩ | ⟨hi, _⟩
        · cases hx
        · omega
      · exact levQ_items (k := k) h8 hq hx
    · exact levQ_whr (k := k) hq hx

theorem lev_not (e : Ex) : levP (opX 3 0 false [e] []) = levP e + 1 + (if precP e.kind e.op < 3 then 1 else 0) := by
  rw [levP_op (e := opX 3 0 false [e] []) (by simp [opX, Ex.kind]) (by simp [opX, Ex.kind])]
  show levA 3 0 0 [e] + 1 = _
  rw [levA, levA, show leastP 3 0 0 = 3 from rfl]
  omega

theorem AnyX.up {n m : Nat} {e : Ex} (h : AnyX n e) (hm : n ≤ m) : AnyX m e := by
  induction h generalizing m with
  | col n q i hq hi => exact .col m q i hq hi
  | lit n v hv h0 => exact .lit m v hv h0
  | ops n k o no args hk ha ih =>
    obtain ⟨m, rfl⟩ : ∃ j, m = j + 1 := ⟨m - 1, by omega⟩
    exact .ops m k o no args hk fun x hx => ih x hx (by omega)
  | sub n k f items whr hf hi hw h1 h2 ih1 ih2 =>
    obtain ⟨m, rfl⟩ : ∃ j, m = j + 1 := ⟨m - 1, by omega⟩
    exact .sub m k f items whr hf hi hw (fun x hx => ih1 x hx (by omega)) fun x hx => ih2 x hx (by omega)
end Go.Proofs.YtpnigfmclmfjaaaGreatDoor

namespace Go.Proofs.YtpnigfmclmfjaaaGreatDoor
open Go.RowKit

theorem levA_take {k o : Int} {l : List Ex} {j : Nat} {x : Ex} (h : l[j]? = some x) : levA k o 0 (l.take (j + 1)) = max (levA k o 0 (l.take j)) (levP x + (if precP x.kind x.op < leastP k o j then 1 else 0)) := by
  have hj := (List.getElem?_eq_some_iff.1 h).1
  rw [List.take_add_one, h, Option.toList, levA_snoc, List.length_take, Nat.min_eq_left (by omega), Nat.zero_add]
theorem levA_take_le (k o : Int) (l : List Ex) (j : Nat) : levA k o 0 (l.take j) ≤ levA k o 0 l := by
  rw [show levA k o 0 l = levA k o 0 (l.take j ++ l.drop j) by rw [List.take_append_drop]]
  have : ∀ (a b : List Ex) (i : Nat), levA k o i a ≤ levA k o i (a ++ b) := fun a b => by
    induction a with
    | nil => intro i; rw [levA]; exact Nat.zero_le _
    | cons x a ih => intro i; rw [List.cons_append, levA, levA]; have := ih (i + 1); omega
  exact this _ _ _

section
variable (o : Int) (no : Bool) (vk vi : Int) (tx t nm : ByteArray) (va vs : Value) (w : World)

theorem lev_leaf (k : Int) (h : k = 1 ∨ k = 2) : Calls Tryz.prog 60 #[.agg #[.int .i64 k, .int .i64 o, .bool no, .int .i64 vk, .int .i64 vi, .string tx, .string t, .string nm, va, vs]] w (RetBel (.int .i64 0) w) := by
  rcases h with rfl | rfl
  all_goals
    go_enter Tryz.func60, Tryz.ntmps60
    go_wp2_with fail
    go_ret
    exact ⟨rfl, by go_grown⟩

theorem lev_query (k : Int) (h : 8 ≤ k ∧ k ≤ 12) (n : Nat) (hq : ∀ wx, Below w.heap.size w wx → Calls Tryz.prog 156 #[.agg #[.int .i64 k, .int .i64 o, .bool no, .int .i64 vk, .int .i64 vi, .string tx, .string t, .string nm, va, vs]] wx (RetBel (.int .i64 n) wx)) :
    Calls Tryz.prog 60 #[.agg #[.int .i64 k, .int .i64 o, .bool no, .int .i64 vk, .int .i64 vi, .string tx, .string t, .string nm, va, vs]] w (RetBel (.int .i64 n) w) := by
  have h5 : k = 8 ∨ k = 9 ∨ k = 10 ∨ k = 11 ∨ k = 12 := by omega
  clear h
  rcases h5 with rfl | rfl | rfl | rfl | rfl
  all_goals
    have HQ := Lib.hid hq
    clear hq
    go_enter Tryz.func60, Tryz.ntmps60
    go_wp2_with fail
    refine (HQ.out _ (by go_grown)).mono ?_
    rintro e w2 ⟨rfl, hb⟩
    have HB := Lib.hid (((Below.refl _ w).alloc (Nat.le_refl _) _).trans (hb.mono (by simp)))
    clear hb
    dsimp only
    go_wp2_with fail
    go_ret
    exact ⟨rfl, HB.out⟩
end

set_option maxRecDepth 100000 in
set_option maxHeartbeats 4000000 in
theorem lev_args {M : Nat → Prop} (k o : Int) (no : Bool) (vk vi : Int) (tx t nm : ByteArray) (va vs : Value) (args : List Ex) (w : World) (h1 : ¬(k = 1 ∨ k = 2)) (h8 : ¬(8 ≤ k ∧ k ≤ 12))
    (hall : ∀ e ∈ args, LevOk M e) (hmax : levA k o 0 args ≤ 1000000000) (h : ExsR M w va args) (up : Nat) (hup : (k = 3 ∨ k = 4) ∧ up = 1 ∨ ¬(k = 3 ∨ k = 4) ∧ up = 0) :
    Calls Tryz.prog 60 #[.agg #[.int .i64 k, .int .i64 o, .bool no, .int .i64 vk, .int .i64 vi, .string tx, .string t, .string nm, va, vs]] w (RetBel (.int .i64 ((levA k o 0 args + up : Nat))) w) := by
  obtain ⟨a, c, rfl, hm⟩ := h.shape
  unfold maxLen at hm
  have HA := Lib.hid h
  have HALL := Lib.hid hall
  have HMAX := Lib.hid hmax
  have HUP := Lib.hid hup
  have b1 : (k == 1) = false := by simp; omega
  have b2 : (k == 2) = false := by simp; omega
  have b8 : (k == 8) = false := by simp; omega
  have b9 : (k == 9) = false := by simp; omega
  have b10 : (k == 10) = false := by simp; omega
  have b11 : (k == 11) = false := by simp; omega
  have b12 : (k == 12) = false := by simp; omega
  clear h hall hmax hup h1 h8
  go_enter Tryz.func60, Tryz.ntmps60
  go_wp2_with fail
  generalize hW : World.alloc w _ = W1
  have hk0 : Hid (W1.heap[w.heap.size]? = some (.cells #[.int .i64 k, .int .i64 o, .bool no, .int .i64 vk, .int .i64 vi, .string tx, .string t, .string nm, .slice a args.length c, vs] 57 (0, 0))) := Lib.hid (by rw [← hW]; exact heap_alloc_new w _)
  have hb1 : Below w.heap.size w W1 := by rw [← hW]; exact (Below.refl _ _).alloc (Nat.le_refl _) _
  have hz : w.heap.size < W1.heap.size := by rw [← hW]; simp
  clear hW
  have HB1 := Lib.hid hb1
  clear hb1
  go_loopw [3, 23] (fun m i wr => ∃ j : Nat, j ≤ args.length ∧ i = .int .i64 j ∧ m = .int .i64 (levA k o 0 (args.take j)) ∧ Below W1.heap.size W1 wr) (fun _ i _ => args.length - (intOf i).toNat)
  case atStart => exact ⟨0, Nat.zero_le _, rfl, by simp [levA], Below.refl _ _⟩
  case round =>
    rename World => wr
    obtain ⟨j, hj, rfl, rfl, hbel⟩ := hrel
    have HBE := Lib.hid hbel
    have HBW := Lib.hid (HB1.out.trans (hbel.mono (Nat.le_of_lt hz)))
    by_cases hlt : j < args.length
    · rcases HA.out.open with ⟨_, h⟩ | ⟨ab, ao, cap', hv', _, hab, _, _, hx⟩
      · rw [h] at hlt; simp at hlt
      simp only [Value.slice.injEq] at hv'
      obtain ⟨rfl, _, rfl⟩ := hv'
      have hxj : args[j]? = some args[j] := List.getElem?_eq_getElem hlt
      obtain ⟨cs, hc, _, hcs⟩ := hx j _ hxj
      have hmem := List.mem_of_getElem? hxj
      have htk := levA_take (k := k) (o := o) hxj
      have hq6 : levA k o 0 (args.take j) ≤ 1000000000 := Nat.le_trans (levA_take_le ..) HMAX.out
      have hle := Nat.le_trans (levA_le (k := k) (o := o) (i := 0) hmem) HMAX.out
      generalize args[j] = x at hxj hc hmem htk hle
      have hcs' := hcs.keep (M := NoM) (Keep.bel HBW.out) id
      have hlx := fun wx (kb : Below w.heap.size w wx) => HALL.out x hmem cs wx (EC.keep (M := M) (.bel kb) x cs hc) hle
      obtain ⟨xva, xvs, rfl, hva, hvs⟩ := (EC_iff ..).1 hc
      obtain ⟨xa, xac, rfl, _⟩ := hva.shape
      obtain ⟨xs, xsc, rfl, _⟩ := hvs.shape
      obtain ⟨c0, c1, c2, c3, c4, c5, c6, c7, c8, c9⟩ := CellsAt.c10 hcs'
      simp only [exCells] at hlx
      generalize levP x = lx at hlx htk hle
      generalize x.args.length = xal at hlx c8
      generalize x.sub.length = xsl at hlx c9
      generalize x.kind = xk at hlx c0 htk
      generalize x.op = xo at hlx c1 htk
      generalize x.no = xn at hlx c2
      generalize x.val.kind = xvk at hlx c3
      generalize x.val.int = xvi at hlx c4
      generalize x.val.text = xvt at hlx c5
      generalize x.table = xt at hlx c6
      generalize x.name = xnm at hlx c7
      generalize levA k o 0 (args.take j) = mq at htk hq6 ⊢
      have hpr := fun wx => prec_any xk xo xn xvk xvi xvt xt xnm (.slice xa xal xac) (.slice xs xsl xsc) wx
      have hls := fun wx => least_any k o no vk vi tx t nm (.slice (some ⟨ab, ao, none⟩) args.length c) vs j wx
      generalize precP xk xo = p at hpr htk
      generalize leastP k o j = q at hls htk
      have HPR := Lib.hid hpr
      have HLS := Lib.hid hls
      clear hpr hls
      have HLX := Lib.hid hlx
      have HLT := Lib.hid hlt
      have i0 : (0 : Int) ≤ (j : Int) := by omega
      have i1 : (j : Int) < (args.length : Int) := by omega
      clear hlx hx hc hcs hcs' hva hvs hxj hmem hbel
      by_cases hpq : p < q
      · rw [if_pos hpq] at htk
        have HTK := Lib.hid htk
        clear htk
        go_wp2_with fail
        refine (HLX.out _ (HBW.out.alloc HBW.out.size _)).mono ?_
        rintro e w2 ⟨rfl, hb⟩
        have HB2 := Lib.hid ((HBE.out.alloc HBE.out.size _).trans (hb.mono (by have := HBE.out.size; simp; omega)))
        have ha := hb.block wr.heap.size (by simp) |>.trans (heap_alloc_new wr _)
        have hz2 : wr.heap.size < w2.heap.size := by have := hb.size; simp at this; omega
        have HX2 := Lib.hid ha
        clear hb c0 c1 c2 c3 c4 c5 c6 c7 c8 c9 ha
        dsimp only
        go_upto_region 15 with fail
        have hsq := fun (wx : World) (hb : Below w2.heap.size w2 wx) => (show (wx.cell? ⟨w.heap.size, 0, none⟩ = some (.int .i64 k) ∧ wx.cell? ⟨w.heap.size, 1, none⟩ = some (.int .i64 o) ∧ wx.cell? ⟨w.heap.size, 2, none⟩ = some (.bool no) ∧ wx.cell? ⟨w.heap.size, 3, none⟩ = some (.int .i64 vk) ∧ wx.cell? ⟨w.heap.size, 4, none⟩ = some (.int .i64 vi) ∧ wx.cell? ⟨w.heap.size, 5, none⟩ = some (.string tx) ∧ wx.cell? ⟨w.heap.size, 6, none⟩ = some (.string t) ∧ wx.cell? ⟨w.heap.size, 7, none⟩ = some (.string nm) ∧ wx.cell? ⟨w.heap.size, 8, none⟩ = some (.slice (some ⟨ab, ao, none⟩) args.length c) ∧ wx.cell? ⟨w.heap.size, 9, none⟩ = some vs) ∧
            (wx.cell? ⟨wr.heap.size, 0, none⟩ = some (.int .i64 xk) ∧ wx.cell? ⟨wr.heap.size, 1, none⟩ = some (.int .i64 xo) ∧ wx.cell? ⟨wr.heap.size, 2, none⟩ = some (.bool xn) ∧ wx.cell? ⟨wr.heap.size, 3, none⟩ = some (.int .i64 xvk) ∧ wx.cell? ⟨wr.heap.size, 4, none⟩ = some (.int .i64 xvi) ∧ wx.cell? ⟨wr.heap.size, 5, none⟩ = some (.string xvt) ∧ wx.cell? ⟨wr.heap.size, 6, none⟩ = some (.string xt) ∧ wx.cell? ⟨wr.heap.size, 7, none⟩ = some (.string xnm) ∧ wx.cell? ⟨wr.heap.size, 8, none⟩ = some (.slice xa xal xac) ∧ wx.cell? ⟨wr.heap.size, 9, none⟩ = some (.slice xs xsl xsc)) from by
          obtain ⟨a0, a1, a2, a3, a4, a5, a6, a7, a8, a9, _, _⟩ := blk10 ((hb.block w.heap.size (by have := HB2.out.size; omega)).trans ((HB2.out.block w.heap.size hz).trans hk0.out))
          obtain ⟨d0, d1, d2, d3, d4, d5, d6, d7, d8, d9, _, _⟩ := blk10 ((hb.block wr.heap.size hz2).trans HX2.out)
          exact ⟨⟨a0, a1, a2, a3, a4, a5, a6, a7, a8, a9⟩, ⟨d0, d1, d2, d3, d4, d5, d6, d7, d8, d9⟩⟩)
        have HSQ := Lib.hid hsq
        clear hsq
        have HC := Lib.hid (drew_below (Below.refl w2.heap.size w2))
        go_cut [35] (fun v wx => v = .bool true ∧ Below w2.heap.size w2 wx)
        case first =>
          go_region_held3 (fun w' => (w'.cell? ⟨w.heap.size, 0, none⟩ = some (.int .i64 k) ∧ w'.cell? ⟨w.heap.size, 1, none⟩ = some (.int .i64 o) ∧ w'.cell? ⟨w.heap.size, 2, none⟩ = some (.bool no) ∧ w'.cell? ⟨w.heap.size, 3, none⟩ = some (.int .i64 vk) ∧ w'.cell? ⟨w.heap.size, 4, none⟩ = some (.int .i64 vi) ∧ w'.cell? ⟨w.heap.size, 5, none⟩ = some (.string tx) ∧ w'.cell? ⟨w.heap.size, 6, none⟩ = some (.string t) ∧ w'.cell? ⟨w.heap.size, 7, none⟩ = some (.string nm) ∧ w'.cell? ⟨w.heap.size, 8, none⟩ = some (.slice (some ⟨ab, ao, none⟩) args.length c) ∧ w'.cell? ⟨w.heap.size, 9, none⟩ = some vs) ∧
          (w'.cell? ⟨wr.heap.size, 0, none⟩ = some (.int .i64 xk) ∧ w'.cell? ⟨wr.heap.size, 1, none⟩ = some (.int .i64 xo) ∧ w'.cell? ⟨wr.heap.size, 2, none⟩ = some (.bool xn) ∧ w'.cell? ⟨wr.heap.size, 3, none⟩ = some (.int .i64 xvk) ∧ w'.cell? ⟨wr.heap.size, 4, none⟩ = some (.int .i64 xvi) ∧ w'.cell? ⟨wr.heap.size, 5, none⟩ = some (.string xvt) ∧ w'.cell? ⟨wr.heap.size, 6, none⟩ = some (.string xt) ∧ w'.cell? ⟨wr.heap.size, 7, none⟩ = some (.string xnm) ∧ w'.cell? ⟨wr.heap.size, 8, none⟩ = some (.slice xa xal xac) ∧ w'.cell? ⟨wr.heap.size, 9, none⟩ = some (.slice xs xsl xsc)))
          (first | (with_reducible exact HSQ.out _ HC.out) | go_keep)
          (first
            | ((go_at_call 61); ((refine (HPR.out _).mono ?_); rintro e wy ⟨rfl, hb⟩; have HC := Lib.hid (HC.out.trans (hb.mono HC.out.size)); clear hb))
            | ((go_at_call 157); ((refine (HLS.out _).mono ?_); rintro e wy ⟨rfl, hb⟩; have HC := Lib.hid (HC.out.trans (hb.mono HC.out.size)); clear hb)))
          all_goals
            go_wp2_with fail
            go_meet
            exact ⟨by first | (simp; done) | simp [hpq], HC.out⟩
        case rest =>
          obtain ⟨rfl, hbx⟩ := hcut
          have HB3 := Lib.hid (HB2.out.trans (hbx.mono HB2.out.size))
          clear hbx
          go_wp2_with fail
          go_roundw
          case rel =>
            have hlt2 := HLT.out
            exact ⟨j + 1, by omega, by go_num, by rw [HTK.out]; congr 1; omega, HB3.out⟩
          case measure =>
            have hlt2 := HLT.out
            simp [intOf]
            omega
      · rw [if_neg hpq] at htk
        have HTK := Lib.hid htk
        clear htk
        go_wp2_with fail
        refine (HLX.out _ (HBW.out.alloc HBW.out.size _)).mono ?_
        rintro e w2 ⟨rfl, hb⟩
        have HB2 := Lib.hid ((HBE.out.alloc HBE.out.size _).trans (hb.mono (by have := HBE.out.size; simp; omega)))
        have ha := hb.block wr.heap.size (by simp) |>.trans (heap_alloc_new wr _)
        have hz2 : wr.heap.size < w2.heap.size := by have := hb.size; simp at this; omega
        have HX2 := Lib.hid ha
        clear hb c0 c1 c2 c3 c4 c5 c6 c7 c8 c9 ha
        dsimp only
        go_upto_region 15 with fail
        have hsq := fun (wx : World) (hb : Below w2.heap.size w2 wx) => (show (wx.cell? ⟨w.heap.size, 0, none⟩ = some (.int .i64 k) ∧ wx.cell? ⟨w.heap.size, 1, none⟩ = some (.int .i64 o) ∧ wx.cell? ⟨w.heap.size, 2, none⟩ = some (.bool no) ∧ wx.cell? ⟨w.heap.size, 3, none⟩ = some (.int .i64 vk) ∧ wx.cell? ⟨w.heap.size, 4, none⟩ = some (.int .i64 vi) ∧ wx.cell? ⟨w.heap.size, 5, none⟩ = some (.string tx) ∧ wx.cell? ⟨w.heap.size, 6, none⟩ = some (.string t) ∧ wx.cell? ⟨w.heap.size, 7, none⟩ = some (.string nm) ∧ wx.cell? ⟨w.heap.size, 8, none⟩ = some (.slice (some ⟨ab, ao, none⟩) args.length c) ∧ wx.cell? ⟨w.heap.size, 9, none⟩ = some vs) ∧
            (wx.cell? ⟨wr.heap.size, 0, none⟩ = some (.int .i64 xk) ∧ wx.cell? ⟨wr.heap.size, 1, none⟩ = some (.int .i64 xo) ∧ wx.cell? ⟨wr.heap.size, 2, none⟩ = some (.bool xn) ∧ wx.cell? ⟨wr.heap.size, 3, none⟩ = some (.int .i64 xvk) ∧ wx.cell? ⟨wr.heap.size, 4, none⟩ = some (.int .i64 xvi) ∧ wx.cell? ⟨wr.heap.size, 5, none⟩ = some (.string xvt) ∧ wx.cell? ⟨wr.heap.size, 6, none⟩ = some (.string xt) ∧ wx.cell? ⟨wr.heap.size, 7, none⟩ = some (.string xnm) ∧ wx.cell? ⟨wr.heap.size, 8, none⟩ = some (.slice xa xal xac) ∧ wx.cell? ⟨wr.heap.size, 9, none⟩ = some (.slice xs xsl xsc)) from by
          obtain ⟨a0, a1, a2, a3, a4, a5, a6, a7, a8, a9, _, _⟩ := blk10 ((hb.block w.heap.size (by have := HB2.out.size; omega)).trans ((HB2.out.block w.heap.size hz).trans hk0.out))
          obtain ⟨d0, d1, d2, d3, d4, d5, d6, d7, d8, d9, _, _⟩ := blk10 ((hb.block wr.heap.size hz2).trans HX2.out)
          exact ⟨⟨a0, a1, a2, a3, a4, a5, a6, a7, a8, a9⟩, ⟨d0, d1, d2, d3, d4, d5, d6, d7, d8, d9⟩⟩)
        have HSQ := Lib.hid hsq
        clear hsq
        have HC := Lib.hid (drew_below (Below.refl w2.heap.size w2))
        go_cut [35] (fun v wx => v = .bool false ∧ Below w2.heap.size w2 wx)
        case first =>
          go_region_held3 (fun w' => (w'.cell? ⟨w.heap.size, 0, none⟩ = some (.int .i64 k) ∧ w'.cell? ⟨w.heap.size, 1, none⟩ = some (.int .i64 o) ∧ w'.cell? ⟨w.heap.size, 2, none⟩ = some (.bool no) ∧ w'.cell? ⟨w.heap.size, 3, none⟩ = some (.int .i64 vk) ∧ w'.cell? ⟨w.heap.size, 4, none⟩ = some (.int .i64 vi) ∧ w'.cell? ⟨w.heap.size, 5, none⟩ = some (.string tx) ∧ w'.cell? ⟨w.heap.size, 6, none⟩ = some (.string t) ∧ w'.cell? ⟨w.heap.size, 7, none⟩ = some (.string nm) ∧ w'.cell? ⟨w.heap.size, 8, none⟩ = some (.slice (some ⟨ab, ao, none⟩) args.length c) ∧ w'.cell? ⟨w.heap.size, 9, none⟩ = some vs) ∧
          (w'.cell? ⟨wr.heap.size, 0, none⟩ = some (.int .i64 xk) ∧ w'.cell? ⟨wr.heap.size, 1, none⟩ = some (.int .i64 xo) ∧ w'.cell? ⟨wr.heap.size, 2, none⟩ = some (.bool xn) ∧ w'.cell? ⟨wr.heap.size, 3, none⟩ = some (.int .i64 xvk) ∧ w'.cell? ⟨wr.heap.size, 4, none⟩ = some (.int .i64 xvi) ∧ w'.cell? ⟨wr.heap.size, 5, none⟩ = some (.string xvt) ∧ w'.cell? ⟨wr.heap.size, 6, none⟩ = some (.string xt) ∧ w'.cell? ⟨wr.heap.size, 7, none⟩ = some (.string xnm) ∧ w'.cell? ⟨wr.heap.size, 8, none⟩ = some (.slice xa xal xac) ∧ w'.cell? ⟨wr.heap.size, 9, none⟩ = some (.slice xs xsl xsc)))
          (first | (with_reducible exact HSQ.out _ HC.out) | go_keep)
          (first
            | ((go_at_call 61); ((refine (HPR.out _).mono ?_); rintro e wy ⟨rfl, hb⟩; have HC := Lib.hid (HC.out.trans (hb.mono HC.out.size)); clear hb))
            | ((go_at_call 157); ((refine (HLS.out _).mono ?_); rintro e wy ⟨rfl, hb⟩; have HC := Lib.hid (HC.out.trans (hb.mono HC.out.size)); clear hb)))
          all_goals
            go_wp2_with fail
            go_meet
            exact ⟨by first | (simp; done) | simp [hpq], HC.out⟩
        case rest =>
          obtain ⟨rfl, hbx⟩ := hcut
          have HB3 := Lib.hid (HB2.out.trans (hbx.mono HB2.out.size))
          clear hbx
          go_wp2_with fail
          go_roundw
          case rel =>
            have hlt2 := HLT.out
            exact ⟨j + 1, by omega, by go_num, by rw [HTK.out]; congr 1; omega, HB3.out⟩
          case measure =>
            have hlt2 := HLT.out
            simp [intOf]
            omega
    · obtain rfl : j = args.length := by omega
      rw [List.take_length]
      have d0 := (blk10 ((HBE.out.block w.heap.size hz).trans hk0.out)).1
      have hn : levA k o 0 args ≤ 1000000000 := HMAX.out
      clear hbel
      rcases HUP.out with ⟨rfl | rfl, rfl⟩ | ⟨hk, rfl⟩
      · go_wp2_with fail
        go_ret
        exact ⟨by go_num, HBW.out⟩
      · go_wp2_with fail
        go_ret
        exact ⟨by go_num, HBW.out⟩
      · have b3 : (k == 3) = false := by simp; omega
        have b4 : (k == 4) = false := by simp; omega
        clear hk
        go_wp2_with fail
        go_ret
        exact ⟨by simp, HBW.out⟩

/-- LevelsOf answers, for every expression with few levels. -/
theorem levels_any {M : Nat → Prop} (e : Ex) : LevOk M e := by
  refine Ex.ind (P := LevOk M) (fun e hargs hsub => ?_) e
  intro cs w he hb
  have hqs : ∀ wx, Below w.heap.size w wx → EC M wx e cs := fun wx k => EC.keep (.bel k) e cs he
  obtain ⟨va, vs, rfl, ha, hs⟩ := (EC_iff ..).1 he
  by_cases h1 : e.kind = 1 ∨ e.kind = 2
  · rw [levP_leaf h1]
    exact lev_leaf _ _ _ _ _ _ _ _ _ _ _ h1
  by_cases h8 : 8 ≤ e.kind ∧ e.kind ≤ 12
  · rw [levP_query h8] at hb ⊢
    exact lev_query _ _ _ _ _ _ _ _ _ _ _ h8 _ fun wx k => query_levels _ _ _ _ _ _ _ _ _ _ e.sub wx (fun q hq => hsub q hq) hb (hs.keep (.bel k))
  · rw [levP_op h1 h8] at hb ⊢
    refine lev_args e.kind e.op _ _ _ _ _ _ _ _ e.args w h1 h8 hargs (Nat.le_trans (Nat.le_add_right ..) hb) ha _ ?_
    by_cases h : e.kind = 3 ∨ e.kind = 4
    · exact .inl ⟨h, if_pos h⟩
    · exact .inr ⟨h, if_neg h⟩
end Go.Proofs.YtpnigfmclmfjaaaGreatDoor
