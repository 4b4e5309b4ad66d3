/- Levels in the reference: LevelsOf over arguments. Levels in the reference: LevelsOf, for every well-formed expression. Which expressions are well-formed in the reference: the ways of its ValidExpr. Which expressions are well-formed in the reference: the ways of its ValidExpr through arguments and queries. Which expressions are well-formed in the reference: the contract of its ValidExpr, for every expression. -/
import Derived.Test.YtpnigfmclmfjaaaGreatDoorKS
namespace Go.Proofs.YtpnigfmclmfjaaaGreatDoor
open Go.RowKit

set_option maxRecDepth 100000 in
set_option maxHeartbeats 10000000 in
theorem rlev_args {M : Nat → Prop} (k o : Int) (no : Bool) (vk vi : Int) (tx t nm : ByteArray) (va : Value) (s : Option Addr) (sc : Nat) (args : List Ex) (w : World) (hkk : k = 5 → args.length ≤ 2)
    (hall : ∀ e ∈ args, RlvOk M e) (hok : ∀ e ∈ args, validP e = true) (hlen : args.length ≤ 1000000) (hmax : levA k o 0 args ≤ 1000000000) (h : ExsR M w va args) (up : Nat) (hup : (k = 3 ∨ k = 4) ∧ up = 1 ∨ ¬(k = 3 ∨ k = 4) ∧ up = 0) :
    Calls Tryz.prog 210 #[.agg #[.int .i64 k, .int .i64 o, .bool no, .int .i64 vk, .int .i64 vi, .string tx, .string t, .string nm, va, .slice s 0 sc]] w (RetBel (.int .i64 ((levA k o 0 args + up : Nat))) w) := by
  obtain ⟨a, c, rfl, _⟩ := h.shape
  have HA := Lib.hid h
  have HALL := Lib.hid hall
  have HOK := Lib.hid hok
  have HMAX := Lib.hid hmax
  have HUP := Lib.hid hup
  have HKK := Lib.hid hkk
  clear h hall hok hmax hup hkk
  go_enter Tryz.func210, Tryz.ntmps210
  go_wp2_with fail
  generalize hW : World.alloc w _ = W1
  have hk0 : W1.heap[w.heap.size]? = some (.cells #[.int .i64 k, .int .i64 o, .bool no, .int .i64 vk, .int .i64 vi, .string tx, .string t, .string nm, .slice a args.length c, .slice s 0 sc] 57 (0, 0)) := by rw [← hW]; exact heap_alloc_new w _
  have hb1 : Below w.heap.size w W1 := by rw [← hW]; exact (Below.refl _ _).alloc (Nat.le_refl _) _
  have hz : w.heap.size < W1.heap.size := by rw [← hW]; simp
  have HQ : Hid (∀ wx, Below W1.heap.size W1 wx → _) := Lib.hid fun wx hb => blk10 ((hb.block w.heap.size hz).trans hk0)
  have HB1 := Lib.hid hb1
  clear hW hb1 hk0
  go_loopw [3, 12] (fun m i wr => ∃ j : Nat, j ≤ args.length ∧ i = .int .i64 j ∧ m = .int .i64 (levA k o 0 (args.take j)) ∧ Below W1.heap.size W1 wr) (fun _ i _ => args.length - (intOf i).toNat)
  case atStart => exact ⟨0, Nat.zero_le _, rfl, by simp [levA], Below.refl _ _⟩
  case round =>
    rename World => wr
    obtain ⟨j, hj, rfl, rfl, hbel⟩ := hrel
    have HBE := Lib.hid hbel
    have HBW := Lib.hid (HB1.out.trans (hbel.mono (Nat.le_of_lt hz)))
    by_cases hlt : j < args.length
    · rcases HA.out.open with ⟨_, h⟩ | ⟨ab, ao, cap', hv', _, hab, _, _, hx⟩
      · rw [h] at hlt; simp at hlt
      simp only [Value.slice.injEq] at hv'
      obtain ⟨rfl, _, rfl⟩ := hv'
      have hxj : args[j]? = some args[j] := List.getElem?_eq_getElem hlt
      obtain ⟨cs, hc, _, hcs⟩ := hx j _ hxj
      have hmem := List.mem_of_getElem? hxj
      have htk := levA_take (k := k) (o := o) hxj
      have hq6 : levA k o 0 (args.take j) ≤ 1000000000 := Nat.le_trans (levA_take_le ..) HMAX.out
      have hle := Nat.le_trans (levA_le (k := k) (o := o) (i := 0) hmem) HMAX.out
      have hlr : leastR k o j = leastP k o j := leastR_eq fun h5 => by have := HKK.out h5; omega
      generalize args[j] = x at hxj hc hmem htk hle
      have hcs0 : ∀ wx, Below w.heap.size w wx → CellsAt wx ab (ao + j * 10) cs := fun wx kb => hcs.keep (M := NoM) (Keep.bel kb) id
      have hlx := fun wx (kb : Below w.heap.size w wx) => HALL.out x hmem cs wx (EC.keep (M := M) (.bel kb) x cs hc) (HOK.out x hmem) hle
      obtain ⟨xva, xvs, rfl, hva, hvs⟩ := (EC_iff ..).1 hc
      obtain ⟨xa, xac, rfl, _⟩ := hva.shape
      obtain ⟨xs, xsc, rfl, _⟩ := hvs.shape
      have hcs1 := fun wx kb => CellsAt.c10 (hcs0 wx kb)
      simp only [exCells] at hlx
      rw [← hlr] at htk
      generalize levP x = lx at hlx htk hle
      generalize x.args.length = xal at hlx hcs1
      generalize x.sub.length = xsl at hlx hcs1
      generalize x.kind = xk at hlx hcs1 htk
      generalize x.op = xo at hlx hcs1 htk
      generalize x.no = xn at hlx hcs1
      generalize x.val.kind = xvk at hlx hcs1
      generalize x.val.int = xvi at hlx hcs1
      generalize x.val.text = xvt at hlx hcs1
      generalize x.table = xt at hlx hcs1
      generalize x.name = xnm at hlx hcs1
      generalize levA k o 0 (args.take j) = mq at htk hq6 ⊢
      have hwr := fun (wx : World) (kb : Below w.heap.size w wx) => rwrapped_any k o no vk vi tx t nm ab ao args.length c (.slice s 0 sc) j xk xo xn xvk xvi xvt xt xnm (.slice xa xal xac) (.slice xs xsl xsc) wx hlt (by omega) (Nat.lt_of_lt_of_le hab kb.size) ⟨(hcs1 wx kb).1, (hcs1 wx kb).2.1, (hcs1 wx kb).2.2.1, (hcs1 wx kb).2.2.2.1, (hcs1 wx kb).2.2.2.2.1, (hcs1 wx kb).2.2.2.2.2.1, (hcs1 wx kb).2.2.2.2.2.2.1, (hcs1 wx kb).2.2.2.2.2.2.2.1, (hcs1 wx kb).2.2.2.2.2.2.2.2.1, (hcs1 wx kb).2.2.2.2.2.2.2.2.2⟩
      generalize precP xk xo = p at hwr htk
      generalize leastR k o j = q at hwr htk
      obtain ⟨c0, c1, c2, c3, c4, c5, c6, c7, c8, c9⟩ := hcs1 wr HBW.out
      have HLX := Lib.hid hlx
      have HLT := Lib.hid hlt
      have i0 : (0 : Int) ≤ (j : Int) := by omega
      have i1 : (j : Int) < (args.length : Int) := by omega
      clear hlx hx hc hcs hcs0 hcs1 hva hvs hxj hmem hbel hlr
      by_cases hpq : p < q
      · rw [if_pos hpq] at htk
        have HTK := Lib.hid htk
        rw [decide_eq_true hpq] at hwr
        have HWR := Lib.hid hwr
        clear htk hwr
        go_wp2_with fail
        refine (HLX.out _ (HBW.out.alloc HBW.out.size _)).mono ?_
        rintro e w2 ⟨rfl, hb⟩
        have HB2 := Lib.hid ((HBE.out.alloc HBE.out.size _).trans (hb.mono (by have := HBE.out.size; simp; omega)))
        clear hb c0 c1 c2 c3 c4 c5 c6 c7 c8 c9
        obtain ⟨y0, y1, y2, y3, y4, y5, y6, y7, y8, y9, yf, yz⟩ := HQ.out _ HB2.out
        dsimp only
        go_wp2_with fail
        refine (HWR.out _ (HB1.out.trans (HB2.out.mono (Nat.le_of_lt hz)))).mono ?_
        rintro e w3 ⟨rfl, hb⟩
        have HB3 := Lib.hid (HB2.out.trans (hb.mono HB2.out.size))
        clear hb y0 y1 y2 y3 y4 y5 y6 y7 y8 y9 yf
        dsimp only
        go_wp2_with fail
        go_roundw
        case rel =>
          have hlt2 := HLT.out
          exact ⟨j + 1, by omega, by go_num, by rw [HTK.out]; congr 1; omega, HB3.out⟩
        case measure =>
          have hlt2 := HLT.out
          simp [intOf]
          omega
      · rw [if_neg hpq] at htk
        have HTK := Lib.hid htk
        rw [decide_eq_false hpq] at hwr
        have HWR := Lib.hid hwr
        clear htk hwr
        go_wp2_with fail
        refine (HLX.out _ (HBW.out.alloc HBW.out.size _)).mono ?_
        rintro e w2 ⟨rfl, hb⟩
        have HB2 := Lib.hid ((HBE.out.alloc HBE.out.size _).trans (hb.mono (by have := HBE.out.size; simp; omega)))
        clear hb c0 c1 c2 c3 c4 c5 c6 c7 c8 c9
        obtain ⟨y0, y1, y2, y3, y4, y5, y6, y7, y8, y9, yf, yz⟩ := HQ.out _ HB2.out
        dsimp only
        go_wp2_with fail
        refine (HWR.out _ (HB1.out.trans (HB2.out.mono (Nat.le_of_lt hz)))).mono ?_
        rintro e w3 ⟨rfl, hb⟩
        have HB3 := Lib.hid (HB2.out.trans (hb.mono HB2.out.size))
        clear hb y0 y1 y2 y3 y4 y5 y6 y7 y8 y9 yf
        dsimp only
        go_wp2_with fail
        go_roundw
        case rel =>
          have hlt2 := HLT.out
          exact ⟨j + 1, by omega, by go_num, by rw [HTK.out]; congr 1; omega, HB3.out⟩
        case measure =>
          have hlt2 := HLT.out
          simp [intOf]
          omega
    · obtain rfl : j = args.length := by omega
      rw [List.take_length]
      have hn : levA k o 0 args ≤ 1000000000 := HMAX.out
      obtain ⟨y0, y1, y2, y3, y4, y5, y6, y7, y8, y9, yf, yz⟩ := HQ.out _ HBE.out
      clear hbel
      rcases HUP.out with ⟨rfl | rfl, rfl⟩ | ⟨hk, rfl⟩
      · go_wp2_with fail
        refine wp_loop_rounds 1 ?_
        rw [rounds_succ]
        go_wp2_with fail
        go_ret
        exact ⟨by go_num, HBW.out⟩
      · go_wp2_with fail
        refine wp_loop_rounds 1 ?_
        rw [rounds_succ]
        go_wp2_with fail
        go_ret
        exact ⟨by go_num, HBW.out⟩
      · have b3 : (k == 3) = false := by simp; omega
        have b4 : (k == 4) = false := by simp; omega
        clear hk
        go_wp2_with fail
        refine wp_loop_rounds 1 ?_
        rw [rounds_succ]
        go_wp2_with fail
        go_ret
        exact ⟨by simp, HBW.out⟩
end Go.Proofs.YtpnigfmclmfjaaaGreatDoor

namespace Go.Proofs.YtpnigfmclmfjaaaGreatDoor
open Go.RowKit

set_option maxRecDepth 100000 in
set_option maxHeartbeats 10000000 in
theorem rlev_query (k o : Int) (no : Bool) (vk vi : Int) (tx t nm : ByteArray) (a : Option Addr) (ac sc ab ao : Nat) (st : Bool) (f : ByteArray) (ia wa : Option Addr) (il wl ic wc gi gw : Nat) (w : World) (hk : k = 8 ∨ (9 ≤ k ∧ k ≤ 12)) (hab : ab < w.heap.size)
    (c0 : w.cell? ⟨ab, ao, none⟩ = some (.bool st)) (c1 : w.cell? ⟨ab, ao + 1, none⟩ = some (.slice ia il ic)) (c2 : w.cell? ⟨ab, ao + 2, none⟩ = some (.string f)) (c3 : w.cell? ⟨ab, ao + 3, none⟩ = some (.slice wa wl wc))
    (hgi : ∀ wx, Below w.heap.size w wx → Calls Tryz.prog 109 #[.slice ia il ic] wx (RetBel (.int .i64 gi) wx)) (hgw : ∀ wx, Below w.heap.size w wx → Calls Tryz.prog 109 #[.slice wa wl wc] wx (RetBel (.int .i64 gw) wx)) (h1 : gi ≤ 1000000000) (h2 : gw ≤ 1000000000) :
    Calls Tryz.prog 210 #[.agg #[.int .i64 k, .int .i64 o, .bool no, .int .i64 vk, .int .i64 vi, .string tx, .string t, .string nm, .slice a 0 ac, .slice (some ⟨ab, ao, none⟩) 1 sc]] w (RetBel (.int .i64 ((max (1 + gw) (if k = 8 then 0 else 2 + gi) : Nat))) w) := by
  have HI := Lib.hid hgi
  have HW := Lib.hid hgw
  clear hgi hgw
  have b3 : (k == 3) = false := by simp; omega
  have b4 : (k == 4) = false := by simp; omega
  have HK := Lib.hid hk
  clear hk
  generalize hres : (max (1 + gw) (if k = 8 then 0 else 2 + gi) : Nat) = r
  have HR := Lib.hid hres
  clear hres
  go_enter Tryz.func210, Tryz.ntmps210
  go_wp2_with fail
  generalize hW : World.alloc w _ = W1
  have hk0 : W1.heap[w.heap.size]? = some (.cells #[.int .i64 k, .int .i64 o, .bool no, .int .i64 vk, .int .i64 vi, .string tx, .string t, .string nm, .slice a 0 ac, .slice (some ⟨ab, ao, none⟩) 1 sc] 57 (0, 0)) := by rw [← hW]; exact heap_alloc_new w _
  have hb1 : Below w.heap.size w W1 := by rw [← hW]; exact (Below.refl _ _).alloc (Nat.le_refl _) _
  have hz : w.heap.size < W1.heap.size := by rw [← hW]; simp
  obtain ⟨d0, d1, d2, d3⟩ : W1.cell? ⟨ab, ao, none⟩ = some (.bool st) ∧ W1.cell? ⟨ab, ao + 1, none⟩ = some (.slice ia il ic) ∧ W1.cell? ⟨ab, ao + 2, none⟩ = some (.string f) ∧ W1.cell? ⟨ab, ao + 3, none⟩ = some (.slice wa wl wc) :=
    ⟨(hb1.cell hab).trans c0, (hb1.cell hab).trans c1, (hb1.cell hab).trans c2, (hb1.cell hab).trans c3⟩
  have HQ : Hid (∀ wx, Below W1.heap.size W1 wx → _) := Lib.hid fun wx hb => blk10 ((hb.block w.heap.size hz).trans hk0)
  obtain ⟨y0, y1, y2, y3, y4, y5, y6, y7, y8, y9, yf, yz⟩ := HQ.out _ (Below.refl _ _)
  have HB1 := Lib.hid hb1
  clear hW hb1 hk0 c0 c1 c2 c3
  refine wp_loop_rounds 1 ?_
  rw [rounds_succ]
  go_wp2_with fail
  refine wp_loop_rounds 2 ?_
  rw [rounds_succ]
  go_wp2_with fail
  refine (HW.out _ (HB1.out.alloc HB1.out.size _)).mono ?_
  rintro e w2 ⟨rfl, hb⟩
  have e1 : w2.cell? ⟨W1.heap.size, 1, none⟩ = some (.slice ia il ic) := (hb.cell (by simp)).trans (by simp)
  have HB2 := Lib.hid (((Below.refl _ W1).alloc (Nat.le_refl _) _).trans (hb.mono (by simp)))
  clear hb d0 d1 d2 d3 y0 y1 y2 y3 y4 y5 y6 y7 y8 y9 yf yz
  obtain ⟨y0, y1, y2, y3, y4, y5, y6, y7, y8, y9, yf, yz⟩ := HQ.out _ HB2.out
  have HBW := Lib.hid (HB1.out.trans (HB2.out.mono (Nat.le_of_lt hz)))
  dsimp only
  rcases HK.out with rfl | hk
  · obtain rfl : 1 + gw = r := by rw [← HR.out, if_pos rfl]; omega
    clear HR HK
    go_wp2_with fail
    rw [rounds_succ]
    go_wp2_with fail
    go_ret
    exact ⟨by go_num, HBW.out⟩
  · have b8 : (k != 8) = true := by simp; omega
    obtain rfl : max (1 + gw) (2 + gi) = r := by rw [← HR.out, if_neg (by omega)]
    clear hk HR HK
    go_wp2_with fail
    refine (HI.out _ HBW.out).mono ?_
    rintro e w3 ⟨rfl, hb⟩
    have HB3 := Lib.hid (HBW.out.trans (hb.mono HBW.out.size))
    clear hb y0 y1 y2 y3 y4 y5 y6 y7 y8 y9 yf
    dsimp only
    go_wp2_with fail
    rw [rounds_succ]
    go_wp2_with fail
    go_ret
    exact ⟨by go_num, HB3.out⟩

theorem valid_arg_len {e : Ex} (h : validP e = true) : e.args.length ≤ 3 ∧ (e.kind = 5 → e.args.length ≤ 2) ∧ (e.kind = 1 ∨ e.kind = 2 → e.args = [] ∧ e.sub = []) ∧ (8 ≤ e.kind ∧ e.kind ≤ 12 → e.args = [] ∧ ∃ q, e.sub = [q] ∧ validL q.items = true ∧ validL q.whr = true) ∧ (¬(e.kind = 1 ∨ e.kind = 2) → ¬(8 ≤ e.kind ∧ e.kind ≤ 12) → e.sub = [] ∧ validL e.args = true) := by
  rw [validP_eq] at h
  by_cases h1 : e.kind = 1
  · rw [if_pos h1] at h
    simp only [Bool.and_eq_true, decide_eq_true_eq, List.length_eq_zero_iff] at h
    exact ⟨by rw [h.1.1.1.2]; simp, by omega, fun _ => ⟨h.1.1.1.2, h.1.1.2⟩, fun h8 => by omega, fun h2 => by omega⟩
  rw [if_neg h1] at h
  by_cases h2 : e.kind = 2
  · rw [if_pos h2] at h
    simp only [Bool.and_eq_true, decide_eq_true_eq, List.length_eq_zero_iff] at h
    exact ⟨by rw [h.1.1.2]; simp, by omega, fun _ => ⟨h.1.1.2, h.1.2⟩, fun h8 => by omega, fun h2 => by omega⟩
  rw [if_neg h2] at h
  by_cases h8 : 8 ≤ e.kind ∧ e.kind ≤ 12
  · rw [if_pos h8] at h
    simp only [Bool.and_eq_true, decide_eq_true_eq, List.length_eq_zero_iff] at h
    obtain ⟨q, hq⟩ := List.length_eq_one_iff.1 h.1.2
    have hv := h.2
    rw [hq] at hv
    obtain ⟨st, it, f, wh⟩ := q
    rw [validS] at hv
    simp only [Bool.and_eq_true] at hv
    exact ⟨by rw [h.1.1.2]; simp, by omega, fun h12 => by omega, fun _ => ⟨h.1.1.2, _, hq, hv.1.1.2, hv.1.2⟩, fun _ h9 => absurd h8 h9⟩
  rw [if_neg h8] at h
  by_cases h5 : e.kind = 5
  · rw [if_pos h5] at h
    simp only [Bool.and_eq_true, decide_eq_true_eq, List.length_eq_zero_iff] at h
    exact ⟨by omega, fun _ => by omega, fun h12 => by omega, fun h9 => absurd h9 h8, fun _ _ => ⟨h.1.1.2, h.2⟩⟩
  rw [if_neg h5] at h
  by_cases h6 : e.kind = 6
  · rw [if_pos h6] at h
    simp only [Bool.and_eq_true, decide_eq_true_eq, List.length_eq_zero_iff] at h
    exact ⟨by omega, fun h => by omega, fun h12 => by omega, fun h9 => absurd h9 h8, fun _ _ => ⟨h.1.1.2, h.2⟩⟩
  rw [if_neg h6] at h
  simp only [Bool.and_eq_true, decide_eq_true_eq, List.length_eq_zero_iff] at h
  refine ⟨?_, fun h => absurd h h5, fun h12 => by omega, fun h9 => absurd h9 h8, fun _ _ => ⟨h.1.1.2, h.2⟩⟩
  have := h.1.2
  split at this
  · omega
  · split at this <;> omega

theorem rlevels_any {M : Nat → Prop} (e : Ex) : RlvOk M e := by
  refine Ex.ind (P := RlvOk M) (fun e hargs hsub => ?_) e
  intro cs w he hv hb
  obtain ⟨g1, g2, g3, g4, g5⟩ := valid_arg_len hv
  obtain ⟨va, vs, rfl, ha, hs⟩ := (EC_iff ..).1 he
  obtain ⟨s, sc, rfl, _⟩ := hs.shape
  show Calls _ _ #[.agg #[.int .i64 e.kind, .int .i64 e.op, .bool e.no, .int .i64 e.val.kind, .int .i64 e.val.int, .string e.val.text, .string e.table, .string e.name, va, .slice s e.sub.length sc]] w _
  by_cases h1 : e.kind = 1 ∨ e.kind = 2
  · obtain ⟨e1, e2⟩ := g3 h1
    rw [levP_leaf h1, e2]
    rw [e1] at ha
    have hm := rlev_args e.kind e.op e.no e.val.kind e.val.int e.val.text e.table e.name va s sc [] w (fun _ => by simp) (fun x hx => by cases hx) (fun x hx => by cases hx) (by simp) (by simp [levA]) ha 0 (.inr ⟨by omega, rfl⟩)
    simpa [levA] using hm
  by_cases h8 : 8 ≤ e.kind ∧ e.kind ≤ 12
  · obtain ⟨e1, q, e2, v1, v2⟩ := g4 h8
    rw [levP_query h8] at hb ⊢
    rw [e2] at hs hb ⊢
    rw [e1] at ha
    obtain ⟨a, ac, rfl, _⟩ := ha.shape
    obtain ⟨st, items, f, whr⟩ := q
    have hmem : Qu.mk st items f whr ∈ e.sub := by rw [e2]; exact List.mem_singleton.2 rfl
    obtain ⟨q1, q2⟩ := hsub _ hmem
    replace v1 : validL items = true := v1
    replace v2 : validL whr = true := v2
    rcases hs.open with ⟨_, h⟩ | ⟨ab, ao, cap, hv', _, hab, _, _, hx⟩
    · cases h
    obtain ⟨cs, hc, _, hcs⟩ := hx 0 _ rfl
    obtain ⟨vi', vw, rfl, hvi, hvw⟩ := (QC_iff ..).1 hc
    obtain ⟨ia, iac, rfl, _⟩ := hvi.shape
    obtain ⟨wa, wac, rfl, _⟩ := hvw.shape
    rw [Nat.zero_mul, Nat.add_zero] at hcs
    obtain ⟨c0, c1, c2, c3⟩ := hcs.c4
    simp only [Value.slice.injEq] at hv'
    obtain ⟨rfl, _, rfl⟩ := hv'
    have hl : levQ e.kind [.mk st items f whr] = max (1 + levM whr) (if e.kind = 8 then 0 else 2 + levM items) := by
      rw [levQ, levQ]; split <;> omega
    rw [hl] at hb ⊢
    have hgw : levM whr ≤ 1000000000 := by omega
    by_cases hk8 : e.kind = 8
    · have hit : items = [] := by
        have hv2 := hv
        rw [validP_eq, if_neg (by omega), if_neg (by omega), if_pos h8, e2] at hv2
        simp only [Bool.and_eq_true] at hv2
        have h3 := hv2.2
        rw [validS] at h3
        simp only [Bool.and_eq_true, decide_eq_true_eq] at h3
        have h4 := h3.1.1.1.1.1.2
        rw [if_pos (.inl hk8)] at h4
        exact List.length_eq_zero_iff.1 h4
      exact rlev_query _ _ _ _ _ _ _ _ _ _ _ _ _ st f _ _ _ _ _ _ (levM items) (levM whr) w (by omega) hab c0 c1 c2 c3
        (fun wx kb => rmost_any (M := M) items q1 (fun x hx => by have := validL_all items; rw [v1] at this; exact List.all_eq_true.1 this.symm x hx) _ wx (RowsR.map hvi (Keep.bel kb) fun x _ cs h => EC.keep (.bel kb) x cs h) (by rw [hit]; simp [levM]))
        (fun wx kb => rmost_any (M := M) whr q2 (fun x hx => by have := validL_all whr; rw [v2] at this; exact List.all_eq_true.1 this.symm x hx) _ wx (RowsR.map hvw (Keep.bel kb) fun x _ cs h => EC.keep (.bel kb) x cs h) hgw) (by rw [hit]; simp [levM]) hgw
    · have hgi : levM items ≤ 1000000000 := by rw [if_neg hk8] at hb; omega
      exact rlev_query _ _ _ _ _ _ _ _ _ _ _ _ _ st f _ _ _ _ _ _ (levM items) (levM whr) w (by omega) hab c0 c1 c2 c3
        (fun wx kb => rmost_any (M := M) items q1 (fun x hx => by have := validL_all items; rw [v1] at this; exact List.all_eq_true.1 this.symm x hx) _ wx (RowsR.map hvi (Keep.bel kb) fun x _ cs h => EC.keep (.bel kb) x cs h) hgi)
        (fun wx kb => rmost_any (M := M) whr q2 (fun x hx => by have := validL_all whr; rw [v2] at this; exact List.all_eq_true.1 this.symm x hx) _ wx (RowsR.map hvw (Keep.bel kb) fun x _ cs h => EC.keep (.bel kb) x cs h) hgw) hgi hgw
  · obtain ⟨e2, hva⟩ := g5 h1 h8
    rw [levP_op h1 h8] at hb ⊢
    rw [e2]
    refine rlev_args e.kind e.op _ _ _ _ _ _ va s sc e.args w g2 hargs (fun x hx => by have := validL_all e.args; rw [hva] at this; exact List.all_eq_true.1 this.symm x hx) (by omega) (Nat.le_trans (Nat.le_add_right ..) hb) ha _ ?_
    by_cases h : e.kind = 3 ∨ e.kind = 4
    · exact .inl ⟨h, if_pos h⟩
    · exact .inr ⟨h, if_neg h⟩
end Go.Proofs.YtpnigfmclmfjaaaGreatDoor

namespace Go.Proofs.YtpnigfmclmfjaaaGreatDoor
open Go.RowKit

theorem noText_cases (t : ByteArray) : (t = ⟨#[]⟩ ∧ noText t = true) ∨ (t.toList.isEmpty = false ∧ noText t = false) := by
  by_cases h : t.toList = []
  · refine .inl ⟨?_, by simp [noText, h]⟩
    obtain ⟨d⟩ := t
    rw [ByteArray.toList_eq] at h
    simpa using h
  · exact .inr ⟨by simpa using h, by simpa [noText] using h⟩

section
variable (k o : Int) (no : Bool) (vk vi : Int) (vt t nm : ByteArray) (a s : Option Addr) (an ac sn sc : Nat) (w : World)

set_option maxRecDepth 100000 in
set_option maxHeartbeats 4000000 in
theorem rv_bad1 (hs : ∀ wx, Below w.heap.size w wx → Calls Tryz.prog 165 #[.agg #[.int .i64 k, .int .i64 o, .bool no, .int .i64 vk, .int .i64 vi, .string vt, .string t, .string nm, .slice a an ac, .slice s sn sc]] wx (RetBel (.bool false) wx)) :
    Calls Tryz.prog 74 #[.agg #[.int .i64 k, .int .i64 o, .bool no, .int .i64 vk, .int .i64 vi, .string vt, .string t, .string nm, .slice a an ac, .slice s sn sc]] w (RetBel (.bool (false)) w) := by
  have HS := Lib.hid hs
  clear hs
  go_enter Tryz.func74, Tryz.ntmps74
  go_upto_region 1 with fail
  generalize hW : World.alloc w _ = W1
  have hk0 : W1.heap[w.heap.size]? = some (.cells #[.int .i64 k, .int .i64 o, .bool no, .int .i64 vk, .int .i64 vi, .string vt, .string t, .string nm, .slice a an ac, .slice s sn sc] 57 (0, 0)) := by rw [← hW]; exact heap_alloc_new w _
  have hb1 : Below w.heap.size w W1 := by rw [← hW]; exact (Below.refl _ _).alloc (Nat.le_refl _) _
  have hz : w.heap.size < W1.heap.size := by rw [← hW]; simp
  have HQ : Hid (∀ wx, Below W1.heap.size W1 wx → _) := Lib.hid fun wx hb => blk10 ((hb.block w.heap.size hz).trans hk0)
  have HB1 := Lib.hid hb1
  obtain ⟨x0, x1, x2, x3, x4, x5, x6, x7, x8, x9, xf, _⟩ := HQ.out _ (Below.refl _ _)
  clear hW hb1 hk0
  go_wp2_with fail
  refine (HS.out _ HB1.out).mono ?_
  rintro e w1 ⟨rfl, hb⟩
  have HLw1 := Lib.hid (hb)
  clear hb x0 x1 x2 x3 x4 x5 x6 x7 x8 x9 xf
  obtain ⟨x0, x1, x2, x3, x4, x5, x6, x7, x8, x9, xf, _⟩ := HQ.out _ HLw1.out
  dsimp only
  go_wp2_with fail
  go_ret
  exact ⟨rfl, HB1.out.trans (HLw1.out.mono HB1.out.size)⟩

set_option maxRecDepth 100000 in
set_option maxHeartbeats 4000000 in
theorem rv_bad2 (hs : ∀ wx, Below w.heap.size w wx → Calls Tryz.prog 165 #[.agg #[.int .i64 k, .int .i64 o, .bool no, .int .i64 vk, .int .i64 vi, .string vt, .string t, .string nm, .slice a an ac, .slice s sn sc]] wx (RetBel (.bool true) wx)) (h5 : k ≠ 5) (ho : o ≠ 0) :
    Calls Tryz.prog 74 #[.agg #[.int .i64 k, .int .i64 o, .bool no, .int .i64 vk, .int .i64 vi, .string vt, .string t, .string nm, .slice a an ac, .slice s sn sc]] w (RetBel (.bool (false)) w) := by
  have HS := Lib.hid hs
  have e5 : (k != 5) = true := by simpa using h5
  have eo : (o != 0) = true := by simpa using ho
  clear hs h5 ho
  go_enter Tryz.func74, Tryz.ntmps74
  go_upto_region 1 with fail
  generalize hW : World.alloc w _ = W1
  have hk0 : W1.heap[w.heap.size]? = some (.cells #[.int .i64 k, .int .i64 o, .bool no, .int .i64 vk, .int .i64 vi, .string vt, .string t, .string nm, .slice a an ac, .slice s sn sc] 57 (0, 0)) := by rw [← hW]; exact heap_alloc_new w _
  have hb1 : Below w.heap.size w W1 := by rw [← hW]; exact (Below.refl _ _).alloc (Nat.le_refl _) _
  have hz : w.heap.size < W1.heap.size := by rw [← hW]; simp
  have HQ : Hid (∀ wx, Below W1.heap.size W1 wx → _) := Lib.hid fun wx hb => blk10 ((hb.block w.heap.size hz).trans hk0)
  have HB1 := Lib.hid hb1
  obtain ⟨x0, x1, x2, x3, x4, x5, x6, x7, x8, x9, xf, _⟩ := HQ.out _ (Below.refl _ _)
  clear hW hb1 hk0
  go_wp2_with fail
  refine (HS.out _ HB1.out).mono ?_
  rintro e w1 ⟨rfl, hb⟩
  have HLw1 := Lib.hid (hb)
  clear hb x0 x1 x2 x3 x4 x5 x6 x7 x8 x9 xf
  obtain ⟨x0, x1, x2, x3, x4, x5, x6, x7, x8, x9, xf, _⟩ := HQ.out _ HLw1.out
  dsimp only
  go_wp2_with fail
  go_ret
  exact ⟨rfl, HB1.out.trans (HLw1.out.mono HB1.out.size)⟩

set_option maxRecDepth 100000 in
set_option maxHeartbeats 4000000 in
theorem rv_bad3 (hs : ∀ wx, Below w.heap.size w wx → Calls Tryz.prog 165 #[.agg #[.int .i64 k, .int .i64 o, .bool no, .int .i64 vk, .int .i64 vi, .string vt, .string t, .string nm, .slice a an ac, .slice s sn sc]] wx (RetBel (.bool true) wx)) (h5 : k = 5 ∨ o = 0) (h6 : k ≠ 6) (hno : no = true) :
    Calls Tryz.prog 74 #[.agg #[.int .i64 k, .int .i64 o, .bool no, .int .i64 vk, .int .i64 vi, .string vt, .string t, .string nm, .slice a an ac, .slice s sn sc]] w (RetBel (.bool (false)) w) := by
  have HS := Lib.hid hs
  have e6 : (k != 6) = true := by simpa using h6
  clear hs h6
  subst hno
  rcases h5 with rfl | rfl
  · go_enter Tryz.func74, Tryz.ntmps74
    go_upto_region 1 with fail
    generalize hW : World.alloc w _ = W1
    have hk0 : W1.heap[w.heap.size]? = some (.cells #[.int .i64 5, .int .i64 o, .bool true, .int .i64 vk, .int .i64 vi, .string vt, .string t, .string nm, .slice a an ac, .slice s sn sc] 57 (0, 0)) := by rw [← hW]; exact heap_alloc_new w _
    have hb1 : Below w.heap.size w W1 := by rw [← hW]; exact (Below.refl _ _).alloc (Nat.le_refl _) _
    have hz : w.heap.size < W1.heap.size := by rw [← hW]; simp
    have HQ : Hid (∀ wx, Below W1.heap.size W1 wx → _) := Lib.hid fun wx hb => blk10 ((hb.block w.heap.size hz).trans hk0)
    have HB1 := Lib.hid hb1
    obtain ⟨x0, x1, x2, x3, x4, x5, x6, x7, x8, x9, xf, _⟩ := HQ.out _ (Below.refl _ _)
    clear hW hb1 hk0
    go_wp2_with fail
    refine (HS.out _ HB1.out).mono ?_
    rintro e w1 ⟨rfl, hb⟩
    have HLw1 := Lib.hid (hb)
    clear hb x0 x1 x2 x3 x4 x5 x6 x7 x8 x9 xf
    obtain ⟨x0, x1, x2, x3, x4, x5, x6, x7, x8, x9, xf, _⟩ := HQ.out _ HLw1.out
    dsimp only
    go_wp2_with fail
    go_ret
    exact ⟨rfl, HB1.out.trans (HLw1.out.mono HB1.out.size)⟩
  · by_cases hk5 : k = 5
    · subst hk5
      go_enter Tryz.func74, Tryz.ntmps74
      go_upto_region 1 with fail
      generalize hW : World.alloc w _ = W1
      have hk0 : W1.heap[w.heap.size]? = some (.cells #[.int .i64 5, .int .i64 0, .bool true, .int .i64 vk, .int .i64 vi, .string vt, .string t, .string nm, .slice a an ac, .slice s sn sc] 57 (0, 0)) := by rw [← hW]; exact heap_alloc_new w _
      have hb1 : Below w.heap.size w W1 := by rw [← hW]; exact (Below.refl _ _).alloc (Nat.le_refl _) _
      have hz : w.heap.size < W1.heap.size := by rw [← hW]; simp
      have HQ : Hid (∀ wx, Below W1.heap.size W1 wx → _) := Lib.hid fun wx hb => blk10 ((hb.block w.heap.size hz).trans hk0)
      have HB1 := Lib.hid hb1
      obtain ⟨x0, x1, x2, x3, x4, x5, x6, x7, x8, x9, xf, _⟩ := HQ.out _ (Below.refl _ _)
      clear hW hb1 hk0
      go_wp2_with fail
      refine (HS.out _ HB1.out).mono ?_
      rintro e w1 ⟨rfl, hb⟩
      have HLw1 := Lib.hid (hb)
      clear hb x0 x1 x2 x3 x4 x5 x6 x7 x8 x9 xf
      obtain ⟨x0, x1, x2, x3, x4, x5, x6, x7, x8, x9, xf, _⟩ := HQ.out _ HLw1.out
      dsimp only
      go_wp2_with fail
      go_ret
      exact ⟨rfl, HB1.out.trans (HLw1.out.mono HB1.out.size)⟩
    · have e5 : (k != 5) = true := by simpa using hk5
      clear hk5
      go_enter Tryz.func74, Tryz.ntmps74
      go_upto_region 1 with fail
      generalize hW : World.alloc w _ = W1
      have hk0 : W1.heap[w.heap.size]? = some (.cells #[.int .i64 k, .int .i64 0, .bool true, .int .i64 vk, .int .i64 vi, .string vt, .string t, .string nm, .slice a an ac, .slice s sn sc] 57 (0, 0)) := by rw [← hW]; exact heap_alloc_new w _
      have hb1 : Below w.heap.size w W1 := by rw [← hW]; exact (Below.refl _ _).alloc (Nat.le_refl _) _
      have hz : w.heap.size < W1.heap.size := by rw [← hW]; simp
      have HQ : Hid (∀ wx, Below W1.heap.size W1 wx → _) := Lib.hid fun wx hb => blk10 ((hb.block w.heap.size hz).trans hk0)
      have HB1 := Lib.hid hb1
      obtain ⟨x0, x1, x2, x3, x4, x5, x6, x7, x8, x9, xf, _⟩ := HQ.out _ (Below.refl _ _)
      clear hW hb1 hk0
      go_wp2_with fail
      refine (HS.out _ HB1.out).mono ?_
      rintro e w1 ⟨rfl, hb⟩
      have HLw1 := Lib.hid (hb)
      clear hb x0 x1 x2 x3 x4 x5 x6 x7 x8 x9 xf
      obtain ⟨x0, x1, x2, x3, x4, x5, x6, x7, x8, x9, xf, _⟩ := HQ.out _ HLw1.out
      dsimp only
      go_wp2_with fail
      go_ret
      exact ⟨rfl, HB1.out.trans (HLw1.out.mono HB1.out.size)⟩

set_option maxRecDepth 100000 in
set_option maxHeartbeats 10000000 in
theorem rv_lit (hs : ∀ wx, Below w.heap.size w wx → Calls Tryz.prog 165 #[.agg #[.int .i64 k, .int .i64 o, .bool no, .int .i64 vk, .int .i64 vi, .string vt, .string t, .string nm, .slice a an ac, .slice s sn sc]] wx (RetBel (.bool true) wx)) (hg : k = 1 ∧ o = 0 ∧ no = false) (b2 : Bool) (hv : ∀ wx, Calls Tryz.prog 126 #[.agg #[.int .i64 vk, .int .i64 vi, .string vt]] wx (RetBel (.bool b2) wx)) :
    Calls Tryz.prog 74 #[.agg #[.int .i64 k, .int .i64 o, .bool no, .int .i64 vk, .int .i64 vi, .string vt, .string t, .string nm, .slice a an ac, .slice s sn sc]] w (RetBel (.bool (b2 && !(decide (vk = 1) && decide (vi < 0)) && (noText t && noText nm))) w) := by
  obtain ⟨rfl, rfl, rfl⟩ := hg
  have HS := Lib.hid hs
  have HV := Lib.hid hv
  clear hs hv
  cases b2
  · generalize (noText t && noText nm) = r
    go_enter Tryz.func74, Tryz.ntmps74
    go_upto_region 1 with fail
    generalize hW : World.alloc w _ = W1
    have hk0 : W1.heap[w.heap.size]? = some (.cells #[.int .i64 1, .int .i64 0, .bool false, .int .i64 vk, .int .i64 vi, .string vt, .string t, .string nm, .slice a an ac, .slice s sn sc] 57 (0, 0)) := by rw [← hW]; exact heap_alloc_new w _
    have hb1 : Below w.heap.size w W1 := by rw [← hW]; exact (Below.refl _ _).alloc (Nat.le_refl _) _
    have hz : w.heap.size < W1.heap.size := by rw [← hW]; simp
    have HQ : Hid (∀ wx, Below W1.heap.size W1 wx → _) := Lib.hid fun wx hb => blk10 ((hb.block w.heap.size hz).trans hk0)
    have HB1 := Lib.hid hb1
    obtain ⟨x0, x1, x2, x3, x4, x5, x6, x7, x8, x9, xf, _⟩ := HQ.out _ (Below.refl _ _)
    clear hW hb1 hk0
    go_wp2_with fail
    refine (HS.out _ HB1.out).mono ?_
    rintro e w1 ⟨rfl, hb⟩
    have HLw1 := Lib.hid (hb)
    clear hb x0 x1 x2 x3 x4 x5 x6 x7 x8 x9 xf
    obtain ⟨x0, x1, x2, x3, x4, x5, x6, x7, x8, x9, xf, _⟩ := HQ.out _ HLw1.out
    dsimp only
    go_wp2_with fail
    refine (HV.out _).mono ?_
    rintro e w2 ⟨rfl, hb⟩
    have HLw2 := Lib.hid (HLw1.out.trans (hb.mono HLw1.out.size))
    clear hb x0 x1 x2 x3 x4 x5 x6 x7 x8 x9 xf
    obtain ⟨x0, x1, x2, x3, x4, x5, x6, x7, x8, x9, xf, _⟩ := HQ.out _ HLw2.out
    dsimp only
    go_wp2_with fail
    go_ret
    exact ⟨by simp, HB1.out.trans (HLw2.out.mono HB1.out.size)⟩
  · by_cases hv1 : vk = 1
    · subst hv1
      by_cases hi : vi < 0
      · have hi' : ¬ (0 : Int) ≤ vi := by omega
        rw [decide_eq_true hi]
        clear hi
        generalize (noText t && noText nm) = r
        go_enter Tryz.func74, Tryz.ntmps74
        go_upto_region 1 with fail
        generalize hW : World.alloc w _ = W1
        have hk0 : W1.heap[w.heap.size]? = some (.cells #[.int .i64 1, .int .i64 0, .bool false, .int .i64 1, .int .i64 vi, .string vt, .string t, .string nm, .slice a an ac, .slice s sn sc] 57 (0, 0)) := by rw [← hW]; exact heap_alloc_new w _
        have hb1 : Below w.heap.size w W1 := by rw [← hW]; exact (Below.refl _ _).alloc (Nat.le_refl _) _
        have hz : w.heap.size < W1.heap.size := by rw [← hW]; simp
        have HQ : Hid (∀ wx, Below W1.heap.size W1 wx → _) := Lib.hid fun wx hb => blk10 ((hb.block w.heap.size hz).trans hk0)
        have HB1 := Lib.hid hb1
        obtain ⟨x0, x1, x2, x3, x4, x5, x6, x7, x8, x9, xf, _⟩ := HQ.out _ (Below.refl _ _)
        clear hW hb1 hk0
        go_wp2_with fail
        refine (HS.out _ HB1.out).mono ?_
        rintro e w1 ⟨rfl, hb⟩
        have HLw1 := Lib.hid (hb)
        clear hb x0 x1 x2 x3 x4 x5 x6 x7 x8 x9 xf
        obtain ⟨x0, x1, x2, x3, x4, x5, x6, x7, x8, x9, xf, _⟩ := HQ.out _ HLw1.out
        dsimp only
        go_wp2_with fail
        refine (HV.out _).mono ?_
        rintro e w2 ⟨rfl, hb⟩
        have HLw2 := Lib.hid (HLw1.out.trans (hb.mono HLw1.out.size))
        clear hb x0 x1 x2 x3 x4 x5 x6 x7 x8 x9 xf
        obtain ⟨x0, x1, x2, x3, x4, x5, x6, x7, x8, x9, xf, _⟩ := HQ.out _ HLw2.out
        dsimp only
        go_wp2_with fail
        go_ret
        exact ⟨by simp, HB1.out.trans (HLw2.out.mono HB1.out.size)⟩
      · have hi' : (0 : Int) ≤ vi := by omega
        rw [decide_eq_false hi]
        clear hi
        rcases noText_cases t with ⟨rfl, ht⟩ | ⟨ht0, ht⟩
        · rcases noText_cases nm with ⟨rfl, hn⟩ | ⟨hn0, hn⟩
          · rw [ht]
            clear ht hn
            go_enter Tryz.func74, Tryz.ntmps74
            go_upto_region 1 with fail
            generalize hW : World.alloc w _ = W1
            have hk0 : W1.heap[w.heap.size]? = some (.cells #[.int .i64 1, .int .i64 0, .bool false, .int .i64 1, .int .i64 vi, .string vt, .string ⟨#[]⟩, .string ⟨#[]⟩, .slice a an ac, .slice s sn sc] 57 (0, 0)) := by rw [← hW]; exact heap_alloc_new w _
            have hb1 : Below w.heap.size w W1 := by rw [← hW]; exact (Below.refl _ _).alloc (Nat.le_refl _) _
            have hz : w.heap.size < W1.heap.size := by rw [← hW]; simp
            have HQ : Hid (∀ wx, Below W1.heap.size W1 wx → _) := Lib.hid fun wx hb => blk10 ((hb.block w.heap.size hz).trans hk0)
            have HB1 := Lib.hid hb1
            obtain ⟨x0, x1, x2, x3, x4, x5, x6, x7, x8, x9, xf, _⟩ := HQ.out _ (Below.refl _ _)
            clear hW hb1 hk0
            go_wp2_with fail
            refine (HS.out _ HB1.out).mono ?_
            rintro e w1 ⟨rfl, hb⟩
            have HLw1 := Lib.hid (hb)
            clear hb x0 x1 x2 x3 x4 x5 x6 x7 x8 x9 xf
            obtain ⟨x0, x1, x2, x3, x4, x5, x6, x7, x8, x9, xf, _⟩ := HQ.out _ HLw1.out
            dsimp only
            go_wp2_with fail
            refine (HV.out _).mono ?_
            rintro e w2 ⟨rfl, hb⟩
            have HLw2 := Lib.hid (HLw1.out.trans (hb.mono HLw1.out.size))
            clear hb x0 x1 x2 x3 x4 x5 x6 x7 x8 x9 xf
            obtain ⟨x0, x1, x2, x3, x4, x5, x6, x7, x8, x9, xf, _⟩ := HQ.out _ HLw2.out
            dsimp only
            go_wp2_with fail
            go_ret
            exact ⟨by simp, HB1.out.trans (HLw2.out.mono HB1.out.size)⟩
          · rw [ht, hn]
            clear ht hn
            go_enter Tryz.func74, Tryz.ntmps74
            go_upto_region 1 with fail
            generalize hW : World.alloc w _ = W1
            have hk0 : W1.heap[w.heap.size]? = some (.cells #[.int .i64 1, .int .i64 0, .bool false, .int .i64 1, .int .i64 vi, .string vt, .string ⟨#[]⟩, .string nm, .slice a an ac, .slice s sn sc] 57 (0, 0)) := by rw [← hW]; exact heap_alloc_new w _
            have hb1 : Below w.heap.size w W1 := by rw [← hW]; exact (Below.refl _ _).alloc (Nat.le_refl _) _
            have hz : w.heap.size < W1.heap.size := by rw [← hW]; simp
            have HQ : Hid (∀ wx, Below W1.heap.size W1 wx → _) := Lib.hid fun wx hb => blk10 ((hb.block w.heap.size hz).trans hk0)
            have HB1 := Lib.hid hb1
            obtain ⟨x0, x1, x2, x3, x4, x5, x6, x7, x8, x9, xf, _⟩ := HQ.out _ (Below.refl _ _)
            clear hW hb1 hk0
            go_wp2_with fail
            refine (HS.out _ HB1.out).mono ?_
            rintro e w1 ⟨rfl, hb⟩
            have HLw1 := Lib.hid (hb)
            clear hb x0 x1 x2 x3 x4 x5 x6 x7 x8 x9 xf
            obtain ⟨x0, x1, x2, x3, x4, x5, x6, x7, x8, x9, xf, _⟩ := HQ.out _ HLw1.out
            dsimp only
            go_wp2_with fail
            refine (HV.out _).mono ?_
            rintro e w2 ⟨rfl, hb⟩
            have HLw2 := Lib.hid (HLw1.out.trans (hb.mono HLw1.out.size))
            clear hb x0 x1 x2 x3 x4 x5 x6 x7 x8 x9 xf
            obtain ⟨x0, x1, x2, x3, x4, x5, x6, x7, x8, x9, xf, _⟩ := HQ.out _ HLw2.out
            dsimp only
            go_wp2_with fail
            go_ret
            exact ⟨by simp, HB1.out.trans (HLw2.out.mono HB1.out.size)⟩
        · rw [ht, Bool.false_and]
          clear ht
          go_enter Tryz.func74, Tryz.ntmps74
          go_upto_region 1 with fail
          generalize hW : World.alloc w _ = W1
          have hk0 : W1.heap[w.heap.size]? = some (.cells #[.int .i64 1, .int .i64 0, .bool false, .int .i64 1, .int .i64 vi, .string vt, .string t, .string nm, .slice a an ac, .slice s sn sc] 57 (0, 0)) := by rw [← hW]; exact heap_alloc_new w _
          have hb1 : Below w.heap.size w W1 := by rw [← hW]; exact (Below.refl _ _).alloc (Nat.le_refl _) _
          have hz : w.heap.size < W1.heap.size := by rw [← hW]; simp
          have HQ : Hid (∀ wx, Below W1.heap.size W1 wx → _) := Lib.hid fun wx hb => blk10 ((hb.block w.heap.size hz).trans hk0)
          have HB1 := Lib.hid hb1
          obtain ⟨x0, x1, x2, x3, x4, x5, x6, x7, x8, x9, xf, _⟩ := HQ.out _ (Below.refl _ _)
          clear hW hb1 hk0
          go_wp2_with fail
          refine (HS.out _ HB1.out).mono ?_
          rintro e w1 ⟨rfl, hb⟩
          have HLw1 := Lib.hid (hb)
          clear hb x0 x1 x2 x3 x4 x5 x6 x7 x8 x9 xf
          obtain ⟨x0, x1, x2, x3, x4, x5, x6, x7, x8, x9, xf, _⟩ := HQ.out _ HLw1.out
          dsimp only
          go_wp2_with fail
          refine (HV.out _).mono ?_
          rintro e w2 ⟨rfl, hb⟩
          have HLw2 := Lib.hid (HLw1.out.trans (hb.mono HLw1.out.size))
          clear hb x0 x1 x2 x3 x4 x5 x6 x7 x8 x9 xf
          obtain ⟨x0, x1, x2, x3, x4, x5, x6, x7, x8, x9, xf, _⟩ := HQ.out _ HLw2.out
          dsimp only
          go_wp2_with fail
          go_ret
          exact ⟨by simp, HB1.out.trans (HLw2.out.mono HB1.out.size)⟩
    · have hv1' : (vk != 1) = true := by simpa using hv1
      rw [decide_eq_false hv1]
      clear hv1
      rcases noText_cases t with ⟨rfl, ht⟩ | ⟨ht0, ht⟩
      · rcases noText_cases nm with ⟨rfl, hn⟩ | ⟨hn0, hn⟩
        · rw [ht]
          clear ht hn
          go_enter Tryz.func74, Tryz.ntmps74
          go_upto_region 1 with fail
          generalize hW : World.alloc w _ = W1
          have hk0 : W1.heap[w.heap.size]? = some (.cells #[.int .i64 1, .int .i64 0, .bool false, .int .i64 vk, .int .i64 vi, .string vt, .string ⟨#[]⟩, .string ⟨#[]⟩, .slice a an ac, .slice s sn sc] 57 (0, 0)) := by rw [← hW]; exact heap_alloc_new w _
          have hb1 : Below w.heap.size w W1 := by rw [← hW]; exact (Below.refl _ _).alloc (Nat.le_refl _) _
          have hz : w.heap.size < W1.heap.size := by rw [← hW]; simp
          have HQ : Hid (∀ wx, Below W1.heap.size W1 wx → _) := Lib.hid fun wx hb => blk10 ((hb.block w.heap.size hz).trans hk0)
          have HB1 := Lib.hid hb1
          obtain ⟨x0, x1, x2, x3, x4, x5, x6, x7, x8, x9, xf, _⟩ := HQ.out _ (Below.refl _ _)
          clear hW hb1 hk0
          go_wp2_with fail
          refine (HS.out _ HB1.out).mono ?_
          rintro e w1 ⟨rfl, hb⟩
          have HLw1 := Lib.hid (hb)
          clear hb x0 x1 x2 x3 x4 x5 x6 x7 x8 x9 xf
          obtain ⟨x0, x1, x2, x3, x4, x5, x6, x7, x8, x9, xf, _⟩ := HQ.out _ HLw1.out
          dsimp only
          go_wp2_with fail
          refine (HV.out _).mono ?_
          rintro e w2 ⟨rfl, hb⟩
          have HLw2 := Lib.hid (HLw1.out.trans (hb.mono HLw1.out.size))
          clear hb x0 x1 x2 x3 x4 x5 x6 x7 x8 x9 xf
          obtain ⟨x0, x1, x2, x3, x4, x5, x6, x7, x8, x9, xf, _⟩ := HQ.out _ HLw2.out
          dsimp only
          go_wp2_with fail
          go_ret
          exact ⟨by simp, HB1.out.trans (HLw2.out.mono HB1.out.size)⟩
        · rw [ht, hn]
          clear ht hn
          go_enter Tryz.func74, Tryz.ntmps74
          go_upto_region 1 with fail
          generalize hW : World.alloc w _ = W1
          have hk0 : W1.heap[w.heap.size]? = some (.cells #[.int .i64 1, .int .i64 0, .bool false, .int .i64 vk, .int .i64 vi, .string vt, .string ⟨#[]⟩, .string nm, .slice a an ac, .slice s sn sc] 57 (0, 0)) := by rw [← hW]; exact heap_alloc_new w _
          have hb1 : Below w.heap.size w W1 := by rw [← hW]; exact (Below.refl _ _).alloc (Nat.le_refl _) _
          have hz : w.heap.size < W1.heap.size := by rw [← hW]; simp
          have HQ : Hid (∀ wx, Below W1.heap.size W1 wx → _) := Lib.hid fun wx hb => blk10 ((hb.block w.heap.size hz).trans hk0)
          have HB1 := Lib.hid hb1
          obtain ⟨x0, x1, x2, x3, x4, x5, x6, x7, x8, x9, xf, _⟩ := HQ.out _ (Below.refl _ _)
          clear hW hb1 hk0
          go_wp2_with fail
          refine (HS.out _ HB1.out).mono ?_
          rintro e w1 ⟨rfl, hb⟩
          have HLw1 := Lib.hid (hb)
          clear hb x0 x1 x2 x3 x4 x5 x6 x7 x8 x9 xf
          obtain ⟨x0, x1, x2, x3, x4, x5, x6, x7, x8, x9, xf, _⟩ := HQ.out _ HLw1.out
          dsimp only
          go_wp2_with fail
          refine (HV.out _).mono ?_
          rintro e w2 ⟨rfl, hb⟩
          have HLw2 := Lib.hid (HLw1.out.trans (hb.mono HLw1.out.size))
          clear hb x0 x1 x2 x3 x4 x5 x6 x7 x8 x9 xf
          obtain ⟨x0, x1, x2, x3, x4, x5, x6, x7, x8, x9, xf, _⟩ := HQ.out _ HLw2.out
          dsimp only
          go_wp2_with fail
          go_ret
          exact ⟨by simp, HB1.out.trans (HLw2.out.mono HB1.out.size)⟩
      · rw [ht, Bool.false_and]
        clear ht
        go_enter Tryz.func74, Tryz.ntmps74
        go_upto_region 1 with fail
        generalize hW : World.alloc w _ = W1
        have hk0 : W1.heap[w.heap.size]? = some (.cells #[.int .i64 1, .int .i64 0, .bool false, .int .i64 vk, .int .i64 vi, .string vt, .string t, .string nm, .slice a an ac, .slice s sn sc] 57 (0, 0)) := by rw [← hW]; exact heap_alloc_new w _
        have hb1 : Below w.heap.size w W1 := by rw [← hW]; exact (Below.refl _ _).alloc (Nat.le_refl _) _
        have hz : w.heap.size < W1.heap.size := by rw [← hW]; simp
        have HQ : Hid (∀ wx, Below W1.heap.size W1 wx → _) := Lib.hid fun wx hb => blk10 ((hb.block w.heap.size hz).trans hk0)
        have HB1 := Lib.hid hb1
        obtain ⟨x0, x1, x2, x3, x4, x5, x6, x7, x8, x9, xf, _⟩ := HQ.out _ (Below.refl _ _)
        clear hW hb1 hk0
        go_wp2_with fail
        refine (HS.out _ HB1.out).mono ?_
        rintro e w1 ⟨rfl, hb⟩
        have HLw1 := Lib.hid (hb)
        clear hb x0 x1 x2 x3 x4 x5 x6 x7 x8 x9 xf
        obtain ⟨x0, x1, x2, x3, x4, x5, x6, x7, x8, x9, xf, _⟩ := HQ.out _ HLw1.out
        dsimp only
        go_wp2_with fail
        refine (HV.out _).mono ?_
        rintro e w2 ⟨rfl, hb⟩
        have HLw2 := Lib.hid (HLw1.out.trans (hb.mono HLw1.out.size))
        clear hb x0 x1 x2 x3 x4 x5 x6 x7 x8 x9 xf
        obtain ⟨x0, x1, x2, x3, x4, x5, x6, x7, x8, x9, xf, _⟩ := HQ.out _ HLw2.out
        dsimp only
        go_wp2_with fail
        go_ret
        exact ⟨by simp, HB1.out.trans (HLw2.out.mono HB1.out.size)⟩

set_option maxRecDepth 100000 in
set_option maxHeartbeats 10000000 in
theorem rv_col (hs : ∀ wx, Below w.heap.size w wx → Calls Tryz.prog 165 #[.agg #[.int .i64 k, .int .i64 o, .bool no, .int .i64 vk, .int .i64 vi, .string vt, .string t, .string nm, .slice a an ac, .slice s sn sc]] wx (RetBel (.bool true) wx)) (hg : k = 2 ∧ o = 0 ∧ no = false) (sb nb tb : Bool) (htb : (noText t || sb || t.toList == [78, 69, 87] || t.toList == [79, 76, 68]) = tb) (hso : ∀ wx, Calls Tryz.prog 118 #[.string t] wx fun e w' => e = .returned (.bool sb) ∧ wx = w') (hn : ∀ wx, Calls Tryz.prog 123 #[.string nm] wx fun e w' => e = .returned (.bool nb) ∧ wx = w') :
    Calls Tryz.prog 74 #[.agg #[.int .i64 k, .int .i64 o, .bool no, .int .i64 vk, .int .i64 vi, .string vt, .string t, .string nm, .slice a an ac, .slice s sn sc]] w (RetBel (.bool (tb && nb && valZ ⟨vk, vi, vt⟩)) w) := by
  obtain ⟨rfl, rfl, rfl⟩ := hg
  have HS := Lib.hid hs
  have HSO := Lib.hid hso
  have HN := Lib.hid hn
  clear hs hso hn
  rcases noText_cases t with ⟨rfl, ht⟩ | ⟨ht0, ht⟩
  · have HTB : Hid (Value.bool true = .bool tb) := Lib.hid (by rw [← htb, ht]; simp)
    clear htb ht
    go_enter Tryz.func74, Tryz.ntmps74
    go_upto_region 1 with fail
    generalize hW : World.alloc w _ = W1
    have hk0 : W1.heap[w.heap.size]? = some (.cells #[.int .i64 2, .int .i64 0, .bool false, .int .i64 vk, .int .i64 vi, .string vt, .string ⟨#[]⟩, .string nm, .slice a an ac, .slice s sn sc] 57 (0, 0)) := by rw [← hW]; exact heap_alloc_new w _
    have hb1 : Below w.heap.size w W1 := by rw [← hW]; exact (Below.refl _ _).alloc (Nat.le_refl _) _
    have hz : w.heap.size < W1.heap.size := by rw [← hW]; simp
    have HQ : Hid (∀ wx, Below W1.heap.size W1 wx → _) := Lib.hid fun wx hb => blk10 ((hb.block w.heap.size hz).trans hk0)
    have HB1 := Lib.hid hb1
    obtain ⟨x0, x1, x2, x3, x4, x5, x6, x7, x8, x9, xf, _⟩ := HQ.out _ (Below.refl _ _)
    clear hW hb1 hk0
    go_wp2_with fail
    refine (HS.out _ HB1.out).mono ?_
    rintro e w1 ⟨rfl, hb⟩
    have HLw1 := Lib.hid (hb)
    clear hb x0 x1 x2 x3 x4 x5 x6 x7 x8 x9 xf
    obtain ⟨x0, x1, x2, x3, x4, x5, x6, x7, x8, x9, xf, _⟩ := HQ.out _ HLw1.out
    dsimp only
    go_upto_region 7 with fail
    go_cut [3] (fun v wx => v = .bool tb ∧ Below W1.heap.size W1 wx)
    case first =>
      go_wp2_with fail
      go_meet
      exact ⟨HTB.out, HLw1.out⟩
    case rest =>
      obtain ⟨rfl, hbc⟩ := hcut
      have HLc := Lib.hid hbc
      clear hbc x0 x1 x2 x3 x4 x5 x6 x7 x8 x9 xf
      obtain ⟨x0, x1, x2, x3, x4, x5, x6, x7, x8, x9, xf, _⟩ := HQ.out _ HLc.out
      clear HTB
      cases tb
      · go_wp2_with fail
        go_ret
        exact ⟨by simp, HB1.out.trans (HLc.out.mono HB1.out.size)⟩
      · cases nb
        · go_wp2_with fail
          refine (HN.out _).mono ?_
          rintro e w3 ⟨rfl, rfl⟩
          dsimp only
          go_wp2_with fail
          go_ret
          exact ⟨by simp, HB1.out.trans (HLc.out.mono HB1.out.size)⟩
        · by_cases hvk : vk = 0
          · subst hvk
            by_cases hvi : vi = 0
            · subst hvi
              rcases noText_cases vt with ⟨rfl, hx⟩ | ⟨hx0, hx⟩
              · have HX := Lib.hid hx
                clear hx
                go_wp2_with fail
                refine (HN.out _).mono ?_
                rintro e w3 ⟨rfl, rfl⟩
                dsimp only
                go_wp2_with fail
                go_ret
                exact ⟨by simp [valZ, HX.out], HB1.out.trans (HLc.out.mono HB1.out.size)⟩
              · have HX := Lib.hid hx
                clear hx
                go_wp2_with fail
                refine (HN.out _).mono ?_
                rintro e w3 ⟨rfl, rfl⟩
                dsimp only
                go_wp2_with fail
                go_ret
                exact ⟨by simp [valZ, HX.out], HB1.out.trans (HLc.out.mono HB1.out.size)⟩
            · go_wp2_with fail
              refine (HN.out _).mono ?_
              rintro e w3 ⟨rfl, rfl⟩
              dsimp only
              go_wp2_with fail
              go_ret
              exact ⟨by simp [valZ, hvi], HB1.out.trans (HLc.out.mono HB1.out.size)⟩
          · go_wp2_with fail
            refine (HN.out _).mono ?_
            rintro e w3 ⟨rfl, rfl⟩
            dsimp only
            go_wp2_with fail
            go_ret
            exact ⟨by simp [valZ, hvk], HB1.out.trans (HLc.out.mono HB1.out.size)⟩
  · cases sb
    · cases e2 : (t.toList == [78, 69, 87])
      · cases e3 : (t.toList == [79, 76, 68])
        · have HTB : Hid (Value.bool false = .bool tb) := Lib.hid (by rw [← htb, ht, e2, e3]; rfl)
          clear htb ht
          go_enter Tryz.func74, Tryz.ntmps74
          go_upto_region 1 with fail
          generalize hW : World.alloc w _ = W1
          have hk0 : W1.heap[w.heap.size]? = some (.cells #[.int .i64 2, .int .i64 0, .bool false, .int .i64 vk, .int .i64 vi, .string vt, .string t, .string nm, .slice a an ac, .slice s sn sc] 57 (0, 0)) := by rw [← hW]; exact heap_alloc_new w _
          have hb1 : Below w.heap.size w W1 := by rw [← hW]; exact (Below.refl _ _).alloc (Nat.le_refl _) _
          have hz : w.heap.size < W1.heap.size := by rw [← hW]; simp
          have HQ : Hid (∀ wx, Below W1.heap.size W1 wx → _) := Lib.hid fun wx hb => blk10 ((hb.block w.heap.size hz).trans hk0)
          have HB1 := Lib.hid hb1
          obtain ⟨x0, x1, x2, x3, x4, x5, x6, x7, x8, x9, xf, _⟩ := HQ.out _ (Below.refl _ _)
          clear hW hb1 hk0
          go_wp2_with fail
          refine (HS.out _ HB1.out).mono ?_
          rintro e w1 ⟨rfl, hb⟩
          have HLw1 := Lib.hid (hb)
          clear hb x0 x1 x2 x3 x4 x5 x6 x7 x8 x9 xf
          obtain ⟨x0, x1, x2, x3, x4, x5, x6, x7, x8, x9, xf, _⟩ := HQ.out _ HLw1.out
          dsimp only
          go_upto_region 7 with fail
          go_cut [3] (fun v wx => v = .bool tb ∧ Below W1.heap.size W1 wx)
          case first =>
            go_wp2_with fail
            refine (HSO.out _).mono ?_
            rintro e w2 ⟨rfl, rfl⟩
            dsimp only
            go_wp2_with fail
            go_meet
            exact ⟨HTB.out, HLw1.out⟩
          case rest =>
            obtain ⟨rfl, hbc⟩ := hcut
            have HLc := Lib.hid hbc
            clear hbc x0 x1 x2 x3 x4 x5 x6 x7 x8 x9 xf
            obtain ⟨x0, x1, x2, x3, x4, x5, x6, x7, x8, x9, xf, _⟩ := HQ.out _ HLc.out
            clear HTB
            cases tb
            · go_wp2_with fail
              go_ret
              exact ⟨by simp, HB1.out.trans (HLc.out.mono HB1.out.size)⟩
            · cases nb
              · go_wp2_with fail
                refine (HN.out _).mono ?_
                rintro e w3 ⟨rfl, rfl⟩
                dsimp only
                go_wp2_with fail
                go_ret
                exact ⟨by simp, HB1.out.trans (HLc.out.mono HB1.out.size)⟩
              · by_cases hvk : vk = 0
                · subst hvk
                  by_cases hvi : vi = 0
                  · subst hvi
                    rcases noText_cases vt with ⟨rfl, hx⟩ | ⟨hx0, hx⟩
                    · have HX := Lib.hid hx
                      clear hx
                      go_wp2_with fail
                      refine (HN.out _).mono ?_
                      rintro e w3 ⟨rfl, rfl⟩
                      dsimp only
                      go_wp2_with fail
                      go_ret
                      exact ⟨by simp [valZ, HX.out], HB1.out.trans (HLc.out.mono HB1.out.size)⟩
                    · have HX := Lib.hid hx
                      clear hx
                      go_wp2_with fail
                      refine (HN.out _).mono ?_
                      rintro e w3 ⟨rfl, rfl⟩
                      dsimp only
                      go_wp2_with fail
                      go_ret
                      exact ⟨by simp [valZ, HX.out], HB1.out.trans (HLc.out.mono HB1.out.size)⟩
                  · go_wp2_with fail
                    refine (HN.out _).mono ?_
                    rintro e w3 ⟨rfl, rfl⟩
                    dsimp only
                    go_wp2_with fail
                    go_ret
                    exact ⟨by simp [valZ, hvi], HB1.out.trans (HLc.out.mono HB1.out.size)⟩
                · go_wp2_with fail
                  refine (HN.out _).mono ?_
                  rintro e w3 ⟨rfl, rfl⟩
                  dsimp only
                  go_wp2_with fail
                  go_ret
                  exact ⟨by simp [valZ, hvk], HB1.out.trans (HLc.out.mono HB1.out.size)⟩
        · have HTB : Hid (Value.bool true = .bool tb) := Lib.hid (by rw [← htb, e3]; simp)
          clear htb ht
          go_enter Tryz.func74, Tryz.ntmps74
          go_upto_region 1 with fail
          generalize hW : World.alloc w _ = W1
          have hk0 : W1.heap[w.heap.size]? = some (.cells #[.int .i64 2, .int .i64 0, .bool false, .int .i64 vk, .int .i64 vi, .string vt, .string t, .string nm, .slice a an ac, .slice s sn sc] 57 (0, 0)) := by rw [← hW]; exact heap_alloc_new w _
          have hb1 : Below w.heap.size w W1 := by rw [← hW]; exact (Below.refl _ _).alloc (Nat.le_refl _) _
          have hz : w.heap.size < W1.heap.size := by rw [← hW]; simp
          have HQ : Hid (∀ wx, Below W1.heap.size W1 wx → _) := Lib.hid fun wx hb => blk10 ((hb.block w.heap.size hz).trans hk0)
          have HB1 := Lib.hid hb1
          obtain ⟨x0, x1, x2, x3, x4, x5, x6, x7, x8, x9, xf, _⟩ := HQ.out _ (Below.refl _ _)
          clear hW hb1 hk0
          go_wp2_with fail
          refine (HS.out _ HB1.out).mono ?_
          rintro e w1 ⟨rfl, hb⟩
          have HLw1 := Lib.hid (hb)
          clear hb x0 x1 x2 x3 x4 x5 x6 x7 x8 x9 xf
          obtain ⟨x0, x1, x2, x3, x4, x5, x6, x7, x8, x9, xf, _⟩ := HQ.out _ HLw1.out
          dsimp only
          go_upto_region 7 with fail
          go_cut [3] (fun v wx => v = .bool tb ∧ Below W1.heap.size W1 wx)
          case first =>
            go_wp2_with fail
            refine (HSO.out _).mono ?_
            rintro e w2 ⟨rfl, rfl⟩
            dsimp only
            go_wp2_with fail
            go_meet
            exact ⟨HTB.out, HLw1.out⟩
          case rest =>
            obtain ⟨rfl, hbc⟩ := hcut
            have HLc := Lib.hid hbc
            clear hbc x0 x1 x2 x3 x4 x5 x6 x7 x8 x9 xf
            obtain ⟨x0, x1, x2, x3, x4, x5, x6, x7, x8, x9, xf, _⟩ := HQ.out _ HLc.out
            clear HTB
            cases tb
            · go_wp2_with fail
              go_ret
              exact ⟨by simp, HB1.out.trans (HLc.out.mono HB1.out.size)⟩
            · cases nb
              · go_wp2_with fail
                refine (HN.out _).mono ?_
                rintro e w3 ⟨rfl, rfl⟩
                dsimp only
                go_wp2_with fail
                go_ret
                exact ⟨by simp, HB1.out.trans (HLc.out.mono HB1.out.size)⟩
              · by_cases hvk : vk = 0
                · subst hvk
                  by_cases hvi : vi = 0
                  · subst hvi
                    rcases noText_cases vt with ⟨rfl, hx⟩ | ⟨hx0, hx⟩
                    · have HX := Lib.hid hx
                      clear hx
                      go_wp2_with fail
                      refine (HN.out _).mono ?_
                      rintro e w3 ⟨rfl, rfl⟩
                      dsimp only
                      go_wp2_with fail
                      go_ret
                      exact ⟨by simp [valZ, HX.out], HB1.out.trans (HLc.out.mono HB1.out.size)⟩
                    · have HX := Lib.hid hx
                      clear hx
                      go_wp2_with fail
                      refine (HN.out _).mono ?_
                      rintro e w3 ⟨rfl, rfl⟩
                      dsimp only
                      go_wp2_with fail
                      go_ret
                      exact ⟨by simp [valZ, HX.out], HB1.out.trans (HLc.out.mono HB1.out.size)⟩
                  · go_wp2_with fail
                    refine (HN.out _).mono ?_
                    rintro e w3 ⟨rfl, rfl⟩
                    dsimp only
                    go_wp2_with fail
                    go_ret
                    exact ⟨by simp [valZ, hvi], HB1.out.trans (HLc.out.mono HB1.out.size)⟩
                · go_wp2_with fail
                  refine (HN.out _).mono ?_
                  rintro e w3 ⟨rfl, rfl⟩
                  dsimp only
                  go_wp2_with fail
                  go_ret
                  exact ⟨by simp [valZ, hvk], HB1.out.trans (HLc.out.mono HB1.out.size)⟩
      · have HTB : Hid (Value.bool true = .bool tb) := Lib.hid (by rw [← htb, e2]; simp)
        clear htb ht
        go_enter Tryz.func74, Tryz.ntmps74
        go_upto_region 1 with fail
        generalize hW : World.alloc w _ = W1
        have hk0 : W1.heap[w.heap.size]? = some (.cells #[.int .i64 2, .int .i64 0, .bool false, .int .i64 vk, .int .i64 vi, .string vt, .string t, .string nm, .slice a an ac, .slice s sn sc] 57 (0, 0)) := by rw [← hW]; exact heap_alloc_new w _
        have hb1 : Below w.heap.size w W1 := by rw [← hW]; exact (Below.refl _ _).alloc (Nat.le_refl _) _
        have hz : w.heap.size < W1.heap.size := by rw [← hW]; simp
        have HQ : Hid (∀ wx, Below W1.heap.size W1 wx → _) := Lib.hid fun wx hb => blk10 ((hb.block w.heap.size hz).trans hk0)
        have HB1 := Lib.hid hb1
        obtain ⟨x0, x1, x2, x3, x4, x5, x6, x7, x8, x9, xf, _⟩ := HQ.out _ (Below.refl _ _)
        clear hW hb1 hk0
        go_wp2_with fail
        refine (HS.out _ HB1.out).mono ?_
        rintro e w1 ⟨rfl, hb⟩
        have HLw1 := Lib.hid (hb)
        clear hb x0 x1 x2 x3 x4 x5 x6 x7 x8 x9 xf
        obtain ⟨x0, x1, x2, x3, x4, x5, x6, x7, x8, x9, xf, _⟩ := HQ.out _ HLw1.out
        dsimp only
        go_upto_region 7 with fail
        go_cut [3] (fun v wx => v = .bool tb ∧ Below W1.heap.size W1 wx)
        case first =>
          go_wp2_with fail
          refine (HSO.out _).mono ?_
          rintro e w2 ⟨rfl, rfl⟩
          dsimp only
          go_wp2_with fail
          go_meet
          exact ⟨HTB.out, HLw1.out⟩
        case rest =>
          obtain ⟨rfl, hbc⟩ := hcut
          have HLc := Lib.hid hbc
          clear hbc x0 x1 x2 x3 x4 x5 x6 x7 x8 x9 xf
          obtain ⟨x0, x1, x2, x3, x4, x5, x6, x7, x8, x9, xf, _⟩ := HQ.out _ HLc.out
          clear HTB
          cases tb
          · go_wp2_with fail
            go_ret
            exact ⟨by simp, HB1.out.trans (HLc.out.mono HB1.out.size)⟩
          · cases nb
            · go_wp2_with fail
              refine (HN.out _).mono ?_
              rintro e w3 ⟨rfl, rfl⟩
              dsimp only
              go_wp2_with fail
              go_ret
              exact ⟨by simp, HB1.out.trans (HLc.out.mono HB1.out.size)⟩
            · by_cases hvk : vk = 0
              · subst hvk
                by_cases hvi : vi = 0
                · subst hvi
                  rcases noText_cases vt with ⟨rfl, hx⟩ | ⟨hx0, hx⟩
                  · have HX := Lib.hid hx
                    clear hx
                    go_wp2_with fail
                    refine (HN.out _).mono ?_
                    rintro e w3 ⟨rfl, rfl⟩
                    dsimp only
                    go_wp2_with fail
                    go_ret
                    exact ⟨by simp [valZ, HX.out], HB1.out.trans (HLc.out.mono HB1.out.size)⟩
                  · have HX := Lib.hid hx
                    clear hx
                    go_wp2_with fail
                    refine (HN.out _).mono ?_
                    rintro e w3 ⟨rfl, rfl⟩
                    dsimp only
                    go_wp2_with fail
                    go_ret
                    exact ⟨by simp [valZ, HX.out], HB1.out.trans (HLc.out.mono HB1.out.size)⟩
                · go_wp2_with fail
                  refine (HN.out _).mono ?_
                  rintro e w3 ⟨rfl, rfl⟩
                  dsimp only
                  go_wp2_with fail
                  go_ret
                  exact ⟨by simp [valZ, hvi], HB1.out.trans (HLc.out.mono HB1.out.size)⟩
              · go_wp2_with fail
                refine (HN.out _).mono ?_
                rintro e w3 ⟨rfl, rfl⟩
                dsimp only
                go_wp2_with fail
                go_ret
                exact ⟨by simp [valZ, hvk], HB1.out.trans (HLc.out.mono HB1.out.size)⟩
    · have HTB : Hid (Value.bool true = .bool tb) := Lib.hid (by rw [← htb]; simp)
      clear htb ht
      go_enter Tryz.func74, Tryz.ntmps74
      go_upto_region 1 with fail
      generalize hW : World.alloc w _ = W1
      have hk0 : W1.heap[w.heap.size]? = some (.cells #[.int .i64 2, .int .i64 0, .bool false, .int .i64 vk, .int .i64 vi, .string vt, .string t, .string nm, .slice a an ac, .slice s sn sc] 57 (0, 0)) := by rw [← hW]; exact heap_alloc_new w _
      have hb1 : Below w.heap.size w W1 := by rw [← hW]; exact (Below.refl _ _).alloc (Nat.le_refl _) _
      have hz : w.heap.size < W1.heap.size := by rw [← hW]; simp
      have HQ : Hid (∀ wx, Below W1.heap.size W1 wx → _) := Lib.hid fun wx hb => blk10 ((hb.block w.heap.size hz).trans hk0)
      have HB1 := Lib.hid hb1
      obtain ⟨x0, x1, x2, x3, x4, x5, x6, x7, x8, x9, xf, _⟩ := HQ.out _ (Below.refl _ _)
      clear hW hb1 hk0
      go_wp2_with fail
      refine (HS.out _ HB1.out).mono ?_
      rintro e w1 ⟨rfl, hb⟩
      have HLw1 := Lib.hid (hb)
      clear hb x0 x1 x2 x3 x4 x5 x6 x7 x8 x9 xf
      obtain ⟨x0, x1, x2, x3, x4, x5, x6, x7, x8, x9, xf, _⟩ := HQ.out _ HLw1.out
      dsimp only
      go_upto_region 7 with fail
      go_cut [3] (fun v wx => v = .bool tb ∧ Below W1.heap.size W1 wx)
      case first =>
        go_wp2_with fail
        refine (HSO.out _).mono ?_
        rintro e w2 ⟨rfl, rfl⟩
        dsimp only
        go_wp2_with fail
        go_meet
        exact ⟨HTB.out, HLw1.out⟩
      case rest =>
        obtain ⟨rfl, hbc⟩ := hcut
        have HLc := Lib.hid hbc
        clear hbc x0 x1 x2 x3 x4 x5 x6 x7 x8 x9 xf
        obtain ⟨x0, x1, x2, x3, x4, x5, x6, x7, x8, x9, xf, _⟩ := HQ.out _ HLc.out
        clear HTB
        cases tb
        · go_wp2_with fail
          go_ret
          exact ⟨by simp, HB1.out.trans (HLc.out.mono HB1.out.size)⟩
        · cases nb
          · go_wp2_with fail
            refine (HN.out _).mono ?_
            rintro e w3 ⟨rfl, rfl⟩
            dsimp only
            go_wp2_with fail
            go_ret
            exact ⟨by simp, HB1.out.trans (HLc.out.mono HB1.out.size)⟩
          · by_cases hvk : vk = 0
            · subst hvk
              by_cases hvi : vi = 0
              · subst hvi
                rcases noText_cases vt with ⟨rfl, hx⟩ | ⟨hx0, hx⟩
                · have HX := Lib.hid hx
                  clear hx
                  go_wp2_with fail
                  refine (HN.out _).mono ?_
                  rintro e w3 ⟨rfl, rfl⟩
                  dsimp only
                  go_wp2_with fail
                  go_ret
                  exact ⟨by simp [valZ, HX.out], HB1.out.trans (HLc.out.mono HB1.out.size)⟩
                · have HX := Lib.hid hx
                  clear hx
                  go_wp2_with fail
                  refine (HN.out _).mono ?_
                  rintro e w3 ⟨rfl, rfl⟩
                  dsimp only
                  go_wp2_with fail
                  go_ret
                  exact ⟨by simp [valZ, HX.out], HB1.out.trans (HLc.out.mono HB1.out.size)⟩
              · go_wp2_with fail
                refine (HN.out _).mono ?_
                rintro e w3 ⟨rfl, rfl⟩
                dsimp only
                go_wp2_with fail
                go_ret
                exact ⟨by simp [valZ, hvi], HB1.out.trans (HLc.out.mono HB1.out.size)⟩
            · go_wp2_with fail
              refine (HN.out _).mono ?_
              rintro e w3 ⟨rfl, rfl⟩
              dsimp only
              go_wp2_with fail
              go_ret
              exact ⟨by simp [valZ, hvk], HB1.out.trans (HLc.out.mono HB1.out.size)⟩
end
end Go.Proofs.YtpnigfmclmfjaaaGreatDoor

namespace Go.Proofs.YtpnigfmclmfjaaaGreatDoor
open Go.RowKit

section
variable (k o : Int) (no : Bool) (vk vi : Int) (vt t nm : ByteArray) (a s : Option Addr) (an ac sn sc : Nat) (w : World)

set_option maxRecDepth 100000 in
set_option maxHeartbeats 10000000 in
theorem rv_opsA (hs : ∀ wx, Below w.heap.size w wx → Calls Tryz.prog 165 #[.agg #[.int .i64 k, .int .i64 o, .bool no, .int .i64 vk, .int .i64 vi, .string vt, .string t, .string nm, .slice a an ac, .slice s sn sc]] wx (RetBel (.bool true) wx)) (hg : k = 5 ∧ no = false ∧ sn = 0) (pb ab : Bool) (hp : ∀ wx, Calls Tryz.prog 166 #[.agg #[.int .i64 k, .int .i64 o, .bool no, .int .i64 vk, .int .i64 vi, .string vt, .string t, .string nm, .slice a an ac, .slice s sn sc]] wx (RetBel (.bool pb) wx)) (ha : ∀ wx, Below w.heap.size w wx → Calls Tryz.prog 119 #[.slice a an ac] wx (RetBel (.bool ab) wx)) :
    Calls Tryz.prog 74 #[.agg #[.int .i64 k, .int .i64 o, .bool no, .int .i64 vk, .int .i64 vi, .string vt, .string t, .string nm, .slice a an ac, .slice s sn sc]] w (RetBel (.bool (pb && ab)) w) := by
  obtain ⟨rfl, rfl, rfl⟩ := hg
  have HS := Lib.hid hs
  have HP := Lib.hid hp
  have HA := Lib.hid ha
  clear hs hp ha
  cases pb
  · go_enter Tryz.func74, Tryz.ntmps74
    go_upto_region 1 with fail
    generalize hW : World.alloc w _ = W1
    have hk0 : W1.heap[w.heap.size]? = some (.cells #[.int .i64 5, .int .i64 o, .bool false, .int .i64 vk, .int .i64 vi, .string vt, .string t, .string nm, .slice a an ac, .slice s 0 sc] 57 (0, 0)) := by rw [← hW]; exact heap_alloc_new w _
    have hb1 : Below w.heap.size w W1 := by rw [← hW]; exact (Below.refl _ _).alloc (Nat.le_refl _) _
    have hz : w.heap.size < W1.heap.size := by rw [← hW]; simp
    have HQ : Hid (∀ wx, Below W1.heap.size W1 wx → _) := Lib.hid fun wx hb => blk10 ((hb.block w.heap.size hz).trans hk0)
    have HB1 := Lib.hid hb1
    obtain ⟨x0, x1, x2, x3, x4, x5, x6, x7, x8, x9, xf, _⟩ := HQ.out _ (Below.refl _ _)
    clear hW hb1 hk0
    go_wp2_with fail
    refine (HS.out _ HB1.out).mono ?_
    rintro e w1 ⟨rfl, hb⟩
    have HLw1 := Lib.hid (hb)
    clear hb x0 x1 x2 x3 x4 x5 x6 x7 x8 x9 xf
    obtain ⟨x0, x1, x2, x3, x4, x5, x6, x7, x8, x9, xf, _⟩ := HQ.out _ HLw1.out
    dsimp only
    go_wp2_with fail
    refine (HP.out _).mono ?_
    rintro e w2 ⟨rfl, hb⟩
    have HLw2 := Lib.hid (HLw1.out.trans (hb.mono HLw1.out.size))
    clear hb x0 x1 x2 x3 x4 x5 x6 x7 x8 x9 xf
    obtain ⟨x0, x1, x2, x3, x4, x5, x6, x7, x8, x9, xf, _⟩ := HQ.out _ HLw2.out
    dsimp only
    go_wp2_with fail
    go_ret
    exact ⟨by simp, HB1.out.trans (HLw2.out.mono HB1.out.size)⟩
  · cases ab
    · go_enter Tryz.func74, Tryz.ntmps74
      go_upto_region 1 with fail
      generalize hW : World.alloc w _ = W1
      have hk0 : W1.heap[w.heap.size]? = some (.cells #[.int .i64 5, .int .i64 o, .bool false, .int .i64 vk, .int .i64 vi, .string vt, .string t, .string nm, .slice a an ac, .slice s 0 sc] 57 (0, 0)) := by rw [← hW]; exact heap_alloc_new w _
      have hb1 : Below w.heap.size w W1 := by rw [← hW]; exact (Below.refl _ _).alloc (Nat.le_refl _) _
      have hz : w.heap.size < W1.heap.size := by rw [← hW]; simp
      have HQ : Hid (∀ wx, Below W1.heap.size W1 wx → _) := Lib.hid fun wx hb => blk10 ((hb.block w.heap.size hz).trans hk0)
      have HB1 := Lib.hid hb1
      obtain ⟨x0, x1, x2, x3, x4, x5, x6, x7, x8, x9, xf, _⟩ := HQ.out _ (Below.refl _ _)
      clear hW hb1 hk0
      go_wp2_with fail
      refine (HS.out _ HB1.out).mono ?_
      rintro e w1 ⟨rfl, hb⟩
      have HLw1 := Lib.hid (hb)
      clear hb x0 x1 x2 x3 x4 x5 x6 x7 x8 x9 xf
      obtain ⟨x0, x1, x2, x3, x4, x5, x6, x7, x8, x9, xf, _⟩ := HQ.out _ HLw1.out
      dsimp only
      go_wp2_with fail
      refine (HP.out _).mono ?_
      rintro e w2 ⟨rfl, hb⟩
      have HLw2 := Lib.hid (HLw1.out.trans (hb.mono HLw1.out.size))
      clear hb x0 x1 x2 x3 x4 x5 x6 x7 x8 x9 xf
      obtain ⟨x0, x1, x2, x3, x4, x5, x6, x7, x8, x9, xf, _⟩ := HQ.out _ HLw2.out
      dsimp only
      go_wp2_with fail
      refine (HA.out _ (HB1.out.trans (HLw2.out.mono HB1.out.size))).mono ?_
      rintro e w3 ⟨rfl, hb⟩
      have HLw3 := Lib.hid (HLw2.out.trans (hb.mono HLw2.out.size))
      clear hb x0 x1 x2 x3 x4 x5 x6 x7 x8 x9 xf
      obtain ⟨x0, x1, x2, x3, x4, x5, x6, x7, x8, x9, xf, _⟩ := HQ.out _ HLw3.out
      dsimp only
      go_wp2_with fail
      go_ret
      exact ⟨by simp, HB1.out.trans (HLw3.out.mono HB1.out.size)⟩
    · go_enter Tryz.func74, Tryz.ntmps74
      go_upto_region 1 with fail
      generalize hW : World.alloc w _ = W1
      have hk0 : W1.heap[w.heap.size]? = some (.cells #[.int .i64 5, .int .i64 o, .bool false, .int .i64 vk, .int .i64 vi, .string vt, .string t, .string nm, .slice a an ac, .slice s 0 sc] 57 (0, 0)) := by rw [← hW]; exact heap_alloc_new w _
      have hb1 : Below w.heap.size w W1 := by rw [← hW]; exact (Below.refl _ _).alloc (Nat.le_refl _) _
      have hz : w.heap.size < W1.heap.size := by rw [← hW]; simp
      have HQ : Hid (∀ wx, Below W1.heap.size W1 wx → _) := Lib.hid fun wx hb => blk10 ((hb.block w.heap.size hz).trans hk0)
      have HB1 := Lib.hid hb1
      obtain ⟨x0, x1, x2, x3, x4, x5, x6, x7, x8, x9, xf, _⟩ := HQ.out _ (Below.refl _ _)
      clear hW hb1 hk0
      go_wp2_with fail
      refine (HS.out _ HB1.out).mono ?_
      rintro e w1 ⟨rfl, hb⟩
      have HLw1 := Lib.hid (hb)
      clear hb x0 x1 x2 x3 x4 x5 x6 x7 x8 x9 xf
      obtain ⟨x0, x1, x2, x3, x4, x5, x6, x7, x8, x9, xf, _⟩ := HQ.out _ HLw1.out
      dsimp only
      go_wp2_with fail
      refine (HP.out _).mono ?_
      rintro e w2 ⟨rfl, hb⟩
      have HLw2 := Lib.hid (HLw1.out.trans (hb.mono HLw1.out.size))
      clear hb x0 x1 x2 x3 x4 x5 x6 x7 x8 x9 xf
      obtain ⟨x0, x1, x2, x3, x4, x5, x6, x7, x8, x9, xf, _⟩ := HQ.out _ HLw2.out
      dsimp only
      go_wp2_with fail
      refine (HA.out _ (HB1.out.trans (HLw2.out.mono HB1.out.size))).mono ?_
      rintro e w3 ⟨rfl, hb⟩
      have HLw3 := Lib.hid (HLw2.out.trans (hb.mono HLw2.out.size))
      clear hb x0 x1 x2 x3 x4 x5 x6 x7 x8 x9 xf
      obtain ⟨x0, x1, x2, x3, x4, x5, x6, x7, x8, x9, xf, _⟩ := HQ.out _ HLw3.out
      dsimp only
      go_wp2_with fail
      refine wp_loop_rounds 1 ?_
      rw [rounds_succ]
      go_wp2_with fail
      go_ret
      exact ⟨by simp, HB1.out.trans (HLw3.out.mono HB1.out.size)⟩

set_option maxRecDepth 100000 in
set_option maxHeartbeats 10000000 in
theorem rv_opsB (hs : ∀ wx, Below w.heap.size w wx → Calls Tryz.prog 165 #[.agg #[.int .i64 k, .int .i64 o, .bool no, .int .i64 vk, .int .i64 vi, .string vt, .string t, .string nm, .slice a an ac, .slice s sn sc]] wx (RetBel (.bool true) wx)) (hg : k = 6 ∧ o = 0 ∧ sn = 0) (pb ab : Bool) (hp : ∀ wx, Calls Tryz.prog 166 #[.agg #[.int .i64 k, .int .i64 o, .bool no, .int .i64 vk, .int .i64 vi, .string vt, .string t, .string nm, .slice a an ac, .slice s sn sc]] wx (RetBel (.bool pb) wx)) (ha : ∀ wx, Below w.heap.size w wx → Calls Tryz.prog 119 #[.slice a an ac] wx (RetBel (.bool ab) wx)) :
    Calls Tryz.prog 74 #[.agg #[.int .i64 k, .int .i64 o, .bool no, .int .i64 vk, .int .i64 vi, .string vt, .string t, .string nm, .slice a an ac, .slice s sn sc]] w (RetBel (.bool (pb && ab)) w) := by
  obtain ⟨rfl, rfl, rfl⟩ := hg
  have HS := Lib.hid hs
  have HP := Lib.hid hp
  have HA := Lib.hid ha
  clear hs hp ha
  cases pb
  · go_enter Tryz.func74, Tryz.ntmps74
    go_upto_region 1 with fail
    generalize hW : World.alloc w _ = W1
    have hk0 : W1.heap[w.heap.size]? = some (.cells #[.int .i64 6, .int .i64 0, .bool no, .int .i64 vk, .int .i64 vi, .string vt, .string t, .string nm, .slice a an ac, .slice s 0 sc] 57 (0, 0)) := by rw [← hW]; exact heap_alloc_new w _
    have hb1 : Below w.heap.size w W1 := by rw [← hW]; exact (Below.refl _ _).alloc (Nat.le_refl _) _
    have hz : w.heap.size < W1.heap.size := by rw [← hW]; simp
    have HQ : Hid (∀ wx, Below W1.heap.size W1 wx → _) := Lib.hid fun wx hb => blk10 ((hb.block w.heap.size hz).trans hk0)
    have HB1 := Lib.hid hb1
    obtain ⟨x0, x1, x2, x3, x4, x5, x6, x7, x8, x9, xf, _⟩ := HQ.out _ (Below.refl _ _)
    clear hW hb1 hk0
    go_wp2_with fail
    refine (HS.out _ HB1.out).mono ?_
    rintro e w1 ⟨rfl, hb⟩
    have HLw1 := Lib.hid (hb)
    clear hb x0 x1 x2 x3 x4 x5 x6 x7 x8 x9 xf
    obtain ⟨x0, x1, x2, x3, x4, x5, x6, x7, x8, x9, xf, _⟩ := HQ.out _ HLw1.out
    dsimp only
    go_wp2_with fail
    refine (HP.out _).mono ?_
    rintro e w2 ⟨rfl, hb⟩
    have HLw2 := Lib.hid (HLw1.out.trans (hb.mono HLw1.out.size))
    clear hb x0 x1 x2 x3 x4 x5 x6 x7 x8 x9 xf
    obtain ⟨x0, x1, x2, x3, x4, x5, x6, x7, x8, x9, xf, _⟩ := HQ.out _ HLw2.out
    dsimp only
    go_wp2_with fail
    go_ret
    exact ⟨by simp, HB1.out.trans (HLw2.out.mono HB1.out.size)⟩
  · cases ab
    · go_enter Tryz.func74, Tryz.ntmps74
      go_upto_region 1 with fail
      generalize hW : World.alloc w _ = W1
      have hk0 : W1.heap[w.heap.size]? = some (.cells #[.int .i64 6, .int .i64 0, .bool no, .int .i64 vk, .int .i64 vi, .string vt, .string t, .string nm, .slice a an ac, .slice s 0 sc] 57 (0, 0)) := by rw [← hW]; exact heap_alloc_new w _
      have hb1 : Below w.heap.size w W1 := by rw [← hW]; exact (Below.refl _ _).alloc (Nat.le_refl _) _
      have hz : w.heap.size < W1.heap.size := by rw [← hW]; simp
      have HQ : Hid (∀ wx, Below W1.heap.size W1 wx → _) := Lib.hid fun wx hb => blk10 ((hb.block w.heap.size hz).trans hk0)
      have HB1 := Lib.hid hb1
      obtain ⟨x0, x1, x2, x3, x4, x5, x6, x7, x8, x9, xf, _⟩ := HQ.out _ (Below.refl _ _)
      clear hW hb1 hk0
      go_wp2_with fail
      refine (HS.out _ HB1.out).mono ?_
      rintro e w1 ⟨rfl, hb⟩
      have HLw1 := Lib.hid (hb)
      clear hb x0 x1 x2 x3 x4 x5 x6 x7 x8 x9 xf
      obtain ⟨x0, x1, x2, x3, x4, x5, x6, x7, x8, x9, xf, _⟩ := HQ.out _ HLw1.out
      dsimp only
      go_wp2_with fail
      refine (HP.out _).mono ?_
      rintro e w2 ⟨rfl, hb⟩
      have HLw2 := Lib.hid (HLw1.out.trans (hb.mono HLw1.out.size))
      clear hb x0 x1 x2 x3 x4 x5 x6 x7 x8 x9 xf
      obtain ⟨x0, x1, x2, x3, x4, x5, x6, x7, x8, x9, xf, _⟩ := HQ.out _ HLw2.out
      dsimp only
      go_wp2_with fail
      refine (HA.out _ (HB1.out.trans (HLw2.out.mono HB1.out.size))).mono ?_
      rintro e w3 ⟨rfl, hb⟩
      have HLw3 := Lib.hid (HLw2.out.trans (hb.mono HLw2.out.size))
      clear hb x0 x1 x2 x3 x4 x5 x6 x7 x8 x9 xf
      obtain ⟨x0, x1, x2, x3, x4, x5, x6, x7, x8, x9, xf, _⟩ := HQ.out _ HLw3.out
      dsimp only
      go_wp2_with fail
      go_ret
      exact ⟨by simp, HB1.out.trans (HLw3.out.mono HB1.out.size)⟩
    · go_enter Tryz.func74, Tryz.ntmps74
      go_upto_region 1 with fail
      generalize hW : World.alloc w _ = W1
      have hk0 : W1.heap[w.heap.size]? = some (.cells #[.int .i64 6, .int .i64 0, .bool no, .int .i64 vk, .int .i64 vi, .string vt, .string t, .string nm, .slice a an ac, .slice s 0 sc] 57 (0, 0)) := by rw [← hW]; exact heap_alloc_new w _
      have hb1 : Below w.heap.size w W1 := by rw [← hW]; exact (Below.refl _ _).alloc (Nat.le_refl _) _
      have hz : w.heap.size < W1.heap.size := by rw [← hW]; simp
      have HQ : Hid (∀ wx, Below W1.heap.size W1 wx → _) := Lib.hid fun wx hb => blk10 ((hb.block w.heap.size hz).trans hk0)
      have HB1 := Lib.hid hb1
      obtain ⟨x0, x1, x2, x3, x4, x5, x6, x7, x8, x9, xf, _⟩ := HQ.out _ (Below.refl _ _)
      clear hW hb1 hk0
      go_wp2_with fail
      refine (HS.out _ HB1.out).mono ?_
      rintro e w1 ⟨rfl, hb⟩
      have HLw1 := Lib.hid (hb)
      clear hb x0 x1 x2 x3 x4 x5 x6 x7 x8 x9 xf
      obtain ⟨x0, x1, x2, x3, x4, x5, x6, x7, x8, x9, xf, _⟩ := HQ.out _ HLw1.out
      dsimp only
      go_wp2_with fail
      refine (HP.out _).mono ?_
      rintro e w2 ⟨rfl, hb⟩
      have HLw2 := Lib.hid (HLw1.out.trans (hb.mono HLw1.out.size))
      clear hb x0 x1 x2 x3 x4 x5 x6 x7 x8 x9 xf
      obtain ⟨x0, x1, x2, x3, x4, x5, x6, x7, x8, x9, xf, _⟩ := HQ.out _ HLw2.out
      dsimp only
      go_wp2_with fail
      refine (HA.out _ (HB1.out.trans (HLw2.out.mono HB1.out.size))).mono ?_
      rintro e w3 ⟨rfl, hb⟩
      have HLw3 := Lib.hid (HLw2.out.trans (hb.mono HLw2.out.size))
      clear hb x0 x1 x2 x3 x4 x5 x6 x7 x8 x9 xf
      obtain ⟨x0, x1, x2, x3, x4, x5, x6, x7, x8, x9, xf, _⟩ := HQ.out _ HLw3.out
      dsimp only
      go_wp2_with fail
      refine wp_loop_rounds 1 ?_
      rw [rounds_succ]
      go_wp2_with fail
      go_ret
      exact ⟨by simp, HB1.out.trans (HLw3.out.mono HB1.out.size)⟩

set_option maxRecDepth 100000 in
set_option maxHeartbeats 10000000 in
theorem rv_opsC (hs : ∀ wx, Below w.heap.size w wx → Calls Tryz.prog 165 #[.agg #[.int .i64 k, .int .i64 o, .bool no, .int .i64 vk, .int .i64 vi, .string vt, .string t, .string nm, .slice a an ac, .slice s sn sc]] wx (RetBel (.bool true) wx)) (e1 : (k == 1) = false) (e2 : (k == 2) = false) (e5 : (k != 5) = true) (e6 : (k != 6) = true) (hg : o = 0 ∧ no = false ∧ sn = 0) (pb ab : Bool) (hp : ∀ wx, Calls Tryz.prog 166 #[.agg #[.int .i64 k, .int .i64 o, .bool no, .int .i64 vk, .int .i64 vi, .string vt, .string t, .string nm, .slice a an ac, .slice s sn sc]] wx (RetBel (.bool pb) wx)) (ha : ∀ wx, Below w.heap.size w wx → Calls Tryz.prog 119 #[.slice a an ac] wx (RetBel (.bool ab) wx)) :
    Calls Tryz.prog 74 #[.agg #[.int .i64 k, .int .i64 o, .bool no, .int .i64 vk, .int .i64 vi, .string vt, .string t, .string nm, .slice a an ac, .slice s sn sc]] w (RetBel (.bool (pb && ab)) w) := by
  obtain ⟨rfl, rfl, rfl⟩ := hg
  have HS := Lib.hid hs
  have HP := Lib.hid hp
  have HA := Lib.hid ha
  clear hs hp ha
  cases pb
  · go_enter Tryz.func74, Tryz.ntmps74
    go_upto_region 1 with fail
    generalize hW : World.alloc w _ = W1
    have hk0 : W1.heap[w.heap.size]? = some (.cells #[.int .i64 k, .int .i64 0, .bool false, .int .i64 vk, .int .i64 vi, .string vt, .string t, .string nm, .slice a an ac, .slice s 0 sc] 57 (0, 0)) := by rw [← hW]; exact heap_alloc_new w _
    have hb1 : Below w.heap.size w W1 := by rw [← hW]; exact (Below.refl _ _).alloc (Nat.le_refl _) _
    have hz : w.heap.size < W1.heap.size := by rw [← hW]; simp
    have HQ : Hid (∀ wx, Below W1.heap.size W1 wx → _) := Lib.hid fun wx hb => blk10 ((hb.block w.heap.size hz).trans hk0)
    have HB1 := Lib.hid hb1
    obtain ⟨x0, x1, x2, x3, x4, x5, x6, x7, x8, x9, xf, _⟩ := HQ.out _ (Below.refl _ _)
    clear hW hb1 hk0
    go_wp2_with fail
    refine (HS.out _ HB1.out).mono ?_
    rintro e w1 ⟨rfl, hb⟩
    have HLw1 := Lib.hid (hb)
    clear hb x0 x1 x2 x3 x4 x5 x6 x7 x8 x9 xf
    obtain ⟨x0, x1, x2, x3, x4, x5, x6, x7, x8, x9, xf, _⟩ := HQ.out _ HLw1.out
    dsimp only
    go_wp2_with fail
    refine (HP.out _).mono ?_
    rintro e w2 ⟨rfl, hb⟩
    have HLw2 := Lib.hid (HLw1.out.trans (hb.mono HLw1.out.size))
    clear hb x0 x1 x2 x3 x4 x5 x6 x7 x8 x9 xf
    obtain ⟨x0, x1, x2, x3, x4, x5, x6, x7, x8, x9, xf, _⟩ := HQ.out _ HLw2.out
    dsimp only
    go_wp2_with fail
    go_ret
    exact ⟨by simp, HB1.out.trans (HLw2.out.mono HB1.out.size)⟩
  · cases ab
    · go_enter Tryz.func74, Tryz.ntmps74
      go_upto_region 1 with fail
      generalize hW : World.alloc w _ = W1
      have hk0 : W1.heap[w.heap.size]? = some (.cells #[.int .i64 k, .int .i64 0, .bool false, .int .i64 vk, .int .i64 vi, .string vt, .string t, .string nm, .slice a an ac, .slice s 0 sc] 57 (0, 0)) := by rw [← hW]; exact heap_alloc_new w _
      have hb1 : Below w.heap.size w W1 := by rw [← hW]; exact (Below.refl _ _).alloc (Nat.le_refl _) _
      have hz : w.heap.size < W1.heap.size := by rw [← hW]; simp
      have HQ : Hid (∀ wx, Below W1.heap.size W1 wx → _) := Lib.hid fun wx hb => blk10 ((hb.block w.heap.size hz).trans hk0)
      have HB1 := Lib.hid hb1
      obtain ⟨x0, x1, x2, x3, x4, x5, x6, x7, x8, x9, xf, _⟩ := HQ.out _ (Below.refl _ _)
      clear hW hb1 hk0
      go_wp2_with fail
      refine (HS.out _ HB1.out).mono ?_
      rintro e w1 ⟨rfl, hb⟩
      have HLw1 := Lib.hid (hb)
      clear hb x0 x1 x2 x3 x4 x5 x6 x7 x8 x9 xf
      obtain ⟨x0, x1, x2, x3, x4, x5, x6, x7, x8, x9, xf, _⟩ := HQ.out _ HLw1.out
      dsimp only
      go_wp2_with fail
      refine (HP.out _).mono ?_
      rintro e w2 ⟨rfl, hb⟩
      have HLw2 := Lib.hid (HLw1.out.trans (hb.mono HLw1.out.size))
      clear hb x0 x1 x2 x3 x4 x5 x6 x7 x8 x9 xf
      obtain ⟨x0, x1, x2, x3, x4, x5, x6, x7, x8, x9, xf, _⟩ := HQ.out _ HLw2.out
      dsimp only
      go_wp2_with fail
      refine (HA.out _ (HB1.out.trans (HLw2.out.mono HB1.out.size))).mono ?_
      rintro e w3 ⟨rfl, hb⟩
      have HLw3 := Lib.hid (HLw2.out.trans (hb.mono HLw2.out.size))
      clear hb x0 x1 x2 x3 x4 x5 x6 x7 x8 x9 xf
      obtain ⟨x0, x1, x2, x3, x4, x5, x6, x7, x8, x9, xf, _⟩ := HQ.out _ HLw3.out
      dsimp only
      go_wp2_with fail
      go_ret
      exact ⟨by simp, HB1.out.trans (HLw3.out.mono HB1.out.size)⟩
    · go_enter Tryz.func74, Tryz.ntmps74
      go_upto_region 1 with fail
      generalize hW : World.alloc w _ = W1
      have hk0 : W1.heap[w.heap.size]? = some (.cells #[.int .i64 k, .int .i64 0, .bool false, .int .i64 vk, .int .i64 vi, .string vt, .string t, .string nm, .slice a an ac, .slice s 0 sc] 57 (0, 0)) := by rw [← hW]; exact heap_alloc_new w _
      have hb1 : Below w.heap.size w W1 := by rw [← hW]; exact (Below.refl _ _).alloc (Nat.le_refl _) _
      have hz : w.heap.size < W1.heap.size := by rw [← hW]; simp
      have HQ : Hid (∀ wx, Below W1.heap.size W1 wx → _) := Lib.hid fun wx hb => blk10 ((hb.block w.heap.size hz).trans hk0)
      have HB1 := Lib.hid hb1
      obtain ⟨x0, x1, x2, x3, x4, x5, x6, x7, x8, x9, xf, _⟩ := HQ.out _ (Below.refl _ _)
      clear hW hb1 hk0
      go_wp2_with fail
      refine (HS.out _ HB1.out).mono ?_
      rintro e w1 ⟨rfl, hb⟩
      have HLw1 := Lib.hid (hb)
      clear hb x0 x1 x2 x3 x4 x5 x6 x7 x8 x9 xf
      obtain ⟨x0, x1, x2, x3, x4, x5, x6, x7, x8, x9, xf, _⟩ := HQ.out _ HLw1.out
      dsimp only
      go_wp2_with fail
      refine (HP.out _).mono ?_
      rintro e w2 ⟨rfl, hb⟩
      have HLw2 := Lib.hid (HLw1.out.trans (hb.mono HLw1.out.size))
      clear hb x0 x1 x2 x3 x4 x5 x6 x7 x8 x9 xf
      obtain ⟨x0, x1, x2, x3, x4, x5, x6, x7, x8, x9, xf, _⟩ := HQ.out _ HLw2.out
      dsimp only
      go_wp2_with fail
      refine (HA.out _ (HB1.out.trans (HLw2.out.mono HB1.out.size))).mono ?_
      rintro e w3 ⟨rfl, hb⟩
      have HLw3 := Lib.hid (HLw2.out.trans (hb.mono HLw2.out.size))
      clear hb x0 x1 x2 x3 x4 x5 x6 x7 x8 x9 xf
      obtain ⟨x0, x1, x2, x3, x4, x5, x6, x7, x8, x9, xf, _⟩ := HQ.out _ HLw3.out
      dsimp only
      go_wp2_with fail
      refine wp_loop_rounds 1 ?_
      rw [rounds_succ]
      go_wp2_with fail
      go_ret
      exact ⟨by simp, HB1.out.trans (HLw3.out.mono HB1.out.size)⟩

set_option maxRecDepth 100000 in
set_option maxHeartbeats 20000000 in
theorem rv_q8t (hs : ∀ wx, Below w.heap.size w wx → Calls Tryz.prog 165 #[.agg #[.int .i64 k, .int .i64 o, .bool no, .int .i64 vk, .int .i64 vi, .string vt, .string t, .string nm, .slice a an ac, .slice s sn sc]] wx (RetBel (.bool true) wx)) (pb ab : Bool) (hp : ∀ wx, Calls Tryz.prog 166 #[.agg #[.int .i64 k, .int .i64 o, .bool no, .int .i64 vk, .int .i64 vi, .string vt, .string t, .string nm, .slice a an ac, .slice s sn sc]] wx (RetBel (.bool pb) wx)) (ha : ∀ wx, Below w.heap.size w wx → Calls Tryz.prog 119 #[.slice a an ac] wx (RetBel (.bool ab) wx)) (qb qo : Nat) (st : Bool) (f : ByteArray) (ia wa : Option Addr) (il wl ic wc : Nat) (hqb : qb < w.heap.size) (sb ib wb : Bool)
    (c0 : w.cell? ⟨qb, qo, none⟩ = some (.bool st)) (c1 : w.cell? ⟨qb, qo + 1, none⟩ = some (.slice ia il ic)) (c2 : w.cell? ⟨qb, qo + 2, none⟩ = some (.string f)) (c3 : w.cell? ⟨qb, qo + 3, none⟩ = some (.slice wa wl wc))
    (hso : ∀ wx, Calls Tryz.prog 118 #[.string f] wx fun e w' => e = .returned (.bool sb) ∧ wx = w')
    (hi : ∀ wx, Below w.heap.size w wx → Calls Tryz.prog 119 #[.slice ia il ic] wx (RetBel (.bool ib) wx))
    (hw : ∀ wx, Below w.heap.size w wx → Calls Tryz.prog 119 #[.slice wa wl wc] wx (RetBel (.bool wb) wx)) (hg : o = 0 ∧ no = false ∧ st = true ∧ s = some ⟨qb, qo, none⟩ ∧ sn = 1 ∧ an = 0 ∧ k = 8) :
    Calls Tryz.prog 74 #[.agg #[.int .i64 k, .int .i64 o, .bool no, .int .i64 vk, .int .i64 vi, .string vt, .string t, .string nm, .slice a an ac, .slice s sn sc]] w (RetBel (.bool (pb && ab && (sb && ib && wb))) w) := by
  obtain ⟨rfl, rfl, rfl, rfl, rfl, rfl, rfl⟩ := hg
  have HS := Lib.hid hs
  have HP := Lib.hid hp
  have HA := Lib.hid ha
  clear hs hp ha
  have HSO := Lib.hid hso
  have HI := Lib.hid hi
  have HW := Lib.hid hw
  clear hso hi hw
  have HD : Hid (∀ wx, Below w.heap.size w wx → _) := Lib.hid fun wx hb => And.intro ((hb.cell (p := ⟨qb, qo, none⟩) hqb).trans c0) (And.intro ((hb.cell (p := ⟨qb, qo + 1, none⟩) hqb).trans c1) (And.intro ((hb.cell (p := ⟨qb, qo + 2, none⟩) hqb).trans c2) ((hb.cell (p := ⟨qb, qo + 3, none⟩) hqb).trans c3)))
  cases pb
  · clear c0 c1 c2 c3
    go_enter Tryz.func74, Tryz.ntmps74
    go_upto_region 1 with fail
    generalize hW : World.alloc w _ = W1
    have hk0 : W1.heap[w.heap.size]? = some (.cells #[.int .i64 8, .int .i64 0, .bool false, .int .i64 vk, .int .i64 vi, .string vt, .string t, .string nm, .slice a 0 ac, .slice (some ⟨qb, qo, none⟩) 1 sc] 57 (0, 0)) := by rw [← hW]; exact heap_alloc_new w _
    have hb1 : Below w.heap.size w W1 := by rw [← hW]; exact (Below.refl _ _).alloc (Nat.le_refl _) _
    have hz : w.heap.size < W1.heap.size := by rw [← hW]; simp
    have HQ : Hid (∀ wx, Below W1.heap.size W1 wx → _) := Lib.hid fun wx hb => blk10 ((hb.block w.heap.size hz).trans hk0)
    have HB1 := Lib.hid hb1
    obtain ⟨x0, x1, x2, x3, x4, x5, x6, x7, x8, x9, xf, _⟩ := HQ.out _ (Below.refl _ _)
    clear hW hb1 hk0
    go_wp2_with fail
    refine (HS.out _ HB1.out).mono ?_
    rintro e w1 ⟨rfl, hb⟩
    have HLw1 := Lib.hid (hb)
    clear hb x0 x1 x2 x3 x4 x5 x6 x7 x8 x9 xf
    obtain ⟨x0, x1, x2, x3, x4, x5, x6, x7, x8, x9, xf, _⟩ := HQ.out _ HLw1.out
    dsimp only
    go_wp2_with fail
    refine (HP.out _).mono ?_
    rintro e w2 ⟨rfl, hb⟩
    have HLw2 := Lib.hid (HLw1.out.trans (hb.mono HLw1.out.size))
    clear hb x0 x1 x2 x3 x4 x5 x6 x7 x8 x9 xf
    obtain ⟨x0, x1, x2, x3, x4, x5, x6, x7, x8, x9, xf, _⟩ := HQ.out _ HLw2.out
    dsimp only
    go_wp2_with fail
    go_ret
    exact ⟨by simp, HB1.out.trans (HLw2.out.mono HB1.out.size)⟩
  · cases ab
    · clear c0 c1 c2 c3
      go_enter Tryz.func74, Tryz.ntmps74
      go_upto_region 1 with fail
      generalize hW : World.alloc w _ = W1
      have hk0 : W1.heap[w.heap.size]? = some (.cells #[.int .i64 8, .int .i64 0, .bool false, .int .i64 vk, .int .i64 vi, .string vt, .string t, .string nm, .slice a 0 ac, .slice (some ⟨qb, qo, none⟩) 1 sc] 57 (0, 0)) := by rw [← hW]; exact heap_alloc_new w _
      have hb1 : Below w.heap.size w W1 := by rw [← hW]; exact (Below.refl _ _).alloc (Nat.le_refl _) _
      have hz : w.heap.size < W1.heap.size := by rw [← hW]; simp
      have HQ : Hid (∀ wx, Below W1.heap.size W1 wx → _) := Lib.hid fun wx hb => blk10 ((hb.block w.heap.size hz).trans hk0)
      have HB1 := Lib.hid hb1
      obtain ⟨x0, x1, x2, x3, x4, x5, x6, x7, x8, x9, xf, _⟩ := HQ.out _ (Below.refl _ _)
      clear hW hb1 hk0
      go_wp2_with fail
      refine (HS.out _ HB1.out).mono ?_
      rintro e w1 ⟨rfl, hb⟩
      have HLw1 := Lib.hid (hb)
      clear hb x0 x1 x2 x3 x4 x5 x6 x7 x8 x9 xf
      obtain ⟨x0, x1, x2, x3, x4, x5, x6, x7, x8, x9, xf, _⟩ := HQ.out _ HLw1.out
      dsimp only
      go_wp2_with fail
      refine (HP.out _).mono ?_
      rintro e w2 ⟨rfl, hb⟩
      have HLw2 := Lib.hid (HLw1.out.trans (hb.mono HLw1.out.size))
      clear hb x0 x1 x2 x3 x4 x5 x6 x7 x8 x9 xf
      obtain ⟨x0, x1, x2, x3, x4, x5, x6, x7, x8, x9, xf, _⟩ := HQ.out _ HLw2.out
      dsimp only
      go_wp2_with fail
      refine (HA.out _ (HB1.out.trans (HLw2.out.mono HB1.out.size))).mono ?_
      rintro e w3 ⟨rfl, hb⟩
      have HLw3 := Lib.hid (HLw2.out.trans (hb.mono HLw2.out.size))
      clear hb x0 x1 x2 x3 x4 x5 x6 x7 x8 x9 xf
      obtain ⟨x0, x1, x2, x3, x4, x5, x6, x7, x8, x9, xf, _⟩ := HQ.out _ HLw3.out
      dsimp only
      go_wp2_with fail
      go_ret
      exact ⟨by simp, HB1.out.trans (HLw3.out.mono HB1.out.size)⟩
    · cases sb
      · clear c0 c1 c2 c3
        go_enter Tryz.func74, Tryz.ntmps74
        go_upto_region 1 with fail
        generalize hW : World.alloc w _ = W1
        have hk0 : W1.heap[w.heap.size]? = some (.cells #[.int .i64 8, .int .i64 0, .bool false, .int .i64 vk, .int .i64 vi, .string vt, .string t, .string nm, .slice a 0 ac, .slice (some ⟨qb, qo, none⟩) 1 sc] 57 (0, 0)) := by rw [← hW]; exact heap_alloc_new w _
        have hb1 : Below w.heap.size w W1 := by rw [← hW]; exact (Below.refl _ _).alloc (Nat.le_refl _) _
        have hz : w.heap.size < W1.heap.size := by rw [← hW]; simp
        have HQ : Hid (∀ wx, Below W1.heap.size W1 wx → _) := Lib.hid fun wx hb => blk10 ((hb.block w.heap.size hz).trans hk0)
        have HB1 := Lib.hid hb1
        obtain ⟨x0, x1, x2, x3, x4, x5, x6, x7, x8, x9, xf, _⟩ := HQ.out _ (Below.refl _ _)
        clear hW hb1 hk0
        go_wp2_with fail
        refine (HS.out _ HB1.out).mono ?_
        rintro e w1 ⟨rfl, hb⟩
        have HLw1 := Lib.hid (hb)
        clear hb x0 x1 x2 x3 x4 x5 x6 x7 x8 x9 xf
        obtain ⟨x0, x1, x2, x3, x4, x5, x6, x7, x8, x9, xf, _⟩ := HQ.out _ HLw1.out
        dsimp only
        go_wp2_with fail
        refine (HP.out _).mono ?_
        rintro e w2 ⟨rfl, hb⟩
        have HLw2 := Lib.hid (HLw1.out.trans (hb.mono HLw1.out.size))
        clear hb x0 x1 x2 x3 x4 x5 x6 x7 x8 x9 xf
        obtain ⟨x0, x1, x2, x3, x4, x5, x6, x7, x8, x9, xf, _⟩ := HQ.out _ HLw2.out
        dsimp only
        go_wp2_with fail
        refine (HA.out _ (HB1.out.trans (HLw2.out.mono HB1.out.size))).mono ?_
        rintro e w3 ⟨rfl, hb⟩
        have HLw3 := Lib.hid (HLw2.out.trans (hb.mono HLw2.out.size))
        clear hb x0 x1 x2 x3 x4 x5 x6 x7 x8 x9 xf
        obtain ⟨x0, x1, x2, x3, x4, x5, x6, x7, x8, x9, xf, _⟩ := HQ.out _ HLw3.out
        dsimp only
        obtain ⟨d0, d1, d2, d3⟩ := HD.out _ (HB1.out.trans (HLw3.out.mono HB1.out.size))
        go_wp2_with fail
        refine wp_loop_rounds 2 ?_
        rw [rounds_succ]
        go_wp2_with fail
        generalize hW4 : World.alloc w3 _ = W4
        have hq4 : ∀ wx, Below W4.heap.size W4 wx → wx.cell? ⟨w3.heap.size, 0, none⟩ = some (.bool true) ∧ wx.cell? ⟨w3.heap.size, 1, none⟩ = some (.slice ia il ic) ∧ wx.cell? ⟨w3.heap.size, 2, none⟩ = some (.string f) ∧ wx.cell? ⟨w3.heap.size, 3, none⟩ = some (.slice wa wl wc) := by
          intro wx hb
          have hz4 : w3.heap.size < W4.heap.size := by rw [← hW4]; simp
          rw [hb.cell (p := ⟨w3.heap.size, 0, none⟩) hz4, hb.cell (p := ⟨w3.heap.size, 1, none⟩) hz4, hb.cell (p := ⟨w3.heap.size, 2, none⟩) hz4, hb.cell (p := ⟨w3.heap.size, 3, none⟩) hz4, ← hW4]
          refine ⟨?_, ?_, ?_, ?_⟩ <;> simp
        have hb4 : Below w.heap.size w W4 := by rw [← hW4]; exact (HB1.out.trans (HLw3.out.mono HB1.out.size)).alloc (HB1.out.trans (HLw3.out.mono HB1.out.size)).size _
        have HQ4 := Lib.hid hq4
        have HB4 := Lib.hid hb4
        clear hq4 hb4 hW4 x0 x1 x2 x3 x4 x5 x6 x7 x8 x9 xf d0 d1 d2 d3
        obtain ⟨y0, y1, y2, y3⟩ := HQ4.out _ (Below.refl _ _)
        refine (HSO.out _).mono ?_
        rintro e w4 ⟨rfl, rfl⟩
        dsimp only
        go_wp2_with fail
        go_ret
        exact ⟨by simp, HB4.out⟩
      · cases ib
        · clear c0 c1 c2 c3
          go_enter Tryz.func74, Tryz.ntmps74
          go_upto_region 1 with fail
          generalize hW : World.alloc w _ = W1
          have hk0 : W1.heap[w.heap.size]? = some (.cells #[.int .i64 8, .int .i64 0, .bool false, .int .i64 vk, .int .i64 vi, .string vt, .string t, .string nm, .slice a 0 ac, .slice (some ⟨qb, qo, none⟩) 1 sc] 57 (0, 0)) := by rw [← hW]; exact heap_alloc_new w _
          have hb1 : Below w.heap.size w W1 := by rw [← hW]; exact (Below.refl _ _).alloc (Nat.le_refl _) _
          have hz : w.heap.size < W1.heap.size := by rw [← hW]; simp
          have HQ : Hid (∀ wx, Below W1.heap.size W1 wx → _) := Lib.hid fun wx hb => blk10 ((hb.block w.heap.size hz).trans hk0)
          have HB1 := Lib.hid hb1
          obtain ⟨x0, x1, x2, x3, x4, x5, x6, x7, x8, x9, xf, _⟩ := HQ.out _ (Below.refl _ _)
          clear hW hb1 hk0
          go_wp2_with fail
          refine (HS.out _ HB1.out).mono ?_
          rintro e w1 ⟨rfl, hb⟩
          have HLw1 := Lib.hid (hb)
          clear hb x0 x1 x2 x3 x4 x5 x6 x7 x8 x9 xf
          obtain ⟨x0, x1, x2, x3, x4, x5, x6, x7, x8, x9, xf, _⟩ := HQ.out _ HLw1.out
          dsimp only
          go_wp2_with fail
          refine (HP.out _).mono ?_
          rintro e w2 ⟨rfl, hb⟩
          have HLw2 := Lib.hid (HLw1.out.trans (hb.mono HLw1.out.size))
          clear hb x0 x1 x2 x3 x4 x5 x6 x7 x8 x9 xf
          obtain ⟨x0, x1, x2, x3, x4, x5, x6, x7, x8, x9, xf, _⟩ := HQ.out _ HLw2.out
          dsimp only
          go_wp2_with fail
          refine (HA.out _ (HB1.out.trans (HLw2.out.mono HB1.out.size))).mono ?_
          rintro e w3 ⟨rfl, hb⟩
          have HLw3 := Lib.hid (HLw2.out.trans (hb.mono HLw2.out.size))
          clear hb x0 x1 x2 x3 x4 x5 x6 x7 x8 x9 xf
          obtain ⟨x0, x1, x2, x3, x4, x5, x6, x7, x8, x9, xf, _⟩ := HQ.out _ HLw3.out
          dsimp only
          obtain ⟨d0, d1, d2, d3⟩ := HD.out _ (HB1.out.trans (HLw3.out.mono HB1.out.size))
          go_wp2_with fail
          refine wp_loop_rounds 2 ?_
          rw [rounds_succ]
          go_wp2_with fail
          generalize hW4 : World.alloc w3 _ = W4
          have hq4 : ∀ wx, Below W4.heap.size W4 wx → wx.cell? ⟨w3.heap.size, 0, none⟩ = some (.bool true) ∧ wx.cell? ⟨w3.heap.size, 1, none⟩ = some (.slice ia il ic) ∧ wx.cell? ⟨w3.heap.size, 2, none⟩ = some (.string f) ∧ wx.cell? ⟨w3.heap.size, 3, none⟩ = some (.slice wa wl wc) := by
            intro wx hb
            have hz4 : w3.heap.size < W4.heap.size := by rw [← hW4]; simp
            rw [hb.cell (p := ⟨w3.heap.size, 0, none⟩) hz4, hb.cell (p := ⟨w3.heap.size, 1, none⟩) hz4, hb.cell (p := ⟨w3.heap.size, 2, none⟩) hz4, hb.cell (p := ⟨w3.heap.size, 3, none⟩) hz4, ← hW4]
            refine ⟨?_, ?_, ?_, ?_⟩ <;> simp
          have hb4 : Below w.heap.size w W4 := by rw [← hW4]; exact (HB1.out.trans (HLw3.out.mono HB1.out.size)).alloc (HB1.out.trans (HLw3.out.mono HB1.out.size)).size _
          have HQ4 := Lib.hid hq4
          have HB4 := Lib.hid hb4
          clear hq4 hb4 hW4 x0 x1 x2 x3 x4 x5 x6 x7 x8 x9 xf d0 d1 d2 d3
          obtain ⟨y0, y1, y2, y3⟩ := HQ4.out _ (Below.refl _ _)
          refine (HSO.out _).mono ?_
          rintro e w4 ⟨rfl, rfl⟩
          dsimp only
          go_wp2_with fail
          refine (HI.out _ HB4.out).mono ?_
          rintro e w5 ⟨rfl, hb⟩
          have HL5 := Lib.hid hb
          have HB5 := Lib.hid (HB4.out.trans (hb.mono HB4.out.size))
          clear hb y0 y1 y2 y3
          obtain ⟨y0, y1, y2, y3⟩ := HQ4.out _ HL5.out
          dsimp only
          go_wp2_with fail
          go_ret
          exact ⟨by simp, HB5.out⟩
        · cases wb
          · clear c0 c1 c2 c3
            go_enter Tryz.func74, Tryz.ntmps74
            go_upto_region 1 with fail
            generalize hW : World.alloc w _ = W1
            have hk0 : W1.heap[w.heap.size]? = some (.cells #[.int .i64 8, .int .i64 0, .bool false, .int .i64 vk, .int .i64 vi, .string vt, .string t, .string nm, .slice a 0 ac, .slice (some ⟨qb, qo, none⟩) 1 sc] 57 (0, 0)) := by rw [← hW]; exact heap_alloc_new w _
            have hb1 : Below w.heap.size w W1 := by rw [← hW]; exact (Below.refl _ _).alloc (Nat.le_refl _) _
            have hz : w.heap.size < W1.heap.size := by rw [← hW]; simp
            have HQ : Hid (∀ wx, Below W1.heap.size W1 wx → _) := Lib.hid fun wx hb => blk10 ((hb.block w.heap.size hz).trans hk0)
            have HB1 := Lib.hid hb1
            obtain ⟨x0, x1, x2, x3, x4, x5, x6, x7, x8, x9, xf, _⟩ := HQ.out _ (Below.refl _ _)
            clear hW hb1 hk0
            go_wp2_with fail
            refine (HS.out _ HB1.out).mono ?_
            rintro e w1 ⟨rfl, hb⟩
            have HLw1 := Lib.hid (hb)
            clear hb x0 x1 x2 x3 x4 x5 x6 x7 x8 x9 xf
            obtain ⟨x0, x1, x2, x3, x4, x5, x6, x7, x8, x9, xf, _⟩ := HQ.out _ HLw1.out
            dsimp only
            go_wp2_with fail
            refine (HP.out _).mono ?_
            rintro e w2 ⟨rfl, hb⟩
            have HLw2 := Lib.hid (HLw1.out.trans (hb.mono HLw1.out.size))
            clear hb x0 x1 x2 x3 x4 x5 x6 x7 x8 x9 xf
            obtain ⟨x0, x1, x2, x3, x4, x5, x6, x7, x8, x9, xf, _⟩ := HQ.out _ HLw2.out
            dsimp only
            go_wp2_with fail
            refine (HA.out _ (HB1.out.trans (HLw2.out.mono HB1.out.size))).mono ?_
            rintro e w3 ⟨rfl, hb⟩
            have HLw3 := Lib.hid (HLw2.out.trans (hb.mono HLw2.out.size))
            clear hb x0 x1 x2 x3 x4 x5 x6 x7 x8 x9 xf
            obtain ⟨x0, x1, x2, x3, x4, x5, x6, x7, x8, x9, xf, _⟩ := HQ.out _ HLw3.out
            dsimp only
            obtain ⟨d0, d1, d2, d3⟩ := HD.out _ (HB1.out.trans (HLw3.out.mono HB1.out.size))
            go_wp2_with fail
            refine wp_loop_rounds 2 ?_
            rw [rounds_succ]
            go_wp2_with fail
            generalize hW4 : World.alloc w3 _ = W4
            have hq4 : ∀ wx, Below W4.heap.size W4 wx → wx.cell? ⟨w3.heap.size, 0, none⟩ = some (.bool true) ∧ wx.cell? ⟨w3.heap.size, 1, none⟩ = some (.slice ia il ic) ∧ wx.cell? ⟨w3.heap.size, 2, none⟩ = some (.string f) ∧ wx.cell? ⟨w3.heap.size, 3, none⟩ = some (.slice wa wl wc) := by
              intro wx hb
              have hz4 : w3.heap.size < W4.heap.size := by rw [← hW4]; simp
              rw [hb.cell (p := ⟨w3.heap.size, 0, none⟩) hz4, hb.cell (p := ⟨w3.heap.size, 1, none⟩) hz4, hb.cell (p := ⟨w3.heap.size, 2, none⟩) hz4, hb.cell (p := ⟨w3.heap.size, 3, none⟩) hz4, ← hW4]
              refine ⟨?_, ?_, ?_, ?_⟩ <;> simp
            have hb4 : Below w.heap.size w W4 := by rw [← hW4]; exact (HB1.out.trans (HLw3.out.mono HB1.out.size)).alloc (HB1.out.trans (HLw3.out.mono HB1.out.size)).size _
            have HQ4 := Lib.hid hq4
            have HB4 := Lib.hid hb4
            clear hq4 hb4 hW4 x0 x1 x2 x3 x4 x5 x6 x7 x8 x9 xf d0 d1 d2 d3
            obtain ⟨y0, y1, y2, y3⟩ := HQ4.out _ (Below.refl _ _)
            refine (HSO.out _).mono ?_
            rintro e w4 ⟨rfl, rfl⟩
            dsimp only
            go_wp2_with fail
            refine (HI.out _ HB4.out).mono ?_
            rintro e w5 ⟨rfl, hb⟩
            have HL5 := Lib.hid hb
            have HB5 := Lib.hid (HB4.out.trans (hb.mono HB4.out.size))
            clear hb y0 y1 y2 y3
            obtain ⟨y0, y1, y2, y3⟩ := HQ4.out _ HL5.out
            dsimp only
            go_wp2_with fail
            refine (HW.out _ HB5.out).mono ?_
            rintro e w6 ⟨rfl, hb⟩
            have HB6 := Lib.hid (HB5.out.trans (hb.mono HB5.out.size))
            clear hb y0 y1 y2 y3
            dsimp only
            go_wp2_with fail
            go_ret
            exact ⟨by simp, HB6.out⟩
          · clear c0 c1 c2 c3
            go_enter Tryz.func74, Tryz.ntmps74
            go_upto_region 1 with fail
            generalize hW : World.alloc w _ = W1
            have hk0 : W1.heap[w.heap.size]? = some (.cells #[.int .i64 8, .int .i64 0, .bool false, .int .i64 vk, .int .i64 vi, .string vt, .string t, .string nm, .slice a 0 ac, .slice (some ⟨qb, qo, none⟩) 1 sc] 57 (0, 0)) := by rw [← hW]; exact heap_alloc_new w _
            have hb1 : Below w.heap.size w W1 := by rw [← hW]; exact (Below.refl _ _).alloc (Nat.le_refl _) _
            have hz : w.heap.size < W1.heap.size := by rw [← hW]; simp
            have HQ : Hid (∀ wx, Below W1.heap.size W1 wx → _) := Lib.hid fun wx hb => blk10 ((hb.block w.heap.size hz).trans hk0)
            have HB1 := Lib.hid hb1
            obtain ⟨x0, x1, x2, x3, x4, x5, x6, x7, x8, x9, xf, _⟩ := HQ.out _ (Below.refl _ _)
            clear hW hb1 hk0
            go_wp2_with fail
            refine (HS.out _ HB1.out).mono ?_
            rintro e w1 ⟨rfl, hb⟩
            have HLw1 := Lib.hid (hb)
            clear hb x0 x1 x2 x3 x4 x5 x6 x7 x8 x9 xf
            obtain ⟨x0, x1, x2, x3, x4, x5, x6, x7, x8, x9, xf, _⟩ := HQ.out _ HLw1.out
            dsimp only
            go_wp2_with fail
            refine (HP.out _).mono ?_
            rintro e w2 ⟨rfl, hb⟩
            have HLw2 := Lib.hid (HLw1.out.trans (hb.mono HLw1.out.size))
            clear hb x0 x1 x2 x3 x4 x5 x6 x7 x8 x9 xf
            obtain ⟨x0, x1, x2, x3, x4, x5, x6, x7, x8, x9, xf, _⟩ := HQ.out _ HLw2.out
            dsimp only
            go_wp2_with fail
            refine (HA.out _ (HB1.out.trans (HLw2.out.mono HB1.out.size))).mono ?_
            rintro e w3 ⟨rfl, hb⟩
            have HLw3 := Lib.hid (HLw2.out.trans (hb.mono HLw2.out.size))
            clear hb x0 x1 x2 x3 x4 x5 x6 x7 x8 x9 xf
            obtain ⟨x0, x1, x2, x3, x4, x5, x6, x7, x8, x9, xf, _⟩ := HQ.out _ HLw3.out
            dsimp only
            obtain ⟨d0, d1, d2, d3⟩ := HD.out _ (HB1.out.trans (HLw3.out.mono HB1.out.size))
            go_wp2_with fail
            refine wp_loop_rounds 2 ?_
            rw [rounds_succ]
            go_wp2_with fail
            generalize hW4 : World.alloc w3 _ = W4
            have hq4 : ∀ wx, Below W4.heap.size W4 wx → wx.cell? ⟨w3.heap.size, 0, none⟩ = some (.bool true) ∧ wx.cell? ⟨w3.heap.size, 1, none⟩ = some (.slice ia il ic) ∧ wx.cell? ⟨w3.heap.size, 2, none⟩ = some (.string f) ∧ wx.cell? ⟨w3.heap.size, 3, none⟩ = some (.slice wa wl wc) := by
              intro wx hb
              have hz4 : w3.heap.size < W4.heap.size := by rw [← hW4]; simp
              rw [hb.cell (p := ⟨w3.heap.size, 0, none⟩) hz4, hb.cell (p := ⟨w3.heap.size, 1, none⟩) hz4, hb.cell (p := ⟨w3.heap.size, 2, none⟩) hz4, hb.cell (p := ⟨w3.heap.size, 3, none⟩) hz4, ← hW4]
              refine ⟨?_, ?_, ?_, ?_⟩ <;> simp
            have hb4 : Below w.heap.size w W4 := by rw [← hW4]; exact (HB1.out.trans (HLw3.out.mono HB1.out.size)).alloc (HB1.out.trans (HLw3.out.mono HB1.out.size)).size _
            have HQ4 := Lib.hid hq4
            have HB4 := Lib.hid hb4
            clear hq4 hb4 hW4 x0 x1 x2 x3 x4 x5 x6 x7 x8 x9 xf d0 d1 d2 d3
            obtain ⟨y0, y1, y2, y3⟩ := HQ4.out _ (Below.refl _ _)
            refine (HSO.out _).mono ?_
            rintro e w4 ⟨rfl, rfl⟩
            dsimp only
            go_wp2_with fail
            refine (HI.out _ HB4.out).mono ?_
            rintro e w5 ⟨rfl, hb⟩
            have HL5 := Lib.hid hb
            have HB5 := Lib.hid (HB4.out.trans (hb.mono HB4.out.size))
            clear hb y0 y1 y2 y3
            obtain ⟨y0, y1, y2, y3⟩ := HQ4.out _ HL5.out
            dsimp only
            go_wp2_with fail
            refine (HW.out _ HB5.out).mono ?_
            rintro e w6 ⟨rfl, hb⟩
            have HB6 := Lib.hid (HB5.out.trans (hb.mono HB5.out.size))
            clear hb y0 y1 y2 y3
            dsimp only
            go_wp2_with fail
            rw [rounds_succ]
            go_wp2_with fail
            go_ret
            exact ⟨by simp, HB6.out⟩

set_option maxRecDepth 100000 in
set_option maxHeartbeats 20000000 in
theorem rv_q8f (hs : ∀ wx, Below w.heap.size w wx → Calls Tryz.prog 165 #[.agg #[.int .i64 k, .int .i64 o, .bool no, .int .i64 vk, .int .i64 vi, .string vt, .string t, .string nm, .slice a an ac, .slice s sn sc]] wx (RetBel (.bool true) wx)) (pb ab : Bool) (hp : ∀ wx, Calls Tryz.prog 166 #[.agg #[.int .i64 k, .int .i64 o, .bool no, .int .i64 vk, .int .i64 vi, .string vt, .string t, .string nm, .slice a an ac, .slice s sn sc]] wx (RetBel (.bool pb) wx)) (ha : ∀ wx, Below w.heap.size w wx → Calls Tryz.prog 119 #[.slice a an ac] wx (RetBel (.bool ab) wx)) (qb qo : Nat) (st : Bool) (f : ByteArray) (ia wa : Option Addr) (il wl ic wc : Nat) (hqb : qb < w.heap.size) (sb ib wb : Bool)
    (c0 : w.cell? ⟨qb, qo, none⟩ = some (.bool st)) (c1 : w.cell? ⟨qb, qo + 1, none⟩ = some (.slice ia il ic)) (c2 : w.cell? ⟨qb, qo + 2, none⟩ = some (.string f)) (c3 : w.cell? ⟨qb, qo + 3, none⟩ = some (.slice wa wl wc))
    (hso : ∀ wx, Calls Tryz.prog 118 #[.string f] wx fun e w' => e = .returned (.bool sb) ∧ wx = w')
    (hi : ∀ wx, Below w.heap.size w wx → Calls Tryz.prog 119 #[.slice ia il ic] wx (RetBel (.bool ib) wx))
    (hw : ∀ wx, Below w.heap.size w wx → Calls Tryz.prog 119 #[.slice wa wl wc] wx (RetBel (.bool wb) wx)) (hg : o = 0 ∧ no = false ∧ st = false ∧ s = some ⟨qb, qo, none⟩ ∧ sn = 1 ∧ an = 0 ∧ k = 8) :
    Calls Tryz.prog 74 #[.agg #[.int .i64 k, .int .i64 o, .bool no, .int .i64 vk, .int .i64 vi, .string vt, .string t, .string nm, .slice a an ac, .slice s sn sc]] w (RetBel (.bool (pb && ab && false)) w) := by
  obtain ⟨rfl, rfl, rfl, rfl, rfl, rfl, rfl⟩ := hg
  have HS := Lib.hid hs
  have HP := Lib.hid hp
  have HA := Lib.hid ha
  clear hs hp ha
  have HSO := Lib.hid hso
  have HI := Lib.hid hi
  have HW := Lib.hid hw
  clear hso hi hw
  have HD : Hid (∀ wx, Below w.heap.size w wx → _) := Lib.hid fun wx hb => And.intro ((hb.cell (p := ⟨qb, qo, none⟩) hqb).trans c0) (And.intro ((hb.cell (p := ⟨qb, qo + 1, none⟩) hqb).trans c1) (And.intro ((hb.cell (p := ⟨qb, qo + 2, none⟩) hqb).trans c2) ((hb.cell (p := ⟨qb, qo + 3, none⟩) hqb).trans c3)))
  cases pb
  · clear c0 c1 c2 c3
    go_enter Tryz.func74, Tryz.ntmps74
    go_upto_region 1 with fail
    generalize hW : World.alloc w _ = W1
    have hk0 : W1.heap[w.heap.size]? = some (.cells #[.int .i64 8, .int .i64 0, .bool false, .int .i64 vk, .int .i64 vi, .string vt, .string t, .string nm, .slice a 0 ac, .slice (some ⟨qb, qo, none⟩) 1 sc] 57 (0, 0)) := by rw [← hW]; exact heap_alloc_new w _
    have hb1 : Below w.heap.size w W1 := by rw [← hW]; exact (Below.refl _ _).alloc (Nat.le_refl _) _
    have hz : w.heap.size < W1.heap.size := by rw [← hW]; simp
    have HQ : Hid (∀ wx, Below W1.heap.size W1 wx → _) := Lib.hid fun wx hb => blk10 ((hb.block w.heap.size hz).trans hk0)
    have HB1 := Lib.hid hb1
    obtain ⟨x0, x1, x2, x3, x4, x5, x6, x7, x8, x9, xf, _⟩ := HQ.out _ (Below.refl _ _)
    clear hW hb1 hk0
    go_wp2_with fail
    refine (HS.out _ HB1.out).mono ?_
    rintro e w1 ⟨rfl, hb⟩
    have HLw1 := Lib.hid (hb)
    clear hb x0 x1 x2 x3 x4 x5 x6 x7 x8 x9 xf
    obtain ⟨x0, x1, x2, x3, x4, x5, x6, x7, x8, x9, xf, _⟩ := HQ.out _ HLw1.out
    dsimp only
    go_wp2_with fail
    refine (HP.out _).mono ?_
    rintro e w2 ⟨rfl, hb⟩
    have HLw2 := Lib.hid (HLw1.out.trans (hb.mono HLw1.out.size))
    clear hb x0 x1 x2 x3 x4 x5 x6 x7 x8 x9 xf
    obtain ⟨x0, x1, x2, x3, x4, x5, x6, x7, x8, x9, xf, _⟩ := HQ.out _ HLw2.out
    dsimp only
    go_wp2_with fail
    go_ret
    exact ⟨by simp, HB1.out.trans (HLw2.out.mono HB1.out.size)⟩
  · cases ab
    · clear c0 c1 c2 c3
      go_enter Tryz.func74, Tryz.ntmps74
      go_upto_region 1 with fail
      generalize hW : World.alloc w _ = W1
      have hk0 : W1.heap[w.heap.size]? = some (.cells #[.int .i64 8, .int .i64 0, .bool false, .int .i64 vk, .int .i64 vi, .string vt, .string t, .string nm, .slice a 0 ac, .slice (some ⟨qb, qo, none⟩) 1 sc] 57 (0, 0)) := by rw [← hW]; exact heap_alloc_new w _
      have hb1 : Below w.heap.size w W1 := by rw [← hW]; exact (Below.refl _ _).alloc (Nat.le_refl _) _
      have hz : w.heap.size < W1.heap.size := by rw [← hW]; simp
      have HQ : Hid (∀ wx, Below W1.heap.size W1 wx → _) := Lib.hid fun wx hb => blk10 ((hb.block w.heap.size hz).trans hk0)
      have HB1 := Lib.hid hb1
      obtain ⟨x0, x1, x2, x3, x4, x5, x6, x7, x8, x9, xf, _⟩ := HQ.out _ (Below.refl _ _)
      clear hW hb1 hk0
      go_wp2_with fail
      refine (HS.out _ HB1.out).mono ?_
      rintro e w1 ⟨rfl, hb⟩
      have HLw1 := Lib.hid (hb)
      clear hb x0 x1 x2 x3 x4 x5 x6 x7 x8 x9 xf
      obtain ⟨x0, x1, x2, x3, x4, x5, x6, x7, x8, x9, xf, _⟩ := HQ.out _ HLw1.out
      dsimp only
      go_wp2_with fail
      refine (HP.out _).mono ?_
      rintro e w2 ⟨rfl, hb⟩
      have HLw2 := Lib.hid (HLw1.out.trans (hb.mono HLw1.out.size))
      clear hb x0 x1 x2 x3 x4 x5 x6 x7 x8 x9 xf
      obtain ⟨x0, x1, x2, x3, x4, x5, x6, x7, x8, x9, xf, _⟩ := HQ.out _ HLw2.out
      dsimp only
      go_wp2_with fail
      refine (HA.out _ (HB1.out.trans (HLw2.out.mono HB1.out.size))).mono ?_
      rintro e w3 ⟨rfl, hb⟩
      have HLw3 := Lib.hid (HLw2.out.trans (hb.mono HLw2.out.size))
      clear hb x0 x1 x2 x3 x4 x5 x6 x7 x8 x9 xf
      obtain ⟨x0, x1, x2, x3, x4, x5, x6, x7, x8, x9, xf, _⟩ := HQ.out _ HLw3.out
      dsimp only
      go_wp2_with fail
      go_ret
      exact ⟨by simp, HB1.out.trans (HLw3.out.mono HB1.out.size)⟩
    · clear c0 c1 c2 c3
      go_enter Tryz.func74, Tryz.ntmps74
      go_upto_region 1 with fail
      generalize hW : World.alloc w _ = W1
      have hk0 : W1.heap[w.heap.size]? = some (.cells #[.int .i64 8, .int .i64 0, .bool false, .int .i64 vk, .int .i64 vi, .string vt, .string t, .string nm, .slice a 0 ac, .slice (some ⟨qb, qo, none⟩) 1 sc] 57 (0, 0)) := by rw [← hW]; exact heap_alloc_new w _
      have hb1 : Below w.heap.size w W1 := by rw [← hW]; exact (Below.refl _ _).alloc (Nat.le_refl _) _
      have hz : w.heap.size < W1.heap.size := by rw [← hW]; simp
      have HQ : Hid (∀ wx, Below W1.heap.size W1 wx → _) := Lib.hid fun wx hb => blk10 ((hb.block w.heap.size hz).trans hk0)
      have HB1 := Lib.hid hb1
      obtain ⟨x0, x1, x2, x3, x4, x5, x6, x7, x8, x9, xf, _⟩ := HQ.out _ (Below.refl _ _)
      clear hW hb1 hk0
      go_wp2_with fail
      refine (HS.out _ HB1.out).mono ?_
      rintro e w1 ⟨rfl, hb⟩
      have HLw1 := Lib.hid (hb)
      clear hb x0 x1 x2 x3 x4 x5 x6 x7 x8 x9 xf
      obtain ⟨x0, x1, x2, x3, x4, x5, x6, x7, x8, x9, xf, _⟩ := HQ.out _ HLw1.out
      dsimp only
      go_wp2_with fail
      refine (HP.out _).mono ?_
      rintro e w2 ⟨rfl, hb⟩
      have HLw2 := Lib.hid (HLw1.out.trans (hb.mono HLw1.out.size))
      clear hb x0 x1 x2 x3 x4 x5 x6 x7 x8 x9 xf
      obtain ⟨x0, x1, x2, x3, x4, x5, x6, x7, x8, x9, xf, _⟩ := HQ.out _ HLw2.out
      dsimp only
      go_wp2_with fail
      refine (HA.out _ (HB1.out.trans (HLw2.out.mono HB1.out.size))).mono ?_
      rintro e w3 ⟨rfl, hb⟩
      have HLw3 := Lib.hid (HLw2.out.trans (hb.mono HLw2.out.size))
      clear hb x0 x1 x2 x3 x4 x5 x6 x7 x8 x9 xf
      obtain ⟨x0, x1, x2, x3, x4, x5, x6, x7, x8, x9, xf, _⟩ := HQ.out _ HLw3.out
      dsimp only
      obtain ⟨d0, d1, d2, d3⟩ := HD.out _ (HB1.out.trans (HLw3.out.mono HB1.out.size))
      go_wp2_with fail
      refine wp_loop_rounds 2 ?_
      rw [rounds_succ]
      go_wp2_with fail
      go_ret
      exact ⟨by simp, (HB1.out.trans (HLw3.out.mono HB1.out.size)).alloc (HB1.out.trans (HLw3.out.mono HB1.out.size)).size _⟩

set_option maxRecDepth 100000 in
set_option maxHeartbeats 20000000 in
theorem rv_q9f (hs : ∀ wx, Below w.heap.size w wx → Calls Tryz.prog 165 #[.agg #[.int .i64 k, .int .i64 o, .bool no, .int .i64 vk, .int .i64 vi, .string vt, .string t, .string nm, .slice a an ac, .slice s sn sc]] wx (RetBel (.bool true) wx)) (pb ab : Bool) (hp : ∀ wx, Calls Tryz.prog 166 #[.agg #[.int .i64 k, .int .i64 o, .bool no, .int .i64 vk, .int .i64 vi, .string vt, .string t, .string nm, .slice a an ac, .slice s sn sc]] wx (RetBel (.bool pb) wx)) (ha : ∀ wx, Below w.heap.size w wx → Calls Tryz.prog 119 #[.slice a an ac] wx (RetBel (.bool ab) wx)) (qb qo : Nat) (st : Bool) (f : ByteArray) (ia wa : Option Addr) (il wl ic wc : Nat) (hqb : qb < w.heap.size) (sb ib wb : Bool)
    (c0 : w.cell? ⟨qb, qo, none⟩ = some (.bool st)) (c1 : w.cell? ⟨qb, qo + 1, none⟩ = some (.slice ia il ic)) (c2 : w.cell? ⟨qb, qo + 2, none⟩ = some (.string f)) (c3 : w.cell? ⟨qb, qo + 3, none⟩ = some (.slice wa wl wc))
    (hso : ∀ wx, Calls Tryz.prog 118 #[.string f] wx fun e w' => e = .returned (.bool sb) ∧ wx = w')
    (hi : ∀ wx, Below w.heap.size w wx → Calls Tryz.prog 119 #[.slice ia il ic] wx (RetBel (.bool ib) wx))
    (hw : ∀ wx, Below w.heap.size w wx → Calls Tryz.prog 119 #[.slice wa wl wc] wx (RetBel (.bool wb) wx)) (hg : o = 0 ∧ no = false ∧ st = false ∧ s = some ⟨qb, qo, none⟩ ∧ sn = 1 ∧ an = 0) (e1 : (k == 1) = false) (e2 : (k == 2) = false) (e5 : (k != 5) = true) (e6 : (k != 6) = true) (e8 : (k == 8) = false) :
    Calls Tryz.prog 74 #[.agg #[.int .i64 k, .int .i64 o, .bool no, .int .i64 vk, .int .i64 vi, .string vt, .string t, .string nm, .slice a an ac, .slice s sn sc]] w (RetBel (.bool (pb && ab && (sb && ib && wb))) w) := by
  obtain ⟨rfl, rfl, rfl, rfl, rfl, rfl⟩ := hg
  have HS := Lib.hid hs
  have HP := Lib.hid hp
  have HA := Lib.hid ha
  clear hs hp ha
  have HSO := Lib.hid hso
  have HI := Lib.hid hi
  have HW := Lib.hid hw
  clear hso hi hw
  have HD : Hid (∀ wx, Below w.heap.size w wx → _) := Lib.hid fun wx hb => And.intro ((hb.cell (p := ⟨qb, qo, none⟩) hqb).trans c0) (And.intro ((hb.cell (p := ⟨qb, qo + 1, none⟩) hqb).trans c1) (And.intro ((hb.cell (p := ⟨qb, qo + 2, none⟩) hqb).trans c2) ((hb.cell (p := ⟨qb, qo + 3, none⟩) hqb).trans c3)))
  cases pb
  · clear c0 c1 c2 c3
    go_enter Tryz.func74, Tryz.ntmps74
    go_upto_region 1 with fail
    generalize hW : World.alloc w _ = W1
    have hk0 : W1.heap[w.heap.size]? = some (.cells #[.int .i64 k, .int .i64 0, .bool false, .int .i64 vk, .int .i64 vi, .string vt, .string t, .string nm, .slice a 0 ac, .slice (some ⟨qb, qo, none⟩) 1 sc] 57 (0, 0)) := by rw [← hW]; exact heap_alloc_new w _
    have hb1 : Below w.heap.size w W1 := by rw [← hW]; exact (Below.refl _ _).alloc (Nat.le_refl _) _
    have hz : w.heap.size < W1.heap.size := by rw [← hW]; simp
    have HQ : Hid (∀ wx, Below W1.heap.size W1 wx → _) := Lib.hid fun wx hb => blk10 ((hb.block w.heap.size hz).trans hk0)
    have HB1 := Lib.hid hb1
    obtain ⟨x0, x1, x2, x3, x4, x5, x6, x7, x8, x9, xf, _⟩ := HQ.out _ (Below.refl _ _)
    clear hW hb1 hk0
    go_wp2_with fail
    refine (HS.out _ HB1.out).mono ?_
    rintro e w1 ⟨rfl, hb⟩
    have HLw1 := Lib.hid (hb)
    clear hb x0 x1 x2 x3 x4 x5 x6 x7 x8 x9 xf
    obtain ⟨x0, x1, x2, x3, x4, x5, x6, x7, x8, x9, xf, _⟩ := HQ.out _ HLw1.out
    dsimp only
    go_wp2_with fail
    refine (HP.out _).mono ?_
    rintro e w2 ⟨rfl, hb⟩
    have HLw2 := Lib.hid (HLw1.out.trans (hb.mono HLw1.out.size))
    clear hb x0 x1 x2 x3 x4 x5 x6 x7 x8 x9 xf
    obtain ⟨x0, x1, x2, x3, x4, x5, x6, x7, x8, x9, xf, _⟩ := HQ.out _ HLw2.out
    dsimp only
    go_wp2_with fail
    go_ret
    exact ⟨by simp, HB1.out.trans (HLw2.out.mono HB1.out.size)⟩
  · cases ab
    · clear c0 c1 c2 c3
      go_enter Tryz.func74, Tryz.ntmps74
      go_upto_region 1 with fail
      generalize hW : World.alloc w _ = W1
      have hk0 : W1.heap[w.heap.size]? = some (.cells #[.int .i64 k, .int .i64 0, .bool false, .int .i64 vk, .int .i64 vi, .string vt, .string t, .string nm, .slice a 0 ac, .slice (some ⟨qb, qo, none⟩) 1 sc] 57 (0, 0)) := by rw [← hW]; exact heap_alloc_new w _
      have hb1 : Below w.heap.size w W1 := by rw [← hW]; exact (Below.refl _ _).alloc (Nat.le_refl _) _
      have hz : w.heap.size < W1.heap.size := by rw [← hW]; simp
      have HQ : Hid (∀ wx, Below W1.heap.size W1 wx → _) := Lib.hid fun wx hb => blk10 ((hb.block w.heap.size hz).trans hk0)
      have HB1 := Lib.hid hb1
      obtain ⟨x0, x1, x2, x3, x4, x5, x6, x7, x8, x9, xf, _⟩ := HQ.out _ (Below.refl _ _)
      clear hW hb1 hk0
      go_wp2_with fail
      refine (HS.out _ HB1.out).mono ?_
      rintro e w1 ⟨rfl, hb⟩
      have HLw1 := Lib.hid (hb)
      clear hb x0 x1 x2 x3 x4 x5 x6 x7 x8 x9 xf
      obtain ⟨x0, x1, x2, x3, x4, x5, x6, x7, x8, x9, xf, _⟩ := HQ.out _ HLw1.out
      dsimp only
      go_wp2_with fail
      refine (HP.out _).mono ?_
      rintro e w2 ⟨rfl, hb⟩
      have HLw2 := Lib.hid (HLw1.out.trans (hb.mono HLw1.out.size))
      clear hb x0 x1 x2 x3 x4 x5 x6 x7 x8 x9 xf
      obtain ⟨x0, x1, x2, x3, x4, x5, x6, x7, x8, x9, xf, _⟩ := HQ.out _ HLw2.out
      dsimp only
      go_wp2_with fail
      refine (HA.out _ (HB1.out.trans (HLw2.out.mono HB1.out.size))).mono ?_
      rintro e w3 ⟨rfl, hb⟩
      have HLw3 := Lib.hid (HLw2.out.trans (hb.mono HLw2.out.size))
      clear hb x0 x1 x2 x3 x4 x5 x6 x7 x8 x9 xf
      obtain ⟨x0, x1, x2, x3, x4, x5, x6, x7, x8, x9, xf, _⟩ := HQ.out _ HLw3.out
      dsimp only
      go_wp2_with fail
      go_ret
      exact ⟨by simp, HB1.out.trans (HLw3.out.mono HB1.out.size)⟩
    · cases sb
      · clear c0 c1 c2 c3
        go_enter Tryz.func74, Tryz.ntmps74
        go_upto_region 1 with fail
        generalize hW : World.alloc w _ = W1
        have hk0 : W1.heap[w.heap.size]? = some (.cells #[.int .i64 k, .int .i64 0, .bool false, .int .i64 vk, .int .i64 vi, .string vt, .string t, .string nm, .slice a 0 ac, .slice (some ⟨qb, qo, none⟩) 1 sc] 57 (0, 0)) := by rw [← hW]; exact heap_alloc_new w _
        have hb1 : Below w.heap.size w W1 := by rw [← hW]; exact (Below.refl _ _).alloc (Nat.le_refl _) _
        have hz : w.heap.size < W1.heap.size := by rw [← hW]; simp
        have HQ : Hid (∀ wx, Below W1.heap.size W1 wx → _) := Lib.hid fun wx hb => blk10 ((hb.block w.heap.size hz).trans hk0)
        have HB1 := Lib.hid hb1
        obtain ⟨x0, x1, x2, x3, x4, x5, x6, x7, x8, x9, xf, _⟩ := HQ.out _ (Below.refl _ _)
        clear hW hb1 hk0
        go_wp2_with fail
        refine (HS.out _ HB1.out).mono ?_
        rintro e w1 ⟨rfl, hb⟩
        have HLw1 := Lib.hid (hb)
        clear hb x0 x1 x2 x3 x4 x5 x6 x7 x8 x9 xf
        obtain ⟨x0, x1, x2, x3, x4, x5, x6, x7, x8, x9, xf, _⟩ := HQ.out _ HLw1.out
        dsimp only
        go_wp2_with fail
        refine (HP.out _).mono ?_
        rintro e w2 ⟨rfl, hb⟩
        have HLw2 := Lib.hid (HLw1.out.trans (hb.mono HLw1.out.size))
        clear hb x0 x1 x2 x3 x4 x5 x6 x7 x8 x9 xf
        obtain ⟨x0, x1, x2, x3, x4, x5, x6, x7, x8, x9, xf, _⟩ := HQ.out _ HLw2.out
        dsimp only
        go_wp2_with fail
        refine (HA.out _ (HB1.out.trans (HLw2.out.mono HB1.out.size))).mono ?_
        rintro e w3 ⟨rfl, hb⟩
        have HLw3 := Lib.hid (HLw2.out.trans (hb.mono HLw2.out.size))
        clear hb x0 x1 x2 x3 x4 x5 x6 x7 x8 x9 xf
        obtain ⟨x0, x1, x2, x3, x4, x5, x6, x7, x8, x9, xf, _⟩ := HQ.out _ HLw3.out
        dsimp only
        obtain ⟨d0, d1, d2, d3⟩ := HD.out _ (HB1.out.trans (HLw3.out.mono HB1.out.size))
        go_wp2_with fail
        refine wp_loop_rounds 2 ?_
        rw [rounds_succ]
        go_wp2_with fail
        generalize hW4 : World.alloc w3 _ = W4
        have hq4 : ∀ wx, Below W4.heap.size W4 wx → wx.cell? ⟨w3.heap.size, 0, none⟩ = some (.bool false) ∧ wx.cell? ⟨w3.heap.size, 1, none⟩ = some (.slice ia il ic) ∧ wx.cell? ⟨w3.heap.size, 2, none⟩ = some (.string f) ∧ wx.cell? ⟨w3.heap.size, 3, none⟩ = some (.slice wa wl wc) := by
          intro wx hb
          have hz4 : w3.heap.size < W4.heap.size := by rw [← hW4]; simp
          rw [hb.cell (p := ⟨w3.heap.size, 0, none⟩) hz4, hb.cell (p := ⟨w3.heap.size, 1, none⟩) hz4, hb.cell (p := ⟨w3.heap.size, 2, none⟩) hz4, hb.cell (p := ⟨w3.heap.size, 3, none⟩) hz4, ← hW4]
          refine ⟨?_, ?_, ?_, ?_⟩ <;> simp
        have hb4 : Below w.heap.size w W4 := by rw [← hW4]; exact (HB1.out.trans (HLw3.out.mono HB1.out.size)).alloc (HB1.out.trans (HLw3.out.mono HB1.out.size)).size _
        have HQ4 := Lib.hid hq4
        have HB4 := Lib.hid hb4
        clear hq4 hb4 hW4 x0 x1 x2 x3 x4 x5 x6 x7 x8 x9 xf d0 d1 d2 d3
        obtain ⟨y0, y1, y2, y3⟩ := HQ4.out _ (Below.refl _ _)
        refine (HSO.out _).mono ?_
        rintro e w4 ⟨rfl, rfl⟩
        dsimp only
        go_wp2_with fail
        go_ret
        exact ⟨by simp, HB4.out⟩
      · cases ib
        · clear c0 c1 c2 c3
          go_enter Tryz.func74, Tryz.ntmps74
          go_upto_region 1 with fail
          generalize hW : World.alloc w _ = W1
          have hk0 : W1.heap[w.heap.size]? = some (.cells #[.int .i64 k, .int .i64 0, .bool false, .int .i64 vk, .int .i64 vi, .string vt, .string t, .string nm, .slice a 0 ac, .slice (some ⟨qb, qo, none⟩) 1 sc] 57 (0, 0)) := by rw [← hW]; exact heap_alloc_new w _
          have hb1 : Below w.heap.size w W1 := by rw [← hW]; exact (Below.refl _ _).alloc (Nat.le_refl _) _
          have hz : w.heap.size < W1.heap.size := by rw [← hW]; simp
          have HQ : Hid (∀ wx, Below W1.heap.size W1 wx → _) := Lib.hid fun wx hb => blk10 ((hb.block w.heap.size hz).trans hk0)
          have HB1 := Lib.hid hb1
          obtain ⟨x0, x1, x2, x3, x4, x5, x6, x7, x8, x9, xf, _⟩ := HQ.out _ (Below.refl _ _)
          clear hW hb1 hk0
          go_wp2_with fail
          refine (HS.out _ HB1.out).mono ?_
          rintro e w1 ⟨rfl, hb⟩
          have HLw1 := Lib.hid (hb)
          clear hb x0 x1 x2 x3 x4 x5 x6 x7 x8 x9 xf
          obtain ⟨x0, x1, x2, x3, x4, x5, x6, x7, x8, x9, xf, _⟩ := HQ.out _ HLw1.out
          dsimp only
          go_wp2_with fail
          refine (HP.out _).mono ?_
          rintro e w2 ⟨rfl, hb⟩
          have HLw2 := Lib.hid (HLw1.out.trans (hb.mono HLw1.out.size))
          clear hb x0 x1 x2 x3 x4 x5 x6 x7 x8 x9 xf
          obtain ⟨x0, x1, x2, x3, x4, x5, x6, x7, x8, x9, xf, _⟩ := HQ.out _ HLw2.out
          dsimp only
          go_wp2_with fail
          refine (HA.out _ (HB1.out.trans (HLw2.out.mono HB1.out.size))).mono ?_
          rintro e w3 ⟨rfl, hb⟩
          have HLw3 := Lib.hid (HLw2.out.trans (hb.mono HLw2.out.size))
          clear hb x0 x1 x2 x3 x4 x5 x6 x7 x8 x9 xf
          obtain ⟨x0, x1, x2, x3, x4, x5, x6, x7, x8, x9, xf, _⟩ := HQ.out _ HLw3.out
          dsimp only
          obtain ⟨d0, d1, d2, d3⟩ := HD.out _ (HB1.out.trans (HLw3.out.mono HB1.out.size))
          go_wp2_with fail
          refine wp_loop_rounds 2 ?_
          rw [rounds_succ]
          go_wp2_with fail
          generalize hW4 : World.alloc w3 _ = W4
          have hq4 : ∀ wx, Below W4.heap.size W4 wx → wx.cell? ⟨w3.heap.size, 0, none⟩ = some (.bool false) ∧ wx.cell? ⟨w3.heap.size, 1, none⟩ = some (.slice ia il ic) ∧ wx.cell? ⟨w3.heap.size, 2, none⟩ = some (.string f) ∧ wx.cell? ⟨w3.heap.size, 3, none⟩ = some (.slice wa wl wc) := by
            intro wx hb
            have hz4 : w3.heap.size < W4.heap.size := by rw [← hW4]; simp
            rw [hb.cell (p := ⟨w3.heap.size, 0, none⟩) hz4, hb.cell (p := ⟨w3.heap.size, 1, none⟩) hz4, hb.cell (p := ⟨w3.heap.size, 2, none⟩) hz4, hb.cell (p := ⟨w3.heap.size, 3, none⟩) hz4, ← hW4]
            refine ⟨?_, ?_, ?_, ?_⟩ <;> simp
          have hb4 : Below w.heap.size w W4 := by rw [← hW4]; exact (HB1.out.trans (HLw3.out.mono HB1.out.size)).alloc (HB1.out.trans (HLw3.out.mono HB1.out.size)).size _
          have HQ4 := Lib.hid hq4
          have HB4 := Lib.hid hb4
          clear hq4 hb4 hW4 x0 x1 x2 x3 x4 x5 x6 x7 x8 x9 xf d0 d1 d2 d3
          obtain ⟨y0, y1, y2, y3⟩ := HQ4.out _ (Below.refl _ _)
          refine (HSO.out _).mono ?_
          rintro e w4 ⟨rfl, rfl⟩
          dsimp only
          go_wp2_with fail
          refine (HI.out _ HB4.out).mono ?_
          rintro e w5 ⟨rfl, hb⟩
          have HL5 := Lib.hid hb
          have HB5 := Lib.hid (HB4.out.trans (hb.mono HB4.out.size))
          clear hb y0 y1 y2 y3
          obtain ⟨y0, y1, y2, y3⟩ := HQ4.out _ HL5.out
          dsimp only
          go_wp2_with fail
          go_ret
          exact ⟨by simp, HB5.out⟩
        · cases wb
          · clear c0 c1 c2 c3
            go_enter Tryz.func74, Tryz.ntmps74
            go_upto_region 1 with fail
            generalize hW : World.alloc w _ = W1
            have hk0 : W1.heap[w.heap.size]? = some (.cells #[.int .i64 k, .int .i64 0, .bool false, .int .i64 vk, .int .i64 vi, .string vt, .string t, .string nm, .slice a 0 ac, .slice (some ⟨qb, qo, none⟩) 1 sc] 57 (0, 0)) := by rw [← hW]; exact heap_alloc_new w _
            have hb1 : Below w.heap.size w W1 := by rw [← hW]; exact (Below.refl _ _).alloc (Nat.le_refl _) _
            have hz : w.heap.size < W1.heap.size := by rw [← hW]; simp
            have HQ : Hid (∀ wx, Below W1.heap.size W1 wx → _) := Lib.hid fun wx hb => blk10 ((hb.block w.heap.size hz).trans hk0)
            have HB1 := Lib.hid hb1
            obtain ⟨x0, x1, x2, x3, x4, x5, x6, x7, x8, x9, xf, _⟩ := HQ.out _ (Below.refl _ _)
            clear hW hb1 hk0
            go_wp2_with fail
            refine (HS.out _ HB1.out).mono ?_
            rintro e w1 ⟨rfl, hb⟩
            have HLw1 := Lib.hid (hb)
            clear hb x0 x1 x2 x3 x4 x5 x6 x7 x8 x9 xf
            obtain ⟨x0, x1, x2, x3, x4, x5, x6, x7, x8, x9, xf, _⟩ := HQ.out _ HLw1.out
            dsimp only
            go_wp2_with fail
            refine (HP.out _).mono ?_
            rintro e w2 ⟨rfl, hb⟩
            have HLw2 := Lib.hid (HLw1.out.trans (hb.mono HLw1.out.size))
            clear hb x0 x1 x2 x3 x4 x5 x6 x7 x8 x9 xf
            obtain ⟨x0, x1, x2, x3, x4, x5, x6, x7, x8, x9, xf, _⟩ := HQ.out _ HLw2.out
            dsimp only
            go_wp2_with fail
            refine (HA.out _ (HB1.out.trans (HLw2.out.mono HB1.out.size))).mono ?_
            rintro e w3 ⟨rfl, hb⟩
            have HLw3 := Lib.hid (HLw2.out.trans (hb.mono HLw2.out.size))
            clear hb x0 x1 x2 x3 x4 x5 x6 x7 x8 x9 xf
            obtain ⟨x0, x1, x2, x3, x4, x5, x6, x7, x8, x9, xf, _⟩ := HQ.out _ HLw3.out
            dsimp only
            obtain ⟨d0, d1, d2, d3⟩ := HD.out _ (HB1.out.trans (HLw3.out.mono HB1.out.size))
            go_wp2_with fail
            refine wp_loop_rounds 2 ?_
            rw [rounds_succ]
            go_wp2_with fail
            generalize hW4 : World.alloc w3 _ = W4
            have hq4 : ∀ wx, Below W4.heap.size W4 wx → wx.cell? ⟨w3.heap.size, 0, none⟩ = some (.bool false) ∧ wx.cell? ⟨w3.heap.size, 1, none⟩ = some (.slice ia il ic) ∧ wx.cell? ⟨w3.heap.size, 2, none⟩ = some (.string f) ∧ wx.cell? ⟨w3.heap.size, 3, none⟩ = some (.slice wa wl wc) := by
              intro wx hb
              have hz4 : w3.heap.size < W4.heap.size := by rw [← hW4]; simp
              rw [hb.cell (p := ⟨w3.heap.size, 0, none⟩) hz4, hb.cell (p := ⟨w3.heap.size, 1, none⟩) hz4, hb.cell (p := ⟨w3.heap.size, 2, none⟩) hz4, hb.cell (p := ⟨w3.heap.size, 3, none⟩) hz4, ← hW4]
              refine ⟨?_, ?_, ?_, ?_⟩ <;> simp
            have hb4 : Below w.heap.size w W4 := by rw [← hW4]; exact (HB1.out.trans (HLw3.out.mono HB1.out.size)).alloc (HB1.out.trans (HLw3.out.mono HB1.out.size)).size _
            have HQ4 := Lib.hid hq4
            have HB4 := Lib.hid hb4
            clear hq4 hb4 hW4 x0 x1 x2 x3 x4 x5 x6 x7 x8 x9 xf d0 d1 d2 d3
            obtain ⟨y0, y1, y2, y3⟩ := HQ4.out _ (Below.refl _ _)
            refine (HSO.out _).mono ?_
            rintro e w4 ⟨rfl, rfl⟩
            dsimp only
            go_wp2_with fail
            refine (HI.out _ HB4.out).mono ?_
            rintro e w5 ⟨rfl, hb⟩
            have HL5 := Lib.hid hb
            have HB5 := Lib.hid (HB4.out.trans (hb.mono HB4.out.size))
            clear hb y0 y1 y2 y3
            obtain ⟨y0, y1, y2, y3⟩ := HQ4.out _ HL5.out
            dsimp only
            go_wp2_with fail
            refine (HW.out _ HB5.out).mono ?_
            rintro e w6 ⟨rfl, hb⟩
            have HB6 := Lib.hid (HB5.out.trans (hb.mono HB5.out.size))
            clear hb y0 y1 y2 y3
            dsimp only
            go_wp2_with fail
            go_ret
            exact ⟨by simp, HB6.out⟩
          · clear c0 c1 c2 c3
            go_enter Tryz.func74, Tryz.ntmps74
            go_upto_region 1 with fail
            generalize hW : World.alloc w _ = W1
            have hk0 : W1.heap[w.heap.size]? = some (.cells #[.int .i64 k, .int .i64 0, .bool false, .int .i64 vk, .int .i64 vi, .string vt, .string t, .string nm, .slice a 0 ac, .slice (some ⟨qb, qo, none⟩) 1 sc] 57 (0, 0)) := by rw [← hW]; exact heap_alloc_new w _
            have hb1 : Below w.heap.size w W1 := by rw [← hW]; exact (Below.refl _ _).alloc (Nat.le_refl _) _
            have hz : w.heap.size < W1.heap.size := by rw [← hW]; simp
            have HQ : Hid (∀ wx, Below W1.heap.size W1 wx → _) := Lib.hid fun wx hb => blk10 ((hb.block w.heap.size hz).trans hk0)
            have HB1 := Lib.hid hb1
            obtain ⟨x0, x1, x2, x3, x4, x5, x6, x7, x8, x9, xf, _⟩ := HQ.out _ (Below.refl _ _)
            clear hW hb1 hk0
            go_wp2_with fail
            refine (HS.out _ HB1.out).mono ?_
            rintro e w1 ⟨rfl, hb⟩
            have HLw1 := Lib.hid (hb)
            clear hb x0 x1 x2 x3 x4 x5 x6 x7 x8 x9 xf
            obtain ⟨x0, x1, x2, x3, x4, x5, x6, x7, x8, x9, xf, _⟩ := HQ.out _ HLw1.out
            dsimp only
            go_wp2_with fail
            refine (HP.out _).mono ?_
            rintro e w2 ⟨rfl, hb⟩
            have HLw2 := Lib.hid (HLw1.out.trans (hb.mono HLw1.out.size))
            clear hb x0 x1 x2 x3 x4 x5 x6 x7 x8 x9 xf
            obtain ⟨x0, x1, x2, x3, x4, x5, x6, x7, x8, x9, xf, _⟩ := HQ.out _ HLw2.out
            dsimp only
            go_wp2_with fail
            refine (HA.out _ (HB1.out.trans (HLw2.out.mono HB1.out.size))).mono ?_
            rintro e w3 ⟨rfl, hb⟩
            have HLw3 := Lib.hid (HLw2.out.trans (hb.mono HLw2.out.size))
            clear hb x0 x1 x2 x3 x4 x5 x6 x7 x8 x9 xf
            obtain ⟨x0, x1, x2, x3, x4, x5, x6, x7, x8, x9, xf, _⟩ := HQ.out _ HLw3.out
            dsimp only
            obtain ⟨d0, d1, d2, d3⟩ := HD.out _ (HB1.out.trans (HLw3.out.mono HB1.out.size))
            go_wp2_with fail
            refine wp_loop_rounds 2 ?_
            rw [rounds_succ]
            go_wp2_with fail
            generalize hW4 : World.alloc w3 _ = W4
            have hq4 : ∀ wx, Below W4.heap.size W4 wx → wx.cell? ⟨w3.heap.size, 0, none⟩ = some (.bool false) ∧ wx.cell? ⟨w3.heap.size, 1, none⟩ = some (.slice ia il ic) ∧ wx.cell? ⟨w3.heap.size, 2, none⟩ = some (.string f) ∧ wx.cell? ⟨w3.heap.size, 3, none⟩ = some (.slice wa wl wc) := by
              intro wx hb
              have hz4 : w3.heap.size < W4.heap.size := by rw [← hW4]; simp
              rw [hb.cell (p := ⟨w3.heap.size, 0, none⟩) hz4, hb.cell (p := ⟨w3.heap.size, 1, none⟩) hz4, hb.cell (p := ⟨w3.heap.size, 2, none⟩) hz4, hb.cell (p := ⟨w3.heap.size, 3, none⟩) hz4, ← hW4]
              refine ⟨?_, ?_, ?_, ?_⟩ <;> simp
            have hb4 : Below w.heap.size w W4 := by rw [← hW4]; exact (HB1.out.trans (HLw3.out.mono HB1.out.size)).alloc (HB1.out.trans (HLw3.out.mono HB1.out.size)).size _
            have HQ4 := Lib.hid hq4
            have HB4 := Lib.hid hb4
            clear hq4 hb4 hW4 x0 x1 x2 x3 x4 x5 x6 x7 x8 x9 xf d0 d1 d2 d3
            obtain ⟨y0, y1, y2, y3⟩ := HQ4.out _ (Below.refl _ _)
            refine (HSO.out _).mono ?_
            rintro e w4 ⟨rfl, rfl⟩
            dsimp only
            go_wp2_with fail
            refine (HI.out _ HB4.out).mono ?_
            rintro e w5 ⟨rfl, hb⟩
            have HL5 := Lib.hid hb
            have HB5 := Lib.hid (HB4.out.trans (hb.mono HB4.out.size))
            clear hb y0 y1 y2 y3
            obtain ⟨y0, y1, y2, y3⟩ := HQ4.out _ HL5.out
            dsimp only
            go_wp2_with fail
            refine (HW.out _ HB5.out).mono ?_
            rintro e w6 ⟨rfl, hb⟩
            have HB6 := Lib.hid (HB5.out.trans (hb.mono HB5.out.size))
            clear hb y0 y1 y2 y3
            dsimp only
            go_wp2_with fail
            rw [rounds_succ]
            go_wp2_with fail
            go_ret
            exact ⟨by simp, HB6.out⟩

set_option maxRecDepth 100000 in
set_option maxHeartbeats 20000000 in
theorem rv_q9t (hs : ∀ wx, Below w.heap.size w wx → Calls Tryz.prog 165 #[.agg #[.int .i64 k, .int .i64 o, .bool no, .int .i64 vk, .int .i64 vi, .string vt, .string t, .string nm, .slice a an ac, .slice s sn sc]] wx (RetBel (.bool true) wx)) (pb ab : Bool) (hp : ∀ wx, Calls Tryz.prog 166 #[.agg #[.int .i64 k, .int .i64 o, .bool no, .int .i64 vk, .int .i64 vi, .string vt, .string t, .string nm, .slice a an ac, .slice s sn sc]] wx (RetBel (.bool pb) wx)) (ha : ∀ wx, Below w.heap.size w wx → Calls Tryz.prog 119 #[.slice a an ac] wx (RetBel (.bool ab) wx)) (qb qo : Nat) (st : Bool) (f : ByteArray) (ia wa : Option Addr) (il wl ic wc : Nat) (hqb : qb < w.heap.size) (sb ib wb : Bool)
    (c0 : w.cell? ⟨qb, qo, none⟩ = some (.bool st)) (c1 : w.cell? ⟨qb, qo + 1, none⟩ = some (.slice ia il ic)) (c2 : w.cell? ⟨qb, qo + 2, none⟩ = some (.string f)) (c3 : w.cell? ⟨qb, qo + 3, none⟩ = some (.slice wa wl wc))
    (hso : ∀ wx, Calls Tryz.prog 118 #[.string f] wx fun e w' => e = .returned (.bool sb) ∧ wx = w')
    (hi : ∀ wx, Below w.heap.size w wx → Calls Tryz.prog 119 #[.slice ia il ic] wx (RetBel (.bool ib) wx))
    (hw : ∀ wx, Below w.heap.size w wx → Calls Tryz.prog 119 #[.slice wa wl wc] wx (RetBel (.bool wb) wx)) (hg : o = 0 ∧ no = false ∧ st = true ∧ s = some ⟨qb, qo, none⟩ ∧ sn = 1 ∧ an = 0) (e1 : (k == 1) = false) (e2 : (k == 2) = false) (e5 : (k != 5) = true) (e6 : (k != 6) = true) (e8 : (k == 8) = false) :
    Calls Tryz.prog 74 #[.agg #[.int .i64 k, .int .i64 o, .bool no, .int .i64 vk, .int .i64 vi, .string vt, .string t, .string nm, .slice a an ac, .slice s sn sc]] w (RetBel (.bool (pb && ab && false)) w) := by
  obtain ⟨rfl, rfl, rfl, rfl, rfl, rfl⟩ := hg
  have HS := Lib.hid hs
  have HP := Lib.hid hp
  have HA := Lib.hid ha
  clear hs hp ha
  have HSO := Lib.hid hso
  have HI := Lib.hid hi
  have HW := Lib.hid hw
  clear hso hi hw
  have HD : Hid (∀ wx, Below w.heap.size w wx → _) := Lib.hid fun wx hb => And.intro ((hb.cell (p := ⟨qb, qo, none⟩) hqb).trans c0) (And.intro ((hb.cell (p := ⟨qb, qo + 1, none⟩) hqb).trans c1) (And.intro ((hb.cell (p := ⟨qb, qo + 2, none⟩) hqb).trans c2) ((hb.cell (p := ⟨qb, qo + 3, none⟩) hqb).trans c3)))
  cases pb
  · clear c0 c1 c2 c3
    go_enter Tryz.func74, Tryz.ntmps74
    go_upto_region 1 with fail
    generalize hW : World.alloc w _ = W1
    have hk0 : W1.heap[w.heap.size]? = some (.cells #[.int .i64 k, .int .i64 0, .bool false, .int .i64 vk, .int .i64 vi, .string vt, .string t, .string nm, .slice a 0 ac, .slice (some ⟨qb, qo, none⟩) 1 sc] 57 (0, 0)) := by rw [← hW]; exact heap_alloc_new w _
    have hb1 : Below w.heap.size w W1 := by rw [← hW]; exact (Below.refl _ _).alloc (Nat.le_refl _) _
    have hz : w.heap.size < W1.heap.size := by rw [← hW]; simp
    have HQ : Hid (∀ wx, Below W1.heap.size W1 wx → _) := Lib.hid fun wx hb => blk10 ((hb.block w.heap.size hz).trans hk0)
    have HB1 := Lib.hid hb1
    obtain ⟨x0, x1, x2, x3, x4, x5, x6, x7, x8, x9, xf, _⟩ := HQ.out _ (Below.refl _ _)
    clear hW hb1 hk0
    go_wp2_with fail
    refine (HS.out _ HB1.out).mono ?_
    rintro e w1 ⟨rfl, hb⟩
    have HLw1 := Lib.hid (hb)
    clear hb x0 x1 x2 x3 x4 x5 x6 x7 x8 x9 xf
    obtain ⟨x0, x1, x2, x3, x4, x5, x6, x7, x8, x9, xf, _⟩ := HQ.out _ HLw1.out
    dsimp only
    go_wp2_with fail
    refine (HP.out _).mono ?_
    rintro e w2 ⟨rfl, hb⟩
    have HLw2 := Lib.hid (HLw1.out.trans (hb.mono HLw1.out.size))
    clear hb x0 x1 x2 x3 x4 x5 x6 x7 x8 x9 xf
    obtain ⟨x0, x1, x2, x3, x4, x5, x6, x7, x8, x9, xf, _⟩ := HQ.out _ HLw2.out
    dsimp only
    go_wp2_with fail
    go_ret
    exact ⟨by simp, HB1.out.trans (HLw2.out.mono HB1.out.size)⟩
  · cases ab
    · clear c0 c1 c2 c3
      go_enter Tryz.func74, Tryz.ntmps74
      go_upto_region 1 with fail
      generalize hW : World.alloc w _ = W1
      have hk0 : W1.heap[w.heap.size]? = some (.cells #[.int .i64 k, .int .i64 0, .bool false, .int .i64 vk, .int .i64 vi, .string vt, .string t, .string nm, .slice a 0 ac, .slice (some ⟨qb, qo, none⟩) 1 sc] 57 (0, 0)) := by rw [← hW]; exact heap_alloc_new w _
      have hb1 : Below w.heap.size w W1 := by rw [← hW]; exact (Below.refl _ _).alloc (Nat.le_refl _) _
      have hz : w.heap.size < W1.heap.size := by rw [← hW]; simp
      have HQ : Hid (∀ wx, Below W1.heap.size W1 wx → _) := Lib.hid fun wx hb => blk10 ((hb.block w.heap.size hz).trans hk0)
      have HB1 := Lib.hid hb1
      obtain ⟨x0, x1, x2, x3, x4, x5, x6, x7, x8, x9, xf, _⟩ := HQ.out _ (Below.refl _ _)
      clear hW hb1 hk0
      go_wp2_with fail
      refine (HS.out _ HB1.out).mono ?_
      rintro e w1 ⟨rfl, hb⟩
      have HLw1 := Lib.hid (hb)
      clear hb x0 x1 x2 x3 x4 x5 x6 x7 x8 x9 xf
      obtain ⟨x0, x1, x2, x3, x4, x5, x6, x7, x8, x9, xf, _⟩ := HQ.out _ HLw1.out
      dsimp only
      go_wp2_with fail
      refine (HP.out _).mono ?_
      rintro e w2 ⟨rfl, hb⟩
      have HLw2 := Lib.hid (HLw1.out.trans (hb.mono HLw1.out.size))
      clear hb x0 x1 x2 x3 x4 x5 x6 x7 x8 x9 xf
      obtain ⟨x0, x1, x2, x3, x4, x5, x6, x7, x8, x9, xf, _⟩ := HQ.out _ HLw2.out
      dsimp only
      go_wp2_with fail
      refine (HA.out _ (HB1.out.trans (HLw2.out.mono HB1.out.size))).mono ?_
      rintro e w3 ⟨rfl, hb⟩
      have HLw3 := Lib.hid (HLw2.out.trans (hb.mono HLw2.out.size))
      clear hb x0 x1 x2 x3 x4 x5 x6 x7 x8 x9 xf
      obtain ⟨x0, x1, x2, x3, x4, x5, x6, x7, x8, x9, xf, _⟩ := HQ.out _ HLw3.out
      dsimp only
      go_wp2_with fail
      go_ret
      exact ⟨by simp, HB1.out.trans (HLw3.out.mono HB1.out.size)⟩
    · clear c0 c1 c2 c3
      go_enter Tryz.func74, Tryz.ntmps74
      go_upto_region 1 with fail
      generalize hW : World.alloc w _ = W1
      have hk0 : W1.heap[w.heap.size]? = some (.cells #[.int .i64 k, .int .i64 0, .bool false, .int .i64 vk, .int .i64 vi, .string vt, .string t, .string nm, .slice a 0 ac, .slice (some ⟨qb, qo, none⟩) 1 sc] 57 (0, 0)) := by rw [← hW]; exact heap_alloc_new w _
      have hb1 : Below w.heap.size w W1 := by rw [← hW]; exact (Below.refl _ _).alloc (Nat.le_refl _) _
      have hz : w.heap.size < W1.heap.size := by rw [← hW]; simp
      have HQ : Hid (∀ wx, Below W1.heap.size W1 wx → _) := Lib.hid fun wx hb => blk10 ((hb.block w.heap.size hz).trans hk0)
      have HB1 := Lib.hid hb1
      obtain ⟨x0, x1, x2, x3, x4, x5, x6, x7, x8, x9, xf, _⟩ := HQ.out _ (Below.refl _ _)
      clear hW hb1 hk0
      go_wp2_with fail
      refine (HS.out _ HB1.out).mono ?_
      rintro e w1 ⟨rfl, hb⟩
      have HLw1 := Lib.hid (hb)
      clear hb x0 x1 x2 x3 x4 x5 x6 x7 x8 x9 xf
      obtain ⟨x0, x1, x2, x3, x4, x5, x6, x7, x8, x9, xf, _⟩ := HQ.out _ HLw1.out
      dsimp only
      go_wp2_with fail
      refine (HP.out _).mono ?_
      rintro e w2 ⟨rfl, hb⟩
      have HLw2 := Lib.hid (HLw1.out.trans (hb.mono HLw1.out.size))
      clear hb x0 x1 x2 x3 x4 x5 x6 x7 x8 x9 xf
      obtain ⟨x0, x1, x2, x3, x4, x5, x6, x7, x8, x9, xf, _⟩ := HQ.out _ HLw2.out
      dsimp only
      go_wp2_with fail
      refine (HA.out _ (HB1.out.trans (HLw2.out.mono HB1.out.size))).mono ?_
      rintro e w3 ⟨rfl, hb⟩
      have HLw3 := Lib.hid (HLw2.out.trans (hb.mono HLw2.out.size))
      clear hb x0 x1 x2 x3 x4 x5 x6 x7 x8 x9 xf
      obtain ⟨x0, x1, x2, x3, x4, x5, x6, x7, x8, x9, xf, _⟩ := HQ.out _ HLw3.out
      dsimp only
      obtain ⟨d0, d1, d2, d3⟩ := HD.out _ (HB1.out.trans (HLw3.out.mono HB1.out.size))
      go_wp2_with fail
      refine wp_loop_rounds 2 ?_
      rw [rounds_succ]
      go_wp2_with fail
      go_ret
      exact ⟨by simp, (HB1.out.trans (HLw3.out.mono HB1.out.size)).alloc (HB1.out.trans (HLw3.out.mono HB1.out.size)).size _⟩
end
end Go.Proofs.YtpnigfmclmfjaaaGreatDoor

namespace Go.Proofs.YtpnigfmclmfjaaaGreatDoor
open Go.RowKit

theorem shape_facts {k o : Int} {an : Nat} {sub : List Qu} (h : shapeP k o an sub = true) :
    ((k = 1 ∨ k = 2) → an = 0 ∧ sub = []) ∧ ((k = 3 ∨ k = 4 ∨ k = 6) → an = 1 ∧ sub = []) ∧ (k = 5 → 1 ≤ o ∧ o ≤ 13 ∧ an = 2 ∧ sub = []) ∧ (k = 7 → an = 3 ∧ sub = []) ∧
      ((8 ≤ k ∧ k ≤ 12) → an = 0 ∧ ∃ q, sub = [q] ∧ q.items.length = (if k = 8 ∨ k = 9 then 0 else 1) ∧ q.whr.length ≤ 1) ∧ 1 ≤ k ∧ k ≤ 12 := by
  unfold shapeP at h
  by_cases h1 : k = 1 ∨ k = 2
  · rw [if_pos h1] at h
    simp only [Bool.and_eq_true, decide_eq_true_eq, List.length_eq_zero_iff] at h
    exact ⟨fun _ => h, fun _ => by omega, fun _ => by omega, fun _ => by omega, fun _ => by omega, by omega, by omega⟩
  rw [if_neg h1] at h
  by_cases h3 : k = 3 ∨ k = 4 ∨ k = 6
  · rw [if_pos h3] at h
    simp only [Bool.and_eq_true, decide_eq_true_eq, List.length_eq_zero_iff] at h
    exact ⟨fun _ => by omega, fun _ => h, fun _ => by omega, fun _ => by omega, fun _ => by omega, by omega, by omega⟩
  rw [if_neg h3] at h
  by_cases h5 : k = 5
  · rw [if_pos h5] at h
    simp only [Bool.and_eq_true, decide_eq_true_eq, List.length_eq_zero_iff] at h
    exact ⟨fun _ => by omega, fun _ => by omega, fun _ => ⟨h.1.1.1, h.1.1.2, h.1.2, h.2⟩, fun _ => by omega, fun _ => by omega, by omega, by omega⟩
  rw [if_neg h5] at h
  by_cases h7 : k = 7
  · rw [if_pos h7] at h
    simp only [Bool.and_eq_true, decide_eq_true_eq, List.length_eq_zero_iff] at h
    exact ⟨fun _ => by omega, fun _ => by omega, fun _ => by omega, fun _ => h, fun _ => by omega, by omega, by omega⟩
  rw [if_neg h7] at h
  by_cases h8 : 8 ≤ k ∧ k ≤ 12
  · rw [if_pos h8] at h
    simp only [Bool.and_eq_true, decide_eq_true_eq] at h
    refine ⟨fun _ => by omega, fun _ => by omega, fun _ => by omega, fun _ => by omega, fun _ => ⟨h.1, ?_⟩, by omega, by omega⟩
    have hs := h.2
    rcases sub with _ | ⟨q, _ | ⟨q2, l⟩⟩
    · cases hs
    · simp only [subShape, Bool.and_eq_true, decide_eq_true_eq] at hs
      exact ⟨q, rfl, hs⟩
    · cases hs
  · rw [if_neg h8] at h
    cases h

/-- A well-formed expression has the shape that its kind needs. -/
theorem shape_of_valid {e : Ex} (h : validP e = true) : shapeP e.kind e.op e.args.length e.sub = true := by
  rw [validP_eq] at h
  unfold shapeP
  by_cases h1 : e.kind = 1
  · rw [if_pos h1] at h
    simp only [Bool.and_eq_true, decide_eq_true_eq] at h
    rw [if_pos (.inl h1), h.1.1.1.2, h.1.1.2]
    rfl
  rw [if_neg h1] at h
  by_cases h2 : e.kind = 2
  · rw [if_pos h2] at h
    simp only [Bool.and_eq_true, decide_eq_true_eq] at h
    rw [if_pos (.inr h2), h.1.1.2, h.1.2]
    rfl
  rw [if_neg h2] at h
  rw [if_neg (by omega : ¬(e.kind = 1 ∨ e.kind = 2))]
  by_cases h8 : 8 ≤ e.kind ∧ e.kind ≤ 12
  · rw [if_pos h8] at h
    simp only [Bool.and_eq_true, decide_eq_true_eq] at h
    rw [if_neg (by omega), if_neg (by omega), if_neg (by omega), if_pos h8, h.1.1.2]
    have hl := h.1.2
    have hv := h.2
    obtain ⟨q, hq⟩ := List.length_eq_one_iff.1 hl
    rw [hq] at hv ⊢
    obtain ⟨st, it, f, wh⟩ := q
    rw [validS] at hv
    simp only [Bool.and_eq_true, decide_eq_true_eq] at hv
    simp only [subShape, Bool.and_eq_true, decide_eq_true_eq]
    exact ⟨trivial, hv.1.1.1.1.1.2, hv.1.1.1.2⟩
  rw [if_neg h8] at h
  by_cases h5 : e.kind = 5
  · rw [if_pos h5] at h
    simp only [Bool.and_eq_true, decide_eq_true_eq] at h
    rw [if_neg (by omega), if_pos h5]
    simp only [Bool.and_eq_true, decide_eq_true_eq]
    exact ⟨⟨⟨h.1.1.1.1.1.1.1, h.1.1.1.1.1.1.2⟩, h.1.2⟩, h.1.1.2⟩
  rw [if_neg h5] at h
  by_cases h6 : e.kind = 6
  · rw [if_pos h6] at h
    simp only [Bool.and_eq_true, decide_eq_true_eq] at h
    rw [if_pos (by omega), h.1.1.2, h.1.2]
    rfl
  rw [if_neg h6] at h
  simp only [Bool.and_eq_true, decide_eq_true_eq] at h
  have hl := h.1.2
  by_cases h3 : e.kind = 3 ∨ e.kind = 4
  · rw [if_pos h3] at hl
    rw [if_pos (by omega), h.1.1.2, show e.args.length = 1 by omega]
    rfl
  · rw [if_neg h3] at hl
    by_cases h7 : e.kind = 7
    · rw [if_pos h7] at hl
      rw [if_neg (by omega), if_neg (by omega), if_pos h7, h.1.1.2, show e.args.length = 3 by omega]
      rfl
    · rw [if_neg h7] at hl
      omega

theorem valid_op {e : Ex} (h : validP e = true) : (e.kind ≠ 5 → e.op = 0) ∧ (e.kind ≠ 6 → e.no = false) := by
  rw [validP_eq] at h
  by_cases h1 : e.kind = 1
  · rw [if_pos h1] at h
    simp only [Bool.and_eq_true, decide_eq_true_eq, Bool.not_eq_true'] at h
    exact ⟨fun _ => h.1.1.1.1.1.1, fun _ => h.1.1.1.1.1.2⟩
  rw [if_neg h1] at h
  by_cases h2 : e.kind = 2
  · rw [if_pos h2] at h
    simp only [Bool.and_eq_true, decide_eq_true_eq, Bool.not_eq_true'] at h
    exact ⟨fun _ => h.1.1.1.1.1, fun _ => h.1.1.1.1.2⟩
  rw [if_neg h2] at h
  by_cases h8 : 8 ≤ e.kind ∧ e.kind ≤ 12
  · rw [if_pos h8] at h
    simp only [Bool.and_eq_true, decide_eq_true_eq, Bool.not_eq_true'] at h
    exact ⟨fun _ => h.1.1.1.1.1.1, fun _ => h.1.1.1.1.1.2⟩
  rw [if_neg h8] at h
  by_cases h5 : e.kind = 5
  · rw [if_pos h5] at h
    simp only [Bool.and_eq_true, decide_eq_true_eq, Bool.not_eq_true'] at h
    exact ⟨fun h => absurd h5 h, fun _ => h.1.1.1.1.1.2⟩
  rw [if_neg h5] at h
  by_cases h6 : e.kind = 6
  · rw [if_pos h6] at h
    simp only [Bool.and_eq_true, decide_eq_true_eq] at h
    exact ⟨fun _ => h.1.1.1.1.1, fun h => absurd h6 h⟩
  rw [if_neg h6] at h
  simp only [Bool.and_eq_true, decide_eq_true_eq, Bool.not_eq_true'] at h
  exact ⟨fun _ => h.1.1.1.1.1.1, fun _ => h.1.1.1.1.1.2⟩

theorem b_no {b : Bool} (h : b = true → False) : b = false := by cases b; rfl; exact absurd rfl h

/-- What ValidExpr answers, once shape, operator and negation stand. -/
theorem valid_lit {e : Ex} (hs : shapeP e.kind e.op e.args.length e.sub = true) (ho : e.op = 0) (hn : e.no = false) (hk : e.kind = 1) :
    validP e = (validV e.val && !(decide (e.val.kind = 1) && decide (e.val.int < 0)) && (noText e.table && noText e.name)) := by
  obtain ⟨ha, hq⟩ := (shape_facts hs).1 (.inl hk)
  rw [validP_eq, if_pos hk, ho, hn, ha, hq, nameZ]
  simp only [List.length_nil, decide_true, Bool.not_false, Bool.true_and, Bool.and_true]
  rw [Bool.and_assoc, Bool.and_comm]
theorem column_eq (t n : ByteArray) : columnB t n = ((noText t || sourceB t || t.toList == [78, 69, 87] || t.toList == [79, 76, 68]) && nameB n) := by
  unfold columnB sourceB noText
  rw [show (t.toList == []) = t.toList.isEmpty by cases t.toList <;> rfl]
  cases t.toList.isEmpty <;> cases (t.toList == [78, 69, 87]) <;> cases (t.toList == [79, 76, 68]) <;> cases (t.toList == kwIns) <;> cases (t.toList == kwDel) <;> cases nameB t <;> rfl
theorem valid_col {e : Ex} (hs : shapeP e.kind e.op e.args.length e.sub = true) (ho : e.op = 0) (hn : e.no = false) (hk : e.kind = 2) :
    validP e = ((noText e.table || sourceB e.table || e.table.toList == [78, 69, 87] || e.table.toList == [79, 76, 68]) && nameB e.name && valZ e.val) := by
  obtain ⟨ha, hq⟩ := (shape_facts hs).1 (.inr hk)
  rw [validP_eq, if_neg (by omega), if_pos hk, ho, hn, ha, hq, ← column_eq]
  simp only [List.length_nil, decide_true, Bool.not_false, Bool.true_and, Bool.and_true]
  rw [Bool.and_comm]
theorem valid_ops {e : Ex} (hs : shapeP e.kind e.op e.args.length e.sub = true) (ho : e.kind ≠ 5 → e.op = 0) (hn : e.kind ≠ 6 → e.no = false) (hk : 3 ≤ e.kind ∧ e.kind ≤ 7) :
    validP e = ((valZ e.val && nameZ e.table e.name) && validL e.args) := by
  obtain ⟨_, f3, f5, f7, _, _, _⟩ := shape_facts hs
  rw [validP_eq, if_neg (by omega), if_neg (by omega), if_neg (by omega)]
  by_cases h5 : e.kind = 5
  · obtain ⟨o1, o2, a2, s0⟩ := f5 h5
    rw [if_pos h5, hn (by omega), a2, s0]
    simp only [List.length_nil, decide_true, Bool.not_false, Bool.true_and, Bool.and_true, decide_eq_true o1, decide_eq_true o2]
  · rw [if_neg h5]
    by_cases h6 : e.kind = 6
    · obtain ⟨a2, s0⟩ := f3 (by omega)
      rw [if_pos h6, ho h5, a2, s0]
      simp only [List.length_nil, decide_true, Bool.true_and, Bool.and_true]
    · rw [if_neg h6, ho h5, hn h6]
      by_cases h7 : e.kind = 7
      · obtain ⟨a2, s0⟩ := f7 h7
        rw [a2, s0, if_neg (by omega), if_pos h7, show decide (((3 : Nat) : Int) = 3) = true from rfl]
        simp only [List.length_nil, decide_true, Bool.not_false, Bool.true_and, Bool.and_true]
      · obtain ⟨a2, s0⟩ := f3 (by omega)
        rw [a2, s0, if_pos (by omega), show decide (((1 : Nat) : Int) = 1) = true from rfl]
        simp only [List.length_nil, decide_true, Bool.not_false, Bool.true_and, Bool.and_true]
theorem valid_query {e : Ex} {q : Qu} (hs : shapeP e.kind e.op e.args.length e.sub = true) (ho : e.op = 0) (hn : e.no = false) (hk : 8 ≤ e.kind ∧ e.kind ≤ 12) (hq : e.sub = [q]) :
    validP e = ((valZ e.val && nameZ e.table e.name) && ((q.star == decide (e.kind = 8)) && (sourceB q.frm && validL q.items && validL q.whr))) := by
  obtain ⟨ha, q', hq', hi, hw⟩ := (shape_facts hs).2.2.2.2.1 hk
  rw [hq] at hq'
  cases hq'
  rw [validP_eq, if_neg (by omega), if_neg (by omega), if_pos hk, ho, hn, ha, hq]
  obtain ⟨st, it, f, wh⟩ := q
  simp only [validS]
  replace hi : it.length = (if e.kind = 8 ∨ e.kind = 9 then 0 else 1) := hi
  replace hw : wh.length ≤ 1 := hw
  rw [decide_eq_true hi, decide_eq_true hw]
  show _ = (_ && ((st == decide (e.kind = 8)) && (sourceB f && validL it && validL wh)))
  simp only [List.length_singleton, decide_true, Bool.not_false, Bool.true_and, Bool.and_true, Bool.and_assoc]

set_option maxRecDepth 100000 in
theorem rvexpr_any {M : Nat → Prop} (e : Ex) : RexOk M e := by
  refine Ex.ind (P := RexOk M) (fun e hargs hsub => ?_) e
  intro cs w he htx
  have he0 := he
  obtain ⟨va, vs, rfl, ha, hs⟩ := (EC_iff ..).1 he
  obtain ⟨hv, ht, hn, hta, htf, hti, htw⟩ : e.val.text.size ≤ maxLen ∧ e.table.size ≤ maxLen ∧ e.name.size ≤ maxLen ∧ (∀ a ∈ e.args, TxtOk a) ∧ (∀ q ∈ e.sub, q.frm.size ≤ maxLen) ∧ (∀ q ∈ e.sub, ∀ x ∈ q.items, TxtOk x) ∧ (∀ q ∈ e.sub, ∀ x ∈ q.whr, TxtOk x) := by
    cases htx
    exact ⟨by assumption, by assumption, by assumption, by assumption, by assumption, by assumption, by assumption⟩
  have hx : ∀ wx, Below w.heap.size w wx → ExsR M wx va e.args := fun wx kb => RowsR.map ha (Keep.bel kb) fun x _ cs h => EC.keep (.bel kb) x cs h
  have hsh0 := fun wx (kb : Below w.heap.size w wx) => rshape_any (M := M) e _ wx (EC.keep (M := M) (.bel kb) e _ he0)
  obtain ⟨a, ac, rfl, _⟩ := ha.shape
  obtain ⟨s, sc, rfl, _⟩ := hs.shape
  have hsh : ∀ wx, Below w.heap.size w wx → Calls Tryz.prog 165 #[.agg #[.int .i64 e.kind, .int .i64 e.op, .bool e.no, .int .i64 e.val.kind, .int .i64 e.val.int, .string e.val.text, .string e.table, .string e.name, .slice a e.args.length ac, .slice s e.sub.length sc]] wx (RetBel (.bool (shapeP e.kind e.op e.args.length e.sub)) wx) := hsh0
  have hp := fun wx => rplain_any e.kind e.op e.no e.val.kind e.val.int e.val.text e.table e.name (.slice a e.args.length ac) (.slice s e.sub.length sc) wx
  have hl := fun wx kb => rall_any (M := M) e.args hargs hta _ wx (hx wx kb)
  show Calls _ _ #[.agg #[.int .i64 e.kind, .int .i64 e.op, .bool e.no, .int .i64 e.val.kind, .int .i64 e.val.int, .string e.val.text, .string e.table, .string e.name, .slice a e.args.length ac, .slice s e.sub.length sc]] w _
  cases hS : shapeP e.kind e.op e.args.length e.sub with
  | false =>
    rw [hS] at hsh
    rw [b_no (b := validP e) fun h => by rw [shape_of_valid h] at hS; cases hS]
    exact rv_bad1 _ _ _ _ _ _ _ _ _ _ _ _ _ _ w hsh
  | true =>
    rw [hS] at hsh
    by_cases h5 : e.kind ≠ 5 ∧ e.op ≠ 0
    · rw [b_no (b := validP e) fun h => h5.2 ((valid_op h).1 h5.1)]
      exact rv_bad2 _ _ _ _ _ _ _ _ _ _ _ _ _ _ w hsh h5.1 h5.2
    have ho : e.kind ≠ 5 → e.op = 0 := fun h => by
      by_cases h0 : e.op = 0
      · exact h0
      · exact absurd ⟨h, h0⟩ h5
    by_cases h6 : e.kind ≠ 6 ∧ e.no = true
    · rw [b_no (b := validP e) fun h => by rw [(valid_op h).2 h6.1] at h6; cases h6.2]
      refine rv_bad3 _ _ _ _ _ _ _ _ _ _ _ _ _ _ w hsh ?_ h6.1 h6.2
      by_cases h : e.kind = 5
      · exact .inl h
      · exact .inr (ho h)
    have hno : e.kind ≠ 6 → e.no = false := fun h => by
      cases h0 : e.no with
      | false => rfl
      | true => exact absurd ⟨h, h0⟩ h6
    obtain ⟨f1, f3, f5, f7, f8, g1, g2⟩ := shape_facts hS
    by_cases k1 : e.kind = 1
    · rw [valid_lit hS (ho (by omega)) (hno (by omega)) k1]
      exact rv_lit _ _ _ _ _ _ _ _ _ _ _ _ _ _ w hsh ⟨k1, ho (by omega), hno (by omega)⟩ _ (fun wx => rvalid_any e.val wx hv)
    by_cases k2 : e.kind = 2
    · rw [valid_col hS (ho (by omega)) (hno (by omega)) k2]
      exact rv_col _ _ _ _ _ _ _ _ _ _ _ _ _ _ w hsh ⟨k2, ho (by omega), hno (by omega)⟩ _ _ _ rfl (fun wx => rsrc_any e.table wx ht) (fun wx => rvalidName_any e.name wx hn)
    by_cases k8 : 8 ≤ e.kind
    · obtain ⟨a0, q, hq, _, _⟩ := f8 ⟨k8, g2⟩
      have hqm : q ∈ e.sub := by rw [hq]; exact List.mem_singleton.2 rfl
      rw [valid_query hS (ho (by omega)) (hno (by omega)) ⟨k8, g2⟩ hq]
      have hl0 : validL e.args = true := by rw [List.eq_nil_of_length_eq_zero a0]; simp [validL]
      rw [hl0] at hl
      rw [hq] at hs
      rcases hs.open with ⟨_, h⟩ | ⟨ab, ao, cap, hv', _, hab, _, _, hx'⟩
      · cases h
      obtain ⟨cs, hc, _, hcs⟩ := hx' 0 _ rfl
      obtain ⟨vi', vw, rfl, hvi, hvw⟩ := (QC_iff ..).1 hc
      have hi := fun wx (kb : Below w.heap.size w wx) => rall_any (M := M) q.items (hsub q hqm).1 (hti q hqm) vi' wx (RowsR.map hvi (Keep.bel kb) fun x _ cs h => EC.keep (.bel kb) x cs h)
      have hw := fun wx (kb : Below w.heap.size w wx) => rall_any (M := M) q.whr (hsub q hqm).2 (htw q hqm) vw wx (RowsR.map hvw (Keep.bel kb) fun x _ cs h => EC.keep (.bel kb) x cs h)
      obtain ⟨ia, iac, rfl, _⟩ := hvi.shape
      obtain ⟨wa, wac, rfl, _⟩ := hvw.shape
      rw [Nat.zero_mul, Nat.add_zero] at hcs
      obtain ⟨c0, c1, c2, c3⟩ := hcs.c4
      simp only [Value.slice.injEq] at hv'
      obtain ⟨hs', hn', _⟩ := hv'
      have hsn : e.sub.length = 1 := by rw [hq]; rfl
      have hrs := fun wx => rsrc_any q.frm wx (htf q hqm)
      by_cases k88 : e.kind = 8
      · rw [decide_eq_true k88]
        cases hst : q.star with
        | true =>
          rw [hst] at c0
          have hm := rv_q8t _ _ _ _ _ _ _ _ _ _ _ _ _ _ w hsh _ _ hp hl ab ao q.star q.frm ia wa _ _ iac wac hab _ _ _ (by rw [hst]; exact c0) c1 c2 c3 hrs hi hw ⟨ho (by omega), hno (by omega), hst, hs', hsn, a0, k88⟩
          simpa using hm
        | false =>
          have hm := rv_q8f _ _ _ _ _ _ _ _ _ _ _ _ _ _ w hsh _ _ hp hl ab ao q.star q.frm ia wa _ _ iac wac hab _ _ _ c0 c1 c2 c3 hrs hi hw ⟨ho (by omega), hno (by omega), hst, hs', hsn, a0, k88⟩
          simpa using hm
      · rw [decide_eq_false k88]
        have e1 : (e.kind == 1) = false := by simp; omega
        have e2 : (e.kind == 2) = false := by simp; omega
        have e5 : (e.kind != 5) = true := by simp; omega
        have e6 : (e.kind != 6) = true := by simp; omega
        have e8 : (e.kind == 8) = false := by simp; omega
        cases hst : q.star with
        | true =>
          have hm := rv_q9t _ _ _ _ _ _ _ _ _ _ _ _ _ _ w hsh _ _ hp hl ab ao q.star q.frm ia wa _ _ iac wac hab _ _ _ c0 c1 c2 c3 hrs hi hw ⟨ho (by omega), hno (by omega), hst, hs', hsn, a0⟩ e1 e2 e5 e6 e8
          simpa using hm
        | false =>
          have hm := rv_q9f _ _ _ _ _ _ _ _ _ _ _ _ _ _ w hsh _ _ hp hl ab ao q.star q.frm ia wa _ _ iac wac hab _ _ _ c0 c1 c2 c3 hrs hi hw ⟨ho (by omega), hno (by omega), hst, hs', hsn, a0⟩ e1 e2 e5 e6 e8
          simpa using hm
    · have s0 : e.sub.length = 0 := by
        by_cases k5 : e.kind = 5
        · rw [(f5 k5).2.2.2]; rfl
        · by_cases k7 : e.kind = 7
          · rw [(f7 k7).2]; rfl
          · rw [(f3 (by omega)).2]; rfl
      rw [valid_ops hS ho hno (by omega)]
      by_cases k5 : e.kind = 5
      · exact rv_opsA _ _ _ _ _ _ _ _ _ _ _ _ _ _ w hsh ⟨k5, hno (by omega), s0⟩ _ _ hp hl
      by_cases k6 : e.kind = 6
      · exact rv_opsB _ _ _ _ _ _ _ _ _ _ _ _ _ _ w hsh ⟨k6, ho k5, s0⟩ _ _ hp hl
      exact rv_opsC _ _ _ _ _ _ _ _ _ _ _ _ _ _ w hsh (by simp; omega) (by simp; omega) (by simpa using k5) (by simpa using k6) ⟨ho k5, hno k6, s0⟩ _ _ hp hl
end Go.Proofs.YtpnigfmclmfjaaaGreatDoor
