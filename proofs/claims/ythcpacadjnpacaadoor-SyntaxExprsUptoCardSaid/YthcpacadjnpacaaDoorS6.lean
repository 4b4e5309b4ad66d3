/- Levels in the reference: LevelsOf over arguments. -/
import Derived.Test.YthcpacadjnpacaaDoorS5
namespace Go.Proofs.YthcpacadjnpacaaDoor
open Go.RowKit

set_option maxRecDepth 100000 in
set_option maxHeartbeats 10000000 in
theorem rlev_args {M : Nat → Prop} (k o : Int) (no : Bool) (vk vi : Int) (tx t nm : ByteArray) (va : Value) (s : Option Addr) (sc : Nat) (args : List Ex) (w : World) (hkk : k = 5 → args.length ≤ 2)
    (hall : ∀ e ∈ args, RlvOk M e) (hok : ∀ e ∈ args, validP e = true) (hlen : args.length ≤ 1000000) (hmax : levA k o 0 args ≤ 1000000000) (h : ExsR M w va args) (up : Nat) (hup : (k = 3 ∨ k = 4) ∧ up = 1 ∨ ¬(k = 3 ∨ k = 4) ∧ up = 0) :
    Calls Tryd.prog 47 #[.agg #[.int .i64 k, .int .i64 o, .bool no, .int .i64 vk, .int .i64 vi, .string tx, .string t, .string nm, va, .slice s 0 sc]] w (RetBel (.int .i64 ((levA k o 0 args + up : Nat))) w) := by
  obtain ⟨a, c, rfl, _⟩ := h.shape
  have HA := Lib.hid h
  have HALL := Lib.hid hall
  have HOK := Lib.hid hok
  have HMAX := Lib.hid hmax
  have HUP := Lib.hid hup
  have HKK := Lib.hid hkk
  clear h hall hok hmax hup hkk
  go_enter Tryd.func47, Tryd.ntmps47
  go_wp2_with fail
  generalize hW : World.alloc w _ = W1
  have hk0 : W1.heap[w.heap.size]? = some (.cells #[.int .i64 k, .int .i64 o, .bool no, .int .i64 vk, .int .i64 vi, .string tx, .string t, .string nm, .slice a args.length c, .slice s 0 sc] 27 (0, 0)) := by rw [← hW]; exact heap_alloc_new w _
  have hb1 : Below w.heap.size w W1 := by rw [← hW]; exact (Below.refl _ _).alloc (Nat.le_refl _) _
  have hz : w.heap.size < W1.heap.size := by rw [← hW]; simp
  have HQ : Hid (∀ wx, Below W1.heap.size W1 wx → _) := Lib.hid fun wx hb => blk10 ((hb.block w.heap.size hz).trans hk0)
  have HB1 := Lib.hid hb1
  clear hW hb1 hk0
  go_loopw [3, 12] (fun m i wr => ∃ j : Nat, j ≤ args.length ∧ i = .int .i64 j ∧ m = .int .i64 (levA k o 0 (args.take j)) ∧ Below W1.heap.size W1 wr) (fun _ i _ => args.length - (intOf i).toNat)
  case atStart => exact ⟨0, Nat.zero_le _, rfl, by simp [levA], Below.refl _ _⟩
  case round =>
    rename World => wr
    obtain ⟨j, hj, rfl, rfl, hbel⟩ := hrel
    have HBE := Lib.hid hbel
    have HBW := Lib.hid (HB1.out.trans (hbel.mono (Nat.le_of_lt hz)))
    by_cases hlt : j < args.length
    · rcases HA.out.open with ⟨_, h⟩ | ⟨ab, ao, cap', hv', _, hab, _, _, hx⟩
      · rw [h] at hlt; simp at hlt
      simp only [Value.slice.injEq] at hv'
      obtain ⟨rfl, _, rfl⟩ := hv'
      have hxj : args[j]? = some args[j] := List.getElem?_eq_getElem hlt
      obtain ⟨cs, hc, _, hcs⟩ := hx j _ hxj
      have hmem := List.mem_of_getElem? hxj
      have htk := levA_take (k := k) (o := o) hxj
      have hq6 : levA k o 0 (args.take j) ≤ 1000000000 := Nat.le_trans (levA_take_le ..) HMAX.out
      have hle := Nat.le_trans (levA_le (k := k) (o := o) (i := 0) hmem) HMAX.out
      have hlr : leastR k o j = leastP k o j := leastR_eq fun h5 => by have := HKK.out h5; omega
      generalize args[j] = x at hxj hc hmem htk hle
      have hcs0 : ∀ wx, Below w.heap.size w wx → CellsAt wx ab (ao + j * 10) cs := fun wx kb => hcs.keep (M := NoM) (Keep.bel kb) id
      have hlx := fun wx (kb : Below w.heap.size w wx) => HALL.out x hmem cs wx (EC.keep (M := M) (.bel kb) x cs hc) (HOK.out x hmem) hle
      obtain ⟨xva, xvs, rfl, hva, hvs⟩ := (EC_iff ..).1 hc
      obtain ⟨xa, xac, rfl, _⟩ := hva.shape
      obtain ⟨xs, xsc, rfl, _⟩ := hvs.shape
      have hcs1 := fun wx kb => CellsAt.c10 (hcs0 wx kb)
      simp only [exCells] at hlx
      rw [← hlr] at htk
      generalize levP x = lx at hlx htk hle
      generalize x.args.length = xal at hlx hcs1
      generalize x.sub.length = xsl at hlx hcs1
      generalize x.kind = xk at hlx hcs1 htk
      generalize x.op = xo at hlx hcs1 htk
      generalize x.no = xn at hlx hcs1
      generalize x.val.kind = xvk at hlx hcs1
      generalize x.val.int = xvi at hlx hcs1
      generalize x.val.text = xvt at hlx hcs1
      generalize x.table = xt at hlx hcs1
      generalize x.name = xnm at hlx hcs1
      generalize levA k o 0 (args.take j) = mq at htk hq6 ⊢
      have hwr := fun (wx : World) (kb : Below w.heap.size w wx) => rwrapped_any k o no vk vi tx t nm ab ao args.length c (.slice s 0 sc) j xk xo xn xvk xvi xvt xt xnm (.slice xa xal xac) (.slice xs xsl xsc) wx hlt (by omega) (Nat.lt_of_lt_of_le hab kb.size) ⟨(hcs1 wx kb).1, (hcs1 wx kb).2.1, (hcs1 wx kb).2.2.1, (hcs1 wx kb).2.2.2.1, (hcs1 wx kb).2.2.2.2.1, (hcs1 wx kb).2.2.2.2.2.1, (hcs1 wx kb).2.2.2.2.2.2.1, (hcs1 wx kb).2.2.2.2.2.2.2.1, (hcs1 wx kb).2.2.2.2.2.2.2.2.1, (hcs1 wx kb).2.2.2.2.2.2.2.2.2⟩
      generalize precP xk xo = p at hwr htk
      generalize leastR k o j = q at hwr htk
      obtain ⟨c0, c1, c2, c3, c4, c5, c6, c7, c8, c9⟩ := hcs1 wr HBW.out
      have HLX := Lib.hid hlx
      have HLT := Lib.hid hlt
      have i0 : (0 : Int) ≤ (j : Int) := by omega
      have i1 : (j : Int) < (args.length : Int) := by omega
      clear hlx hx hc hcs hcs0 hcs1 hva hvs hxj hmem hbel hlr
      by_cases hpq : p < q
      · rw [if_pos hpq] at htk
        have HTK := Lib.hid htk
        rw [decide_eq_true hpq] at hwr
        have HWR := Lib.hid hwr
        clear htk hwr
        go_wp2_with fail
        refine (HLX.out _ (HBW.out.alloc HBW.out.size _)).mono ?_
        rintro e w2 ⟨rfl, hb⟩
        have HB2 := Lib.hid ((HBE.out.alloc HBE.out.size _).trans (hb.mono (by have := HBE.out.size; simp; omega)))
        clear hb c0 c1 c2 c3 c4 c5 c6 c7 c8 c9
        obtain ⟨y0, y1, y2, y3, y4, y5, y6, y7, y8, y9, yf, yz⟩ := HQ.out _ HB2.out
        dsimp only
        go_wp2_with fail
        refine (HWR.out _ (HB1.out.trans (HB2.out.mono (Nat.le_of_lt hz)))).mono ?_
        rintro e w3 ⟨rfl, hb⟩
        have HB3 := Lib.hid (HB2.out.trans (hb.mono HB2.out.size))
        clear hb y0 y1 y2 y3 y4 y5 y6 y7 y8 y9 yf
        dsimp only
        go_wp2_with fail
        go_roundw
        case rel =>
          have hlt2 := HLT.out
          exact ⟨j + 1, by omega, by go_num, by rw [HTK.out]; congr 1; omega, HB3.out⟩
        case measure =>
          have hlt2 := HLT.out
          simp [intOf]
          omega
      · rw [if_neg hpq] at htk
        have HTK := Lib.hid htk
        rw [decide_eq_false hpq] at hwr
        have HWR := Lib.hid hwr
        clear htk hwr
        go_wp2_with fail
        refine (HLX.out _ (HBW.out.alloc HBW.out.size _)).mono ?_
        rintro e w2 ⟨rfl, hb⟩
        have HB2 := Lib.hid ((HBE.out.alloc HBE.out.size _).trans (hb.mono (by have := HBE.out.size; simp; omega)))
        clear hb c0 c1 c2 c3 c4 c5 c6 c7 c8 c9
        obtain ⟨y0, y1, y2, y3, y4, y5, y6, y7, y8, y9, yf, yz⟩ := HQ.out _ HB2.out
        dsimp only
        go_wp2_with fail
        refine (HWR.out _ (HB1.out.trans (HB2.out.mono (Nat.le_of_lt hz)))).mono ?_
        rintro e w3 ⟨rfl, hb⟩
        have HB3 := Lib.hid (HB2.out.trans (hb.mono HB2.out.size))
        clear hb y0 y1 y2 y3 y4 y5 y6 y7 y8 y9 yf
        dsimp only
        go_wp2_with fail
        go_roundw
        case rel =>
          have hlt2 := HLT.out
          exact ⟨j + 1, by omega, by go_num, by rw [HTK.out]; congr 1; omega, HB3.out⟩
        case measure =>
          have hlt2 := HLT.out
          simp [intOf]
          omega
    · obtain rfl : j = args.length := by omega
      rw [List.take_length]
      have hn : levA k o 0 args ≤ 1000000000 := HMAX.out
      obtain ⟨y0, y1, y2, y3, y4, y5, y6, y7, y8, y9, yf, yz⟩ := HQ.out _ HBE.out
      clear hbel
      rcases HUP.out with ⟨rfl | rfl, rfl⟩ | ⟨hk, rfl⟩
      · go_wp2_with fail
        refine wp_loop_rounds 1 ?_
        rw [rounds_succ]
        go_wp2_with fail
        go_ret
        exact ⟨by go_num, HBW.out⟩
      · go_wp2_with fail
        refine wp_loop_rounds 1 ?_
        rw [rounds_succ]
        go_wp2_with fail
        go_ret
        exact ⟨by go_num, HBW.out⟩
      · have b3 : (k == 3) = false := by simp; omega
        have b4 : (k == 4) = false := by simp; omega
        clear hk
        go_wp2_with fail
        refine wp_loop_rounds 1 ?_
        rw [rounds_succ]
        go_wp2_with fail
        go_ret
        exact ⟨by simp, HBW.out⟩
end Go.Proofs.YthcpacadjnpacaaDoor
