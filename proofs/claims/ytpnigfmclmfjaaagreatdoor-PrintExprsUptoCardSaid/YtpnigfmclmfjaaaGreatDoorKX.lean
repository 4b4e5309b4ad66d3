/- The operator's text, and the contract of argument over what expr writes. What where and from write, over what expr writes. What inner writes, over what expr writes. What expr writes, for every well-formed expression. The text of the words: contract of the writer's text. -/
import Derived.Test.YtpnigfmclmfjaaaGreatDoorX2
import Derived.Test.YtpnigfmclmfjaaaGreatDoorKQ
import Derived.Test.YtpnigfmclmfjaaaGreatDoorKL
import Derived.Test.YtpnigfmclmfjaaaGreatDoorKD2
import Derived.Test.YtpnigfmclmfjaaaGreatDoorKV2
import Derived.Test.YtpnigfmclmfjaaaGreatDoorSB
import Derived.Deep.RegionHeld3
namespace Go.Proofs.YtpnigfmclmfjaaaGreatDoor
open Go.RowKit

theorem wm_old {lo b : Nat} {w W : World} {xs : List ByteArray} (h : WrR lo b w xs) (k : Below w.heap.size w W) {S : Nat} (hS : w.heap.size ≤ S) : ¬ WM b W S := fun hm => by
  have := h.wm_lt ((WM.bel h k S).1 hm)
  omega
theorem ec_wst {lo b : Nat} {w0 w1 : World} {xs : List ByteArray} {e : Ex} {cs : List Value} (h : EC (WM b w0) w0 e cs) (k : WSt lo b w0 w1 xs) : EC (WM b w1) w1 e cs := by
  have h1 : EC (fun i => WM b w0 i ∨ w0.heap.size ≤ i) w0 e cs := EC.weak (fun i hi hh => hh.resolve_right (by omega)) _ _ h
  have h2 := EC.keep (k.keep.weak fun i _ hh => Or.inl hh) _ _ h1
  exact EC.weak (fun i hi hh => by
    by_cases hlt : i < w0.heap.size
    · exact .inl (k.inc i hlt hh)
    · exact .inr (by omega)) _ _ h2
theorem lib_wst {lo b : Nat} {w0 w1 : World} {xs ys : List ByteArray} (h : LibOk w0) (hb : 10 < b) (h0 : WrR lo b w0 ys) (k : WSt lo b w0 w1 xs) : LibOk w1 :=
  h.keep k.keep (fun i hi hm => by
    rcases h0.wm hm with rfl | h'
    · omega
    · have := h0.1
      omega) (by have := h0.lt; omega)

/-- What expr writes. -/
def WexOk (e : Ex) : Prop := ∀ (lo b : Nat) (cs : List Value) (xs : List ByteArray) (w : World), WrR lo b w xs → EC (WM b w) w e cs → LibOk w → 10 < b → xs.length + (wordsP e).length ≤ 1000000000 →
  Calls Tryz.prog 72 #[.pointer (some ⟨b, 0, none⟩), .agg cs.toArray] w (WPost lo b w (xs ++ wordsP e))

theorem flat_strs : ∀ ys : List ByteArray, (ys.map fun y => [Value.string y]).flatten = ys.map Value.string
  | [] => rfl
  | y :: l => by rw [List.map_cons, List.flatten_cons, flat_strs l]; rfl
theorem rows_strs {w : World} {arr : Array Value} {g n : Nat} (ys : List ByteArray) (hg : g = w.heap.size) (ha : arr.toList = ys.map Value.string) (hn : n = ys.length) (hm : n ≤ 1000) (t : TypeId) : RowsR (fun _ => False) (w.alloc (.cells arr t)) 1 StrR (.slice (some ⟨g, 0, none⟩) n n) ys := by
  subst hn
  refine RowsR.new (ys.map fun y => [Value.string y]) hg id (by rw [ha, flat_strs]) (by simp) (by simp) (by simp) (by unfold maxLen; omega) (by simp) fun i y cs hi hc => ?_
  simp only [List.getElem?_map, hi, Option.map_some, Option.some.injEq] at hc
  exact hc.symm

def ops14 : Array Value := #[.string ⟨#[]⟩, .string ⟨#[79, 82]⟩, .string ⟨#[65, 78, 68]⟩, .string ⟨#[61]⟩, .string ⟨#[60, 62]⟩, .string ⟨#[60]⟩, .string ⟨#[60, 61]⟩, .string ⟨#[62]⟩, .string ⟨#[62, 61]⟩, .string ⟨#[43]⟩, .string ⟨#[45]⟩, .string ⟨#[42]⟩, .string ⟨#[47]⟩, .string ⟨#[37]⟩]
set_option maxRecDepth 100000 in
set_option maxHeartbeats 4000000 in
theorem operator_any (o : Int) (w : World) (h1 : 1 ≤ o) (h2 : o ≤ 13) : Calls Tryz.prog 162 #[.int .i64 o] w fun e w' => e = .returned (.string (opS o)) ∧ w = w' := by
  have f1 : ∀ w : World, (Instr.index 208 (.agg ops14) (.int .i64 1)).run Tryz.prog w = .ok (.string ⟨#[79, 82]⟩) w := fun _ => by kernel_rfl
  have f2 : ∀ w : World, (Instr.index 208 (.agg ops14) (.int .i64 2)).run Tryz.prog w = .ok (.string ⟨#[65, 78, 68]⟩) w := fun _ => by kernel_rfl
  have f3 : ∀ w : World, (Instr.index 208 (.agg ops14) (.int .i64 3)).run Tryz.prog w = .ok (.string ⟨#[61]⟩) w := fun _ => by kernel_rfl
  have f4 : ∀ w : World, (Instr.index 208 (.agg ops14) (.int .i64 4)).run Tryz.prog w = .ok (.string ⟨#[60, 62]⟩) w := fun _ => by kernel_rfl
  have f5 : ∀ w : World, (Instr.index 208 (.agg ops14) (.int .i64 5)).run Tryz.prog w = .ok (.string ⟨#[60]⟩) w := fun _ => by kernel_rfl
  have f6 : ∀ w : World, (Instr.index 208 (.agg ops14) (.int .i64 6)).run Tryz.prog w = .ok (.string ⟨#[60, 61]⟩) w := fun _ => by kernel_rfl
  have f7 : ∀ w : World, (Instr.index 208 (.agg ops14) (.int .i64 7)).run Tryz.prog w = .ok (.string ⟨#[62]⟩) w := fun _ => by kernel_rfl
  have f8 : ∀ w : World, (Instr.index 208 (.agg ops14) (.int .i64 8)).run Tryz.prog w = .ok (.string ⟨#[62, 61]⟩) w := fun _ => by kernel_rfl
  have f9 : ∀ w : World, (Instr.index 208 (.agg ops14) (.int .i64 9)).run Tryz.prog w = .ok (.string ⟨#[43]⟩) w := fun _ => by kernel_rfl
  have f10 : ∀ w : World, (Instr.index 208 (.agg ops14) (.int .i64 10)).run Tryz.prog w = .ok (.string ⟨#[45]⟩) w := fun _ => by kernel_rfl
  have f11 : ∀ w : World, (Instr.index 208 (.agg ops14) (.int .i64 11)).run Tryz.prog w = .ok (.string ⟨#[42]⟩) w := fun _ => by kernel_rfl
  have f12 : ∀ w : World, (Instr.index 208 (.agg ops14) (.int .i64 12)).run Tryz.prog w = .ok (.string ⟨#[47]⟩) w := fun _ => by kernel_rfl
  have f13 : ∀ w : World, (Instr.index 208 (.agg ops14) (.int .i64 13)).run Tryz.prog w = .ok (.string ⟨#[37]⟩) w := fun _ => by kernel_rfl
  unfold ops14 at *
  have : o = 1 ∨ o = 2 ∨ o = 3 ∨ o = 4 ∨ o = 5 ∨ o = 6 ∨ o = 7 ∨ o = 8 ∨ o = 9 ∨ o = 10 ∨ o = 11 ∨ o = 12 ∨ o = 13 := by omega
  clear h1 h2
  rcases this with rfl | rfl | rfl | rfl | rfl | rfl | rfl | rfl | rfl | rfl | rfl | rfl | rfl
  all_goals
    go_enter Tryz.func162, Tryz.ntmps162
    go_wp2_with fail
    go_ret
    exact ⟨rfl, rfl⟩

set_option maxRecDepth 100000 in
set_option maxHeartbeats 4000000 in
theorem wargument_any (k o : Int) (no : Bool) (vk vi : Int) (tx t nm : ByteArray) (va vs : Value) (args : List Ex) (i : Nat) (x : Ex) (hi : args[i]? = some x) (hx : WexOk x) (lo b : Nat) (ws : List ByteArray) (w : World) (h : WrR lo b w ws) (hA : ExsR (WM b w) w va args) (hl : LibOk w) (hB : 10 < b) (hN : ws.length + (argW k o i x).length ≤ 1000000000) :
    Calls Tryz.prog 161 #[.pointer (some ⟨b, 0, none⟩), .agg #[.int .i64 k, .int .i64 o, .bool no, .int .i64 vk, .int .i64 vi, .string tx, .string t, .string nm, va, vs], .int .i64 i] w (WPost lo b w (ws ++ argW k o i x)) := by
  have H := Lib.hid h
  have HL := Lib.hid hl
  have HX := Lib.hid hx
  have HN := Lib.hid hN
  have hlt : i < args.length := (List.getElem?_eq_some_iff.1 hi).1
  have hbw := h.lt
  rcases hA.open with ⟨_, h0⟩ | ⟨ab, ao, cap', rfl, _, hab, _, hcm, hxx⟩
  · rw [h0] at hlt
    simp at hlt
  obtain ⟨cs, hc, _, hcs⟩ := hxx i _ hi
  have HE := Lib.hid hc
  obtain ⟨xva, xvs, rfl, hva, hvs⟩ := (EC_iff ..).1 hc
  obtain ⟨xa, xac, rfl, _⟩ := hva.shape
  obtain ⟨xs, xsc, rfl, _⟩ := hvs.shape
  obtain ⟨c0, c1, c2, c3, c4, c5, c6, c7, c8, c9⟩ := CellsAt.c10 hcs
  simp only [exCells] at HE
  have hpr := fun wx => prec_any x.kind x.op x.no x.val.kind x.val.int x.val.text x.table x.name (.slice xa x.args.length xac) (.slice xs x.sub.length xsc) wx
  have hls := fun wx => least_any k o no vk vi tx t nm (.slice (some ⟨ab, ao, none⟩) args.length cap') vs i wx
  have hag : argW k o i x = if precP x.kind x.op < leastP k o i then kOpen :: (wordsP x ++ [kShut]) else wordsP x := rfl
  rw [hag] at HN ⊢
  clear hag
  generalize precP x.kind x.op = p at hpr HN ⊢
  generalize leastP k o i = q at hls HN ⊢
  generalize hout : (if p < q then kOpen :: (wordsP x ++ [kShut]) else wordsP x) = out at HN ⊢
  have HO := Lib.hid hout
  clear hout
  have HPR := Lib.hid hpr
  have HLS := Lib.hid hls
  have i0 : (0 : Int) ≤ (i : Int) := by omega
  have i1 : (i : Int) < (args.length : Int) := by omega
  have i2 : (args.length : Int) ≤ 9223372036854775807 := by unfold maxLen at hcm; omega
  clear h hl hx hN hi hA hxx hc hcs hva hvs hpr hls
  go_enter Tryz.func161, Tryz.ntmps161
  go_upto_region 2 with fail
  generalize hW : World.alloc (World.alloc w _) _ = W
  have hS : W.heap[w.heap.size]? = some (.cells #[.int .i64 k, .int .i64 o, .bool no, .int .i64 vk, .int .i64 vi, .string tx, .string t, .string nm, .slice (some ⟨ab, ao, none⟩) args.length cap', vs] 57 (0, 0)) := by rw [← hW]; exact (heap_alloc_old _ _ (by simp)).trans (heap_alloc_new w _)
  have hS1 : W.heap[w.heap.size + 1]? = some (.cells #[.int .i64 x.kind, .int .i64 x.op, .bool x.no, .int .i64 x.val.kind, .int .i64 x.val.int, .string x.val.text, .string x.table, .string x.name, .slice xa x.args.length xac, .slice xs x.sub.length xsc] 57 (0, 0)) := by rw [← hW]; have h := heap_alloc_new (w.alloc (.cells #[.int .i64 k, .int .i64 o, .bool no, .int .i64 vk, .int .i64 vi, .string tx, .string t, .string nm, .slice (some ⟨ab, ao, none⟩) args.length cap', vs] 57)) (.cells #[.int .i64 x.kind, .int .i64 x.op, .bool x.no, .int .i64 x.val.kind, .int .i64 x.val.int, .string x.val.text, .string x.table, .string x.name, .slice xa x.args.length xac, .slice xs x.sub.length xsc] 57); rw [World.size_alloc] at h; exact h
  have hb : Below w.heap.size w W := by rw [← hW]; exact ((Below.refl _ _).alloc (Nat.le_refl _) _).alloc (by simp) _
  have hz := (Array.getElem?_eq_some_iff.1 hS1).1
  have HS1 := Lib.hid hS1
  have HBW := Lib.hid hb
  have HSQ : Hid (∀ wx : World, Below W.heap.size W wx → (wx.cell? ⟨w.heap.size, 0, none⟩ = some (.int .i64 k) ∧ wx.cell? ⟨w.heap.size, 1, none⟩ = some (.int .i64 o) ∧ wx.cell? ⟨w.heap.size, 2, none⟩ = some (.bool no) ∧ wx.cell? ⟨w.heap.size, 3, none⟩ = some (.int .i64 vk) ∧ wx.cell? ⟨w.heap.size, 4, none⟩ = some (.int .i64 vi) ∧ wx.cell? ⟨w.heap.size, 5, none⟩ = some (.string tx) ∧ wx.cell? ⟨w.heap.size, 6, none⟩ = some (.string t) ∧ wx.cell? ⟨w.heap.size, 7, none⟩ = some (.string nm) ∧ wx.cell? ⟨w.heap.size, 8, none⟩ = some (.slice (some ⟨ab, ao, none⟩) args.length cap') ∧ wx.cell? ⟨w.heap.size, 9, none⟩ = some vs) ∧
      (wx.cell? ⟨w.heap.size + 1, 0, none⟩ = some (.int .i64 x.kind) ∧ wx.cell? ⟨w.heap.size + 1, 1, none⟩ = some (.int .i64 x.op) ∧ wx.cell? ⟨w.heap.size + 1, 2, none⟩ = some (.bool x.no) ∧ wx.cell? ⟨w.heap.size + 1, 3, none⟩ = some (.int .i64 x.val.kind) ∧ wx.cell? ⟨w.heap.size + 1, 4, none⟩ = some (.int .i64 x.val.int) ∧ wx.cell? ⟨w.heap.size + 1, 5, none⟩ = some (.string x.val.text) ∧ wx.cell? ⟨w.heap.size + 1, 6, none⟩ = some (.string x.table) ∧ wx.cell? ⟨w.heap.size + 1, 7, none⟩ = some (.string x.name) ∧ wx.cell? ⟨w.heap.size + 1, 8, none⟩ = some (.slice xa x.args.length xac) ∧ wx.cell? ⟨w.heap.size + 1, 9, none⟩ = some (.slice xs x.sub.length xsc))) := Lib.hid fun wx hb => by
    obtain ⟨a0, a1, a2, a3, a4, a5, a6, a7, a8, a9, _, _⟩ := blk10 ((hb.block w.heap.size (by omega)).trans hS)
    obtain ⟨d0, d1, d2, d3, d4, d5, d6, d7, d8, d9, _, _⟩ := blk10 ((hb.block (w.heap.size + 1) hz).trans hS1)
    exact ⟨⟨a0, a1, a2, a3, a4, a5, a6, a7, a8, a9⟩, ⟨d0, d1, d2, d3, d4, d5, d6, d7, d8, d9⟩⟩
  have HBOX : Hid (∀ wx ys, WSt lo b W wx ys → wx.cell? ⟨w.heap.size + 1, 0, none⟩ = some (.int .i64 x.kind) ∧ wx.cell? ⟨w.heap.size + 1, 1, none⟩ = some (.int .i64 x.op) ∧ wx.cell? ⟨w.heap.size + 1, 2, none⟩ = some (.bool x.no) ∧ wx.cell? ⟨w.heap.size + 1, 3, none⟩ = some (.int .i64 x.val.kind) ∧ wx.cell? ⟨w.heap.size + 1, 4, none⟩ = some (.int .i64 x.val.int) ∧ wx.cell? ⟨w.heap.size + 1, 5, none⟩ = some (.string x.val.text) ∧ wx.cell? ⟨w.heap.size + 1, 6, none⟩ = some (.string x.table) ∧ wx.cell? ⟨w.heap.size + 1, 7, none⟩ = some (.string x.name) ∧ wx.cell? ⟨w.heap.size + 1, 8, none⟩ = some (.slice xa x.args.length xac) ∧ wx.cell? ⟨w.heap.size + 1, 9, none⟩ = some (.slice xs x.sub.length xsc)) := Lib.hid fun wx ys hw => by
    obtain ⟨d0, d1, d2, d3, d4, d5, d6, d7, d8, d9, _, _⟩ := blk10 ((hw.block hz (wm_old H.out hb (by omega))).1.trans hS1)
    exact ⟨d0, d1, d2, d3, d4, d5, d6, d7, d8, d9⟩
  have HW0 := Lib.hid ((WSt.refl H.out).bel hb)
  have HW := Lib.hid (WSt.refl (H.out.bel hb))
  have HEW := Lib.hid (ec_wst HE.out HW0.out)
  have HLW := Lib.hid (lib_wst HL.out hB H.out HW0.out)
  have HC := Lib.hid (drew_below (Below.refl W.heap.size W))
  clear hS hS1 hb hW c0 c1 c2 c3 c4 c5 c6 c7 c8 c9 HE HL
  go_cut [17] (fun v wx => v = .bool (decide (q ≤ p)) ∧ Below W.heap.size W wx)
  case first =>
    go_region_held3 (fun wx => (wx.cell? ⟨w.heap.size, 0, none⟩ = some (.int .i64 k) ∧ wx.cell? ⟨w.heap.size, 1, none⟩ = some (.int .i64 o) ∧ wx.cell? ⟨w.heap.size, 2, none⟩ = some (.bool no) ∧ wx.cell? ⟨w.heap.size, 3, none⟩ = some (.int .i64 vk) ∧ wx.cell? ⟨w.heap.size, 4, none⟩ = some (.int .i64 vi) ∧ wx.cell? ⟨w.heap.size, 5, none⟩ = some (.string tx) ∧ wx.cell? ⟨w.heap.size, 6, none⟩ = some (.string t) ∧ wx.cell? ⟨w.heap.size, 7, none⟩ = some (.string nm) ∧ wx.cell? ⟨w.heap.size, 8, none⟩ = some (.slice (some ⟨ab, ao, none⟩) args.length cap') ∧ wx.cell? ⟨w.heap.size, 9, none⟩ = some vs) ∧
      (wx.cell? ⟨w.heap.size + 1, 0, none⟩ = some (.int .i64 x.kind) ∧ wx.cell? ⟨w.heap.size + 1, 1, none⟩ = some (.int .i64 x.op) ∧ wx.cell? ⟨w.heap.size + 1, 2, none⟩ = some (.bool x.no) ∧ wx.cell? ⟨w.heap.size + 1, 3, none⟩ = some (.int .i64 x.val.kind) ∧ wx.cell? ⟨w.heap.size + 1, 4, none⟩ = some (.int .i64 x.val.int) ∧ wx.cell? ⟨w.heap.size + 1, 5, none⟩ = some (.string x.val.text) ∧ wx.cell? ⟨w.heap.size + 1, 6, none⟩ = some (.string x.table) ∧ wx.cell? ⟨w.heap.size + 1, 7, none⟩ = some (.string x.name) ∧ wx.cell? ⟨w.heap.size + 1, 8, none⟩ = some (.slice xa x.args.length xac) ∧ wx.cell? ⟨w.heap.size + 1, 9, none⟩ = some (.slice xs x.sub.length xsc)))
      (first | (with_reducible exact HSQ.out _ HC.out) | go_keep)
      (first
        | ((go_at_call 61); ((refine (HPR.out _).mono ?_); rintro e wy ⟨rfl, hb⟩; have HC := Lib.hid (HC.out.trans (hb.mono HC.out.size)); clear hb))
        | ((go_at_call 157); ((refine (HLS.out _).mono ?_); rintro e wy ⟨rfl, hb⟩; have HC := Lib.hid (HC.out.trans (hb.mono HC.out.size)); clear hb)))
    all_goals
      go_wp2_with fail
      go_meet
      exact ⟨by first | rfl | (simp; done), HC.out⟩
  case rest =>
    obtain ⟨rfl, hbx⟩ := hcut
    rename World => wx
    have HWX := Lib.hid (HW.out.bel hbx)
    have HEX := Lib.hid (ec_wst HEW.out HWX.out)
    have HLX := Lib.hid (HLW.out.bel hbx (by have := H.out.lt; have := HBW.out.size; omega))
    clear hbx
    by_cases hpq : p < q
    · have hd : decide (q ≤ p) = false := by simp only [decide_eq_false_iff_not]; omega
      obtain rfl : kOpen :: (wordsP x ++ [kShut]) = out := by have h := HO.out; rw [if_pos hpq] at h; exact h
      have hlen := HN.out
      simp only [List.length_cons, List.length_append, List.length_nil] at hlen
      go_wp2_with fail
      refine (put_any (M := fun _ => False) lo b _ ws [kOpen] _ (HWX.out.rd.bel ((Below.refl _ _).alloc (Nat.le_refl _) _)) (rows_strs [kOpen] rfl rfl rfl (by decide) _) (by decide) (by simp; omega)).mono ?_
      rintro e w3 ⟨rfl, hw3⟩
      have HW3 := Lib.hid ((HWX.out.alloc (.cells #[.string kOpen] 9)).trans hw3)
      obtain ⟨d0, d1, d2, d3, d4, d5, d6, d7, d8, d9⟩ := HBOX.out _ _ HW3.out
      have HE3 := Lib.hid (ec_wst HEW.out HW3.out)
      have HL3 := Lib.hid (lib_wst HLW.out hB HW.out.rd HW3.out)
      clear hw3
      dsimp only
      go_wp2_with fail
      refine (HX.out lo b _ (ws ++ [kOpen]) w3 HW3.out.rd HE3.out HL3.out hB (by simp; omega)).mono ?_
      rintro e w4 ⟨rfl, hw4⟩
      have HW4 := Lib.hid (HW3.out.trans hw4)
      clear hw4 d0 d1 d2 d3 d4 d5 d6 d7 d8 d9
      dsimp only
      go_wp2_with fail
      refine (put_any (M := fun _ => False) lo b _ (ws ++ [kOpen] ++ wordsP x) [kShut] _ (HW4.out.rd.bel ((Below.refl _ _).alloc (Nat.le_refl _) _)) (rows_strs [kShut] rfl rfl rfl (by decide) _) (by decide) (by simp; omega)).mono ?_
      rintro e w5 ⟨rfl, hw5⟩
      have HW5 := Lib.hid (HW0.out.trans ((HW4.out.alloc (.cells #[.string kShut] 9)).trans hw5))
      clear hw5
      dsimp only
      go_wp2_with fail
      go_end0
      exact ⟨rfl, by have h := HW5.out; simp only [List.append_assoc, List.cons_append, List.nil_append] at h ⊢; exact h⟩
    · have hd : decide (q ≤ p) = true := by simp only [decide_eq_true_eq]; omega
      obtain rfl : wordsP x = out := by have h := HO.out; rw [if_neg hpq] at h; exact h
      obtain ⟨d0, d1, d2, d3, d4, d5, d6, d7, d8, d9⟩ := HBOX.out _ _ HWX.out
      go_wp2_with fail
      refine (HX.out lo b _ ws wx HWX.out.rd HEX.out HLX.out hB HN.out).mono ?_
      rintro e w3 ⟨rfl, hw3⟩
      have HW3 := Lib.hid (HW0.out.trans (HWX.out.trans hw3))
      clear hw3 d0 d1 d2 d3 d4 d5 d6 d7 d8 d9
      dsimp only
      go_wp2_with fail
      go_end0
      exact ⟨rfl, HW3.out⟩
end Go.Proofs.YtpnigfmclmfjaaaGreatDoor

namespace Go.Proofs.YtpnigfmclmfjaaaGreatDoor
open Go.RowKit

theorem whereW_snoc : ∀ (L : List (List ByteArray)) (l : List ByteArray), whereW (L ++ [l]) = whereW L ++ kWHERE :: l
  | [], l => by simp [whereW]
  | x :: L, l => by
    rw [List.cons_append, whereW, whereW, whereW_snoc L l]
    simp
theorem whereW_take {l : List Ex} {j : Nat} {x : Ex} (h : l[j]? = some x) : whereW ((l.take (j + 1)).map wordsP) = whereW ((l.take j).map wordsP) ++ kWHERE :: wordsP x := by
  obtain ⟨hlt, rfl⟩ := List.getElem?_eq_some_iff.1 h
  rw [List.take_succ_eq_append_getElem hlt, List.map_append, List.map_cons, List.map_nil, whereW_snoc]
theorem whereW_le : ∀ (l : List Ex) (j : Nat), (whereW ((l.take j).map wordsP)).length ≤ (whereW (l.map wordsP)).length
  | [], j => by simp
  | x :: l, 0 => by simp [whereW]
  | x :: l, j + 1 => by
    have := whereW_le l j
    simp only [List.take_succ_cons, List.map_cons, whereW, List.length_cons, List.length_append]
    omega
theorem exs_wst {lo b : Nat} {w0 w1 : World} {xs : List ByteArray} {v : Value} {l : List Ex} (h : ExsR (WM b w0) w0 v l) (k : WSt lo b w0 w1 xs) : ExsR (WM b w1) w1 v l := by
  have h1 : RowsR (fun i => WM b w0 i ∨ w0.heap.size ≤ i) w0 10 (EC (fun i => WM b w0 i ∨ w0.heap.size ≤ i) w0) v l := RowsR.weak h (fun i hi hh => hh.resolve_right (by omega)) fun x _ cs hc => EC.weak (fun i hi hh => hh.resolve_right (by omega)) x cs hc
  have h2 := RowsR.map (R' := EC (fun i => WM b w0 i ∨ w0.heap.size ≤ i) w1) h1 (k.keep.weak fun i _ hh => Or.inl hh) fun x _ cs hc => EC.keep (k.keep.weak fun i _ hh => Or.inl hh) x cs hc
  have hM : ∀ i, i < w1.heap.size → WM b w1 i → (WM b w0 i ∨ w0.heap.size ≤ i) := fun i hi hh => by
    by_cases hlt : i < w0.heap.size
    · exact .inl (k.inc i hlt hh)
    · exact .inr (by omega)
  exact RowsR.weak h2 hM fun x _ cs hc => EC.weak hM x cs hc

set_option maxRecDepth 100000 in
set_option maxHeartbeats 4000000 in
theorem wwhere_any (l : List Ex) (hall : ∀ x ∈ l, WexOk x) (lo b : Nat) (va : Value) (ws : List ByteArray) (w : World) (h : WrR lo b w ws) (hA : ExsR (WM b w) w va l) (hl : LibOk w) (hB : 10 < b) (hN : ws.length + (whereW (l.map wordsP)).length ≤ 1000000000) :
    Calls Tryz.prog 251 #[.pointer (some ⟨b, 0, none⟩), va] w (WPost lo b w (ws ++ whereW (l.map wordsP))) := by
  have H := Lib.hid h
  have HL := Lib.hid hl
  have HA := Lib.hid hA
  have HN := Lib.hid hN
  have HALL := Lib.hid hall
  obtain ⟨a, c, rfl, hm⟩ := hA.shape
  unfold maxLen at hm
  clear h hl hA hN hall
  go_enter Tryz.func251, Tryz.ntmps251
  go_wp2_with fail
  go_loopw [8] (fun i wr => ∃ j : Nat, j ≤ l.length ∧ i = .int .i64 j ∧ WSt lo b w wr (ws ++ whereW ((l.take j).map wordsP))) (fun i _ => l.length - (intOf i).toNat)
  case atStart => exact ⟨0, Nat.zero_le _, rfl, by simpa [whereW] using WSt.refl H.out⟩
  case round =>
    rename World => wr
    obtain ⟨j, hj, rfl, hst⟩ := hrel
    have HST := Lib.hid hst
    clear hst
    by_cases hlt : j < l.length
    · rcases (exs_wst HA.out HST.out).open with ⟨_, h0⟩ | ⟨ab, ao, cap', hv', _, hab, _, _, hx⟩
      · rw [h0] at hlt
        simp at hlt
      simp only [Value.slice.injEq] at hv'
      obtain ⟨rfl, _, rfl⟩ := hv'
      have hxj : l[j]? = some l[j] := List.getElem?_eq_getElem hlt
      obtain ⟨cs, hc, _, hcs⟩ := hx j _ hxj
      have HTK := Lib.hid (whereW_take hxj)
      have hle := whereW_le l (j + 1)
      rw [HTK.out] at hle
      have hlen := HN.out
      have HX := Lib.hid (HALL.out _ (List.mem_of_getElem? hxj))
      generalize l[j] = x at hxj hc HTK HX hle
      have HE := Lib.hid hc
      obtain ⟨xva, xvs, rfl, hva, hvs⟩ := (EC_iff ..).1 hc
      obtain ⟨xa, xac, rfl, _⟩ := hva.shape
      obtain ⟨xs, xsc, rfl, _⟩ := hvs.shape
      obtain ⟨c0, c1, c2, c3, c4, c5, c6, c7, c8, c9⟩ := CellsAt.c10 hcs
      simp only [exCells] at HE
      generalize whereW ((l.take j).map wordsP) = tk at HST HTK hle
      simp only [List.length_append, List.length_cons] at hle
      have HLE := Lib.hid (show ws.length + tk.length + (wordsP x).length + 1 ≤ 1000000000 by omega)
      have i0 : (0 : Int) ≤ (j : Int) := by omega
      have i1 : (j : Int) < (l.length : Int) := by omega
      have hzr := HST.out.rd.lt
      clear hx hc hcs hva hvs hxj hle hlen
      go_upto_region 3 with fail
      generalize hW : World.alloc wr _ = W
      have hS : W.heap[wr.heap.size]? = some (.cells #[.int .i64 x.kind, .int .i64 x.op, .bool x.no, .int .i64 x.val.kind, .int .i64 x.val.int, .string x.val.text, .string x.table, .string x.name, .slice xa x.args.length xac, .slice xs x.sub.length xsc] 57 (0, 0)) := by rw [← hW]; exact heap_alloc_new wr _
      have hb : Below wr.heap.size wr W := by rw [← hW]; exact (Below.refl _ _).alloc (Nat.le_refl _) _
      have hz := (Array.getElem?_eq_some_iff.1 hS).1
      have HBOX : Hid (∀ wx ys, WSt lo b W wx ys → wx.cell? ⟨wr.heap.size, 0, none⟩ = some (.int .i64 x.kind) ∧ wx.cell? ⟨wr.heap.size, 1, none⟩ = some (.int .i64 x.op) ∧ wx.cell? ⟨wr.heap.size, 2, none⟩ = some (.bool x.no) ∧ wx.cell? ⟨wr.heap.size, 3, none⟩ = some (.int .i64 x.val.kind) ∧ wx.cell? ⟨wr.heap.size, 4, none⟩ = some (.int .i64 x.val.int) ∧ wx.cell? ⟨wr.heap.size, 5, none⟩ = some (.string x.val.text) ∧ wx.cell? ⟨wr.heap.size, 6, none⟩ = some (.string x.table) ∧ wx.cell? ⟨wr.heap.size, 7, none⟩ = some (.string x.name) ∧ wx.cell? ⟨wr.heap.size, 8, none⟩ = some (.slice xa x.args.length xac) ∧ wx.cell? ⟨wr.heap.size, 9, none⟩ = some (.slice xs x.sub.length xsc)) := Lib.hid fun wx ys hw => by
        obtain ⟨d0, d1, d2, d3, d4, d5, d6, d7, d8, d9, _, _⟩ := blk10 ((hw.block hz (wm_old HST.out.rd hb (Nat.le_refl _))).1.trans hS)
        exact ⟨d0, d1, d2, d3, d4, d5, d6, d7, d8, d9⟩
      have HW0 := Lib.hid (HST.out.bel hb)
      have HW := Lib.hid (WSt.refl (HST.out.rd.bel hb))
      have HEW := Lib.hid (ec_wst HE.out ((WSt.refl HST.out.rd).bel hb))
      have HLW := Lib.hid (lib_wst HL.out hB H.out HW0.out)
      clear hS hb hW c0 c1 c2 c3 c4 c5 c6 c7 c8 c9 HE
      go_wp2_with fail
      refine (put_any (M := fun _ => False) lo b _ (ws ++ tk) [kWHERE] _ (HW.out.rd.bel ((Below.refl _ _).alloc (Nat.le_refl _) _)) (rows_strs [kWHERE] rfl rfl rfl (by decide) _) (by decide) (by have := HLE.out; simp; omega)).mono ?_
      rintro e w3 ⟨rfl, hw3⟩
      have HW3 := Lib.hid ((HW.out.alloc (.cells #[.string kWHERE] 9)).trans hw3)
      obtain ⟨d0, d1, d2, d3, d4, d5, d6, d7, d8, d9⟩ := HBOX.out _ _ HW3.out
      have HE3 := Lib.hid (ec_wst HEW.out HW3.out)
      have HL3 := Lib.hid (lib_wst HLW.out hB HW.out.rd HW3.out)
      clear hw3
      dsimp only
      go_wp2_with fail
      refine (HX.out lo b _ (ws ++ tk ++ [kWHERE]) w3 HW3.out.rd HE3.out HL3.out hB (by have := HLE.out; simp; omega)).mono ?_
      rintro e w4 ⟨rfl, hw4⟩
      have HW4 := Lib.hid (HW0.out.trans (HW3.out.trans hw4))
      clear hw4 d0 d1 d2 d3 d4 d5 d6 d7 d8 d9
      dsimp only
      go_wp2_with fail
      go_roundw
      case rel => exact ⟨j + 1, by omega, by go_num, by have h := HW4.out; rw [HTK.out]; simp only [List.append_assoc, List.cons_append, List.nil_append] at h ⊢; exact h⟩
      case measure => simp [intOf]; omega
    · obtain rfl : j = l.length := by omega
      have HF := Lib.hid (show WSt lo b w wr (ws ++ whereW (l.map wordsP)) from by have h := HST.out; rw [List.take_length] at h; exact h)
      go_wp2_with fail
      go_end0
      exact ⟨rfl, HF.out⟩

set_option maxRecDepth 100000 in
set_option maxHeartbeats 4000000 in
theorem wfrom_any (st : Bool) (f : ByteArray) (vi va : Value) (l : List Ex) (hall : ∀ x ∈ l, WexOk x) (lo b : Nat) (ws : List ByteArray) (w : World) (h : WrR lo b w ws) (hA : ExsR (WM b w) w va l) (hl : LibOk w) (hB : 10 < b) (hN : ws.length + (kFROM :: f :: whereW (l.map wordsP)).length ≤ 1000000000) :
    Calls Tryz.prog 235 #[.pointer (some ⟨b, 0, none⟩), .agg #[.bool st, vi, .string f, va]] w (WPost lo b w (ws ++ (kFROM :: f :: whereW (l.map wordsP)))) := by
  have H := Lib.hid h
  have HL := Lib.hid hl
  have HA := Lib.hid hA
  have HALL := Lib.hid hall
  have HN := Lib.hid hN
  have hbw := h.lt
  obtain ⟨a, c, rfl, hm⟩ := hA.shape
  clear h hl hA hall hN
  generalize hout : whereW (l.map wordsP) = out at HN ⊢
  have HO := Lib.hid hout
  clear hout
  go_enter Tryz.func235, Tryz.ntmps235
  go_upto_region 1 with fail
  generalize hW : World.alloc w _ = W
  have hS : W.heap[w.heap.size]? = some (.cells #[.bool st, vi, .string f, .slice a l.length c] 32 (0, 0)) := by rw [← hW]; exact heap_alloc_new w _
  have hb : Below w.heap.size w W := by rw [← hW]; exact (Below.refl _ _).alloc (Nat.le_refl _) _
  have hz := (Array.getElem?_eq_some_iff.1 hS).1
  have HS := Lib.hid hS
  have HBW := Lib.hid hb
  have HW0 := Lib.hid ((WSt.refl H.out).bel hb)
  have HW := Lib.hid (WSt.refl (H.out.bel hb))
  have HAW := Lib.hid (exs_wst HA.out HW0.out)
  have HLW := Lib.hid (lib_wst HL.out hB H.out HW0.out)
  obtain ⟨d0, d1, d2, d3, _⟩ := blk4 hS
  clear hS hb hW HA HL
  go_wp2_with fail
  refine (put_any (M := fun _ => False) lo b _ ws [kFROM, f] _ (HW.out.rd.bel ((Below.refl _ _).alloc (Nat.le_refl _) _)) (rows_strs [kFROM, f] rfl rfl rfl (by simp) _) (by simp) (by have := HN.out; simp at this ⊢; omega)).mono ?_
  rintro e w3 ⟨rfl, hw3⟩
  have HW3 := Lib.hid ((HW.out.alloc (.cells #[.string kFROM, .string f] 9)).trans hw3)
  clear d0 d1 d2 d3 hw3
  obtain ⟨d0, d1, d2, d3, _⟩ := blk4 ((HW3.out.block hz (wm_old H.out HBW.out (Nat.le_refl _))).1.trans HS.out)
  have HA3 := Lib.hid (exs_wst HAW.out HW3.out)
  have HL3 := Lib.hid (lib_wst HLW.out hB HW.out.rd HW3.out)
  dsimp only
  go_wp2_with fail
  refine (wwhere_any l HALL.out lo b _ (ws ++ [kFROM, f]) w3 HW3.out.rd HA3.out HL3.out hB (by rw [HO.out]; have := HN.out; simp at this ⊢; omega)).mono ?_
  rintro e w4 ⟨rfl, hw4⟩
  have HW4 := Lib.hid (HW0.out.trans (HW3.out.trans hw4))
  clear hw4 d0 d1 d2 d3
  dsimp only
  go_wp2_with fail
  go_end0
  exact ⟨rfl, by have h := HW4.out; rw [HO.out] at h; simp only [List.append_assoc, List.cons_append, List.nil_append] at h ⊢; exact h⟩
end Go.Proofs.YtpnigfmclmfjaaaGreatDoor

namespace Go.Proofs.YtpnigfmclmfjaaaGreatDoor
open Go.RowKit

def agg13 : Array Value := #[.string ⟨#[]⟩, .string ⟨#[]⟩, .string ⟨#[]⟩, .string ⟨#[]⟩, .string ⟨#[]⟩, .string ⟨#[]⟩, .string ⟨#[]⟩, .string ⟨#[]⟩, .string ⟨#[]⟩, .string ⟨#[]⟩, .string ⟨#[83, 85, 77]⟩, .string ⟨#[77, 73, 78]⟩, .string ⟨#[77, 65, 88]⟩]
theorem words_sub8 {k : Int} {st : Bool} {f : ByteArray} {items whr : List Ex} (h : 8 ≤ k) : wordsP (opX k 0 false [] [.mk st items f whr]) = headW k (items.map wordsP) ++ ((kFROM :: f :: whereW (whr.map wordsP)) ++ [kShut]) := by rw [words_sub h, List.append_assoc]

set_option maxRecDepth 100000 in
set_option maxHeartbeats 8000000 in
theorem winner_exists (st : Bool) (f : ByteArray) (whr : List Ex) (hallw : ∀ x ∈ whr, WexOk x) (lo b : Nat) (cs : List Value) (ws : List ByteArray) (w : World) (h : WrR lo b w ws) (hE : EC (WM b w) w (opX 8 0 false [] [.mk st ([] : List Ex) f whr]) cs) (hl : LibOk w) (hB : 10 < b) (hN : ws.length + (wordsP (opX 8 0 false [] [.mk st ([] : List Ex) f whr])).length ≤ 1000000000) :
    Calls Tryz.prog 163 #[.pointer (some ⟨b, 0, none⟩), .agg cs.toArray] w (WPost lo b w (ws ++ wordsP (opX 8 0 false [] [.mk st ([] : List Ex) f whr]))) := by
  have H := Lib.hid h
  have HL := Lib.hid hl
  have hk0 : True := trivial
  have HALLW := Lib.hid hallw
  have HN := Lib.hid hN
  have hbw := h.lt
  obtain ⟨xva, xvs, rfl, hva, hvs⟩ := (EC_iff ..).1 hE
  obtain ⟨ea, ec, rfl, _⟩ := hva.shape
  rcases hvs.open with ⟨_, h0⟩ | ⟨sb, so, sc, rfl, _, hsb, hsc, hsm, hxx⟩
  · cases h0
  obtain ⟨qs, hq, _, hqs⟩ := hxx 0 _ rfl
  obtain ⟨vi, vw, rfl, hvi, hvw⟩ := (QC_iff ..).1 hq
  obtain ⟨ia, ic, rfl, _⟩ := hvi.shape
  obtain ⟨wa, wc, rfl, _⟩ := hvw.shape
  obtain ⟨c0, c1, c2, c3⟩ := CellsAt.c4 hqs
  simp only [Nat.zero_mul, Nat.add_zero] at c0 c1 c2 c3
  have c1 : w.cell? ⟨sb, so + 1, none⟩ = some (.slice ia 0 ic) := c1
  have HI := Lib.hid (show ExsR (WM b w) w (.slice ia 0 ic) ([] : List Ex) from hvi)
  have HWH := Lib.hid (show ExsR (WM b w) w (.slice wa whr.length wc) whr from hvw)
  simp only [exCells, opX, Ex.kind, Ex.op, Ex.no, Ex.val, Ex.table, Ex.name, Ex.args, Ex.sub, List.length_cons, List.length_nil, Nat.zero_add, val0, Qu.star, Qu.frm] at c0 c2 ⊢
  have hout : wordsP (opX 8 0 false [] [.mk st ([] : List Ex) f whr]) = _ := words_sub8 (k := 8) (st := st) (f := f) (items := ([] : List Ex)) (whr := whr) (by omega)
  simp only [opX, val0] at hout HN
  rw [hout] at HN ⊢
  have hhead : headW 8 (([] : List Ex).map wordsP) = [kEXISTS, kOpen, kSELECT, kStar] := by unfold headW; rw [if_pos rfl]
  rw [hhead] at HN ⊢
  generalize hr : (kFROM :: f :: whereW (whr.map wordsP)) = fr at HN ⊢
  have HR := Lib.hid hr
  clear h hl hE hN hallw hva hvs hxx hq hqs hvi hvw hout hhead hr
  clear hk0
  go_enter Tryz.func163, Tryz.ntmps163
  go_upto_region 2 with fail
  generalize hW : World.alloc (World.alloc w _) _ = W
  have hS : W.heap[w.heap.size]? = some (.cells #[.int .i64 8, .int .i64 0, .bool false, .int .i64 0, .int .i64 0, .string es, .string es, .string es, .slice ea 0 ec, .slice (some ⟨sb, so, none⟩) 1 sc] 57 (0, 0)) := by rw [← hW]; exact (heap_alloc_old _ _ (by simp)).trans (heap_alloc_new w _)
  have hS1 : W.heap[w.heap.size + 1]? = some (.cells #[.bool st, .slice ia 0 ic, .string f, .slice wa whr.length wc] 32 (0, 0)) := by rw [← hW]; have h := heap_alloc_new (w.alloc (.cells #[.int .i64 8, .int .i64 0, .bool false, .int .i64 0, .int .i64 0, .string es, .string es, .string es, .slice ea 0 ec, .slice (some ⟨sb, so, none⟩) 1 sc] 57)) (.cells #[.bool st, .slice ia 0 ic, .string f, .slice wa whr.length wc] 32); rw [World.size_alloc] at h; exact h
  have hb : Below w.heap.size w W := by rw [← hW]; exact ((Below.refl _ _).alloc (Nat.le_refl _) _).alloc (by simp) _
  have hz := (Array.getElem?_eq_some_iff.1 hS1).1
  have HBOX : Hid (∀ wx ys, WSt lo b W wx ys → (wx.cell? ⟨w.heap.size, 0, none⟩ = some (.int .i64 8) ∧ wx.cell? ⟨w.heap.size + 1, 0, none⟩ = some (.bool st) ∧ wx.cell? ⟨w.heap.size + 1, 1, none⟩ = some (.slice ia 0 ic) ∧ wx.cell? ⟨w.heap.size + 1, 2, none⟩ = some (.string f) ∧ wx.cell? ⟨w.heap.size + 1, 3, none⟩ = some (.slice wa whr.length wc))) := Lib.hid fun wx ys hw => by
    obtain ⟨a0, _⟩ := blk10 ((hw.block (by omega) (wm_old H.out hb (Nat.le_refl _))).1.trans hS)
    obtain ⟨d0, d1, d2, d3, _⟩ := blk4 ((hw.block hz (wm_old H.out hb (by omega))).1.trans hS1)
    exact ⟨a0, d0, d1, d2, d3⟩
  have HW0 := Lib.hid ((WSt.refl H.out).bel hb)
  have HW := Lib.hid (WSt.refl (H.out.bel hb))
  have HIW := Lib.hid (exs_wst HI.out HW0.out)
  have HHW := Lib.hid (exs_wst HWH.out HW0.out)
  have HLW := Lib.hid (lib_wst HL.out hB H.out HW0.out)
  clear hS hS1 hb hW HI HWH HL c0 c1 c2 c3
  obtain ⟨b0, q0, q1, q2, q3⟩ := HBOX.out _ _ HW.out
  go_wp2_with fail
  refine (put_any (M := fun _ => False) lo b _ ws [kEXISTS, kOpen, kSELECT, kStar] _ (HW.out.rd.bel ((Below.refl _ _).alloc (Nat.le_refl _) _)) (rows_strs [kEXISTS, kOpen, kSELECT, kStar] rfl rfl rfl (by simp) _) (by simp) (by have := HN.out; simp at this ⊢; omega)).mono ?_
  rintro e w3 ⟨rfl, hw3⟩
  have HW3 := Lib.hid ((HW.out.alloc (.cells #[.string kEXISTS, .string kOpen, .string kSELECT, .string kStar] 9)).trans hw3)
  clear hw3
  dsimp only
  clear b0 q0 q1 q2 q3
  obtain ⟨b0, q0, q1, q2, q3⟩ := HBOX.out _ _ HW3.out
  have HX3 := Lib.hid (exs_wst HHW.out HW3.out)
  have HL3 := Lib.hid (lib_wst HLW.out hB HW.out.rd HW3.out)
  go_wp2_with fail
  refine (wfrom_any st f _ _ whr HALLW.out lo b (ws ++ [kEXISTS, kOpen, kSELECT, kStar]) w3 HW3.out.rd HX3.out HL3.out hB (by rw [HR.out]; have := HN.out; simp at this ⊢; omega)).mono ?_
  rintro e w8 ⟨rfl, hw8⟩
  have HW8 := Lib.hid (HW3.out.trans hw8)
  clear hw8 b0 q0 q1 q2 q3
  rw [HR.out] at HW8
  dsimp only
  go_wp2_with fail
  refine (put_any (M := fun _ => False) lo b _ (ws ++ [kEXISTS, kOpen, kSELECT, kStar] ++ fr) [kShut] _ (HW8.out.rd.bel ((Below.refl _ _).alloc (Nat.le_refl _) _)) (rows_strs [kShut] rfl rfl rfl (by simp) _) (by simp) (by have := HN.out; simp at this ⊢; omega)).mono ?_
  rintro e w9 ⟨rfl, hw9⟩
  have HW9 := Lib.hid (HW0.out.trans ((HW8.out.alloc (.cells #[.string kShut] 9)).trans hw9))
  clear hw9
  dsimp only
  go_wp2_with fail
  go_end0
  exact ⟨rfl, by have h := HW9.out; simp only [List.append_assoc, List.cons_append, List.nil_append] at h ⊢; exact h⟩

set_option maxRecDepth 100000 in
set_option maxHeartbeats 8000000 in
theorem winner_count (st : Bool) (f : ByteArray) (whr : List Ex) (hallw : ∀ x ∈ whr, WexOk x) (lo b : Nat) (cs : List Value) (ws : List ByteArray) (w : World) (h : WrR lo b w ws) (hE : EC (WM b w) w (opX 9 0 false [] [.mk st ([] : List Ex) f whr]) cs) (hl : LibOk w) (hB : 10 < b) (hN : ws.length + (wordsP (opX 9 0 false [] [.mk st ([] : List Ex) f whr])).length ≤ 1000000000) :
    Calls Tryz.prog 163 #[.pointer (some ⟨b, 0, none⟩), .agg cs.toArray] w (WPost lo b w (ws ++ wordsP (opX 9 0 false [] [.mk st ([] : List Ex) f whr]))) := by
  have H := Lib.hid h
  have HL := Lib.hid hl
  have hk0 : True := trivial
  have HALLW := Lib.hid hallw
  have HN := Lib.hid hN
  have hbw := h.lt
  obtain ⟨xva, xvs, rfl, hva, hvs⟩ := (EC_iff ..).1 hE
  obtain ⟨ea, ec, rfl, _⟩ := hva.shape
  rcases hvs.open with ⟨_, h0⟩ | ⟨sb, so, sc, rfl, _, hsb, hsc, hsm, hxx⟩
  · cases h0
  obtain ⟨qs, hq, _, hqs⟩ := hxx 0 _ rfl
  obtain ⟨vi, vw, rfl, hvi, hvw⟩ := (QC_iff ..).1 hq
  obtain ⟨ia, ic, rfl, _⟩ := hvi.shape
  obtain ⟨wa, wc, rfl, _⟩ := hvw.shape
  obtain ⟨c0, c1, c2, c3⟩ := CellsAt.c4 hqs
  simp only [Nat.zero_mul, Nat.add_zero] at c0 c1 c2 c3
  have c1 : w.cell? ⟨sb, so + 1, none⟩ = some (.slice ia 0 ic) := c1
  have HI := Lib.hid (show ExsR (WM b w) w (.slice ia 0 ic) ([] : List Ex) from hvi)
  have HWH := Lib.hid (show ExsR (WM b w) w (.slice wa whr.length wc) whr from hvw)
  simp only [exCells, opX, Ex.kind, Ex.op, Ex.no, Ex.val, Ex.table, Ex.name, Ex.args, Ex.sub, List.length_cons, List.length_nil, Nat.zero_add, val0, Qu.star, Qu.frm] at c0 c2 ⊢
  have hout : wordsP (opX 9 0 false [] [.mk st ([] : List Ex) f whr]) = _ := words_sub8 (k := 9) (st := st) (f := f) (items := ([] : List Ex)) (whr := whr) (by omega)
  simp only [opX, val0] at hout HN
  rw [hout] at HN ⊢
  have hhead : headW 9 (([] : List Ex).map wordsP) = [kOpen, kSELECT, kCOUNT, kOpen, kStar, kShut] := by unfold headW; rw [if_neg (by omega), if_pos rfl]
  rw [hhead] at HN ⊢
  generalize hr : (kFROM :: f :: whereW (whr.map wordsP)) = fr at HN ⊢
  have HR := Lib.hid hr
  clear h hl hE hN hallw hva hvs hxx hq hqs hvi hvw hout hhead hr
  clear hk0
  go_enter Tryz.func163, Tryz.ntmps163
  go_upto_region 2 with fail
  generalize hW : World.alloc (World.alloc w _) _ = W
  have hS : W.heap[w.heap.size]? = some (.cells #[.int .i64 9, .int .i64 0, .bool false, .int .i64 0, .int .i64 0, .string es, .string es, .string es, .slice ea 0 ec, .slice (some ⟨sb, so, none⟩) 1 sc] 57 (0, 0)) := by rw [← hW]; exact (heap_alloc_old _ _ (by simp)).trans (heap_alloc_new w _)
  have hS1 : W.heap[w.heap.size + 1]? = some (.cells #[.bool st, .slice ia 0 ic, .string f, .slice wa whr.length wc] 32 (0, 0)) := by rw [← hW]; have h := heap_alloc_new (w.alloc (.cells #[.int .i64 9, .int .i64 0, .bool false, .int .i64 0, .int .i64 0, .string es, .string es, .string es, .slice ea 0 ec, .slice (some ⟨sb, so, none⟩) 1 sc] 57)) (.cells #[.bool st, .slice ia 0 ic, .string f, .slice wa whr.length wc] 32); rw [World.size_alloc] at h; exact h
  have hb : Below w.heap.size w W := by rw [← hW]; exact ((Below.refl _ _).alloc (Nat.le_refl _) _).alloc (by simp) _
  have hz := (Array.getElem?_eq_some_iff.1 hS1).1
  have HBOX : Hid (∀ wx ys, WSt lo b W wx ys → (wx.cell? ⟨w.heap.size, 0, none⟩ = some (.int .i64 9) ∧ wx.cell? ⟨w.heap.size + 1, 0, none⟩ = some (.bool st) ∧ wx.cell? ⟨w.heap.size + 1, 1, none⟩ = some (.slice ia 0 ic) ∧ wx.cell? ⟨w.heap.size + 1, 2, none⟩ = some (.string f) ∧ wx.cell? ⟨w.heap.size + 1, 3, none⟩ = some (.slice wa whr.length wc))) := Lib.hid fun wx ys hw => by
    obtain ⟨a0, _⟩ := blk10 ((hw.block (by omega) (wm_old H.out hb (Nat.le_refl _))).1.trans hS)
    obtain ⟨d0, d1, d2, d3, _⟩ := blk4 ((hw.block hz (wm_old H.out hb (by omega))).1.trans hS1)
    exact ⟨a0, d0, d1, d2, d3⟩
  have HW0 := Lib.hid ((WSt.refl H.out).bel hb)
  have HW := Lib.hid (WSt.refl (H.out.bel hb))
  have HIW := Lib.hid (exs_wst HI.out HW0.out)
  have HHW := Lib.hid (exs_wst HWH.out HW0.out)
  have HLW := Lib.hid (lib_wst HL.out hB H.out HW0.out)
  clear hS hS1 hb hW HI HWH HL c0 c1 c2 c3
  obtain ⟨b0, q0, q1, q2, q3⟩ := HBOX.out _ _ HW.out
  go_wp2_with fail
  refine (put_any (M := fun _ => False) lo b _ ws [kOpen, kSELECT, kCOUNT, kOpen, kStar, kShut] _ (HW.out.rd.bel ((Below.refl _ _).alloc (Nat.le_refl _) _)) (rows_strs [kOpen, kSELECT, kCOUNT, kOpen, kStar, kShut] rfl rfl rfl (by simp) _) (by simp) (by have := HN.out; simp at this ⊢; omega)).mono ?_
  rintro e w3 ⟨rfl, hw3⟩
  have HW3 := Lib.hid ((HW.out.alloc (.cells #[.string kOpen, .string kSELECT, .string kCOUNT, .string kOpen, .string kStar, .string kShut] 9)).trans hw3)
  clear hw3
  dsimp only
  clear b0 q0 q1 q2 q3
  obtain ⟨b0, q0, q1, q2, q3⟩ := HBOX.out _ _ HW3.out
  have HX3 := Lib.hid (exs_wst HHW.out HW3.out)
  have HL3 := Lib.hid (lib_wst HLW.out hB HW.out.rd HW3.out)
  go_wp2_with fail
  refine (wfrom_any st f _ _ whr HALLW.out lo b (ws ++ [kOpen, kSELECT, kCOUNT, kOpen, kStar, kShut]) w3 HW3.out.rd HX3.out HL3.out hB (by rw [HR.out]; have := HN.out; simp at this ⊢; omega)).mono ?_
  rintro e w8 ⟨rfl, hw8⟩
  have HW8 := Lib.hid (HW3.out.trans hw8)
  clear hw8 b0 q0 q1 q2 q3
  rw [HR.out] at HW8
  dsimp only
  go_wp2_with fail
  refine (put_any (M := fun _ => False) lo b _ (ws ++ [kOpen, kSELECT, kCOUNT, kOpen, kStar, kShut] ++ fr) [kShut] _ (HW8.out.rd.bel ((Below.refl _ _).alloc (Nat.le_refl _) _)) (rows_strs [kShut] rfl rfl rfl (by simp) _) (by simp) (by have := HN.out; simp at this ⊢; omega)).mono ?_
  rintro e w9 ⟨rfl, hw9⟩
  have HW9 := Lib.hid (HW0.out.trans ((HW8.out.alloc (.cells #[.string kShut] 9)).trans hw9))
  clear hw9
  dsimp only
  go_wp2_with fail
  go_end0
  exact ⟨rfl, by have h := HW9.out; simp only [List.append_assoc, List.cons_append, List.nil_append] at h ⊢; exact h⟩

set_option maxRecDepth 100000 in
set_option maxHeartbeats 8000000 in
theorem winner_agg (k : Int) (x : Ex) (hk : k = 10 ∨ k = 11 ∨ k = 12) (hallx : WexOk x) (st : Bool) (f : ByteArray) (whr : List Ex) (hallw : ∀ x ∈ whr, WexOk x) (lo b : Nat) (cs : List Value) (ws : List ByteArray) (w : World) (h : WrR lo b w ws) (hE : EC (WM b w) w (opX k 0 false [] [.mk st [x] f whr]) cs) (hl : LibOk w) (hB : 10 < b) (hN : ws.length + (wordsP (opX k 0 false [] [.mk st [x] f whr])).length ≤ 1000000000) :
    Calls Tryz.prog 163 #[.pointer (some ⟨b, 0, none⟩), .agg cs.toArray] w (WPost lo b w (ws ++ wordsP (opX k 0 false [] [.mk st [x] f whr]))) := by
  have H := Lib.hid h
  have HL := Lib.hid hl
  have HX := Lib.hid hallx
  have HALLW := Lib.hid hallw
  have HN := Lib.hid hN
  have hbw := h.lt
  obtain ⟨xva, xvs, rfl, hva, hvs⟩ := (EC_iff ..).1 hE
  obtain ⟨ea, ec, rfl, _⟩ := hva.shape
  rcases hvs.open with ⟨_, h0⟩ | ⟨sb, so, sc, rfl, _, hsb, hsc, hsm, hxx⟩
  · cases h0
  obtain ⟨qs, hq, _, hqs⟩ := hxx 0 _ rfl
  obtain ⟨vi, vw, rfl, hvi, hvw⟩ := (QC_iff ..).1 hq
  obtain ⟨ia, ic, rfl, _⟩ := hvi.shape
  obtain ⟨wa, wc, rfl, _⟩ := hvw.shape
  obtain ⟨c0, c1, c2, c3⟩ := CellsAt.c4 hqs
  simp only [Nat.zero_mul, Nat.add_zero] at c0 c1 c2 c3
  have c1 : w.cell? ⟨sb, so + 1, none⟩ = some (.slice ia 1 ic) := c1
  have HI := Lib.hid (show ExsR (WM b w) w (.slice ia 1 ic) [x] from hvi)
  have HWH := Lib.hid (show ExsR (WM b w) w (.slice wa whr.length wc) whr from hvw)
  simp only [exCells, opX, Ex.kind, Ex.op, Ex.no, Ex.val, Ex.table, Ex.name, Ex.args, Ex.sub, List.length_cons, List.length_nil, Nat.zero_add, val0, Qu.star, Qu.frm] at c0 c2 ⊢
  have hout : wordsP (opX k 0 false [] [.mk st [x] f whr]) = _ := words_sub8 (k := k) (st := st) (f := f) (items := [x]) (whr := whr) (by omega)
  simp only [opX, val0] at hout HN
  rw [hout] at HN ⊢
  have hhead : headW k ([x].map wordsP) = [kOpen, kSELECT, aggS k, kOpen] ++ (wordsP x ++ [kShut]) := by unfold headW; rw [if_neg (by omega), if_neg (by omega)]; rfl
  rw [hhead] at HN ⊢
  generalize hr : (kFROM :: f :: whereW (whr.map wordsP)) = fr at HN ⊢
  have HR := Lib.hid hr
  clear h hl hE hN hallw hva hvs hxx hq hqs hvi hvw hout hhead hr
  have hk8 : (k == 8) = false := by rcases hk with rfl | rfl | rfl <;> rfl
  have hk9 : (k == 9) = false := by rcases hk with rfl | rfl | rfl <;> rfl
  have hix : ∀ w : World, (Instr.index 272 (.agg agg13) (.int .i64 k)).run Tryz.prog w = .ok (.string (aggS k)) w := by rcases hk with rfl | rfl | rfl <;> exact fun _ => by kernel_rfl
  unfold agg13 at hix
  generalize aggS k = ag at hix HN ⊢
  clear hk hallx
  go_enter Tryz.func163, Tryz.ntmps163
  go_upto_region 2 with fail
  generalize hW : World.alloc (World.alloc w _) _ = W
  have hS : W.heap[w.heap.size]? = some (.cells #[.int .i64 k, .int .i64 0, .bool false, .int .i64 0, .int .i64 0, .string es, .string es, .string es, .slice ea 0 ec, .slice (some ⟨sb, so, none⟩) 1 sc] 57 (0, 0)) := by rw [← hW]; exact (heap_alloc_old _ _ (by simp)).trans (heap_alloc_new w _)
  have hS1 : W.heap[w.heap.size + 1]? = some (.cells #[.bool st, .slice ia 1 ic, .string f, .slice wa whr.length wc] 32 (0, 0)) := by rw [← hW]; have h := heap_alloc_new (w.alloc (.cells #[.int .i64 k, .int .i64 0, .bool false, .int .i64 0, .int .i64 0, .string es, .string es, .string es, .slice ea 0 ec, .slice (some ⟨sb, so, none⟩) 1 sc] 57)) (.cells #[.bool st, .slice ia 1 ic, .string f, .slice wa whr.length wc] 32); rw [World.size_alloc] at h; exact h
  have hb : Below w.heap.size w W := by rw [← hW]; exact ((Below.refl _ _).alloc (Nat.le_refl _) _).alloc (by simp) _
  have hz := (Array.getElem?_eq_some_iff.1 hS1).1
  have HBOX : Hid (∀ wx ys, WSt lo b W wx ys → (wx.cell? ⟨w.heap.size, 0, none⟩ = some (.int .i64 k) ∧ wx.cell? ⟨w.heap.size + 1, 0, none⟩ = some (.bool st) ∧ wx.cell? ⟨w.heap.size + 1, 1, none⟩ = some (.slice ia 1 ic) ∧ wx.cell? ⟨w.heap.size + 1, 2, none⟩ = some (.string f) ∧ wx.cell? ⟨w.heap.size + 1, 3, none⟩ = some (.slice wa whr.length wc))) := Lib.hid fun wx ys hw => by
    obtain ⟨a0, _⟩ := blk10 ((hw.block (by omega) (wm_old H.out hb (Nat.le_refl _))).1.trans hS)
    obtain ⟨d0, d1, d2, d3, _⟩ := blk4 ((hw.block hz (wm_old H.out hb (by omega))).1.trans hS1)
    exact ⟨a0, d0, d1, d2, d3⟩
  have HW0 := Lib.hid ((WSt.refl H.out).bel hb)
  have HW := Lib.hid (WSt.refl (H.out.bel hb))
  have HIW := Lib.hid (exs_wst HI.out HW0.out)
  have HHW := Lib.hid (exs_wst HWH.out HW0.out)
  have HLW := Lib.hid (lib_wst HL.out hB H.out HW0.out)
  clear hS hS1 hb hW HI HWH HL c0 c1 c2 c3
  obtain ⟨b0, q0, q1, q2, q3⟩ := HBOX.out _ _ HW.out
  go_wp2_with fail
  refine (put_any (M := fun _ => False) lo b _ ws [kOpen, kSELECT, ag, kOpen] _ (HW.out.rd.bel ((Below.refl _ _).alloc (Nat.le_refl _) _)) (rows_strs [kOpen, kSELECT, ag, kOpen] rfl rfl rfl (by simp) _) (by simp) (by have := HN.out; simp at this ⊢; omega)).mono ?_
  rintro e w3 ⟨rfl, hw3⟩
  have HW3 := Lib.hid ((HW.out.alloc (.cells #[.string kOpen, .string kSELECT, .string ag, .string kOpen] 9)).trans hw3)
  clear hw3
  dsimp only
  clear b0 q0 q1 q2 q3
  obtain ⟨b0, q0, q1, q2, q3⟩ := HBOX.out _ _ HW3.out
  have HI3 := Lib.hid (exs_wst HIW.out HW3.out)
  have HL3 := Lib.hid (lib_wst HLW.out hB HW.out.rd HW3.out)
  rcases HI3.out.open with ⟨_, h0⟩ | ⟨ib, io, icp, hv', _, hib, _, _, hx⟩
  · cases h0
  simp only [Value.slice.injEq] at hv'
  obtain ⟨rfl, hv1, rfl⟩ := hv'
  clear hv1
  obtain ⟨xcs, hc, _, hcs⟩ := hx 0 _ rfl
  have HE := Lib.hid hc
  obtain ⟨xva, xvs, rfl, hva, hvs⟩ := (EC_iff ..).1 hc
  obtain ⟨xa, xac, rfl, _⟩ := hva.shape
  obtain ⟨xs, xsc, rfl, _⟩ := hvs.shape
  obtain ⟨c0, c1, c2, c3, c4, c5, c6, c7, c8, c9⟩ := CellsAt.c10 hcs
  simp only [Nat.zero_mul, Nat.add_zero] at c0 c1 c2 c3 c4 c5 c6 c7 c8 c9
  simp only [exCells] at HE
  clear hx hc hcs hva hvs
  go_wp2_with fail
  refine (HX.out lo b _ (ws ++ [kOpen, kSELECT, ag, kOpen]) w3 HW3.out.rd HE.out HL3.out hB (by have := HN.out; simp at this ⊢; omega)).mono ?_
  rintro e w4 ⟨rfl, hw4⟩
  have HW4 := Lib.hid (HW3.out.trans hw4)
  clear hw4 b0 q0 q1 q2 q3 c0 c1 c2 c3 c4 c5 c6 c7 c8 c9
  dsimp only
  go_wp2_with fail
  refine (put_any (M := fun _ => False) lo b _ (ws ++ [kOpen, kSELECT, ag, kOpen] ++ wordsP x) [kShut] _ (HW4.out.rd.bel ((Below.refl _ _).alloc (Nat.le_refl _) _)) (rows_strs [kShut] rfl rfl rfl (by simp) _) (by simp) (by have := HN.out; simp at this ⊢; omega)).mono ?_
  rintro e w5 ⟨rfl, hw5⟩
  have HW5 := Lib.hid ((HW4.out.alloc (.cells #[.string kShut] 9)).trans hw5)
  clear hw5
  dsimp only
  obtain ⟨b0, q0, q1, q2, q3⟩ := HBOX.out _ _ HW5.out
  have HX5 := Lib.hid (exs_wst HHW.out HW5.out)
  have HL5 := Lib.hid (lib_wst HLW.out hB HW.out.rd HW5.out)
  go_wp2_with fail
  refine (wfrom_any st f _ _ whr HALLW.out lo b (ws ++ [kOpen, kSELECT, ag, kOpen] ++ wordsP x ++ [kShut]) w5 HW5.out.rd HX5.out HL5.out hB (by rw [HR.out]; have := HN.out; simp at this ⊢; omega)).mono ?_
  rintro e w8 ⟨rfl, hw8⟩
  have HW8 := Lib.hid (HW5.out.trans hw8)
  clear hw8 b0 q0 q1 q2 q3
  rw [HR.out] at HW8
  dsimp only
  go_wp2_with fail
  refine (put_any (M := fun _ => False) lo b _ (ws ++ [kOpen, kSELECT, ag, kOpen] ++ wordsP x ++ [kShut] ++ fr) [kShut] _ (HW8.out.rd.bel ((Below.refl _ _).alloc (Nat.le_refl _) _)) (rows_strs [kShut] rfl rfl rfl (by simp) _) (by simp) (by have := HN.out; simp at this ⊢; omega)).mono ?_
  rintro e w9 ⟨rfl, hw9⟩
  have HW9 := Lib.hid (HW0.out.trans ((HW8.out.alloc (.cells #[.string kShut] 9)).trans hw9))
  clear hw9
  dsimp only
  go_wp2_with fail
  go_end0
  exact ⟨rfl, by have h := HW9.out; simp only [List.append_assoc, List.cons_append, List.nil_append] at h ⊢; exact h⟩
end Go.Proofs.YtpnigfmclmfjaaaGreatDoor

namespace Go.Proofs.YtpnigfmclmfjaaaGreatDoor
open Go.RowKit

theorem words_not (a : Ex) : wordsP (opX 3 0 false [a] []) = [kNOT] ++ argW 3 0 0 a := by
  rw [words_ops (by decide)]
  unfold opW
  rw [if_pos rfl, args1]
  rfl
theorem words_neg (a : Ex) : wordsP (opX 4 0 false [a] []) = [kMinus] ++ argW 4 0 0 a := by
  rw [words_ops (by decide)]
  unfold opW
  rw [if_neg (by decide), if_pos rfl, args1]
  rfl
theorem words_bin (o : Int) (a c : Ex) : wordsP (opX 5 o false [a, c] []) = argW 5 o 0 a ++ [opS o] ++ argW 5 o 1 c := by
  rw [words_ops (by decide)]
  unfold opW
  rw [if_neg (by decide), if_neg (by decide), if_pos rfl, (args2 5 o a c).1, (args2 5 o a c).2]
  simp
theorem words_null1 (a : Ex) : wordsP (opX 6 0 true [a] []) = argW 6 0 0 a ++ [kIS] ++ [kNOT] ++ [kNULL] := by
  rw [words_ops (by decide)]
  unfold opW
  rw [if_neg (by decide), if_neg (by decide), if_neg (by decide), if_pos rfl, args1]
  simp
theorem words_null0 (a : Ex) : wordsP (opX 6 0 false [a] []) = argW 6 0 0 a ++ [kIS] ++ [kNULL] := by
  rw [words_ops (by decide)]
  unfold opW
  rw [if_neg (by decide), if_neg (by decide), if_neg (by decide), if_pos rfl, args1]
  simp
theorem words_btw (a c d : Ex) : wordsP (opX 7 0 false [a, c, d] []) = argW 7 0 0 a ++ [kBETWEEN] ++ argW 7 0 1 c ++ [kAND] ++ argW 7 0 2 d := by
  rw [words_ops (by decide)]
  unfold opW
  rw [if_neg (by decide), if_neg (by decide), if_neg (by decide), if_neg (by decide), (args3 7 0 a c d).1, (args3 7 0 a c d).2.1, (args3 7 0 a c d).2.2]
  simp
set_option maxRecDepth 100000 in
set_option maxHeartbeats 8000000 in
theorem wex_not (a : Ex) (ha : WexOk a) : WexOk (opX 3 0 false [a] []) := by
  intro lo b cs ws w h hE hl hB hN
  have H := Lib.hid h
  have HL := Lib.hid hl
  have HN := Lib.hid hN
  have Ha := Lib.hid ha
  have hbw := h.lt
  obtain ⟨xva, xvs, rfl, hva, hvs⟩ := (EC_iff ..).1 hE
  obtain ⟨ea, ec, rfl, _⟩ := hva.shape
  obtain ⟨sa, sc, rfl, _⟩ := hvs.shape
  have HA := Lib.hid (show ExsR (WM b w) w (.slice ea 1 ec) [a] from hva)
  have hout := words_not a
  simp only [exCells, opX, Ex.kind, Ex.op, Ex.no, Ex.val, Ex.table, Ex.name, Ex.args, Ex.sub, List.length_cons, List.length_nil, Nat.zero_add, val0] at hout HN ⊢
  rw [hout] at HN ⊢
  clear h hl hE hN hva hvs hout
  go_enter Tryz.func72, Tryz.ntmps72
  go_upto_region 1 with fail
  generalize hW : World.alloc w _ = W
  have hS : W.heap[w.heap.size]? = some (.cells #[.int .i64 3, .int .i64 0, .bool false, .int .i64 0, .int .i64 0, .string es, .string es, .string es, .slice ea 1 ec, .slice sa 0 sc] 57 (0, 0)) := by rw [← hW]; exact heap_alloc_new w _
  have hb : Below w.heap.size w W := by rw [← hW]; exact (Below.refl _ _).alloc (Nat.le_refl _) _
  have hz := (Array.getElem?_eq_some_iff.1 hS).1
  have HBOX : Hid (∀ wx ys, WSt lo b W wx ys → (wx.cell? ⟨w.heap.size, 0, none⟩ = some (.int .i64 3) ∧ wx.cell? ⟨w.heap.size, 1, none⟩ = some (.int .i64 0) ∧ wx.cell? ⟨w.heap.size, 2, none⟩ = some (.bool false) ∧ wx.cell? ⟨w.heap.size, 3, none⟩ = some (.int .i64 0) ∧ wx.cell? ⟨w.heap.size, 4, none⟩ = some (.int .i64 0) ∧ wx.cell? ⟨w.heap.size, 5, none⟩ = some (.string es) ∧ wx.cell? ⟨w.heap.size, 6, none⟩ = some (.string es) ∧ wx.cell? ⟨w.heap.size, 7, none⟩ = some (.string es) ∧ wx.cell? ⟨w.heap.size, 8, none⟩ = some (.slice ea 1 ec) ∧ wx.cell? ⟨w.heap.size, 9, none⟩ = some (.slice sa 0 sc))) := Lib.hid fun wx ys hw => by
    obtain ⟨a0, a1, a2, a3, a4, a5, a6, a7, a8, a9, _, _⟩ := blk10 ((hw.block hz (wm_old H.out hb (Nat.le_refl _))).1.trans hS)
    exact ⟨a0, a1, a2, a3, a4, a5, a6, a7, a8, a9⟩
  have HW0 := Lib.hid ((WSt.refl H.out).bel hb)
  have HW1 := Lib.hid (WSt.refl (H.out.bel hb))
  have HAW := Lib.hid (exs_wst HA.out HW0.out)
  have HLW := Lib.hid (lib_wst HL.out hB H.out HW0.out)
  clear hS hb hW HA HL
  obtain ⟨b0, b1, b2, b3, b4, b5, b6, b7, b8, b9⟩ := HBOX.out _ _ HW1.out
  go_wp2_with fail
  refine (put_any (M := fun _ => False) lo b _ (ws) [kNOT] _ (HW1.out.rd.bel ((Below.refl _ _).alloc (Nat.le_refl _) _)) (rows_strs [kNOT] rfl rfl rfl (by simp) _) (by simp) (by have := HN.out; (try simp at this); (try simp); omega)).mono ?_
  rintro e w2 ⟨rfl, hw2⟩
  have HW2 := Lib.hid ((HW1.out.alloc (.cells #[.string kNOT] 9)).trans hw2)
  clear hw2
  clear b0 b1 b2 b3 b4 b5 b6 b7 b8 b9
  obtain ⟨b0, b1, b2, b3, b4, b5, b6, b7, b8, b9⟩ := HBOX.out _ _ HW2.out
  dsimp only
  have HA3 := Lib.hid (exs_wst HAW.out HW2.out)
  have HL3 := Lib.hid (lib_wst HLW.out hB HW1.out.rd HW2.out)
  go_wp2_with fail
  refine (wargument_any 3 0 false 0 0 es es es _ _ [a] 0 a rfl Ha.out lo b (ws ++ [kNOT]) w2 HW2.out.rd HA3.out HL3.out hB (by have := HN.out; (try simp at this); (try simp); omega)).mono ?_
  rintro e w3 ⟨rfl, hw3⟩
  have HW3 := Lib.hid (HW2.out.trans hw3)
  clear hw3
  clear b0 b1 b2 b3 b4 b5 b6 b7 b8 b9
  obtain ⟨b0, b1, b2, b3, b4, b5, b6, b7, b8, b9⟩ := HBOX.out _ _ HW3.out
  dsimp only
  clear b0 b1 b2 b3 b4 b5 b6 b7 b8 b9
  go_wp2_with fail
  go_end0
  exact ⟨rfl, by have h := HW0.out.trans HW3.out; first | exact h | (simp only [List.append_assoc, List.cons_append, List.nil_append] at h ⊢; exact h)⟩

set_option maxRecDepth 100000 in
set_option maxHeartbeats 8000000 in
theorem wex_neg (a : Ex) (ha : WexOk a) : WexOk (opX 4 0 false [a] []) := by
  intro lo b cs ws w h hE hl hB hN
  have H := Lib.hid h
  have HL := Lib.hid hl
  have HN := Lib.hid hN
  have Ha := Lib.hid ha
  have hbw := h.lt
  obtain ⟨xva, xvs, rfl, hva, hvs⟩ := (EC_iff ..).1 hE
  obtain ⟨ea, ec, rfl, _⟩ := hva.shape
  obtain ⟨sa, sc, rfl, _⟩ := hvs.shape
  have HA := Lib.hid (show ExsR (WM b w) w (.slice ea 1 ec) [a] from hva)
  have hout := words_neg a
  simp only [exCells, opX, Ex.kind, Ex.op, Ex.no, Ex.val, Ex.table, Ex.name, Ex.args, Ex.sub, List.length_cons, List.length_nil, Nat.zero_add, val0] at hout HN ⊢
  rw [hout] at HN ⊢
  clear h hl hE hN hva hvs hout
  go_enter Tryz.func72, Tryz.ntmps72
  go_upto_region 1 with fail
  generalize hW : World.alloc w _ = W
  have hS : W.heap[w.heap.size]? = some (.cells #[.int .i64 4, .int .i64 0, .bool false, .int .i64 0, .int .i64 0, .string es, .string es, .string es, .slice ea 1 ec, .slice sa 0 sc] 57 (0, 0)) := by rw [← hW]; exact heap_alloc_new w _
  have hb : Below w.heap.size w W := by rw [← hW]; exact (Below.refl _ _).alloc (Nat.le_refl _) _
  have hz := (Array.getElem?_eq_some_iff.1 hS).1
  have HBOX : Hid (∀ wx ys, WSt lo b W wx ys → (wx.cell? ⟨w.heap.size, 0, none⟩ = some (.int .i64 4) ∧ wx.cell? ⟨w.heap.size, 1, none⟩ = some (.int .i64 0) ∧ wx.cell? ⟨w.heap.size, 2, none⟩ = some (.bool false) ∧ wx.cell? ⟨w.heap.size, 3, none⟩ = some (.int .i64 0) ∧ wx.cell? ⟨w.heap.size, 4, none⟩ = some (.int .i64 0) ∧ wx.cell? ⟨w.heap.size, 5, none⟩ = some (.string es) ∧ wx.cell? ⟨w.heap.size, 6, none⟩ = some (.string es) ∧ wx.cell? ⟨w.heap.size, 7, none⟩ = some (.string es) ∧ wx.cell? ⟨w.heap.size, 8, none⟩ = some (.slice ea 1 ec) ∧ wx.cell? ⟨w.heap.size, 9, none⟩ = some (.slice sa 0 sc))) := Lib.hid fun wx ys hw => by
    obtain ⟨a0, a1, a2, a3, a4, a5, a6, a7, a8, a9, _, _⟩ := blk10 ((hw.block hz (wm_old H.out hb (Nat.le_refl _))).1.trans hS)
    exact ⟨a0, a1, a2, a3, a4, a5, a6, a7, a8, a9⟩
  have HW0 := Lib.hid ((WSt.refl H.out).bel hb)
  have HW1 := Lib.hid (WSt.refl (H.out.bel hb))
  have HAW := Lib.hid (exs_wst HA.out HW0.out)
  have HLW := Lib.hid (lib_wst HL.out hB H.out HW0.out)
  clear hS hb hW HA HL
  obtain ⟨b0, b1, b2, b3, b4, b5, b6, b7, b8, b9⟩ := HBOX.out _ _ HW1.out
  go_wp2_with fail
  refine (put_any (M := fun _ => False) lo b _ (ws) [kMinus] _ (HW1.out.rd.bel ((Below.refl _ _).alloc (Nat.le_refl _) _)) (rows_strs [kMinus] rfl rfl rfl (by simp) _) (by simp) (by have := HN.out; (try simp at this); (try simp); omega)).mono ?_
  rintro e w2 ⟨rfl, hw2⟩
  have HW2 := Lib.hid ((HW1.out.alloc (.cells #[.string kMinus] 9)).trans hw2)
  clear hw2
  clear b0 b1 b2 b3 b4 b5 b6 b7 b8 b9
  obtain ⟨b0, b1, b2, b3, b4, b5, b6, b7, b8, b9⟩ := HBOX.out _ _ HW2.out
  dsimp only
  have HA3 := Lib.hid (exs_wst HAW.out HW2.out)
  have HL3 := Lib.hid (lib_wst HLW.out hB HW1.out.rd HW2.out)
  go_wp2_with fail
  refine (wargument_any 4 0 false 0 0 es es es _ _ [a] 0 a rfl Ha.out lo b (ws ++ [kMinus]) w2 HW2.out.rd HA3.out HL3.out hB (by have := HN.out; (try simp at this); (try simp); omega)).mono ?_
  rintro e w3 ⟨rfl, hw3⟩
  have HW3 := Lib.hid (HW2.out.trans hw3)
  clear hw3
  clear b0 b1 b2 b3 b4 b5 b6 b7 b8 b9
  obtain ⟨b0, b1, b2, b3, b4, b5, b6, b7, b8, b9⟩ := HBOX.out _ _ HW3.out
  dsimp only
  clear b0 b1 b2 b3 b4 b5 b6 b7 b8 b9
  go_wp2_with fail
  go_end0
  exact ⟨rfl, by have h := HW0.out.trans HW3.out; first | exact h | (simp only [List.append_assoc, List.cons_append, List.nil_append] at h ⊢; exact h)⟩

set_option maxRecDepth 100000 in
set_option maxHeartbeats 8000000 in
theorem wex_bin (o : Int) (ho1 : 1 ≤ o) (ho2 : o ≤ 13) (a : Ex) (c : Ex) (ha : WexOk a) (hc : WexOk c) : WexOk (opX 5 o false [a, c] []) := by
  intro lo b cs ws w h hE hl hB hN
  have H := Lib.hid h
  have HL := Lib.hid hl
  have HN := Lib.hid hN
  have Ha := Lib.hid ha
  have Hc := Lib.hid hc
  have hbw := h.lt
  obtain ⟨xva, xvs, rfl, hva, hvs⟩ := (EC_iff ..).1 hE
  obtain ⟨ea, ec, rfl, _⟩ := hva.shape
  obtain ⟨sa, sc, rfl, _⟩ := hvs.shape
  have HA := Lib.hid (show ExsR (WM b w) w (.slice ea 2 ec) [a, c] from hva)
  have hout := words_bin o a c
  simp only [exCells, opX, Ex.kind, Ex.op, Ex.no, Ex.val, Ex.table, Ex.name, Ex.args, Ex.sub, List.length_cons, List.length_nil, Nat.zero_add, Nat.reduceAdd, val0] at hout HN ⊢
  rw [hout] at HN ⊢
  clear h hl hE hN hva hvs hout
  go_enter Tryz.func72, Tryz.ntmps72
  go_upto_region 1 with fail
  generalize hW : World.alloc w _ = W
  have hS : W.heap[w.heap.size]? = some (.cells #[.int .i64 5, .int .i64 o, .bool false, .int .i64 0, .int .i64 0, .string es, .string es, .string es, .slice ea 2 ec, .slice sa 0 sc] 57 (0, 0)) := by rw [← hW]; exact heap_alloc_new w _
  have hb : Below w.heap.size w W := by rw [← hW]; exact (Below.refl _ _).alloc (Nat.le_refl _) _
  have hz := (Array.getElem?_eq_some_iff.1 hS).1
  have HBOX : Hid (∀ wx ys, WSt lo b W wx ys → (wx.cell? ⟨w.heap.size, 0, none⟩ = some (.int .i64 5) ∧ wx.cell? ⟨w.heap.size, 1, none⟩ = some (.int .i64 o) ∧ wx.cell? ⟨w.heap.size, 2, none⟩ = some (.bool false) ∧ wx.cell? ⟨w.heap.size, 3, none⟩ = some (.int .i64 0) ∧ wx.cell? ⟨w.heap.size, 4, none⟩ = some (.int .i64 0) ∧ wx.cell? ⟨w.heap.size, 5, none⟩ = some (.string es) ∧ wx.cell? ⟨w.heap.size, 6, none⟩ = some (.string es) ∧ wx.cell? ⟨w.heap.size, 7, none⟩ = some (.string es) ∧ wx.cell? ⟨w.heap.size, 8, none⟩ = some (.slice ea 2 ec) ∧ wx.cell? ⟨w.heap.size, 9, none⟩ = some (.slice sa 0 sc))) := Lib.hid fun wx ys hw => by
    obtain ⟨a0, a1, a2, a3, a4, a5, a6, a7, a8, a9, _, _⟩ := blk10 ((hw.block hz (wm_old H.out hb (Nat.le_refl _))).1.trans hS)
    exact ⟨a0, a1, a2, a3, a4, a5, a6, a7, a8, a9⟩
  have HW0 := Lib.hid ((WSt.refl H.out).bel hb)
  have HW1 := Lib.hid (WSt.refl (H.out.bel hb))
  have HAW := Lib.hid (exs_wst HA.out HW0.out)
  have HLW := Lib.hid (lib_wst HL.out hB H.out HW0.out)
  clear hS hb hW HA HL
  obtain ⟨b0, b1, b2, b3, b4, b5, b6, b7, b8, b9⟩ := HBOX.out _ _ HW1.out
  have HA2 := Lib.hid (exs_wst HAW.out HW1.out)
  have HL2 := Lib.hid (lib_wst HLW.out hB HW1.out.rd HW1.out)
  go_wp2_with fail
  refine (wargument_any 5 o false 0 0 es es es _ _ [a, c] 0 a rfl Ha.out lo b (ws) W HW1.out.rd HA2.out HL2.out hB (by have := HN.out; (try simp at this); (try simp); omega)).mono ?_
  rintro e w2 ⟨rfl, hw2⟩
  have HW2 := Lib.hid (HW1.out.trans hw2)
  clear hw2
  clear b0 b1 b2 b3 b4 b5 b6 b7 b8 b9
  obtain ⟨b0, b1, b2, b3, b4, b5, b6, b7, b8, b9⟩ := HBOX.out _ _ HW2.out
  dsimp only
  go_wp2_with fail
  refine (operator_any o _ ho1 ho2).mono ?_
  rintro e wz ⟨rfl, rfl⟩
  dsimp only
  go_wp2_with fail
  refine (put_any (M := fun _ => False) lo b _ (ws ++ argW 5 o 0 a) [(opS o)] _ (HW2.out.rd.bel ((Below.refl _ _).alloc (Nat.le_refl _) _)) (rows_strs [(opS o)] rfl rfl rfl (by simp) _) (by simp) (by have := HN.out; (try simp at this); (try simp); omega)).mono ?_
  rintro e w3 ⟨rfl, hw3⟩
  have HW3 := Lib.hid ((HW2.out.alloc (.cells #[.string (opS o)] 9)).trans hw3)
  clear hw3
  clear b0 b1 b2 b3 b4 b5 b6 b7 b8 b9
  obtain ⟨b0, b1, b2, b3, b4, b5, b6, b7, b8, b9⟩ := HBOX.out _ _ HW3.out
  dsimp only
  have HA4 := Lib.hid (exs_wst HAW.out HW3.out)
  have HL4 := Lib.hid (lib_wst HLW.out hB HW1.out.rd HW3.out)
  go_wp2_with fail
  refine (wargument_any 5 o false 0 0 es es es _ _ [a, c] 1 c rfl Hc.out lo b (ws ++ argW 5 o 0 a ++ [(opS o)]) w3 HW3.out.rd HA4.out HL4.out hB (by have := HN.out; (try simp at this); (try simp); omega)).mono ?_
  rintro e w4 ⟨rfl, hw4⟩
  have HW4 := Lib.hid (HW3.out.trans hw4)
  clear hw4
  clear b0 b1 b2 b3 b4 b5 b6 b7 b8 b9
  obtain ⟨b0, b1, b2, b3, b4, b5, b6, b7, b8, b9⟩ := HBOX.out _ _ HW4.out
  dsimp only
  clear b0 b1 b2 b3 b4 b5 b6 b7 b8 b9
  go_wp2_with fail
  go_end0
  exact ⟨rfl, by have h := HW0.out.trans HW4.out; first | exact h | (simp only [List.append_assoc, List.cons_append, List.nil_append] at h ⊢; exact h)⟩

set_option maxRecDepth 100000 in
set_option maxHeartbeats 8000000 in
theorem wex_null1 (a : Ex) (ha : WexOk a) : WexOk (opX 6 0 true [a] []) := by
  intro lo b cs ws w h hE hl hB hN
  have H := Lib.hid h
  have HL := Lib.hid hl
  have HN := Lib.hid hN
  have Ha := Lib.hid ha
  have hbw := h.lt
  obtain ⟨xva, xvs, rfl, hva, hvs⟩ := (EC_iff ..).1 hE
  obtain ⟨ea, ec, rfl, _⟩ := hva.shape
  obtain ⟨sa, sc, rfl, _⟩ := hvs.shape
  have HA := Lib.hid (show ExsR (WM b w) w (.slice ea 1 ec) [a] from hva)
  have hout := words_null1 a
  simp only [exCells, opX, Ex.kind, Ex.op, Ex.no, Ex.val, Ex.table, Ex.name, Ex.args, Ex.sub, List.length_cons, List.length_nil, Nat.zero_add, val0] at hout HN ⊢
  rw [hout] at HN ⊢
  clear h hl hE hN hva hvs hout
  go_enter Tryz.func72, Tryz.ntmps72
  go_upto_region 1 with fail
  generalize hW : World.alloc w _ = W
  have hS : W.heap[w.heap.size]? = some (.cells #[.int .i64 6, .int .i64 0, .bool true, .int .i64 0, .int .i64 0, .string es, .string es, .string es, .slice ea 1 ec, .slice sa 0 sc] 57 (0, 0)) := by rw [← hW]; exact heap_alloc_new w _
  have hb : Below w.heap.size w W := by rw [← hW]; exact (Below.refl _ _).alloc (Nat.le_refl _) _
  have hz := (Array.getElem?_eq_some_iff.1 hS).1
  have HBOX : Hid (∀ wx ys, WSt lo b W wx ys → (wx.cell? ⟨w.heap.size, 0, none⟩ = some (.int .i64 6) ∧ wx.cell? ⟨w.heap.size, 1, none⟩ = some (.int .i64 0) ∧ wx.cell? ⟨w.heap.size, 2, none⟩ = some (.bool true) ∧ wx.cell? ⟨w.heap.size, 3, none⟩ = some (.int .i64 0) ∧ wx.cell? ⟨w.heap.size, 4, none⟩ = some (.int .i64 0) ∧ wx.cell? ⟨w.heap.size, 5, none⟩ = some (.string es) ∧ wx.cell? ⟨w.heap.size, 6, none⟩ = some (.string es) ∧ wx.cell? ⟨w.heap.size, 7, none⟩ = some (.string es) ∧ wx.cell? ⟨w.heap.size, 8, none⟩ = some (.slice ea 1 ec) ∧ wx.cell? ⟨w.heap.size, 9, none⟩ = some (.slice sa 0 sc))) := Lib.hid fun wx ys hw => by
    obtain ⟨a0, a1, a2, a3, a4, a5, a6, a7, a8, a9, _, _⟩ := blk10 ((hw.block hz (wm_old H.out hb (Nat.le_refl _))).1.trans hS)
    exact ⟨a0, a1, a2, a3, a4, a5, a6, a7, a8, a9⟩
  have HW0 := Lib.hid ((WSt.refl H.out).bel hb)
  have HW1 := Lib.hid (WSt.refl (H.out.bel hb))
  have HAW := Lib.hid (exs_wst HA.out HW0.out)
  have HLW := Lib.hid (lib_wst HL.out hB H.out HW0.out)
  clear hS hb hW HA HL
  obtain ⟨b0, b1, b2, b3, b4, b5, b6, b7, b8, b9⟩ := HBOX.out _ _ HW1.out
  have HA2 := Lib.hid (exs_wst HAW.out HW1.out)
  have HL2 := Lib.hid (lib_wst HLW.out hB HW1.out.rd HW1.out)
  go_wp2_with fail
  refine (wargument_any 6 0 true 0 0 es es es _ _ [a] 0 a rfl Ha.out lo b (ws) W HW1.out.rd HA2.out HL2.out hB (by have := HN.out; (try simp at this); (try simp); omega)).mono ?_
  rintro e w2 ⟨rfl, hw2⟩
  have HW2 := Lib.hid (HW1.out.trans hw2)
  clear hw2
  clear b0 b1 b2 b3 b4 b5 b6 b7 b8 b9
  obtain ⟨b0, b1, b2, b3, b4, b5, b6, b7, b8, b9⟩ := HBOX.out _ _ HW2.out
  dsimp only
  go_wp2_with fail
  refine (put_any (M := fun _ => False) lo b _ (ws ++ argW 6 0 0 a) [kIS] _ (HW2.out.rd.bel ((Below.refl _ _).alloc (Nat.le_refl _) _)) (rows_strs [kIS] rfl rfl rfl (by simp) _) (by simp) (by have := HN.out; (try simp at this); (try simp); omega)).mono ?_
  rintro e w3 ⟨rfl, hw3⟩
  have HW3 := Lib.hid ((HW2.out.alloc (.cells #[.string kIS] 9)).trans hw3)
  clear hw3
  clear b0 b1 b2 b3 b4 b5 b6 b7 b8 b9
  obtain ⟨b0, b1, b2, b3, b4, b5, b6, b7, b8, b9⟩ := HBOX.out _ _ HW3.out
  dsimp only
  go_wp2_with fail
  refine (put_any (M := fun _ => False) lo b _ (ws ++ argW 6 0 0 a ++ [kIS]) [kNOT] _ (HW3.out.rd.bel ((Below.refl _ _).alloc (Nat.le_refl _) _)) (rows_strs [kNOT] rfl rfl rfl (by simp) _) (by simp) (by have := HN.out; (try simp at this); (try simp); omega)).mono ?_
  rintro e w4 ⟨rfl, hw4⟩
  have HW4 := Lib.hid ((HW3.out.alloc (.cells #[.string kNOT] 9)).trans hw4)
  clear hw4
  clear b0 b1 b2 b3 b4 b5 b6 b7 b8 b9
  obtain ⟨b0, b1, b2, b3, b4, b5, b6, b7, b8, b9⟩ := HBOX.out _ _ HW4.out
  dsimp only
  go_wp2_with fail
  refine (put_any (M := fun _ => False) lo b _ (ws ++ argW 6 0 0 a ++ [kIS] ++ [kNOT]) [kNULL] _ (HW4.out.rd.bel ((Below.refl _ _).alloc (Nat.le_refl _) _)) (rows_strs [kNULL] rfl rfl rfl (by simp) _) (by simp) (by have := HN.out; (try simp at this); (try simp); omega)).mono ?_
  rintro e w5 ⟨rfl, hw5⟩
  have HW5 := Lib.hid ((HW4.out.alloc (.cells #[.string kNULL] 9)).trans hw5)
  clear hw5
  clear b0 b1 b2 b3 b4 b5 b6 b7 b8 b9
  obtain ⟨b0, b1, b2, b3, b4, b5, b6, b7, b8, b9⟩ := HBOX.out _ _ HW5.out
  dsimp only
  clear b0 b1 b2 b3 b4 b5 b6 b7 b8 b9
  go_wp2_with fail
  go_end0
  exact ⟨rfl, by have h := HW0.out.trans HW5.out; first | exact h | (simp only [List.append_assoc, List.cons_append, List.nil_append] at h ⊢; exact h)⟩

set_option maxRecDepth 100000 in
set_option maxHeartbeats 8000000 in
theorem wex_null0 (a : Ex) (ha : WexOk a) : WexOk (opX 6 0 false [a] []) := by
  intro lo b cs ws w h hE hl hB hN
  have H := Lib.hid h
  have HL := Lib.hid hl
  have HN := Lib.hid hN
  have Ha := Lib.hid ha
  have hbw := h.lt
  obtain ⟨xva, xvs, rfl, hva, hvs⟩ := (EC_iff ..).1 hE
  obtain ⟨ea, ec, rfl, _⟩ := hva.shape
  obtain ⟨sa, sc, rfl, _⟩ := hvs.shape
  have HA := Lib.hid (show ExsR (WM b w) w (.slice ea 1 ec) [a] from hva)
  have hout := words_null0 a
  simp only [exCells, opX, Ex.kind, Ex.op, Ex.no, Ex.val, Ex.table, Ex.name, Ex.args, Ex.sub, List.length_cons, List.length_nil, Nat.zero_add, val0] at hout HN ⊢
  rw [hout] at HN ⊢
  clear h hl hE hN hva hvs hout
  go_enter Tryz.func72, Tryz.ntmps72
  go_upto_region 1 with fail
  generalize hW : World.alloc w _ = W
  have hS : W.heap[w.heap.size]? = some (.cells #[.int .i64 6, .int .i64 0, .bool false, .int .i64 0, .int .i64 0, .string es, .string es, .string es, .slice ea 1 ec, .slice sa 0 sc] 57 (0, 0)) := by rw [← hW]; exact heap_alloc_new w _
  have hb : Below w.heap.size w W := by rw [← hW]; exact (Below.refl _ _).alloc (Nat.le_refl _) _
  have hz := (Array.getElem?_eq_some_iff.1 hS).1
  have HBOX : Hid (∀ wx ys, WSt lo b W wx ys → (wx.cell? ⟨w.heap.size, 0, none⟩ = some (.int .i64 6) ∧ wx.cell? ⟨w.heap.size, 1, none⟩ = some (.int .i64 0) ∧ wx.cell? ⟨w.heap.size, 2, none⟩ = some (.bool false) ∧ wx.cell? ⟨w.heap.size, 3, none⟩ = some (.int .i64 0) ∧ wx.cell? ⟨w.heap.size, 4, none⟩ = some (.int .i64 0) ∧ wx.cell? ⟨w.heap.size, 5, none⟩ = some (.string es) ∧ wx.cell? ⟨w.heap.size, 6, none⟩ = some (.string es) ∧ wx.cell? ⟨w.heap.size, 7, none⟩ = some (.string es) ∧ wx.cell? ⟨w.heap.size, 8, none⟩ = some (.slice ea 1 ec) ∧ wx.cell? ⟨w.heap.size, 9, none⟩ = some (.slice sa 0 sc))) := Lib.hid fun wx ys hw => by
    obtain ⟨a0, a1, a2, a3, a4, a5, a6, a7, a8, a9, _, _⟩ := blk10 ((hw.block hz (wm_old H.out hb (Nat.le_refl _))).1.trans hS)
    exact ⟨a0, a1, a2, a3, a4, a5, a6, a7, a8, a9⟩
  have HW0 := Lib.hid ((WSt.refl H.out).bel hb)
  have HW1 := Lib.hid (WSt.refl (H.out.bel hb))
  have HAW := Lib.hid (exs_wst HA.out HW0.out)
  have HLW := Lib.hid (lib_wst HL.out hB H.out HW0.out)
  clear hS hb hW HA HL
  obtain ⟨b0, b1, b2, b3, b4, b5, b6, b7, b8, b9⟩ := HBOX.out _ _ HW1.out
  have HA2 := Lib.hid (exs_wst HAW.out HW1.out)
  have HL2 := Lib.hid (lib_wst HLW.out hB HW1.out.rd HW1.out)
  go_wp2_with fail
  refine (wargument_any 6 0 false 0 0 es es es _ _ [a] 0 a rfl Ha.out lo b (ws) W HW1.out.rd HA2.out HL2.out hB (by have := HN.out; (try simp at this); (try simp); omega)).mono ?_
  rintro e w2 ⟨rfl, hw2⟩
  have HW2 := Lib.hid (HW1.out.trans hw2)
  clear hw2
  clear b0 b1 b2 b3 b4 b5 b6 b7 b8 b9
  obtain ⟨b0, b1, b2, b3, b4, b5, b6, b7, b8, b9⟩ := HBOX.out _ _ HW2.out
  dsimp only
  go_wp2_with fail
  refine (put_any (M := fun _ => False) lo b _ (ws ++ argW 6 0 0 a) [kIS] _ (HW2.out.rd.bel ((Below.refl _ _).alloc (Nat.le_refl _) _)) (rows_strs [kIS] rfl rfl rfl (by simp) _) (by simp) (by have := HN.out; (try simp at this); (try simp); omega)).mono ?_
  rintro e w3 ⟨rfl, hw3⟩
  have HW3 := Lib.hid ((HW2.out.alloc (.cells #[.string kIS] 9)).trans hw3)
  clear hw3
  clear b0 b1 b2 b3 b4 b5 b6 b7 b8 b9
  obtain ⟨b0, b1, b2, b3, b4, b5, b6, b7, b8, b9⟩ := HBOX.out _ _ HW3.out
  dsimp only
  go_wp2_with fail
  refine (put_any (M := fun _ => False) lo b _ (ws ++ argW 6 0 0 a ++ [kIS]) [kNULL] _ (HW3.out.rd.bel ((Below.refl _ _).alloc (Nat.le_refl _) _)) (rows_strs [kNULL] rfl rfl rfl (by simp) _) (by simp) (by have := HN.out; (try simp at this); (try simp); omega)).mono ?_
  rintro e w4 ⟨rfl, hw4⟩
  have HW4 := Lib.hid ((HW3.out.alloc (.cells #[.string kNULL] 9)).trans hw4)
  clear hw4
  clear b0 b1 b2 b3 b4 b5 b6 b7 b8 b9
  obtain ⟨b0, b1, b2, b3, b4, b5, b6, b7, b8, b9⟩ := HBOX.out _ _ HW4.out
  dsimp only
  clear b0 b1 b2 b3 b4 b5 b6 b7 b8 b9
  go_wp2_with fail
  go_end0
  exact ⟨rfl, by have h := HW0.out.trans HW4.out; first | exact h | (simp only [List.append_assoc, List.cons_append, List.nil_append] at h ⊢; exact h)⟩

set_option maxRecDepth 100000 in
set_option maxHeartbeats 8000000 in
theorem wex_btw (a : Ex) (c : Ex) (d : Ex) (ha : WexOk a) (hc : WexOk c) (hd : WexOk d) : WexOk (opX 7 0 false [a, c, d] []) := by
  intro lo b cs ws w h hE hl hB hN
  have H := Lib.hid h
  have HL := Lib.hid hl
  have HN := Lib.hid hN
  have Ha := Lib.hid ha
  have Hc := Lib.hid hc
  have Hd := Lib.hid hd
  have hbw := h.lt
  obtain ⟨xva, xvs, rfl, hva, hvs⟩ := (EC_iff ..).1 hE
  obtain ⟨ea, ec, rfl, _⟩ := hva.shape
  obtain ⟨sa, sc, rfl, _⟩ := hvs.shape
  have HA := Lib.hid (show ExsR (WM b w) w (.slice ea 3 ec) [a, c, d] from hva)
  have hout := words_btw a c d
  simp only [exCells, opX, Ex.kind, Ex.op, Ex.no, Ex.val, Ex.table, Ex.name, Ex.args, Ex.sub, List.length_cons, List.length_nil, Nat.zero_add, Nat.reduceAdd, val0] at hout HN ⊢
  rw [hout] at HN ⊢
  clear h hl hE hN hva hvs hout
  go_enter Tryz.func72, Tryz.ntmps72
  go_upto_region 1 with fail
  generalize hW : World.alloc w _ = W
  have hS : W.heap[w.heap.size]? = some (.cells #[.int .i64 7, .int .i64 0, .bool false, .int .i64 0, .int .i64 0, .string es, .string es, .string es, .slice ea 3 ec, .slice sa 0 sc] 57 (0, 0)) := by rw [← hW]; exact heap_alloc_new w _
  have hb : Below w.heap.size w W := by rw [← hW]; exact (Below.refl _ _).alloc (Nat.le_refl _) _
  have hz := (Array.getElem?_eq_some_iff.1 hS).1
  have HBOX : Hid (∀ wx ys, WSt lo b W wx ys → (wx.cell? ⟨w.heap.size, 0, none⟩ = some (.int .i64 7) ∧ wx.cell? ⟨w.heap.size, 1, none⟩ = some (.int .i64 0) ∧ wx.cell? ⟨w.heap.size, 2, none⟩ = some (.bool false) ∧ wx.cell? ⟨w.heap.size, 3, none⟩ = some (.int .i64 0) ∧ wx.cell? ⟨w.heap.size, 4, none⟩ = some (.int .i64 0) ∧ wx.cell? ⟨w.heap.size, 5, none⟩ = some (.string es) ∧ wx.cell? ⟨w.heap.size, 6, none⟩ = some (.string es) ∧ wx.cell? ⟨w.heap.size, 7, none⟩ = some (.string es) ∧ wx.cell? ⟨w.heap.size, 8, none⟩ = some (.slice ea 3 ec) ∧ wx.cell? ⟨w.heap.size, 9, none⟩ = some (.slice sa 0 sc))) := Lib.hid fun wx ys hw => by
    obtain ⟨a0, a1, a2, a3, a4, a5, a6, a7, a8, a9, _, _⟩ := blk10 ((hw.block hz (wm_old H.out hb (Nat.le_refl _))).1.trans hS)
    exact ⟨a0, a1, a2, a3, a4, a5, a6, a7, a8, a9⟩
  have HW0 := Lib.hid ((WSt.refl H.out).bel hb)
  have HW1 := Lib.hid (WSt.refl (H.out.bel hb))
  have HAW := Lib.hid (exs_wst HA.out HW0.out)
  have HLW := Lib.hid (lib_wst HL.out hB H.out HW0.out)
  clear hS hb hW HA HL
  obtain ⟨b0, b1, b2, b3, b4, b5, b6, b7, b8, b9⟩ := HBOX.out _ _ HW1.out
  have HA2 := Lib.hid (exs_wst HAW.out HW1.out)
  have HL2 := Lib.hid (lib_wst HLW.out hB HW1.out.rd HW1.out)
  go_wp2_with fail
  refine (wargument_any 7 0 false 0 0 es es es _ _ [a, c, d] 0 a rfl Ha.out lo b (ws) W HW1.out.rd HA2.out HL2.out hB (by have := HN.out; (try simp at this); (try simp); omega)).mono ?_
  rintro e w2 ⟨rfl, hw2⟩
  have HW2 := Lib.hid (HW1.out.trans hw2)
  clear hw2
  clear b0 b1 b2 b3 b4 b5 b6 b7 b8 b9
  obtain ⟨b0, b1, b2, b3, b4, b5, b6, b7, b8, b9⟩ := HBOX.out _ _ HW2.out
  dsimp only
  go_wp2_with fail
  refine (put_any (M := fun _ => False) lo b _ (ws ++ argW 7 0 0 a) [kBETWEEN] _ (HW2.out.rd.bel ((Below.refl _ _).alloc (Nat.le_refl _) _)) (rows_strs [kBETWEEN] rfl rfl rfl (by simp) _) (by simp) (by have := HN.out; (try simp at this); (try simp); omega)).mono ?_
  rintro e w3 ⟨rfl, hw3⟩
  have HW3 := Lib.hid ((HW2.out.alloc (.cells #[.string kBETWEEN] 9)).trans hw3)
  clear hw3
  clear b0 b1 b2 b3 b4 b5 b6 b7 b8 b9
  obtain ⟨b0, b1, b2, b3, b4, b5, b6, b7, b8, b9⟩ := HBOX.out _ _ HW3.out
  dsimp only
  have HA4 := Lib.hid (exs_wst HAW.out HW3.out)
  have HL4 := Lib.hid (lib_wst HLW.out hB HW1.out.rd HW3.out)
  go_wp2_with fail
  refine (wargument_any 7 0 false 0 0 es es es _ _ [a, c, d] 1 c rfl Hc.out lo b (ws ++ argW 7 0 0 a ++ [kBETWEEN]) w3 HW3.out.rd HA4.out HL4.out hB (by have := HN.out; (try simp at this); (try simp); omega)).mono ?_
  rintro e w4 ⟨rfl, hw4⟩
  have HW4 := Lib.hid (HW3.out.trans hw4)
  clear hw4
  clear b0 b1 b2 b3 b4 b5 b6 b7 b8 b9
  obtain ⟨b0, b1, b2, b3, b4, b5, b6, b7, b8, b9⟩ := HBOX.out _ _ HW4.out
  dsimp only
  go_wp2_with fail
  refine (put_any (M := fun _ => False) lo b _ (ws ++ argW 7 0 0 a ++ [kBETWEEN] ++ argW 7 0 1 c) [kAND] _ (HW4.out.rd.bel ((Below.refl _ _).alloc (Nat.le_refl _) _)) (rows_strs [kAND] rfl rfl rfl (by simp) _) (by simp) (by have := HN.out; (try simp at this); (try simp); omega)).mono ?_
  rintro e w5 ⟨rfl, hw5⟩
  have HW5 := Lib.hid ((HW4.out.alloc (.cells #[.string kAND] 9)).trans hw5)
  clear hw5
  clear b0 b1 b2 b3 b4 b5 b6 b7 b8 b9
  obtain ⟨b0, b1, b2, b3, b4, b5, b6, b7, b8, b9⟩ := HBOX.out _ _ HW5.out
  dsimp only
  have HA6 := Lib.hid (exs_wst HAW.out HW5.out)
  have HL6 := Lib.hid (lib_wst HLW.out hB HW1.out.rd HW5.out)
  go_wp2_with fail
  refine (wargument_any 7 0 false 0 0 es es es _ _ [a, c, d] 2 d rfl Hd.out lo b (ws ++ argW 7 0 0 a ++ [kBETWEEN] ++ argW 7 0 1 c ++ [kAND]) w5 HW5.out.rd HA6.out HL6.out hB (by have := HN.out; (try simp at this); (try simp); omega)).mono ?_
  rintro e w6 ⟨rfl, hw6⟩
  have HW6 := Lib.hid (HW5.out.trans hw6)
  clear hw6
  clear b0 b1 b2 b3 b4 b5 b6 b7 b8 b9
  obtain ⟨b0, b1, b2, b3, b4, b5, b6, b7, b8, b9⟩ := HBOX.out _ _ HW6.out
  dsimp only
  clear b0 b1 b2 b3 b4 b5 b6 b7 b8 b9
  go_wp2_with fail
  go_end0
  exact ⟨rfl, by have h := HW0.out.trans HW6.out; first | exact h | (simp only [List.append_assoc, List.cons_append, List.nil_append] at h ⊢; exact h)⟩

set_option maxRecDepth 100000 in
set_option maxHeartbeats 8000000 in
theorem wex_subq (k : Int) (f : ByteArray) (items whr : List Ex) (hk : 8 ≤ k) (hin : ∀ (lo b : Nat) (cs : List Value) (ws : List ByteArray) (w : World), WrR lo b w ws → EC (WM b w) w (opX k 0 false [] [.mk (k == 8) items f whr]) cs → LibOk w → 10 < b → ws.length + (wordsP (opX k 0 false [] [.mk (k == 8) items f whr])).length ≤ 1000000000 → Calls Tryz.prog 163 #[.pointer (some ⟨b, 0, none⟩), .agg cs.toArray] w (WPost lo b w (ws ++ wordsP (opX k 0 false [] [.mk (k == 8) items f whr])))) : WexOk (opX k 0 false [] [.mk (k == 8) items f whr]) := by
  intro lo b cs ws w h hE hl hB hN
  have H := Lib.hid h
  have HL := Lib.hid hl
  have HN := Lib.hid hN
  have HIN := Lib.hid hin
  have hk1 : (k == 1) = false := by simp only [beq_eq_false_iff_ne]; omega
  have hk2 : (k == 2) = false := by simp only [beq_eq_false_iff_ne]; omega
  have hk3 : (k == 3) = false := by simp only [beq_eq_false_iff_ne]; omega
  have hk4 : (k == 4) = false := by simp only [beq_eq_false_iff_ne]; omega
  have hk5 : (k == 5) = false := by simp only [beq_eq_false_iff_ne]; omega
  have hk6 : (k == 6) = false := by simp only [beq_eq_false_iff_ne]; omega
  have hk7 : (k == 7) = false := by simp only [beq_eq_false_iff_ne]; omega
  clear hin
  have hbw := h.lt
  obtain ⟨xva, xvs, rfl, hva, hvs⟩ := (EC_iff ..).1 hE
  obtain ⟨ea, ec, rfl, _⟩ := hva.shape
  obtain ⟨sa, sc, rfl, _⟩ := hvs.shape
  have HA := Lib.hid hva
  have HE := Lib.hid hE
  generalize hout : wordsP (opX k 0 false [] [.mk (k == 8) items f whr]) = out at HN HIN ⊢
  simp only [exCells, opX, Ex.kind, Ex.op, Ex.no, Ex.val, Ex.table, Ex.name, Ex.args, Ex.sub, List.length_cons, List.length_nil, Nat.zero_add, val0] at HE HIN ⊢
  clear h hl hE hN hva hvs hout
  go_enter Tryz.func72, Tryz.ntmps72
  go_upto_region 1 with fail
  generalize hW : World.alloc w _ = W
  have hS : W.heap[w.heap.size]? = some (.cells #[.int .i64 k, .int .i64 0, .bool false, .int .i64 0, .int .i64 0, .string es, .string es, .string es, .slice ea 0 ec, .slice sa 1 sc] 57 (0, 0)) := by rw [← hW]; exact heap_alloc_new w _
  have hb : Below w.heap.size w W := by rw [← hW]; exact (Below.refl _ _).alloc (Nat.le_refl _) _
  have hz := (Array.getElem?_eq_some_iff.1 hS).1
  have HBOX : Hid (∀ wx ys, WSt lo b W wx ys → (wx.cell? ⟨w.heap.size, 0, none⟩ = some (.int .i64 k) ∧ wx.cell? ⟨w.heap.size, 1, none⟩ = some (.int .i64 0) ∧ wx.cell? ⟨w.heap.size, 2, none⟩ = some (.bool false) ∧ wx.cell? ⟨w.heap.size, 3, none⟩ = some (.int .i64 0) ∧ wx.cell? ⟨w.heap.size, 4, none⟩ = some (.int .i64 0) ∧ wx.cell? ⟨w.heap.size, 5, none⟩ = some (.string es) ∧ wx.cell? ⟨w.heap.size, 6, none⟩ = some (.string es) ∧ wx.cell? ⟨w.heap.size, 7, none⟩ = some (.string es) ∧ wx.cell? ⟨w.heap.size, 8, none⟩ = some (.slice ea 0 ec) ∧ wx.cell? ⟨w.heap.size, 9, none⟩ = some (.slice sa 1 sc))) := Lib.hid fun wx ys hw => by
    obtain ⟨a0, a1, a2, a3, a4, a5, a6, a7, a8, a9, _, _⟩ := blk10 ((hw.block hz (wm_old H.out hb (Nat.le_refl _))).1.trans hS)
    exact ⟨a0, a1, a2, a3, a4, a5, a6, a7, a8, a9⟩
  have HW0 := Lib.hid ((WSt.refl H.out).bel hb)
  have HW1 := Lib.hid (WSt.refl (H.out.bel hb))
  have HEW := Lib.hid (ec_wst HE.out HW0.out)
  have HLW := Lib.hid (lib_wst HL.out hB H.out HW0.out)
  clear hS hb hW HA HL HE
  obtain ⟨b0, b1, b2, b3, b4, b5, b6, b7, b8, b9⟩ := HBOX.out _ _ HW1.out
  go_wp2_with fail
  refine (HIN.out lo b _ ws W HW1.out.rd HEW.out HLW.out hB (by have := HN.out; omega)).mono ?_
  rintro e w2 ⟨rfl, hw2⟩
  have HW2 := Lib.hid (HW1.out.trans hw2)
  clear hw2
  dsimp only
  clear b0 b1 b2 b3 b4 b5 b6 b7 b8 b9
  go_wp2_with fail
  go_end0
  exact ⟨rfl, by have h := HW0.out.trans HW2.out; exact h⟩

theorem wex_sub (k : Int) (f : ByteArray) (items whr : List Ex) (hk : ((k = 8 ∨ k = 9) ∧ items = []) ∨ ((k = 10 ∨ k = 11 ∨ k = 12) ∧ items.length = 1)) (h1 : ∀ x ∈ items, WexOk x) (h2 : ∀ x ∈ whr, WexOk x) : WexOk (opX k 0 false [] [.mk (k == 8) items f whr]) := by
  refine wex_subq k f items whr (by omega) ?_
  intro lo b cs ws w h hE hl hB hN
  rcases hk with ⟨rfl | rfl, rfl⟩ | ⟨hk, hn⟩
  · exact winner_exists _ f whr h2 lo b cs ws w h hE hl hB hN
  · exact winner_count _ f whr h2 lo b cs ws w h hE hl hB hN
  · obtain ⟨x, rfl⟩ := List.length_eq_one_iff.1 hn
    exact winner_agg k x hk (h1 x (by simp)) _ f whr h2 lo b cs ws w h hE hl hB hN

set_option maxRecDepth 100000 in
set_option maxHeartbeats 8000000 in
theorem wex_lit (v : Val) (hv : ValOk v) : WexOk (litX v) := by
  intro lo b cs ws w h hE hl hB hN
  have H := Lib.hid h
  have HL := Lib.hid hl
  have HN := Lib.hid hN
  have HF := Lib.hid (show ∀ w, LibOk w → 10 < w.heap.size → Calls Tryz.prog 83 #[.agg #[.int .i64 v.kind, .int .i64 v.int, .string v.text]] w (RetBel (.string (bs (fmtV v))) w) from fun w h hs => format_v v hv w h hs)
  clear hv
  have hbw := h.lt
  obtain ⟨xva, xvs, rfl, hva, hvs⟩ := (EC_iff ..).1 hE
  obtain ⟨ea, ec, rfl, _⟩ := hva.shape
  obtain ⟨sa, sc, rfl, _⟩ := hvs.shape
  have HA := Lib.hid (show ExsR (WM b w) w (.slice ea 0 ec) ([] : List Ex) from hva)
  have hout := words_lit v
  simp only [exCells, litX, Ex.kind, Ex.op, Ex.no, Ex.val, Ex.table, Ex.name, Ex.args, Ex.sub, List.length_nil] at hout HN ⊢
  rw [hout] at HN ⊢
  clear h hl hE hN hva hvs hout
  go_enter Tryz.func72, Tryz.ntmps72
  go_upto_region 1 with fail
  generalize hW : World.alloc w _ = W
  have hS : W.heap[w.heap.size]? = some (.cells #[.int .i64 1, .int .i64 0, .bool false, .int .i64 v.kind, .int .i64 v.int, .string v.text, .string es, .string es, .slice ea 0 ec, .slice sa 0 sc] 57 (0, 0)) := by rw [← hW]; exact heap_alloc_new w _
  have hb : Below w.heap.size w W := by rw [← hW]; exact (Below.refl _ _).alloc (Nat.le_refl _) _
  have hz := (Array.getElem?_eq_some_iff.1 hS).1
  have HBOX : Hid (∀ wx ys, WSt lo b W wx ys → (wx.cell? ⟨w.heap.size, 0, none⟩ = some (.int .i64 1) ∧ wx.cell? ⟨w.heap.size, 1, none⟩ = some (.int .i64 0) ∧ wx.cell? ⟨w.heap.size, 2, none⟩ = some (.bool false) ∧ wx.cell? ⟨w.heap.size, 3, none⟩ = some (.int .i64 v.kind) ∧ wx.cell? ⟨w.heap.size, 4, none⟩ = some (.int .i64 v.int) ∧ wx.cell? ⟨w.heap.size, 5, none⟩ = some (.string v.text) ∧ wx.cell? ⟨w.heap.size, 6, none⟩ = some (.string es) ∧ wx.cell? ⟨w.heap.size, 7, none⟩ = some (.string es) ∧ wx.cell? ⟨w.heap.size, 8, none⟩ = some (.slice ea 0 ec) ∧ wx.cell? ⟨w.heap.size, 9, none⟩ = some (.slice sa 0 sc))) := Lib.hid fun wx ys hw => by
    obtain ⟨a0, a1, a2, a3, a4, a5, a6, a7, a8, a9, _, _⟩ := blk10 ((hw.block hz (wm_old H.out hb (Nat.le_refl _))).1.trans hS)
    exact ⟨a0, a1, a2, a3, a4, a5, a6, a7, a8, a9⟩
  have HW0 := Lib.hid ((WSt.refl H.out).bel hb)
  have HW1 := Lib.hid (WSt.refl (H.out.bel hb))
  have HAW := Lib.hid (exs_wst HA.out HW0.out)
  have HLW := Lib.hid (lib_wst HL.out hB H.out HW0.out)
  clear hS hb hW HA HL
  obtain ⟨b0, b1, b2, b3, b4, b5, b6, b7, b8, b9⟩ := HBOX.out _ _ HW1.out
  go_wp2_with fail
  refine (HF.out W HLW.out (by have := H.out.lt; omega)).mono ?_
  rintro e w2 ⟨rfl, hw2⟩
  have HW2 := Lib.hid (HW1.out.bel hw2)
  clear hw2
  dsimp only
  go_wp2_with fail
  refine (put_any (M := fun _ => False) lo b _ (ws) [(bs (fmtV v))] _ (HW2.out.rd.bel ((Below.refl _ _).alloc (Nat.le_refl _) _)) (rows_strs [(bs (fmtV v))] rfl rfl rfl (by simp) _) (by simp) (by have := HN.out; (try simp at this); (try simp); omega)).mono ?_
  rintro e w3 ⟨rfl, hw3⟩
  have HW3 := Lib.hid ((HW2.out.alloc (.cells #[.string (bs (fmtV v))] 9)).trans hw3)
  clear hw3
  clear b0 b1 b2 b3 b4 b5 b6 b7 b8 b9
  obtain ⟨b0, b1, b2, b3, b4, b5, b6, b7, b8, b9⟩ := HBOX.out _ _ HW3.out
  dsimp only
  clear b0 b1 b2 b3 b4 b5 b6 b7 b8 b9
  go_wp2_with fail
  go_end0
  exact ⟨rfl, by have h := HW0.out.trans HW3.out; first | exact h | (simp only [List.append_assoc, List.cons_append, List.nil_append] at h ⊢; exact h)⟩

set_option maxRecDepth 100000 in
set_option maxHeartbeats 8000000 in
theorem wex_col0 (n : ByteArray) : WexOk (colX es n) := by
  intro lo b cs ws w h hE hl hB hN
  have H := Lib.hid h
  have HL := Lib.hid hl
  have HN := Lib.hid hN
  have hbw := h.lt
  obtain ⟨xva, xvs, rfl, hva, hvs⟩ := (EC_iff ..).1 hE
  obtain ⟨ea, ec, rfl, _⟩ := hva.shape
  obtain ⟨sa, sc, rfl, _⟩ := hvs.shape
  have HA := Lib.hid (show ExsR (WM b w) w (.slice ea 0 ec) ([] : List Ex) from hva)
  have hout := (show wordsP (colX es n) = [n] from by rw [words_col, if_pos (by decide +kernel)])
  simp only [exCells, colX, Ex.kind, Ex.op, Ex.no, Ex.val, Ex.table, Ex.name, Ex.args, Ex.sub, List.length_nil, val0, es] at hout HN ⊢
  rw [hout] at HN ⊢
  clear h hl hE hN hva hvs hout
  go_enter Tryz.func72, Tryz.ntmps72
  go_upto_region 1 with fail
  generalize hW : World.alloc w _ = W
  have hS : W.heap[w.heap.size]? = some (.cells #[.int .i64 2, .int .i64 0, .bool false, .int .i64 0, .int .i64 0, .string ⟨#[]⟩, .string ⟨#[]⟩, .string n, .slice ea 0 ec, .slice sa 0 sc] 57 (0, 0)) := by rw [← hW]; exact heap_alloc_new w _
  have hb : Below w.heap.size w W := by rw [← hW]; exact (Below.refl _ _).alloc (Nat.le_refl _) _
  have hz := (Array.getElem?_eq_some_iff.1 hS).1
  have HBOX : Hid (∀ wx ys, WSt lo b W wx ys → (wx.cell? ⟨w.heap.size, 0, none⟩ = some (.int .i64 2) ∧ wx.cell? ⟨w.heap.size, 1, none⟩ = some (.int .i64 0) ∧ wx.cell? ⟨w.heap.size, 2, none⟩ = some (.bool false) ∧ wx.cell? ⟨w.heap.size, 3, none⟩ = some (.int .i64 0) ∧ wx.cell? ⟨w.heap.size, 4, none⟩ = some (.int .i64 0) ∧ wx.cell? ⟨w.heap.size, 5, none⟩ = some (.string ⟨#[]⟩) ∧ wx.cell? ⟨w.heap.size, 6, none⟩ = some (.string ⟨#[]⟩) ∧ wx.cell? ⟨w.heap.size, 7, none⟩ = some (.string n) ∧ wx.cell? ⟨w.heap.size, 8, none⟩ = some (.slice ea 0 ec) ∧ wx.cell? ⟨w.heap.size, 9, none⟩ = some (.slice sa 0 sc))) := Lib.hid fun wx ys hw => by
    obtain ⟨a0, a1, a2, a3, a4, a5, a6, a7, a8, a9, _, _⟩ := blk10 ((hw.block hz (wm_old H.out hb (Nat.le_refl _))).1.trans hS)
    exact ⟨a0, a1, a2, a3, a4, a5, a6, a7, a8, a9⟩
  have HW0 := Lib.hid ((WSt.refl H.out).bel hb)
  have HW1 := Lib.hid (WSt.refl (H.out.bel hb))
  have HAW := Lib.hid (exs_wst HA.out HW0.out)
  have HLW := Lib.hid (lib_wst HL.out hB H.out HW0.out)
  clear hS hb hW HA HL
  obtain ⟨b0, b1, b2, b3, b4, b5, b6, b7, b8, b9⟩ := HBOX.out _ _ HW1.out
  go_wp2_with fail
  refine (put_any (M := fun _ => False) lo b _ (ws) [n] _ (HW1.out.rd.bel ((Below.refl _ _).alloc (Nat.le_refl _) _)) (rows_strs [n] rfl rfl rfl (by simp) _) (by simp) (by have := HN.out; (try simp at this); (try simp); omega)).mono ?_
  rintro e w2 ⟨rfl, hw2⟩
  have HW2 := Lib.hid ((HW1.out.alloc (.cells #[.string n] 9)).trans hw2)
  clear hw2
  clear b0 b1 b2 b3 b4 b5 b6 b7 b8 b9
  obtain ⟨b0, b1, b2, b3, b4, b5, b6, b7, b8, b9⟩ := HBOX.out _ _ HW2.out
  dsimp only
  clear b0 b1 b2 b3 b4 b5 b6 b7 b8 b9
  go_wp2_with fail
  go_end0
  exact ⟨rfl, by have h := HW0.out.trans HW2.out; first | exact h | (simp only [List.append_assoc, List.cons_append, List.nil_append] at h ⊢; exact h)⟩

set_option maxRecDepth 100000 in
set_option maxHeartbeats 8000000 in
theorem wex_col1 (t n : ByteArray) (ht : noText t = false) : WexOk (colX t n) := by
  intro lo b cs ws w h hE hl hB hN
  have H := Lib.hid h
  have HL := Lib.hid hl
  have HN := Lib.hid hN
  have ht1 : (t.toList == []) = false := ht
  have ht2 : (t.toList != []) = true := by simp [bne, ht1]
  have hbw := h.lt
  obtain ⟨xva, xvs, rfl, hva, hvs⟩ := (EC_iff ..).1 hE
  obtain ⟨ea, ec, rfl, _⟩ := hva.shape
  obtain ⟨sa, sc, rfl, _⟩ := hvs.shape
  have HA := Lib.hid (show ExsR (WM b w) w (.slice ea 0 ec) ([] : List Ex) from hva)
  have hout := (show wordsP (colX t n) = [t, kDot] ++ [n] from by rw [words_col, if_neg (by rw [ht]; decide)]; rfl)
  simp only [exCells, colX, Ex.kind, Ex.op, Ex.no, Ex.val, Ex.table, Ex.name, Ex.args, Ex.sub, List.length_nil, val0] at hout HN ⊢
  rw [hout] at HN ⊢
  clear h hl hE hN hva hvs hout
  clear ht
  go_enter Tryz.func72, Tryz.ntmps72
  go_upto_region 1 with fail
  generalize hW : World.alloc w _ = W
  have hS : W.heap[w.heap.size]? = some (.cells #[.int .i64 2, .int .i64 0, .bool false, .int .i64 0, .int .i64 0, .string es, .string t, .string n, .slice ea 0 ec, .slice sa 0 sc] 57 (0, 0)) := by rw [← hW]; exact heap_alloc_new w _
  have hb : Below w.heap.size w W := by rw [← hW]; exact (Below.refl _ _).alloc (Nat.le_refl _) _
  have hz := (Array.getElem?_eq_some_iff.1 hS).1
  have HBOX : Hid (∀ wx ys, WSt lo b W wx ys → (wx.cell? ⟨w.heap.size, 0, none⟩ = some (.int .i64 2) ∧ wx.cell? ⟨w.heap.size, 1, none⟩ = some (.int .i64 0) ∧ wx.cell? ⟨w.heap.size, 2, none⟩ = some (.bool false) ∧ wx.cell? ⟨w.heap.size, 3, none⟩ = some (.int .i64 0) ∧ wx.cell? ⟨w.heap.size, 4, none⟩ = some (.int .i64 0) ∧ wx.cell? ⟨w.heap.size, 5, none⟩ = some (.string es) ∧ wx.cell? ⟨w.heap.size, 6, none⟩ = some (.string t) ∧ wx.cell? ⟨w.heap.size, 7, none⟩ = some (.string n) ∧ wx.cell? ⟨w.heap.size, 8, none⟩ = some (.slice ea 0 ec) ∧ wx.cell? ⟨w.heap.size, 9, none⟩ = some (.slice sa 0 sc))) := Lib.hid fun wx ys hw => by
    obtain ⟨a0, a1, a2, a3, a4, a5, a6, a7, a8, a9, _, _⟩ := blk10 ((hw.block hz (wm_old H.out hb (Nat.le_refl _))).1.trans hS)
    exact ⟨a0, a1, a2, a3, a4, a5, a6, a7, a8, a9⟩
  have HW0 := Lib.hid ((WSt.refl H.out).bel hb)
  have HW1 := Lib.hid (WSt.refl (H.out.bel hb))
  have HAW := Lib.hid (exs_wst HA.out HW0.out)
  have HLW := Lib.hid (lib_wst HL.out hB H.out HW0.out)
  clear hS hb hW HA HL
  obtain ⟨b0, b1, b2, b3, b4, b5, b6, b7, b8, b9⟩ := HBOX.out _ _ HW1.out
  go_wp2_with fail
  refine (put_any (M := fun _ => False) lo b _ (ws) [t, kDot] _ (HW1.out.rd.bel ((Below.refl _ _).alloc (Nat.le_refl _) _)) (rows_strs [t, kDot] rfl rfl rfl (by simp) _) (by simp) (by have := HN.out; (try simp at this); (try simp); omega)).mono ?_
  rintro e w2 ⟨rfl, hw2⟩
  have HW2 := Lib.hid ((HW1.out.alloc (.cells #[.string t, .string kDot] 9)).trans hw2)
  clear hw2
  clear b0 b1 b2 b3 b4 b5 b6 b7 b8 b9
  obtain ⟨b0, b1, b2, b3, b4, b5, b6, b7, b8, b9⟩ := HBOX.out _ _ HW2.out
  dsimp only
  go_wp2_with fail
  refine (put_any (M := fun _ => False) lo b _ (ws ++ [t, kDot]) [n] _ (HW2.out.rd.bel ((Below.refl _ _).alloc (Nat.le_refl _) _)) (rows_strs [n] rfl rfl rfl (by simp) _) (by simp) (by have := HN.out; (try simp at this); (try simp); omega)).mono ?_
  rintro e w3 ⟨rfl, hw3⟩
  have HW3 := Lib.hid ((HW2.out.alloc (.cells #[.string n] 9)).trans hw3)
  clear hw3
  clear b0 b1 b2 b3 b4 b5 b6 b7 b8 b9
  obtain ⟨b0, b1, b2, b3, b4, b5, b6, b7, b8, b9⟩ := HBOX.out _ _ HW3.out
  dsimp only
  clear b0 b1 b2 b3 b4 b5 b6 b7 b8 b9
  go_wp2_with fail
  go_end0
  exact ⟨rfl, by have h := HW0.out.trans HW3.out; first | exact h | (simp only [List.append_assoc, List.cons_append, List.nil_append] at h ⊢; exact h)⟩

theorem vx_wex {e : Ex} (h : VX e) : WexOk e := by
  induction h with
  | lit v hv h0 =>
    refine wex_lit v ?_
    have hk : 0 ≤ v.kind ∧ v.kind ≤ 3 := by
      unfold validV at hv
      repeat' split at hv
      all_goals first | omega | cases hv
    rcases lit_tw hv h0 with ⟨e, _⟩ | ⟨hk1, e, _⟩ | ⟨e, _⟩ | ⟨e, _⟩ | ⟨e, hp, _⟩
    · rw [e]; exact ⟨by decide, by decide, by decide, by decide, by decide⟩
    · have := h0 hk1
      exact ⟨by rw [e]; show es.size ≤ maxLen; decide, by omega, by omega, by omega, by omega⟩
    · rw [e]; exact ⟨by decide, by decide, by decide, by decide, by decide⟩
    · rw [e]; exact ⟨by decide, by decide, by decide, by decide, by decide⟩
    · have hi : v.int = 0 := by rw [e]
      simp only [plainB, Bool.and_eq_true, decide_eq_true_eq] at hp
      exact ⟨by unfold maxLen; omega, by omega, by omega, by omega, by omega⟩
  | col t n h =>
    cases ht : noText t
    · exact wex_col1 t n ht
    · have e : t = es := bytes_ext (by
        simp only [noText, beq_iff_eq, ByteArray.toList_eq] at ht
        rw [ht]; rfl)
      rw [e]
      exact wex_col0 n
  | ops k o no args hk _ ih =>
    rcases hk with ⟨rfl | rfl, rfl, rfl, hn⟩ | ⟨rfl, rfl, hn⟩ | ⟨rfl, ho1, ho2, rfl, hn⟩ | ⟨rfl, rfl, rfl, hn⟩
    · obtain ⟨a, rfl⟩ := List.length_eq_one_iff.1 hn
      exact wex_not a (ih a (by simp))
    · obtain ⟨a, rfl⟩ := List.length_eq_one_iff.1 hn
      exact wex_neg a (ih a (by simp))
    · obtain ⟨a, rfl⟩ := List.length_eq_one_iff.1 hn
      cases no
      · exact wex_null0 a (ih a (by simp))
      · exact wex_null1 a (ih a (by simp))
    · match args, hn with
      | [a, c], _ => exact wex_bin o ho1 ho2 a c (ih a (by simp)) (ih c (by simp))
    · match args, hn with
      | [a, c, d], _ => exact wex_btw a c d (ih a (by simp)) (ih c (by simp)) (ih d (by simp))
  | sub k f items whr hk hf hw _ _ ih1 ih2 => exact wex_sub k f items whr hk ih1 ih2
end Go.Proofs.YtpnigfmclmfjaaaGreatDoor

namespace Go.Proofs.YtpnigfmclmfjaaaGreatDoor
open Go.RowKit

theorem contains_lib (t : ByteArray) (w : World) (h : LibOk w) : Calls Tryz.prog 92 #[.string ⟨#[44, 59, 46, 41]⟩, .string t] w fun e w' => e = .returned (.bool (Lib.contains [44, 59, 46, 41] t.data.toList)) ∧ w' = w := by
  obtain ⟨_, m, hm⟩ := h
  exact Any.strings_Contains { Tryz.laysM144 with } ⟨#[44, 59, 46, 41]⟩ t m w (by decide) hm

theorem glue_no (cb b1 b2 : Bool) (h : (!cb && !b1 && !b2) = false) : cb = true ∨ (cb = false ∧ b1 = true) ∨ (cb = false ∧ b1 = false ∧ b2 = true) := by
  cases cb <;> cases b1 <;> cases b2 <;> simp at h ⊢
theorem glue_yes (cb b1 b2 : Bool) (h : (!cb && !b1 && !b2) = true) : cb = false ∧ b1 = false ∧ b2 = false := by
  cases cb <;> cases b1 <;> cases b2 <;> simp at h ⊢
theorem joinL_take {l : List ByteArray} {j : Nat} {t : ByteArray} (h : l[j]? = some t) : joinL none (l.take (j + 1)) = joinL none (l.take j) ++ ((if glueB (lastW none (l.take j)) t = true then [32] else []) ++ t.data.toList) := by
  obtain ⟨hlt, rfl⟩ := List.getElem?_eq_some_iff.1 h
  rw [List.take_succ_eq_append_getElem hlt, joinL_snoc]
theorem lastW_take {l : List ByteArray} {j : Nat} {t : ByteArray} (h : l[j]? = some t) : lastW none (l.take (j + 1)) = some t := by
  obtain ⟨hlt, rfl⟩ := List.getElem?_eq_some_iff.1 h
  rw [List.take_succ_eq_append_getElem hlt, lastW_snoc]
theorem joinL_len : ∀ (l : List ByteArray) (p : Option ByteArray), (joinL p l).length ≤ (l.map fun t => t.size + 1).sum
  | [], p => by simp [joinL]
  | t :: l, p => by
    have := joinL_len l (some t)
    rw [joinL]
    simp only [List.length_append, List.map_cons, List.sum_cons, size_list] at *
    have h2 : (if glueB p t = true then [(32 : UInt8)] else []).length ≤ 1 := by split <;> simp
    omega
theorem take_sum (l : List ByteArray) (j : Nat) : ((l.take j).map fun t => t.size + 1).sum ≤ (l.map fun t => t.size + 1).sum := by
  have h : l = l.take j ++ l.drop j := (List.take_append_drop _ _).symm
  have := congrArg (fun l => (l.map fun t : ByteArray => t.size + 1).sum) h
  simp only [List.map_append, List.sum_append] at this
  omega

set_option maxRecDepth 100000 in
set_option maxHeartbeats 8000000 in
theorem wtext_any {M : Nat → Prop} (l : List ByteArray) (v : Value) (w : World) (hv : RowsR M w 1 StrR v l) (hl : LibOk w) (hs : 10 < w.heap.size) (hN : (l.map fun t => t.size + 1).sum ≤ 1000000000000) :
    Calls Tryz.prog 73 #[v] w (RetBel (.string (bs (joinL none l))) w) := by
  have HV := Lib.hid hv
  have HL := Lib.hid hl
  have HN := Lib.hid hN
  obtain ⟨a, c, rfl, hm⟩ := hv.shape
  unfold maxLen at hm
  clear hv hl hN
  go_enter Tryz.func73, Tryz.ntmps73
  go_wp2_with fail
  generalize hW : World.alloc w _ = W
  have hbd : W.heap[w.heap.size]? = some (.cells #[.pointer none, .slice none 0 0] 144 (0, 0)) := by rw [← hW]; exact heap_alloc_new w _
  have hb : Below w.heap.size w W := by rw [← hW]; exact (Below.refl _ _).alloc (Nat.le_refl _) _
  have HB := Lib.hid hb
  have HBD := Lib.hid (BldR.new (B := w.heap.size) (Nat.le_refl _) hbd)
  clear hW hbd hb
  go_loopw [8] (fun i wr => ∃ j : Nat, j ≤ l.length ∧ i = .int .i64 j ∧ BldR w.heap.size w.heap.size (joinL none (l.take j)) wr ∧ Below w.heap.size W wr) (fun i _ => l.length - (intOf i).toNat)
  case atStart => exact ⟨0, Nat.zero_le _, rfl, by simpa [joinL] using HBD.out, Below.refl _ _⟩
  case round =>
    rename World => wr
    obtain ⟨j, hj, rfl, hbr, hbw⟩ := hrel
    have HBR := Lib.hid hbr
    have HBW := Lib.hid (HB.out.trans hbw)
    have HBX := Lib.hid hbw
    have HLR := Lib.hid (HL.out.bel HBW.out hs)
    clear hbr hbw
    by_cases hlt : j < l.length
    · rcases HV.out.open with ⟨_, h0⟩ | ⟨ab, ao, cap', hv', _, hab, hcap, _, hx⟩
      · rw [h0] at hlt
        simp at hlt
      simp only [Value.slice.injEq] at hv'
      obtain ⟨rfl, _, rfl⟩ := hv'
      have hxj : l[j]? = some l[j] := List.getElem?_eq_getElem hlt
      obtain ⟨cs, rfl, _, hcs⟩ := hx j _ hxj
      have c0 := (hcs.keep (M := fun _ => False) (.bel HBW.out) id).c1
      simp only [Nat.mul_one] at c0
      have HX := Lib.hid hx
      have HTK := Lib.hid (joinL_take hxj)
      have HLE := Lib.hid (Nat.le_trans (joinL_len (l.take (j + 1)) none) (Nat.le_trans (take_sum l (j + 1)) HN.out))
      generalize l[j] = t at hxj c0 HTK
      have i0 : (0 : Int) ≤ (j : Int) := by omega
      have i1 : (j : Int) < (l.length : Int) := by omega
      have HLT := Lib.hid (fun (k : Nat) (t : ByteArray) (h : l[k]? = some t) => lastW_take h)
      generalize hnx : joinL none (l.take (j + 1)) = nx at HTK HLE
      have NX := Lib.hid hnx
      clear hnx
      clear hx hcs
      have HCT := Lib.hid (fun w h => contains_lib t w h)
      generalize joinL none (l.take j) = cur at HBR HTK
      rcases Nat.eq_zero_or_pos j with rfl | hjp
      · have HN0 : Hid (nx = cur ++ t.data.toList) := Lib.hid (by rw [HTK.out]; simp [lastW, glueB])
        have HL2 := Lib.hid (show cur.length + t.size ≤ 1000000000000 by have h := HLE.out; rw [HN0.out, List.length_append] at h; rw [size_list]; exact h)
        clear HTK HLE HLT HCT
        simp only [Nat.add_zero] at c0
        go_wp2_with fail
        refine (writeString_b w.heap.size w.heap.size cur t wr HBR.out (by have := HL2.out; omega)).mono ?_
        rintro e w3 ⟨rfl, hb3, hw3⟩
        have HB3 := Lib.hid hb3
        have HW3 := Lib.hid (HBX.out.trans hw3)
        clear hb3 hw3
        dsimp only
        go_wp2_with fail
        go_roundw
        case rel => exact ⟨0 + 1, by omega, by go_num, by rw [NX.out, HN0.out]; exact HB3.out, HW3.out⟩
        case measure => simp [intOf]; omega
      · obtain ⟨k, rfl⟩ : ∃ k, j = k + 1 := ⟨j - 1, by omega⟩
        have hxk : l[k]? = some l[k] := List.getElem?_eq_getElem (by omega)
        obtain ⟨cs, rfl, _, hcs⟩ := HX.out k _ hxk
        have p0 := (hcs.keep (M := fun _ => False) (.bel HBW.out) id).c1
        simp only [Nat.mul_one] at p0
        have hlast := HLT.out k _ hxk
        generalize l[k] = pw at hxk p0 hlast
        rw [hlast] at HTK
        clear hcs hlast
        have i2 : (k : Int) < (l.length : Int) := by omega
        have i3 : (0 : Int) ≤ (k : Int) := by omega
        generalize hcb : Lib.contains [44, 59, 46, 41] t.data.toList = cb at HCT
        have HG : Hid (glueB (some pw) t = (!cb && !(pw.toList == [40]) && !(pw.toList == [46]))) := Lib.hid (by unfold glueB; rw [hcb])
        clear hcb
        cases hg : glueB (some pw) t
        · have HN0 : Hid (nx = cur ++ t.data.toList) := Lib.hid (by rw [HTK.out, hg]; simp)
          have HL2 := Lib.hid (show cur.length + t.size ≤ 1000000000000 by have h := HLE.out; rw [HN0.out, List.length_append] at h; rw [size_list]; exact h)
          have hcase : cb = true ∨ (cb = false ∧ (pw.toList == [40]) = true) ∨ (cb = false ∧ (pw.toList == [40]) = false ∧ (pw.toList == [46]) = true) := by
            have h := HG.out
            rw [hg] at h
            exact glue_no _ _ _ h.symm
          clear HTK HLE HLT hg HG
          rcases hcase with rfl | ⟨rfl, h1⟩ | ⟨rfl, h1, h2⟩
          case' inr.inl => have h1' : (pw.toList != [40]) = false := by simp [bne, h1]
          case' inr.inr =>
            have h1' : (pw.toList != [40]) = true := by simp [bne, h1]
            have h2' : (pw.toList != [46]) = false := by simp [bne, h2]
          all_goals
            go_wp2_with fail
            refine (HCT.out wr HLR.out).mono ?_
            rintro e w2 ⟨rfl, rfl⟩
            dsimp only
            go_wp2_with fail
            refine (writeString_b w.heap.size w.heap.size cur t _ HBR.out (by have := HL2.out; omega)).mono ?_
            rintro e w3 ⟨rfl, hb3, hw3⟩
            have HB3 := Lib.hid hb3
            have HW3 := Lib.hid (HBX.out.trans hw3)
            clear hb3 hw3
            dsimp only
            go_wp2_with fail
            go_roundw
            case rel => exact ⟨k + 1 + 1, by omega, by go_num, by rw [NX.out, HN0.out]; exact HB3.out, HW3.out⟩
            case measure => simp [intOf]; omega
        · have HN0 : Hid (nx = cur ++ [32] ++ t.data.toList) := Lib.hid (by rw [HTK.out, hg]; simp)
          have HL2 := Lib.hid (show cur.length + 1 + t.size ≤ 1000000000000 by have h := HLE.out; rw [HN0.out, List.length_append, List.length_append] at h; rw [size_list]; exact h)
          have hcase : cb = false ∧ (pw.toList == [40]) = false ∧ (pw.toList == [46]) = false := by
            have h := HG.out
            rw [hg] at h
            exact glue_yes _ _ _ h.symm
          clear HTK HLE HLT hg HG
          obtain ⟨rfl, h1, h2⟩ := hcase
          have h1' : (pw.toList != [40]) = true := by simp [bne, h1]
          have h2' : (pw.toList != [46]) = true := by simp [bne, h2]
          go_wp2_with fail
          refine (HCT.out wr HLR.out).mono ?_
          rintro e w2 ⟨rfl, rfl⟩
          dsimp only
          go_wp2_with fail
          refine (writeByte_b w.heap.size w.heap.size cur 32 _ HBR.out (by have := HL2.out; omega)).mono ?_
          rintro e w2 ⟨rfl, hb2, hw2⟩
          have HB2 := Lib.hid hb2
          have HW2 := Lib.hid (HBX.out.trans hw2)
          clear hb2 hw2
          dsimp only
          go_wp2_with fail
          refine (writeString_b w.heap.size w.heap.size (cur ++ [32]) t w2 HB2.out (by have := HL2.out; simp; omega)).mono ?_
          rintro e w3 ⟨rfl, hb3, hw3⟩
          have HB3 := Lib.hid hb3
          have HW3 := Lib.hid (HW2.out.trans hw3)
          clear hb3 hw3
          dsimp only
          go_wp2_with fail
          go_roundw
          case rel => exact ⟨k + 1 + 1, by omega, by go_num, by rw [NX.out, HN0.out]; exact HB3.out, HW3.out⟩
          case measure => simp [intOf]; omega
    · obtain rfl : j = l.length := by omega
      have HF := Lib.hid (show BldR w.heap.size w.heap.size (joinL none l) wr from by have h := HBR.out; rw [List.take_length] at h; exact h)
      go_wp2_with fail
      refine (string_b w.heap.size w.heap.size _ wr HF.out).mono ?_
      rintro e w3 ⟨rfl, _, hb3⟩
      have HB3 := Lib.hid (HBW.out.trans hb3)
      clear hb3
      dsimp only
      go_wp2_with fail
      go_ret
      exact ⟨rfl, HB3.out⟩
end Go.Proofs.YtpnigfmclmfjaaaGreatDoor
