/- The operator's text, and the contract of argument over what expr writes. -/
import Derived.Test.YtppiaaolggpjdaaDoorX2
import Derived.Test.YtppiaaolggpjdaaDoorQ3
import Derived.Test.YtppiaaolggpjdaaDoorKL
import Derived.Test.YtppiaaolggpjdaaDoorKD2
import Derived.Test.YtppiaaolggpjdaaDoorKV2
import Derived.Deep.RegionHeld3
namespace Go.Proofs.YtppiaaolggpjdaaDoor
open Go.RowKit

theorem wm_old {lo b : Nat} {w W : World} {xs : List ByteArray} (h : WrR lo b w xs) (k : Below w.heap.size w W) {S : Nat} (hS : w.heap.size ≤ S) : ¬ WM b W S := fun hm => by
  have := h.wm_lt ((WM.bel h k S).1 hm)
  omega
theorem ec_wst {lo b : Nat} {w0 w1 : World} {xs : List ByteArray} {e : Ex} {cs : List Value} (h : EC (WM b w0) w0 e cs) (k : WSt lo b w0 w1 xs) : EC (WM b w1) w1 e cs := by
  have h1 : EC (fun i => WM b w0 i ∨ w0.heap.size ≤ i) w0 e cs := EC.weak (fun i hi hh => hh.resolve_right (by omega)) _ _ h
  have h2 := EC.keep (k.keep.weak fun i _ hh => Or.inl hh) _ _ h1
  exact EC.weak (fun i hi hh => by
    by_cases hlt : i < w0.heap.size
    · exact .inl (k.inc i hlt hh)
    · exact .inr (by omega)) _ _ h2
theorem lib_wst {lo b : Nat} {w0 w1 : World} {xs ys : List ByteArray} (h : LibOk w0) (hb : 4 < b) (h0 : WrR lo b w0 ys) (k : WSt lo b w0 w1 xs) : LibOk w1 :=
  h.keep k.keep (fun i hi hm => by
    rcases h0.wm hm with rfl | h'
    · omega
    · have := h0.1
      omega) (by have := h0.lt; omega)

/-- What expr writes. -/
def WexOk (e : Ex) : Prop := ∀ (lo b : Nat) (cs : List Value) (xs : List ByteArray) (w : World), WrR lo b w xs → EC (WM b w) w e cs → LibOk w → 4 < b → xs.length + (wordsP e).length ≤ 1000000000 →
  Calls Tryd.prog 92 #[.pointer (some ⟨b, 0, none⟩), .agg cs.toArray] w (WPost lo b w (xs ++ wordsP e))

theorem flat_strs : ∀ ys : List ByteArray, (ys.map fun y => [Value.string y]).flatten = ys.map Value.string
  | [] => rfl
  | y :: l => by rw [List.map_cons, List.flatten_cons, flat_strs l]; rfl
theorem rows_strs {w : World} {arr : Array Value} {g n : Nat} (ys : List ByteArray) (hg : g = w.heap.size) (ha : arr.toList = ys.map Value.string) (hn : n = ys.length) (hm : n ≤ 1000) (t : TypeId) : RowsR (fun _ => False) (w.alloc (.cells arr t)) 1 StrR (.slice (some ⟨g, 0, none⟩) n n) ys := by
  subst hn
  refine RowsR.new (ys.map fun y => [Value.string y]) hg id (by rw [ha, flat_strs]) (by simp) (by simp) (by simp) (by unfold maxLen; omega) (by simp) fun i y cs hi hc => ?_
  simp only [List.getElem?_map, hi, Option.map_some, Option.some.injEq] at hc
  exact hc.symm

def ops14 : Array Value := #[.string ⟨#[]⟩, .string ⟨#[79, 82]⟩, .string ⟨#[65, 78, 68]⟩, .string ⟨#[61]⟩, .string ⟨#[60, 62]⟩, .string ⟨#[60]⟩, .string ⟨#[60, 61]⟩, .string ⟨#[62]⟩, .string ⟨#[62, 61]⟩, .string ⟨#[43]⟩, .string ⟨#[45]⟩, .string ⟨#[42]⟩, .string ⟨#[47]⟩, .string ⟨#[37]⟩]
set_option maxRecDepth 100000 in
set_option maxHeartbeats 4000000 in
theorem operator_any (o : Int) (w : World) (h1 : 1 ≤ o) (h2 : o ≤ 13) : Calls Tryd.prog 139 #[.int .i64 o] w fun e w' => e = .returned (.string (opS o)) ∧ w = w' := by
  have f1 : ∀ w : World, (Instr.index 199 (.agg ops14) (.int .i64 1)).run Tryd.prog w = .ok (.string ⟨#[79, 82]⟩) w := fun _ => by kernel_rfl
  have f2 : ∀ w : World, (Instr.index 199 (.agg ops14) (.int .i64 2)).run Tryd.prog w = .ok (.string ⟨#[65, 78, 68]⟩) w := fun _ => by kernel_rfl
  have f3 : ∀ w : World, (Instr.index 199 (.agg ops14) (.int .i64 3)).run Tryd.prog w = .ok (.string ⟨#[61]⟩) w := fun _ => by kernel_rfl
  have f4 : ∀ w : World, (Instr.index 199 (.agg ops14) (.int .i64 4)).run Tryd.prog w = .ok (.string ⟨#[60, 62]⟩) w := fun _ => by kernel_rfl
  have f5 : ∀ w : World, (Instr.index 199 (.agg ops14) (.int .i64 5)).run Tryd.prog w = .ok (.string ⟨#[60]⟩) w := fun _ => by kernel_rfl
  have f6 : ∀ w : World, (Instr.index 199 (.agg ops14) (.int .i64 6)).run Tryd.prog w = .ok (.string ⟨#[60, 61]⟩) w := fun _ => by kernel_rfl
  have f7 : ∀ w : World, (Instr.index 199 (.agg ops14) (.int .i64 7)).run Tryd.prog w = .ok (.string ⟨#[62]⟩) w := fun _ => by kernel_rfl
  have f8 : ∀ w : World, (Instr.index 199 (.agg ops14) (.int .i64 8)).run Tryd.prog w = .ok (.string ⟨#[62, 61]⟩) w := fun _ => by kernel_rfl
  have f9 : ∀ w : World, (Instr.index 199 (.agg ops14) (.int .i64 9)).run Tryd.prog w = .ok (.string ⟨#[43]⟩) w := fun _ => by kernel_rfl
  have f10 : ∀ w : World, (Instr.index 199 (.agg ops14) (.int .i64 10)).run Tryd.prog w = .ok (.string ⟨#[45]⟩) w := fun _ => by kernel_rfl
  have f11 : ∀ w : World, (Instr.index 199 (.agg ops14) (.int .i64 11)).run Tryd.prog w = .ok (.string ⟨#[42]⟩) w := fun _ => by kernel_rfl
  have f12 : ∀ w : World, (Instr.index 199 (.agg ops14) (.int .i64 12)).run Tryd.prog w = .ok (.string ⟨#[47]⟩) w := fun _ => by kernel_rfl
  have f13 : ∀ w : World, (Instr.index 199 (.agg ops14) (.int .i64 13)).run Tryd.prog w = .ok (.string ⟨#[37]⟩) w := fun _ => by kernel_rfl
  unfold ops14 at *
  have : o = 1 ∨ o = 2 ∨ o = 3 ∨ o = 4 ∨ o = 5 ∨ o = 6 ∨ o = 7 ∨ o = 8 ∨ o = 9 ∨ o = 10 ∨ o = 11 ∨ o = 12 ∨ o = 13 := by omega
  clear h1 h2
  rcases this with rfl | rfl | rfl | rfl | rfl | rfl | rfl | rfl | rfl | rfl | rfl | rfl | rfl
  all_goals
    go_enter Tryd.func139, Tryd.ntmps139
    go_wp2_with fail
    go_ret
    exact ⟨rfl, rfl⟩

set_option maxRecDepth 100000 in
set_option maxHeartbeats 4000000 in
theorem wargument_any (k o : Int) (no : Bool) (vk vi : Int) (tx t nm : ByteArray) (va vs : Value) (args : List Ex) (i : Nat) (x : Ex) (hi : args[i]? = some x) (hx : WexOk x) (lo b : Nat) (ws : List ByteArray) (w : World) (h : WrR lo b w ws) (hA : ExsR (WM b w) w va args) (hl : LibOk w) (hB : 4 < b) (hN : ws.length + (argW k o i x).length ≤ 1000000000) :
    Calls Tryd.prog 138 #[.pointer (some ⟨b, 0, none⟩), .agg #[.int .i64 k, .int .i64 o, .bool no, .int .i64 vk, .int .i64 vi, .string tx, .string t, .string nm, va, vs], .int .i64 i] w (WPost lo b w (ws ++ argW k o i x)) := by
  have H := Lib.hid h
  have HL := Lib.hid hl
  have HX := Lib.hid hx
  have HN := Lib.hid hN
  have hlt : i < args.length := (List.getElem?_eq_some_iff.1 hi).1
  have hbw := h.lt
  rcases hA.open with ⟨_, h0⟩ | ⟨ab, ao, cap', rfl, _, hab, _, hcm, hxx⟩
  · rw [h0] at hlt
    simp at hlt
  obtain ⟨cs, hc, _, hcs⟩ := hxx i _ hi
  have HE := Lib.hid hc
  obtain ⟨xva, xvs, rfl, hva, hvs⟩ := (EC_iff ..).1 hc
  obtain ⟨xa, xac, rfl, _⟩ := hva.shape
  obtain ⟨xs, xsc, rfl, _⟩ := hvs.shape
  obtain ⟨c0, c1, c2, c3, c4, c5, c6, c7, c8, c9⟩ := CellsAt.c10 hcs
  simp only [exCells] at HE
  have hpr := fun wx => prec_any x.kind x.op x.no x.val.kind x.val.int x.val.text x.table x.name (.slice xa x.args.length xac) (.slice xs x.sub.length xsc) wx
  have hls := fun wx => least_any k o no vk vi tx t nm (.slice (some ⟨ab, ao, none⟩) args.length cap') vs i wx
  have hag : argW k o i x = if precP x.kind x.op < leastP k o i then kOpen :: (wordsP x ++ [kShut]) else wordsP x := rfl
  rw [hag] at HN ⊢
  clear hag
  generalize precP x.kind x.op = p at hpr HN ⊢
  generalize leastP k o i = q at hls HN ⊢
  generalize hout : (if p < q then kOpen :: (wordsP x ++ [kShut]) else wordsP x) = out at HN ⊢
  have HO := Lib.hid hout
  clear hout
  have HPR := Lib.hid hpr
  have HLS := Lib.hid hls
  have i0 : (0 : Int) ≤ (i : Int) := by omega
  have i1 : (i : Int) < (args.length : Int) := by omega
  have i2 : (args.length : Int) ≤ 9223372036854775807 := by unfold maxLen at hcm; omega
  clear h hl hx hN hi hA hxx hc hcs hva hvs hpr hls
  go_enter Tryd.func138, Tryd.ntmps138
  go_upto_region 2 with fail
  generalize hW : World.alloc (World.alloc w _) _ = W
  have hS : W.heap[w.heap.size]? = some (.cells #[.int .i64 k, .int .i64 o, .bool no, .int .i64 vk, .int .i64 vi, .string tx, .string t, .string nm, .slice (some ⟨ab, ao, none⟩) args.length cap', vs] 27 (0, 0)) := by rw [← hW]; exact (heap_alloc_old _ _ (by simp)).trans (heap_alloc_new w _)
  have hS1 : W.heap[w.heap.size + 1]? = some (.cells #[.int .i64 x.kind, .int .i64 x.op, .bool x.no, .int .i64 x.val.kind, .int .i64 x.val.int, .string x.val.text, .string x.table, .string x.name, .slice xa x.args.length xac, .slice xs x.sub.length xsc] 27 (0, 0)) := by rw [← hW]; have h := heap_alloc_new (w.alloc (.cells #[.int .i64 k, .int .i64 o, .bool no, .int .i64 vk, .int .i64 vi, .string tx, .string t, .string nm, .slice (some ⟨ab, ao, none⟩) args.length cap', vs] 27)) (.cells #[.int .i64 x.kind, .int .i64 x.op, .bool x.no, .int .i64 x.val.kind, .int .i64 x.val.int, .string x.val.text, .string x.table, .string x.name, .slice xa x.args.length xac, .slice xs x.sub.length xsc] 27); rw [World.size_alloc] at h; exact h
  have hb : Below w.heap.size w W := by rw [← hW]; exact ((Below.refl _ _).alloc (Nat.le_refl _) _).alloc (by simp) _
  have hz := (Array.getElem?_eq_some_iff.1 hS1).1
  have HS1 := Lib.hid hS1
  have HBW := Lib.hid hb
  have HSQ : Hid (∀ wx : World, Below W.heap.size W wx → (wx.cell? ⟨w.heap.size, 0, none⟩ = some (.int .i64 k) ∧ wx.cell? ⟨w.heap.size, 1, none⟩ = some (.int .i64 o) ∧ wx.cell? ⟨w.heap.size, 2, none⟩ = some (.bool no) ∧ wx.cell? ⟨w.heap.size, 3, none⟩ = some (.int .i64 vk) ∧ wx.cell? ⟨w.heap.size, 4, none⟩ = some (.int .i64 vi) ∧ wx.cell? ⟨w.heap.size, 5, none⟩ = some (.string tx) ∧ wx.cell? ⟨w.heap.size, 6, none⟩ = some (.string t) ∧ wx.cell? ⟨w.heap.size, 7, none⟩ = some (.string nm) ∧ wx.cell? ⟨w.heap.size, 8, none⟩ = some (.slice (some ⟨ab, ao, none⟩) args.length cap') ∧ wx.cell? ⟨w.heap.size, 9, none⟩ = some vs) ∧
      (wx.cell? ⟨w.heap.size + 1, 0, none⟩ = some (.int .i64 x.kind) ∧ wx.cell? ⟨w.heap.size + 1, 1, none⟩ = some (.int .i64 x.op) ∧ wx.cell? ⟨w.heap.size + 1, 2, none⟩ = some (.bool x.no) ∧ wx.cell? ⟨w.heap.size + 1, 3, none⟩ = some (.int .i64 x.val.kind) ∧ wx.cell? ⟨w.heap.size + 1, 4, none⟩ = some (.int .i64 x.val.int) ∧ wx.cell? ⟨w.heap.size + 1, 5, none⟩ = some (.string x.val.text) ∧ wx.cell? ⟨w.heap.size + 1, 6, none⟩ = some (.string x.table) ∧ wx.cell? ⟨w.heap.size + 1, 7, none⟩ = some (.string x.name) ∧ wx.cell? ⟨w.heap.size + 1, 8, none⟩ = some (.slice xa x.args.length xac) ∧ wx.cell? ⟨w.heap.size + 1, 9, none⟩ = some (.slice xs x.sub.length xsc))) := Lib.hid fun wx hb => by
    obtain ⟨a0, a1, a2, a3, a4, a5, a6, a7, a8, a9, _, _⟩ := blk10 ((hb.block w.heap.size (by omega)).trans hS)
    obtain ⟨d0, d1, d2, d3, d4, d5, d6, d7, d8, d9, _, _⟩ := blk10 ((hb.block (w.heap.size + 1) hz).trans hS1)
    exact ⟨⟨a0, a1, a2, a3, a4, a5, a6, a7, a8, a9⟩, ⟨d0, d1, d2, d3, d4, d5, d6, d7, d8, d9⟩⟩
  have HBOX : Hid (∀ wx ys, WSt lo b W wx ys → wx.cell? ⟨w.heap.size + 1, 0, none⟩ = some (.int .i64 x.kind) ∧ wx.cell? ⟨w.heap.size + 1, 1, none⟩ = some (.int .i64 x.op) ∧ wx.cell? ⟨w.heap.size + 1, 2, none⟩ = some (.bool x.no) ∧ wx.cell? ⟨w.heap.size + 1, 3, none⟩ = some (.int .i64 x.val.kind) ∧ wx.cell? ⟨w.heap.size + 1, 4, none⟩ = some (.int .i64 x.val.int) ∧ wx.cell? ⟨w.heap.size + 1, 5, none⟩ = some (.string x.val.text) ∧ wx.cell? ⟨w.heap.size + 1, 6, none⟩ = some (.string x.table) ∧ wx.cell? ⟨w.heap.size + 1, 7, none⟩ = some (.string x.name) ∧ wx.cell? ⟨w.heap.size + 1, 8, none⟩ = some (.slice xa x.args.length xac) ∧ wx.cell? ⟨w.heap.size + 1, 9, none⟩ = some (.slice xs x.sub.length xsc)) := Lib.hid fun wx ys hw => by
    obtain ⟨d0, d1, d2, d3, d4, d5, d6, d7, d8, d9, _, _⟩ := blk10 ((hw.block hz (wm_old H.out hb (by omega))).1.trans hS1)
    exact ⟨d0, d1, d2, d3, d4, d5, d6, d7, d8, d9⟩
  have HW0 := Lib.hid ((WSt.refl H.out).bel hb)
  have HW := Lib.hid (WSt.refl (H.out.bel hb))
  have HEW := Lib.hid (ec_wst HE.out HW0.out)
  have HLW := Lib.hid (lib_wst HL.out hB H.out HW0.out)
  have HC := Lib.hid (drew_below (Below.refl W.heap.size W))
  clear hS hS1 hb hW c0 c1 c2 c3 c4 c5 c6 c7 c8 c9 HE HL
  go_cut [17] (fun v wx => v = .bool (decide (q ≤ p)) ∧ Below W.heap.size W wx)
  case first =>
    go_region_held3 (fun wx => (wx.cell? ⟨w.heap.size, 0, none⟩ = some (.int .i64 k) ∧ wx.cell? ⟨w.heap.size, 1, none⟩ = some (.int .i64 o) ∧ wx.cell? ⟨w.heap.size, 2, none⟩ = some (.bool no) ∧ wx.cell? ⟨w.heap.size, 3, none⟩ = some (.int .i64 vk) ∧ wx.cell? ⟨w.heap.size, 4, none⟩ = some (.int .i64 vi) ∧ wx.cell? ⟨w.heap.size, 5, none⟩ = some (.string tx) ∧ wx.cell? ⟨w.heap.size, 6, none⟩ = some (.string t) ∧ wx.cell? ⟨w.heap.size, 7, none⟩ = some (.string nm) ∧ wx.cell? ⟨w.heap.size, 8, none⟩ = some (.slice (some ⟨ab, ao, none⟩) args.length cap') ∧ wx.cell? ⟨w.heap.size, 9, none⟩ = some vs) ∧
      (wx.cell? ⟨w.heap.size + 1, 0, none⟩ = some (.int .i64 x.kind) ∧ wx.cell? ⟨w.heap.size + 1, 1, none⟩ = some (.int .i64 x.op) ∧ wx.cell? ⟨w.heap.size + 1, 2, none⟩ = some (.bool x.no) ∧ wx.cell? ⟨w.heap.size + 1, 3, none⟩ = some (.int .i64 x.val.kind) ∧ wx.cell? ⟨w.heap.size + 1, 4, none⟩ = some (.int .i64 x.val.int) ∧ wx.cell? ⟨w.heap.size + 1, 5, none⟩ = some (.string x.val.text) ∧ wx.cell? ⟨w.heap.size + 1, 6, none⟩ = some (.string x.table) ∧ wx.cell? ⟨w.heap.size + 1, 7, none⟩ = some (.string x.name) ∧ wx.cell? ⟨w.heap.size + 1, 8, none⟩ = some (.slice xa x.args.length xac) ∧ wx.cell? ⟨w.heap.size + 1, 9, none⟩ = some (.slice xs x.sub.length xsc)))
      (first | (with_reducible exact HSQ.out _ HC.out) | go_keep)
      (first
        | ((go_at_call 55); ((refine (HPR.out _).mono ?_); rintro e wy ⟨rfl, hb⟩; have HC := Lib.hid (HC.out.trans (hb.mono HC.out.size)); clear hb))
        | ((go_at_call 103); ((refine (HLS.out _).mono ?_); rintro e wy ⟨rfl, hb⟩; have HC := Lib.hid (HC.out.trans (hb.mono HC.out.size)); clear hb)))
    all_goals
      go_wp2_with fail
      go_meet
      exact ⟨by first | rfl | (simp; done), HC.out⟩
  case rest =>
    obtain ⟨rfl, hbx⟩ := hcut
    rename World => wx
    have HWX := Lib.hid (HW.out.bel hbx)
    have HEX := Lib.hid (ec_wst HEW.out HWX.out)
    have HLX := Lib.hid (HLW.out.bel hbx (by have := H.out.lt; have := HBW.out.size; omega))
    clear hbx
    by_cases hpq : p < q
    · have hd : decide (q ≤ p) = false := by simp only [decide_eq_false_iff_not]; omega
      obtain rfl : kOpen :: (wordsP x ++ [kShut]) = out := by have h := HO.out; rw [if_pos hpq] at h; exact h
      have hlen := HN.out
      simp only [List.length_cons, List.length_append, List.length_nil] at hlen
      go_wp2_with fail
      refine (put_any (M := fun _ => False) lo b _ ws [kOpen] _ (HWX.out.rd.bel ((Below.refl _ _).alloc (Nat.le_refl _) _)) (rows_strs [kOpen] rfl rfl rfl (by decide) _) (by decide) (by simp; omega)).mono ?_
      rintro e w3 ⟨rfl, hw3⟩
      have HW3 := Lib.hid ((HWX.out.alloc (.cells #[.string kOpen] 9)).trans hw3)
      obtain ⟨d0, d1, d2, d3, d4, d5, d6, d7, d8, d9⟩ := HBOX.out _ _ HW3.out
      have HE3 := Lib.hid (ec_wst HEW.out HW3.out)
      have HL3 := Lib.hid (lib_wst HLW.out hB HW.out.rd HW3.out)
      clear hw3
      dsimp only
      go_wp2_with fail
      refine (HX.out lo b _ (ws ++ [kOpen]) w3 HW3.out.rd HE3.out HL3.out hB (by simp; omega)).mono ?_
      rintro e w4 ⟨rfl, hw4⟩
      have HW4 := Lib.hid (HW3.out.trans hw4)
      clear hw4 d0 d1 d2 d3 d4 d5 d6 d7 d8 d9
      dsimp only
      go_wp2_with fail
      refine (put_any (M := fun _ => False) lo b _ (ws ++ [kOpen] ++ wordsP x) [kShut] _ (HW4.out.rd.bel ((Below.refl _ _).alloc (Nat.le_refl _) _)) (rows_strs [kShut] rfl rfl rfl (by decide) _) (by decide) (by simp; omega)).mono ?_
      rintro e w5 ⟨rfl, hw5⟩
      have HW5 := Lib.hid (HW0.out.trans ((HW4.out.alloc (.cells #[.string kShut] 9)).trans hw5))
      clear hw5
      dsimp only
      go_wp2_with fail
      go_end0
      exact ⟨rfl, by have h := HW5.out; simp only [List.append_assoc, List.cons_append, List.nil_append] at h ⊢; exact h⟩
    · have hd : decide (q ≤ p) = true := by simp only [decide_eq_true_eq]; omega
      obtain rfl : wordsP x = out := by have h := HO.out; rw [if_neg hpq] at h; exact h
      obtain ⟨d0, d1, d2, d3, d4, d5, d6, d7, d8, d9⟩ := HBOX.out _ _ HWX.out
      go_wp2_with fail
      refine (HX.out lo b _ ws wx HWX.out.rd HEX.out HLX.out hB HN.out).mono ?_
      rintro e w3 ⟨rfl, hw3⟩
      have HW3 := Lib.hid (HW0.out.trans (HWX.out.trans hw3))
      clear hw3 d0 d1 d2 d3 d4 d5 d6 d7 d8 d9
      dsimp only
      go_wp2_with fail
      go_end0
      exact ⟨rfl, HW3.out⟩
end Go.Proofs.YtppiaaolggpjdaaDoor
