/- Reading operands from the left where no operator follows. -/
import Derived.Test.YtkhlmofcdchccaaGreatDoorP1x
import Derived.Test.YtkhlmofcdchccaaGreatDoorMS
namespace Go.Proofs.YtkhlmofcdchccaaGreatDoor
open Go.RowKit Go.Maps

inductive POut where
  | ok (x : Ex) (l : List Tok)
  | fail (at_ code : Int)
/-- What reading an expression leaves. -/
def RdP (R : Nat) (en lev : Int) (o : POut) (w : World) (e : Ending) (w' : World) : Prop :=
  match o with
  | .ok x l => Rds R en lev l (ExQ w.heap.size x) w e w'
  | .fail a c => Fails R a c w e w'
/-- A method of the reader that reads an expression with this outcome. -/
def Reads (f : Nat) (R : Nat) (en lev : Int) (l : List Tok) (o : POut) : Prop := ∀ w, RdOk R en lev l w → Calls Tryz.prog f #[.pointer (some ⟨R, 0, none⟩)] w (RdP R en lev o w)
theorem grow_bel {w w' : World} (h : Below w.heap.size w w') : w.grownBy w' none := ⟨h.os, h.tape, h.output, h.size, fun i hi _ => h.block i hi⟩
theorem bel_grow {B : Nat} {a w w' : World} {row : Option Nat} (h : Below B a w) (hg : w.grownBy w' row) (hB : B ≤ w.heap.size) (hr : ∀ k, row = some k → B ≤ k) : Below B a w' :=
  h.trans ⟨hg.os, hg.tape, hg.output, hg.size, fun k hk => hg.block k (by omega) fun e => by have := hr k e.symm; omega⟩
def SM (w : World) (b : Nat) (ks : List ByteArray) : Prop := SMap Tryz.prog 9 3 w b ks

set_option maxRecDepth 100000 in
set_option maxHeartbeats 2000000 in
theorem left_ok (f R : Nat) (en lev : Int) (l l' : List Tok) (x : Ex) (mb : Nat) (ks : List ByteArray) (w : World) (hf : Reads f R en lev l (.ok x l')) (hcf : ∀ w, Sem.run Tryz.prog (callFunc f #[.pointer (some ⟨R, 0, none⟩)]) w = .ok (.enter f #[.pointer (some ⟨R, 0, none⟩)]) w) (h : RdOk R en lev l w) (hm : SM w mb ks) (hmR : mb ≠ R) (hn : ∀ s ∈ ks, isB s l' = false) :
    Calls Tryz.prog 48 #[.pointer (some ⟨R, 0, none⟩), .func (Fn.func f) #[.pointer (some ⟨R, 0, none⟩)] #[], .map (some mb)] w (Rds R en lev l' (ExQ w.heap.size x) w) := by
  have hRz := h.lt
  have HF := Lib.hid hf
  have HO := Lib.hid h
  have HM := Lib.hid hm
  have HN := Lib.hid hn
  clear hf h hm hn
  go_enter Tryz.func48, Tryz.ntmps48
  go_wp2_with fail
  go_step3
  go_wp2_with fail
  refine (HF.out _ (HO.out.alloc _)).mono ?_
  rintro e w1 ⟨v, rfl, hv, ho, hk⟩
  have HO1 := Lib.hid ho
  obtain ⟨hb, hz, hk1⟩ := box10 hk hRz
  have HK := Lib.hid hk1
  have HV := Lib.hid hv
  obtain ⟨aa, sa, ac, sc, rfl⟩ := hv.shape
  clear ho hk hk1 hv
  dsimp only
  go_wp2_with fail
  have hO2 := HO1.out.alloc (.cells #[.int .i64 x.kind, .int .i64 x.op, .bool x.no, .int .i64 x.val.kind, .int .i64 x.val.int, .string x.val.text, .string x.table, .string x.name, .slice aa x.args.length ac, .slice sa x.sub.length sc] 30)
  have hV2 := HV.out.keep ((Keep.refl (fun _ => False) _).alloc (.cells #[.int .i64 x.kind, .int .i64 x.op, .bool x.no, .int .i64 x.val.kind, .int .i64 x.val.int, .string x.val.text, .string x.table, .string x.name, .slice aa x.args.length ac, .slice sa x.sub.length sc] 30)) fun _ h => h.elim
  have hK2 := HK.out.alloc (.cells #[.int .i64 x.kind, .int .i64 x.op, .bool x.no, .int .i64 x.val.kind, .int .i64 x.val.int, .string x.val.text, .string x.table, .string x.name, .slice aa x.args.length ac, .slice sa x.sub.length sc] 30)
  have hb2 := heap_alloc_new w1 (.cells #[.int .i64 x.kind, .int .i64 x.op, .bool x.no, .int .i64 x.val.kind, .int .i64 x.val.int, .string x.val.text, .string x.table, .string x.name, .slice aa x.args.length ac, .slice sa x.sub.length sc] 30)
  have hr2 : (w1.alloc (.cells #[.int .i64 x.kind, .int .i64 x.op, .bool x.no, .int .i64 x.val.kind, .int .i64 x.val.int, .string x.val.text, .string x.table, .string x.name, .slice aa x.args.length ac, .slice sa x.sub.length sc] 30)).heap[w.heap.size]? = _ := (((Below.refl _ w1).alloc (Nat.le_refl _) _).block _ hz).trans hb
  generalize hW : World.alloc w1 _ = w2 at hO2 hV2 hK2 hb2 hr2 ⊢
  have hz2 : w1.heap.size < w2.heap.size := by rw [← hW]; simp
  generalize w1.heap.size = eb at hb2 hz hz2 ⊢
  have HO2 := Lib.hid hO2
  have HV2 := Lib.hid hV2
  have HK2 := Lib.hid hK2
  have HEB := Lib.hid hb2
  have HRB := Lib.hid hr2
  have hm2 := HM.out.keep hK2 hmR
  obtain ⟨D, n, hn, hown, hhas⟩ := hm2
  have HH := Lib.hid hhas
  clear hO2 hV2 hK2 hb2 hr2 hW hb hhas HK HO1 HV HM
  go_step3
  go_wp2_with fail
  refine wp_loop_rounds 1 ?_
  rw [rounds_succ]
  go_wp2_with (first
      | (at_range; refine wpList_range_own _ rfl _ 131 rfl 9 3 (string_keyed Tryz.underlying9) Tryz.underlying131 _ mb n D rfl hown ?_; intro w0 hrg0 hg0 hs0)
      | fail)
  go_frame
  go_loopw [] (fun wr => ∃ (left : Lit → Bool) (cnt : Nat), wr.ranges Tryz.prog 9 (plainElem Tryz.prog 3) mb w2.heap.size n D left cnt ∧ (∀ kl, left kl = true → Maps.has D kl = true) ∧ Below w2.heap.size w2 wr)
      (fun wr => wr.rangeLeft mb w2.heap.size)
  case atStart => exact ⟨_, _, hrg0, fun _ h => h, bel_grow (Below.refl _ _) hg0 (Nat.le_refl _) (fun k h => by cases h)⟩
  case round =>
    rename World => wr
    obtain ⟨left, cnt, hrg, hlD, hbw⟩ := hrel
    have HLD := Lib.hid hlD
    have HBW := Lib.hid hbw
    clear hlD hbw hown hrg0 hg0 hs0
    go_wp2_with (first
        | (at_next; go_loud (refine wpList_next_str _ rfl _ rfl Tryz.underlying9 Tryz.underlying3 mb w2.heap.size n D ks left cnt rfl hrg HH.out HLD.out ?_ ?_))
        | fail)
    · intro _
      have hbe := (HBW.out.block _ (by have := hz2; omega)).trans HEB.out
      have hbr := (HBW.out.block _ (by have := hz2; omega)).trans HRB.out
      have hzr : w.heap.size < wr.heap.size := by have := HBW.out.size; omega
      obtain ⟨e0, e1, e2, e3, e4, e5, e6, e7, e8, e9, _⟩ := blk10 hbe
      obtain ⟨x0, x1, x2, x3, x4, x5, x6, x7, x8, x9, xf, _⟩ := blk10 hbr
      clear hbe hbr hrg
      go_wp2_with fail
      refine bodyPost_ret (v := .agg #[.int .i64 x.kind, .int .i64 x.op, .bool x.no, .int .i64 x.val.kind, .int .i64 x.val.int, .string x.val.text, .string x.table, .string x.name, .slice aa x.args.length ac, .slice sa x.sub.length sc]) (by simp [results, Tryz.results48, go_sem, x0, x1, x2, x3, x4, x5, x6, x7, x8, x9]) rfl ?_
      have FIN := ex_end (HO2.out.bel HBW.out) (HV2.out.keep (M := fun _ => False) (.bel HBW.out) fun _ h => h.elim) (HK2.out.trans (.bel HBW.out)) hRz (Nat.le_refl w.heap.size) (by simp) (.int .i64 x.kind) (.int .i64 x.op) (.bool x.no) (.int .i64 x.val.kind) (.int .i64 x.val.int) (.string x.val.text) (.string x.table) (.string x.name) (.slice aa x.args.length ac) (.slice sa x.sub.length sc)
      exact FIN
    · intro s c w3 left3 cnt3 hsk hrg3 hlD3 hlt hg3 hen
      have HEN := Lib.hid hen
      have HRG := Lib.hid hrg3
      have HRG0 := Lib.hid hrg
      have HLT := Lib.hid hlt
      have HLD3 := Lib.hid hlD3
      have HB3 := Lib.hid (bel_grow HBW.out hg3 HBW.out.size fun k h => by cases h; exact Nat.le_refl _)
      have HNS := Lib.hid (HN.out s hsk)
      clear hrg hrg3 hlt hlD3 hg3 hsk
      go_wp2_with fail
      refine (accept_no R en lev l' s w3 (HO2.out.bel HB3.out) HNS.out).mono ?_
      rintro e w4 ⟨rfl, hb4⟩
      have HB4 := Lib.hid hb4
      clear hb4
      dsimp only
      go_wp2_with fail
      go_roundw
      case rel => exact ⟨left3, cnt3, HRG.out.kept (grow_bel HB4.out) (by simp) (by simp), HLD3.out, HB3.out.trans (HB4.out.mono HB3.out.size)⟩
      case measure => rw [(HRG.out.kept (grow_bel HB4.out) (by simp) (by simp)).left_eq, HRG0.out.left_eq]; exact HLT.out

set_option maxRecDepth 100000 in
set_option maxHeartbeats 2000000 in
theorem left_fail (f R : Nat) (en lev : Int) (l : List Tok) (a c : Int) (mb : Nat) (w : World) (hf : Reads f R en lev l (.fail a c)) (hcf : ∀ w, Sem.run Tryz.prog (callFunc f #[.pointer (some ⟨R, 0, none⟩)]) w = .ok (.enter f #[.pointer (some ⟨R, 0, none⟩)]) w) (h : RdOk R en lev l w) :
    Calls Tryz.prog 48 #[.pointer (some ⟨R, 0, none⟩), .func (Fn.func f) #[.pointer (some ⟨R, 0, none⟩)] #[], .map (some mb)] w (Fails R a c w) := by
  have HF := Lib.hid hf
  have HO := Lib.hid h
  clear hf h
  go_enter Tryz.func48, Tryz.ntmps48
  go_wp2_with fail
  go_step3
  go_wp2_with fail
  refine (HF.out _ (HO.out.alloc _)).mono ?_
  rintro e w1 ⟨rfl, hk⟩
  have HK := Lib.hid (((Keep.refl _ w).alloc _).trans hk)
  clear hk
  dsimp only
  go_wp2_with fail
  exact ⟨rfl, rfl, HK.out⟩

theorem left_any (f R : Nat) (en lev : Int) (l : List Tok) (o : POut) (mb : Nat) (ks : List ByteArray) (w : World) (hf : Reads f R en lev l o) (hcf : ∀ w, Sem.run Tryz.prog (callFunc f #[.pointer (some ⟨R, 0, none⟩)]) w = .ok (.enter f #[.pointer (some ⟨R, 0, none⟩)]) w) (h : RdOk R en lev l w) (hm : SM w mb ks) (hmR : mb ≠ R) (hn : ∀ x l', o = .ok x l' → ∀ s ∈ ks, isB s l' = false) :
    Calls Tryz.prog 48 #[.pointer (some ⟨R, 0, none⟩), .func (Fn.func f) #[.pointer (some ⟨R, 0, none⟩)] #[], .map (some mb)] w (RdP R en lev o w) := by
  cases o with
  | ok x l' => exact left_ok f R en lev l l' x mb ks w hf hcf h hm hmR (hn x l' rfl)
  | fail a c => exact left_fail f R en lev l a c mb w hf hcf h
end Go.Proofs.YtkhlmofcdchccaaGreatDoor
