/- Comparisons in which no operator follows. -/
import Derived.Test.YtkhlmofcdchccaaGreatDoorP3x
namespace Go.Proofs.YtkhlmofcdchccaaGreatDoor
open Go.RowKit Go.Maps

def cmpKeys : List ByteArray := [⟨#[62, 61]⟩, ⟨#[62]⟩, ⟨#[60, 61]⟩, ⟨#[60]⟩, ⟨#[60, 62]⟩, ⟨#[61]⟩]
/-- No operator comes next. -/
def Clo (l : List Tok) : Prop := ∀ s ∈ ([⟨#[46]⟩, ⟨#[42]⟩, ⟨#[47]⟩, ⟨#[37]⟩, ⟨#[43]⟩, ⟨#[45]⟩, ⟨#[73, 83]⟩, ⟨#[66, 69, 84, 87, 69, 69, 78]⟩, ⟨#[62, 61]⟩, ⟨#[62]⟩, ⟨#[60, 61]⟩, ⟨#[60]⟩, ⟨#[60, 62]⟩, ⟨#[61]⟩, ⟨#[65, 78, 68]⟩, ⟨#[79, 82]⟩] : List ByteArray), isB s l = false

set_option maxRecDepth 100000 in
set_option maxHeartbeats 4000000 in
theorem cmp_ok (R : Nat) (en lev : Int) (l l' : List Tok) (x : Ex) (w : World) (hf : Reads 197 R en lev l (.ok x l')) (hc : Clo l') (h : RdOk R en lev l w) :
    Calls Tryz.prog 152 #[.pointer (some ⟨R, 0, none⟩)] w (Rds R en lev l' (ExQ w.heap.size x) w) := by
  have hRz := h.lt
  have HF := Lib.hid hf
  have HO := Lib.hid h
  have HC := Lib.hid hc
  clear hf h hc
  go_enter Tryz.func152, Tryz.ntmps152
  go_wp2_with fail
  refine (HF.out _ (HO.out.alloc _)).mono ?_
  rintro e w1 ⟨v, rfl, hv, ho, hk⟩
  obtain ⟨hb, hz, hk1⟩ := box10 hk hRz
  obtain ⟨aa, sa, ac, sc, rfl⟩ := hv.shape
  have HO1 := Lib.hid ho
  have HK1 := Lib.hid hk1
  have HV1 := Lib.hid hv
  have HB1 := Lib.hid hb
  clear ho hk hk1 hv hb
  dsimp only
  go_wp2_with fail
  have hO2 := HO1.out.alloc (.cells #[.int .i64 x.kind, .int .i64 x.op, .bool x.no, .int .i64 x.val.kind, .int .i64 x.val.int, .string x.val.text, .string x.table, .string x.name, .slice aa x.args.length ac, .slice sa x.sub.length sc] 30)
  have hB2 : Below w1.heap.size w1 (w1.alloc (.cells #[.int .i64 x.kind, .int .i64 x.op, .bool x.no, .int .i64 x.val.kind, .int .i64 x.val.int, .string x.val.text, .string x.table, .string x.name, .slice aa x.args.length ac, .slice sa x.sub.length sc] 30)) := (Below.refl _ _).alloc (Nat.le_refl _) _
  have hb2 := heap_alloc_new w1 (.cells #[.int .i64 x.kind, .int .i64 x.op, .bool x.no, .int .i64 x.val.kind, .int .i64 x.val.int, .string x.val.text, .string x.table, .string x.name, .slice aa x.args.length ac, .slice sa x.sub.length sc] 30)
  generalize hW : World.alloc w1 _ = w2 at hO2 hB2 hb2 ⊢
  have hz2 : w1.heap.size < w2.heap.size := by rw [← hW]; simp
  have HO2 := Lib.hid hO2
  have HK2 := Lib.hid (HK1.out.trans (.bel hB2))
  have HV2 := Lib.hid (HV1.out.keep (M := fun _ => False) (.bel hB2) fun _ h => h.elim)
  have HR2 := Lib.hid ((hB2.block _ hz).trans HB1.out)
  have HE2 := Lib.hid hb2
  generalize w1.heap.size = eb at HE2 hz hz2 ⊢
  clear hO2 hB2 hb2 hW HO1 HK1 HV1 HB1
  refine (accept_no R en lev l' _ w2 HO2.out (HC.out _ (by simp))).mono ?_
  rintro e w3 ⟨rfl, hb3⟩
  have HB3 := Lib.hid hb3
  have HO3 := Lib.hid (HO2.out.bel hb3)
  clear hb3
  dsimp only
  go_wp2_with fail
  refine (accept_no R en lev l' _ w3 HO3.out (HC.out _ (by simp))).mono ?_
  rintro e w4 ⟨rfl, hb4⟩
  have HB4 := Lib.hid (HB3.out.trans (hb4.mono HB3.out.size))
  clear hb4 HB3 HO3
  dsimp only
  have hO4 := HO2.out.bel HB4.out
  have HK4 := Lib.hid (HK2.out.trans (.bel HB4.out))
  have HV4 := Lib.hid (HV2.out.keep (M := fun _ => False) (.bel HB4.out) fun _ h => h.elim)
  have HR4 := Lib.hid ((HB4.out.block _ (by omega)).trans HR2.out)
  have HE4 := Lib.hid ((HB4.out.block _ hz2).trans HE2.out)
  have hz4 : eb < w4.heap.size := Nat.lt_of_lt_of_le hz2 HB4.out.size
  have HO4 := Lib.hid hO4
  clear HB4 HO2 HK2 HV2 HR2 HE2 hz2 hO4
  have hmm := @run_makeMap Tryz.prog
  have hs : SM (w4.alloc (.map #[] 0)) w4.heap.size [] := SMap.made ..
  have hbl : Below w4.heap.size w4 (w4.alloc (.map #[] 0)) := (Below.refl _ _).alloc (Nat.le_refl _) _
  go_wp2_with (first
    | (refine wpList_insert_str _ rfl _ _ _ _ rfl rfl Tryz.underlying9 Tryz.underlying3 Tryz.underlying131 rfl (by decide) (by decide) (by simp) hs ?_; intro w9 hm9 hg9; replace hbl := bel_grow hbl hg9 hbl.size (fun k h => by cases h; exact Nat.le_refl _); replace hs := hm9; clear hm9 hg9)
    | (at_range; (obtain ⟨D, n, hn, hown, hhas⟩ := hs); refine wpList_range_own _ rfl _ 131 rfl 9 3 (string_keyed Tryz.underlying9) Tryz.underlying131 _ w4.heap.size n D rfl hown ?_; intro w0 hrg0 hg0 hs0))
  have HH := Lib.hid hhas
  have hbl0 := bel_grow hbl hg0 hbl.size (fun k h => by cases h)
  have hr9 : w4.heap.size ≤ w9.heap.size := hbl.size
  clear hhas hbl hg0 hs0 hown
  generalize w9.heap.size = rb at hrg0 hr9 ⊢
  go_frame
  go_loopw [] (fun wr => ∃ (left : Lit → Bool) (cnt : Nat), wr.ranges Tryz.prog 9 (plainElem Tryz.prog 3) w4.heap.size rb n D left cnt ∧ (∀ kl, left kl = true → Maps.has D kl = true) ∧ Below w4.heap.size w4 wr)
      (fun wr => wr.rangeLeft w4.heap.size rb)
  case atStart => exact ⟨_, _, hrg0, fun _ h => h, hbl0⟩
  case round =>
    rename World => wr
    obtain ⟨left, cnt, hrg, hlD, hbw⟩ := hrel
    have HLD := Lib.hid hlD
    have HBW := Lib.hid hbw
    clear hlD hbw hrg0 hbl0
    go_wp2_with (first
        | (at_next; go_loud (refine wpList_next_str _ rfl _ rfl Tryz.underlying9 Tryz.underlying3 w4.heap.size rb n D _ left cnt rfl hrg HH.out HLD.out ?_ ?_))
        | fail)
    · intro _
      have hbe := (HBW.out.block _ hz4).trans HE4.out
      have hbr := (HBW.out.block _ (by omega)).trans HR4.out
      have hzr : w.heap.size < wr.heap.size := by have := HBW.out.size; omega
      obtain ⟨e0, e1, e2, e3, e4, e5, e6, e7, e8, e9, _⟩ := blk10 hbe
      obtain ⟨x0, x1, x2, x3, x4, x5, x6, x7, x8, x9, xf, _⟩ := blk10 hbr
      clear hbe hbr hrg
      go_wp2_with fail
      refine bodyPost_ret (v := .agg #[.int .i64 x.kind, .int .i64 x.op, .bool x.no, .int .i64 x.val.kind, .int .i64 x.val.int, .string x.val.text, .string x.table, .string x.name, .slice aa x.args.length ac, .slice sa x.sub.length sc]) (by simp [results, Tryz.results152, go_sem, x0, x1, x2, x3, x4, x5, x6, x7, x8, x9]) rfl ?_
      have FIN := ex_end (HO4.out.bel HBW.out) (HV4.out.keep (M := fun _ => False) (.bel HBW.out) fun _ h => h.elim) (HK4.out.trans (.bel HBW.out)) hRz (Nat.le_refl w.heap.size) (by simp) (.int .i64 x.kind) (.int .i64 x.op) (.bool x.no) (.int .i64 x.val.kind) (.int .i64 x.val.int) (.string x.val.text) (.string x.table) (.string x.name) (.slice aa x.args.length ac) (.slice sa x.sub.length sc)
      exact FIN
    · intro s c w5 left3 cnt3 hsk hrg3 hlD3 hlt hg3 hen
      have HEN := Lib.hid hen
      have HRG := Lib.hid hrg3
      have HRG0 := Lib.hid hrg
      have HLT := Lib.hid hlt
      have HLD3 := Lib.hid hlD3
      have HB3 := Lib.hid (bel_grow HBW.out hg3 HBW.out.size fun k h => by cases h; exact hr9)
      have HNS := Lib.hid (HC.out s (by simp only [List.mem_cons, List.not_mem_nil, or_false] at hsk ⊢; rcases hsk with rfl | rfl | rfl | rfl | rfl | rfl <;> simp))
      clear hrg hrg3 hlt hlD3 hg3 hsk
      go_wp2_with fail
      refine (accept_no R en lev l' s w5 (HO4.out.bel HB3.out) HNS.out).mono ?_
      rintro e w6 ⟨rfl, hb6⟩
      have HB6 := Lib.hid hb6
      clear hb6
      dsimp only
      go_wp2_with fail
      go_roundw
      case rel => exact ⟨left3, cnt3, HRG.out.kept (grow_bel HB6.out) (by simp) (by simp), HLD3.out, HB3.out.trans (HB6.out.mono HB3.out.size)⟩
      case measure => rw [(HRG.out.kept (grow_bel HB6.out) (by simp) (by simp)).left_eq, HRG0.out.left_eq]; exact HLT.out

set_option maxRecDepth 100000 in
theorem cmp_reads (R : Nat) (en lev : Int) (l : List Tok) (o : POut) (hf : Reads 197 R en lev l o) (hc : ∀ x l', o = .ok x l' → Clo l') : Reads 152 R en lev l o := by
  intro w h
  cases o with
  | ok x l' => exact cmp_ok R en lev l l' x w hf (hc x l' rfl) h
  | fail a c =>
    have HF := Lib.hid hf
    have HO := Lib.hid h
    clear hf h hc
    go_enter Tryz.func152, Tryz.ntmps152
    go_wp2_with fail
    refine (HF.out _ (HO.out.alloc _)).mono ?_
    rintro e w1 ⟨rfl, hk⟩
    have HK := Lib.hid (((Keep.refl _ w).alloc _).trans hk)
    clear hk
    dsimp only
    go_wp2_with fail
    exact ⟨rfl, rfl, HK.out⟩
end Go.Proofs.YtkhlmofcdchccaaGreatDoor
