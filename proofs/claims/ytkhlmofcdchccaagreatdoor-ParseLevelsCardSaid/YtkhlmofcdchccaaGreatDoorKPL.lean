/- The expression of a text (parse.Expr). The law of levels: plain facts, and the walk. -/
import Derived.Test.YtkhlmofcdchccaaGreatDoorKPR
import Derived.Test.YtkhlmofcdchccaaGreatDoorP7x
import Derived.Test.YtkhlmofcdchccaaGreatDoorKN3
import Derived.Test.YtkhlmofcdchccaaGreatDoorKPK
import Derived.Test.YtkhlmofcdchccaaGreatDoorSr
namespace Go.Proofs.YtkhlmofcdchccaaGreatDoor
open Go.RowKit

def boxOf (x : Ex) (a s : Option Addr) (ac sc : Nat) : Array Value := #[.int .i64 x.kind, .int .i64 x.op, .bool x.no, .int .i64 x.val.kind, .int .i64 x.val.int, .string x.val.text, .string x.table, .string x.name, .slice a x.args.length ac, .slice s x.sub.length sc]

theorem blk10_sets {w : World} {S : Nat} {x0 x1 x2 x3 x4 x5 x6 x7 x8 x9 : Value} {e : TypeId} (a0 a1 a2 a3 a4 a5 a6 a7 a8 a9 : Value) (h : w.heap[S]? = some (.cells #[x0, x1, x2, x3, x4, x5, x6, x7, x8, x9] e (0, 0))) :
    ((((((((((w.setCell ⟨S, 0, none⟩ a0).setCell ⟨S, 1, none⟩ a1).setCell ⟨S, 2, none⟩ a2).setCell ⟨S, 3, none⟩ a3).setCell ⟨S, 4, none⟩ a4).setCell ⟨S, 5, none⟩ a5).setCell ⟨S, 6, none⟩ a6).setCell ⟨S, 7, none⟩ a7).setCell ⟨S, 8, none⟩ a8).setCell ⟨S, 9, none⟩ a9).heap[S]? = some (.cells #[a0, a1, a2, a3, a4, a5, a6, a7, a8, a9] e (0, 0)) := by
  simp [World.setCell, Array.getElem?_modify, h]

set_option maxRecDepth 100000 in
set_option maxHeartbeats 2000000 in
theorem expr1_ok (R E : Nat) (en : Int) (l : List Tok) (x : Ex) (w W : World) (hr : Reads 23 R en 0 l (.ok x [])) (h : RdOk R en 0 l W) (hB : Below w.heap.size w W) (hER : w.heap.size < R) (hE : E < w.heap.size)
    (hb : w.heap[E]? = some (.cells #[.int .i64 0, .int .i64 0, .bool false, .int .i64 0, .int .i64 0, .string ⟨#[]⟩, .string ⟨#[]⟩, .string ⟨#[]⟩, .slice none 0 0, .slice none 0 0] 30 (0, 0))) :
    Calls Tryz.prog 22 #[.pointer (some ⟨R, 0, none⟩), .pointer (some ⟨E, 0, none⟩)] W (fun e W' => e = .returned (.tuple #[]) ∧ (∃ a3 c3 e3 l3, W'.heap[R]? = some (.cells #[.slice a3 0 c3, e3, l3] 128 (0, 0))) ∧ Keep (fun k => k = R ∨ k = E) W W' ∧
      ∃ a s ac sc, W'.heap[E]? = some (.cells (boxOf x a s ac sc) 30 (0, 0)) ∧ ExQ (w.heap.size + 2) x (.agg (boxOf x a s ac sc)) W') := by
  have hRz := h.lt
  have HR := Lib.hid hr
  have HO := Lib.hid h
  have hbE := (hB.block E hE).trans hb
  have HBE := Lib.hid hbE
  clear hr h hb hbE
  go_enter Tryz.func22, Tryz.ntmps22
  go_wp2_with fail
  refine (HR.out W HO.out).mono ?_
  rintro e w1 ⟨v, rfl, hv, ho, hk⟩
  obtain ⟨a, s, ac, sc, rfl⟩ := hv.shape
  obtain ⟨⟨a3, c3, hbk, _⟩, _⟩ := ho
  have hE1 := (hk.block E (by omega) (by unfold At; omega)).trans HBE.out
  obtain ⟨x0, x1, x2, x3, x4, x5, x6, x7, x8, x9, xf, _⟩ := blk10 hE1
  have HV := Lib.hid hv
  have HK := Lib.hid hk
  have HBK := Lib.hid hbk
  have HE1 := Lib.hid hE1
  clear hv hk hbk hE1
  dsimp only
  go_wp2_with fail
  have ks := keep10 E w1 (.int .i64 x.kind) (.int .i64 x.op) (.bool x.no) (.int .i64 x.val.kind) (.int .i64 x.val.int) (.string x.val.text) (.string x.table) (.string x.name) (.slice a x.args.length ac) (.slice s x.sub.length sc)
  have hs := blk10_sets (.int .i64 x.kind) (.int .i64 x.op) (.bool x.no) (.int .i64 x.val.kind) (.int .i64 x.val.int) (.string x.val.text) (.string x.table) (.string x.name) (.slice a x.args.length ac) (.slice s x.sub.length sc) HE1.out
  generalize World.setCell _ _ _ = w2 at ks hs ⊢
  refine ⟨rfl, _, results_none rfl _ _ _, ?_⟩
  have hRE : R ≠ E := by omega
  exact ⟨rfl, ⟨a3, c3, _, _, (ks.block R (World.block_lt_of_cell? _ _ (blk3 HBK.out).1) hRE).trans HBK.out⟩, (HK.out.weak (M := fun k => k = R ∨ k = E) fun k _ h => .inl h).trans (ks.weak fun k _ h => .inr h), a, s, ac, sc, hs,
    (HV.out.keep ks fun j hj => by unfold At at hj; omega).low (by omega)⟩

set_option maxRecDepth 100000 in
theorem expr1_fail (R E : Nat) (en : Int) (l : List Tok) (at0 code : Int) (W : World) (hr : Reads 23 R en 0 l (.fail at0 code)) (h : RdOk R en 0 l W) :
    Calls Tryz.prog 22 #[.pointer (some ⟨R, 0, none⟩), .pointer (some ⟨E, 0, none⟩)] W (fun e W' => e = .panicked [{ v := failV at0 code, recovered := false }] ∧ Keep (fun k => k = R ∨ k = E) W W') := by
  have HR := Lib.hid hr
  have HO := Lib.hid h
  clear hr h
  go_enter Tryz.func22, Tryz.ntmps22
  go_wp2_with fail
  refine (HR.out W HO.out).mono ?_
  rintro e w1 ⟨rfl, hk⟩
  have HK := Lib.hid hk
  clear hk
  dsimp only
  go_wp2_with fail
  exact ⟨rfl, rfl, HK.out.weak fun k _ h => .inl h⟩

theorem two_ten (w : World) : ((w.alloc (.cells #[.int .i64 0, .int .i64 0, .bool false, .int .i64 0, .int .i64 0, .string ⟨#[]⟩, .string ⟨#[]⟩, .string ⟨#[]⟩, .slice none 0 0, .slice none 0 0] 30)).alloc (.cells #[.int .i64 0, .int .i64 0, .bool false, .int .i64 0, .int .i64 0, .string ⟨#[]⟩, .string ⟨#[]⟩, .string ⟨#[]⟩, .slice none 0 0, .slice none 0 0] 30)).heap[w.heap.size]? = some (.cells #[.int .i64 0, .int .i64 0, .bool false, .int .i64 0, .int .i64 0, .string ⟨#[]⟩, .string ⟨#[]⟩, .string ⟨#[]⟩, .slice none 0 0, .slice none 0 0] 30 (0, 0)) ∧ ((w.alloc (.cells #[.int .i64 0, .int .i64 0, .bool false, .int .i64 0, .int .i64 0, .string ⟨#[]⟩, .string ⟨#[]⟩, .string ⟨#[]⟩, .slice none 0 0, .slice none 0 0] 30)).alloc (.cells #[.int .i64 0, .int .i64 0, .bool false, .int .i64 0, .int .i64 0, .string ⟨#[]⟩, .string ⟨#[]⟩, .string ⟨#[]⟩, .slice none 0 0, .slice none 0 0] 30)).heap[w.heap.size + 1]? = some (.cells #[.int .i64 0, .int .i64 0, .bool false, .int .i64 0, .int .i64 0, .string ⟨#[]⟩, .string ⟨#[]⟩, .string ⟨#[]⟩, .slice none 0 0, .slice none 0 0] 30 (0, 0)) := by
  refine ⟨?_, ?_⟩
  · exact (((Below.refl (w.alloc (.cells #[.int .i64 0, .int .i64 0, .bool false, .int .i64 0, .int .i64 0, .string ⟨#[]⟩, .string ⟨#[]⟩, .string ⟨#[]⟩, .slice none 0 0, .slice none 0 0] 30)).heap.size _).alloc (Nat.le_refl _) (.cells #[.int .i64 0, .int .i64 0, .bool false, .int .i64 0, .int .i64 0, .string ⟨#[]⟩, .string ⟨#[]⟩, .string ⟨#[]⟩, .slice none 0 0, .slice none 0 0] 30)).block w.heap.size (by simp)).trans (heap_alloc_new w _)
  · have h := heap_alloc_new (w.alloc (.cells #[.int .i64 0, .int .i64 0, .bool false, .int .i64 0, .int .i64 0, .string ⟨#[]⟩, .string ⟨#[]⟩, .string ⟨#[]⟩, .slice none 0 0, .slice none 0 0] 30)) (.cells #[.int .i64 0, .int .i64 0, .bool false, .int .i64 0, .int .i64 0, .string ⟨#[]⟩, .string ⟨#[]⟩, .string ⟨#[]⟩, .slice none 0 0, .slice none 0 0] 30)
    rw [show (w.alloc (.cells #[.int .i64 0, .int .i64 0, .bool false, .int .i64 0, .int .i64 0, .string ⟨#[]⟩, .string ⟨#[]⟩, .string ⟨#[]⟩, .slice none 0 0, .slice none 0 0] 30)).heap.size = w.heap.size + 1 by simp] at h
    exact h

set_option maxRecDepth 100000 in
set_option maxHeartbeats 2000000 in
theorem pexpr_ok (s : ByteArray) (l : List Tok) (x : Ex) (w : World) (hs : s.size ≤ 4096) (ht : TokOk w) (h10 : 6 < w.heap.size) (hl : toks s (s.size + 1) 0 = .ok l) (hr : ∀ R, Reads 23 R s.size 0 l (.ok x [])) (hv : validP x = true) (hx : TxtOk x) :
    Calls Tryz.prog 7 #[.string s] w (fun e w' => ∃ v, e = .returned (.tuple #[v, .int .i64 0, .int .i64 0]) ∧ (∃ a s ac sc, v = .agg (boxOf x a s ac sc)) ∧ Below w.heap.size w w') := by
  have HR := Lib.hid hr
  have HL := Lib.hid hl
  have HT := Lib.hid ht
  have HVX := Lib.hid hv
  have HTX := Lib.hid hx
  have hmf : ∀ (fn : Fn) (first cap : Array Value) (w : World), (Instr.makeFunc fn first cap).run Tryz.prog w = .ok (.func fn first cap) w := fun _ _ _ _ => rfl
  clear hr hl ht hv hx
  go_enter Tryz.func7, Tryz.ntmps7
  go_wp2_with fail
  have hbx := two_ten w
  have hz0 : ((w.alloc (.cells #[.int .i64 0, .int .i64 0, .bool false, .int .i64 0, .int .i64 0, .string ⟨#[]⟩, .string ⟨#[]⟩, .string ⟨#[]⟩, .slice none 0 0, .slice none 0 0] 30)).alloc (.cells #[.int .i64 0, .int .i64 0, .bool false, .int .i64 0, .int .i64 0, .string ⟨#[]⟩, .string ⟨#[]⟩, .string ⟨#[]⟩, .slice none 0 0, .slice none 0 0] 30)).heap.size = w.heap.size + 1 + 1 := by simp
  have hb0 : Below w.heap.size w ((w.alloc (.cells #[.int .i64 0, .int .i64 0, .bool false, .int .i64 0, .int .i64 0, .string ⟨#[]⟩, .string ⟨#[]⟩, .string ⟨#[]⟩, .slice none 0 0, .slice none 0 0] 30)).alloc (.cells #[.int .i64 0, .int .i64 0, .bool false, .int .i64 0, .int .i64 0, .string ⟨#[]⟩, .string ⟨#[]⟩, .string ⟨#[]⟩, .slice none 0 0, .slice none 0 0] 30)) := ((Below.refl _ _).alloc (Nat.le_refl _) _).alloc (by simp) _
  have ht0 := HT.out.keep (M := fun _ => False) (.bel hb0) fun _ _ h => h
  generalize World.alloc _ _ = W0 at hbx hz0 hb0 ht0 ⊢
  have HBX := Lib.hid hbx
  have HB0 := Lib.hid hb0
  refine (read_ok 22 (w.heap.size + 1) s l (fun W => ∃ a s ac sc, W.heap[w.heap.size + 1]? = some (.cells (boxOf x a s ac sc) 30 (0, 0)) ∧ ExQ (W0.heap.size + 2) x (.agg (boxOf x a s ac sc)) W) W0 hs ht0 HL.out (by omega) (by omega) (fun _ _ => rfl) fun R W hrd hbw hR => ?_).mono ?_
  · exact expr1_ok R (w.heap.size + 1) s.size l x W0 W (HR.out R) hrd hbw hR (by omega) HBX.out.2
  clear ht0 hbx hb0
  rintro e w1 ⟨rfl, hk, W1, ⟨a, s2, ac, sc, hbE, hv⟩, hk1⟩
  have HV := Lib.hid (hv.keep hk1 fun j hj => by omega)
  have hE1 := (hk1.block (w.heap.size + 1) (World.block_lt_of_cell? _ _ (blk10 hbE).1) (by omega)).trans hbE
  have hR1 := (hk.block w.heap.size (by omega) (by unfold At; omega)).trans HBX.out.1
  have HB1 := Lib.hid (HB0.out.trans (hk.toBelow (by omega) fun k hk h => by unfold At at h; omega))
  unfold boxOf at hE1 HV
  obtain ⟨e0, e1, e2, e3, e4, e5, e6, e7, e8, e9, _, hzE⟩ := blk10 hE1
  obtain ⟨x0, x1, x2, x3, x4, x5, x6, x7, x8, x9, xf, _⟩ := blk10 hR1
  have HE1 := Lib.hid hE1
  have HR1 := Lib.hid hR1
  have hz1 := (blk10 hR1).2.2.2.2.2.2.2.2.2.2.2
  clear hv hk hk1 hbE hE1 hR1 x0 x1 x2 x3 x4 x5 x6 x7 x8 x9 xf
  dsimp only
  go_wp2_with fail
  have hvx : Calls Tryz.prog 24 #[.agg #[.int .i64 x.kind, .int .i64 x.op, .bool x.no, .int .i64 x.val.kind, .int .i64 x.val.int, .string x.val.text, .string x.table, .string x.name, .slice a x.args.length ac, .slice s2 x.sub.length sc]] w1 (RetBel (.bool true) w1) := by
    obtain ⟨cs, hcs, hx⟩ := HV.out
    rw [hcs, ← HVX.out]
    exact vexpr_any x cs w1 hx HTX.out
  refine hvx.mono ?_
  clear hvx
  rintro e w2 ⟨rfl, hb2⟩
  have hE2 := (hb2.block _ hzE).trans HE1.out
  have hR2 := (hb2.block _ hz1).trans HR1.out
  have HB2 := Lib.hid (HB1.out.trans (hb2.mono HB1.out.size))
  clear e0 e1 e2 e3 e4 e5 e6 e7 e8 e9 hb2
  obtain ⟨e0, e1, e2, e3, e4, e5, e6, e7, e8, e9, _, _⟩ := blk10 hE2
  obtain ⟨x0, x1, x2, x3, x4, x5, x6, x7, x8, x9, xf, _⟩ := blk10 hR2
  clear hE2 hR2
  dsimp only
  go_wp2_with fail
  refine bodyPost_ret (v := .tuple #[.agg #[.int .i64 x.kind, .int .i64 x.op, .bool x.no, .int .i64 x.val.kind, .int .i64 x.val.int, .string x.val.text, .string x.table, .string x.name, .slice a x.args.length ac, .slice s2 x.sub.length sc], .int .i64 0, .int .i64 0]) (by simp [results, Tryz.results7, go_sem, x0, x1, x2, x3, x4, x5, x6, x7, x8, x9]) rfl ?_
  have ks := keep10 w.heap.size w2 (.int .i64 x.kind) (.int .i64 x.op) (.bool x.no) (.int .i64 x.val.kind) (.int .i64 x.val.int) (.string x.val.text) (.string x.table) (.string x.name) (.slice a x.args.length ac) (.slice s2 x.sub.length sc)
  exact ⟨_, rfl, ⟨a, s2, ac, sc, rfl⟩, HB2.out.trans (ks.toBelow HB2.out.size fun k hk h => by unfold At at h; omega)⟩

set_option maxRecDepth 100000 in
set_option maxHeartbeats 2000000 in
theorem pexpr_fail (s : ByteArray) (l : List Tok) (at0 code : Int) (w : World) (hs : s.size ≤ 4096) (ht : TokOk w) (h10 : 6 < w.heap.size) (hl : toks s (s.size + 1) 0 = .ok l) (hr : ∀ R, Reads 23 R s.size 0 l (.fail at0 code)) (hc0 : (code == 0) = false) :
    Calls Tryz.prog 7 #[.string s] w (fun e w' => e = .returned (.tuple #[.agg #[.int .i64 0, .int .i64 0, .bool false, .int .i64 0, .int .i64 0, .string ⟨#[]⟩, .string ⟨#[]⟩, .string ⟨#[]⟩, .slice none 0 0, .slice none 0 0], .int .i64 at0, .int .i64 code]) ∧ Below w.heap.size w w') := by
  have HR := Lib.hid hr
  have HL := Lib.hid hl
  have HT := Lib.hid ht
  have hc1 : (code != 0) = true := by simpa [bne] using hc0
  have hmf : ∀ (fn : Fn) (first cap : Array Value) (w : World), (Instr.makeFunc fn first cap).run Tryz.prog w = .ok (.func fn first cap) w := fun _ _ _ _ => rfl
  clear hr hl ht
  go_enter Tryz.func7, Tryz.ntmps7
  go_wp2_with fail
  have hbx := two_ten w
  have hz0 : ((w.alloc (.cells #[.int .i64 0, .int .i64 0, .bool false, .int .i64 0, .int .i64 0, .string ⟨#[]⟩, .string ⟨#[]⟩, .string ⟨#[]⟩, .slice none 0 0, .slice none 0 0] 30)).alloc (.cells #[.int .i64 0, .int .i64 0, .bool false, .int .i64 0, .int .i64 0, .string ⟨#[]⟩, .string ⟨#[]⟩, .string ⟨#[]⟩, .slice none 0 0, .slice none 0 0] 30)).heap.size = w.heap.size + 1 + 1 := by simp
  have hb0 : Below w.heap.size w ((w.alloc (.cells #[.int .i64 0, .int .i64 0, .bool false, .int .i64 0, .int .i64 0, .string ⟨#[]⟩, .string ⟨#[]⟩, .string ⟨#[]⟩, .slice none 0 0, .slice none 0 0] 30)).alloc (.cells #[.int .i64 0, .int .i64 0, .bool false, .int .i64 0, .int .i64 0, .string ⟨#[]⟩, .string ⟨#[]⟩, .string ⟨#[]⟩, .slice none 0 0, .slice none 0 0] 30)) := ((Below.refl _ _).alloc (Nat.le_refl _) _).alloc (by simp) _
  have ht0 := HT.out.keep (M := fun _ => False) (.bel hb0) fun _ _ h => h
  generalize World.alloc _ _ = W0 at hbx hz0 hb0 ht0 ⊢
  have HBX := Lib.hid hbx
  have HB0 := Lib.hid hb0
  refine (read_fail 22 (w.heap.size + 1) s l at0 code W0 hs ht0 HL.out (by omega) (by omega) (fun _ _ => rfl) fun R W hrd hbw hR => ?_).mono ?_
  · exact expr1_fail R (w.heap.size + 1) s.size l at0 code W (HR.out R) hrd
  clear ht0 hbx hb0
  rintro e w1 ⟨rfl, hk⟩
  have hR1 := (hk.block w.heap.size (by omega) (by unfold At; omega)).trans HBX.out.1
  have HB1 := Lib.hid (HB0.out.trans (hk.toBelow (by omega) fun k hk h => by unfold At at h; omega))
  obtain ⟨x0, x1, x2, x3, x4, x5, x6, x7, x8, x9, xf, _⟩ := blk10 hR1
  clear hk hR1
  dsimp only
  go_wp2_with fail
  refine bodyPost_ret (v := .tuple #[.agg #[.int .i64 0, .int .i64 0, .bool false, .int .i64 0, .int .i64 0, .string ⟨#[]⟩, .string ⟨#[]⟩, .string ⟨#[]⟩, .slice none 0 0, .slice none 0 0], .int .i64 at0, .int .i64 code]) (by simp [results, Tryz.results7, go_sem, x0, x1, x2, x3, x4, x5, x6, x7, x8, x9]) rfl ?_
  have ks := keep10 w.heap.size w1 (.int .i64 0) (.int .i64 0) (.bool false) (.int .i64 0) (.int .i64 0) (.string ⟨#[]⟩) (.string ⟨#[]⟩) (.string ⟨#[]⟩) (.slice none 0 0) (.slice none 0 0)
  exact ⟨rfl, HB1.out.trans (ks.toBelow HB1.out.size fun k hk h => by unfold At at h; omega)⟩
end Go.Proofs.YtkhlmofcdchccaaGreatDoor

namespace Go.Proofs.YtkhlmofcdchccaaGreatDoor
open Go.RowKit

theorem valid_un (k : Int) (hk : k = 3 ∨ k = 4) (e : Ex) (h : validP e = true) : validP (exUn k e) = true := by
  rcases hk with rfl | rfl <;> (unfold exUn; rw [validP]; simp [validL, h, valZ, nameZ, noText])
theorem valid_unN (k : Int) (hk : k = 3 ∨ k = 4) (e : Ex) (h : validP e = true) : ∀ m, validP (unN k m e) = true
  | 0 => h
  | m + 1 => valid_un k hk _ (valid_unN k hk e h m)
theorem txt_unN (k : Int) (e : Ex) (h : TxtOk e) : ∀ m, TxtOk (unN k m e)
  | 0 => h
  | m + 1 => txt_ops k 0 false [unN k m e] fun x hx => by
    rw [List.mem_singleton] at hx
    subst hx
    exact txt_unN k e h m
theorem lv_valid (k n : Nat) : validP (lvEx k n) = true := by
  unfold lvEx
  have h : validP (exCol aS) = true := by decide +kernel
  split
  · exact h
  split
  · exact valid_unN 3 (.inl rfl) _ h n
  · exact valid_unN 4 (.inr rfl) _ h n
theorem lv_txt (k n : Nat) : TxtOk (lvEx k n) := by
  unfold lvEx
  have h : TxtOk (exCol aS) := txt_leaf 2 0 false ⟨0, 0, ⟨#[]⟩⟩ ⟨#[]⟩ aS (by decide) (by decide) (by decide)
  split
  · exact h
  split
  · exact txt_unN 3 _ h n
  · exact txt_unN 4 _ h n
theorem repeatL_one (b : UInt8) : ∀ n, Lib.repeatL [b] n = List.replicate n b
  | 0 => rfl
  | n + 1 => by rw [Lib.repeatL, repeatL_one b n]; rfl
theorem repeatL_flat (l : List UInt8) : ∀ n, Lib.repeatL l n = (List.replicate n l).flatten
  | 0 => rfl
  | n + 1 => by rw [Lib.repeatL, repeatL_flat l n]; rfl
theorem lv0 (n : Nat) : ((⟨(Lib.repeatL [40] n).toArray⟩ ++ ⟨#[97]⟩ ++ ⟨(Lib.repeatL [41] n).toArray⟩ : ByteArray)).data.toList = lvS 0 n := by
  simp [lvS, repeatL_one, ByteArray.data_append]
theorem lv1 (n : Nat) : ((⟨(Lib.repeatL [78, 79, 84, 32] n).toArray⟩ ++ ⟨#[97]⟩ : ByteArray)).data.toList = lvS 1 n := by
  simp [lvS, repeatL_flat, ByteArray.data_append]
theorem lv2 (n : Nat) : ((⟨(Lib.repeatL [45, 32] n).toArray⟩ ++ ⟨#[97]⟩ : ByteArray)).data.toList = lvS 2 n := by
  simp [lvS, repeatL_flat, ByteArray.data_append]
theorem lv_size (s : ByteArray) (k n : Nat) (hn : n ≤ 40) (h : s.data.toList = lvS k n) : s.size ≤ 4096 := by
  rw [size_list, h]
  unfold lvS
  split
  · simp; omega
  split
  · simp; omega
  · simp; omega

/-- parse.Expr at the law's text, as the law meets it. -/
theorem lv_expr (s : ByteArray) (k n : Nat) (hn : n ≤ 40) (hs : s.data.toList = lvS k n) (w : World) (ht : TokOk w) (h10 : 6 < w.heap.size) :
    Calls Tryz.prog 7 #[.string s] w (fun e w' => ∃ x : Ex, ∃ a s2 ac sc, e = .returned (.tuple #[.agg (boxOf x a s2 ac sc), .int .i64 (if n ≤ 12 then 0 else ((12 * lvStep k : Nat) : Int)), .int .i64 (if n ≤ 12 then 0 else 2)]) ∧ Below w.heap.size w w') := by
  have hr := fun R => lv_reads R s.size k n
  by_cases h : n ≤ 12
  · simp only [if_pos h] at hr ⊢
    refine (pexpr_ok s _ (lvEx k n) w (lv_size s k n hn hs) ht h10 (lv_toks s k n hs) hr (lv_valid k n) (lv_txt k n)).mono ?_
    rintro e w1 ⟨v, rfl, ⟨a, s2, ac, sc, rfl⟩, hb⟩
    exact ⟨_, a, s2, ac, sc, rfl, hb⟩
  · simp only [if_neg h] at hr ⊢
    refine (pexpr_fail s _ _ 2 w (lv_size s k n hn hs) ht h10 (lv_toks s k n hs) hr rfl).mono ?_
    rintro e w1 ⟨rfl, hb⟩
    exact ⟨⟨0, 0, false, ⟨0, 0, ⟨#[]⟩⟩, ⟨#[]⟩, ⟨#[]⟩, [], []⟩, none, none, 0, 0, rfl, hb⟩


set_option maxRecDepth 100000 in
set_option maxHeartbeats 4000000 in
theorem law_k0 (n kind : Int) (w : World) (ht : TokOk w) (h10 : 6 < w.heap.size) (hk : kind % 3 = 0) : Calls Tryz.prog 3 #[.int .i64 n, .int .i64 kind] w (RetBel (.bool true) w) := by
  have HT := Lib.hid ht
  clear ht
  obtain ⟨N, hN, hN1, hN40⟩ : ∃ N : Nat, n % 40 = ((N : Int) - 1) ∧ 1 ≤ N ∧ N ≤ 40 := ⟨(1 + n % 40).toNat, by omega, by omega, by omega⟩
  go_enter Tryz.func3, Tryz.ntmps3
  go_wp2_with fail
  refine (mod_any n 40 _ (by omega) (by omega)).mono ?_
  rintro e w1 ⟨rfl, rfl⟩
  rw [hN]
  clear hN
  dsimp only
  go_wp2_with fail
  refine (mod_any kind 3 _ (by omega) (by omega)).mono ?_
  rintro e w1 ⟨rfl, rfl⟩
  rw [hk]
  clear hk
  rw [show (1 : Int) + ((N : Int) - 1) = (N : Int) by omega]
  dsimp only
  have HB := Lib.hid ((Below.refl w.heap.size w).alloc (Nat.le_refl _) (.cells #[.string ⟨#[40]⟩, .string ⟨#[78, 79, 84, 32]⟩, .string ⟨#[45, 32]⟩] 9))
  go_wp2_with fail
  refine (Tryz.strings_Repeat ⟨#[40]⟩ N _ (by omega) (by rw [show (⟨#[40]⟩ : ByteArray).size = 1 from rfl]; omega)).mono ?_
  generalize World.alloc w _ = W0 at HB ⊢
  rintro e w1 ⟨rfl, hb⟩
  have HB1 := Lib.hid (HB.out.trans (hb.mono HB.out.size))
  clear hb HB
  have hz1 : (⟨(Lib.repeatL [40] N).toArray⟩ : ByteArray).size ≤ 160 := by rw [size_list]; simp [Lib.repeatL_length]; omega
  have H1 := Lib.hid (lv0 N)
  generalize (⟨(Lib.repeatL [40] N).toArray⟩ : ByteArray) = s1 at hz1 H1 ⊢
  have hy1 : ¬ 9223372036854775807 < s1.size + (⟨#[97]⟩ : ByteArray).size := by rw [show (⟨#[97]⟩ : ByteArray).size = 1 from rfl]; omega
  dsimp only
  go_wp2_with fail
  refine (Tryz.strings_Repeat ⟨#[41]⟩ N _ (by omega) (by rw [show (⟨#[41]⟩ : ByteArray).size = 1 from rfl]; omega)).mono ?_
  rintro e w2 ⟨rfl, hb⟩
  have HB2 := Lib.hid (HB1.out.trans (hb.mono HB1.out.size))
  clear hb HB1
  have hz2 : (⟨(Lib.repeatL [41] N).toArray⟩ : ByteArray).size ≤ 160 := by rw [size_list]; simp [Lib.repeatL_length]; omega
  generalize (⟨(Lib.repeatL [41] N).toArray⟩ : ByteArray) = s2 at hz2 H1 ⊢
  have hy2 : ¬ 9223372036854775807 < (s1 ++ ⟨#[97]⟩).size + s2.size := by rw [ByteArray.size_append, show (⟨#[97]⟩ : ByteArray).size = 1 from rfl]; omega
  dsimp only
  go_wp2_with fail
  have ht1 := HT.out.keep (M := fun _ => False) (.bel HB2.out) fun _ _ h => h
  refine (lv_expr _ 0 N hN40 H1.out _ ht1 (Nat.lt_of_lt_of_le h10 HB2.out.size)).mono ?_
  rintro e w3 ⟨x, a, s2, ac, sc, rfl, hb⟩
  have HB3 := Lib.hid (HB2.out.trans (hb.mono HB2.out.size))
  clear hb ht1 HB2
  unfold boxOf
  dsimp only
  go_wp2_with fail
  all_goals (
    have HB4 := Lib.hid (HB3.out.alloc HB3.out.size (.cells #[.int .i64 x.kind, .int .i64 x.op, .bool x.no, .int .i64 x.val.kind, .int .i64 x.val.int, .string x.val.text, .string x.table, .string x.name, .slice a x.args.length ac, .slice s2 x.sub.length sc] 30))
    refine (known13_any _ (HT.out.keep (M := fun _ => False) (.bel HB4.out) fun _ _ h => h) (Nat.lt_of_lt_of_le h10 HB4.out.size)).mono ?_
    rintro e w4 ⟨rfl, hb⟩
    have HB5 := Lib.hid (HB4.out.trans (hb.mono HB4.out.size))
    clear hb HB3 HB4
    dsimp only
    go_wp2_with fail
    go_ret
    exact ⟨rfl, HB5.out⟩)

set_option maxRecDepth 100000 in
set_option maxHeartbeats 4000000 in
theorem law_k1 (n kind : Int) (w : World) (ht : TokOk w) (h10 : 6 < w.heap.size) (hk : kind % 3 = 1) : Calls Tryz.prog 3 #[.int .i64 n, .int .i64 kind] w (RetBel (.bool true) w) := by
  have HT := Lib.hid ht
  clear ht
  obtain ⟨N, hN, hN1, hN40⟩ : ∃ N : Nat, n % 40 = ((N : Int) - 1) ∧ 1 ≤ N ∧ N ≤ 40 := ⟨(1 + n % 40).toNat, by omega, by omega, by omega⟩
  go_enter Tryz.func3, Tryz.ntmps3
  go_wp2_with fail
  refine (mod_any n 40 _ (by omega) (by omega)).mono ?_
  rintro e w1 ⟨rfl, rfl⟩
  rw [hN]
  clear hN
  dsimp only
  go_wp2_with fail
  refine (mod_any kind 3 _ (by omega) (by omega)).mono ?_
  rintro e w1 ⟨rfl, rfl⟩
  rw [hk]
  clear hk
  rw [show (1 : Int) + ((N : Int) - 1) = (N : Int) by omega]
  dsimp only
  have HB := Lib.hid ((Below.refl w.heap.size w).alloc (Nat.le_refl _) (.cells #[.string ⟨#[40]⟩, .string ⟨#[78, 79, 84, 32]⟩, .string ⟨#[45, 32]⟩] 9))
  go_wp2_with fail
  refine (Tryz.strings_Repeat ⟨#[78, 79, 84, 32]⟩ N _ (by omega) (by rw [show (⟨#[78, 79, 84, 32]⟩ : ByteArray).size = 4 from rfl]; omega)).mono ?_
  generalize World.alloc w _ = W0 at HB ⊢
  rintro e w1 ⟨rfl, hb⟩
  have HB1 := Lib.hid (HB.out.trans (hb.mono HB.out.size))
  clear hb HB
  have hz1 : (⟨(Lib.repeatL [78, 79, 84, 32] N).toArray⟩ : ByteArray).size ≤ 160 := by rw [size_list]; simp [Lib.repeatL_length]; omega
  have H1 := Lib.hid (lv1 N)
  generalize (⟨(Lib.repeatL [78, 79, 84, 32] N).toArray⟩ : ByteArray) = s1 at hz1 H1 ⊢
  have hy1 : ¬ 9223372036854775807 < s1.size + (⟨#[97]⟩ : ByteArray).size := by rw [show (⟨#[97]⟩ : ByteArray).size = 1 from rfl]; omega
  dsimp only
  go_wp2_with fail
  have ht1 := HT.out.keep (M := fun _ => False) (.bel HB1.out) fun _ _ h => h
  refine (lv_expr _ 1 N hN40 H1.out _ ht1 (Nat.lt_of_lt_of_le h10 HB1.out.size)).mono ?_
  rintro e w3 ⟨x, a, s2, ac, sc, rfl, hb⟩
  have HB3 := Lib.hid (HB1.out.trans (hb.mono HB1.out.size))
  clear hb ht1 HB1
  unfold boxOf
  dsimp only
  go_wp2_with fail
  all_goals (
    have HB4 := Lib.hid (HB3.out.alloc HB3.out.size (.cells #[.int .i64 x.kind, .int .i64 x.op, .bool x.no, .int .i64 x.val.kind, .int .i64 x.val.int, .string x.val.text, .string x.table, .string x.name, .slice a x.args.length ac, .slice s2 x.sub.length sc] 30))
    refine (known13_any _ (HT.out.keep (M := fun _ => False) (.bel HB4.out) fun _ _ h => h) (Nat.lt_of_lt_of_le h10 HB4.out.size)).mono ?_
    rintro e w4 ⟨rfl, hb⟩
    have HB5 := Lib.hid (HB4.out.trans (hb.mono HB4.out.size))
    clear hb HB3 HB4
    dsimp only
    go_wp2_with fail
    go_ret
    exact ⟨rfl, HB5.out⟩)

set_option maxRecDepth 100000 in
set_option maxHeartbeats 4000000 in
theorem law_k2 (n kind : Int) (w : World) (ht : TokOk w) (h10 : 6 < w.heap.size) (hk : kind % 3 = 2) : Calls Tryz.prog 3 #[.int .i64 n, .int .i64 kind] w (RetBel (.bool true) w) := by
  have HT := Lib.hid ht
  clear ht
  obtain ⟨N, hN, hN1, hN40⟩ : ∃ N : Nat, n % 40 = ((N : Int) - 1) ∧ 1 ≤ N ∧ N ≤ 40 := ⟨(1 + n % 40).toNat, by omega, by omega, by omega⟩
  go_enter Tryz.func3, Tryz.ntmps3
  go_wp2_with fail
  refine (mod_any n 40 _ (by omega) (by omega)).mono ?_
  rintro e w1 ⟨rfl, rfl⟩
  rw [hN]
  clear hN
  dsimp only
  go_wp2_with fail
  refine (mod_any kind 3 _ (by omega) (by omega)).mono ?_
  rintro e w1 ⟨rfl, rfl⟩
  rw [hk]
  clear hk
  rw [show (1 : Int) + ((N : Int) - 1) = (N : Int) by omega]
  dsimp only
  have HB := Lib.hid ((Below.refl w.heap.size w).alloc (Nat.le_refl _) (.cells #[.string ⟨#[40]⟩, .string ⟨#[78, 79, 84, 32]⟩, .string ⟨#[45, 32]⟩] 9))
  go_wp2_with fail
  refine (Tryz.strings_Repeat ⟨#[45, 32]⟩ N _ (by omega) (by rw [show (⟨#[45, 32]⟩ : ByteArray).size = 2 from rfl]; omega)).mono ?_
  generalize World.alloc w _ = W0 at HB ⊢
  rintro e w1 ⟨rfl, hb⟩
  have HB1 := Lib.hid (HB.out.trans (hb.mono HB.out.size))
  clear hb HB
  have hz1 : (⟨(Lib.repeatL [45, 32] N).toArray⟩ : ByteArray).size ≤ 160 := by rw [size_list]; simp [Lib.repeatL_length]; omega
  have H1 := Lib.hid (lv2 N)
  generalize (⟨(Lib.repeatL [45, 32] N).toArray⟩ : ByteArray) = s1 at hz1 H1 ⊢
  have hy1 : ¬ 9223372036854775807 < s1.size + (⟨#[97]⟩ : ByteArray).size := by rw [show (⟨#[97]⟩ : ByteArray).size = 1 from rfl]; omega
  dsimp only
  go_wp2_with fail
  have ht1 := HT.out.keep (M := fun _ => False) (.bel HB1.out) fun _ _ h => h
  refine (lv_expr _ 2 N hN40 H1.out _ ht1 (Nat.lt_of_lt_of_le h10 HB1.out.size)).mono ?_
  rintro e w3 ⟨x, a, s2, ac, sc, rfl, hb⟩
  have HB3 := Lib.hid (HB1.out.trans (hb.mono HB1.out.size))
  clear hb ht1 HB1
  unfold boxOf
  dsimp only
  go_wp2_with fail
  all_goals (
    have HB4 := Lib.hid (HB3.out.alloc HB3.out.size (.cells #[.int .i64 x.kind, .int .i64 x.op, .bool x.no, .int .i64 x.val.kind, .int .i64 x.val.int, .string x.val.text, .string x.table, .string x.name, .slice a x.args.length ac, .slice s2 x.sub.length sc] 30))
    refine (known13_any _ (HT.out.keep (M := fun _ => False) (.bel HB4.out) fun _ _ h => h) (Nat.lt_of_lt_of_le h10 HB4.out.size)).mono ?_
    rintro e w4 ⟨rfl, hb⟩
    have HB5 := Lib.hid (HB4.out.trans (hb.mono HB4.out.size))
    clear hb HB3 HB4
    dsimp only
    go_wp2_with fail
    go_ret
    exact ⟨rfl, HB5.out⟩)

theorem levels_any (n kind : Int) (w : World) (ht : TokOk w) (h10 : 6 < w.heap.size) : Calls Tryz.prog 3 #[.int .i64 n, .int .i64 kind] w (RetBel (.bool true) w) := by
  by_cases h0 : kind % 3 = 0
  · exact law_k0 n kind w ht h10 h0
  by_cases h1 : kind % 3 = 1
  · exact law_k1 n kind w ht h10 h1
  · exact law_k2 n kind w ht h10 (by omega)
end Go.Proofs.YtkhlmofcdchccaaGreatDoor
