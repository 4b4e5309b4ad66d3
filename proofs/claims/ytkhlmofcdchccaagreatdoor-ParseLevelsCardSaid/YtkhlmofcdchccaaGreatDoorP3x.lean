/- Products, sums, conjunctions and expressions in which no operator follows. -/
import Derived.Test.YtkhlmofcdchccaaGreatDoorP2x
namespace Go.Proofs.YtkhlmofcdchccaaGreatDoor
open Go.RowKit Go.Maps

/-- While a map of operators is filled (block mb, behind the result's block). -/
structure MInv (R : Nat) (en lev : Int) (l : List Tok) (w W : World) (mb : Nat) (ks : List ByteArray) : Prop where
  map : SM W mb ks
  old : w.heap.size < mb
  rd : RdOk R en lev l W
  kept : Keep (At R) w W
  box : W.heap[w.heap.size]? = some (.cells #[.int .i64 0, .int .i64 0, .bool false, .int .i64 0, .int .i64 0, .string ⟨#[]⟩, .string ⟨#[]⟩, .string ⟨#[]⟩, .slice none 0 0, .slice none 0 0] 30 (0, 0))
theorem MInv.start {R : Nat} {en lev : Int} {l : List Tok} {w : World} (h : RdOk R en lev l w) :
    MInv R en lev l w ((w.alloc (.cells #[.int .i64 0, .int .i64 0, .bool false, .int .i64 0, .int .i64 0, .string ⟨#[]⟩, .string ⟨#[]⟩, .string ⟨#[]⟩, .slice none 0 0, .slice none 0 0] 30)).alloc (.map #[] 0)) (w.heap.size + 1) [] where
  map := by
    have := SMap.made Tryz.prog 9 3 (w.alloc (.cells #[.int .i64 0, .int .i64 0, .bool false, .int .i64 0, .int .i64 0, .string ⟨#[]⟩, .string ⟨#[]⟩, .string ⟨#[]⟩, .slice none 0 0, .slice none 0 0] 30))
    rw [show (w.alloc (.cells #[.int .i64 0, .int .i64 0, .bool false, .int .i64 0, .int .i64 0, .string ⟨#[]⟩, .string ⟨#[]⟩, .string ⟨#[]⟩, .slice none 0 0, .slice none 0 0] 30)).heap.size = w.heap.size + 1 by simp] at this
    exact this
  old := by omega
  rd := (h.alloc _).alloc _
  kept := ((Keep.refl _ w).alloc _).alloc _
  box := (((Below.refl _ _).alloc (Nat.le_refl _) _).block w.heap.size (by simp)).trans (heap_alloc_new w _)
theorem MInv.ins {R : Nat} {en lev : Int} {l : List Tok} {w W W' : World} {mb : Nat} {ks ks' : List ByteArray} (h : MInv R en lev l w W mb ks) (hR : R < w.heap.size) (hm : SM W' mb ks') (hg : W.grownBy W' (some mb)) : MInv R en lev l w W' mb ks' where
  map := hm
  old := h.old
  rd := h.rd.keep (M := At mb) ⟨hg.os, hg.tape, hg.output, hg.size, fun k hk hn => hg.block k hk fun e => by cases e; exact hn rfl⟩ fun j hj => by have := h.old; unfold At at hj; omega
  kept := h.kept.grown hg fun k e hk => by cases e; have := h.old; omega
  box := (hg.block _ (blk10 h.box).2.2.2.2.2.2.2.2.2.2.2 fun e => by have := h.old; injection e with e; omega).trans h.box

set_option maxRecDepth 100000 in
set_option maxHeartbeats 2000000 in
theorem product_reads (R : Nat) (en lev : Int) (l : List Tok) (o : POut) (hf : Reads 234 R en lev l o) (hn : ∀ x l', o = .ok x l' → ∀ s ∈ ([⟨#[37]⟩, ⟨#[47]⟩, ⟨#[42]⟩] : List ByteArray), isB s l' = false) : Reads 216 R en lev l o := by
  intro w h
  have hRz := h.lt
  have HF := Lib.hid hf
  have HO := Lib.hid h
  have HN := Lib.hid hn
  have hi := MInv.start h
  clear hf h hn
  have hmm := @run_makeMap Tryz.prog
  have hmf : ∀ (fn : Fn) (first cap : Array Value) (w : World), (Instr.makeFunc fn first cap).run Tryz.prog w = .ok (.func fn first cap) w := fun _ _ _ _ => rfl
  go_enter Tryz.func216, Tryz.ntmps216
  go_wp2_with (refine wpList_insert_str _ rfl _ _ _ _ rfl rfl Tryz.underlying9 Tryz.underlying3 Tryz.underlying131 rfl (by decide) (by decide) (by simp) hi.map ?_; intro w9 hm9 hg9; replace hi := hi.ins hRz hm9 hg9; clear hm9 hg9)
  have HI := Lib.hid hi
  have hb9 := hi.box
  have hz9 := hi.map.lt
  have hk9 := hi.kept
  refine (left_any 234 R en lev l o (w.heap.size + 1) _ w9 HF.out (fun _ => rfl) hi.rd hi.map (by omega) HN.out).mono ?_
  rintro e w1 hp
  cases o with
  | ok x l' =>
    obtain ⟨v, rfl, hv, ho, hk⟩ := hp
    have HO1 := Lib.hid ho
    have HV := Lib.hid hv
    have HK := Lib.hid (hk9.trans hk)
    have hb1 := (hk.block w.heap.size (by omega) (by unfold At; omega)).trans hb9
    obtain ⟨aa, sa, ac, sc, rfl⟩ := hv.shape
    obtain ⟨x0, x1, x2, x3, x4, x5, x6, x7, x8, x9, xf, _⟩ := blk10 hb1
    clear ho hk hv hb1 hb9 hk9 hi HI
    dsimp only
    go_wp2_with fail
    refine bodyPost_ret (v := .agg #[.int .i64 x.kind, .int .i64 x.op, .bool x.no, .int .i64 x.val.kind, .int .i64 x.val.int, .string x.val.text, .string x.table, .string x.name, .slice aa x.args.length ac, .slice sa x.sub.length sc]) (by simp [results, Tryz.results216, go_sem, x0, x1, x2, x3, x4, x5, x6, x7, x8, x9]) rfl ?_
    have FIN := ex_end HO1.out HV.out HK.out hRz (Nat.le_refl w.heap.size) (by omega) (.int .i64 x.kind) (.int .i64 x.op) (.bool x.no) (.int .i64 x.val.kind) (.int .i64 x.val.int) (.string x.val.text) (.string x.table) (.string x.name) (.slice aa x.args.length ac) (.slice sa x.sub.length sc)
    exact FIN
  | fail a c =>
    obtain ⟨rfl, hk⟩ := hp
    have HK := Lib.hid (hk9.trans hk)
    clear hk hb9 hk9 hi HI
    dsimp only
    go_wp2_with fail
    exact ⟨rfl, rfl, HK.out⟩

set_option maxRecDepth 100000 in
set_option maxHeartbeats 2000000 in
theorem sum_reads (R : Nat) (en lev : Int) (l : List Tok) (o : POut) (hf : Reads 216 R en lev l o) (hn : ∀ x l', o = .ok x l' → ∀ s ∈ ([⟨#[45]⟩, ⟨#[43]⟩] : List ByteArray), isB s l' = false) : Reads 197 R en lev l o := by
  intro w h
  have hRz := h.lt
  have HF := Lib.hid hf
  have HO := Lib.hid h
  have HN := Lib.hid hn
  have hi := MInv.start h
  clear hf h hn
  have hmm := @run_makeMap Tryz.prog
  have hmf : ∀ (fn : Fn) (first cap : Array Value) (w : World), (Instr.makeFunc fn first cap).run Tryz.prog w = .ok (.func fn first cap) w := fun _ _ _ _ => rfl
  go_enter Tryz.func197, Tryz.ntmps197
  go_wp2_with (refine wpList_insert_str _ rfl _ _ _ _ rfl rfl Tryz.underlying9 Tryz.underlying3 Tryz.underlying131 rfl (by decide) (by decide) (by simp) hi.map ?_; intro w9 hm9 hg9; replace hi := hi.ins hRz hm9 hg9; clear hm9 hg9)
  have HI := Lib.hid hi
  have hb9 := hi.box
  have hz9 := hi.map.lt
  have hk9 := hi.kept
  refine (left_any 216 R en lev l o (w.heap.size + 1) _ w9 HF.out (fun _ => rfl) hi.rd hi.map (by omega) HN.out).mono ?_
  rintro e w1 hp
  cases o with
  | ok x l' =>
    obtain ⟨v, rfl, hv, ho, hk⟩ := hp
    have HO1 := Lib.hid ho
    have HV := Lib.hid hv
    have HK := Lib.hid (hk9.trans hk)
    have hb1 := (hk.block w.heap.size (by omega) (by unfold At; omega)).trans hb9
    obtain ⟨aa, sa, ac, sc, rfl⟩ := hv.shape
    obtain ⟨x0, x1, x2, x3, x4, x5, x6, x7, x8, x9, xf, _⟩ := blk10 hb1
    clear ho hk hv hb1 hb9 hk9 hi HI
    dsimp only
    go_wp2_with fail
    refine bodyPost_ret (v := .agg #[.int .i64 x.kind, .int .i64 x.op, .bool x.no, .int .i64 x.val.kind, .int .i64 x.val.int, .string x.val.text, .string x.table, .string x.name, .slice aa x.args.length ac, .slice sa x.sub.length sc]) (by simp [results, Tryz.results197, go_sem, x0, x1, x2, x3, x4, x5, x6, x7, x8, x9]) rfl ?_
    have FIN := ex_end HO1.out HV.out HK.out hRz (Nat.le_refl w.heap.size) (by omega) (.int .i64 x.kind) (.int .i64 x.op) (.bool x.no) (.int .i64 x.val.kind) (.int .i64 x.val.int) (.string x.val.text) (.string x.table) (.string x.name) (.slice aa x.args.length ac) (.slice sa x.sub.length sc)
    exact FIN
  | fail a c =>
    obtain ⟨rfl, hk⟩ := hp
    have HK := Lib.hid (hk9.trans hk)
    clear hk hb9 hk9 hi HI
    dsimp only
    go_wp2_with fail
    exact ⟨rfl, rfl, HK.out⟩

set_option maxRecDepth 100000 in
set_option maxHeartbeats 2000000 in
theorem conj_reads (R : Nat) (en lev : Int) (l : List Tok) (o : POut) (hf : Reads 99 R en lev l o) (hn : ∀ x l', o = .ok x l' → ∀ s ∈ ([⟨#[65, 78, 68]⟩] : List ByteArray), isB s l' = false) : Reads 49 R en lev l o := by
  intro w h
  have hRz := h.lt
  have HF := Lib.hid hf
  have HO := Lib.hid h
  have HN := Lib.hid hn
  have hi := MInv.start h
  clear hf h hn
  have hmm := @run_makeMap Tryz.prog
  have hmf : ∀ (fn : Fn) (first cap : Array Value) (w : World), (Instr.makeFunc fn first cap).run Tryz.prog w = .ok (.func fn first cap) w := fun _ _ _ _ => rfl
  go_enter Tryz.func49, Tryz.ntmps49
  go_wp2_with (refine wpList_insert_str _ rfl _ _ _ _ rfl rfl Tryz.underlying9 Tryz.underlying3 Tryz.underlying131 rfl (by decide) (by decide) (by simp) hi.map ?_; intro w9 hm9 hg9; replace hi := hi.ins hRz hm9 hg9; clear hm9 hg9)
  have HI := Lib.hid hi
  have hb9 := hi.box
  have hz9 := hi.map.lt
  have hk9 := hi.kept
  refine (left_any 99 R en lev l o (w.heap.size + 1) _ w9 HF.out (fun _ => rfl) hi.rd hi.map (by omega) HN.out).mono ?_
  rintro e w1 hp
  cases o with
  | ok x l' =>
    obtain ⟨v, rfl, hv, ho, hk⟩ := hp
    have HO1 := Lib.hid ho
    have HV := Lib.hid hv
    have HK := Lib.hid (hk9.trans hk)
    have hb1 := (hk.block w.heap.size (by omega) (by unfold At; omega)).trans hb9
    obtain ⟨aa, sa, ac, sc, rfl⟩ := hv.shape
    obtain ⟨x0, x1, x2, x3, x4, x5, x6, x7, x8, x9, xf, _⟩ := blk10 hb1
    clear ho hk hv hb1 hb9 hk9 hi HI
    dsimp only
    go_wp2_with fail
    refine bodyPost_ret (v := .agg #[.int .i64 x.kind, .int .i64 x.op, .bool x.no, .int .i64 x.val.kind, .int .i64 x.val.int, .string x.val.text, .string x.table, .string x.name, .slice aa x.args.length ac, .slice sa x.sub.length sc]) (by simp [results, Tryz.results49, go_sem, x0, x1, x2, x3, x4, x5, x6, x7, x8, x9]) rfl ?_
    have FIN := ex_end HO1.out HV.out HK.out hRz (Nat.le_refl w.heap.size) (by omega) (.int .i64 x.kind) (.int .i64 x.op) (.bool x.no) (.int .i64 x.val.kind) (.int .i64 x.val.int) (.string x.val.text) (.string x.table) (.string x.name) (.slice aa x.args.length ac) (.slice sa x.sub.length sc)
    exact FIN
  | fail a c =>
    obtain ⟨rfl, hk⟩ := hp
    have HK := Lib.hid (hk9.trans hk)
    clear hk hb9 hk9 hi HI
    dsimp only
    go_wp2_with fail
    exact ⟨rfl, rfl, HK.out⟩

set_option maxRecDepth 100000 in
set_option maxHeartbeats 2000000 in
theorem expr_reads (R : Nat) (en lev : Int) (l : List Tok) (o : POut) (hf : Reads 49 R en lev l o) (hn : ∀ x l', o = .ok x l' → ∀ s ∈ ([⟨#[79, 82]⟩] : List ByteArray), isB s l' = false) : Reads 23 R en lev l o := by
  intro w h
  have hRz := h.lt
  have HF := Lib.hid hf
  have HO := Lib.hid h
  have HN := Lib.hid hn
  have hi := MInv.start h
  clear hf h hn
  have hmm := @run_makeMap Tryz.prog
  have hmf : ∀ (fn : Fn) (first cap : Array Value) (w : World), (Instr.makeFunc fn first cap).run Tryz.prog w = .ok (.func fn first cap) w := fun _ _ _ _ => rfl
  go_enter Tryz.func23, Tryz.ntmps23
  go_wp2_with (refine wpList_insert_str _ rfl _ _ _ _ rfl rfl Tryz.underlying9 Tryz.underlying3 Tryz.underlying131 rfl (by decide) (by decide) (by simp) hi.map ?_; intro w9 hm9 hg9; replace hi := hi.ins hRz hm9 hg9; clear hm9 hg9)
  have HI := Lib.hid hi
  have hb9 := hi.box
  have hz9 := hi.map.lt
  have hk9 := hi.kept
  refine (left_any 49 R en lev l o (w.heap.size + 1) _ w9 HF.out (fun _ => rfl) hi.rd hi.map (by omega) HN.out).mono ?_
  rintro e w1 hp
  cases o with
  | ok x l' =>
    obtain ⟨v, rfl, hv, ho, hk⟩ := hp
    have HO1 := Lib.hid ho
    have HV := Lib.hid hv
    have HK := Lib.hid (hk9.trans hk)
    have hb1 := (hk.block w.heap.size (by omega) (by unfold At; omega)).trans hb9
    obtain ⟨aa, sa, ac, sc, rfl⟩ := hv.shape
    obtain ⟨x0, x1, x2, x3, x4, x5, x6, x7, x8, x9, xf, _⟩ := blk10 hb1
    clear ho hk hv hb1 hb9 hk9 hi HI
    dsimp only
    go_wp2_with fail
    refine bodyPost_ret (v := .agg #[.int .i64 x.kind, .int .i64 x.op, .bool x.no, .int .i64 x.val.kind, .int .i64 x.val.int, .string x.val.text, .string x.table, .string x.name, .slice aa x.args.length ac, .slice sa x.sub.length sc]) (by simp [results, Tryz.results23, go_sem, x0, x1, x2, x3, x4, x5, x6, x7, x8, x9]) rfl ?_
    have FIN := ex_end HO1.out HV.out HK.out hRz (Nat.le_refl w.heap.size) (by omega) (.int .i64 x.kind) (.int .i64 x.op) (.bool x.no) (.int .i64 x.val.kind) (.int .i64 x.val.int) (.string x.val.text) (.string x.table) (.string x.name) (.slice aa x.args.length ac) (.slice sa x.sub.length sc)
    exact FIN
  | fail a c =>
    obtain ⟨rfl, hk⟩ := hp
    have HK := Lib.hid (hk9.trans hk)
    clear hk hb9 hk9 hi HI
    dsimp only
    go_wp2_with fail
    exact ⟨rfl, rfl, HK.out⟩

end Go.Proofs.YtkhlmofcdchccaaGreatDoor
