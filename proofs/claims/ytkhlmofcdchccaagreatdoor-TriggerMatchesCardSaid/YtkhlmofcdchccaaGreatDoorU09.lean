/- The transition table of an insert without rows. The transition tables of a trigger for inserts that is not for each row. trigger.Check at the trigger of known: each row, or not. The visit of expressions without queries; what Reads and Mentions ask at the trigger of known. Visit of an abort; Reads and Mentions at the trigger of known. -/
import Derived.Test.YtkhlmofcdchccaaGreatDoorU08
import Derived.Test.YtkhlmofcdchccaaGreatDoorTM12
import Derived.Test.YtkhlmofcdchccaaGreatDoorU05
import Derived.Test.YtkhlmofcdchccaaGreatDoorU06
import Derived.Laws.EntriesVeiled
namespace Go.Proofs.YtkhlmofcdchccaaGreatDoor
open Go.RowKit

def ColR6 (_ : Nat → Prop) (_ : World) (c : Col) (cs : List Value) : Prop := ColR c cs
theorem colStable6 : Stable ColR6 where
  keep h _ := h
  weak h _ := h
  one h := colR_one default _ _ h
theorem infoCol6 : (Tryz.prog.info? 55).map (fun i => (i.zero, i.size, i.bytes)) = some (some (.agg #[.string ⟨#[]⟩, .int .i64 0, .bool false, .bool false]), 4, 32) := by kernel_rfl

theorem g6_o {lo : Nat} {w : World} {e : TypeId} {v : Value} {l : List Col} (h : RowsG lo w e 4 ColR6 v l) : RowsO lo w e 4 ColR v l := h

def TranQ (n : Nat) (w : World) (e : Ending) (w' : World) : Prop := ∃ (nm : ByteArray) (v : Value) (cl : List Col), e = .returned (.agg #[.string nm, v, .int .i64 1, .slice none 0 0]) ∧ ColsR NoM w' v cl ∧ cl.length ≤ n ∧ Below w.heap.size w w'

set_option maxRecDepth 100000 in
set_option maxHeartbeats 8000000 in
theorem tran_any {M : Nat → Prop} (nm nm2 : ByteArray) (cv : Value) (cl : List Col) (w : World) (hc : ColsR M w cv cl) (hl : cl.length ≤ 100) : Calls Tryz.prog 134 #[.string nm, .agg #[.string nm2, cv], .slice none 0 0] w (TranQ cl.length w) := by
  obtain ⟨ca, cc, rfl, _⟩ := hc.shape
  have HLR := Lib.hid fun j (hj : j < cl.length) => rows_row hc hj
  obtain ⟨n, hn⟩ : ∃ n, cl.length = n := ⟨_, rfl⟩
  rw [hn] at HLR hl ⊢
  clear hc hn
  have hP := (PB.start w).new #[.string nm2, .slice ca n cc] 42
  have hP := hP.new' (g := w.heap.size + 1) (by simp) #[.string ⟨#[]⟩, .slice none 0 0, .int .i64 0, .slice none 0 0] 96
  have hP := hP.new' (g := w.heap.size + 1 + 1) (by simp) #[.string nm, .slice none 0 0, .int .i64 1, .slice none 0 0] 96
  go_enter Tryz.func134, Tryz.ntmps134
  go_upto_region 2 with fail
  generalize World.alloc (World.alloc (World.alloc w _) _) _ = W0 at hP ⊢
  generalize hg : w.heap.size = g at hP ⊢
  have hgw : w.heap.size ≤ g := by omega
  clear hg
  have HP0 := Lib.hid hP
  obtain ⟨s0, s1, _⟩ := blk2 (hP.blk (b := ⟨g, _, _⟩) (List.mem_cons_of_mem _ (List.mem_cons_of_mem _ (List.mem_cons_self ..))))
  clear hP
  go_wp2_with fail
  go_loopw [18] (fun i wr => ∃ (j : Nat) (v : Value) (l : List Col), j ≤ n ∧ i = .int .i64 (j : Int) ∧ PB w wr [⟨g + 1 + 1, #[.string nm, v, .int .i64 1, .slice none 0 0], 96⟩, ⟨g + 1, #[.string ⟨#[]⟩, .slice none 0 0, .int .i64 0, .slice none 0 0], 96⟩] ∧ RowsO (g + 3) wr 55 4 ColR v l ∧ l.length = j) (fun i _ => n - (intOf i).toNat)
  case atStart => exact ⟨0, _, [], Nat.zero_le _, rfl, HP0.out.sub (by simp), RowsO.nil .., rfl⟩
  case round =>
    rename World => wr
    obtain ⟨j, v, l, hj, rfl, hpb, ho, hll⟩ := hrel
    obtain ⟨va, vc, rfl, hvm⟩ := ho.shape
    obtain rfl : l.length = j := hll
    have HPR := Lib.hid hpb
    have HO := Lib.hid ho
    have hzr := hpb.size
    have hgz := hpb.blt (List.mem_cons_self ..)
    obtain ⟨x0, x1, x2, x3, _, _, xz⟩ := blk4 (hpb.blk (List.mem_cons_self ..))
    have q0 := blk_fr (hpb.blk (List.mem_cons_self ..)) 1
    obtain ⟨y0, y1, y2, y3, _, _, yz⟩ := blk4 (hpb.blk (b := ⟨g + 1, _, _⟩) (List.mem_cons_of_mem _ (List.mem_cons_self ..)))
    have r0 := blk_fr (hpb.blk (b := ⟨g + 1, _, _⟩) (List.mem_cons_of_mem _ (List.mem_cons_self ..))) 0
    have r1 := blk_fr (hpb.blk (b := ⟨g + 1, _, _⟩) (List.mem_cons_of_mem _ (List.mem_cons_self ..))) 1
    have r2 := blk_fr (hpb.blk (b := ⟨g + 1, _, _⟩) (List.mem_cons_of_mem _ (List.mem_cons_self ..))) 2
    have r3 := blk_fr (hpb.blk (b := ⟨g + 1, _, _⟩) (List.mem_cons_of_mem _ (List.mem_cons_self ..))) 3
    dsimp only at hgz x0 x1 x2 x3 xz q0 y0 y1 y2 y3 yz r0 r1 r2 r3
    clear hpb ho
    by_cases hlt : l.length < n
    · have i0 : (0 : Int) ≤ (l.length : Int) := by omega
      have i1 : (l.length : Int) < (n : Int) := by omega
      obtain ⟨r, b, o, cs, hrj, hrm, hba, hbz, hvr, hcs, hcap, hcm'⟩ := HLR.out l.length hlt
      subst hba
      obtain rfl : cs = colCells r := hvr
      unfold maxLen at hcm'
      obtain ⟨c0, c1, c2, c3⟩ := CellsAt.c4 (hcs.keep (M := NoM) (.bel HPR.out.below) fun h => h)
      have hbz2 : b < wr.heap.size := by omega
      have hP4 := HPR.out.new #[.string r.name, .int .i64 r.type, .bool r.notNull, .bool r.key] 55
      have hG4 : RowsG (g + 3) (wr.alloc (.cells #[.string r.name, .int .i64 r.type, .bool r.notNull, .bool r.key] 55)) 55 4 ColR6 (.slice va l.length vc) l := RowsO.kept HO.out ((Keep.refl (fun _ => False) wr).alloc _) (fun _ _ => id) fun _ _ _ h => h
      clear hcs hrj hrm
      go_upto_region 5 with fail
      generalize hm : wr.heap.size = m at hP4 ⊢
      have hmw : g + 3 ≤ m := by omega
      clear hm x0 x1 x2 x3 xz q0 y0 y1 y2 y3 yz r0 r1 r2 r3 c0 c1 c2 c3
      generalize World.alloc wr _ = W5 at hP4 hG4 ⊢
      have HP5 := Lib.hid hP4
      have HG5 := Lib.hid hG4
      have hmz := hP4.blt (List.mem_cons_self ..)
      obtain ⟨x0, x1, x2, x3, _, _, xz⟩ := blk4 (hP4.blk (b := ⟨g + 1 + 1, _, _⟩) (List.mem_cons_of_mem _ (List.mem_cons_self ..)))
      obtain ⟨e0, e1, _⟩ := blk4 (hP4.blk (b := ⟨m, _, _⟩) (List.mem_cons_self ..))
      dsimp only at hmz x0 x1 x2 x3 xz e0 e1
      clear hP4 hG4
      go_wp2_with (at_builtin; go_loud (refine wpList_appG (w := W5) colStable6 rfl _ _ 40 rfl 55 _ 4 32 Tryz.underlying40 infoCol6 rfl (by decide) (g + 3) (.slice va l.length vc) W5.heap.size #[.string r.name, .int .i64 r.type, .bool false, .bool false] l ⟨r.name, r.type, false, false⟩ rfl rfl rfl HG5.out (by rfl) rfl (by omega) (by unfold maxLen; omega) (by omega) ?_; intro v9 w9 ho hk; have hlo := fun k (h : OwnB (.slice va l.length vc) k) => (RowsO.lt HG5.out h).1; have hP9 := (HP5.out.sub (L' := [⟨g + 1 + 1, #[.string nm, .slice va l.length vc, .int .i64 1, .slice none 0 0], 96⟩, ⟨g + 1, #[.string ⟨#[]⟩, .slice none 0 0, .int .i64 0, .slice none 0 0], 96⟩]) (by simp)).then hk (fun i hi hO => by have := hlo i hO; omega) (fun b hb hO => by have := hlo _ hO; simp only [List.mem_cons, List.not_mem_nil, or_false] at hb; rcases hb with rfl | rfl <;> dsimp only at * <;> omega); obtain ⟨a9, c9, hv9, _⟩ := RowsO.shape ho; simp only [List.length_append, List.length_singleton] at hv9; subst hv9; have hdb := hP9.blk (List.mem_cons_self ..); (try dsimp only at hdb); have HDB := Lib.hid hdb; obtain ⟨z0, z1, z2, z3, _, _, zz⟩ := blk4 hdb; have zf := blk_fr hdb 1; clear hdb; (try dsimp only at z0 z1 z2 z3 zz zf); have HP9 := Lib.hid hP9; have HG9 := Lib.hid ho; clear ho hk hlo hP9))
      go_roundw
      case rel => exact ⟨l.length + 1, .slice a9 (l.length + 1) c9, l ++ [⟨r.name, r.type, false, false⟩], by omega, by go_num, HP9.out.put 1 _ (blk4_set1 HDB.out) (by simp), RowsO.kept (R := ColR) (R' := ColR) (g6_o HG9.out) ((Keep.refl (At (g + 1 + 1)) w9).setCell (p := ⟨g + 1 + 1, 1, none⟩) (fun _ => rfl) _) (fun k h e => by have := (RowsO.lt (g6_o HG9.out) h).1; unfold At at e; omega) fun _ _ _ h => h, by simp⟩
      case measure => simp [intOf]; omega
    · have i1 : ¬ (l.length : Int) < (n : Int) := by omega
      go_wp2_with fail
      refine bodyPost_ret (v := .agg #[.string nm, .slice va l.length vc, .int .i64 1, .slice none 0 0]) (by simp [results, Tryz.results134, go_sem, y0, y1, y2, y3]) rfl ?_
      have k4 := set4_keep wr (g + 1) (.string nm) (.slice va l.length vc) (.int .i64 1) (.slice none 0 0)
      exact ⟨nm, .slice va l.length vc, l, rfl, (RowsO.kept HO.out k4 (fun k h e => by have := (RowsO.lt HO.out h).1; unfold At at e; omega) fun _ _ _ h => h).rows fun _ _ _ h => h, hj, ((HPR.out.sub (L' := []) (by simp)).then k4 (fun i hi h => by unfold At at h; omega) fun b hb => by cases hb).below⟩
end Go.Proofs.YtkhlmofcdchccaaGreatDoor
namespace Go.Proofs.YtkhlmofcdchccaaGreatDoor
open Go.RowKit

def TransQ (n : Nat) (w : World) (e : Ending) (w' : World) : Prop := ∃ (v : Value) (s : Sch), e = .returned v ∧ TblsR NoM w' v [s] ∧ s.cols.length ≤ n ∧ Below w.heap.size w w'

set_option maxRecDepth 100000 in
set_option maxHeartbeats 8000000 in
theorem transK_off {M : Nat → Prop} (a0 a1 a4 a6 a7 a8 a9 a10 : Value) (nm : ByteArray) (cv : Value) (cl : List Col) (w : World) (hc : ColsR M w cv cl) (hl : cl.length ≤ 100) : Calls Tryz.prog 86 #[.agg #[a0, a1, .bool false, .int .i64 1, a4, .bool false, a6, a7, a8, a9, a10], .agg #[.string nm, cv], .agg #[.string ⟨#[]⟩, .slice none 0 0, .slice none 0 0, .slice none 0 0]] w (TransQ cl.length w) := by
  obtain ⟨ca, cc, rfl, _⟩ := hc.shape
  obtain ⟨n, hn⟩ : ∃ n, cl.length = n := ⟨_, rfl⟩
  have HCC := Lib.hid fun (wx : World) (h : Below w.heap.size w wx) (t : ByteArray) => tran_any t nm (.slice ca cl.length cc) cl wx (hc.keep (.bel h)) hl
  rw [hn] at HCC hl ⊢
  clear hc hn
  have hP := (PB.start w).new #[a0, a1, .bool false, .int .i64 1, a4, .bool false, a6, a7, a8, a9, a10] 52
  have hP := hP.new' (g := w.heap.size + 1) (by simp) #[.string nm, .slice ca n cc] 42
  have hP := hP.new' (g := w.heap.size + 1 + 1) (by simp) #[.string ⟨#[]⟩, .slice none 0 0, .slice none 0 0, .slice none 0 0] 47
  go_enter Tryz.func86, Tryz.ntmps86
  go_upto_region 1 with fail
  generalize World.alloc (World.alloc (World.alloc w _) _) _ = W0 at hP ⊢
  generalize hg : w.heap.size = g at hP ⊢
  have hgw : w.heap.size ≤ g := by omega
  clear hg
  have HP0 := Lib.hid hP
  obtain ⟨s0, s1, _⟩ := blk2 (hP.blk (b := ⟨g + 1, _, _⟩) (List.mem_cons_of_mem _ (List.mem_cons_self ..)))
  obtain ⟨t0, t1, t2, t3, t4, t5, _⟩ := blk11 (hP.blk (b := ⟨g, _, _⟩) (List.mem_cons_of_mem _ (List.mem_cons_of_mem _ (List.mem_cons_self ..))))
  obtain ⟨d0, d1, d2, d3, _, _, dz⟩ := blk4 (hP.blk (b := ⟨g + 1 + 1, _, _⟩) (List.mem_cons_self ..))
  dsimp only at s0 s1 t0 t1 t2 t3 t4 t5 d0 d1 d2 d3 dz
  clear hP
  go_upto_region 3 with fail
  go_quiet ((go_at_call 32; exact Calls.quiet_of_same (deepRows_nil _)))
  have hP1 := HP0.out.bel (drewN_below (Below.refl W0.heap.size W0) nq)
  generalize World.drewN W0 nq = W1 at hP1 ⊢
  clear s0 s1 t0 t1 t2 t3 t4 t5 d0 d1 d2 d3 dz HP0
  have HP1 := Lib.hid hP1
  obtain ⟨s0, s1, _⟩ := blk2 (hP1.blk (b := ⟨g + 1, _, _⟩) (List.mem_cons_of_mem _ (List.mem_cons_self ..)))
  obtain ⟨t0, t1, t2, t3, t4, t5, _⟩ := blk11 (hP1.blk (b := ⟨g, _, _⟩) (List.mem_cons_of_mem _ (List.mem_cons_of_mem _ (List.mem_cons_self ..))))
  obtain ⟨d0, d1, d2, d3, _, _, dz⟩ := blk4 (hP1.blk (b := ⟨g + 1 + 1, _, _⟩) (List.mem_cons_self ..))
  dsimp only at s0 s1 t0 t1 t2 t3 t4 t5 d0 d1 d2 d3 dz
  clear hP1
  go_wp2_with fail
  refine (HCC.out W1 HP1.out.below _).mono ?_
  rintro e w2 ⟨tn, tv, tl, rfl, ho, hll, hb⟩
  have HO1 := Lib.hid ho
  have HP2 := Lib.hid (HP1.out.bel hb)
  have hz2 := HP2.out.size
  have HF2 : Hid (TblR NoM w2 ⟨tn, tl⟩ [.string tn, tv, .int .i64 1, .slice none 0 0]) := Lib.hid ⟨_, _, _, _, _, rfl, ho⟩
  clear ho hb
  dsimp only
  go_wp2_with (at_builtin; go_loud (refine wpList_app rfl _ _ 109 rfl 96 _ 4 72 Tryz.underlying109 infoTbl rfl (by decide) (R := TblR NoM w2) (M := NoM) w.heap.size (.slice none 0 0) (.slice (some ⟨w2.heap.size, 0, none⟩) 1 1) [] [⟨tn, tl⟩] rfl rfl (RowsO.nil ..) (rows_one (⟨tn, tl⟩ : Sch) rfl id rfl HF2.out) (fun y _ cs h => tbl_one1 y cs h) (by simp) (by simp [maxLen]) (by simp; omega) ?_; intro v9 w9 ho hk _; have HO9 := Lib.hid ho; have HK9 := Lib.hid (bel_nil hk); clear ho hk))
  go_ret
  have hb9 : Below w2.heap.size w2 w9 := ((Below.refl _ w2).alloc (Nat.le_refl _) _).trans (HK9.out.mono (by simp))
  exact ⟨v9, ⟨tn, tl⟩, rfl, (HO9.out.imp fun y _ cs hc => tblR_later hc hb9).rows fun _ _ _ h => h, hll, (HP2.out.bel hb9).below⟩
end Go.Proofs.YtkhlmofcdchccaaGreatDoor
namespace Go.Proofs.YtkhlmofcdchccaaGreatDoor
open Go.RowKit

theorem find_t : findTbl schs3 (bs [116]) = some 1 := by decide +kernel
theorem schs3_1 : schs3[1]? = some schT := rfl
theorem small3 : ColsSmall schs3 := by
  intro s hs
  simp only [schs3, List.mem_cons, List.not_mem_nil, or_false] at hs
  rcases hs with rfl | rfl | rfl <;> decide +kernel
theorem small_app {ts : List Sch} {s : Sch} (h : ColsSmall ts) (hs : s.cols.length * 32 ≤ 140737488355328) : ColsSmall (ts ++ [s]) := by
  intro x hx
  rcases List.mem_append.1 hx with hx | hx
  · exact h x hx
  · rw [List.mem_singleton.1 hx]; exact hs
theorem hf5k {w w' : World} {v : Value} {l : List Frm} (hb : Below w.heap.size w w') (h : FrmsR NoM w v l) : FrmsR NoM w' v l := h.keep (.bel hb)
theorem hsck {w w' : World} {v : Value} {l : List Col} (hb : Below w.heap.size w w') (h : ColsR NoM w v l) : ColsR NoM w' v l := h.keep (.bel hb)
theorem schT_len : schT.cols.length = 4 := rfl

set_option maxRecDepth 100000 in
set_option maxHeartbeats 8000000 in
theorem checkK_each (n1 : ByteArray) (wv vt : Value) (x : Ex) (ab : Nat) (w : World) (h1 : nameB n1 = true) (hs1 : n1.size ≤ maxLen) (hx : ExsR NoM w wv [x]) (hxt : TxtOk x) (hp : validL [x] = true) (hdx : dep x ≤ 5) (ht : TblsR NoM w vt schs3)
    (hab : w.heap[ab]? = some (.cells #[.int .i64 4, .string ⟨#[]⟩, .slice none 0 0, .slice none 0 0, .slice none 0 0, .slice none 0 0, .string ⟨#[]⟩] 85 (0, 0)))
    (hy : ∀ ts, typeC ts [x] [newFrm schT.cols] = 0) :
    Calls Tryz.prog 38 #[.agg #[.string n1, .string (bs [116]), .bool false, .int .i64 1, .slice none 0 0, .bool true, .slice none 0 0, .slice none 0 0, .slice none 0 0, wv, .slice (some ⟨ab, 0, none⟩) 1 1], vt] w (RetBel (.int .i64 0) w) := by
  have HVT := Lib.hid fun (wx : World) (h : Below w.heap.size w wx) => validTrigger_ok n1 (bs [116]) true wv x ab wx h1 (by decide +kernel) hs1 (by decide +kernel) (RowsR.map hx (.bel h) fun _ _ _ hc => EC.keep (.bel h) _ _ hc) hxt hp ((h.block ab (Array.getElem?_eq_some_iff.1 hab).1).trans hab)
  have HX := Lib.hid fun (wx : World) (h : Below w.heap.size w wx) => (RowsR.map hx (.bel h) fun _ _ _ hc => EC.keep (.bel h) _ _ hc : ExsR NoM wx wv [x])
  have HT := Lib.hid fun (wx : World) (h : Below w.heap.size w wx) => ht.keep (.bel h)
  have HAB := Lib.hid fun (wx : World) (h : Below w.heap.size w wx) => cells7 ((h.block ab (Array.getElem?_eq_some_iff.1 hab).1).trans hab)
  obtain ⟨wa, wc, rfl, hmx⟩ := hx.shape
  obtain ⟨ta, tc, rfl, hmt⟩ := ht.shape
  have hzab := (Array.getElem?_eq_some_iff.1 hab).1
  have HY := Lib.hid hy
  have HDX := Lib.hid hdx
  have hl3 : schs3.length = 3 := rfl
  rw [hl3] at HT ⊢
  have hfs := find_t
  simp only [List.length_singleton] at HVT HX ⊢
  generalize bs [116] = tb at HVT hfs ⊢
  have HFS := Lib.hid hfs
  clear hx ht hab h1 hs1 hxt hp hl3 hfs hmx hmt hy hdx
  have hP := (PB.start w).new #[.string n1, .string tb, .bool false, .int .i64 1, .slice none 0 0, .bool true, .slice none 0 0, .slice none 0 0, .slice none 0 0, .slice wa 1 wc, .slice (some ⟨ab, 0, none⟩) 1 1] 52
  go_enter Tryz.func38, Tryz.ntmps38
  go_upto_region 1 with fail
  generalize World.alloc w _ = W0 at hP ⊢
  generalize hg : w.heap.size = g at hP ⊢
  have hgw : w.heap.size ≤ g := by omega
  clear hg
  have HP0 := Lib.hid hP
  obtain ⟨t0, t1, t2, t3, t4, t5, t6, t7, t8, t9, t10, _⟩ := blk11 (hP.blk (b := ⟨g, #[.string n1, .string tb, .bool false, .int .i64 1, .slice none 0 0, .bool true, .slice none 0 0, .slice none 0 0, .slice none 0 0, .slice wa 1 wc, .slice (some ⟨ab, 0, none⟩) 1 1], 52⟩) (by simp))
  have tz := hP.blt (b := ⟨g, #[.string n1, .string tb, .bool false, .int .i64 1, .slice none 0 0, .bool true, .slice none 0 0, .slice none 0 0, .slice none 0 0, .slice wa 1 wc, .slice (some ⟨ab, 0, none⟩) 1 1], 52⟩) (by simp)
  dsimp only at t0 t1 t2 t3 t4 t5 t6 t7 t8 t9 t10 tz
  clear hP
  go_wp2_with fail
  refine (HVT.out W0 HP0.out.below).mono ?_
  rintro e w1 ⟨rfl, hb⟩
  have hP := HP0.out.bel hb
  clear HP0 t0 t1 t2 t3 t4 t5 t6 t7 t8 t9 t10 tz hb
  have HP1 := Lib.hid hP
  obtain ⟨t0, t1, t2, t3, t4, t5, t6, t7, t8, t9, t10, _⟩ := blk11 (hP.blk (b := ⟨g, #[.string n1, .string tb, .bool false, .int .i64 1, .slice none 0 0, .bool true, .slice none 0 0, .slice none 0 0, .slice none 0 0, .slice wa 1 wc, .slice (some ⟨ab, 0, none⟩) 1 1], 52⟩) (by simp))
  have tz := hP.blt (b := ⟨g, #[.string n1, .string tb, .bool false, .int .i64 1, .slice none 0 0, .bool true, .slice none 0 0, .slice none 0 0, .slice none 0 0, .slice wa 1 wc, .slice (some ⟨ab, 0, none⟩) 1 1], 52⟩) (by simp)
  dsimp only at t0 t1 t2 t3 t4 t5 t6 t7 t8 t9 t10 tz
  clear hP
  dsimp only
  go_wp2_with fail
  refine (source_some (.slice ta 3 tc) schs3 tb w1 1 schT (HT.out w1 HP1.out.below) HFS.out schs3_1 (by rw [schT_len]; decide)).mono ?_
  rintro e w2 ⟨sv, rfl, hsc, hb⟩
  have hP := HP1.out.bel hb
  clear HP1 t0 t1 t2 t3 t4 t5 t6 t7 t8 t9 t10 tz hb
  have hP := hP.new #[.string schT.name, sv] 42
  dsimp only
  have HSC0 := Lib.hid (hsc.weak (M' := NoM) fun _ _ h => h.elim)
  obtain ⟨sa, sc, hsv, _⟩ := hsc.shape
  subst hsv
  rw [schT_len] at HSC0 hP ⊢
  clear hsc
  go_upto_region 4 with fail
  generalize schT.name = sn at hP ⊢
  have hW3 : Below w2.heap.size w2 (w2.alloc (.cells #[.string sn, .slice sa 4 sc] 42)) := (Below.refl _ _).alloc (Nat.le_refl _) _
  generalize World.alloc w2 _ = W3 at hP hW3 ⊢
  generalize hm : w2.heap.size = m at hP ⊢
  have HSC := Lib.hid fun (wx : World) (h : Below W3.heap.size W3 wx) => (HSC0.out.keep (Keep.bel hW3)).keep (.bel h)
  have hz3 := hW3.size
  clear hm hW3 HSC0
  have HP3 := Lib.hid hP
  obtain ⟨t0, t1, t2, t3, t4, t5, t6, t7, t8, t9, t10, _⟩ := blk11 (hP.blk (b := ⟨g, #[.string n1, .string tb, .bool false, .int .i64 1, .slice none 0 0, .bool true, .slice none 0 0, .slice none 0 0, .slice none 0 0, .slice wa 1 wc, .slice (some ⟨ab, 0, none⟩) 1 1], 52⟩) (by simp))
  obtain ⟨s0, s1, _⟩ := blk2 (hP.blk (b := ⟨m, #[.string sn, .slice sa 4 sc], 42⟩) (by simp))
  have tz := hP.blt (b := ⟨g, #[.string n1, .string tb, .bool false, .int .i64 1, .slice none 0 0, .bool true, .slice none 0 0, .slice none 0 0, .slice none 0 0, .slice wa 1 wc, .slice (some ⟨ab, 0, none⟩) 1 1], 52⟩) (by simp)
  have sz := hP.blt (b := ⟨m, #[.string sn, .slice sa 4 sc], 42⟩) (by simp)
  dsimp only at t0 t1 t2 t3 t4 t5 t6 t7 t8 t9 t10 tz s0 s1 sz
  clear hP
  go_wp2_with fail
  refine (checkNames_nil _ _ _ _ _ _ _ _ _ sn sa 4 sc _ W3).mono ?_
  rintro e w4 ⟨rfl, hb⟩
  have hP := HP3.out.bel hb
  have hz4 := hb.size
  have HSC4 := Lib.hid (HSC.out w4 hb)
  clear HP3 t0 t1 t2 t3 t4 t5 t6 t7 t8 t9 t10 tz s0 s1 sz hb HSC
  have HP4 := Lib.hid hP
  obtain ⟨t0, t1, t2, t3, t4, t5, t6, t7, t8, t9, t10, _⟩ := blk11 (hP.blk (b := ⟨g, #[.string n1, .string tb, .bool false, .int .i64 1, .slice none 0 0, .bool true, .slice none 0 0, .slice none 0 0, .slice none 0 0, .slice wa 1 wc, .slice (some ⟨ab, 0, none⟩) 1 1], 52⟩) (by simp))
  obtain ⟨s0, s1, _⟩ := blk2 (hP.blk (b := ⟨m, #[.string sn, .slice sa 4 sc], 42⟩) (by simp))
  have tz := hP.blt (b := ⟨g, #[.string n1, .string tb, .bool false, .int .i64 1, .slice none 0 0, .bool true, .slice none 0 0, .slice none 0 0, .slice none 0 0, .slice wa 1 wc, .slice (some ⟨ab, 0, none⟩) 1 1], 52⟩) (by simp)
  have sz := hP.blt (b := ⟨m, #[.string sn, .slice sa 4 sc], 42⟩) (by simp)
  dsimp only at t0 t1 t2 t3 t4 t5 t6 t7 t8 t9 t10 tz s0 s1 sz
  clear hP
  dsimp only
  go_wp2_with fail
  refine (framesK_on _ _ _ _ _ _ _ _ _ sn (.slice sa 4 sc) schT.cols w4 HSC4.out (by rw [schT_len]; decide)).mono ?_
  rintro e w5 ⟨v5, rfl, hf5, hb⟩
  have hP := HP4.out.bel hb
  have hz5 := hb.size
  obtain ⟨fa, fc, rfl, hmf⟩ := hf5.shape
  have HF5 := Lib.hid hf5
  clear HP4 t0 t1 t2 t3 t4 t5 t6 t7 t8 t9 t10 tz s0 s1 sz hb hf5 hmf HSC4
  have HP5 := Lib.hid hP
  obtain ⟨t0, t1, t2, t3, t4, t5, t6, t7, t8, t9, t10, _⟩ := blk11 (hP.blk (b := ⟨g, #[.string n1, .string tb, .bool false, .int .i64 1, .slice none 0 0, .bool true, .slice none 0 0, .slice none 0 0, .slice none 0 0, .slice wa 1 wc, .slice (some ⟨ab, 0, none⟩) 1 1], 52⟩) (by simp))
  obtain ⟨s0, s1, _⟩ := blk2 (hP.blk (b := ⟨m, #[.string sn, .slice sa 4 sc], 42⟩) (by simp))
  have tz := hP.blt (b := ⟨g, #[.string n1, .string tb, .bool false, .int .i64 1, .slice none 0 0, .bool true, .slice none 0 0, .slice none 0 0, .slice none 0 0, .slice wa 1 wc, .slice (some ⟨ab, 0, none⟩) 1 1], 52⟩) (by simp)
  have sz := hP.blt (b := ⟨m, #[.string sn, .slice sa 4 sc], 42⟩) (by simp)
  dsimp only at t0 t1 t2 t3 t4 t5 t6 t7 t8 t9 t10 tz s0 s1 sz
  clear hP
  simp only [List.length_singleton] at HF5 ⊢
  try dsimp only
  go_wp2_with fail
  refine (transK_each _ _ _ _ _ _ _ _ _ sn sa 4 sc _ _ _ _ w5).mono ?_
  rintro e w6 ⟨rfl, hb⟩
  have hP := HP5.out.bel hb
  have hz6 := hb.size
  have HF6 := Lib.hid (hf5k hb HF5.out)
  clear HP5 t0 t1 t2 t3 t4 t5 t6 t7 t8 t9 t10 tz s0 s1 sz hb HF5
  have HP6 := Lib.hid hP
  obtain ⟨t0, t1, t2, t3, t4, t5, t6, t7, t8, t9, t10, _⟩ := blk11 (hP.blk (b := ⟨g, #[.string n1, .string tb, .bool false, .int .i64 1, .slice none 0 0, .bool true, .slice none 0 0, .slice none 0 0, .slice none 0 0, .slice wa 1 wc, .slice (some ⟨ab, 0, none⟩) 1 1], 52⟩) (by simp))
  obtain ⟨s0, s1, _⟩ := blk2 (hP.blk (b := ⟨m, #[.string sn, .slice sa 4 sc], 42⟩) (by simp))
  have tz := hP.blt (b := ⟨g, #[.string n1, .string tb, .bool false, .int .i64 1, .slice none 0 0, .bool true, .slice none 0 0, .slice none 0 0, .slice none 0 0, .slice wa 1 wc, .slice (some ⟨ab, 0, none⟩) 1 1], 52⟩) (by simp)
  have sz := hP.blt (b := ⟨m, #[.string sn, .slice sa 4 sc], 42⟩) (by simp)
  dsimp only at t0 t1 t2 t3 t4 t5 t6 t7 t8 t9 t10 tz s0 s1 sz
  clear hP
  try dsimp only
  go_wp2_with fail
  have hb7 : Below w6.heap.size w6 (w6.alloc (.cells #[.slice ta 3 tc, .slice none 0 0] 109)) := (Below.refl _ _).alloc (Nat.le_refl _) _
  refine (concat_tbl (M := NoM) (.slice ta 3 tc) (.slice none 0 0) schs3 [] w6.heap.size _ (HT.out _ (HP6.out.bel hb7).below) (RowsR.nil ..) (heap_alloc_new w6 _) (by decide) (by decide)).mono ?_
  rintro e w8 ⟨v8, rfl, ht8, hb⟩
  have hb8 := hb7.trans (hb.mono hb7.size)
  have hP := HP6.out.bel hb8
  have hz8 := hb8.size
  have HF8 := Lib.hid (hf5k hb8 HF6.out)
  have HT8 := Lib.hid ht8
  clear HP6 t0 t1 t2 t3 t4 t5 t6 t7 t8 t9 t10 tz s0 s1 sz hb hb7 hb8 HF6 ht8
  have HP8 := Lib.hid hP
  obtain ⟨t0, t1, t2, t3, t4, t5, t6, t7, t8, t9, t10, _⟩ := blk11 (hP.blk (b := ⟨g, #[.string n1, .string tb, .bool false, .int .i64 1, .slice none 0 0, .bool true, .slice none 0 0, .slice none 0 0, .slice none 0 0, .slice wa 1 wc, .slice (some ⟨ab, 0, none⟩) 1 1], 52⟩) (by simp))
  obtain ⟨s0, s1, _⟩ := blk2 (hP.blk (b := ⟨m, #[.string sn, .slice sa 4 sc], 42⟩) (by simp))
  have tz := hP.blt (b := ⟨g, #[.string n1, .string tb, .bool false, .int .i64 1, .slice none 0 0, .bool true, .slice none 0 0, .slice none 0 0, .slice none 0 0, .slice wa 1 wc, .slice (some ⟨ab, 0, none⟩) 1 1], 52⟩) (by simp)
  have sz := hP.blt (b := ⟨m, #[.string sn, .slice sa 4 sc], 42⟩) (by simp)
  dsimp only at t0 t1 t2 t3 t4 t5 t6 t7 t8 t9 t10 tz s0 s1 sz
  clear hP
  try dsimp only
  go_wp2_with fail
  have HCD := Lib.hid (condition_any (schs3 ++ []) [x] [newFrm schT.cols] (.slice wa 1 wc) (.slice fa 1 fc) v8 w8 (fun e _ => type_any _ (by rw [List.append_nil]; exact small3) e) (HX.out w8 HP8.out.below) HF8.out HT8.out (by have := HDX.out; simp [depL]; omega))
  rw [HY.out] at HCD
  refine HCD.out.mono ?_
  rintro e w9 ⟨rfl, hb⟩
  have hP := HP8.out.bel hb
  have hz9 := hb.size
  clear HP8 t0 t1 t2 t3 t4 t5 t6 t7 t8 t9 t10 tz s0 s1 sz hb HCD
  have HP9 := Lib.hid hP
  obtain ⟨t0, t1, t2, t3, t4, t5, t6, t7, t8, t9, t10, _⟩ := blk11 (hP.blk (b := ⟨g, #[.string n1, .string tb, .bool false, .int .i64 1, .slice none 0 0, .bool true, .slice none 0 0, .slice none 0 0, .slice none 0 0, .slice wa 1 wc, .slice (some ⟨ab, 0, none⟩) 1 1], 52⟩) (by simp))
  obtain ⟨s0, s1, _⟩ := blk2 (hP.blk (b := ⟨m, #[.string sn, .slice sa 4 sc], 42⟩) (by simp))
  have tz := hP.blt (b := ⟨g, #[.string n1, .string tb, .bool false, .int .i64 1, .slice none 0 0, .bool true, .slice none 0 0, .slice none 0 0, .slice none 0 0, .slice wa 1 wc, .slice (some ⟨ab, 0, none⟩) 1 1], 52⟩) (by simp)
  have sz := hP.blt (b := ⟨m, #[.string sn, .slice sa 4 sc], 42⟩) (by simp)
  dsimp only at t0 t1 t2 t3 t4 t5 t6 t7 t8 t9 t10 tz s0 s1 sz
  clear hP
  try dsimp only
  go_wp2_with fail
  go_loopw [54] (fun i wr => ∃ k : Nat, k ≤ 1 ∧ i = .int .i64 (k : Int) ∧ PB w wr [⟨m, #[.string sn, .slice sa 4 sc], 42⟩, ⟨g, #[.string n1, .string tb, .bool false, .int .i64 1, .slice none 0 0, .bool true, .slice none 0 0, .slice none 0 0, .slice none 0 0, .slice wa 1 wc, .slice (some ⟨ab, 0, none⟩) 1 1], 52⟩]) (fun i _ => 1 - (intOf i).toNat)
  case atStart => exact ⟨0, Nat.zero_le _, rfl, HP9.out⟩
  case round =>
    rename World => wr
    obtain ⟨k, hk, rfl, hP⟩ := hrel
    clear t0 t1 t2 t3 t4 t5 t6 t7 t8 t9 t10 tz s0 s1 sz HP9
    have HPR := Lib.hid hP
    obtain ⟨t0, t1, t2, t3, t4, t5, t6, t7, t8, t9, t10, _⟩ := blk11 (hP.blk (b := ⟨g, #[.string n1, .string tb, .bool false, .int .i64 1, .slice none 0 0, .bool true, .slice none 0 0, .slice none 0 0, .slice none 0 0, .slice wa 1 wc, .slice (some ⟨ab, 0, none⟩) 1 1], 52⟩) (by simp))
    obtain ⟨s0, s1, _⟩ := blk2 (hP.blk (b := ⟨m, #[.string sn, .slice sa 4 sc], 42⟩) (by simp))
    have tz := hP.blt (b := ⟨g, #[.string n1, .string tb, .bool false, .int .i64 1, .slice none 0 0, .bool true, .slice none 0 0, .slice none 0 0, .slice none 0 0, .slice wa 1 wc, .slice (some ⟨ab, 0, none⟩) 1 1], 52⟩) (by simp)
    have sz := hP.blt (b := ⟨m, #[.string sn, .slice sa 4 sc], 42⟩) (by simp)
    dsimp only at t0 t1 t2 t3 t4 t5 t6 t7 t8 t9 t10 tz s0 s1 sz
    clear hP
    have hzr := HPR.out.size
    obtain ⟨c0, c1, c2, c3, c4, c5, c6⟩ := HAB.out wr HPR.out.below
    by_cases h0 : k = 0
    · subst h0
      have hP := HPR.out.alloc (.cells #[.int .i64 4, .string ⟨#[]⟩, .slice none 0 0, .slice none 0 0, .slice none 0 0, .slice none 0 0, .string ⟨#[]⟩] 85)
      have hbk := heap_alloc_new wr (.cells #[.int .i64 4, .string ⟨#[]⟩, .slice none 0 0, .slice none 0 0, .slice none 0 0, .slice none 0 0, .string ⟨#[]⟩] 85)
      go_upto_region 17 with fail
      generalize hr : wr.heap.size = r at hbk ⊢
      have hrz : r < (wr.alloc (.cells #[.int .i64 4, .string ⟨#[]⟩, .slice none 0 0, .slice none 0 0, .slice none 0 0, .slice none 0 0, .string ⟨#[]⟩] 85)).heap.size := by simp; omega
      generalize World.alloc wr _ = W5 at hP hbk hrz ⊢
      clear t0 t1 t2 t3 t4 t5 t6 t7 t8 t9 t10 tz s0 s1 sz c0 c1 c2 c3 c4 c5 c6
      have HP5x := Lib.hid hP
      obtain ⟨t0, t1, t2, t3, t4, t5, t6, t7, t8, t9, t10, _⟩ := blk11 (hP.blk (b := ⟨g, #[.string n1, .string tb, .bool false, .int .i64 1, .slice none 0 0, .bool true, .slice none 0 0, .slice none 0 0, .slice none 0 0, .slice wa 1 wc, .slice (some ⟨ab, 0, none⟩) 1 1], 52⟩) (by simp))
      obtain ⟨s0, s1, _⟩ := blk2 (hP.blk (b := ⟨m, #[.string sn, .slice sa 4 sc], 42⟩) (by simp))
      have tz := hP.blt (b := ⟨g, #[.string n1, .string tb, .bool false, .int .i64 1, .slice none 0 0, .bool true, .slice none 0 0, .slice none 0 0, .slice none 0 0, .slice wa 1 wc, .slice (some ⟨ab, 0, none⟩) 1 1], 52⟩) (by simp)
      have sz := hP.blt (b := ⟨m, #[.string sn, .slice sa 4 sc], 42⟩) (by simp)
      dsimp only at t0 t1 t2 t3 t4 t5 t6 t7 t8 t9 t10 tz s0 s1 sz
      clear hP
      obtain ⟨c0, c1, c2, c3, c4, c5, c6⟩ := cells7 hbk
      go_wp2_with fail
      refine (checkAction_abort _ _ _ _ _ _ sn sa 4 sc _ _ W5).mono ?_
      rintro e w6 ⟨rfl, hb⟩
      have HP6x := Lib.hid (HP5x.out.bel hb)
      try dsimp only
      go_wp2_with fail
      go_roundw
      case rel => exact ⟨1, by omega, by go_num, HP6x.out⟩
      case measure => simp [intOf]
    · obtain rfl : k = 1 := by omega
      go_wp2_with fail
      go_ret
      exact ⟨rfl, HPR.out.below⟩

set_option maxRecDepth 100000 in
set_option maxHeartbeats 8000000 in
theorem checkK_off (n1 : ByteArray) (wv vt : Value) (x : Ex) (ab : Nat) (w : World) (h1 : nameB n1 = true) (hs1 : n1.size ≤ maxLen) (hx : ExsR NoM w wv [x]) (hxt : TxtOk x) (hp : validL [x] = true) (hdx : dep x ≤ 5) (ht : TblsR NoM w vt schs3)
    (hab : w.heap[ab]? = some (.cells #[.int .i64 4, .string ⟨#[]⟩, .slice none 0 0, .slice none 0 0, .slice none 0 0, .slice none 0 0, .string ⟨#[]⟩] 85 (0, 0)))
    (hy : ∀ ts, typeC ts [x] [] = 3) :
    Calls Tryz.prog 38 #[.agg #[.string n1, .string (bs [116]), .bool false, .int .i64 1, .slice none 0 0, .bool false, .slice none 0 0, .slice none 0 0, .slice none 0 0, wv, .slice (some ⟨ab, 0, none⟩) 1 1], vt] w (RetBel (.int .i64 3) w) := by
  have HVT := Lib.hid fun (wx : World) (h : Below w.heap.size w wx) => validTrigger_ok n1 (bs [116]) false wv x ab wx h1 (by decide +kernel) hs1 (by decide +kernel) (RowsR.map hx (.bel h) fun _ _ _ hc => EC.keep (.bel h) _ _ hc) hxt hp ((h.block ab (Array.getElem?_eq_some_iff.1 hab).1).trans hab)
  have HX := Lib.hid fun (wx : World) (h : Below w.heap.size w wx) => (RowsR.map hx (.bel h) fun _ _ _ hc => EC.keep (.bel h) _ _ hc : ExsR NoM wx wv [x])
  have HT := Lib.hid fun (wx : World) (h : Below w.heap.size w wx) => ht.keep (.bel h)
  have HAB := Lib.hid fun (wx : World) (h : Below w.heap.size w wx) => cells7 ((h.block ab (Array.getElem?_eq_some_iff.1 hab).1).trans hab)
  obtain ⟨wa, wc, rfl, hmx⟩ := hx.shape
  obtain ⟨ta, tc, rfl, hmt⟩ := ht.shape
  have hzab := (Array.getElem?_eq_some_iff.1 hab).1
  have HY := Lib.hid hy
  have HDX := Lib.hid hdx
  have hl3 : schs3.length = 3 := rfl
  rw [hl3] at HT ⊢
  have hfs := find_t
  simp only [List.length_singleton] at HVT HX ⊢
  generalize bs [116] = tb at HVT hfs ⊢
  have HFS := Lib.hid hfs
  clear hx ht hab h1 hs1 hxt hp hl3 hfs hmx hmt hy hdx
  have hP := (PB.start w).new #[.string n1, .string tb, .bool false, .int .i64 1, .slice none 0 0, .bool false, .slice none 0 0, .slice none 0 0, .slice none 0 0, .slice wa 1 wc, .slice (some ⟨ab, 0, none⟩) 1 1] 52
  go_enter Tryz.func38, Tryz.ntmps38
  go_upto_region 1 with fail
  generalize World.alloc w _ = W0 at hP ⊢
  generalize hg : w.heap.size = g at hP ⊢
  have hgw : w.heap.size ≤ g := by omega
  clear hg
  have HP0 := Lib.hid hP
  obtain ⟨t0, t1, t2, t3, t4, t5, t6, t7, t8, t9, t10, _⟩ := blk11 (hP.blk (b := ⟨g, #[.string n1, .string tb, .bool false, .int .i64 1, .slice none 0 0, .bool false, .slice none 0 0, .slice none 0 0, .slice none 0 0, .slice wa 1 wc, .slice (some ⟨ab, 0, none⟩) 1 1], 52⟩) (by simp))
  have tz := hP.blt (b := ⟨g, #[.string n1, .string tb, .bool false, .int .i64 1, .slice none 0 0, .bool false, .slice none 0 0, .slice none 0 0, .slice none 0 0, .slice wa 1 wc, .slice (some ⟨ab, 0, none⟩) 1 1], 52⟩) (by simp)
  dsimp only at t0 t1 t2 t3 t4 t5 t6 t7 t8 t9 t10 tz
  clear hP
  go_wp2_with fail
  refine (HVT.out W0 HP0.out.below).mono ?_
  rintro e w1 ⟨rfl, hb⟩
  have hP := HP0.out.bel hb
  clear HP0 t0 t1 t2 t3 t4 t5 t6 t7 t8 t9 t10 tz hb
  have HP1 := Lib.hid hP
  obtain ⟨t0, t1, t2, t3, t4, t5, t6, t7, t8, t9, t10, _⟩ := blk11 (hP.blk (b := ⟨g, #[.string n1, .string tb, .bool false, .int .i64 1, .slice none 0 0, .bool false, .slice none 0 0, .slice none 0 0, .slice none 0 0, .slice wa 1 wc, .slice (some ⟨ab, 0, none⟩) 1 1], 52⟩) (by simp))
  have tz := hP.blt (b := ⟨g, #[.string n1, .string tb, .bool false, .int .i64 1, .slice none 0 0, .bool false, .slice none 0 0, .slice none 0 0, .slice none 0 0, .slice wa 1 wc, .slice (some ⟨ab, 0, none⟩) 1 1], 52⟩) (by simp)
  dsimp only at t0 t1 t2 t3 t4 t5 t6 t7 t8 t9 t10 tz
  clear hP
  dsimp only
  go_wp2_with fail
  refine (source_some (.slice ta 3 tc) schs3 tb w1 1 schT (HT.out w1 HP1.out.below) HFS.out schs3_1 (by rw [schT_len]; decide)).mono ?_
  rintro e w2 ⟨sv, rfl, hsc, hb⟩
  have hP := HP1.out.bel hb
  clear HP1 t0 t1 t2 t3 t4 t5 t6 t7 t8 t9 t10 tz hb
  have hP := hP.new #[.string schT.name, sv] 42
  dsimp only
  have HSC0 := Lib.hid (hsc.weak (M' := NoM) fun _ _ h => h.elim)
  obtain ⟨sa, sc, hsv, _⟩ := hsc.shape
  subst hsv
  rw [schT_len] at HSC0 hP ⊢
  clear hsc
  go_upto_region 4 with fail
  generalize schT.name = sn at hP ⊢
  have hW3 : Below w2.heap.size w2 (w2.alloc (.cells #[.string sn, .slice sa 4 sc] 42)) := (Below.refl _ _).alloc (Nat.le_refl _) _
  generalize World.alloc w2 _ = W3 at hP hW3 ⊢
  generalize hm : w2.heap.size = m at hP ⊢
  have HSC := Lib.hid fun (wx : World) (h : Below W3.heap.size W3 wx) => (HSC0.out.keep (Keep.bel hW3)).keep (.bel h)
  have hz3 := hW3.size
  clear hm hW3 HSC0
  have HP3 := Lib.hid hP
  obtain ⟨t0, t1, t2, t3, t4, t5, t6, t7, t8, t9, t10, _⟩ := blk11 (hP.blk (b := ⟨g, #[.string n1, .string tb, .bool false, .int .i64 1, .slice none 0 0, .bool false, .slice none 0 0, .slice none 0 0, .slice none 0 0, .slice wa 1 wc, .slice (some ⟨ab, 0, none⟩) 1 1], 52⟩) (by simp))
  obtain ⟨s0, s1, _⟩ := blk2 (hP.blk (b := ⟨m, #[.string sn, .slice sa 4 sc], 42⟩) (by simp))
  have tz := hP.blt (b := ⟨g, #[.string n1, .string tb, .bool false, .int .i64 1, .slice none 0 0, .bool false, .slice none 0 0, .slice none 0 0, .slice none 0 0, .slice wa 1 wc, .slice (some ⟨ab, 0, none⟩) 1 1], 52⟩) (by simp)
  have sz := hP.blt (b := ⟨m, #[.string sn, .slice sa 4 sc], 42⟩) (by simp)
  dsimp only at t0 t1 t2 t3 t4 t5 t6 t7 t8 t9 t10 tz s0 s1 sz
  clear hP
  go_wp2_with fail
  refine (checkNames_nil _ _ _ _ _ _ _ _ _ sn sa 4 sc _ W3).mono ?_
  rintro e w4 ⟨rfl, hb⟩
  have hP := HP3.out.bel hb
  have hz4 := hb.size
  have HSC4 := Lib.hid (HSC.out w4 hb)
  clear HP3 t0 t1 t2 t3 t4 t5 t6 t7 t8 t9 t10 tz s0 s1 sz hb HSC
  have HP4 := Lib.hid hP
  obtain ⟨t0, t1, t2, t3, t4, t5, t6, t7, t8, t9, t10, _⟩ := blk11 (hP.blk (b := ⟨g, #[.string n1, .string tb, .bool false, .int .i64 1, .slice none 0 0, .bool false, .slice none 0 0, .slice none 0 0, .slice none 0 0, .slice wa 1 wc, .slice (some ⟨ab, 0, none⟩) 1 1], 52⟩) (by simp))
  obtain ⟨s0, s1, _⟩ := blk2 (hP.blk (b := ⟨m, #[.string sn, .slice sa 4 sc], 42⟩) (by simp))
  have tz := hP.blt (b := ⟨g, #[.string n1, .string tb, .bool false, .int .i64 1, .slice none 0 0, .bool false, .slice none 0 0, .slice none 0 0, .slice none 0 0, .slice wa 1 wc, .slice (some ⟨ab, 0, none⟩) 1 1], 52⟩) (by simp)
  have sz := hP.blt (b := ⟨m, #[.string sn, .slice sa 4 sc], 42⟩) (by simp)
  dsimp only at t0 t1 t2 t3 t4 t5 t6 t7 t8 t9 t10 tz s0 s1 sz
  clear hP
  dsimp only
  go_wp2_with fail
  refine (framesK_off _ _ _ _ _ _ _ _ _ _ sn sa 4 sc w4).mono ?_
  rintro e w5 ⟨rfl, hb⟩
  have hP := HP4.out.bel hb
  have hz5 := hb.size
  have HSC5 := Lib.hid (hsck hb HSC4.out)
  clear HP4 t0 t1 t2 t3 t4 t5 t6 t7 t8 t9 t10 tz s0 s1 sz hb HSC4
  have HP5 := Lib.hid hP
  obtain ⟨t0, t1, t2, t3, t4, t5, t6, t7, t8, t9, t10, _⟩ := blk11 (hP.blk (b := ⟨g, #[.string n1, .string tb, .bool false, .int .i64 1, .slice none 0 0, .bool false, .slice none 0 0, .slice none 0 0, .slice none 0 0, .slice wa 1 wc, .slice (some ⟨ab, 0, none⟩) 1 1], 52⟩) (by simp))
  obtain ⟨s0, s1, _⟩ := blk2 (hP.blk (b := ⟨m, #[.string sn, .slice sa 4 sc], 42⟩) (by simp))
  have tz := hP.blt (b := ⟨g, #[.string n1, .string tb, .bool false, .int .i64 1, .slice none 0 0, .bool false, .slice none 0 0, .slice none 0 0, .slice none 0 0, .slice wa 1 wc, .slice (some ⟨ab, 0, none⟩) 1 1], 52⟩) (by simp)
  have sz := hP.blt (b := ⟨m, #[.string sn, .slice sa 4 sc], 42⟩) (by simp)
  dsimp only at t0 t1 t2 t3 t4 t5 t6 t7 t8 t9 t10 tz s0 s1 sz
  clear hP
  try dsimp only
  go_wp2_with fail
  refine (transK_off _ _ _ _ _ _ _ _ sn (.slice sa 4 sc) schT.cols w5 HSC5.out (by rw [schT_len]; decide)).mono ?_
  rintro e w6 ⟨v6, s6, rfl, ht6, hl6, hb⟩
  have hP := HP5.out.bel hb
  have hz6 := hb.size
  rw [schT_len] at hl6
  obtain ⟨va6, vc6, rfl, hm6⟩ := ht6.shape
  simp only [List.length_singleton] at ht6 ⊢
  have HT6 := Lib.hid ht6
  clear HP5 t0 t1 t2 t3 t4 t5 t6 t7 t8 t9 t10 tz s0 s1 sz hb HSC5 ht6 hm6
  have HP6 := Lib.hid hP
  obtain ⟨t0, t1, t2, t3, t4, t5, t6, t7, t8, t9, t10, _⟩ := blk11 (hP.blk (b := ⟨g, #[.string n1, .string tb, .bool false, .int .i64 1, .slice none 0 0, .bool false, .slice none 0 0, .slice none 0 0, .slice none 0 0, .slice wa 1 wc, .slice (some ⟨ab, 0, none⟩) 1 1], 52⟩) (by simp))
  obtain ⟨s0, s1, _⟩ := blk2 (hP.blk (b := ⟨m, #[.string sn, .slice sa 4 sc], 42⟩) (by simp))
  have tz := hP.blt (b := ⟨g, #[.string n1, .string tb, .bool false, .int .i64 1, .slice none 0 0, .bool false, .slice none 0 0, .slice none 0 0, .slice none 0 0, .slice wa 1 wc, .slice (some ⟨ab, 0, none⟩) 1 1], 52⟩) (by simp)
  have sz := hP.blt (b := ⟨m, #[.string sn, .slice sa 4 sc], 42⟩) (by simp)
  dsimp only at t0 t1 t2 t3 t4 t5 t6 t7 t8 t9 t10 tz s0 s1 sz
  clear hP
  try dsimp only
  go_wp2_with fail
  have hb7 : Below w6.heap.size w6 (w6.alloc (.cells #[.slice ta 3 tc, .slice va6 1 vc6] 109)) := (Below.refl _ _).alloc (Nat.le_refl _) _
  refine (concat_tbl (M := NoM) (.slice ta 3 tc) (.slice va6 1 vc6) schs3 [s6] w6.heap.size _ (HT.out _ (HP6.out.bel hb7).below) (HT6.out.keep (.bel hb7)) (heap_alloc_new w6 _) (by decide) (by simp only [List.length_singleton]; decide)).mono ?_
  rintro e w8 ⟨v8, rfl, ht8, hb⟩
  have hb8 := hb7.trans (hb.mono hb7.size)
  have hP := HP6.out.bel hb8
  have hz8 := hb8.size
  have HT8 := Lib.hid ht8
  clear HP6 t0 t1 t2 t3 t4 t5 t6 t7 t8 t9 t10 tz s0 s1 sz hb hb7 hb8 HT6 ht8
  have HP8 := Lib.hid hP
  obtain ⟨t0, t1, t2, t3, t4, t5, t6, t7, t8, t9, t10, _⟩ := blk11 (hP.blk (b := ⟨g, #[.string n1, .string tb, .bool false, .int .i64 1, .slice none 0 0, .bool false, .slice none 0 0, .slice none 0 0, .slice none 0 0, .slice wa 1 wc, .slice (some ⟨ab, 0, none⟩) 1 1], 52⟩) (by simp))
  obtain ⟨s0, s1, _⟩ := blk2 (hP.blk (b := ⟨m, #[.string sn, .slice sa 4 sc], 42⟩) (by simp))
  have tz := hP.blt (b := ⟨g, #[.string n1, .string tb, .bool false, .int .i64 1, .slice none 0 0, .bool false, .slice none 0 0, .slice none 0 0, .slice none 0 0, .slice wa 1 wc, .slice (some ⟨ab, 0, none⟩) 1 1], 52⟩) (by simp)
  have sz := hP.blt (b := ⟨m, #[.string sn, .slice sa 4 sc], 42⟩) (by simp)
  dsimp only at t0 t1 t2 t3 t4 t5 t6 t7 t8 t9 t10 tz s0 s1 sz
  clear hP
  try dsimp only
  go_wp2_with fail
  have HCD := Lib.hid (condition_any (schs3 ++ [s6]) [x] [] (.slice wa 1 wc) (.slice none 0 0) v8 w8 (fun e _ => type_any _ (small_app small3 (by omega)) e) (HX.out w8 HP8.out.below) (RowsR.nil ..) HT8.out (by have := HDX.out; simp [depL]; omega))
  rw [HY.out] at HCD
  refine HCD.out.mono ?_
  rintro e w9 ⟨rfl, hb⟩
  have hP := HP8.out.bel hb
  have hz9 := hb.size
  clear HP8 t0 t1 t2 t3 t4 t5 t6 t7 t8 t9 t10 tz s0 s1 sz hb HCD
  have HP9 := Lib.hid hP
  obtain ⟨t0, t1, t2, t3, t4, t5, t6, t7, t8, t9, t10, _⟩ := blk11 (hP.blk (b := ⟨g, #[.string n1, .string tb, .bool false, .int .i64 1, .slice none 0 0, .bool false, .slice none 0 0, .slice none 0 0, .slice none 0 0, .slice wa 1 wc, .slice (some ⟨ab, 0, none⟩) 1 1], 52⟩) (by simp))
  obtain ⟨s0, s1, _⟩ := blk2 (hP.blk (b := ⟨m, #[.string sn, .slice sa 4 sc], 42⟩) (by simp))
  have tz := hP.blt (b := ⟨g, #[.string n1, .string tb, .bool false, .int .i64 1, .slice none 0 0, .bool false, .slice none 0 0, .slice none 0 0, .slice none 0 0, .slice wa 1 wc, .slice (some ⟨ab, 0, none⟩) 1 1], 52⟩) (by simp)
  have sz := hP.blt (b := ⟨m, #[.string sn, .slice sa 4 sc], 42⟩) (by simp)
  dsimp only at t0 t1 t2 t3 t4 t5 t6 t7 t8 t9 t10 tz s0 s1 sz
  clear hP
  try dsimp only
  go_wp2_with fail
  go_ret
  exact ⟨rfl, HP9.out.below⟩
end Go.Proofs.YtkhlmofcdchccaaGreatDoor
namespace Go.Proofs.YtkhlmofcdchccaaGreatDoor
open Go.RowKit

set_option maxHeartbeats 2000000 in
theorem idxQu_nil (sa : Option Addr) (sc : Nat) (f : Value) (w : World) : Calls Tryz.prog 188 #[.slice sa 0 sc, f] w (RetBel (.int .i64 (-1)) w) := by
  go_enter Tryz.func188, Tryz.ntmps188
  go_wp2_with fail
  go_loopw [5, 8] (fun _ i wr => i = .int .i64 0 ∧ wr = w) (fun _ _ _ => 0)
  case atStart => exact ⟨rfl, rfl⟩
  case round =>
    obtain ⟨rfl, rfl⟩ := hrel
    go_wp2_with fail
    go_ret
    exact ⟨rfl, Below.refl _ _⟩

set_option maxHeartbeats 2000000 in
theorem hasQu_nil (sa : Option Addr) (sc : Nat) (f : Value) (w : World) : Calls Tryz.prog 141 #[.slice sa 0 sc, f] w (RetBel (.bool false) w) := by
  go_enter Tryz.func141, Tryz.ntmps141
  go_wp2_with fail
  refine (idxQu_nil sa sc f w).mono ?_
  rintro e w1 ⟨rfl, hb⟩
  have HB := Lib.hid hb
  clear hb
  dsimp only
  go_wp2_with fail
  go_ret
  exact ⟨rfl, HB.out⟩

set_option maxHeartbeats 2000000 in
theorem idxRank_nil (sa : Option Addr) (sc : Nat) (f : Value) (w : World) : Calls Tryz.prog 144 #[.slice sa 0 sc, f] w (RetBel (.int .i64 (-1)) w) := by
  go_enter Tryz.func144, Tryz.ntmps144
  go_wp2_with fail
  go_loopw [5, 8] (fun _ i wr => i = .int .i64 0 ∧ wr = w) (fun _ _ _ => 0)
  case atStart => exact ⟨rfl, rfl⟩
  case round =>
    obtain ⟨rfl, rfl⟩ := hrel
    go_wp2_with fail
    go_ret
    exact ⟨rfl, Below.refl _ _⟩

set_option maxHeartbeats 2000000 in
theorem hasRank_nil (sa : Option Addr) (sc : Nat) (f : Value) (w : World) : Calls Tryz.prog 90 #[.slice sa 0 sc, f] w (RetBel (.bool false) w) := by
  go_enter Tryz.func90, Tryz.ntmps90
  go_wp2_with fail
  refine (idxRank_nil sa sc f w).mono ?_
  rintro e w1 ⟨rfl, hb⟩
  have HB := Lib.hid hb
  clear hb
  dsimp only
  go_wp2_with fail
  go_ret
  exact ⟨rfl, HB.out⟩

set_option maxHeartbeats 2000000 in
theorem visQu_nil (sa : Option Addr) (sc : Nat) (f : Value) (w : World) : Calls Tryz.prog 210 #[f, .slice sa 0 sc] w (RetBel (.bool true) w) := by
  go_enter Tryz.func210, Tryz.ntmps210
  go_wp2_with fail
  go_loopw [9] (fun i wr => i = .int .i64 0 ∧ wr = w) (fun _ _ => 0)
  case atStart => exact ⟨rfl, rfl⟩
  case round =>
    obtain ⟨rfl, rfl⟩ := hrel
    go_wp2_with fail
    go_ret
    exact ⟨rfl, Below.refl _ _⟩

set_option maxRecDepth 100000 in
set_option maxHeartbeats 4000000 in
theorem other_no (q : Nat) (sa : Option Addr) (sc : Nat) (fv a0 a1 a2 a3 a4 a5 a6 a7 a8 : Value) (t : TypeId) (w : World) (hq : w.heap[q]? = some (.cells #[fv] t (0, 0))) : Calls Tryz.prog 140 #[.agg #[a0, a1, a2, a3, a4, a5, a6, a7, a8, .slice sa 0 sc], .pointer (some ⟨q, 0, none⟩)] w (RetBel (.bool true) w) := by
  have hz := (Array.getElem?_eq_some_iff.1 hq).1
  have hk := heap_alloc_new w (.cells #[a0, a1, a2, a3, a4, a5, a6, a7, a8, .slice sa 0 sc] 30)
  have hB : Below w.heap.size w (w.alloc (.cells #[a0, a1, a2, a3, a4, a5, a6, a7, a8, .slice sa 0 sc] 30)) := (Below.refl _ _).alloc (Nat.le_refl _) _
  have hq1 : (w.alloc (.cells #[a0, a1, a2, a3, a4, a5, a6, a7, a8, .slice sa 0 sc] 30)).cell? ⟨q, 0, none⟩ = some fv := by
    have := (hB.block q hz).trans hq
    simp [World.cell?, this]
  clear hq
  go_enter Tryz.func140, Tryz.ntmps140
  go_upto_region 1 with fail
  generalize hp : w.heap.size = p at hk ⊢
  generalize World.alloc w _ = W0 at hk hB hq1 ⊢
  have x9 : W0.cell? ⟨p, 9, none⟩ = some (.slice sa 0 sc) := by simp [World.cell?, hk]
  have HB := Lib.hid hB
  clear hB hk hp
  go_wp2_with fail
  refine (hasQu_nil sa sc fv W0).mono ?_
  rintro e w1 ⟨rfl, hb⟩
  have HB1 := Lib.hid (HB.out.trans (hb.mono HB.out.size))
  clear hb
  dsimp only
  go_wp2_with fail
  go_ret
  exact ⟨rfl, HB1.out⟩

theorem cells10 {w : World} {S : Nat} {a0 a1 a2 a3 a4 a5 a6 a7 a8 a9 : Value} {e : TypeId} (h : w.heap[S]? = some (.cells #[a0, a1, a2, a3, a4, a5, a6, a7, a8, a9] e (0, 0))) : w.cell? ⟨S, 0, none⟩ = some a0 ∧ w.cell? ⟨S, 1, none⟩ = some a1 ∧ w.cell? ⟨S, 2, none⟩ = some a2 ∧ w.cell? ⟨S, 3, none⟩ = some a3 ∧ w.cell? ⟨S, 4, none⟩ = some a4 ∧ w.cell? ⟨S, 5, none⟩ = some a5 ∧ w.cell? ⟨S, 6, none⟩ = some a6 ∧ w.cell? ⟨S, 7, none⟩ = some a7 ∧ w.cell? ⟨S, 8, none⟩ = some a8 ∧ w.cell? ⟨S, 9, none⟩ = some a9 := by
  simp [World.cell?, h]

/-- The visit of a list answers true, wherever the list lies. -/
def VisOk (M : Nat → Prop) (q : Nat) (fv : Value) (t : TypeId) (es : List Ex) : Prop := ∀ (v : Value) (w : World), w.heap[q]? = some (.cells #[fv] t (0, 0)) → ExsR M w v es → Calls Tryz.prog 190 #[.func (.func 140) #[] #[.pointer (some ⟨q, 0, none⟩)], v] w (RetBel (.bool true) w)

set_option maxRecDepth 100000 in
set_option maxHeartbeats 8000000 in
theorem visit_step {M : Nat → Prop} (q : Nat) (fv : Value) (t : TypeId) (es : List Ex) (hes : ∀ e ∈ es, e.sub = [] ∧ VisOk M q fv t e.args) : VisOk M q fv t es := by
  intro v w hq h
  obtain ⟨a, c, rfl, hm⟩ := h.shape
  unfold maxLen at hm
  have hz := (Array.getElem?_eq_some_iff.1 hq).1
  have HQ := Lib.hid fun (wx : World) (k : Below w.heap.size w wx) => (k.block q hz).trans hq
  have HA := Lib.hid h
  have HES := Lib.hid hes
  clear h hes hq
  go_enter Tryz.func190, Tryz.ntmps190
  go_wp2_with fail
  go_loopw [9] (fun i wr => ∃ j : Nat, j ≤ es.length ∧ i = .int .i64 j ∧ Below w.heap.size w wr) (fun i _ => es.length - (intOf i).toNat)
  case atStart => exact ⟨0, Nat.zero_le _, rfl, Below.refl _ _⟩
  case round =>
    rename World => wr
    obtain ⟨j, hj, rfl, hbel⟩ := hrel
    by_cases hlt : j < es.length
    · rcases HA.out.open with ⟨_, h⟩ | ⟨ab, ao, cap', hv', _, hab, _, _, hx⟩
      · rw [h] at hlt; simp at hlt
      simp only [Value.slice.injEq] at hv'
      obtain ⟨rfl, _, rfl⟩ := hv'
      have hxj : es[j]? = some es[j] := List.getElem?_eq_getElem hlt
      obtain ⟨cs, hc, _, hcs⟩ := hx j _ hxj
      have hmem := List.mem_of_getElem? hxj
      generalize es[j] = x at hxj hc hmem
      obtain ⟨hsub, hvis⟩ := HES.out x hmem
      have hcw := fun wx (k : Below w.heap.size w wx) => EC.keep (M := M) (.bel k) x cs hc
      have hcs' := hcs.keep (M := NoM) (Keep.bel hbel) id
      obtain ⟨va, vs, rfl, hva, hvs⟩ := (EC_iff ..).1 hc
      obtain ⟨xa, xac, rfl, _⟩ := hva.shape
      rw [hsub] at hvs
      obtain ⟨sa, sc, rfl, _⟩ := hvs.shape
      have HVA := Lib.hid fun (wx : World) (k : Below w.heap.size w wx) => hvis _ wx ((k.block q hz).trans (HQ.out w (Below.refl _ _))) (RowsR.map hva (.bel k) fun _ _ _ hc => EC.keep (.bel k) _ _ hc)
      obtain ⟨c0, c1, c2, c3, c4, c5, c6, c7, c8, c9⟩ := CellsAt.c10 hcs'
      simp only [List.length_nil] at c0 c1 c2 c3 c4 c5 c6 c7 c8 c9
      have HLT := Lib.hid hlt
      have i0 : (0 : Int) ≤ (j : Int) := by omega
      have i1 : (j : Int) < (es.length : Int) := by omega
      have hzr := hbel.size
      generalize hk : (#[.int .i64 x.kind, .int .i64 x.op, .bool x.no, .int .i64 x.val.kind, .int .i64 x.val.int, .string x.val.text, .string x.table, .string x.name, .slice xa x.args.length xac, .slice sa 0 sc] : Array Value) = K
      have hbk := heap_alloc_new wr (.cells K 30)
      have hB1 := hbel.alloc hbel.size (.cells K 30)
      subst hk
      clear hx hc hcs hcs' hcw hva hvs hxj hmem hvis hsub hbel
      go_upto_region 4 with fail
      generalize hp : wr.heap.size = p at hbk ⊢
      have hpz : p < (World.alloc wr (.cells #[.int .i64 x.kind, .int .i64 x.op, .bool x.no, .int .i64 x.val.kind, .int .i64 x.val.int, .string x.val.text, .string x.table, .string x.name, .slice xa x.args.length xac, .slice sa 0 sc] 30)).heap.size := by simp; omega
      generalize World.alloc wr _ = W0 at hbk hB1 hpz ⊢
      clear c0 c1 c2 c3 c4 c5 c6 c7 c8 c9 hp
      have HB1 := Lib.hid hB1
      have HK := Lib.hid fun (wx : World) (h : Below W0.heap.size W0 wx) => cells10 ((h.block p hpz).trans hbk)
      clear hB1 hbk
      obtain ⟨c0, c1, c2, c3, c4, c5, c6, c7, c8, c9⟩ := HK.out W0 (Below.refl _ _)
      go_wp2_with fail
      refine (other_no q sa sc fv _ _ _ _ _ _ _ _ _ t W0 (HQ.out W0 HB1.out)).mono ?_
      rintro e w1 ⟨rfl, hb⟩
      have HX1 := Lib.hid hb
      have HB2 := Lib.hid (HB1.out.trans (hb.mono HB1.out.size))
      clear c0 c1 c2 c3 c4 c5 c6 c7 c8 c9 hb
      obtain ⟨c0, c1, c2, c3, c4, c5, c6, c7, c8, c9⟩ := HK.out w1 HX1.out
      dsimp only
      go_wp2_with fail
      refine (HVA.out w1 HB2.out).mono ?_
      rintro e w2 ⟨rfl, hb⟩
      have HX2 := Lib.hid (HX1.out.trans (hb.mono HX1.out.size))
      have HB3 := Lib.hid (HB2.out.trans (hb.mono HB2.out.size))
      clear c0 c1 c2 c3 c4 c5 c6 c7 c8 c9 hb
      obtain ⟨c0, c1, c2, c3, c4, c5, c6, c7, c8, c9⟩ := HK.out w2 HX2.out
      dsimp only
      go_wp2_with fail
      refine (visQu_nil sa sc _ w2).mono ?_
      rintro e w3 ⟨rfl, hb⟩
      have HB4 := Lib.hid (HB3.out.trans (hb.mono HB3.out.size))
      clear c0 c1 c2 c3 c4 c5 c6 c7 c8 c9 hb
      dsimp only
      go_wp2_with fail
      have hlt := HLT.out
      go_roundw
      case rel => exact ⟨j + 1, by omega, by go_num, HB4.out⟩
      case measure => simp [intOf]; omega
    · have i1 : ¬ (j : Int) < (es.length : Int) := by omega
      have HB := Lib.hid hbel
      clear hbel
      go_wp2_with fail
      go_ret
      exact ⟨rfl, HB.out⟩

theorem vis_nil {M : Nat → Prop} (q : Nat) (fv : Value) (t : TypeId) : VisOk M q fv t [] := visit_step q fv t [] (fun e h => by cases h)
end Go.Proofs.YtkhlmofcdchccaaGreatDoor
namespace Go.Proofs.YtkhlmofcdchccaaGreatDoor
open Go.RowKit

set_option maxRecDepth 100000 in
set_option maxHeartbeats 4000000 in
theorem act_vis (q : Nat) (fv : Value) (t : TypeId) (w : World) (hq : w.heap[q]? = some (.cells #[fv] t (0, 0))) : Calls Tryz.prog 189 #[.func (.func 140) #[] #[.pointer (some ⟨q, 0, none⟩)], .agg #[.int .i64 4, .string ⟨#[]⟩, .slice none 0 0, .slice none 0 0, .slice none 0 0, .slice none 0 0, .string ⟨#[]⟩]] w (RetBel (.bool true) w) := by
  have hz := (Array.getElem?_eq_some_iff.1 hq).1
  have hk := heap_alloc_new w (.cells #[.int .i64 4, .string ⟨#[]⟩, .slice none 0 0, .slice none 0 0, .slice none 0 0, .slice none 0 0, .string ⟨#[]⟩] 85)
  have hB : Below w.heap.size w (w.alloc (.cells #[.int .i64 4, .string ⟨#[]⟩, .slice none 0 0, .slice none 0 0, .slice none 0 0, .slice none 0 0, .string ⟨#[]⟩] 85)) := (Below.refl _ _).alloc (Nat.le_refl _) _
  have HQ := Lib.hid fun (wx : World) (k : Below w.heap.size w wx) => (k.block q hz).trans hq
  clear hq
  go_enter Tryz.func189, Tryz.ntmps189
  go_upto_region 1 with fail
  generalize hp : w.heap.size = p at hk ⊢
  generalize World.alloc w _ = W0 at hk hB ⊢
  have hpz := (Array.getElem?_eq_some_iff.1 hk).1
  have HB := Lib.hid hB
  have HK := Lib.hid fun (wx : World) (h : Below W0.heap.size W0 wx) => cells7 ((h.block p hpz).trans hk)
  clear hB hk hp
  obtain ⟨x0, x1, x2, x3, x4, x5, x6⟩ := HK.out W0 (Below.refl _ _)
  go_wp2_with fail
  go_loopw [12] (fun i wr => i = .int .i64 0 ∧ wr = W0) (fun _ _ => 0)
  case atStart => exact ⟨rfl, rfl⟩
  case round =>
    obtain ⟨rfl, rfl⟩ := hrel
    go_wp2_with fail
    rename World => W0
    go_loopw [24] (fun i wr => i = .int .i64 0 ∧ wr = W0) (fun _ _ => 0)
    case atStart => exact ⟨rfl, rfl⟩
    case round =>
      obtain ⟨rfl, rfl⟩ := hrel
      rename World => W0
      go_wp2_with fail
      refine (visQu_nil none 0 _ W0).mono ?_
      rintro e w1 ⟨rfl, hb⟩
      have HX1 := Lib.hid hb
      have HB1 := Lib.hid (HB.out.trans (hb.mono HB.out.size))
      clear hb x0 x1 x2 x3 x4 x5 x6
      obtain ⟨x0, x1, x2, x3, x4, x5, x6⟩ := HK.out w1 HX1.out
      dsimp only
      go_wp2_with fail
      refine (vis_nil (M := NoM) q fv t (.slice none 0 0) w1 (HQ.out w1 HB1.out) (RowsR.nil ..)).mono ?_
      rintro e w2 ⟨rfl, hb⟩
      have HB2 := Lib.hid (HB1.out.trans (hb.mono HB1.out.size))
      clear hb
      dsimp only
      go_wp2_with fail
      go_ret
      exact ⟨rfl, HB2.out⟩

set_option maxRecDepth 100000 in
set_option maxHeartbeats 4000000 in
theorem visit_abort (q : Nat) (fv : Value) (t : TypeId) (w : World) (hq : w.heap[q]? = some (.cells #[fv] t (0, 0))) : Calls Tryz.prog 142 #[.agg #[.int .i64 4, .string ⟨#[]⟩, .slice none 0 0, .slice none 0 0, .slice none 0 0, .slice none 0 0, .string ⟨#[]⟩], .func (.func 140) #[] #[.pointer (some ⟨q, 0, none⟩)]] w (RetBel (.bool true) w) := by
  have hz := (Array.getElem?_eq_some_iff.1 hq).1
  have hk := heap_alloc_new w (.cells #[.int .i64 4, .string ⟨#[]⟩, .slice none 0 0, .slice none 0 0, .slice none 0 0, .slice none 0 0, .string ⟨#[]⟩] 85)
  have hB : Below w.heap.size w (w.alloc (.cells #[.int .i64 4, .string ⟨#[]⟩, .slice none 0 0, .slice none 0 0, .slice none 0 0, .slice none 0 0, .string ⟨#[]⟩] 85)) := (Below.refl _ _).alloc (Nat.le_refl _) _
  have HQ := Lib.hid fun (wx : World) (k : Below w.heap.size w wx) => (k.block q hz).trans hq
  clear hq
  go_enter Tryz.func142, Tryz.ntmps142
  go_upto_region 1 with fail
  generalize hp : w.heap.size = p at hk ⊢
  generalize World.alloc w _ = W0 at hk hB ⊢
  have HB := Lib.hid hB
  obtain ⟨x0, x1, x2, x3, x4, x5, x6⟩ := cells7 hk
  clear hB hk hp
  go_wp2_with fail
  refine (act_vis q fv t W0 (HQ.out W0 HB.out)).mono ?_
  rintro e w1 ⟨rfl, hb⟩
  have HB1 := Lib.hid (HB.out.trans (hb.mono HB.out.size))
  clear hb
  dsimp only
  go_wp2_with fail
  go_ret
  exact ⟨rfl, HB1.out⟩

set_option maxHeartbeats 4000000 in
theorem visitAll_ok {M : Nat → Prop} (q : Nat) (fv : Value) (t : TypeId) (es : List Ex) (v : Value) (w : World) (hes : VisOk M q fv t es) (hq : w.heap[q]? = some (.cells #[fv] t (0, 0))) (hx : ExsR M w v es) : Calls Tryz.prog 143 #[v, .func (.func 140) #[] #[.pointer (some ⟨q, 0, none⟩)]] w (RetBel (.bool true) w) := by
  have HV := Lib.hid (hes v w hq hx)
  obtain ⟨a, c, rfl, _⟩ := hx.shape
  clear hes hq hx
  go_enter Tryz.func143, Tryz.ntmps143
  go_wp2_with fail
  refine HV.out.mono ?_
  rintro e w1 ⟨rfl, hb⟩
  have HB1 := Lib.hid hb
  clear hb
  dsimp only
  go_wp2_with fail
  go_ret
  exact ⟨rfl, HB1.out⟩

theorem cells11 {w : World} {S : Nat} {a0 a1 a2 a3 a4 a5 a6 a7 a8 a9 a10 : Value} {e : TypeId} (h : w.heap[S]? = some (.cells #[a0, a1, a2, a3, a4, a5, a6, a7, a8, a9, a10] e (0, 0))) : w.cell? ⟨S, 0, none⟩ = some a0 ∧ w.cell? ⟨S, 1, none⟩ = some a1 ∧ w.cell? ⟨S, 2, none⟩ = some a2 ∧ w.cell? ⟨S, 3, none⟩ = some a3 ∧ w.cell? ⟨S, 4, none⟩ = some a4 ∧ w.cell? ⟨S, 5, none⟩ = some a5 ∧ w.cell? ⟨S, 6, none⟩ = some a6 ∧ w.cell? ⟨S, 7, none⟩ = some a7 ∧ w.cell? ⟨S, 8, none⟩ = some a8 ∧ w.cell? ⟨S, 9, none⟩ = some a9 ∧ w.cell? ⟨S, 10, none⟩ = some a10 := by
  simp [World.cell?, h]
theorem cells1 {w : World} {S : Nat} {a0 : Value} {e : TypeId} (h : w.heap[S]? = some (.cells #[a0] e (0, 0))) : w.cell? ⟨S, 0, none⟩ = some a0 := by
  simp [World.cell?, h]

set_option maxRecDepth 100000 in
set_option maxHeartbeats 8000000 in
theorem reads_no {M : Nat → Prop} (n1 tb tc : ByteArray) (wa : Option Addr) (wc ab : Nat) (E : Bool) (es : List Ex) (w : World) (_h1 : es.length = 1) (hes : ∀ q fv t, VisOk M q fv t es) (hx : ExsR M w (.slice wa 1 wc) es) (hab : w.heap[ab]? = some (.cells #[.int .i64 4, .string ⟨#[]⟩, .slice none 0 0, .slice none 0 0, .slice none 0 0, .slice none 0 0, .string ⟨#[]⟩] 85 (0, 0))) :
    Calls Tryz.prog 89 #[.agg #[.string n1, .string tb, .bool false, .int .i64 1, .slice none 0 0, .bool E, .slice none 0 0, .slice none 0 0, .slice none 0 0, .slice wa 1 wc, .slice (some ⟨ab, 0, none⟩) 1 1], .string tc] w (RetBel (.bool false) w) := by
  have hzab := (Array.getElem?_eq_some_iff.1 hab).1
  have HAB := Lib.hid fun (wx : World) (h : Below w.heap.size w wx) => cells7 ((h.block ab hzab).trans hab)
  have HX := Lib.hid fun (wx : World) (h : Below w.heap.size w wx) => (RowsR.map hx (.bel h) fun _ _ _ hc => EC.keep (.bel h) _ _ hc : ExsR M wx (.slice wa 1 wc) es)
  have HES := Lib.hid hes
  have hmf : ∀ (fn : Fn) (first cap : Array Value) (w : World), (Instr.makeFunc fn first cap).run Tryz.prog w = .ok (.func fn first cap) w := fun _ _ _ _ => rfl
  clear hx hab hes _h1
  have hP := (PB.start w).new #[.string n1, .string tb, .bool false, .int .i64 1, .slice none 0 0, .bool E, .slice none 0 0, .slice none 0 0, .slice none 0 0, .slice wa 1 wc, .slice (some ⟨ab, 0, none⟩) 1 1] 52
  have hP := hP.new' (g := w.heap.size + 1) (by simp) #[.string tc] 9
  have hP := hP.new' (g := w.heap.size + 1 + 1) (by simp) #[.func (.func 139) #[] #[.pointer (some ⟨w.heap.size + 1, 0, none⟩)]] 190
  go_enter Tryz.func89, Tryz.ntmps89
  go_upto_region 3 with fail
  generalize World.alloc (World.alloc (World.alloc w _) _) _ = W0 at hP ⊢
  generalize hg : w.heap.size = g at hP ⊢
  have hgw : w.heap.size ≤ g := by omega
  clear hg
  have HP0 := Lib.hid hP
  obtain ⟨t0, t1, t2, t3, t4, t5, t6, t7, t8, t9, t10⟩ := cells11 (hP.blk (b := ⟨g, #[.string n1, .string tb, .bool false, .int .i64 1, .slice none 0 0, .bool E, .slice none 0 0, .slice none 0 0, .slice none 0 0, .slice wa 1 wc, .slice (some ⟨ab, 0, none⟩) 1 1], 52⟩) (by simp))
  clear hP
  go_wp2_with fail
  go_loopw [14] (fun i wr => ∃ k : Nat, k ≤ 1 ∧ i = .int .i64 (k : Int) ∧ PB w wr [⟨g + 1 + 1, #[.func (.func 139) #[] #[.pointer (some ⟨g + 1, 0, none⟩)]], 190⟩, ⟨g, #[.string n1, .string tb, .bool false, .int .i64 1, .slice none 0 0, .bool E, .slice none 0 0, .slice none 0 0, .slice none 0 0, .slice wa 1 wc, .slice (some ⟨ab, 0, none⟩) 1 1], 52⟩]) (fun i _ => 1 - (intOf i).toNat)
  case atStart => exact ⟨0, Nat.zero_le _, rfl, HP0.out.sub (by simp)⟩
  case round =>
    rename World => wr
    obtain ⟨k, hk, rfl, hP⟩ := hrel
    clear t0 t1 t2 t3 t4 t5 t6 t7 t8 t9 t10 HP0
    have HPR := Lib.hid hP
    obtain ⟨t0, t1, t2, t3, t4, t5, t6, t7, t8, t9, t10⟩ := cells11 (hP.blk (b := ⟨g, #[.string n1, .string tb, .bool false, .int .i64 1, .slice none 0 0, .bool E, .slice none 0 0, .slice none 0 0, .slice none 0 0, .slice wa 1 wc, .slice (some ⟨ab, 0, none⟩) 1 1], 52⟩) (by simp))
    have f0 := cells1 (hP.blk (b := ⟨g + 1 + 1, #[.func (.func 139) #[] #[.pointer (some ⟨g + 1, 0, none⟩)]], 190⟩) (by simp))
    clear hP
    by_cases h0 : k = 0
    · subst h0
      obtain ⟨c0, c1, c2, c3, c4, c5, c6⟩ := HAB.out wr HPR.out.below
      have hP := HPR.out.alloc (.cells #[.int .i64 4, .string ⟨#[]⟩, .slice none 0 0, .slice none 0 0, .slice none 0 0, .slice none 0 0, .string ⟨#[]⟩] 85)
      have hbk := heap_alloc_new wr (.cells #[.int .i64 4, .string ⟨#[]⟩, .slice none 0 0, .slice none 0 0, .slice none 0 0, .slice none 0 0, .string ⟨#[]⟩] 85)
      go_upto_region 6 with fail
      generalize hr : wr.heap.size = r at hbk ⊢
      generalize World.alloc wr _ = W5 at hP hbk ⊢
      have hrz := (Array.getElem?_eq_some_iff.1 hbk).1
      have HP5 := Lib.hid hP
      have HK := Lib.hid fun (wx : World) (h : Below W5.heap.size W5 wx) => cells7 ((h.block r hrz).trans hbk)
      have f0 := cells1 (hP.blk (b := ⟨g + 1 + 1, #[.func (.func 139) #[] #[.pointer (some ⟨g + 1, 0, none⟩)]], 190⟩) (by simp))
      clear t0 t1 t2 t3 t4 t5 t6 t7 t8 t9 t10 c0 c1 c2 c3 c4 c5 c6 hP hbk hr
      obtain ⟨c0, c1, c2, c3, c4, c5, c6⟩ := HK.out W5 (Below.refl _ _)
      go_wp2_with fail
      refine (hasQu_nil none 0 _ W5).mono ?_
      rintro e w1 ⟨rfl, hb⟩
      have HX1 := Lib.hid hb
      have HP6 := Lib.hid (HP5.out.bel hb)
      clear hb c0 c1 c2 c3 c4 c5 c6
      obtain ⟨c0, c1, c2, c3, c4, c5, c6⟩ := HK.out w1 HX1.out
      dsimp only
      go_wp2_with fail
      refine (visit_abort (g + 1 + 1) _ 190 w1 (HP6.out.blk (b := ⟨g + 1 + 1, #[.func (.func 139) #[] #[.pointer (some ⟨g + 1, 0, none⟩)]], 190⟩) (by simp))).mono ?_
      rintro e w2 ⟨rfl, hb⟩
      have HP7 := Lib.hid (HP6.out.bel hb)
      clear hb c0 c1 c2 c3 c4 c5 c6
      dsimp only
      go_wp2_with fail
      go_roundw
      case rel => exact ⟨1, by omega, by go_num, HP7.out⟩
      case measure => simp [intOf]
    · obtain rfl : k = 1 := by omega
      go_wp2_with fail
      refine (visitAll_ok (M := M) (g + 1 + 1) _ 190 es _ wr (HES.out _ _ _) (HPR.out.blk (b := ⟨g + 1 + 1, #[.func (.func 139) #[] #[.pointer (some ⟨g + 1, 0, none⟩)]], 190⟩) (by simp)) (HX.out wr HPR.out.below)).mono ?_
      rintro e w2 ⟨rfl, hb⟩
      have HP7 := Lib.hid (HPR.out.bel hb)
      clear hb
      dsimp only
      go_wp2_with fail
      go_ret
      exact ⟨rfl, HP7.out.below⟩

set_option maxRecDepth 100000 in
set_option maxHeartbeats 8000000 in
theorem men2_no (p : Nat) (w : World) (hp : w.cell? ⟨p, 0, none⟩ = some (.string ⟨#[117]⟩)) (hpz : p < w.heap.size) : Calls Tryz.prog 93 #[.agg #[.int .i64 4, .string ⟨#[]⟩, .slice none 0 0, .slice none 0 0, .slice none 0 0, .slice none 0 0, .string ⟨#[]⟩], .pointer (some ⟨p, 0, none⟩)] w (RetBel (.bool false) w) := by
  have hk := heap_alloc_new w (.cells #[.int .i64 4, .string ⟨#[]⟩, .slice none 0 0, .slice none 0 0, .slice none 0 0, .slice none 0 0, .string ⟨#[]⟩] 85)
  have hB : Below w.heap.size w (w.alloc (.cells #[.int .i64 4, .string ⟨#[]⟩, .slice none 0 0, .slice none 0 0, .slice none 0 0, .slice none 0 0, .string ⟨#[]⟩] 85)) := (Below.refl _ _).alloc (Nat.le_refl _) _
  have hp2 := (hB.cell (p := ⟨p, 0, none⟩) hpz).trans hp
  clear hp
  go_enter Tryz.func93, Tryz.ntmps93
  go_upto_region 1 with fail
  generalize hr : w.heap.size = r at hk ⊢
  generalize World.alloc w _ = W0 at hk hB hp2 ⊢
  have HB := Lib.hid hB
  obtain ⟨c0, c1, c2, c3, c4, c5, c6⟩ := cells7 hk
  clear hB hk hr
  go_wp2_with fail
  go_ret
  exact ⟨rfl, HB.out⟩

set_option maxRecDepth 100000 in
set_option maxHeartbeats 8000000 in
theorem mentions_no {M : Nat → Prop} (n1 : ByteArray) (wa : Option Addr) (wc ab : Nat) (E : Bool) (es : List Ex) (w : World) (h1 : es.length = 1) (hes : ∀ q fv t, VisOk M q fv t es) (hx : ExsR M w (.slice wa 1 wc) es) (hab : w.heap[ab]? = some (.cells #[.int .i64 4, .string ⟨#[]⟩, .slice none 0 0, .slice none 0 0, .slice none 0 0, .slice none 0 0, .string ⟨#[]⟩] 85 (0, 0))) :
    Calls Tryz.prog 39 #[.agg #[.string n1, .string ⟨#[116]⟩, .bool false, .int .i64 1, .slice none 0 0, .bool E, .slice none 0 0, .slice none 0 0, .slice none 0 0, .slice wa 1 wc, .slice (some ⟨ab, 0, none⟩) 1 1], .string ⟨#[117]⟩] w (RetBel (.bool false) w) := by
  have hzab := (Array.getElem?_eq_some_iff.1 hab).1
  have HAB := Lib.hid fun (wx : World) (h : Below w.heap.size w wx) => (h.block ab hzab).trans hab
  have HR := Lib.hid fun (wx : World) (h : Below w.heap.size w wx) => reads_no n1 ⟨#[116]⟩ ⟨#[117]⟩ wa wc ab E es wx h1 hes (RowsR.map hx (.bel h) fun _ _ _ hc => EC.keep (.bel h) _ _ hc) ((h.block ab hzab).trans hab)
  have hmf : ∀ (fn : Fn) (first cap : Array Value) (w : World), (Instr.makeFunc fn first cap).run Tryz.prog w = .ok (.func fn first cap) w := fun _ _ _ _ => rfl
  clear hx hab hes h1
  have hP := (PB.start w).new #[.string n1, .string ⟨#[116]⟩, .bool false, .int .i64 1, .slice none 0 0, .bool E, .slice none 0 0, .slice none 0 0, .slice none 0 0, .slice wa 1 wc, .slice (some ⟨ab, 0, none⟩) 1 1] 52
  have hP := hP.new' (g := w.heap.size + 1) (by simp) #[.string ⟨#[117]⟩] 9
  go_enter Tryz.func39, Tryz.ntmps39
  go_upto_region 1 with fail
  generalize World.alloc (World.alloc w _) _ = W0 at hP ⊢
  generalize hg : w.heap.size = g at hP ⊢
  have hgw : w.heap.size ≤ g := by omega
  clear hg
  have HP0 := Lib.hid hP
  obtain ⟨t0, t1, t2, t3, t4, t5, t6, t7, t8, t9, t10⟩ := cells11 (hP.blk (b := ⟨g, #[.string n1, .string ⟨#[116]⟩, .bool false, .int .i64 1, .slice none 0 0, .bool E, .slice none 0 0, .slice none 0 0, .slice none 0 0, .slice wa 1 wc, .slice (some ⟨ab, 0, none⟩) 1 1], 52⟩) (by simp))
  have s0 := cells1 (hP.blk (b := ⟨g + 1, #[.string ⟨#[117]⟩], 9⟩) (by simp))
  clear hP
  go_wp2_with fail
  refine (HR.out W0 HP0.out.below).mono ?_
  rintro e w1 ⟨rfl, hb⟩
  have hP := HP0.out.bel hb
  clear t0 t1 t2 t3 t4 t5 t6 t7 t8 t9 t10 s0 HP0 hb
  have HP1 := Lib.hid hP
  obtain ⟨t0, t1, t2, t3, t4, t5, t6, t7, t8, t9, t10⟩ := cells11 (hP.blk (b := ⟨g, #[.string n1, .string ⟨#[116]⟩, .bool false, .int .i64 1, .slice none 0 0, .bool E, .slice none 0 0, .slice none 0 0, .slice none 0 0, .slice wa 1 wc, .slice (some ⟨ab, 0, none⟩) 1 1], 52⟩) (by simp))
  have s0 := cells1 (hP.blk (b := ⟨g + 1, #[.string ⟨#[117]⟩], 9⟩) (by simp))
  clear hP
  dsimp only
  go_wp2_with fail
  refine (hasRank_nil none 0 _ w1).mono ?_
  rintro e w2 ⟨rfl, hb⟩
  have hP := HP1.out.bel hb
  clear t0 t1 t2 t3 t4 t5 t6 t7 t8 t9 t10 s0 HP1 hb
  have HP2 := Lib.hid hP
  obtain ⟨t0, t1, t2, t3, t4, t5, t6, t7, t8, t9, t10⟩ := cells11 (hP.blk (b := ⟨g, #[.string n1, .string ⟨#[116]⟩, .bool false, .int .i64 1, .slice none 0 0, .bool E, .slice none 0 0, .slice none 0 0, .slice none 0 0, .slice wa 1 wc, .slice (some ⟨ab, 0, none⟩) 1 1], 52⟩) (by simp))
  have s0 := cells1 (hP.blk (b := ⟨g + 1, #[.string ⟨#[117]⟩], 9⟩) (by simp))
  clear hP
  dsimp only
  go_wp2_with fail
  refine (hasMen_no ab (g + 1) w2 (HAB.out w2 HP2.out.below) fun wx hb => men2_no (g + 1) wx (cells1 ((HP2.out.bel hb).blk (b := ⟨g + 1, #[.string ⟨#[117]⟩], 9⟩) (by simp))) ((HP2.out.bel hb).blt (b := ⟨g + 1, #[.string ⟨#[117]⟩], 9⟩) (by simp))).mono ?_
  rintro e w3 ⟨rfl, hb⟩
  have HP3 := Lib.hid (HP2.out.bel hb)
  clear t0 t1 t2 t3 t4 t5 t6 t7 t8 t9 t10 s0 HP2 hb
  dsimp only
  go_wp2_with fail
  go_ret
  exact ⟨rfl, HP3.out.below⟩

set_option maxRecDepth 100000 in
set_option maxHeartbeats 8000000 in
theorem mentions_yes (n1 tb : ByteArray) (wa : Option Addr) (wc ab : Nat) (E : Bool) (w : World) :
    Calls Tryz.prog 39 #[.agg #[.string n1, .string tb, .bool false, .int .i64 1, .slice none 0 0, .bool E, .slice none 0 0, .slice none 0 0, .slice none 0 0, .slice wa 1 wc, .slice (some ⟨ab, 0, none⟩) 1 1], .string tb] w (RetBel (.bool true) w) := by
  have hP := (PB.start w).new #[.string n1, .string tb, .bool false, .int .i64 1, .slice none 0 0, .bool E, .slice none 0 0, .slice none 0 0, .slice none 0 0, .slice wa 1 wc, .slice (some ⟨ab, 0, none⟩) 1 1] 52
  have hP := hP.new' (g := w.heap.size + 1) (by simp) #[.string tb] 9
  go_enter Tryz.func39, Tryz.ntmps39
  go_upto_region 1 with fail
  generalize World.alloc (World.alloc w _) _ = W0 at hP ⊢
  generalize hg : w.heap.size = g at hP ⊢
  have hgw : w.heap.size ≤ g := by omega
  clear hg
  have HP0 := Lib.hid hP
  obtain ⟨t0, t1, t2, t3, t4, t5, t6, t7, t8, t9, t10⟩ := cells11 (hP.blk (b := ⟨g, #[.string n1, .string tb, .bool false, .int .i64 1, .slice none 0 0, .bool E, .slice none 0 0, .slice none 0 0, .slice none 0 0, .slice wa 1 wc, .slice (some ⟨ab, 0, none⟩) 1 1], 52⟩) (by simp))
  have s0 := cells1 (hP.blk (b := ⟨g + 1, #[.string tb], 9⟩) (by simp))
  clear hP
  have hq : (tb.toList == tb.toList) = true := by simp
  go_wp2_with fail
  go_ret
  exact ⟨rfl, HP0.out.below⟩
end Go.Proofs.YtkhlmofcdchccaaGreatDoor
