/- Transition tables without rows: contracts of the reference's copyRows, transition and Transitions. -/
import Derived.Test.YtiheioajnfggmaaDoorC17
import Derived.Test.YtiheioajnfggmaaDoorC21
namespace Go.Proofs.YtiheioajnfggmaaDoor
open Go.RowKit

def bareCol (c : Col) : Col := ⟨c.name, c.type, false, false⟩

set_option maxHeartbeats 400000 in
theorem copyRows_nil (w : World) : Calls Tryd.prog 137 #[.slice none 0 0] w fun e w' => e = .returned (.slice none 0 0) ∧ w = w' := by
  go_enter Tryd.func137, Tryd.ntmps137
  go_wp2
  go_rounds 1
  go_ret
  exact ⟨rfl, rfl⟩

/-- A table without rows, in new memory. -/
def TblPost (s : Sch) (w : World) (e : Ending) (w' : World) : Prop := ∃ vc, e = .returned (.agg #[.string s.name, vc, .int .i64 1, .slice none 0 0]) ∧ ColsR (Out w.heap.size w'.heap.size) w' vc s.cols ∧ Below w.heap.size w w'

theorem blk4_set1 {w : World} {S : Nat} {a b c d v : Value} {e : TypeId} (h : w.heap[S]? = some (.cells #[a, b, c, d] e (0, 0))) : (w.setCell ⟨S, 1, none⟩ v).heap[S]? = some (.cells #[a, v, c, d] e (0, 0)) := by
  simp [World.setCell, Array.getElem?_modify, h]
theorem blk4f {w : World} {S : Nat} {a b c d : Value} {e : TypeId} (h : w.heap[S]? = some (.cells #[a, b, c, d] e (0, 0))) : w.frozen? ⟨S, 0, none⟩ = false ∧ w.frozen? ⟨S, 1, none⟩ = false := by
  simp [World.frozen?, h]

theorem cols_snoc_end {w wr w' : World} {B : Nat} {v v' : Value} {e : TypeId} {nm : ByteArray} {xs : List Col} (hB : w.heap.size + 1 < B) (hS : wr.heap[B]? = some (.cells #[.string nm, v, .int .i64 1, .slice none 0 0] e (0, 0))) (hR : wr.heap[w.heap.size + 1]? = some (.cells #[.string ⟨#[]⟩, .slice none 0 0, .int .i64 0, .slice none 0 0] e (0, 0)))
    (hO : ∀ k, OwnB v k → B + 1 ≤ k) (hk : Keep (OwnB v) wr w') (hG : RowsG (B + 1) w' 35 4 ColRR v' xs) (hb : Below w.heap.size w wr) :
    (w'.setCell ⟨B, 1, none⟩ v').heap[B]? = some (.cells #[.string nm, v', .int .i64 1, .slice none 0 0] e (0, 0)) ∧ (w'.setCell ⟨B, 1, none⟩ v').heap[w.heap.size + 1]? = some (.cells #[.string ⟨#[]⟩, .slice none 0 0, .int .i64 0, .slice none 0 0] e (0, 0)) ∧
      RowsG (B + 1) (w'.setCell ⟨B, 1, none⟩ v') 35 4 ColRR v' xs ∧ Below w.heap.size w (w'.setCell ⟨B, 1, none⟩ v') := by
  have ks : Keep (At B) w' (w'.setCell ⟨B, 1, none⟩ v') := (Keep.refl (At B) w').setCell (p := ⟨B, 1, none⟩) (fun _ => rfl) _
  have hS' : w'.heap[B]? = some (.cells #[.string nm, v, .int .i64 1, .slice none 0 0] e (0, 0)) := (hk.block _ (Array.getElem?_eq_some_iff.1 hS).1 fun h => by have := hO _ h; omega).trans hS
  have hR' : w'.heap[w.heap.size + 1]? = some (.cells #[.string ⟨#[]⟩, .slice none 0 0, .int .i64 0, .slice none 0 0] e (0, 0)) := (hk.block _ (Array.getElem?_eq_some_iff.1 hR).1 fun h => by have := hO _ h; omega).trans hR
  refine ⟨blk4_set1 hS', ?_, hG.keep colStable ks fun k h1 _ h => by unfold At at h; omega, ?_⟩
  · rw [Below.heap_setCell _ _ _ _ (by simp; omega)]
    exact hR'
  · have h1 : Below w.heap.size w w' := hb.trans (hk.toBelow hb.size fun k hk h => by have := hO _ h; omega)
    exact h1.setCell (by simp; omega) _

theorem transition_end {w w' w'' : World} {B : Nat} {v : Value} {nm : ByteArray} {xs : List Col} (hG : RowsG (B + 1) w' 35 4 ColRR v xs) (hB : w.heap.size + 1 < B) (hb : Below w.heap.size w w') (hk : Keep (At (w.heap.size + 1)) w' w'') :
    TblPost ⟨nm, xs⟩ w (.returned (.agg #[.string nm, v, .int .i64 1, .slice none 0 0])) w'' := by
  refine ⟨v, rfl, ?_, hb.trans (hk.toBelow hb.size fun k h1 h => by unfold At at h; omega)⟩
  have h1 := hG.keep colStable hk fun k h1 _ h => by unfold At at h; omega
  have h2 := h1.rows colStable
  refine RowsR.weak h2 (fun k hk' h => ?_) fun _ _ _ h => h
  unfold Out at h
  unfold Old
  omega

set_option maxRecDepth 100000 in
set_option maxHeartbeats 2000000 in
theorem transition_any (nm s : ByteArray) (vc : Value) (cols : List Col) (w : World) (hc : ColsR NoM w vc cols) (hN : cols.length ≤ 1000) :
    Calls Tryd.prog 110 #[.string nm, .agg #[.string s, vc], .slice none 0 0] w (TblPost ⟨nm, cols.map bareCol⟩ w) := by
  obtain ⟨ca, cc, rfl, hm⟩ := hc.shape
  unfold maxLen at hm
  have HC := Lib.hid hc
  clear hc
  go_enter Tryd.func110, Tryd.ntmps110
  go_wp2_with (go_at_call 137; refine (copyRows_nil _).mono ?_; rintro e w1 ⟨rfl, rfl⟩)
  have g0 : (((w.alloc (.cells #[.string s, .slice ca cols.length cc] 29)).alloc (.cells #[.string ⟨#[]⟩, .slice none 0 0, .int .i64 0, .slice none 0 0] 106)).alloc (.cells #[.string nm, .slice none 0 0, .int .i64 1, .slice none 0 0] 106)).heap[w.heap.size + 1 + 1]? = some (.cells #[.string nm, .slice none 0 0, .int .i64 1, .slice none 0 0] 106 (0, 0)) := heap_new2
  have g1 : (((w.alloc (.cells #[.string s, .slice ca cols.length cc] 29)).alloc (.cells #[.string ⟨#[]⟩, .slice none 0 0, .int .i64 0, .slice none 0 0] 106)).alloc (.cells #[.string nm, .slice none 0 0, .int .i64 1, .slice none 0 0] 106)).heap[w.heap.size + 1]? = some (.cells #[.string ⟨#[]⟩, .slice none 0 0, .int .i64 0, .slice none 0 0] 106 (0, 0)) := heap_mid
  have G0 := Lib.hid g0
  have G1 := Lib.hid g1
  clear g0 g1
  go_loopw [18] (fun i wr => ∃ (j : Nat) (v : Value), j ≤ cols.length ∧ i = .int .i64 j ∧ wr.heap[w.heap.size + 1 + 1]? = some (.cells #[.string nm, v, .int .i64 1, .slice none 0 0] 106 (0, 0)) ∧ wr.heap[w.heap.size + 1]? = some (.cells #[.string ⟨#[]⟩, .slice none 0 0, .int .i64 0, .slice none 0 0] 106 (0, 0)) ∧
      RowsG (w.heap.size + 1 + 1 + 1) wr 35 4 ColRR v ((cols.take j).map bareCol) ∧ Below w.heap.size w wr) (fun i _ => cols.length - (intOf i).toNat)
  case atStart => exact ⟨0, .slice none 0 0, Nat.zero_le _, rfl, G0.out, G1.out, RowsG.nil .., by go_grown⟩
  case round =>
    obtain ⟨j, v, hj, rfl, hB, hR, hG, hb⟩ := hrel
    obtain ⟨va, vp, rfl, hvm⟩ := hG.shape
    have hlj : ((cols.take j).map bareCol).length = j := by simp; omega
    rw [hlj] at hB hG hvm
    obtain ⟨b0, b1, b2, b3, bf2, bf3, bz⟩ := blk4 hB
    obtain ⟨bf0, bf1⟩ := blk4f hB
    obtain ⟨r0, r1, r2, r3, rf2, rf3, rz⟩ := blk4 hR
    obtain ⟨rf0, rf1⟩ := blk4f hR
    have HB := Lib.hid hb
    have HG := Lib.hid hG
    have HBB := Lib.hid hB
    have HRR := Lib.hid hR
    clear hb hG hB hR
    by_cases hlt : j < cols.length
    · rcases HC.out.open with ⟨h, h'⟩ | ⟨b', o', cap', hv', hbT, hbs, hl, hm', hx⟩
      · subst h'; simp at hlt
      · simp only [Value.slice.injEq] at hv'
        obtain ⟨rfl, _, rfl⟩ := hv'
        have hxj : cols[j]? = some cols[j] := List.getElem?_eq_getElem hlt
        obtain ⟨cs, rfl, _, hcs⟩ := hx j _ hxj
        generalize cols[j] = c at hxj hcs
        have hcs' := hcs.keep (M := NoM) (.bel HB.out) id
        obtain ⟨c0, c1, c2, c3⟩ := hcs'.c4
        have HX := Lib.hid hxj
        have hz : w.heap.size ≤ wr.heap.size := HB.out.size
        clear hx hcs hcs' hxj
        have HLEN := Lib.hid hlj
        clear hlj
        generalize hxs : (cols.take j).map bareCol = xs at HG HLEN
        have HXS := Lib.hid hxs
        clear hxs
        go_wp2_with (at_builtin; go_loud (refine wpList_appG (w := wr.alloc (.cells #[.string c.name, .int .i64 c.type, .bool c.notNull, .bool c.key] 35)) colStable rfl _ _ 27 rfl 35 _ 4 32 Tryd.underlying27 infoCol rfl (by decide) (w.heap.size + 1 + 1 + 1) (.slice va j vp) (wr.heap.size + 1) #[.string c.name, .int .i64 c.type, .bool false, .bool false] xs (bareCol c) rfl rfl (by simp) (HG.out.bel colStable ((Below.refl _ _).alloc (Nat.le_refl _) _)) rfl rfl ?_ ?_ ?_ ?_; (focus (have := HLEN.out; omega)); (focus (have := HLEN.out; unfold maxLen; omega)); (focus (simp; omega)); intro v2 w2 ho hk; obtain ⟨va2, vp2, rfl, hvm2⟩ := ho.shape; simp only [List.length_append, List.length_singleton] at ho; have hO : ∀ k, OwnB (.slice va j vp) k → w.heap.size + 1 + 1 + 1 ≤ k := fun k h => (RowsO.lt HG.out h).1; have HO := Lib.hid hO; have hB2 := ((((Keep.refl _ wr).alloc _).trans hk).block _ bz (fun h => by have := hO _ h; omega)).trans HBB.out; obtain ⟨d0, d1, d2, d3, df2, df3, dz⟩ := blk4 hB2; obtain ⟨df0, df1⟩ := blk4f hB2; have HK := Lib.hid (((Keep.refl _ wr).alloc _).trans hk); have HG2 := Lib.hid ho; clear ho hO hk hB2))
        obtain ⟨e1, e2, e3, e4⟩ := cols_snoc_end (nm := nm) (by omega : w.heap.size + 1 < w.heap.size + 1 + 1) HBB.out HRR.out HO.out HK.out HG2.out HB.out
        go_roundw
        case rel =>
          refine ⟨j + 1, _, by omega, by go_num, e1, e2, ?_, e4⟩
          rw [List.take_add_one, HX.out, List.map_append, HXS.out]
          exact e3
        case measure => simp [intOf]; omega
    · obtain rfl : j = cols.length := by omega
      go_wp2_with fail
      refine bodyPost_ret (v := .agg #[.string nm, .slice va cols.length vp, .int .i64 1, .slice none 0 0]) (by simp [results, Tryd.results110, go_sem, r0, r1, r2, r3]) rfl ?_
      rw [List.take_length] at HG
      exact transition_end HG.out (by omega) HB.out (((((Keep.refl (At (w.heap.size + 1)) wr).setCell (p := ⟨w.heap.size + 1, 0, none⟩) (fun _ => rfl) _).setCell (p := ⟨w.heap.size + 1, 1, none⟩) (fun _ => rfl) _).setCell (p := ⟨w.heap.size + 1, 2, none⟩) (fun _ => rfl) _).setCell (p := ⟨w.heap.size + 1, 3, none⟩) (fun _ => rfl) _)

def insName : ByteArray := ⟨#[73, 78, 83, 69, 82, 84, 69, 68]⟩
def delName : ByteArray := ⟨#[68, 69, 76, 69, 84, 69, 68]⟩
def transL (r : Int) (cols : List Col) : List Sch := if r = 0 then [⟨insName, cols.map bareCol⟩] else if r = 1 then [⟨delName, cols.map bareCol⟩, ⟨insName, cols.map bareCol⟩] else [⟨delName, cols.map bareCol⟩]

def TblsPost (l : List Sch) (w : World) (e : Ending) (w' : World) : Prop := ∃ v, e = .returned v ∧ TblsR (Out w.heap.size w'.heap.size) w' v l ∧ Below w.heap.size w w'

theorem out_new {lo : Nat} {w : World} (h : lo ≤ w.heap.size) (o : Obj) : ¬ Out lo (w.alloc o).heap.size w.heap.size := by unfold Out; simp; omega
theorem out_grow {lo hi hi' : Nat} (h : hi ≤ hi') : ∀ k, k < hi → Out lo hi' k → Out lo hi k := fun k hk h => by unfold Out at h ⊢; omega

theorem tbl_one {w w1 : World} {v : Value} {s : Sch} (h : ColsR (Out w.heap.size w1.heap.size) w1 v s.cols) (hb : Below w.heap.size w w1) :
    TblsR (Out w.heap.size (w1.alloc (.cells #[.string s.name, v, .int .i64 1, .slice none 0 0] 106)).heap.size) (w1.alloc (.cells #[.string s.name, v, .int .i64 1, .slice none 0 0] 106)) (.slice (some ⟨w1.heap.size, 0, none⟩) 1 1) [s] :=
  rows_one (R := TblR _ _) s rfl (out_new hb.size _) rfl ⟨v, 1, none, 0, 0, rfl, (h.keep ((Keep.refl _ w1).alloc _)).weak fun k hk h => by simp [Out] at h hk ⊢; omega⟩

set_option maxRecDepth 100000 in
set_option maxHeartbeats 1000000 in
theorem trans_1 (n1 n2 n3 s : ByteArray) (vc : Value) (cols : List Col) (w : World) (hc : ColsR NoM w vc cols) (hN : cols.length ≤ 1000) :
    Calls Tryd.prog 67 #[.agg #[.string n1, .string n2, .bool false, .int .i64 1, .slice none 0 0, .bool false, .slice none 0 0, .slice none 0 0, .slice none 0 0, .slice none 0 0, .slice none 0 0], .agg #[.string s, vc], .agg #[.string n3, .slice none 0 0, .slice none 0 0, .slice none 0 0]] w (TblsPost [⟨insName, cols.map bareCol⟩] w) := by
  obtain ⟨ca, cc, rfl, hm⟩ := hc.shape
  have HC := Lib.hid fun (w' : World) (h : Below w.heap.size w w') => hc.keep (.bel h)
  clear hc
  go_enter Tryd.func67, Tryd.ntmps67
  go_wp2_with fail
  refine wp_loop_rounds 1 ?_
  rw [rounds_succ]
  go_wp2_with (go_at_call 110; go_loud (refine (transition_any _ _ _ cols _ (HC.out _ (by go_grown)) hN).mono ?_; rintro e w1 ⟨v1, rfl, h1, hb⟩; obtain ⟨a1, c1, hv1, _⟩ := h1.shape; rw [show (Sch.cols ⟨_, cols.map bareCol⟩).length = cols.length from List.length_map ..] at hv1; subst hv1; have hb' : Below w.heap.size w w1 := Below.trans (by go_grown) (hb.mono (by simp <;> omega)); have HB := Lib.hid hb'; have H1 := Lib.hid (h1.weak (M' := Out w.heap.size w1.heap.size) fun k hk h => by unfold Out at h ⊢; simp <;> omega); clear h1 hb hb'))
  go_ret
  exact ⟨_, rfl, tbl_one (s := ⟨insName, cols.map bareCol⟩) H1.out HB.out, HB.out.alloc HB.out.size _⟩

set_option maxRecDepth 100000 in
set_option maxHeartbeats 1000000 in
theorem trans_3 (n1 n2 n3 s : ByteArray) (vc : Value) (cols : List Col) (w : World) (hc : ColsR NoM w vc cols) (hN : cols.length ≤ 1000) :
    Calls Tryd.prog 67 #[.agg #[.string n1, .string n2, .bool false, .int .i64 3, .slice none 0 0, .bool false, .slice none 0 0, .slice none 0 0, .slice none 0 0, .slice none 0 0, .slice none 0 0], .agg #[.string s, vc], .agg #[.string n3, .slice none 0 0, .slice none 0 0, .slice none 0 0]] w (TblsPost [⟨delName, cols.map bareCol⟩] w) := by
  obtain ⟨ca, cc, rfl, hm⟩ := hc.shape
  have HC := Lib.hid fun (w' : World) (h : Below w.heap.size w w') => hc.keep (.bel h)
  clear hc
  go_enter Tryd.func67, Tryd.ntmps67
  go_wp2_with fail
  refine wp_loop_rounds 1 ?_
  rw [rounds_succ]
  go_wp2_with (go_at_call 110; go_loud (refine (transition_any _ _ _ cols _ (HC.out _ (by go_grown)) hN).mono ?_; rintro e w1 ⟨v1, rfl, h1, hb⟩; obtain ⟨a1, c1, hv1, _⟩ := h1.shape; rw [show (Sch.cols ⟨_, cols.map bareCol⟩).length = cols.length from List.length_map ..] at hv1; subst hv1; have hb' : Below w.heap.size w w1 := Below.trans (by go_grown) (hb.mono (by simp <;> omega)); have HB := Lib.hid hb'; have H1 := Lib.hid (h1.weak (M' := Out w.heap.size w1.heap.size) fun k hk h => by unfold Out at h ⊢; simp <;> omega); clear h1 hb hb'))
  go_ret
  exact ⟨_, rfl, tbl_one (s := ⟨delName, cols.map bareCol⟩) H1.out HB.out, HB.out.alloc HB.out.size _⟩

theorem tbl_two {w w2 : World} {v1 v2 : Value} {s1 s2 : Sch} (h1 : ColsR (Out w.heap.size w2.heap.size) w2 v1 s1.cols) (h2 : ColsR (Out w.heap.size w2.heap.size) w2 v2 s2.cols) (hb : Below w.heap.size w w2) :
    TblsR (Out w.heap.size (w2.alloc (.cells #[.string s1.name, v1, .int .i64 1, .slice none 0 0, .string s2.name, v2, .int .i64 1, .slice none 0 0] 106)).heap.size) (w2.alloc (.cells #[.string s1.name, v1, .int .i64 1, .slice none 0 0, .string s2.name, v2, .int .i64 1, .slice none 0 0] 106)) (.slice (some ⟨w2.heap.size, 0, none⟩) 2 2) [s1, s2] :=
  rows_two (R := TblR _ _) s1 s2 [.string s1.name, v1, .int .i64 1, .slice none 0 0] [.string s2.name, v2, .int .i64 1, .slice none 0 0] rfl (out_new hb.size _) rfl rfl rfl
    ⟨v1, 1, none, 0, 0, rfl, (h1.keep ((Keep.refl _ w2).alloc _)).weak fun k hk h => by simp [Out] at h hk ⊢; omega⟩ ⟨v2, 1, none, 0, 0, rfl, (h2.keep ((Keep.refl _ w2).alloc _)).weak fun k hk h => by simp [Out] at h hk ⊢; omega⟩

set_option maxRecDepth 100000 in
set_option maxHeartbeats 2000000 in
theorem trans_2 (n1 n2 n3 s : ByteArray) (vc : Value) (cols : List Col) (w : World) (hc : ColsR NoM w vc cols) (hN : cols.length ≤ 1000) :
    Calls Tryd.prog 67 #[.agg #[.string n1, .string n2, .bool false, .int .i64 2, .slice none 0 0, .bool false, .slice none 0 0, .slice none 0 0, .slice none 0 0, .slice none 0 0, .slice none 0 0], .agg #[.string s, vc], .agg #[.string n3, .slice none 0 0, .slice none 0 0, .slice none 0 0]] w (TblsPost [⟨delName, cols.map bareCol⟩, ⟨insName, cols.map bareCol⟩] w) := by
  obtain ⟨ca, cc, rfl, hm⟩ := hc.shape
  have HC := Lib.hid fun (w' : World) (h : Below w.heap.size w w') => hc.keep (.bel h)
  have tok1 : Hid True := trivial
  clear hc
  go_enter Tryd.func67, Tryd.ntmps67
  go_wp2_with fail
  go_rounds 1
  go_wp2_with fail
  go_region_held3 (fun w' => w'.cell? ⟨w.heap.size + 1, 0, none⟩ = some (.string s) ∧ w'.cell? ⟨w.heap.size + 1, 1, none⟩ = some (.slice ca cols.length cc))
    (first | (go_split_ands; first | with_reducible exact ⟨p2, q2⟩ | with_reducible exact ⟨p1, q1⟩) | go_keep)
    (first
      | (go_at_call 110; have _t := tok1; refine (transition_any _ _ _ cols _ (HC.out _ (by exact drew_below (by go_grown))) hN).mono ?_; rintro e w1 ⟨v1, rfl, h1, hb⟩; obtain ⟨a1, c1, hv1, _⟩ := h1.shape; rw [show (Sch.cols ⟨_, cols.map bareCol⟩).length = cols.length from List.length_map ..] at hv1; subst hv1; have hb' : Below w.heap.size w w1 := Below.trans (drew_below (by go_grown)) (hb.mono (by simp; omega)); have p1 : w1.cell? ⟨w.heap.size + 1, 0, none⟩ = some (.string s) := (hb.cell (by simp)).trans (blk2 heap_mid).1; have q1 : w1.cell? ⟨w.heap.size + 1, 1, none⟩ = some (.slice ca cols.length cc) := (hb.cell (by simp)).trans (blk2 heap_mid).2.1; have z1 := hb.size; simp at z1; have HB := Lib.hid hb'; have H1 := Lib.hid (h1.weak (M' := Out w.heap.size w1.heap.size) fun k hk h => by unfold Out at h ⊢; simp; omega); clear h1 hb hb' tok1)
      | (go_at_call 110; refine (transition_any _ _ _ cols _ (HC.out _ HB.out) hN).mono ?_; rintro e w2 ⟨v2, rfl, h2, hb⟩; obtain ⟨a2, c2, hv2, _⟩ := h2.shape; rw [show (Sch.cols ⟨_, cols.map bareCol⟩).length = cols.length from List.length_map ..] at hv2; subst hv2; have hb' : Below w.heap.size w w2 := Below.trans HB.out (hb.mono HB.out.size); have p2 : w2.cell? ⟨w.heap.size + 1, 0, none⟩ = some (.string s) := (hb.cell (by simp; omega)).trans p1; have q2 : w2.cell? ⟨w.heap.size + 1, 1, none⟩ = some (.slice ca cols.length cc) := (hb.cell (by simp; omega)).trans q1; have z2 := hb.size; have HB2 := Lib.hid hb'; have H2 := Lib.hid (h2.weak (M' := Out w.heap.size w2.heap.size) fun k hk h => by unfold Out at h ⊢; omega); have H3 := Lib.hid ((H1.out.keep (.bel hb)).weak (M' := Out w.heap.size w2.heap.size) fun k hk h => by unfold Out at h ⊢; omega); clear h2 hb hb'))
  go_wp2_with fail
  go_ret
  exact ⟨_, rfl, tbl_two (s1 := ⟨delName, cols.map bareCol⟩) (s2 := ⟨insName, cols.map bareCol⟩) H3.out H2.out HB2.out, HB2.out.alloc HB2.out.size _⟩

theorem trans_any (r : Int) (h0 : 0 ≤ r) (h1 : r < 3) (n1 n2 n3 s : ByteArray) (vc : Value) (cols : List Col) (w : World) (hc : ColsR NoM w vc cols) (hN : cols.length ≤ 1000) :
    Calls Tryd.prog 67 #[.agg #[.string n1, .string n2, .bool false, .int .i64 (1 + r), .slice none 0 0, .bool false, .slice none 0 0, .slice none 0 0, .slice none 0 0, .slice none 0 0, .slice none 0 0], .agg #[.string s, vc], .agg #[.string n3, .slice none 0 0, .slice none 0 0, .slice none 0 0]] w (TblsPost (transL r cols) w) := by
  have h : r = 0 ∨ r = 1 ∨ r = 2 := by omega
  rcases h with rfl | rfl | rfl
  · exact trans_1 _ _ _ _ _ _ _ hc hN
  · exact trans_2 _ _ _ _ _ _ _ hc hN
  · exact trans_3 _ _ _ _ _ _ _ hc hN

end Go.Proofs.YtiheioajnfggmaaDoor
