/- A schema of any kind: the contract of AnySchema. -/
import Derived.Test.YtiheioajnfggmaaDoorC16
import Derived.Deep.RegionHeld3
import Derived.Deep.DeepCutAuto
namespace Go.Proofs.YtiheioajnfggmaaDoor
open Go.RowKit

theorem kcell {T : Nat} {w w' : World} (k : Keep (At T) w w') : (∀ b o, b < w.heap.size → b ≠ T → w'.cell? ⟨b, o, none⟩ = w.cell? ⟨b, o, none⟩) ∧ (∀ b o, b < w.heap.size → b ≠ T → w'.frozen? ⟨b, o, none⟩ = w.frozen? ⟨b, o, none⟩) :=
  ⟨fun _ _ h hT => k.cell h hT, fun b _ h hT => World.frozen?_of_block (k.block b h hT)⟩

theorem kcell1 {T : Nat} {w w' : World} (k : Keep (At T) w w') {b o : Nat} {x : Value} (h : w.cell? ⟨b, o, none⟩ = some x) (hT : b ≠ T) : w'.cell? ⟨b, o, none⟩ = some x :=
  (k.cell (World.block_lt_of_cell? _ _ h) hT).trans h

theorem set_far {w : World} {g i b o : Nat} {u : Value} (h : b ≠ g) : (w.setCell ⟨g, i, none⟩ u).cell? ⟨b, o, none⟩ = w.cell? ⟨b, o, none⟩ := World.cell?_setCell_other _ _ _ _ (fun e => h (by injection e with e1; exact e1.symm))

theorem blk4_set {w : World} {S : Nat} {x0 x1 x2 x3 a b c d : Value} {e : TypeId} (h : w.heap[S]? = some (.cells #[x0, x1, x2, x3] e (0, 0))) :
    ((((w.setCell ⟨S, 0, none⟩ a).setCell ⟨S, 1, none⟩ b).setCell ⟨S, 2, none⟩ c).setCell ⟨S, 3, none⟩ d).heap[S]? = some (.cells #[a, b, c, d] e (0, 0)) := by
  simp [World.setCell, Array.getElem?_modify, h]

theorem blk2_set0 {w : World} {S : Nat} {a b a' : Value} {e : TypeId} (h : w.heap[S]? = some (.cells #[a, b] e (0, 0))) : (w.setCell ⟨S, 0, none⟩ a').heap[S]? = some (.cells #[a', b] e (0, 0)) := by
  simp [World.setCell, Array.getElem?_modify, h]

theorem blk4 {w : World} {S : Nat} {a b c d : Value} {e : TypeId} (h : w.heap[S]? = some (.cells #[a, b, c, d] e (0, 0))) : w.cell? ⟨S, 0, none⟩ = some a ∧ w.cell? ⟨S, 1, none⟩ = some b ∧ w.cell? ⟨S, 2, none⟩ = some c ∧ w.cell? ⟨S, 3, none⟩ = some d ∧ w.frozen? ⟨S, 2, none⟩ = false ∧ w.frozen? ⟨S, 3, none⟩ = false ∧ S < w.heap.size := by
  refine ⟨by simp [World.cell?, h], by simp [World.cell?, h], by simp [World.cell?, h], by simp [World.cell?, h], by simp [World.frozen?, h], by simp [World.frozen?, h], (Array.getElem?_eq_some_iff.1 h).1⟩

theorem tape_set4 {T S : Nat} {w : World} {a b c d : Value} (h : TapeOk T w) (hS : T < S) : TapeOk T ((((w.setCell ⟨S, 0, none⟩ a).setCell ⟨S, 1, none⟩ b).setCell ⟨S, 2, none⟩ c).setCell ⟨S, 3, none⟩ d) :=
  h.keep (M := At S) (((((Keep.refl (At S) w).setCell (p := ⟨S, 0, none⟩) (fun _ => rfl) _).setCell (p := ⟨S, 1, none⟩) (fun _ => rfl) _).setCell (p := ⟨S, 2, none⟩) (fun _ => rfl) _).setCell (p := ⟨S, 3, none⟩) (fun _ => rfl) _) fun k hk h => by unfold At at h; omega

theorem keep_set4 {T S : Nat} {w0 w : World} {a b c d : Value} (h : Keep (At T) w0 w) (hS : w0.heap.size ≤ S) : Keep (At T) w0 ((((w.setCell ⟨S, 0, none⟩ a).setCell ⟨S, 1, none⟩ b).setCell ⟨S, 2, none⟩ c).setCell ⟨S, 3, none⟩ d) :=
  (((h.setCell (p := ⟨S, 0, none⟩) (fun h => absurd h (Nat.not_lt_of_le hS)) _).setCell (p := ⟨S, 1, none⟩) (fun h => absurd h (Nat.not_lt_of_le hS)) _).setCell (p := ⟨S, 2, none⟩) (fun h => absurd h (Nat.not_lt_of_le hS)) _).setCell (p := ⟨S, 3, none⟩) (fun h => absurd h (Nat.not_lt_of_le hS)) _

def ColRR (_ : Nat → Prop) (_ : World) (c : Col) (cs : List Value) : Prop := ColR c cs
theorem colStable : Stable ColRR where
  keep h _ := h
  weak h _ := h
  one h := colR_one default _ _ h

/-- A block of two cells. -/
theorem blk2 {w : World} {S : Nat} {a b : Value} {e : TypeId} (h : w.heap[S]? = some (.cells #[a, b] e (0, 0))) : w.cell? ⟨S, 0, none⟩ = some a ∧ w.cell? ⟨S, 1, none⟩ = some b ∧ w.frozen? ⟨S, 0, none⟩ = false ∧ w.frozen? ⟨S, 1, none⟩ = false ∧ S < w.heap.size := by
  refine ⟨by simp [World.cell?, h], by simp [World.cell?, h], by simp [World.frozen?, h], by simp [World.frozen?, h], (Array.getElem?_eq_some_iff.1 h).1⟩

theorem blk2_set {w : World} {S : Nat} {a b v : Value} {e : TypeId} (h : w.heap[S]? = some (.cells #[a, b] e (0, 0))) : (w.setCell ⟨S, 1, none⟩ v).heap[S]? = some (.cells #[a, v] e (0, 0)) := by
  simp [World.setCell, Array.getElem?_modify, h]

/-- What an append to the columns leaves of the rest. -/
theorem after_app {T S r : Nat} {w0 wc w' : World} {v x : Value} {nm : ByteArray} {er : TypeId} (hk : Keep (OwnB v) wc w') (HO : ∀ k, OwnB v k → S + 1 ≤ k) (hT : T < S) (hr : r < S) (h0 : w0.heap.size ≤ S) (hS : wc.heap[S]? = some (.cells #[.string nm, x] er (0, 0)))
    (hR : wc.heap[r]? = some (.cells #[.string ⟨#[]⟩, .slice none 0 0] er (0, 0))) (ht : TapeOk T wc) (hkk : Keep (At T) w0 wc) :
    w'.heap[S]? = some (.cells #[.string nm, x] er (0, 0)) ∧ w'.heap[r]? = some (.cells #[.string ⟨#[]⟩, .slice none 0 0] er (0, 0)) ∧ TapeOk T w' ∧ Keep (At T) w0 w' := by
  refine ⟨(hk.block _ (Array.getElem?_eq_some_iff.1 hS).1 fun h => ?_).trans hS, (hk.block _ (Array.getElem?_eq_some_iff.1 hR).1 fun h => ?_).trans hR, ht.keep hk fun k h1 h2 => ?_, hkk.then hk fun k h1 h2 => ?_⟩
  · have := HO _ h; omega
  · have := HO _ h; omega
  · have := HO _ h2; omega
  · have := HO _ h2; omega

/-- The column number i of a schema that was drawn with a key. -/
def anyCol (key : Nat) (i : Nat) (c : Col) : Prop := c.name = nameAt ((3 * i + key) % 8) ∧ 1 ≤ c.type ∧ c.type ≤ 3 ∧ c.key = decide (key = i) ∧ (c.key = true → c.notNull = true)
/-- One column more, and stored back. -/
theorem end_app {T S r tot m' key idx : Nat} {w0 w' : World} {nm : ByteArray} {x : Value} {a' : Option Addr} {n' p' : Nat} {cols : List Col} {ty : Int} {nn kk : Bool} (hT : T < S) (hr : r < S) (h0 : w0.heap.size ≤ S) (hnm : cols.length + (m' + 1) = tot + 1) (hidx : (cols.length * 3 + key) % 8 = idx) (h1 : 1 ≤ ty) (h3 : ty ≤ 3) (hkk : kk = decide (key = cols.length)) (hnn : kk = true → nn = true)
    (hall : ∀ i c, cols[i]? = some c → anyCol key i c) (hS : w'.heap[S]? = some (.cells #[.string nm, x] 29 (0, 0))) (hR : w'.heap[r]? = some (.cells #[.string ⟨#[]⟩, .slice none 0 0] 29 (0, 0)))
    (hG : RowsG (S + 1) w' 35 4 ColRR (.slice a' n' p') (cols ++ [⟨nameAt idx, ty, nn, kk⟩])) (ht : TapeOk T w') (hk : Keep (At T) w0 w') :
    ∃ (n m : Nat) (v : Value) (cols : List Col), n + m = tot + 1 ∧ Value.int .i64 (m' : Int) = .int .i64 m ∧ cols.length = n ∧ (∀ i c, cols[i]? = some c → anyCol key i c) ∧ (w'.setCell ⟨S, 1, none⟩ (.slice a' n' p')).heap[S]? = some (.cells #[.string nm, v] 29 (0, 0)) ∧
      (w'.setCell ⟨S, 1, none⟩ (.slice a' n' p')).heap[r]? = some (.cells #[.string ⟨#[]⟩, .slice none 0 0] 29 (0, 0)) ∧ RowsG (S + 1) (w'.setCell ⟨S, 1, none⟩ (.slice a' n' p')) 35 4 ColRR v cols ∧ TapeOk T (w'.setCell ⟨S, 1, none⟩ (.slice a' n' p')) ∧ Keep (At T) w0 (w'.setCell ⟨S, 1, none⟩ (.slice a' n' p')) := by
  have ks : Keep (At S) w' (w'.setCell ⟨S, 1, none⟩ (.slice a' n' p')) := (Keep.refl (At S) w').setCell (p := ⟨S, 1, none⟩) (fun _ => rfl) _
  refine ⟨cols.length + 1, m', _, _, by omega, rfl, by simp, fun i c hi => ?_, blk2_set hS, ?_, hG.keep colStable ks fun k h1 _ h => by unfold At at h; omega, ht.keep ks fun k h1 h => by unfold At at h; omega,
    hk.setCell (p := ⟨S, 1, none⟩) (fun h => absurd h (Nat.not_lt_of_le h0)) _⟩
  · by_cases hlt : i < cols.length
    · rw [List.getElem?_append_left hlt] at hi
      exact hall i c hi
    · rw [List.getElem?_append_right (by omega)] at hi
      have h5 := (List.getElem?_eq_some_iff.1 hi).1
      simp at h5
      obtain rfl : i = cols.length := by omega
      simp at hi
      subst hi
      refine ⟨?_, h1, h3, hkk, hnn⟩
      rw [← hidx, Nat.mul_comm]
  · rw [Below.heap_setCell _ _ _ _ (by simp; omega)]
    exact hR

/-- Two stores into a block that lies above all. -/
theorem two_sets {T S r g : Nat} {w0 wr wc : World} {nm : ByteArray} {x v u1 u2 : Value} {cols : List Col} (hgS : S < g) (hT : T < S) (hr : r < S) (h0 : w0.heap.size ≤ S) (hO : ∀ k, OwnB v k → S + 1 ≤ k ∧ k < wr.heap.size) (hgr : wr.heap.size ≤ g) (hS : wc.heap[S]? = some (.cells #[.string nm, x] 29 (0, 0)))
    (hR : wc.heap[r]? = some (.cells #[.string ⟨#[]⟩, .slice none 0 0] 29 (0, 0))) (hG : RowsG (S + 1) wc 35 4 ColRR v cols) (ht : TapeOk T wc) (hk : Keep (At T) w0 wc) :
    ((wc.setCell ⟨g, 3, none⟩ u1).setCell ⟨g, 2, none⟩ u2).heap[S]? = some (.cells #[.string nm, x] 29 (0, 0)) ∧ ((wc.setCell ⟨g, 3, none⟩ u1).setCell ⟨g, 2, none⟩ u2).heap[r]? = some (.cells #[.string ⟨#[]⟩, .slice none 0 0] 29 (0, 0)) ∧
      RowsG (S + 1) ((wc.setCell ⟨g, 3, none⟩ u1).setCell ⟨g, 2, none⟩ u2) 35 4 ColRR v cols ∧ TapeOk T ((wc.setCell ⟨g, 3, none⟩ u1).setCell ⟨g, 2, none⟩ u2) ∧ Keep (At T) w0 ((wc.setCell ⟨g, 3, none⟩ u1).setCell ⟨g, 2, none⟩ u2) := by
  have ks : Keep (At g) wc ((wc.setCell ⟨g, 3, none⟩ u1).setCell ⟨g, 2, none⟩ u2) := ((Keep.refl (At g) wc).setCell (p := ⟨g, 3, none⟩) (fun _ => rfl) _).setCell (p := ⟨g, 2, none⟩) (fun _ => rfl) _
  refine ⟨(ks.block _ (Array.getElem?_eq_some_iff.1 hS).1 fun h => ?_).trans hS, (ks.block _ (Array.getElem?_eq_some_iff.1 hR).1 fun h => ?_).trans hR, RowsO.kept hG ks (fun k h hg => ?_) fun _ _ _ h => h, ht.keep ks fun k h1 h => ?_, hk.then ks fun k h1 h => ?_⟩
  all_goals try unfold At at h
  · omega
  · omega
  · unfold At at hg; have := hO k h; omega
  · omega
  · omega

def AnySch (s : Sch) : Prop := (∃ i : Nat, i < 8 ∧ s.name = nameAt i) ∧ 1 ≤ s.cols.length ∧ s.cols.length ≤ 5 ∧ ∃ key : Nat, key < 4 ∧ ∀ i c, s.cols[i]? = some c → anyCol key i c

def AnySchQ (w : World) (v : Value) (w' : World) : Prop := ∃ s vc, v = .agg #[.string s.name, vc] ∧ AnySch s ∧ ColsR (Out w.heap.size w'.heap.size) w' vc s.cols

set_option maxRecDepth 100000 in
set_option maxHeartbeats 1000000 in
theorem anySchema_any (T : Nat) (w : World) (ht : TapeOk T w) (hn : NamesOk T w) : Calls Tryd.prog 16 #[.pointer (some ⟨T, 0, none⟩)] w (Gives T w (AnySchQ w)) := by
  have hTw := ht.lt
  have H0 := Lib.hid ht
  have HN := Lib.hid hn
  have tok1 : Hid True := trivial
  clear ht hn
  go_enter Tryd.func16, Tryd.ntmps16
  go_wp2_with (first
    | (go_at_call 26; refine (name_any T _ (H0.out.alloc _) (HN.out.at ((Keep.refl _ w).alloc _))).mono ?_; rintro e w1 ⟨v, rfl, ⟨ni, hni, rfl⟩, ht, hk⟩; have HT1 := Lib.hid ht; have HK1 := Lib.hid (((Keep.refl (At T) w).alloc _).trans hk); have HKA := Lib.hid hk; have h1 := hk.size; simp only [World.size_alloc] at h1; clear ht hk)
    | (go_at_call 21; have _t := tok1; refine (next_any T 4 _ (by omega) (by omega) (HT1.out.alloc _)).mono ?_; rintro e w2 ⟨v, rfl, ⟨key', rfl, hk0, hk1⟩, ht, hk⟩; obtain ⟨key, rfl⟩ := Int.eq_ofNat_of_zero_le hk0; have HT2 := Lib.hid ht; have HKB := Lib.hid hk; have h2 := hk.size; simp only [World.size_alloc] at h2; clear ht hk tok1)
    | (go_at_call 21; refine (next_any T 5 _ (by omega) (by omega) HT2.out).mono ?_; rintro e w3 ⟨v, rfl, ⟨tot', rfl, ht0, ht1⟩, ht, hk⟩; obtain ⟨tot, rfl⟩ := Int.eq_ofNat_of_zero_le ht0; have HT3 := Lib.hid ht; have HKC := Lib.hid hk; have h3 := hk.size; clear ht hk))
  have hT1 : T < w1.heap.size := by omega
  have g1 : (w1.alloc (.cells #[.string (nameAt ni), .slice none 0 0] 29)).heap[w1.heap.size]? = some (.cells #[.string (nameAt ni), .slice none 0 0] 29 (0, 0)) := heap_alloc_new _ _
  have g3 : w3.heap[w1.heap.size]? = some (.cells #[.string (nameAt ni), .slice none 0 0] 29 (0, 0)) := by
    rw [HKC.out.block _ (by omega) (by unfold At; omega), HKB.out.block _ (by simp) (by unfold At; omega)]
    exact g1
  have g0 : (w.alloc (.cells #[.string ⟨#[]⟩, .slice none 0 0] 29)).heap[w.heap.size]? = some (.cells #[.string ⟨#[]⟩, .slice none 0 0] 29 (0, 0)) := heap_alloc_new _ _
  have g4 : w3.heap[w.heap.size]? = some (.cells #[.string ⟨#[]⟩, .slice none 0 0] 29 (0, 0)) := by
    rw [HKC.out.block _ (by omega) (by unfold At; omega), HKB.out.block _ (by simp; omega) (by unfold At; omega), heap_alloc_old _ _ (by omega), HKA.out.block _ (by simp) (by unfold At; omega)]
    exact g0
  have HK3 := Lib.hid (((HK1.out.alloc _).trans HKB.out).trans HKC.out)
  have G3 := Lib.hid g3
  have G4 := Lib.hid g4
  clear g1 g3 g0 g4
  have hw13 : w1.heap.size < w3.heap.size := by omega
  go_loopw [5] (fun i wr => ∃ (n m : Nat) (v : Value) (cols : List Col), n + m = tot + 1 ∧ i = .int .i64 m ∧ cols.length = n ∧ (∀ i c, cols[i]? = some c → anyCol key i c) ∧ wr.heap[w1.heap.size]? = some (.cells #[.string (nameAt ni), v] 29 (0, 0)) ∧
      wr.heap[w.heap.size]? = some (.cells #[.string ⟨#[]⟩, .slice none 0 0] 29 (0, 0)) ∧ RowsG (w1.heap.size + 1) wr 35 4 ColRR v cols ∧ TapeOk T wr ∧ Keep (At T) w wr) (fun i _ => (intOf i).toNat)
  case atStart => exact ⟨0, tot + 1, .slice none 0 0, [], by omega, by go_num, rfl, by simp, G3.out, G4.out, RowsG.nil .., HT3.out, HK3.out⟩
  case round =>
    obtain ⟨n, m, v, cols, hnm, rfl, hlen, hall, hS, hR, hown, htp, hkp⟩ := hrel
    obtain ⟨ca, cc, rfl, hcm⟩ := hown.shape
    obtain ⟨s0, s1, sf0, sf1, sz⟩ := blk2 hS
    obtain ⟨q0, q1, qf0, qf1, qz⟩ := blk2 hR
    have hidx : (n * 3 + key) % 8 < 8 := Nat.mod_lt _ (by omega)
    have hnm' := (HN.out.at hkp).2 _ hidx
    by_cases hm : 1 ≤ m
    · obtain ⟨m', rfl⟩ : ∃ m', m = m' + 1 := ⟨m - 1, by omega⟩
      have hn4 : n ≤ 4 := by omega
      subst hlen
      have HTR := Lib.hid htp
      have HKR := Lib.hid hkp
      have HOW := Lib.hid hown
      have HALL := Lib.hid hall
      have HS := Lib.hid hS
      have HR := Lib.hid hR
      have hTw3 : T ≠ w1.heap.size := by omega
      clear htp hkp hown hall hS hR
      have e1 : IntKind.i64.wrap ((cols.length : Int) * 3) = (cols.length : Int) * 3 := IntWalk.i64_in _ (by omega)
      have e2 : IntKind.i64.wrap ((cols.length : Int) * 3 + (key : Int)) = (cols.length : Int) * 3 + (key : Int) := IntWalk.i64_in _ (by omega)
      have e3 : ((cols.length : Int) * 3 + (key : Int)).tmod 8 = (((cols.length * 3 + key) % 8 : Nat) : Int) := by rw [Int.tmod_eq_emod_of_nonneg (by omega)]; omega
      have e4 : (0 : Int) ≤ (((cols.length * 3 + key) % 8 : Nat) : Int) := by omega
      have e5 : (((cols.length * 3 + key) % 8 : Nat) : Int) < 8 := by omega
      have HIDX : ∃ idx, Hid ((cols.length * 3 + key) % 8 = idx) := ⟨_, Lib.hid rfl⟩
      obtain ⟨idx, HIDX⟩ := HIDX
      rw [HIDX.out] at hidx hnm' e3 e4 e5
      have E1 := Lib.hid e1
      have E2 := Lib.hid e2
      have E3 := Lib.hid e3
      clear e1 e2 e3
      have nT : wr.heap.size ≠ T := by omega
      have nmT : 0 ≠ T := Nat.ne_of_lt HN.out.1
      have S1D : Hid (wr.drew.cell? ⟨w1.heap.size, 1, none⟩ = some (.slice ca cols.length cc)) := s1
      have S1A : Hid (∀ o, (wr.alloc o).drew.cell? ⟨w1.heap.size, 1, none⟩ = some (.slice ca cols.length cc)) := fun o => (World.cell?_alloc_lt wr o ⟨w1.heap.size, 1, none⟩ sz).trans s1
      have N1D : Hid (wr.drew.cell? ⟨0, idx, none⟩ = some (.string (nameAt idx))) := hnm'
      have N1A : Hid (∀ o, (wr.alloc o).drew.cell? ⟨0, idx, none⟩ = some (.string (nameAt idx))) := fun o => (World.cell?_alloc_lt wr o ⟨0, idx, none⟩ (World.block_lt_of_cell? _ _ hnm')).trans hnm'
      go_wp2_with fail
      go_cut [6] (fun c wx => ∃ (g : Nat) (ty : Int) (nn : Bool), c = .pointer (some ⟨g, 0, none⟩) ∧ wr.heap.size ≤ g ∧ wx.heap[g]? = some (.cells #[.string (nameAt idx), .int .i64 ty, .bool nn, .bool false] 35 (0, 0)) ∧ 1 ≤ ty ∧ ty ≤ 3 ∧ TapeOk T wx ∧ Keep (At T) wr wx)
      case first =>
        have e1 := E1.out
        have e2 := E2.out
        have e3 := E3.out
        go_region_held3 (fun w' => w'.cell? ⟨w1.heap.size, 1, none⟩ = some (.slice ca cols.length cc) ∧ w'.cell? ⟨0, idx, none⟩ = some (.string (nameAt idx)))
          (first | (go_split_ands; first | with_reducible exact ⟨s16, n6⟩ | with_reducible exact ⟨s15, n5⟩ | with_reducible exact ⟨S6A.out _, N6A.out _⟩ | with_reducible exact ⟨S5A.out _, N5A.out _⟩ | with_reducible exact ⟨S1A.out _, N1A.out _⟩) | (go_split_ands; refine ⟨?_, ?_⟩; (rw [set_far, set_far, set_far, set_far] <;> first | with_reducible exact s16 | with_reducible exact S6A.out _ | omega); (rw [set_far, set_far, set_far, set_far] <;> first | with_reducible exact n6 | with_reducible exact N6A.out _ | omega)) | go_keep)
          (first
            | (go_at_call 21; refine (next_any T 3 _ (by omega) (by omega) (by first | with_reducible exact HTR.out.drew | with_reducible exact (HTR.out.alloc _).drew)).mono ?_; rintro e w5 ⟨vv, rfl, ⟨ty, rfl, hty0, hty1⟩, ht5, hk5⟩; have s15 := kcell1 hk5 (b := w1.heap.size) (o := 1) (by first | with_reducible exact S1D.out | with_reducible exact S1A.out _) (fun h => hTw3 h.symm); have n5 := kcell1 hk5 (b := 0) (o := idx) (by first | with_reducible exact N1D.out | with_reducible exact N1A.out _) nmT; have s15A := fun o => (World.cell?_alloc_lt w5 o _ (World.block_lt_of_cell? _ _ s15)).trans s15; have n5A := fun o => (World.cell?_alloc_lt w5 o _ (World.block_lt_of_cell? _ _ n5)).trans n5; have S5A := Lib.hid s15A; have N5A := Lib.hid n5A; have z5 := hk5.size; obtain ⟨kc5, kf5⟩ := kcell hk5; (try simp only [World.size_alloc, World.size_drew] at kc5 kf5); (try simp at z5); have z5' : wr.heap.size ≤ w5.heap.size := (by omega); have n5T : w5.heap.size ≠ T := (by omega); (try (have z5b : wr.heap.size < w5.heap.size := (by omega))); have e6 : IntKind.i64.wrap (1 + ty) = 1 + ty := IntWalk.i64_in _ (by omega); have HT5 := Lib.hid ht5; have HK5 := Lib.hid hk5; clear ht5 hk5 s15A n5A)
            | (go_at_call 62; refine (bool_any T 3 _ (by omega) (by omega) (by first | with_reducible exact HT5.out | with_reducible exact HT5.out.alloc _)).mono ?_; rintro e w6 ⟨vv, rfl, ⟨nn, rfl⟩, ht6, hk6⟩; have s16 := kcell1 hk6 (b := w1.heap.size) (o := 1) (by first | with_reducible exact s15 | with_reducible exact S5A.out _) (fun h => hTw3 h.symm); have n6 := kcell1 hk6 (b := 0) (o := idx) (by first | with_reducible exact n5 | with_reducible exact N5A.out _) nmT; have s16A := fun o => (World.cell?_alloc_lt w6 o _ (World.block_lt_of_cell? _ _ s16)).trans s16; have n6A := fun o => (World.cell?_alloc_lt w6 o _ (World.block_lt_of_cell? _ _ n6)).trans n6; have S6A := Lib.hid s16A; have N6A := Lib.hid n6A; have z6 := hk6.size; obtain ⟨kc6, kf6⟩ := kcell hk6; (try simp only [World.size_alloc] at kc6 kf6); (try simp at z6); have z6' : w5.heap.size ≤ w6.heap.size := (by omega); have n6T : w6.heap.size ≠ T := (by omega); (try (have z6b : w5.heap.size < w6.heap.size := (by omega))); (try (have z6c : wr.heap.size < w6.heap.size := (by omega))); have HT6 := Lib.hid ht6; have HK6 := Lib.hid hk6; clear ht6 hk6 s16A n6A)
            | fail)
        · have hk : Keep (At T) wr (w6.alloc (.cells #[.string (nameAt idx), .int .i64 (1 + ty), .bool nn, .bool false] 35)) := (((Keep.refl (At T) wr).drew.trans HK5.out).trans HK6.out).alloc _
          have HKK := Lib.hid hk
          clear hk
          go_wp2_with fail
          go_meet
          exact ⟨w6.heap.size, 1 + ty, nn, rfl, by omega, heap_alloc_new _ _, by omega, by omega, HT6.out.alloc _, HKK.out⟩
        · have hb : w6.heap[w5.heap.size]? = some (.cells #[.string ⟨#[]⟩, .int .i64 0, .bool false, .bool false] 35 (0, 0)) := (HK6.out.block _ (by simp) (fun h => n5T h)).trans (heap_alloc_new _ _)
          have hk : Keep (At T) wr w6 := (((Keep.refl (At T) wr).drew.trans HK5.out).alloc _).trans HK6.out
          have HKK := Lib.hid hk
          have HBB := Lib.hid hb
          clear hk hb
          go_wp2_with fail
          go_meet
          exact ⟨w5.heap.size, 1 + ty, nn, rfl, by omega, blk4_set HBB.out, by omega, by omega, tape_set4 HT6.out (by omega), keep_set4 HKK.out (by omega)⟩
        · have hb0 : ((wr.alloc (.cells #[.string ⟨#[]⟩, .int .i64 0, .bool false, .bool false] 35)).drew).heap[wr.heap.size]? = some (.cells #[.string ⟨#[]⟩, .int .i64 0, .bool false, .bool false] 35 (0, 0)) := heap_alloc_new _ _
          have hb : w6.heap[wr.heap.size]? = some (.cells #[.string ⟨#[]⟩, .int .i64 0, .bool false, .bool false] 35 (0, 0)) := (HK6.out.block _ (by omega) (fun h => nT h)).trans ((HK5.out.block _ (by simp) (fun h => nT h)).trans hb0)
          have hk : Keep (At T) wr w6 := ((((Keep.refl (At T) wr).alloc _).drew).trans HK5.out).trans HK6.out
          have HKK := Lib.hid hk
          have HBB := Lib.hid hb
          clear hk hb hb0
          go_wp2_with fail
          go_meet
          exact ⟨wr.heap.size, 1 + ty, nn, rfl, by omega, blk4_set HBB.out, by omega, by omega, tape_set4 HT6.out (by omega), keep_set4 HKK.out (by omega)⟩
      case rest =>
        obtain ⟨g, ty, nn, rfl, hg, hc, hty1, hty3, htc, hkc⟩ := hcut
        obtain ⟨d0, d1, d2, d3, df2, df3, dz⟩ := blk4 hc
        have hS' : wc.heap[w1.heap.size]? = some (.cells #[.string (nameAt ni), .slice ca cols.length cc] 29 (0, 0)) := (hkc.block _ sz (fun h => hTw3 h.symm)).trans HS.out
        have hR' : wc.heap[w.heap.size]? = some (.cells #[.string ⟨#[]⟩, .slice none 0 0] 29 (0, 0)) := (hkc.block _ qz (fun h => by unfold At at h; omega)).trans HR.out
        obtain ⟨s0', s1', sf0', sf1', sz'⟩ := blk2 hS'
        have hG' := HOW.out.keep colStable hkc fun k h1 _ h => by unfold At at h; omega
        have hown : ∀ k, OwnB (.slice ca cols.length cc) k → w1.heap.size + 1 ≤ k ∧ k < wr.heap.size := fun k h => RowsO.lt HOW.out h
        have hK' := HKR.out.trans hkc
        have hgS : g ≠ w1.heap.size := by omega
        have hgT : g ≠ T := by omega
        have HG := Lib.hid hG'
        have HK := Lib.hid hK'
        have HT := Lib.hid htc
        have HSS := Lib.hid hS'
        have HRR := Lib.hid hR'
        have HO := Lib.hid hown
        have z1 := hkc.size
        have hrS : w.heap.size < w1.heap.size := by omega
        have hcl : (cols.length + 1) * 32 ≤ 140737488355328 := by omega
        have hcm2 : cols.length + 1 ≤ maxLen := by unfold maxLen; omega
        have HCL := Lib.hid hcl
        clear hc hG' hK' htc hS' hR' hown hkc hcl s0 s1 sf0 sf1 q0 q1 qf0 qf1 hnm' E1 E2 E3 S1D S1A N1D N1A
        by_cases hkey : key = cols.length
        · obtain ⟨hS2, hR2, hG2, ht2, hk2⟩ := two_sets (u1 := .bool true) (u2 := .bool true) (by omega : w1.heap.size < g) hT1 hrS (Nat.le_of_lt hrS) HO.out hg HSS.out HRR.out HG.out HT.out HK.out
          have HSS := Lib.hid hS2
          have HRR := Lib.hid hR2
          have HG := Lib.hid hG2
          have HT := Lib.hid ht2
          have HK := Lib.hid hk2
          have HKEY := Lib.hid hkey
          have bk : ((key : Int) == (cols.length : Int)) = true := by simp; omega
          obtain ⟨_, s1', _, sf1', sz'⟩ := blk2 hS2
          clear hS2 hR2 hG2 ht2 hk2 hkey
          go_wp2_with (at_builtin; refine wpList_appG (w := (wc.setCell ⟨g, 3, none⟩ (.bool true)).setCell ⟨g, 2, none⟩ (.bool true)) colStable rfl _ _ 27 rfl 35 _ 4 32 Tryd.underlying27 infoCol rfl (by decide) (w1.heap.size + 1) (.slice ca cols.length cc) wc.heap.size (#[.string (nameAt idx), .int .i64 ty, .bool true, .bool true]) cols ⟨nameAt idx, ty, true, true⟩ rfl rfl (by simp) HG.out rfl rfl HCL.out hcm2 (by simp; omega) ?_; intro v' w' ho hk; obtain ⟨a', p', rfl, _⟩ := ho.shape; obtain ⟨hs9, hr9, ht9, hk9⟩ := after_app (T := T) (S := w1.heap.size) (r := w.heap.size) (w0 := w) hk (fun k h => (HO.out k h).1) hT1 hrS (Nat.le_of_lt hrS) HSS.out HRR.out HT.out HK.out; obtain ⟨_, t1, _, tf1, tz⟩ := blk2 hs9; have HG9 := Lib.hid ho; have HT9 := Lib.hid ht9; have HK9 := Lib.hid hk9; have HS9 := Lib.hid hs9; have HR9 := Lib.hid hr9; clear ho hk hs9 hr9 ht9 hk9)
          go_roundw
          case rel => exact end_app (nn := true) (kk := true) hT1 hrS (Nat.le_of_lt hrS) hnm HIDX.out hty1 hty3 (by rw [HKEY.out]; simp) (fun _ => rfl) HALL.out HS9.out HR9.out (by have h := HG9.out; rw [List.length_append] at h; exact h) HT9.out HK9.out
          case measure => simp [intOf]
        · have bk : ((key : Int) == (cols.length : Int)) = false := by simp; omega
          go_wp2_with (at_builtin; refine wpList_appG (w := wc) colStable rfl _ _ 27 rfl 35 _ 4 32 Tryd.underlying27 infoCol rfl (by decide) (w1.heap.size + 1) (.slice ca cols.length cc) wc.heap.size (#[.string (nameAt idx), .int .i64 ty, .bool nn, .bool false]) cols ⟨nameAt idx, ty, nn, false⟩ rfl rfl rfl HG.out rfl rfl HCL.out hcm2 (by omega) ?_; intro v' w' ho hk; obtain ⟨a', p', rfl, _⟩ := ho.shape; obtain ⟨hs9, hr9, ht9, hk9⟩ := after_app (T := T) (S := w1.heap.size) (r := w.heap.size) (w0 := w) hk (fun k h => (HO.out k h).1) hT1 hrS (Nat.le_of_lt hrS) HSS.out HRR.out HT.out HK.out; obtain ⟨_, t1, _, tf1, tz⟩ := blk2 hs9; have HG9 := Lib.hid ho; have HT9 := Lib.hid ht9; have HK9 := Lib.hid hk9; have HS9 := Lib.hid hs9; have HR9 := Lib.hid hr9; clear ho hk hs9 hr9 ht9 hk9)
          go_roundw
          case rel => exact end_app (nn := nn) (kk := false) hT1 hrS (Nat.le_of_lt hrS) hnm HIDX.out hty1 hty3 (by simp [hkey]) (by simp) HALL.out HS9.out HR9.out (by have h := HG9.out; rw [List.length_append] at h; exact h) HT9.out HK9.out
          case measure => simp [intOf]
    · obtain rfl : m = 0 := by omega
      subst hlen
      have r0a : (wr.setCell ⟨w.heap.size, 0, none⟩ (.string (nameAt ni))).cell? ⟨w.heap.size, 0, none⟩ = some (.string (nameAt ni)) := World.cell?_setCell_same _ _ _ q0
      have R0A := Lib.hid r0a
      clear r0a
      have hrS : w.heap.size < w1.heap.size := by omega
      have ks : Keep (At w.heap.size) wr ((wr.setCell ⟨w.heap.size, 0, none⟩ (.string (nameAt ni))).setCell ⟨w.heap.size, 1, none⟩ (.slice ca cols.length cc)) := ((Keep.refl (At w.heap.size) wr).setCell (p := ⟨w.heap.size, 0, none⟩) (fun _ => rfl) _).setCell (p := ⟨w.heap.size, 1, none⟩) (fun _ => rfl) _
      have hkw : Keep (At T) w ((wr.setCell ⟨w.heap.size, 0, none⟩ (.string (nameAt ni))).setCell ⟨w.heap.size, 1, none⟩ (.slice ca cols.length cc)) := (hkp.setCell (p := ⟨w.heap.size, 0, none⟩) (fun h => absurd h (Nat.lt_irrefl _)) _).setCell (p := ⟨w.heap.size, 1, none⟩) (fun h => absurd h (Nat.lt_irrefl _)) _
      have htw : TapeOk T ((wr.setCell ⟨w.heap.size, 0, none⟩ (.string (nameAt ni))).setCell ⟨w.heap.size, 1, none⟩ (.slice ca cols.length cc)) := htp.keep ks fun k h1 h => by unfold At at h; omega
      have hcols : ColsR (Out w.heap.size ((wr.setCell ⟨w.heap.size, 0, none⟩ (.string (nameAt ni))).setCell ⟨w.heap.size, 1, none⟩ (.slice ca cols.length cc)).heap.size) ((wr.setCell ⟨w.heap.size, 0, none⟩ (.string (nameAt ni))).setCell ⟨w.heap.size, 1, none⟩ (.slice ca cols.length cc)) (.slice ca cols.length cc) cols :=
        RowsR.weak ((hown.keep colStable ks fun k h1 _ h => by unfold At at h; omega).rows colStable) (fun k hk h => by unfold Out at h; unfold Old; omega) fun _ _ _ h => h
      have hr2 := blk2_set (blk2_set0 (a' := .string (nameAt ni)) hR) (v := .slice ca cols.length cc)
      obtain ⟨_, r1, _, _, _⟩ := blk2 hr2
      have R1 := Lib.hid r1
      have HKW := Lib.hid hkw
      have HTW := Lib.hid htw
      have HCC := Lib.hid hcols
      have HALL := Lib.hid hall
      have hn1 : 1 ≤ cols.length := by omega
      have hn5 : cols.length ≤ 5 := by omega
      clear hkp htp hown hall hnm' ks hkw htw hcols hr2 r1
      go_wp2_with fail
      have r1 := R1.out
      have r0a := R0A.out
      refine bodyPost_ret (v := .agg #[.string (nameAt ni), .slice ca cols.length cc]) (by simp [results, Tryd.results16, go_sem, r0a, r1]) rfl ?_
      exact ⟨_, rfl, ⟨⟨nameAt ni, cols⟩, _, rfl, ⟨⟨ni, hni, rfl⟩, hn1, hn5, key, by omega, HALL.out⟩, HCC.out⟩, HTW.out, HKW.out⟩

end Go.Proofs.YtiheioajnfggmaaDoor
