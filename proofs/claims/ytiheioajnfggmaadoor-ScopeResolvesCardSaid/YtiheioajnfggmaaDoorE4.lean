/- The walk of ScopeResolves. -/
import Derived.Test.YtiheioajnfggmaaDoorE3
namespace Go.Proofs.YtiheioajnfggmaaDoor
open Go.RowKit

def rI : Option (Nat × Nat) → Int | some (i, _) => i | none => 0
def rK : Option (Nat × Nat) → Int | some (_, k) => k | none => 0
def rB : Option (Nat × Nat) → Bool | some _ => true | none => false
theorem resV_eq (r : Option (Nat × Nat)) : resV r = .tuple #[.int .i64 (rI r), .int .i64 (rK r), .bool (rB r)] := by
  rcases r with _ | ⟨i, k⟩ <;> rfl

def sN : Option Sch → ByteArray | some s => s.name | none => ⟨#[]⟩
def sC : Option Sch → List Col | some s => s.cols | none => []
def sB : Option Sch → Bool | some _ => true | none => false
/-- What both programs' Source leave, found or not. -/
def SrcU (n : ByteArray) (l : List Col) (b : Bool) (w : World) (e : Ending) (w' : World) : Prop := ∃ vc, e = .returned (.tuple #[.agg #[.string n, vc], .bool b]) ∧ ColsR NoM w' vc l ∧ Below w.heap.size w w'
theorem srcU {r : Option Sch} {w : World} {e : Ending} {w' : World} (h : SrcPost r w e w') : SrcU (sN r) (sC r) (sB r) w e w' := by
  cases r with
  | none => exact ⟨_, h.1, RowsR.nil .., h.2⟩
  | some s => obtain ⟨vc, h1, h2, h3⟩ := h; exact ⟨vc, h1, h2.weak fun _ _ h => h.elim, h3⟩

set_option maxRecDepth 100000 in
set_option maxHeartbeats 4000000 in
theorem resolves_any (vr vt v : Value) (q n : ByteArray) (tt fr : Int) (w : World) (lr : List Frm) (lt : List Sch) (hr : FrmsR NoM w vr lr) (ht : TblsR NoM w vt lt) (hsm : ColsSmall lt) (hv : IntsAt w v) (hn : NamesOk w.heap.size w) :
    Calls Tryd.prog 5 #[vr, vt, .string q, .string n, .int .i64 tt, .int .i64 fr, v] w (RetBel (.bool true) w) := by
  have HV := Lib.hid hv
  have HN := Lib.hid hn
  have HS := Lib.hid hsm
  obtain ⟨ra, rc, rfl, _⟩ := hr.shape
  obtain ⟨ta, tc, rfl, _⟩ := ht.shape
  have HR := Lib.hid hr
  have HT := Lib.hid ht
  clear hv hn hsm hr ht
  go_enter Tryd.func5, Tryd.ntmps5
  go_wp2_with (first
    | (go_at_call 14; go_loud (refine (new_any v w HV.out).mono ?_; rintro e w1 ⟨rfl, ht, hb⟩; have h1 := ht.lt; have HT1 := Lib.hid ht; have HB1 := Lib.hid hb; have HN1 := Lib.hid (HN.out.keep (M := fun _ => False) (.bel hb) fun _ _ => id); clear ht hb))
    | (go_at_call 15; go_loud (refine (frames_any w.heap.size w1 HT1.out).mono ?_; rintro e w2 ⟨v2, rfl, ⟨r, b1, b2, hr0, hr1, hf⟩, ht, hk⟩; have h2 := hk.size; have HT2 := Lib.hid ht; have HN2 := Lib.hid (HN1.out.at hk); have HB2 := Lib.hid (tape_below HB1.out (Nat.le_of_lt h1) hk); generalize framesL r b1 b2 = L at hf; obtain ⟨a2, c2, rfl, _⟩ := hf.shape; have HF2 := Lib.hid (hf.weak (M' := At w.heap.size) fun k hk h => by unfold At at h; unfold Out; omega); clear ht hk hf hr0 hr1))
    | (go_at_call 20; go_loud (refine (tables_any w.heap.size w2 HT2.out).mono ?_; rintro e w3 ⟨v3, rfl, ⟨l, hl, htb⟩, ht, hk⟩; have h3 := hk.size; have HT3 := Lib.hid ht; have HN3 := Lib.hid (HN2.out.at hk); have HB3 := Lib.hid (tape_below HB2.out (by omega) hk); have HF3 := Lib.hid (HF2.out.keep hk); have HL := Lib.hid (tsOk_small hl); obtain ⟨a3, c3, rfl, _⟩ := htb.shape; have HTB3 := Lib.hid (htb.weak (M' := At w.heap.size) fun k hk h => by unfold At at h; unfold Out; omega); clear ht hk htb hl)))
  have hT3 : w.heap.size < w3.heap.size := by omega
  generalize hW : w3.alloc _ = W0
  have gz : w3.heap.size < W0.heap.size := by rw [← hW]; simp
  have gk : Keep (At w.heap.size) w3 W0 := by rw [← hW]; exact (Keep.refl _ _).alloc _
  have gc : ∀ j, j < 6 → ∃ s, W0.cell? ⟨w3.heap.size, j, none⟩ = some (.string s) := by
    rw [← hW]
    intro j hj
    match j, hj with
    | 0, _ => exact ⟨_, by simp; rfl⟩
    | 1, _ => exact ⟨_, by simp; rfl⟩
    | 2, _ => exact ⟨_, by simp; rfl⟩
    | 3, _ => exact ⟨_, by simp; rfl⟩
    | 4, _ => exact ⟨_, by simp; rfl⟩
    | 5, _ => exact ⟨_, by simp; rfl⟩
  have ht0 : TapeOk w.heap.size W0 := by rw [← hW]; exact HT3.out.alloc _
  clear hW
  have GC := Lib.hid gc
  have HT0 := Lib.hid ht0
  have HB0 : Hid (∀ wi, Keep (At w.heap.size) W0 wi → Below w.heap.size w wi) := Lib.hid fun wi k => tape_below HB3.out (Nat.le_of_lt hT3) (gk.trans k)
  have hold : ∀ {wi}, Keep (At w.heap.size) W0 wi → Keep (At w.heap.size) w wi := fun k => .of_below (HB0.out _ k) fun k h1 h2 => absurd h1 (by omega)
  have HN0 : Hid (∀ wi, Keep (At w.heap.size) W0 wi → NamesOk w.heap.size wi) := Lib.hid fun wi k => HN3.out.at (gk.trans k)
  have HF0 : Hid (∀ wi, Keep (At w.heap.size) W0 wi → FrmsR (At w.heap.size) wi (.slice a2 L.length c2) L) := Lib.hid fun wi k => HF3.out.keep (gk.trans k)
  have HTB0 : Hid (∀ wi, Keep (At w.heap.size) W0 wi → TblsR NoM wi (.slice a3 l.length c3) l) := Lib.hid fun wi k => (HTB3.out.keep (gk.trans k)).weak fun _ _ h => h.elim
  have HR0 : Hid (∀ wi, Keep (At w.heap.size) W0 wi → FrmsR (At w.heap.size) wi (.slice ra lr.length rc) lr) := Lib.hid fun wi k => (HR.out.weak (M' := At w.heap.size) fun k h1 h2 => by unfold At at h2; omega).keep (hold k)
  have HRT0 : Hid (∀ wi, Keep (At w.heap.size) W0 wi → TblsR NoM wi (.slice ta lt.length tc) lt) := Lib.hid fun wi k => ((HT.out.weak (M' := At w.heap.size) fun k h1 h2 => by unfold At at h2; omega).keep (hold k)).weak fun _ _ h => h.elim
  clear gc gk ht0 hold HT3 HB3 HN3 HF3 HTB3 HT2 HB2 HN2 HF2 HT1 HB1 HN1 HR HT HN HV
  have hTz : w.heap.size < W0.heap.size := by omega
  have hlz : w3.heap.size ≠ w.heap.size := by omega
  clear h1 h2 h3 hT3
  generalize w3.heap.size = g at gz GC hlz ⊢
  go_loopw [51] (fun i wr => ∃ j : Nat, j ≤ 6 ∧ i = .int .i64 j ∧ TapeOk w.heap.size wr ∧ Keep (At w.heap.size) W0 wr) (fun i _ => 6 - (intOf i).toNat)
  case atStart => exact ⟨0, by omega, rfl, HT0.out, Keep.refl _ _⟩
  case round =>
    obtain ⟨wo, rfl⟩ : ∃ wo : World, wo = wr := ⟨_, rfl⟩
    obtain ⟨j, hj, rfl, ht, hk⟩ := hrel
    by_cases hlt : j < 6
    · obtain ⟨x, hx⟩ := GC.out j hlt
      have c0 : wo.cell? ⟨g, j, none⟩ = some (.string x) := (hk.cell gz hlz).trans hx
      have zo := hk.size
      have HTo := Lib.hid ht
      have HKo := Lib.hid hk
      clear hx ht hk
      go_wp2_with fail
      refine (name_any w.heap.size wo HTo.out (HN0.out _ HKo.out)).mono ?_
      rintro e w5 ⟨v, rfl, ⟨i, hi, rfl⟩, ht, hk⟩
      have z5 := hk.size
      have HT5 := Lib.hid ht
      have HK5 := Lib.hid (HKo.out.trans hk)
      clear ht hk
      dsimp only
      go_wp2_with fail
      generalize hW : w5.alloc _ = W5
      have gz5 : w5.heap.size < W5.heap.size := by rw [← hW]; simp
      have gk5 : Keep (At w.heap.size) w5 W5 := by rw [← hW]; exact (Keep.refl _ _).alloc _
      have gc5 : ∀ j, j < 4 → ∃ s, W5.cell? ⟨w5.heap.size, j, none⟩ = some (.string s) := by
        rw [← hW]
        intro j hj
        match j, hj with
        | 0, _ => exact ⟨_, by simp; rfl⟩
        | 1, _ => exact ⟨_, by simp; rfl⟩
        | 2, _ => exact ⟨_, by simp; rfl⟩
        | 3, _ => exact ⟨_, by simp; rfl⟩
      have ht5 : TapeOk w.heap.size W5 := by rw [← hW]; exact HT5.out.alloc _
      clear hW
      have GC5 := Lib.hid gc5
      have HK6 := Lib.hid (HK5.out.trans gk5)
      have HT6 := Lib.hid ht5
      have hlz5 : w5.heap.size ≠ w.heap.size := by omega
      clear gc5 gk5 ht5 HT5 HK5 HTo HKo
      generalize w5.heap.size = g5 at gz5 GC5 hlz5 ⊢
      have tj : True := trivial
      go_loopw [60] (fun i wr => ∃ k : Nat, k ≤ 4 ∧ i = .int .i64 k ∧ TapeOk w.heap.size wr ∧ Keep (At w.heap.size) W5 wr) (fun i _ => 4 - (intOf i).toNat)
      case atStart => exact ⟨0, by omega, rfl, HT6.out, Keep.refl _ _⟩
      case round =>
        rename World => wi
        obtain ⟨k, hk, rfl, ht, hkk⟩ := hrel
        by_cases hlt4 : k < 4
        · obtain ⟨y, hy⟩ := GC5.out k hlt4
          have c1 : wi.cell? ⟨g5, k, none⟩ = some (.string y) := (hkk.cell gz5 hlz5).trans hy
          have HTi := Lib.hid ht
          have HKi := Lib.hid hkk
          have HKW := Lib.hid (HK6.out.trans hkk)
          have hA1 := fun (wx : World) (k : Keep (At w.heap.size) W0 wx) => resolve_any _ L x y wx (HF0.out wx k)
          have hA2 := fun (wx : World) (k : Keep (At w.heap.size) W0 wx) => rresolve_any _ L x y wx (HF0.out wx k)
          have hB1 := fun (wx : World) (k : Keep (At w.heap.size) W0 wx) => resolve_any _ lr x y wx (HR0.out wx k)
          have hB2 := fun (wx : World) (k : Keep (At w.heap.size) W0 wx) => rresolve_any _ lr x y wx (HR0.out wx k)
          rw [resV_eq] at hA1 hA2 hB1 hB2
          generalize rI (resolve x y L) = i1, rK (resolve x y L) = k1, rB (resolve x y L) = b1 at hA1 hA2
          generalize rI (resolve x y lr) = i2, rK (resolve x y lr) = k2, rB (resolve x y lr) = b2 at hB1 hB2
          have HA1 := Lib.hid hA1
          have HA2 := Lib.hid hA2
          have HB1 := Lib.hid hB1
          have HB2 := Lib.hid hB2
          clear hy ht hkk hA1 hA2 hB1 hB2
          go_wp2_with fail
          refine (HA1.out _ HKW.out).mono ?_
          rintro e w6 ⟨rfl, hb⟩
          have KA := Lib.hid (HKW.out.below hb)
          have KB := Lib.hid (HKi.out.below hb)
          have TA := Lib.hid (HTi.out.bel hb)
          clear hb HKW HKi HTi
          dsimp only
          go_wp2_with fail
          refine (HA2.out _ KA.out).mono ?_
          rintro e w7 ⟨rfl, hb⟩
          have KA2 := Lib.hid (KA.out.below hb)
          have KB2 := Lib.hid (KB.out.below hb)
          have TA2 := Lib.hid (TA.out.bel hb)
          clear hb KA KB TA
          dsimp only
          go_wp2_with fail
          refine (HB1.out _ KA2.out).mono ?_
          rintro e w8 ⟨rfl, hb⟩
          have KA3 := Lib.hid (KA2.out.below hb)
          have KB3 := Lib.hid (KB2.out.below hb)
          have TA3 := Lib.hid (TA2.out.bel hb)
          clear hb KA2 KB2 TA2
          dsimp only
          go_wp2_with fail
          refine (HB2.out _ KA3.out).mono ?_
          rintro e w9 ⟨rfl, hb⟩
          have KB4 := Lib.hid (KB3.out.below hb)
          have TA4 := Lib.hid (TA3.out.bel hb)
          clear hb KA3 KB3 TA3
          dsimp only
          go_wp2_with fail
          go_roundw
          case rel => exact ⟨k + 1, by omega, by go_num, TA4.out, KB4.out⟩
          case measure => simp [intOf]; omega
        · have HKW := Lib.hid (HK6.out.trans hkk)
          have HTi := Lib.hid ht
          clear ht hkk
          have hA1 := fun (wx : World) (k : Keep (At w.heap.size) W0 wx) => (source_all _ l x wx (HTB0.out wx k) HL.out).mono fun _ _ h => srcU h
          have hA2 := fun (wx : World) (k : Keep (At w.heap.size) W0 wx) => (rsource_any _ l x wx (HTB0.out wx k) HL.out).mono fun _ _ h => srcU h
          have hB1 := fun (wx : World) (k : Keep (At w.heap.size) W0 wx) => (source_all _ lt x wx (HRT0.out wx k) HS.out).mono fun _ _ h => srcU h
          have hB2 := fun (wx : World) (k : Keep (At w.heap.size) W0 wx) => (rsource_any _ lt x wx (HRT0.out wx k) HS.out).mono fun _ _ h => srcU h
          generalize sN (sourceP l x) = n1, sC (sourceP l x) = l1, sB (sourceP l x) = b1 at hA1 hA2
          generalize sN (sourceP lt x) = n2, sC (sourceP lt x) = l2, sB (sourceP lt x) = b2 at hB1 hB2
          have HA1 := Lib.hid hA1
          have HA2 := Lib.hid hA2
          have HB1 := Lib.hid hB1
          have HB2 := Lib.hid hB2
          clear hA1 hA2 hB1 hB2
          go_wp2_with fail
          refine (HA1.out _ HKW.out).mono ?_
          rintro e v1 ⟨vc, rfl, hc, hb⟩
          obtain ⟨sa1, sp1, rfl, _⟩ := hc.shape
          have zb1 := hb.size
          have K1 := Lib.hid (HKW.out.below hb)
          have T1 := Lib.hid (HTi.out.bel hb)
          have C1v := Lib.hid hc
          clear hc hb HKW HTi 
          dsimp only
          go_wp2_with fail
          generalize hW : v1.alloc _ = V1
          have Q1 : Hid (V1.heap[v1.heap.size]? = some (.cells #[.string n1, .slice sa1 l1.length sp1] 29 (0, 0))) := Lib.hid (by rw [← hW]; exact heap_alloc_new v1 _)
          have zq1 : v1.heap.size < V1.heap.size := by rw [← hW]; simp
          have kv1 : Below v1.heap.size v1 V1 := by rw [← hW]; exact (Below.refl _ _).alloc (Nat.le_refl _) _
          clear hW
          have C1 := Lib.hid (ColsR.keep C1v.out (.bel kv1))
          have HK1V := Lib.hid (K1.out.below kv1)
          have HT1V := Lib.hid (T1.out.bel kv1)
          clear kv1 K1 T1 C1v 
          go_wp2_with fail
          refine (HA2.out _ HK1V.out).mono ?_
          rintro e v2 ⟨vc, rfl, hc, hb⟩
          obtain ⟨sa2, sp2, rfl, _⟩ := hc.shape
          have zb2 := hb.size
          have Q1' := Lib.hid ((hb.block _ zq1).trans Q1.out)
          have zq1' := Nat.lt_of_lt_of_le zq1 zb2
          have C1' := Lib.hid (ColsR.keep C1.out (.bel hb))
          have K2 := Lib.hid (HK1V.out.below hb)
          have T2 := Lib.hid (HT1V.out.bel hb)
          have C2v := Lib.hid hc
          clear hc hb HK1V HT1V Q1 zq1 C1
          dsimp only
          go_wp2_with fail
          generalize hW : v2.alloc _ = V2
          have Q2 : Hid (V2.heap[v2.heap.size]? = some (.cells #[.string n1, .slice sa2 l1.length sp2] 29 (0, 0))) := Lib.hid (by rw [← hW]; exact heap_alloc_new v2 _)
          have zq2 : v2.heap.size < V2.heap.size := by rw [← hW]; simp
          have kv2 : Below v2.heap.size v2 V2 := by rw [← hW]; exact (Below.refl _ _).alloc (Nat.le_refl _) _
          clear hW
          have Q1 := Lib.hid ((kv2.block _ zq1').trans Q1'.out)
          have zq1 := Nat.lt_of_lt_of_le zq1' kv2.size
          have C1 := Lib.hid (ColsR.keep C1'.out (.bel kv2))
          have C2 := Lib.hid (ColsR.keep C2v.out (.bel kv2))
          have HK2V := Lib.hid (K2.out.below kv2)
          have HT2V := Lib.hid (T2.out.bel kv2)
          clear kv2 K2 T2 C2v Q1' zq1' C1'
          go_wp2_with fail
          refine (HB1.out _ HK2V.out).mono ?_
          rintro e v3 ⟨vc, rfl, hc, hb⟩
          obtain ⟨sa3, sp3, rfl, _⟩ := hc.shape
          have zb3 := hb.size
          have Q1' := Lib.hid ((hb.block _ zq1).trans Q1.out)
          have zq1' := Nat.lt_of_lt_of_le zq1 zb3
          have C1' := Lib.hid (ColsR.keep C1.out (.bel hb))
          have Q2' := Lib.hid ((hb.block _ zq2).trans Q2.out)
          have zq2' := Nat.lt_of_lt_of_le zq2 zb3
          have C2' := Lib.hid (ColsR.keep C2.out (.bel hb))
          have K3 := Lib.hid (HK2V.out.below hb)
          have T3 := Lib.hid (HT2V.out.bel hb)
          have C3v := Lib.hid hc
          clear hc hb HK2V HT2V Q1 zq1 C1 Q2 zq2 C2
          dsimp only
          go_wp2_with fail
          generalize hW : v3.alloc _ = V3
          have Q3 : Hid (V3.heap[v3.heap.size]? = some (.cells #[.string n2, .slice sa3 l2.length sp3] 29 (0, 0))) := Lib.hid (by rw [← hW]; exact heap_alloc_new v3 _)
          have zq3 : v3.heap.size < V3.heap.size := by rw [← hW]; simp
          have kv3 : Below v3.heap.size v3 V3 := by rw [← hW]; exact (Below.refl _ _).alloc (Nat.le_refl _) _
          clear hW
          have Q1 := Lib.hid ((kv3.block _ zq1').trans Q1'.out)
          have zq1 := Nat.lt_of_lt_of_le zq1' kv3.size
          have C1 := Lib.hid (ColsR.keep C1'.out (.bel kv3))
          have Q2 := Lib.hid ((kv3.block _ zq2').trans Q2'.out)
          have zq2 := Nat.lt_of_lt_of_le zq2' kv3.size
          have C2 := Lib.hid (ColsR.keep C2'.out (.bel kv3))
          have C3 := Lib.hid (ColsR.keep C3v.out (.bel kv3))
          have HK3V := Lib.hid (K3.out.below kv3)
          have HT3V := Lib.hid (T3.out.bel kv3)
          clear kv3 K3 T3 C3v Q1' zq1' C1' Q2' zq2' C2'
          go_wp2_with fail
          refine (HB2.out _ HK3V.out).mono ?_
          rintro e v4 ⟨vc, rfl, hc, hb⟩
          obtain ⟨sa4, sp4, rfl, _⟩ := hc.shape
          have zb4 := hb.size
          have Q1' := Lib.hid ((hb.block _ zq1).trans Q1.out)
          have zq1' := Nat.lt_of_lt_of_le zq1 zb4
          have C1' := Lib.hid (ColsR.keep C1.out (.bel hb))
          have Q2' := Lib.hid ((hb.block _ zq2).trans Q2.out)
          have zq2' := Nat.lt_of_lt_of_le zq2 zb4
          have C2' := Lib.hid (ColsR.keep C2.out (.bel hb))
          have Q3' := Lib.hid ((hb.block _ zq3).trans Q3.out)
          have zq3' := Nat.lt_of_lt_of_le zq3 zb4
          have C3' := Lib.hid (ColsR.keep C3.out (.bel hb))
          have K4 := Lib.hid (HK3V.out.below hb)
          have T4 := Lib.hid (HT3V.out.bel hb)
          have C4v := Lib.hid hc
          clear hc hb HK3V HT3V Q1 zq1 C1 Q2 zq2 C2 Q3 zq3 C3
          dsimp only
          obtain ⟨d10, d11, _, _, _⟩ := blk2 Q1'.out
          obtain ⟨d20, d21, _, _, _⟩ := blk2 Q2'.out
          obtain ⟨d30, d31, _, _, _⟩ := blk2 Q3'.out
          go_wp2_with fail
          refine (same_sch _ _ n1 l1 _ (ColsR.keep C1'.out ((Keep.refl NoM v4).alloc _)) (ColsR.keep C2'.out ((Keep.refl NoM v4).alloc _))).mono ?_
          rintro e x1 ⟨rfl, hb⟩
          have hz1 := hb.size
          have q3 : x1.heap[v3.heap.size]? = some (.cells #[.string n2, .slice sa3 l2.length sp3] 29 (0, 0)) := (hb.block _ (by simp; omega)).trans ((Below.heap_alloc _ _ _ zq3').trans Q3'.out)
          have q4 : x1.heap[v4.heap.size]? = some (.cells #[.string n2, .slice sa4 l2.length sp4] 29 (0, 0)) := (hb.block _ (by simp)).trans (heap_alloc_new v4 _)
          have C3x := Lib.hid (ColsR.keep C3'.out (((Keep.refl NoM v4).alloc _).below hb))
          have C4x := Lib.hid (ColsR.keep C4v.out (((Keep.refl NoM v4).alloc _).below hb))
          have Kx := Lib.hid ((K4.out.alloc (.cells #[.string n2, .slice sa4 l2.length sp4] 29)).below hb)
          have Tx := Lib.hid ((T4.out.alloc (.cells #[.string n2, .slice sa4 l2.length sp4] 29)).bel hb)
          clear d10 d11 d20 d21 d30 d31 K4 T4 C1' C2' C3' C4v Q1' Q2' Q3'
          obtain ⟨d30, d31, _, _, _⟩ := blk2 q3
          obtain ⟨d40, d41, _, _, _⟩ := blk2 q4
          clear q3 q4 hb
          dsimp only
          go_wp2_with fail
          refine (same_sch _ _ n2 l2 _ C3x.out C4x.out).mono ?_
          rintro e x2 ⟨rfl, hb⟩
          have Ky := Lib.hid (Kx.out.below hb)
          have Ty := Lib.hid (Tx.out.bel hb)
          clear d30 d31 d40 d41 hb Kx Tx C3x C4x hz1
          dsimp only
          go_wp2_with fail
          go_roundw
          case rel => exact ⟨j + 1, by omega, by go_num, Ty.out, Ky.out⟩
          case measure => simp [intOf]; omega
    · have HBx := Lib.hid (HB0.out _ hk)
      have zx := HBx.out.size
      obtain ⟨t4, h4⟩ : ∃ t4, tt % 4 = t4 := ⟨_, rfl⟩
      obtain ⟨f4, h5⟩ : ∃ f4, fr % 4 = f4 := ⟨_, rfl⟩
      have hm1 := fun wx => mod_any tt 4 wx (by omega) (by omega)
      have hm2 := fun wx => mod_any fr 4 wx (by omega) (by omega)
      rw [h4] at hm1
      rw [h5] at hm2
      have HM1 := Lib.hid hm1
      have HM2 := Lib.hid hm2
      clear ht hk h4 h5 hm1 hm2
      go_wp2_with fail
      refine (assign_gen tt fr _).mono ?_
      rintro e w1 ⟨rfl, rfl⟩
      dsimp only
      go_wp2_with fail
      refine (rassign_any tt fr _).mono ?_
      rintro e w1 ⟨rfl, rfl⟩
      dsimp only
      go_wp2_with fail
      refine (HM1.out _).mono ?_
      rintro e w1 ⟨rfl, rfl⟩
      dsimp only
      go_wp2_with fail
      refine (HM2.out _).mono ?_
      rintro e w1 ⟨rfl, rfl⟩
      dsimp only
      go_wp2_with fail
      refine (assign_gen t4 f4 _).mono ?_
      rintro e w1 ⟨rfl, rfl⟩
      dsimp only
      go_wp2_with fail
      refine (HM1.out _).mono ?_
      rintro e w1 ⟨rfl, rfl⟩
      dsimp only
      go_wp2_with fail
      refine (HM2.out _).mono ?_
      rintro e w1 ⟨rfl, rfl⟩
      dsimp only
      go_wp2_with fail
      refine (rassign_any t4 f4 _).mono ?_
      rintro e w1 ⟨rfl, rfl⟩
      dsimp only
      go_wp2_with fail
      refine (known14_any _).mono ?_
      rintro e w9 ⟨rfl, hb⟩
      have HB9 := Lib.hid (HBx.out.trans (hb.mono zx))
      clear hb
      dsimp only
      go_wp2_with fail
      go_ret
      exact ⟨rfl, HB9.out⟩

end Go.Proofs.YtiheioajnfggmaaDoor
