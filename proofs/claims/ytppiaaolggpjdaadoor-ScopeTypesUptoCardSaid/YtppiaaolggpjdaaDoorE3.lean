/- The reference's Source, and Source for every table and name: their contracts. -/
import Derived.Test.YtppiaaolggpjdaaDoorE2
import Derived.Test.YtppiaaolggpjdaaDoorKC4
import Derived.Test.YtppiaaolggpjdaaDoorKC3
import Derived.Test.YtppiaaolggpjdaaDoorKD1
namespace Go.Proofs.YtppiaaolggpjdaaDoor
open Go.RowKit

theorem source_all (vt : Value) (l : List Sch) (n : ByteArray) (w : World) (ht : TblsR NoM w vt l) (hN : ColsSmall l) : Calls Tryd.prog 120 #[vt, .string n] w (SrcPost (sourceP l n) w) := by
  rw [sourceP_eq]
  cases h : findTbl l n with
  | none => exact source_none vt l n w ht h
  | some i =>
    have hlt : i < l.length := by
      unfold findTbl at h
      exact (List.findIdx?_eq_some_iff_getElem.1 h).1
    have hs : l[i]? = some l[i] := List.getElem?_eq_getElem hlt
    simp only [hs]
    exact source_some vt l n w i _ ht h hs (hN _ (List.getElem_mem hlt))

theorem sourceP_at {l : List Sch} {n : ByteArray} {k : Nat} {s : Sch} (hs : l[k]? = some s) (hp : tblIs n s = true) (hn : ∀ i y, i < k → l[i]? = some y → tblIs n y = false) : sourceP l n = some s := by
  rw [sourceP_eq, show findTbl l n = some k from findIdx_some hs hp hn]
  exact hs
theorem sourceP_no {l : List Sch} {n : ByteArray} (hn : ∀ i y, i < l.length → l[i]? = some y → tblIs n y = false) : sourceP l n = none := by
  rw [sourceP_eq, show findTbl l n = none from findIdx_none hn]

set_option maxRecDepth 100000 in
set_option maxHeartbeats 2000000 in
theorem rsource_any (v : Value) (l : List Sch) (n : ByteArray) (w : World) (hv : TblsR NoM w v l) (hsm : ColsSmall l) : Calls Tryd.prog 122 #[v, .string n] w (SrcPost (sourceP l n) w) := by
  have HV := Lib.hid hv
  have HSM := Lib.hid hsm
  obtain ⟨a, cap, rfl, hm⟩ := hv.shape
  unfold maxLen at hm
  have HP : Hid (∀ r, sourceP l n = r → SrcPost (sourceP l n) w = SrcPost r w) := Lib.hid fun r h => by rw [h]
  generalize SrcPost (sourceP l n) w = Post at HP ⊢
  clear hv hsm
  go_enter Tryd.func122, Tryd.ntmps122
  go_wp2
  generalize hW : w.alloc _ = W0
  have g0 : Hid (W0.heap[w.heap.size]? = some (.cells #[.string ⟨#[]⟩, .slice none 0 0] 98 (0, 0))) := Lib.hid (by rw [← hW]; exact heap_alloc_new w _)
  have g1 : Hid (Below w.heap.size w W0) := Lib.hid (by rw [← hW]; exact (Below.refl _ _).alloc (Nat.le_refl _) _)
  have g2 : w.heap.size < W0.heap.size := by rw [← hW]; simp
  clear hW
  go_loopw [11] (fun i wr => ∃ k : Nat, k ≤ l.length ∧ i = .int .i64 (k : Int) ∧ Below W0.heap.size W0 wr ∧ ∀ i y, i < k → l[i]? = some y → tblIs n y = false) (fun i _ => l.length - (intOf i).toNat)
  case atStart => exact ⟨0, Nat.zero_le _, rfl, Below.refl _ _, fun i y h => absurd h (by omega)⟩
  case round =>
    obtain ⟨k, hk, rfl, hbel, hno⟩ := hrel
    have HN := Lib.hid hno
    have HB := Lib.hid hbel
    have hbw := hbel.size
    have RB := Lib.hid ((hbel.block _ g2).trans g0.out)
    obtain ⟨r0, r1, f0, f1, rz⟩ := blk2 RB.out
    have HW := Lib.hid (g1.out.trans (hbel.mono (Nat.le_of_lt g2)))
    clear hno hbel
    by_cases hlt : k < l.length
    · rcases HV.out.open with ⟨h, h'⟩ | ⟨b', o', cap', hv', hbT, hbs, hl, hm', hx⟩
      · subst h'; simp at hlt
      · simp only [Value.slice.injEq] at hv'
        obtain ⟨rfl, _, rfl⟩ := hv'
        have hxk : l[k]? = some l[k] := List.getElem?_eq_getElem hlt
        obtain ⟨cs, ⟨vc, tn, ta, tl, tc, rfl, hcols⟩, _, hcs⟩ := hx k _ hxk
        have hsmk := HSM.out _ (List.mem_of_getElem? hxk)
        generalize l[k] = s at hxk hcs hcols hsmk
        have hcs' := hcs.keep (M := NoM) (.bel HW.out) id
        obtain ⟨c0, c1, c2, c3⟩ := hcs'.c4
        obtain ⟨ca, cc, rfl, hcm⟩ := hcols.shape
        have HX := Lib.hid hxk
        have HC := Lib.hid (hcols.keep (.bel HW.out))
        have HK := Lib.hid hsmk
        have HCM := Lib.hid hcm
        clear hx hcs hxk hcs' hcols hsmk hcm
        by_cases hp : (s.name.toList == n.toList) = true
        · go_wp2_with (at_builtin; go_loud (refine wpList_app rfl _ _ 96 rfl 110 _ 4 32 Tryd.underlying96 infoCol rfl (by decide) (R := ColR) (M := NoM) (wr.heap.size + 1 + 1) (.slice none 0 0) (.slice ca s.cols.length cc) [] s.cols rfl rfl (RowsO.nil ..) (ColsR.keep HC.out (((Keep.refl NoM wr).alloc _).alloc _)) (fun y _ cs h => colR_one default y cs h) (by simpa using HK.out) (by simpa using HCM.out) (by simp) ?_; intro v2 w2 ho hk _; have hb2 := bel_nil hk; obtain ⟨a2, p2, rfl, _⟩ := ho.shape; have hz2 := hb2.size; have q1 : w2.heap[w.heap.size]? = some (.cells #[.string ⟨#[]⟩, .slice none 0 0] 98 (0, 0)) := (hb2.block _ (by simp; omega)).trans ((Below.heap_alloc _ _ _ (by simp; omega)).trans ((Below.heap_alloc _ _ _ rz).trans RB.out)); have q2 : w2.heap[wr.heap.size + 1]? = some (.cells #[.string s.name, .slice ca s.cols.length cc] 98 (0, 0)) := (hb2.block _ (by simp)).trans (by have h9 := heap_alloc_new (wr.alloc (.cells #[.string s.name, .slice ca s.cols.length cc, .int .i64 tn, .slice ta tl tc] 104)) (.cells #[.string s.name, .slice ca s.cols.length cc] 98); rw [World.size_alloc] at h9; exact h9); obtain ⟨p0, p1, pf0, pf1, pz⟩ := blk2 q1; obtain ⟨s0, s1, sf0, sf1, sz⟩ := blk2 q2; simp only [World.size_alloc] at hz2; clear q1 q2 r0 r1 f0 f1; have HO := Lib.hid ho; have HB2 := Lib.hid hb2; clear ho hk hb2))
          rw [HP.out (some s) (sourceP_at HX.out hp HN.out)]
          refine bodyPost_ret (v := .tuple #[.agg #[.string s.name, .slice a2 s.cols.length p2], .bool true]) (by simp [results, Tryd.results122, go_sem, p0, p1]) rfl ⟨_, rfl, ?_, ?_⟩
          · have hc : ColsR (fun k => k < wr.heap.size + 1 + 1) w2 (.slice a2 s.cols.length p2) s.cols := HO.out.rows fun k h1 _ h2 => by omega
            refine ColsR.weak (M := fun k => k < wr.heap.size + 1 + 1) ?_ (ColsR.keep (w := w2) hc ?_)
            · intro k hk h; unfold Out at h; simp at h hk; omega
            · (repeat' (first | (refine Keep.setCell ?_ ?_ _) | (exact Keep.refl _ _))) <;> (intro _; simp <;> omega)
          · have h1 := HW.out
            have h2 : Below w.heap.size w w2 := ((h1.alloc (by omega) _).alloc (by simp; omega) _).trans (HB2.out.mono (by simp; omega))
            clear p0 p1 s0 s1
            go_grown
        · have hp' : (s.name.toList == n.toList) = false := by simpa using hp
          clear hp
          go_wp2
          go_roundw
          case rel =>
            refine ⟨k + 1, by omega, by go_num, HB.out.trans ((Below.refl _ wr).alloc hbw _), fun i y hi hy => ?_⟩
            by_cases e : i = k
            · subst e
              rw [HX.out] at hy
              cases hy
              exact hp'
            · exact HN.out i y (by omega) hy
          case measure => simp [intOf]; omega
    · go_wp2
      rw [HP.out none (sourceP_no fun i y hi hy => HN.out i y (by omega) hy)]
      refine bodyPost_ret (v := .tuple #[.agg #[.string ⟨#[]⟩, .slice none 0 0], .bool false]) (by simp [results, Tryd.results122, go_sem, r0, r1]) rfl ⟨rfl, ?_⟩
      have := HW.out
      go_grown

end Go.Proofs.YtppiaaolggpjdaaDoor
