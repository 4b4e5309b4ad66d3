/- A difference from the tape: the contract of difference. Which updates a trigger matches: the contract of Matching. TriggerMatches returns true (where known does). The sanity check of the statements of chapter 17. -/
import Derived.Test.YtkhlmofcdchccaaGreatDoorTM12
import Derived.Test.YtkhlmofcdchccaaGreatDoorTM14
import Derived.Test.YtkhlmofcdchccaaGreatDoorTM16
import Derived.Test.YtkhlmofcdchccaaGreatDoorU08
import Derived.Test.YtkhlmofcdchccaaGreatDoorU07
import Derived.Test.YtkhlmofcdchccaaGreatDoorU04
import Derived.Test.YtkhlmofcdchccaaGreatDoorU09
import Derived.Test.YtkhlmofcdchccaaGreatDoorU03
namespace Go.Proofs.YtkhlmofcdchccaaGreatDoor
open Go.RowKit Go.Maps

/-- What difference gives: updates whose rows have the width of the table. -/
def DifQ (T n : Nat) (v : Value) (W : World) : Prop := ∃ (tb : ByteArray) (ia : Option Addr) (il ic : Nat) (da : Option Addr) (dl dc : Nat) (ua : Option Addr) (uc : Nat) (lu : List PrD),
  v = .agg #[.string tb, .slice ia il ic, .slice da dl dc, .slice ua lu.length uc] ∧ PrsR (At T) W (.slice ua lu.length uc) lu ∧ (∀ p ∈ lu, p.old.length = n ∧ p.new.length = n) ∧ lu.length ≤ 200

theorem sch3_small {s : Sch} (hs : s ∈ schs3) : s.name.size ≤ maxLen ∧ 1 ≤ s.cols.length ∧ s.cols.length ≤ 10 ∧ ∀ c ∈ s.cols, c.name.size ≤ maxLen := by
  simp only [schs3, List.mem_cons, List.not_mem_nil, or_false] at hs
  unfold maxLen
  rcases hs with rfl | rfl | rfl
  all_goals
    refine ⟨by decide, by decide, by decide, fun c hc => ?_⟩
    simp only [schLog, schT, schU, List.mem_cons, List.not_mem_nil, or_false] at hc
  · rcases hc with rfl | rfl <;> decide
  · rcases hc with rfl | rfl | rfl | rfl <;> decide
  · rcases hc with rfl | rfl | rfl <;> decide

set_option maxRecDepth 100000 in
set_option maxHeartbeats 16000000 in
theorem difference_any (T : Nat) (s : Sch) (hs : s ∈ schs3) (w : World) (ht : TapeOk T w) (hn : WordsOk T w) :
    Calls Tryz.prog 12 #[.pointer (some ⟨T, 0, none⟩), .string s.name] w (Gives T w (DifQ T s.cols.length)) := by
  obtain ⟨hs1, hs2, hs3, hs4⟩ := sch3_small hs
  have HSC := Lib.hid fun wx => schema_any s hs wx
  have HTO := Lib.hid fun cv wx h1 h2 h3 => tableOf_any T s.name cv s.cols wx h1 h2 h3 (by omega)
  have HCO := Lib.hid fun cv rv nx l wx h1 h2 h3 h4 h5 h6 h7 => changeOf_any T s.name cv rv nx s.cols l wx h1 h2 h3 h4 h5 h6 h7 hs2 (by omega)
  have HAP := Lib.hid fun cv rv iv dv uv nx l li ld lu wx h1 h2 h3 h4 => r7apply_any (M := At T) s.cols.length s.name cv rv iv dv uv nx s.cols l li ld lu wx h1 h2 h3 h4 hs1 hs4 (by omega) (by omega)
  have HBW := Lib.hid fun cva cvb rva rvb nxa nxb la lb wx h1 h2 h3 h4 h5 h6 h7 h8 => between8_any (M := NoM) s.cols.length s.name s.name cva cvb rva rvb nxa nxb s.cols s.cols la lb wx h1 h2 h3 h4 hs1 hs4 h5 h6 h7 h8 hs1 hs4 (by omega)
  obtain ⟨nm, cl⟩ := s
  dsimp only at *
  have hTw := ht.lt
  have HN := Lib.hid hn
  have h0 := (OB.start ht).new #[.string ⟨#[]⟩, .slice none 0 0, .slice none 0 0, .slice none 0 0] 47
  clear hs1 hs4 hs ht hn
  go_enter Tryz.func12, Tryz.ntmps12
  go_upto_region 1 with fail
  generalize World.alloc w _ = W0 at h0 ⊢
  have HO0 := Lib.hid h0
  have hz0 := h0.blt (b := ⟨w.heap.size, _, _⟩) (List.mem_cons_self ..)
  dsimp only at hz0
  clear h0
  go_wp2_with fail
  refine (HSC.out W0).mono ?_
  rintro e w1 ⟨vc, rfl, hc, hb⟩
  have HO1 := Lib.hid (HO0.out.bel hb)
  have HC1 : Hid (ColsR (At T) w1 vc cl) := Lib.hid (hc.weak fun k hk h => by unfold At at h; unfold Out; omega)
  clear hc hb HO0
  dsimp only
  go_wp2_with fail
  refine (HTO.out vc w1 HO1.out.tape (HN.out.at HO1.out.kept) HC1.out).mono ?_
  rintro e w2 ⟨_, rfl, ⟨nx, rv, l, rfl, hx0, hx1, hr, hl, hw, hi⟩, ht, hk⟩
  obtain ⟨vca, vcc, rfl, _⟩ := HC1.out.shape
  obtain ⟨rva, rvc, rfl, _⟩ := hr.shape
  have HO2 := Lib.hid (HO1.out.step ht hk)
  have HC2 := Lib.hid (HC1.out.keep hk)
  have HR2 := Lib.hid hr
  have HW2 := Lib.hid hw
  have HI2 := Lib.hid hi
  clear ht hk hr hw hi HC1 HO1
  dsimp only
  go_upto_region 2 with fail
  have h5 := HO2.out.new #[.string nm, .slice vca cl.length vcc, .int .i64 nx, .slice rva l.length rvc] 96
  have hq5 : Keep (At T) w2 (w2.alloc (.cells #[.string nm, .slice vca cl.length vcc, .int .i64 nx, .slice rva l.length rvc] 96)) := (Keep.refl _ _).alloc _
  generalize hg5 : w2.heap.size = g5 at h5 ⊢
  have hgz : w.heap.size < g5 := by have := HO2.out.blt (b := ⟨w.heap.size, _, _⟩) (List.mem_cons_self ..); dsimp only at this; omega
  generalize World.alloc w2 _ = W5 at h5 hq5 ⊢
  clear hg5
  have HO5 := Lib.hid h5
  have hz5 := h5.blt (b := ⟨g5, _, _⟩) (List.mem_cons_self ..)
  dsimp only at hz5
  have HC5 := Lib.hid (HC2.out.keep hq5)
  have HR5 := Lib.hid (HR2.out.keep hq5)
  have HS5 := Lib.hid (OB.start h5.tape)
  have hT5 : T < W5.heap.size := by omega
  obtain ⟨x0, x1, x2, x3, _⟩ := blk4 (h5.blk (b := ⟨g5, _, _⟩) (List.mem_cons_self ..))
  clear h5 hq5 HC2 HR2 HO2
  have HKT := Lib.hid fun (w' : World) (h : OB T W5 w' []) => show w'.cell? ⟨g5, 0, none⟩ = some (.string nm) ∧ w'.cell? ⟨g5, 1, none⟩ = some (.slice vca cl.length vcc) ∧ w'.cell? ⟨g5, 2, none⟩ = some (.int .i64 nx) ∧ w'.cell? ⟨g5, 3, none⟩ = some (.slice rva l.length rvc) from
    (blk4 ((HO5.out.step h.tape h.kept).blk (b := ⟨g5, _, _⟩) (List.mem_cons_self ..))).elim fun a0 h => h.elim fun a1 h => h.elim fun a2 h => ⟨a0, a1, a2, h.1⟩
  have HCH := Lib.hid fun (wx : World) (h : OB T W5 wx []) => HCO.out (.slice vca cl.length vcc) (.slice rva l.length rvc) nx l wx h.tape (HN.out.at (HO5.out.kept.trans h.kept)) (HC5.out.keep h.kept) (HR5.out.keep h.kept) hl HW2.out HI2.out
  have hw7 : ∀ x : Int, IntKind.i64.wrap x = IntKind.i64.wrap x := fun _ => rfl
  clear hw7
  go_cut [6, 7] (fun v6 v7 wx => ∃ (g6 : Nat) (sn : ByteArray) (ka : Option Addr) (kn kc : Nat) (xn : Int) (ra : Option Addr) (rn rc : Nat) (er : Int), v6 = .pointer (some ⟨g6, 0, none⟩) ∧ v7 = .int .i64 er ∧ W5.heap.size ≤ g6 ∧ OB T W5 wx [⟨g6, #[.string sn, .slice ka kn kc, .int .i64 xn, .slice ra rn rc], 96⟩] ∧
    (er = 0 → sn = nm ∧ ColsR (fun k => k = g6) wx (.slice ka kn kc) cl ∧ ∃ l' : List (Int × List Val), TrsR (fun k => k = g6) wx (.slice ra rn rc) l' ∧ l'.length ≤ 200 ∧ ∀ r ∈ l', r.2.length = cl.length ∧ ∀ y ∈ r.2, ValidVal y))
  case first =>
    have tok1 : Hid True := Lib.hid trivial
    have tok2 : Hid True := Lib.hid trivial
    go_region_held3 (fun w' => w'.cell? ⟨g5, 0, none⟩ = some (.string nm) ∧ w'.cell? ⟨g5, 1, none⟩ = some (.slice vca cl.length vcc) ∧ w'.cell? ⟨g5, 2, none⟩ = some (.int .i64 nx) ∧ w'.cell? ⟨g5, 3, none⟩ = some (.slice rva l.length rvc))
      (first | with_reducible exact HKT.out _ HS5.out.drew | with_reducible exact HKT.out _ (HS5.out.drew.alloc _) | with_reducible exact HKT.out _ (HO6.out.sub (by simp)) | with_reducible exact HKT.out _ ((HO6.out.alloc _).sub (by simp)) | with_reducible exact HKT.out _ (HO7.out.sub (by simp)) | with_reducible exact HKT.out _ ((HO7.out.alloc _).sub (by simp)) | with_reducible exact HKT.out _ ((HO7.out.fill4 (by simp) _ _ _ _).sub (by simp)) | go_keep)
      (first
        | (go_at_call 30; have _t := tok1; go_loud (refine (HCH.out _ (by first | exact HS5.out.drew | exact HS5.out.drew.alloc _)).mono ?_; rintro e w6 ⟨_, rfl, ⟨iv, dv, uv, li, ld, lu, rfl, hch, hdl, hil, hdi, hui, huw, hiw⟩, ht, hk⟩; have HO6 := Lib.hid (by first | exact (HS5.out.drew.step ht hk) | exact ((HS5.out.drew.new' (g := W5.heap.size) rfl #[.string ⟨#[]⟩, .slice none 0 0, .int .i64 0, .slice none 0 0] 96).step ht hk)); have hz6 : W5.heap.size ≤ w6.heap.size := Nat.le_trans (by simp) hk.size; have HQ6 : Hid (Keep (At T) W5 w6) := Lib.hid HO6.out.kept; have HAPP := Lib.hid fun (wx : World) (k : Keep (At T) w6 wx) => HAP.out (.slice vca cl.length vcc) (.slice rva l.length rvc) iv dv uv nx l li ld lu wx ((HC5.out.keep HQ6.out).keep k) ((HR5.out.keep HQ6.out).keep k) (by omega) HW2.out (by omega) (by omega) ⟨hch.ins.keep k, RowsR.map hch.del k fun _ _ _ h => h, hch.upd.keep k⟩ hdl hil hdi hui huw hiw; clear ht hk hch hdl hil hdi hui huw hiw tok1 _t))
        | (go_at_call 29; have _t := tok2; go_loud (refine (HAPP.out _ (by first | exact .refl _ _ | exact (Keep.refl _ _).alloc _)).mono ?_; rintro e w7 ⟨sn, ka, kn, kc, xn, ra, rn, rc, er, rfl, hb, hgood⟩; have HO7 := Lib.hid (by first | exact (HO6.out.bel hb) | exact ((HO6.out.new' (g := w6.heap.size) rfl #[.string ⟨#[]⟩, .slice none 0 0, .int .i64 0, .slice none 0 0] 96).bel hb)); have hz7 : w6.heap.size ≤ w7.heap.size := Nat.le_trans (by simp) hb.size; have HGD := Lib.hid hgood; (first | (have hfq := blk_fr (HO7.out.blk (b := ⟨W5.heap.size, _, _⟩) (List.mem_cons_self ..)); have f0 := hfq 0; have f1 := hfq 1; have f2 := hfq 2; have f3 := hfq 3; have fz := HO7.out.blt (b := ⟨W5.heap.size, _, _⟩) (List.mem_cons_self ..); obtain ⟨k0, k1, k2, k3, _⟩ := blk4 (HO7.out.blk (b := ⟨W5.heap.size, _, _⟩) (List.mem_cons_self ..)); clear hfq) | (have hfq := blk_fr (HO7.out.blk (b := ⟨w6.heap.size, _, _⟩) (List.mem_cons_self ..)); have f0 := hfq 0; have f1 := hfq 1; have f2 := hfq 2; have f3 := hfq 3; have fz := HO7.out.blt (b := ⟨w6.heap.size, _, _⟩) (List.mem_cons_self ..); obtain ⟨k0, k1, k2, k3, _⟩ := blk4 (HO7.out.blk (b := ⟨w6.heap.size, _, _⟩) (List.mem_cons_self ..)); clear hfq) | (have hfq := blk_fr (heap_alloc_new w7 (.cells #[.string ⟨#[]⟩, .slice none 0 0, .int .i64 0, .slice none 0 0] 96)); have f0 := hfq 0; have f1 := hfq 1; have f2 := hfq 2; have f3 := hfq 3; obtain ⟨k0, k1, k2, k3, _⟩ := blk4 (heap_alloc_new w7 (.cells #[.string ⟨#[]⟩, .slice none 0 0, .int .i64 0, .slice none 0 0] 96)); clear hfq)); clear hb hgood tok2 _t)))
    · go_wp2_with fail
      go_meet
      refine ⟨w7.heap.size, sn, ka, kn, kc, xn, ra, rn, rc, er, rfl, rfl, by omega, HO7.out.new #[.string sn, .slice ka kn kc, .int .i64 xn, .slice ra rn rc] 96, fun h => ?_⟩
      obtain ⟨e1, hc, l', ht, hl', hw'⟩ := HGD.out h
      exact ⟨e1, (hc.weak (M' := fun k => k = w7.heap.size) fun k hk h => by omega).keep ((Keep.refl _ w7).alloc _), l', (ht.weak (M' := fun k => k = w7.heap.size) fun k hk h => by omega).keep ((Keep.refl _ w7).alloc _), hl', hw'⟩
    · go_wp2_with fail
      go_meet
      refine ⟨w6.heap.size, sn, ka, kn, kc, xn, ra, rn, rc, er, rfl, rfl, by omega, HO7.out.fill4 (by simp) (.string sn) (.slice ka kn kc) (.int .i64 xn) (.slice ra rn rc), fun h => ?_⟩
      obtain ⟨e1, hc, l', ht, hl', hw'⟩ := HGD.out h
      exact ⟨e1, (hc.weak (M' := fun k => k = w6.heap.size) fun k hk h => by show k < (World.alloc w6 _).heap.size; simp; omega).keep (tset4_keep w7 w6.heap.size _ _ _ _), l', (ht.weak (M' := fun k => k = w6.heap.size) fun k hk h => by show k < (World.alloc w6 _).heap.size; simp; omega).keep (tset4_keep w7 w6.heap.size _ _ _ _), hl', hw'⟩
    · have hlt6 := HO6.out.blt (b := ⟨W5.heap.size, _, _⟩) (List.mem_cons_self ..)
      dsimp only at hlt6
      go_wp2_with fail
      go_meet
      refine ⟨W5.heap.size, sn, ka, kn, kc, xn, ra, rn, rc, er, rfl, rfl, by omega, HO7.out.fill4 (by simp) (.string sn) (.slice ka kn kc) (.int .i64 xn) (.slice ra rn rc), fun h => ?_⟩
      obtain ⟨e1, hc, l', ht, hl', hw'⟩ := HGD.out h
      exact ⟨e1, (hc.weak (M' := fun k => k = W5.heap.size) fun k hk h => by show k < w6.heap.size; omega).keep (tset4_keep w7 W5.heap.size _ _ _ _), l', (ht.weak (M' := fun k => k = W5.heap.size) fun k hk h => by show k < w6.heap.size; omega).keep (tset4_keep w7 W5.heap.size _ _ _ _), hl', hw'⟩
  case rest =>
    obtain ⟨g6, sn, ka, kn, kc, xn, ra, rn, rc, er, rfl, rfl, hg6, ho, hgd⟩ := hcut
    rename World => wx
    have HOX := Lib.hid ho
    have HGD := Lib.hid hgd
    have hgx := ho.blt (b := ⟨g6, _, _⟩) (List.mem_cons_self ..)
    dsimp only at hgx
    clear ho hgd x0 x1 x2 x3
    go_upto_if 23 with fail
    go_cut [] (fun wy => ∃ (ka2 : Option Addr) (kc2 : Nat) (xn2 : Int) (ra2 : Option Addr) (rc2 : Nat) (l2 : List (Int × List Val)), OB T W5 wy [⟨g6, #[.string nm, .slice ka2 cl.length kc2, .int .i64 xn2, .slice ra2 l2.length rc2], 96⟩] ∧ ColsR NoM wy (.slice ka2 cl.length kc2) cl ∧ TrsR NoM wy (.slice ra2 l2.length rc2) l2 ∧ l2.length ≤ 200 ∧ ∀ r ∈ l2, r.2.length = cl.length ∧ ∀ y ∈ r.2, ValidVal y)
    case first =>
      by_cases her : er = 0
      · subst her
        go_wp2_with fail
        go_meet
        obtain ⟨rfl, hc, l', ht, hl', hw'⟩ := HGD.out (by simp)
        obtain ⟨_, _, hs1, _⟩ := hc.shape
        obtain ⟨_, _, hs2, _⟩ := ht.shape
        simp only [Value.slice.injEq] at hs1 hs2
        obtain ⟨_, rfl, _⟩ := hs1
        obtain ⟨_, rfl, _⟩ := hs2
        exact ⟨ka, kc, xn, ra, rc, l', HOX.out, hc.weak fun _ _ h => h.elim, ht.weak fun _ _ h => h.elim, hl', hw'⟩
      · have bz : (er != 0) = true := by simpa using her
        obtain ⟨x0, x1, x2, x3⟩ := HKT.out wx (HOX.out.sub (by simp))
        have hdb := HOX.out.blk (b := ⟨g6, _, _⟩) (List.mem_cons_self ..)
        dsimp only at hdb
        have f0 := blk_fr hdb 0
        have f1 := blk_fr hdb 1
        obtain ⟨d0, d1, d2, d3, f2, f3, _⟩ := blk4 hdb
        clear hdb
        go_wp2_with fail
        go_meet
        have hf := HOX.out.fill4 (by simp) (.string nm) (.slice vca cl.length vcc) (.int .i64 nx) (.slice rva l.length rvc)
        exact ⟨vca, vcc, nx, rva, rvc, l, hf, (HC5.out.keep hf.kept).weak fun _ _ h => h.elim, (HR5.out.keep hf.kept).weak fun _ _ h => h.elim, by omega, HW2.out⟩
    case rest =>
      obtain ⟨ka2, kc2, xn2, ra2, rc2, l2, ho, hc, ht, hl2, hw2⟩ := hcut
      rename World => wy
      have HOY := Lib.hid ho
      have HO9 := Lib.hid (HO5.out.step ho.tape ho.kept)
      have HPR := Lib.hid (HBW.out (.slice vca cl.length vcc) (.slice ka2 cl.length kc2) (.slice rva l.length rvc) (.slice ra2 l2.length rc2) nx xn2 l l2 wy ((HC5.out.keep ho.kept).weak fun _ _ h => h.elim) ((HR5.out.keep ho.kept).weak fun _ _ h => h.elim) (by omega) HW2.out hc ht hl2 hw2)
      obtain ⟨x0, x1, x2, x3⟩ := HKT.out wy (ho.sub (by simp))
      obtain ⟨d0, d1, d2, d3, _, _, _⟩ := blk4 (ho.blk (b := ⟨g6, _, _⟩) (List.mem_cons_self ..))
      clear ho hc ht hw2
      go_wp2_with fail
      refine HPR.out.mono ?_
      rintro e w8 ⟨tb, ia, il, ic, da, dl, dc, uv, ok, lu, rfl, hpr, hw8, hlu, hb⟩
      obtain ⟨ua, uc, rfl, _⟩ := hpr.shape
      have HOE := Lib.hid ((HO9.out.bel hb).sub (L' := [⟨w.heap.size, #[.string ⟨#[]⟩, .slice none 0 0, .slice none 0 0, .slice none 0 0], 47⟩]) (by simp))
      have hzy := HO9.out.size
      have HPE := Lib.hid hpr
      have HWE := Lib.hid hw8
      have hub := HOE.out.blk (b := ⟨w.heap.size, _, _⟩) (List.mem_cons_self ..)
      dsimp only at hub
      have uf0 := blk_fr hub 0
      have uf1 := blk_fr hub 1
      obtain ⟨u0, u1, u2, u3, uf2, uf3, uz⟩ := blk4 hub
      clear hub hb hpr hw8 x0 x1 x2 x3 d0 d1 d2 d3
      dsimp only
      go_wp2_with fail
      refine bodyPost_ret (v := .agg #[.string tb, .slice ia il ic, .slice da dl dc, .slice ua lu.length uc]) (by simp [results, Tryz.results12, go_sem, u0, u1, u2, u3, uz]) rfl ?_
      have hf := HOE.out.fill4 (by simp) (.string tb) (.slice ia il ic) (.slice da dl dc) (.slice ua lu.length uc)
      have k4 := tset4_keep w8 w.heap.size (.string tb) (.slice ia il ic) (.slice da dl dc) (.slice ua lu.length uc)
      generalize World.setCell _ (⟨w.heap.size, 3, none⟩ : Addr) _ = W9 at hf k4 ⊢
      have q1 := (HPE.out.keep (k4.weak fun k _ h => by unfold At at h; unfold Old; omega)).keep ((Keep.refl _ W9).alloc (.cells #[.string tb, .slice ia il ic, .slice da dl dc, .slice ua lu.length uc] 47))
      exact (hf.alloc _).gives ⟨tb, ia, il, ic, da, dl, dc, ua, uc, lu, rfl, q1.weak fun k _ h => by unfold At at h; unfold Old; omega, HWE.out, hlu⟩
end Go.Proofs.YtkhlmofcdchccaaGreatDoor
namespace Go.Proofs.YtkhlmofcdchccaaGreatDoor
open Go.RowKit Go.Maps

/-- What Matching gives for a trigger of updates. -/
def MatQ (tb : ByteArray) (lu : List PrD) (w : World) (e : Ending) (w' : World) : Prop := ∃ va vc, e = .returned (.agg #[.string tb, .slice none 0 0, .slice none 0 0, .slice va lu.length vc]) ∧ PrsR (Old w.heap.size) w' (.slice va lu.length vc) lu ∧ Below w.heap.size w w'

set_option maxRecDepth 100000 in
set_option maxHeartbeats 16000000 in
theorem matching_any {M : Nat → Prop} (tn tt nm tb : ByteArray) (cv uv : Value) (cl : List Col) (lu : List PrD) (f : PrD → Bool) (n : Nat) (oa : Option Addr) (on oc : Nat) (ia da : Option Addr) (il ic dl dc : Nat) (w : World)
    (hc : ColsR M w cv cl) (hu : PrsR M w uv lu) (hcl : cl.length = n) (hn : n ≤ 1000) (hw : ∀ p ∈ lu, p.old.length = n ∧ p.new.length = n) (hlu : lu.length ≤ 200)
    (hof : (on = 0 ∧ f = fun _ => true) ∨ (on = 1 ∧ ∃ b o c k, oa = some ⟨b, o, none⟩ ∧ w.cell? ⟨b, o, none⟩ = some (.string c) ∧ 1 ≤ oc ∧ oc ≤ maxLen ∧ findCol cl c = some k ∧ k < n ∧ f = fun p => difB p k)) :
    Calls Tryz.prog 13 #[.agg #[.string tn, .string tt, .bool false, .int .i64 2, .slice oa on oc, .bool false, .slice none 0 0, .slice none 0 0, .slice none 0 0, .slice none 0 0, .slice none 0 0], .agg #[.string nm, cv], .agg #[.string tb, .slice ia il ic, .slice da dl dc, uv]] w (MatQ tb (lu.filter f) w) := by
  have HDF := Lib.hid fun (p : PrD) (b o k : Nat) (c : ByteArray) (v1 v2 : Value) (wx : World) (h : Below w.heap.size w wx) (h1 : ValsR M wx v1 p.old) (h2 : ValsR M wx v2 p.new) h3 h4 h5 h6 h7 => differs_any nm c cv v1 v2 cl p k b o oc wx (hc.keep (.bel h)) h3 h1 h2 h4 h5 h6 h7
  obtain ⟨ca, cc, rfl, _⟩ := hc.shape
  obtain ⟨ua, uc, rfl, hum⟩ := hu.shape
  unfold maxLen at hum
  have HU := Lib.hid fun j (hj : j < lu.length) => rows_row hu hj
  have HW := Lib.hid hw
  obtain ⟨nu, hnu⟩ : ∃ n, lu.length = n := ⟨_, rfl⟩
  have HNU := Lib.hid hnu
  rw [hcl] at HDF ⊢
  rw [hnu] at HU hum hlu ⊢
  have HOF := Lib.hid hof
  have hP := (PB.start w).new #[.string tn, .string tt, .bool false, .int .i64 2, .slice oa on oc, .bool false, .slice none 0 0, .slice none 0 0, .slice none 0 0, .slice none 0 0, .slice none 0 0] 52
  have hP := hP.new' (g := w.heap.size + 1) (by simp) #[.string nm, .slice ca n cc] 42
  have hP := hP.new' (g := w.heap.size + 2) (by simp) #[.string tb, .slice ia il ic, .slice da dl dc, .slice ua nu uc] 47
  have hP := hP.new' (g := w.heap.size + 3) (by simp) #[.string ⟨#[]⟩, .slice none 0 0, .slice none 0 0, .slice none 0 0] 47
  have hP := hP.new' (g := w.heap.size + 4) (by simp) #[.string tb, .slice none 0 0, .slice none 0 0, .slice none 0 0] 47
  clear hc hu hw hcl hnu hof
  generalize hlf : lu.filter f = lf
  have HLF := Lib.hid hlf
  clear hlf
  go_enter Tryz.func13, Tryz.ntmps13
  go_upto_region 2 with fail
  generalize World.alloc (World.alloc _ _) _ = W0 at hP ⊢
  have HP0 := Lib.hid hP
  have hz0 := hP.blt (b := ⟨w.heap.size + 4, _, _⟩) (List.mem_cons_self ..)
  dsimp only at hz0
  obtain ⟨t0, t1, t2, t3, t4, _, _, _, _, _, _, _, _⟩ := blk11 (hP.blk (b := ⟨w.heap.size, _, _⟩) (List.mem_cons_of_mem _ (List.mem_cons_of_mem _ (List.mem_cons_of_mem _ (List.mem_cons_of_mem _ (List.mem_cons_self ..))))))
  obtain ⟨u0, u1, u2, u3, _⟩ := blk4 (hP.blk (b := ⟨w.heap.size + 2, _, _⟩) (List.mem_cons_of_mem _ (List.mem_cons_of_mem _ (List.mem_cons_self ..))))
  clear hP
  go_wp2_with fail
  go_loopw [32] (fun i wr => ∃ (j : Nat) (vu : Value) (ll : List PrD), j ≤ nu ∧ i = .int .i64 (j : Int) ∧ ll = (lu.take j).filter f ∧ PB w wr [⟨w.heap.size + 4, #[.string tb, .slice none 0 0, .slice none 0 0, vu], 47⟩, ⟨w.heap.size + 3, #[.string ⟨#[]⟩, .slice none 0 0, .slice none 0 0, .slice none 0 0], 47⟩, ⟨w.heap.size + 2, #[.string tb, .slice ia il ic, .slice da dl dc, .slice ua nu uc], 47⟩, ⟨w.heap.size + 1, #[.string nm, .slice ca n cc], 42⟩, ⟨w.heap.size, #[.string tn, .string tt, .bool false, .int .i64 2, .slice oa on oc, .bool false, .slice none 0 0, .slice none 0 0, .slice none 0 0, .slice none 0 0, .slice none 0 0], 52⟩] ∧ RowsG (w.heap.size + 5) wr 58 3 PrR vu ll ∧ ll.length ≤ j) (fun i _ => nu - (intOf i).toNat)
  case atStart => exact ⟨0, _, [], Nat.zero_le _, rfl, rfl, HP0.out, RowsG.nil .., Nat.zero_le _⟩
  case round =>
    rename World => wr
    obtain ⟨j, vu, ll, hj, rfl, hll, hpb, hg2, hlj⟩ := hrel
    obtain ⟨va, vc, rfl, _⟩ := hg2.shape
    have HPR := Lib.hid hpb
    have HGR := Lib.hid hg2
    have HLL := Lib.hid hll
    have HOZ := Lib.hid fun k (h : OwnB (.slice va ll.length vc) k) => show k < wr.heap.size from (RowsO.lt hg2 h).2
    have hzr := hpb.blt (b := ⟨w.heap.size + 4, _, _⟩) (List.mem_cons_self ..)
    dsimp only at hzr
    clear hpb hg2 hll HP0 t0 t1 t2 t3 t4 u0 u1 u2 u3
    by_cases hlt : j < nu
    · obtain ⟨p, b, o, cs, hpj, hpm, hua, hbz, ⟨v1, v2, rfl, hv1, hv2⟩, hcs, hcap, hcm⟩ := HU.out j hlt
      unfold maxLen at hcm
      subst hua
      obtain ⟨c0, c1, c2⟩ := CellsAt.c3 (hcs.keep (M := NoM) (.bel HPR.out.below) fun h => h)
      obtain ⟨hl1, hl2⟩ := HW.out p hpm
      obtain ⟨a1, cc1, hs1, _⟩ := hv1.shape
      obtain ⟨a2, cc2, hs2, _⟩ := hv2.shape
      rw [hl1] at hs1
      rw [hl2] at hs2
      subst hs1 hs2
      have HV1 := Lib.hid hv1
      have HV2 := Lib.hid hv2
      have HL1 := Lib.hid hl1
      have HL2 := Lib.hid hl2
      have HPJ := Lib.hid hpj
      clear hcs hv1 hv2 hl1 hl2 hpj hpm
      have i0 : (0 : Int) ≤ (j : Int) := by omega
      have i1 : (j : Int) < (nu : Int) := by omega
      have hP := HPR.out.new #[.int .i64 p.id, .slice a1 n cc1, .slice a2 n cc2] 58
      have hQ : Below wr.heap.size wr (wr.alloc (.cells #[.int .i64 p.id, .slice a1 n cc1, .slice a2 n cc2] 58)) := (Below.refl _ _).alloc (Nat.le_refl _) _
      go_upto_region 11 with fail
      generalize hq : wr.heap.size = q at hP hQ ⊢
      generalize World.alloc wr _ = W5 at hP hQ ⊢
      have hqw : wr.heap.size ≤ q := by omega
      rw [← hq] at hQ
      clear hq c0 c1 c2
      have HP5 := Lib.hid hP
      have HG5 := Lib.hid (HGR.out.bel prStable hQ)
      have hz5 := hP.blt (b := ⟨q, _, _⟩) (List.mem_cons_self ..)
      dsimp only at hz5
      clear hP hQ
      obtain ⟨t0, t1, t2, t3, t4, _, _, _, _, _, _, _, _⟩ := blk11 (HP5.out.blk (b := ⟨w.heap.size, _, _⟩) (List.mem_cons_of_mem _ (List.mem_cons_of_mem _ (List.mem_cons_of_mem _ (List.mem_cons_of_mem _ (List.mem_cons_of_mem _ (List.mem_cons_self ..)))))))
      obtain ⟨s0, s1, _⟩ := blk2 (HP5.out.blk (b := ⟨w.heap.size + 1, _, _⟩) (List.mem_cons_of_mem _ (List.mem_cons_of_mem _ (List.mem_cons_of_mem _ (List.mem_cons_of_mem _ (List.mem_cons_self ..))))))
      obtain ⟨e0, e1, e2, _⟩ := blk3 (HP5.out.blk (b := ⟨q, _, _⟩) (List.mem_cons_self ..))
      go_cut [46] (fun v wx => v = .bool (f p) ∧ Below W5.heap.size W5 wx)
      case first =>
        rcases HOF.out with ⟨h0, hf⟩ | ⟨h0, b3, o3, c3, k3, h1, h2, h3, h4, h5, h6, hf⟩
        · subst h0 hf
          go_wp2_with fail
          go_meet
          exact ⟨rfl, Below.refl _ _⟩
        · subst h0 h1 hf
          have HFC := Lib.hid (HDF.out p b3 o3 k3 c3 (.slice a1 n cc1) (.slice a2 n cc2) W5 HP5.out.below (HV1.out.keep (.bel HP5.out.below)) (HV2.out.keep (.bel HP5.out.below)) h5 (by rw [HL1.out]; exact h6) (by rw [HL2.out]; exact h6) ((HP5.out.below.cell (p := ⟨b3, o3, none⟩) (World.block_lt_of_cell? _ _ h2)).trans h2) ⟨h3, h4⟩)
          clear h2 h3 h4 h5 h6
          go_wp2_with fail
          refine HFC.out.mono ?_
          rintro e w6 ⟨rfl, hb⟩
          have HB6 := Lib.hid hb
          clear hb
          dsimp only
          go_wp2_with fail
          go_meet
          exact ⟨rfl, HB6.out⟩
      case rest =>
        obtain ⟨rfl, hb⟩ := hcut
        rename World => w7
        have HP7 := Lib.hid (HP5.out.bel hb)
        have HG7 := Lib.hid (HG5.out.bel prStable hb)
        have hz57 := hb.size
        have hzr7 : wr.heap.size ≤ w7.heap.size := by omega
        clear hb t0 t1 t2 t3 t4 s0 s1 e0 e1 e2 HG5
        cases hfp : f p with
        | false =>
          go_wp2_with fail
          go_roundw
          case rel =>
            refine ⟨j + 1, _, ll, by omega, by go_num, ?_, HP7.out.sub (by simp), HG7.out, by omega⟩
            rw [List.take_add_one, HPJ.out, List.filter_append, HLL.out]
            simp [hfp]
          case measure => simp [intOf]; omega
        | true =>
          have HKS := Lib.hid fun (w' : World) (h : PB w w' [⟨q, #[.int .i64 p.id, .slice a1 n cc1, .slice a2 n cc2], 58⟩, ⟨w.heap.size + 4, #[.string tb, .slice none 0 0, .slice none 0 0, .slice va ll.length vc], 47⟩, ⟨w.heap.size + 3, #[.string ⟨#[]⟩, .slice none 0 0, .slice none 0 0, .slice none 0 0], 47⟩, ⟨w.heap.size + 2, #[.string tb, .slice ia il ic, .slice da dl dc, .slice (some ⟨b, o, none⟩) nu uc], 47⟩, ⟨w.heap.size + 1, #[.string nm, .slice ca n cc], 42⟩, ⟨w.heap.size, #[.string tn, .string tt, .bool false, .int .i64 2, .slice oa on oc, .bool false, .slice none 0 0, .slice none 0 0, .slice none 0 0, .slice none 0 0, .slice none 0 0], 52⟩]) => show w'.cell? ⟨w.heap.size + 4, 3, none⟩ = some (.slice va ll.length vc) ∧ w'.cell? ⟨q, 0, none⟩ = some (.int .i64 p.id) ∧ w'.cell? ⟨q, 1, none⟩ = some (.slice a1 n cc1) ∧ w'.cell? ⟨q, 2, none⟩ = some (.slice a2 n cc2) from
            (let h1 := blk3 (h.blk (b := ⟨q, _, _⟩) (List.mem_cons_self ..)); ⟨(blk4 (h.blk (b := ⟨w.heap.size + 4, _, _⟩) (List.mem_cons_of_mem _ (List.mem_cons_self ..)))).2.2.2.1, h1.1, h1.2.1, h1.2.2.1⟩)
          go_upto_region 12 with fail
          refine wp_regionW 7 (fun w' => w'.cell? ⟨w.heap.size + 4, 3, none⟩ = some (.slice va ll.length vc) ∧ w'.cell? ⟨q, 0, none⟩ = some (.int .i64 p.id) ∧ w'.cell? ⟨q, 1, none⟩ = some (.slice a1 n cc1) ∧ w'.cell? ⟨q, 2, none⟩ = some (.slice a2 n cc2)) (by kernel_rfl) ?_
          refine wpAnyW_take (i := 0) (oi := _) (v := ?_) rfl (by kernel_rfl) (fun _ _ _ h => h) (.inl ⟨by kernel_rfl, fun wh hwh => by (try dsimp only at hwh); obtain ⟨g0, g1, g2, g3⟩ := hwh; first | (simp [execOp, go_sem]; done) | (simp [execOp, go_sem]; with_reducible rfl)⟩) (HKS.out _ HP7.out.drew) ?_
          (try simp only [Act.put, List.getElem_toArray, List.getElem_cons_zero, List.setIfInBounds_toArray, List.set_cons_zero, List.set_cons_succ])
          refine wpAnyW_take (i := 1) (oi := _) (v := ?_) rfl (by kernel_rfl) (fun _ _ _ h => h) (.inl ⟨by kernel_rfl, fun wh hwh => by (try dsimp only at hwh); obtain ⟨g0, g1, g2, g3⟩ := hwh; first | (simp [execOp, go_sem, g0]; done) | (simp [execOp, go_sem, g0]; with_reducible rfl)⟩) (HKS.out _ HP7.out.drew) ?_
          (try simp only [Act.put, List.getElem_toArray, List.getElem_cons_succ, List.getElem_cons_zero, List.setIfInBounds_toArray, List.set_cons_zero, List.set_cons_succ])
          refine wpAnyW_take (i := 2) (oi := _) (v := ?_) rfl (by kernel_rfl) (fun _ _ _ h => h) (.inl ⟨by kernel_rfl, fun wh hwh => by (try dsimp only at hwh); obtain ⟨g0, g1, g2, g3⟩ := hwh; first | (simp [execOp, go_sem, g1, g2, g3]; done) | (simp [execOp, go_sem, g1, g2, g3]; with_reducible rfl)⟩) (HKS.out _ HP7.out.drew) ?_
          (try simp only [Act.put, List.getElem_toArray, List.getElem_cons_succ, List.getElem_cons_zero, List.setIfInBounds_toArray, List.set_cons_zero, List.set_cons_succ])
          refine wpAnyW_one (i := 3) (o := _) (by kernel_rfl) rfl (fun K hK => ?_)
          go_simp
          refine (deepPair_any p _ _ _ (HV1.out.keep (.bel HP7.out.drew.below)) (HV2.out.keep (.bel HP7.out.drew.below)) (by rw [HL1.out]; exact hn) (by rw [HL2.out]; exact hn)).mono ?_
          rintro e w8 ⟨b1, d1, b2, d2, he, hv1, hv2, hb⟩
          rw [HL1.out] at he hv1
          rw [HL2.out] at he hv2
          subst he
          have HP8 := Lib.hid (HP7.out.drew.bel hb)
          have hb8 : Below w7.heap.size w7 w8 := Below.trans (drew_below (Below.refl _ _)) hb
          have HG8 := Lib.hid (HG7.out.bel prStable hb8)
          have hz8 := hb8.size
          have HY8 : Hid (PrR (OldOr (w.heap.size + 5) (.slice va ll.length vc)) w8 p [.int .i64 p.id, .slice b1 n d1, .slice b2 n d2]) := Lib.hid ⟨_, _, rfl, hv1.weak fun k hk hA => (by show k < w7.heap.size; rcases hA with hA | hA; omega; exact Nat.lt_of_lt_of_le (HOZ.out k hA) hzr7), hv2.weak fun k hk hA => (by show k < w7.heap.size; rcases hA with hA | hA; omega; exact Nat.lt_of_lt_of_le (HOZ.out k hA) hzr7)⟩
          clear hv1 hv2 hb hb8
          refine hK.out _ _ (.inr (HKS.out _ HP8.out)) ?_
          clear hK K
          (try simp only [Act.put, List.getElem_toArray, List.getElem_cons_succ, List.getElem_cons_zero, List.setIfInBounds_toArray, List.set_cons_zero, List.set_cons_succ])
          refine wpAnyW_one (i := 4) (o := _) (by kernel_rfl) rfl (fun K hK => ?_)
          go_simp
          refine hK.out _ _ (.inr (HKS.out _ (HP8.out.alloc _))) ?_
          clear hK K
          (try simp only [Act.put, List.getElem_toArray, List.getElem_cons_succ, List.getElem_cons_zero, List.setIfInBounds_toArray, List.set_cons_zero, List.set_cons_succ])
          refine wpAnyW_one (i := 5) (o := _) (by kernel_rfl) rfl (fun K hK => ?_)
          refine step_appG (w := w8) prStable (by rfl) _ _ _ (by rfl) 58 _ 3 56 Tryz.underlying45 infoPair (by rfl) (by decide) (w.heap.size + 5) (.slice va ll.length vc) w8.heap.size #[.int .i64 p.id, .slice b1 n d1, .slice b2 n d2] ll p (by rfl) (by rfl) (by rfl) HG8.out (by rfl) HY8.out (by omega) (by unfold maxLen; omega) (by omega) ?_
          intro v9 w9 hg9 hk
          have HG9 := Lib.hid hg9
          have HP9 := Lib.hid (HP8.out.then hk (fun i hi hO => (by have := (RowsO.lt HG8.out hO).1; omega)) (fun b hb hO => (by have h0 := HOZ.out _ hO; have h1 := (RowsO.lt HG8.out hO).1; simp only [List.mem_cons, List.not_mem_nil, or_false] at hb; rcases hb with rfl | rfl | rfl | rfl | rfl | rfl <;> dsimp only at h0 h1 <;> omega)))
          obtain ⟨a9, c9, hv9, _⟩ := hg9.shape
          simp only [List.length_append, List.length_singleton] at hv9
          subst hv9
          have hdb := HP9.out.blk (b := ⟨w.heap.size + 4, _, _⟩) (List.mem_cons_of_mem _ (List.mem_cons_self ..))
          dsimp only at hdb
          have HDB := Lib.hid hdb
          obtain ⟨d40, d41, d42, d43, f42, f43, dz4⟩ := blk4 hdb
          clear hg9 hk hdb
          refine hK.out _ _ (.inr (HKS.out _ HP9.out)) ?_
          clear hK K
          (try simp only [Act.put, List.getElem_toArray, List.getElem_cons_succ, List.getElem_cons_zero, List.setIfInBounds_toArray, List.set_cons_zero, List.set_cons_succ])
          refine wpAnyW_take (i := 6) (oi := _) (v := ?_) rfl (by kernel_rfl) (fun _ _ _ h => h) (.inl ⟨by kernel_rfl, fun wh hwh => by (try dsimp only at hwh); obtain ⟨g0, g1, g2, g3⟩ := hwh; first | (simp [execOp, go_sem]; done) | (simp [execOp, go_sem]; with_reducible rfl)⟩) (HKS.out _ HP9.out) ?_
          (try simp only [Act.put, List.getElem_toArray, List.getElem_cons_succ, List.getElem_cons_zero, List.setIfInBounds_toArray, List.set_cons_zero, List.set_cons_succ])
          refine wpAnyW_one (i := 7) (o := _) (by kernel_rfl) rfl (fun K hK => ?_)
          go_simp
          refine hK.out _ _ (.inl (by kernel_rfl)) ?_
          clear hK K
          (try simp only [Act.put, List.getElem_toArray, List.getElem_cons_succ, List.getElem_cons_zero, List.setIfInBounds_toArray, List.set_cons_zero, List.set_cons_succ])
          refine wpAnyW_done (by kernel_rfl) ?_ _
          go_wp2_with fail
          go_roundw
          case rel =>
            refine ⟨j + 1, _, ll ++ [p], by omega, by go_num, ?_, (HP9.out.swap.put 3 _ (blk4_set3 HDB.out) (by simp; omega)).sub (by simp), HG9.out.keep prStable ((Keep.refl (At (w.heap.size + 4)) w9).setCell (p := ⟨w.heap.size + 4, 3, none⟩) (fun _ => rfl) _) (fun k h1 _ h => by unfold At at h; omega), by simp; omega⟩
            rw [List.take_add_one, HPJ.out, List.filter_append, HLL.out]
            simp [hfp]
          case measure => simp [intOf]; omega
    · obtain rfl : nu = j := by omega
      have hll : ll = lf := by rw [HLL.out, ← HLF.out, List.take_of_length_le (by rw [HNU.out]; exact Nat.le_refl _)]
      have hdb := HPR.out.blk (b := ⟨w.heap.size + 4, _, _⟩) (List.mem_cons_self ..)
      dsimp only at hdb
      obtain ⟨d0, d1, d2, d3, _, _, _⟩ := blk4 hdb
      have hub := HPR.out.blk (b := ⟨w.heap.size + 3, _, _⟩) (List.mem_cons_of_mem _ (List.mem_cons_self ..))
      dsimp only at hub
      have uf0 := blk_fr hub 0
      have uf1 := blk_fr hub 1
      obtain ⟨u0, u1, u2, u3, uf2, uf3, uz⟩ := blk4 hub
      have HLFE := Lib.hid hll
      clear hdb hub hll
      have HRS : Hid (PrsR (Old (w.heap.size + 5)) wr (.slice va ll.length vc) ll) := Lib.hid (HGR.out.rows prStable)
      go_wp2_with fail
      refine bodyPost_ret (v := .agg #[.string tb, .slice none 0 0, .slice none 0 0, .slice va ll.length vc]) (by simp [results, Tryz.results13, go_sem, u0, u1, u2, u3]) rfl ?_
      have k4 := set4_keep wr (w.heap.size + 3) (.string tb) (.slice none 0 0) (.slice none 0 0) (.slice va ll.length vc)
      have hres := HLFE.out
      subst hres
      generalize World.setCell _ (⟨w.heap.size + 3, 3, none⟩ : Addr) _ = W9 at k4 ⊢
      have q1 := HRS.out.keep (k4.weak fun k _ h => by unfold At at h; unfold Old; omega)
      have q3 := ((HPR.out.sub (L' := []) (by simp)).then k4 (fun i hi h => by unfold At at h; omega) (fun b hb => by cases hb)).below
      exact ⟨va, vc, rfl, q1.weak fun k _ h => by unfold Old at *; omega, q3⟩
end Go.Proofs.YtkhlmofcdchccaaGreatDoor
namespace Go.Proofs.YtkhlmofcdchccaaGreatDoor
open Go.RowKit Go.Maps

theorem blk11_set4 {w : World} {S : Nat} {a0 a1 a2 a3 a4 a5 a6 a7 a8 a9 a10 v : Value} {e : TypeId} (h : w.heap[S]? = some (.cells #[a0, a1, a2, a3, a4, a5, a6, a7, a8, a9, a10] e (0, 0))) : (w.setCell ⟨S, 4, none⟩ v).heap[S]? = some (.cells #[a0, a1, a2, a3, v, a5, a6, a7, a8, a9, a10] e (0, 0)) := by
  simp [World.setCell, Array.getElem?_modify, h]
theorem blk1' {w : World} {S : Nat} {a : Value} {e : TypeId} (h : w.heap[S]? = some (.cells #[a] e (0, 0))) : w.cell? ⟨S, 0, none⟩ = some a := by simp [World.cell?, h]
theorem tape_belowT {T : Nat} {w w1 W : World} (h : Below w.heap.size w w1) (hT : w.heap.size ≤ T) (k : Keep (At T) w1 W) : Below w.heap.size w W := h.trans (k.toBelow h.size fun i hi e => by unfold At at e; omega)
theorem find_own {s : Sch} (hs : s ∈ schs3) (c : Nat) (x : Col) (hc : s.cols[c]? = some x) : findCol s.cols x.name = some c := by
  simp only [schs3, List.mem_cons, List.not_mem_nil, or_false] at hs
  have key : ∀ s ∈ schs3, ∀ c, c < s.cols.length → ∀ x, s.cols[c]? = some x → findCol s.cols x.name = some c := by
    intro s hs
    simp only [schs3, List.mem_cons, List.not_mem_nil, or_false] at hs
    rcases hs with rfl | rfl | rfl
    all_goals
      intro c hc x hx
      have hc' : c < 4 := by simp [schLog, schT, schU] at hc; omega
    · match c, hc' with
      | 0, _ => cases hx; decide +kernel
      | 1, _ => cases hx; decide +kernel
      | 2, _ => cases hx
      | 3, _ => cases hx
    · match c, hc' with
      | 0, _ => cases hx; decide +kernel
      | 1, _ => cases hx; decide +kernel
      | 2, _ => cases hx; decide +kernel
      | 3, _ => cases hx; decide +kernel
    · match c, hc' with
      | 0, _ => cases hx; decide +kernel
      | 1, _ => cases hx; decide +kernel
      | 2, _ => cases hx; decide +kernel
      | 3, _ => cases hx
  exact key s (by simpa [schs3] using hs) c (List.getElem?_eq_some_iff.1 hc).1 x hc

set_option maxRecDepth 100000 in
set_option maxHeartbeats 16000000 in
theorem matches_of (hkn : ∀ wx, Calls Tryz.prog 14 #[] wx (RetBel (.bool true) wx)) (v : Value) (of : Int) (w : World) (hv : IntsAt w v) (hn : WordsOk w.heap.size w) : Calls Tryz.prog 4 #[v, .int .i64 of] w (RetBel (.bool true) w) := by
  have HV := Lib.hid hv
  have HN := Lib.hid hn
  have HK := Lib.hid hkn
  clear hv hn hkn
  go_enter Tryz.func4, Tryz.ntmps4
  go_wp2_with fail
  refine (new_any v w HV.out).mono ?_
  rintro e w1 ⟨rfl, ht, hb⟩
  have hTw := ht.lt
  have HB1 := Lib.hid hb
  have HN1 := Lib.hid (HN.out.keep (M := fun _ => False) (.bel hb) fun _ _ => id)
  have HO1 := Lib.hid (OB.start ht)
  generalize hT : w.heap.size = T at *
  have hTle : w.heap.size ≤ T := by omega
  clear ht hb HV HN hT
  dsimp only
  go_wp2_with fail
  refine (table_any T w1 HO1.out.tape).mono ?_
  rintro e w2 ⟨_, rfl, ⟨s, hs, rfl⟩, ht, hk⟩
  have HO2 := Lib.hid (HO1.out.step ht hk)
  clear ht hk
  obtain ⟨hs1, hs2, hs3, hs4⟩ := sch3_small hs
  dsimp only
  go_wp2_with fail
  refine (schema_any s hs w2).mono ?_
  rintro e w3 ⟨vc, rfl, hc, hb⟩
  have HO3 := Lib.hid (HO2.out.bel hb)
  have hz3 := HO2.out.size
  have HC3 : Hid (ColsR (At T) w3 vc s.cols) := Lib.hid (hc.weak fun k hk h => by unfold At at h; unfold Out; omega)
  obtain ⟨ca, cc, rfl, _⟩ := hc.shape
  clear hc hb
  dsimp only
  go_upto_region 4 with fail
  have h4 := HO3.out.new #[.string s.name, .slice ca s.cols.length cc] 42
  have k4 : Keep (At T) w3 (w3.alloc (.cells #[.string s.name, .slice ca s.cols.length cc] 42)) := (Keep.refl _ _).alloc _
  generalize hg7 : w3.heap.size = g7 at h4 ⊢
  have hg7' : w1.heap.size ≤ g7 := by have := HO3.out.size; omega
  generalize World.alloc w3 _ = W4 at h4 k4 ⊢
  clear hg7
  have HO4 := Lib.hid h4
  have HC4 := Lib.hid (HC3.out.keep k4)
  clear h4 k4 HC3
  go_wp2_with fail
  refine (difference_any T s hs W4 HO4.out.tape (HN1.out.at HO4.out.kept)).mono ?_
  rintro e w5 ⟨_, rfl, ⟨tb, ia, il, ic, da, dl, dc, ua, uc, lu, rfl, hu, hw, hlu⟩, ht, hk⟩
  have h5 := HO4.out.step ht hk
  have HC5 := Lib.hid (HC4.out.keep hk)
  have HU5 := Lib.hid hu
  have HW := Lib.hid hw
  clear ht hk hu hw HC4
  dsimp only
  go_upto_region 5 with fail
  have h6 := h5.new #[.string tb, .slice ia il ic, .slice da dl dc, .slice ua lu.length uc] 47
  have k6 : Keep (At T) w5 (w5.alloc (.cells #[.string tb, .slice ia il ic, .slice da dl dc, .slice ua lu.length uc] 47)) := (Keep.refl _ _).alloc _
  have hz7 := h5.blt (b := ⟨g7, _, _⟩) (List.mem_cons_self ..)
  dsimp only at hz7
  generalize hg8 : w5.heap.size = g8 at h6 hz7 ⊢
  generalize World.alloc w5 _ = W6 at h6 k6 ⊢
  clear hg8 h5
  have HO6 := Lib.hid h6
  have HC6 := Lib.hid (HC5.out.keep k6)
  have HU6 := Lib.hid (HU5.out.keep k6)
  clear h6 k6 HC5 HU5 HO4 HO3 HO2 HO1
  obtain ⟨x0, x1, _⟩ := blk2 (HO6.out.blk (b := ⟨g7, _, _⟩) (List.mem_cons_of_mem _ (List.mem_cons_self ..)))
  go_wp2_with fail
  refine (mod_any of (s.cols.length : Int) W6 (by omega) (by omega)).mono ?_
  rintro e w7 ⟨rfl, rfl⟩
  obtain ⟨c, hc⟩ : ∃ c : Nat, of % (s.cols.length : Int) = (c : Int) := ⟨(of % (s.cols.length : Int)).toNat, by have := Int.emod_nonneg of (show (s.cols.length : Int) ≠ 0 by omega); omega⟩
  have hcn : c < s.cols.length := by have := Int.emod_lt_of_pos of (show (0 : Int) < (s.cols.length : Int) by omega); omega
  rw [hc]
  clear hc x0 x1
  dsimp only
  go_upto_region 7 with fail
  have h7 := HO6.out.new #[.string ⟨#[97]⟩, .string s.name, .bool false, .int .i64 2, .slice none 0 0, .bool false, .slice none 0 0, .slice none 0 0, .slice none 0 0, .slice none 0 0, .slice none 0 0] 52
  have k7 : Keep (At T) W6 (W6.alloc (.cells #[.string ⟨#[97]⟩, .string s.name, .bool false, .int .i64 2, .slice none 0 0, .bool false, .slice none 0 0, .slice none 0 0, .slice none 0 0, .slice none 0 0, .slice none 0 0] 52)) := (Keep.refl _ _).alloc _
  have hz8 := HO6.out.blt (b := ⟨g8, _, _⟩) (List.mem_cons_self ..)
  dsimp only at hz8
  generalize hg10 : W6.heap.size = g10 at h7 hz8 ⊢
  generalize World.alloc W6 _ = W7 at h7 k7 ⊢
  have HO7 := Lib.hid h7
  have HC7 := Lib.hid ((HC6.out.weak (M' := fun k => k = T ∨ k = g10) fun k hk h => h.elim id fun h => by omega).keep (k7.weak fun _ _ h => .inl h))
  have HU7 := Lib.hid ((HU6.out.weak (M' := fun k => k = T ∨ k = g10) fun k hk h => h.elim id fun h => by omega).keep (k7.weak fun _ _ h => .inl h))
  clear hg10
  clear h7 k7 HC6 HU6 HO6
  obtain ⟨t0, t1, t2, t3, t4, t5, t6, t7, t8, t9, t10, _, _⟩ := blk11 (HO7.out.blk (b := ⟨g10, _, _⟩) (List.mem_cons_self ..))
  obtain ⟨x0, x1, _⟩ := blk2 (HO7.out.blk (b := ⟨g7, _, _⟩) (List.mem_cons_of_mem _ (List.mem_cons_of_mem _ (List.mem_cons_self ..))))
  obtain ⟨d0, d1, d2, d3, _⟩ := blk4 (HO7.out.blk (b := ⟨g8, _, _⟩) (List.mem_cons_of_mem _ (List.mem_cons_self ..)))
  go_wp2_with fail
  refine (matching_any ⟨#[97]⟩ s.name s.name tb (.slice ca s.cols.length cc) (.slice ua lu.length uc) s.cols lu (fun _ => true) s.cols.length none 0 0 ia da il ic dl dc W7 HC7.out HU7.out rfl (by omega) HW.out hlu (.inl ⟨rfl, rfl⟩)).mono ?_
  rintro e w8 ⟨va, vc, rfl, _, hb⟩
  have hft : lu.filter (fun _ => true) = lu := by simp
  rw [hft]
  have h8 := HO7.out.bel hb
  have HC8 := Lib.hid (HC7.out.keep (.bel hb))
  have HU8 := Lib.hid (HU7.out.keep (.bel hb))
  clear hb hft t0 t1 t2 t3 t4 t5 t6 t7 t8 t9 t10 x0 x1 d0 d1 d2 d3 HC7 HU7
  dsimp only
  go_upto_region 8 with fail
  have h9 := h8.new #[.string tb, .slice none 0 0, .slice none 0 0, .slice va lu.length vc] 47
  have k9 : Keep (At T) w8 (w8.alloc (.cells #[.string tb, .slice none 0 0, .slice none 0 0, .slice va lu.length vc] 47)) := (Keep.refl _ _).alloc _
  have hz10 := h8.blt (b := ⟨g10, _, _⟩) (List.mem_cons_self ..)
  dsimp only at hz10
  generalize hg11 : w8.heap.size = g11 at h9 hz10 ⊢
  generalize World.alloc w8 _ = W9 at h9 k9 ⊢
  clear hg11 h8
  have HO9 := Lib.hid h9
  have HC9 := Lib.hid (HC8.out.keep (k9.weak fun _ _ h => .inl h))
  have HU9 := Lib.hid (HU8.out.keep (k9.weak fun _ _ h => .inl h))
  clear h9 k9 HC8 HU8 HO7
  obtain ⟨⟨cn, ct, cnn, ck⟩, b, o, cs, hxc, _, hba, hbz, hcs0, hcs, hcap, hcm⟩ := rows_row HC9.out hcn
  obtain rfl : cs = [.string cn, .int .i64 ct, .bool cnn, .bool ck] := hcs0
  unfold maxLen at hcm
  subst hba
  obtain ⟨c0, c1, c2, c3⟩ := CellsAt.c4 hcs
  have HFO := Lib.hid (find_own hs c _ hxc)
  clear hcs hxc
  have i0 : (0 : Int) ≤ (c : Int) := by omega
  have i1 : (c : Int) < (s.cols.length : Int) := by omega
  obtain ⟨t0, t1, t2, t3, t4, t5, t6, t7, t8, t9, t10, tf, tz⟩ := blk11 (HO9.out.blk (b := ⟨g10, _, _⟩) (List.mem_cons_of_mem _ (List.mem_cons_self ..)))
  have tf4 := tf 4
  obtain ⟨x0, x1, _⟩ := blk2 (HO9.out.blk (b := ⟨g7, _, _⟩) (List.mem_cons_of_mem _ (List.mem_cons_of_mem _ (List.mem_cons_of_mem _ (List.mem_cons_self ..)))))
  go_upto_region 9 with fail
  have hOx := HO9.out.swap.put 4 (.slice (some ⟨W9.heap.size, 0, none⟩) 1 1) (blk11_set4 (HO9.out.blk (b := ⟨g10, _, _⟩) (List.mem_cons_of_mem _ (List.mem_cons_self ..)))) (fun b hb => by simp only [List.mem_cons, List.not_mem_nil, or_false] at hb; rcases hb with rfl | rfl | rfl <;> dsimp only <;> omega)
  have h10 := hOx.alloc (.cells #[.string cn] 9)
  have k10 : Keep (fun k => k = T ∨ k = g10) W9 _ := ((Keep.refl (fun k => k = T ∨ k = g10) W9).setCell (p := ⟨g10, 4, none⟩) (fun _ => .inr rfl) (.slice (some ⟨W9.heap.size, 0, none⟩) 1 1)).alloc (.cells #[.string cn] 9)
  have hcc : World.cell? (World.alloc (World.setCell W9 ⟨g10, 4, none⟩ (.slice (some ⟨W9.heap.size, 0, none⟩) 1 1)) (.cells #[.string cn] 9)) ⟨W9.heap.size, 0, none⟩ = some (.string cn) := by
    have h := heap_alloc_new (World.setCell W9 ⟨g10, 4, none⟩ (.slice (some ⟨W9.heap.size, 0, none⟩) 1 1)) (.cells #[.string cn] 9)
    rw [show (World.setCell W9 ⟨g10, 4, none⟩ (.slice (some ⟨W9.heap.size, 0, none⟩) 1 1)).heap.size = W9.heap.size by simp] at h
    exact blk1' h
  generalize World.alloc (World.setCell W9 _ _) _ = W10 at h10 k10 hcc ⊢
  generalize W9.heap.size = gs at h10 hcc ⊢
  have HO10 := Lib.hid h10
  have HC10 := Lib.hid (HC9.out.keep k10)
  have HU10 := Lib.hid (HU9.out.keep k10)
  clear h10 k10 hOx t0 t1 t2 t3 t4 t5 t6 t7 t8 t9 t10 tf tz tf4 x0 x1 c0 c1 c2 c3 HC9 HU9 HO9
  obtain ⟨t0, t1, t2, t3, t4, t5, t6, t7, t8, t9, t10, _, _⟩ := blk11 (HO10.out.blk (b := ⟨g10, _, _⟩) (List.mem_cons_self ..))
  obtain ⟨x0, x1, _⟩ := blk2 (HO10.out.blk (b := ⟨g7, _, _⟩) (List.mem_cons_of_mem _ (List.mem_cons_of_mem _ (List.mem_cons_of_mem _ (List.mem_cons_self ..)))))
  obtain ⟨d0, d1, d2, d3, _⟩ := blk4 (HO10.out.blk (b := ⟨g8, _, _⟩) (List.mem_cons_of_mem _ (List.mem_cons_of_mem _ (List.mem_cons_self ..))))
  have HMT := Lib.hid (matching_any ⟨#[97]⟩ s.name s.name tb (.slice (some ⟨b, o, none⟩) s.cols.length cc) (.slice ua lu.length uc) s.cols lu (fun p => difB p c) s.cols.length (some ⟨gs, 0, none⟩) 1 1 ia da il ic dl dc W10 HC10.out HU10.out rfl (by omega) HW.out hlu (.inr ⟨rfl, gs, 0, cn, c, rfl, hcc, by omega, by unfold maxLen; omega, HFO.out, hcn, rfl⟩))
  clear hcc HC10 HFO
  go_wp2_with fail
  refine HMT.out.mono ?_
  rintro e w11 ⟨vb, vbc, rfl, hf, hb⟩
  have h11 := HO10.out.bel hb
  have HU11 := Lib.hid ((HU10.out.keep (.bel hb)).weak (M' := At T) fun _ _ h => .inl h)
  have HF11 := Lib.hid (hf.weak (M' := At T) fun k _ h => by unfold At at h; unfold Old; have := HO10.out.lo; have := HO10.out.size; omega)
  clear hb hf t0 t1 t2 t3 t4 t5 t6 t7 t8 t9 t10 x0 x1 d0 d1 d2 d3 HU10 HMT
  generalize hlf : lu.filter (fun p => difB p c) = lf at HF11 h11 ⊢
  have hlfn : lf.length ≤ 200 := by rw [← hlf]; exact Nat.le_trans (List.length_filter_le ..) hlu
  have HLF := Lib.hid hlf
  clear hlf
  dsimp only
  go_upto_region 10 with fail
  have h12 := h11.new #[.string tb, .slice none 0 0, .slice none 0 0, .slice vb lf.length vbc] 47
  have k12 : Keep (At T) w11 (w11.alloc (.cells #[.string tb, .slice none 0 0, .slice none 0 0, .slice vb lf.length vbc] 47)) := (Keep.refl _ _).alloc _
  generalize hg12 : w11.heap.size = g12 at h12 ⊢
  generalize World.alloc w11 _ = W12 at h12 k12 ⊢
  clear hg12 h11
  have HO12 := Lib.hid h12
  have HU12 := Lib.hid (HU11.out.keep k12)
  have HF12 := Lib.hid (HF11.out.keep k12)
  clear h12 k12 HU11 HF11 HO10
  have HP12 := Lib.hid fun (wx : World) (h : OB T w1 wx [⟨g12, #[.string tb, .slice none 0 0, .slice none 0 0, .slice vb lf.length vbc], 47⟩, ⟨g10, #[.string ⟨#[97]⟩, .string s.name, .bool false, .int .i64 2, .slice (some ⟨gs, 0, none⟩) 1 1, .bool false, .slice none 0 0, .slice none 0 0, .slice none 0 0, .slice none 0 0, .slice none 0 0], 52⟩, ⟨g11, #[.string tb, .slice none 0 0, .slice none 0 0, .slice va lu.length vc], 47⟩, ⟨g8, #[.string tb, .slice ia il ic, .slice da dl dc, .slice ua lu.length uc], 47⟩, ⟨g7, #[.string s.name, .slice (some ⟨b, o, none⟩) s.cols.length cc], 42⟩]) => And.intro (blk4 (h.blk (b := ⟨g12, _, _⟩) (List.mem_cons_self ..))) (And.intro (blk4 (h.blk (b := ⟨g8, _, _⟩) (List.mem_cons_of_mem _ (List.mem_cons_of_mem _ (List.mem_cons_of_mem _ (List.mem_cons_self ..)))))) (blk4 (h.blk (b := ⟨g11, _, _⟩) (List.mem_cons_of_mem _ (List.mem_cons_of_mem _ (List.mem_cons_self ..))))))
  have HUJ := Lib.hid fun j (hj : j < lu.length) => rows_rowM HU12.out hj
  have HFJ := Lib.hid fun j (hj : j < lf.length) => rows_rowM HF12.out hj
  have HB12 := Lib.hid (OB.start HO12.out.tape)
  obtain ⟨⟨y0, y1, y2, y3, _⟩, ⟨d0, d1, d2, d3, _⟩, _⟩ := HP12.out W12 HO12.out
  go_wp2_with fail
  go_loopw [53, 13] (fun i n wr => ∃ j : Nat, j ≤ lu.length ∧ i = .int .i64 (j : Int) ∧ n = .int .i64 (((lu.take j).filter (fun p => difB p c)).length : Int) ∧ OB T W12 wr []) (fun i _ _ => lu.length - (intOf i).toNat)
  case atStart => exact ⟨0, Nat.zero_le _, rfl, rfl, HB12.out⟩
  case round =>
    rename World => wr
    obtain ⟨j, hj, rfl, rfl, ho⟩ := hrel
    have HOR := Lib.hid ho
    clear ho y0 y1 y2 y3 d0 d1 d2 d3
    by_cases hlt : j < lu.length
    · obtain ⟨p, bq, oq, cs, hpj, hpm, hua, hbz, ⟨v1, v2, rfl, hv1, hv2⟩, hcs, hcap, hcm, hMb⟩ := HUJ.out j hlt
      unfold maxLen at hcm
      subst hua
      obtain ⟨c0, c1, c2⟩ := CellsAt.c3 (hcs.keep (M := At T) HOR.out.kept hMb)
      obtain ⟨hl1, hl2⟩ := HW.out p hpm
      obtain ⟨a1, cc1, hs1, _⟩ := hv1.shape
      obtain ⟨a2, cc2, hs2, _⟩ := hv2.shape
      obtain ⟨⟨xa, xb, xc⟩, b1, o1, cs1, hx1, _, e1, hz1, hcs1, hcc1, hp1, hm1, hM1⟩ := rows_rowM (hs1 ▸ hv1) (j := c) (by rw [hl1]; exact hcn)
      obtain ⟨⟨ya, yb, yc⟩, b2, o2, cs2, hx2, _, e2, hz2, hcs2, hcc2, hp2, hm2, hM2⟩ := rows_rowM (hs2 ▸ hv2) (j := c) (by rw [hl2]; exact hcn)
      obtain rfl : cs1 = [.int .i64 xa, .int .i64 xb, .string xc] := hcs1
      obtain rfl : cs2 = [.int .i64 ya, .int .i64 yb, .string yc] := hcs2
      rw [hl1] at hs1 hp1
      rw [hl2] at hs2 hp2
      subst hs1 hs2 e1 e2
      unfold maxLen at hm1 hm2
      have HD : Hid (difB p c = !(xa == ya && xb == yb && xc.toList == yc.toList)) := Lib.hid (by unfold difB; rw [hx1, hx2])
      have HPJ := Lib.hid hpj
      have hfl : ((lu.take j).filter (fun p => difB p c)).length ≤ 200 := Nat.le_trans (List.length_filter_le ..) (by rw [List.length_take]; omega)
      obtain ⟨q0, q1, q2⟩ := CellsAt.c3 ((hcc1.keep (M := At T) HOR.out.kept hM1))
      obtain ⟨r0, r1, r2⟩ := CellsAt.c3 ((hcc2.keep (M := At T) HOR.out.kept hM2))
      generalize hcnt : ((lu.take j).filter (fun p => difB p c)).length = cnt at hfl ⊢
      have HCNT := Lib.hid hcnt
      clear hcs hv1 hv2 hpj hpm hx1 hx2 hcc1 hcc2 hcnt hl1 hl2
      have j0 : (0 : Int) ≤ (j : Int) := by omega
      have j1 : (j : Int) < (lu.length : Int) := by omega
      have hw : IntKind.i64.wrap ((cnt : Int) + 1) = (cnt : Int) + 1 := IntWalk.i64_in _ (by omega)
      have hOp := HOR.out.alloc (.cells #[.int .i64 p.id, .slice (some ⟨b1, o1, none⟩) s.cols.length cc1, .slice (some ⟨b2, o2, none⟩) s.cols.length cc2] 58)
      have hbx := heap_alloc_new wr (.cells #[.int .i64 p.id, .slice (some ⟨b1, o1, none⟩) s.cols.length cc1, .slice (some ⟨b2, o2, none⟩) s.cols.length cc2] 58)
      have hbw : Below wr.heap.size wr (wr.alloc (.cells #[.int .i64 p.id, .slice (some ⟨b1, o1, none⟩) s.cols.length cc1, .slice (some ⟨b2, o2, none⟩) s.cols.length cc2] 58)) := (Below.refl _ _).alloc (Nat.le_refl _) _
      have hzb1 : b1 < wr.heap.size := Nat.lt_of_lt_of_le hz1 HOR.out.size
      have hzb2 : b2 < wr.heap.size := Nat.lt_of_lt_of_le hz2 HOR.out.size
      go_upto_region 14 with fail
      generalize wr.heap.size = pq at hbx hbw hzb1 hzb2 ⊢
      generalize World.alloc wr _ = W13 at hOp hbx hbw ⊢
      obtain ⟨e0, e1, e2, _⟩ := blk3 hbx
      have q0' := (hbw.cell (p := ⟨b1, o1 + c * 3, none⟩) hzb1).trans q0
      have q1' := (hbw.cell (p := ⟨b1, o1 + c * 3 + 1, none⟩) hzb1).trans q1
      have q2' := (hbw.cell (p := ⟨b1, o1 + c * 3 + 2, none⟩) hzb1).trans q2
      have r0' := (hbw.cell (p := ⟨b2, o2 + c * 3, none⟩) hzb2).trans r0
      have r1' := (hbw.cell (p := ⟨b2, o2 + c * 3 + 1, none⟩) hzb2).trans r1
      have r2' := (hbw.cell (p := ⟨b2, o2 + c * 3 + 2, none⟩) hzb2).trans r2
      have HOp := Lib.hid hOp
      clear hbx hbw hOp q0 q1 q2 r0 r1 r2 c0 c1 c2
      have HST := Lib.hid fun (d : Bool) (hd : difB p c = d) => show (((lu.take (j + 1)).filter (fun p => difB p c)).length : Int) = if d then (cnt : Int) + 1 else (cnt : Int) by
        rw [List.take_add_one, HPJ.out, List.filter_append, List.length_append, HCNT.out]
        cases d <;> simp [hd]
      cases h1 : (xa == ya)
      · go_quiet (fail)
        go_wp2_with fail
        go_roundw
        case rel => exact ⟨j + 1, by omega, by go_num, by rw [HST.out true (by rw [HD.out, h1]; rfl)]; simp, HOp.out.step (HOp.out.tape.keep (Keep.drewN (Keep.refl (fun _ => False) _) _) fun _ _ h => h) (Keep.drewN (Keep.refl _ _) _)⟩
        case measure => simp [intOf]; omega
      cases h2 : (xb == yb)
      · go_quiet (fail)
        go_wp2_with fail
        go_roundw
        case rel => exact ⟨j + 1, by omega, by go_num, by rw [HST.out true (by rw [HD.out, h1, h2]; rfl)]; simp, HOp.out.step (HOp.out.tape.keep (Keep.drewN (Keep.refl (fun _ => False) _) _) fun _ _ h => h) (Keep.drewN (Keep.refl _ _) _)⟩
        case measure => simp [intOf]; omega
      cases h3 : (xc.toList == yc.toList)
      · go_quiet (fail)
        go_wp2_with fail
        go_roundw
        case rel => exact ⟨j + 1, by omega, by go_num, by rw [HST.out true (by rw [HD.out, h1, h2, h3]; rfl)]; simp, HOp.out.step (HOp.out.tape.keep (Keep.drewN (Keep.refl (fun _ => False) _) _) fun _ _ h => h) (Keep.drewN (Keep.refl _ _) _)⟩
        case measure => simp [intOf]; omega
      go_quiet (fail)
      go_wp2_with fail
      go_roundw
      case rel => exact ⟨j + 1, by omega, by go_num, by rw [HST.out false (by rw [HD.out, h1, h2, h3]; rfl)]; simp, HOp.out.step (HOp.out.tape.keep (Keep.drewN (Keep.refl (fun _ => False) _) _) fun _ _ h => h) (Keep.drewN (Keep.refl _ _) _)⟩
      case measure => simp [intOf]; omega
    · have hjl : j = lu.length := by omega
      have hcnt : ((lu.take j).filter (fun p => difB p c)).length = lf.length := by rw [hjl, List.take_length, HLF.out]
      rw [hcnt]
      obtain ⟨⟨y0, y1, y2, y3, _⟩, ⟨d0, d1, d2, d3, _⟩, _⟩ := HP12.out wr (HO12.out.step HOR.out.tape HOR.out.kept)
      clear hcnt
      subst hjl
      go_wp2_with fail
      go_loopw [74] (fun i wx => ∃ k : Nat, k ≤ lf.length ∧ i = .int .i64 (k : Int) ∧ OB T W12 wx []) (fun i _ => lf.length - (intOf i).toNat)
      case atStart => exact ⟨0, Nat.zero_le _, rfl, HOR.out⟩
      case round =>
        rename World => wx
        obtain ⟨k, hk, rfl, ho⟩ := hrel
        have HOX := Lib.hid ho
        clear ho y0 y1 y2 y3 d0 d1 d2 d3 HOR
        by_cases hlt2 : k < lf.length
        · obtain ⟨p, bq, oq, cs, hpj, hpm, hua, hbz, ⟨v1, v2, rfl, hv1, hv2⟩, hcs, hcap, hcm, hMb⟩ := HFJ.out k hlt2
          unfold maxLen at hcm
          rw [← HLF.out] at hpm
          obtain ⟨hpm, hpt⟩ := List.mem_filter.1 hpm
          subst hua
          obtain ⟨c0, c1, c2⟩ := CellsAt.c3 (hcs.keep (M := At T) HOX.out.kept hMb)
          obtain ⟨hl1, hl2⟩ := HW.out p hpm
          obtain ⟨a1, cc1, hs1, _⟩ := hv1.shape
          obtain ⟨a2, cc2, hs2, _⟩ := hv2.shape
          obtain ⟨⟨xa, xb, xc⟩, b1, o1, cs1, hx1, _, e1, hz1, hcs1, hcc1, hp1, hm1, hM1⟩ := rows_rowM (hs1 ▸ hv1) (j := c) (by rw [hl1]; exact hcn)
          obtain ⟨⟨ya, yb, yc⟩, b2, o2, cs2, hx2, _, e2, hz2, hcs2, hcc2, hp2, hm2, hM2⟩ := rows_rowM (hs2 ▸ hv2) (j := c) (by rw [hl2]; exact hcn)
          obtain rfl : cs1 = [.int .i64 xa, .int .i64 xb, .string xc] := hcs1
          obtain rfl : cs2 = [.int .i64 ya, .int .i64 yb, .string yc] := hcs2
          rw [hl1] at hs1 hp1
          rw [hl2] at hs2 hp2
          subst hs1 hs2 e1 e2
          unfold maxLen at hm1 hm2
          have HPT : Hid (difB p c = true) := Lib.hid (by simpa using hpt)
          have HD : Hid (difB p c = !(xa == ya && xb == yb && xc.toList == yc.toList)) := Lib.hid (by unfold difB; rw [hx1, hx2])
          obtain ⟨q0, q1, q2⟩ := CellsAt.c3 ((hcc1.keep (M := At T) HOX.out.kept hM1))
          obtain ⟨r0, r1, r2⟩ := CellsAt.c3 ((hcc2.keep (M := At T) HOX.out.kept hM2))
          clear hcs hv1 hv2 hpj hpm hpt hx1 hx2 hcc1 hcc2 hl1 hl2
          have j0 : (0 : Int) ≤ (k : Int) := by omega
          have j1 : (k : Int) < (lf.length : Int) := by omega
          have hOp := HOX.out.alloc (.cells #[.int .i64 p.id, .slice (some ⟨b1, o1, none⟩) s.cols.length cc1, .slice (some ⟨b2, o2, none⟩) s.cols.length cc2] 58)
          have hbx := heap_alloc_new wx (.cells #[.int .i64 p.id, .slice (some ⟨b1, o1, none⟩) s.cols.length cc1, .slice (some ⟨b2, o2, none⟩) s.cols.length cc2] 58)
          have hbw : Below wx.heap.size wx (wx.alloc (.cells #[.int .i64 p.id, .slice (some ⟨b1, o1, none⟩) s.cols.length cc1, .slice (some ⟨b2, o2, none⟩) s.cols.length cc2] 58)) := (Below.refl _ _).alloc (Nat.le_refl _) _
          have hzb1 : b1 < wx.heap.size := Nat.lt_of_lt_of_le hz1 HOX.out.size
          have hzb2 : b2 < wx.heap.size := Nat.lt_of_lt_of_le hz2 HOX.out.size
          go_upto_region 20 with fail
          generalize wx.heap.size = pq at hbx hbw hzb1 hzb2 ⊢
          generalize World.alloc wx _ = W13 at hOp hbx hbw ⊢
          obtain ⟨e0, e1, e2, _⟩ := blk3 hbx
          have q0' := (hbw.cell (p := ⟨b1, o1 + c * 3, none⟩) hzb1).trans q0
          have q1' := (hbw.cell (p := ⟨b1, o1 + c * 3 + 1, none⟩) hzb1).trans q1
          have q2' := (hbw.cell (p := ⟨b1, o1 + c * 3 + 2, none⟩) hzb1).trans q2
          have r0' := (hbw.cell (p := ⟨b2, o2 + c * 3, none⟩) hzb2).trans r0
          have r1' := (hbw.cell (p := ⟨b2, o2 + c * 3 + 1, none⟩) hzb2).trans r1
          have r2' := (hbw.cell (p := ⟨b2, o2 + c * 3 + 2, none⟩) hzb2).trans r2
          have HOp := Lib.hid hOp
          clear hbx hbw hOp q0 q1 q2 r0 r1 r2 c0 c1 c2
          cases h1 : (xa == ya)
          · go_quiet (fail)
            go_wp2_with fail
            go_roundw
            case rel => exact ⟨k + 1, by omega, by go_num, HOp.out.step (HOp.out.tape.keep (Keep.drewN (Keep.refl (fun _ => False) _) _) fun _ _ h => h) (Keep.drewN (Keep.refl _ _) _)⟩
            case measure => simp [intOf]; omega
          cases h2 : (xb == yb)
          · go_quiet (fail)
            go_wp2_with fail
            go_roundw
            case rel => exact ⟨k + 1, by omega, by go_num, HOp.out.step (HOp.out.tape.keep (Keep.drewN (Keep.refl (fun _ => False) _) _) fun _ _ h => h) (Keep.drewN (Keep.refl _ _) _)⟩
            case measure => simp [intOf]; omega
          cases h3 : (xc.toList == yc.toList)
          · go_quiet (fail)
            go_wp2_with fail
            go_roundw
            case rel => exact ⟨k + 1, by omega, by go_num, HOp.out.step (HOp.out.tape.keep (Keep.drewN (Keep.refl (fun _ => False) _) _) fun _ _ h => h) (Keep.drewN (Keep.refl _ _) _)⟩
            case measure => simp [intOf]; omega
          exfalso
          have hd := HD.out
          rw [h1, h2, h3] at hd
          have hpt' := HPT.out
          rw [hd] at hpt'
          cases hpt'
        · have hkl : k = lf.length := by omega
          obtain ⟨⟨y0, y1, y2, y3, _⟩, ⟨d0, d1, d2, d3, _⟩, ⟨z0, z1, z2, z3, _⟩⟩ := HP12.out wx (HO12.out.step HOX.out.tape HOX.out.kept)
          subst hkl
          go_wp2_with fail
          refine (HK.out wx).mono ?_
          rintro e w20 ⟨rfl, hb⟩
          have hfin := tape_belowT (HB1.out.mono hTle) hTle ((HO12.out.step HOX.out.tape HOX.out.kept).bel hb).kept
          have HFIN := Lib.hid hfin
          clear hfin hb
          dsimp only
          go_wp2_with fail
          go_ret
          exact ⟨rfl, HFIN.out⟩
end Go.Proofs.YtkhlmofcdchccaaGreatDoor
namespace Go.Proofs.YtkhlmofcdchccaaGreatDoor
open Go.RowKit

def xK : Ex := binX 3 (colX ⟨#[78, 69, 87]⟩ ⟨#[105, 100]⟩) (litX ⟨1, 1, ⟨#[]⟩⟩)
theorem xK_txt : TxtOk xK := .mk _ (Nat.zero_le _) (Nat.zero_le _) (Nat.zero_le _) (fun a ha => by
    have ha' : a = colX ⟨#[78, 69, 87]⟩ ⟨#[105, 100]⟩ ∨ a = litX ⟨1, 1, ⟨#[]⟩⟩ := by simpa [xK, binX, Ex.args] using ha
    rcases ha' with rfl | rfl
    · exact .mk _ (Nat.zero_le _) (by decide) (by decide) (by intro a h; cases h) (by intro a h; cases h) (by intro a h; cases h) (by intro a h; cases h)
    · exact .mk _ (Nat.zero_le _) (by decide) (by decide) (by intro a h; cases h) (by intro a h; cases h) (by intro a h; cases h) (by intro a h; cases h)) (by intro a h; cases h) (by intro a h; cases h) (by intro a h; cases h)
theorem rows_one_atK {α : Type} {M : Nat → Prop} {w : World} {arr : Array Value} {e : TypeId} {size g : Nat} {R : α → List Value → Prop} (x : α) (hh : w.heap[g]? = some (.cells arr e (0, 0))) (hT : ¬ M g) (hs : arr.toList.length = size) (hR : R x arr.toList) :
    RowsR M w size R (.slice (some ⟨g, 0, none⟩) 1 1) [x] := by
  refine ⟨[arr.toList], .inr ⟨g, 0, 1, rfl, hT, (Array.getElem?_eq_some_iff.1 hh).1, by simp, by unfold maxLen; omega, fun i cs hi => ?_⟩, rfl, fun i y cs hi hc => ?_⟩
  · match i with
    | 0 =>
      simp at hi
      subst hi
      refine ⟨hs, fun j u hu => ?_⟩
      rw [cell_of_row w g _ arr e (0, 0) hh]
      simpa using hu
    | i + 1 => simp at hi
  · match i with
    | 0 => simp at hi hc; subst hi; subst hc; exact hR
    | i + 1 => simp at hi
theorem blk11_put5 {w : World} {S : Nat} {a0 a1 a2 a3 a4 a5 a6 a7 a8 a9 a10 v : Value} {e : TypeId} (h : w.heap[S]? = some (.cells #[a0, a1, a2, a3, a4, a5, a6, a7, a8, a9, a10] e (0, 0))) : (w.setCell ⟨S, 5, none⟩ v).heap[S]? = some (.cells #[a0, a1, a2, a3, a4, v, a6, a7, a8, a9, a10] e (0, 0)) := by
  simp [World.setCell, Array.getElem?_modify, h]
theorem xK_valid : validL [xK] = true := by decide +kernel
theorem xK_dep : dep xK ≤ 5 := by decide +kernel
theorem xK_on : ∀ ts, typeC ts [xK] [newFrm schT.cols] = 0 := fun ts => by kernel_rfl
theorem xK_off : ∀ ts, typeC ts [xK] [] = 3 := fun ts => by kernel_rfl
theorem xK_vis {M : Nat → Prop} (q : Nat) (fv : Value) (t : TypeId) : VisOk M q fv t [xK] := by
  have h0 : ∀ k o no v t' nm, VisOk M q fv t [Ex.mk k o no v t' nm [] []] := fun k o no v t' nm => visit_step q fv t _ fun e he => by rw [List.mem_singleton.1 he]; exact ⟨rfl, vis_nil q fv t⟩
  refine visit_step q fv t _ fun e he => ?_
  rw [List.mem_singleton.1 he]
  refine ⟨rfl, visit_step q fv t _ fun e he => ?_⟩
  have he' : e = colX ⟨#[78, 69, 87]⟩ ⟨#[105, 100]⟩ ∨ e = litX ⟨1, 1, ⟨#[]⟩⟩ := by simpa [xK, binX, Ex.args] using he
  rcases he' with rfl | rfl <;> exact ⟨rfl, vis_nil q fv t⟩

theorem schs3_atK {M : Nat → Prop} {w : World} {b o cap : Nat} (h : SchsR M w (.slice (some ⟨b, o, none⟩) 3 cap) schs3) (j : Nat) (hj : j < 3) : ∃ s vc, schs3[j]? = some s ∧ w.cell? ⟨b, o + j * 2, none⟩ = some (.string s.name) ∧ w.cell? ⟨b, o + j * 2 + 1, none⟩ = some vc ∧ ColsR M w vc s.cols := by
  rcases h.open with ⟨h, _⟩ | ⟨b', o', cap', hv, hbT, hbs, hl, hm, hx⟩
  · simp at h
  · simp only [Value.slice.injEq, Option.some.injEq, Addr.mk.injEq] at hv
    obtain ⟨⟨rfl, rfl, _⟩, _, rfl⟩ := hv
    obtain ⟨s, hs⟩ : ∃ s, schs3[j]? = some s := ⟨_, List.getElem?_eq_getElem hj⟩
    obtain ⟨cs, ⟨vc, rfl, hc⟩, _, hcs⟩ := hx j s hs
    exact ⟨s, vc, hs, hcs.c2.1, hcs.c2.2, hc⟩

set_option maxRecDepth 100000 in
set_option maxHeartbeats 8000000 in
theorem known17_any (w : World) : Calls Tryz.prog 14 #[] w (RetBel (.bool true) w) := by
  go_enter Tryz.func14, Tryz.ntmps14
  go_wp2_with (go_at_call 27; refine (schemas_any _).mono ?_; rintro e w1 ⟨v1, rfl, hs, hb⟩; obtain ⟨b, o, cap, vc0, vc1, vc2, rfl, hbs, _⟩ := schs3_open hs; have h1 := hb.size; have HB1 := Lib.hid hb; have HS1 := Lib.hid hs; clear hs hb)
  go_loopw [1, 8] (fun out i wr => ∃ (j : Nat), j ≤ 3 ∧ i = .int .i64 j ∧ RowsO w1.heap.size wr 96 4 (TblR (Out w.heap.size w1.heap.size) w1) out (schs3.take j) ∧ Below w1.heap.size w1 wr) (fun _ i _ => 3 - (intOf i).toNat)
  case atStart => exact ⟨0, Nat.zero_le _, rfl, RowsO.nil .., Below.refl _ _⟩
  case round =>
    rename World => wr
    obtain ⟨j, hj, rfl, hO, hb⟩ := hrel
    obtain ⟨oa, op, hout, hom⟩ := hO.shape
    have hlj : (schs3.take j).length = j := by simp [schs3]; omega
    rw [hlj] at hout
    subst hout
    have hz : w1.heap.size ≤ wr.heap.size := hb.size
    have HO := Lib.hid hO
    have HB := Lib.hid hb
    have HLJ := Lib.hid hlj
    clear hO hb hlj
    by_cases hlt : j < 3
    · obtain ⟨s, vc, hs, c0, c1, hc⟩ := schs3_atK HS1.out j hlt
      obtain ⟨ca, cc, rfl, _⟩ := hc.shape
      have d0 := (HB.out.cell (p := ⟨b, o + j * 2, none⟩) hbs).trans c0
      have d1 := (HB.out.cell (p := ⟨b, o + j * 2 + 1, none⟩) hbs).trans c1
      have HS := Lib.hid hs
      have HC := Lib.hid hc
      clear hs hc c0 c1
      go_wp2_with (at_builtin; go_loud (refine wpList_app rfl _ _ 109 rfl 96 _ 4 72 Tryz.underlying109 infoTbl rfl (by decide) (R := TblR (Out w.heap.size w1.heap.size) w1) (M := NoM) w1.heap.size (.slice oa j op) (.slice (some ⟨wr.heap.size + 1, 0, none⟩) 1 1) (schs3.take j) [s] rfl rfl (RowsO.kept HO.out (((Keep.refl (fun _ => False) wr).alloc _).alloc _) (fun _ _ => id) fun _ _ _ h => h) (rows_one s (by simp) id rfl ⟨_, 1, none, 0, 0, rfl, HC.out⟩) (fun y _ cs h => tbl_one1 y cs h) (by have := HLJ.out; simp; omega) (by have := HLJ.out; simp [maxLen]; omega) (by simp; omega) ?_; intro v2 w2 ho hk _; obtain ⟨oa2, op2, hv2, hom2⟩ := ho.shape; rw [show (schs3.take j ++ [s]).length = j + 1 by simp [HLJ.out]] at hv2; subst hv2; have hO : ∀ k, OwnB (.slice oa j op) k → w1.heap.size ≤ k := (fun k h => (RowsO.lt HO.out h).1); have hB2 : Below w1.heap.size w1 w2 := (HB.out.alloc hz _).alloc (by simp; omega) _ |>.trans (hk.toBelow (by simp; omega) fun k hk h => by have := hO k h; omega); have HB2 := Lib.hid hB2; have HO2 := Lib.hid ho; clear ho hk hO hB2))
      go_roundw
      case rel =>
        refine ⟨j + 1, by omega, by go_num, ?_, HB2.out⟩
        rw [List.take_add_one, HS.out]
        exact HO2.out
      case measure => simp [intOf]; omega
    · obtain rfl : j = 3 := by omega
      have HO3 : Hid (RowsO w1.heap.size wr 96 4 (TblR (Out w.heap.size w1.heap.size) w1) (.slice oa 3 op) schs3) := HO
      have HBW : Hid (Below w.heap.size w wr) := Lib.hid (HB1.out.trans (HB.out.mono h1))
      have HT : Hid (∀ wx, Below wr.heap.size wr wx → TblsR NoM wx (.slice oa 3 op) schs3) := Lib.hid fun wx hx => (RowsO.kept HO3.out (Keep.bel hx) (fun _ _ => id) fun _ _ _ h => ((h.weak (M' := NoM) fun _ _ h => h.elim).keep (.bel HB.out)).keep (.bel hx)).rows fun _ _ _ h => h
      clear HO HO3 HS1 HB HB1 HLJ hz hlt hj
      go_wp2_with fail
      refine (col_any _ _ wr).mono ?_
      rintro e w2 ⟨rfl, hb⟩
      have HB2 := Lib.hid hb
      clear hb
      dsimp only
      go_wp2_with fail
      refine (num_pos _ (by omega) w2).mono ?_
      rintro e w3 ⟨rfl, hb⟩
      have HB3 := Lib.hid (HB2.out.trans (hb.mono HB2.out.size))
      clear hb HB2
      dsimp only
      go_wp2_with fail
      refine (bin_any (M := NoM) 3 (colX ⟨#[78, 69, 87]⟩ ⟨#[105, 100]⟩) (litX ⟨1, 1, ⟨#[]⟩⟩) _ _ w3 (ec_nil ..) (ec_nil ..) (fun _ _ => id)).mono ?_
      rintro e w4 ⟨cs, rfl, he, hb⟩
      have HB4 := Lib.hid (HB3.out.trans (hb.mono HB3.out.size))
      have hbw : Below w.heap.size w w4 := HBW.out.trans (HB4.out.mono HBW.out.size)
      have hzw := hbw.size
      have HE : Hid (EC NoM w4 xK cs) := Lib.hid he
      obtain ⟨va, vs, rfl, hva, hvs⟩ := (EC_iff ..).1 he
      obtain ⟨xa, xc, rfl, _⟩ := hva.shape
      obtain ⟨ya, yc, rfl, _⟩ := hvs.shape
      clear hb he hva hvs HB3
      have HW : Hid (∀ wx, Below w4.heap.size w4 wx → Below w.heap.size w wx) := Lib.hid fun wx h => hbw.trans (h.mono hbw.size)
      have HTW : Hid (∀ wx, Below w4.heap.size w4 wx → TblsR NoM wx (.slice oa 3 op) schs3) := Lib.hid fun wx h => HT.out wx (HB4.out.trans (h.mono HB4.out.size))
      clear HT HBW HB4 hbw
      dsimp only [exCells, binX, Ex.kind, Ex.op, Ex.no, Ex.val, Ex.table, Ex.name, Ex.args, Ex.sub, val0, es, List.length_cons, List.length_nil, Nat.zero_add, Nat.reduceAdd] at HE ⊢
      generalize hK : (#[.int .i64 5, .int .i64 3, .bool false, .int .i64 0, .int .i64 0, .string ⟨#[]⟩, .string ⟨#[]⟩, .string ⟨#[]⟩, .slice xa 2 xc, .slice ya 0 yc] : Array Value) = K
      have hP := (PB.start w4).new K 30
      have hP := hP.new' (g := w4.heap.size + 1) (by simp) #[.int .i64 4, .string ⟨#[]⟩, .slice none 0 0, .slice none 0 0, .slice none 0 0, .slice none 0 0, .string ⟨#[]⟩] 85
      subst hK
      have hP := hP.new' (g := w4.heap.size + 1 + 1) (by simp) #[.string ⟨#[97]⟩, .string ⟨#[116]⟩, .bool false, .int .i64 1, .slice none 0 0, .bool true, .slice none 0 0, .slice none 0 0, .slice none 0 0, .slice (some ⟨w4.heap.size, 0, none⟩) 1 1, .slice (some ⟨w4.heap.size + 1, 0, none⟩) 1 1] 52
      go_upto_region 8 with fail
      generalize World.alloc (World.alloc (World.alloc w4 _) _) _ = W0 at hP ⊢
      generalize hm : w4.heap.size = m at hP ⊢
      have hmw : w4.heap.size ≤ m := by omega
      clear hm
      have HXS : Hid (∀ wx, PB w4 wx [⟨m + 1, #[.int .i64 4, .string ⟨#[]⟩, .slice none 0 0, .slice none 0 0, .slice none 0 0, .slice none 0 0, .string ⟨#[]⟩], 85⟩, ⟨m, #[.int .i64 5, .int .i64 3, .bool false, .int .i64 0, .int .i64 0, .string ⟨#[]⟩, .string ⟨#[]⟩, .string ⟨#[]⟩, .slice xa 2 xc, .slice ya 0 yc], 30⟩] → ExsR NoM wx (.slice (some ⟨m, 0, none⟩) 1 1) [xK] ∧ TblsR NoM wx (.slice oa 3 op) schs3 ∧ wx.heap[m + 1]? = some (.cells #[.int .i64 4, .string ⟨#[]⟩, .slice none 0 0, .slice none 0 0, .slice none 0 0, .slice none 0 0, .string ⟨#[]⟩] 85 (0, 0))) :=
        Lib.hid fun wx h => ⟨rows_one_atK xK (h.blk (b := ⟨m, #[.int .i64 5, .int .i64 3, .bool false, .int .i64 0, .int .i64 0, .string ⟨#[]⟩, .string ⟨#[]⟩, .string ⟨#[]⟩, .slice xa 2 xc, .slice ya 0 yc], 30⟩) (by simp)) id rfl (EC.keep (.bel h.below) _ _ HE.out), HTW.out wx h.below, h.blk (b := ⟨m + 1, #[.int .i64 4, .string ⟨#[]⟩, .slice none 0 0, .slice none 0 0, .slice none 0 0, .slice none 0 0, .string ⟨#[]⟩], 85⟩) (by simp)⟩
      have HP0 := Lib.hid hP
      obtain ⟨t0, t1, t2, t3, t4, t5, t6, t7, t8, t9, t10⟩ := cells11 (hP.blk (b := ⟨m + 1 + 1, #[.string ⟨#[97]⟩, .string ⟨#[116]⟩, .bool false, .int .i64 1, .slice none 0 0, .bool true, .slice none 0 0, .slice none 0 0, .slice none 0 0, .slice (some ⟨m, 0, none⟩) 1 1, .slice (some ⟨m + 1, 0, none⟩) 1 1], 52⟩) (by simp))
      have tz := hP.blt (b := ⟨m + 1 + 1, #[.string ⟨#[97]⟩, .string ⟨#[116]⟩, .bool false, .int .i64 1, .slice none 0 0, .bool true, .slice none 0 0, .slice none 0 0, .slice none 0 0, .slice (some ⟨m, 0, none⟩) 1 1, .slice (some ⟨m + 1, 0, none⟩) 1 1], 52⟩) (by simp)
      have tf := blk_fr (hP.blk (b := ⟨m + 1 + 1, #[.string ⟨#[97]⟩, .string ⟨#[116]⟩, .bool false, .int .i64 1, .slice none 0 0, .bool true, .slice none 0 0, .slice none 0 0, .slice none 0 0, .slice (some ⟨m, 0, none⟩) 1 1, .slice (some ⟨m + 1, 0, none⟩) 1 1], 52⟩) (by simp)) 5
      dsimp only at tz tf
      clear hP
      obtain ⟨q1, q2, q3⟩ := HXS.out W0 (HP0.out.sub (by simp))
      have HC0 := Lib.hid (checkK_each ⟨#[97]⟩ _ _ xK (m + 1) W0 (by decide +kernel) (by decide) q1 xK_txt xK_valid xK_dep q2 q3 xK_on)
      clear q1 q2 q3
      go_wp2_with fail
      refine HC0.out.mono ?_
      rintro e w5 ⟨rfl, hb⟩
      have hP := HP0.out.bel hb
      clear hb HC0 HP0 t0 t1 t2 t3 t4 t5 t6 t7 t8 t9 t10 tz tf
      have HP1 := Lib.hid hP
      obtain ⟨t0, t1, t2, t3, t4, t5, t6, t7, t8, t9, t10⟩ := cells11 (hP.blk (b := ⟨m + 1 + 1, #[.string ⟨#[97]⟩, .string ⟨#[116]⟩, .bool false, .int .i64 1, .slice none 0 0, .bool true, .slice none 0 0, .slice none 0 0, .slice none 0 0, .slice (some ⟨m, 0, none⟩) 1 1, .slice (some ⟨m + 1, 0, none⟩) 1 1], 52⟩) (by simp))
      have tz := hP.blt (b := ⟨m + 1 + 1, #[.string ⟨#[97]⟩, .string ⟨#[116]⟩, .bool false, .int .i64 1, .slice none 0 0, .bool true, .slice none 0 0, .slice none 0 0, .slice none 0 0, .slice (some ⟨m, 0, none⟩) 1 1, .slice (some ⟨m + 1, 0, none⟩) 1 1], 52⟩) (by simp)
      have tf := blk_fr (hP.blk (b := ⟨m + 1 + 1, #[.string ⟨#[97]⟩, .string ⟨#[116]⟩, .bool false, .int .i64 1, .slice none 0 0, .bool true, .slice none 0 0, .slice none 0 0, .slice none 0 0, .slice (some ⟨m, 0, none⟩) 1 1, .slice (some ⟨m + 1, 0, none⟩) 1 1], 52⟩) (by simp)) 5
      dsimp only at tz tf
      clear hP
      go_upto_region 10 with fail
      have hP := HP1.out.put (c' := #[.string ⟨#[97]⟩, .string ⟨#[116]⟩, .bool false, .int .i64 1, .slice none 0 0, .bool false, .slice none 0 0, .slice none 0 0, .slice none 0 0, .slice (some ⟨m, 0, none⟩) 1 1, .slice (some ⟨m + 1, 0, none⟩) 1 1]) 5 (.bool false) (blk11_put5 (HP1.out.blk (b := ⟨m + 1 + 1, #[.string ⟨#[97]⟩, .string ⟨#[116]⟩, .bool false, .int .i64 1, .slice none 0 0, .bool true, .slice none 0 0, .slice none 0 0, .slice none 0 0, .slice (some ⟨m, 0, none⟩) 1 1, .slice (some ⟨m + 1, 0, none⟩) 1 1], 52⟩) (by simp))) (by intro b hb; simp only [List.mem_cons, List.not_mem_nil, or_false] at hb; rcases hb with rfl | rfl <;> dsimp only <;> omega)
      generalize World.setCell w5 _ _ = W6 at hP ⊢
      clear HP1 t0 t1 t2 t3 t4 t5 t6 t7 t8 t9 t10 tz tf
      have HP2 := Lib.hid hP
      obtain ⟨t0, t1, t2, t3, t4, t5, t6, t7, t8, t9, t10⟩ := cells11 (hP.blk (b := ⟨m + 1 + 1, #[.string ⟨#[97]⟩, .string ⟨#[116]⟩, .bool false, .int .i64 1, .slice none 0 0, .bool false, .slice none 0 0, .slice none 0 0, .slice none 0 0, .slice (some ⟨m, 0, none⟩) 1 1, .slice (some ⟨m + 1, 0, none⟩) 1 1], 52⟩) (by simp))
      have tz := hP.blt (b := ⟨m + 1 + 1, #[.string ⟨#[97]⟩, .string ⟨#[116]⟩, .bool false, .int .i64 1, .slice none 0 0, .bool false, .slice none 0 0, .slice none 0 0, .slice none 0 0, .slice (some ⟨m, 0, none⟩) 1 1, .slice (some ⟨m + 1, 0, none⟩) 1 1], 52⟩) (by simp)
      have tf := blk_fr (hP.blk (b := ⟨m + 1 + 1, #[.string ⟨#[97]⟩, .string ⟨#[116]⟩, .bool false, .int .i64 1, .slice none 0 0, .bool false, .slice none 0 0, .slice none 0 0, .slice none 0 0, .slice (some ⟨m, 0, none⟩) 1 1, .slice (some ⟨m + 1, 0, none⟩) 1 1], 52⟩) (by simp)) 5
      dsimp only at tz tf
      clear hP
      obtain ⟨q1, q2, q3⟩ := HXS.out W6 (HP2.out.sub (by simp))
      have HC0 := Lib.hid (checkK_off ⟨#[97]⟩ _ _ xK (m + 1) W6 (by decide +kernel) (by decide) q1 xK_txt xK_valid xK_dep q2 q3 xK_off)
      clear q1 q2 q3
      go_wp2_with fail
      refine HC0.out.mono ?_
      rintro e w7 ⟨rfl, hb⟩
      have hP := HP2.out.bel hb
      clear hb HC0 HP2 t0 t1 t2 t3 t4 t5 t6 t7 t8 t9 t10 tz tf
      have HP3 := Lib.hid hP
      obtain ⟨t0, t1, t2, t3, t4, t5, t6, t7, t8, t9, t10⟩ := cells11 (hP.blk (b := ⟨m + 1 + 1, #[.string ⟨#[97]⟩, .string ⟨#[116]⟩, .bool false, .int .i64 1, .slice none 0 0, .bool false, .slice none 0 0, .slice none 0 0, .slice none 0 0, .slice (some ⟨m, 0, none⟩) 1 1, .slice (some ⟨m + 1, 0, none⟩) 1 1], 52⟩) (by simp))
      have tz := hP.blt (b := ⟨m + 1 + 1, #[.string ⟨#[97]⟩, .string ⟨#[116]⟩, .bool false, .int .i64 1, .slice none 0 0, .bool false, .slice none 0 0, .slice none 0 0, .slice none 0 0, .slice (some ⟨m, 0, none⟩) 1 1, .slice (some ⟨m + 1, 0, none⟩) 1 1], 52⟩) (by simp)
      have tf := blk_fr (hP.blk (b := ⟨m + 1 + 1, #[.string ⟨#[97]⟩, .string ⟨#[116]⟩, .bool false, .int .i64 1, .slice none 0 0, .bool false, .slice none 0 0, .slice none 0 0, .slice none 0 0, .slice (some ⟨m, 0, none⟩) 1 1, .slice (some ⟨m + 1, 0, none⟩) 1 1], 52⟩) (by simp)) 5
      dsimp only at tz tf
      clear hP
      dsimp only
      go_wp2_with fail
      refine (mentions_yes _ _ _ _ _ _ w7).mono ?_
      rintro e w8 ⟨rfl, hb⟩
      have hP := HP3.out.bel hb
      clear hb HP3 t0 t1 t2 t3 t4 t5 t6 t7 t8 t9 t10 tz tf
      have HP4 := Lib.hid hP
      obtain ⟨t0, t1, t2, t3, t4, t5, t6, t7, t8, t9, t10⟩ := cells11 (hP.blk (b := ⟨m + 1 + 1, #[.string ⟨#[97]⟩, .string ⟨#[116]⟩, .bool false, .int .i64 1, .slice none 0 0, .bool false, .slice none 0 0, .slice none 0 0, .slice none 0 0, .slice (some ⟨m, 0, none⟩) 1 1, .slice (some ⟨m + 1, 0, none⟩) 1 1], 52⟩) (by simp))
      have tz := hP.blt (b := ⟨m + 1 + 1, #[.string ⟨#[97]⟩, .string ⟨#[116]⟩, .bool false, .int .i64 1, .slice none 0 0, .bool false, .slice none 0 0, .slice none 0 0, .slice none 0 0, .slice (some ⟨m, 0, none⟩) 1 1, .slice (some ⟨m + 1, 0, none⟩) 1 1], 52⟩) (by simp)
      have tf := blk_fr (hP.blk (b := ⟨m + 1 + 1, #[.string ⟨#[97]⟩, .string ⟨#[116]⟩, .bool false, .int .i64 1, .slice none 0 0, .bool false, .slice none 0 0, .slice none 0 0, .slice none 0 0, .slice (some ⟨m, 0, none⟩) 1 1, .slice (some ⟨m + 1, 0, none⟩) 1 1], 52⟩) (by simp)) 5
      dsimp only at tz tf
      clear hP
      obtain ⟨q1, q2, q3⟩ := HXS.out w8 (HP4.out.sub (by simp))
      have HC0 := Lib.hid (mentions_no (M := NoM) ⟨#[97]⟩ _ _ (m + 1) false [xK] w8 rfl (fun q fv t => xK_vis q fv t) q1 q3)
      clear q1 q2 q3
      dsimp only
      go_wp2_with fail
      refine HC0.out.mono ?_
      rintro e w9 ⟨rfl, hb⟩
      have hfin := HW.out w9 (HP4.out.bel hb).below
      have HFIN := Lib.hid hfin
      clear hb hfin HC0 HP4 t0 t1 t2 t3 t4 t5 t6 t7 t8 t9 t10 tz tf
      dsimp only
      go_wp2_with fail
      go_ret
      exact ⟨rfl, HFIN.out⟩

theorem matches_any (v : Value) (of : Int) (w : World) (hv : IntsAt w v) (hn : WordsOk w.heap.size w) : Calls Tryz.prog 4 #[v, .int .i64 of] w (RetBel (.bool true) w) := matches_of known17_any v of w hv hn
end Go.Proofs.YtkhlmofcdchccaaGreatDoor
