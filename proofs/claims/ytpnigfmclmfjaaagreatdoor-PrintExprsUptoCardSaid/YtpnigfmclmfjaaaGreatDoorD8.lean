/- Conditions from the tape: the contract of condition, over a contract of Expr. -/
import Derived.Test.YtpnigfmclmfjaaaGreatDoorKD2
namespace Go.Proofs.YtpnigfmclmfjaaaGreatDoor
open Go.RowKit

theorem ec_exv {M : Nat → Prop} {w : World} {e : Ex} {cs : List Value} (h : EC M w e cs) : ExV M w e (.agg cs.toArray) := by
  obtain ⟨va, vs, rfl, h1, h2⟩ := (EC_iff ..).1 h
  obtain ⟨a, ac, rfl, _⟩ := h1.shape
  obtain ⟨s, sc, rfl, _⟩ := h2.shape
  exact ⟨a, ac, s, sc, rfl, h1, h2⟩

def ExPost (lo : Nat) (e0 : Ex) (w : World) (e : Ending) (w' : World) : Prop := ∃ v, e = .returned v ∧ ExV (Old lo) w' e0 v ∧ Below w.heap.size w w'

theorem bin_ex {lo : Nat} {va vb : Value} {w : World} {a b : Ex} (o : Int) (ha : ExV (Old lo) w a va) (hb : ExV (Old lo) w b vb) (hlo : lo ≤ w.heap.size) : Calls Tryz.prog 58 #[.int .i64 o, va, vb] w (ExPost lo (binX o a b) w) := by
  obtain ⟨ca, rfl, hca⟩ := ha.ec
  obtain ⟨cb, rfl, hcb⟩ := hb.ec
  refine (bin_any (M := Old lo) o a b ca cb w hca hcb (fun k hk h => by unfold Old at h; omega)).mono ?_
  rintro e w' ⟨cs, rfl, hx, hbel⟩
  exact ⟨_, rfl, ec_exv hx, hbel⟩

theorem exv_cells {M : Nat → Prop} {w : World} {a : Ex} {a1 s1 : Option Addr} {ac1 sc1 : Nat} (h : ExV M w a (.agg #[.int .i64 a.kind, .int .i64 a.op, .bool a.no, .int .i64 a.val.kind, .int .i64 a.val.int, .string a.val.text, .string a.table, .string a.name, .slice a1 a.args.length ac1, .slice s1 a.sub.length sc1])) : EC M w a [.int .i64 a.kind, .int .i64 a.op, .bool a.no, .int .i64 a.val.kind, .int .i64 a.val.int, .string a.val.text, .string a.table, .string a.name, .slice a1 a.args.length ac1, .slice s1 a.sub.length sc1] := by
  obtain ⟨cs, hcs, hec⟩ := h.ec
  simp only [Value.agg.injEq] at hcs
  obtain rfl : cs = [.int .i64 a.kind, .int .i64 a.op, .bool a.no, .int .i64 a.val.kind, .int .i64 a.val.int, .string a.val.text, .string a.table, .string a.name, .slice a1 a.args.length ac1, .slice s1 a.sub.length sc1] := by simpa using (congrArg Array.toList hcs).symm
  exact hec

/-- The result stored, with one argument. -/
theorem ex1_fin {T lo : Nat} {vf vt : Value} {w wk W1 : World} {k o : Int} {no : Bool} {a : Ex} {a1 s1 : Option Addr} {ac1 sc1 : Nat} {P : Ex → Prop} (hT : T < w.heap.size) (L : Loc T vf vt w wk) (hx : ExV (Old lo) wk a (.agg #[.int .i64 a.kind, .int .i64 a.op, .bool a.no, .int .i64 a.val.kind, .int .i64 a.val.int, .string a.val.text, .string a.table, .string a.name, .slice a1 a.args.length ac1, .slice s1 a.sub.length sc1])) (hlo : w.heap.size + 1 + 1 ≤ lo)
    (hP : P (opX k o no [a] [])) (ks : Keep (At (w.heap.size + 1)) wk W1) (hs : W1.heap.size = wk.heap.size) :
    Gives T w (ExQ P w) (.returned (.agg #[.int .i64 k, .int .i64 o, .bool no, .int .i64 0, .int .i64 0, .string ⟨#[]⟩, .string ⟨#[]⟩, .string ⟨#[]⟩, .slice (some ⟨wk.heap.size, 0, none⟩) 1 1, .slice none 0 0])) (W1.alloc (.cells #[.int .i64 a.kind, .int .i64 a.op, .bool a.no, .int .i64 a.val.kind, .int .i64 a.val.int, .string a.val.text, .string a.table, .string a.name, .slice a1 a.args.length ac1, .slice s1 a.sub.length sc1] 57)) := by
  refine ex_fin1 (e := opX k o no [a] []) hT L ks ⟨some ⟨wk.heap.size, 0, none⟩, 1, none, 0, rfl, ?_, RowsR.nil ..⟩ hP
  have hz : w.heap.size + 1 < wk.heap.size := L.res.2.2.2.2.2.2.2.2.2.2.2
  rw [← hs]
  exact rows_one (size := 10) (R := EC _ _) a rfl (old_new (by omega)) rfl (exv_cells (ex_part hx hlo ks))

theorem rows_three {α : Type} {M : Nat → Prop} {w : World} {arr : Array Value} {e : TypeId} {size g : Nat} {R : α → List Value → Prop} (x y z : α) (cx cy cz : List Value) (hg : g = w.heap.size) (hT : ¬ M w.heap.size) (ha : arr.toList = cx ++ cy ++ cz) (hx : cx.length = size) (hy : cy.length = size) (hz : cz.length = size) (h1 : R x cx) (h2 : R y cy) (h3 : R z cz) :
    RowsR M (w.alloc (.cells arr e)) size R (.slice (some ⟨g, 0, none⟩) 3 3) [x, y, z] :=
  RowsR.new [cx, cy, cz] hg hT (by simpa using ha) (by simp [hx, hy, hz]) rfl (Nat.le_refl _) (by unfold maxLen; omega) rfl fun i u cs hi hc => by
    match i with
    | 0 => simp at hi hc; subst hi; subst hc; exact h1
    | 1 => simp at hi hc; subst hi; subst hc; exact h2
    | 2 => simp at hi hc; subst hi; subst hc; exact h3
    | i + 3 => simp at hi

/-- The result stored, with three arguments. -/
theorem ex3_fin {T lo : Nat} {vf vt : Value} {w wk W1 : World} {k o : Int} {no : Bool} {a b c : Ex} {a1 s1 a2 s2 a3 s3 : Option Addr} {ac1 sc1 ac2 sc2 ac3 sc3 : Nat} {P : Ex → Prop} (hT : T < w.heap.size) (L : Loc T vf vt w wk)
    (hx : ExV (Old lo) wk a (.agg #[.int .i64 a.kind, .int .i64 a.op, .bool a.no, .int .i64 a.val.kind, .int .i64 a.val.int, .string a.val.text, .string a.table, .string a.name, .slice a1 a.args.length ac1, .slice s1 a.sub.length sc1])) (hy : ExV (Old lo) wk b (.agg #[.int .i64 b.kind, .int .i64 b.op, .bool b.no, .int .i64 b.val.kind, .int .i64 b.val.int, .string b.val.text, .string b.table, .string b.name, .slice a2 b.args.length ac2, .slice s2 b.sub.length sc2])) (hz : ExV (Old lo) wk c (.agg #[.int .i64 c.kind, .int .i64 c.op, .bool c.no, .int .i64 c.val.kind, .int .i64 c.val.int, .string c.val.text, .string c.table, .string c.name, .slice a3 c.args.length ac3, .slice s3 c.sub.length sc3])) (hlo : w.heap.size + 1 + 1 ≤ lo)
    (hP : P (opX k o no [a, b, c] [])) (ks : Keep (At (w.heap.size + 1)) wk W1) (hs : W1.heap.size = wk.heap.size) :
    Gives T w (ExQ P w) (.returned (.agg #[.int .i64 k, .int .i64 o, .bool no, .int .i64 0, .int .i64 0, .string ⟨#[]⟩, .string ⟨#[]⟩, .string ⟨#[]⟩, .slice (some ⟨wk.heap.size, 0, none⟩) 3 3, .slice none 0 0])) (W1.alloc (.cells #[.int .i64 a.kind, .int .i64 a.op, .bool a.no, .int .i64 a.val.kind, .int .i64 a.val.int, .string a.val.text, .string a.table, .string a.name, .slice a1 a.args.length ac1, .slice s1 a.sub.length sc1, .int .i64 b.kind, .int .i64 b.op, .bool b.no, .int .i64 b.val.kind, .int .i64 b.val.int, .string b.val.text, .string b.table, .string b.name, .slice a2 b.args.length ac2, .slice s2 b.sub.length sc2, .int .i64 c.kind, .int .i64 c.op, .bool c.no, .int .i64 c.val.kind, .int .i64 c.val.int, .string c.val.text, .string c.table, .string c.name, .slice a3 c.args.length ac3, .slice s3 c.sub.length sc3] 57)) := by
  refine ex_fin1 (e := opX k o no [a, b, c] []) hT L ks ⟨some ⟨wk.heap.size, 0, none⟩, 3, none, 0, rfl, ?_, RowsR.nil ..⟩ hP
  have hz' : w.heap.size + 1 < wk.heap.size := L.res.2.2.2.2.2.2.2.2.2.2.2
  rw [← hs]
  exact rows_three (size := 10) (R := EC _ _) a b c [.int .i64 a.kind, .int .i64 a.op, .bool a.no, .int .i64 a.val.kind, .int .i64 a.val.int, .string a.val.text, .string a.table, .string a.name, .slice a1 a.args.length ac1, .slice s1 a.sub.length sc1] [.int .i64 b.kind, .int .i64 b.op, .bool b.no, .int .i64 b.val.kind, .int .i64 b.val.int, .string b.val.text, .string b.table, .string b.name, .slice a2 b.args.length ac2, .slice s2 b.sub.length sc2] [.int .i64 c.kind, .int .i64 c.op, .bool c.no, .int .i64 c.val.kind, .int .i64 c.val.int, .string c.val.text, .string c.table, .string c.name, .slice a3 c.args.length ac3, .slice s3 c.sub.length sc3] rfl (old_new (by omega)) rfl rfl rfl rfl (exv_cells (ex_part hx hlo ks)) (exv_cells (ex_part hy hlo ks)) (exv_cells (ex_part hz hlo ks))

/-- A part made earlier, behind a later tape call. -/
theorem ex_step {T lo : Nat} {v : Value} {wi wj : World} {e : Ex} (hT : T < lo) (h : ExV (Old lo) wi e v) (hk : Keep (At T) wi wj) : ExV (Old lo) wj e v := h.keep (hk.weak fun k _ h => by unfold At at h; unfold Old; omega)
theorem ex_low {lo lo' : Nat} {v : Value} {w : World} {e : Ex} (h : ExV (Old lo) w e v) (hl : lo' ≤ lo) : ExV (Old lo') w e v := h.weak fun k _ h => by unfold Old at h ⊢; omega

theorem place_expr {n T : Nat} {w W : World} {fa ta : Option Addr} {fc tc : Nat} {look : List UInt8 → List Col} {fs : List Frm} {ss : List Sch} (hE : ExprOk n) (hw : WordsOk T w) (hf : FrmsR (At T) w (.slice fa fs.length fc) fs) (hs : SchsR (At T) w (.slice ta ss.length tc) ss)
    (hP : PlaceP look fs ss (n + 1)) (q : Loc T (.slice fa fs.length fc) (.slice ta ss.length tc) w W) (dp want : Int) (h1 : dp ≤ n) (h2 : -10 ≤ dp) (h3 : 1 ≤ want) (h4 : want ≤ 3) :
    Calls Tryz.prog 20 #[.pointer (some ⟨T, 0, none⟩), .agg #[.slice fa fs.length fc, .slice ta ss.length tc], .int .i64 want, .int .i64 dp] W (Gives T W (ExQ (Mk ss fs want n) W)) :=
  hE T dp want fa ta fc tc look fs ss W h1 h2 h3 h4 q.tape (hw.at q.kept) (hf.keep q.kept) (hs.keep q.kept) (hP.mono (Nat.le_succ n))

theorem mk_op {n : Nat} {ss : List Sch} {fs : List Frm} {want : Int} {k o : Int} {no : Bool} {args : List Ex} (hd : ∀ x ∈ args, dep x ≤ n ∧ GX n x) (h : ∀ ts, (∀ s ∈ ss, sourceP ts s.name = some s) → Made ts fs want (opX k o no args [])) (hsh : OpShape k o no args.length := by first | (simp [OpShape]; done) | (simp [OpShape]; omega)) : Mk ss fs want (n + 1) (opX k o no args []) := by
  refine ⟨⟨?_, .ops n k o no args hsh fun x hx => (hd x hx).2⟩, h⟩
  have hl : ∀ l : List Ex, (∀ x ∈ l, dep x ≤ n) → depL l ≤ n := by
    intro l
    induction l with
    | nil => intro _; simp [depL]
    | cons x l ih =>
      intro h
      rw [depL]
      have := h x (by simp)
      have := ih fun y hy => h y (by simp [hy])
      omega
  have a := hl args fun x hx => (hd x hx).1
  simp only [opX, dep, depS]
  omega

/-- THE WALK of condition. -/
def condSome : Prop := True

set_option maxRecDepth 100000 in
set_option maxHeartbeats 4000000 in
theorem condition_tape (n : Nat) (hE : ExprOk n) (T : Nat) (depth : Int) (fa ta : Option Addr) (fc tc : Nat) (look : List UInt8 → List Col) (fs : List Frm) (ss : List Sch) (w : World) (hd : depth ≤ (n : Int) + 1) (hd0 : -5 ≤ depth) (hn : n ≤ 50) (ht : TapeOk T w) (hw : WordsOk T w)
    (hf : FrmsR (At T) w (.slice fa fs.length fc) fs) (hs : SchsR (At T) w (.slice ta ss.length tc) ss) (hP : PlaceP look fs ss (n + 1)) :
    Calls Tryz.prog 70 #[.pointer (some ⟨T, 0, none⟩), .agg #[.slice fa fs.length fc, .slice ta ss.length tc], .int .i64 depth] w (Gives T w (ExQ (Mk ss fs 2 (n + 1)) w)) := by
  have hTw := ht.lt
  have HEX := Lib.hid (fun (W : World) (q : Loc T (.slice fa fs.length fc) (.slice ta ss.length tc) w W) => place_expr hE hw hf hs hP q)
  have HKS := Lib.hid (fun (w' : World) (h : Loc T (.slice fa fs.length fc) (.slice ta ss.length tc) w w') => (show w'.cell? ⟨w.heap.size, 0, none⟩ = some (.slice fa fs.length fc) ∧ w'.cell? ⟨w.heap.size, 1, none⟩ = some (.slice ta ss.length tc) from ⟨h.place.1, h.place.2.1⟩))
  have HKR := Lib.hid (fun (wi w' : World) (h : Loc T (.slice fa fs.length fc) (.slice ta ss.length tc) w wi) (ks : Keep (At (w.heap.size + 1)) wi w') => (show w'.cell? ⟨w.heap.size, 0, none⟩ = some (.slice fa fs.length fc) ∧ w'.cell? ⟨w.heap.size, 1, none⟩ = some (.slice ta ss.length tc) from ⟨(ks.cell h.place.2.2 (by unfold At; omega)).trans h.place.1, (ks.cell h.place.2.2 (by unfold At; omega)).trans h.place.2.1⟩))
  have HKA := Lib.hid (fun (wi w1 : World) (h : Loc T (.slice fa fs.length fc) (.slice ta ss.length tc) w wi) (ks : Keep (At (w.heap.size + 1)) wi w1) (o : Obj) => HKR.out wi (w1.alloc o) h (ks.alloc o))
  have HT := Lib.hid ht
  clear hE ht hw hf hs hP
  have tok1 : Hid True := trivial
  have tok2 : Hid True := trivial
  have tok3 : Hid True := trivial
  have tok4 : Hid True := trivial
  have ed : IntKind.i64.wrap (depth - 1) = depth - 1 := IntWalk.i64_in _ (by omega)
  have ED := Lib.hid ed
  clear ed
  go_enter Tryz.func70, Tryz.ntmps70
  go_wp2_with fail
  generalize hW : ((w.alloc _).alloc _) = W0
  obtain ⟨s0, s1, hb0, hz0, hr0⟩ := world_2_10 hW
  have hp0 : W0.heap[w.heap.size]? = some (.cells #[.slice fa fs.length fc, .slice ta ss.length tc] 64 (0, 0)) := by rw [← hW]; exact ((Keep.refl (fun _ => False) (w.alloc _)).alloc _).block _ (by simp) id |>.trans (heap_alloc_new w _)
  clear hW
  have hL0 : Loc T (.slice fa fs.length fc) (.slice ta ss.length tc) w W0 := ⟨HT.out.bel hb0, .bel hb0, hp0, hr0⟩
  have L0 := Lib.hid hL0
  clear hb0 hz0 hr0 hp0 hL0 s0 s1
  go_wp2_with (first
    | (go_at_call 29; have _t := tok1; go_loud (refine (next_any T 3 _ (by omega) (by omega) L0.out.tape).mono ?_; rintro e w1 ⟨v, rfl, ⟨q, rfl, hq0, hq1⟩, ht, hk⟩; have L1 := Lib.hid (L0.out.step hTw ht hk); clear ht hk tok1))
    | (go_at_call 29; have _t := tok2; go_loud (refine (next_any T 6 _ (by omega) (by omega) L1.out.tape).mono ?_; rintro e w2 ⟨v, rfl, ⟨r, rfl, hr0, hr1⟩, ht, hk⟩; have L2 := Lib.hid (L1.out.step hTw ht hk); obtain ⟨p0, p1, pz⟩ := L2.out.place; clear ht hk tok2)))
  · refine (HEX.out _ L2.out (depth - 1) 2 (by omega) (by omega) (by omega) (by omega)).mono ?_
    rintro e w3 ⟨v, rfl, ⟨x, hx, hmk⟩, ht, hk⟩
    have hx0 := hx
    obtain ⟨a1, ac1, s1, sc1, rfl, _, _⟩ := hx0
    have L3 := Lib.hid (L2.out.step hTw ht hk)
    have HX := Lib.hid hx
    have HM := Lib.hid hmk
    clear hx hmk ht hk
    dsimp only
    obtain ⟨r0, r1, r2, r3, r4, r5, r6, r7, r8, r9, rf, rz⟩ := L3.out.res
    repeat (first | go_values | go_skip | go_guarded | go_step | go_upon)
    refine bodyPost_ret (v := .agg #[.int .i64 3, .int .i64 0, .bool false, .int .i64 0, .int .i64 0, .string ⟨#[]⟩, .string ⟨#[]⟩, .string ⟨#[]⟩, .slice (some ⟨w3.heap.size, 0, none⟩) 1 1, .slice none 0 0]) (by simp [results, Tryz.results70, go_sem, r0, r1, r2, r3, r4, r5, r6, r7, r8, r9, rz]) rfl ?_
    have FIN := ex1_fin (k := 3) (o := 0) (no := false) (P := Mk ss fs 2 (n + 1)) hTw L3.out HX.out (by have := L2.out.res.2.2.2.2.2.2.2.2.2.2.2; omega) (mk_op (fun y hy => by obtain rfl := List.mem_singleton.1 hy; exact HM.out.1) fun ts hts => made_not (HM.out.2 ts hts)) (keep_set10 _ _ (.int .i64 3) (.int .i64 0) (.bool false) (.int .i64 0) (.int .i64 0) (.string ⟨#[]⟩) (.string ⟨#[]⟩) (.string ⟨#[]⟩) (.slice (some ⟨w3.heap.size, 0, none⟩) 1 1) (.slice none 0 0)) (by simp)
    exact FIN
  · have ed := ED.out
    go_region_held3 (fun w' => w'.cell? ⟨w.heap.size, 0, none⟩ = some (.slice fa fs.length fc) ∧ w'.cell? ⟨w.heap.size, 1, none⟩ = some (.slice ta ss.length tc))
      (first | (with_reducible refine HKS.out _ ?_; first | with_reducible exact L6.out | with_reducible exact L5.out | with_reducible exact L4.out | with_reducible exact L3.out | with_reducible exact L2.out.drew | with_reducible exact L6.out.alloc hTw _) | (with_reducible refine HKA.out _ _ L6.out ?_ _; with_reducible exact keep_set10 _ _ _ _ _ _ _ _ _ _ _ _) | (with_reducible refine HKR.out _ _ L6.out ?_; with_reducible exact keep_set10 _ _ _ _ _ _ _ _ _ _ _ _))
      (first
        | (go_at_call 29; go_loud (refine (next_any T 2 _ (by omega) (by omega) (L2.out.drew).tape).mono ?_; rintro e w3 ⟨v, rfl, ⟨o, rfl, ho0, ho1⟩, ht, hk⟩; have eo : IntKind.i64.wrap (1 + o) = 1 + o := IntWalk.i64_in _ (by omega); have L3 := Lib.hid ((L2.out.drew).step hTw ht hk); clear ht hk))
        | (go_at_call 20; have _t := tok3; go_loud (refine (HEX.out _ L3.out (depth - 1) 2 (by omega) (by omega) (by omega) (by omega)).mono ?_; rintro e w4 ⟨v, rfl, ⟨x, hx, hmk⟩, ht, hk⟩; have hx0 := hx; obtain ⟨a1, ac1, s1, sc1, rfl, _, _⟩ := hx0; have L4 := Lib.hid ((L3.out).step hTw ht hk); have zw4 := (L3.out).place.2.2; have HX1 := Lib.hid hx; have HM1 := Lib.hid hmk; have HK1 := Lib.hid hk; clear hx hmk ht hk tok3))
        | (go_at_call 20; have _t := tok4; go_loud (refine (HEX.out _ L4.out (depth - 1) 2 (by omega) (by omega) (by omega) (by omega)).mono ?_; rintro e w5 ⟨v, rfl, ⟨y, hx, hmk⟩, ht, hk⟩; have hx0 := hx; obtain ⟨a2, ac2, s2, sc2, rfl, _, _⟩ := hx0; have L5 := Lib.hid ((L4.out).step hTw ht hk); have zw5 := (L4.out).place.2.2; have HX2 := Lib.hid hx; have HM2 := Lib.hid hmk; have HK2 := Lib.hid hk; clear hx hmk ht hk tok4))
        | (go_at_call 58; go_loud (refine (bin_ex (lo := w.heap.size + 1 + 1) (1 + o) (ex_low (ex_step (by omega) HX1.out HK2.out) (by have := L3.out.res.2.2.2.2.2.2.2.2.2.2.2; omega)) (ex_low HX2.out (by have := L4.out.res.2.2.2.2.2.2.2.2.2.2.2; omega)) (by have := L5.out.res.2.2.2.2.2.2.2.2.2.2.2; omega)).mono ?_; rintro e w6 ⟨v, rfl, hv, hb⟩; have hv0 := hv; obtain ⟨a9, ac9, s9, sc9, rfl, _, _⟩ := hv0; have L6 := Lib.hid (L5.out.bel hTw hb); have HV := Lib.hid hv; obtain ⟨r0, r1, r2, r3, r4, r5, r6, r7, r8, r9, rf, rz⟩ := L6.out.res; clear hv hb)))
    clear ed
    repeat (first | go_values | go_skip | go_guarded | go_step | go_upon)
    refine bodyPost_ret (v := .agg #[.int .i64 (binX (1 + o) x y).kind, .int .i64 (binX (1 + o) x y).op, .bool (binX (1 + o) x y).no, .int .i64 (binX (1 + o) x y).val.kind, .int .i64 (binX (1 + o) x y).val.int, .string (binX (1 + o) x y).val.text, .string (binX (1 + o) x y).table, .string (binX (1 + o) x y).name, .slice a9 (binX (1 + o) x y).args.length ac9, .slice s9 (binX (1 + o) x y).sub.length sc9]) (by simp [results, Tryz.results70, go_sem, r0, r1, r2, r3, r4, r5, r6, r7, r8, r9]) rfl ?_
    have FIN := ex_fin (P := Mk ss fs 2 (n + 1)) hTw L6.out HV.out (by omega) (keep_set10 _ _ (.int .i64 (binX (1 + o) x y).kind) (.int .i64 (binX (1 + o) x y).op) (.bool (binX (1 + o) x y).no) (.int .i64 (binX (1 + o) x y).val.kind) (.int .i64 (binX (1 + o) x y).val.int) (.string (binX (1 + o) x y).val.text) (.string (binX (1 + o) x y).table) (.string (binX (1 + o) x y).name) (.slice a9 (binX (1 + o) x y).args.length ac9) (.slice s9 (binX (1 + o) x y).sub.length sc9)) (mk_op (k := 5) (o := (1 + o)) (no := false) (args := [x, y]) (fun z hz => by simp at hz; rcases hz with rfl | rfl; exact HM1.out.1; exact HM2.out.1) fun ts hts => made_logic _ (by omega) (by omega) (HM1.out.2 ts hts) (HM2.out.2 ts hts))
    exact FIN
  · have ed := ED.out
    go_region_held3 (fun w' => w'.cell? ⟨w.heap.size, 0, none⟩ = some (.slice fa fs.length fc) ∧ w'.cell? ⟨w.heap.size, 1, none⟩ = some (.slice ta ss.length tc))
      (first | (with_reducible refine HKS.out _ ?_; first | with_reducible exact L4.out | with_reducible exact L3.out | with_reducible exact L2.out.drew | with_reducible exact L4.out.alloc hTw _) | (with_reducible refine HKA.out _ _ L4.out ?_ _; with_reducible exact keep_set10 _ _ _ _ _ _ _ _ _ _ _ _) | (with_reducible refine HKR.out _ _ L4.out ?_; with_reducible exact keep_set10 _ _ _ _ _ _ _ _ _ _ _ _))
      (first
        | (go_at_call 63; go_loud (refine (bool_any T 2 _ (by omega) (by omega) (L2.out.drew).tape).mono ?_; rintro e w3 ⟨v, rfl, ⟨b, rfl⟩, ht, hk⟩; have L3 := Lib.hid ((L2.out.drew).step hTw ht hk); clear ht hk))
        | (go_at_call 20; go_loud (refine (HEX.out _ L3.out (depth - 1) (1 + q) (by omega) (by omega) (by omega) (by omega)).mono ?_; rintro e w4 ⟨v, rfl, ⟨x, hx, hmk⟩, ht, hk⟩; have hx0 := hx; obtain ⟨a1, ac1, s1, sc1, rfl, _, _⟩ := hx0; have L4 := Lib.hid ((L3.out).step hTw ht hk); have zw4 := (L3.out).place.2.2; have HX1 := Lib.hid hx; have HM1 := Lib.hid hmk; have HK1 := Lib.hid hk; obtain ⟨r0, r1, r2, r3, r4, r5, r6, r7, r8, r9, rf, rz⟩ := L4.out.res; clear hx hmk ht hk)))
    clear ed
    repeat (first | go_values | go_skip | go_guarded | go_step | go_upon)
    refine bodyPost_ret (v := .agg #[.int .i64 6, .int .i64 0, .bool b, .int .i64 0, .int .i64 0, .string ⟨#[]⟩, .string ⟨#[]⟩, .string ⟨#[]⟩, .slice (some ⟨w4.heap.size, 0, none⟩) 1 1, .slice none 0 0]) (by simp [results, Tryz.results70, go_sem, r0, r1, r2, r3, r4, r5, r6, r7, r8, r9, rz]) rfl ?_
    have FIN := ex1_fin (k := 6) (o := 0) (no := b) (P := Mk ss fs 2 (n + 1)) hTw L4.out HX1.out (by have := L3.out.res.2.2.2.2.2.2.2.2.2.2.2; omega) (mk_op (fun y hy => by obtain rfl := List.mem_singleton.1 hy; exact HM1.out.1) fun ts hts => made_isnull b (HM1.out.2 ts hts)) (keep_set10 _ _ (.int .i64 6) (.int .i64 0) (.bool b) (.int .i64 0) (.int .i64 0) (.string ⟨#[]⟩) (.string ⟨#[]⟩) (.string ⟨#[]⟩) (.slice (some ⟨w4.heap.size, 0, none⟩) 1 1) (.slice none 0 0)) (by simp)
    exact FIN
  · have ed := ED.out
    go_region_held3 (fun w' => w'.cell? ⟨w.heap.size, 0, none⟩ = some (.slice fa fs.length fc) ∧ w'.cell? ⟨w.heap.size, 1, none⟩ = some (.slice ta ss.length tc))
      (first | (with_reducible refine HKS.out _ ?_; first | with_reducible exact L5.out | with_reducible exact L4.out | with_reducible exact L3.out | with_reducible exact L2.out.drew | with_reducible exact L5.out.alloc hTw _) | (with_reducible refine HKA.out _ _ L5.out ?_ _; with_reducible exact keep_set10 _ _ _ _ _ _ _ _ _ _ _ _) | (with_reducible refine HKR.out _ _ L5.out ?_; with_reducible exact keep_set10 _ _ _ _ _ _ _ _ _ _ _ _))
      (first
        | (go_at_call 20; have _t := tok3; go_loud (refine (HEX.out _ L2.out.drew (depth - 1) 1 (by omega) (by omega) (by omega) (by omega)).mono ?_; rintro e w3 ⟨v, rfl, ⟨x, hx, hmk⟩, ht, hk⟩; have hx0 := hx; obtain ⟨a1, ac1, s1, sc1, rfl, _, _⟩ := hx0; have L3 := Lib.hid ((L2.out.drew).step hTw ht hk); have zw3 := (L2.out.drew).place.2.2; have HX1 := Lib.hid hx; have HM1 := Lib.hid hmk; have HK1 := Lib.hid hk; clear hx hmk ht hk tok3))
        | (go_at_call 20; have _t := tok4; go_loud (refine (HEX.out _ L3.out (depth - 1) 1 (by omega) (by omega) (by omega) (by omega)).mono ?_; rintro e w4 ⟨v, rfl, ⟨y, hx, hmk⟩, ht, hk⟩; have hx0 := hx; obtain ⟨a2, ac2, s2, sc2, rfl, _, _⟩ := hx0; have L4 := Lib.hid ((L3.out).step hTw ht hk); have zw4 := (L3.out).place.2.2; have HX2 := Lib.hid hx; have HM2 := Lib.hid hmk; have HK2 := Lib.hid hk; clear hx hmk ht hk tok4))
        | (go_at_call 20; go_loud (refine (HEX.out _ L4.out (depth - 1) 1 (by omega) (by omega) (by omega) (by omega)).mono ?_; rintro e w5 ⟨v, rfl, ⟨z, hx, hmk⟩, ht, hk⟩; have hx0 := hx; obtain ⟨a3, ac3, s3, sc3, rfl, _, _⟩ := hx0; have L5 := Lib.hid ((L4.out).step hTw ht hk); have zw5 := (L4.out).place.2.2; have HX3 := Lib.hid hx; have HM3 := Lib.hid hmk; have HK3 := Lib.hid hk; obtain ⟨r0, r1, r2, r3, r4, r5, r6, r7, r8, r9, rf, rz⟩ := L5.out.res; clear hx hmk ht hk)))
    clear ed
    repeat (first | go_values | go_skip | go_guarded | go_step | go_upon)
    refine bodyPost_ret (v := .agg #[.int .i64 7, .int .i64 0, .bool false, .int .i64 0, .int .i64 0, .string ⟨#[]⟩, .string ⟨#[]⟩, .string ⟨#[]⟩, .slice (some ⟨w5.heap.size, 0, none⟩) 3 3, .slice none 0 0]) (by simp [results, Tryz.results70, go_sem, r0, r1, r2, r3, r4, r5, r6, r7, r8, r9, rz]) rfl ?_
    have FIN := ex3_fin (lo := w.heap.size + 1 + 1) (k := 7) (o := 0) (no := false) (P := Mk ss fs 2 (n + 1)) hTw L5.out (ex_low (lo := w2.heap.size) (ex_step (by omega) (ex_step (by omega) HX1.out HK2.out) HK3.out) (by have := L2.out.res.2.2.2.2.2.2.2.2.2.2.2; omega)) (ex_low (ex_step (by omega) HX2.out HK3.out) (by have := L2.out.res.2.2.2.2.2.2.2.2.2.2.2; have := L3.out.res.2.2.2.2.2.2.2.2.2.2.2; omega)) (ex_low HX3.out (by have := L4.out.res.2.2.2.2.2.2.2.2.2.2.2; omega)) (Nat.le_refl _)
      (mk_op (fun u hu => by simp at hu; rcases hu with rfl | rfl | rfl; exact HM1.out.1; exact HM2.out.1; exact HM3.out.1) fun ts hts => made_between (HM1.out.2 ts hts) (HM2.out.2 ts hts) (HM3.out.2 ts hts)) (keep_set10 _ _ (.int .i64 7) (.int .i64 0) (.bool false) (.int .i64 0) (.int .i64 0) (.string ⟨#[]⟩) (.string ⟨#[]⟩) (.string ⟨#[]⟩) (.slice (some ⟨w5.heap.size, 0, none⟩) 3 3) (.slice none 0 0)) (by simp)
    exact FIN
  · have ed := ED.out
    go_region_held3 (fun w' => w'.cell? ⟨w.heap.size, 0, none⟩ = some (.slice fa fs.length fc) ∧ w'.cell? ⟨w.heap.size, 1, none⟩ = some (.slice ta ss.length tc))
      (first | (with_reducible refine HKS.out _ ?_; first | with_reducible exact L6.out | with_reducible exact L5.out | with_reducible exact L4.out | with_reducible exact L3.out | with_reducible exact L2.out.drew | with_reducible exact L6.out.alloc hTw _) | (with_reducible refine HKA.out _ _ L6.out ?_ _; with_reducible exact keep_set10 _ _ _ _ _ _ _ _ _ _ _ _) | (with_reducible refine HKR.out _ _ L6.out ?_; with_reducible exact keep_set10 _ _ _ _ _ _ _ _ _ _ _ _))
      (first
        | (go_at_call 29; go_loud (refine (next_any T 6 _ (by omega) (by omega) (L2.out.drew).tape).mono ?_; rintro e w3 ⟨v, rfl, ⟨o, rfl, ho0, ho1⟩, ht, hk⟩; have eo : IntKind.i64.wrap (3 + o) = 3 + o := IntWalk.i64_in _ (by omega); have L3 := Lib.hid ((L2.out.drew).step hTw ht hk); clear ht hk))
        | (go_at_call 20; have _t := tok3; go_loud (refine (HEX.out _ L3.out (depth - 1) (1 + q) (by omega) (by omega) (by omega) (by omega)).mono ?_; rintro e w4 ⟨v, rfl, ⟨x, hx, hmk⟩, ht, hk⟩; have hx0 := hx; obtain ⟨a1, ac1, s1, sc1, rfl, _, _⟩ := hx0; have L4 := Lib.hid ((L3.out).step hTw ht hk); have zw4 := (L3.out).place.2.2; have HX1 := Lib.hid hx; have HM1 := Lib.hid hmk; have HK1 := Lib.hid hk; clear hx hmk ht hk tok3))
        | (go_at_call 20; have _t := tok4; go_loud (refine (HEX.out _ L4.out (depth - 1) (1 + q) (by omega) (by omega) (by omega) (by omega)).mono ?_; rintro e w5 ⟨v, rfl, ⟨y, hx, hmk⟩, ht, hk⟩; have hx0 := hx; obtain ⟨a2, ac2, s2, sc2, rfl, _, _⟩ := hx0; have L5 := Lib.hid ((L4.out).step hTw ht hk); have zw5 := (L4.out).place.2.2; have HX2 := Lib.hid hx; have HM2 := Lib.hid hmk; have HK2 := Lib.hid hk; clear hx hmk ht hk tok4))
        | (go_at_call 58; go_loud (refine (bin_ex (lo := w.heap.size + 1 + 1) (3 + o) (ex_low (ex_step (by omega) HX1.out HK2.out) (by have := L3.out.res.2.2.2.2.2.2.2.2.2.2.2; omega)) (ex_low HX2.out (by have := L4.out.res.2.2.2.2.2.2.2.2.2.2.2; omega)) (by have := L5.out.res.2.2.2.2.2.2.2.2.2.2.2; omega)).mono ?_; rintro e w6 ⟨v, rfl, hv, hb⟩; have hv0 := hv; obtain ⟨a9, ac9, s9, sc9, rfl, _, _⟩ := hv0; have L6 := Lib.hid (L5.out.bel hTw hb); have HV := Lib.hid hv; obtain ⟨r0, r1, r2, r3, r4, r5, r6, r7, r8, r9, rf, rz⟩ := L6.out.res; clear hv hb)))
    clear ed
    repeat (first | go_values | go_skip | go_guarded | go_step | go_upon)
    refine bodyPost_ret (v := .agg #[.int .i64 (binX (3 + o) x y).kind, .int .i64 (binX (3 + o) x y).op, .bool (binX (3 + o) x y).no, .int .i64 (binX (3 + o) x y).val.kind, .int .i64 (binX (3 + o) x y).val.int, .string (binX (3 + o) x y).val.text, .string (binX (3 + o) x y).table, .string (binX (3 + o) x y).name, .slice a9 (binX (3 + o) x y).args.length ac9, .slice s9 (binX (3 + o) x y).sub.length sc9]) (by simp [results, Tryz.results70, go_sem, r0, r1, r2, r3, r4, r5, r6, r7, r8, r9]) rfl ?_
    have FIN := ex_fin (P := Mk ss fs 2 (n + 1)) hTw L6.out HV.out (by omega) (keep_set10 _ _ (.int .i64 (binX (3 + o) x y).kind) (.int .i64 (binX (3 + o) x y).op) (.bool (binX (3 + o) x y).no) (.int .i64 (binX (3 + o) x y).val.kind) (.int .i64 (binX (3 + o) x y).val.int) (.string (binX (3 + o) x y).val.text) (.string (binX (3 + o) x y).table) (.string (binX (3 + o) x y).name) (.slice a9 (binX (3 + o) x y).args.length ac9) (.slice s9 (binX (3 + o) x y).sub.length sc9)) (mk_op (k := 5) (o := (3 + o)) (no := false) (args := [x, y]) (fun z hz => by simp at hz; rcases hz with rfl | rfl; exact HM1.out.1; exact HM2.out.1) fun ts hts => made_compare _ (by omega) (by omega) (HM1.out.2 ts hts) (HM2.out.2 ts hts))
    exact FIN

end Go.Proofs.YtpnigfmclmfjaaaGreatDoor
