/- Types of expressions: the contract of scope.Type, for every expression. -/
import Derived.Test.YtiheioajnfggmaaDoorC12
namespace Go.Proofs.YtiheioajnfggmaaDoor
open Go.RowKit

theorem infoInt : (Tryd.prog.info? 3).map (fun i => (i.zero, i.size, i.bytes)) = some (some (.int .i64 0), 1, 8) := by kernel_rfl

theorem ints_flat : ∀ l : List Int, (l.map fun x => [Value.int .i64 x]).flatten = l.map (Value.int .i64)
  | [] => rfl
  | x :: l => by rw [List.map_cons, List.flatten_cons, ints_flat l]; rfl

theorem own_ints {M : Nat → Prop} {lo : Nat} {w : World} {v : Value} {n : Nat} {l : List Int} (h : w.ownsRow lo 3 1 v n (l.map (Value.int .i64))) (hn : n = l.length) (hM : ∀ k, lo ≤ k → k < w.heap.size → ¬ M k) : IntsR M w v l := by
  have he := ints_flat l
  refine RowsR.mk (l.map fun x => [Value.int .i64 x]) (slice_of_own (e := 3) (base := lo) (by rw [he]; simpa [hn] using h) (by simp) hM) (by simp) fun i x cs hi hc => ?_
  rw [List.getElem?_map, hi] at hc
  simp at hc
  exact hc.symm

/-- What is owned stays so while new blocks alone are made. -/
theorem own_bel {w w' : World} {base : Nat} {e : TypeId} {size : Nat} {v : Value} {n : Nat} {xs : List Value} (h : w.ownsRow base e size v n xs) (k : Below w.heap.size w w') : w'.ownsRow base e size v n xs := by
  obtain ⟨h1, h2⟩ := h
  refine ⟨h1, ?_⟩
  rcases h2 with h2 | ⟨g, cap, cur, hv, hg, hh, r⟩
  · exact .inl h2
  · exact .inr ⟨g, cap, cur, hv, hg, by rw [k.block g (Array.getElem?_eq_some_iff.1 hh).1]; exact hh, r⟩

theorem typeL_step (ts : List Sch) (fs : List Frm) : ∀ (l : List Ex) (k : Nat) (x : Ex) (l' : List Int), l[k]? = some x → typeL ts (l.take k) fs = .ok l' →
    typeL ts (l.take (k + 1)) fs = (if (typeP ts x fs).2 ≠ 0 then .error (typeP ts x fs).2 else .ok (l' ++ [(typeP ts x fs).1]))
  | [], k, x, l', h, _ => by simp at h
  | e :: es, 0, x, l', h, hl => by
    simp at h
    subst h
    simp only [List.take_zero, typeL] at hl
    cases hl
    rw [List.take_succ_cons, List.take_zero, typeL, typeL]
    rfl
  | e :: es, k + 1, x, l', h, hl => by
    simp only [List.getElem?_cons_succ] at h
    rw [List.take_succ_cons, typeL] at hl
    rw [List.take_succ_cons, typeL]
    by_cases hc : (typeP ts e fs).2 ≠ 0
    · rw [if_pos hc] at hl; cases hl
    · rw [if_neg hc] at hl ⊢
      cases hr : typeL ts (es.take k) fs with
      | error c => rw [hr] at hl; cases hl
      | ok r =>
        rw [hr] at hl
        cases hl
        rw [typeL_step ts fs es k x r h hr]
        by_cases hx : (typeP ts x fs).2 ≠ 0
        · rw [if_pos hx, if_pos hx]
        · rw [if_neg hx, if_neg hx]; rfl

theorem typeL_error (ts : List Sch) (fs : List Frm) : ∀ (l : List Ex) (k : Nat) (c : Int), typeL ts (l.take k) fs = .error c → typeL ts l fs = .error c
  | [], k, c, h => by simpa using h
  | e :: es, 0, c, h => by simp [typeL] at h
  | e :: es, k + 1, c, h => by
    rw [List.take_succ_cons, typeL] at h
    rw [typeL]
    by_cases hc : (typeP ts e fs).2 ≠ 0
    · rw [if_pos hc] at h ⊢; exact h
    · rw [if_neg hc] at h ⊢
      cases hr : typeL ts (es.take k) fs with
      | error c' =>
        rw [hr] at h
        rw [typeL_error ts fs es k c' hr]
        exact h
      | ok r => rw [hr] at h; cases h

section
variable (ts : List Sch) (k o : Int) (no : Bool) (vk vi : Int) (vt t nm : ByteArray) (a sa : Option Addr) (args : List Ex) (an ac sn sc : Nat) (fs : List Frm) (vf vtb : Value) (w : World) (r : Bool)
  (hfm : ∀ w', Below w.heap.size w w' → Calls Tryd.prog 68 #[.agg #[.int .i64 k, .int .i64 o, .bool no, .int .i64 vk, .int .i64 vi, .string vt, .string t, .string nm, .slice a an ac, .slice sa sn sc]] w' (RetBel (.bool r) w'))

set_option maxHeartbeats 1000000 in
include hfm in
theorem type_bad (hr : r = false) : Calls Tryd.prog 22 #[.agg #[.int .i64 k, .int .i64 o, .bool no, .int .i64 vk, .int .i64 vi, .string vt, .string t, .string nm, .slice a an ac, .slice sa sn sc], vf, vtb] w (RetII (0, 17) w) := by
  subst hr
  have HF := Lib.hid hfm
  clear hfm
  go_enter Tryd.func22, Tryd.ntmps22
  go_wp2_with (go_at_call 68; refine (HF.out _ (by go_grown)).mono ?_; rintro e w1 ⟨rfl, hb⟩; have HB := Lib.hid hb; clear hb)
  go_ret2
  exact ⟨rfl, ((Below.refl _ w).alloc (Nat.le_refl _) _).trans (HB.out.mono (by simp <;> omega))⟩

set_option maxHeartbeats 1000000 in
include hfm in
theorem type_lit (hr : r = true) (hk : k = 1) : Calls Tryd.prog 22 #[.agg #[.int .i64 k, .int .i64 o, .bool no, .int .i64 vk, .int .i64 vi, .string vt, .string t, .string nm, .slice a an ac, .slice sa sn sc], vf, vtb] w (RetII (vk, 0) w) := by
  subst hr
  subst hk
  have HF := Lib.hid hfm
  clear hfm
  go_enter Tryd.func22, Tryd.ntmps22
  go_wp2_with (go_at_call 68; refine (HF.out _ (by go_grown)).mono ?_; rintro e w1 ⟨rfl, hb⟩; obtain ⟨k1, k2, k3⟩ := bcell hb; simp only [World.size_alloc] at k1 k2 k3; have k4 : w.heap.size < w1.heap.size := (by omega); have h1 := ((Below.refl _ w).alloc (Nat.le_refl _) _).trans (hb.mono (by simp <;> omega)); have HB := Lib.hid h1; clear hb h1)
  go_ret2
  exact ⟨rfl, HB.out⟩

set_option maxHeartbeats 1000000 in
include hfm in
theorem type_col_none (hr : r = true) (hk : k = 2) (hf : FrmsR NoM w vf fs) (hn : resolve t nm fs = none) : Calls Tryd.prog 22 #[.agg #[.int .i64 k, .int .i64 o, .bool no, .int .i64 vk, .int .i64 vi, .string vt, .string t, .string nm, .slice a an ac, .slice sa sn sc], vf, vtb] w (RetII (0, 3) w) := by
  subst hr
  subst hk
  have hres := fun (w' : World) (hb : Below w.heap.size w w') => resolve_any (M := NoM) vf fs t nm w' (hf.keep (.bel hb))
  rw [hn] at hres
  have HF := Lib.hid hfm
  have HR := Lib.hid hres
  clear hfm hres hf hn
  go_enter Tryd.func22, Tryd.ntmps22
  go_wp2_with (first | (go_at_call 68; refine (HF.out _ (by go_grown)).mono ?_; rintro e w1 ⟨rfl, hb⟩; obtain ⟨k1, k2, k3⟩ := bcell hb; simp only [World.size_alloc] at k1 k2 k3; have k4 : w.heap.size < w1.heap.size := (by omega); have h1 := ((Below.refl _ w).alloc (Nat.le_refl _) _).trans (hb.mono (by simp <;> omega)); have HB := Lib.hid h1; clear hb h1) | (go_at_call 17; refine (HR.out _ HB.out).mono ?_; rintro e w2 ⟨rfl, hb⟩; simp only [resV]; have h2 := HB.out.trans (hb.mono (Nat.le_of_lt k4)); have H2 := Lib.hid h2; clear hb h2))
  go_ret2
  exact ⟨rfl, H2.out⟩

set_option maxHeartbeats 1000000 in
include hfm in
theorem type_col_some (hr : r = true) (hk : k = 2) (hf : FrmsR NoM w vf fs) (i j : Nat) (f : Frm) (c : Col) (hn : resolve t nm fs = some (i, j)) (hi : fs[i]? = some f) (hj : f.cols[j]? = some c) : Calls Tryd.prog 22 #[.agg #[.int .i64 k, .int .i64 o, .bool no, .int .i64 vk, .int .i64 vi, .string vt, .string t, .string nm, .slice a an ac, .slice sa sn sc], vf, vtb] w (RetII (c.type, 0) w) := by
  subst hr
  subst hk
  have hres := fun (w' : World) (hb : Below w.heap.size w w') => resolve_any (M := NoM) vf fs t nm w' (hf.keep (.bel hb))
  rw [hn] at hres
  have hil : i < fs.length := (List.getElem?_eq_some_iff.1 hi).1
  have hjl : j < f.cols.length := (List.getElem?_eq_some_iff.1 hj).1
  rcases hf.open with ⟨_, h⟩ | ⟨b, of, cap, rfl, _, hb, hcap, hm, hx⟩
  · subst h; simp at hil
  obtain ⟨cs, ⟨vc, fa, fn, fc, rfl, hcols⟩, _, hcs⟩ := hx i f hi
  rcases hcols.open with ⟨_, h⟩ | ⟨cb, co, ccap, rfl, _, hcb, hccap, hcm, hcx⟩
  · rw [h] at hjl; simp at hjl
  obtain ⟨ccs, rfl, _, hccs⟩ := hcx j c hj
  have x2 := hcs.c4.2.2.1
  have y1 := hccs.c4.2.1
  have HF := Lib.hid hfm
  have HR := Lib.hid hres
  clear hfm hres hf hn hx hcx hcs hccs hcols hi hj
  unfold maxLen at hm hcm
  go_enter Tryd.func22, Tryd.ntmps22
  go_wp2_with (first | (go_at_call 68; refine (HF.out _ (by go_grown)).mono ?_; rintro e w1 ⟨rfl, hb⟩; obtain ⟨k1, k2, k3⟩ := bcell hb; simp only [World.size_alloc] at k1 k2 k3; have k4 : w.heap.size < w1.heap.size := (by omega); have h1 := ((Below.refl _ w).alloc (Nat.le_refl _) _).trans (hb.mono (by simp <;> omega)); have HB := Lib.hid h1; clear hb h1) | (go_at_call 17; refine (HR.out _ HB.out).mono ?_; rintro e w2 ⟨rfl, hb⟩; simp only [resV]; have h2 := HB.out.trans (hb.mono (Nat.le_of_lt k4)); obtain ⟨j1, _, _⟩ := bcell h2; have H2 := Lib.hid h2; clear hb h2))
  go_ret2
  exact ⟨rfl, H2.out⟩

set_option maxHeartbeats 1000000 in
include hfm in
theorem type_sub (hr : r = true) (hk : 8 ≤ k) (hk2 : k ≤ 12) (res : Int × Int)
    (hag : ∀ w', Below w.heap.size w w' → Calls Tryd.prog 69 #[.agg #[.int .i64 k, .int .i64 o, .bool no, .int .i64 vk, .int .i64 vi, .string vt, .string t, .string nm, .slice a an ac, .slice sa sn sc], vf, vtb] w' (RetII res w')) : Calls Tryd.prog 22 #[.agg #[.int .i64 k, .int .i64 o, .bool no, .int .i64 vk, .int .i64 vi, .string vt, .string t, .string nm, .slice a an ac, .slice sa sn sc], vf, vtb] w (RetII res w) := by
  subst hr
  have HF := Lib.hid hfm
  have HA := Lib.hid hag
  clear hfm hag
  have b1 : (k == 1) = false := by simp; omega
  have b2 : (k == 2) = false := by simp; omega
  have hk' : k = 8 ∨ k = 9 ∨ k = 10 ∨ k = 11 ∨ k = 12 := by omega
  clear hk hk2
  rcases hk' with rfl | rfl | rfl | rfl | rfl
  all_goals
    clear b1 b2
    go_enter Tryd.func22, Tryd.ntmps22
    go_wp2_with (first | (go_at_call 68; refine (HF.out _ (by go_grown)).mono ?_; rintro e w1 ⟨rfl, hb⟩; obtain ⟨k1, k2, k3⟩ := bcell hb; simp only [World.size_alloc] at k1 k2 k3; have k4 : w.heap.size < w1.heap.size := (by omega); have h1 := ((Below.refl _ w).alloc (Nat.le_refl _) _).trans (hb.mono (by simp <;> omega)); have HB := Lib.hid h1; clear hb h1) | (go_at_call 69; refine (HA.out _ HB.out).mono ?_; rintro e w2 ⟨rfl, hb⟩; have h2 := HB.out.trans (hb.mono (Nat.le_of_lt k4)); have H2 := Lib.hid h2; clear hb h2))
    go_ret2
    exact ⟨rfl, H2.out⟩
end

set_option maxRecDepth 100000 in
set_option maxHeartbeats 2000000 in
theorem type_args (ts : List Sch) (k o : Int) (no : Bool) (vk vi : Int) (vt t nm : ByteArray) (a sa : Option Addr) (args : List Ex) (ac sn sc : Nat) (fs : List Frm) (vf vtb : Value) (w : World)
    (hfm : ∀ w', Below w.heap.size w w' → Calls Tryd.prog 68 #[.agg #[.int .i64 k, .int .i64 o, .bool no, .int .i64 vk, .int .i64 vi, .string vt, .string t, .string nm, .slice a args.length ac, .slice sa sn sc]] w' (RetBel (.bool true) w'))
    (hk : 3 ≤ k) (hk2 : k ≤ 7) (hn : args.length ≤ 3) (ha : ExsR NoM w (.slice a args.length ac) args) (hf : FrmsR NoM w vf fs) (ht : TblsR NoM w vtb ts) (hta : ∀ x ∈ args, TypeOk ts x) (hd : fs.length + depL args ≤ 1000000000) (res : Int × Int) (hres : (match typeL ts args fs with | .error c => (0, c) | .ok l => operationP k o l) = res) :
    Calls Tryd.prog 22 #[.agg #[.int .i64 k, .int .i64 o, .bool no, .int .i64 vk, .int .i64 vi, .string vt, .string t, .string nm, .slice a args.length ac, .slice sa sn sc], vf, vtb] w (RetII res w) := by
  have HRES := Lib.hid hres
  clear hres
  obtain ⟨i0, hi0, hz0, hz1, hz2⟩ := info_parts infoInt
  have b1 : (k == 1) = false := by simp; omega
  have b2 : (k == 2) = false := by simp; omega
  have b8 : (k == 8) = false := by simp; omega
  have b9 : (k == 9) = false := by simp; omega
  have b10 : (k == 10) = false := by simp; omega
  have b11 : (k == 11) = false := by simp; omega
  have b12 : (k == 12) = false := by simp; omega
  clear hk hk2
  have hty := fun (w' : World) (hb : Below w.heap.size w w') x (hx : x ∈ args) cs (hc : EC NoM w' x cs) => hta x hx fs cs vf vtb w' hc (hf.keep (.bel hb)) (ht.keep (.bel hb)) (by have := depL_mem hx; omega)
  have hop := fun (w' : World) v l (hv : IntsR NoM w' v l) => operation_any (M := NoM) k o no vk vi vt t nm (.slice a args.length ac) (.slice sa sn sc) v l w' hv
  have HF := Lib.hid hfm
  have HT := Lib.hid hty
  have HO := Lib.hid hop
  have HA := Lib.hid ha
  have HE := Lib.hid (typeL_error ts fs args)
  have HS := Lib.hid (typeL_step ts fs args)
  have H0 : Hid (typeL ts (args.take 0) fs = .ok []) := Lib.hid (by simp [typeL])
  have H1 : Hid (args.take args.length = args) := Lib.hid (by simp)
  clear hfm hty hop ha hf ht hta hd
  go_enter Tryd.func22, Tryd.ntmps22
  go_wp2_with (go_at_call 68; refine (HF.out _ (by go_grown)).mono ?_; rintro e w1 ⟨rfl, hb⟩; obtain ⟨k1, k2, k3⟩ := bcell hb; simp only [World.size_alloc] at k1 k2 k3; have k4 : w.heap.size < w1.heap.size := (by omega); have h1 := ((Below.refl _ w).alloc (Nat.le_refl _) _).trans (hb.mono (by simp <;> omega)); have HB := Lib.hid h1; clear hb h1)
  go_loopw [11, 64] (fun v i wr => ∃ (j : Nat) (l' : List Int), j ≤ args.length ∧ i = .int .i64 j ∧ Below w1.heap.size w1 wr ∧ l'.length = j ∧ wr.ownsRow w1.heap.size 3 1 v j (l'.map (Value.int .i64)) ∧ typeL ts (args.take j) fs = .ok l') (fun _ i _ => args.length - (intOf i).toNat)
  case atStart => exact ⟨0, [], Nat.zero_le _, rfl, Below.refl _ _, rfl, World.ownsRow_nil .., H0.out⟩
  case round =>
    obtain ⟨j, l', hj, rfl, hbel, hl', hown, hok⟩ := hrel
    obtain ⟨r1, r2, r3⟩ := bcell hbel
    have r4 : w.heap.size < wr.heap.size := by omega
    have h2 := HB.out.trans (hbel.mono (Nat.le_of_lt k4))
    by_cases hlt : j < args.length
    · rcases HA.out.open with ⟨_, h⟩ | ⟨ab, ao, cap', hv', _, hab, _, _, hx⟩
      · rw [h] at hlt; simp at hlt
      simp only [Value.slice.injEq] at hv'
      obtain ⟨rfl, _, rfl⟩ := hv'
      have hxj : args[j]? = some args[j] := List.getElem?_eq_getElem hlt
      obtain ⟨cs, hc, _, hcs⟩ := hx j _ hxj
      have hmem := List.mem_of_getElem? hxj
      have hst := HS.out j _ l' hxj hok
      generalize args[j] = x at hxj hc hmem hst
      have hcw := EC.keep (.bel h2) x cs hc
      have hty := fun o => HT.out (wr.alloc o) (h2.alloc (Nat.le_of_lt r4) o) x hmem cs (EC.keep ((Keep.refl NoM wr).alloc o) x cs hcw)
      have hcs' := hcs.keep (Keep.bel (M := NoM) h2) id
      obtain ⟨va, vs, rfl, hva, hvs⟩ := (EC_iff ..).1 hc
      obtain ⟨xa, xac, rfl, _⟩ := hva.shape
      obtain ⟨xs, xsc, rfl, _⟩ := hvs.shape
      obtain ⟨c0, c1, c2, c3, c4, c5, c6, c7, c8, c9⟩ := CellsAt.c10 hcs'
      simp only [exCells] at hty
      generalize typeP ts x fs = r at hty hst
      obtain ⟨rt, rc⟩ := r
      simp only [] at hst
      have HTY := Lib.hid hty
      have HST := Lib.hid hst
      have HOW := Lib.hid hown
      have HL := Lib.hid hl'
      have HBE := Lib.hid hbel
      have H2 := Lib.hid h2
      clear hty hst hown hl' hbel h2 hok hx hc hcs hcs' hcw hva hvs hxj hmem
      by_cases hr0 : rc = 0
      · subst hr0
        go_wp2_with (first
          | (go_at_call 22; refine (HTY.out _).mono ?_; rintro e w2 ⟨rfl, hb⟩; have HB2 := Lib.hid hb; clear hb)
          | (at_builtin; refine wpList_append_own _ rfl _ _ 22 rfl w1.heap.size 3 i0 (.int .i64 0) 1 8 Tryd.underlying22 hi0 hz0 hz1 hz2 rfl (by decide) _ j (l'.map (Value.int .i64)) rfl ((own_bel (HOW.out.alloc _) HB2.out).alloc _) ⟨w2.heap.size, 0, none⟩ 1 1 [.int .i64 rt] rfl rfl (cell_one_new _ _ _) (by simp [Value.oneCell']) (by unfold maxLen; omega) (by omega) (by have h5 := HB2.out.size; simp at h5 ⊢; omega) ?_; intro v' w3 hown' hgrow _; have HW := Lib.hid hown'; have HG := Lib.hid hgrow; clear hown' hgrow))
        go_roundw
        case rel =>
          have h5 := HB2.out.size
          have hb2 : Below w1.heap.size w1 w2 := (HBE.out.alloc (by omega) _).trans (HB2.out.mono (by simp; omega))
          have hb3 : Below w1.heap.size w1 w3 := (hb2.alloc hb2.size _).grown HG.out (by simp; have := hb2.size; omega) (fun k h => by have := (HOW.out.lt k h).1; omega)
          exact ⟨j + 1, l' ++ [rt], by omega, by go_num, hb3, by simp [HL.out], by simpa using HW.out, by rw [HST.out]; rfl⟩
        case measure => simp [intOf]; omega
      · have hb0 : (rc == 0) = false := by simpa using hr0
        have hb1 : (rc != 0) = true := by simpa using hr0
        clear hr0
        go_wp2_with (go_at_call 22; refine (HTY.out _).mono ?_; rintro e w2 ⟨rfl, hb⟩; have HB2 := Lib.hid hb; clear hb)
        go_ret2
        refine ⟨?_, H2.out.trans (((Below.refl _ wr).alloc (Nat.le_refl _) _).trans (HB2.out.mono (by simp)) |>.mono (Nat.le_of_lt r4))⟩
        have he : typeL ts args fs = .error rc := HE.out (j + 1) rc (by rw [HST.out, if_pos (by simpa using hb1)])
        rw [← HRES.out, he]
        rfl
    · have hja : j = args.length := by omega
      have hint := own_ints (M := NoM) hown hl'.symm fun _ _ _ => id
      have hall : typeL ts args fs = .ok l' := by rw [← hok, hja, H1.out]
      have hlen := HRES.out
      rw [hall] at hlen
      have hopr := HO.out wr u11 l' hint
      simp only [] at hlen
      rw [hlen] at hopr
      have HOP := Lib.hid hopr
      have H2 := Lib.hid h2
      have HJ := Lib.hid hja
      clear hopr hint hall hlen hown hl' hok h2 hbel hja
      have hge : ¬ j < args.length := hlt
      go_wp2_with (go_at_call 70; refine HOP.out.mono ?_; rintro e w2 ⟨rfl, hb⟩; have HB2 := Lib.hid hb; clear hb)
      go_ret2
      exact ⟨rfl, H2.out.trans (HB2.out.mono (Nat.le_of_lt r4))⟩

end Go.Proofs.YtiheioajnfggmaaDoor
