/- Expressions from the tape: the contract of Expr. -/
import Derived.Test.YtpnigfmclmfjaaaGreatDoorD8
namespace Go.Proofs.YtpnigfmclmfjaaaGreatDoor
open Go.RowKit

theorem dep_bare {k o : Int} {no : Bool} {x : Val} {t nm : ByteArray} : dep (.mk k o no x t nm [] []) = 0 := by simp [dep, depL, depS]
theorem mk_lit {ss : List Sch} {fs : List Frm} {want : Int} {n : Nat} (x : Val) (hv : ValidVal x) (h0 : x.kind = 1 → 0 ≤ x.int) (h : x.kind = 0 ∨ x.kind = want) : Mk ss fs want n (.mk 1 0 false x ⟨#[]⟩ ⟨#[]⟩ [] []) := ⟨⟨by rw [dep_bare]; omega, .lit n x hv h0⟩, fun ts _ => made_lit ts fs want x h⟩
theorem mk_num {ss : List Sch} {fs : List Frm} {n : Nat} (m : Int) (h1 : -1000 ≤ m := by omega) (h2 : m ≤ 1000 := by omega) : Mk ss fs 1 n (numX m) := by
  refine ⟨⟨?_, .num n m h1 h2⟩, fun ts _ => made_num ts fs m⟩
  unfold numX
  split <;> simp [negX, litX, dep, depL, depS]
theorem col_P {look : List UInt8 → List Col} {fs : List Frm} {ss : List Sch} {want : Int} {n : Nat} (h : Named look fs ss) (hN : PlaceN fs ss) : ∀ j f c, fs[j]? = some f → c ∈ f.cols → c.type = want → Mk ss fs want n (colX f.name c.name) ∧ (f.strict = false → j + 1 = fs.length → Mk ss fs want n (colX ⟨#[]⟩ c.name)) := by
  intro j f c hf hc ht
  subst ht
  have hcn := hN.1 f (List.mem_of_getElem? hf) c hc
  refine ⟨⟨⟨by simp [colX, dep_bare], .col n _ _ hcn⟩, fun ts _ => made_qual h (List.mem_of_getElem? hf) hc⟩, fun hs hj => ⟨⟨by simp [colX, dep_bare], .col n _ _ (columnB_bare hcn)⟩, fun ts _ => ?_⟩⟩
  have hlt := (List.getElem?_eq_some_iff.1 hf).1
  have he : fs = fs.take j ++ [f] := by
    have h1 := List.take_add_one (l := fs) (i := j)
    rw [hf, hj, List.take_length] at h1
    exact h1
  rw [he] at h ⊢
  exact made_bare h hs hc

def opT (r : Int) : Int := if r = 0 ∨ r = 3 then 9 else if r = 1 then 10 else if r = 2 then 11 else if r = 4 then 12 else 13
theorem opT_9 (r : Int) : 9 ≤ opT r := by unfold opT; split <;> (try split) <;> (try split) <;> (try split) <;> omega
theorem opT_13 (r : Int) : opT r ≤ 13 := by unfold opT; split <;> (try split) <;> (try split) <;> (try split) <;> omega
theorem op_cell (W : World) (r : Int) (h0 : 0 ≤ r) (h1 : r < 6) : (W.alloc (.cells #[.int .i64 9, .int .i64 10, .int .i64 11, .int .i64 9, .int .i64 12, .int .i64 13] 3)).cell? ⟨W.heap.size, r.toNat, none⟩ = some (.int .i64 (opT r)) := by
  have h : r = 0 ∨ r = 1 ∨ r = 2 ∨ r = 3 ∨ r = 4 ∨ r = 5 := by omega
  rcases h with rfl | rfl | rfl | rfl | rfl | rfl <;> simp [opT]

/-- More may be asked of the worlds between the operations. -/
theorem wpAnyH_strong {P : Program} {md : Region.Mode} {ops : Array Oper} {Q : Exit → Act → World → Prop} {S S' : World → Prop} (hS : ∀ w, S' w → S w) : ∀ (fuel : Nat) (listed : Array Bool) (a : Act) (w : World), wpAnyH P md ops Q S' fuel listed a w → wpAnyH P md ops Q S fuel listed a w
  | 0, _, _, _, h => h
  | fuel + 1, _, _, _, h => ⟨h.1, fun i hi => wpOp_mono (fun a' w' h' => ⟨hS _ h'.1, wpAnyH_strong hS fuel _ a' w' h'.2⟩) (h.2 i hi)⟩

set_option maxRecDepth 100000 in
set_option maxHeartbeats 8000000 in
theorem expr_any (n : Nat) (T : Nat) (depth want : Int) (fa ta : Option Addr) (fc tc : Nat) (look : List UInt8 → List Col) (fs : List Frm) (ss : List Sch) (w : World) (hE : 0 < depth → ∃ m : Nat, n = m + 1 ∧ ExprOk m) (hn : n ≤ 50) (hd : depth ≤ (n : Int)) (hd0 : -10 ≤ depth) (hw0 : 1 ≤ want) (hw3 : want ≤ 3) (ht : TapeOk T w) (hw : WordsOk T w)
    (hf : FrmsR (At T) w (.slice fa fs.length fc) fs) (hs : SchsR (At T) w (.slice ta ss.length tc) ss) (hP : PlaceP look fs ss n) :
    Calls Tryz.prog 20 #[.pointer (some ⟨T, 0, none⟩), .agg #[.slice fa fs.length fc, .slice ta ss.length tc], .int .i64 want, .int .i64 depth] w (Gives T w (ExQ (Mk ss fs want n) w)) := by
  have hTw := ht.lt
  have HT := Lib.hid ht
  have HW := Lib.hid hw
  have HF := Lib.hid hf
  have HS := Lib.hid hs
  have HP := Lib.hid hP
  have HE := Lib.hid hE
  clear hE ht hw hf hs hP
  go_enter Tryz.func20, Tryz.ntmps20
  go_wp2_with fail
  generalize hW : ((w.alloc _).alloc _) = W0
  obtain ⟨s0, s1, hb0, hz0, hr0⟩ := world_2_10 hW
  have hp0 : W0.heap[w.heap.size]? = some (.cells #[.slice fa fs.length fc, .slice ta ss.length tc] 64 (0, 0)) := by rw [← hW]; exact ((Keep.refl (fun _ => False) (w.alloc _)).alloc _).block _ (by simp) id |>.trans (heap_alloc_new w _)
  clear hW
  have hL0 : Loc T (.slice fa fs.length fc) (.slice ta ss.length tc) w W0 := ⟨HT.out.bel hb0, .bel hb0, hp0, hr0⟩
  have L0 := Lib.hid hL0
  clear hb0 hz0 hr0 hp0 hL0 s0 s1
  go_upto_region 2 with (go_at_call 29; go_loud (refine (next_any T 6 _ (by omega) (by omega) L0.out.tape).mono ?_; rintro e w1 ⟨v, rfl, ⟨k0, rfl, hk0, hk1⟩, ht, hk⟩; have L1 := Lib.hid (L0.out.step hTw ht hk); clear ht hk))
  have L1' := L1.out
  go_cut [19] (fun c wx => ∃ b : Bool, c = .bool b ∧ Loc T (.slice fa fs.length fc) (.slice ta ss.length tc) w wx)
  case first =>
    by_cases h4 : 4 ≤ k0
    · have h4' : decide (4 ≤ k0) = true := by simpa using h4
      go_wp2_with fail
      all_goals go_meet
      all_goals exact ⟨_, rfl, L1.out⟩
    · have h4' : decide (4 ≤ k0) = false := by simpa using h4
      go_wp2_with fail
      all_goals go_meet
      all_goals exact ⟨_, rfl, L1.out⟩
  case rest =>
  obtain ⟨b19, rfl, hL1⟩ := hcut
  have L1 := Lib.hid hL1
  clear hL1 L1'
  rename World => w1c
  go_upto_if 19 with (fail)
  go_cut [9] (fun c wx => ∃ k : Int, c = .int .i64 k ∧ 0 ≤ k ∧ k < 6 ∧ Loc T (.slice fa fs.length fc) (.slice ta ss.length tc) w wx)
  case first =>
    cases b19
    all_goals go_wp2_with (go_at_call 29; go_loud (refine (next_any T 4 _ (by omega) (by omega) L1.out.tape).mono ?_; rintro e w2 ⟨v, rfl, ⟨k2, rfl, hk20, hk21⟩, ht, hk⟩; have L2 := Lib.hid (L1.out.step hTw ht hk); clear ht hk))
    all_goals go_meet
    all_goals first | exact ⟨k2, rfl, hk20, by omega, L2.out⟩ | exact ⟨k0, rfl, hk0, hk1, L1.out⟩
  case rest =>
    obtain ⟨k, rfl, hk0, hk6, hLC⟩ := hcut
    have LC := Lib.hid hLC
    obtain ⟨p0, p1, pz⟩ := hLC.place
    clear hLC
    by_cases hleaf : depth ≤ 0 ∨ 3 ≤ k
    · rcases Int.lt_or_le 0 depth with hdp | hdp
      · have hk3 : 3 ≤ k := by omega
        clear hleaf
        go_wp2_with fail
        refine (column_any (fun p => Mk ss fs want n (colX p.1 p.2)) T _ _ ta ss.length tc fs want _ rfl LC.out.tape (HF.out.keep LC.out.kept) (by have := HP.out.2.1; omega) HP.out.2.2.1 (col_P HP.out.1 HP.out.2.2.2.2.2.2)).mono ?_
        rintro e w3 ⟨v, rfl, hq, ht, hk⟩
        have L3 := Lib.hid (LC.out.step hTw ht hk)
        clear ht hk
        rcases hq with rfl | ⟨qn, nm, rfl, hp⟩
        · dsimp only
          go_wp2_with fail
          refine (bool_any T 8 _ (by omega) (by omega) (L3.out.alloc hTw _).tape).mono ?_
          rintro e w4 ⟨v, rfl, ⟨b8, rfl⟩, ht, hk⟩
          have L4 := Lib.hid ((L3.out.alloc hTw _).step hTw ht hk)
          clear ht hk
          cases b8
          · by_cases hw1 : want = 1
            · subst hw1
              dsimp only
              go_wp2_with fail
              refine (small_any T _ L4.out.tape).mono ?_
              rintro e w5 ⟨v, rfl, ⟨m, rfl, hm0, hm1⟩, ht, hk⟩
              have L5 := Lib.hid (L4.out.step hTw ht hk)
              clear ht hk
              dsimp only
              go_wp2_with fail
              refine (num_any m (by omega) _).mono ?_
              rintro e w6 ⟨v, rfl, hv, hb⟩
              have hv0 := hv
              obtain ⟨a1, ac1, s1, sc1, rfl, _, _⟩ := hv0
              have L6 := Lib.hid (L5.out.bel hTw hb)
              have HV := Lib.hid hv
              clear hv hb
              dsimp only
              obtain ⟨r0, r1, r2, r3, r4, r5, r6, r7, r8, r9, rf, rz⟩ := L6.out.res
              repeat (first | go_values | go_skip | go_guarded | go_step | go_upon)
              refine bodyPost_ret (v := .agg #[.int .i64 (numX m).kind, .int .i64 (numX m).op, .bool (numX m).no, .int .i64 (numX m).val.kind, .int .i64 (numX m).val.int, .string (numX m).val.text, .string (numX m).table, .string (numX m).name, .slice a1 (numX m).args.length ac1, .slice s1 (numX m).sub.length sc1]) (by simp [results, Tryz.results20, go_sem, r0, r1, r2, r3, r4, r5, r6, r7, r8, r9]) rfl ?_
              have FIN := ex_fin (P := Mk ss fs 1 n) hTw L6.out HV.out (by have := L5.out.res.2.2.2.2.2.2.2.2.2.2.2; omega) (keep_set10 _ _ (.int .i64 (numX m).kind) (.int .i64 (numX m).op) (.bool (numX m).no) (.int .i64 (numX m).val.kind) (.int .i64 (numX m).val.int) (.string (numX m).val.text) (.string (numX m).table) (.string (numX m).name) (.slice a1 (numX m).args.length ac1) (.slice s1 (numX m).sub.length sc1)) (mk_num m)
              exact FIN
            · have hw1' : (want == 1) = false := by simpa using hw1
              dsimp only
              go_wp2_with fail
              refine (typed_any T want _ L4.out.tape (HW.out.at L4.out.kept)).mono ?_
              rintro e w5 ⟨v, rfl, ⟨x, rfl, hx1, hx2⟩, ht, hk⟩
              have L5 := Lib.hid (L4.out.step hTw ht hk)
              have HX2 := Lib.hid hx2
              have HX1 := Lib.hid hx1
              clear ht hk hx1 hx2
              dsimp only
              go_wp2_with fail
              refine (lit_any _ _ _ _).mono ?_
              rintro e w6 ⟨rfl, hb⟩
              have L6 := Lib.hid (L5.out.bel hTw hb)
              clear hb
              dsimp only
              obtain ⟨r0, r1, r2, r3, r4, r5, r6, r7, r8, r9, rf, rz⟩ := L6.out.res
              repeat (first | go_values | go_skip | go_guarded | go_step | go_upon)
              refine bodyPost_ret (v := .agg #[.int .i64 1, .int .i64 0, .bool false, .int .i64 x.kind, .int .i64 x.int, .string x.text, .string ⟨#[]⟩, .string ⟨#[]⟩, .slice none 0 0, .slice none 0 0]) (by simp [results, Tryz.results20, go_sem, r0, r1, r2, r3, r4, r5, r6, r7, r8, r9]) rfl ?_
              have FIN := ex_fin (lo := w.heap.size + 1 + 1) (P := Mk ss fs want n) hTw L6.out (exV_bare 1 0 false x ⟨#[]⟩ ⟨#[]⟩) (by omega) (keep_set10 _ _ (.int .i64 1) (.int .i64 0) (.bool false) (.int .i64 x.kind) (.int .i64 x.int) (.string x.text) (.string ⟨#[]⟩) (.string ⟨#[]⟩) (.slice none 0 0) (.slice none 0 0)) (mk_lit x HX1.out (fun h => by have := HX2.out; omega) (HX2.out.elim .inr fun h => by omega))
              exact FIN
          · dsimp only
            go_wp2_with fail
            refine (lit_any _ _ _ _).mono ?_
            rintro e w6 ⟨rfl, hb⟩
            have L6 := Lib.hid (L4.out.bel hTw hb)
            clear hb
            dsimp only
            obtain ⟨r0, r1, r2, r3, r4, r5, r6, r7, r8, r9, rf, rz⟩ := L6.out.res
            repeat (first | go_values | go_skip | go_guarded | go_step | go_upon)
            refine bodyPost_ret (v := .agg #[.int .i64 1, .int .i64 0, .bool false, .int .i64 0, .int .i64 0, .string ⟨#[]⟩, .string ⟨#[]⟩, .string ⟨#[]⟩, .slice none 0 0, .slice none 0 0]) (by simp [results, Tryz.results20, go_sem, r0, r1, r2, r3, r4, r5, r6, r7, r8, r9]) rfl ?_
            have FIN := ex_fin (lo := w.heap.size + 1 + 1) (P := Mk ss fs want n) hTw L6.out (exV_bare 1 0 false val0 ⟨#[]⟩ ⟨#[]⟩) (by omega) (keep_set10 _ _ (.int .i64 1) (.int .i64 0) (.bool false) (.int .i64 0) (.int .i64 0) (.string ⟨#[]⟩) (.string ⟨#[]⟩) (.string ⟨#[]⟩) (.slice none 0 0) (.slice none 0 0)) (mk_lit val0 (.inl ⟨rfl, rfl, rfl⟩) (fun h => by cases h) (.inl rfl))
            exact FIN
        · dsimp only
          have HPC := Lib.hid hp
          clear hp
          go_wp2_with fail
          refine (bool_any T 3 _ (by omega) (by omega) (L3.out.alloc hTw _).tape).mono ?_
          rintro e w7 ⟨v, rfl, ⟨b3, rfl⟩, ht, hk⟩
          have hx7 := (hk.block w3.heap.size (by simp) (fun h => by have := L3.out.place.2.2; unfold At at h; omega)).trans (heap_alloc_new w3 _)
          have L7 := Lib.hid ((L3.out.alloc hTw _).step hTw ht hk)
          have HX7 := Lib.hid hx7
          clear ht hk hx7
          cases b3
          · obtain ⟨y0, y1, y2, y3, y4, y5, y6, y7, y8, y9, yf, yz⟩ := blk10 HX7.out
            dsimp only
            clear yf
            obtain ⟨r0, r1, r2, r3, r4, r5, r6, r7, r8, r9, rf, rz⟩ := L7.out.res
            repeat (first | go_values | go_skip | go_guarded | go_step | go_upon)
            refine bodyPost_ret (v := .agg #[.int .i64 2, .int .i64 0, .bool false, .int .i64 0, .int .i64 0, .string ⟨#[]⟩, .string qn, .string nm, .slice none 0 0, .slice none 0 0]) (by simp [results, Tryz.results20, go_sem, r0, r1, r2, r3, r4, r5, r6, r7, r8, r9]) rfl ?_
            have FIN := ex_fin (lo := w.heap.size + 1 + 1) (P := Mk ss fs want n) hTw L7.out (exV_bare 2 0 false val0 qn nm) (by omega) (keep_set10 _ _ (.int .i64 2) (.int .i64 0) (.bool false) (.int .i64 0) (.int .i64 0) (.string ⟨#[]⟩) (.string qn) (.string nm) (.slice none 0 0) (.slice none 0 0)) HPC.out
            exact FIN
          · dsimp only
            go_wp2_with fail
            refine (bool_any T 8 _ (by omega) (by omega) (L7.out).tape).mono ?_
            rintro e w4 ⟨v, rfl, ⟨b8, rfl⟩, ht, hk⟩
            have L4 := Lib.hid ((L7.out).step hTw ht hk)
            clear ht hk
            cases b8
            · by_cases hw1 : want = 1
              · subst hw1
                dsimp only
                go_wp2_with fail
                refine (small_any T _ L4.out.tape).mono ?_
                rintro e w5 ⟨v, rfl, ⟨m, rfl, hm0, hm1⟩, ht, hk⟩
                have L5 := Lib.hid (L4.out.step hTw ht hk)
                clear ht hk
                dsimp only
                go_wp2_with fail
                refine (num_any m (by omega) _).mono ?_
                rintro e w6 ⟨v, rfl, hv, hb⟩
                have hv0 := hv
                obtain ⟨a1, ac1, s1, sc1, rfl, _, _⟩ := hv0
                have L6 := Lib.hid (L5.out.bel hTw hb)
                have HV := Lib.hid hv
                clear hv hb
                dsimp only
                obtain ⟨r0, r1, r2, r3, r4, r5, r6, r7, r8, r9, rf, rz⟩ := L6.out.res
                repeat (first | go_values | go_skip | go_guarded | go_step | go_upon)
                refine bodyPost_ret (v := .agg #[.int .i64 (numX m).kind, .int .i64 (numX m).op, .bool (numX m).no, .int .i64 (numX m).val.kind, .int .i64 (numX m).val.int, .string (numX m).val.text, .string (numX m).table, .string (numX m).name, .slice a1 (numX m).args.length ac1, .slice s1 (numX m).sub.length sc1]) (by simp [results, Tryz.results20, go_sem, r0, r1, r2, r3, r4, r5, r6, r7, r8, r9]) rfl ?_
                have FIN := ex_fin (P := Mk ss fs 1 n) hTw L6.out HV.out (by have := L5.out.res.2.2.2.2.2.2.2.2.2.2.2; omega) (keep_set10 _ _ (.int .i64 (numX m).kind) (.int .i64 (numX m).op) (.bool (numX m).no) (.int .i64 (numX m).val.kind) (.int .i64 (numX m).val.int) (.string (numX m).val.text) (.string (numX m).table) (.string (numX m).name) (.slice a1 (numX m).args.length ac1) (.slice s1 (numX m).sub.length sc1)) (mk_num m)
                exact FIN
              · have hw1' : (want == 1) = false := by simpa using hw1
                dsimp only
                go_wp2_with fail
                refine (typed_any T want _ L4.out.tape (HW.out.at L4.out.kept)).mono ?_
                rintro e w5 ⟨v, rfl, ⟨x, rfl, hx1, hx2⟩, ht, hk⟩
                have L5 := Lib.hid (L4.out.step hTw ht hk)
                have HX2 := Lib.hid hx2
                have HX1 := Lib.hid hx1
                clear ht hk hx1 hx2
                dsimp only
                go_wp2_with fail
                refine (lit_any _ _ _ _).mono ?_
                rintro e w6 ⟨rfl, hb⟩
                have L6 := Lib.hid (L5.out.bel hTw hb)
                clear hb
                dsimp only
                obtain ⟨r0, r1, r2, r3, r4, r5, r6, r7, r8, r9, rf, rz⟩ := L6.out.res
                repeat (first | go_values | go_skip | go_guarded | go_step | go_upon)
                refine bodyPost_ret (v := .agg #[.int .i64 1, .int .i64 0, .bool false, .int .i64 x.kind, .int .i64 x.int, .string x.text, .string ⟨#[]⟩, .string ⟨#[]⟩, .slice none 0 0, .slice none 0 0]) (by simp [results, Tryz.results20, go_sem, r0, r1, r2, r3, r4, r5, r6, r7, r8, r9]) rfl ?_
                have FIN := ex_fin (lo := w.heap.size + 1 + 1) (P := Mk ss fs want n) hTw L6.out (exV_bare 1 0 false x ⟨#[]⟩ ⟨#[]⟩) (by omega) (keep_set10 _ _ (.int .i64 1) (.int .i64 0) (.bool false) (.int .i64 x.kind) (.int .i64 x.int) (.string x.text) (.string ⟨#[]⟩) (.string ⟨#[]⟩) (.slice none 0 0) (.slice none 0 0)) (mk_lit x HX1.out (fun h => by have := HX2.out; omega) (HX2.out.elim .inr fun h => by omega))
                exact FIN
            · dsimp only
              go_wp2_with fail
              refine (lit_any _ _ _ _).mono ?_
              rintro e w6 ⟨rfl, hb⟩
              have L6 := Lib.hid (L4.out.bel hTw hb)
              clear hb
              dsimp only
              obtain ⟨r0, r1, r2, r3, r4, r5, r6, r7, r8, r9, rf, rz⟩ := L6.out.res
              repeat (first | go_values | go_skip | go_guarded | go_step | go_upon)
              refine bodyPost_ret (v := .agg #[.int .i64 1, .int .i64 0, .bool false, .int .i64 0, .int .i64 0, .string ⟨#[]⟩, .string ⟨#[]⟩, .string ⟨#[]⟩, .slice none 0 0, .slice none 0 0]) (by simp [results, Tryz.results20, go_sem, r0, r1, r2, r3, r4, r5, r6, r7, r8, r9]) rfl ?_
              have FIN := ex_fin (lo := w.heap.size + 1 + 1) (P := Mk ss fs want n) hTw L6.out (exV_bare 1 0 false val0 ⟨#[]⟩ ⟨#[]⟩) (by omega) (keep_set10 _ _ (.int .i64 1) (.int .i64 0) (.bool false) (.int .i64 0) (.int .i64 0) (.string ⟨#[]⟩) (.string ⟨#[]⟩) (.string ⟨#[]⟩) (.slice none 0 0) (.slice none 0 0)) (mk_lit val0 (.inl ⟨rfl, rfl, rfl⟩) (fun h => by cases h) (.inl rfl))
              exact FIN
      · clear hleaf
        go_wp2_with fail
        refine (column_any (fun p => Mk ss fs want n (colX p.1 p.2)) T _ _ ta ss.length tc fs want _ rfl LC.out.tape (HF.out.keep LC.out.kept) (by have := HP.out.2.1; omega) HP.out.2.2.1 (col_P HP.out.1 HP.out.2.2.2.2.2.2)).mono ?_
        rintro e w3 ⟨v, rfl, hq, ht, hk⟩
        have L3 := Lib.hid (LC.out.step hTw ht hk)
        clear ht hk
        rcases hq with rfl | ⟨qn, nm, rfl, hp⟩
        · dsimp only
          go_wp2_with fail
          refine (bool_any T 8 _ (by omega) (by omega) (L3.out.alloc hTw _).tape).mono ?_
          rintro e w4 ⟨v, rfl, ⟨b8, rfl⟩, ht, hk⟩
          have L4 := Lib.hid ((L3.out.alloc hTw _).step hTw ht hk)
          clear ht hk
          cases b8
          · by_cases hw1 : want = 1
            · subst hw1
              dsimp only
              go_wp2_with fail
              refine (small_any T _ L4.out.tape).mono ?_
              rintro e w5 ⟨v, rfl, ⟨m, rfl, hm0, hm1⟩, ht, hk⟩
              have L5 := Lib.hid (L4.out.step hTw ht hk)
              clear ht hk
              dsimp only
              go_wp2_with fail
              refine (num_any m (by omega) _).mono ?_
              rintro e w6 ⟨v, rfl, hv, hb⟩
              have hv0 := hv
              obtain ⟨a1, ac1, s1, sc1, rfl, _, _⟩ := hv0
              have L6 := Lib.hid (L5.out.bel hTw hb)
              have HV := Lib.hid hv
              clear hv hb
              dsimp only
              obtain ⟨r0, r1, r2, r3, r4, r5, r6, r7, r8, r9, rf, rz⟩ := L6.out.res
              repeat (first | go_values | go_skip | go_guarded | go_step | go_upon)
              refine bodyPost_ret (v := .agg #[.int .i64 (numX m).kind, .int .i64 (numX m).op, .bool (numX m).no, .int .i64 (numX m).val.kind, .int .i64 (numX m).val.int, .string (numX m).val.text, .string (numX m).table, .string (numX m).name, .slice a1 (numX m).args.length ac1, .slice s1 (numX m).sub.length sc1]) (by simp [results, Tryz.results20, go_sem, r0, r1, r2, r3, r4, r5, r6, r7, r8, r9]) rfl ?_
              have FIN := ex_fin (P := Mk ss fs 1 n) hTw L6.out HV.out (by have := L5.out.res.2.2.2.2.2.2.2.2.2.2.2; omega) (keep_set10 _ _ (.int .i64 (numX m).kind) (.int .i64 (numX m).op) (.bool (numX m).no) (.int .i64 (numX m).val.kind) (.int .i64 (numX m).val.int) (.string (numX m).val.text) (.string (numX m).table) (.string (numX m).name) (.slice a1 (numX m).args.length ac1) (.slice s1 (numX m).sub.length sc1)) (mk_num m)
              exact FIN
            · have hw1' : (want == 1) = false := by simpa using hw1
              dsimp only
              go_wp2_with fail
              refine (typed_any T want _ L4.out.tape (HW.out.at L4.out.kept)).mono ?_
              rintro e w5 ⟨v, rfl, ⟨x, rfl, hx1, hx2⟩, ht, hk⟩
              have L5 := Lib.hid (L4.out.step hTw ht hk)
              have HX2 := Lib.hid hx2
              have HX1 := Lib.hid hx1
              clear ht hk hx1 hx2
              dsimp only
              go_wp2_with fail
              refine (lit_any _ _ _ _).mono ?_
              rintro e w6 ⟨rfl, hb⟩
              have L6 := Lib.hid (L5.out.bel hTw hb)
              clear hb
              dsimp only
              obtain ⟨r0, r1, r2, r3, r4, r5, r6, r7, r8, r9, rf, rz⟩ := L6.out.res
              repeat (first | go_values | go_skip | go_guarded | go_step | go_upon)
              refine bodyPost_ret (v := .agg #[.int .i64 1, .int .i64 0, .bool false, .int .i64 x.kind, .int .i64 x.int, .string x.text, .string ⟨#[]⟩, .string ⟨#[]⟩, .slice none 0 0, .slice none 0 0]) (by simp [results, Tryz.results20, go_sem, r0, r1, r2, r3, r4, r5, r6, r7, r8, r9]) rfl ?_
              have FIN := ex_fin (lo := w.heap.size + 1 + 1) (P := Mk ss fs want n) hTw L6.out (exV_bare 1 0 false x ⟨#[]⟩ ⟨#[]⟩) (by omega) (keep_set10 _ _ (.int .i64 1) (.int .i64 0) (.bool false) (.int .i64 x.kind) (.int .i64 x.int) (.string x.text) (.string ⟨#[]⟩) (.string ⟨#[]⟩) (.slice none 0 0) (.slice none 0 0)) (mk_lit x HX1.out (fun h => by have := HX2.out; omega) (HX2.out.elim .inr fun h => by omega))
              exact FIN
          · dsimp only
            go_wp2_with fail
            refine (lit_any _ _ _ _).mono ?_
            rintro e w6 ⟨rfl, hb⟩
            have L6 := Lib.hid (L4.out.bel hTw hb)
            clear hb
            dsimp only
            obtain ⟨r0, r1, r2, r3, r4, r5, r6, r7, r8, r9, rf, rz⟩ := L6.out.res
            repeat (first | go_values | go_skip | go_guarded | go_step | go_upon)
            refine bodyPost_ret (v := .agg #[.int .i64 1, .int .i64 0, .bool false, .int .i64 0, .int .i64 0, .string ⟨#[]⟩, .string ⟨#[]⟩, .string ⟨#[]⟩, .slice none 0 0, .slice none 0 0]) (by simp [results, Tryz.results20, go_sem, r0, r1, r2, r3, r4, r5, r6, r7, r8, r9]) rfl ?_
            have FIN := ex_fin (lo := w.heap.size + 1 + 1) (P := Mk ss fs want n) hTw L6.out (exV_bare 1 0 false val0 ⟨#[]⟩ ⟨#[]⟩) (by omega) (keep_set10 _ _ (.int .i64 1) (.int .i64 0) (.bool false) (.int .i64 0) (.int .i64 0) (.string ⟨#[]⟩) (.string ⟨#[]⟩) (.string ⟨#[]⟩) (.slice none 0 0) (.slice none 0 0)) (mk_lit val0 (.inl ⟨rfl, rfl, rfl⟩) (fun h => by cases h) (.inl rfl))
            exact FIN
        · dsimp only
          have HPC := Lib.hid hp
          clear hp
          go_wp2_with fail
          refine (bool_any T 3 _ (by omega) (by omega) (L3.out.alloc hTw _).tape).mono ?_
          rintro e w7 ⟨v, rfl, ⟨b3, rfl⟩, ht, hk⟩
          have hx7 := (hk.block w3.heap.size (by simp) (fun h => by have := L3.out.place.2.2; unfold At at h; omega)).trans (heap_alloc_new w3 _)
          have L7 := Lib.hid ((L3.out.alloc hTw _).step hTw ht hk)
          have HX7 := Lib.hid hx7
          clear ht hk hx7
          cases b3
          · obtain ⟨y0, y1, y2, y3, y4, y5, y6, y7, y8, y9, yf, yz⟩ := blk10 HX7.out
            dsimp only
            clear yf
            obtain ⟨r0, r1, r2, r3, r4, r5, r6, r7, r8, r9, rf, rz⟩ := L7.out.res
            repeat (first | go_values | go_skip | go_guarded | go_step | go_upon)
            refine bodyPost_ret (v := .agg #[.int .i64 2, .int .i64 0, .bool false, .int .i64 0, .int .i64 0, .string ⟨#[]⟩, .string qn, .string nm, .slice none 0 0, .slice none 0 0]) (by simp [results, Tryz.results20, go_sem, r0, r1, r2, r3, r4, r5, r6, r7, r8, r9]) rfl ?_
            have FIN := ex_fin (lo := w.heap.size + 1 + 1) (P := Mk ss fs want n) hTw L7.out (exV_bare 2 0 false val0 qn nm) (by omega) (keep_set10 _ _ (.int .i64 2) (.int .i64 0) (.bool false) (.int .i64 0) (.int .i64 0) (.string ⟨#[]⟩) (.string qn) (.string nm) (.slice none 0 0) (.slice none 0 0)) HPC.out
            exact FIN
          · dsimp only
            go_wp2_with fail
            refine (bool_any T 8 _ (by omega) (by omega) (L7.out).tape).mono ?_
            rintro e w4 ⟨v, rfl, ⟨b8, rfl⟩, ht, hk⟩
            have L4 := Lib.hid ((L7.out).step hTw ht hk)
            clear ht hk
            cases b8
            · by_cases hw1 : want = 1
              · subst hw1
                dsimp only
                go_wp2_with fail
                refine (small_any T _ L4.out.tape).mono ?_
                rintro e w5 ⟨v, rfl, ⟨m, rfl, hm0, hm1⟩, ht, hk⟩
                have L5 := Lib.hid (L4.out.step hTw ht hk)
                clear ht hk
                dsimp only
                go_wp2_with fail
                refine (num_any m (by omega) _).mono ?_
                rintro e w6 ⟨v, rfl, hv, hb⟩
                have hv0 := hv
                obtain ⟨a1, ac1, s1, sc1, rfl, _, _⟩ := hv0
                have L6 := Lib.hid (L5.out.bel hTw hb)
                have HV := Lib.hid hv
                clear hv hb
                dsimp only
                obtain ⟨r0, r1, r2, r3, r4, r5, r6, r7, r8, r9, rf, rz⟩ := L6.out.res
                repeat (first | go_values | go_skip | go_guarded | go_step | go_upon)
                refine bodyPost_ret (v := .agg #[.int .i64 (numX m).kind, .int .i64 (numX m).op, .bool (numX m).no, .int .i64 (numX m).val.kind, .int .i64 (numX m).val.int, .string (numX m).val.text, .string (numX m).table, .string (numX m).name, .slice a1 (numX m).args.length ac1, .slice s1 (numX m).sub.length sc1]) (by simp [results, Tryz.results20, go_sem, r0, r1, r2, r3, r4, r5, r6, r7, r8, r9]) rfl ?_
                have FIN := ex_fin (P := Mk ss fs 1 n) hTw L6.out HV.out (by have := L5.out.res.2.2.2.2.2.2.2.2.2.2.2; omega) (keep_set10 _ _ (.int .i64 (numX m).kind) (.int .i64 (numX m).op) (.bool (numX m).no) (.int .i64 (numX m).val.kind) (.int .i64 (numX m).val.int) (.string (numX m).val.text) (.string (numX m).table) (.string (numX m).name) (.slice a1 (numX m).args.length ac1) (.slice s1 (numX m).sub.length sc1)) (mk_num m)
                exact FIN
              · have hw1' : (want == 1) = false := by simpa using hw1
                dsimp only
                go_wp2_with fail
                refine (typed_any T want _ L4.out.tape (HW.out.at L4.out.kept)).mono ?_
                rintro e w5 ⟨v, rfl, ⟨x, rfl, hx1, hx2⟩, ht, hk⟩
                have L5 := Lib.hid (L4.out.step hTw ht hk)
                have HX2 := Lib.hid hx2
                have HX1 := Lib.hid hx1
                clear ht hk hx1 hx2
                dsimp only
                go_wp2_with fail
                refine (lit_any _ _ _ _).mono ?_
                rintro e w6 ⟨rfl, hb⟩
                have L6 := Lib.hid (L5.out.bel hTw hb)
                clear hb
                dsimp only
                obtain ⟨r0, r1, r2, r3, r4, r5, r6, r7, r8, r9, rf, rz⟩ := L6.out.res
                repeat (first | go_values | go_skip | go_guarded | go_step | go_upon)
                refine bodyPost_ret (v := .agg #[.int .i64 1, .int .i64 0, .bool false, .int .i64 x.kind, .int .i64 x.int, .string x.text, .string ⟨#[]⟩, .string ⟨#[]⟩, .slice none 0 0, .slice none 0 0]) (by simp [results, Tryz.results20, go_sem, r0, r1, r2, r3, r4, r5, r6, r7, r8, r9]) rfl ?_
                have FIN := ex_fin (lo := w.heap.size + 1 + 1) (P := Mk ss fs want n) hTw L6.out (exV_bare 1 0 false x ⟨#[]⟩ ⟨#[]⟩) (by omega) (keep_set10 _ _ (.int .i64 1) (.int .i64 0) (.bool false) (.int .i64 x.kind) (.int .i64 x.int) (.string x.text) (.string ⟨#[]⟩) (.string ⟨#[]⟩) (.slice none 0 0) (.slice none 0 0)) (mk_lit x HX1.out (fun h => by have := HX2.out; omega) (HX2.out.elim .inr fun h => by omega))
                exact FIN
            · dsimp only
              go_wp2_with fail
              refine (lit_any _ _ _ _).mono ?_
              rintro e w6 ⟨rfl, hb⟩
              have L6 := Lib.hid (L4.out.bel hTw hb)
              clear hb
              dsimp only
              obtain ⟨r0, r1, r2, r3, r4, r5, r6, r7, r8, r9, rf, rz⟩ := L6.out.res
              repeat (first | go_values | go_skip | go_guarded | go_step | go_upon)
              refine bodyPost_ret (v := .agg #[.int .i64 1, .int .i64 0, .bool false, .int .i64 0, .int .i64 0, .string ⟨#[]⟩, .string ⟨#[]⟩, .string ⟨#[]⟩, .slice none 0 0, .slice none 0 0]) (by simp [results, Tryz.results20, go_sem, r0, r1, r2, r3, r4, r5, r6, r7, r8, r9]) rfl ?_
              have FIN := ex_fin (lo := w.heap.size + 1 + 1) (P := Mk ss fs want n) hTw L6.out (exV_bare 1 0 false val0 ⟨#[]⟩ ⟨#[]⟩) (by omega) (keep_set10 _ _ (.int .i64 1) (.int .i64 0) (.bool false) (.int .i64 0) (.int .i64 0) (.string ⟨#[]⟩) (.string ⟨#[]⟩) (.string ⟨#[]⟩) (.slice none 0 0) (.slice none 0 0)) (mk_lit val0 (.inl ⟨rfl, rfl, rfl⟩) (fun h => by cases h) (.inl rfl))
              exact FIN
    · have hdp : 0 < depth := by omega
      have hk3 : k < 3 := by omega
      clear hleaf
      obtain ⟨m, rfl, hEm⟩ := HE.out hdp
      have HEX := Lib.hid (fun (W : World) (q : Loc T (.slice fa fs.length fc) (.slice ta ss.length tc) w W) => place_expr hEm HW.out HF.out HS.out HP.out q)
      have HQY := Lib.hid (fun (W : World) (q : Loc T (.slice fa fs.length fc) (.slice ta ss.length tc) w W) (kk : Int) (h8 : 8 ≤ kk) (h12 : kk ≤ 12) => query_any m hEm T kk depth fa ta fc tc look fs ss W (by omega) (by omega) (by omega) h8 h12 q.tape (HW.out.at q.kept) (HF.out.keep q.kept) (HS.out.keep q.kept) HP.out)
      have HCN := Lib.hid (fun (W : World) (q : Loc T (.slice fa fs.length fc) (.slice ta ss.length tc) w W) => condition_tape m hEm T depth fa ta fc tc look fs ss W (by omega) (by omega) (by omega) q.tape (HW.out.at q.kept) (HF.out.keep q.kept) (HS.out.keep q.kept) HP.out)
      have HKS := Lib.hid (fun (w' : World) (h : Loc T (.slice fa fs.length fc) (.slice ta ss.length tc) w w') => (show w'.cell? ⟨w.heap.size, 0, none⟩ = some (.slice fa fs.length fc) ∧ w'.cell? ⟨w.heap.size, 1, none⟩ = some (.slice ta ss.length tc) from ⟨h.place.1, h.place.2.1⟩))
      have HKR := Lib.hid (fun (wi w' : World) (h : Loc T (.slice fa fs.length fc) (.slice ta ss.length tc) w wi) (ks : Keep (At (w.heap.size + 1)) wi w') => (show w'.cell? ⟨w.heap.size, 0, none⟩ = some (.slice fa fs.length fc) ∧ w'.cell? ⟨w.heap.size, 1, none⟩ = some (.slice ta ss.length tc) from ⟨(ks.cell h.place.2.2 (by unfold At; omega)).trans h.place.1, (ks.cell h.place.2.2 (by unfold At; omega)).trans h.place.2.1⟩))
      have HKA := Lib.hid (fun (wi w1 : World) (h : Loc T (.slice fa fs.length fc) (.slice ta ss.length tc) w wi) (ks : Keep (At (w.heap.size + 1)) wi w1) (o : Obj) => HKR.out wi (w1.alloc o) h (ks.alloc o))
      have hss : 1 ≤ ss.length := List.length_pos_iff.2 HP.out.2.2.2.2.1
      have ed : IntKind.i64.wrap (depth - 1) = depth - 1 := IntWalk.i64_in _ (by omega)
      have ED := Lib.hid ed
      clear ed hEm HE
      have tok3 : Hid True := trivial
      have tok4 : Hid True := trivial
      have h3 : want = 1 ∨ want = 2 ∨ want = 3 := by omega
      rcases h3 with rfl | rfl | rfl
      · by_cases hk00 : k = 0
        · subst hk00
          go_wp2_with fail
          go_region_held3 (fun w' => w'.cell? ⟨w.heap.size, 0, none⟩ = some (.slice fa fs.length fc) ∧ w'.cell? ⟨w.heap.size, 1, none⟩ = some (.slice ta ss.length tc))
            (first | (with_reducible refine HKS.out _ ?_; first | with_reducible exact L3.out | with_reducible exact L2.out | with_reducible exact LC.out.drew | with_reducible exact L3.out.alloc hTw _) | (with_reducible refine HKA.out _ _ L3.out ?_ _; with_reducible exact keep_set10 _ _ _ _ _ _ _ _ _ _ _ _) | (with_reducible refine HKR.out _ _ L3.out ?_; with_reducible exact keep_set10 _ _ _ _ _ _ _ _ _ _ _ _))
            (first
              | (go_at_call 29; go_loud (refine (next_any T 4 _ (by omega) (by omega) (LC.out.drew).tape).mono ?_; rintro e w2 ⟨v, rfl, ⟨o, rfl, ho0, ho1⟩, ht, hk⟩; have eo : IntKind.i64.wrap (9 + o) = 9 + o := IntWalk.i64_in _ (by omega); have L2 := Lib.hid ((LC.out.drew).step hTw ht hk); clear ht hk))
              | (go_at_call 69; go_loud (refine (HQY.out _ L2.out (9 + o) (by omega) (by omega)).mono ?_; rintro e w3 ⟨v, rfl, ⟨x, hx, hmk⟩, ht, hk⟩; have hx0 := hx; obtain ⟨a1, ac1, s1, sc1, rfl, _, _⟩ := hx0; have L3 := Lib.hid ((L2.out).step hTw ht hk); have HX := Lib.hid hx; have HM := Lib.hid hmk; obtain ⟨r0, r1, r2, r3, r4, r5, r6, r7, r8, r9, rf, rz⟩ := L3.out.res; clear hx hmk ht hk)))
          repeat (first | go_values | go_skip | go_guarded | go_step | go_upon)
          refine bodyPost_ret (v := .agg #[.int .i64 x.kind, .int .i64 x.op, .bool x.no, .int .i64 x.val.kind, .int .i64 x.val.int, .string x.val.text, .string x.table, .string x.name, .slice a1 x.args.length ac1, .slice s1 x.sub.length sc1]) (by simp [results, Tryz.results20, go_sem, r0, r1, r2, r3, r4, r5, r6, r7, r8, r9]) rfl ?_
          have hq1 : qWant (9 + o) = 1 := by unfold qWant; rw [if_neg (by omega)]
          have HMX := HM.out
          rw [hq1] at HMX
          have FIN := ex_fin (P := Mk ss fs 1 (m + 1)) hTw L3.out HX.out (by have := L2.out.res.2.2.2.2.2.2.2.2.2.2.2; omega) (keep_set10 _ _ (.int .i64 x.kind) (.int .i64 x.op) (.bool x.no) (.int .i64 x.val.kind) (.int .i64 x.val.int) (.string x.val.text) (.string x.table) (.string x.name) (.slice a1 x.args.length ac1) (.slice s1 x.sub.length sc1)) HMX
          exact FIN
        · have hk01 : (k == 0) = false := by simpa using hk00
          clear hk00
          go_wp2_with fail
          refine (bool_any T 6 _ (by omega) (by omega) LC.out.tape).mono ?_
          rintro e w2 ⟨v, rfl, ⟨b6, rfl⟩, ht, hk⟩
          have L2 := Lib.hid (LC.out.step hTw ht hk)
          obtain ⟨p0', p1', pz'⟩ := L2.out.place
          clear ht hk
          cases b6
          · dsimp only
            go_wp2_with fail
            have ed := ED.out
            refine wp_region_noPanic ?_
            refine wp_region_held_drew (S := fun w' => w'.cell? ⟨w.heap.size, 0, none⟩ = some (.slice fa fs.length fc) ∧ w'.cell? ⟨w.heap.size, 1, none⟩ = some (.slice ta ss.length tc)) (by kernel_rfl) ?_ (fun hHeld => ?_)
            · exact HKS.out _ L2.out.drew
            refine wpAnyH_take (i := 1) (v := _) rfl (by kernel_rfl) (by kernel_rfl) (by kernel_rfl) (fun _ _ _ h => h) (Or.inl ⟨by rfl, by (intro w hSw; (try dsimp only at hSw); go_simp; (try with_reducible rfl))⟩) (by assumption) ?_
            (try simp only [Act.put, List.setIfInBounds_toArray])
            refine wpAnyH_take (i := 5) (v := _) rfl (by kernel_rfl) (by kernel_rfl) (by kernel_rfl) (fun _ _ _ h => h) (Or.inl ⟨by rfl, by (intro w hSw; (try dsimp only at hSw); go_simp; (try with_reducible rfl))⟩) (by assumption) ?_
            (try simp only [Act.put])
            refine wpAnyH_take (i := 6) (v := _) rfl (by kernel_rfl) (by kernel_rfl) (by kernel_rfl) (fun _ _ _ h => h) (Or.inl ⟨by rfl, by (intro w hSw; (try dsimp only at hSw); go_simp; (try with_reducible rfl))⟩) (by assumption) ?_
            (try simp only [Act.put])
            refine wpAnyH_take (i := 7) (v := _) rfl (by kernel_rfl) (by kernel_rfl) (by kernel_rfl) (fun _ _ _ h => h) (Or.inl ⟨by rfl, by (intro w hSw; (try dsimp only at hSw); go_simp; (try with_reducible rfl))⟩) (by assumption) ?_
            (try simp only [Act.put])
            refine wpAnyH_take (i := 8) (v := _) rfl (by kernel_rfl) (by kernel_rfl) (by kernel_rfl) (fun _ _ _ h => h) (Or.inl ⟨by rfl, by (intro w hSw; (try dsimp only at hSw); go_simp; (try with_reducible rfl))⟩) (by assumption) ?_
            (try simp only [Act.put])
            refine wpAnyH_take (i := 9) (v := _) rfl (by kernel_rfl) (by kernel_rfl) (by kernel_rfl) (fun _ _ _ h => h) (Or.inl ⟨by rfl, by (intro w hSw; (try dsimp only at hSw); go_simp; (try with_reducible rfl))⟩) (by assumption) ?_
            (try simp only [Act.put])
            refine wpAnyH_take (i := 11) (v := _) rfl (by kernel_rfl) (by kernel_rfl) (by kernel_rfl) (fun _ _ _ h => h) (Or.inl ⟨by rfl, by (intro w hSw; (try dsimp only at hSw); go_simp; (try with_reducible rfl))⟩) (by assumption) ?_
            (try simp only [Act.put])
            refine wpAnyH_take (i := 12) (v := _) rfl (by kernel_rfl) (by kernel_rfl) (by kernel_rfl) (fun _ _ _ h => h) (Or.inl ⟨by rfl, by (intro w hSw; (try dsimp only at hSw); go_simp; (try with_reducible rfl))⟩) (by assumption) ?_
            (try simp only [Act.put])
            refine wpAnyH_take (i := 13) (v := _) rfl (by kernel_rfl) (by kernel_rfl) (by kernel_rfl) (fun _ _ _ h => h) (Or.inl ⟨by rfl, by (intro w hSw; (try dsimp only at hSw); go_simp; (try with_reducible rfl))⟩) (by assumption) ?_
            (try simp only [Act.put])
            refine wpAnyH_take (i := 14) (v := _) rfl (by kernel_rfl) (by kernel_rfl) (by kernel_rfl) (fun _ _ _ h => h) (Or.inl ⟨by rfl, by (intro w hSw; (try dsimp only at hSw); go_simp; (try with_reducible rfl))⟩) (by assumption) ?_
            (try simp only [Act.put])
            refine wpAnyH_take (i := 15) (v := _) rfl (by kernel_rfl) (by kernel_rfl) (by kernel_rfl) (fun _ _ _ h => h) (Or.inl ⟨by rfl, by (intro w hSw; (try dsimp only at hSw); go_simp; (try with_reducible rfl))⟩) (by assumption) ?_
            (try simp only [Act.put])
            refine wpAnyH_ready (rs := [0, 2]) (by kernel_rfl) (by simp) ?_
            refine AllReadyH.cons (o := _) rfl (fun K hK => ?_) ?_
            · go_simp
              refine hK.out _ _ ?_ (fun hHeld => ?_)
              · (try dsimp only)
                exact HKS.out _ ((L2.out.alloc hTw _).drew)
              clear hK K
              (try simp only [Act.put, List.setIfInBounds_toArray, List.set_cons_zero, List.set_cons_succ])
              refine wpAnyH_ready (rs := [2]) (by kernel_rfl) (by simp) ?_
              refine AllReadyH.cons (o := _) rfl (fun K hK => ?_) ?_
              · go_simp
                refine (next_any T 6 _ (by omega) (by omega) ((L2.out.alloc hTw _).drew).tape).mono ?_
                rintro e w3 ⟨v, rfl, ⟨r, rfl, ho0, ho1⟩, ht, hk⟩
                have L3 := Lib.hid (((L2.out.alloc hTw _).drew).step hTw ht hk)
                have z3 := hk.size
                (try simp only [World.size_alloc, World.size_drew] at z3)
                have gc3 : w3.cell? ⟨w2.heap.size, r.toNat, none⟩ = some (.int .i64 (opT r)) := (hk.cell (b := w2.heap.size) (by simp) (fun h => by have := L2.out.place.2.2; unfold At at h; omega)).trans (op_cell w2 r ho0 ho1)
                have GC3 := Lib.hid gc3
                clear gc3
                clear ht hk
                dsimp only
                refine hK.out _ _ ?_ (fun hHeld => ?_)
                · (try dsimp only)
                  exact HKS.out _ L3.out
                clear hK K
                (try simp only [Act.put, List.setIfInBounds_toArray, List.set_cons_zero, List.set_cons_succ])
                have hG : (w3).cell? ⟨w2.heap.size, r.toNat, none⟩ = some (.int .i64 (opT r)) := GC3.out
                refine wpAnyH_strong (S := fun w' => w'.cell? ⟨w.heap.size, 0, none⟩ = some (.slice fa fs.length fc) ∧ w'.cell? ⟨w.heap.size, 1, none⟩ = some (.slice ta ss.length tc)) (S' := fun w' => w'.cell? ⟨w.heap.size, 0, none⟩ = some (.slice fa fs.length fc) ∧ w'.cell? ⟨w.heap.size, 1, none⟩ = some (.slice ta ss.length tc) ∧ w'.cell? ⟨w2.heap.size, r.toNat, none⟩ = some (.int .i64 (opT r))) (fun _ h => ⟨h.1, h.2.1⟩) _ _ _ _ ?_
                clear hHeld
                have hHeld : (w3).cell? ⟨w.heap.size, 0, none⟩ = some (.slice fa fs.length fc) ∧ (w3).cell? ⟨w.heap.size, 1, none⟩ = some (.slice ta ss.length tc) ∧ (w3).cell? ⟨w2.heap.size, r.toNat, none⟩ = some (.int .i64 (opT r)) := ⟨(HKS.out _ (L3.out)).1, (HKS.out _ (L3.out)).2, hG⟩
                clear hG
                refine wpAnyH_take (i := 3) (v := _) rfl (by kernel_rfl) (by kernel_rfl) (by kernel_rfl) (fun _ _ _ h => h) (Or.inl ⟨by rfl, by (intro w hSw; (try dsimp only at hSw); go_simp; (try with_reducible rfl))⟩) (by assumption) ?_
                (try simp only [Act.put, List.setIfInBounds_toArray])
                refine wpAnyH_take (i := 4) (v := _) rfl (by kernel_rfl) (by kernel_rfl) (by kernel_rfl) (fun _ _ _ h => h) (Or.inl ⟨by rfl, by (intro w hSw; (try dsimp only at hSw); go_simp; (try with_reducible rfl))⟩) (by assumption) ?_
                (try simp only [Act.put])
                refine wpAnyH_ready (rs := [10]) (by kernel_rfl) (by simp) ?_
                refine AllReadyH.cons (o := _) rfl (fun K hK => ?_) ?_
                · go_simp
                  refine (HEX.out _ (L3.out) (depth - 1) 1 (by omega) (by omega) (by omega) (by omega)).mono ?_
                  rintro e w4 ⟨v, rfl, ⟨x, hx, hmk⟩, ht, hk⟩
                  have hx0 := hx
                  obtain ⟨a1, ac1, s1, sc1, rfl, _, _⟩ := hx0
                  have L4 := Lib.hid ((L3.out).step hTw ht hk)
                  have zw4 := hk.size
                  (try simp only [World.size_alloc] at zw4)
                  have GC4 := Lib.hid ((hk.cell (b := w2.heap.size) (by first | omega | (simp; done) | (simp; omega)) (fun h => by unfold At at h; omega)).trans GC3.out)
                  have HX1 := Lib.hid hx
                  have HM1 := Lib.hid hmk
                  have HK1 := Lib.hid hk
                  clear hx hmk ht hk
                  dsimp only
                  refine hK.out _ _ ?_ (fun hHeld => ?_)
                  · (try dsimp only)
                    exact ⟨(HKS.out _ L4.out).1, (HKS.out _ L4.out).2, GC4.out⟩
                  clear hK K
                  (try simp only [Act.put, List.setIfInBounds_toArray, List.set_cons_zero, List.set_cons_succ])
                  refine wpAnyH_ready (rs := [16]) (by kernel_rfl) (by simp) ?_
                  refine AllReadyH.cons (o := _) rfl (fun K hK => ?_) ?_
                  · go_simp
                    refine (HEX.out _ (L4.out) (depth - 1) 1 (by omega) (by omega) (by omega) (by omega)).mono ?_
                    rintro e w5 ⟨v, rfl, ⟨y, hx, hmk⟩, ht, hk⟩
                    have hx0 := hx
                    obtain ⟨a2, ac2, s2, sc2, rfl, _, _⟩ := hx0
                    have L5 := Lib.hid ((L4.out).step hTw ht hk)
                    have zw5 := hk.size
                    (try simp only [World.size_alloc] at zw5)
                    have GC5 := Lib.hid ((hk.cell (b := w2.heap.size) (by first | omega | (simp; done) | (simp; omega)) (fun h => by unfold At at h; omega)).trans GC4.out)
                    have HX2 := Lib.hid hx
                    have HM2 := Lib.hid hmk
                    have HK2 := Lib.hid hk
                    clear hx hmk ht hk
                    dsimp only
                    refine hK.out _ _ ?_ (fun hHeld => ?_)
                    · (try dsimp only)
                      exact ⟨(HKS.out _ L5.out).1, (HKS.out _ L5.out).2, GC5.out⟩
                    clear hK K
                    (try simp only [Act.put, List.setIfInBounds_toArray, List.set_cons_zero, List.set_cons_succ])
                    refine wpAnyH_ready (rs := [17]) (by kernel_rfl) (by simp) ?_
                    refine AllReadyH.cons (o := _) rfl (fun K hK => ?_) ?_
                    · go_simp
                      refine (bin_ex (lo := w.heap.size + 1 + 1) (opT r) (ex_low (lo := w2.heap.size) (ex_step (by have := L2.out.place.2.2; omega) (ex_low HX1.out (by first | omega | (simp; done) | (simp; omega))) HK2.out) (by have := L2.out.res.2.2.2.2.2.2.2.2.2.2.2; omega)) (ex_low (lo := w2.heap.size) (ex_low HX2.out (by first | omega | (simp; done) | (simp; omega))) (by have := L2.out.res.2.2.2.2.2.2.2.2.2.2.2; omega)) (by have := L2.out.res.2.2.2.2.2.2.2.2.2.2.2; first | omega | (simp only [World.size_alloc]; omega))).mono ?_
                      rintro e w6 ⟨v, rfl, hv, hb⟩
                      have hv0 := hv
                      obtain ⟨a9, ac9, s9, sc9, rfl, _, _⟩ := hv0
                      have L6 := Lib.hid ((L5.out).bel hTw hb)
                      have HV := Lib.hid hv
                      have z6 := hb.size
                      (try simp only [World.size_alloc] at z6)
                      have GC6 := Lib.hid ((hb.cell (p := ⟨w2.heap.size, r.toNat, none⟩) (by first | (simp only []; omega) | (simp; done) | (simp; omega))).trans GC5.out)
                      obtain ⟨r0, r1, r2, r3, r4, r5, r6, r7, r8, r9, rf, rz⟩ := L6.out.res
                      clear hv hb
                      dsimp only
                      refine hK.out _ _ ?_ (fun hHeld => ?_)
                      · (try dsimp only)
                        exact ⟨(HKS.out _ L6.out).1, (HKS.out _ L6.out).2, GC6.out⟩
                      clear hK K
                      (try simp only [Act.put, List.setIfInBounds_toArray, List.set_cons_zero, List.set_cons_succ])
                      refine wpAnyH_ready (rs := [18]) (by kernel_rfl) (by simp) ?_
                      refine AllReadyH.cons (o := _) rfl (fun K hK => ?_) ?_
                      · go_simp
                        refine hK.out _ _ ?_ (fun hHeld => ?_)
                        · (try dsimp only)
                          exact ⟨(HKR.out _ _ L6.out (keep_set10 _ _ (.int .i64 (binX (opT r) x y).kind) (.int .i64 (binX (opT r) x y).op) (.bool (binX (opT r) x y).no) (.int .i64 (binX (opT r) x y).val.kind) (.int .i64 (binX (opT r) x y).val.int) (.string (binX (opT r) x y).val.text) (.string (binX (opT r) x y).table) (.string (binX (opT r) x y).name) (.slice a9 (binX (opT r) x y).args.length ac9) (.slice s9 (binX (opT r) x y).sub.length sc9))).1, (HKR.out _ _ L6.out (keep_set10 _ _ (.int .i64 (binX (opT r) x y).kind) (.int .i64 (binX (opT r) x y).op) (.bool (binX (opT r) x y).no) (.int .i64 (binX (opT r) x y).val.kind) (.int .i64 (binX (opT r) x y).val.int) (.string (binX (opT r) x y).val.text) (.string (binX (opT r) x y).table) (.string (binX (opT r) x y).name) (.slice a9 (binX (opT r) x y).args.length ac9) (.slice s9 (binX (opT r) x y).sub.length sc9))).2, ((keep_set10 _ _ (.int .i64 (binX (opT r) x y).kind) (.int .i64 (binX (opT r) x y).op) (.bool (binX (opT r) x y).no) (.int .i64 (binX (opT r) x y).val.kind) (.int .i64 (binX (opT r) x y).val.int) (.string (binX (opT r) x y).val.text) (.string (binX (opT r) x y).table) (.string (binX (opT r) x y).name) (.slice a9 (binX (opT r) x y).args.length ac9) (.slice s9 (binX (opT r) x y).sub.length sc9)).cell (by have := L2.out.res.2.2.2.2.2.2.2.2.2.2.2; omega) (fun h => by unfold At at h; have := L2.out.res.2.2.2.2.2.2.2.2.2.2.2; omega)).trans GC6.out⟩
                        clear hK K
                        (try simp only [Act.put, List.setIfInBounds_toArray, List.set_cons_zero, List.set_cons_succ])
                        refine wpAnyH_done (by kernel_rfl) ?_ _
                        refine NoPanic.normal ?_
                        repeat (first | go_values | go_skip | go_guarded | go_step | go_upon)
                        refine bodyPost_ret (v := .agg #[.int .i64 (binX (opT r) x y).kind, .int .i64 (binX (opT r) x y).op, .bool (binX (opT r) x y).no, .int .i64 (binX (opT r) x y).val.kind, .int .i64 (binX (opT r) x y).val.int, .string (binX (opT r) x y).val.text, .string (binX (opT r) x y).table, .string (binX (opT r) x y).name, .slice a9 (binX (opT r) x y).args.length ac9, .slice s9 (binX (opT r) x y).sub.length sc9]) (by simp [results, Tryz.results20, go_sem, r0, r1, r2, r3, r4, r5, r6, r7, r8, r9]) rfl ?_
                        have FIN := ex_fin (P := Mk ss fs 1 (m + 1)) hTw L6.out HV.out (by omega) (keep_set10 _ _ (.int .i64 (binX (opT r) x y).kind) (.int .i64 (binX (opT r) x y).op) (.bool (binX (opT r) x y).no) (.int .i64 (binX (opT r) x y).val.kind) (.int .i64 (binX (opT r) x y).val.int) (.string (binX (opT r) x y).val.text) (.string (binX (opT r) x y).table) (.string (binX (opT r) x y).name) (.slice a9 (binX (opT r) x y).args.length ac9) (.slice s9 (binX (opT r) x y).sub.length sc9)) (mk_op (k := 5) (o := (opT r)) (no := false) (args := [x, y]) (hsh := .inr (.inr (.inl ⟨rfl, by have := opT_9 r; omega, by have := opT_13 r; omega, rfl, rfl⟩))) (fun z hz => by simp at hz; rcases hz with rfl | rfl; exact HM1.out.1; exact HM2.out.1) fun ts hts => made_arith _ (opT_9 r) (opT_13 r) (HM1.out.2 ts hts) (HM2.out.2 ts hts))
                        exact FIN
                      exact AllReadyH.nil
                    exact AllReadyH.nil
                  exact AllReadyH.nil
                exact AllReadyH.nil
              exact AllReadyH.nil
            refine AllReadyH.cons (o := _) rfl (fun K hK => ?_) ?_
            · go_simp
              refine (next_any T 6 _ (by omega) (by omega) (L2.out.drew).tape).mono ?_
              rintro e w3 ⟨v, rfl, ⟨r, rfl, ho0, ho1⟩, ht, hk⟩
              have L3 := Lib.hid ((L2.out.drew).step hTw ht hk)
              have z3 := hk.size
              (try simp only [World.size_drew] at z3)
              clear ht hk
              dsimp only
              refine hK.out _ _ ?_ (fun hHeld => ?_)
              · (try dsimp only)
                exact HKS.out _ L3.out
              clear hK K
              (try simp only [Act.put, List.setIfInBounds_toArray, List.set_cons_zero, List.set_cons_succ])
              refine wpAnyH_ready (rs := [0, 10]) (by kernel_rfl) (by simp) ?_
              refine AllReadyH.cons (o := _) rfl (fun K hK => ?_) ?_
              · go_simp
                refine hK.out _ _ ?_ (fun hHeld => ?_)
                · (try dsimp only)
                  exact HKS.out _ (L3.out.alloc hTw _)
                clear hK K
                (try simp only [Act.put, List.setIfInBounds_toArray, List.set_cons_zero, List.set_cons_succ])
                have hG : (w3.alloc (.cells #[.int .i64 9, .int .i64 10, .int .i64 11, .int .i64 9, .int .i64 12, .int .i64 13] 3)).cell? ⟨w3.heap.size, r.toNat, none⟩ = some (.int .i64 (opT r)) := op_cell w3 r ho0 ho1
                refine wpAnyH_strong (S := fun w' => w'.cell? ⟨w.heap.size, 0, none⟩ = some (.slice fa fs.length fc) ∧ w'.cell? ⟨w.heap.size, 1, none⟩ = some (.slice ta ss.length tc)) (S' := fun w' => w'.cell? ⟨w.heap.size, 0, none⟩ = some (.slice fa fs.length fc) ∧ w'.cell? ⟨w.heap.size, 1, none⟩ = some (.slice ta ss.length tc) ∧ w'.cell? ⟨w3.heap.size, r.toNat, none⟩ = some (.int .i64 (opT r))) (fun _ h => ⟨h.1, h.2.1⟩) _ _ _ _ ?_
                clear hHeld
                have hHeld : (w3.alloc (.cells #[.int .i64 9, .int .i64 10, .int .i64 11, .int .i64 9, .int .i64 12, .int .i64 13] 3)).cell? ⟨w.heap.size, 0, none⟩ = some (.slice fa fs.length fc) ∧ (w3.alloc (.cells #[.int .i64 9, .int .i64 10, .int .i64 11, .int .i64 9, .int .i64 12, .int .i64 13] 3)).cell? ⟨w.heap.size, 1, none⟩ = some (.slice ta ss.length tc) ∧ (w3.alloc (.cells #[.int .i64 9, .int .i64 10, .int .i64 11, .int .i64 9, .int .i64 12, .int .i64 13] 3)).cell? ⟨w3.heap.size, r.toNat, none⟩ = some (.int .i64 (opT r)) := ⟨(HKS.out _ (L3.out.alloc hTw _)).1, (HKS.out _ (L3.out.alloc hTw _)).2, hG⟩
                clear hG
                refine wpAnyH_take (i := 3) (v := _) rfl (by kernel_rfl) (by kernel_rfl) (by kernel_rfl) (fun _ _ _ h => h) (Or.inl ⟨by rfl, by (intro w hSw; (try dsimp only at hSw); go_simp; (try with_reducible rfl))⟩) (by assumption) ?_
                (try simp only [Act.put, List.setIfInBounds_toArray])
                refine wpAnyH_take (i := 4) (v := _) rfl (by kernel_rfl) (by kernel_rfl) (by kernel_rfl) (fun _ _ _ h => h) (Or.inl ⟨by rfl, by (intro w hSw; (try dsimp only at hSw); go_simp; (try with_reducible rfl))⟩) (by assumption) ?_
                (try simp only [Act.put])
                refine wpAnyH_ready (rs := [10]) (by kernel_rfl) (by simp) ?_
                refine AllReadyH.cons (o := _) rfl (fun K hK => ?_) ?_
                · go_simp
                  refine (HEX.out _ (L3.out.alloc hTw _) (depth - 1) 1 (by omega) (by omega) (by omega) (by omega)).mono ?_
                  rintro e w4 ⟨v, rfl, ⟨x, hx, hmk⟩, ht, hk⟩
                  have hx0 := hx
                  obtain ⟨a1, ac1, s1, sc1, rfl, _, _⟩ := hx0
                  have L4 := Lib.hid ((L3.out.alloc hTw _).step hTw ht hk)
                  have zw4 := hk.size
                  (try simp only [World.size_alloc] at zw4)
                  have GC4 := Lib.hid ((hk.cell (b := w3.heap.size) (by first | omega | (simp; done) | (simp; omega)) (fun h => by unfold At at h; omega)).trans (op_cell w3 r ho0 ho1))
                  have HX1 := Lib.hid hx
                  have HM1 := Lib.hid hmk
                  have HK1 := Lib.hid hk
                  clear hx hmk ht hk
                  dsimp only
                  refine hK.out _ _ ?_ (fun hHeld => ?_)
                  · (try dsimp only)
                    exact ⟨(HKS.out _ L4.out).1, (HKS.out _ L4.out).2, GC4.out⟩
                  clear hK K
                  (try simp only [Act.put, List.setIfInBounds_toArray, List.set_cons_zero, List.set_cons_succ])
                  refine wpAnyH_ready (rs := [16]) (by kernel_rfl) (by simp) ?_
                  refine AllReadyH.cons (o := _) rfl (fun K hK => ?_) ?_
                  · go_simp
                    refine (HEX.out _ (L4.out) (depth - 1) 1 (by omega) (by omega) (by omega) (by omega)).mono ?_
                    rintro e w5 ⟨v, rfl, ⟨y, hx, hmk⟩, ht, hk⟩
                    have hx0 := hx
                    obtain ⟨a2, ac2, s2, sc2, rfl, _, _⟩ := hx0
                    have L5 := Lib.hid ((L4.out).step hTw ht hk)
                    have zw5 := hk.size
                    (try simp only [World.size_alloc] at zw5)
                    have GC5 := Lib.hid ((hk.cell (b := w3.heap.size) (by first | omega | (simp; done) | (simp; omega)) (fun h => by unfold At at h; omega)).trans GC4.out)
                    have HX2 := Lib.hid hx
                    have HM2 := Lib.hid hmk
                    have HK2 := Lib.hid hk
                    clear hx hmk ht hk
                    dsimp only
                    refine hK.out _ _ ?_ (fun hHeld => ?_)
                    · (try dsimp only)
                      exact ⟨(HKS.out _ L5.out).1, (HKS.out _ L5.out).2, GC5.out⟩
                    clear hK K
                    (try simp only [Act.put, List.setIfInBounds_toArray, List.set_cons_zero, List.set_cons_succ])
                    refine wpAnyH_ready (rs := [17]) (by kernel_rfl) (by simp) ?_
                    refine AllReadyH.cons (o := _) rfl (fun K hK => ?_) ?_
                    · go_simp
                      refine (bin_ex (lo := w.heap.size + 1 + 1) (opT r) (ex_low (lo := w2.heap.size) (ex_step (by have := L2.out.place.2.2; omega) (ex_low HX1.out (by first | omega | (simp; done) | (simp; omega))) HK2.out) (by have := L2.out.res.2.2.2.2.2.2.2.2.2.2.2; omega)) (ex_low (lo := w2.heap.size) (ex_low HX2.out (by first | omega | (simp; done) | (simp; omega))) (by have := L2.out.res.2.2.2.2.2.2.2.2.2.2.2; omega)) (by have := L2.out.res.2.2.2.2.2.2.2.2.2.2.2; first | omega | (simp only [World.size_alloc]; omega))).mono ?_
                      rintro e w6 ⟨v, rfl, hv, hb⟩
                      have hv0 := hv
                      obtain ⟨a9, ac9, s9, sc9, rfl, _, _⟩ := hv0
                      have L6 := Lib.hid ((L5.out).bel hTw hb)
                      have HV := Lib.hid hv
                      have z6 := hb.size
                      (try simp only [World.size_alloc] at z6)
                      have GC6 := Lib.hid ((hb.cell (p := ⟨w3.heap.size, r.toNat, none⟩) (by first | (simp only []; omega) | (simp; done) | (simp; omega))).trans GC5.out)
                      obtain ⟨r0, r1, r2, r3, r4, r5, r6, r7, r8, r9, rf, rz⟩ := L6.out.res
                      clear hv hb
                      dsimp only
                      refine hK.out _ _ ?_ (fun hHeld => ?_)
                      · (try dsimp only)
                        exact ⟨(HKS.out _ L6.out).1, (HKS.out _ L6.out).2, GC6.out⟩
                      clear hK K
                      (try simp only [Act.put, List.setIfInBounds_toArray, List.set_cons_zero, List.set_cons_succ])
                      refine wpAnyH_ready (rs := [18]) (by kernel_rfl) (by simp) ?_
                      refine AllReadyH.cons (o := _) rfl (fun K hK => ?_) ?_
                      · go_simp
                        refine hK.out _ _ ?_ (fun hHeld => ?_)
                        · (try dsimp only)
                          exact ⟨(HKR.out _ _ L6.out (keep_set10 _ _ (.int .i64 (binX (opT r) x y).kind) (.int .i64 (binX (opT r) x y).op) (.bool (binX (opT r) x y).no) (.int .i64 (binX (opT r) x y).val.kind) (.int .i64 (binX (opT r) x y).val.int) (.string (binX (opT r) x y).val.text) (.string (binX (opT r) x y).table) (.string (binX (opT r) x y).name) (.slice a9 (binX (opT r) x y).args.length ac9) (.slice s9 (binX (opT r) x y).sub.length sc9))).1, (HKR.out _ _ L6.out (keep_set10 _ _ (.int .i64 (binX (opT r) x y).kind) (.int .i64 (binX (opT r) x y).op) (.bool (binX (opT r) x y).no) (.int .i64 (binX (opT r) x y).val.kind) (.int .i64 (binX (opT r) x y).val.int) (.string (binX (opT r) x y).val.text) (.string (binX (opT r) x y).table) (.string (binX (opT r) x y).name) (.slice a9 (binX (opT r) x y).args.length ac9) (.slice s9 (binX (opT r) x y).sub.length sc9))).2, ((keep_set10 _ _ (.int .i64 (binX (opT r) x y).kind) (.int .i64 (binX (opT r) x y).op) (.bool (binX (opT r) x y).no) (.int .i64 (binX (opT r) x y).val.kind) (.int .i64 (binX (opT r) x y).val.int) (.string (binX (opT r) x y).val.text) (.string (binX (opT r) x y).table) (.string (binX (opT r) x y).name) (.slice a9 (binX (opT r) x y).args.length ac9) (.slice s9 (binX (opT r) x y).sub.length sc9)).cell (by have := L2.out.res.2.2.2.2.2.2.2.2.2.2.2; omega) (fun h => by unfold At at h; have := L2.out.res.2.2.2.2.2.2.2.2.2.2.2; omega)).trans GC6.out⟩
                        clear hK K
                        (try simp only [Act.put, List.setIfInBounds_toArray, List.set_cons_zero, List.set_cons_succ])
                        refine wpAnyH_done (by kernel_rfl) ?_ _
                        refine NoPanic.normal ?_
                        repeat (first | go_values | go_skip | go_guarded | go_step | go_upon)
                        refine bodyPost_ret (v := .agg #[.int .i64 (binX (opT r) x y).kind, .int .i64 (binX (opT r) x y).op, .bool (binX (opT r) x y).no, .int .i64 (binX (opT r) x y).val.kind, .int .i64 (binX (opT r) x y).val.int, .string (binX (opT r) x y).val.text, .string (binX (opT r) x y).table, .string (binX (opT r) x y).name, .slice a9 (binX (opT r) x y).args.length ac9, .slice s9 (binX (opT r) x y).sub.length sc9]) (by simp [results, Tryz.results20, go_sem, r0, r1, r2, r3, r4, r5, r6, r7, r8, r9]) rfl ?_
                        have FIN := ex_fin (P := Mk ss fs 1 (m + 1)) hTw L6.out HV.out (by omega) (keep_set10 _ _ (.int .i64 (binX (opT r) x y).kind) (.int .i64 (binX (opT r) x y).op) (.bool (binX (opT r) x y).no) (.int .i64 (binX (opT r) x y).val.kind) (.int .i64 (binX (opT r) x y).val.int) (.string (binX (opT r) x y).val.text) (.string (binX (opT r) x y).table) (.string (binX (opT r) x y).name) (.slice a9 (binX (opT r) x y).args.length ac9) (.slice s9 (binX (opT r) x y).sub.length sc9)) (mk_op (k := 5) (o := (opT r)) (no := false) (args := [x, y]) (hsh := .inr (.inr (.inl ⟨rfl, by have := opT_9 r; omega, by have := opT_13 r; omega, rfl, rfl⟩))) (fun z hz => by simp at hz; rcases hz with rfl | rfl; exact HM1.out.1; exact HM2.out.1) fun ts hts => made_arith _ (opT_9 r) (opT_13 r) (HM1.out.2 ts hts) (HM2.out.2 ts hts))
                        exact FIN
                      exact AllReadyH.nil
                    exact AllReadyH.nil
                  exact AllReadyH.nil
                exact AllReadyH.nil
              refine AllReadyH.cons (o := _) rfl (fun K hK => ?_) ?_
              · go_simp
                refine (HEX.out _ (L3.out) (depth - 1) 1 (by omega) (by omega) (by omega) (by omega)).mono ?_
                rintro e w4 ⟨v, rfl, ⟨x, hx, hmk⟩, ht, hk⟩
                have hx0 := hx
                obtain ⟨a1, ac1, s1, sc1, rfl, _, _⟩ := hx0
                have L4 := Lib.hid ((L3.out).step hTw ht hk)
                have zw4 := hk.size
                (try simp only [World.size_alloc] at zw4)
                have HX1 := Lib.hid hx
                have HM1 := Lib.hid hmk
                have HK1 := Lib.hid hk
                clear hx hmk ht hk
                dsimp only
                refine hK.out _ _ ?_ (fun hHeld => ?_)
                · (try dsimp only)
                  exact HKS.out _ L4.out
                clear hK K
                (try simp only [Act.put, List.setIfInBounds_toArray, List.set_cons_zero, List.set_cons_succ])
                refine wpAnyH_ready (rs := [0, 16]) (by kernel_rfl) (by simp) ?_
                refine AllReadyH.cons (o := _) rfl (fun K hK => ?_) ?_
                · go_simp
                  refine hK.out _ _ ?_ (fun hHeld => ?_)
                  · (try dsimp only)
                    exact HKS.out _ (L4.out.alloc hTw _)
                  clear hK K
                  (try simp only [Act.put, List.setIfInBounds_toArray, List.set_cons_zero, List.set_cons_succ])
                  have hG : (w4.alloc (.cells #[.int .i64 9, .int .i64 10, .int .i64 11, .int .i64 9, .int .i64 12, .int .i64 13] 3)).cell? ⟨w4.heap.size, r.toNat, none⟩ = some (.int .i64 (opT r)) := op_cell w4 r ho0 ho1
                  refine wpAnyH_strong (S := fun w' => w'.cell? ⟨w.heap.size, 0, none⟩ = some (.slice fa fs.length fc) ∧ w'.cell? ⟨w.heap.size, 1, none⟩ = some (.slice ta ss.length tc)) (S' := fun w' => w'.cell? ⟨w.heap.size, 0, none⟩ = some (.slice fa fs.length fc) ∧ w'.cell? ⟨w.heap.size, 1, none⟩ = some (.slice ta ss.length tc) ∧ w'.cell? ⟨w4.heap.size, r.toNat, none⟩ = some (.int .i64 (opT r))) (fun _ h => ⟨h.1, h.2.1⟩) _ _ _ _ ?_
                  clear hHeld
                  have hHeld : (w4.alloc (.cells #[.int .i64 9, .int .i64 10, .int .i64 11, .int .i64 9, .int .i64 12, .int .i64 13] 3)).cell? ⟨w.heap.size, 0, none⟩ = some (.slice fa fs.length fc) ∧ (w4.alloc (.cells #[.int .i64 9, .int .i64 10, .int .i64 11, .int .i64 9, .int .i64 12, .int .i64 13] 3)).cell? ⟨w.heap.size, 1, none⟩ = some (.slice ta ss.length tc) ∧ (w4.alloc (.cells #[.int .i64 9, .int .i64 10, .int .i64 11, .int .i64 9, .int .i64 12, .int .i64 13] 3)).cell? ⟨w4.heap.size, r.toNat, none⟩ = some (.int .i64 (opT r)) := ⟨(HKS.out _ (L4.out.alloc hTw _)).1, (HKS.out _ (L4.out.alloc hTw _)).2, hG⟩
                  clear hG
                  refine wpAnyH_take (i := 3) (v := _) rfl (by kernel_rfl) (by kernel_rfl) (by kernel_rfl) (fun _ _ _ h => h) (Or.inl ⟨by rfl, by (intro w hSw; (try dsimp only at hSw); go_simp; (try with_reducible rfl))⟩) (by assumption) ?_
                  (try simp only [Act.put, List.setIfInBounds_toArray])
                  refine wpAnyH_take (i := 4) (v := _) rfl (by kernel_rfl) (by kernel_rfl) (by kernel_rfl) (fun _ _ _ h => h) (Or.inl ⟨by rfl, by (intro w hSw; (try dsimp only at hSw); go_simp; (try with_reducible rfl))⟩) (by assumption) ?_
                  (try simp only [Act.put])
                  refine wpAnyH_ready (rs := [16]) (by kernel_rfl) (by simp) ?_
                  refine AllReadyH.cons (o := _) rfl (fun K hK => ?_) ?_
                  · go_simp
                    refine (HEX.out _ (L4.out.alloc hTw _) (depth - 1) 1 (by omega) (by omega) (by omega) (by omega)).mono ?_
                    rintro e w5 ⟨v, rfl, ⟨y, hx, hmk⟩, ht, hk⟩
                    have hx0 := hx
                    obtain ⟨a2, ac2, s2, sc2, rfl, _, _⟩ := hx0
                    have L5 := Lib.hid ((L4.out.alloc hTw _).step hTw ht hk)
                    have zw5 := hk.size
                    (try simp only [World.size_alloc] at zw5)
                    have GC5 := Lib.hid ((hk.cell (b := w4.heap.size) (by first | omega | (simp; done) | (simp; omega)) (fun h => by unfold At at h; omega)).trans (op_cell w4 r ho0 ho1))
                    have HX2 := Lib.hid hx
                    have HM2 := Lib.hid hmk
                    have HK2 := Lib.hid hk
                    clear hx hmk ht hk
                    dsimp only
                    refine hK.out _ _ ?_ (fun hHeld => ?_)
                    · (try dsimp only)
                      exact ⟨(HKS.out _ L5.out).1, (HKS.out _ L5.out).2, GC5.out⟩
                    clear hK K
                    (try simp only [Act.put, List.setIfInBounds_toArray, List.set_cons_zero, List.set_cons_succ])
                    refine wpAnyH_ready (rs := [17]) (by kernel_rfl) (by simp) ?_
                    refine AllReadyH.cons (o := _) rfl (fun K hK => ?_) ?_
                    · go_simp
                      refine (bin_ex (lo := w.heap.size + 1 + 1) (opT r) (ex_low (lo := w2.heap.size) (ex_step (by have := L2.out.place.2.2; omega) (ex_low (ExV.keep HX1.out ((Keep.refl _ w4).alloc _)) (by first | omega | (simp; done) | (simp; omega))) HK2.out) (by have := L2.out.res.2.2.2.2.2.2.2.2.2.2.2; omega)) (ex_low (lo := w2.heap.size) (ex_low HX2.out (by first | omega | (simp; done) | (simp; omega))) (by have := L2.out.res.2.2.2.2.2.2.2.2.2.2.2; omega)) (by have := L2.out.res.2.2.2.2.2.2.2.2.2.2.2; first | omega | (simp only [World.size_alloc]; omega))).mono ?_
                      rintro e w6 ⟨v, rfl, hv, hb⟩
                      have hv0 := hv
                      obtain ⟨a9, ac9, s9, sc9, rfl, _, _⟩ := hv0
                      have L6 := Lib.hid ((L5.out).bel hTw hb)
                      have HV := Lib.hid hv
                      have z6 := hb.size
                      (try simp only [World.size_alloc] at z6)
                      have GC6 := Lib.hid ((hb.cell (p := ⟨w4.heap.size, r.toNat, none⟩) (by first | (simp only []; omega) | (simp; done) | (simp; omega))).trans GC5.out)
                      obtain ⟨r0, r1, r2, r3, r4, r5, r6, r7, r8, r9, rf, rz⟩ := L6.out.res
                      clear hv hb
                      dsimp only
                      refine hK.out _ _ ?_ (fun hHeld => ?_)
                      · (try dsimp only)
                        exact ⟨(HKS.out _ L6.out).1, (HKS.out _ L6.out).2, GC6.out⟩
                      clear hK K
                      (try simp only [Act.put, List.setIfInBounds_toArray, List.set_cons_zero, List.set_cons_succ])
                      refine wpAnyH_ready (rs := [18]) (by kernel_rfl) (by simp) ?_
                      refine AllReadyH.cons (o := _) rfl (fun K hK => ?_) ?_
                      · go_simp
                        refine hK.out _ _ ?_ (fun hHeld => ?_)
                        · (try dsimp only)
                          exact ⟨(HKR.out _ _ L6.out (keep_set10 _ _ (.int .i64 (binX (opT r) x y).kind) (.int .i64 (binX (opT r) x y).op) (.bool (binX (opT r) x y).no) (.int .i64 (binX (opT r) x y).val.kind) (.int .i64 (binX (opT r) x y).val.int) (.string (binX (opT r) x y).val.text) (.string (binX (opT r) x y).table) (.string (binX (opT r) x y).name) (.slice a9 (binX (opT r) x y).args.length ac9) (.slice s9 (binX (opT r) x y).sub.length sc9))).1, (HKR.out _ _ L6.out (keep_set10 _ _ (.int .i64 (binX (opT r) x y).kind) (.int .i64 (binX (opT r) x y).op) (.bool (binX (opT r) x y).no) (.int .i64 (binX (opT r) x y).val.kind) (.int .i64 (binX (opT r) x y).val.int) (.string (binX (opT r) x y).val.text) (.string (binX (opT r) x y).table) (.string (binX (opT r) x y).name) (.slice a9 (binX (opT r) x y).args.length ac9) (.slice s9 (binX (opT r) x y).sub.length sc9))).2, ((keep_set10 _ _ (.int .i64 (binX (opT r) x y).kind) (.int .i64 (binX (opT r) x y).op) (.bool (binX (opT r) x y).no) (.int .i64 (binX (opT r) x y).val.kind) (.int .i64 (binX (opT r) x y).val.int) (.string (binX (opT r) x y).val.text) (.string (binX (opT r) x y).table) (.string (binX (opT r) x y).name) (.slice a9 (binX (opT r) x y).args.length ac9) (.slice s9 (binX (opT r) x y).sub.length sc9)).cell (by have := L2.out.res.2.2.2.2.2.2.2.2.2.2.2; omega) (fun h => by unfold At at h; have := L2.out.res.2.2.2.2.2.2.2.2.2.2.2; omega)).trans GC6.out⟩
                        clear hK K
                        (try simp only [Act.put, List.setIfInBounds_toArray, List.set_cons_zero, List.set_cons_succ])
                        refine wpAnyH_done (by kernel_rfl) ?_ _
                        refine NoPanic.normal ?_
                        repeat (first | go_values | go_skip | go_guarded | go_step | go_upon)
                        refine bodyPost_ret (v := .agg #[.int .i64 (binX (opT r) x y).kind, .int .i64 (binX (opT r) x y).op, .bool (binX (opT r) x y).no, .int .i64 (binX (opT r) x y).val.kind, .int .i64 (binX (opT r) x y).val.int, .string (binX (opT r) x y).val.text, .string (binX (opT r) x y).table, .string (binX (opT r) x y).name, .slice a9 (binX (opT r) x y).args.length ac9, .slice s9 (binX (opT r) x y).sub.length sc9]) (by simp [results, Tryz.results20, go_sem, r0, r1, r2, r3, r4, r5, r6, r7, r8, r9]) rfl ?_
                        have FIN := ex_fin (P := Mk ss fs 1 (m + 1)) hTw L6.out HV.out (by omega) (keep_set10 _ _ (.int .i64 (binX (opT r) x y).kind) (.int .i64 (binX (opT r) x y).op) (.bool (binX (opT r) x y).no) (.int .i64 (binX (opT r) x y).val.kind) (.int .i64 (binX (opT r) x y).val.int) (.string (binX (opT r) x y).val.text) (.string (binX (opT r) x y).table) (.string (binX (opT r) x y).name) (.slice a9 (binX (opT r) x y).args.length ac9) (.slice s9 (binX (opT r) x y).sub.length sc9)) (mk_op (k := 5) (o := (opT r)) (no := false) (args := [x, y]) (hsh := .inr (.inr (.inl ⟨rfl, by have := opT_9 r; omega, by have := opT_13 r; omega, rfl, rfl⟩))) (fun z hz => by simp at hz; rcases hz with rfl | rfl; exact HM1.out.1; exact HM2.out.1) fun ts hts => made_arith _ (opT_9 r) (opT_13 r) (HM1.out.2 ts hts) (HM2.out.2 ts hts))
                        exact FIN
                      exact AllReadyH.nil
                    exact AllReadyH.nil
                  exact AllReadyH.nil
                refine AllReadyH.cons (o := _) rfl (fun K hK => ?_) ?_
                · go_simp
                  refine (HEX.out _ (L4.out) (depth - 1) 1 (by omega) (by omega) (by omega) (by omega)).mono ?_
                  rintro e w5 ⟨v, rfl, ⟨y, hx, hmk⟩, ht, hk⟩
                  have hx0 := hx
                  obtain ⟨a2, ac2, s2, sc2, rfl, _, _⟩ := hx0
                  have L5 := Lib.hid ((L4.out).step hTw ht hk)
                  have zw5 := hk.size
                  (try simp only [World.size_alloc] at zw5)
                  have HX2 := Lib.hid hx
                  have HM2 := Lib.hid hmk
                  have HK2 := Lib.hid hk
                  clear hx hmk ht hk
                  dsimp only
                  refine hK.out _ _ ?_ (fun hHeld => ?_)
                  · (try dsimp only)
                    exact HKS.out _ L5.out
                  clear hK K
                  (try simp only [Act.put, List.setIfInBounds_toArray, List.set_cons_zero, List.set_cons_succ])
                  refine wpAnyH_ready (rs := [0]) (by kernel_rfl) (by simp) ?_
                  refine AllReadyH.cons (o := _) rfl (fun K hK => ?_) ?_
                  · go_simp
                    refine hK.out _ _ ?_ (fun hHeld => ?_)
                    · (try dsimp only)
                      exact HKS.out _ (L5.out.alloc hTw _)
                    clear hK K
                    (try simp only [Act.put, List.setIfInBounds_toArray, List.set_cons_zero, List.set_cons_succ])
                    have hG : (w5.alloc (.cells #[.int .i64 9, .int .i64 10, .int .i64 11, .int .i64 9, .int .i64 12, .int .i64 13] 3)).cell? ⟨w5.heap.size, r.toNat, none⟩ = some (.int .i64 (opT r)) := op_cell w5 r ho0 ho1
                    refine wpAnyH_strong (S := fun w' => w'.cell? ⟨w.heap.size, 0, none⟩ = some (.slice fa fs.length fc) ∧ w'.cell? ⟨w.heap.size, 1, none⟩ = some (.slice ta ss.length tc)) (S' := fun w' => w'.cell? ⟨w.heap.size, 0, none⟩ = some (.slice fa fs.length fc) ∧ w'.cell? ⟨w.heap.size, 1, none⟩ = some (.slice ta ss.length tc) ∧ w'.cell? ⟨w5.heap.size, r.toNat, none⟩ = some (.int .i64 (opT r))) (fun _ h => ⟨h.1, h.2.1⟩) _ _ _ _ ?_
                    clear hHeld
                    have hHeld : (w5.alloc (.cells #[.int .i64 9, .int .i64 10, .int .i64 11, .int .i64 9, .int .i64 12, .int .i64 13] 3)).cell? ⟨w.heap.size, 0, none⟩ = some (.slice fa fs.length fc) ∧ (w5.alloc (.cells #[.int .i64 9, .int .i64 10, .int .i64 11, .int .i64 9, .int .i64 12, .int .i64 13] 3)).cell? ⟨w.heap.size, 1, none⟩ = some (.slice ta ss.length tc) ∧ (w5.alloc (.cells #[.int .i64 9, .int .i64 10, .int .i64 11, .int .i64 9, .int .i64 12, .int .i64 13] 3)).cell? ⟨w5.heap.size, r.toNat, none⟩ = some (.int .i64 (opT r)) := ⟨(HKS.out _ (L5.out.alloc hTw _)).1, (HKS.out _ (L5.out.alloc hTw _)).2, hG⟩
                    clear hG
                    refine wpAnyH_take (i := 3) (v := _) rfl (by kernel_rfl) (by kernel_rfl) (by kernel_rfl) (fun _ _ _ h => h) (Or.inl ⟨by rfl, by (intro w hSw; (try dsimp only at hSw); go_simp; (try with_reducible rfl))⟩) (by assumption) ?_
                    (try simp only [Act.put, List.setIfInBounds_toArray])
                    refine wpAnyH_take (i := 4) (v := _) rfl (by kernel_rfl) (by kernel_rfl) (by kernel_rfl) (fun _ _ _ h => h) (Or.inl ⟨by rfl, by (intro w hSw; (try dsimp only at hSw); go_simp; (try with_reducible rfl))⟩) (by assumption) ?_
                    (try simp only [Act.put])
                    refine wpAnyH_ready (rs := [17]) (by kernel_rfl) (by simp) ?_
                    refine AllReadyH.cons (o := _) rfl (fun K hK => ?_) ?_
                    · go_simp
                      refine (bin_ex (lo := w.heap.size + 1 + 1) (opT r) (ExV.keep (ex_low (lo := w2.heap.size) (ex_step (by have := L2.out.place.2.2; omega) (ex_low HX1.out (by first | omega | (simp; done) | (simp; omega))) HK2.out) (by have := L2.out.res.2.2.2.2.2.2.2.2.2.2.2; omega)) ((Keep.refl _ w5).alloc _)) (ExV.keep (ex_low (lo := w2.heap.size) (ex_low HX2.out (by first | omega | (simp; done) | (simp; omega))) (by have := L2.out.res.2.2.2.2.2.2.2.2.2.2.2; omega)) ((Keep.refl _ w5).alloc _)) (by have := L2.out.res.2.2.2.2.2.2.2.2.2.2.2; first | omega | (simp only [World.size_alloc]; omega))).mono ?_
                      rintro e w6 ⟨v, rfl, hv, hb⟩
                      have hv0 := hv
                      obtain ⟨a9, ac9, s9, sc9, rfl, _, _⟩ := hv0
                      have L6 := Lib.hid ((L5.out.alloc hTw _).bel hTw hb)
                      have HV := Lib.hid hv
                      have z6 := hb.size
                      (try simp only [World.size_alloc] at z6)
                      have GC6 := Lib.hid ((hb.cell (p := ⟨w5.heap.size, r.toNat, none⟩) (by first | (simp only []; omega) | (simp; done) | (simp; omega))).trans (op_cell w5 r ho0 ho1))
                      obtain ⟨r0, r1, r2, r3, r4, r5, r6, r7, r8, r9, rf, rz⟩ := L6.out.res
                      clear hv hb
                      dsimp only
                      refine hK.out _ _ ?_ (fun hHeld => ?_)
                      · (try dsimp only)
                        exact ⟨(HKS.out _ L6.out).1, (HKS.out _ L6.out).2, GC6.out⟩
                      clear hK K
                      (try simp only [Act.put, List.setIfInBounds_toArray, List.set_cons_zero, List.set_cons_succ])
                      refine wpAnyH_ready (rs := [18]) (by kernel_rfl) (by simp) ?_
                      refine AllReadyH.cons (o := _) rfl (fun K hK => ?_) ?_
                      · go_simp
                        refine hK.out _ _ ?_ (fun hHeld => ?_)
                        · (try dsimp only)
                          exact ⟨(HKR.out _ _ L6.out (keep_set10 _ _ (.int .i64 (binX (opT r) x y).kind) (.int .i64 (binX (opT r) x y).op) (.bool (binX (opT r) x y).no) (.int .i64 (binX (opT r) x y).val.kind) (.int .i64 (binX (opT r) x y).val.int) (.string (binX (opT r) x y).val.text) (.string (binX (opT r) x y).table) (.string (binX (opT r) x y).name) (.slice a9 (binX (opT r) x y).args.length ac9) (.slice s9 (binX (opT r) x y).sub.length sc9))).1, (HKR.out _ _ L6.out (keep_set10 _ _ (.int .i64 (binX (opT r) x y).kind) (.int .i64 (binX (opT r) x y).op) (.bool (binX (opT r) x y).no) (.int .i64 (binX (opT r) x y).val.kind) (.int .i64 (binX (opT r) x y).val.int) (.string (binX (opT r) x y).val.text) (.string (binX (opT r) x y).table) (.string (binX (opT r) x y).name) (.slice a9 (binX (opT r) x y).args.length ac9) (.slice s9 (binX (opT r) x y).sub.length sc9))).2, ((keep_set10 _ _ (.int .i64 (binX (opT r) x y).kind) (.int .i64 (binX (opT r) x y).op) (.bool (binX (opT r) x y).no) (.int .i64 (binX (opT r) x y).val.kind) (.int .i64 (binX (opT r) x y).val.int) (.string (binX (opT r) x y).val.text) (.string (binX (opT r) x y).table) (.string (binX (opT r) x y).name) (.slice a9 (binX (opT r) x y).args.length ac9) (.slice s9 (binX (opT r) x y).sub.length sc9)).cell (by have := L2.out.res.2.2.2.2.2.2.2.2.2.2.2; omega) (fun h => by unfold At at h; have := L2.out.res.2.2.2.2.2.2.2.2.2.2.2; omega)).trans GC6.out⟩
                        clear hK K
                        (try simp only [Act.put, List.setIfInBounds_toArray, List.set_cons_zero, List.set_cons_succ])
                        refine wpAnyH_done (by kernel_rfl) ?_ _
                        refine NoPanic.normal ?_
                        repeat (first | go_values | go_skip | go_guarded | go_step | go_upon)
                        refine bodyPost_ret (v := .agg #[.int .i64 (binX (opT r) x y).kind, .int .i64 (binX (opT r) x y).op, .bool (binX (opT r) x y).no, .int .i64 (binX (opT r) x y).val.kind, .int .i64 (binX (opT r) x y).val.int, .string (binX (opT r) x y).val.text, .string (binX (opT r) x y).table, .string (binX (opT r) x y).name, .slice a9 (binX (opT r) x y).args.length ac9, .slice s9 (binX (opT r) x y).sub.length sc9]) (by simp [results, Tryz.results20, go_sem, r0, r1, r2, r3, r4, r5, r6, r7, r8, r9]) rfl ?_
                        have FIN := ex_fin (P := Mk ss fs 1 (m + 1)) hTw L6.out HV.out (by omega) (keep_set10 _ _ (.int .i64 (binX (opT r) x y).kind) (.int .i64 (binX (opT r) x y).op) (.bool (binX (opT r) x y).no) (.int .i64 (binX (opT r) x y).val.kind) (.int .i64 (binX (opT r) x y).val.int) (.string (binX (opT r) x y).val.text) (.string (binX (opT r) x y).table) (.string (binX (opT r) x y).name) (.slice a9 (binX (opT r) x y).args.length ac9) (.slice s9 (binX (opT r) x y).sub.length sc9)) (mk_op (k := 5) (o := (opT r)) (no := false) (args := [x, y]) (hsh := .inr (.inr (.inl ⟨rfl, by have := opT_9 r; omega, by have := opT_13 r; omega, rfl, rfl⟩))) (fun z hz => by simp at hz; rcases hz with rfl | rfl; exact HM1.out.1; exact HM2.out.1) fun ts hts => made_arith _ (opT_9 r) (opT_13 r) (HM1.out.2 ts hts) (HM2.out.2 ts hts))
                        exact FIN
                      exact AllReadyH.nil
                    exact AllReadyH.nil
                  exact AllReadyH.nil
                exact AllReadyH.nil
              exact AllReadyH.nil
            exact AllReadyH.nil
          · dsimp only
            go_wp2_with fail
            refine (HEX.out _ L2.out (depth - 1) 1 (by omega) (by omega) (by omega) (by omega)).mono ?_
            rintro e w3 ⟨v, rfl, ⟨x, hx, hmk⟩, ht, hk⟩
            have hx0 := hx
            obtain ⟨a1, ac1, s1, sc1, rfl, _, _⟩ := hx0
            have L3 := Lib.hid (L2.out.step hTw ht hk)
            have HX := Lib.hid hx
            have HM := Lib.hid hmk
            clear hx hmk ht hk
            dsimp only
            obtain ⟨r0, r1, r2, r3, r4, r5, r6, r7, r8, r9, rf, rz⟩ := L3.out.res
            repeat (first | go_values | go_skip | go_guarded | go_step | go_upon)
            refine bodyPost_ret (v := .agg #[.int .i64 4, .int .i64 0, .bool false, .int .i64 0, .int .i64 0, .string ⟨#[]⟩, .string ⟨#[]⟩, .string ⟨#[]⟩, .slice (some ⟨w3.heap.size, 0, none⟩) 1 1, .slice none 0 0]) (by simp [results, Tryz.results20, go_sem, r0, r1, r2, r3, r4, r5, r6, r7, r8, r9, rz]) rfl ?_
            have FIN := ex1_fin (k := 4) (o := 0) (no := false) (P := Mk ss fs 1 (m + 1)) hTw L3.out HX.out (by have := L2.out.res.2.2.2.2.2.2.2.2.2.2.2; omega) (mk_op (fun y hy => by obtain rfl := List.mem_singleton.1 hy; exact HM.out.1) fun ts hts => made_neg (HM.out.2 ts hts)) (keep_set10 _ _ (.int .i64 4) (.int .i64 0) (.bool false) (.int .i64 0) (.int .i64 0) (.string ⟨#[]⟩) (.string ⟨#[]⟩) (.string ⟨#[]⟩) (.slice (some ⟨w3.heap.size, 0, none⟩) 1 1) (.slice none 0 0)) (by simp)
            exact FIN
      · by_cases hk00 : k = 0
        · subst hk00
          go_wp2_with fail
          refine (bool_any T 2 _ (by omega) (by omega) LC.out.tape).mono ?_
          rintro e w2 ⟨v, rfl, ⟨b2, rfl⟩, ht, hk⟩
          have L2 := Lib.hid (LC.out.step hTw ht hk)
          obtain ⟨p0', p1', pz'⟩ := L2.out.place
          clear ht hk
          cases b2
          · dsimp only
            go_wp2_with fail
            refine (HCN.out _ L2.out).mono ?_
            rintro e w3 ⟨v, rfl, ⟨x, hx, hmk⟩, ht, hk⟩
            have hx0 := hx
            obtain ⟨a1, ac1, s1, sc1, rfl, _, _⟩ := hx0
            have L3 := Lib.hid ((L2.out).step hTw ht hk)
            have HX := Lib.hid hx
            have HM := Lib.hid hmk
            clear hx hmk ht hk
            dsimp only
            obtain ⟨r0, r1, r2, r3, r4, r5, r6, r7, r8, r9, rf, rz⟩ := L3.out.res
            repeat (first | go_values | go_skip | go_guarded | go_step | go_upon)
            refine bodyPost_ret (v := .agg #[.int .i64 x.kind, .int .i64 x.op, .bool x.no, .int .i64 x.val.kind, .int .i64 x.val.int, .string x.val.text, .string x.table, .string x.name, .slice a1 x.args.length ac1, .slice s1 x.sub.length sc1]) (by simp [results, Tryz.results20, go_sem, r0, r1, r2, r3, r4, r5, r6, r7, r8, r9]) rfl ?_
            have FIN := ex_fin (P := Mk ss fs 2 (m + 1)) hTw L3.out HX.out (by have := (L2.out).res.2.2.2.2.2.2.2.2.2.2.2; omega) (keep_set10 _ _ (.int .i64 x.kind) (.int .i64 x.op) (.bool x.no) (.int .i64 x.val.kind) (.int .i64 x.val.int) (.string x.val.text) (.string x.table) (.string x.name) (.slice a1 x.args.length ac1) (.slice s1 x.sub.length sc1)) HM.out
            exact FIN
          · dsimp only
            go_wp2_with fail
            refine (HQY.out _ L2.out 8 (by omega) (by omega)).mono ?_
            rintro e w3 ⟨v, rfl, ⟨x, hx, hmk⟩, ht, hk⟩
            have hx0 := hx
            obtain ⟨a1, ac1, s1, sc1, rfl, _, _⟩ := hx0
            have L3 := Lib.hid (L2.out.step hTw ht hk)
            have HX := Lib.hid hx
            have HM := Lib.hid hmk
            clear hx hmk ht hk
            dsimp only
            obtain ⟨r0, r1, r2, r3, r4, r5, r6, r7, r8, r9, rf, rz⟩ := L3.out.res
            repeat (first | go_values | go_skip | go_guarded | go_step | go_upon)
            refine bodyPost_ret (v := .agg #[.int .i64 x.kind, .int .i64 x.op, .bool x.no, .int .i64 x.val.kind, .int .i64 x.val.int, .string x.val.text, .string x.table, .string x.name, .slice a1 x.args.length ac1, .slice s1 x.sub.length sc1]) (by simp [results, Tryz.results20, go_sem, r0, r1, r2, r3, r4, r5, r6, r7, r8, r9]) rfl ?_
            have FIN := ex_fin (P := Mk ss fs 2 (m + 1)) hTw L3.out HX.out (by have := L2.out.res.2.2.2.2.2.2.2.2.2.2.2; omega) (keep_set10 _ _ (.int .i64 x.kind) (.int .i64 x.op) (.bool x.no) (.int .i64 x.val.kind) (.int .i64 x.val.int) (.string x.val.text) (.string x.table) (.string x.name) (.slice a1 x.args.length ac1) (.slice s1 x.sub.length sc1)) HM.out
            exact FIN
        · have hk01 : (k == 0) = false := by simpa using hk00
          clear hk00
          go_wp2_with fail
          refine (HCN.out _ LC.out).mono ?_
          rintro e w3 ⟨v, rfl, ⟨x, hx, hmk⟩, ht, hk⟩
          have hx0 := hx
          obtain ⟨a1, ac1, s1, sc1, rfl, _, _⟩ := hx0
          have L3 := Lib.hid ((LC.out).step hTw ht hk)
          have HX := Lib.hid hx
          have HM := Lib.hid hmk
          clear hx hmk ht hk
          dsimp only
          obtain ⟨r0, r1, r2, r3, r4, r5, r6, r7, r8, r9, rf, rz⟩ := L3.out.res
          repeat (first | go_values | go_skip | go_guarded | go_step | go_upon)
          refine bodyPost_ret (v := .agg #[.int .i64 x.kind, .int .i64 x.op, .bool x.no, .int .i64 x.val.kind, .int .i64 x.val.int, .string x.val.text, .string x.table, .string x.name, .slice a1 x.args.length ac1, .slice s1 x.sub.length sc1]) (by simp [results, Tryz.results20, go_sem, r0, r1, r2, r3, r4, r5, r6, r7, r8, r9]) rfl ?_
          have FIN := ex_fin (P := Mk ss fs 2 (m + 1)) hTw L3.out HX.out (by have := (LC.out).res.2.2.2.2.2.2.2.2.2.2.2; omega) (keep_set10 _ _ (.int .i64 x.kind) (.int .i64 x.op) (.bool x.no) (.int .i64 x.val.kind) (.int .i64 x.val.int) (.string x.val.text) (.string x.table) (.string x.name) (.slice a1 x.args.length ac1) (.slice s1 x.sub.length sc1)) HM.out
          exact FIN
      · go_wp2_with fail
        refine (typed_any T 3 _ LC.out.tape (HW.out.at LC.out.kept)).mono ?_
        rintro e w5 ⟨v, rfl, ⟨x, rfl, hx1, hx2⟩, ht, hk⟩
        have L5 := Lib.hid (LC.out.step hTw ht hk)
        have HX2 := Lib.hid hx2
        have HX1 := Lib.hid hx1
        clear ht hk hx1 hx2
        dsimp only
        go_wp2_with fail
        refine (lit_any _ _ _ _).mono ?_
        rintro e w6 ⟨rfl, hb⟩
        have L6 := Lib.hid (L5.out.bel hTw hb)
        clear hb
        dsimp only
        obtain ⟨r0, r1, r2, r3, r4, r5, r6, r7, r8, r9, rf, rz⟩ := L6.out.res
        repeat (first | go_values | go_skip | go_guarded | go_step | go_upon)
        refine bodyPost_ret (v := .agg #[.int .i64 1, .int .i64 0, .bool false, .int .i64 x.kind, .int .i64 x.int, .string x.text, .string ⟨#[]⟩, .string ⟨#[]⟩, .slice none 0 0, .slice none 0 0]) (by simp [results, Tryz.results20, go_sem, r0, r1, r2, r3, r4, r5, r6, r7, r8, r9]) rfl ?_
        have FIN := ex_fin (lo := w.heap.size + 1 + 1) (P := Mk ss fs 3 (m + 1)) hTw L6.out (exV_bare 1 0 false x ⟨#[]⟩ ⟨#[]⟩) (by omega) (keep_set10 _ _ (.int .i64 1) (.int .i64 0) (.bool false) (.int .i64 x.kind) (.int .i64 x.int) (.string x.text) (.string ⟨#[]⟩) (.string ⟨#[]⟩) (.slice none 0 0) (.slice none 0 0)) (mk_lit x HX1.out (fun h => by have := HX2.out; omega) (HX2.out.elim .inr fun h => by omega))
        exact FIN

end Go.Proofs.YtpnigfmclmfjaaaGreatDoor
