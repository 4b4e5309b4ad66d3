/- Whether a change is valid for a table: it returns. -/
import Derived.Test.YtkhlmofcdchccaaGreatDoorU06
namespace Go.Proofs.YtkhlmofcdchccaaGreatDoor
open Go.RowKit Go.Maps

/-- A row of values, as a cell of a list of rows. -/
def RvR (M : Nat → Prop) (w : World) (r : List Val) (cs : List Value) : Prop := ∃ v, cs = [v] ∧ ValsR M w v r
theorem rvStable : Stable RvR where
  keep := fun ⟨v, h1, h2⟩ k => ⟨v, h1, h2.keep k⟩
  weak := fun ⟨v, h1, h2⟩ hM => ⟨v, h1, h2.weak hM⟩
  one := by
    rintro M w x cs ⟨v, rfl, h⟩ u hu
    obtain ⟨a, c, rfl, _⟩ := h.shape
    simp only [List.mem_cons, List.not_mem_nil, or_false] at hu
    subst hu
    rfl
def RvsR (M : Nat → Prop) (w : World) (v : Value) (l : List (List Val)) : Prop := RowsR M w 1 (RvR M w) v l
theorem RvsR.keep {M : Nat → Prop} {w w' : World} {v : Value} {l : List (List Val)} (h : RvsR M w v l) (k : Keep M w w') : RvsR M w' v l := RowsR.map h k fun _ _ _ h => rvStable.keep h k
theorem RvsR.weak {M M' : Nat → Prop} {w : World} {v : Value} {l : List (List Val)} (hM : ∀ k, k < w.heap.size → M' k → M k) (h : RvsR M w v l) : RvsR M' w v l := RowsR.weak h hM fun _ _ _ h => rvStable.weak h hM

theorem ownI_bel {w w' : World} {G n : Nat} {D : DataW Unit} (h : w.ownsMap Tryz.prog 3 (plainElem Tryz.prog 4) G n D) (k : Below w.heap.size w w') : w'.ownsMap Tryz.prog 3 (plainElem Tryz.prog 4) G n D := by
  have hlt := h.lt
  obtain ⟨es, clock, hb, F, hs, hD⟩ := h
  exact ⟨es, clock, (k.block G hlt).trans hb, F, hs, hD⟩
/-- What a lookup gives hangs on the map's data alone. -/
theorem lookup_fix {w : World} {G n : Nat} {D : DataW Unit} (h : w.ownsMap Tryz.prog 3 (plainElem Tryz.prog 4) G n D) (x : Int) (hx : I64R x) :
    ∃ c : Bool, ∀ w' : World, w'.ownsMap Tryz.prog 3 (plainElem Tryz.prog 4) G n D → (Instr.lookup 181 (.map (some G)) (.int .i64 x) false).run Tryz.prog w' = .ok (.bool c) w' := by
  obtain ⟨v, ps, hrun, hv⟩ := h.lookup keyedI Tryz.underlying181 (zero_bool w) (plainElem_bool Tryz.underlying4 false) (keyI x hx)
  obtain ⟨c, rfl⟩ := bool_inv hv
  refine ⟨c, fun w' h' => ?_⟩
  obtain ⟨v', ps', hrun', hv'⟩ := h'.lookup keyedI Tryz.underlying181 (zero_bool w') (plainElem_bool Tryz.underlying4 false) (keyI x hx)
  obtain ⟨c', rfl⟩ := bool_inv hv'
  have e1 := congrArg Prod.fst (Option.some.inj ((plainElem_bool Tryz.underlying4 c).symm.trans hv))
  have e2 := congrArg Prod.fst (Option.some.inj ((plainElem_bool Tryz.underlying4 c').symm.trans hv'))
  have e3 : c = c' := by have := e1.trans e2.symm; simpa using this
  subst e3
  exact hrun'

/-- The change as memory has it. -/
structure ChgR (M : Nat → Prop) (w : World) (iv dv uv : Value) (li : List (List Val)) (ld : List Int) (lu : List PrD) : Prop where
  ins : RvsR M w iv li
  del : NumsR M w dv ld
  upd : PrsR M w uv lu

set_option maxRecDepth 100000 in
set_option maxHeartbeats 16000000 in
theorem r7valid_any {M : Nat → Prop} (nm : ByteArray) (cv rv iv dv uv : Value) (nx : Int) (cl : List Col) (l : List (Int × List Val)) (li : List (List Val)) (ld : List Int) (lu : List PrD) (w : World)
    (hc : ColsR M w cv cl) (hr : TrsR M w rv l) (hl : l.length ≤ 200) (hx : ∀ r ∈ l, r.2.length ≤ 1000 ∧ ∀ y ∈ r.2, ValidVal y) (hs : nm.size ≤ maxLen) (hcs : ∀ c ∈ cl, c.name.size ≤ maxLen)
    (hch : ChgR M w iv dv uv li ld lu) (hdl : ld.length ≤ 200) (hdi : ∀ x ∈ ld, I64R x) (hui : ∀ p ∈ lu, I64R p.id) :
    Calls Tryz.prog 60 #[.agg #[.string nm, cv, .int .i64 nx, rv], .agg #[iv, dv, uv]] w (BoolBel w) := by
  have HV := Lib.hid fun wx (k : Below w.heap.size w wx) => r6valid_any nm cv rv nx cl l wx (hc.keep (.bel k)) (hr.keep (.bel k)) hl hx hs hcs
  obtain ⟨ca, cc, rfl, hcm⟩ := hc.shape
  have HGT := Lib.hid fun wx (k : Below w.heap.size w wx) d => r6get_any nm (.slice ca cl.length cc) rv nx d l wx (hr.keep (.bel k)) (fun r hr => (hx r hr).1) ⟨_, _, _, rfl⟩
  obtain ⟨a, cap, rfl, hm⟩ := hr.shape
  obtain ⟨h1, h2, h3⟩ := hch
  obtain ⟨ia, icap, rfl, him⟩ := h1.shape
  obtain ⟨da, dcap, rfl, hdm⟩ := h2.shape
  obtain ⟨ua, ucap, rfl, hum⟩ := h3.shape
  unfold maxLen at hm him hdm hum hcm
  have HI := Lib.hid fun j (hj : j < li.length) => rows_row h1 hj
  have HD := Lib.hid fun j (hj : j < ld.length) => rows_row h2 hj
  have HU := Lib.hid fun j (hj : j < lu.length) => rows_row h3 hj
  have HDI := Lib.hid hdi
  have HUI := Lib.hid hui
  obtain ⟨m, hmm⟩ : ∃ n, cl.length = n := ⟨_, rfl⟩
  obtain ⟨nr, hnr⟩ : ∃ n, l.length = n := ⟨_, rfl⟩
  obtain ⟨ni, hni⟩ : ∃ n, li.length = n := ⟨_, rfl⟩
  obtain ⟨nd, hnd⟩ : ∃ n, ld.length = n := ⟨_, rfl⟩
  obtain ⟨nu, hnu⟩ : ∃ n, lu.length = n := ⟨_, rfl⟩
  rw [hmm] at HV HGT hcm ⊢
  rw [hnr] at HV HGT hm ⊢
  rw [hni] at HI him ⊢
  rw [hnd] at HD hdm hdl ⊢
  rw [hnu] at HU hum ⊢
  clear hr hc hx hs hcs hl h1 h2 h3 hdi hui hmm hnr hni hnd hnu
  have hP := (PB.start w).new #[.string nm, .slice ca m cc, .int .i64 nx, .slice a nr cap] 96
  have hP := hP.new' (g := w.heap.size + 1) (by simp) #[.slice ia ni icap, .slice da nd dcap, .slice ua nu ucap] 102
  have hmk := @run_makeMap Tryz.prog
  go_enter Tryz.func60, Tryz.ntmps60
  go_upto_region 1 with fail
  generalize World.alloc (World.alloc w _) _ = W0 at hP ⊢
  have HT := Lib.hid fun (W' : World) (h : PB w W' [⟨w.heap.size + 1, #[.slice ia ni icap, .slice da nd dcap, .slice ua nu ucap], 102⟩, ⟨w.heap.size, #[.string nm, .slice ca m cc, .int .i64 nx, .slice a nr cap], 96⟩]) => blk4 (h.blk (b := ⟨w.heap.size, _, _⟩) (List.mem_cons_of_mem _ (List.mem_cons_self ..)))
  have HC := Lib.hid fun (W' : World) (h : PB w W' [⟨w.heap.size + 1, #[.slice ia ni icap, .slice da nd dcap, .slice ua nu ucap], 102⟩, ⟨w.heap.size, #[.string nm, .slice ca m cc, .int .i64 nx, .slice a nr cap], 96⟩]) => blk3 (h.blk (b := ⟨w.heap.size + 1, _, _⟩) (List.mem_cons_self ..))
  have HP0 := Lib.hid hP
  clear hP
  obtain ⟨x0, x1, x2, x3, _, _, xz⟩ := HT.out W0 HP0.out
  go_wp2_with fail
  refine (HV.out W0 HP0.out.below).mono ?_
  rintro e w1 ⟨b1, rfl, hb⟩
  have HP1 := Lib.hid (HP0.out.bel hb)
  clear hb HP0 x0 x1 x2 x3 xz
  dsimp only
  cases b1 with
  | false =>
    go_wp2_with fail
    go_ret
    exact ⟨_, rfl, HP1.out.below⟩
  | true =>
    obtain ⟨x0, x1, x2, x3, _, _, xz⟩ := HT.out w1 HP1.out
    have HM := Lib.hid (BMap.made 3 w1)
    have HP2 := Lib.hid (HP1.out.alloc (.map #[] 0))
    go_upto_region 5 with fail
    have hG := HP1.out.blt (b := ⟨w.heap.size + 1, _, _⟩) (List.mem_cons_self ..)
    dsimp only at hG
    generalize World.alloc w1 _ = W2 at HM HP2 ⊢
    generalize w1.heap.size = G at HM hG ⊢
    clear x0 x1 x2 x3 xz HP1
    obtain ⟨x0, x1, x2, x3, _, _, xz⟩ := HT.out W2 HP2.out
    obtain ⟨y0, y1, y2, _, _⟩ := HC.out W2 HP2.out
    go_wp2_with fail
    go_loopw [28] (fun i wr => ∃ j : Nat, j ≤ nd ∧ i = .int .i64 (j : Int) ∧ PB w wr [⟨w.heap.size + 1, #[.slice ia ni icap, .slice da nd dcap, .slice ua nu ucap], 102⟩, ⟨w.heap.size, #[.string nm, .slice ca m cc, .int .i64 nx, .slice a nr cap], 96⟩] ∧ BMap 3 wr G j) (fun i _ => nd - (intOf i).toNat)
    case atStart => exact ⟨0, Nat.zero_le _, rfl, HP2.out, HM.out⟩
    case round =>
      rename World => wr
      obtain ⟨j, hj, rfl, hpb, hmp⟩ := hrel
      have HPR := Lib.hid hpb
      have HMR := Lib.hid hmp
      clear hpb hmp x0 x1 x2 x3 xz y0 y1 y2
      obtain ⟨x0, x1, x2, x3, _, _, xz⟩ := HT.out wr HPR.out
      obtain ⟨y0, y1, y2, _, _⟩ := HC.out wr HPR.out
      by_cases hlt : j < nd
      · obtain ⟨d, b, o, cs, _, hdm', hda, hbz, hcs0, hcs, hcap, hcm'⟩ := HD.out j hlt
        obtain rfl : cs = [.int .i64 d] := hcs0
        unfold maxLen at hcm'
        subst hda
        have c0 := (hcs.keep (M := NoM) (.bel HPR.out.below) fun h => h) 0 _ rfl
        simp only [Nat.mul_one, Nat.add_zero] at c0
        have hdr := HDI.out d hdm'
        clear hcs hdm'
        have i0 : (0 : Int) ≤ (j : Int) := by omega
        have i1 : (j : Int) < (nd : Int) := by omega
        go_wp2_with fail
        refine (HGT.out wr HPR.out.below d).mono ?_
        rintro e w3 hgot
        have hbel3 : Below wr.heap.size wr w3 := by
          rcases hgot with ⟨r0, _, _, v0, _, _, h⟩ | ⟨_, _, h⟩ <;> exact h
        have HP3 := Lib.hid (HPR.out.bel hbel3)
        have HM3 := Lib.hid (HMR.out.keep (M := NoM) (.bel hbel3) fun h => h)
        clear x0 x1 x2 x3 xz y0 y1 y2 c0
        obtain ⟨y0, y1, y2, _, _⟩ := HC.out w3 HP3.out
        rcases hgot with ⟨r0, hr0, _, v0, rfl, hv0, _⟩ | ⟨_, rfl, _⟩
        · obtain ⟨va0, vc0, rfl, _⟩ := hv0.shape
          clear hv0 hr0 hbel3
          have kdl := keyI d hdr
          have hjm : j < maxLen := by unfold maxLen; omega
          have HUP := Lib.hid fun (w4 : World) (hm4 : BMap 3 w4 G (j + 1)) (hg4 : w3.grownBy w4 (some G)) => And.intro (HP3.out.then (N := At G) ((Keep.refl (At G) w3).grown hg4 fun k hk _ => by cases hk; rfl) (fun i hi h => by unfold At at h; omega) (fun b hb h => by
              simp only [List.mem_cons, List.not_mem_nil, or_false] at hb
              unfold At at h
              rcases hb with rfl | rfl <;> dsimp only at h <;> omega)) hm4
          dsimp only
          by_cases hj0 : (0 : Int) < (j : Int)
          · obtain ⟨k, rfl⟩ : ∃ k, j = k + 1 := ⟨j - 1, by omega⟩
            obtain ⟨pd, b1, o1, cs1, _, _, hab, _, hcs0, hcs1, _, _⟩ := HD.out k (by omega)
            cases hab
            obtain rfl : cs1 = [.int .i64 pd] := hcs0
            have q0 := (hcs1.keep (M := NoM) (.bel HP3.out.below) fun h => h) 0 _ rfl
            simp only [Nat.mul_one, Nat.add_zero] at q0
            have i2 : (0 : Int) ≤ (k : Int) := by omega
            have i3 : (k : Int) < (nd : Int) := by omega
            have hk1 : ((k + 1 : Nat) : Int) - 1 = (k : Int) := by omega
            have hwk : IntKind.i64.wrap (k : Int) = (k : Int) := IntWalk.i64_in _ (by omega)
            have hk2 : (k : Int) + 1 - 1 = (k : Int) := by omega
            clear hcs1
            by_cases hpd : d ≤ pd
            · go_wp2_with fail
              go_ret
              exact ⟨_, rfl, HP3.out.below⟩
            · go_wp2_with (at_mapUpdate; refine wpList_update_bool _ rfl _ _ _ 181 rfl keyedI Tryz.underlying181 G (k + 1) hjm true rfl HM3.out (.int .i64 d) _ rfl rfl kdl ?_; intro w4 hm4 hg4; have HW4 := Lib.hid (HUP.out w4 hm4 hg4); clear hm4 hg4)
              go_roundw
              case rel => exact ⟨k + 1 + 1, by omega, by go_num, HW4.out.1, HW4.out.2⟩
              case measure => simp [intOf]; omega
          · go_wp2_with (at_mapUpdate; refine wpList_update_bool _ rfl _ _ _ 181 rfl keyedI Tryz.underlying181 G j hjm true rfl HM3.out (.int .i64 d) _ rfl rfl kdl ?_; intro w4 hm4 hg4; have HW4 := Lib.hid (HUP.out w4 hm4 hg4); clear hm4 hg4)
            go_roundw
            case rel => exact ⟨j + 1, by omega, by go_num, HW4.out.1, HW4.out.2⟩
            case measure => simp [intOf]; omega
        · dsimp only
          go_wp2_with fail
          go_ret
          exact ⟨_, rfl, HP3.out.below⟩
      · have hjn : j = nd := by omega
        subst hjn
        go_wp2_with fail
        go_loopw [61] (fun i wx => ∃ j2 : Nat, j2 ≤ nu ∧ i = .int .i64 (j2 : Int) ∧ PB w wx [⟨w.heap.size + 1, #[.slice ia ni icap, .slice da j dcap, .slice ua nu ucap], 102⟩, ⟨w.heap.size, #[.string nm, .slice ca m cc, .int .i64 nx, .slice a nr cap], 96⟩] ∧ BMap 3 wx G j) (fun i _ => nu - (intOf i).toNat)
        case atStart => exact ⟨0, Nat.zero_le _, rfl, HPR.out, HMR.out⟩
        case round =>
          rename World => wx
          have hgG := hG
          generalize hnd : j = nd at *
          obtain ⟨j, hj, rfl, hpb, hmp⟩ := hrel
          have HPX := Lib.hid hpb
          have HMX := Lib.hid hmp
          clear hpb hmp x0 x1 x2 x3 xz y0 y1 y2 HPR HMR
          obtain ⟨x0, x1, x2, x3, _, _, xz⟩ := HT.out wx HPX.out
          obtain ⟨y0, y1, y2, _, _⟩ := HC.out wx HPX.out
          by_cases hlt : j < nu
          · obtain ⟨q, b, o, cs, _, hqm, hua, hbz, ⟨v1, v2, rfl, hv1, hv2⟩, hcs, hcap, hcm'⟩ := HU.out j hlt
            unfold maxLen at hcm'
            subst hua
            obtain ⟨c0, c1, c2⟩ := CellsAt.c3 (hcs.keep (M := NoM) (.bel HPX.out.below) fun h => h)
            obtain ⟨qa, qc, rfl, _⟩ := hv1.shape
            obtain ⟨qa2, qc2, rfl, _⟩ := hv2.shape
            have HV1 := Lib.hid hv1
            have hqr := HUI.out q hqm
            clear hcs hv1 hv2 hqm
            have i0 : (0 : Int) ≤ (j : Int) := by omega
            have i1 : (j : Int) < (nu : Int) := by omega
            have hP := HPX.out.new #[.int .i64 q.id, .slice qa q.old.length qc, .slice qa2 q.new.length qc2] 58
            have hQ : Below wx.heap.size wx (wx.alloc (.cells #[.int .i64 q.id, .slice qa q.old.length qc, .slice qa2 q.new.length qc2] 58)) := (Below.refl _ _).alloc (Nat.le_refl _) _
            have hpG : G < wx.heap.size := HMX.out.lt
            go_upto_region 16 with fail
            generalize hp : wx.heap.size = p at hP hQ hpG ⊢
            generalize World.alloc wx _ = W5 at hP hQ ⊢
            rw [← hp] at hQ
            clear hp c0 c1 c2 x0 x1 x2 x3 xz y0 y1 y2
            have HP5 := Lib.hid hP
            have HM5 := Lib.hid (HMX.out.keep (M := NoM) (.bel hQ) fun h => h)
            clear hP hQ
            obtain ⟨e0, e1, e2, _⟩ := blk3 (HP5.out.blk (b := ⟨p, _, _⟩) (List.mem_cons_self ..))
            obtain ⟨x0, x1, x2, x3, _, _, xz⟩ := HT.out W5 (HP5.out.sub (by simp))
            go_wp2_with fail
            refine (HGT.out W5 HP5.out.below q.id).mono ?_
            rintro e w6 hgot
            have hbel6 : Below W5.heap.size W5 w6 := by
              rcases hgot with ⟨r0, _, _, v0, _, _, h⟩ | ⟨_, _, h⟩ <;> exact h
            have HP6 := Lib.hid (HP5.out.bel hbel6)
            have HM6 := Lib.hid (HM5.out.keep (M := NoM) (.bel hbel6) fun h => h)
            clear e0 e1 e2 x0 x1 x2 x3 xz HM5
            obtain ⟨D, hD⟩ := HM6.out
            have HMP := Lib.hid hD
            obtain ⟨c, hc⟩ := lookup_fix hD q.id hqr
            have HLK := Lib.hid hc
            clear hD hc
            have HKS := Lib.hid fun (w' : World) (h : Below w6.heap.size w6 w') => show w'.cell? ⟨w.heap.size + 1, 2, none⟩ = some (.slice (some ⟨b, o, none⟩) nu ucap) ∧ w'.cell? ⟨p, 0, none⟩ = some (.int .i64 q.id) ∧ w'.cell? ⟨p, 1, none⟩ = some (.slice qa q.old.length qc) ∧ w'.cell? ⟨p, 2, none⟩ = some (.slice qa2 q.new.length qc2) ∧ w'.ownsMap Tryz.prog 3 (plainElem Tryz.prog 4) G nd D from
              ⟨(HC.out w' ((HP6.out.bel h).sub (by simp))).2.2.1, (blk3 ((HP6.out.bel h).blk (b := ⟨p, _, _⟩) (List.mem_cons_self ..))).1, (blk3 ((HP6.out.bel h).blk (b := ⟨p, _, _⟩) (List.mem_cons_self ..))).2.1, (blk3 ((HP6.out.bel h).blk (b := ⟨p, _, _⟩) (List.mem_cons_self ..))).2.2.1, ownI_bel HMP.out h⟩
            rcases hgot with ⟨r0, hr0, _, v0, rfl, hv0, _⟩ | ⟨_, rfl, _⟩
            · obtain ⟨va0, vc0, rfl, _⟩ := hv0.shape
              have hv6 : ValsR NoM w6 (.slice va0 r0.2.length vc0) r0.2 := hv0.rows fun k _ _ h2 => h2
              have HCR := Lib.hid fun (w' : World) (h : Below w6.heap.size w6 w') => rrows_v (M := NoM) (.slice va0 r0.2.length vc0) (.slice qa q.old.length qc) r0.2 q.old w' (hv6.keep (.bel h)) ((HV1.out.keep (.bel (HP6.out.bel h).below)).weak fun _ _ h => h.elim)
              clear hv0 hr0 hv6 hbel6
              dsimp only
              cases c with
              | true =>
                go_upto_region 17 with fail
                refine wp_region_held_drew (S := fun w' => w'.cell? ⟨w.heap.size + 1, 2, none⟩ = some (.slice (some ⟨b, o, none⟩) nu ucap) ∧ w'.cell? ⟨p, 0, none⟩ = some (.int .i64 q.id) ∧ w'.cell? ⟨p, 1, none⟩ = some (.slice qa q.old.length qc) ∧ w'.cell? ⟨p, 2, none⟩ = some (.slice qa2 q.new.length qc2) ∧ w'.ownsMap Tryz.prog 3 (plainElem Tryz.prog 4) G nd D) (by kernel_rfl) (HKS.out _ (below_drew (Below.refl _ _))) fun hHeld => ?_
                refine wpAnyH_take (i := 0) (oi := _) (v := ?_) rfl (by kernel_rfl) (by kernel_rfl) (by kernel_rfl) (fun _ _ _ h => h) ((.inl ⟨by kernel_rfl, fun wh hwh => by (try dsimp only at hwh); obtain ⟨g0, g1, g2, g3, gm⟩ := hwh; first | (simp [execOp, go_sem]; done) | (simp [execOp, go_sem]; with_reducible rfl)⟩)) hHeld ?_
                (try simp only [Act.put, List.getElem_toArray, List.getElem_cons_zero, List.setIfInBounds_toArray, List.set_cons_zero, List.set_cons_succ])
                refine wpAnyH_take (i := 1) (oi := _) (v := ?_) rfl (by kernel_rfl) (by kernel_rfl) (by kernel_rfl) (fun _ _ _ h => h) ((.inl ⟨by kernel_rfl, fun wh hwh => by (try dsimp only at hwh); obtain ⟨g0, g1, g2, g3, gm⟩ := hwh; first | (simp [execOp, go_sem]; done) | (simp [execOp, go_sem]; with_reducible rfl)⟩)) hHeld ?_
                (try simp only [Act.put, List.getElem_toArray, List.getElem_cons_succ, List.getElem_cons_zero, List.setIfInBounds_toArray, List.set_cons_zero, List.set_cons_succ])
                refine wpAnyH_take (i := 2) (oi := _) (v := ?_) rfl (by kernel_rfl) (by kernel_rfl) (by kernel_rfl) (fun _ _ _ h => h) ((.inl ⟨by kernel_rfl, fun wh hwh => by (try dsimp only at hwh); obtain ⟨g0, g1, g2, g3, gm⟩ := hwh; first | (simp [execOp, go_sem]; done) | (simp [execOp, go_sem]; with_reducible rfl)⟩)) hHeld ?_
                (try simp only [Act.put, List.getElem_toArray, List.getElem_cons_succ, List.getElem_cons_zero, List.setIfInBounds_toArray, List.set_cons_zero, List.set_cons_succ])
                refine wpAnyH_take (i := 3) (oi := _) (v := ?_) rfl (by kernel_rfl) (by kernel_rfl) (by kernel_rfl) (fun _ _ _ h => h) ((.inl ⟨by kernel_rfl, fun wh hwh => by (try dsimp only at hwh); obtain ⟨g0, g1, g2, g3, gm⟩ := hwh; first | (simp [execOp, go_sem]; done) | (simp [execOp, go_sem]; with_reducible rfl)⟩)) hHeld ?_
                (try simp only [Act.put, List.getElem_toArray, List.getElem_cons_succ, List.getElem_cons_zero, List.setIfInBounds_toArray, List.set_cons_zero, List.set_cons_succ])
                refine wpAnyH_take (i := 4) (oi := _) (v := ?_) rfl (by kernel_rfl) (by kernel_rfl) (by kernel_rfl) (fun _ _ _ h => h) ((.inl ⟨by kernel_rfl, fun wh hwh => by (try dsimp only at hwh); obtain ⟨g0, g1, g2, g3, gm⟩ := hwh; first | (simp [execOp, go_sem]; done) | (simp [execOp, go_sem]; with_reducible rfl)⟩)) hHeld ?_
                (try simp only [Act.put, List.getElem_toArray, List.getElem_cons_succ, List.getElem_cons_zero, List.setIfInBounds_toArray, List.set_cons_zero, List.set_cons_succ])
                refine wpAnyH_take (i := 5) (oi := _) (v := ?_) rfl (by kernel_rfl) (by kernel_rfl) (by kernel_rfl) (fun _ _ _ h => h) ((.inl ⟨by kernel_rfl, fun wh hwh => by (try dsimp only at hwh); obtain ⟨g0, g1, g2, g3, gm⟩ := hwh; first | (simp [execOp, go_sem, g1]; done) | (simp [execOp, go_sem, g1]; with_reducible rfl)⟩)) hHeld ?_
                (try simp only [Act.put, List.getElem_toArray, List.getElem_cons_succ, List.getElem_cons_zero, List.setIfInBounds_toArray, List.set_cons_zero, List.set_cons_succ])
                refine wpAnyH_take (i := 6) (oi := _) (v := .bool true) rfl (by kernel_rfl) (by kernel_rfl) (by kernel_rfl) (fun _ _ _ h => h) ((.inl ⟨by kernel_rfl, fun wh hwh => by (try dsimp only at hwh); obtain ⟨g0, g1, g2, g3, gm⟩ := hwh; have hq := HLK.out wh gm; show ((do pure (Next.value (← Instr.lookup 181 (.map (some G)) (.int .i64 q.id) false))) : Sem Next).run _ _ = _; simp [hq, Result.andThen]⟩)) hHeld ?_
                (try simp only [Act.put, List.getElem_toArray, List.getElem_cons_succ, List.getElem_cons_zero, List.setIfInBounds_toArray, List.set_cons_zero, List.set_cons_succ])
                refine wpAnyH_take (i := 7) (oi := _) (v := ?_) rfl (by kernel_rfl) (by kernel_rfl) (by kernel_rfl) (fun _ _ _ h => h) ((.inl ⟨by kernel_rfl, fun wh hwh => by (try dsimp only at hwh); obtain ⟨g0, g1, g2, g3, gm⟩ := hwh; first | (simp [execOp, go_sem]; done) | (simp [execOp, go_sem]; with_reducible rfl)⟩)) hHeld ?_
                (try simp only [Act.put, List.getElem_toArray, List.getElem_cons_succ, List.getElem_cons_zero, List.setIfInBounds_toArray, List.set_cons_zero, List.set_cons_succ])
                refine wpAnyH_take (i := 8) (oi := _) (v := ?_) rfl (by kernel_rfl) (by kernel_rfl) (by kernel_rfl) (fun _ _ _ h => h) ((.inl ⟨by kernel_rfl, fun wh hwh => by (try dsimp only at hwh); obtain ⟨g0, g1, g2, g3, gm⟩ := hwh; first | (simp [execOp, go_sem]; done) | (simp [execOp, go_sem]; with_reducible rfl)⟩)) hHeld ?_
                (try simp only [Act.put, List.getElem_toArray, List.getElem_cons_succ, List.getElem_cons_zero, List.setIfInBounds_toArray, List.set_cons_zero, List.set_cons_succ])
                refine wpAnyH_take (i := 9) (oi := _) (v := undef) rfl (by kernel_rfl) (by kernel_rfl) (by kernel_rfl) (fun _ _ _ h => h) (.inr ⟨by kernel_rfl, rfl⟩) hHeld ?_
                (try simp only [Act.put, List.getElem_toArray, List.getElem_cons_succ, List.getElem_cons_zero, List.setIfInBounds_toArray, List.set_cons_zero, List.set_cons_succ])
                refine wpAnyH_take (i := 10) (oi := _) (v := undef) rfl (by kernel_rfl) (by kernel_rfl) (by kernel_rfl) (fun _ _ _ h => h) (.inr ⟨by kernel_rfl, rfl⟩) hHeld ?_
                (try simp only [Act.put, List.getElem_toArray, List.getElem_cons_succ, List.getElem_cons_zero, List.setIfInBounds_toArray, List.set_cons_zero, List.set_cons_succ])
                refine wpAnyH_take (i := 11) (oi := _) (v := undef) rfl (by kernel_rfl) (by kernel_rfl) (by kernel_rfl) (fun _ _ _ h => h) (.inr ⟨by kernel_rfl, rfl⟩) hHeld ?_
                (try simp only [Act.put, List.getElem_toArray, List.getElem_cons_succ, List.getElem_cons_zero, List.setIfInBounds_toArray, List.set_cons_zero, List.set_cons_succ])
                refine wpAnyH_take (i := 12) (oi := _) (v := undef) rfl (by kernel_rfl) (by kernel_rfl) (by kernel_rfl) (fun _ _ _ h => h) (.inr ⟨by kernel_rfl, rfl⟩) hHeld ?_
                (try simp only [Act.put, List.getElem_toArray, List.getElem_cons_succ, List.getElem_cons_zero, List.setIfInBounds_toArray, List.set_cons_zero, List.set_cons_succ])
                refine wpAnyH_take (i := 13) (oi := _) (v := undef) rfl (by kernel_rfl) (by kernel_rfl) (by kernel_rfl) (fun _ _ _ h => h) (.inr ⟨by kernel_rfl, rfl⟩) hHeld ?_
                (try simp only [Act.put, List.getElem_toArray, List.getElem_cons_succ, List.getElem_cons_zero, List.setIfInBounds_toArray, List.set_cons_zero, List.set_cons_succ])
                refine wpAnyH_take (i := 14) (oi := _) (v := undef) rfl (by kernel_rfl) (by kernel_rfl) (by kernel_rfl) (fun _ _ _ h => h) (.inr ⟨by kernel_rfl, rfl⟩) hHeld ?_
                (try simp only [Act.put, List.getElem_toArray, List.getElem_cons_succ, List.getElem_cons_zero, List.setIfInBounds_toArray, List.set_cons_zero, List.set_cons_succ])
                refine wpAnyH_take (i := 15) (oi := _) (v := undef) rfl (by kernel_rfl) (by kernel_rfl) (by kernel_rfl) (fun _ _ _ h => h) (.inr ⟨by kernel_rfl, rfl⟩) hHeld ?_
                (try simp only [Act.put, List.getElem_toArray, List.getElem_cons_succ, List.getElem_cons_zero, List.setIfInBounds_toArray, List.set_cons_zero, List.set_cons_succ])
                refine wpAnyH_take (i := 16) (oi := _) (v := undef) rfl (by kernel_rfl) (by kernel_rfl) (by kernel_rfl) (fun _ _ _ h => h) (.inr ⟨by kernel_rfl, rfl⟩) hHeld ?_
                (try simp only [Act.put, List.getElem_toArray, List.getElem_cons_succ, List.getElem_cons_zero, List.setIfInBounds_toArray, List.set_cons_zero, List.set_cons_succ])
                refine wpAnyH_take (i := 17) (oi := _) (v := undef) rfl (by kernel_rfl) (by kernel_rfl) (by kernel_rfl) (fun _ _ _ h => h) (.inr ⟨by kernel_rfl, rfl⟩) hHeld ?_
                (try simp only [Act.put, List.getElem_toArray, List.getElem_cons_succ, List.getElem_cons_zero, List.setIfInBounds_toArray, List.set_cons_zero, List.set_cons_succ])
                refine wpAnyH_take (i := 18) (oi := _) (v := undef) rfl (by kernel_rfl) (by kernel_rfl) (by kernel_rfl) (fun _ _ _ h => h) (.inr ⟨by kernel_rfl, rfl⟩) hHeld ?_
                (try simp only [Act.put, List.getElem_toArray, List.getElem_cons_succ, List.getElem_cons_zero, List.setIfInBounds_toArray, List.set_cons_zero, List.set_cons_succ])
                refine wpAnyH_take (i := 19) (oi := _) (v := undef) rfl (by kernel_rfl) (by kernel_rfl) (by kernel_rfl) (fun _ _ _ h => h) (.inr ⟨by kernel_rfl, rfl⟩) hHeld ?_
                (try simp only [Act.put, List.getElem_toArray, List.getElem_cons_succ, List.getElem_cons_zero, List.setIfInBounds_toArray, List.set_cons_zero, List.set_cons_succ])
                refine wpAnyH_take (i := 20) (oi := _) (v := undef) rfl (by kernel_rfl) (by kernel_rfl) (by kernel_rfl) (fun _ _ _ h => h) (.inr ⟨by kernel_rfl, rfl⟩) hHeld ?_
                (try simp only [Act.put, List.getElem_toArray, List.getElem_cons_succ, List.getElem_cons_zero, List.setIfInBounds_toArray, List.set_cons_zero, List.set_cons_succ])
                refine wpAnyH_take (i := 21) (oi := _) (v := undef) rfl (by kernel_rfl) (by kernel_rfl) (by kernel_rfl) (fun _ _ _ h => h) (.inr ⟨by kernel_rfl, rfl⟩) hHeld ?_
                (try simp only [Act.put, List.getElem_toArray, List.getElem_cons_succ, List.getElem_cons_zero, List.setIfInBounds_toArray, List.set_cons_zero, List.set_cons_succ])
                refine wpAnyH_take (i := 22) (oi := _) (v := undef) rfl (by kernel_rfl) (by kernel_rfl) (by kernel_rfl) (fun _ _ _ h => h) (.inr ⟨by kernel_rfl, rfl⟩) hHeld ?_
                (try simp only [Act.put, List.getElem_toArray, List.getElem_cons_succ, List.getElem_cons_zero, List.setIfInBounds_toArray, List.set_cons_zero, List.set_cons_succ])
                refine wpAnyH_take (i := 23) (oi := _) (v := ?_) rfl (by kernel_rfl) (by kernel_rfl) (by kernel_rfl) (fun _ _ _ h => h) ((.inl ⟨by kernel_rfl, fun wh hwh => by (try dsimp only at hwh); obtain ⟨g0, g1, g2, g3, gm⟩ := hwh; first | (simp [execOp, go_sem]; done) | (simp [execOp, go_sem]; with_reducible rfl)⟩)) hHeld ?_
                (try simp only [Act.put, List.getElem_toArray, List.getElem_cons_succ, List.getElem_cons_zero, List.setIfInBounds_toArray, List.set_cons_zero, List.set_cons_succ])
                refine wpAnyH_take (i := 24) (oi := _) (v := ?_) rfl (by kernel_rfl) (by kernel_rfl) (by kernel_rfl) (fun _ _ _ h => h) ((.inl ⟨by kernel_rfl, fun wh hwh => by (try dsimp only at hwh); obtain ⟨g0, g1, g2, g3, gm⟩ := hwh; first | (simp [execOp, go_sem]; done) | (simp [execOp, go_sem]; with_reducible rfl)⟩)) hHeld ?_
                (try simp only [Act.put, List.getElem_toArray, List.getElem_cons_succ, List.getElem_cons_zero, List.setIfInBounds_toArray, List.set_cons_zero, List.set_cons_succ])
                refine wpAnyH_take (i := 25) (oi := _) (v := undef) rfl (by kernel_rfl) (by kernel_rfl) (by kernel_rfl) (fun _ _ _ h => h) (.inr ⟨by kernel_rfl, rfl⟩) hHeld ?_
                (try simp only [Act.put, List.getElem_toArray, List.getElem_cons_succ, List.getElem_cons_zero, List.setIfInBounds_toArray, List.set_cons_zero, List.set_cons_succ])
                refine wpAnyH_take (i := 26) (oi := _) (v := undef) rfl (by kernel_rfl) (by kernel_rfl) (by kernel_rfl) (fun _ _ _ h => h) (.inr ⟨by kernel_rfl, rfl⟩) hHeld ?_
                (try simp only [Act.put, List.getElem_toArray, List.getElem_cons_succ, List.getElem_cons_zero, List.setIfInBounds_toArray, List.set_cons_zero, List.set_cons_succ])
                refine wpAnyH_take (i := 27) (oi := _) (v := undef) rfl (by kernel_rfl) (by kernel_rfl) (by kernel_rfl) (fun _ _ _ h => h) (.inr ⟨by kernel_rfl, rfl⟩) hHeld ?_
                (try simp only [Act.put, List.getElem_toArray, List.getElem_cons_succ, List.getElem_cons_zero, List.setIfInBounds_toArray, List.set_cons_zero, List.set_cons_succ])
                refine wpAnyH_take (i := 28) (oi := _) (v := undef) rfl (by kernel_rfl) (by kernel_rfl) (by kernel_rfl) (fun _ _ _ h => h) (.inr ⟨by kernel_rfl, rfl⟩) hHeld ?_
                (try simp only [Act.put, List.getElem_toArray, List.getElem_cons_succ, List.getElem_cons_zero, List.setIfInBounds_toArray, List.set_cons_zero, List.set_cons_succ])
                refine wpAnyH_take (i := 29) (oi := _) (v := undef) rfl (by kernel_rfl) (by kernel_rfl) (by kernel_rfl) (fun _ _ _ h => h) (.inr ⟨by kernel_rfl, rfl⟩) hHeld ?_
                (try simp only [Act.put, List.getElem_toArray, List.getElem_cons_succ, List.getElem_cons_zero, List.setIfInBounds_toArray, List.set_cons_zero, List.set_cons_succ])
                refine wpAnyH_take (i := 30) (oi := _) (v := ?_) rfl (by kernel_rfl) (by kernel_rfl) (by kernel_rfl) (fun _ _ _ h => h) ((.inl ⟨by kernel_rfl, fun wh hwh => by (try dsimp only at hwh); obtain ⟨g0, g1, g2, g3, gm⟩ := hwh; first | (simp [execOp, go_sem]; done) | (simp [execOp, go_sem]; with_reducible rfl)⟩)) hHeld ?_
                (try simp only [Act.put, List.getElem_toArray, List.getElem_cons_succ, List.getElem_cons_zero, List.setIfInBounds_toArray, List.set_cons_zero, List.set_cons_succ])
                refine wpAnyH_take (i := 31) (oi := _) (v := ?_) rfl (by kernel_rfl) (by kernel_rfl) (by kernel_rfl) (fun _ _ _ h => h) ((.inl ⟨by kernel_rfl, fun wh hwh => by (try dsimp only at hwh); obtain ⟨g0, g1, g2, g3, gm⟩ := hwh; first | (simp [execOp, go_sem]; done) | (simp [execOp, go_sem]; with_reducible rfl)⟩)) hHeld ?_
                (try simp only [Act.put, List.getElem_toArray, List.getElem_cons_succ, List.getElem_cons_zero, List.setIfInBounds_toArray, List.set_cons_zero, List.set_cons_succ])
                refine wpAnyH_take (i := 32) (oi := _) (v := undef) rfl (by kernel_rfl) (by kernel_rfl) (by kernel_rfl) (fun _ _ _ h => h) (.inr ⟨by kernel_rfl, rfl⟩) hHeld ?_
                (try simp only [Act.put, List.getElem_toArray, List.getElem_cons_succ, List.getElem_cons_zero, List.setIfInBounds_toArray, List.set_cons_zero, List.set_cons_succ])
                refine wpAnyH_take (i := 33) (oi := _) (v := undef) rfl (by kernel_rfl) (by kernel_rfl) (by kernel_rfl) (fun _ _ _ h => h) (.inr ⟨by kernel_rfl, rfl⟩) hHeld ?_
                (try simp only [Act.put, List.getElem_toArray, List.getElem_cons_succ, List.getElem_cons_zero, List.setIfInBounds_toArray, List.set_cons_zero, List.set_cons_succ])
                refine wpAnyH_take (i := 34) (oi := _) (v := undef) rfl (by kernel_rfl) (by kernel_rfl) (by kernel_rfl) (fun _ _ _ h => h) (.inr ⟨by kernel_rfl, rfl⟩) hHeld ?_
                (try simp only [Act.put, List.getElem_toArray, List.getElem_cons_succ, List.getElem_cons_zero, List.setIfInBounds_toArray, List.set_cons_zero, List.set_cons_succ])
                refine wpAnyH_take (i := 35) (oi := _) (v := undef) rfl (by kernel_rfl) (by kernel_rfl) (by kernel_rfl) (fun _ _ _ h => h) (.inr ⟨by kernel_rfl, rfl⟩) hHeld ?_
                (try simp only [Act.put, List.getElem_toArray, List.getElem_cons_succ, List.getElem_cons_zero, List.setIfInBounds_toArray, List.set_cons_zero, List.set_cons_succ])
                refine wpAnyH_take (i := 36) (oi := _) (v := undef) rfl (by kernel_rfl) (by kernel_rfl) (by kernel_rfl) (fun _ _ _ h => h) (.inr ⟨by kernel_rfl, rfl⟩) hHeld ?_
                (try simp only [Act.put, List.getElem_toArray, List.getElem_cons_succ, List.getElem_cons_zero, List.setIfInBounds_toArray, List.set_cons_zero, List.set_cons_succ])
                refine wpAnyH_take (i := 37) (oi := _) (v := ?_) rfl (by kernel_rfl) (by kernel_rfl) (by kernel_rfl) (fun _ _ _ h => h) ((.inl ⟨by kernel_rfl, fun wh hwh => by (try dsimp only at hwh); obtain ⟨g0, g1, g2, g3, gm⟩ := hwh; first | (simp [execOp, go_sem]; done) | (simp [execOp, go_sem]; with_reducible rfl)⟩)) hHeld ?_
                (try simp only [Act.put, List.getElem_toArray, List.getElem_cons_succ, List.getElem_cons_zero, List.setIfInBounds_toArray, List.set_cons_zero, List.set_cons_succ])
                refine wpAnyH_done (by kernel_rfl) ?_ _
                go_wp2_with fail
                go_ret
                exact ⟨_, rfl, HP6.out.drew.below⟩
              | false =>
                by_cases hj0 : (0 : Int) < (j : Int)
                · obtain ⟨k, rfl⟩ : ∃ k, j = k + 1 := ⟨j - 1, by omega⟩
                  obtain ⟨⟨pid, po, pn⟩, b1, o1, cs1, _, _, hab, _, ⟨u1, u2, rfl, _, _⟩, hcs1, _, _⟩ := HU.out k (by omega)
                  cases hab
                  have HQ0 := Lib.hid fun (w' : World) (h : Below w6.heap.size w6 w') => (CellsAt.c3 (hcs1.keep (M := NoM) (.bel (HP6.out.bel h).below) fun h => h)).1
                  have i2 : (0 : Int) ≤ (k : Int) := by omega
                  have i3 : (k : Int) < (nu : Int) := by omega
                  have hk1 : ((k + 1 : Nat) : Int) - 1 = (k : Int) := by omega
                  have hwk : IntKind.i64.wrap (k : Int) = (k : Int) := IntWalk.i64_in _ (by omega)
                  have hk2 : (k : Int) + 1 - 1 = (k : Int) := by omega
                  have hj0' : 0 < k + 1 := by omega
                  have HKP := Lib.hid fun (w' : World) (h : Below w6.heap.size w6 w') => show w'.cell? ⟨w.heap.size + 1, 2, none⟩ = some (.slice (some ⟨b, o, none⟩) nu ucap) ∧ w'.cell? ⟨p, 0, none⟩ = some (.int .i64 q.id) ∧ w'.cell? ⟨p, 1, none⟩ = some (.slice qa q.old.length qc) ∧ w'.cell? ⟨p, 2, none⟩ = some (.slice qa2 q.new.length qc2) ∧ w'.ownsMap Tryz.prog 3 (plainElem Tryz.prog 4) G nd D ∧ w'.cell? ⟨b, o + k * 3, none⟩ = some (.int .i64 pid) from
                    (let ⟨a0, a1, a2, a3, a4⟩ := HKS.out w' h; ⟨a0, a1, a2, a3, a4, HQ0.out w' h⟩)
                  clear hcs1
                  go_upto_region 17 with fail
                  by_cases hpd : q.id ≤ pid
                  · skip
                    refine wp_region_held_drew (S := fun w' => w'.cell? ⟨w.heap.size + 1, 2, none⟩ = some (.slice (some ⟨b, o, none⟩) nu ucap) ∧ w'.cell? ⟨p, 0, none⟩ = some (.int .i64 q.id) ∧ w'.cell? ⟨p, 1, none⟩ = some (.slice qa q.old.length qc) ∧ w'.cell? ⟨p, 2, none⟩ = some (.slice qa2 q.new.length qc2) ∧ w'.ownsMap Tryz.prog 3 (plainElem Tryz.prog 4) G nd D ∧ w'.cell? ⟨b, o + k * 3, none⟩ = some (.int .i64 pid)) (by kernel_rfl) (HKP.out _ (below_drew (Below.refl _ _))) fun hHeld => ?_
                    refine wpAnyH_take (i := 0) (oi := _) (v := ?_) rfl (by kernel_rfl) (by kernel_rfl) (by kernel_rfl) (fun _ _ _ h => h) ((.inl ⟨by kernel_rfl, fun wh hwh => by (try dsimp only at hwh); obtain ⟨g0, g1, g2, g3, gm, g4⟩ := hwh; first | (simp [execOp, go_sem]; done) | (simp [execOp, go_sem]; with_reducible rfl)⟩)) hHeld ?_
                    (try simp only [Act.put, List.getElem_toArray, List.getElem_cons_zero, List.setIfInBounds_toArray, List.set_cons_zero, List.set_cons_succ])
                    refine wpAnyH_take (i := 1) (oi := _) (v := ?_) rfl (by kernel_rfl) (by kernel_rfl) (by kernel_rfl) (fun _ _ _ h => h) ((.inl ⟨by kernel_rfl, fun wh hwh => by (try dsimp only at hwh); obtain ⟨g0, g1, g2, g3, gm, g4⟩ := hwh; first | (simp [execOp, go_sem]; done) | (simp [execOp, go_sem]; with_reducible rfl)⟩)) hHeld ?_
                    (try simp only [Act.put, List.getElem_toArray, List.getElem_cons_succ, List.getElem_cons_zero, List.setIfInBounds_toArray, List.set_cons_zero, List.set_cons_succ])
                    refine wpAnyH_take (i := 2) (oi := _) (v := ?_) rfl (by kernel_rfl) (by kernel_rfl) (by kernel_rfl) (fun _ _ _ h => h) ((.inl ⟨by kernel_rfl, fun wh hwh => by (try dsimp only at hwh); obtain ⟨g0, g1, g2, g3, gm, g4⟩ := hwh; first | (simp [execOp, go_sem]; done) | (simp [execOp, go_sem]; with_reducible rfl)⟩)) hHeld ?_
                    (try simp only [Act.put, List.getElem_toArray, List.getElem_cons_succ, List.getElem_cons_zero, List.setIfInBounds_toArray, List.set_cons_zero, List.set_cons_succ])
                    refine wpAnyH_take (i := 3) (oi := _) (v := ?_) rfl (by kernel_rfl) (by kernel_rfl) (by kernel_rfl) (fun _ _ _ h => h) ((.inl ⟨by kernel_rfl, fun wh hwh => by (try dsimp only at hwh); obtain ⟨g0, g1, g2, g3, gm, g4⟩ := hwh; first | (simp [execOp, go_sem]; done) | (simp [execOp, go_sem]; with_reducible rfl)⟩)) hHeld ?_
                    (try simp only [Act.put, List.getElem_toArray, List.getElem_cons_succ, List.getElem_cons_zero, List.setIfInBounds_toArray, List.set_cons_zero, List.set_cons_succ])
                    refine wpAnyH_take (i := 4) (oi := _) (v := ?_) rfl (by kernel_rfl) (by kernel_rfl) (by kernel_rfl) (fun _ _ _ h => h) ((.inl ⟨by kernel_rfl, fun wh hwh => by (try dsimp only at hwh); obtain ⟨g0, g1, g2, g3, gm, g4⟩ := hwh; first | (simp [execOp, go_sem]; done) | (simp [execOp, go_sem]; with_reducible rfl)⟩)) hHeld ?_
                    (try simp only [Act.put, List.getElem_toArray, List.getElem_cons_succ, List.getElem_cons_zero, List.setIfInBounds_toArray, List.set_cons_zero, List.set_cons_succ])
                    refine wpAnyH_take (i := 5) (oi := _) (v := ?_) rfl (by kernel_rfl) (by kernel_rfl) (by kernel_rfl) (fun _ _ _ h => h) ((.inl ⟨by kernel_rfl, fun wh hwh => by (try dsimp only at hwh); obtain ⟨g0, g1, g2, g3, gm, g4⟩ := hwh; first | (simp [execOp, go_sem, g1]; done) | (simp [execOp, go_sem, g1]; with_reducible rfl)⟩)) hHeld ?_
                    (try simp only [Act.put, List.getElem_toArray, List.getElem_cons_succ, List.getElem_cons_zero, List.setIfInBounds_toArray, List.set_cons_zero, List.set_cons_succ])
                    refine wpAnyH_take (i := 6) (oi := _) (v := .bool false) rfl (by kernel_rfl) (by kernel_rfl) (by kernel_rfl) (fun _ _ _ h => h) ((.inl ⟨by kernel_rfl, fun wh hwh => by (try dsimp only at hwh); obtain ⟨g0, g1, g2, g3, gm, g4⟩ := hwh; have hq := HLK.out wh gm; show ((do pure (Next.value (← Instr.lookup 181 (.map (some G)) (.int .i64 q.id) false))) : Sem Next).run _ _ = _; simp [hq, Result.andThen]⟩)) hHeld ?_
                    (try simp only [Act.put, List.getElem_toArray, List.getElem_cons_succ, List.getElem_cons_zero, List.setIfInBounds_toArray, List.set_cons_zero, List.set_cons_succ])
                    refine wpAnyH_take (i := 7) (oi := _) (v := ?_) rfl (by kernel_rfl) (by kernel_rfl) (by kernel_rfl) (fun _ _ _ h => h) ((.inl ⟨by kernel_rfl, fun wh hwh => by (try dsimp only at hwh); obtain ⟨g0, g1, g2, g3, gm, g4⟩ := hwh; first | (simp [execOp, go_sem]; done) | (simp [execOp, go_sem]; with_reducible rfl)⟩)) hHeld ?_
                    (try simp only [Act.put, List.getElem_toArray, List.getElem_cons_succ, List.getElem_cons_zero, List.setIfInBounds_toArray, List.set_cons_zero, List.set_cons_succ])
                    refine wpAnyH_take (i := 8) (oi := _) (v := ?_) rfl (by kernel_rfl) (by kernel_rfl) (by kernel_rfl) (fun _ _ _ h => h) ((.inl ⟨by kernel_rfl, fun wh hwh => by (try dsimp only at hwh); obtain ⟨g0, g1, g2, g3, gm, g4⟩ := hwh; first | (simp [execOp, go_sem]; done) | (simp [execOp, go_sem]; with_reducible rfl)⟩)) hHeld ?_
                    (try simp only [Act.put, List.getElem_toArray, List.getElem_cons_succ, List.getElem_cons_zero, List.setIfInBounds_toArray, List.set_cons_zero, List.set_cons_succ])
                    refine wpAnyH_take (i := 9) (oi := _) (v := ?_) rfl (by kernel_rfl) (by kernel_rfl) (by kernel_rfl) (fun _ _ _ h => h) ((.inl ⟨by kernel_rfl, fun wh hwh => by (try dsimp only at hwh); obtain ⟨g0, g1, g2, g3, gm, g4⟩ := hwh; first | (simp [execOp, go_sem]; done) | (simp [execOp, go_sem]; with_reducible rfl)⟩)) hHeld ?_
                    (try simp only [Act.put, List.getElem_toArray, List.getElem_cons_succ, List.getElem_cons_zero, List.setIfInBounds_toArray, List.set_cons_zero, List.set_cons_succ])
                    refine wpAnyH_take (i := 10) (oi := _) (v := ?_) rfl (by kernel_rfl) (by kernel_rfl) (by kernel_rfl) (fun _ _ _ h => h) ((.inl ⟨by kernel_rfl, fun wh hwh => by (try dsimp only at hwh); obtain ⟨g0, g1, g2, g3, gm, g4⟩ := hwh; first | (simp [execOp, go_sem]; done) | (simp [execOp, go_sem]; with_reducible rfl)⟩)) hHeld ?_
                    (try simp only [Act.put, List.getElem_toArray, List.getElem_cons_succ, List.getElem_cons_zero, List.setIfInBounds_toArray, List.set_cons_zero, List.set_cons_succ])
                    refine wpAnyH_take (i := 11) (oi := _) (v := ?_) rfl (by kernel_rfl) (by kernel_rfl) (by kernel_rfl) (fun _ _ _ h => h) ((.inl ⟨by kernel_rfl, fun wh hwh => by (try dsimp only at hwh); obtain ⟨g0, g1, g2, g3, gm, g4⟩ := hwh; first | (simp [execOp, go_sem]; done) | (simp [execOp, go_sem]; with_reducible rfl)⟩)) hHeld ?_
                    (try simp only [Act.put, List.getElem_toArray, List.getElem_cons_succ, List.getElem_cons_zero, List.setIfInBounds_toArray, List.set_cons_zero, List.set_cons_succ])
                    refine wpAnyH_take (i := 12) (oi := _) (v := ?_) rfl (by kernel_rfl) (by kernel_rfl) (by kernel_rfl) (fun _ _ _ h => h) ((.inl ⟨by kernel_rfl, fun wh hwh => by (try dsimp only at hwh); obtain ⟨g0, g1, g2, g3, gm, g4⟩ := hwh; first | (simp [execOp, go_sem]; done) | (simp [execOp, go_sem]; with_reducible rfl)⟩)) hHeld ?_
                    (try simp only [Act.put, List.getElem_toArray, List.getElem_cons_succ, List.getElem_cons_zero, List.setIfInBounds_toArray, List.set_cons_zero, List.set_cons_succ])
                    refine wpAnyH_take (i := 13) (oi := _) (v := ?_) rfl (by kernel_rfl) (by kernel_rfl) (by kernel_rfl) (fun _ _ _ h => h) ((.inl ⟨by kernel_rfl, fun wh hwh => by (try dsimp only at hwh); obtain ⟨g0, g1, g2, g3, gm, g4⟩ := hwh; first | (simp [execOp, go_sem, g0]; done) | (simp [execOp, go_sem, g0]; with_reducible rfl)⟩)) hHeld ?_
                    (try simp only [Act.put, List.getElem_toArray, List.getElem_cons_succ, List.getElem_cons_zero, List.setIfInBounds_toArray, List.set_cons_zero, List.set_cons_succ])
                    refine wpAnyH_take (i := 14) (oi := _) (v := ?_) rfl (by kernel_rfl) (by kernel_rfl) (by kernel_rfl) (fun _ _ _ h => h) ((.inl ⟨by kernel_rfl, fun wh hwh => by (try dsimp only at hwh); obtain ⟨g0, g1, g2, g3, gm, g4⟩ := hwh; first | (simp [execOp, go_sem]; done) | (simp [execOp, go_sem]; with_reducible rfl)⟩)) hHeld ?_
                    (try simp only [Act.put, List.getElem_toArray, List.getElem_cons_succ, List.getElem_cons_zero, List.setIfInBounds_toArray, List.set_cons_zero, List.set_cons_succ])
                    refine wpAnyH_take (i := 15) (oi := _) (v := ?_) rfl (by kernel_rfl) (by kernel_rfl) (by kernel_rfl) (fun _ _ _ h => h) ((.inl ⟨by kernel_rfl, fun wh hwh => by (try dsimp only at hwh); obtain ⟨g0, g1, g2, g3, gm, g4⟩ := hwh; first | (simp [execOp, go_sem, hwk, hk2]; done) | (simp [execOp, go_sem, hwk, hk2]; with_reducible rfl)⟩)) hHeld ?_
                    (try simp only [Act.put, List.getElem_toArray, List.getElem_cons_succ, List.getElem_cons_zero, List.setIfInBounds_toArray, List.set_cons_zero, List.set_cons_succ])
                    refine wpAnyH_take (i := 16) (oi := _) (v := ?_) rfl (by kernel_rfl) (by kernel_rfl) (by kernel_rfl) (fun _ _ _ h => h) ((.inl ⟨by kernel_rfl, fun wh hwh => by (try dsimp only at hwh); obtain ⟨g0, g1, g2, g3, gm, g4⟩ := hwh; first | (simp [execOp, go_sem, i2, i3]; done) | (simp [execOp, go_sem, i2, i3]; with_reducible rfl)⟩)) hHeld ?_
                    (try simp only [Act.put, List.getElem_toArray, List.getElem_cons_succ, List.getElem_cons_zero, List.setIfInBounds_toArray, List.set_cons_zero, List.set_cons_succ])
                    refine wpAnyH_take (i := 17) (oi := _) (v := ?_) rfl (by kernel_rfl) (by kernel_rfl) (by kernel_rfl) (fun _ _ _ h => h) ((.inl ⟨by kernel_rfl, fun wh hwh => by (try dsimp only at hwh); obtain ⟨g0, g1, g2, g3, gm, g4⟩ := hwh; first | (simp [execOp, go_sem]; done) | (simp [execOp, go_sem]; with_reducible rfl)⟩)) hHeld ?_
                    (try simp only [Act.put, List.getElem_toArray, List.getElem_cons_succ, List.getElem_cons_zero, List.setIfInBounds_toArray, List.set_cons_zero, List.set_cons_succ])
                    refine wpAnyH_take (i := 18) (oi := _) (v := ?_) rfl (by kernel_rfl) (by kernel_rfl) (by kernel_rfl) (fun _ _ _ h => h) ((.inl ⟨by kernel_rfl, fun wh hwh => by (try dsimp only at hwh); obtain ⟨g0, g1, g2, g3, gm, g4⟩ := hwh; first | (simp [execOp, go_sem, g4]; done) | (simp [execOp, go_sem, g4]; with_reducible rfl)⟩)) hHeld ?_
                    (try simp only [Act.put, List.getElem_toArray, List.getElem_cons_succ, List.getElem_cons_zero, List.setIfInBounds_toArray, List.set_cons_zero, List.set_cons_succ])
                    refine wpAnyH_take (i := 19) (oi := _) (v := ?_) rfl (by kernel_rfl) (by kernel_rfl) (by kernel_rfl) (fun _ _ _ h => h) ((.inl ⟨by kernel_rfl, fun wh hwh => by (try dsimp only at hwh); obtain ⟨g0, g1, g2, g3, gm, g4⟩ := hwh; first | (simp [execOp, go_sem]; done) | (simp [execOp, go_sem]; with_reducible rfl)⟩)) hHeld ?_
                    (try simp only [Act.put, List.getElem_toArray, List.getElem_cons_succ, List.getElem_cons_zero, List.setIfInBounds_toArray, List.set_cons_zero, List.set_cons_succ])
                    refine wpAnyH_take (i := 20) (oi := _) (v := ?_) rfl (by kernel_rfl) (by kernel_rfl) (by kernel_rfl) (fun _ _ _ h => h) ((.inl ⟨by kernel_rfl, fun wh hwh => by (try dsimp only at hwh); obtain ⟨g0, g1, g2, g3, gm, g4⟩ := hwh; first | (simp [execOp, go_sem, g1]; done) | (simp [execOp, go_sem, g1]; with_reducible rfl)⟩)) hHeld ?_
                    (try simp only [Act.put, List.getElem_toArray, List.getElem_cons_succ, List.getElem_cons_zero, List.setIfInBounds_toArray, List.set_cons_zero, List.set_cons_succ])
                    refine wpAnyH_take (i := 21) (oi := _) (v := ?_) rfl (by kernel_rfl) (by kernel_rfl) (by kernel_rfl) (fun _ _ _ h => h) ((.inl ⟨by kernel_rfl, fun wh hwh => by (try dsimp only at hwh); obtain ⟨g0, g1, g2, g3, gm, g4⟩ := hwh; first | (simp [execOp, go_sem, hpd]; done) | (simp [execOp, go_sem, hpd]; with_reducible rfl)⟩)) hHeld ?_
                    (try simp only [Act.put, List.getElem_toArray, List.getElem_cons_succ, List.getElem_cons_zero, List.setIfInBounds_toArray, List.set_cons_zero, List.set_cons_succ])
                    refine wpAnyH_take (i := 22) (oi := _) (v := ?_) rfl (by kernel_rfl) (by kernel_rfl) (by kernel_rfl) (fun _ _ _ h => h) ((.inl ⟨by kernel_rfl, fun wh hwh => by (try dsimp only at hwh); obtain ⟨g0, g1, g2, g3, gm, g4⟩ := hwh; first | (simp [execOp, go_sem]; done) | (simp [execOp, go_sem]; with_reducible rfl)⟩)) hHeld ?_
                    (try simp only [Act.put, List.getElem_toArray, List.getElem_cons_succ, List.getElem_cons_zero, List.setIfInBounds_toArray, List.set_cons_zero, List.set_cons_succ])
                    refine wpAnyH_take (i := 23) (oi := _) (v := ?_) rfl (by kernel_rfl) (by kernel_rfl) (by kernel_rfl) (fun _ _ _ h => h) ((.inl ⟨by kernel_rfl, fun wh hwh => by (try dsimp only at hwh); obtain ⟨g0, g1, g2, g3, gm, g4⟩ := hwh; first | (simp [execOp, go_sem]; done) | (simp [execOp, go_sem]; with_reducible rfl)⟩)) hHeld ?_
                    (try simp only [Act.put, List.getElem_toArray, List.getElem_cons_succ, List.getElem_cons_zero, List.setIfInBounds_toArray, List.set_cons_zero, List.set_cons_succ])
                    refine wpAnyH_take (i := 24) (oi := _) (v := ?_) rfl (by kernel_rfl) (by kernel_rfl) (by kernel_rfl) (fun _ _ _ h => h) ((.inl ⟨by kernel_rfl, fun wh hwh => by (try dsimp only at hwh); obtain ⟨g0, g1, g2, g3, gm, g4⟩ := hwh; first | (simp [execOp, go_sem]; done) | (simp [execOp, go_sem]; with_reducible rfl)⟩)) hHeld ?_
                    (try simp only [Act.put, List.getElem_toArray, List.getElem_cons_succ, List.getElem_cons_zero, List.setIfInBounds_toArray, List.set_cons_zero, List.set_cons_succ])
                    refine wpAnyH_take (i := 25) (oi := _) (v := undef) rfl (by kernel_rfl) (by kernel_rfl) (by kernel_rfl) (fun _ _ _ h => h) (.inr ⟨by kernel_rfl, rfl⟩) hHeld ?_
                    (try simp only [Act.put, List.getElem_toArray, List.getElem_cons_succ, List.getElem_cons_zero, List.setIfInBounds_toArray, List.set_cons_zero, List.set_cons_succ])
                    refine wpAnyH_take (i := 26) (oi := _) (v := undef) rfl (by kernel_rfl) (by kernel_rfl) (by kernel_rfl) (fun _ _ _ h => h) (.inr ⟨by kernel_rfl, rfl⟩) hHeld ?_
                    (try simp only [Act.put, List.getElem_toArray, List.getElem_cons_succ, List.getElem_cons_zero, List.setIfInBounds_toArray, List.set_cons_zero, List.set_cons_succ])
                    refine wpAnyH_take (i := 27) (oi := _) (v := undef) rfl (by kernel_rfl) (by kernel_rfl) (by kernel_rfl) (fun _ _ _ h => h) (.inr ⟨by kernel_rfl, rfl⟩) hHeld ?_
                    (try simp only [Act.put, List.getElem_toArray, List.getElem_cons_succ, List.getElem_cons_zero, List.setIfInBounds_toArray, List.set_cons_zero, List.set_cons_succ])
                    refine wpAnyH_take (i := 28) (oi := _) (v := undef) rfl (by kernel_rfl) (by kernel_rfl) (by kernel_rfl) (fun _ _ _ h => h) (.inr ⟨by kernel_rfl, rfl⟩) hHeld ?_
                    (try simp only [Act.put, List.getElem_toArray, List.getElem_cons_succ, List.getElem_cons_zero, List.setIfInBounds_toArray, List.set_cons_zero, List.set_cons_succ])
                    refine wpAnyH_take (i := 29) (oi := _) (v := undef) rfl (by kernel_rfl) (by kernel_rfl) (by kernel_rfl) (fun _ _ _ h => h) (.inr ⟨by kernel_rfl, rfl⟩) hHeld ?_
                    (try simp only [Act.put, List.getElem_toArray, List.getElem_cons_succ, List.getElem_cons_zero, List.setIfInBounds_toArray, List.set_cons_zero, List.set_cons_succ])
                    refine wpAnyH_take (i := 30) (oi := _) (v := ?_) rfl (by kernel_rfl) (by kernel_rfl) (by kernel_rfl) (fun _ _ _ h => h) ((.inl ⟨by kernel_rfl, fun wh hwh => by (try dsimp only at hwh); obtain ⟨g0, g1, g2, g3, gm, g4⟩ := hwh; first | (simp [execOp, go_sem]; done) | (simp [execOp, go_sem]; with_reducible rfl)⟩)) hHeld ?_
                    (try simp only [Act.put, List.getElem_toArray, List.getElem_cons_succ, List.getElem_cons_zero, List.setIfInBounds_toArray, List.set_cons_zero, List.set_cons_succ])
                    refine wpAnyH_take (i := 31) (oi := _) (v := ?_) rfl (by kernel_rfl) (by kernel_rfl) (by kernel_rfl) (fun _ _ _ h => h) ((.inl ⟨by kernel_rfl, fun wh hwh => by (try dsimp only at hwh); obtain ⟨g0, g1, g2, g3, gm, g4⟩ := hwh; first | (simp [execOp, go_sem]; done) | (simp [execOp, go_sem]; with_reducible rfl)⟩)) hHeld ?_
                    (try simp only [Act.put, List.getElem_toArray, List.getElem_cons_succ, List.getElem_cons_zero, List.setIfInBounds_toArray, List.set_cons_zero, List.set_cons_succ])
                    refine wpAnyH_take (i := 32) (oi := _) (v := undef) rfl (by kernel_rfl) (by kernel_rfl) (by kernel_rfl) (fun _ _ _ h => h) (.inr ⟨by kernel_rfl, rfl⟩) hHeld ?_
                    (try simp only [Act.put, List.getElem_toArray, List.getElem_cons_succ, List.getElem_cons_zero, List.setIfInBounds_toArray, List.set_cons_zero, List.set_cons_succ])
                    refine wpAnyH_take (i := 33) (oi := _) (v := undef) rfl (by kernel_rfl) (by kernel_rfl) (by kernel_rfl) (fun _ _ _ h => h) (.inr ⟨by kernel_rfl, rfl⟩) hHeld ?_
                    (try simp only [Act.put, List.getElem_toArray, List.getElem_cons_succ, List.getElem_cons_zero, List.setIfInBounds_toArray, List.set_cons_zero, List.set_cons_succ])
                    refine wpAnyH_take (i := 34) (oi := _) (v := undef) rfl (by kernel_rfl) (by kernel_rfl) (by kernel_rfl) (fun _ _ _ h => h) (.inr ⟨by kernel_rfl, rfl⟩) hHeld ?_
                    (try simp only [Act.put, List.getElem_toArray, List.getElem_cons_succ, List.getElem_cons_zero, List.setIfInBounds_toArray, List.set_cons_zero, List.set_cons_succ])
                    refine wpAnyH_take (i := 35) (oi := _) (v := undef) rfl (by kernel_rfl) (by kernel_rfl) (by kernel_rfl) (fun _ _ _ h => h) (.inr ⟨by kernel_rfl, rfl⟩) hHeld ?_
                    (try simp only [Act.put, List.getElem_toArray, List.getElem_cons_succ, List.getElem_cons_zero, List.setIfInBounds_toArray, List.set_cons_zero, List.set_cons_succ])
                    refine wpAnyH_take (i := 36) (oi := _) (v := undef) rfl (by kernel_rfl) (by kernel_rfl) (by kernel_rfl) (fun _ _ _ h => h) (.inr ⟨by kernel_rfl, rfl⟩) hHeld ?_
                    (try simp only [Act.put, List.getElem_toArray, List.getElem_cons_succ, List.getElem_cons_zero, List.setIfInBounds_toArray, List.set_cons_zero, List.set_cons_succ])
                    refine wpAnyH_take (i := 37) (oi := _) (v := ?_) rfl (by kernel_rfl) (by kernel_rfl) (by kernel_rfl) (fun _ _ _ h => h) ((.inl ⟨by kernel_rfl, fun wh hwh => by (try dsimp only at hwh); obtain ⟨g0, g1, g2, g3, gm, g4⟩ := hwh; first | (simp [execOp, go_sem]; done) | (simp [execOp, go_sem]; with_reducible rfl)⟩)) hHeld ?_
                    (try simp only [Act.put, List.getElem_toArray, List.getElem_cons_succ, List.getElem_cons_zero, List.setIfInBounds_toArray, List.set_cons_zero, List.set_cons_succ])
                    refine wpAnyH_done (by kernel_rfl) ?_ _
                    go_wp2_with fail
                    go_ret
                    exact ⟨_, rfl, HP6.out.drew.below⟩
                  · skip
                    refine wp_region_held_drew (S := fun w' => w'.cell? ⟨w.heap.size + 1, 2, none⟩ = some (.slice (some ⟨b, o, none⟩) nu ucap) ∧ w'.cell? ⟨p, 0, none⟩ = some (.int .i64 q.id) ∧ w'.cell? ⟨p, 1, none⟩ = some (.slice qa q.old.length qc) ∧ w'.cell? ⟨p, 2, none⟩ = some (.slice qa2 q.new.length qc2) ∧ w'.ownsMap Tryz.prog 3 (plainElem Tryz.prog 4) G nd D ∧ w'.cell? ⟨b, o + k * 3, none⟩ = some (.int .i64 pid)) (by kernel_rfl) (HKP.out _ (below_drew (Below.refl _ _))) fun hHeld => ?_
                    refine wpAnyH_take (i := 0) (oi := _) (v := ?_) rfl (by kernel_rfl) (by kernel_rfl) (by kernel_rfl) (fun _ _ _ h => h) ((.inl ⟨by kernel_rfl, fun wh hwh => by (try dsimp only at hwh); obtain ⟨g0, g1, g2, g3, gm, g4⟩ := hwh; first | (simp [execOp, go_sem]; done) | (simp [execOp, go_sem]; with_reducible rfl)⟩)) hHeld ?_
                    (try simp only [Act.put, List.getElem_toArray, List.getElem_cons_zero, List.setIfInBounds_toArray, List.set_cons_zero, List.set_cons_succ])
                    refine wpAnyH_take (i := 1) (oi := _) (v := ?_) rfl (by kernel_rfl) (by kernel_rfl) (by kernel_rfl) (fun _ _ _ h => h) ((.inl ⟨by kernel_rfl, fun wh hwh => by (try dsimp only at hwh); obtain ⟨g0, g1, g2, g3, gm, g4⟩ := hwh; first | (simp [execOp, go_sem]; done) | (simp [execOp, go_sem]; with_reducible rfl)⟩)) hHeld ?_
                    (try simp only [Act.put, List.getElem_toArray, List.getElem_cons_succ, List.getElem_cons_zero, List.setIfInBounds_toArray, List.set_cons_zero, List.set_cons_succ])
                    refine wpAnyH_take (i := 2) (oi := _) (v := ?_) rfl (by kernel_rfl) (by kernel_rfl) (by kernel_rfl) (fun _ _ _ h => h) ((.inl ⟨by kernel_rfl, fun wh hwh => by (try dsimp only at hwh); obtain ⟨g0, g1, g2, g3, gm, g4⟩ := hwh; first | (simp [execOp, go_sem]; done) | (simp [execOp, go_sem]; with_reducible rfl)⟩)) hHeld ?_
                    (try simp only [Act.put, List.getElem_toArray, List.getElem_cons_succ, List.getElem_cons_zero, List.setIfInBounds_toArray, List.set_cons_zero, List.set_cons_succ])
                    refine wpAnyH_take (i := 3) (oi := _) (v := ?_) rfl (by kernel_rfl) (by kernel_rfl) (by kernel_rfl) (fun _ _ _ h => h) ((.inl ⟨by kernel_rfl, fun wh hwh => by (try dsimp only at hwh); obtain ⟨g0, g1, g2, g3, gm, g4⟩ := hwh; first | (simp [execOp, go_sem]; done) | (simp [execOp, go_sem]; with_reducible rfl)⟩)) hHeld ?_
                    (try simp only [Act.put, List.getElem_toArray, List.getElem_cons_succ, List.getElem_cons_zero, List.setIfInBounds_toArray, List.set_cons_zero, List.set_cons_succ])
                    refine wpAnyH_take (i := 4) (oi := _) (v := ?_) rfl (by kernel_rfl) (by kernel_rfl) (by kernel_rfl) (fun _ _ _ h => h) ((.inl ⟨by kernel_rfl, fun wh hwh => by (try dsimp only at hwh); obtain ⟨g0, g1, g2, g3, gm, g4⟩ := hwh; first | (simp [execOp, go_sem]; done) | (simp [execOp, go_sem]; with_reducible rfl)⟩)) hHeld ?_
                    (try simp only [Act.put, List.getElem_toArray, List.getElem_cons_succ, List.getElem_cons_zero, List.setIfInBounds_toArray, List.set_cons_zero, List.set_cons_succ])
                    refine wpAnyH_take (i := 5) (oi := _) (v := ?_) rfl (by kernel_rfl) (by kernel_rfl) (by kernel_rfl) (fun _ _ _ h => h) ((.inl ⟨by kernel_rfl, fun wh hwh => by (try dsimp only at hwh); obtain ⟨g0, g1, g2, g3, gm, g4⟩ := hwh; first | (simp [execOp, go_sem, g1]; done) | (simp [execOp, go_sem, g1]; with_reducible rfl)⟩)) hHeld ?_
                    (try simp only [Act.put, List.getElem_toArray, List.getElem_cons_succ, List.getElem_cons_zero, List.setIfInBounds_toArray, List.set_cons_zero, List.set_cons_succ])
                    refine wpAnyH_take (i := 6) (oi := _) (v := .bool false) rfl (by kernel_rfl) (by kernel_rfl) (by kernel_rfl) (fun _ _ _ h => h) ((.inl ⟨by kernel_rfl, fun wh hwh => by (try dsimp only at hwh); obtain ⟨g0, g1, g2, g3, gm, g4⟩ := hwh; have hq := HLK.out wh gm; show ((do pure (Next.value (← Instr.lookup 181 (.map (some G)) (.int .i64 q.id) false))) : Sem Next).run _ _ = _; simp [hq, Result.andThen]⟩)) hHeld ?_
                    (try simp only [Act.put, List.getElem_toArray, List.getElem_cons_succ, List.getElem_cons_zero, List.setIfInBounds_toArray, List.set_cons_zero, List.set_cons_succ])
                    refine wpAnyH_take (i := 7) (oi := _) (v := ?_) rfl (by kernel_rfl) (by kernel_rfl) (by kernel_rfl) (fun _ _ _ h => h) ((.inl ⟨by kernel_rfl, fun wh hwh => by (try dsimp only at hwh); obtain ⟨g0, g1, g2, g3, gm, g4⟩ := hwh; first | (simp [execOp, go_sem]; done) | (simp [execOp, go_sem]; with_reducible rfl)⟩)) hHeld ?_
                    (try simp only [Act.put, List.getElem_toArray, List.getElem_cons_succ, List.getElem_cons_zero, List.setIfInBounds_toArray, List.set_cons_zero, List.set_cons_succ])
                    refine wpAnyH_take (i := 8) (oi := _) (v := ?_) rfl (by kernel_rfl) (by kernel_rfl) (by kernel_rfl) (fun _ _ _ h => h) ((.inl ⟨by kernel_rfl, fun wh hwh => by (try dsimp only at hwh); obtain ⟨g0, g1, g2, g3, gm, g4⟩ := hwh; first | (simp [execOp, go_sem]; done) | (simp [execOp, go_sem]; with_reducible rfl)⟩)) hHeld ?_
                    (try simp only [Act.put, List.getElem_toArray, List.getElem_cons_succ, List.getElem_cons_zero, List.setIfInBounds_toArray, List.set_cons_zero, List.set_cons_succ])
                    refine wpAnyH_take (i := 9) (oi := _) (v := ?_) rfl (by kernel_rfl) (by kernel_rfl) (by kernel_rfl) (fun _ _ _ h => h) ((.inl ⟨by kernel_rfl, fun wh hwh => by (try dsimp only at hwh); obtain ⟨g0, g1, g2, g3, gm, g4⟩ := hwh; first | (simp [execOp, go_sem]; done) | (simp [execOp, go_sem]; with_reducible rfl)⟩)) hHeld ?_
                    (try simp only [Act.put, List.getElem_toArray, List.getElem_cons_succ, List.getElem_cons_zero, List.setIfInBounds_toArray, List.set_cons_zero, List.set_cons_succ])
                    refine wpAnyH_take (i := 10) (oi := _) (v := ?_) rfl (by kernel_rfl) (by kernel_rfl) (by kernel_rfl) (fun _ _ _ h => h) ((.inl ⟨by kernel_rfl, fun wh hwh => by (try dsimp only at hwh); obtain ⟨g0, g1, g2, g3, gm, g4⟩ := hwh; first | (simp [execOp, go_sem]; done) | (simp [execOp, go_sem]; with_reducible rfl)⟩)) hHeld ?_
                    (try simp only [Act.put, List.getElem_toArray, List.getElem_cons_succ, List.getElem_cons_zero, List.setIfInBounds_toArray, List.set_cons_zero, List.set_cons_succ])
                    refine wpAnyH_take (i := 11) (oi := _) (v := ?_) rfl (by kernel_rfl) (by kernel_rfl) (by kernel_rfl) (fun _ _ _ h => h) ((.inl ⟨by kernel_rfl, fun wh hwh => by (try dsimp only at hwh); obtain ⟨g0, g1, g2, g3, gm, g4⟩ := hwh; first | (simp [execOp, go_sem]; done) | (simp [execOp, go_sem]; with_reducible rfl)⟩)) hHeld ?_
                    (try simp only [Act.put, List.getElem_toArray, List.getElem_cons_succ, List.getElem_cons_zero, List.setIfInBounds_toArray, List.set_cons_zero, List.set_cons_succ])
                    refine wpAnyH_take (i := 12) (oi := _) (v := ?_) rfl (by kernel_rfl) (by kernel_rfl) (by kernel_rfl) (fun _ _ _ h => h) ((.inl ⟨by kernel_rfl, fun wh hwh => by (try dsimp only at hwh); obtain ⟨g0, g1, g2, g3, gm, g4⟩ := hwh; first | (simp [execOp, go_sem]; done) | (simp [execOp, go_sem]; with_reducible rfl)⟩)) hHeld ?_
                    (try simp only [Act.put, List.getElem_toArray, List.getElem_cons_succ, List.getElem_cons_zero, List.setIfInBounds_toArray, List.set_cons_zero, List.set_cons_succ])
                    refine wpAnyH_take (i := 13) (oi := _) (v := ?_) rfl (by kernel_rfl) (by kernel_rfl) (by kernel_rfl) (fun _ _ _ h => h) ((.inl ⟨by kernel_rfl, fun wh hwh => by (try dsimp only at hwh); obtain ⟨g0, g1, g2, g3, gm, g4⟩ := hwh; first | (simp [execOp, go_sem, g0]; done) | (simp [execOp, go_sem, g0]; with_reducible rfl)⟩)) hHeld ?_
                    (try simp only [Act.put, List.getElem_toArray, List.getElem_cons_succ, List.getElem_cons_zero, List.setIfInBounds_toArray, List.set_cons_zero, List.set_cons_succ])
                    refine wpAnyH_take (i := 14) (oi := _) (v := ?_) rfl (by kernel_rfl) (by kernel_rfl) (by kernel_rfl) (fun _ _ _ h => h) ((.inl ⟨by kernel_rfl, fun wh hwh => by (try dsimp only at hwh); obtain ⟨g0, g1, g2, g3, gm, g4⟩ := hwh; first | (simp [execOp, go_sem]; done) | (simp [execOp, go_sem]; with_reducible rfl)⟩)) hHeld ?_
                    (try simp only [Act.put, List.getElem_toArray, List.getElem_cons_succ, List.getElem_cons_zero, List.setIfInBounds_toArray, List.set_cons_zero, List.set_cons_succ])
                    refine wpAnyH_take (i := 15) (oi := _) (v := ?_) rfl (by kernel_rfl) (by kernel_rfl) (by kernel_rfl) (fun _ _ _ h => h) ((.inl ⟨by kernel_rfl, fun wh hwh => by (try dsimp only at hwh); obtain ⟨g0, g1, g2, g3, gm, g4⟩ := hwh; first | (simp [execOp, go_sem, hwk, hk2]; done) | (simp [execOp, go_sem, hwk, hk2]; with_reducible rfl)⟩)) hHeld ?_
                    (try simp only [Act.put, List.getElem_toArray, List.getElem_cons_succ, List.getElem_cons_zero, List.setIfInBounds_toArray, List.set_cons_zero, List.set_cons_succ])
                    refine wpAnyH_take (i := 16) (oi := _) (v := ?_) rfl (by kernel_rfl) (by kernel_rfl) (by kernel_rfl) (fun _ _ _ h => h) ((.inl ⟨by kernel_rfl, fun wh hwh => by (try dsimp only at hwh); obtain ⟨g0, g1, g2, g3, gm, g4⟩ := hwh; first | (simp [execOp, go_sem, i2, i3]; done) | (simp [execOp, go_sem, i2, i3]; with_reducible rfl)⟩)) hHeld ?_
                    (try simp only [Act.put, List.getElem_toArray, List.getElem_cons_succ, List.getElem_cons_zero, List.setIfInBounds_toArray, List.set_cons_zero, List.set_cons_succ])
                    refine wpAnyH_take (i := 17) (oi := _) (v := ?_) rfl (by kernel_rfl) (by kernel_rfl) (by kernel_rfl) (fun _ _ _ h => h) ((.inl ⟨by kernel_rfl, fun wh hwh => by (try dsimp only at hwh); obtain ⟨g0, g1, g2, g3, gm, g4⟩ := hwh; first | (simp [execOp, go_sem]; done) | (simp [execOp, go_sem]; with_reducible rfl)⟩)) hHeld ?_
                    (try simp only [Act.put, List.getElem_toArray, List.getElem_cons_succ, List.getElem_cons_zero, List.setIfInBounds_toArray, List.set_cons_zero, List.set_cons_succ])
                    refine wpAnyH_take (i := 18) (oi := _) (v := ?_) rfl (by kernel_rfl) (by kernel_rfl) (by kernel_rfl) (fun _ _ _ h => h) ((.inl ⟨by kernel_rfl, fun wh hwh => by (try dsimp only at hwh); obtain ⟨g0, g1, g2, g3, gm, g4⟩ := hwh; first | (simp [execOp, go_sem, g4]; done) | (simp [execOp, go_sem, g4]; with_reducible rfl)⟩)) hHeld ?_
                    (try simp only [Act.put, List.getElem_toArray, List.getElem_cons_succ, List.getElem_cons_zero, List.setIfInBounds_toArray, List.set_cons_zero, List.set_cons_succ])
                    refine wpAnyH_take (i := 19) (oi := _) (v := ?_) rfl (by kernel_rfl) (by kernel_rfl) (by kernel_rfl) (fun _ _ _ h => h) ((.inl ⟨by kernel_rfl, fun wh hwh => by (try dsimp only at hwh); obtain ⟨g0, g1, g2, g3, gm, g4⟩ := hwh; first | (simp [execOp, go_sem]; done) | (simp [execOp, go_sem]; with_reducible rfl)⟩)) hHeld ?_
                    (try simp only [Act.put, List.getElem_toArray, List.getElem_cons_succ, List.getElem_cons_zero, List.setIfInBounds_toArray, List.set_cons_zero, List.set_cons_succ])
                    refine wpAnyH_take (i := 20) (oi := _) (v := ?_) rfl (by kernel_rfl) (by kernel_rfl) (by kernel_rfl) (fun _ _ _ h => h) ((.inl ⟨by kernel_rfl, fun wh hwh => by (try dsimp only at hwh); obtain ⟨g0, g1, g2, g3, gm, g4⟩ := hwh; first | (simp [execOp, go_sem, g1]; done) | (simp [execOp, go_sem, g1]; with_reducible rfl)⟩)) hHeld ?_
                    (try simp only [Act.put, List.getElem_toArray, List.getElem_cons_succ, List.getElem_cons_zero, List.setIfInBounds_toArray, List.set_cons_zero, List.set_cons_succ])
                    refine wpAnyH_take (i := 21) (oi := _) (v := ?_) rfl (by kernel_rfl) (by kernel_rfl) (by kernel_rfl) (fun _ _ _ h => h) ((.inl ⟨by kernel_rfl, fun wh hwh => by (try dsimp only at hwh); obtain ⟨g0, g1, g2, g3, gm, g4⟩ := hwh; first | (simp [execOp, go_sem, hpd]; done) | (simp [execOp, go_sem, hpd]; with_reducible rfl)⟩)) hHeld ?_
                    (try simp only [Act.put, List.getElem_toArray, List.getElem_cons_succ, List.getElem_cons_zero, List.setIfInBounds_toArray, List.set_cons_zero, List.set_cons_succ])
                    refine wpAnyH_take (i := 22) (oi := _) (v := ?_) rfl (by kernel_rfl) (by kernel_rfl) (by kernel_rfl) (fun _ _ _ h => h) ((.inl ⟨by kernel_rfl, fun wh hwh => by (try dsimp only at hwh); obtain ⟨g0, g1, g2, g3, gm, g4⟩ := hwh; first | (simp [execOp, go_sem]; done) | (simp [execOp, go_sem]; with_reducible rfl)⟩)) hHeld ?_
                    (try simp only [Act.put, List.getElem_toArray, List.getElem_cons_succ, List.getElem_cons_zero, List.setIfInBounds_toArray, List.set_cons_zero, List.set_cons_succ])
                    refine wpAnyH_take (i := 23) (oi := _) (v := ?_) rfl (by kernel_rfl) (by kernel_rfl) (by kernel_rfl) (fun _ _ _ h => h) ((.inl ⟨by kernel_rfl, fun wh hwh => by (try dsimp only at hwh); obtain ⟨g0, g1, g2, g3, gm, g4⟩ := hwh; first | (simp [execOp, go_sem]; done) | (simp [execOp, go_sem]; with_reducible rfl)⟩)) hHeld ?_
                    (try simp only [Act.put, List.getElem_toArray, List.getElem_cons_succ, List.getElem_cons_zero, List.setIfInBounds_toArray, List.set_cons_zero, List.set_cons_succ])
                    refine wpAnyH_take (i := 24) (oi := _) (v := ?_) rfl (by kernel_rfl) (by kernel_rfl) (by kernel_rfl) (fun _ _ _ h => h) ((.inl ⟨by kernel_rfl, fun wh hwh => by (try dsimp only at hwh); obtain ⟨g0, g1, g2, g3, gm, g4⟩ := hwh; first | (simp [execOp, go_sem]; done) | (simp [execOp, go_sem]; with_reducible rfl)⟩)) hHeld ?_
                    (try simp only [Act.put, List.getElem_toArray, List.getElem_cons_succ, List.getElem_cons_zero, List.setIfInBounds_toArray, List.set_cons_zero, List.set_cons_succ])
                    refine wpAnyH_take (i := 25) (oi := _) (v := ?_) rfl (by kernel_rfl) (by kernel_rfl) (by kernel_rfl) (fun _ _ _ h => h) ((.inl ⟨by kernel_rfl, fun wh hwh => by (try dsimp only at hwh); obtain ⟨g0, g1, g2, g3, gm, g4⟩ := hwh; first | (simp [execOp, go_sem]; done) | (simp [execOp, go_sem]; with_reducible rfl)⟩)) hHeld ?_
                    (try simp only [Act.put, List.getElem_toArray, List.getElem_cons_succ, List.getElem_cons_zero, List.setIfInBounds_toArray, List.set_cons_zero, List.set_cons_succ])
                    refine wpAnyH_take (i := 26) (oi := _) (v := ?_) rfl (by kernel_rfl) (by kernel_rfl) (by kernel_rfl) (fun _ _ _ h => h) ((.inl ⟨by kernel_rfl, fun wh hwh => by (try dsimp only at hwh); obtain ⟨g0, g1, g2, g3, gm, g4⟩ := hwh; first | (simp [execOp, go_sem]; done) | (simp [execOp, go_sem]; with_reducible rfl)⟩)) hHeld ?_
                    (try simp only [Act.put, List.getElem_toArray, List.getElem_cons_succ, List.getElem_cons_zero, List.setIfInBounds_toArray, List.set_cons_zero, List.set_cons_succ])
                    refine wpAnyH_take (i := 27) (oi := _) (v := ?_) rfl (by kernel_rfl) (by kernel_rfl) (by kernel_rfl) (fun _ _ _ h => h) ((.inl ⟨by kernel_rfl, fun wh hwh => by (try dsimp only at hwh); obtain ⟨g0, g1, g2, g3, gm, g4⟩ := hwh; first | (simp [execOp, go_sem, g2]; done) | (simp [execOp, go_sem, g2]; with_reducible rfl)⟩)) hHeld ?_
                    (try simp only [Act.put, List.getElem_toArray, List.getElem_cons_succ, List.getElem_cons_zero, List.setIfInBounds_toArray, List.set_cons_zero, List.set_cons_succ])
                    refine wpAnyH_ready (rs := [28]) (by kernel_rfl) (by simp) ?_
                    refine AllReadyH.cons (o := _) rfl (fun K hK => ?_) ?_
                    · go_simp
                      refine (HCR.out _ (below_drew (Below.refl _ _))).mono ?_
                      rintro e w8 ⟨rfl, hb⟩
                      have HB8 := Lib.hid (below_drew hb)
                      have HP9 := Lib.hid (HP6.out.bel HB8.out)
                      clear hb
                      dsimp only
                      generalize lexC cmpV _ _ = z
                      by_cases hz : z = 0
                      · subst hz
                        by_cases hq : (q.new.length : Int) = (m : Int)
                        · refine hK.out _ _ (HKP.out _ HB8.out) fun hHeld => ?_
                          refine wpAnyH_take (i := 29) (oi := _) (v := ?_) rfl (by kernel_rfl) (by kernel_rfl) (by kernel_rfl) (fun _ _ _ h => h) ((.inl ⟨by kernel_rfl, fun wh hwh => by (try dsimp only at hwh); obtain ⟨g0, g1, g2, g3, gm, g4⟩ := hwh; first | (simp [execOp, go_sem]; done) | (simp [execOp, go_sem]; with_reducible rfl)⟩)) hHeld ?_
                          (try simp only [Act.put, List.getElem_toArray, List.getElem_cons_succ, List.getElem_cons_zero, List.setIfInBounds_toArray, List.set_cons_zero, List.set_cons_succ])
                          refine wpAnyH_take (i := 30) (oi := _) (v := ?_) rfl (by kernel_rfl) (by kernel_rfl) (by kernel_rfl) (fun _ _ _ h => h) ((.inl ⟨by kernel_rfl, fun wh hwh => by (try dsimp only at hwh); obtain ⟨g0, g1, g2, g3, gm, g4⟩ := hwh; first | (simp [execOp, go_sem]; done) | (simp [execOp, go_sem]; with_reducible rfl)⟩)) hHeld ?_
                          (try simp only [Act.put, List.getElem_toArray, List.getElem_cons_succ, List.getElem_cons_zero, List.setIfInBounds_toArray, List.set_cons_zero, List.set_cons_succ])
                          refine wpAnyH_take (i := 31) (oi := _) (v := ?_) rfl (by kernel_rfl) (by kernel_rfl) (by kernel_rfl) (fun _ _ _ h => h) ((.inl ⟨by kernel_rfl, fun wh hwh => by (try dsimp only at hwh); obtain ⟨g0, g1, g2, g3, gm, g4⟩ := hwh; first | (simp [execOp, go_sem]; done) | (simp [execOp, go_sem]; with_reducible rfl)⟩)) hHeld ?_
                          (try simp only [Act.put, List.getElem_toArray, List.getElem_cons_succ, List.getElem_cons_zero, List.setIfInBounds_toArray, List.set_cons_zero, List.set_cons_succ])
                          refine wpAnyH_take (i := 32) (oi := _) (v := ?_) rfl (by kernel_rfl) (by kernel_rfl) (by kernel_rfl) (fun _ _ _ h => h) ((.inl ⟨by kernel_rfl, fun wh hwh => by (try dsimp only at hwh); obtain ⟨g0, g1, g2, g3, gm, g4⟩ := hwh; first | (simp [execOp, go_sem]; done) | (simp [execOp, go_sem]; with_reducible rfl)⟩)) hHeld ?_
                          (try simp only [Act.put, List.getElem_toArray, List.getElem_cons_succ, List.getElem_cons_zero, List.setIfInBounds_toArray, List.set_cons_zero, List.set_cons_succ])
                          refine wpAnyH_take (i := 33) (oi := _) (v := ?_) rfl (by kernel_rfl) (by kernel_rfl) (by kernel_rfl) (fun _ _ _ h => h) ((.inl ⟨by kernel_rfl, fun wh hwh => by (try dsimp only at hwh); obtain ⟨g0, g1, g2, g3, gm, g4⟩ := hwh; first | (simp [execOp, go_sem, g3]; done) | (simp [execOp, go_sem, g3]; with_reducible rfl)⟩)) hHeld ?_
                          (try simp only [Act.put, List.getElem_toArray, List.getElem_cons_succ, List.getElem_cons_zero, List.setIfInBounds_toArray, List.set_cons_zero, List.set_cons_succ])
                          refine wpAnyH_take (i := 34) (oi := _) (v := ?_) rfl (by kernel_rfl) (by kernel_rfl) (by kernel_rfl) (fun _ _ _ h => h) ((.inl ⟨by kernel_rfl, fun wh hwh => by (try dsimp only at hwh); obtain ⟨g0, g1, g2, g3, gm, g4⟩ := hwh; first | (simp [execOp, go_sem]; done) | (simp [execOp, go_sem]; with_reducible rfl)⟩)) hHeld ?_
                          (try simp only [Act.put, List.getElem_toArray, List.getElem_cons_succ, List.getElem_cons_zero, List.setIfInBounds_toArray, List.set_cons_zero, List.set_cons_succ])
                          refine wpAnyH_take (i := 35) (oi := _) (v := ?_) rfl (by kernel_rfl) (by kernel_rfl) (by kernel_rfl) (fun _ _ _ h => h) ((.inl ⟨by kernel_rfl, fun wh hwh => by (try dsimp only at hwh); obtain ⟨g0, g1, g2, g3, gm, g4⟩ := hwh; first | (simp [execOp, go_sem]; done) | (simp [execOp, go_sem]; with_reducible rfl)⟩)) hHeld ?_
                          (try simp only [Act.put, List.getElem_toArray, List.getElem_cons_succ, List.getElem_cons_zero, List.setIfInBounds_toArray, List.set_cons_zero, List.set_cons_succ])
                          refine wpAnyH_take (i := 36) (oi := _) (v := ?_) rfl (by kernel_rfl) (by kernel_rfl) (by kernel_rfl) (fun _ _ _ h => h) ((.inl ⟨by kernel_rfl, fun wh hwh => by (try dsimp only at hwh); obtain ⟨g0, g1, g2, g3, gm, g4⟩ := hwh; first | (simp [execOp, go_sem]; done) | (simp [execOp, go_sem]; with_reducible rfl)⟩)) hHeld ?_
                          (try simp only [Act.put, List.getElem_toArray, List.getElem_cons_succ, List.getElem_cons_zero, List.setIfInBounds_toArray, List.set_cons_zero, List.set_cons_succ])
                          refine wpAnyH_take (i := 37) (oi := _) (v := ?_) rfl (by kernel_rfl) (by kernel_rfl) (by kernel_rfl) (fun _ _ _ h => h) ((.inl ⟨by kernel_rfl, fun wh hwh => by (try dsimp only at hwh); obtain ⟨g0, g1, g2, g3, gm, g4⟩ := hwh; first | (simp [execOp, go_sem]; done) | (simp [execOp, go_sem]; with_reducible rfl)⟩)) hHeld ?_
                          (try simp only [Act.put, List.getElem_toArray, List.getElem_cons_succ, List.getElem_cons_zero, List.setIfInBounds_toArray, List.set_cons_zero, List.set_cons_succ])
                          refine wpAnyH_done (by kernel_rfl) ?_ _
                          go_wp2_with fail
                          go_roundw
                          case rel => exact ⟨k + 1 + 1, by omega, by go_num, HP9.out.sub (by simp), D, ownI_bel HMP.out HB8.out⟩
                          case measure => simp [intOf]; omega
                        · refine hK.out _ _ (HKP.out _ HB8.out) fun hHeld => ?_
                          refine wpAnyH_take (i := 29) (oi := _) (v := ?_) rfl (by kernel_rfl) (by kernel_rfl) (by kernel_rfl) (fun _ _ _ h => h) ((.inl ⟨by kernel_rfl, fun wh hwh => by (try dsimp only at hwh); obtain ⟨g0, g1, g2, g3, gm, g4⟩ := hwh; first | (simp [execOp, go_sem]; done) | (simp [execOp, go_sem]; with_reducible rfl)⟩)) hHeld ?_
                          (try simp only [Act.put, List.getElem_toArray, List.getElem_cons_succ, List.getElem_cons_zero, List.setIfInBounds_toArray, List.set_cons_zero, List.set_cons_succ])
                          refine wpAnyH_take (i := 30) (oi := _) (v := ?_) rfl (by kernel_rfl) (by kernel_rfl) (by kernel_rfl) (fun _ _ _ h => h) ((.inl ⟨by kernel_rfl, fun wh hwh => by (try dsimp only at hwh); obtain ⟨g0, g1, g2, g3, gm, g4⟩ := hwh; first | (simp [execOp, go_sem]; done) | (simp [execOp, go_sem]; with_reducible rfl)⟩)) hHeld ?_
                          (try simp only [Act.put, List.getElem_toArray, List.getElem_cons_succ, List.getElem_cons_zero, List.setIfInBounds_toArray, List.set_cons_zero, List.set_cons_succ])
                          refine wpAnyH_take (i := 31) (oi := _) (v := ?_) rfl (by kernel_rfl) (by kernel_rfl) (by kernel_rfl) (fun _ _ _ h => h) ((.inl ⟨by kernel_rfl, fun wh hwh => by (try dsimp only at hwh); obtain ⟨g0, g1, g2, g3, gm, g4⟩ := hwh; first | (simp [execOp, go_sem]; done) | (simp [execOp, go_sem]; with_reducible rfl)⟩)) hHeld ?_
                          (try simp only [Act.put, List.getElem_toArray, List.getElem_cons_succ, List.getElem_cons_zero, List.setIfInBounds_toArray, List.set_cons_zero, List.set_cons_succ])
                          refine wpAnyH_take (i := 32) (oi := _) (v := ?_) rfl (by kernel_rfl) (by kernel_rfl) (by kernel_rfl) (fun _ _ _ h => h) ((.inl ⟨by kernel_rfl, fun wh hwh => by (try dsimp only at hwh); obtain ⟨g0, g1, g2, g3, gm, g4⟩ := hwh; first | (simp [execOp, go_sem]; done) | (simp [execOp, go_sem]; with_reducible rfl)⟩)) hHeld ?_
                          (try simp only [Act.put, List.getElem_toArray, List.getElem_cons_succ, List.getElem_cons_zero, List.setIfInBounds_toArray, List.set_cons_zero, List.set_cons_succ])
                          refine wpAnyH_take (i := 33) (oi := _) (v := ?_) rfl (by kernel_rfl) (by kernel_rfl) (by kernel_rfl) (fun _ _ _ h => h) ((.inl ⟨by kernel_rfl, fun wh hwh => by (try dsimp only at hwh); obtain ⟨g0, g1, g2, g3, gm, g4⟩ := hwh; first | (simp [execOp, go_sem, g3]; done) | (simp [execOp, go_sem, g3]; with_reducible rfl)⟩)) hHeld ?_
                          (try simp only [Act.put, List.getElem_toArray, List.getElem_cons_succ, List.getElem_cons_zero, List.setIfInBounds_toArray, List.set_cons_zero, List.set_cons_succ])
                          refine wpAnyH_take (i := 34) (oi := _) (v := ?_) rfl (by kernel_rfl) (by kernel_rfl) (by kernel_rfl) (fun _ _ _ h => h) ((.inl ⟨by kernel_rfl, fun wh hwh => by (try dsimp only at hwh); obtain ⟨g0, g1, g2, g3, gm, g4⟩ := hwh; first | (simp [execOp, go_sem]; done) | (simp [execOp, go_sem]; with_reducible rfl)⟩)) hHeld ?_
                          (try simp only [Act.put, List.getElem_toArray, List.getElem_cons_succ, List.getElem_cons_zero, List.setIfInBounds_toArray, List.set_cons_zero, List.set_cons_succ])
                          refine wpAnyH_take (i := 35) (oi := _) (v := ?_) rfl (by kernel_rfl) (by kernel_rfl) (by kernel_rfl) (fun _ _ _ h => h) ((.inl ⟨by kernel_rfl, fun wh hwh => by (try dsimp only at hwh); obtain ⟨g0, g1, g2, g3, gm, g4⟩ := hwh; first | (simp [execOp, go_sem]; done) | (simp [execOp, go_sem]; with_reducible rfl)⟩)) hHeld ?_
                          (try simp only [Act.put, List.getElem_toArray, List.getElem_cons_succ, List.getElem_cons_zero, List.setIfInBounds_toArray, List.set_cons_zero, List.set_cons_succ])
                          refine wpAnyH_take (i := 36) (oi := _) (v := ?_) rfl (by kernel_rfl) (by kernel_rfl) (by kernel_rfl) (fun _ _ _ h => h) ((.inl ⟨by kernel_rfl, fun wh hwh => by (try dsimp only at hwh); obtain ⟨g0, g1, g2, g3, gm, g4⟩ := hwh; first | (simp [execOp, go_sem]; done) | (simp [execOp, go_sem]; with_reducible rfl)⟩)) hHeld ?_
                          (try simp only [Act.put, List.getElem_toArray, List.getElem_cons_succ, List.getElem_cons_zero, List.setIfInBounds_toArray, List.set_cons_zero, List.set_cons_succ])
                          refine wpAnyH_take (i := 37) (oi := _) (v := ?_) rfl (by kernel_rfl) (by kernel_rfl) (by kernel_rfl) (fun _ _ _ h => h) ((.inl ⟨by kernel_rfl, fun wh hwh => by (try dsimp only at hwh); obtain ⟨g0, g1, g2, g3, gm, g4⟩ := hwh; first | (simp [execOp, go_sem]; done) | (simp [execOp, go_sem]; with_reducible rfl)⟩)) hHeld ?_
                          (try simp only [Act.put, List.getElem_toArray, List.getElem_cons_succ, List.getElem_cons_zero, List.setIfInBounds_toArray, List.set_cons_zero, List.set_cons_succ])
                          refine wpAnyH_done (by kernel_rfl) ?_ _
                          go_wp2_with fail
                          go_ret
                          exact ⟨_, rfl, HP9.out.below⟩
                      · have bz : (z != 0) = true := by simpa using hz
                        refine hK.out _ _ (HKP.out _ HB8.out) fun hHeld => ?_
                        refine wpAnyH_take (i := 29) (oi := _) (v := ?_) rfl (by kernel_rfl) (by kernel_rfl) (by kernel_rfl) (fun _ _ _ h => h) ((.inl ⟨by kernel_rfl, fun wh hwh => by (try dsimp only at hwh); obtain ⟨g0, g1, g2, g3, gm, g4⟩ := hwh; first | (simp [execOp, go_sem, bz]; done) | (simp [execOp, go_sem, bz]; with_reducible rfl)⟩)) hHeld ?_
                        (try simp only [Act.put, List.getElem_toArray, List.getElem_cons_succ, List.getElem_cons_zero, List.setIfInBounds_toArray, List.set_cons_zero, List.set_cons_succ])
                        refine wpAnyH_take (i := 30) (oi := _) (v := ?_) rfl (by kernel_rfl) (by kernel_rfl) (by kernel_rfl) (fun _ _ _ h => h) ((.inl ⟨by kernel_rfl, fun wh hwh => by (try dsimp only at hwh); obtain ⟨g0, g1, g2, g3, gm, g4⟩ := hwh; first | (simp [execOp, go_sem]; done) | (simp [execOp, go_sem]; with_reducible rfl)⟩)) hHeld ?_
                        (try simp only [Act.put, List.getElem_toArray, List.getElem_cons_succ, List.getElem_cons_zero, List.setIfInBounds_toArray, List.set_cons_zero, List.set_cons_succ])
                        refine wpAnyH_take (i := 31) (oi := _) (v := ?_) rfl (by kernel_rfl) (by kernel_rfl) (by kernel_rfl) (fun _ _ _ h => h) ((.inl ⟨by kernel_rfl, fun wh hwh => by (try dsimp only at hwh); obtain ⟨g0, g1, g2, g3, gm, g4⟩ := hwh; first | (simp [execOp, go_sem]; done) | (simp [execOp, go_sem]; with_reducible rfl)⟩)) hHeld ?_
                        (try simp only [Act.put, List.getElem_toArray, List.getElem_cons_succ, List.getElem_cons_zero, List.setIfInBounds_toArray, List.set_cons_zero, List.set_cons_succ])
                        refine wpAnyH_take (i := 32) (oi := _) (v := undef) rfl (by kernel_rfl) (by kernel_rfl) (by kernel_rfl) (fun _ _ _ h => h) (.inr ⟨by kernel_rfl, rfl⟩) hHeld ?_
                        (try simp only [Act.put, List.getElem_toArray, List.getElem_cons_succ, List.getElem_cons_zero, List.setIfInBounds_toArray, List.set_cons_zero, List.set_cons_succ])
                        refine wpAnyH_take (i := 33) (oi := _) (v := undef) rfl (by kernel_rfl) (by kernel_rfl) (by kernel_rfl) (fun _ _ _ h => h) (.inr ⟨by kernel_rfl, rfl⟩) hHeld ?_
                        (try simp only [Act.put, List.getElem_toArray, List.getElem_cons_succ, List.getElem_cons_zero, List.setIfInBounds_toArray, List.set_cons_zero, List.set_cons_succ])
                        refine wpAnyH_take (i := 34) (oi := _) (v := undef) rfl (by kernel_rfl) (by kernel_rfl) (by kernel_rfl) (fun _ _ _ h => h) (.inr ⟨by kernel_rfl, rfl⟩) hHeld ?_
                        (try simp only [Act.put, List.getElem_toArray, List.getElem_cons_succ, List.getElem_cons_zero, List.setIfInBounds_toArray, List.set_cons_zero, List.set_cons_succ])
                        refine wpAnyH_take (i := 35) (oi := _) (v := undef) rfl (by kernel_rfl) (by kernel_rfl) (by kernel_rfl) (fun _ _ _ h => h) (.inr ⟨by kernel_rfl, rfl⟩) hHeld ?_
                        (try simp only [Act.put, List.getElem_toArray, List.getElem_cons_succ, List.getElem_cons_zero, List.setIfInBounds_toArray, List.set_cons_zero, List.set_cons_succ])
                        refine wpAnyH_take (i := 36) (oi := _) (v := undef) rfl (by kernel_rfl) (by kernel_rfl) (by kernel_rfl) (fun _ _ _ h => h) (.inr ⟨by kernel_rfl, rfl⟩) hHeld ?_
                        (try simp only [Act.put, List.getElem_toArray, List.getElem_cons_succ, List.getElem_cons_zero, List.setIfInBounds_toArray, List.set_cons_zero, List.set_cons_succ])
                        refine wpAnyH_take (i := 37) (oi := _) (v := ?_) rfl (by kernel_rfl) (by kernel_rfl) (by kernel_rfl) (fun _ _ _ h => h) ((.inl ⟨by kernel_rfl, fun wh hwh => by (try dsimp only at hwh); obtain ⟨g0, g1, g2, g3, gm, g4⟩ := hwh; first | (simp [execOp, go_sem]; done) | (simp [execOp, go_sem]; with_reducible rfl)⟩)) hHeld ?_
                        (try simp only [Act.put, List.getElem_toArray, List.getElem_cons_succ, List.getElem_cons_zero, List.setIfInBounds_toArray, List.set_cons_zero, List.set_cons_succ])
                        refine wpAnyH_done (by kernel_rfl) ?_ _
                        go_wp2_with fail
                        go_ret
                        exact ⟨_, rfl, HP9.out.below⟩
                    exact AllReadyH.nil
                · have hj0' : ¬ 0 < j := by omega
                  go_upto_region 17 with fail
                  refine wp_region_held_drew (S := fun w' => w'.cell? ⟨w.heap.size + 1, 2, none⟩ = some (.slice (some ⟨b, o, none⟩) nu ucap) ∧ w'.cell? ⟨p, 0, none⟩ = some (.int .i64 q.id) ∧ w'.cell? ⟨p, 1, none⟩ = some (.slice qa q.old.length qc) ∧ w'.cell? ⟨p, 2, none⟩ = some (.slice qa2 q.new.length qc2) ∧ w'.ownsMap Tryz.prog 3 (plainElem Tryz.prog 4) G nd D) (by kernel_rfl) (HKS.out _ (below_drew (Below.refl _ _))) fun hHeld => ?_
                  refine wpAnyH_take (i := 0) (oi := _) (v := ?_) rfl (by kernel_rfl) (by kernel_rfl) (by kernel_rfl) (fun _ _ _ h => h) ((.inl ⟨by kernel_rfl, fun wh hwh => by (try dsimp only at hwh); obtain ⟨g0, g1, g2, g3, gm⟩ := hwh; first | (simp [execOp, go_sem]; done) | (simp [execOp, go_sem]; with_reducible rfl)⟩)) hHeld ?_
                  (try simp only [Act.put, List.getElem_toArray, List.getElem_cons_zero, List.setIfInBounds_toArray, List.set_cons_zero, List.set_cons_succ])
                  refine wpAnyH_take (i := 1) (oi := _) (v := ?_) rfl (by kernel_rfl) (by kernel_rfl) (by kernel_rfl) (fun _ _ _ h => h) ((.inl ⟨by kernel_rfl, fun wh hwh => by (try dsimp only at hwh); obtain ⟨g0, g1, g2, g3, gm⟩ := hwh; first | (simp [execOp, go_sem]; done) | (simp [execOp, go_sem]; with_reducible rfl)⟩)) hHeld ?_
                  (try simp only [Act.put, List.getElem_toArray, List.getElem_cons_succ, List.getElem_cons_zero, List.setIfInBounds_toArray, List.set_cons_zero, List.set_cons_succ])
                  refine wpAnyH_take (i := 2) (oi := _) (v := ?_) rfl (by kernel_rfl) (by kernel_rfl) (by kernel_rfl) (fun _ _ _ h => h) ((.inl ⟨by kernel_rfl, fun wh hwh => by (try dsimp only at hwh); obtain ⟨g0, g1, g2, g3, gm⟩ := hwh; first | (simp [execOp, go_sem]; done) | (simp [execOp, go_sem]; with_reducible rfl)⟩)) hHeld ?_
                  (try simp only [Act.put, List.getElem_toArray, List.getElem_cons_succ, List.getElem_cons_zero, List.setIfInBounds_toArray, List.set_cons_zero, List.set_cons_succ])
                  refine wpAnyH_take (i := 3) (oi := _) (v := ?_) rfl (by kernel_rfl) (by kernel_rfl) (by kernel_rfl) (fun _ _ _ h => h) ((.inl ⟨by kernel_rfl, fun wh hwh => by (try dsimp only at hwh); obtain ⟨g0, g1, g2, g3, gm⟩ := hwh; first | (simp [execOp, go_sem]; done) | (simp [execOp, go_sem]; with_reducible rfl)⟩)) hHeld ?_
                  (try simp only [Act.put, List.getElem_toArray, List.getElem_cons_succ, List.getElem_cons_zero, List.setIfInBounds_toArray, List.set_cons_zero, List.set_cons_succ])
                  refine wpAnyH_take (i := 4) (oi := _) (v := ?_) rfl (by kernel_rfl) (by kernel_rfl) (by kernel_rfl) (fun _ _ _ h => h) ((.inl ⟨by kernel_rfl, fun wh hwh => by (try dsimp only at hwh); obtain ⟨g0, g1, g2, g3, gm⟩ := hwh; first | (simp [execOp, go_sem]; done) | (simp [execOp, go_sem]; with_reducible rfl)⟩)) hHeld ?_
                  (try simp only [Act.put, List.getElem_toArray, List.getElem_cons_succ, List.getElem_cons_zero, List.setIfInBounds_toArray, List.set_cons_zero, List.set_cons_succ])
                  refine wpAnyH_take (i := 5) (oi := _) (v := ?_) rfl (by kernel_rfl) (by kernel_rfl) (by kernel_rfl) (fun _ _ _ h => h) ((.inl ⟨by kernel_rfl, fun wh hwh => by (try dsimp only at hwh); obtain ⟨g0, g1, g2, g3, gm⟩ := hwh; first | (simp [execOp, go_sem, g1]; done) | (simp [execOp, go_sem, g1]; with_reducible rfl)⟩)) hHeld ?_
                  (try simp only [Act.put, List.getElem_toArray, List.getElem_cons_succ, List.getElem_cons_zero, List.setIfInBounds_toArray, List.set_cons_zero, List.set_cons_succ])
                  refine wpAnyH_take (i := 6) (oi := _) (v := .bool false) rfl (by kernel_rfl) (by kernel_rfl) (by kernel_rfl) (fun _ _ _ h => h) ((.inl ⟨by kernel_rfl, fun wh hwh => by (try dsimp only at hwh); obtain ⟨g0, g1, g2, g3, gm⟩ := hwh; have hq := HLK.out wh gm; show ((do pure (Next.value (← Instr.lookup 181 (.map (some G)) (.int .i64 q.id) false))) : Sem Next).run _ _ = _; simp [hq, Result.andThen]⟩)) hHeld ?_
                  (try simp only [Act.put, List.getElem_toArray, List.getElem_cons_succ, List.getElem_cons_zero, List.setIfInBounds_toArray, List.set_cons_zero, List.set_cons_succ])
                  refine wpAnyH_take (i := 7) (oi := _) (v := ?_) rfl (by kernel_rfl) (by kernel_rfl) (by kernel_rfl) (fun _ _ _ h => h) ((.inl ⟨by kernel_rfl, fun wh hwh => by (try dsimp only at hwh); obtain ⟨g0, g1, g2, g3, gm⟩ := hwh; first | (simp [execOp, go_sem]; done) | (simp [execOp, go_sem]; with_reducible rfl)⟩)) hHeld ?_
                  (try simp only [Act.put, List.getElem_toArray, List.getElem_cons_succ, List.getElem_cons_zero, List.setIfInBounds_toArray, List.set_cons_zero, List.set_cons_succ])
                  refine wpAnyH_take (i := 8) (oi := _) (v := ?_) rfl (by kernel_rfl) (by kernel_rfl) (by kernel_rfl) (fun _ _ _ h => h) ((.inl ⟨by kernel_rfl, fun wh hwh => by (try dsimp only at hwh); obtain ⟨g0, g1, g2, g3, gm⟩ := hwh; first | (simp [execOp, go_sem]; done) | (simp [execOp, go_sem]; with_reducible rfl)⟩)) hHeld ?_
                  (try simp only [Act.put, List.getElem_toArray, List.getElem_cons_succ, List.getElem_cons_zero, List.setIfInBounds_toArray, List.set_cons_zero, List.set_cons_succ])
                  refine wpAnyH_take (i := 9) (oi := _) (v := ?_) rfl (by kernel_rfl) (by kernel_rfl) (by kernel_rfl) (fun _ _ _ h => h) ((.inl ⟨by kernel_rfl, fun wh hwh => by (try dsimp only at hwh); obtain ⟨g0, g1, g2, g3, gm⟩ := hwh; first | (simp [execOp, go_sem]; done) | (simp [execOp, go_sem]; with_reducible rfl)⟩)) hHeld ?_
                  (try simp only [Act.put, List.getElem_toArray, List.getElem_cons_succ, List.getElem_cons_zero, List.setIfInBounds_toArray, List.set_cons_zero, List.set_cons_succ])
                  refine wpAnyH_take (i := 10) (oi := _) (v := ?_) rfl (by kernel_rfl) (by kernel_rfl) (by kernel_rfl) (fun _ _ _ h => h) ((.inl ⟨by kernel_rfl, fun wh hwh => by (try dsimp only at hwh); obtain ⟨g0, g1, g2, g3, gm⟩ := hwh; first | (simp [execOp, go_sem, hj0']; done) | (simp [execOp, go_sem, hj0']; with_reducible rfl)⟩)) hHeld ?_
                  (try simp only [Act.put, List.getElem_toArray, List.getElem_cons_succ, List.getElem_cons_zero, List.setIfInBounds_toArray, List.set_cons_zero, List.set_cons_succ])
                  refine wpAnyH_take (i := 11) (oi := _) (v := ?_) rfl (by kernel_rfl) (by kernel_rfl) (by kernel_rfl) (fun _ _ _ h => h) ((.inl ⟨by kernel_rfl, fun wh hwh => by (try dsimp only at hwh); obtain ⟨g0, g1, g2, g3, gm⟩ := hwh; first | (simp [execOp, go_sem]; done) | (simp [execOp, go_sem]; with_reducible rfl)⟩)) hHeld ?_
                  (try simp only [Act.put, List.getElem_toArray, List.getElem_cons_succ, List.getElem_cons_zero, List.setIfInBounds_toArray, List.set_cons_zero, List.set_cons_succ])
                  refine wpAnyH_take (i := 12) (oi := _) (v := undef) rfl (by kernel_rfl) (by kernel_rfl) (by kernel_rfl) (fun _ _ _ h => h) (.inr ⟨by kernel_rfl, rfl⟩) hHeld ?_
                  (try simp only [Act.put, List.getElem_toArray, List.getElem_cons_succ, List.getElem_cons_zero, List.setIfInBounds_toArray, List.set_cons_zero, List.set_cons_succ])
                  refine wpAnyH_take (i := 13) (oi := _) (v := undef) rfl (by kernel_rfl) (by kernel_rfl) (by kernel_rfl) (fun _ _ _ h => h) (.inr ⟨by kernel_rfl, rfl⟩) hHeld ?_
                  (try simp only [Act.put, List.getElem_toArray, List.getElem_cons_succ, List.getElem_cons_zero, List.setIfInBounds_toArray, List.set_cons_zero, List.set_cons_succ])
                  refine wpAnyH_take (i := 14) (oi := _) (v := undef) rfl (by kernel_rfl) (by kernel_rfl) (by kernel_rfl) (fun _ _ _ h => h) (.inr ⟨by kernel_rfl, rfl⟩) hHeld ?_
                  (try simp only [Act.put, List.getElem_toArray, List.getElem_cons_succ, List.getElem_cons_zero, List.setIfInBounds_toArray, List.set_cons_zero, List.set_cons_succ])
                  refine wpAnyH_take (i := 15) (oi := _) (v := undef) rfl (by kernel_rfl) (by kernel_rfl) (by kernel_rfl) (fun _ _ _ h => h) (.inr ⟨by kernel_rfl, rfl⟩) hHeld ?_
                  (try simp only [Act.put, List.getElem_toArray, List.getElem_cons_succ, List.getElem_cons_zero, List.setIfInBounds_toArray, List.set_cons_zero, List.set_cons_succ])
                  refine wpAnyH_take (i := 16) (oi := _) (v := undef) rfl (by kernel_rfl) (by kernel_rfl) (by kernel_rfl) (fun _ _ _ h => h) (.inr ⟨by kernel_rfl, rfl⟩) hHeld ?_
                  (try simp only [Act.put, List.getElem_toArray, List.getElem_cons_succ, List.getElem_cons_zero, List.setIfInBounds_toArray, List.set_cons_zero, List.set_cons_succ])
                  refine wpAnyH_take (i := 17) (oi := _) (v := undef) rfl (by kernel_rfl) (by kernel_rfl) (by kernel_rfl) (fun _ _ _ h => h) (.inr ⟨by kernel_rfl, rfl⟩) hHeld ?_
                  (try simp only [Act.put, List.getElem_toArray, List.getElem_cons_succ, List.getElem_cons_zero, List.setIfInBounds_toArray, List.set_cons_zero, List.set_cons_succ])
                  refine wpAnyH_take (i := 18) (oi := _) (v := undef) rfl (by kernel_rfl) (by kernel_rfl) (by kernel_rfl) (fun _ _ _ h => h) (.inr ⟨by kernel_rfl, rfl⟩) hHeld ?_
                  (try simp only [Act.put, List.getElem_toArray, List.getElem_cons_succ, List.getElem_cons_zero, List.setIfInBounds_toArray, List.set_cons_zero, List.set_cons_succ])
                  refine wpAnyH_take (i := 19) (oi := _) (v := undef) rfl (by kernel_rfl) (by kernel_rfl) (by kernel_rfl) (fun _ _ _ h => h) (.inr ⟨by kernel_rfl, rfl⟩) hHeld ?_
                  (try simp only [Act.put, List.getElem_toArray, List.getElem_cons_succ, List.getElem_cons_zero, List.setIfInBounds_toArray, List.set_cons_zero, List.set_cons_succ])
                  refine wpAnyH_take (i := 20) (oi := _) (v := undef) rfl (by kernel_rfl) (by kernel_rfl) (by kernel_rfl) (fun _ _ _ h => h) (.inr ⟨by kernel_rfl, rfl⟩) hHeld ?_
                  (try simp only [Act.put, List.getElem_toArray, List.getElem_cons_succ, List.getElem_cons_zero, List.setIfInBounds_toArray, List.set_cons_zero, List.set_cons_succ])
                  refine wpAnyH_take (i := 21) (oi := _) (v := undef) rfl (by kernel_rfl) (by kernel_rfl) (by kernel_rfl) (fun _ _ _ h => h) (.inr ⟨by kernel_rfl, rfl⟩) hHeld ?_
                  (try simp only [Act.put, List.getElem_toArray, List.getElem_cons_succ, List.getElem_cons_zero, List.setIfInBounds_toArray, List.set_cons_zero, List.set_cons_succ])
                  refine wpAnyH_take (i := 22) (oi := _) (v := ?_) rfl (by kernel_rfl) (by kernel_rfl) (by kernel_rfl) (fun _ _ _ h => h) ((.inl ⟨by kernel_rfl, fun wh hwh => by (try dsimp only at hwh); obtain ⟨g0, g1, g2, g3, gm⟩ := hwh; first | (simp [execOp, go_sem]; done) | (simp [execOp, go_sem]; with_reducible rfl)⟩)) hHeld ?_
                  (try simp only [Act.put, List.getElem_toArray, List.getElem_cons_succ, List.getElem_cons_zero, List.setIfInBounds_toArray, List.set_cons_zero, List.set_cons_succ])
                  refine wpAnyH_take (i := 23) (oi := _) (v := ?_) rfl (by kernel_rfl) (by kernel_rfl) (by kernel_rfl) (fun _ _ _ h => h) ((.inl ⟨by kernel_rfl, fun wh hwh => by (try dsimp only at hwh); obtain ⟨g0, g1, g2, g3, gm⟩ := hwh; first | (simp [execOp, go_sem]; done) | (simp [execOp, go_sem]; with_reducible rfl)⟩)) hHeld ?_
                  (try simp only [Act.put, List.getElem_toArray, List.getElem_cons_succ, List.getElem_cons_zero, List.setIfInBounds_toArray, List.set_cons_zero, List.set_cons_succ])
                  refine wpAnyH_take (i := 24) (oi := _) (v := ?_) rfl (by kernel_rfl) (by kernel_rfl) (by kernel_rfl) (fun _ _ _ h => h) ((.inl ⟨by kernel_rfl, fun wh hwh => by (try dsimp only at hwh); obtain ⟨g0, g1, g2, g3, gm⟩ := hwh; first | (simp [execOp, go_sem]; done) | (simp [execOp, go_sem]; with_reducible rfl)⟩)) hHeld ?_
                  (try simp only [Act.put, List.getElem_toArray, List.getElem_cons_succ, List.getElem_cons_zero, List.setIfInBounds_toArray, List.set_cons_zero, List.set_cons_succ])
                  refine wpAnyH_take (i := 25) (oi := _) (v := ?_) rfl (by kernel_rfl) (by kernel_rfl) (by kernel_rfl) (fun _ _ _ h => h) ((.inl ⟨by kernel_rfl, fun wh hwh => by (try dsimp only at hwh); obtain ⟨g0, g1, g2, g3, gm⟩ := hwh; first | (simp [execOp, go_sem]; done) | (simp [execOp, go_sem]; with_reducible rfl)⟩)) hHeld ?_
                  (try simp only [Act.put, List.getElem_toArray, List.getElem_cons_succ, List.getElem_cons_zero, List.setIfInBounds_toArray, List.set_cons_zero, List.set_cons_succ])
                  refine wpAnyH_take (i := 26) (oi := _) (v := ?_) rfl (by kernel_rfl) (by kernel_rfl) (by kernel_rfl) (fun _ _ _ h => h) ((.inl ⟨by kernel_rfl, fun wh hwh => by (try dsimp only at hwh); obtain ⟨g0, g1, g2, g3, gm⟩ := hwh; first | (simp [execOp, go_sem]; done) | (simp [execOp, go_sem]; with_reducible rfl)⟩)) hHeld ?_
                  (try simp only [Act.put, List.getElem_toArray, List.getElem_cons_succ, List.getElem_cons_zero, List.setIfInBounds_toArray, List.set_cons_zero, List.set_cons_succ])
                  refine wpAnyH_take (i := 27) (oi := _) (v := ?_) rfl (by kernel_rfl) (by kernel_rfl) (by kernel_rfl) (fun _ _ _ h => h) ((.inl ⟨by kernel_rfl, fun wh hwh => by (try dsimp only at hwh); obtain ⟨g0, g1, g2, g3, gm⟩ := hwh; first | (simp [execOp, go_sem, g2]; done) | (simp [execOp, go_sem, g2]; with_reducible rfl)⟩)) hHeld ?_
                  (try simp only [Act.put, List.getElem_toArray, List.getElem_cons_succ, List.getElem_cons_zero, List.setIfInBounds_toArray, List.set_cons_zero, List.set_cons_succ])
                  refine wpAnyH_ready (rs := [28]) (by kernel_rfl) (by simp) ?_
                  refine AllReadyH.cons (o := _) rfl (fun K hK => ?_) ?_
                  · go_simp
                    refine (HCR.out _ (below_drew (Below.refl _ _))).mono ?_
                    rintro e w8 ⟨rfl, hb⟩
                    have HB8 := Lib.hid (below_drew hb)
                    have HP9 := Lib.hid (HP6.out.bel HB8.out)
                    clear hb
                    dsimp only
                    generalize lexC cmpV _ _ = z
                    by_cases hz : z = 0
                    · subst hz
                      by_cases hq : (q.new.length : Int) = (m : Int)
                      · refine hK.out _ _ (HKS.out _ HB8.out) fun hHeld => ?_
                        refine wpAnyH_take (i := 29) (oi := _) (v := ?_) rfl (by kernel_rfl) (by kernel_rfl) (by kernel_rfl) (fun _ _ _ h => h) ((.inl ⟨by kernel_rfl, fun wh hwh => by (try dsimp only at hwh); obtain ⟨g0, g1, g2, g3, gm⟩ := hwh; first | (simp [execOp, go_sem]; done) | (simp [execOp, go_sem]; with_reducible rfl)⟩)) hHeld ?_
                        (try simp only [Act.put, List.getElem_toArray, List.getElem_cons_succ, List.getElem_cons_zero, List.setIfInBounds_toArray, List.set_cons_zero, List.set_cons_succ])
                        refine wpAnyH_take (i := 30) (oi := _) (v := ?_) rfl (by kernel_rfl) (by kernel_rfl) (by kernel_rfl) (fun _ _ _ h => h) ((.inl ⟨by kernel_rfl, fun wh hwh => by (try dsimp only at hwh); obtain ⟨g0, g1, g2, g3, gm⟩ := hwh; first | (simp [execOp, go_sem]; done) | (simp [execOp, go_sem]; with_reducible rfl)⟩)) hHeld ?_
                        (try simp only [Act.put, List.getElem_toArray, List.getElem_cons_succ, List.getElem_cons_zero, List.setIfInBounds_toArray, List.set_cons_zero, List.set_cons_succ])
                        refine wpAnyH_take (i := 31) (oi := _) (v := ?_) rfl (by kernel_rfl) (by kernel_rfl) (by kernel_rfl) (fun _ _ _ h => h) ((.inl ⟨by kernel_rfl, fun wh hwh => by (try dsimp only at hwh); obtain ⟨g0, g1, g2, g3, gm⟩ := hwh; first | (simp [execOp, go_sem]; done) | (simp [execOp, go_sem]; with_reducible rfl)⟩)) hHeld ?_
                        (try simp only [Act.put, List.getElem_toArray, List.getElem_cons_succ, List.getElem_cons_zero, List.setIfInBounds_toArray, List.set_cons_zero, List.set_cons_succ])
                        refine wpAnyH_take (i := 32) (oi := _) (v := ?_) rfl (by kernel_rfl) (by kernel_rfl) (by kernel_rfl) (fun _ _ _ h => h) ((.inl ⟨by kernel_rfl, fun wh hwh => by (try dsimp only at hwh); obtain ⟨g0, g1, g2, g3, gm⟩ := hwh; first | (simp [execOp, go_sem]; done) | (simp [execOp, go_sem]; with_reducible rfl)⟩)) hHeld ?_
                        (try simp only [Act.put, List.getElem_toArray, List.getElem_cons_succ, List.getElem_cons_zero, List.setIfInBounds_toArray, List.set_cons_zero, List.set_cons_succ])
                        refine wpAnyH_take (i := 33) (oi := _) (v := ?_) rfl (by kernel_rfl) (by kernel_rfl) (by kernel_rfl) (fun _ _ _ h => h) ((.inl ⟨by kernel_rfl, fun wh hwh => by (try dsimp only at hwh); obtain ⟨g0, g1, g2, g3, gm⟩ := hwh; first | (simp [execOp, go_sem, g3]; done) | (simp [execOp, go_sem, g3]; with_reducible rfl)⟩)) hHeld ?_
                        (try simp only [Act.put, List.getElem_toArray, List.getElem_cons_succ, List.getElem_cons_zero, List.setIfInBounds_toArray, List.set_cons_zero, List.set_cons_succ])
                        refine wpAnyH_take (i := 34) (oi := _) (v := ?_) rfl (by kernel_rfl) (by kernel_rfl) (by kernel_rfl) (fun _ _ _ h => h) ((.inl ⟨by kernel_rfl, fun wh hwh => by (try dsimp only at hwh); obtain ⟨g0, g1, g2, g3, gm⟩ := hwh; first | (simp [execOp, go_sem]; done) | (simp [execOp, go_sem]; with_reducible rfl)⟩)) hHeld ?_
                        (try simp only [Act.put, List.getElem_toArray, List.getElem_cons_succ, List.getElem_cons_zero, List.setIfInBounds_toArray, List.set_cons_zero, List.set_cons_succ])
                        refine wpAnyH_take (i := 35) (oi := _) (v := ?_) rfl (by kernel_rfl) (by kernel_rfl) (by kernel_rfl) (fun _ _ _ h => h) ((.inl ⟨by kernel_rfl, fun wh hwh => by (try dsimp only at hwh); obtain ⟨g0, g1, g2, g3, gm⟩ := hwh; first | (simp [execOp, go_sem]; done) | (simp [execOp, go_sem]; with_reducible rfl)⟩)) hHeld ?_
                        (try simp only [Act.put, List.getElem_toArray, List.getElem_cons_succ, List.getElem_cons_zero, List.setIfInBounds_toArray, List.set_cons_zero, List.set_cons_succ])
                        refine wpAnyH_take (i := 36) (oi := _) (v := ?_) rfl (by kernel_rfl) (by kernel_rfl) (by kernel_rfl) (fun _ _ _ h => h) ((.inl ⟨by kernel_rfl, fun wh hwh => by (try dsimp only at hwh); obtain ⟨g0, g1, g2, g3, gm⟩ := hwh; first | (simp [execOp, go_sem]; done) | (simp [execOp, go_sem]; with_reducible rfl)⟩)) hHeld ?_
                        (try simp only [Act.put, List.getElem_toArray, List.getElem_cons_succ, List.getElem_cons_zero, List.setIfInBounds_toArray, List.set_cons_zero, List.set_cons_succ])
                        refine wpAnyH_take (i := 37) (oi := _) (v := ?_) rfl (by kernel_rfl) (by kernel_rfl) (by kernel_rfl) (fun _ _ _ h => h) ((.inl ⟨by kernel_rfl, fun wh hwh => by (try dsimp only at hwh); obtain ⟨g0, g1, g2, g3, gm⟩ := hwh; first | (simp [execOp, go_sem]; done) | (simp [execOp, go_sem]; with_reducible rfl)⟩)) hHeld ?_
                        (try simp only [Act.put, List.getElem_toArray, List.getElem_cons_succ, List.getElem_cons_zero, List.setIfInBounds_toArray, List.set_cons_zero, List.set_cons_succ])
                        refine wpAnyH_done (by kernel_rfl) ?_ _
                        go_wp2_with fail
                        go_roundw
                        case rel => exact ⟨j + 1, by omega, by go_num, HP9.out.sub (by simp), D, ownI_bel HMP.out HB8.out⟩
                        case measure => simp [intOf]; omega
                      · refine hK.out _ _ (HKS.out _ HB8.out) fun hHeld => ?_
                        refine wpAnyH_take (i := 29) (oi := _) (v := ?_) rfl (by kernel_rfl) (by kernel_rfl) (by kernel_rfl) (fun _ _ _ h => h) ((.inl ⟨by kernel_rfl, fun wh hwh => by (try dsimp only at hwh); obtain ⟨g0, g1, g2, g3, gm⟩ := hwh; first | (simp [execOp, go_sem]; done) | (simp [execOp, go_sem]; with_reducible rfl)⟩)) hHeld ?_
                        (try simp only [Act.put, List.getElem_toArray, List.getElem_cons_succ, List.getElem_cons_zero, List.setIfInBounds_toArray, List.set_cons_zero, List.set_cons_succ])
                        refine wpAnyH_take (i := 30) (oi := _) (v := ?_) rfl (by kernel_rfl) (by kernel_rfl) (by kernel_rfl) (fun _ _ _ h => h) ((.inl ⟨by kernel_rfl, fun wh hwh => by (try dsimp only at hwh); obtain ⟨g0, g1, g2, g3, gm⟩ := hwh; first | (simp [execOp, go_sem]; done) | (simp [execOp, go_sem]; with_reducible rfl)⟩)) hHeld ?_
                        (try simp only [Act.put, List.getElem_toArray, List.getElem_cons_succ, List.getElem_cons_zero, List.setIfInBounds_toArray, List.set_cons_zero, List.set_cons_succ])
                        refine wpAnyH_take (i := 31) (oi := _) (v := ?_) rfl (by kernel_rfl) (by kernel_rfl) (by kernel_rfl) (fun _ _ _ h => h) ((.inl ⟨by kernel_rfl, fun wh hwh => by (try dsimp only at hwh); obtain ⟨g0, g1, g2, g3, gm⟩ := hwh; first | (simp [execOp, go_sem]; done) | (simp [execOp, go_sem]; with_reducible rfl)⟩)) hHeld ?_
                        (try simp only [Act.put, List.getElem_toArray, List.getElem_cons_succ, List.getElem_cons_zero, List.setIfInBounds_toArray, List.set_cons_zero, List.set_cons_succ])
                        refine wpAnyH_take (i := 32) (oi := _) (v := ?_) rfl (by kernel_rfl) (by kernel_rfl) (by kernel_rfl) (fun _ _ _ h => h) ((.inl ⟨by kernel_rfl, fun wh hwh => by (try dsimp only at hwh); obtain ⟨g0, g1, g2, g3, gm⟩ := hwh; first | (simp [execOp, go_sem]; done) | (simp [execOp, go_sem]; with_reducible rfl)⟩)) hHeld ?_
                        (try simp only [Act.put, List.getElem_toArray, List.getElem_cons_succ, List.getElem_cons_zero, List.setIfInBounds_toArray, List.set_cons_zero, List.set_cons_succ])
                        refine wpAnyH_take (i := 33) (oi := _) (v := ?_) rfl (by kernel_rfl) (by kernel_rfl) (by kernel_rfl) (fun _ _ _ h => h) ((.inl ⟨by kernel_rfl, fun wh hwh => by (try dsimp only at hwh); obtain ⟨g0, g1, g2, g3, gm⟩ := hwh; first | (simp [execOp, go_sem, g3]; done) | (simp [execOp, go_sem, g3]; with_reducible rfl)⟩)) hHeld ?_
                        (try simp only [Act.put, List.getElem_toArray, List.getElem_cons_succ, List.getElem_cons_zero, List.setIfInBounds_toArray, List.set_cons_zero, List.set_cons_succ])
                        refine wpAnyH_take (i := 34) (oi := _) (v := ?_) rfl (by kernel_rfl) (by kernel_rfl) (by kernel_rfl) (fun _ _ _ h => h) ((.inl ⟨by kernel_rfl, fun wh hwh => by (try dsimp only at hwh); obtain ⟨g0, g1, g2, g3, gm⟩ := hwh; first | (simp [execOp, go_sem]; done) | (simp [execOp, go_sem]; with_reducible rfl)⟩)) hHeld ?_
                        (try simp only [Act.put, List.getElem_toArray, List.getElem_cons_succ, List.getElem_cons_zero, List.setIfInBounds_toArray, List.set_cons_zero, List.set_cons_succ])
                        refine wpAnyH_take (i := 35) (oi := _) (v := ?_) rfl (by kernel_rfl) (by kernel_rfl) (by kernel_rfl) (fun _ _ _ h => h) ((.inl ⟨by kernel_rfl, fun wh hwh => by (try dsimp only at hwh); obtain ⟨g0, g1, g2, g3, gm⟩ := hwh; first | (simp [execOp, go_sem]; done) | (simp [execOp, go_sem]; with_reducible rfl)⟩)) hHeld ?_
                        (try simp only [Act.put, List.getElem_toArray, List.getElem_cons_succ, List.getElem_cons_zero, List.setIfInBounds_toArray, List.set_cons_zero, List.set_cons_succ])
                        refine wpAnyH_take (i := 36) (oi := _) (v := ?_) rfl (by kernel_rfl) (by kernel_rfl) (by kernel_rfl) (fun _ _ _ h => h) ((.inl ⟨by kernel_rfl, fun wh hwh => by (try dsimp only at hwh); obtain ⟨g0, g1, g2, g3, gm⟩ := hwh; first | (simp [execOp, go_sem]; done) | (simp [execOp, go_sem]; with_reducible rfl)⟩)) hHeld ?_
                        (try simp only [Act.put, List.getElem_toArray, List.getElem_cons_succ, List.getElem_cons_zero, List.setIfInBounds_toArray, List.set_cons_zero, List.set_cons_succ])
                        refine wpAnyH_take (i := 37) (oi := _) (v := ?_) rfl (by kernel_rfl) (by kernel_rfl) (by kernel_rfl) (fun _ _ _ h => h) ((.inl ⟨by kernel_rfl, fun wh hwh => by (try dsimp only at hwh); obtain ⟨g0, g1, g2, g3, gm⟩ := hwh; first | (simp [execOp, go_sem]; done) | (simp [execOp, go_sem]; with_reducible rfl)⟩)) hHeld ?_
                        (try simp only [Act.put, List.getElem_toArray, List.getElem_cons_succ, List.getElem_cons_zero, List.setIfInBounds_toArray, List.set_cons_zero, List.set_cons_succ])
                        refine wpAnyH_done (by kernel_rfl) ?_ _
                        go_wp2_with fail
                        go_ret
                        exact ⟨_, rfl, HP9.out.below⟩
                    · have bz : (z != 0) = true := by simpa using hz
                      refine hK.out _ _ (HKS.out _ HB8.out) fun hHeld => ?_
                      refine wpAnyH_take (i := 29) (oi := _) (v := ?_) rfl (by kernel_rfl) (by kernel_rfl) (by kernel_rfl) (fun _ _ _ h => h) ((.inl ⟨by kernel_rfl, fun wh hwh => by (try dsimp only at hwh); obtain ⟨g0, g1, g2, g3, gm⟩ := hwh; first | (simp [execOp, go_sem, bz]; done) | (simp [execOp, go_sem, bz]; with_reducible rfl)⟩)) hHeld ?_
                      (try simp only [Act.put, List.getElem_toArray, List.getElem_cons_succ, List.getElem_cons_zero, List.setIfInBounds_toArray, List.set_cons_zero, List.set_cons_succ])
                      refine wpAnyH_take (i := 30) (oi := _) (v := ?_) rfl (by kernel_rfl) (by kernel_rfl) (by kernel_rfl) (fun _ _ _ h => h) ((.inl ⟨by kernel_rfl, fun wh hwh => by (try dsimp only at hwh); obtain ⟨g0, g1, g2, g3, gm⟩ := hwh; first | (simp [execOp, go_sem]; done) | (simp [execOp, go_sem]; with_reducible rfl)⟩)) hHeld ?_
                      (try simp only [Act.put, List.getElem_toArray, List.getElem_cons_succ, List.getElem_cons_zero, List.setIfInBounds_toArray, List.set_cons_zero, List.set_cons_succ])
                      refine wpAnyH_take (i := 31) (oi := _) (v := ?_) rfl (by kernel_rfl) (by kernel_rfl) (by kernel_rfl) (fun _ _ _ h => h) ((.inl ⟨by kernel_rfl, fun wh hwh => by (try dsimp only at hwh); obtain ⟨g0, g1, g2, g3, gm⟩ := hwh; first | (simp [execOp, go_sem]; done) | (simp [execOp, go_sem]; with_reducible rfl)⟩)) hHeld ?_
                      (try simp only [Act.put, List.getElem_toArray, List.getElem_cons_succ, List.getElem_cons_zero, List.setIfInBounds_toArray, List.set_cons_zero, List.set_cons_succ])
                      refine wpAnyH_take (i := 32) (oi := _) (v := undef) rfl (by kernel_rfl) (by kernel_rfl) (by kernel_rfl) (fun _ _ _ h => h) (.inr ⟨by kernel_rfl, rfl⟩) hHeld ?_
                      (try simp only [Act.put, List.getElem_toArray, List.getElem_cons_succ, List.getElem_cons_zero, List.setIfInBounds_toArray, List.set_cons_zero, List.set_cons_succ])
                      refine wpAnyH_take (i := 33) (oi := _) (v := undef) rfl (by kernel_rfl) (by kernel_rfl) (by kernel_rfl) (fun _ _ _ h => h) (.inr ⟨by kernel_rfl, rfl⟩) hHeld ?_
                      (try simp only [Act.put, List.getElem_toArray, List.getElem_cons_succ, List.getElem_cons_zero, List.setIfInBounds_toArray, List.set_cons_zero, List.set_cons_succ])
                      refine wpAnyH_take (i := 34) (oi := _) (v := undef) rfl (by kernel_rfl) (by kernel_rfl) (by kernel_rfl) (fun _ _ _ h => h) (.inr ⟨by kernel_rfl, rfl⟩) hHeld ?_
                      (try simp only [Act.put, List.getElem_toArray, List.getElem_cons_succ, List.getElem_cons_zero, List.setIfInBounds_toArray, List.set_cons_zero, List.set_cons_succ])
                      refine wpAnyH_take (i := 35) (oi := _) (v := undef) rfl (by kernel_rfl) (by kernel_rfl) (by kernel_rfl) (fun _ _ _ h => h) (.inr ⟨by kernel_rfl, rfl⟩) hHeld ?_
                      (try simp only [Act.put, List.getElem_toArray, List.getElem_cons_succ, List.getElem_cons_zero, List.setIfInBounds_toArray, List.set_cons_zero, List.set_cons_succ])
                      refine wpAnyH_take (i := 36) (oi := _) (v := undef) rfl (by kernel_rfl) (by kernel_rfl) (by kernel_rfl) (fun _ _ _ h => h) (.inr ⟨by kernel_rfl, rfl⟩) hHeld ?_
                      (try simp only [Act.put, List.getElem_toArray, List.getElem_cons_succ, List.getElem_cons_zero, List.setIfInBounds_toArray, List.set_cons_zero, List.set_cons_succ])
                      refine wpAnyH_take (i := 37) (oi := _) (v := ?_) rfl (by kernel_rfl) (by kernel_rfl) (by kernel_rfl) (fun _ _ _ h => h) ((.inl ⟨by kernel_rfl, fun wh hwh => by (try dsimp only at hwh); obtain ⟨g0, g1, g2, g3, gm⟩ := hwh; first | (simp [execOp, go_sem]; done) | (simp [execOp, go_sem]; with_reducible rfl)⟩)) hHeld ?_
                      (try simp only [Act.put, List.getElem_toArray, List.getElem_cons_succ, List.getElem_cons_zero, List.setIfInBounds_toArray, List.set_cons_zero, List.set_cons_succ])
                      refine wpAnyH_done (by kernel_rfl) ?_ _
                      go_wp2_with fail
                      go_ret
                      exact ⟨_, rfl, HP9.out.below⟩
                  exact AllReadyH.nil
            · dsimp only
              go_upto_region 17 with fail
              have hS0 := HKS.out _ (Below.refl _ _)
              obtain ⟨s0, s1, s2, s3, _⟩ := hS0
              go_quiet (fail)
              go_wp2_with fail
              go_ret
              exact ⟨_, rfl, (HP6.out.bel (drewN_below (Below.refl _ _) _)).below⟩
          · obtain rfl : j = nu := by omega
            go_wp2_with fail
            go_loopw [115] (fun i wy => ∃ j3 : Nat, j3 ≤ ni ∧ i = .int .i64 (j3 : Int) ∧ Below wx.heap.size wx wy) (fun i _ => ni - (intOf i).toNat)
            case atStart => exact ⟨0, Nat.zero_le _, rfl, Below.refl _ _⟩
            case round =>
              rename World => wy
              obtain ⟨j3, hj3, rfl, hbel⟩ := hrel
              have HB := Lib.hid hbel
              clear hbel x0 x1 x2 x3 xz y0 y1 y2
              by_cases hlt3 : j3 < ni
              · obtain ⟨q, b, o, cs, _, _, hia, hbz, ⟨v1, rfl, hv1⟩, hcs, hcap, hcm'⟩ := HI.out j3 hlt3
                unfold maxLen at hcm'
                subst hia
                have c0 := ((hcs.keep (M := NoM) (.bel HPX.out.below) fun h => h).keep (M := NoM) (.bel HB.out) fun h => h) 0 _ rfl
                simp only [Nat.mul_one, Nat.add_zero] at c0
                obtain ⟨qa, qc, rfl, _⟩ := hv1.shape
                clear hcs hv1
                have i0 : (0 : Int) ≤ (j3 : Int) := by omega
                have i1 : (j3 : Int) < (ni : Int) := by omega
                by_cases hq : (q.length : Int) = (m : Int)
                · go_wp2_with fail
                  go_roundw
                  case rel => exact ⟨j3 + 1, by omega, by go_num, HB.out⟩
                  case measure => simp [intOf]; omega
                · go_wp2_with fail
                  go_ret
                  exact ⟨_, rfl, (HPX.out.bel HB.out).below⟩
              · obtain rfl : j3 = ni := by omega
                go_wp2_with fail
                go_ret
                exact ⟨_, rfl, (HPX.out.bel HB.out).below⟩
end Go.Proofs.YtkhlmofcdchccaaGreatDoor
