/- The walk of ValueForms. -/
import Derived.Test.YtiheioajnfggmaaDoorV6
namespace Go.Proofs.YtiheioajnfggmaaDoor
open Go.RowKit

def Val3Ok (v : Value) (_ : World) : Prop := ∃ (k n : Int) (s : ByteArray), v = .agg #[.int .i64 k, .int .i64 n, .string s] ∧ ValOk ⟨k, n, s⟩
theorem value_o (T : Nat) (w : World) (ht : TapeOk T w) (hn : WordsOk T w) : Calls Tryd.prog 42 #[.pointer (some ⟨T, 0, none⟩)] w (Gives T w Val3Ok) :=
  (value_any T w ht hn).mono fun _ _ ⟨v, he, ⟨x, hx, ho⟩, h1, h2⟩ => ⟨v, he, ⟨x.kind, x.int, x.text, hx, (validVal_ok ho).1⟩, h1, h2⟩
theorem odd_o (T : Nat) (w : World) (ht : TapeOk T w) (hn : WordsOk T w) : Calls Tryd.prog 43 #[.pointer (some ⟨T, 0, none⟩)] w (Gives T w Val3Ok) :=
  (odd_any T w ht hn).mono fun _ _ ⟨v, he, ⟨x, hx, ho⟩, h1, h2⟩ => ⟨v, he, ⟨x.kind, x.int, x.text, hx, ho⟩, h1, h2⟩

/-- A call that gives the three cells of a value. -/
def RetAgg (k n : Int) (s : ByteArray) (w : World) (e : Ending) (w' : World) : Prop := e = .returned (.agg #[.int .i64 k, .int .i64 n, .string s]) ∧ Below w.heap.size w w'
def RetAggB (k n : Int) (s : ByteArray) (b : Bool) (w : World) (e : Ending) (w' : World) : Prop := e = .returned (.tuple #[.agg #[.int .i64 k, .int .i64 n, .string s], .bool b]) ∧ Below w.heap.size w w'
theorem number_t (n : Int) (w : World) : Calls Tryd.prog 50 #[.int .i64 n] w (RetAgg 1 n ⟨#[]⟩ w) := number_v n w
theorem rnumber_t (n : Int) (w : World) : Calls Tryd.prog 51 #[.int .i64 n] w (RetAgg 1 n ⟨#[]⟩ w) := rnumber_v n w
theorem truth_t (w : World) : Calls Tryd.prog 52 #[.bool true] w (RetAgg 2 1 ⟨#[]⟩ w) := truth_v true w
theorem truth_f (w : World) : Calls Tryd.prog 52 #[.bool false] w (RetAgg 2 0 ⟨#[]⟩ w) := truth_v false w
theorem rtruth_t (w : World) : Calls Tryd.prog 53 #[.bool true] w (RetAgg 2 1 ⟨#[]⟩ w) := rtruth_v true w
theorem rtruth_f (w : World) : Calls Tryd.prog 53 #[.bool false] w (RetAgg 2 0 ⟨#[]⟩ w) := rtruth_v false w

theorem tmod3 (n : Int) : -9223372036854775808 ≤ n.tmod 3 ∧ n.tmod 3 ≤ 9223372036854775807 := by
  have h1 := Int.tmod_lt_of_pos n (show (0 : Int) < 3 by decide)
  have h2 := Int.lt_tmod_of_pos n (show (0 : Int) < 3 by decide)
  omega

set_option maxRecDepth 100000 in
set_option maxHeartbeats 8000000 in
theorem forms_any (raw : Val) (n : Int) (s : ByteArray) (v : Value) (w : World) (hraw : ValOk raw) (hn64 : -9223372036854775808 ≤ n ∧ n ≤ 9223372036854775807) (hsz : s.size ≤ maxLen) (hv : IntsAt w v) (hn : WordsOk w.heap.size w) (hl : LibOk w) (hs : 3 < w.heap.size) :
    Calls Tryd.prog 9 #[valOf raw, .int .i64 n, .string s, v] w (RetBel (.bool true) w) := by
  obtain ⟨rk, rn, rs⟩ := raw
  unfold valOf
  have HV := Lib.hid hv
  have HN := Lib.hid hn
  have HL := Lib.hid hl
  have HRO := Lib.hid hraw
  have HN6 := Lib.hid hn64
  have HSZ := Lib.hid hsz
  clear hv hn hl hraw hn64 hsz
  go_enter Tryd.func9, Tryd.ntmps9
  go_wp2_with fail
  generalize hW : w.alloc _ = W1
  obtain ⟨hr, hz, hb⟩ := val_new hW
  have HV1 := Lib.hid (HV.out.bel hb)
  have HN1 := Lib.hid (HN.out.keep (M := fun _ => False) (.bel hb) fun _ _ => id)
  have HB1 := Lib.hid hb
  have HR := Lib.hid hr
  clear hW hb hr HV HN
  refine (new_any v W1 HV1.out).mono ?_
  rintro e w2 ⟨rfl, ht, hb⟩
  have h2 := ht.lt
  have HT2 := Lib.hid ht
  have HB2 := Lib.hid (HB1.out.trans (hb.mono (Nat.le_of_lt hz)))
  have HN2 : Hid (WordsOk W1.heap.size w2) := Lib.hid ((show WordsOk W1.heap.size W1 from ⟨by have := HN1.out.1; omega, HN1.out.2⟩).keep (M := fun _ => False) (.bel hb) fun _ _ => id)
  have HR2 := Lib.hid (HR.out.bel hz hb)
  clear ht hb HN1 HV1 HR HB1
  dsimp only
  generalize W1.heap.size = T at *
  go_upto_region 2 with fail
  go_cut [30, 31, 32] (fun v30 v31 v32 wx => ∃ (g o : Nat) (l : List Val), v30 = .slice (some ⟨g, o, none⟩) l.length l.length ∧ v31 = .int .i64 l.length ∧ v32 = .int .i64 0 ∧ l.length ≤ 6 ∧ (∀ x ∈ l, ValOk x) ∧ ListAt wx g o l ∧ Below w.heap.size w wx)
  case first =>
    have HK := Lib.hid (Keep.refl (At T) w2).drew
    have HSQ : Hid (∀ wx, Keep (At T) w2 wx → wx.cell? ⟨w.heap.size, 0, none⟩ = some (.int .i64 rk) ∧ wx.cell? ⟨w.heap.size, 1, none⟩ = some (.int .i64 rn) ∧ wx.cell? ⟨w.heap.size, 2, none⟩ = some (.string rs)) := Lib.hid fun wx k => by
      have hne : w.heap.size ≠ T := by omega
      obtain ⟨h1, h3, h4⟩ := HR2.out
      exact ⟨(k.cell (by omega) hne).trans h1, (k.cell (by omega) hne).trans h3, (k.cell (by omega) hne).trans h4⟩
    have HT := Lib.hid HT2.out.drew
    clear HR2 HT2
    go_region_held3 (fun w' => w'.cell? ⟨w.heap.size, 0, none⟩ = some (.int .i64 rk) ∧ w'.cell? ⟨w.heap.size, 1, none⟩ = some (.int .i64 rn) ∧ w'.cell? ⟨w.heap.size, 2, none⟩ = some (.string rs))
      (first | (with_reducible exact HSQ.out _ HK.out) | go_keep)
      (first
        | ((go_at_call 42); ((with_reducible refine (value_o T _ HT.out (HN2.out.at HK.out)).mono ?_); rintro e wy ⟨_, rfl, ⟨ak, an, ax, rfl, ha⟩, ht, hk⟩; have HK := Lib.hid (HK.out.trans hk); have HT := Lib.hid ht; have HA := Lib.hid ha; clear ht hk ha))
        | ((go_at_call 43); ((with_reducible refine (odd_o T _ HT.out (HN2.out.at HK.out)).mono ?_); rintro e wy ⟨_, rfl, ⟨dk, dn, dx, rfl, ha⟩, ht, hk⟩; have HK := Lib.hid (HK.out.trans hk); have HT := Lib.hid ht; have HO := Lib.hid ha; clear ht hk ha)))
    all_goals
      go_wp2_with fail
      go_meet
      refine ⟨wy.heap.size, 0, [⟨rk, rn, rs⟩, ⟨ak, an, ax⟩, ⟨dk, dn, dx⟩, ⟨3, 0, s⟩, ⟨2, n.tmod 3, ⟨#[]⟩⟩, ⟨1, n, ⟨#[]⟩⟩], rfl, rfl, rfl, Nat.le_refl 6, ?_, list_new _ rfl, ((HB2.out.trans (HK.out.toBelow (by omega) fun k hk h => by unfold At at h; omega)).alloc (by have := HK.out.size; omega) _)⟩
      intro x hx
      have h3 := tmod3 n
      have h4 := HN6.out
      have h5 := HSZ.out
      have h6 : (0 : Nat) ≤ maxLen := Nat.zero_le _
      simp only [List.mem_cons, List.not_mem_nil, or_false] at hx
      rcases hx with rfl | rfl | rfl | rfl | rfl | rfl
      · exact HRO.out
      · exact HA.out
      · exact HO.out
      · exact ⟨h5, by dsimp only; omega, by dsimp only; omega, by dsimp only; omega, by dsimp only; omega⟩
      · exact ⟨h6, h3.1, h3.2, by dsimp only; omega, by dsimp only; omega⟩
      · exact ⟨h6, h4.1, h4.2, by dsimp only; omega, by dsimp only; omega⟩
  case rest =>
    obtain ⟨g, o, l, rfl, rfl, rfl, hl6, hlo, hla, hbx⟩ := hcut
    rename World => wx
    have HLA := Lib.hid hla
    have HLO := Lib.hid hlo
    have HBW := Lib.hid hbx
    clear hla hlo hbx HR2 HT2 HN2 HB2
    go_wp2_with fail
    go_loopw [32] (fun i wr => ∃ j : Nat, j ≤ l.length ∧ i = .int .i64 j ∧ Below wx.heap.size wx wr) (fun i _ => l.length - (intOf i).toNat)
    case atStart => exact ⟨0, Nat.zero_le _, rfl, Below.refl _ _⟩
    case round =>
      rename World => wo
      obtain ⟨j, hj, rfl, hbel⟩ := hrel
      by_cases hlt : j < l.length
      · have hx0 : l[j]? = some l[j] := List.getElem?_eq_getElem hlt
        obtain ⟨p0, p1, p2⟩ := (HLA.out.bel hbel).2 j _ hx0
        have hxo := HLO.out l[j] (List.getElem_mem hlt)
        generalize l[j] = x at p0 p1 p2 hxo
        obtain ⟨xk, xn, xs⟩ := x
        have HXO := Lib.hid hxo
        dsimp only at p0 p1 p2
        have i0 : (0 : Int) ≤ (j : Int) := by omega
        have i1 : (j : Int) < (l.length : Int) := by omega
        clear hx0 hxo
        go_upto_region 5 with fail
        generalize hW : World.alloc wo _ = W2
        obtain ⟨hx1, hz1, hb1⟩ := val_new hW
        have HBj := Lib.hid (bel_trans hbel hb1)
        have HB2 := Lib.hid (HBW.out.trans (HBj.out.mono HBW.out.size))
        have HX1 := Lib.hid hx1
        clear hW hb1 hbel hx1 p0 p1 p2 i0 i1
        generalize wo.heap.size = gx at HX1 hz1 ⊢
        have HS2 : Hid (∀ wz, Below W2.heap.size W2 wz → wz.cell? ⟨gx, 0, none⟩ = some (.int .i64 xk) ∧ wz.cell? ⟨gx, 1, none⟩ = some (.int .i64 xn) ∧ wz.cell? ⟨gx, 2, none⟩ = some (.string xs)) := Lib.hid fun wz k => by
          obtain ⟨a0, a1, a2⟩ := HX1.out.bel hz1 k
          exact ⟨a0, a1, a2⟩
        go_cut [47] (fun v wz => v = .bool false ∧ Below W2.heap.size W2 wz)
        case first =>
          have hva := fun w' => valid_any ⟨xk, xn, xs⟩ w' HXO.out.1
          have hvb := fun w' => rvalid_any ⟨xk, xn, xs⟩ w' HXO.out.1
          have hfa := fun w' (h : LibOk w') (hs : 3 < w'.heap.size) => format_v ⟨xk, xn, xs⟩ HXO.out w' h hs
          have hfb := fun w' (h : LibOk w') (hs : 3 < w'.heap.size) => rformat_v ⟨xk, xn, xs⟩ HXO.out w' h hs
          unfold valOf at hva hvb hfa hfb
          dsimp only at hva hvb hfa hfb
          generalize validV ⟨xk, xn, xs⟩ = b at hva hvb
          generalize txt (fmtV ⟨xk, xn, xs⟩) = f at hfa hfb
          have HVA := Lib.hid hva
          have HVB := Lib.hid hvb
          have HFA := Lib.hid hfa
          have HFB := Lib.hid hfb
          have hsz2 : 3 < W2.heap.size := Nat.lt_of_lt_of_le hs HB2.out.size
          have HL0 : Hid (∀ wz, Below W2.heap.size W2 wz → LibOk wz) := Lib.hid fun wz h => (HL.out.bel HB2.out hs).bel h hsz2
          have HC := Lib.hid (drew_below (Below.refl W2.heap.size W2))
          clear hva hvb hfa hfb HX1 HXO hlt hj hl6 h2 hz
          cases b
          all_goals
            go_region_held3 (fun w' => w'.cell? ⟨gx, 0, none⟩ = some (.int .i64 xk) ∧ w'.cell? ⟨gx, 1, none⟩ = some (.int .i64 xn) ∧ w'.cell? ⟨gx, 2, none⟩ = some (.string xs))
              (first | (with_reducible exact HS2.out _ HC.out) | go_keep)
              (first
                | ((go_at_call 44); ((with_reducible refine (HVA.out _).mono ?_); rintro e wy ⟨rfl, hb⟩; have HC := Lib.hid (HC.out.trans (hb.mono HC.out.size)); clear hb))
                | ((go_at_call 45); ((with_reducible refine (HVB.out _).mono ?_); rintro e wy ⟨rfl, hb⟩; have HC := Lib.hid (HC.out.trans (hb.mono HC.out.size)); clear hb))
                | ((go_at_call 46); ((with_reducible refine (HFA.out _ (HL0.out _ HC.out) (Nat.lt_of_lt_of_le hsz2 HC.out.size)).mono ?_); rintro e wy ⟨rfl, hb⟩; have HC := Lib.hid (HC.out.trans (hb.mono HC.out.size)); clear hb))
                | ((go_at_call 47); ((with_reducible refine (HFB.out _ (HL0.out _ HC.out) (Nat.lt_of_lt_of_le hsz2 HC.out.size)).mono ?_); rintro e wy ⟨rfl, hb⟩; have HC := Lib.hid (HC.out.trans (hb.mono HC.out.size)); clear hb)))
            all_goals
              go_wp2_with fail
              go_meet
              exact ⟨rfl, HC.out⟩
        case rest =>
          obtain ⟨rfl, hbz⟩ := hcut
          rename World => wb
          have HBq := Lib.hid (bel_trans HBj.out hbz)
          clear hbz
          go_wp2_with fail
          go_roundw
          case rel => exact ⟨j + 1, by omega, by go_num, HBq.out⟩
          case measure => simp [intOf]; omega
      · have HB0 := Lib.hid (HBW.out.trans (hbel.mono HBW.out.size))
        clear hbel HLA HLO HBW
        have hwa := fun w' => words_v s w' HSZ.out
        have hwb := fun w' => rwords_v s w' HSZ.out
        generalize wordsV s = y at hwa hwb
        generalize plainB s = b at hwa hwb
        obtain ⟨yk, yn, ys⟩ := y
        have HWA : Hid (∀ w', Calls Tryd.prog 48 #[.string s] w' (RetAggB yk yn ys b w')) := Lib.hid hwa
        have HWB : Hid (∀ w', Calls Tryd.prog 49 #[.string s] w' (RetAggB yk yn ys b w')) := Lib.hid hwb
        clear hwa hwb
        go_wp2_with fail
        refine (HWA.out _).mono ?_
        rintro e w6 ⟨rfl, hb⟩
        have HB6 := Lib.hid (HB0.out.trans (hb.mono HB0.out.size))
        clear hb HB0
        dsimp only
        go_wp2_with fail
        generalize hW : World.alloc w6 _ = W6
        obtain ⟨hy1, hz1, hb1⟩ := val_new hW
        have HB7 := Lib.hid (HB6.out.trans (hb1.mono HB6.out.size))
        have HY1 := Lib.hid hy1
        clear hW hb1 hy1 HB6
        generalize w6.heap.size = gy at HY1 hz1 ⊢
        refine (HWB.out _).mono ?_
        rintro e w7 ⟨rfl, hb⟩
        have HB8 := Lib.hid (HB7.out.trans (hb.mono HB7.out.size))
        have HY2 := Lib.hid (HY1.out.bel hz1 hb)
        have hz2 : gy < w7.heap.size := Nat.lt_of_lt_of_le hz1 hb.size
        clear hb HB7 HY1
        dsimp only
        go_upto_region 10 with fail
        generalize hW : World.alloc w7 _ = W7
        obtain ⟨hy1, hz3, hb1⟩ := val_new hW
        have HC := Lib.hid (HB8.out.trans (hb1.mono HB8.out.size))
        obtain ⟨a0, a1, a2⟩ := HY2.out.bel hz2 hb1
        obtain ⟨b0, b1, b2⟩ := hy1
        clear hW hb1 HB8 HY2
        generalize w7.heap.size = gz at b0 b1 b2 hz3 ⊢
        dsimp only at a0 a1 a2 b0 b1 b2
        go_wp2_with (first
          | ((go_at_call 50); ((refine (number_t _ _).mono ?_); rintro e wq ⟨rfl, hb⟩; have HC := Lib.hid (HC.out.trans (hb.mono HC.out.size)); clear hb))
          | ((go_at_call 51); ((refine (rnumber_t _ _).mono ?_); rintro e wq ⟨rfl, hb⟩; have HC := Lib.hid (HC.out.trans (hb.mono HC.out.size)); clear hb))
          | ((go_at_call 52); ((refine (truth_t _).mono ?_); rintro e wq ⟨rfl, hb⟩; have HC := Lib.hid (HC.out.trans (hb.mono HC.out.size)); clear hb))
          | ((go_at_call 52); ((refine (truth_f _).mono ?_); rintro e wq ⟨rfl, hb⟩; have HC := Lib.hid (HC.out.trans (hb.mono HC.out.size)); clear hb))
          | ((go_at_call 53); ((refine (rtruth_t _).mono ?_); rintro e wq ⟨rfl, hb⟩; have HC := Lib.hid (HC.out.trans (hb.mono HC.out.size)); clear hb))
          | ((go_at_call 53); ((refine (rtruth_f _).mono ?_); rintro e wq ⟨rfl, hb⟩; have HC := Lib.hid (HC.out.trans (hb.mono HC.out.size)); clear hb))
          | ((go_at_call 54); ((refine (known1_any _ (HL.out.bel HC.out hs) (Nat.lt_of_lt_of_le hs HC.out.size)).mono ?_); rintro e wq ⟨rfl, hb⟩; have HC := Lib.hid (HC.out.trans (hb.mono HC.out.size)); clear hb)))
        all_goals
          go_ret
          exact ⟨rfl, HC.out⟩
end Go.Proofs.YtiheioajnfggmaaDoor
