/- The reference's Resolve and Source: their contracts. -/
import Derived.Test.YtppiaaolggpjdaaDoorE0
namespace Go.Proofs.YtppiaaolggpjdaaDoor
open Go.RowKit

theorem findCol_none_take {l : List Col} {n : ByteArray} {k : Nat} (h : ∀ i y, i < k → l[i]? = some y → nameIs n y = false) (hk : k = l.length) : findCol l n = none := findIdx_none fun i y hi hy => h i y (by omega) hy

set_option maxHeartbeats 2000000 in
theorem rresolve_any {M : Nat → Prop} (v : Value) (l : List Frm) (q n : ByteArray) (w : World) (hv : FrmsR M w v l) :
    Calls Tryd.prog 117 #[v, .string q, .string n] w (RetBel (resV (resolve q n l)) w) := by
  have HV := Lib.hid hv
  obtain ⟨a, cap, rfl, hm⟩ := hv.shape
  unfold maxLen at hm
  clear hv
  go_enter Tryd.func117, Tryd.ntmps117
  go_wp2
  go_loopw [9] (fun i wr => ∃ k : Nat, k ≤ l.length ∧ i = .int .i64 ((k : Int) - 1) ∧ Below w.heap.size w wr ∧ resolve q n l = resolve q n (l.take k)) (fun i _ => (intOf i + 1).toNat)
  case atStart => exact ⟨l.length, Nat.le_refl _, rfl, Below.refl _ _, by rw [List.take_length]⟩
  case round =>
    rename World => wo
    obtain ⟨k, hk, rfl, hbel, hno⟩ := hrel
    have HN := Lib.hid hno
    clear hno
    by_cases hlt : 1 ≤ k
    · obtain ⟨j, rfl⟩ : ∃ j, k = j + 1 := ⟨k - 1, by omega⟩
      rcases HV.out.open with ⟨h, h'⟩ | ⟨b', o', cap', hv', hbT, hbs, hl, hm', hx⟩
      · subst h'; simp at hk
      · simp only [Value.slice.injEq] at hv'
        obtain ⟨rfl, _, rfl⟩ := hv'
        have hxk : l[j]? = some l[j] := List.getElem?_eq_getElem (by omega)
        obtain ⟨cs, ⟨vc, a1, n1, p1, rfl, hcols⟩, _, hcs⟩ := hx j _ hxk
        generalize l[j] = f at hxk hcs hcols
        have hcs' := hcs.keep (M := fun k => w.heap.size ≤ k) (.of_below hbel fun k _ h => h) (by simp; omega)
        obtain ⟨c0, c1, c2, c3⟩ := hcs'.c4
        obtain ⟨ca, cc, rfl, hcm⟩ := hcols.shape
        unfold maxLen at hcm
        have HX := Lib.hid hxk
        have HB := Lib.hid hbel
        have HC := Lib.hid hcols
        have hbw := hbel.size
        clear hx hcs hxk hbel hcs' hcols
        have e1 : ((j + 1 : Nat) : Int) - 1 = (j : Int) := by omega
        rw [e1]
        clear e1
        have skip : fits' q f = false → resolve q n l = resolve q n (l.take j) := fun h => by
          rw [HN.out, resolve_take_succ q n l j f HX.out]
          simp [resolveAt, h]
        have here : fits' q f = true → ∀ k, findCol f.cols n = some k → resolve q n l = some (j, k) := fun h k hk => by
          rw [HN.out, resolve_take_succ q n l j f HX.out]
          simp [resolveAt, h, hk]
        have gone : fits' q f = true → findCol f.cols n = none → resolve q n l = resolve q n (l.take j) := fun h hk => by
          rw [HN.out, resolve_take_succ q n l j f HX.out]
          simp [resolveAt, h, hk]
        have S1 := Lib.hid skip
        have S2 := Lib.hid here
        have S3 := Lib.hid gone
        clear skip here gone
        go_wp2_with fail
        go_goals
        case roundEnd | roundEnd =>
          go_roundw
          case rel =>
            refine ⟨j, by omega, rfl, HB.out.trans ((Below.refl _ wo).alloc hbw _), S1.out ?_⟩
            simp_all [fits']
          case measure => simp [intOf]
        all_goals
          have hfit : fits' q f = true := by simp_all [fits']
          go_loopw [43] (fun i wr => ∃ k : Nat, k ≤ f.cols.length ∧ i = .int .i64 (k : Int) ∧ Below w.heap.size w wr ∧ ∀ i y, i < k → f.cols[i]? = some y → nameIs n y = false) (fun i _ => f.cols.length - (intOf i).toNat)
          case atStart => exact ⟨0, Nat.zero_le _, rfl, HB.out.trans ((Below.refl _ wo).alloc hbw _), fun i y h => absurd h (by omega)⟩
          case round =>
            rename World => wi
            obtain ⟨k, hk, rfl, hbel, hno⟩ := hrel
            by_cases hlt : k < f.cols.length
            · rcases HC.out.open with ⟨h, h'⟩ | ⟨b2, o2, cap2, hv2, hbT2, hbs2, hl2, hm2, hx2⟩
              · rw [h'] at hlt; exact absurd hlt (by simp)
              · simp only [Value.slice.injEq] at hv2
                obtain ⟨rfl, _, rfl⟩ := hv2
                have hck : f.cols[k]? = some f.cols[k] := List.getElem?_eq_getElem hlt
                have h2 := hx2 k _ hck
                generalize f.cols[k] = x at hck h2
                obtain ⟨cs, hcr, _, h2⟩ := h2
                obtain rfl := hcr
                have h2' := h2.keep (M := fun k => w.heap.size ≤ k) (.of_below hbel fun k _ h => h) (by simp; omega)
                obtain ⟨d0, d1, d2, d3⟩ := h2'.c4
                have HK := Lib.hid hck
                have HO := Lib.hid hno
                have HL := Lib.hid hbel
                have hbi := hbel.size
                clear hx2 hck hno hbel h2 h2'
                by_cases hp : (x.name.toList == n.toList) = true
                · go_wp2_with fail
                  go_ret3
                  refine ⟨?_, HL.out.trans ((Below.refl _ wi).alloc hbi _)⟩
                  rw [S2.out hfit k (findIdx_some HK.out hp HO.out)]
                  rfl
                · have hp' : (x.name.toList == n.toList) = false := by simpa using hp
                  clear hp
                  go_wp2_with fail
                  go_roundw
                  case rel =>
                    refine ⟨k + 1, by omega, by go_num, HL.out.trans ((Below.refl _ wi).alloc hbi _), fun i y hi hy => ?_⟩
                    by_cases e : i = k
                    · subst e
                      rw [HK.out] at hy
                      simp at hy
                      subst hy
                      exact hp'
                    · exact HO.out i y (by omega) hy
                  case measure => simp [intOf]; omega
            · obtain rfl : k = f.cols.length := by omega
              have hno' : findCol f.cols n = none := findCol_none_take hno rfl
              have HNN := Lib.hid hno'
              clear hno'
              go_wp2
              go_roundw
              case rel => exact ⟨j, by omega, rfl, hbel, S3.out hfit HNN.out⟩
              case measure => simp [intOf]
    · obtain rfl : k = 0 := by omega
      go_wp2
      go_ret3
      refine ⟨?_, hbel⟩
      rw [HN.out]
      rfl

end Go.Proofs.YtppiaaolggpjdaaDoor
