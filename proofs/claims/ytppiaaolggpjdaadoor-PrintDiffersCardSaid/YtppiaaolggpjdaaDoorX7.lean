/- The text of the words: contract of the writer's text. -/
import Derived.Test.YtppiaaolggpjdaaDoorX6
import Derived.Test.YtppiaaolggpjdaaDoorSB
namespace Go.Proofs.YtppiaaolggpjdaaDoor
open Go.RowKit

theorem contains_lib (t : ByteArray) (w : World) (h : LibOk w) : Calls Tryd.prog 141 #[.string ⟨#[44, 59, 46, 41]⟩, .string t] w fun e w' => e = .returned (.bool (Lib.contains [44, 59, 46, 41] t.data.toList)) ∧ w' = w := by
  obtain ⟨_, m, hm⟩ := h
  exact Any.strings_Contains { Tryd.laysM144 with } ⟨#[44, 59, 46, 41]⟩ t m w (by decide) hm

theorem glue_no (cb b1 b2 : Bool) (h : (!cb && !b1 && !b2) = false) : cb = true ∨ (cb = false ∧ b1 = true) ∨ (cb = false ∧ b1 = false ∧ b2 = true) := by
  cases cb <;> cases b1 <;> cases b2 <;> simp at h ⊢
theorem glue_yes (cb b1 b2 : Bool) (h : (!cb && !b1 && !b2) = true) : cb = false ∧ b1 = false ∧ b2 = false := by
  cases cb <;> cases b1 <;> cases b2 <;> simp at h ⊢
theorem joinL_take {l : List ByteArray} {j : Nat} {t : ByteArray} (h : l[j]? = some t) : joinL none (l.take (j + 1)) = joinL none (l.take j) ++ ((if glueB (lastW none (l.take j)) t = true then [32] else []) ++ t.data.toList) := by
  obtain ⟨hlt, rfl⟩ := List.getElem?_eq_some_iff.1 h
  rw [List.take_succ_eq_append_getElem hlt, joinL_snoc]
theorem lastW_take {l : List ByteArray} {j : Nat} {t : ByteArray} (h : l[j]? = some t) : lastW none (l.take (j + 1)) = some t := by
  obtain ⟨hlt, rfl⟩ := List.getElem?_eq_some_iff.1 h
  rw [List.take_succ_eq_append_getElem hlt, lastW_snoc]
theorem joinL_len : ∀ (l : List ByteArray) (p : Option ByteArray), (joinL p l).length ≤ (l.map fun t => t.size + 1).sum
  | [], p => by simp [joinL]
  | t :: l, p => by
    have := joinL_len l (some t)
    rw [joinL]
    simp only [List.length_append, List.map_cons, List.sum_cons, size_list] at *
    have h2 : (if glueB p t = true then [(32 : UInt8)] else []).length ≤ 1 := by split <;> simp
    omega
theorem take_sum (l : List ByteArray) (j : Nat) : ((l.take j).map fun t => t.size + 1).sum ≤ (l.map fun t => t.size + 1).sum := by
  have h : l = l.take j ++ l.drop j := (List.take_append_drop _ _).symm
  have := congrArg (fun l => (l.map fun t : ByteArray => t.size + 1).sum) h
  simp only [List.map_append, List.sum_append] at this
  omega

set_option maxRecDepth 100000 in
set_option maxHeartbeats 8000000 in
theorem wtext_any {M : Nat → Prop} (l : List ByteArray) (v : Value) (w : World) (hv : RowsR M w 1 StrR v l) (hl : LibOk w) (hs : 4 < w.heap.size) (hN : (l.map fun t => t.size + 1).sum ≤ 1000000000000) :
    Calls Tryd.prog 93 #[v] w (RetBel (.string (bs (joinL none l))) w) := by
  have HV := Lib.hid hv
  have HL := Lib.hid hl
  have HN := Lib.hid hN
  obtain ⟨a, c, rfl, hm⟩ := hv.shape
  unfold maxLen at hm
  clear hv hl hN
  go_enter Tryd.func93, Tryd.ntmps93
  go_wp2_with fail
  generalize hW : World.alloc w _ = W
  have hbd : W.heap[w.heap.size]? = some (.cells #[.pointer none, .slice none 0 0] 170 (0, 0)) := by rw [← hW]; exact heap_alloc_new w _
  have hb : Below w.heap.size w W := by rw [← hW]; exact (Below.refl _ _).alloc (Nat.le_refl _) _
  have HB := Lib.hid hb
  have HBD := Lib.hid (BldR.new (B := w.heap.size) (Nat.le_refl _) hbd)
  clear hW hbd hb
  go_loopw [8] (fun i wr => ∃ j : Nat, j ≤ l.length ∧ i = .int .i64 j ∧ BldR w.heap.size w.heap.size (joinL none (l.take j)) wr ∧ Below w.heap.size W wr) (fun i _ => l.length - (intOf i).toNat)
  case atStart => exact ⟨0, Nat.zero_le _, rfl, by simpa [joinL] using HBD.out, Below.refl _ _⟩
  case round =>
    rename World => wr
    obtain ⟨j, hj, rfl, hbr, hbw⟩ := hrel
    have HBR := Lib.hid hbr
    have HBW := Lib.hid (HB.out.trans hbw)
    have HBX := Lib.hid hbw
    have HLR := Lib.hid (HL.out.bel HBW.out hs)
    clear hbr hbw
    by_cases hlt : j < l.length
    · rcases HV.out.open with ⟨_, h0⟩ | ⟨ab, ao, cap', hv', _, hab, hcap, _, hx⟩
      · rw [h0] at hlt
        simp at hlt
      simp only [Value.slice.injEq] at hv'
      obtain ⟨rfl, _, rfl⟩ := hv'
      have hxj : l[j]? = some l[j] := List.getElem?_eq_getElem hlt
      obtain ⟨cs, rfl, _, hcs⟩ := hx j _ hxj
      have c0 := (hcs.keep (M := fun _ => False) (.bel HBW.out) id).c1
      simp only [Nat.mul_one] at c0
      have HX := Lib.hid hx
      have HTK := Lib.hid (joinL_take hxj)
      have HLE := Lib.hid (Nat.le_trans (joinL_len (l.take (j + 1)) none) (Nat.le_trans (take_sum l (j + 1)) HN.out))
      generalize l[j] = t at hxj c0 HTK
      have i0 : (0 : Int) ≤ (j : Int) := by omega
      have i1 : (j : Int) < (l.length : Int) := by omega
      have HLT := Lib.hid (fun (k : Nat) (t : ByteArray) (h : l[k]? = some t) => lastW_take h)
      generalize hnx : joinL none (l.take (j + 1)) = nx at HTK HLE
      have NX := Lib.hid hnx
      clear hnx
      clear hx hcs
      have HCT := Lib.hid (fun w h => contains_lib t w h)
      generalize joinL none (l.take j) = cur at HBR HTK
      rcases Nat.eq_zero_or_pos j with rfl | hjp
      · have HN0 : Hid (nx = cur ++ t.data.toList) := Lib.hid (by rw [HTK.out]; simp [lastW, glueB])
        have HL2 := Lib.hid (show cur.length + t.size ≤ 1000000000000 by have h := HLE.out; rw [HN0.out, List.length_append] at h; rw [size_list]; exact h)
        clear HTK HLE HLT HCT
        simp only [Nat.add_zero] at c0
        go_wp2_with fail
        refine (writeString_b w.heap.size w.heap.size cur t wr HBR.out (by have := HL2.out; omega)).mono ?_
        rintro e w3 ⟨rfl, hb3, hw3⟩
        have HB3 := Lib.hid hb3
        have HW3 := Lib.hid (HBX.out.trans hw3)
        clear hb3 hw3
        dsimp only
        go_wp2_with fail
        go_roundw
        case rel => exact ⟨0 + 1, by omega, by go_num, by rw [NX.out, HN0.out]; exact HB3.out, HW3.out⟩
        case measure => simp [intOf]; omega
      · obtain ⟨k, rfl⟩ : ∃ k, j = k + 1 := ⟨j - 1, by omega⟩
        have hxk : l[k]? = some l[k] := List.getElem?_eq_getElem (by omega)
        obtain ⟨cs, rfl, _, hcs⟩ := HX.out k _ hxk
        have p0 := (hcs.keep (M := fun _ => False) (.bel HBW.out) id).c1
        simp only [Nat.mul_one] at p0
        have hlast := HLT.out k _ hxk
        generalize l[k] = pw at hxk p0 hlast
        rw [hlast] at HTK
        clear hcs hlast
        have i2 : (k : Int) < (l.length : Int) := by omega
        have i3 : (0 : Int) ≤ (k : Int) := by omega
        generalize hcb : Lib.contains [44, 59, 46, 41] t.data.toList = cb at HCT
        have HG : Hid (glueB (some pw) t = (!cb && !(pw.toList == [40]) && !(pw.toList == [46]))) := Lib.hid (by unfold glueB; rw [hcb])
        clear hcb
        cases hg : glueB (some pw) t
        · have HN0 : Hid (nx = cur ++ t.data.toList) := Lib.hid (by rw [HTK.out, hg]; simp)
          have HL2 := Lib.hid (show cur.length + t.size ≤ 1000000000000 by have h := HLE.out; rw [HN0.out, List.length_append] at h; rw [size_list]; exact h)
          have hcase : cb = true ∨ (cb = false ∧ (pw.toList == [40]) = true) ∨ (cb = false ∧ (pw.toList == [40]) = false ∧ (pw.toList == [46]) = true) := by
            have h := HG.out
            rw [hg] at h
            exact glue_no _ _ _ h.symm
          clear HTK HLE HLT hg HG
          rcases hcase with rfl | ⟨rfl, h1⟩ | ⟨rfl, h1, h2⟩
          case' inr.inl => have h1' : (pw.toList != [40]) = false := by simp [bne, h1]
          case' inr.inr =>
            have h1' : (pw.toList != [40]) = true := by simp [bne, h1]
            have h2' : (pw.toList != [46]) = false := by simp [bne, h2]
          all_goals
            go_wp2_with fail
            refine (HCT.out wr HLR.out).mono ?_
            rintro e w2 ⟨rfl, rfl⟩
            dsimp only
            go_wp2_with fail
            refine (writeString_b w.heap.size w.heap.size cur t _ HBR.out (by have := HL2.out; omega)).mono ?_
            rintro e w3 ⟨rfl, hb3, hw3⟩
            have HB3 := Lib.hid hb3
            have HW3 := Lib.hid (HBX.out.trans hw3)
            clear hb3 hw3
            dsimp only
            go_wp2_with fail
            go_roundw
            case rel => exact ⟨k + 1 + 1, by omega, by go_num, by rw [NX.out, HN0.out]; exact HB3.out, HW3.out⟩
            case measure => simp [intOf]; omega
        · have HN0 : Hid (nx = cur ++ [32] ++ t.data.toList) := Lib.hid (by rw [HTK.out, hg]; simp)
          have HL2 := Lib.hid (show cur.length + 1 + t.size ≤ 1000000000000 by have h := HLE.out; rw [HN0.out, List.length_append, List.length_append] at h; rw [size_list]; exact h)
          have hcase : cb = false ∧ (pw.toList == [40]) = false ∧ (pw.toList == [46]) = false := by
            have h := HG.out
            rw [hg] at h
            exact glue_yes _ _ _ h.symm
          clear HTK HLE HLT hg HG
          obtain ⟨rfl, h1, h2⟩ := hcase
          have h1' : (pw.toList != [40]) = true := by simp [bne, h1]
          have h2' : (pw.toList != [46]) = true := by simp [bne, h2]
          go_wp2_with fail
          refine (HCT.out wr HLR.out).mono ?_
          rintro e w2 ⟨rfl, rfl⟩
          dsimp only
          go_wp2_with fail
          refine (writeByte_b w.heap.size w.heap.size cur 32 _ HBR.out (by have := HL2.out; omega)).mono ?_
          rintro e w2 ⟨rfl, hb2, hw2⟩
          have HB2 := Lib.hid hb2
          have HW2 := Lib.hid (HBX.out.trans hw2)
          clear hb2 hw2
          dsimp only
          go_wp2_with fail
          refine (writeString_b w.heap.size w.heap.size (cur ++ [32]) t w2 HB2.out (by have := HL2.out; simp; omega)).mono ?_
          rintro e w3 ⟨rfl, hb3, hw3⟩
          have HB3 := Lib.hid hb3
          have HW3 := Lib.hid (HW2.out.trans hw3)
          clear hb3 hw3
          dsimp only
          go_wp2_with fail
          go_roundw
          case rel => exact ⟨k + 1 + 1, by omega, by go_num, by rw [NX.out, HN0.out]; exact HB3.out, HW3.out⟩
          case measure => simp [intOf]; omega
    · obtain rfl : j = l.length := by omega
      have HF := Lib.hid (show BldR w.heap.size w.heap.size (joinL none l) wr from by have h := HBR.out; rw [List.take_length] at h; exact h)
      go_wp2_with fail
      refine (string_b w.heap.size w.heap.size _ wr HF.out).mono ?_
      rintro e w3 ⟨rfl, _, hb3⟩
      have HB3 := Lib.hid (HBW.out.trans hb3)
      clear hb3
      dsimp only
      go_wp2_with fail
      go_ret
      exact ⟨rfl, HB3.out⟩
end Go.Proofs.YtppiaaolggpjdaaDoor
