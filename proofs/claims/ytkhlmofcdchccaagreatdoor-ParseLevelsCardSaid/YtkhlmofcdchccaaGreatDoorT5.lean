/- The tokens of a text: contract of token.Tokens. -/
import Derived.Test.YtkhlmofcdchccaaGreatDoorT4
namespace Go.Proofs.YtkhlmofcdchccaaGreatDoor
open Go.RowKit

abbrev Tok := Int × ByteArray × Nat
def TokR (x : Tok) (cs : List Value) : Prop := cs = [.int .i64 x.1, .string x.2.1, .int .i64 x.2.2]
theorem infoTok : (Tryz.prog.info? 178).map (fun i => (i.zero, i.size, i.bytes)) = some (some (.agg #[.int .i64 0, .string ⟨#[]⟩, .int .i64 0]), 3, 32) := by kernel_rfl
theorem tokR_one (y : Tok) (cs : List Value) (h : TokR y cs) : ∀ u ∈ cs, u.oneCell' = true := by
  subst h
  simp [Value.oneCell']

/-- What Tokens answers. -/
def TokOut (s : ByteArray) (l : List Tok) (at_ er : Int) : Prop :=
  (4096 < s.size ∧ l = [] ∧ at_ = 4096 ∧ er = 10) ∨ (s.size ≤ 4096 ∧ toks s (s.size + 1) 0 = .ok l ∧ at_ = 0 ∧ er = 0) ∨ (s.size ≤ 4096 ∧ ∃ i : Nat, toks s (s.size + 1) 0 = .bad i ∧ l = [] ∧ at_ = i ∧ er = 1)
def TokensQ (s : ByteArray) (w : World) (e : Ending) (w' : World) : Prop :=
  ∃ (v : Value) (at_ er : Int) (l : List Tok), e = .returned (.tuple #[v, .int .i64 at_, .int .i64 er]) ∧ RowsO w.heap.size w' 178 3 TokR v l ∧ Below w.heap.size w w' ∧ TokOut s l at_ er

theorem spaceC_no {c : UInt8} (h1 : c.toNat ≠ 32) (h2 : c.toNat ≠ 9) (h3 : c.toNat ≠ 10) : spaceC c = false := by simp [spaceC, h1, h2, h3]
theorem nextR_form {u : ByteArray} {k : Int} {t : ByteArray} {n : Nat} {b : Bool} (h : nextP u = ((k, t), n, b)) : nextR u = .tuple #[.agg #[.int .i64 k, .string t, .int .i64 0], .int .i64 n, .bool b] := by
  unfold nextR
  rw [h]

set_option maxRecDepth 100000 in
set_option maxHeartbeats 4000000 in
theorem tokens_any (s : ByteArray) (w : World) (hs : s.size ≤ maxLen) (h : TokOk w) : Calls Tryz.prog 45 #[.string s] w (TokensQ s w) := by
  unfold maxLen at hs
  have HT := Lib.hid h
  clear h
  by_cases hbig : 4096 < s.size
  · have hbig' : (4096 : Int) < s.size := by omega
    go_enter Tryz.func45, Tryz.ntmps45
    go_wp2_with fail
    go_step3
    go_wp2_with fail
    (try rw [Exit.noGoto_ret])
    go_ret3
    exact ⟨_, _, _, [], rfl, RowsO.nil .., Below.refl _ _, .inl ⟨hbig, rfl, rfl, rfl⟩⟩
  · have hle : s.size ≤ 4096 := by omega
    have hbig' : ¬ (4096 : Int) < s.size := by omega
    go_enter Tryz.func45, Tryz.ntmps45
    go_wp2_with fail
    go_step3
    go_wp2_with fail
    go_step3
    go_wp2_with fail

    go_loopw [5, 6] (fun v i wr => ∃ (f k : Nat) (l : List Tok), i = .int .i64 k ∧ k ≤ s.size ∧ s.size + 1 ≤ f + k ∧ l.length ≤ k ∧ preT l (toks s f k) = toks s (s.size + 1) 0 ∧ RowsO w.heap.size wr 178 3 TokR v l ∧ Below w.heap.size w wr) (fun _ i _ => s.size - (intOf i).toNat)
    case atStart => exact ⟨s.size + 1, 0, [], rfl, Nat.zero_le _, Nat.le_refl _, Nat.le_refl _, preT_nil _, RowsO.nil .., Below.refl _ _⟩
    case round =>
      obtain ⟨f, k, l, rfl, hk, hf, hlk, hp, ho, hb⟩ := hrel
      have HP := Lib.hid hp
      have HO := Lib.hid ho
      have HB := Lib.hid hb
      obtain ⟨a, cap, hv, hlm⟩ := ho.shape
      subst hv
      clear hp ho hb
      by_cases hlt : k < s.size
      · by_cases h32 : s[k].toNat = 32 ∨ s[k].toNat = 9 ∨ s[k].toNat = 10
        · have HN : Hid (preT l (toks s (f - 1) (k + 1)) = toks s (s.size + 1) 0) := Lib.hid (by rw [← HP.out, toks_space hlt hf (by rcases h32 with h | h | h <;> simp [spaceC, h])])
          rcases h32 with h | h | h
          case' inl => have h1 : ((s[k].toNat : Int) == 32) = true := by simp [h]
          case' inr.inl =>
            have h1 : ((s[k].toNat : Int) == 32) = false := by simp [h]
            have h2 : ((s[k].toNat : Int) == 9) = true := by simp [h]
          case' inr.inr =>
            have h1 : ((s[k].toNat : Int) == 32) = false := by simp [h]
            have h2 : ((s[k].toNat : Int) == 9) = false := by simp [h]
            have h3 : ((s[k].toNat : Int) == 10) = true := by simp [h]
          all_goals
            clear h
            go_wp2_with fail
            go_roundw
            case rel => exact ⟨f - 1, k + 1, l, by go_num, by omega, by omega, by omega, HN.out, HO.out, HB.out⟩
            case measure => simp [intOf]; omega
        · have h1 : ((s[k].toNat : Int) == 32) = false := by simp only [beq_eq_false_iff_ne]; omega
          have h2 : ((s[k].toNat : Int) == 9) = false := by simp only [beq_eq_false_iff_ne]; omega
          have h3 : ((s[k].toNat : Int) == 10) = false := by simp only [beq_eq_false_iff_ne]; omega
          have HS := Lib.hid (spaceC_no (c := s[k]) (by omega) (by omega) (by omega))
          clear h32
          go_wp2_with fail
          rcases hn : nextP (s.extract k s.size) with ⟨⟨kk, t⟩, n, b⟩
          have HX := Lib.hid (fun w h => nextR_form hn ▸ next_tok (s.extract k s.size) w (by simp; omega) (by simp; omega) h)
          have hle2 := nextP_le (s.extract k s.size)
          rw [hn] at hle2
          refine (HX.out wr (HT.out.bel HB.out)).mono ?_
          rintro e w2 ⟨rfl, hw2⟩
          dsimp only
          cases b
          · have HN := Lib.hid (toks_no hlt hf HS.out hn)
            have HB2 := Lib.hid (HB.out.trans (hw2.mono HB.out.size))
            clear hle2 hn HX hw2
            go_wp2_with fail
            (try rw [Exit.noGoto_ret])
            go_ret3
            refine ⟨_, _, _, [], rfl, RowsO.nil .., ?_, .inr (.inr ⟨hle, k, ?_, rfl, rfl, rfl⟩)⟩
            · exact HB2.out.alloc HB2.out.size _
            · rw [← HP.out, HN.out]
              rfl
          · have HN := Lib.hid (toks_tok l hlt hf HS.out hn)
            obtain ⟨n1, n2⟩ := hle2 rfl
            have n3 : n ≤ s.size - k := by simpa using n2
            have HW2 := Lib.hid hw2
            clear hn HX hw2 n2
            dsimp only at n1
            go_upto_region 15 with fail
            generalize hW3 : World.alloc w2 _ = w3
            have ht3 : w3.heap[w2.heap.size]? = some (.cells #[.int .i64 kk, .string t, .int .i64 k] 178 (0, 0)) := by rw [← hW3]; exact heap_alloc_new w2 _
            have hw3 : Below wr.heap.size wr w3 := by rw [← hW3]; exact HW2.out.alloc HW2.out.size _
            have HB3 := Lib.hid (HB.out.trans (hw3.mono HB.out.size))
            have HO3 := Lib.hid (RowsO.kept HO.out (M := fun _ => False) (.bel hw3) (fun _ _ => id) fun _ _ _ h => h)
            obtain ⟨d0, d1, d2, df, dz⟩ := blk3t ht3
            clear hW3 hw3 ht3
            go_wp2_with (at_builtin; go_loud (refine wpList_app rfl _ _ 122 rfl 178 _ 3 32 Tryz.underlying122 infoTok rfl (by decide) (R := TokR) (M := fun _ => False) w.heap.size (.slice a l.length cap) (.slice (some ⟨w3.heap.size, 0, none⟩) 1 1) l [(kk, t, k)] rfl rfl (RowsO.kept HO3.out ((Keep.refl (fun _ => False) w3).alloc _) (fun _ _ => id) fun _ _ _ h => h) (rows_one (kk, t, k) rfl id rfl rfl) (fun y _ cs h => tokR_one y cs h) (by simp; omega) (by simp [maxLen]; omega) (by have := HB3.out.size; simp; omega) ?_; intro v4 w4 ho hk _; have HB4 := Lib.hid ((HB3.out.alloc HB3.out.size (.cells #[.int .i64 kk, .string t, .int .i64 k] 178)).trans (hk.toBelow (B := w.heap.size) (by have := HB3.out.size; simp; omega) fun g hg h => by have := (RowsO.lt HO3.out h).1; omega)); have HO4 := Lib.hid ho; clear ho hk))
            go_roundw
            case rel => exact ⟨f - 1, k + n, l ++ [(kk, t, k)], by go_num, by omega, by omega, by simp; omega, by rw [← HN.out, HP.out], HO4.out, HB4.out⟩
            case measure => simp [intOf]; omega
      · obtain rfl : k = s.size := by omega
        have HN : Hid (toks s (s.size + 1) 0 = .ok l) := Lib.hid (by rw [← HP.out, toks_end (Nat.le_refl _)]; simp [preT])
        go_wp2_with fail
        (try rw [Exit.noGoto_ret])
        go_ret3
        exact ⟨_, _, _, l, rfl, HO.out, HB.out, .inr (.inl ⟨hle, HN.out, rfl, rfl⟩)⟩
end Go.Proofs.YtkhlmofcdchccaaGreatDoor
