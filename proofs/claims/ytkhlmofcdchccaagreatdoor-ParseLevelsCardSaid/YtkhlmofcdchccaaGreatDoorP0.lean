/- The reader of tokens: what lies in its memory; contracts of its small methods. -/
import Derived.Test.YtkhlmofcdchccaaGreatDoorT5
import Derived.Test.YtkhlmofcdchccaaGreatDoorKV2b
import Derived.Test.YtkhlmofcdchccaaGreatDoorKC1
namespace Go.Proofs.YtkhlmofcdchccaaGreatDoor
open Go.RowKit

/-- Blocks that are not older than the reader. -/
def TokM (R k : Nat) : Prop := R ≤ k
/-- The reader in block R: the tokens that are left, the text's length, the open levels. -/
structure RdOk (R : Nat) (en lev : Int) (l : List Tok) (w : World) : Prop where
  ex : ∃ (a : Option Addr) (c : Nat), w.heap[R]? = some (.cells #[.slice a l.length c, .int .i64 en, .int .i64 lev] 128 (0, 0)) ∧ RowsR (TokM R) w 3 TokR (.slice a l.length c) l
  pos : 10 < R

def tokV (t : Tok) : Value := .agg #[.int .i64 t.1, .string t.2.1, .int .i64 t.2.2]
def hdT : List Tok → Tok
  | [] => (0, ⟨#[]⟩, 0)
  | t :: _ => t
/-- The next token is this keyword or symbol. -/
def isB (s : ByteArray) (l : List Tok) : Bool := ((hdT l).1 == 1 || (hdT l).1 == 5) && ((hdT l).2.1.toList == s.toList)

section
variable {R : Nat} {en lev : Int} {l : List Tok} {w w' : World}
theorem RdOk.lt (h : RdOk R en lev l w) : R < w.heap.size := by
  obtain ⟨⟨a, c, h1, h2⟩, h3⟩ := h
  exact (blk3 h1).2.2.2.2
theorem RdOk.bel (h : RdOk R en lev l w) (k : Below w.heap.size w w') : RdOk R en lev l w' := by
  have hz := h.lt
  obtain ⟨⟨a, c, h1, h2⟩, h3⟩ := h
  exact ⟨⟨a, c, (k.block R hz).trans h1, RowsR.map h2 (.bel k) fun _ _ _ h => h⟩, h3⟩
theorem RdOk.alloc (h : RdOk R en lev l w) (o : Obj) : RdOk R en lev l (w.alloc o) := h.bel ((Below.refl _ _).alloc (Nat.le_refl _) o)
theorem RdOk.drew (h : RdOk R en lev l w) : RdOk R en lev l w.drew := ⟨h.ex, h.pos⟩
end

/-- The first of the tokens that are left, and the others behind it. -/
theorem toks_cons {M : Nat → Prop} {w : World} {a : Option Addr} {n c : Nat} {t : Tok} {l : List Tok} (h : RowsR M w 3 TokR (.slice a n c) (t :: l)) :
    ∃ b o, a = some ⟨b, o, none⟩ ∧ n = l.length + 1 ∧ 1 ≤ c ∧ l.length + 1 ≤ c ∧ c ≤ maxLen ∧ ¬ M b ∧ b < w.heap.size ∧ w.cell? ⟨b, o, none⟩ = some (.int .i64 t.1) ∧ w.cell? ⟨b, o + 1, none⟩ = some (.string t.2.1) ∧ w.cell? ⟨b, o + 2, none⟩ = some (.int .i64 t.2.2) ∧
      (c = 1 → l = []) ∧ RowsR M w 3 TokR (.slice (some ⟨b, o + 3, none⟩) l.length (c - 1)) l := by
  have h0 := h
  rcases h.open with ⟨_, h⟩ | ⟨b, o, cap, hv, hM, hb, hl, hm, hi⟩
  · cases h
  · simp only [Value.slice.injEq] at hv
    obtain ⟨rfl, rfl, rfl⟩ := hv
    obtain ⟨cs, hr, hlen, hc⟩ := hi 0 t rfl
    unfold TokR at hr
    subst hr
    have hd := h0.drop 1 (by simp)
    simp only [List.length_cons] at hl
    refine ⟨b, o, rfl, rfl, by omega, hl, hm, hM, hb, ?_, ?_, ?_, fun hc1 => List.eq_nil_of_length_eq_zero (by omega), by simpa using hd⟩
    · simpa using hc 0 _ rfl
    · simpa using hc 1 _ rfl
    · simpa using hc 2 _ rfl

set_option maxRecDepth 100000 in
set_option maxHeartbeats 1000000 in
theorem peek_any (R : Nat) (en lev : Int) (l : List Tok) (w : World) (h : RdOk R en lev l w) : Calls Tryz.prog 160 #[.pointer (some ⟨R, 0, none⟩)] w (RetBel (tokV (hdT l)) w) := by
  obtain ⟨⟨a, c, hb, hr⟩, hp⟩ := h
  obtain ⟨k0, k1, k2, kf, hz⟩ := blk3 hb
  clear hb
  cases l with
  | nil =>
    clear hr
    go_enter Tryz.func160, Tryz.ntmps160
    go_wp2_with fail
    refine bodyPost_ret (v := tokV (hdT [])) (by simp [results, Tryz.results160, go_sem, tokV, hdT]) rfl ?_
    exact ⟨rfl, (Below.refl _ _).alloc (Nat.le_refl _) _⟩
  | cons t l =>
    obtain ⟨b, o, rfl, _, hc1, hlc, hm, hM, hbz, c0, c1, c2, _, _⟩ := toks_cons hr
    obtain ⟨n, hn⟩ : ∃ n, n = (t :: l).length := ⟨_, rfl⟩
    rw [← hn] at k0
    simp only [List.length_cons] at hn
    have h1 : 0 < n := by omega
    have h0 : (((n : Int) == 0) = false) := by simp; omega
    have h0' : ¬ n = 0 := by omega
    have h00 : ((0 : Int) < (n : Int)) := by omega
    clear hr hM
    obtain ⟨tk, tt, ta⟩ := t
    dsimp only at c0 c1 c2
    go_enter Tryz.func160, Tryz.ntmps160
    go_wp2_with fail
    refine bodyPost_ret (v := tokV (tk, tt, ta)) (by simp [results, Tryz.results160, go_sem, tokV]) rfl ?_
    exact ⟨rfl, (Below.refl _ _).alloc (Nat.le_refl _) _⟩

set_option maxRecDepth 100000 in
set_option maxHeartbeats 1000000 in
theorem is_any (R : Nat) (en lev : Int) (l : List Tok) (s : ByteArray) (w : World) (h : RdOk R en lev l w) : Calls Tryz.prog 150 #[.pointer (some ⟨R, 0, none⟩), .string s] w (RetBel (.bool (isB s l)) w) := by
  unfold isB
  have HP := Lib.hid (peek_any R en lev l w h)
  generalize hdT l = t at HP ⊢
  obtain ⟨k, tt, ta⟩ := t
  unfold tokV at HP
  dsimp only at HP ⊢
  clear h
  go_enter Tryz.func150, Tryz.ntmps150
  go_wp2_with fail
  refine HP.out.mono ?_
  rintro e w1 ⟨rfl, hb⟩
  have HB := Lib.hid hb
  clear hb
  dsimp only
  cases h1 : (k == 1)
  · cases h5 : (k == 5)
    · go_wp2_with fail
      go_ret
      exact ⟨by rw [h1, h5]; rfl, HB.out.alloc HB.out.size _⟩
    · go_wp2_with fail
      go_ret
      exact ⟨by rw [h1, h5]; rfl, HB.out.alloc HB.out.size _⟩
  · go_wp2_with fail
    go_ret
    exact ⟨by rw [h1]; rfl, HB.out.alloc HB.out.size _⟩

theorem accept_no (R : Nat) (en lev : Int) (l : List Tok) (s : ByteArray) (w : World) (h : RdOk R en lev l w) (hn : isB s l = false) : Calls Tryz.prog 97 #[.pointer (some ⟨R, 0, none⟩), .string s] w (RetBel (.bool false) w) := by
  have HI := Lib.hid (is_any R en lev l s w h)
  rw [hn] at HI
  clear hn h
  go_enter Tryz.func97, Tryz.ntmps97
  go_wp2_with fail
  refine HI.out.mono ?_
  rintro e w1 ⟨rfl, hb⟩
  have HB := Lib.hid hb
  clear hb
  dsimp only
  go_wp2_with fail
  go_ret
  exact ⟨rfl, HB.out⟩

/-- What a reading method leaves: a value with Q, these tokens and levels. -/
def Rds (R : Nat) (en lev : Int) (l : List Tok) (Q : Value → World → Prop) (w : World) (e : Ending) (w' : World) : Prop := ∃ v, e = .returned v ∧ Q v w' ∧ RdOk R en lev l w' ∧ Keep (At R) w w'

theorem blk3_set0 {w : World} {S : Nat} {a b c v : Value} {e : TypeId} (h : w.heap[S]? = some (.cells #[a, b, c] e (0, 0))) : (w.setCell ⟨S, 0, none⟩ v).heap[S]? = some (.cells #[v, b, c] e (0, 0)) := by simp [World.setCell, Array.getElem?_modify, h]
theorem blk3_set2 {w : World} {S : Nat} {a b c v : Value} {e : TypeId} (h : w.heap[S]? = some (.cells #[a, b, c] e (0, 0))) : (w.setCell ⟨S, 2, none⟩ v).heap[S]? = some (.cells #[a, b, v] e (0, 0)) := by simp [World.setCell, Array.getElem?_modify, h]

theorem keep_set (R o : Nat) (w : World) (v : Value) : Keep (At R) w (w.setCell ⟨R, o, none⟩ v) := (Keep.refl (At R) w).setCell (p := ⟨R, o, none⟩) (fun _ => rfl) v
theorem rows_keep {R : Nat} {w w' : World} {v : Value} {l : List Tok} (h : RowsR (TokM R) w 3 TokR v l) (k : Keep (At R) w w') : RowsR (TokM R) w' 3 TokR v l := RowsR.map h (k.weak fun _ _ h => by unfold At at h; unfold TokM; omega) fun _ _ _ h => h
theorem rd_set0 {R : Nat} {en lev : Int} {l : List Tok} {w : World} {x : Value} {a : Option Addr} {c : Nat} (h : w.heap[R]? = some (.cells #[x, .int .i64 en, .int .i64 lev] 128 (0, 0))) (hp : 10 < R) (hr : RowsR (TokM R) w 3 TokR (.slice a l.length c) l) :
    RdOk R en lev l (w.setCell ⟨R, 0, none⟩ (.slice a l.length c)) := ⟨⟨a, c, blk3_set0 h, rows_keep hr (keep_set ..)⟩, hp⟩
theorem RdOk.lev2 {R : Nat} {en lev lev' : Int} {l : List Tok} {w : World} (h : RdOk R en lev l w) : RdOk R en lev' l (w.setCell ⟨R, 2, none⟩ (.int .i64 lev')) := by
  obtain ⟨⟨a, c, h1, h2⟩, h3⟩ := h
  exact ⟨⟨a, c, blk3_set2 h1, rows_keep h2 (keep_set ..)⟩, h3⟩

set_option maxRecDepth 100000 in
set_option maxHeartbeats 1000000 in
theorem pnext_any (R : Nat) (en lev : Int) (t : Tok) (l : List Tok) (w : World) (h : RdOk R en lev (t :: l) w) : Calls Tryz.prog 151 #[.pointer (some ⟨R, 0, none⟩)] w (Rds R en lev l (fun v _ => v = tokV t) w) := by
  obtain ⟨⟨a, c, hb, hr⟩, hp⟩ := h
  obtain ⟨k0, k1, k2, kf, hz⟩ := blk3 hb
  obtain ⟨b, o, rfl, _, hc1, hlc, hm, hM, hbz, c0, c1, c2, hce, hrl⟩ := toks_cons hr
  have HBK := Lib.hid hb
  have HRL := Lib.hid hrl
  have f0 := kf 0
  have hbR : ¬ b = R := fun e => hM (by unfold TokM; omega)
  simp only [List.length_cons] at k0
  have h00 : ((0 : Int) < ((l.length + 1 : Nat) : Int)) := by omega
  have h11 : ((1 : Int) ≤ ((l.length + 1 : Nat) : Int)) := by omega
  clear hr hM hb hrl kf
  obtain ⟨tk, tt, ta⟩ := t
  dsimp only at c0 c1 c2
  go_enter Tryz.func151, Tryz.ntmps151
  by_cases hcc : c = 1
  · go_wp2_with fail
    have hl := hce hcc
    subst hl
    have HO := rd_set0 HBK.out hp (l := []) (c := 0) (RowsR.empty (TokM R) w 3 TokR (some ⟨b, o, none⟩))
    refine bodyPost_ret (v := tokV (tk, tt, ta)) (by simp [results, Tryz.results151, go_sem, tokV]) rfl ?_
    exact ⟨_, rfl, rfl, (HO.alloc _).alloc _, ((keep_set ..).alloc _).alloc _⟩
  · go_wp2_with fail
    have HO := rd_set0 HBK.out hp HRL.out
    refine bodyPost_ret (v := tokV (tk, tt, ta)) (by simp [results, Tryz.results151, go_sem, tokV]) rfl ?_
    exact ⟨_, rfl, rfl, (HO.alloc _).alloc _, ((keep_set ..).alloc _).alloc _⟩

theorem accept_yes (R : Nat) (en lev : Int) (t : Tok) (l : List Tok) (s : ByteArray) (w : World) (h : RdOk R en lev (t :: l) w) (hn : isB s (t :: l) = true) : Calls Tryz.prog 97 #[.pointer (some ⟨R, 0, none⟩), .string s] w (Rds R en lev l (fun v _ => v = .bool true) w) := by
  have HI := Lib.hid (is_any R en lev (t :: l) s w h)
  rw [hn] at HI
  have HO := Lib.hid h
  clear hn h
  go_enter Tryz.func97, Tryz.ntmps97
  go_wp2_with fail
  refine HI.out.mono ?_
  rintro e w1 ⟨rfl, hb⟩
  have HB := Lib.hid hb
  have HO1 := Lib.hid (HO.out.bel hb)
  clear hb
  dsimp only
  go_wp2_with fail
  refine (pnext_any R en lev t l w1 HO1.out).mono ?_
  rintro e w2 ⟨v, rfl, rfl, ho, hk⟩
  have HO2 := Lib.hid ho
  have HK := Lib.hid hk
  clear ho hk
  unfold tokV
  dsimp only
  go_wp2_with fail
  go_ret
  exact ⟨_, rfl, rfl, HO2.out, (Keep.bel HB.out).trans HK.out⟩

/-- The value of a failure. -/
def failV (at_ code : Int) : Value := .iface 126 (.agg #[.int .i64 at_, .int .i64 code])
def atOf (en : Int) : List Tok → Int
  | [] => en
  | t :: _ => t.2.2
/-- Reading has ended with a failure. -/
def Fails (R : Nat) (at_ code : Int) (w : World) (e : Ending) (w' : World) : Prop := e = .panicked [{ v := failV at_ code, recovered := false }] ∧ Keep (At R) w w'

set_option maxRecDepth 100000 in
set_option maxHeartbeats 1000000 in
theorem fail_any (R : Nat) (en lev : Int) (l : List Tok) (code : Int) (w : World) (h : RdOk R en lev l w) : Calls Tryz.prog 47 #[.pointer (some ⟨R, 0, none⟩), .int .i64 code] w (Fails R (atOf en l) code w) := by
  obtain ⟨⟨a, c, hb, hr⟩, hp⟩ := h
  obtain ⟨k0, k1, k2, kf, hz⟩ := blk3 hb
  clear hb
  cases l with
  | nil =>
    clear hr
    go_enter Tryz.func47, Tryz.ntmps47
    go_wp2_with fail
    exact ⟨rfl, rfl, Keep.refl _ _⟩
  | cons t l =>
    obtain ⟨b, o, rfl, _, hc1, hlc, hm, hM, hbz, c0, c1, c2, _, _⟩ := toks_cons hr
    simp only [List.length_cons] at k0
    have h00 : ((0 : Int) < ((l.length + 1 : Nat) : Int)) := by omega
    clear hr hM
    obtain ⟨tk, tt, ta⟩ := t
    dsimp only at c0 c1 c2
    go_enter Tryz.func47, Tryz.ntmps47
    go_wp2_with fail
    exact ⟨rfl, rfl, Keep.refl _ _⟩

set_option maxRecDepth 100000 in
set_option maxHeartbeats 1000000 in
theorem open_yes (R : Nat) (en lev : Int) (t : Tok) (l : List Tok) (s : ByteArray) (w : World) (h : RdOk R en lev (t :: l) w) (hn : isB s (t :: l) = true) (h0 : 0 ≤ lev) (hl : lev < 12) : Calls Tryz.prog 153 #[.pointer (some ⟨R, 0, none⟩), .string s] w (Rds R en (lev + 1) l (fun v _ => v = .tuple #[]) w) := by
  have HI := Lib.hid (is_any R en lev (t :: l) s w h)
  rw [hn] at HI
  have HO := Lib.hid h
  clear hn h
  have e1 : IntKind.i64.wrap (lev + 1) = lev + 1 := IntWalk.i64_in _ (by omega)
  go_enter Tryz.func153, Tryz.ntmps153
  go_wp2_with fail
  refine HI.out.mono ?_
  rintro e w1 ⟨rfl, hb⟩
  have HB := Lib.hid hb
  have hO1 := HO.out.bel hb
  have HO1 := Lib.hid hO1
  obtain ⟨⟨a, c, hbk, _⟩, _⟩ := hO1
  obtain ⟨k0, k1, k2, kf, hz⟩ := blk3 hbk
  have f2 := kf 2
  clear hb hbk kf
  dsimp only
  go_wp2_with fail
  refine (pnext_any R en (lev + 1) t l _ HO1.out.lev2).mono ?_
  rintro e w2 ⟨v, rfl, rfl, ho, hk⟩
  have HO2 := Lib.hid ho
  have HK := Lib.hid hk
  clear ho hk
  unfold tokV
  dsimp only
  go_wp2_with fail
  refine bodyPost_ret (results_none rfl _ _ _) rfl ?_
  exact ⟨_, rfl, rfl, HO2.out, (Keep.bel HB.out).trans ((keep_set ..).trans HK.out)⟩

set_option maxRecDepth 100000 in
set_option maxHeartbeats 1000000 in
theorem open_deep (R : Nat) (en lev : Int) (t : Tok) (l : List Tok) (s : ByteArray) (w : World) (h : RdOk R en lev (t :: l) w) (hn : isB s (t :: l) = true) (hl : 12 ≤ lev) : Calls Tryz.prog 153 #[.pointer (some ⟨R, 0, none⟩), .string s] w (Fails R t.2.2 2 w) := by
  have HI := Lib.hid (is_any R en lev (t :: l) s w h)
  rw [hn] at HI
  have HO := Lib.hid h
  clear hn h
  go_enter Tryz.func153, Tryz.ntmps153
  go_wp2_with fail
  refine HI.out.mono ?_
  rintro e w1 ⟨rfl, hb⟩
  have HB := Lib.hid hb
  have hO1 := HO.out.bel hb
  have HO1 := Lib.hid hO1
  obtain ⟨⟨a, c, hbk, _⟩, _⟩ := hO1
  obtain ⟨k0, k1, k2, kf, hz⟩ := blk3 hbk
  clear hb hbk kf
  dsimp only
  go_wp2_with fail
  refine (fail_any R en lev (t :: l) 2 w1 HO1.out).mono ?_
  rintro e w2 ⟨rfl, hk⟩
  have HK := Lib.hid hk
  clear hk
  dsimp only
  go_wp2_with fail
  exact ⟨rfl, rfl, (Keep.bel HB.out).trans HK.out⟩

theorem Keep.nat {R : Nat} {w w' : World} {b o : Nat} {v : Value} (k : Keep (At R) w w') (hb : b ≠ R) (h : w.cell? ⟨b, o, none⟩ = some v) : w'.cell? ⟨b, o, none⟩ = some v := (k.cell (World.block_lt_of_cell? _ _ h) hb).trans h

set_option maxRecDepth 100000 in
set_option maxHeartbeats 1000000 in
theorem expect_yes (R b : Nat) (en lev : Int) (t : Tok) (l : List Tok) (s : ByteArray) (w : World) (h : RdOk R en lev (t :: l) w) (hn : isB s (t :: l) = true) (hb : w.cell? ⟨b, 0, none⟩ = some (.string s)) : Calls Tryz.prog 156 #[.pointer (some ⟨R, 0, none⟩), .slice (some ⟨b, 0, none⟩) 1 1] w (Rds R en lev l (fun v _ => v = .tuple #[]) w) := by
  have HI := Lib.hid (accept_yes R en lev t l s w h hn)
  clear hn h
  go_enter Tryz.func156, Tryz.ntmps156
  go_wp2_with fail
  refine wp_loop_rounds 2 ?_
  rw [rounds_succ]
  go_wp2_with fail
  refine HI.out.mono ?_
  rintro e w2 ⟨v, rfl, rfl, ho, hk⟩
  have HO2 := Lib.hid ho
  have HK := Lib.hid hk
  clear ho hk
  dsimp only
  go_wp2_with fail
  rw [rounds_succ]
  go_wp2_with fail
  refine bodyPost_ret (results_none rfl _ _ _) rfl ?_
  exact ⟨_, rfl, rfl, HO2.out, HK.out⟩

set_option maxRecDepth 100000 in
set_option maxHeartbeats 1000000 in
theorem expect_no (R b : Nat) (en lev : Int) (l : List Tok) (s : ByteArray) (w : World) (h : RdOk R en lev l w) (hn : isB s l = false) (hb : w.cell? ⟨b, 0, none⟩ = some (.string s)) : Calls Tryz.prog 156 #[.pointer (some ⟨R, 0, none⟩), .slice (some ⟨b, 0, none⟩) 1 1] w (Fails R (atOf en l) 1 w) := by
  have HI := Lib.hid (accept_no R en lev l s w h hn)
  have HO := Lib.hid h
  clear hn h
  go_enter Tryz.func156, Tryz.ntmps156
  go_wp2_with fail
  refine wp_loop_rounds 2 ?_
  rw [rounds_succ]
  go_wp2_with fail
  refine HI.out.mono ?_
  rintro e w1 ⟨rfl, hb⟩
  have HB := Lib.hid hb
  have HO1 := Lib.hid (HO.out.bel hb)
  clear hb
  dsimp only
  go_wp2_with fail
  refine (fail_any R en lev l 1 w1 HO1.out).mono ?_
  rintro e w2 ⟨rfl, hk⟩
  have HK := Lib.hid hk
  clear hk
  dsimp only
  go_wp2_with fail
  exact ⟨rfl, rfl, (Keep.bel HB.out).trans HK.out⟩

set_option maxRecDepth 100000 in
set_option maxHeartbeats 1000000 in
theorem shut_yes (R : Nat) (en lev : Int) (t : Tok) (l : List Tok) (s : ByteArray) (w : World) (h : RdOk R en lev (t :: l) w) (hn : isB s (t :: l) = true) (h0 : 1 ≤ lev) (hl : lev ≤ 12) : Calls Tryz.prog 157 #[.pointer (some ⟨R, 0, none⟩), .string s] w (Rds R en (lev - 1) l (fun v _ => v = .tuple #[]) w) := by
  have e1 : IntKind.i64.wrap (lev - 1) = lev - 1 := IntWalk.i64_in _ (by omega)
  have HO := Lib.hid h
  have HN := Lib.hid hn
  clear hn h
  go_enter Tryz.func157, Tryz.ntmps157
  go_wp2_with fail
  refine (expect_yes R w.heap.size en lev t l s _ (HO.out.alloc _) HN.out (by simp)).mono ?_
  rintro e w1 ⟨v, rfl, rfl, ho, hk⟩
  have HO1 := Lib.hid ho
  have HK := Lib.hid (((Keep.refl _ w).alloc _).trans hk)
  obtain ⟨⟨a, c, hbk, _⟩, _⟩ := ho
  obtain ⟨k0, k1, k2, kf, hz⟩ := blk3 hbk
  have f2 := kf 2
  clear hk hbk kf
  dsimp only
  go_wp2_with fail
  refine bodyPost_ret (results_none rfl _ _ _) rfl ?_
  exact ⟨_, rfl, rfl, HO1.out.lev2, HK.out.trans (keep_set ..)⟩

theorem run_tok0 (a b c : Value) (w : World) : Sem.run Tryz.prog (Instr.field 178 (.agg #[a, b, c]) 0) w = .ok a w := by kernel_rfl
theorem run_tok1 (a b c : Value) (w : World) : Sem.run Tryz.prog (Instr.field 178 (.agg #[a, b, c]) 1) w = .ok b w := by kernel_rfl

set_option maxRecDepth 100000 in
set_option maxHeartbeats 1000000 in
theorem name_yes (R : Nat) (en lev : Int) (s : ByteArray) (i : Nat) (l : List Tok) (w : World) (h : RdOk R en lev ((2, s, i) :: l) w) : Calls Tryz.prog 108 #[.pointer (some ⟨R, 0, none⟩)] w (Rds R en lev l (fun v _ => v = .string s) w) := by
  have hf0 := run_tok0
  have hf1 := run_tok1
  have HO := Lib.hid h
  clear h
  go_enter Tryz.func108, Tryz.ntmps108
  go_wp2_with fail
  refine (peek_any R en lev _ w HO.out).mono ?_
  rintro e w1 ⟨rfl, hb⟩
  have HB := Lib.hid hb
  have HO1 := Lib.hid (HO.out.bel hb)
  clear hb
  simp only [tokV, hdT]
  go_wp2_with fail
  refine (pnext_any R en lev _ l w1 HO1.out).mono ?_
  rintro e w2 ⟨v, rfl, rfl, ho, hk⟩
  have HO2 := Lib.hid ho
  have HK := Lib.hid hk
  clear ho hk
  simp only [tokV]
  go_wp2_with fail
  go_ret
  exact ⟨_, rfl, rfl, HO2.out, (Keep.bel HB.out).trans HK.out⟩

set_option maxRecDepth 100000 in
set_option maxHeartbeats 1000000 in
/-- A name is lacking. -/
theorem name_no (R : Nat) (en lev : Int) (l : List Tok) (w : World) (h : RdOk R en lev l w) (hn : ((hdT l).1 == 2) = false) : Calls Tryz.prog 108 #[.pointer (some ⟨R, 0, none⟩)] w (Fails R (atOf en l) 1 w) := by
  have hf0 := run_tok0
  have hne : ((hdT l).1 != 2) = true := by simpa [bne] using hn
  have HO := Lib.hid h
  have HP := Lib.hid (peek_any R en lev l w h)
  clear h hn
  generalize hdT l = t at HP hne
  obtain ⟨k, tt, ta⟩ := t
  simp only [tokV] at HP
  dsimp only at hne
  go_enter Tryz.func108, Tryz.ntmps108
  go_wp2_with fail
  refine HP.out.mono ?_
  rintro e w1 ⟨rfl, hb⟩
  have HB := Lib.hid hb
  have HO1 := Lib.hid (HO.out.bel hb)
  clear hb
  dsimp only
  go_wp2_with fail
  refine (fail_any R en lev l 1 w1 HO1.out).mono ?_
  rintro e w2 ⟨rfl, hk⟩
  have HK := Lib.hid hk
  clear hk
  dsimp only
  go_wp2_with fail
  exact ⟨rfl, rfl, (Keep.bel HB.out).trans HK.out⟩
end Go.Proofs.YtkhlmofcdchccaaGreatDoor
