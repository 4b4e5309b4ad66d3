/- print.Expr of a well-formed expression. The words of the trees that AnyExpr makes are few and short. The sanity check of the statements on printing: the contract of known of the package triggerstorelaw12. Well-formed expressions are VX, and the cost of their words is at most 200 for each node. -/
import Derived.Test.YtpnigfmclmfjaaaGreatDoorKX
import Derived.Test.YtpnigfmclmfjaaaGreatDoorKN3
import Derived.Test.YtpnigfmclmfjaaaGreatDoorKC1
import Derived.Test.YtpnigfmclmfjaaaGreatDoorS11
import Derived.Lib.ItoaLen
namespace Go.Proofs.YtpnigfmclmfjaaaGreatDoor
open Go.RowKit

set_option maxRecDepth 100000 in
set_option maxHeartbeats 8000000 in
theorem print_any (x : Ex) (hv : VX x) (hp : validP x = true) (ht : TxtOk x) (h1 : (wordsP x).length ≤ 1000000000) (h2 : ((wordsP x).map fun t => t.size + 1).sum ≤ 1000000000000) (M : Nat → Prop) (cs : List Value) (w : World) (hE : EC M w x cs) (hL : LibOk w) (hs : 10 < w.heap.size) :
    Calls Tryz.prog 22 #[.agg cs.toArray] w (RetBel (.tuple #[.string (textP x), .bool true]) w) := by
  have hE0 : EC (fun i => w.heap.size ≤ i) w x cs := EC.weak (fun i hi h => by omega) x cs hE
  obtain ⟨xva, xvs, rfl, hva, hvs⟩ := (EC_iff ..).1 hE0
  obtain ⟨xa, xac, rfl, _⟩ := hva.shape
  obtain ⟨xs, xsc, rfl, _⟩ := hvs.shape
  have HE := Lib.hid hE0
  have HP := Lib.hid hp
  have HL := Lib.hid hL
  have HT := Lib.hid ht
  have HV := Lib.hid hv
  have HN1 := Lib.hid h1
  have HN2 := Lib.hid h2
  unfold textP
  simp only [exCells] at HE ⊢
  clear hE hE0 hva hvs hp hL ht hv h1 h2
  go_enter Tryz.func22, Tryz.ntmps22
  go_upto_region 1 with fail
  generalize hW : World.alloc w _ = W
  have hS : W.heap[w.heap.size]? = some (.cells #[.int .i64 x.kind, .int .i64 x.op, .bool x.no, .int .i64 x.val.kind, .int .i64 x.val.int, .string x.val.text, .string x.table, .string x.name, .slice xa x.args.length xac, .slice xs x.sub.length xsc] 57 (0, 0)) := by rw [← hW]; exact heap_alloc_new w _
  have HBW := Lib.hid (show Below w.heap.size w W from by rw [← hW]; exact (Below.refl _ _).alloc (Nat.le_refl _) _)
  have HS := Lib.hid hS
  have hz := (Array.getElem?_eq_some_iff.1 hS).1
  obtain ⟨a0, a1, a2, a3, a4, a5, a6, a7, a8, a9, _⟩ := blk10 hS
  clear hS hW
  go_wp2_with fail
  refine (vexpr_any x _ W (EC.keep (.bel HBW.out) x _ HE.out) HT.out).mono ?_
  rintro e W2 ⟨rfl, hb2⟩
  rw [HP.out]
  have HB2 := Lib.hid (HBW.out.trans (hb2.mono HBW.out.size))
  have HS2 := Lib.hid ((hb2.block _ hz).trans HS.out)
  have hz2 : w.heap.size < W2.heap.size := Nat.lt_of_lt_of_le hz hb2.size
  clear hb2 a0 a1 a2 a3 a4 a5 a6 a7 a8 a9 HS
  go_upto_region 4 with fail
  generalize hW : World.alloc W2 _ = W3
  have hb3 : Below W2.heap.size W2 W3 := by rw [← hW]; exact (Below.refl _ _).alloc (Nat.le_refl _) _
  have hw3 : W3.heap[W2.heap.size]? = some (.cells #[.slice none 0 0] 125 (0, 0)) := by rw [← hW]; exact heap_alloc_new W2 _
  have hz3 : W3.heap.size = W2.heap.size + 1 := by rw [← hW]; simp
  have hR : WrR (W2.heap.size + 1) W2.heap.size W3 [] := ⟨by omega, by omega, _, hw3, RowsO.nil ..⟩
  have HR := Lib.hid hR
  have HB3 := Lib.hid (HB2.out.trans (hb3.mono (Nat.le_of_lt hz2)))
  have HE3 := Lib.hid (EC.weak (M' := WM W2.heap.size W3) (fun i hi hm => by
    rcases HR.out.wm hm with rfl | h
    · omega
    · omega) x _ (EC.keep (.bel HB3.out) x _ HE.out))
  have hS3 := (hb3.block _ hz2).trans HS2.out
  have hL3 : LibOk W3 := HL.out.keep (M := fun _ => False) (.bel HB3.out) (fun _ _ => id) hs
  have HL3 := Lib.hid hL3
  obtain ⟨a0, a1, a2, a3, a4, a5, a6, a7, a8, a9, _⟩ := blk10 hS3
  clear hW hb3 hw3 hR hS3 hL3
  go_wp2_with fail
  refine (vx_wex HV.out (W2.heap.size + 1) W2.heap.size _ [] W3 HR.out HE3.out HL3.out (by omega) (by have := HN1.out; simpa using this)).mono ?_
  rintro e W4 ⟨rfl, hw⟩
  have hB4 := hw.below HR.out (Nat.le_refl _)
  have HW := Lib.hid hw
  have HB4 := Lib.hid (HB3.out.trans (hB4.mono (Nat.le_of_lt hz2)))
  obtain ⟨_, _, v, hv, hrow⟩ := hw.rd
  have HROW := Lib.hid (hrow.rows (M := NoM) fun _ _ _ => id)
  have HL4 := Lib.hid (lib_wst HL3.out (by omega) HR.out hw)
  have hc := (wcell hv).1
  obtain ⟨ra, rc, rfl, _⟩ := hrow.shape
  have hzz := hw.size
  clear hw hB4 hv hrow a0 a1 a2 a3 a4 a5 a6 a7 a8 a9
  dsimp only
  go_wp2_with fail
  refine (wtext_any _ _ W4 HROW.out HL4.out (by omega) (by have := HN2.out; simpa using this)).mono ?_
  rintro e W5 ⟨rfl, hb5⟩
  have HB5 := Lib.hid (HB4.out.trans (hb5.mono (by omega)))
  clear hb5
  dsimp only
  go_wp2_with fail
  go_ret2
  exact ⟨rfl, HB5.out⟩
end Go.Proofs.YtpnigfmclmfjaaaGreatDoor

namespace Go.Proofs.YtpnigfmclmfjaaaGreatDoor
open Go.RowKit

def costW (l : List ByteArray) : Nat := (l.map fun t => t.size + 1).sum
theorem cost_nil : costW [] = 0 := rfl
theorem cost_cons (t : ByteArray) (l : List ByteArray) : costW (t :: l) = t.size + 1 + costW l := by simp [costW]
theorem cost_app (a b : List ByteArray) : costW (a ++ b) = costW a + costW b := by simp [costW]
theorem cost_len : ∀ l : List ByteArray, l.length ≤ costW l
  | [] => Nat.zero_le _
  | t :: l => by rw [cost_cons, List.length_cons]; have := cost_len l; omega

theorem cost_arg (k o : Int) (i : Nat) (e : Ex) : costW (argW k o i e) ≤ costW (wordsP e) + 4 := by
  unfold argW
  split
  · rw [cost_cons, cost_app, cost_cons, cost_nil]
    have h1 : kOpen.size = 1 := by decide
    have h2 : kShut.size = 1 := by decide
    omega
  · omega
theorem cost_sizes : kNOT.size = 3 ∧ kMinus.size = 1 ∧ kIS.size = 2 ∧ kNULL.size = 4 ∧ kBETWEEN.size = 7 ∧ kAND.size = 3 ∧ kEXISTS.size = 6 ∧ kOpen.size = 1 ∧ kSELECT.size = 6 ∧ kStar.size = 1 ∧ kShut.size = 1 ∧ kCOUNT.size = 5 ∧ kFROM.size = 4 ∧ kWHERE.size = 5 ∧ kDot.size = 1 := by decide
theorem cost_opS (o : Int) (h : 1 ≤ o ∧ o ≤ 13) : (opS o).size ≤ 3 := by
  have h' : o = 1 ∨ o = 2 ∨ o = 3 ∨ o = 4 ∨ o = 5 ∨ o = 6 ∨ o = 7 ∨ o = 8 ∨ o = 9 ∨ o = 10 ∨ o = 11 ∨ o = 12 ∨ o = 13 := by omega
  rcases h' with rfl | rfl | rfl | rfl | rfl | rfl | rfl | rfl | rfl | rfl | rfl | rfl | rfl <;> decide
theorem cost_agg (k : Int) : (aggS k).size ≤ 3 := by
  unfold aggS
  split
  · decide
  · split <;> decide
theorem size_fmt {v : Val} (h : ValidVal v) (h0 : v.kind = 1 → 0 ≤ v.int) : (bs (fmtV v)).size ≤ 40 := by
  have hw : ∀ i, i < 6 → (39 :: (Lib.replaceAll (wordAt i).data.toList [39] [39, 39] ++ [39])).length ≤ 40 := by decide +kernel
  have hv := valid_of h
  show (fmtV v).toArray.size ≤ 40
  rw [List.size_toArray]
  unfold fmtV
  rw [hv]
  obtain ⟨k, n, s⟩ := v
  unfold ValidVal at h
  simp only at h h0 ⊢
  rcases h with ⟨rfl, rfl, rfl⟩ | ⟨rfl, hn, rfl⟩ | ⟨rfl, h0, h1, rfl⟩ | ⟨rfl, rfl, i, hi, rfl⟩
  · simp
  · unfold I64R at hn
    have hn0 := h0 rfl
    obtain ⟨u, rfl⟩ : ∃ u : Nat, n = (u : Int) := ⟨n.toNat, by omega⟩
    have hi : Lib.itoa (u : Int) = Lib.decDigits u := by unfold Lib.itoa; rw [if_neg (by omega)]; rfl
    simp only [Bool.true_eq_false, if_false, if_true, hi]
    rw [if_neg (by decide), Lib.decDigits_length]
    have := Lib.nDigits_le20 u (by omega)
    omega
  · have : n = 0 ∨ n = 1 := by omega
    rcases this with rfl | rfl <;> simp
  · simpa using hw i hi
theorem cost_any {n : Nat} {e : Ex} (h : AnyX n e) : costW (wordsP e) + 50 ≤ 150 * 3 ^ n := by
  obtain ⟨s1, s2, s3, s4, s5, s6, s7, s8, s9, s10, s11, s12, s13, s14, s15⟩ := cost_sizes
  have hp : ∀ n : Nat, 1 ≤ 3 ^ n := fun n => Nat.one_le_pow _ _ (by omega)
  induction h with
  | col n q i hq hi =>
    have := hp n
    have h1 : ∀ i, i < 8 → (nameAt i).size ≤ 20 := by decide +kernel
    have h2 : ∀ q ∈ qualL, q.size ≤ 20 := by decide +kernel
    have h1 := h1 i hi
    have h2 := h2 q hq
    rw [words_col]
    split
    · rw [cost_cons, cost_nil]; omega
    · simp only [cost_cons, cost_nil]; omega
  | lit n v hv h0 =>
    have := hp n
    have h1 := size_fmt hv h0
    rw [words_lit, cost_cons, cost_nil]
    omega
  | ops n k o no args hk ha ih =>
    have h3 := hp n
    rw [Nat.pow_succ]
    unfold OpShape at hk
    rcases hk with ⟨hk, rfl, rfl, hl⟩ | ⟨rfl, rfl, hl⟩ | ⟨rfl, h1, h13, rfl, hl⟩ | ⟨rfl, rfl, rfl, hl⟩
    · match args, hl with
      | [a], _ =>
        have i1 := ih a (by simp)
        rcases hk with rfl | rfl
        · rw [words_not]
          have := cost_arg 3 0 0 a
          simp only [cost_app, cost_cons, cost_nil]
          omega
        · rw [words_neg]
          have := cost_arg 4 0 0 a
          simp only [cost_app, cost_cons, cost_nil]
          omega
    · match args, hl with
      | [a], _ =>
        have i1 := ih a (by simp)
        have := cost_arg 6 0 0 a
        cases no
        · rw [words_null0]
          simp only [cost_app, cost_cons, cost_nil]
          omega
        · rw [words_null1]
          simp only [cost_app, cost_cons, cost_nil]
          omega
    · match args, hl with
      | [a, b], _ =>
        have i1 := ih a (by simp)
        have i2 := ih b (by simp)
        have := cost_arg 5 o 0 a
        have := cost_arg 5 o 1 b
        have := cost_opS o ⟨h1, h13⟩
        rw [words_bin]
        simp only [cost_app, cost_cons, cost_nil]
        omega
    · match args, hl with
      | [a, b, c], _ =>
        have i1 := ih a (by simp)
        have i2 := ih b (by simp)
        have i3 := ih c (by simp)
        have := cost_arg 7 0 0 a
        have := cost_arg 7 0 1 b
        have := cost_arg 7 0 2 c
        rw [words_btw]
        simp only [cost_app, cost_cons, cost_nil]
        omega
  | sub n k f items whr hf hi hw hA hB iA iB =>
    have h3 := hp n
    have h2 : ∀ q ∈ fromL, q.size ≤ 20 := by decide +kernel
    have h2 := h2 f hf
    rw [Nat.pow_succ]
    have hwh : costW (whereW (whr.map wordsP)) ≤ 6 + 150 * 3 ^ n - 50 := by
      match whr, hw with
      | [], _ => simp only [List.map_nil, whereW, cost_nil]; omega
      | [x], _ =>
        have := iB x (by simp)
        simp only [List.map_cons, List.map_nil, whereW, cost_cons, cost_app, cost_nil]
        omega
      | _ :: _ :: _, h => simp at h
    have hhd : costW (headW k (items.map wordsP)) ≤ 30 + 150 * 3 ^ n - 50 := by
      unfold headW
      split
      · simp only [cost_cons, cost_nil]; omega
      · split
        · simp only [cost_cons, cost_nil]; omega
        · have h5 := cost_agg k
          match items, hi with
          | [], _ =>
            simp only [List.map_nil, List.getD_nil, cost_cons, cost_app, cost_nil]
            omega
          | [x], _ =>
            have := iA x (by simp)
            simp only [List.map_cons, List.map_nil, List.getD_cons_zero, cost_cons, cost_app, cost_nil]
            omega
          | _ :: _ :: _, h => simp at h
    rw [words_sub (by rcases hi with ⟨h, _⟩ | ⟨h, _⟩ <;> omega)]
    simp only [cost_cons, cost_app, cost_nil]
    omega
end Go.Proofs.YtpnigfmclmfjaaaGreatDoor

namespace Go.Proofs.YtpnigfmclmfjaaaGreatDoor
open Go.RowKit

def e9 : Ex := opX 5 9 false [colX es ⟨#[97]⟩, litX ⟨1, 1, es⟩] []
def e12 : Ex := opX 5 11 false [e9, litX ⟨1, 2, es⟩] []
theorem vx9 : VX e9 := by
  refine .ops 5 9 false _ (by unfold OpShape; simp) fun a ha => ?_
  simp only [List.mem_cons, List.not_mem_nil, or_false] at ha
  rcases ha with rfl | rfl
  · exact .col _ _ (by decide +kernel)
  · exact .lit _ (by decide +kernel) fun _ => by simp
theorem vx12 : VX e12 := by
  refine .ops 5 11 false _ (by unfold OpShape; simp) fun a ha => ?_
  simp only [List.mem_cons, List.not_mem_nil, or_false] at ha
  rcases ha with rfl | rfl
  · exact vx9
  · exact .lit _ (by decide +kernel) fun _ => by simp
theorem txt12 : TxtOk e12 := by
  refine txt_ops 5 11 false _ fun a ha => ?_
  simp only [List.mem_cons, List.not_mem_nil, or_false] at ha
  rcases ha with rfl | rfl
  · refine txt_ops 5 9 false _ fun b hb => ?_
    simp only [List.mem_cons, List.not_mem_nil, or_false] at hb
    rcases hb with rfl | rfl
    · exact txt_leaf _ _ _ _ _ _ (Nat.zero_le _) (by decide) (by decide)
    · exact txt_leaf _ _ _ _ _ _ (Nat.zero_le _) (by decide) (by decide)
  · exact txt_leaf _ _ _ _ _ _ (Nat.zero_le _) (by decide) (by decide)
theorem valid12 : validP e12 = true := by
  simp [e12, e9, opX, litX, colX, es, val0, validP, validL, valZ, nameZ, noText, columnB, nameB, nchB, letB, ByteArray.toList_eq, ByteArray.size, validV]
theorem words12 : wordsP e12 = [kOpen, ⟨#[97]⟩, opS 9, ⟨#[49]⟩, kShut, opS 11, ⟨#[50]⟩] := by
  have h1 : wordsP (litX ⟨1, 1, es⟩) = [⟨#[49]⟩] := by rw [words_lit]; decide +kernel
  have h2 : wordsP (litX ⟨1, 2, es⟩) = [⟨#[50]⟩] := by rw [words_lit]; decide +kernel
  have h3 : wordsP (colX es ⟨#[97]⟩) = [⟨#[97]⟩] := by rw [words_col, if_pos (by decide +kernel)]
  have h9 : wordsP e9 = [⟨#[97]⟩, opS 9, ⟨#[49]⟩] := by
    unfold e9
    rw [words_bin]
    unfold argW
    rw [if_neg (by decide +kernel), if_neg (by decide +kernel), h1, h3]
    rfl
  unfold e12
  rw [words_bin]
  unfold argW
  rw [if_pos (by decide +kernel), if_neg (by decide +kernel), h2, h9]
  rfl
theorem text12 : textP e12 = ⟨#[40, 97, 32, 43, 32, 49, 41, 32, 42, 32, 50]⟩ := by
  unfold textP
  rw [words12]
  decide +kernel

set_option maxRecDepth 100000 in
set_option maxHeartbeats 4000000 in
theorem known12_any (w : World) (hL : LibOk w) (hs : 10 < w.heap.size) : Calls Tryz.prog 24 #[] w (RetBel (.bool true) w) := by
  have HL := Lib.hid hL
  clear hL
  go_enter Tryz.func24, Tryz.ntmps24
  go_wp2_with fail
  refine (col_any _ _ _).mono ?_
  rintro e w1 ⟨rfl, hb⟩
  have HB1 := Lib.hid hb
  clear hb
  dsimp only
  go_wp2_with fail
  refine (num_pos _ (by omega) _).mono ?_
  rintro e w2 ⟨rfl, hb⟩
  have HB2 := Lib.hid (HB1.out.trans (hb.mono HB1.out.size))
  clear hb
  dsimp only
  go_wp2_with fail
  refine (bin_any (M := NoM) 9 (colX ⟨#[]⟩ ⟨#[97]⟩) (litX ⟨1, 1, ⟨#[]⟩⟩) _ _ _ (ec_nil ..) (ec_nil ..) (fun _ _ => id)).mono ?_
  rintro e w3 ⟨cs3, rfl, he, hb⟩
  have HE3 := Lib.hid he
  have HB3 := Lib.hid (HB2.out.trans (hb.mono HB2.out.size))
  clear hb he
  dsimp only
  go_wp2_with fail
  refine (num_pos _ (by omega) _).mono ?_
  rintro e w4 ⟨rfl, hb⟩
  have HE4 := Lib.hid (EC.keep (.bel hb) _ _ HE3.out)
  have HB4 := Lib.hid (HB3.out.trans (hb.mono HB3.out.size))
  clear hb
  dsimp only
  go_wp2_with fail
  refine (bin_any (M := NoM) 11 _ (litX ⟨1, 2, ⟨#[]⟩⟩) _ _ _ HE4.out (ec_nil ..) (fun _ _ => id)).mono ?_
  rintro e w5 ⟨cs5, rfl, he, hb⟩
  have HE5 := Lib.hid (show EC NoM w5 e12 cs5 from he)
  have HB5 := Lib.hid (HB4.out.trans (hb.mono HB4.out.size))
  have HL5 := Lib.hid (HL.out.keep (M := fun _ => False) (.bel HB5.out) (fun _ _ => id) hs)
  have hs5 := HB5.out.size
  clear hb he
  dsimp only
  go_wp2_with fail
  refine (print_any e12 vx12 valid12 txt12 (by rw [words12]; decide) (by rw [words12]; decide) NoM _ w5 HE5.out HL5.out (by omega)).mono ?_
  rintro e w6 ⟨rfl, hb⟩
  rw [text12]
  have HB6 := Lib.hid (HB5.out.trans (hb.mono HB5.out.size))
  clear hb
  dsimp only
  go_wp2_with fail
  go_ret
  exact ⟨rfl, HB6.out⟩
end Go.Proofs.YtpnigfmclmfjaaaGreatDoor

namespace Go.Proofs.YtpnigfmclmfjaaaGreatDoor
open Go.RowKit

/-- The numbers in an expression are 64 bits wide. -/
inductive RngX : Ex → Prop
  | mk (e : Ex) (hv : e.val.int ≤ 9223372036854775807) (ha : ∀ a ∈ e.args, RngX a) (hi : ∀ q ∈ e.sub, ∀ x ∈ q.items, RngX x) (hw : ∀ q ∈ e.sub, ∀ x ∈ q.whr, RngX x) : RngX e

mutual
def nodes : Ex → Nat
  | .mk _ _ _ _ _ _ args sub => 1 + nodesL args + nodesS sub
def nodesL : List Ex → Nat
  | [] => 0
  | e :: l => nodes e + nodesL l
def nodesS : List Qu → Nat
  | [] => 0
  | .mk _ items _ whr :: l => nodesL items + nodesL whr + nodesS l
end

theorem noText_es {t : ByteArray} (h : noText t = true) : t = es := by
  unfold noText at h
  have h1 : t.toList = [] := by simpa using h
  rw [ByteArray.toList_eq] at h1
  exact ByteArray.ext (Array.toList_inj.1 (by rw [h1]; rfl))
theorem valZ_val0 {v : Val} (h : valZ v = true) : v = val0 := by
  unfold valZ at h
  simp only [Bool.and_eq_true, decide_eq_true_eq] at h
  obtain ⟨⟨h1, h2⟩, h3⟩ := h
  obtain ⟨k, n, s⟩ := v
  simp only at h1 h2 h3
  subst h1 h2
  rw [noText_es h3]
  rfl
theorem nameZ_es {t n : ByteArray} (h : nameZ t n = true) : t = es ∧ n = es := by
  unfold nameZ at h
  simp only [Bool.and_eq_true] at h
  exact ⟨noText_es h.1, noText_es h.2⟩
theorem len0 {α : Type} {l : List α} (h : l.length = 0) : l = [] := List.eq_nil_of_length_eq_zero h

theorem valid_vx (e : Ex) : validP e = true → RngX e → VX e := by
  refine Ex.ind (P := fun e => validP e = true → RngX e → VX e) (fun e ihA ihS hp hr => ?_) e
  cases hr with
  | mk _ hv ha hi hw =>
  obtain ⟨k, o, no, v, t, nm, args, sub⟩ := e
  rw [validP] at hp
  simp only [Ex.val, Ex.args, Ex.sub] at hv ha hi hw ihA ihS
  have hL : ∀ l : List Ex, validL l = true → ∀ a ∈ l, validP a = true := fun l h => by
    rw [validL_all, List.all_eq_true] at h
    exact h
  by_cases k1 : k = 1
  · rw [if_pos k1] at hp
    simp only [Bool.and_eq_true, Bool.not_eq_true', decide_eq_true_eq, Bool.and_eq_false_iff, decide_eq_false_iff_not] at hp
    obtain ⟨⟨⟨⟨⟨⟨h1, h2⟩, h3⟩, h4⟩, h5⟩, h6⟩, h7⟩ := hp
    obtain ⟨rfl, rfl⟩ := nameZ_es h3
    subst k1 h1 h2
    rw [len0 h4, len0 h5]
    exact .lit v h6 fun hk => ⟨by omega, hv⟩
  rw [if_neg k1] at hp
  by_cases k2 : k = 2
  · rw [if_pos k2] at hp
    simp only [Bool.and_eq_true, Bool.not_eq_true', decide_eq_true_eq] at hp
    obtain ⟨⟨⟨⟨⟨h1, h2⟩, h3⟩, h4⟩, h5⟩, h6⟩ := hp
    rw [valZ_val0 h3, len0 h4, len0 h5]
    subst k2 h1 h2
    exact .col t nm h6
  rw [if_neg k2] at hp
  by_cases k8 : 8 ≤ k ∧ k ≤ 12
  · rw [if_pos k8] at hp
    simp only [Bool.and_eq_true, Bool.not_eq_true', decide_eq_true_eq] at hp
    obtain ⟨⟨⟨⟨⟨⟨h1, h2⟩, h3⟩, h4⟩, h5⟩, h6⟩, h7⟩ := hp
    obtain ⟨rfl, rfl⟩ := nameZ_es h4
    match sub, h6 with
    | [q], _ =>
      obtain ⟨st, items, f, whr⟩ := q
      rw [validS, validS] at h7
      simp only [Bool.and_eq_true, decide_eq_true_eq, Bool.and_true, beq_iff_eq] at h7
      obtain ⟨⟨⟨⟨⟨h71, h72⟩, h73⟩, h74⟩, h75⟩, h76⟩ := h7
      subst h1 h2
      rw [valZ_val0 h3, len0 h5, h71]
      have hA := (ihS _ (List.mem_singleton.2 rfl)).1
      have hB := (ihS _ (List.mem_singleton.2 rfl)).2
      simp only [Qu.items, Qu.whr] at hA hB
      have hst : decide (k = 8) = (k == 8) := by by_cases h : k = 8 <;> simp [h]
      rw [hst]
      refine .sub k f items whr ?_ h73 h74 (fun x hx => hA x hx (hL _ h75 x hx) (hi _ (List.mem_singleton.2 rfl) x hx)) (fun x hx => hB x hx (hL _ h76 x hx) (hw _ (List.mem_singleton.2 rfl) x hx))
      by_cases h89 : k = 8 ∨ k = 9
      · rw [if_pos h89] at h72
        exact .inl ⟨h89, len0 h72⟩
      · rw [if_neg h89] at h72
        exact .inr ⟨by omega, h72⟩
  rw [if_neg k8] at hp
  by_cases k5 : k = 5
  · rw [if_pos k5] at hp
    simp only [Bool.and_eq_true, Bool.not_eq_true', decide_eq_true_eq] at hp
    obtain ⟨⟨⟨⟨⟨⟨⟨h1, h2⟩, h3⟩, h4⟩, h5⟩, h6⟩, h7⟩, h8⟩ := hp
    obtain ⟨rfl, rfl⟩ := nameZ_es h5
    subst k5 h3
    rw [valZ_val0 h4, len0 h6]
    exact .ops 5 o false args (.inr (.inr (.inl ⟨rfl, h1, h2, rfl, h7⟩))) fun x hx => ihA x hx (hL _ h8 x hx) (ha x hx)
  rw [if_neg k5] at hp
  by_cases k6 : k = 6
  · rw [if_pos k6] at hp
    simp only [Bool.and_eq_true, decide_eq_true_eq] at hp
    obtain ⟨⟨⟨⟨⟨h1, h4⟩, h5⟩, h6⟩, h7⟩, h8⟩ := hp
    obtain ⟨rfl, rfl⟩ := nameZ_es h5
    subst k6 h1
    rw [valZ_val0 h4, len0 h6]
    exact .ops 6 0 no args (.inr (.inl ⟨rfl, rfl, h7⟩)) fun x hx => ihA x hx (hL _ h8 x hx) (ha x hx)
  rw [if_neg k6] at hp
  simp only [Bool.and_eq_true, Bool.not_eq_true', decide_eq_true_eq] at hp
  obtain ⟨⟨⟨⟨⟨⟨h1, h3⟩, h4⟩, h5⟩, h6⟩, h7⟩, h8⟩ := hp
  obtain ⟨rfl, rfl⟩ := nameZ_es h5
  subst h1 h3
  rw [valZ_val0 h4, len0 h6]
  refine .ops k 0 false args ?_ fun x hx => ihA x hx (hL _ h8 x hx) (ha x hx)
  unfold OpShape
  by_cases h34 : k = 3 ∨ k = 4
  · rw [if_pos h34] at h7
    exact .inl ⟨h34, rfl, rfl, by omega⟩
  · rw [if_neg h34] at h7
    by_cases h77 : k = 7
    · rw [if_pos h77] at h7
      exact .inr (.inr (.inr ⟨h77, rfl, rfl, by omega⟩))
    · rw [if_neg h77] at h7
      omega

theorem dbl_len : ∀ s : List UInt8, (dblL s).length ≤ 2 * s.length
  | [] => by simp [dblL]
  | c :: s => by
    have := dbl_len s
    unfold dblL at this ⊢
    rw [List.flatMap_cons, List.length_append, List.length_cons]
    by_cases h : c = 39
    · rw [if_pos h]; simp only [List.length_cons, List.length_nil]; omega
    · rw [if_neg h]; simp only [List.length_cons, List.length_nil]; omega
theorem size_fmtV {v : Val} (h : validV v = true) (h0 : v.kind = 1 → 0 ≤ v.int ∧ v.int ≤ 9223372036854775807) : (bs (fmtV v)).size ≤ 130 := by
  show (fmtV v).toArray.size ≤ 130
  rw [List.size_toArray]
  unfold fmtV
  rw [h]
  obtain ⟨k, n, s⟩ := v
  simp only at h0 ⊢
  unfold validV at h
  simp only at h
  rw [if_neg (by decide)]
  by_cases k0 : k = 0
  · rw [if_pos k0]; decide
  rw [if_neg k0] at h ⊢
  by_cases k1 : k = 1
  · rw [if_pos k1]
    obtain ⟨hn, hm⟩ := h0 k1
    obtain ⟨u, rfl⟩ : ∃ u : Nat, n = (u : Int) := ⟨n.toNat, by omega⟩
    have hi : Lib.itoa (u : Int) = Lib.decDigits u := by unfold Lib.itoa; rw [if_neg (by omega)]; rfl
    rw [hi, Lib.decDigits_length]
    have := Lib.nDigits_le20 u (by omega)
    omega
  rw [if_neg k1] at h ⊢
  by_cases k2 : k = 2
  · rw [if_pos k2]
    split <;> decide
  rw [if_neg k2] at h ⊢
  by_cases k3 : k = 3
  · rw [if_pos k3] at h
    simp only [plainB, Bool.and_eq_true, decide_eq_true_eq] at h
    have h1 := dbl_len s.data.toList
    have h2 : s.data.toList.length = s.size := rfl
    rw [repAll_dbl, List.length_cons, List.length_append, List.length_singleton]
    omega
  · rw [if_neg k3] at h
    cases h

theorem nodesL_one (a : Ex) : nodesL [a] = nodes a := by simp [nodesL]
theorem nodesL_two (a b : Ex) : nodesL [a, b] = nodes a + nodes b := by simp [nodesL]
theorem nodesL_three (a b c : Ex) : nodesL [a, b, c] = nodes a + nodes b + nodes c := by simp [nodesL]; omega
theorem nodes_ops (k o : Int) (no : Bool) (args : List Ex) : nodes (opX k o no args []) = 1 + nodesL args := by unfold opX; rw [nodes, nodesS]; omega
theorem nodes_sub (k : Int) (st : Bool) (f : ByteArray) (items whr : List Ex) : nodes (opX k 0 false [] [.mk st items f whr]) = 1 + nodesL items + nodesL whr := by unfold opX; rw [nodes, nodesS, nodesS, nodesL]; omega
theorem nodes_pos (e : Ex) : 1 ≤ nodes e := by
  obtain ⟨k, o, no, v, t, nm, args, sub⟩ := e
  rw [nodes]
  omega
theorem name_len {s : ByteArray} (h : nameB s = true) : s.size ≤ 12 := by
  simp only [nameB, Bool.and_eq_true, decide_eq_true_eq] at h
  exact h.1.1.2
theorem kw_len {s : ByteArray} {l : List UInt8} (h : s.toList = l) : s.size = l.length := by
  rw [ByteArray.toList_eq] at h
  rw [← h]
  rfl
theorem source_len {s : ByteArray} (h : sourceB s = true) : s.size ≤ 12 := by
  unfold sourceB at h
  simp only [Bool.or_eq_true, beq_iff_eq] at h
  rcases h with (h | h) | h
  · exact name_len h
  · rw [kw_len h]; decide
  · rw [kw_len h]; decide
theorem column_len {t n : ByteArray} (h : columnB t n = true) : t.size ≤ 12 ∧ n.size ≤ 12 := by
  unfold columnB at h
  simp only [Bool.and_eq_true, Bool.or_eq_true, beq_iff_eq] at h
  refine ⟨?_, name_len h.2⟩
  rcases h.1 with ((((h | h) | h) | h) | h) | h
  · rw [kw_len h]; decide
  · rw [kw_len h]; decide
  · rw [kw_len h]; decide
  · rw [kw_len h]; decide
  · rw [kw_len h]; decide
  · exact name_len h
theorem cost_vx {e : Ex} (h : VX e) : costW (wordsP e) ≤ 200 * nodes e := by
  obtain ⟨s1, s2, s3, s4, s5, s6, s7, s8, s9, s10, s11, s12, s13, s14, s15⟩ := cost_sizes
  induction h with
  | lit v hv h0 =>
    have h1 := size_fmtV hv h0
    have := nodes_pos (litX v)
    rw [words_lit, cost_cons, cost_nil]
    omega
  | col t n h =>
    obtain ⟨h1, h2⟩ := column_len h
    have := nodes_pos (colX t n)
    rw [words_col]
    split
    · rw [cost_cons, cost_nil]; omega
    · simp only [cost_cons, cost_nil]; omega
  | ops k o no args hk ha ih =>
    rw [nodes_ops]
    unfold OpShape at hk
    rcases hk with ⟨hk, rfl, rfl, hl⟩ | ⟨rfl, rfl, hl⟩ | ⟨rfl, h1, h13, rfl, hl⟩ | ⟨rfl, rfl, rfl, hl⟩
    · match args, hl with
      | [a], _ =>
        have i1 := ih a (by simp)
        rw [nodesL_one]
        rcases hk with rfl | rfl
        · rw [words_not]
          have := cost_arg 3 0 0 a
          simp only [cost_app, cost_cons, cost_nil]
          omega
        · rw [words_neg]
          have := cost_arg 4 0 0 a
          simp only [cost_app, cost_cons, cost_nil]
          omega
    · match args, hl with
      | [a], _ =>
        have i1 := ih a (by simp)
        have := cost_arg 6 0 0 a
        rw [nodesL_one]
        cases no
        · rw [words_null0]
          simp only [cost_app, cost_cons, cost_nil]
          omega
        · rw [words_null1]
          simp only [cost_app, cost_cons, cost_nil]
          omega
    · match args, hl with
      | [a, b], _ =>
        have i1 := ih a (by simp)
        have i2 := ih b (by simp)
        have := cost_arg 5 o 0 a
        have := cost_arg 5 o 1 b
        have := cost_opS o ⟨h1, h13⟩
        rw [words_bin, nodesL_two]
        simp only [cost_app, cost_cons, cost_nil]
        omega
    · match args, hl with
      | [a, b, c], _ =>
        have i1 := ih a (by simp)
        have i2 := ih b (by simp)
        have i3 := ih c (by simp)
        have := cost_arg 7 0 0 a
        have := cost_arg 7 0 1 b
        have := cost_arg 7 0 2 c
        rw [words_btw, nodesL_three]
        simp only [cost_app, cost_cons, cost_nil]
        omega
  | sub k f items whr hi hf hw hA hB iA iB =>
    have h2 := source_len hf
    rw [nodes_sub]
    have hwh : costW (whereW (whr.map wordsP)) ≤ 6 + 200 * nodesL whr := by
      match whr, hw with
      | [], _ => simp only [List.map_nil, whereW, cost_nil]; omega
      | [x], _ =>
        have := iB x (by simp)
        rw [nodesL_one]
        simp only [List.map_cons, List.map_nil, whereW, cost_cons, cost_app, cost_nil]
        omega
      | _ :: _ :: _, h => simp at h
    have hhd : costW (headW k (items.map wordsP)) ≤ 30 + 200 * nodesL items := by
      unfold headW
      split
      · simp only [cost_cons, cost_nil]; omega
      · split
        · simp only [cost_cons, cost_nil]; omega
        · have h5 := cost_agg k
          match items, hi with
          | [], _ =>
            simp only [List.map_nil, List.getD_nil, cost_cons, cost_app, cost_nil]
            omega
          | [x], _ =>
            have := iA x (by simp)
            rw [nodesL_one]
            simp only [List.map_cons, List.map_nil, List.getD_cons_zero, cost_cons, cost_app, cost_nil]
            omega
          | _ :: _ :: _, h => simp at h
    rw [words_sub (by rcases hi with ⟨h, _⟩ | ⟨h, _⟩ <;> omega)]
    simp only [cost_cons, cost_app, cost_nil]
    omega
end Go.Proofs.YtpnigfmclmfjaaaGreatDoor
