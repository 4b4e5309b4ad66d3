/- The sanity check of the statements of chapter 14: the contract of known. -/
import Derived.Test.YtiheioajnfggmaaDoorC18
import Derived.Test.YtiheioajnfggmaaDoorC14
import Derived.Test.YtiheioajnfggmaaDoorC16
namespace Go.Proofs.YtiheioajnfggmaaDoor
open Go.RowKit

def lK : List Frm := [⟨bs [78, 69, 87], true, schT.cols⟩, ⟨bs [117], false, schU.cols⟩]
def eK : Ex := binX 5 (colX ⟨#[]⟩ ⟨#[109]⟩) (litX ⟨1, 1, ⟨#[]⟩⟩)

theorem resK1 : resolve ⟨#[78, 69, 87]⟩ ⟨#[98]⟩ lK = some (0, 2) := by decide +kernel
theorem resK2 : resolve ⟨#[]⟩ ⟨#[109]⟩ lK = some (1, 2) := by decide +kernel
theorem resK3 : resolve ⟨#[]⟩ ⟨#[98]⟩ lK = none := by decide +kernel
theorem typK : typeP [] eK lK = (2, 0) := by decide +kernel

theorem callK1 (v : Value) (w : World) (h : FrmsR NoM w v lK) : Calls Tryd.prog 17 #[v, .string ⟨#[78, 69, 87]⟩, .string ⟨#[98]⟩] w (RetBel (.tuple #[.int .i64 0, .int .i64 2, .bool true]) w) := by
  have := resolve_any v lK ⟨#[78, 69, 87]⟩ ⟨#[98]⟩ w h
  rw [resK1] at this
  exact this
theorem callK2 (v : Value) (w : World) (h : FrmsR NoM w v lK) : Calls Tryd.prog 17 #[v, .string ⟨#[]⟩, .string ⟨#[109]⟩] w (RetBel (.tuple #[.int .i64 1, .int .i64 2, .bool true]) w) := by
  have := resolve_any v lK ⟨#[]⟩ ⟨#[109]⟩ w h
  rw [resK2] at this
  exact this
theorem callK3 (v : Value) (w : World) (h : FrmsR NoM w v lK) : Calls Tryd.prog 17 #[v, .string ⟨#[]⟩, .string ⟨#[98]⟩] w (RetBel (.tuple #[.int .i64 0, .int .i64 0, .bool false]) w) := by
  have := resolve_any v lK ⟨#[]⟩ ⟨#[98]⟩ w h
  rw [resK3] at this
  exact this
theorem callK4 (v : Value) (cs : List Value) (w : World) (h : FrmsR NoM w v lK) (he : EC NoM w eK cs) : Calls Tryd.prog 22 #[.agg cs.toArray, v, .slice none 0 0] w (RetBel (.tuple #[.int .i64 2, .int .i64 0]) w) := by
  have := type_any [] (fun s h => by cases h) eK lK cs v (.slice none 0 0) w he h (RowsR.nil ..) (by decide +kernel)
  rw [typK] at this
  exact this

theorem lK_rep {w : World} {a1 a2 : Option Addr} {p1 p2 : Nat} (h1 : ColsR NoM w (.slice a1 schT.cols.length p1) schT.cols) (h2 : ColsR NoM w (.slice a2 schU.cols.length p2) schU.cols) :
    FrmsR NoM (w.alloc (.cells #[.string ⟨#[78, 69, 87]⟩, .bool true, .slice a1 schT.cols.length p1, .slice none 0 0, .string ⟨#[117]⟩, .bool false, .slice a2 schU.cols.length p2, .slice none 0 0] 33)) (.slice (some ⟨w.heap.size, 0, none⟩) 2 2) lK :=
  rows_two (R := FrmR NoM _) _ _ [.string ⟨#[78, 69, 87]⟩, .bool true, .slice a1 schT.cols.length p1, .slice none 0 0] [.string ⟨#[117]⟩, .bool false, .slice a2 schU.cols.length p2, .slice none 0 0] rfl id rfl rfl rfl
    (frm_cells (h1.keep ((Keep.refl _ w).alloc _))) (frm_cells (h2.keep ((Keep.refl _ w).alloc _)))

set_option maxRecDepth 100000 in
set_option maxHeartbeats 1000000 in
theorem known14_any (w : World) : Calls Tryd.prog 19 #[] w (RetBel (.bool true) w) := by
  have hcols := run_cols
  have tok1 : Hid True := trivial
  have tok2 : Hid True := trivial
  have tok3 : Hid True := trivial
  have tok4 : Hid True := trivial
  have tok5 : Hid True := trivial
  go_enter Tryd.func19, Tryd.ntmps19
  go_wp2_with (first
    | (go_at_call 18; have _t := tok1; refine (schema_t _).mono ?_; rintro e w1 ⟨vc, rfl, hc, hb⟩; obtain ⟨a1, p1, rfl, _⟩ := hc.shape; have HC1 := Lib.hid (hc.weak (M' := NoM) fun _ _ h => h.elim); have HB1 := Lib.hid hb; clear hc hb tok1)
    | (go_at_call 18; have _t := tok2; refine (schema_u _).mono ?_; rintro e w2 ⟨vc, rfl, hc, hb⟩; obtain ⟨a2, p2, rfl, _⟩ := hc.shape; have HC2 := Lib.hid (hc.weak (M' := NoM) fun _ _ h => h.elim); have HC1b := Lib.hid (HC1.out.keep (.bel hb)); have HB2 := Lib.hid (bel_trans HB1.out hb); have HF2 := Lib.hid (lK_rep HC1b.out (hc.weak (M' := NoM) fun _ _ h => h.elim)); clear hc hb tok2)
    | (go_at_call 17; have _t := tok3; refine (callK1 _ _ HF2.out).mono ?_; rintro e w3 ⟨rfl, hb⟩; have HF3 := Lib.hid (HF2.out.keep (.bel hb)); have HB3 := Lib.hid (bel_trans ((HB2.out.alloc HB2.out.size _)) hb); clear hb tok3)
    | (go_at_call 17; have _t := tok4; refine (callK2 _ _ HF3.out).mono ?_; rintro e w4 ⟨rfl, hb⟩; have HF4 := Lib.hid (HF3.out.keep (.bel hb)); have HB4 := Lib.hid (bel_trans HB3.out hb); clear hb tok4)
    | (go_at_call 17; refine (callK3 _ _ HF4.out).mono ?_; rintro e w5 ⟨rfl, hb⟩; have HF5 := Lib.hid (HF4.out.keep (.bel hb)); have HB5 := Lib.hid (bel_trans HB4.out hb); clear hb)
    | (go_at_call 65; refine (col_any _ _ _).mono ?_; rintro e w6 ⟨rfl, hb⟩; have HF6 := Lib.hid (HF5.out.keep (.bel hb)); have HB6 := Lib.hid (bel_trans HB5.out hb); clear hb)
    | (go_at_call 66; refine (num_pos _ (by omega) _).mono ?_; rintro e w7 ⟨rfl, hb⟩; have HF7 := Lib.hid (HF6.out.keep (.bel hb)); have HB7 := Lib.hid (bel_trans HB6.out hb); clear hb)
    | (go_at_call 64; refine (bin_any (M := NoM) 5 (colX ⟨#[]⟩ ⟨#[109]⟩) (litX ⟨1, 1, ⟨#[]⟩⟩) _ _ _ (ec_nil ..) (ec_nil ..) (fun _ _ => id)).mono ?_; rintro e w8 ⟨cs, rfl, he, hb⟩; have HE8 := Lib.hid he; have HF8 := Lib.hid (HF7.out.keep (.bel hb)); have HB8 := Lib.hid (bel_trans HB7.out hb); clear he hb)
    | (go_at_call 22; refine (callK4 _ _ _ HF8.out HE8.out).mono ?_; rintro e w9 ⟨rfl, hb⟩; have HB9 := Lib.hid (bel_trans HB8.out hb); clear hb))
  go_ret
  exact ⟨rfl, HB9.out⟩

end Go.Proofs.YtiheioajnfggmaaDoor
