/- Which types fit in the reference: the contract of its fits. -/
import Derived.Test.YtppiaaolggpjdaaDoorKD1
namespace Go.Proofs.YtppiaaolggpjdaaDoor
open Go.RowKit

def assignB (a b : Int) : Bool := b == 0 || b == a

theorem bool_ret {x y : Bool} {w w' : World} (h : x = y) (hw : w = w') : Ending.returned (.bool x) = .returned (.bool y) ∧ w = w' := ⟨by rw [h], hw⟩

set_option maxHeartbeats 400000 in
theorem rfits_any (a b : Int) (w : World) : Calls Tryd.prog 125 #[.int .i64 b, .int .i64 a] w fun e w' => e = .returned (.bool (assignB a b)) ∧ w = w' := by
  cases h0 : (b == 0) with
  | true =>
    have HA : Hid (assignB a b = true) := Lib.hid (by unfold assignB; rw [h0]; rfl)
    go_enter Tryd.func125, Tryd.ntmps125
    go_wp2_with fail
    go_ret
    exact bool_ret HA.out.symm rfl
  | false =>
    have HA : Hid (assignB a b = (b == a)) := Lib.hid (by unfold assignB; rw [h0]; rfl)
    go_enter Tryd.func125, Tryd.ntmps125
    go_wp2_with fail
    go_ret
    exact bool_ret HA.out.symm rfl
end Go.Proofs.YtppiaaolggpjdaaDoor
