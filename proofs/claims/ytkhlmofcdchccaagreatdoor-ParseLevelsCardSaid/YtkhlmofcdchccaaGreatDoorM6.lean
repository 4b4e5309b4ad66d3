/- One operation of a drawn region. No program is named here. -/
import Derived.Test.YtkhlmofcdchccaaGreatDoorKB
import Derived.Deep.RegionHeld3
namespace Go.Proofs.YtkhlmofcdchccaaGreatDoor
open Go.RowKit

section
variable {P : Program} {ops : Array Oper} {Q : Exit → Act → World → Prop} {K : Act → World → Prop} {a : Act} {w : World} {i : Nat} {o : Oper}
theorem wpOp_plain {v : Value} {w' : World} (ho : ops[i]? = some o) (hg : o.guard = none) (hrun : (execOp a.eval o).run P w = .ok (.value v) w') (h : K (a.put o.dst v) w') : wpOp P ops Q i K a w := by
  refine wpOp_step ho fun K' hK => ?_
  have hw : Region.wanted o (yielded ops a.tmps) = true := by unfold Region.wanted; rw [hg]
  rw [if_pos hw]
  unfold Oper.wp
  rw [hrun]
  exact hK _ _ h
theorem wpOp_skip {w' : World} (ho : ops[i]? = some o) (hg : o.guard = none) (hrun : (execOp a.eval o).run P w = .ok .skip w') (h : K (a.put o.dst undef) w') : wpOp P ops Q i K a w := by
  refine wpOp_step ho fun K' hK => ?_
  have hw : Region.wanted o (yielded ops a.tmps) = true := by unfold Region.wanted; rw [hg]
  rw [if_pos hw]
  unfold Oper.wp
  rw [hrun]
  exact hK _ _ h
theorem wpOp_call {f : FuncId} {args : Array Value} {v : Value} (ho : ops[i]? = some o) (hg : o.guard = none) (hrun : (execOp a.eval o).run P w = .ok (.enter f args) w) (hc : Calls P f args w (fun e w' => e = .returned v ∧ Below w.heap.size w w')) (h : ∀ w', Below w.heap.size w w' → K (a.put o.dst v) w') : wpOp P ops Q i K a w := by
  refine wpOp_step ho fun K' hK => ?_
  have hw : Region.wanted o (yielded ops a.tmps) = true := by unfold Region.wanted; rw [hg]
  rw [if_pos hw]
  unfold Oper.wp
  rw [hrun, Oper.upon_enter]
  refine hc.mono ?_
  rintro e w' ⟨rfl, hb⟩
  exact hK _ _ (h w' hb)
end
end Go.Proofs.YtkhlmofcdchccaaGreatDoor
