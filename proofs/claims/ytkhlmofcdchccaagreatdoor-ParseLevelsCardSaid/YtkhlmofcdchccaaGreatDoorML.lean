/- Long rows of cells: stored whole. No program is named here. -/
import Derived.Test.YtkhlmofcdchccaaGreatDoorKB
import Derived.Deep.MidRow
import Derived.Laws.Rows
namespace Go.Proofs.YtkhlmofcdchccaaGreatDoor
open Go.RowKit

def setLm : List Value → Nat → List Value → List Value
  | l, _, [] => l
  | l, i, c :: cs => setLm (l.set i c) (i + 1) cs
theorem heap_setCellsM {g : Nat} {e : TypeId} : ∀ (cs : List Value) (i : Nat) (w : World) (cur : Array Value), w.heap[g]? = some (.cells cur e (0, 0)) → ∃ cur', (w.setCells g i cs).heap[g]? = some (.cells cur' e (0, 0)) ∧ cur'.toList = setLm cur.toList i cs
  | [], _, _, cur, h => ⟨cur, h, rfl⟩
  | c :: cs, i, w, cur, h => by
    have h' : (w.setCell ⟨g, i, none⟩ c).heap[g]? = some (.cells (cur.setIfInBounds i c) e (0, 0)) := by simp [World.setCell, Array.getElem?_modify, h]
    obtain ⟨cur', h1, h2⟩ := heap_setCellsM cs (i + 1) _ _ h'
    exact ⟨cur', h1, by rw [h2, setLm]; simp⟩
theorem blkM_set {w : World} {S : Nat} {c : Array Value} {v : List Value} {c' : Array Value} {e : TypeId} (hc : c'.toList = setLm c.toList 0 v) (h : w.heap[S]? = some (.cells c e (0, 0))) : (w.setCells S 0 v).heap[S]? = some (.cells c' e (0, 0)) := by
  obtain ⟨cur, h1, h2⟩ := heap_setCellsM v 0 w c h
  have h3 : cur = c' := Array.toList_inj.1 (by rw [h2, hc])
  rw [h1, h3]
theorem there_blkM {w : World} {b : Nat} {C : Array Value} {t : TypeId} (hb : w.heap[b]? = some (.cells C t (0, 0))) : w.there b 0 C.size := fun j hj => ⟨by simp [World.cell?, hb, hj], by simp [World.frozen?, hb]⟩
theorem keep_setCellsM {C : Nat} : ∀ (vs : List Value) (o : Nat) (w : World), Keep (At C) w (w.setCells C o vs)
  | [], _, w => Keep.refl _ w
  | v :: vs, o, w => ((Keep.refl (At C) w).setCell (p := ⟨C, o, none⟩) (fun _ => rfl) v).trans (keep_setCellsM vs (o + 1) _)
theorem blkM_at {w : World} {b i : Nat} {l : List Value} {e : TypeId} {v : Value} (hb : w.heap[b]? = some (.cells l.toArray e (0, 0))) (h : l[i]? = some v) : w.cell? ⟨b, i, none⟩ = some v := by simp [World.cell?, hb, h]
theorem blkM_fr {w : World} {b : Nat} {l : Array Value} {e : TypeId} (hb : w.heap[b]? = some (.cells l e (0, 0))) (i : Nat) : w.frozen? ⟨b, i, none⟩ = false := by simp [World.frozen?, hb]
theorem blkM_lt {w : World} {b : Nat} {o : Obj} (hb : w.heap[b]? = some o) : b < w.heap.size := (Array.getElem?_eq_some_iff.1 hb).1
end Go.Proofs.YtkhlmofcdchccaaGreatDoor
