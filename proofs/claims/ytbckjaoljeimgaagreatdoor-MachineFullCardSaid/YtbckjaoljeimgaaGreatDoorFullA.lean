/- Handle and Norm of the arena at the salt 0, as contracts. Condition: the slot is below 100000. -/
import Derived.Test.YtbckjaoljeimgaaGreatDoorChecked
import Derived.WalkKit
import Derived.WalkMore
import Derived.OwnWalk
import Derived.ProofKit
import Derived.OneCell
namespace Go.Proofs.YtbckjaoljeimgaaGreatDoor
open Go Go.RowKit
set_option maxRecDepth 100000
theorem i27 : (Tryz.prog.info? 27).map (·.size) = some 2 := by kernel_rfl
theorem norm0 (w : World) : Calls Tryz.prog 93 #[.agg #[.int .i64 0, .int .i64 0]] w (fun e w' => e = .returned (.agg #[.int .i64 1, .int .i64 1]) ∧ Below w.heap.size w w') := by
  go_enter Tryz.func93, Tryz.ntmps93
  go_wp2
  refine bodyPost_ret (results_cell_row rfl _ _ (w.heap.size + 1) 27 #[.int .i64 1, .int .i64 1] (0, 0) _ rfl (heap_alloc2_new _ _ _) Tryz.underlying27 rfl i27) rfl ?_
  exact ⟨rfl, (((Below.refl _ _).alloc (Nat.le_refl _) _).alloc (by simp) _)⟩
theorem handle0 (n : Nat) (w : World) (hn : n < 100000) : Calls Tryz.prog 48 #[.agg #[.int .i64 0, .int .i64 0], .int .i64 n] w (fun e w' => e = .returned (.int .i64 ((n : Int) + 1)) ∧ Below w.heap.size w w') := by
  have h1 : ¬ ((n : Int) < 0) := by omega
  have h2 : ¬ ((2147483647 : Int) < n) := by omega
  go_enter Tryz.func48, Tryz.ntmps48
  go_wp2_with fail
  refine (norm0 _).mono ?_
  rintro e w2 ⟨rfl, hbel⟩
  go_wp2
  go_ret
  refine ⟨?_, ?_⟩
  · show Ending.returned (Value.int IntKind.i64 (1 + ↑n)) = _
    rw [Int.add_comm]
  · have h3 := (Below.refl w.heap.size w).alloc (Nat.le_refl _) (.cells #[.int .i64 0, .int .i64 0] 27)
    have h4 := h3.trans (hbel.mono (by simp))
    exact h4.alloc (Nat.le_trans (by simp) hbel.size) _
end Go.Proofs.YtbckjaoljeimgaaGreatDoor
