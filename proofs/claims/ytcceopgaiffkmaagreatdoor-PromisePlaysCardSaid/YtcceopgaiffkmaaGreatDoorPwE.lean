/- PromisePlays, at every list of operations. Condition: the two tables of unicode/utf8 read as they are laid; the list reads as operations. -/
import Derived.Test.YtcceopgaiffkmaaGreatDoorPwW
import Derived.Test.YtcceopgaiffkmaaGreatDoorRunM
namespace Go.Proofs.YtcceopgaiffkmaaGreatDoor.promisePlays
open Go Go.RowKit Go.Pl
set_option maxRecDepth 100000
/-- the list, as it comes in -/
def LArg (w : World) (lv : Value) : Prop := ∃ ao len cap, lv = .slice ao len cap ∧ ∀ n, n < len → ∃ b d : Nat, ao = some ⟨b, d, none⟩ ∧ b < w.heap.size ∧ OpAt w b (d + n * 7)
set_option maxHeartbeats 4000000 in
theorem early (w : World) (ao : Option Addr) (len cap : Nat) (h : 60 < len) : Calls Tryz.prog 3 #[.slice ao len cap] w fun en w' => en = .returned (.bool true) ∧ Below w.heap.size w w' := by
  have hz : (60 : Int) < (len : Int) := by omega
  go_enter Tryz.func3, Tryz.ntmps3
  go_wp2_with fail
  refine (awake_calls _).mono ?_
  rintro en W1 ⟨rfl, hb1⟩
  go_wp2_with fail
  refine (awake_calls _).mono ?_
  rintro en W2 ⟨rfl, hb2⟩
  go_wp2_with fail
  go_ret
  exact ⟨rfl, below_then hb1 hb2⟩
theorem walk (w : World) (hT : Tabs w) (lv : Value) (hL : LArg w lv) : Calls Tryz.prog 3 #[lv] w fun en w' => en = .returned (.bool true) ∧ Below w.heap.size w w' := by
  obtain ⟨ao, len, cap, rfl, hl⟩ := hL
  by_cases h : len ≤ 60
  · exact plays_walk hT ao len cap h hl (fun W _ => awake_calls W) (fun W _ => hnew_calls W)
  · exact early w ao len cap (by omega)
end Go.Proofs.YtcceopgaiffkmaaGreatDoor.promisePlays
