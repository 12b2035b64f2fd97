/- PromiseAwaits: its number by its digits, and the runs of it. -/
import Derived.Test.YtapognhadfncmaaGreatDoorRunR
namespace Go.Proofs.YtapognhadfncmaaGreatDoor
open Go Go.Ev
set_option maxRecDepth 1000000
/-- a number of k digits, from the unit on -/
def fm (off : Nat) (neg : Bool) (k : Nat) : Ts := match neg, k with
  | false, 1 => [(1, off)]
  | false, 2 => [(1, off), (10, off + 1)]
  | false, 3 => [(1, off), (10, off + 1), (100, off + 2)]
  | false, 4 => [(1, off), (10, off + 1), (100, off + 2), (1000, off + 3)]
  | false, 5 => [(1, off), (10, off + 1), (100, off + 2), (1000, off + 3), (10000, off + 4)]
  | true, 1 => [(-1, off)]
  | true, 2 => [(-1, off), (-10, off + 1)]
  | true, 3 => [(-1, off), (-10, off + 1), (-100, off + 2)]
  | true, 4 => [(-1, off), (-10, off + 1), (-100, off + 2), (-1000, off + 3)]
  | true, 5 => [(-1, off), (-10, off + 1), (-100, off + 2), (-1000, off + 3), (-10000, off + 4)]
  | _, _ => []
def dg (neg : Bool) (k : Nat) : Ivs := match neg, k with
  | false, 1 => [(0, 9), (0, 9), (0, 9), (0, 9), (0, 9)]
  | false, 2 => [(0, 9), (1, 9), (0, 9), (0, 9), (0, 9)]
  | false, 3 => [(0, 9), (0, 9), (1, 9), (0, 9), (0, 9)]
  | false, 4 => [(0, 9), (0, 9), (0, 9), (1, 9), (0, 9)]
  | false, 5 => [(0, 9), (0, 9), (0, 9), (0, 9), (1, 3)]
  | true, 1 => [(1, 9), (0, 9), (0, 9), (0, 9), (0, 9)]
  | true, 2 => [(0, 9), (1, 9), (0, 9), (0, 9), (0, 9)]
  | true, 3 => [(0, 9), (0, 9), (1, 9), (0, 9), (0, 9)]
  | true, 4 => [(0, 9), (0, 9), (0, 9), (1, 9), (0, 9)]
  | true, 5 => [(0, 9), (0, 9), (0, 9), (0, 9), (1, 3)]
  | _, _ => []
/-- k awaits, the kind h of what is awaited, a number of ka digits -/
noncomputable def aw (h k : Nat) (na : Bool) (ka : Nat) : Res := runD 5 [.symr .u8 5 8 k 1, .lin .i16 0 (fm 0 na ka), .symr .u8 6 4 h 1] ⟨dg na ka ++ [(0, 255), (0, 255)], []⟩
end Go.Proofs.YtapognhadfncmaaGreatDoor
