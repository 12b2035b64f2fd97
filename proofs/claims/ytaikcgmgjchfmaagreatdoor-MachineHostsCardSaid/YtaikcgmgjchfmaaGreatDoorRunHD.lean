/- MachineHosts: its arguments by their digits, and the runs of it. -/
import Derived.Test.YtaikcgmgjchfmaaGreatDoorRunR
namespace Go.Proofs.YtaikcgmgjchfmaaGreatDoor
open Go Go.Ev
set_option maxRecDepth 1000000
/-- a number of k digits, from the unit on -/
def fm (off : Nat) (neg : Bool) (k : Nat) : Ts := match neg, k with
  | false, 1 => [(1, off)]
  | false, 2 => [(1, off), (10, off + 1)]
  | false, 3 => [(1, off), (10, off + 1), (100, off + 2)]
  | false, 4 => [(1, off), (10, off + 1), (100, off + 2), (1000, off + 3)]
  | false, 5 => [(1, off), (10, off + 1), (100, off + 2), (1000, off + 3), (10000, off + 4)]
  | true, 1 => [(-1, off)]
  | true, 2 => [(-1, off), (-10, off + 1)]
  | true, 3 => [(-1, off), (-10, off + 1), (-100, off + 2)]
  | true, 4 => [(-1, off), (-10, off + 1), (-100, off + 2), (-1000, off + 3)]
  | true, 5 => [(-1, off), (-10, off + 1), (-100, off + 2), (-1000, off + 3), (-10000, off + 4)]
  | _, _ => []
def dg (neg : Bool) (k : Nat) : Ivs := match neg, k with
  | false, 1 => [(0, 9), (0, 9), (0, 9), (0, 9), (0, 9)]
  | false, 2 => [(0, 9), (1, 9), (0, 9), (0, 9), (0, 9)]
  | false, 3 => [(0, 9), (0, 9), (1, 9), (0, 9), (0, 9)]
  | false, 4 => [(0, 9), (0, 9), (0, 9), (1, 9), (0, 9)]
  | false, 5 => [(0, 9), (0, 9), (0, 9), (0, 9), (1, 3)]
  | true, 1 => [(1, 9), (0, 9), (0, 9), (0, 9), (0, 9)]
  | true, 2 => [(0, 9), (1, 9), (0, 9), (0, 9), (0, 9)]
  | true, 3 => [(0, 9), (0, 9), (1, 9), (0, 9), (0, 9)]
  | true, 4 => [(0, 9), (0, 9), (0, 9), (1, 9), (0, 9)]
  | true, 5 => [(0, 9), (0, 9), (0, 9), (0, 9), (1, 3)]
  | _, _ => []
def ivs (na : Bool) (ka : Nat) (nb : Bool) (kb : Nat) : Ivs := dg na ka ++ (dg nb kb ++ [(0, 255)])
def nes (k : Nat) : List (Int × Ts) := [(0, fm 0 false k ++ fm 5 true k)]
def nesN (ka kb : Nat) : List (Int × Ts) := match Nat.beq ka kb with | true => nes ka | false => []
/-- two numbers that differ -/
noncomputable def hN (how : Nat) (na : Bool) (ka : Nat) (nb : Bool) (kb : Nat) : Res := runD 5 [.lin .i16 0 (fm 0 na ka), .lin .i16 0 (fm 5 nb kb), .symr .u8 10 6 how 1] ⟨ivs na ka nb kb, nesN ka kb⟩
/-- two numbers of the same digits -/
noncomputable def hE (how : Nat) (na nb : Bool) (k : Nat) : Res := runD 5 [.lin .i16 0 (fm 0 na k), .lin .i16 0 (fm 0 nb k), .symr .u8 10 6 how 1] ⟨ivs (na || nb) k nb k, []⟩
end Go.Proofs.YtaikcgmgjchfmaaGreatDoor
