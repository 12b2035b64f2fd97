/- BuiltinErrors: its number by its digits, and the runs of it. -/
import Derived.Test.YtdbhonkahlcdoaaGreatDoorRunRP
import Derived.Test.YtdbhonkahlcdoaaGreatDoorFmtP
namespace Go.Proofs.YtdbhonkahlcdoaaGreatDoor
open Go Go.Ev
set_option maxRecDepth 1000000
/-- the functions through which a panic of a builtin function may pass -/
def PSe : FuncId → Bool := fun f => Nat.beq f 131 || Nat.beq f 132 || Nat.beq f 133 || Nat.beq f 134 || Nat.beq f 135 || Nat.beq f 136 || Nat.beq f 137 || Nat.beq f 138 || Nat.beq f 139 || Nat.beq f 140 || Nat.beq f 141 || Nat.beq f 142 || Nat.beq f 219 || Nat.beq f 223 || Nat.beq f 224 || Nat.beq f 225 || Nat.beq f 226 || Nat.beq f 227 || Nat.beq f 228 || Nat.beq f 230 || Nat.beq f 231 || Nat.beq f 232 || Nat.beq f 233 || Nat.beq f 235 || Nat.beq f 236 || Nat.beq f 237 || Nat.beq f 238 || Nat.beq f 239 || Nat.beq f 240 || Nat.beq f 241 || Nat.beq f 242 || Nat.beq f 255 || Nat.beq f 259 || Nat.beq f 260 || Nat.beq f 261 || Nat.beq f 320 || Nat.beq f 322 || Nat.beq f 324
/-- the script h, a number of ka digits -/
noncomputable def er (h : Nat) (na : Bool) (ka : Nat) : Res := runsP (withFmt A1 0 na ka) PSe 4 [.lin .u8 (Int.ofNat h) [(18, 5)], .lin .i16 0 (fm 0 na ka)] ⟨dg na ka ++ [(0, Int.ofNat ((255 - h) / 18))], []⟩
end Go.Proofs.YtdbhonkahlcdoaaGreatDoor
