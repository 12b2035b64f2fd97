/- BuiltinNames: its runs. -/
import Derived.Test.YtdbhonkahlcdoaaGreatDoorRunR
namespace Go.Proofs.YtdbhonkahlcdoaaGreatDoor
open Go Go.Ev
set_option maxRecDepth 1000000
/-- a number without a name, as a symbol -/
def ansName2 (args : List CV) : Option CV := match args with
  | [.sym .i64 0] => some (.str 0 0)
  | l => ansName l
def A2 : AnsT := fun g => match Nat.beq g 13 with
  | true => some ansName2
  | false => A1 g
noncomputable def nm (A : AnsT) (x : CV) (i b : Int × Int) : Res := runs A 5 [x, .sym .i64 1] ⟨[i, b], []⟩
end Go.Proofs.YtdbhonkahlcdoaaGreatDoor
