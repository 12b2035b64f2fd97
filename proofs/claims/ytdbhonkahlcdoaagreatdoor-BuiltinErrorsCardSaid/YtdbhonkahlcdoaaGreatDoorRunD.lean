/- The evaluator, set upon this program: its tables. -/
import Derived.Test.YtdbhonkahlcdoaaGreatDoorEvO
import Derived.Test.YtdbhonkahlcdoaaGreatDoorProg
import Derived.KernelRfl
namespace Go.Proofs.YtdbhonkahlcdoaaGreatDoor
open Go Go.Ev
set_option maxRecDepth 1000000
/-- the functions whose drawn regions are looked at beforehand -/
def drawn (f : FuncId) : Bool := match Nat.beq f 88 || Nat.beq f 95 || Nat.beq f 438 with | true => false | false => true
noncomputable def heap0 : Hp := ofList (List.replicate 11 CB.none)
noncomputable def tyT : Tr TypeInfo := ofList Tryz.prog.types.toList
noncomputable def fnT : Tr Func := ofList Tryz.prog.funcs.toList
noncomputable def tyI (t : TypeId) : Option TypeInfo := infoT Tryz.prog tyT t
noncomputable def fnF (f : FuncId) : Option Func := fnT.get? f
noncomputable def glo0 : Nat → Bool := fun _ => false
theorem vt {r t : Res} (h : r = t) (ht : t.val = true) : r.val = true := by rw [h]; exact ht
end Go.Proofs.YtdbhonkahlcdoaaGreatDoor
