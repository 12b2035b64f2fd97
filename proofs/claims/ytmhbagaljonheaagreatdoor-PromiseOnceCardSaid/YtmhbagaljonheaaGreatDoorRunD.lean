/- The evaluator, set upon this program: its tables, and a law's run. -/
import Derived.Test.YtmhbagaljonheaaGreatDoorEvI
import Derived.Test.YtmhbagaljonheaaGreatDoorProg
import Derived.KernelRfl
namespace Go.Proofs.YtmhbagaljonheaaGreatDoor
open Go Go.Ev
set_option maxRecDepth 1000000
/-- the functions whose drawn regions are looked at beforehand -/
def drawn (f : FuncId) : Bool := match Nat.beq f 208 || Nat.beq f 216 with | true => false | false => true
noncomputable def heap0 : Hp := ofList (List.replicate 8 CB.none)
noncomputable def tyT : Tr TypeInfo := ofList Tryz.prog.types.toList
noncomputable def fnT : Tr Func := ofList Tryz.prog.funcs.toList
noncomputable def tyI (t : TypeId) : Option TypeInfo := infoT Tryz.prog tyT t
noncomputable def fnF (f : FuncId) : Option Func := fnT.get? f
noncomputable def glo0 : Nat → Bool := fun _ => false
theorem vt {r t : Res} (h : r = t) (ht : t.val = true) : r.val = true := by rw [h]; exact ht
/-- the two awakes hand back true -/
def awT (f : FuncId) : Option KRows := match Nat.beq f 6 || Nat.beq f 20 with | true => some [([], .bool true)] | false => none
/-- a string symbol repaired is the symbol beside it; that one stays -/
def ans1 (l : List CV) : Option CV := match l with
  | [.ssym s _] => match Nat.beq s 0 with
    | true => some (.ssym 1 1)
    | false => match Nat.beq s 1 with | true => some (.ssym 1 1) | false => none
  | _ => none
/-- a law's run: the awakes by their answer, text.Repair by its contract -/
noncomputable def runs (f : FuncId) (args : List CV) (tab : Tab) : Res := stepS (D := 10) Tryz.prog tyI fnF glo0 drawn 1000000 (callRS (D := 10) Tryz.prog tyI fnF glo0 drawn awT 82 ans1 1000000 140) (.func f) (encVs args) tab (encH 10 heap0) 8 (isTS 10)
end Go.Proofs.YtmhbagaljonheaaGreatDoor
