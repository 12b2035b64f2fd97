/- A law's run with panics that are recovered, by the evaluator's own laws. -/
import Derived.Test.YtdbhonkahlcdoaaGreatDoorRunA
import Derived.Test.YtdbhonkahlcdoaaGreatDoorRunRP
namespace Go.Proofs.YtdbhonkahlcdoaaGreatDoor
open Go Go.Ev
variable {σ : Sg}
/-- a call of a law whose run is seen -/
theorem law_callsP {A : AnsT} {PS : FuncId → Bool} {f : FuncId} {fn : Func} (hf : Tryz.prog.funcs[f]? = some fn) {cb : Code} (hbody : fn.body = some cb) {args : List CV} {tab : Tab} (hr : (runsP A PS f args tab).val = true) (hA : AnsOk Tryz.prog σ A) (hs : Sat σ tab) (w : World)
    (hx : ∀ r o, σ.fx r = some o → w.heap[r]? = some o) (hpn : ∀ b, σ.pn b = none) (vs : Array Value) (hv : LR σ (fun _ => none) args vs.toList) : Calls Tryz.prog f vs w fun e w' => e = .returned (.bool true) ∧ w.keptBut w' (fun _ => False) :=
  calls_true noCount (callP_sound noCount extFact hA PS 10 70 1000000 140) hf hbody (runP_step tyI_eq fnF_eq drawFact dirT_ok hr) hs w hx hpn vs hv
#print axioms law_callsP
end Go.Proofs.YtdbhonkahlcdoaaGreatDoor
