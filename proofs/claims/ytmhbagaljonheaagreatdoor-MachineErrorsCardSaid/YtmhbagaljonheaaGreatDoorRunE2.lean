/- MachineErrors: the evaluator's run of it at a string of more than 60 bytes, by the kernel. -/
import Derived.Test.YtmhbagaljonheaaGreatDoorRunA
import Derived.KernelRfl
namespace Go.Proofs.YtmhbagaljonheaaGreatDoor
open Go Go.Ev
set_option maxRecDepth 1000000
set_option maxHeartbeats 40000000
/-- no contract -/
def ans0 (_ : List CV) : Option CV := none
noncomputable def runs0 (f : FuncId) (args : List CV) (tab : Tab) : Res := stepS (D := 10) Tryz.prog tyI fnF glo0 drawn 1000000 (callRS (D := 10) Tryz.prog tyI fnF glo0 drawn awT 82 ans0 1000000 140) (.func f) (encVs args) tab (encH 10 heap0) 8 (isTS 10)
theorem rep0 (σ : Sg) : RepOk Tryz.prog σ 82 ans0 := by
  obtain ⟨c, hc⟩ : ∃ c, Tryz.f82.body = some c := Option.isSome_iff_exists.1 (by kernel_rfl)
  exact ⟨Tryz.f82, c, Tryz.func82, hc, fun _ _ h => by cases h⟩
theorem law_calls0 {f : FuncId} {fn : Func} (hf : Tryz.prog.funcs[f]? = some fn) {cb : Code} (hbody : fn.body = some cb) {σ : Sg} {args : List CV} {tab : Tab} (hr : (runs0 f args tab).val = true) (hs : Sat σ tab) (w : World)
    (hx : ∀ r o, σ.fx r = some o → w.heap[r]? = some o) (vs : Array Value) (hv : LR σ (fun _ => none) args vs.toList) : Calls Tryz.prog f vs w fun e w' => e = .returned (.bool true) ∧ w.keptBut w' (fun _ => False) :=
  calls_true noCount (callR_sound noCount extFact awT_ok (rep0 σ) 1000000 140) hf hbody (runR_step tyI_eq fnF_eq drawFact hr) hs w hx vs hv
theorem errorsL : (runs0 3 [.sym .i64 2, .agg [.sym .i64 3, .sym .i64 4, .ssym 0 0, .sym .i64 5], .sym .u16 6] ⟨[(61, 9223372036854775807), (0, 9223372036854775807), (-9223372036854775808, 9223372036854775807), (-9223372036854775808, 9223372036854775807), (-9223372036854775808, 9223372036854775807), (-9223372036854775808, 9223372036854775807), (0, 65535)], []⟩).val = true := vt (t := .ok) (by kernel_rfl) rfl
end Go.Proofs.YtmhbagaljonheaaGreatDoor
