/- value.Normal and knapsackref30.Normal, of every value that is no object: small runs, by the kernel. -/
import Derived.Test.YtmhbagaljonheaaGreatDoorRunA
import Derived.Test.YtmhbagaljonheaaGreatDoorEvI
import Derived.KernelRfl
namespace Go.Proofs.YtmhbagaljonheaaGreatDoor
open Go Go.Ev
set_option maxRecDepth 1000000
set_option maxHeartbeats 40000000
def ovN (call : CallFn) : CallFn := ovrR 82 ans1 (ovrR 64 ans1 call)
noncomputable def ovNS (call : CallS 10) : CallS 10 := ovrRS 82 ans1 (ovrRS 64 ans1 call)
theorem ovN_ok (cS : CallS 10) (cl : CallFn) (h : CallOK cS cl) : CallOK (ovNS cS) (ovN cl) := ovrRS_ok 82 ans1 (ovrRS_ok 64 ans1 h)
noncomputable def runN (f : FuncId) (args : List CV) (tab : Tab) (r : CV) : Res := stepS (D := 10) Tryz.prog tyI fnF G0 drawn 1000000 (callGS (D := 10) Tryz.prog tyI fnF drawn ovNS 1000000 140) (.func f) (encVs args) tab (encH 10 heap0) 8 (isRS 10 r [])
theorem runN_at {f : FuncId} {args : List CV} {tab : Tab} {r : CV} (h : (runN f args tab r).val = true) : callStep Tryz.prog G0 1000000 (callG Tryz.prog ovN 1000000 140) (.func f) args ⟨heap0, 8, tab⟩ (isRP r []) = true :=
  runG_step tyI_eq fnF_eq drawFact ovN_ok h
def Norms (f : FuncId) : Prop :=
    (runN f [.agg [.int .i64 0, .sym .i64 4, .ssym 0 0, .sym .i64 5]] ⟨[(0, 60), (0, 9223372036854775807), (0, 0), (0, 0), (-9223372036854775808, 9223372036854775807), (-9223372036854775808, 9223372036854775807)], []⟩ (.agg [.int .i64 0, .int .i64 0, .str 0 0, .int .i64 0])).val = true ∧
    (runN f [.agg [.int .i64 1, .sym .i64 4, .ssym 0 0, .sym .i64 5]] ⟨[(0, 60), (0, 9223372036854775807), (0, 0), (0, 0), (-9223372036854775808, 9223372036854775807), (-9223372036854775808, 9223372036854775807)], []⟩ (.agg [.int .i64 1, .int .i64 0, .str 0 0, .int .i64 0])).val = true ∧
    (runN f [.agg [.int .i64 2, .sym .i64 4, .ssym 0 0, .sym .i64 5]] ⟨[(0, 60), (0, 9223372036854775807), (0, 0), (0, 0), (-9223372036854775808, -1), (-9223372036854775808, 9223372036854775807)], []⟩ (.agg [.int .i64 2, .int .i64 1, .str 0 0, .int .i64 0])).val = true ∧
    (runN f [.agg [.int .i64 2, .int .i64 0, .ssym 0 0, .sym .i64 5]] ⟨[(0, 60), (0, 9223372036854775807), (0, 0), (0, 0), (0, 0), (-9223372036854775808, 9223372036854775807)], []⟩ (.agg [.int .i64 2, .int .i64 0, .str 0 0, .int .i64 0])).val = true ∧
    (runN f [.agg [.int .i64 2, .sym .i64 4, .ssym 0 0, .sym .i64 5]] ⟨[(0, 60), (0, 9223372036854775807), (0, 0), (0, 0), (1, 9223372036854775807), (-9223372036854775808, 9223372036854775807)], []⟩ (.agg [.int .i64 2, .int .i64 1, .str 0 0, .int .i64 0])).val = true ∧
    (runN f [.agg [.int .i64 3, .sym .i64 4, .ssym 0 0, .sym .i64 5]] ⟨[(0, 60), (0, 9223372036854775807), (0, 0), (0, 0), (-9223372036854775808, 9223372036854775807), (-9223372036854775808, 9223372036854775807)], []⟩ (.agg [.int .i64 3, .sym .i64 4, .str 0 0, .int .i64 0])).val = true ∧
    (runN f [.agg [.int .i64 4, .sym .i64 4, .ssym 0 0, .sym .i64 5]] ⟨[(0, 60), (0, 9223372036854775807), (0, 0), (0, 0), (-9223372036854775808, 9223372036854775807), (-9223372036854775808, 9223372036854775807)], []⟩ (.agg [.int .i64 4, .int .i64 0, .ssym 1 1, .int .i64 0])).val = true ∧
    (runN f [.agg [.int .i64 6, .sym .i64 4, .ssym 0 0, .sym .i64 5]] ⟨[(0, 60), (0, 9223372036854775807), (0, 0), (0, 0), (-9223372036854775808, 9223372036854775807), (-9223372036854775808, 9223372036854775807)], []⟩ (.agg [.int .i64 6, .int .i64 0, .str 0 0, .int .i64 0])).val = true ∧
    (runN f [.agg [.sym .i64 3, .sym .i64 4, .ssym 0 0, .sym .i64 5]] ⟨[(0, 60), (0, 9223372036854775807), (0, 0), (-9223372036854775808, -1), (-9223372036854775808, 9223372036854775807), (-9223372036854775808, 9223372036854775807)], []⟩ (.agg [.int .i64 0, .int .i64 0, .str 0 0, .int .i64 0])).val = true ∧
    (runN f [.agg [.sym .i64 3, .sym .i64 4, .ssym 0 0, .sym .i64 5]] ⟨[(0, 60), (0, 9223372036854775807), (0, 0), (7, 9223372036854775807), (-9223372036854775808, 9223372036854775807), (-9223372036854775808, 9223372036854775807)], []⟩ (.agg [.int .i64 0, .int .i64 0, .str 0 0, .int .i64 0])).val = true
theorem norm_runs : Norms 18 := ⟨
    vt (t := .ok) (by kernel_rfl) rfl,
    vt (t := .ok) (by kernel_rfl) rfl,
    vt (t := .ok) (by kernel_rfl) rfl,
    vt (t := .ok) (by kernel_rfl) rfl,
    vt (t := .ok) (by kernel_rfl) rfl,
    vt (t := .ok) (by kernel_rfl) rfl,
    vt (t := .ok) (by kernel_rfl) rfl,
    vt (t := .ok) (by kernel_rfl) rfl,
    vt (t := .ok) (by kernel_rfl) rfl,
    vt (t := .ok) (by kernel_rfl) rfl⟩
theorem norm30_runs : Norms 26 := ⟨
    vt (t := .ok) (by kernel_rfl) rfl,
    vt (t := .ok) (by kernel_rfl) rfl,
    vt (t := .ok) (by kernel_rfl) rfl,
    vt (t := .ok) (by kernel_rfl) rfl,
    vt (t := .ok) (by kernel_rfl) rfl,
    vt (t := .ok) (by kernel_rfl) rfl,
    vt (t := .ok) (by kernel_rfl) rfl,
    vt (t := .ok) (by kernel_rfl) rfl,
    vt (t := .ok) (by kernel_rfl) rfl,
    vt (t := .ok) (by kernel_rfl) rfl⟩
end Go.Proofs.YtmhbagaljonheaaGreatDoor
