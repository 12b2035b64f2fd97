/- The calls of PromiseOnce from state to state: small runs, by the kernel. -/
import Derived.Test.YtmhbagaljonheaaGreatDoorRunA
import Derived.Test.YtmhbagaljonheaaGreatDoorOnceS
import Derived.KernelRfl
namespace Go.Proofs.YtmhbagaljonheaaGreatDoor
open Go Go.Ev
set_option maxRecDepth 1000000
set_option maxHeartbeats 40000000
def aggV : CV := .agg [.sym .i64 0, .sym .i64 1, .ssym 0 2, .sym .i64 3]
def aggX : CV := .agg [.sym .i64 4, .sym .i64 5, .ssym 1 6, .sym .i64 7]
def aggNV : CV := .agg [.sym .i64 8, .sym .i64 9, .ssym 2 10, .sym .i64 11]
def aggNX : CV := .agg [.sym .i64 12, .sym .i64 13, .ssym 3 14, .sym .i64 15]
def aggP : CV := .agg [.int .i64 5, .int .i64 0, .str 0 0, .int .i64 13]
def aggQ : CV := .agg [.int .i64 5, .int .i64 0, .str 0 0, .int .i64 14]
def tabO (vk nv nx : Int × Int) : Tab := ⟨[vk, (-9223372036854775808, 9223372036854775807), (0, 60), (-9223372036854775808, 9223372036854775807), (-9223372036854775808, 9223372036854775807), (-9223372036854775808, 9223372036854775807), (0, 60), (-9223372036854775808, 9223372036854775807), nv, (-9223372036854775808, 9223372036854775807), (0, 9223372036854775807), (0, 0), nx, (-9223372036854775808, 9223372036854775807), (0, 9223372036854775807), (0, 0)], []⟩
noncomputable def ovO (call : CallFn) : CallFn := ovrM 18 [aggV] aggNV [] (ovrM 18 [aggX] aggNX [] call)
noncomputable def ovOS (call : CallS 10) : CallS 10 := ovrMS 18 [aggV] aggNV [] (ovrMS 18 [aggX] aggNX [] call)
theorem ovO_ok (cS : CallS 10) (cl : CallFn) (h : CallOK cS cl) : CallOK (ovOS cS) (ovO cl) := ovrMS_ok 18 _ _ _ (ovrMS_ok 18 _ _ _ h)
noncomputable def runO (h : Hp) (n : Nat) (f : FuncId) (args : List CV) (tab : Tab) (r : CV) (F : List FB) : Res := stepS (D := 10) Tryz.prog tyI fnF G0 drawn 1000000 (callGS (D := 10) Tryz.prog tyI fnF drawn ovOS 1000000 140) (.func f) (encVs args) tab (encH 10 h) n (isRS 10 r F)
theorem runO_at {h : Hp} {n : Nat} {f : FuncId} {args : List CV} {tab : Tab} {r : CV} {F : List FB} (hh : (runO h n f args tab r F).val = true) : callStep Tryz.prog G0 1000000 (callG Tryz.prog ovO 1000000 140) (.func f) args ⟨h, n, tab⟩ (isRP r F) = true :=
  runG_step tyI_eq fnF_eq drawFact ovO_ok hh
theorem rNew : (runO heap0 8 8 [.agg [.int .i64 0, .int .i64 0]] (tabO (-9223372036854775808, 9223372036854775807) (0, 6) (0, 6)) (.agg [.int .i64 0, .int .i64 0, .sl 94 0 12 12, .sl0, .int .i64 12, .int .i64 12, .int .i64 11, .sl 10 0 12 12]) fA00).val = true := vt (t := .ok) (by kernel_rfl) rfl
theorem rP : (runO (smallH 101 fA0) 101 21 [.ptr 99 0] (tabO (-9223372036854775808, 9223372036854775807) (0, 6) (0, 6)) (.tup [.agg [.int .i64 5, .int .i64 0, .str 0 0, .int .i64 13], .int .i64 0]) fA1).val = true := vt (t := .ok) (by kernel_rfl) rfl
theorem rQ : (runO (smallH 111 fA1) 111 21 [.ptr 99 0] (tabO (-9223372036854775808, 9223372036854775807) (0, 6) (0, 6)) (.tup [.agg [.int .i64 5, .int .i64 0, .str 0 0, .int .i64 14], .int .i64 0]) fA2).val = true := vt (t := .ok) (by kernel_rfl) rfl
theorem rSa : (runO (smallH 121 fA2) 121 22 [.ptr 99 0, .ptr 100 0, aggP, aggV] (tabO (-9223372036854775808, 4) (0, 4) (0, 6)) (.int .i64 0) fS0).val = true := vt (t := .ok) (by kernel_rfl) rfl
theorem rSb : (runO (smallH 121 fA2) 121 22 [.ptr 99 0, .ptr 100 0, aggP, aggV] (tabO (6, 6) (6, 6) (0, 6)) (.int .i64 0) fS0).val = true := vt (t := .ok) (by kernel_rfl) rfl
theorem rSc : (runO (smallH 121 fA2) 121 22 [.ptr 99 0, .ptr 100 0, aggP, aggV] (tabO (7, 9223372036854775807) (0, 0) (0, 6)) (.int .i64 0) fS0).val = true := vt (t := .ok) (by kernel_rfl) rfl
def OnceAt (t : Nat) : Prop :=
  (runO (smallH (stN t) (stF t)) (stN t) 22 [.ptr 99 0, .ptr 100 0, aggP, aggX] (tabO (-9223372036854775808, 9223372036854775807) (0, 6) (0, 6)) (.int .i64 0) (stF t)).val = true ∧
  (runO (smallH (stN t) (stF t)) (stN t) 23 [.ptr 99 0, .ptr 100 0, aggP, aggX] (tabO (-9223372036854775808, 9223372036854775807) (0, 6) (0, 6)) (.int .i64 0) (stF t)).val = true ∧
  (runO (smallH (stN t) (stF t)) (stN t) 22 [.ptr 99 0, .ptr 100 0, aggP, aggQ] (tabO (-9223372036854775808, 9223372036854775807) (0, 6) (0, 6)) (.int .i64 0) (stF t)).val = true ∧
  (runO (smallH (stN t) (stF t)) (stN t) 25 [.ptr 99 0, aggP] (tabO (-9223372036854775808, 9223372036854775807) (0, 6) (0, 6)) (.tup [.int .i64 1, aggNV, .int .i64 0]) (stF t)).val = true ∧
  (runO (smallH (stN t) (stF t)) (stN t) 25 [.ptr 99 0, aggQ] (tabO (-9223372036854775808, 9223372036854775807) (0, 6) (0, 6)) (.tup [.int .i64 0, .agg [.int .i64 0, .int .i64 0, .str 0 0, .int .i64 0], .int .i64 0]) (stF t)).val = true
def ThenAt (t : Nat) : Prop :=
  (runO (smallH (stN t) (stF t)) (stN t) 24 [.ptr 99 0, .ptr 100 0, aggP, aggX, aggX] (tabO (-9223372036854775808, 9223372036854775807) (0, 6) (0, 4)) (.tup [.agg [.int .i64 5, .int .i64 0, .str 0 0, .int .i64 (.ofNat (Nat.add t 15))], .int .i64 0]) (stF (Nat.add t 1))).val = true ∧
  (runO (smallH (stN t) (stF t)) (stN t) 24 [.ptr 99 0, .ptr 100 0, aggP, aggX, aggX] (tabO (-9223372036854775808, 9223372036854775807) (0, 6) (6, 6)) (.tup [.agg [.int .i64 5, .int .i64 0, .str 0 0, .int .i64 (.ofNat (Nat.add t 15))], .int .i64 0]) (stF (Nat.add t 1))).val = true
end Go.Proofs.YtmhbagaljonheaaGreatDoor
