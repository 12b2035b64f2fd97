/- BuiltinErrors, proved: for every input the law hands back true and each argument reads as before. Condition: the variables of the library that the row lists read as the row lays them; the card ties them to the program's text. -/
import Derived.Test.YtdbhonkahlcdoaaGreatDoorErrsWalk
import Derived.Test.YtdbhonkahlcdoaaGreatDoorLibs
import Derived.Test.YtdbhonkahlcdoaaGreatDoorK10BuiltinErrors
import Derived.Test.YtdbhonkahlcdoaaGreatDoorK11BuiltinErrors
import Derived.Test.YtdbhonkahlcdoaaGreatDoorK12BuiltinErrors
import Derived.Test.YtdbhonkahlcdoaaGreatDoorK13BuiltinErrors
import Derived.Test.YtdbhonkahlcdoaaGreatDoorCsBuiltinErrors
import Derived.Test.YtdbhonkahlcdoaaGreatDoorClBuiltinErrors
import Derived.Test.YtdbhonkahlcdoaaGreatDoorCg
import Derived.Test.YtdbhonkahlcdoaaGreatDoorTies
import Derived.Test.YtdbhonkahlcdoaaGreatDoorCards
import Derived.ProofKit
import Derived.OpenShut
import Derived.LaidMore
import Derived.Lay
import Derived.SevenTiedAt
import Derived.Stop.Joined
namespace Go.Proofs.YtdbhonkahlcdoaaGreatDoor.builtinErrors
open Go.ChangeShapes Go.WideShapes Go.ChangeAt Go.RowKit
set_option maxRecDepth 100000
theorem own : ownKnob Tryz.prog.godebug = none := by kernel_rfl

theorem lifted (os : Os) (started : os.Started) (H : Type) (enc : TypeId × Value → H) :
    ReturnsInHanded {} Tryz.checked os 4 .any (fun w args => (Rows.builtinErrorsSpec.pre enc Tryz.prog Tryz.f4 Rows.builtinErrorsRow.domain false w args ∧ laidMetH Tryz.prog Rows.builtinErrorsRow.laid w) ∧ sizedMet enc Tryz.prog Tryz.f4 (OpenSpec.ofChange Rows.builtinErrorsSpec) false w args)
      (Rows.builtinErrorsSpec.post enc Tryz.prog Tryz.f4 false true false false) := by
  refine returnsInHanded_of_change_and (C := Tryz.checked) (X := fun w _ => laidMetH Tryz.prog Rows.builtinErrorsRow.laid w) (fun _ _ _ hh h => h.of_heap hh) own started (by kernel_rfl) Tryz.func4
    (ChangeSpec.witness_shaped (enc := enc) (C := Tryz.checked) (os := os) (X := fun w _ => laidMetH Tryz.prog Rows.builtinErrorsRow.laid w) false (World.laidAll Tryz.prog os Rows.builtinErrorsRow.laid) #[.int .u8 0, .int .i16 0] 8 (World.laidAll_os _ _ _)
      (World.shaped_of_ZipB (by kernel_rfl) (by kernel_rfl)) (by kernel_rfl) (by kernel_rfl) (by kernel_rfl)
      (by rw [MakeChecks.laidMetH_plain _ _ _ (by kernel_rfl)]; exact laidMet_laidAll _ (by kernel_rfl) (by kernel_rfl))) ?_
  intro W base args ds gs before hval0 hW hc _ hL _
  have hT : Libs W := by
    rw [MakeChecks.laidMetH_plain _ _ _ (by kernel_rfl)] at hL
    exact libs_of_laid hL
  have hval : ∀ (j : Nat) t v, Tryz.f4.params[j]? = some t → args[j]? = some v → Value.okWide Tryz.prog W .any base t v := hval0
  have hW' := hW
  obtain ⟨p, q, hA0, hV, rfl, _, _⟩ := hW
  have hA : DataW.TrodAll enc Tryz.prog W 0 (fun _ => true) true Tryz.f4.params.toList args.toList ds p := hA0
  rw [Tryz.params4] at hA hval
  obtain ⟨v0, vs0, d0, ds0, p0, q0, hargs, rfl, rfl, h0, r0⟩ := trodAll_cons hA
  obtain ⟨v1, vs1, d1, ds1, p1, q1, rfl, rfl, rfl, h1, r1⟩ := trodAll_cons r0
  obtain ⟨rfl, rfl, rfl⟩ := trodAll_nil r1
  obtain rfl : args = #[v0, v1] := by cases args; simp_all
  obtain ⟨rfl, rfl⟩ := trodVars_none hV
  obtain ⟨a0, rfl, rfl, rfl, w0⟩ := open_int Tryz.underlying5 (hval 0 5 v0 rfl rfl) h0
  obtain ⟨a1, rfl, rfl, rfl, w1⟩ := open_int Tryz.underlying22 (hval 1 22 v1 rfl rfl) h1
  clear hA0 hval0
  simp only [List.append_nil] at hW'
  have e1 : Rows.builtinErrorsSpec.fn H ([.lit (.int .u8 a0), .lit (.int .i16 a1)] ++ []) = { results := [.lit (.bool true)], args := [.lit (.int .u8 a0), .lit (.int .i16 a1)] } := rfl
  refine (walk a0 a1 w0 w1 W hT).mono fun e W' ⟨he, hk⟩ => ?_
  subst he
  refine ⟨_, rfl, _, _, _, [], [], [], hW', ?_, ?_, ?_, ?_, fun h => by cases h⟩
  · rw [e1]; exact trodAll_cons_mk (shut_bool Tryz.underlying4 _) trodAll_mk0
  · rw [e1]; exact trodAll_cons_mk (shut_int Tryz.underlying5 w0) (trodAll_cons_mk (shut_int Tryz.underlying22 w1) trodAll_mk0)
  · rw [e1]; rfl
  · exact World.keptBut_mono (fun _ h => h.elim) hk

theorem over : Rows.BuiltinErrorsSaid :=
  OpenClaim.holds_of_wide 4 Tryz.f4 rfl rfl rfl rfl rfl rfl rfl ⟨rfl, rfl, rfl, rfl, rfl⟩ rfl rfl rfl rfl rfl c6 Tryz.func4 closed
    (of_decide_eq_true (by kernel_rfl)) (by unfold Func.isWrapper; first | (rw [if_pos (by decide +kernel)]; kernel_rfl) | (rw [if_neg (by decide +kernel)]; exact ⟨rfl, rfl⟩))
    (fun os started H enc _ => lifted os started H enc)

theorem reads (f : FuncId) (fn : Func) (hf : Tryz.pinned.checked.prog.funcNamed Rows.builtinErrorsRow.func = some f) (hfn : Tryz.pinned.checked.prog.funcs[f]? = some fn) :
    true = Tryz.pinned.checked.prog.looks [] ∧ ∀ (j : Nat) t, fn.params[j]? = some t → Tryz.pinned.checked.prog.wantsStandIn t = false := by
  obtain rfl : f = 4 := (Option.some.inj (c6.symm.trans hf)).symm
  obtain rfl : fn = Tryz.f4 := (Option.some.inj (Tryz.func4.symm.trans hfn)).symm
  refine ⟨c3, fun j t ht => ?_⟩
  rw [Tryz.params4] at ht
  have hm : t ∈ [5, 22] := by simpa using Array.mem_of_getElem? ht
  exact (show Tryz.prog.wantsStandIn t = false by simpa using List.all_eq_true.1 c5 t hm)

/-- the card -/
theorem card : Rows.BuiltinErrorsCardSaid :=
  Claim7.holds_tied_plain_at .later [] [.sentinel, .sentinel, .data, .data, .data, .pinned, .data, .data, .listed] true (true, "223cd9f3b59872e1e1b6f4ec2403e70d12c65a40920755c202bc7e7290273451") true over (fun _ h => by cases h) c1 (fun _ h => by cases h) builtinErrors_row_tie rfl ⟨rfl, rfl⟩ c2 rfl
    reads (goesNo noGoes rfl)
#print axioms card
end Go.Proofs.YtdbhonkahlcdoaaGreatDoor.builtinErrors
