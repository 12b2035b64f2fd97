/- No function of the program starts a goroutine. -/
import Derived.Test.YtdbhonkahlcdoaaGreatDoorRows
import Derived.LaidByTextLater
import Derived.SevenTiedAt
import Derived.ProofKit
import Derived.OpenShut
import GoSem.ClaimGoes
namespace Go.Proofs.YtdbhonkahlcdoaaGreatDoor
open Go
set_option maxRecDepth 100000
theorem goesNo {P : Program} {c : OpenClaim} (h : P.funcs.any Func.goes = false) (hs : c.start = .entering) : false = c.goesBy P := by
  have one : ∀ g : Nat, (P.funcs[g]?).any Func.goes = false := fun g => by
    cases hg : P.funcs[g]? with
    | none => rfl
    | some fn =>
      have := Array.any_eq_false.1 h
      obtain ⟨hlt, he⟩ := Array.getElem?_eq_some_iff.1 hg
      have := this g hlt
      rw [he] at this
      simpa using this
  have two : ∀ f, P.goes f = false := fun f => by
    unfold Program.goes
    rw [h]
    simp only [Bool.and_false, Bool.or_false, List.any_eq_false]
    intro g _
    rw [one g]
    simp
  unfold OpenClaim.goesBy Program.goesAt Program.goesFrom
  rw [hs]
  cases P.funcNamed c.func with
  | none => rfl
  | some f => simp [two f]
theorem noGoes : Tryz.prog.funcs.any Func.goes = false := by kernel_rfl
end Go.Proofs.YtdbhonkahlcdoaaGreatDoor
