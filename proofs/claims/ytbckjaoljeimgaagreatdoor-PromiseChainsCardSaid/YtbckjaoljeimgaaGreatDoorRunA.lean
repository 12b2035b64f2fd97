/- What the evaluator leans on of this program: no function counts goroutines; the two functions without a body that are met; the drawn regions stand whatever the order. -/
import Derived.Test.YtbckjaoljeimgaaGreatDoorRunR
import Derived.KernelRfl
namespace Go.Proofs.YtbckjaoljeimgaaGreatDoor
open Go Go.Ev
set_option maxRecDepth 1000000

theorem noCount : NoCount Tryz.prog := by
  have h : (Tryz.prog.funcs.toList.all fun fn => !(fn.name == "runtime.NumGoroutine")) = true := by kernel_rfl
  intro f fn hf
  have := List.all_eq_true.1 h fn (by simpa using Array.mem_of_getElem? hf)
  simpa using this

theorem extFact : ExtFact Tryz.prog := by
  have h : (Tryz.prog.funcs.toList.zipIdx.all fun x => !(x.1.name == "internal/bytealg.IndexByteString") || Nat.beq x.2 323) = true := by kernel_rfl
  have h1 : Extern.findNext Tryz.f323 = none := by kernel_rfl
  have h2 : Extern.find Tryz.f323 = some Extern.BytealgIndexByte.indexByte := by kernel_rfl
  have g : (Tryz.prog.funcs.toList.zipIdx.all fun x => !(x.1.name == "internal/abi.NoEscape") || Nat.beq x.2 168) = true := by kernel_rfl
  have g1 : Extern.findNext Tryz.f168 = none := by kernel_rfl
  have g2 : Extern.find Tryz.f168 = some Extern.AbiNoEscape.same := by kernel_rfl
  intro f fn hf
  have hf' : Tryz.prog.funcs.toList[f]? = some fn := by simpa using hf
  refine ⟨fun hn => ?_, fun hn => ?_⟩
  · have := zip_all h hf'
    simp only [hn, Bool.not_true, Bool.false_or] at this
    obtain rfl : f = 323 := by simpa using this
    obtain rfl : fn = Tryz.f323 := (Option.some.inj (Tryz.func323.symm.trans hf)).symm
    exact ⟨h1, h2⟩
  · have := zip_all g hf'
    simp only [hn, Bool.not_true, Bool.false_or] at this
    obtain rfl : f = 168 := by simpa using this
    obtain rfl : fn = Tryz.f168 := (Option.some.inj (Tryz.func168.symm.trans hf)).symm
    exact ⟨g1, g2⟩

noncomputable def drawnOk (f : Nat) : Bool := match Tryz.prog.funcs[f]? with
  | some fn => match fn.body with
    | some c => match drawn f with | true => (regsD c).all fun ops => drawOk Tryz.prog ops | false => true
    | none => true
  | none => true
theorem drawn0 : ((List.range 80).all fun i => drawnOk (Nat.add 0 i)) = true := by kernel_rfl
theorem drawn1 : ((List.range 80).all fun i => drawnOk (Nat.add 80 i)) = true := by kernel_rfl
theorem drawn2 : ((List.range 80).all fun i => drawnOk (Nat.add 160 i)) = true := by kernel_rfl
theorem drawn3 : ((List.range 80).all fun i => drawnOk (Nat.add 240 i)) = true := by kernel_rfl
theorem drawn4 : ((List.range 80).all fun i => drawnOk (Nat.add 320 i)) = true := by kernel_rfl
theorem drawFact : DrawFact Tryz.prog drawn := by
  intro f fn c hf hc hd ops ho
  have hsz : Tryz.prog.funcs.size = 371 := by kernel_rfl
  have hlt : f < 371 := by
    rcases Nat.lt_or_ge f 371 with h | h
    · exact h
    · rw [Array.getElem?_eq_none (by omega)] at hf; cases hf
  have key : drawnOk f = true := by
    have get : ∀ {n lo : Nat} {p : Nat → Bool}, ((List.range n).all fun i => p (Nat.add lo i)) = true → ∀ f, lo ≤ f → f < lo + n → p f = true := by
      intro n lo p h f h1 h2
      have := List.all_eq_true.1 h (f - lo) (List.mem_range.2 (by omega))
      have e : Nat.add lo (f - lo) = f := by show lo + (f - lo) = f; omega
      simpa only [e] using this
    have cut : ∀ g : Nat, g < 371 → ((0 ≤ g ∧ g < 80) ∨ (80 ≤ g ∧ g < 160) ∨ (160 ≤ g ∧ g < 240) ∨ (240 ≤ g ∧ g < 320) ∨ (320 ≤ g ∧ g < 400)) := by intro g hg; omega
    rcases cut f hlt with ⟨h, h'⟩ | ⟨h, h'⟩ | ⟨h, h'⟩ | ⟨h, h'⟩ | ⟨h, h'⟩
    · exact get drawn0 f h h'
    · exact get drawn1 f h h'
    · exact get drawn2 f h h'
    · exact get drawn3 f h h'
    · exact get drawn4 f h h'
  unfold drawnOk at key
  rw [hf] at key
  simp only [hc, hd] at key
  exact List.all_eq_true.1 key ops ho

theorem tyI_eq (t : TypeId) : tyI t = Tryz.prog.info? t := infoT_eq Tryz.prog t
theorem fnF_eq (f : FuncId) : fnF f = Tryz.prog.funcs[f]? := funcT_eq Tryz.prog f
theorem rows0 : RowsOk Tryz.prog K0 := fun _ _ _ h => by cases h
theorem awakeF : runA = .ok := by kernel_rfl
theorem awake_run : callK Tryz.prog glo0 K0 1000000 140 (.func 13) [] ⟨heap0, 8, ⟨[], []⟩⟩ (isV (.bool true)) = true := rowD_run tyI_eq fnF_eq drawFact dirT_ok (vt awakeF rfl)
theorem rows1 : RowsOk Tryz.prog K1 := by
  intro σ g rows h r hr
  unfold K1 at h
  cases hg : Nat.beq g 13 with
  | false => rw [hg] at h; cases h
  | true =>
    rw [hg] at h
    obtain rfl : g = 13 := by simpa using hg
    obtain rfl := Option.some.inj h
    obtain rfl := List.mem_singleton.1 hr
    exact ⟨rfl, rfl, _, heap0, 8, callK_sound noCount extFact rows0 1000000 140 σ, awake_run⟩
end Go.Proofs.YtbckjaoljeimgaaGreatDoor
