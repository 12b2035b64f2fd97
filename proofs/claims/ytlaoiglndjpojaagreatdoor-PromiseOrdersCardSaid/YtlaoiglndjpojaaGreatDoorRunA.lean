/- What the evaluator leans on of this program: no function counts goroutines; the two functions without a body that are met; the drawn regions stand whatever the order. -/
import Derived.Test.YtlaoiglndjpojaaGreatDoorRunD
import Derived.KernelRfl
namespace Go.Proofs.YtlaoiglndjpojaaGreatDoor
open Go Go.Ev
set_option maxRecDepth 1000000

theorem noCount : NoCount Tryz.prog := by
  have h : (Tryz.prog.funcs.toList.all fun fn => !(fn.name == "runtime.NumGoroutine")) = true := by kernel_rfl
  intro f fn hf
  have := List.all_eq_true.1 h fn (by simpa using Array.mem_of_getElem? hf)
  simpa using this

theorem extFact : ExtFact Tryz.prog := by
  have h : (Tryz.prog.funcs.toList.zipIdx.all fun x => !(x.1.name == "internal/bytealg.IndexByteString") || Nat.beq x.2 314) = true := by kernel_rfl
  have h1 : Extern.findNext Tryz.f314 = none := by kernel_rfl
  have h2 : Extern.find Tryz.f314 = some Extern.BytealgIndexByte.indexByte := by kernel_rfl
  have g : (Tryz.prog.funcs.toList.zipIdx.all fun x => !(x.1.name == "internal/abi.NoEscape") || Nat.beq x.2 122) = true := by kernel_rfl
  have g1 : Extern.findNext Tryz.f122 = none := by kernel_rfl
  have g2 : Extern.find Tryz.f122 = some Extern.AbiNoEscape.same := by kernel_rfl
  intro f fn hf
  have hf' : Tryz.prog.funcs.toList[f]? = some fn := by simpa using hf
  refine ⟨fun hn => ?_, fun hn => ?_⟩
  · have := zip_all h hf'
    simp only [hn, Bool.not_true, Bool.false_or] at this
    obtain rfl : f = 314 := by simpa using this
    obtain rfl : fn = Tryz.f314 := (Option.some.inj (Tryz.func314.symm.trans hf)).symm
    exact ⟨h1, h2⟩
  · have := zip_all g hf'
    simp only [hn, Bool.not_true, Bool.false_or] at this
    obtain rfl : f = 122 := by simpa using this
    obtain rfl : fn = Tryz.f122 := (Option.some.inj (Tryz.func122.symm.trans hf)).symm
    exact ⟨g1, g2⟩

noncomputable def drawnOk (f : Nat) : Bool := match Tryz.prog.funcs[f]? with
  | some fn => match fn.body with
    | some c => match drawn f with | true => (regsD c).all fun ops => drawOk Tryz.prog ops | false => true
    | none => true
  | none => true
theorem drawn0 : ((List.range 80).all fun i => drawnOk i) = true := by kernel_rfl
theorem drawn1 : ((List.range 80).all fun i => drawnOk (Nat.add 80 i)) = true := by kernel_rfl
theorem drawn2 : ((List.range 80).all fun i => drawnOk (Nat.add 160 i)) = true := by kernel_rfl
theorem drawn3 : ((List.range 150).all fun i => drawnOk (Nat.add 240 i)) = true := by kernel_rfl
theorem drawFact : DrawFact Tryz.prog drawn := by
  intro f fn c hf hc hd ops ho
  have hsz : Tryz.prog.funcs.size = 364 := by kernel_rfl
  have hlt : f < 364 := by
    rcases Nat.lt_or_ge f 364 with h | h
    · exact h
    · rw [Array.getElem?_eq_none (by omega)] at hf; cases hf
  have key : drawnOk f = true := by
    have get : ∀ {n lo : Nat} {p : Nat → Bool}, ((List.range n).all fun i => p (Nat.add lo i)) = true → ∀ f, lo ≤ f → f < lo + n → p f = true := by
      intro n lo p h f h1 h2
      have := List.all_eq_true.1 h (f - lo) (List.mem_range.2 (by omega))
      have e : Nat.add lo (f - lo) = f := by show lo + (f - lo) = f; omega
      simpa only [e] using this
    have cut : ∀ g : Nat, g < 364 → (g < 80 ∨ (80 ≤ g ∧ g < 160) ∨ (160 ≤ g ∧ g < 240) ∨ (240 ≤ g ∧ g < 390)) := by intro g hg; omega
    rcases cut f hlt with h | ⟨h, h'⟩ | ⟨h, h'⟩ | ⟨h, h'⟩
    · exact List.all_eq_true.1 drawn0 f (List.mem_range.2 h)
    · exact get drawn1 f h h'
    · exact get drawn2 f h h'
    · exact get drawn3 f h h'
  unfold drawnOk at key
  rw [hf] at key
  simp only [hc, hd] at key
  exact List.all_eq_true.1 key ops ho

theorem tyI_eq (t : TypeId) : tyI t = Tryz.prog.info? t := infoT_eq Tryz.prog t
theorem fnF_eq (f : FuncId) : fnF f = Tryz.prog.funcs[f]? := funcT_eq Tryz.prog f
theorem runs_step {aw f : FuncId} {args : List CV} {tab : Tab} (h : runs aw f args tab = true) :
    callStep Tryz.prog glo0 100000 (ovr aw (callC Tryz.prog glo0 100000 60)) (.func f) args ⟨heap0, 8, tab⟩ isT = true := run_step tyI_eq fnF_eq drawFact h
theorem awake33F : callS (D := 10) Tryz.prog tyI fnF glo0 drawn 100000 60 (.func 4) (encVs []) ⟨[], []⟩ (encH 10 heap0) 8 (isTS 10) = true := by kernel_rfl
theorem awake33_run : callC Tryz.prog glo0 100000 60 (.func 4) [] ⟨heap0, 8, ⟨[], []⟩⟩ isT = true := run_plain tyI_eq fnF_eq drawFact awake33F
#print axioms drawFact
end Go.Proofs.YtlaoiglndjpojaaGreatDoor
