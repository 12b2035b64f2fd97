/- What the evaluator leans on of this program: no function counts goroutines; the two functions without a body that are met. The awake's run hands back true. -/
import Derived.Test.YtcceopgaiffkmaaGreatDoorEvE
import Derived.Test.YtcceopgaiffkmaaGreatDoorProg
import Derived.KernelRfl
namespace Go.Proofs.YtcceopgaiffkmaaGreatDoor
open Go Go.Ev
set_option maxRecDepth 1000000

theorem noCount : NoCount Tryz.prog := by
  have h : (Tryz.prog.funcs.toList.all fun fn => !(fn.name == "runtime.NumGoroutine")) = true := by kernel_rfl
  intro f fn hf
  have := List.all_eq_true.1 h fn (by simpa using Array.mem_of_getElem? hf)
  simpa using this

theorem extFact : ExtFact Tryz.prog := by
  have h : (Tryz.prog.funcs.toList.zipIdx.all fun x => !(x.1.name == "internal/bytealg.IndexByteString") || Nat.beq x.2 327) = true := by kernel_rfl
  have h1 : Extern.findNext Tryz.f327 = none := by kernel_rfl
  have h2 : Extern.find Tryz.f327 = some Extern.BytealgIndexByte.indexByte := by kernel_rfl
  have g : (Tryz.prog.funcs.toList.zipIdx.all fun x => !(x.1.name == "internal/abi.NoEscape") || Nat.beq x.2 138) = true := by kernel_rfl
  have g1 : Extern.findNext Tryz.f138 = none := by kernel_rfl
  have g2 : Extern.find Tryz.f138 = some Extern.AbiNoEscape.same := by kernel_rfl
  intro f fn hf
  have hf' : Tryz.prog.funcs.toList[f]? = some fn := by simpa using hf
  refine ⟨fun hn => ?_, fun hn => ?_⟩
  · have := zip_all h hf'
    simp only [hn, Bool.not_true, Bool.false_or] at this
    obtain rfl : f = 327 := by simpa using this
    obtain rfl : fn = Tryz.f327 := (Option.some.inj (Tryz.func327.symm.trans hf)).symm
    exact ⟨h1, h2⟩
  · have := zip_all g hf'
    simp only [hn, Bool.not_true, Bool.false_or] at this
    obtain rfl : f = 138 := by simpa using this
    obtain rfl : fn = Tryz.f138 := (Option.some.inj (Tryz.func138.symm.trans hf)).symm
    exact ⟨g1, g2⟩

set_option maxHeartbeats 4000000
noncomputable def heap0 : Hp := ofList (List.replicate 8 CB.none)
theorem awakeP : callStep Tryz.prog (fun _ => false) 1000000 (callC Tryz.prog (fun _ => false) 1000000 100) (.func 4) [] ⟨heap0, 8, ⟨[], []⟩⟩ isT = true := by kernel_rfl
end Go.Proofs.YtcceopgaiffkmaaGreatDoor
