/- awake of layer 33 hands back true: the evaluator's run of it, by the kernel; and what the evaluator leans on of this program: no function counts goroutines; the one function without a body. -/
import Derived.Test.YtegokcjfjopdoaaGreatDoorEvZe
import Derived.Test.YtegokcjfjopdoaaGreatDoorProg
import Derived.KernelRfl
namespace Go.Proofs.YtegokcjfjopdoaaGreatDoor
open Go Go.Ev
set_option maxRecDepth 1000000
noncomputable def heap0 : Hp := ofList (List.replicate 8 CB.none)
theorem awake33_run : callC Tryz.prog (fun _ => false) 100000 60 (.func 22) [] ⟨heap0, 8, []⟩ isT = true := by kernel_rfl

theorem noCount : NoCount Tryz.prog := by
  have h : (Tryz.prog.funcs.toList.all fun fn => !(fn.name == "runtime.NumGoroutine")) = true := by kernel_rfl
  intro f fn hf
  have := List.all_eq_true.1 h fn (by simpa using Array.mem_of_getElem? hf)
  simpa using this

theorem extFact : ExtFact Tryz.prog := by
  have h : (Tryz.prog.funcs.toList.zipIdx.all fun x => !(x.1.name == "internal/bytealg.IndexByteString") || Nat.beq x.2 331) = true := by kernel_rfl
  have h1 : Extern.findNext Tryz.f331 = none := by kernel_rfl
  have h2 : Extern.find Tryz.f331 = some Extern.BytealgIndexByte.indexByte := by kernel_rfl
  intro f fn hf hn
  have hf' : Tryz.prog.funcs.toList[f]? = some fn := by simpa using hf
  have := zip_all h hf'
  simp only [hn, Bool.not_true, Bool.false_or] at this
  obtain rfl : f = 331 := by simpa using this
  obtain rfl : fn = Tryz.f331 := (Option.some.inj (Tryz.func331.symm.trans hf)).symm
  exact ⟨h1, h2⟩
end Go.Proofs.YtegokcjfjopdoaaGreatDoor
