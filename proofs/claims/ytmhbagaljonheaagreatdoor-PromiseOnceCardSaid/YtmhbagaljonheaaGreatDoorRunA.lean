/- What the evaluator leans on of this program: no function counts goroutines; the two functions without a body that are met; the drawn regions stand whatever the order. -/
import Derived.Test.YtmhbagaljonheaaGreatDoorRunD
import Derived.KernelRfl
namespace Go.Proofs.YtmhbagaljonheaaGreatDoor
open Go Go.Ev
set_option maxRecDepth 1000000

theorem noCount : NoCount Tryz.prog := by
  have h : (Tryz.prog.funcs.toList.all fun fn => !(fn.name == "runtime.NumGoroutine")) = true := by kernel_rfl
  intro f fn hf
  have := List.all_eq_true.1 h fn (by simpa using Array.mem_of_getElem? hf)
  simpa using this

theorem extFact : ExtFact Tryz.prog := by
  have h : (Tryz.prog.funcs.toList.zipIdx.all fun x => !(x.1.name == "internal/bytealg.IndexByteString") || Nat.beq x.2 316) = true := by kernel_rfl
  have h1 : Extern.findNext Tryz.f316 = none := by kernel_rfl
  have h2 : Extern.find Tryz.f316 = some Extern.BytealgIndexByte.indexByte := by kernel_rfl
  have g : (Tryz.prog.funcs.toList.zipIdx.all fun x => !(x.1.name == "internal/abi.NoEscape") || Nat.beq x.2 244) = true := by kernel_rfl
  have g1 : Extern.findNext Tryz.f244 = none := by kernel_rfl
  have g2 : Extern.find Tryz.f244 = some Extern.AbiNoEscape.same := by kernel_rfl
  intro f fn hf
  have hf' : Tryz.prog.funcs.toList[f]? = some fn := by simpa using hf
  refine ⟨fun hn => ?_, fun hn => ?_⟩
  · have := zip_all h hf'
    simp only [hn, Bool.not_true, Bool.false_or] at this
    obtain rfl : f = 316 := by simpa using this
    obtain rfl : fn = Tryz.f316 := (Option.some.inj (Tryz.func316.symm.trans hf)).symm
    exact ⟨h1, h2⟩
  · have := zip_all g hf'
    simp only [hn, Bool.not_true, Bool.false_or] at this
    obtain rfl : f = 244 := by simpa using this
    obtain rfl : fn = Tryz.f244 := (Option.some.inj (Tryz.func244.symm.trans hf)).symm
    exact ⟨g1, g2⟩

noncomputable def drawnOk (f : Nat) : Bool := match Tryz.prog.funcs[f]? with
  | some fn => match fn.body with
    | some c => match drawn f with | true => (regsD c).all fun ops => drawOk Tryz.prog ops | false => true
    | none => true
  | none => true
theorem drawn0 : ((List.range 80).all fun i => drawnOk (Nat.add 0 i)) = true := by kernel_rfl
theorem drawn1 : ((List.range 80).all fun i => drawnOk (Nat.add 80 i)) = true := by kernel_rfl
theorem drawn2 : ((List.range 80).all fun i => drawnOk (Nat.add 160 i)) = true := by kernel_rfl
theorem drawn3 : ((List.range 80).all fun i => drawnOk (Nat.add 240 i)) = true := by kernel_rfl
theorem drawn4 : ((List.range 80).all fun i => drawnOk (Nat.add 320 i)) = true := by kernel_rfl
theorem drawFact : DrawFact Tryz.prog drawn := by
  intro f fn c hf hc hd ops ho
  have hsz : Tryz.prog.funcs.size = 376 := by kernel_rfl
  have hlt : f < 376 := by
    rcases Nat.lt_or_ge f 376 with h | h
    · exact h
    · rw [Array.getElem?_eq_none (by omega)] at hf; cases hf
  have key : drawnOk f = true := by
    have get : ∀ {n lo : Nat} {p : Nat → Bool}, ((List.range n).all fun i => p (Nat.add lo i)) = true → ∀ f, lo ≤ f → f < lo + n → p f = true := by
      intro n lo p h f h1 h2
      have := List.all_eq_true.1 h (f - lo) (List.mem_range.2 (by omega))
      have e : Nat.add lo (f - lo) = f := by show lo + (f - lo) = f; omega
      simpa only [e] using this
    have cut : ∀ g : Nat, g < 376 → ((0 ≤ g ∧ g < 80) ∨ (80 ≤ g ∧ g < 160) ∨ (160 ≤ g ∧ g < 240) ∨ (240 ≤ g ∧ g < 320) ∨ (320 ≤ g ∧ g < 400)) := by intro g hg; omega
    rcases cut f hlt with ⟨h, h'⟩ | ⟨h, h'⟩ | ⟨h, h'⟩ | ⟨h, h'⟩ | ⟨h, h'⟩
    · exact get drawn0 f h h'
    · exact get drawn1 f h h'
    · exact get drawn2 f h h'
    · exact get drawn3 f h h'
    · exact get drawn4 f h h'
  unfold drawnOk at key
  rw [hf] at key
  simp only [hc, hd] at key
  exact List.all_eq_true.1 key ops ho

theorem tyI_eq (t : TypeId) : tyI t = Tryz.prog.info? t := infoT_eq Tryz.prog t
theorem fnF_eq (f : FuncId) : fnF f = Tryz.prog.funcs[f]? := funcT_eq Tryz.prog f
theorem awakeA : callS (D := 10) Tryz.prog tyI fnF glo0 drawn 1000000 140 (.func 6) (encVs []) ⟨[], []⟩ (encH 10 heap0) 8 (isTS 10) = .ok := by kernel_rfl
theorem awakeB : callS (D := 10) Tryz.prog tyI fnF glo0 drawn 1000000 140 (.func 20) (encVs []) ⟨[], []⟩ (encH 10 heap0) 8 (isTS 10) = .ok := by kernel_rfl
theorem awT_ok : RowsOk Tryz.prog awT := by
  intro σ g rows h r hr
  unfold awT at h
  split at h
  · rename_i hg
    simp only [Bool.or_eq_true, Nat.beq_eq] at hg
    obtain rfl := Option.some.inj h
    obtain rfl := List.mem_singleton.1 hr
    refine ⟨rfl, rfl, callC Tryz.prog glo0 1000000 140, heap0, 8, eval_sound noCount extFact 1000000 140, ?_⟩
    rw [← isT_isV]
    rcases hg with rfl | rfl
    · exact run_plain tyI_eq fnF_eq drawFact (vt awakeA rfl)
    · exact run_plain tyI_eq fnF_eq drawFact (vt awakeB rfl)
  · cases h
/-- a call of a law whose run is seen -/
theorem law_calls {f : FuncId} {fn : Func} (hf : Tryz.prog.funcs[f]? = some fn) {cb : Code} (hbody : fn.body = some cb) {σ : Sg} {args : List CV} {tab : Tab} (hr : (runs f args tab).val = true) (hA : RepOk Tryz.prog σ 82 ans1) (hs : Sat σ tab) (w : World)
    (hx : ∀ r o, σ.fx r = some o → w.heap[r]? = some o) (hpn : ∀ b, σ.pn b = none) (vs : Array Value) (hv : LR σ (fun _ => none) args vs.toList) : Calls Tryz.prog f vs w fun e w' => e = .returned (.bool true) ∧ w.keptBut w' (fun _ => False) :=
  calls_true noCount (callR_sound noCount extFact awT_ok hA 1000000 140) hf hbody (runR_step tyI_eq fnF_eq drawFact hr) hs w hx hpn vs hv
#print axioms law_calls
end Go.Proofs.YtmhbagaljonheaaGreatDoor
