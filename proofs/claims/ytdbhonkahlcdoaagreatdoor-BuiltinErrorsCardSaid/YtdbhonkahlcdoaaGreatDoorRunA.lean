/- What the evaluator leans on of this program: no function counts goroutines; the two functions without a body that are met; the drawn regions stand whatever the order; the awake hands back true. -/
import Derived.Test.YtdbhonkahlcdoaaGreatDoorRunR
import Derived.KernelRfl
namespace Go.Proofs.YtdbhonkahlcdoaaGreatDoor
open Go Go.Ev
set_option maxRecDepth 1000000

theorem noCount : NoCount Tryz.prog := by
  have h : (Tryz.prog.funcs.toList.all fun fn => !(fn.name == "runtime.NumGoroutine")) = true := by kernel_rfl
  intro f fn hf
  have := List.all_eq_true.1 h fn (by simpa using Array.mem_of_getElem? hf)
  simpa using this

theorem extFact : ExtFact Tryz.prog := by
  have h : (Tryz.prog.funcs.toList.zipIdx.all fun x => !(x.1.name == "internal/bytealg.IndexByteString") || Nat.beq x.2 453) = true := by kernel_rfl
  have h1 : Extern.findNext Tryz.f453 = none := by kernel_rfl
  have h2 : Extern.find Tryz.f453 = some Extern.BytealgIndexByte.indexByte := by kernel_rfl
  have g : (Tryz.prog.funcs.toList.zipIdx.all fun x => !(x.1.name == "internal/abi.NoEscape") || Nat.beq x.2 153) = true := by kernel_rfl
  have g1 : Extern.findNext Tryz.f153 = none := by kernel_rfl
  have g2 : Extern.find Tryz.f153 = some Extern.AbiNoEscape.same := by kernel_rfl
  intro f fn hf
  have hf' : Tryz.prog.funcs.toList[f]? = some fn := by simpa using hf
  refine ⟨fun hn => ?_, fun hn => ?_⟩
  · have := zip_all h hf'
    simp only [hn, Bool.not_true, Bool.false_or] at this
    obtain rfl : f = 453 := by simpa using this
    obtain rfl : fn = Tryz.f453 := (Option.some.inj (Tryz.func453.symm.trans hf)).symm
    exact ⟨h1, h2⟩
  · have := zip_all g hf'
    simp only [hn, Bool.not_true, Bool.false_or] at this
    obtain rfl : f = 153 := by simpa using this
    obtain rfl : fn = Tryz.f153 := (Option.some.inj (Tryz.func153.symm.trans hf)).symm
    exact ⟨g1, g2⟩

noncomputable def drawnOk (f : Nat) : Bool := match Tryz.prog.funcs[f]? with
  | some fn => match fn.body with
    | some c => match drawn f with | true => (regsD c).all fun ops => drawOk Tryz.prog ops | false => true
    | none => true
  | none => true
theorem drawn0 : ((List.range 80).all fun i => drawnOk (Nat.add 0 i)) = true := by kernel_rfl
theorem drawn1 : ((List.range 80).all fun i => drawnOk (Nat.add 80 i)) = true := by kernel_rfl
theorem drawn2 : ((List.range 80).all fun i => drawnOk (Nat.add 160 i)) = true := by kernel_rfl
theorem drawn3 : ((List.range 80).all fun i => drawnOk (Nat.add 240 i)) = true := by kernel_rfl
theorem drawn4 : ((List.range 80).all fun i => drawnOk (Nat.add 320 i)) = true := by kernel_rfl
theorem drawn5 : ((List.range 80).all fun i => drawnOk (Nat.add 400 i)) = true := by kernel_rfl
theorem drawn6 : ((List.range 80).all fun i => drawnOk (Nat.add 480 i)) = true := by kernel_rfl
theorem drawFact : DrawFact Tryz.prog drawn := by
  intro f fn c hf hc hd ops ho
  have hsz : Tryz.prog.funcs.size = 505 := by kernel_rfl
  have hlt : f < 505 := by
    rcases Nat.lt_or_ge f 505 with h | h
    · exact h
    · rw [Array.getElem?_eq_none (by omega)] at hf; cases hf
  have key : drawnOk f = true := by
    have get : ∀ {n lo : Nat} {p : Nat → Bool}, ((List.range n).all fun i => p (Nat.add lo i)) = true → ∀ f, lo ≤ f → f < lo + n → p f = true := by
      intro n lo p h f h1 h2
      have := List.all_eq_true.1 h (f - lo) (List.mem_range.2 (by omega))
      have e : Nat.add lo (f - lo) = f := by show lo + (f - lo) = f; omega
      simpa only [e] using this
    have cut : ∀ g : Nat, g < 505 → ((0 ≤ g ∧ g < 80) ∨ (80 ≤ g ∧ g < 160) ∨ (160 ≤ g ∧ g < 240) ∨ (240 ≤ g ∧ g < 320) ∨ (320 ≤ g ∧ g < 400) ∨ (400 ≤ g ∧ g < 480) ∨ (480 ≤ g ∧ g < 560)) := by intro g hg; omega
    rcases cut f hlt with ⟨h, h'⟩ | ⟨h, h'⟩ | ⟨h, h'⟩ | ⟨h, h'⟩ | ⟨h, h'⟩ | ⟨h, h'⟩ | ⟨h, h'⟩
    · exact get drawn0 f h h'
    · exact get drawn1 f h h'
    · exact get drawn2 f h h'
    · exact get drawn3 f h h'
    · exact get drawn4 f h h'
    · exact get drawn5 f h h'
    · exact get drawn6 f h h'
  unfold drawnOk at key
  rw [hf] at key
  simp only [hc, hd] at key
  exact List.all_eq_true.1 key ops ho

theorem tyI_eq (t : TypeId) : tyI t = Tryz.prog.info? t := infoT_eq Tryz.prog t
theorem fnF_eq (f : FuncId) : fnF f = Tryz.prog.funcs[f]? := funcT_eq Tryz.prog f
theorem awakeF : runAw = .ok := by kernel_rfl
theorem awake_run : callA Tryz.prog glo0 A0 1000000 140 (.func 6) [] ⟨heap0, 11, ⟨[], []⟩⟩ (isV (.bool true)) = true := ansA_run tyI_eq fnF_eq drawFact dirT_ok (vt awakeF rfl)
section
variable {σ : Sg} {w0 : World}
theorem ans1 (hL : Libs w0) (hfx : ∀ r o, fixed r = true → w0.heap[r]? = some o → σ.fx r = some o) : AnsOk Tryz.prog σ A1 := by
  intro g ans args v hg hv e w vs kd c cs hl hx hk
  unfold A1 at hg
  split at hg
  · rename_i h
    obtain rfl : g = 6 := by simpa using h
    obtain rfl := Option.some.inj hg
    unfold ansT at hv
    split at hv
    · obtain rfl := Option.some.inj hv
      let τ : Sg := { σ with pn := fun _ => none }
      exact goes_of_run (τ := τ) (callA_sound noCount extFact (ans0 (σ := τ) noCount hL hfx) 1000000 140) (fun _ => rfl) awake_run rfl rfl e w vs kd c cs hl hx hk
    · cases hv
  · exact ans0 noCount hL hfx g ans args v hg hv e w vs kd c cs hl hx hk
/-- a call of a law whose run is seen -/
theorem law_calls {A : AnsT} {f : FuncId} {fn : Func} (hf : Tryz.prog.funcs[f]? = some fn) {cb : Code} (hbody : fn.body = some cb) {args : List CV} {tab : Tab} (hr : (runs A f args tab).val = true) (hA : AnsOk Tryz.prog σ A) (hs : Sat σ tab) (w : World)
    (hx : ∀ r o, σ.fx r = some o → w.heap[r]? = some o) (hpn : ∀ b, σ.pn b = none) (vs : Array Value) (hv : LR σ (fun _ => none) args vs.toList) : Calls Tryz.prog f vs w fun e w' => e = .returned (.bool true) ∧ w.keptBut w' (fun _ => False) :=
  calls_true noCount (callA_sound noCount extFact hA 1000000 140) hf hbody (runA_step tyI_eq fnF_eq drawFact dirT_ok hr) hs w hx hpn vs hv
end
#print axioms law_calls
end Go.Proofs.YtdbhonkahlcdoaaGreatDoor
