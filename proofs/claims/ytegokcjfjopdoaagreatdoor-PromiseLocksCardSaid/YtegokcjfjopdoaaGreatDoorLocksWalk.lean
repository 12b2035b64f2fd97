/- PromiseLocks hands back true at every input: the evaluator's thirty runs, put together. -/
import Derived.Test.YtegokcjfjopdoaaGreatDoorRunA
import Derived.Test.YtegokcjfjopdoaaGreatDoorRunL0
import Derived.Test.YtegokcjfjopdoaaGreatDoorRunL1
import Derived.Test.YtegokcjfjopdoaaGreatDoorRunL2
namespace Go.Proofs.YtegokcjfjopdoaaGreatDoor.promiseLocks
open Go Go.Ev
set_option maxRecDepth 100000

theorem fits_u8 {a : Int} (h : (Lit.int .u8 a).wf = true) : 0 ≤ a ∧ a ≤ 255 := by
  have e1 : IntKind.min .u8 = 0 := by kernel_rfl
  have e2 : IntKind.max .u8 = 255 := by kernel_rfl
  simpa [Lit.wf, e1, e2] using h
theorem fits_i32 {a : Int} (h : (Lit.int .i32 a).wf = true) : -2147483648 ≤ a ∧ a ≤ 2147483647 := by
  have e1 : IntKind.min .i32 = -2147483648 := by kernel_rfl
  have e2 : IntKind.max .i32 = 2147483647 := by kernel_rfl
  simpa [Lit.wf, e1, e2] using h

def at3 (a0 a1 a2 : Int) : Nat → Int
  | 0 => a0
  | 1 => a1
  | _ => a2

theorem walk (a0 : Int) (a1 : Int) (a2 : Int) (w0 : (Lit.int .u8 a0).wf = true) (w1 : (Lit.int .i32 a1).wf = true) (w2 : (Lit.int .u8 a2).wf = true) (w : World) :
    Calls Tryz.prog 4 #[.int .u8 a0, .int .i32 a1, .int .u8 a2] w fun e w' => e = .returned (.bool true) ∧ w.keptBut w' (fun _ => False) := by
  have b0 := fits_u8 w0
  have b1 := fits_i32 w1
  have b2 := fits_u8 w2
  obtain ⟨n0, rfl⟩ : ∃ n : Nat, a0 = Int.ofNat n := ⟨a0.toNat, by simp only [Int.ofNat_eq_natCast]; omega⟩
  obtain ⟨n2, rfl⟩ : ∃ n : Nat, a2 = Int.ofNat n := ⟨a2.toNat, by simp only [Int.ofNat_eq_natCast]; omega⟩
  let σ : Sg := { i := at3 (Int.ofNat n0) a1 (Int.ofNat n2), s := fun _ => ByteArray.empty }
  have hcall : SoundCall Tryz.prog σ (fun _ => false) (ovr 22 (callC Tryz.prog (fun _ => false) 100000 60)) :=
    ovr_ok (eval_sound noCount extFact 100000 60) (eval_sound noCount extFact 100000 60) awake33_run
  have hs : Sat σ [(0, 255), (-2147483648, 2147483647), (0, 255)] := by
    intro s lo hi h
    match s, h with
    | 0, h => cases h; exact b0
    | 1, h => cases h; exact b1
    | 2, h => cases h; exact b2
    | n + 3, h => simp at h
  have hv (g : Nat) (hg : n2 % 3 = g) : LR σ (fun _ => none) [.symr .u8 0 10 (n0 % 10), .sym .i32 1, .symr .u8 2 3 g] (#[.int .u8 (Int.ofNat n0), .int .i32 a1, .int .u8 (Int.ofNat n2)] : Array Value).toList :=
    LR.cons (.symr (σ := σ) .u8 0 10 _ n0 rfl rfl) (LR.cons (.sym (σ := σ) .i32 1) (LR.cons (.symr (σ := σ) .u8 2 3 g n2 rfl hg) LR.nil))
  obtain ⟨cb, hbody⟩ : ∃ cb, Tryz.f4.body = some cb := Option.isSome_iff_exists.1 (by kernel_rfl)
  have hr : n0 % 10 < 10 := Nat.mod_lt _ (by decide)
  have h3 : n2 % 3 < 3 := Nat.mod_lt _ (by decide)
  rcases (by omega : n2 % 3 = 0 ∨ n2 % 3 = 1 ∨ n2 % 3 = 2) with hg | hg | hg
  · exact calls_true noCount hcall Tryz.func4 hbody (locks0_all _ hr) hs w _ (hv 0 hg)
  · exact calls_true noCount hcall Tryz.func4 hbody (locks1_all _ hr) hs w _ (hv 1 hg)
  · exact calls_true noCount hcall Tryz.func4 hbody (locks2_all _ hr) hs w _ (hv 2 hg)
#print axioms walk
end Go.Proofs.YtegokcjfjopdoaaGreatDoor.promiseLocks
