/- PromiseOrders hands back true at every input: the evaluator's runs, put together. -/
import Derived.Test.YtlaoiglndjpojaaGreatDoorRunA
import Derived.Test.YtlaoiglndjpojaaGreatDoorRunO0
import Derived.Test.YtlaoiglndjpojaaGreatDoorRunO1
import Derived.Test.YtlaoiglndjpojaaGreatDoorRunO2
import Derived.Test.YtlaoiglndjpojaaGreatDoorRunO3
import Derived.Test.YtlaoiglndjpojaaGreatDoorRunO4
import Derived.Test.YtlaoiglndjpojaaGreatDoorRunO5
namespace Go.Proofs.YtlaoiglndjpojaaGreatDoor.promiseOrders
open Go Go.Ev
set_option maxRecDepth 100000

theorem fits_u8 {a : Int} (h : (Lit.int .u8 a).wf = true) : 0 ≤ a ∧ a ≤ 255 := by
  have e1 : IntKind.min .u8 = 0 := by kernel_rfl
  have e2 : IntKind.max .u8 = 255 := by kernel_rfl
  simpa [Lit.wf, e1, e2] using h

def at2 (a0 a1 : Int) : Nat → Int
  | 0 => a0
  | _ => a1

theorem all (r m : Nat) (hr : r < 6) (hm : m < 6) (b : Bool) : runs 4 3 [.symr .u8 0 6 r 1, .symr .u8 1 6 m 1, .bool b] ⟨[(0, 255), (0, 255)], []⟩ = true := by
  have pick : ∀ {p : Nat → Bool → Prop}, (p 0 true ∧ p 1 true ∧ p 2 true ∧ p 3 true ∧ p 4 true ∧ p 5 true ∧ p 0 false ∧ p 1 false ∧ p 2 false ∧ p 3 false ∧ p 4 false ∧ p 5 false) → ∀ m, m < 6 → ∀ b, p m b := by
    intro p h m hm b
    obtain ⟨t0, t1, t2, t3, t4, t5, f0, f1, f2, f3, f4, f5⟩ := h
    match m, hm, b with
    | 0, _, true => exact t0
    | 1, _, true => exact t1
    | 2, _, true => exact t2
    | 3, _, true => exact t3
    | 4, _, true => exact t4
    | 5, _, true => exact t5
    | 0, _, false => exact f0
    | 1, _, false => exact f1
    | 2, _, false => exact f2
    | 3, _, false => exact f3
    | 4, _, false => exact f4
    | 5, _, false => exact f5
    | n + 6, h, _ => exact absurd h (by omega)
  match r, hr with
  | 0, _ => exact pick (p := fun m b => runs 4 3 [.symr .u8 0 6 0 1, .symr .u8 1 6 m 1, .bool b] ⟨[(0, 255), (0, 255)], []⟩ = true) orders0 m hm b
  | 1, _ => exact pick (p := fun m b => runs 4 3 [.symr .u8 0 6 1 1, .symr .u8 1 6 m 1, .bool b] ⟨[(0, 255), (0, 255)], []⟩ = true) orders1 m hm b
  | 2, _ => exact pick (p := fun m b => runs 4 3 [.symr .u8 0 6 2 1, .symr .u8 1 6 m 1, .bool b] ⟨[(0, 255), (0, 255)], []⟩ = true) orders2 m hm b
  | 3, _ => exact pick (p := fun m b => runs 4 3 [.symr .u8 0 6 3 1, .symr .u8 1 6 m 1, .bool b] ⟨[(0, 255), (0, 255)], []⟩ = true) orders3 m hm b
  | 4, _ => exact pick (p := fun m b => runs 4 3 [.symr .u8 0 6 4 1, .symr .u8 1 6 m 1, .bool b] ⟨[(0, 255), (0, 255)], []⟩ = true) orders4 m hm b
  | 5, _ => exact pick (p := fun m b => runs 4 3 [.symr .u8 0 6 5 1, .symr .u8 1 6 m 1, .bool b] ⟨[(0, 255), (0, 255)], []⟩ = true) orders5 m hm b
  | n + 6, h => exact absurd h (by omega)

theorem walk (a0 a1 : Int) (b : Bool) (w0 : (Lit.int .u8 a0).wf = true) (w1 : (Lit.int .u8 a1).wf = true) (w : World) :
    Calls Tryz.prog 3 #[.int .u8 a0, .int .u8 a1, .bool b] w fun e w' => e = .returned (.bool true) ∧ w.keptBut w' (fun _ => False) := by
  have b0 := fits_u8 w0
  have b1 := fits_u8 w1
  obtain ⟨n0, rfl⟩ : ∃ n : Nat, a0 = Int.ofNat n := ⟨a0.toNat, by simp only [Int.ofNat_eq_natCast]; omega⟩
  obtain ⟨n1, rfl⟩ : ∃ n : Nat, a1 = Int.ofNat n := ⟨a1.toNat, by simp only [Int.ofNat_eq_natCast]; omega⟩
  let σ : Sg := { i := at2 (Int.ofNat n0) (Int.ofNat n1), s := fun _ => ByteArray.empty }
  have hcall : SoundCall Tryz.prog σ glo0 (ovr 4 (callC Tryz.prog glo0 100000 60)) :=
    ovr_ok (eval_sound noCount extFact 100000 60) (eval_sound noCount extFact 100000 60) awake33_run
  have hs : Sat σ ⟨[(0, 255), (0, 255)], []⟩ := by
    refine ⟨?_, fun x hx => by cases hx⟩
    intro s lo hi h
    match s, h with
    | 0, h => cases h; exact b0
    | 1, h => cases h; exact b1
    | n + 2, h => simp at h
  have hv : LR σ (fun _ => none) [.symr .u8 0 6 (n0 % 6) 1, .symr .u8 1 6 (n1 % 6) 1, .bool b] (#[.int .u8 (Int.ofNat n0), .int .u8 (Int.ofNat n1), .bool b] : Array Value).toList :=
    LR.cons (.symr (σ := σ) .u8 0 6 _ 1 0 n0 rfl (by decide) rfl) (LR.cons (.symr (σ := σ) .u8 1 6 _ 1 0 n1 rfl (by decide) rfl) (LR.cons (.bool b) LR.nil))
  obtain ⟨cb, hbody⟩ : ∃ cb, Tryz.f3.body = some cb := Option.isSome_iff_exists.1 (by kernel_rfl)
  exact calls_true noCount hcall Tryz.func3 hbody (runs_step (all _ _ (Nat.mod_lt _ (by decide)) (Nat.mod_lt _ (by decide)) b)) hs w _ hv
#print axioms walk
end Go.Proofs.YtlaoiglndjpojaaGreatDoor.promiseOrders
