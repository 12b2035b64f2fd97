/- MachineDeep hands back true at every input: the evaluator's runs, put together. -/
import Derived.Test.YtapognhadfncmaaGreatDoorDeepL1
import Derived.Test.YtapognhadfncmaaGreatDoorDeepOa
import Derived.Test.YtapognhadfncmaaGreatDoorDeepOb
import Derived.Test.YtapognhadfncmaaGreatDoorDeepOc
namespace Go.Proofs.YtapognhadfncmaaGreatDoor.machineDeep
open Go Go.Ev
set_option maxRecDepth 100000

theorem fits_u8 {a : Int} (h : (Lit.int .u8 a).wf = true) : 0 ≤ a ∧ a ≤ 255 := by
  have e1 : IntKind.min .u8 = 0 := by kernel_rfl
  have e2 : IntKind.max .u8 = 255 := by kernel_rfl
  simpa [Lit.wf, e1, e2] using h
theorem fits_u16 {a : Int} (h : (Lit.int .u16 a).wf = true) : 0 ≤ a ∧ a ≤ 65535 := by
  have e1 : IntKind.min .u16 = 0 := by kernel_rfl
  have e2 : IntKind.max .u16 = 65535 := by kernel_rfl
  simpa [Lit.wf, e1, e2] using h
theorem lin_of {σ : Sg} {e : Env} {k : IntKind} {c : Int} {ts : Ts} {a : Int} (h : lfVal σ.i c ts = a) : VR σ e (.lin k c ts) (.int k a) := by
  rw [← h]; exact .lin k c ts
theorem symr_of {σ : Sg} {e : Env} {k : IntKind} {s c lo : Nat} {a : Int} (h : σ.i s = a) (h0 : 0 ≤ a) (hr : a % (c : Int) = (lo : Int)) : VR σ e (.symr k s c lo 1) (.int k a) := by
  obtain ⟨n, rfl⟩ : ∃ n : Nat, a = Int.ofNat n := ⟨a.toNat, by simp only [Int.ofNat_eq_natCast]; omega⟩
  rw [← h]
  refine .symr (σ := σ) k s c lo 1 0 n h (by decide) ?_
  have : ((n % c : Nat) : Int) = (lo : Int) := by rw [Int.natCast_emod]; exact hr
  omega
/-- the symbols of a case -/
def sgm (d0 q h d1 : Int) : Sg := { i := fun s => match s with | 0 => d0 | 1 => q | 2 => h | 3 => d1 | _ => 0, s := fun _ => ByteArray.empty }
theorem sat1 {d0 q h d1 lo hi : Int} (h0 : lo ≤ d0 ∧ d0 ≤ hi) (h1 : 0 ≤ q ∧ q ≤ 163) (h2 : 0 ≤ h ∧ h ≤ 255) : Sat (sgm d0 q h d1) ⟨iv1 lo hi, []⟩ := ⟨fun s a b hs => by
  match s, hs with
  | 0, hs => cases hs; exact h0
  | 1, hs => cases hs; exact h1
  | 2, hs => cases hs; exact h2
  | s + 3, hs => simp [iv1] at hs, fun x hx => by cases hx⟩
theorem sat2 {d0 q h d1 lo hi : Int} (h0 : 0 ≤ d0 ∧ d0 ≤ 9) (h1 : 0 ≤ q ∧ q ≤ 163) (h2 : 0 ≤ h ∧ h ≤ 255) (h3 : lo ≤ d1 ∧ d1 ≤ hi) : Sat (sgm d0 q h d1) ⟨iv2 lo hi, []⟩ := ⟨fun s a b hs => by
  match s, hs with
  | 0, hs => cases hs; exact h0
  | 1, hs => cases hs; exact h1
  | 2, hs => cases hs; exact h2
  | 3, hs => cases hs; exact h3
  | s + 4, hs => simp [iv2] at hs, fun x hx => by cases hx⟩
theorem arg1 {a0 a1 d0 q d1 c : Int} {how : Nat} (h : a0 = c + d0 + 400 * q) (h0 : 0 ≤ a1) (hr : a1 % 2 = (how : Int)) : LR (sgm d0 q a1 d1) (fun _ => none) (argF how c [(1, 0)]) #[.int .u16 a0, .int .u8 a1].toList :=
  LR.cons (lin_of (by show c + (1 * d0 + (400 * q + 0)) = a0; omega)) (LR.cons (symr_of rfl h0 hr) LR.nil)
theorem arg2 {a0 a1 d0 q d1 c : Int} {how : Nat} (h : a0 = c + d0 + 10 * d1 + 400 * q) (h0 : 0 ≤ a1) (hr : a1 % 2 = (how : Int)) : LR (sgm d0 q a1 d1) (fun _ => none) (argF how c [(1, 0), (10, 3)]) #[.int .u16 a0, .int .u8 a1].toList :=
  LR.cons (lin_of (by show c + (1 * d0 + (10 * d1 + (400 * q + 0))) = a0; omega)) (LR.cons (symr_of rfl h0 hr) LR.nil)
theorem walk (a0 a1 : Int) (w0 : (Lit.int .u16 a0).wf = true) (w1 : (Lit.int .u8 a1).wf = true) (w : World) :
    Calls Tryz.prog 3 #[.int .u16 a0, .int .u8 a1] w fun e w' => e = .returned (.bool true) ∧ w.keptBut w' (fun _ => False) := by
  have c0 := fits_u16 w0
  have c1 := fits_u8 w1
  clear w0 w1
  obtain ⟨cb, hbody⟩ : ∃ cb, Tryz.f3.body = some cb := Option.isSome_iff_exists.1 (by kernel_rfl)
  obtain ⟨k, hk⟩ : ∃ k, k = a0 % 400 := ⟨_, rfl⟩
  obtain ⟨q, hq⟩ : ∃ q, q = a0 / 400 := ⟨_, rfl⟩
  have e0 : a0 = k + 400 * q := by omega
  have q0 : 0 ≤ q ∧ q ≤ 163 := by omega
  have k0 : 0 ≤ k ∧ k < 400 := by omega
  clear hk hq c0
  have s1 : ∀ {how : Nat} {c lo hi : Int}, a1 % 2 = (how : Int) → lo ≤ k - c ∧ k - c ≤ hi → ∃ σ : Sg, Sat σ ⟨iv1 lo hi, []⟩ ∧ LR σ (fun _ => none) (argF how c [(1, 0)]) #[.int .u16 a0, .int .u8 a1].toList :=
    fun {how c lo hi} hh h => ⟨sgm (k - c) q a1 0, sat1 h q0 c1, arg1 (by omega) c1.1 hh⟩
  have s2 : ∀ {how : Nat} {c lo hi : Int}, a1 % 2 = (how : Int) → lo ≤ (k - c) / 10 ∧ (k - c) / 10 ≤ hi → ∃ σ : Sg, Sat σ ⟨iv2 lo hi, []⟩ ∧ LR σ (fun _ => none) (argF how c [(1, 0), (10, 3)]) #[.int .u16 a0, .int .u8 a1].toList :=
    fun {how c lo hi} hh h => ⟨sgm ((k - c) % 10) q a1 ((k - c) / 10), sat2 (by omega) q0 c1 h, arg2 (by omega) c1.1 hh⟩
  rcases (by omega : a1 % 2 = ((0 : Nat) : Int) ∨ a1 % 2 = ((1 : Nat) : Int)) with hh | hh <;>
  rcases (by omega : k < 10 ∨ (10 ≤ k ∧ k < 100) ∨ (100 ≤ k ∧ k < 200) ∨ (200 ≤ k ∧ k < 250) ∨ (250 ≤ k ∧ k < 255) ∨ (255 ≤ k ∧ k < 260) ∨ (260 ≤ k ∧ k < 300) ∨ 300 ≤ k) with h | h | h | h | h | h | h | h
  · obtain ⟨σ, a, b⟩ := s1 (c := 0) (lo := 0) (hi := 9) hh (by omega); exact lawF_calls nok0 kn0_call hbody (vt lx1 rfl) a w _ b
  · obtain ⟨σ, a, b⟩ := s2 (c := 0) (lo := 1) (hi := 9) hh (by omega); exact lawF_calls nok0 kn0_call hbody (vt lx2 rfl) a w _ b
  · obtain ⟨σ, a, b⟩ := s2 (c := 100) (lo := 0) (hi := 9) hh (by omega); exact lawF_calls nok0 kn0_call hbody (vt lx3 rfl) a w _ b
  · obtain ⟨σ, a, b⟩ := s2 (c := 200) (lo := 0) (hi := 4) hh (by omega); exact lawF_calls nok0 kn0_call hbody (vt lx4 rfl) a w _ b
  · obtain ⟨σ, a, b⟩ := s1 (c := 250) (lo := 0) (hi := 4) hh (by omega); exact lawF_calls nok0 kn0_call hbody (vt lx5 rfl) a w _ b
  · obtain ⟨σ, a, b⟩ := s1 (c := 250) (lo := 5) (hi := 9) hh (by omega); exact lawQ_calls Tryz.func3 hbody (vt o0a rfl) a w _ b
  · obtain ⟨σ, a, b⟩ := s2 (c := 200) (lo := 6) (hi := 9) hh (by omega); exact lawQ_calls Tryz.func3 hbody (vt o0b rfl) a w _ b
  · obtain ⟨σ, a, b⟩ := s2 (c := 300) (lo := 0) (hi := 9) hh (by omega); exact lawQ_calls Tryz.func3 hbody (vt o0c rfl) a w _ b
  · obtain ⟨σ, a, b⟩ := s1 (c := 0) (lo := 0) (hi := 9) hh (by omega); exact lawF_calls nok1 kn1_call hbody (vt ly1 rfl) a w _ b
  · obtain ⟨σ, a, b⟩ := s2 (c := 0) (lo := 1) (hi := 9) hh (by omega); exact lawF_calls nok1 kn1_call hbody (vt ly2 rfl) a w _ b
  · obtain ⟨σ, a, b⟩ := s2 (c := 100) (lo := 0) (hi := 9) hh (by omega); exact lawF_calls nok1 kn1_call hbody (vt ly3 rfl) a w _ b
  · obtain ⟨σ, a, b⟩ := s2 (c := 200) (lo := 0) (hi := 4) hh (by omega); exact lawF_calls nok1 kn1_call hbody (vt ly4 rfl) a w _ b
  · obtain ⟨σ, a, b⟩ := s1 (c := 250) (lo := 0) (hi := 4) hh (by omega); exact lawF_calls nok1 kn1_call hbody (vt ly5 rfl) a w _ b
  · obtain ⟨σ, a, b⟩ := s1 (c := 250) (lo := 5) (hi := 9) hh (by omega); exact lawQ_calls Tryz.func3 hbody (vt o1a rfl) a w _ b
  · obtain ⟨σ, a, b⟩ := s2 (c := 200) (lo := 6) (hi := 9) hh (by omega); exact lawQ_calls Tryz.func3 hbody (vt o1b rfl) a w _ b
  · obtain ⟨σ, a, b⟩ := s2 (c := 300) (lo := 0) (hi := 9) hh (by omega); exact lawQ_calls Tryz.func3 hbody (vt o1c rfl) a w _ b
#print axioms walk
end Go.Proofs.YtapognhadfncmaaGreatDoor.machineDeep
