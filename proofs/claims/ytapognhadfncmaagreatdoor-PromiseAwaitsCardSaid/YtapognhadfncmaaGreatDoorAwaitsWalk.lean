/- PromiseAwaits hands back true at every input: the evaluator's runs, put together. -/
import Derived.Test.YtapognhadfncmaaGreatDoorRunA
import Derived.Test.YtapognhadfncmaaGreatDoorRunA0
import Derived.Test.YtapognhadfncmaaGreatDoorRunA1
import Derived.Test.YtapognhadfncmaaGreatDoorRunA2
import Derived.Test.YtapognhadfncmaaGreatDoorRunA3
import Derived.Test.YtapognhadfncmaaGreatDoorRunA4
import Derived.Test.YtapognhadfncmaaGreatDoorRunA5
import Derived.Test.YtapognhadfncmaaGreatDoorRunA6
import Derived.Test.YtapognhadfncmaaGreatDoorRunA7
import Derived.Test.YtapognhadfncmaaGreatDoorRunA8
import Derived.Test.YtapognhadfncmaaGreatDoorRunA9
import Derived.Test.YtapognhadfncmaaGreatDoorRunA10
import Derived.Test.YtapognhadfncmaaGreatDoorRunA11
import Derived.Test.YtapognhadfncmaaGreatDoorRunA12
import Derived.Test.YtapognhadfncmaaGreatDoorRunA13
import Derived.Test.YtapognhadfncmaaGreatDoorRunA14
import Derived.Test.YtapognhadfncmaaGreatDoorRunA15
import Derived.Test.YtapognhadfncmaaGreatDoorRunA16
import Derived.Test.YtapognhadfncmaaGreatDoorRunA17
import Derived.Test.YtapognhadfncmaaGreatDoorRunA18
import Derived.Test.YtapognhadfncmaaGreatDoorRunA19
import Derived.Test.YtapognhadfncmaaGreatDoorRunA20
import Derived.Test.YtapognhadfncmaaGreatDoorRunA21
import Derived.Test.YtapognhadfncmaaGreatDoorRunA22
import Derived.Test.YtapognhadfncmaaGreatDoorRunA23
namespace Go.Proofs.YtapognhadfncmaaGreatDoor.promiseAwaits
open Go Go.Ev
set_option maxRecDepth 100000

theorem fits_u8 {a : Int} (h : (Lit.int .u8 a).wf = true) : 0 ≤ a ∧ a ≤ 255 := by
  have e1 : IntKind.min .u8 = 0 := by kernel_rfl
  have e2 : IntKind.max .u8 = 255 := by kernel_rfl
  simpa [Lit.wf, e1, e2] using h
theorem lin_of {σ : Sg} {e : Env} {k : IntKind} {c : Int} {ts : Ts} {a : Int} (h : lfVal σ.i c ts = a) : VR σ e (.lin k c ts) (.int k a) := by
  rw [← h]; exact .lin k c ts
theorem symr_of {σ : Sg} {e : Env} {k : IntKind} {s c lo : Nat} {a : Int} (h : σ.i s = a) (h0 : 0 ≤ a) (hr : a % (c : Int) = (lo : Int)) : VR σ e (.symr k s c lo 1) (.int k a) := by
  obtain ⟨n, rfl⟩ : ∃ n : Nat, a = Int.ofNat n := ⟨a.toNat, by simp only [Int.ofNat_eq_natCast]; omega⟩
  rw [← h]
  refine .symr (σ := σ) k s c lo 1 0 n h (by decide) ?_
  have : ((n % c : Nat) : Int) = (lo : Int) := by rw [Int.natCast_emod]; exact hr
  omega
theorem fits_i16 {a : Int} (h : (Lit.int .i16 a).wf = true) : -32768 ≤ a ∧ a ≤ 32767 := by
  have e1 : IntKind.min .i16 = -32768 := by kernel_rfl
  have e2 : IntKind.max .i16 = 32767 := by kernel_rfl
  simpa [Lit.wf, e1, e2] using h
theorem satI_append {g : Nat → Int} {l l' : Ivs} (h : SatI g l) (h' : SatI (fun i => g (l.length + i)) l') : SatI g (l ++ l') := by
  intro s lo hi hx
  rcases Nat.lt_or_ge s l.length with hs | hs
  · rw [List.getElem?_append_left hs] at hx; exact h s lo hi hx
  · rw [List.getElem?_append_right hs] at hx
    have := h' (s - l.length) lo hi hx
    have e : l.length + (s - l.length) = s := by omega
    simpa only [e] using this
theorem sat5 {g : Nat → Int} {p0 p1 p2 p3 p4 : Int × Int} (b0 : p0.1 ≤ g 0 ∧ g 0 ≤ p0.2) (b1 : p1.1 ≤ g 1 ∧ g 1 ≤ p1.2) (b2 : p2.1 ≤ g 2 ∧ g 2 ≤ p2.2)
    (b3 : p3.1 ≤ g 3 ∧ g 3 ≤ p3.2) (b4 : p4.1 ≤ g 4 ∧ g 4 ≤ p4.2) : SatI g [p0, p1, p2, p3, p4] := by
  intro s lo hi h
  match s, h with
  | 0, h => cases h; exact b0
  | 1, h => cases h; exact b1
  | 2, h => cases h; exact b2
  | 3, h => cases h; exact b3
  | 4, h => cases h; exact b4
  | n + 5, h => simp at h
theorem sat1 {g : Nat → Int} {p0 : Int × Int} (b0 : p0.1 ≤ g 0 ∧ g 0 ≤ p0.2) : SatI g [p0] := by
  intro s lo hi h
  match s, h with
  | 0, h => cases h; exact b0
  | n + 1, h => simp at h
/-- each number has a shape -/
theorem shape {g : Nat → Int} {off : Nat} {a m : Int} (hr : -32768 ≤ a ∧ a ≤ 32767) (hm : m = if a < 0 then -a else a) (g0 : g off = m % 10) (g1 : g (off + 1) = m / 10 % 10) (g2 : g (off + 2) = m / 100 % 10)
    (g3 : g (off + 3) = m / 1000 % 10) (g4 : g (off + 4) = m / 10000) :
    ∃ neg k, (1 ≤ k ∧ k ≤ 5) ∧ (neg = true ↔ a < 0) ∧ lfVal g 0 (fm off neg k) = a ∧ lfVal g 0 (fm off false k) = m ∧ lfVal g 0 (fm off true k) = -m ∧ SatI (fun i => g (off + i)) (dg neg k) ∧ (m ≠ 0 → SatI (fun i => g (off + i)) (dg true k)) := by
  have fin : ∀ (neg : Bool) (k : Nat), (1 ≤ k ∧ k ≤ 5) → (neg = true ↔ a < 0) → lfVal g 0 (fm off neg k) = a → lfVal g 0 (fm off false k) = m → lfVal g 0 (fm off true k) = -m → SatI (fun i => g (off + i)) (dg neg k) → (m ≠ 0 → SatI (fun i => g (off + i)) (dg true k)) →
      ∃ neg k, (1 ≤ k ∧ k ≤ 5) ∧ (neg = true ↔ a < 0) ∧ lfVal g 0 (fm off neg k) = a ∧ lfVal g 0 (fm off false k) = m ∧ lfVal g 0 (fm off true k) = -m ∧ SatI (fun i => g (off + i)) (dg neg k) ∧ (m ≠ 0 → SatI (fun i => g (off + i)) (dg true k)) :=
    fun neg k h1 h2 h3 h4 h5 h6 h7 => ⟨neg, k, h1, h2, h3, h4, h5, h6, h7⟩
  by_cases ha : a < 0
  · rw [if_pos ha] at hm
    rcases (by omega : m < 10 ∨ (10 ≤ m ∧ m < 100) ∨ (100 ≤ m ∧ m < 1000) ∨ (1000 ≤ m ∧ m < 10000) ∨ (10000 ≤ m ∧ m ≤ 32768)) with h | h | h | h | h
    · exact fin true 1 (by decide) (by simp [ha]) (by simp only [fm, lfVal, tsVal, g0]; omega) (by simp only [fm, lfVal, tsVal, g0]; omega) (by simp only [fm, lfVal, tsVal, g0]; omega) (sat5 (by show _ ≤ g off ∧ g off ≤ _; rw [g0]; simp only []; omega) (by show _ ≤ g (off + 1) ∧ g (off + 1) ≤ _; rw [g1]; simp only []; omega) (by show _ ≤ g (off + 2) ∧ g (off + 2) ≤ _; rw [g2]; simp only []; omega) (by show _ ≤ g (off + 3) ∧ g (off + 3) ≤ _; rw [g3]; simp only []; omega) (by show _ ≤ g (off + 4) ∧ g (off + 4) ≤ _; rw [g4]; simp only []; omega)) (fun hz => sat5 (by show _ ≤ g off ∧ g off ≤ _; rw [g0]; simp only []; omega) (by show _ ≤ g (off + 1) ∧ g (off + 1) ≤ _; rw [g1]; simp only []; omega) (by show _ ≤ g (off + 2) ∧ g (off + 2) ≤ _; rw [g2]; simp only []; omega) (by show _ ≤ g (off + 3) ∧ g (off + 3) ≤ _; rw [g3]; simp only []; omega) (by show _ ≤ g (off + 4) ∧ g (off + 4) ≤ _; rw [g4]; simp only []; omega))
    · exact fin true 2 (by decide) (by simp [ha]) (by simp only [fm, lfVal, tsVal, g0, g1]; omega) (by simp only [fm, lfVal, tsVal, g0, g1]; omega) (by simp only [fm, lfVal, tsVal, g0, g1]; omega) (sat5 (by show _ ≤ g off ∧ g off ≤ _; rw [g0]; simp only []; omega) (by show _ ≤ g (off + 1) ∧ g (off + 1) ≤ _; rw [g1]; simp only []; omega) (by show _ ≤ g (off + 2) ∧ g (off + 2) ≤ _; rw [g2]; simp only []; omega) (by show _ ≤ g (off + 3) ∧ g (off + 3) ≤ _; rw [g3]; simp only []; omega) (by show _ ≤ g (off + 4) ∧ g (off + 4) ≤ _; rw [g4]; simp only []; omega)) (fun hz => sat5 (by show _ ≤ g off ∧ g off ≤ _; rw [g0]; simp only []; omega) (by show _ ≤ g (off + 1) ∧ g (off + 1) ≤ _; rw [g1]; simp only []; omega) (by show _ ≤ g (off + 2) ∧ g (off + 2) ≤ _; rw [g2]; simp only []; omega) (by show _ ≤ g (off + 3) ∧ g (off + 3) ≤ _; rw [g3]; simp only []; omega) (by show _ ≤ g (off + 4) ∧ g (off + 4) ≤ _; rw [g4]; simp only []; omega))
    · exact fin true 3 (by decide) (by simp [ha]) (by simp only [fm, lfVal, tsVal, g0, g1, g2]; omega) (by simp only [fm, lfVal, tsVal, g0, g1, g2]; omega) (by simp only [fm, lfVal, tsVal, g0, g1, g2]; omega) (sat5 (by show _ ≤ g off ∧ g off ≤ _; rw [g0]; simp only []; omega) (by show _ ≤ g (off + 1) ∧ g (off + 1) ≤ _; rw [g1]; simp only []; omega) (by show _ ≤ g (off + 2) ∧ g (off + 2) ≤ _; rw [g2]; simp only []; omega) (by show _ ≤ g (off + 3) ∧ g (off + 3) ≤ _; rw [g3]; simp only []; omega) (by show _ ≤ g (off + 4) ∧ g (off + 4) ≤ _; rw [g4]; simp only []; omega)) (fun hz => sat5 (by show _ ≤ g off ∧ g off ≤ _; rw [g0]; simp only []; omega) (by show _ ≤ g (off + 1) ∧ g (off + 1) ≤ _; rw [g1]; simp only []; omega) (by show _ ≤ g (off + 2) ∧ g (off + 2) ≤ _; rw [g2]; simp only []; omega) (by show _ ≤ g (off + 3) ∧ g (off + 3) ≤ _; rw [g3]; simp only []; omega) (by show _ ≤ g (off + 4) ∧ g (off + 4) ≤ _; rw [g4]; simp only []; omega))
    · exact fin true 4 (by decide) (by simp [ha]) (by simp only [fm, lfVal, tsVal, g0, g1, g2, g3]; omega) (by simp only [fm, lfVal, tsVal, g0, g1, g2, g3]; omega) (by simp only [fm, lfVal, tsVal, g0, g1, g2, g3]; omega) (sat5 (by show _ ≤ g off ∧ g off ≤ _; rw [g0]; simp only []; omega) (by show _ ≤ g (off + 1) ∧ g (off + 1) ≤ _; rw [g1]; simp only []; omega) (by show _ ≤ g (off + 2) ∧ g (off + 2) ≤ _; rw [g2]; simp only []; omega) (by show _ ≤ g (off + 3) ∧ g (off + 3) ≤ _; rw [g3]; simp only []; omega) (by show _ ≤ g (off + 4) ∧ g (off + 4) ≤ _; rw [g4]; simp only []; omega)) (fun hz => sat5 (by show _ ≤ g off ∧ g off ≤ _; rw [g0]; simp only []; omega) (by show _ ≤ g (off + 1) ∧ g (off + 1) ≤ _; rw [g1]; simp only []; omega) (by show _ ≤ g (off + 2) ∧ g (off + 2) ≤ _; rw [g2]; simp only []; omega) (by show _ ≤ g (off + 3) ∧ g (off + 3) ≤ _; rw [g3]; simp only []; omega) (by show _ ≤ g (off + 4) ∧ g (off + 4) ≤ _; rw [g4]; simp only []; omega))
    · exact fin true 5 (by decide) (by simp [ha]) (by simp only [fm, lfVal, tsVal, g0, g1, g2, g3, g4]; omega) (by simp only [fm, lfVal, tsVal, g0, g1, g2, g3, g4]; omega) (by simp only [fm, lfVal, tsVal, g0, g1, g2, g3, g4]; omega) (sat5 (by show _ ≤ g off ∧ g off ≤ _; rw [g0]; simp only []; omega) (by show _ ≤ g (off + 1) ∧ g (off + 1) ≤ _; rw [g1]; simp only []; omega) (by show _ ≤ g (off + 2) ∧ g (off + 2) ≤ _; rw [g2]; simp only []; omega) (by show _ ≤ g (off + 3) ∧ g (off + 3) ≤ _; rw [g3]; simp only []; omega) (by show _ ≤ g (off + 4) ∧ g (off + 4) ≤ _; rw [g4]; simp only []; omega)) (fun hz => sat5 (by show _ ≤ g off ∧ g off ≤ _; rw [g0]; simp only []; omega) (by show _ ≤ g (off + 1) ∧ g (off + 1) ≤ _; rw [g1]; simp only []; omega) (by show _ ≤ g (off + 2) ∧ g (off + 2) ≤ _; rw [g2]; simp only []; omega) (by show _ ≤ g (off + 3) ∧ g (off + 3) ≤ _; rw [g3]; simp only []; omega) (by show _ ≤ g (off + 4) ∧ g (off + 4) ≤ _; rw [g4]; simp only []; omega))
  · rw [if_neg ha] at hm
    rcases (by omega : m < 10 ∨ (10 ≤ m ∧ m < 100) ∨ (100 ≤ m ∧ m < 1000) ∨ (1000 ≤ m ∧ m < 10000) ∨ (10000 ≤ m ∧ m ≤ 32768)) with h | h | h | h | h
    · exact fin false 1 (by decide) (by simp [ha]) (by simp only [fm, lfVal, tsVal, g0]; omega) (by simp only [fm, lfVal, tsVal, g0]; omega) (by simp only [fm, lfVal, tsVal, g0]; omega) (sat5 (by show _ ≤ g off ∧ g off ≤ _; rw [g0]; simp only []; omega) (by show _ ≤ g (off + 1) ∧ g (off + 1) ≤ _; rw [g1]; simp only []; omega) (by show _ ≤ g (off + 2) ∧ g (off + 2) ≤ _; rw [g2]; simp only []; omega) (by show _ ≤ g (off + 3) ∧ g (off + 3) ≤ _; rw [g3]; simp only []; omega) (by show _ ≤ g (off + 4) ∧ g (off + 4) ≤ _; rw [g4]; simp only []; omega)) (fun hz => sat5 (by show _ ≤ g off ∧ g off ≤ _; rw [g0]; simp only []; omega) (by show _ ≤ g (off + 1) ∧ g (off + 1) ≤ _; rw [g1]; simp only []; omega) (by show _ ≤ g (off + 2) ∧ g (off + 2) ≤ _; rw [g2]; simp only []; omega) (by show _ ≤ g (off + 3) ∧ g (off + 3) ≤ _; rw [g3]; simp only []; omega) (by show _ ≤ g (off + 4) ∧ g (off + 4) ≤ _; rw [g4]; simp only []; omega))
    · exact fin false 2 (by decide) (by simp [ha]) (by simp only [fm, lfVal, tsVal, g0, g1]; omega) (by simp only [fm, lfVal, tsVal, g0, g1]; omega) (by simp only [fm, lfVal, tsVal, g0, g1]; omega) (sat5 (by show _ ≤ g off ∧ g off ≤ _; rw [g0]; simp only []; omega) (by show _ ≤ g (off + 1) ∧ g (off + 1) ≤ _; rw [g1]; simp only []; omega) (by show _ ≤ g (off + 2) ∧ g (off + 2) ≤ _; rw [g2]; simp only []; omega) (by show _ ≤ g (off + 3) ∧ g (off + 3) ≤ _; rw [g3]; simp only []; omega) (by show _ ≤ g (off + 4) ∧ g (off + 4) ≤ _; rw [g4]; simp only []; omega)) (fun hz => sat5 (by show _ ≤ g off ∧ g off ≤ _; rw [g0]; simp only []; omega) (by show _ ≤ g (off + 1) ∧ g (off + 1) ≤ _; rw [g1]; simp only []; omega) (by show _ ≤ g (off + 2) ∧ g (off + 2) ≤ _; rw [g2]; simp only []; omega) (by show _ ≤ g (off + 3) ∧ g (off + 3) ≤ _; rw [g3]; simp only []; omega) (by show _ ≤ g (off + 4) ∧ g (off + 4) ≤ _; rw [g4]; simp only []; omega))
    · exact fin false 3 (by decide) (by simp [ha]) (by simp only [fm, lfVal, tsVal, g0, g1, g2]; omega) (by simp only [fm, lfVal, tsVal, g0, g1, g2]; omega) (by simp only [fm, lfVal, tsVal, g0, g1, g2]; omega) (sat5 (by show _ ≤ g off ∧ g off ≤ _; rw [g0]; simp only []; omega) (by show _ ≤ g (off + 1) ∧ g (off + 1) ≤ _; rw [g1]; simp only []; omega) (by show _ ≤ g (off + 2) ∧ g (off + 2) ≤ _; rw [g2]; simp only []; omega) (by show _ ≤ g (off + 3) ∧ g (off + 3) ≤ _; rw [g3]; simp only []; omega) (by show _ ≤ g (off + 4) ∧ g (off + 4) ≤ _; rw [g4]; simp only []; omega)) (fun hz => sat5 (by show _ ≤ g off ∧ g off ≤ _; rw [g0]; simp only []; omega) (by show _ ≤ g (off + 1) ∧ g (off + 1) ≤ _; rw [g1]; simp only []; omega) (by show _ ≤ g (off + 2) ∧ g (off + 2) ≤ _; rw [g2]; simp only []; omega) (by show _ ≤ g (off + 3) ∧ g (off + 3) ≤ _; rw [g3]; simp only []; omega) (by show _ ≤ g (off + 4) ∧ g (off + 4) ≤ _; rw [g4]; simp only []; omega))
    · exact fin false 4 (by decide) (by simp [ha]) (by simp only [fm, lfVal, tsVal, g0, g1, g2, g3]; omega) (by simp only [fm, lfVal, tsVal, g0, g1, g2, g3]; omega) (by simp only [fm, lfVal, tsVal, g0, g1, g2, g3]; omega) (sat5 (by show _ ≤ g off ∧ g off ≤ _; rw [g0]; simp only []; omega) (by show _ ≤ g (off + 1) ∧ g (off + 1) ≤ _; rw [g1]; simp only []; omega) (by show _ ≤ g (off + 2) ∧ g (off + 2) ≤ _; rw [g2]; simp only []; omega) (by show _ ≤ g (off + 3) ∧ g (off + 3) ≤ _; rw [g3]; simp only []; omega) (by show _ ≤ g (off + 4) ∧ g (off + 4) ≤ _; rw [g4]; simp only []; omega)) (fun hz => sat5 (by show _ ≤ g off ∧ g off ≤ _; rw [g0]; simp only []; omega) (by show _ ≤ g (off + 1) ∧ g (off + 1) ≤ _; rw [g1]; simp only []; omega) (by show _ ≤ g (off + 2) ∧ g (off + 2) ≤ _; rw [g2]; simp only []; omega) (by show _ ≤ g (off + 3) ∧ g (off + 3) ≤ _; rw [g3]; simp only []; omega) (by show _ ≤ g (off + 4) ∧ g (off + 4) ≤ _; rw [g4]; simp only []; omega))
    · exact fin false 5 (by decide) (by simp [ha]) (by simp only [fm, lfVal, tsVal, g0, g1, g2, g3, g4]; omega) (by simp only [fm, lfVal, tsVal, g0, g1, g2, g3, g4]; omega) (by simp only [fm, lfVal, tsVal, g0, g1, g2, g3, g4]; omega) (sat5 (by show _ ≤ g off ∧ g off ≤ _; rw [g0]; simp only []; omega) (by show _ ≤ g (off + 1) ∧ g (off + 1) ≤ _; rw [g1]; simp only []; omega) (by show _ ≤ g (off + 2) ∧ g (off + 2) ≤ _; rw [g2]; simp only []; omega) (by show _ ≤ g (off + 3) ∧ g (off + 3) ≤ _; rw [g3]; simp only []; omega) (by show _ ≤ g (off + 4) ∧ g (off + 4) ≤ _; rw [g4]; simp only []; omega)) (fun hz => sat5 (by show _ ≤ g off ∧ g off ≤ _; rw [g0]; simp only []; omega) (by show _ ≤ g (off + 1) ∧ g (off + 1) ≤ _; rw [g1]; simp only []; omega) (by show _ ≤ g (off + 2) ∧ g (off + 2) ≤ _; rw [g2]; simp only []; omega) (by show _ ≤ g (off + 3) ∧ g (off + 3) ≤ _; rw [g3]; simp only []; omega) (by show _ ≤ g (off + 4) ∧ g (off + 4) ≤ _; rw [g4]; simp only []; omega))
theorem pick0_0 (na : Bool) (ka : Nat) (ha : 1 ≤ ka ∧ ka ≤ 5) : (aw 0 0 na ka).val = true := by
  cases na <;> rcases (by omega : ka = 1 ∨ ka = 2 ∨ ka = 3 ∨ ka = 4 ∨ ka = 5) with rfl | rfl | rfl | rfl | rfl
  · exact vt aws15.1 rfl
  · exact vt aws3.1 rfl
  · exact vt aws19.1 rfl
  · exact vt aws15.2.1 rfl
  · exact vt aws3.2.1 rfl
  · exact vt aws12.1 rfl
  · exact vt aws20.1 rfl
  · exact vt aws0.1 rfl
  · exact vt aws12.2.1 rfl
  · exact vt aws7.1 rfl
theorem pick0_1 (na : Bool) (ka : Nat) (ha : 1 ≤ ka ∧ ka ≤ 5) : (aw 0 1 na ka).val = true := by
  cases na <;> rcases (by omega : ka = 1 ∨ ka = 2 ∨ ka = 3 ∨ ka = 4 ∨ ka = 5) with rfl | rfl | rfl | rfl | rfl
  · exact vt aws21.2.1 rfl
  · exact vt aws12.2.2.1 rfl
  · exact vt aws16.1 rfl
  · exact vt aws18.1 rfl
  · exact vt aws15.2.2.1 rfl
  · exact vt aws8.1 rfl
  · exact vt aws21.1 rfl
  · exact vt aws17.1 rfl
  · exact vt aws0.2.1 rfl
  · exact vt aws13.1 rfl
theorem pick0_2 (na : Bool) (ka : Nat) (ha : 1 ≤ ka ∧ ka ≤ 5) : (aw 0 2 na ka).val = true := by
  cases na <;> rcases (by omega : ka = 1 ∨ ka = 2 ∨ ka = 3 ∨ ka = 4 ∨ ka = 5) with rfl | rfl | rfl | rfl | rfl
  · exact vt aws17.2.2.1 rfl
  · exact vt aws7.2.1 rfl
  · exact vt aws22.1 rfl
  · exact vt aws20.2.1 rfl
  · exact vt aws9.1 rfl
  · exact vt aws14.1 rfl
  · exact vt aws21.2.2.1 rfl
  · exact vt aws17.2.1 rfl
  · exact vt aws0.2.2.1 rfl
  · exact vt aws15.2.2.2.1 rfl
theorem pick0_3 (na : Bool) (ka : Nat) (ha : 1 ≤ ka ∧ ka ≤ 5) : (aw 0 3 na ka).val = true := by
  cases na <;> rcases (by omega : ka = 1 ∨ ka = 2 ∨ ka = 3 ∨ ka = 4 ∨ ka = 5) with rfl | rfl | rfl | rfl | rfl
  · exact vt aws13.2.1 rfl
  · exact vt aws3.2.2.1 rfl
  · exact vt aws6.1 rfl
  · exact vt aws7.2.2.1 rfl
  · exact vt aws8.2.1 rfl
  · exact vt aws0.2.2.2.1 rfl
  · exact vt aws17.2.2.2.1 rfl
  · exact vt aws21.2.2.2.1 rfl
  · exact vt aws9.2.1 rfl
  · exact vt aws10.1 rfl
theorem pick0_4 (na : Bool) (ka : Nat) (ha : 1 ≤ ka ∧ ka ≤ 5) : (aw 0 4 na ka).val = true := by
  cases na <;> rcases (by omega : ka = 1 ∨ ka = 2 ∨ ka = 3 ∨ ka = 4 ∨ ka = 5) with rfl | rfl | rfl | rfl | rfl
  · exact vt aws6.2.1 rfl
  · exact vt aws3.2.2.2.1 rfl
  · exact vt aws7.2.2.2.1 rfl
  · exact vt aws11.1 rfl
  · exact vt aws13.2.2.1 rfl
  · exact vt aws22.2.1 rfl
  · exact vt aws9.2.2.1 rfl
  · exact vt aws10.2.1 rfl
  · exact vt aws21.2.2.2.2.1 rfl
  · exact vt aws16.2.1 rfl
theorem pick0_5 (na : Bool) (ka : Nat) (ha : 1 ≤ ka ∧ ka ≤ 5) : (aw 0 5 na ka).val = true := by
  cases na <;> rcases (by omega : ka = 1 ∨ ka = 2 ∨ ka = 3 ∨ ka = 4 ∨ ka = 5) with rfl | rfl | rfl | rfl | rfl
  · exact vt aws7.2.2.2.2.1 rfl
  · exact vt aws6.2.2.1 rfl
  · exact vt aws7.2.2.2.2.2.1 rfl
  · exact vt aws8.2.2.1 rfl
  · exact vt aws18.2.1 rfl
  · exact vt aws16.2.2.1 rfl
  · exact vt aws0.2.2.2.2.1 rfl
  · exact vt aws10.2.2.1 rfl
  · exact vt aws9.2.2.2.1 rfl
  · exact vt aws11.2.1 rfl
theorem pick0_6 (na : Bool) (ka : Nat) (ha : 1 ≤ ka ∧ ka ≤ 5) : (aw 0 6 na ka).val = true := by
  cases na <;> rcases (by omega : ka = 1 ∨ ka = 2 ∨ ka = 3 ∨ ka = 4 ∨ ka = 5) with rfl | rfl | rfl | rfl | rfl
  · exact vt aws23.1 rfl
  · exact vt aws2.1 rfl
  · exact vt aws3.2.2.2.2.1 rfl
  · exact vt aws8.2.2.2.1 rfl
  · exact vt aws23.2.1 rfl
  · exact vt aws16.2.2.2.1 rfl
  · exact vt aws15.2.2.2.2.1 rfl
  · exact vt aws14.2.1 rfl
  · exact vt aws17.2.2.2.2.1 rfl
  · exact vt aws13.2.2.2.1 rfl
theorem pick0_7 (na : Bool) (ka : Nat) (ha : 1 ≤ ka ∧ ka ≤ 5) : (aw 0 7 na ka).val = true := by
  cases na <;> rcases (by omega : ka = 1 ∨ ka = 2 ∨ ka = 3 ∨ ka = 4 ∨ ka = 5) with rfl | rfl | rfl | rfl | rfl
  · exact vt aws11.2.2.1 rfl
  · exact vt aws4.1 rfl
  · exact vt aws6.2.2.2.1 rfl
  · exact vt aws8.2.2.2.2.1 rfl
  · exact vt aws11.2.2.2.1 rfl
  · exact vt aws15.2.2.2.2.2.1 rfl
  · exact vt aws21.2.2.2.2.2.1 rfl
  · exact vt aws23.2.2.1 rfl
  · exact vt aws20.2.2.1 rfl
  · exact vt aws16.2.2.2.2.1 rfl
theorem pick1_0 (na : Bool) (ka : Nat) (ha : 1 ≤ ka ∧ ka ≤ 5) : (aw 1 0 na ka).val = true := by
  cases na <;> rcases (by omega : ka = 1 ∨ ka = 2 ∨ ka = 3 ∨ ka = 4 ∨ ka = 5) with rfl | rfl | rfl | rfl | rfl
  · exact vt aws8.2.2.2.2.2.1 rfl
  · exact vt aws7.2.2.2.2.2.2.1 rfl
  · exact vt aws9.2.2.2.2.1 rfl
  · exact vt aws8.2.2.2.2.2.2.1 rfl
  · exact vt aws7.2.2.2.2.2.2.2.1 rfl
  · exact vt aws16.2.2.2.2.2.1 rfl
  · exact vt aws14.2.2.1 rfl
  · exact vt aws13.2.2.2.2.1 rfl
  · exact vt aws16.2.2.2.2.2.2.1 rfl
  · exact vt aws6.2.2.2.2.1 rfl
theorem pick1_1 (na : Bool) (ka : Nat) (ha : 1 ≤ ka ∧ ka ≤ 5) : (aw 1 1 na ka).val = true := by
  cases na <;> rcases (by omega : ka = 1 ∨ ka = 2 ∨ ka = 3 ∨ ka = 4 ∨ ka = 5) with rfl | rfl | rfl | rfl | rfl
  · exact vt aws20.2.2.2.2.1 rfl
  · exact vt aws14.2.2.2.1 rfl
  · exact vt aws11.2.2.2.2.1 rfl
  · exact vt aws19.2.1 rfl
  · exact vt aws22.2.2.1 rfl
  · exact vt aws9.2.2.2.2.2.1 rfl
  · exact vt aws10.2.2.2.1 rfl
  · exact vt aws23.2.2.2.1 rfl
  · exact vt aws20.2.2.2.1 rfl
  · exact vt aws1.1 rfl
theorem pick1_2 (na : Bool) (ka : Nat) (ha : 1 ≤ ka ∧ ka ≤ 5) : (aw 1 2 na ka).val = true := by
  cases na <;> rcases (by omega : ka = 1 ∨ ka = 2 ∨ ka = 3 ∨ ka = 4 ∨ ka = 5) with rfl | rfl | rfl | rfl | rfl
  · exact vt aws10.2.2.2.2.1 rfl
  · exact vt aws18.2.2.1 rfl
  · exact vt aws12.2.2.2.1 rfl
  · exact vt aws15.2.2.2.2.2.2.1 rfl
  · exact vt aws16.2.2.2.2.2.2.2.1 rfl
  · exact vt aws22.2.2.2.1 rfl
  · exact vt aws23.2.2.2.2.1 rfl
  · exact vt aws14.2.2.2.2.1 rfl
  · exact vt aws20.2.2.2.2.2.1 rfl
  · exact vt aws13.2.2.2.2.2.1 rfl
theorem pick1_3 (na : Bool) (ka : Nat) (ha : 1 ≤ ka ∧ ka ≤ 5) : (aw 1 3 na ka).val = true := by
  cases na <;> rcases (by omega : ka = 1 ∨ ka = 2 ∨ ka = 3 ∨ ka = 4 ∨ ka = 5) with rfl | rfl | rfl | rfl | rfl
  · exact vt aws3.2.2.2.2.2.1 rfl
  · exact vt aws2.2.1 rfl
  · exact vt aws4.2.1 rfl
  · exact vt aws3.2.2.2.2.2.2.1 rfl
  · exact vt aws5.1 rfl
  · exact vt aws17.2.2.2.2.2.1 rfl
  · exact vt aws20.2.2.2.2.2.2.1 rfl
  · exact vt aws14.2.2.2.2.2.1 rfl
  · exact vt aws15.2.2.2.2.2.2.2.1 rfl
  · exact vt aws12.2.2.2.2.1 rfl
theorem pick1_4 (na : Bool) (ka : Nat) (ha : 1 ≤ ka ∧ ka ≤ 5) : (aw 1 4 na ka).val = true := by
  cases na <;> rcases (by omega : ka = 1 ∨ ka = 2 ∨ ka = 3 ∨ ka = 4 ∨ ka = 5) with rfl | rfl | rfl | rfl | rfl
  · exact vt aws18.2.2.2.1 rfl
  · exact vt aws9.2.2.2.2.2.2.1 rfl
  · exact vt aws0.2.2.2.2.2.1 rfl
  · exact vt aws21.2.2.2.2.2.2.1 rfl
  · exact vt aws12.2.2.2.2.2.1 rfl
  · exact vt aws10.2.2.2.2.2.1 rfl
  · exact vt aws1.2.1 rfl
  · exact vt aws2.2.2.1 rfl
  · exact vt aws3.2.2.2.2.2.2.2.1 rfl
  · exact vt aws5.2.1 rfl
theorem pick1_5 (na : Bool) (ka : Nat) (ha : 1 ≤ ka ∧ ka ≤ 5) : (aw 1 5 na ka).val = true := by
  cases na <;> rcases (by omega : ka = 1 ∨ ka = 2 ∨ ka = 3 ∨ ka = 4 ∨ ka = 5) with rfl | rfl | rfl | rfl | rfl
  · exact vt aws9.2.2.2.2.2.2.2.1 rfl
  · exact vt aws6.2.2.2.2.2.1 rfl
  · exact vt aws8.2.2.2.2.2.2.2.1 rfl
  · exact vt aws9.2.2.2.2.2.2.2.2.1 rfl
  · exact vt aws20.2.2.2.2.2.2.2.1 rfl
  · exact vt aws19.2.2.1 rfl
  · exact vt aws22.2.2.2.2.1 rfl
  · exact vt aws10.2.2.2.2.2.2.1 rfl
  · exact vt aws21.2.2.2.2.2.2.2.1 rfl
  · exact vt aws16.2.2.2.2.2.2.2.2.1 rfl
theorem pick1_6 (na : Bool) (ka : Nat) (ha : 1 ≤ ka ∧ ka ≤ 5) : (aw 1 6 na ka).val = true := by
  cases na <;> rcases (by omega : ka = 1 ∨ ka = 2 ∨ ka = 3 ∨ ka = 4 ∨ ka = 5) with rfl | rfl | rfl | rfl | rfl
  · exact vt aws6.2.2.2.2.2.2.1 rfl
  · exact vt aws6.2.2.2.2.2.2.2.1 rfl
  · exact vt aws7.2.2.2.2.2.2.2.2.1 rfl
  · exact vt aws8.2.2.2.2.2.2.2.2.1 rfl
  · exact vt aws9.2.2.2.2.2.2.2.2.2.1 rfl
  · exact vt aws14.2.2.2.2.2.2.1 rfl
  · exact vt aws18.2.2.2.2.1 rfl
  · exact vt aws15.2.2.2.2.2.2.2.2.1 rfl
  · exact vt aws16.2.2.2.2.2.2.2.2.2.1 rfl
  · exact vt aws23.2.2.2.2.2.1 rfl
theorem pick1_7 (na : Bool) (ka : Nat) (ha : 1 ≤ ka ∧ ka ≤ 5) : (aw 1 7 na ka).val = true := by
  cases na <;> rcases (by omega : ka = 1 ∨ ka = 2 ∨ ka = 3 ∨ ka = 4 ∨ ka = 5) with rfl | rfl | rfl | rfl | rfl
  · exact vt aws3.2.2.2.2.2.2.2.2.1 rfl
  · exact vt aws20.2.2.2.2.2.2.2.2.1 rfl
  · exact vt aws4.2.2.1 rfl
  · exact vt aws7.2.2.2.2.2.2.2.2.2.1 rfl
  · exact vt aws10.2.2.2.2.2.2.2.1 rfl
  · exact vt aws12.2.2.2.2.2.2.1 rfl
  · exact vt aws19.2.2.2.1 rfl
  · exact vt aws21.2.2.2.2.2.2.2.2.1 rfl
  · exact vt aws23.2.2.2.2.2.2.1 rfl
  · exact vt aws1.2.2.1 rfl
theorem pick2_0 (na : Bool) (ka : Nat) (ha : 1 ≤ ka ∧ ka ≤ 5) : (aw 2 0 na ka).val = true := by
  cases na <;> rcases (by omega : ka = 1 ∨ ka = 2 ∨ ka = 3 ∨ ka = 4 ∨ ka = 5) with rfl | rfl | rfl | rfl | rfl
  · exact vt aws21.2.2.2.2.2.2.2.2.2.1 rfl
  · exact vt aws6.2.2.2.2.2.2.2.2.1 rfl
  · exact vt aws10.2.2.2.2.2.2.2.2.1 rfl
  · exact vt aws21.2.2.2.2.2.2.2.2.2.2.1 rfl
  · exact vt aws6.2.2.2.2.2.2.2.2.2.1 rfl
  · exact vt aws1.2.2.2.1 rfl
  · exact vt aws5.2.2.1 rfl
  · exact vt aws22.2.2.2.2.2.1 rfl
  · exact vt aws1.2.2.2.2.1 rfl
  · exact vt aws5.2.2.2.1 rfl
theorem pick2_1 (na : Bool) (ka : Nat) (ha : 1 ≤ ka ∧ ka ≤ 5) : (aw 2 1 na ka).val = true := by
  cases na <;> rcases (by omega : ka = 1 ∨ ka = 2 ∨ ka = 3 ∨ ka = 4 ∨ ka = 5) with rfl | rfl | rfl | rfl | rfl
  · exact vt aws1.2.2.2.2.2.2.1 rfl
  · exact vt aws16.2.2.2.2.2.2.2.2.2.2.1 rfl
  · exact vt aws8.2.2.2.2.2.2.2.2.2.1 rfl
  · exact vt aws12.2.2.2.2.2.2.2.1 rfl
  · exact vt aws18.2.2.2.2.2.1 rfl
  · exact vt aws13.2.2.2.2.2.2.1 rfl
  · exact vt aws1.2.2.2.2.2.1 rfl
  · exact vt aws2.2.2.2.1 rfl
  · exact vt aws5.2.2.2.2.1 rfl
  · exact vt aws4.2.2.2.1 rfl
theorem pick2_2 (na : Bool) (ka : Nat) (ha : 1 ≤ ka ∧ ka ≤ 5) : (aw 2 2 na ka).val = true := by
  cases na <;> rcases (by omega : ka = 1 ∨ ka = 2 ∨ ka = 3 ∨ ka = 4 ∨ ka = 5) with rfl | rfl | rfl | rfl | rfl
  · exact vt aws2.2.2.2.2.1 rfl
  · exact vt aws0.2.2.2.2.2.2.1 rfl
  · exact vt aws23.2.2.2.2.2.2.2.1 rfl
  · exact vt aws20.2.2.2.2.2.2.2.2.2.1 rfl
  · exact vt aws14.2.2.2.2.2.2.2.1 rfl
  · exact vt aws17.2.2.2.2.2.2.1 rfl
  · exact vt aws15.2.2.2.2.2.2.2.2.2.1 rfl
  · exact vt aws12.2.2.2.2.2.2.2.2.1 rfl
  · exact vt aws18.2.2.2.2.2.2.1 rfl
  · exact vt aws1.2.2.2.2.2.2.2.1 rfl
theorem pick2_3 (na : Bool) (ka : Nat) (ha : 1 ≤ ka ∧ ka ≤ 5) : (aw 2 3 na ka).val = true := by
  cases na <;> rcases (by omega : ka = 1 ∨ ka = 2 ∨ ka = 3 ∨ ka = 4 ∨ ka = 5) with rfl | rfl | rfl | rfl | rfl
  · exact vt aws12.2.2.2.2.2.2.2.2.2.1 rfl
  · exact vt aws18.2.2.2.2.2.2.2.1 rfl
  · exact vt aws19.2.2.2.2.1 rfl
  · exact vt aws22.2.2.2.2.2.2.2.1 rfl
  · exact vt aws11.2.2.2.2.2.1 rfl
  · exact vt aws7.2.2.2.2.2.2.2.2.2.2.1 rfl
  · exact vt aws9.2.2.2.2.2.2.2.2.2.2.1 rfl
  · exact vt aws22.2.2.2.2.2.2.1 rfl
  · exact vt aws10.2.2.2.2.2.2.2.2.2.1 rfl
  · exact vt aws13.2.2.2.2.2.2.2.1 rfl
theorem pick2_4 (na : Bool) (ka : Nat) (ha : 1 ≤ ka ∧ ka ≤ 5) : (aw 2 4 na ka).val = true := by
  cases na <;> rcases (by omega : ka = 1 ∨ ka = 2 ∨ ka = 3 ∨ ka = 4 ∨ ka = 5) with rfl | rfl | rfl | rfl | rfl
  · exact vt aws8.2.2.2.2.2.2.2.2.2.2.1 rfl
  · exact vt aws15.2.2.2.2.2.2.2.2.2.2.1 rfl
  · exact vt aws18.2.2.2.2.2.2.2.2.1 rfl
  · exact vt aws14.2.2.2.2.2.2.2.2.1 rfl
  · exact vt aws23.2.2.2.2.2.2.2.2.1 rfl
  · exact vt aws17.2.2.2.2.2.2.2.1 rfl
  · exact vt aws0.2.2.2.2.2.2.2.1 rfl
  · exact vt aws1.2.2.2.2.2.2.2.2.1 rfl
  · exact vt aws4.2.2.2.2.1 rfl
  · exact vt aws5.2.2.2.2.2.1 rfl
theorem pick2_5 (na : Bool) (ka : Nat) (ha : 1 ≤ ka ∧ ka ≤ 5) : (aw 2 5 na ka).val = true := by
  cases na <;> rcases (by omega : ka = 1 ∨ ka = 2 ∨ ka = 3 ∨ ka = 4 ∨ ka = 5) with rfl | rfl | rfl | rfl | rfl
  · exact vt aws5.2.2.2.2.2.2.1 rfl
  · exact vt aws22.2.2.2.2.2.2.2.2.1 rfl
  · exact vt aws19.2.2.2.2.2.1 rfl
  · exact vt aws2.2.2.2.2.2.1 rfl
  · exact vt aws3.2.2.2.2.2.2.2.2.2.1 rfl
  · exact vt aws11.2.2.2.2.2.2.1 rfl
  · exact vt aws16.2.2.2.2.2.2.2.2.2.2.2.1 rfl
  · exact vt aws15.2.2.2.2.2.2.2.2.2.2.2.1 rfl
  · exact vt aws14.2.2.2.2.2.2.2.2.2.1 rfl
  · exact vt aws17.2.2.2.2.2.2.2.2.1 rfl
theorem pick2_6 (na : Bool) (ka : Nat) (ha : 1 ≤ ka ∧ ka ≤ 5) : (aw 2 6 na ka).val = true := by
  cases na <;> rcases (by omega : ka = 1 ∨ ka = 2 ∨ ka = 3 ∨ ka = 4 ∨ ka = 5) with rfl | rfl | rfl | rfl | rfl
  · exact vt aws1.2.2.2.2.2.2.2.2.2.1 rfl
  · exact vt aws9.2.2.2.2.2.2.2.2.2.2.2.1 rfl
  · exact vt aws10.2.2.2.2.2.2.2.2.2.2.1 rfl
  · exact vt aws11.2.2.2.2.2.2.2.1 rfl
  · exact vt aws12.2.2.2.2.2.2.2.2.2.2.1 rfl
  · exact vt aws17.2.2.2.2.2.2.2.2.2.1 rfl
  · exact vt aws19.2.2.2.2.2.2.1 rfl
  · exact vt aws20.2.2.2.2.2.2.2.2.2.2.1 rfl
  · exact vt aws21.2.2.2.2.2.2.2.2.2.2.2.1 rfl
  · exact vt aws22.2.2.2.2.2.2.2.2.2.1 rfl
theorem pick2_7 (na : Bool) (ka : Nat) (ha : 1 ≤ ka ∧ ka ≤ 5) : (aw 2 7 na ka).val = true := by
  cases na <;> rcases (by omega : ka = 1 ∨ ka = 2 ∨ ka = 3 ∨ ka = 4 ∨ ka = 5) with rfl | rfl | rfl | rfl | rfl
  · exact vt aws0.2.2.2.2.2.2.2.2.1 rfl
  · exact vt aws22.2.2.2.2.2.2.2.2.2.2.1 rfl
  · exact vt aws21.2.2.2.2.2.2.2.2.2.2.2.2.1 rfl
  · exact vt aws20.2.2.2.2.2.2.2.2.2.2.2.1 rfl
  · exact vt aws19.2.2.2.2.2.2.2.1 rfl
  · exact vt aws17.2.2.2.2.2.2.2.2.2.2.1 rfl
  · exact vt aws16.2.2.2.2.2.2.2.2.2.2.2.2.1 rfl
  · exact vt aws15.2.2.2.2.2.2.2.2.2.2.2.2.1 rfl
  · exact vt aws14.2.2.2.2.2.2.2.2.2.2.1 rfl
  · exact vt aws13.2.2.2.2.2.2.2.2.1 rfl
theorem pick3_0 (na : Bool) (ka : Nat) (ha : 1 ≤ ka ∧ ka ≤ 5) : (aw 3 0 na ka).val = true := by
  cases na <;> rcases (by omega : ka = 1 ∨ ka = 2 ∨ ka = 3 ∨ ka = 4 ∨ ka = 5) with rfl | rfl | rfl | rfl | rfl
  · exact vt aws17.2.2.2.2.2.2.2.2.2.2.2.1 rfl
  · exact vt aws2.2.2.2.2.2.2.1 rfl
  · exact vt aws23.2.2.2.2.2.2.2.2.2.1 rfl
  · exact vt aws17.2.2.2.2.2.2.2.2.2.2.2.2.1 rfl
  · exact vt aws2.2.2.2.2.2.2.2.1 rfl
  · exact vt aws18.2.2.2.2.2.2.2.2.2.1 rfl
  · exact vt aws4.2.2.2.2.2.1 rfl
  · exact vt aws11.2.2.2.2.2.2.2.2.1 rfl
  · exact vt aws18.2.2.2.2.2.2.2.2.2.2.1 rfl
  · exact vt aws4.2.2.2.2.2.2.1 rfl
theorem pick3_1 (na : Bool) (ka : Nat) (ha : 1 ≤ ka ∧ ka ≤ 5) : (aw 3 1 na ka).val = true := by
  cases na <;> rcases (by omega : ka = 1 ∨ ka = 2 ∨ ka = 3 ∨ ka = 4 ∨ ka = 5) with rfl | rfl | rfl | rfl | rfl
  · exact vt aws19.2.2.2.2.2.2.2.2.2.1 rfl
  · exact vt aws2.2.2.2.2.2.2.2.2.1 rfl
  · exact vt aws3.2.2.2.2.2.2.2.2.2.2.1 rfl
  · exact vt aws5.2.2.2.2.2.2.2.1 rfl
  · exact vt aws4.2.2.2.2.2.2.2.1 rfl
  · exact vt aws6.2.2.2.2.2.2.2.2.2.2.1 rfl
  · exact vt aws19.2.2.2.2.2.2.2.2.1 rfl
  · exact vt aws11.2.2.2.2.2.2.2.2.2.1 rfl
  · exact vt aws10.2.2.2.2.2.2.2.2.2.2.2.1 rfl
  · exact vt aws23.2.2.2.2.2.2.2.2.2.2.1 rfl
theorem pick3_2 (na : Bool) (ka : Nat) (ha : 1 ≤ ka ∧ ka ≤ 5) : (aw 3 2 na ka).val = true := by
  cases na <;> rcases (by omega : ka = 1 ∨ ka = 2 ∨ ka = 3 ∨ ka = 4 ∨ ka = 5) with rfl | rfl | rfl | rfl | rfl
  · exact vt aws21.2.2.2.2.2.2.2.2.2.2.2.2.2 rfl
  · exact vt aws19.2.2.2.2.2.2.2.2.2.2.2.1 rfl
  · exact vt aws11.2.2.2.2.2.2.2.2.2.2.1 rfl
  · exact vt aws1.2.2.2.2.2.2.2.2.2.2.1 rfl
  · exact vt aws2.2.2.2.2.2.2.2.2.2.1 rfl
  · exact vt aws5.2.2.2.2.2.2.2.2.1 rfl
  · exact vt aws4.2.2.2.2.2.2.2.2.1 rfl
  · exact vt aws6.2.2.2.2.2.2.2.2.2.2.2.1 rfl
  · exact vt aws8.2.2.2.2.2.2.2.2.2.2.2.1 rfl
  · exact vt aws19.2.2.2.2.2.2.2.2.2.2.1 rfl
theorem pick3_3 (na : Bool) (ka : Nat) (ha : 1 ≤ ka ∧ ka ≤ 5) : (aw 3 3 na ka).val = true := by
  cases na <;> rcases (by omega : ka = 1 ∨ ka = 2 ∨ ka = 3 ∨ ka = 4 ∨ ka = 5) with rfl | rfl | rfl | rfl | rfl
  · exact vt aws23.2.2.2.2.2.2.2.2.2.2.2.1 rfl
  · exact vt aws22.2.2.2.2.2.2.2.2.2.2.2.1 rfl
  · exact vt aws13.2.2.2.2.2.2.2.2.2.1 rfl
  · exact vt aws19.2.2.2.2.2.2.2.2.2.2.2.2 rfl
  · exact vt aws23.2.2.2.2.2.2.2.2.2.2.2.2 rfl
  · exact vt aws1.2.2.2.2.2.2.2.2.2.2.2.1 rfl
  · exact vt aws5.2.2.2.2.2.2.2.2.2.1 rfl
  · exact vt aws4.2.2.2.2.2.2.2.2.2.1 rfl
  · exact vt aws6.2.2.2.2.2.2.2.2.2.2.2.2.1 rfl
  · exact vt aws7.2.2.2.2.2.2.2.2.2.2.2.1 rfl
theorem pick3_4 (na : Bool) (ka : Nat) (ha : 1 ≤ ka ∧ ka ≤ 5) : (aw 3 4 na ka).val = true := by
  cases na <;> rcases (by omega : ka = 1 ∨ ka = 2 ∨ ka = 3 ∨ ka = 4 ∨ ka = 5) with rfl | rfl | rfl | rfl | rfl
  · exact vt aws10.2.2.2.2.2.2.2.2.2.2.2.2 rfl
  · exact vt aws12.2.2.2.2.2.2.2.2.2.2.2.1 rfl
  · exact vt aws0.2.2.2.2.2.2.2.2.2.1 rfl
  · exact vt aws18.2.2.2.2.2.2.2.2.2.2.2.1 rfl
  · exact vt aws14.2.2.2.2.2.2.2.2.2.2.2.1 rfl
  · exact vt aws2.2.2.2.2.2.2.2.2.2.2.1 rfl
  · exact vt aws5.2.2.2.2.2.2.2.2.2.2.1 rfl
  · exact vt aws3.2.2.2.2.2.2.2.2.2.2.2.1 rfl
  · exact vt aws4.2.2.2.2.2.2.2.2.2.2.1 rfl
  · exact vt aws7.2.2.2.2.2.2.2.2.2.2.2.2.1 rfl
theorem pick3_5 (na : Bool) (ka : Nat) (ha : 1 ≤ ka ∧ ka ≤ 5) : (aw 3 5 na ka).val = true := by
  cases na <;> rcases (by omega : ka = 1 ∨ ka = 2 ∨ ka = 3 ∨ ka = 4 ∨ ka = 5) with rfl | rfl | rfl | rfl | rfl
  · exact vt aws7.2.2.2.2.2.2.2.2.2.2.2.2.2 rfl
  · exact vt aws11.2.2.2.2.2.2.2.2.2.2.2.2 rfl
  · exact vt aws12.2.2.2.2.2.2.2.2.2.2.2.2.2 rfl
  · exact vt aws2.2.2.2.2.2.2.2.2.2.2.2.1 rfl
  · exact vt aws3.2.2.2.2.2.2.2.2.2.2.2.2 rfl
  · exact vt aws11.2.2.2.2.2.2.2.2.2.2.2.1 rfl
  · exact vt aws12.2.2.2.2.2.2.2.2.2.2.2.2.1 rfl
  · exact vt aws0.2.2.2.2.2.2.2.2.2.2.1 rfl
  · exact vt aws13.2.2.2.2.2.2.2.2.2.2.1 rfl
  · exact vt aws17.2.2.2.2.2.2.2.2.2.2.2.2.2 rfl
theorem pick3_6 (na : Bool) (ka : Nat) (ha : 1 ≤ ka ∧ ka ≤ 5) : (aw 3 6 na ka).val = true := by
  cases na <;> rcases (by omega : ka = 1 ∨ ka = 2 ∨ ka = 3 ∨ ka = 4 ∨ ka = 5) with rfl | rfl | rfl | rfl | rfl
  · exact vt aws4.2.2.2.2.2.2.2.2.2.2.2.1 rfl
  · exact vt aws1.2.2.2.2.2.2.2.2.2.2.2.2 rfl
  · exact vt aws5.2.2.2.2.2.2.2.2.2.2.2.1 rfl
  · exact vt aws8.2.2.2.2.2.2.2.2.2.2.2.2.1 rfl
  · exact vt aws9.2.2.2.2.2.2.2.2.2.2.2.2 rfl
  · exact vt aws13.2.2.2.2.2.2.2.2.2.2.2.1 rfl
  · exact vt aws0.2.2.2.2.2.2.2.2.2.2.2 rfl
  · exact vt aws18.2.2.2.2.2.2.2.2.2.2.2.2.1 rfl
  · exact vt aws20.2.2.2.2.2.2.2.2.2.2.2.2 rfl
  · exact vt aws22.2.2.2.2.2.2.2.2.2.2.2.2 rfl
theorem pick3_7 (na : Bool) (ka : Nat) (ha : 1 ≤ ka ∧ ka ≤ 5) : (aw 3 7 na ka).val = true := by
  cases na <;> rcases (by omega : ka = 1 ∨ ka = 2 ∨ ka = 3 ∨ ka = 4 ∨ ka = 5) with rfl | rfl | rfl | rfl | rfl
  · exact vt aws2.2.2.2.2.2.2.2.2.2.2.2.2 rfl
  · exact vt aws4.2.2.2.2.2.2.2.2.2.2.2.2 rfl
  · exact vt aws5.2.2.2.2.2.2.2.2.2.2.2.2 rfl
  · exact vt aws6.2.2.2.2.2.2.2.2.2.2.2.2.2 rfl
  · exact vt aws8.2.2.2.2.2.2.2.2.2.2.2.2.2 rfl
  · exact vt aws13.2.2.2.2.2.2.2.2.2.2.2.2 rfl
  · exact vt aws14.2.2.2.2.2.2.2.2.2.2.2.2 rfl
  · exact vt aws15.2.2.2.2.2.2.2.2.2.2.2.2.2 rfl
  · exact vt aws16.2.2.2.2.2.2.2.2.2.2.2.2.2 rfl
  · exact vt aws18.2.2.2.2.2.2.2.2.2.2.2.2.2 rfl
theorem len_dg : ∀ (neg : Bool) (k : Nat), 1 ≤ k ∧ k ≤ 5 → (dg neg k).length = 5 := by
  intro neg k h
  rcases (by omega : k = 1 ∨ k = 2 ∨ k = 3 ∨ k = 4 ∨ k = 5) with rfl | rfl | rfl | rfl | rfl <;> cases neg <;> rfl
theorem walk (a0 a1 a2 : Int) (w0 : (Lit.int .u8 a0).wf = true) (w1 : (Lit.int .i16 a1).wf = true) (w2 : (Lit.int .u8 a2).wf = true) (w : World) :
    Calls Tryz.prog 5 #[.int .u8 a0, .int .i16 a1, .int .u8 a2] w fun e w' => e = .returned (.bool true) ∧ w.keptBut w' (fun _ => False) := by
  have c0 := fits_u8 w0
  have c1 := fits_i16 w1
  have c2 := fits_u8 w2
  clear w0 w1 w2
  obtain ⟨cb, hbody⟩ : ∃ cb, Tryz.f5.body = some cb := Option.isSome_iff_exists.1 (by kernel_rfl)
  obtain ⟨m, hm⟩ : ∃ m, m = if a1 < 0 then -a1 else a1 := ⟨_, rfl⟩
  obtain ⟨σ, g0, g1, g2, g3, g4, g5, g6⟩ : ∃ σ : Sg, σ.i 0 = m % 10 ∧ σ.i (0 + 1) = m / 10 % 10 ∧ σ.i (0 + 2) = m / 100 % 10 ∧ σ.i (0 + 3) = m / 1000 % 10 ∧ σ.i (0 + 4) = m / 10000 ∧ σ.i 5 = a0 ∧ σ.i 6 = a2 :=
    ⟨{ i := fun s => match s with | 0 => m % 10 | 1 => m / 10 % 10 | 2 => m / 100 % 10 | 3 => m / 1000 % 10 | 4 => m / 10000 | 5 => a0 | _ => a2, s := fun _ => ByteArray.empty }, rfl, rfl, rfl, rfl, rfl, rfl, rfl⟩
  obtain ⟨na, ka, hka, sa, fa, ma, ma', da, da'⟩ := shape c1 hm g0 g1 g2 g3 g4
  have sat : SatI σ.i (dg na ka ++ [(0, 255), (0, 255)]) := by
    refine satI_append (by simpa only [Nat.zero_add] using da) ?_
    rw [len_dg na ka hka]
    intro s lo hi h
    match s, h with
    | 0, h => cases h; show (0 : Int) ≤ σ.i 5 ∧ σ.i 5 ≤ (255 : Int); rw [g5]; exact c0
    | 1, h => cases h; show (0 : Int) ≤ σ.i 6 ∧ σ.i 6 ≤ (255 : Int); rw [g6]; exact c2
    | n + 2, h => simp at h
  have go : ∀ h k : Nat, a0 % 8 = (k : Int) → a2 % 4 = (h : Int) → (aw h k na ka).val = true →
      Calls Tryz.prog 5 #[.int .u8 a0, .int .i16 a1, .int .u8 a2] w fun e w' => e = .returned (.bool true) ∧ w.keptBut w' (fun _ => False) := fun h k hk hh hr =>
    law_calls Tryz.func5 hbody hr ⟨sat, fun x hx => by cases hx⟩ w _ (LR.cons (symr_of g5 c0.1 hk) (LR.cons (lin_of fa) (LR.cons (symr_of g6 c2.1 hh) LR.nil)))
  rcases (by omega : a2 % 4 = 0 ∨ a2 % 4 = 1 ∨ a2 % 4 = 2 ∨ a2 % 4 = 3) with h | h | h | h
  · rcases (by omega : a0 % 8 = 0 ∨ a0 % 8 = 1 ∨ a0 % 8 = 2 ∨ a0 % 8 = 3 ∨ a0 % 8 = 4 ∨ a0 % 8 = 5 ∨ a0 % 8 = 6 ∨ a0 % 8 = 7) with k | k | k | k | k | k | k | k
    · exact go 0 0 k h (pick0_0 na ka hka)
    · exact go 0 1 k h (pick0_1 na ka hka)
    · exact go 0 2 k h (pick0_2 na ka hka)
    · exact go 0 3 k h (pick0_3 na ka hka)
    · exact go 0 4 k h (pick0_4 na ka hka)
    · exact go 0 5 k h (pick0_5 na ka hka)
    · exact go 0 6 k h (pick0_6 na ka hka)
    · exact go 0 7 k h (pick0_7 na ka hka)
  · rcases (by omega : a0 % 8 = 0 ∨ a0 % 8 = 1 ∨ a0 % 8 = 2 ∨ a0 % 8 = 3 ∨ a0 % 8 = 4 ∨ a0 % 8 = 5 ∨ a0 % 8 = 6 ∨ a0 % 8 = 7) with k | k | k | k | k | k | k | k
    · exact go 1 0 k h (pick1_0 na ka hka)
    · exact go 1 1 k h (pick1_1 na ka hka)
    · exact go 1 2 k h (pick1_2 na ka hka)
    · exact go 1 3 k h (pick1_3 na ka hka)
    · exact go 1 4 k h (pick1_4 na ka hka)
    · exact go 1 5 k h (pick1_5 na ka hka)
    · exact go 1 6 k h (pick1_6 na ka hka)
    · exact go 1 7 k h (pick1_7 na ka hka)
  · rcases (by omega : a0 % 8 = 0 ∨ a0 % 8 = 1 ∨ a0 % 8 = 2 ∨ a0 % 8 = 3 ∨ a0 % 8 = 4 ∨ a0 % 8 = 5 ∨ a0 % 8 = 6 ∨ a0 % 8 = 7) with k | k | k | k | k | k | k | k
    · exact go 2 0 k h (pick2_0 na ka hka)
    · exact go 2 1 k h (pick2_1 na ka hka)
    · exact go 2 2 k h (pick2_2 na ka hka)
    · exact go 2 3 k h (pick2_3 na ka hka)
    · exact go 2 4 k h (pick2_4 na ka hka)
    · exact go 2 5 k h (pick2_5 na ka hka)
    · exact go 2 6 k h (pick2_6 na ka hka)
    · exact go 2 7 k h (pick2_7 na ka hka)
  · rcases (by omega : a0 % 8 = 0 ∨ a0 % 8 = 1 ∨ a0 % 8 = 2 ∨ a0 % 8 = 3 ∨ a0 % 8 = 4 ∨ a0 % 8 = 5 ∨ a0 % 8 = 6 ∨ a0 % 8 = 7) with k | k | k | k | k | k | k | k
    · exact go 3 0 k h (pick3_0 na ka hka)
    · exact go 3 1 k h (pick3_1 na ka hka)
    · exact go 3 2 k h (pick3_2 na ka hka)
    · exact go 3 3 k h (pick3_3 na ka hka)
    · exact go 3 4 k h (pick3_4 na ka hka)
    · exact go 3 5 k h (pick3_5 na ka hka)
    · exact go 3 6 k h (pick3_6 na ka hka)
    · exact go 3 7 k h (pick3_7 na ka hka)
#print axioms walk
end Go.Proofs.YtapognhadfncmaaGreatDoor.promiseAwaits
