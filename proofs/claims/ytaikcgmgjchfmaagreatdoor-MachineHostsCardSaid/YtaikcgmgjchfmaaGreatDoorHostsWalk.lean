/- MachineHosts hands back true at every input: the evaluator's runs, put together. -/
import Derived.Test.YtaikcgmgjchfmaaGreatDoorRunA
import Derived.Test.YtaikcgmgjchfmaaGreatDoorRunH0a
import Derived.Test.YtaikcgmgjchfmaaGreatDoorRunH0b
import Derived.Test.YtaikcgmgjchfmaaGreatDoorRunH1a
import Derived.Test.YtaikcgmgjchfmaaGreatDoorRunH1b
import Derived.Test.YtaikcgmgjchfmaaGreatDoorRunH2a
import Derived.Test.YtaikcgmgjchfmaaGreatDoorRunH2b
import Derived.Test.YtaikcgmgjchfmaaGreatDoorRunH3a
import Derived.Test.YtaikcgmgjchfmaaGreatDoorRunH3b
import Derived.Test.YtaikcgmgjchfmaaGreatDoorRunH4a
import Derived.Test.YtaikcgmgjchfmaaGreatDoorRunH4b
import Derived.Test.YtaikcgmgjchfmaaGreatDoorRunH5a
import Derived.Test.YtaikcgmgjchfmaaGreatDoorRunH5b
namespace Go.Proofs.YtaikcgmgjchfmaaGreatDoor.machineHosts
open Go Go.Ev
set_option maxRecDepth 100000

theorem fits_u8 {a : Int} (h : (Lit.int .u8 a).wf = true) : 0 ≤ a ∧ a ≤ 255 := by
  have e1 : IntKind.min .u8 = 0 := by kernel_rfl
  have e2 : IntKind.max .u8 = 255 := by kernel_rfl
  simpa [Lit.wf, e1, e2] using h
theorem lin_of {σ : Sg} {e : Env} {k : IntKind} {c : Int} {ts : Ts} {a : Int} (h : lfVal σ.i c ts = a) : VR σ e (.lin k c ts) (.int k a) := by
  rw [← h]; exact .lin k c ts
theorem symr_of {σ : Sg} {e : Env} {k : IntKind} {s c lo : Nat} {a : Int} (h : σ.i s = a) (h0 : 0 ≤ a) (hr : a % (c : Int) = (lo : Int)) : VR σ e (.symr k s c lo 1) (.int k a) := by
  obtain ⟨n, rfl⟩ : ∃ n : Nat, a = Int.ofNat n := ⟨a.toNat, by simp only [Int.ofNat_eq_natCast]; omega⟩
  rw [← h]
  refine .symr (σ := σ) k s c lo 1 0 n h (by decide) ?_
  have : ((n % c : Nat) : Int) = (lo : Int) := by rw [Int.natCast_emod]; exact hr
  omega
theorem fits_i16 {a : Int} (h : (Lit.int .i16 a).wf = true) : -32768 ≤ a ∧ a ≤ 32767 := by
  have e1 : IntKind.min .i16 = -32768 := by kernel_rfl
  have e2 : IntKind.max .i16 = 32767 := by kernel_rfl
  simpa [Lit.wf, e1, e2] using h
theorem satI_append {g : Nat → Int} {l l' : Ivs} (h : SatI g l) (h' : SatI (fun i => g (l.length + i)) l') : SatI g (l ++ l') := by
  intro s lo hi hx
  rcases Nat.lt_or_ge s l.length with hs | hs
  · rw [List.getElem?_append_left hs] at hx; exact h s lo hi hx
  · rw [List.getElem?_append_right hs] at hx
    have := h' (s - l.length) lo hi hx
    have e : l.length + (s - l.length) = s := by omega
    simpa only [e] using this
theorem sat5 {g : Nat → Int} {p0 p1 p2 p3 p4 : Int × Int} (b0 : p0.1 ≤ g 0 ∧ g 0 ≤ p0.2) (b1 : p1.1 ≤ g 1 ∧ g 1 ≤ p1.2) (b2 : p2.1 ≤ g 2 ∧ g 2 ≤ p2.2)
    (b3 : p3.1 ≤ g 3 ∧ g 3 ≤ p3.2) (b4 : p4.1 ≤ g 4 ∧ g 4 ≤ p4.2) : SatI g [p0, p1, p2, p3, p4] := by
  intro s lo hi h
  match s, h with
  | 0, h => cases h; exact b0
  | 1, h => cases h; exact b1
  | 2, h => cases h; exact b2
  | 3, h => cases h; exact b3
  | 4, h => cases h; exact b4
  | n + 5, h => simp at h
theorem sat1 {g : Nat → Int} {p0 : Int × Int} (b0 : p0.1 ≤ g 0 ∧ g 0 ≤ p0.2) : SatI g [p0] := by
  intro s lo hi h
  match s, h with
  | 0, h => cases h; exact b0
  | n + 1, h => simp at h
/-- each number has a shape -/
theorem shape {g : Nat → Int} {off : Nat} {a m : Int} (hr : -32768 ≤ a ∧ a ≤ 32767) (hm : m = if a < 0 then -a else a) (g0 : g off = m % 10) (g1 : g (off + 1) = m / 10 % 10) (g2 : g (off + 2) = m / 100 % 10)
    (g3 : g (off + 3) = m / 1000 % 10) (g4 : g (off + 4) = m / 10000) :
    ∃ neg k, (1 ≤ k ∧ k ≤ 5) ∧ (neg = true ↔ a < 0) ∧ lfVal g 0 (fm off neg k) = a ∧ lfVal g 0 (fm off false k) = m ∧ lfVal g 0 (fm off true k) = -m ∧ SatI (fun i => g (off + i)) (dg neg k) ∧ (m ≠ 0 → SatI (fun i => g (off + i)) (dg true k)) := by
  have fin : ∀ (neg : Bool) (k : Nat), (1 ≤ k ∧ k ≤ 5) → (neg = true ↔ a < 0) → lfVal g 0 (fm off neg k) = a → lfVal g 0 (fm off false k) = m → lfVal g 0 (fm off true k) = -m → SatI (fun i => g (off + i)) (dg neg k) → (m ≠ 0 → SatI (fun i => g (off + i)) (dg true k)) →
      ∃ neg k, (1 ≤ k ∧ k ≤ 5) ∧ (neg = true ↔ a < 0) ∧ lfVal g 0 (fm off neg k) = a ∧ lfVal g 0 (fm off false k) = m ∧ lfVal g 0 (fm off true k) = -m ∧ SatI (fun i => g (off + i)) (dg neg k) ∧ (m ≠ 0 → SatI (fun i => g (off + i)) (dg true k)) :=
    fun neg k h1 h2 h3 h4 h5 h6 h7 => ⟨neg, k, h1, h2, h3, h4, h5, h6, h7⟩
  by_cases ha : a < 0
  · rw [if_pos ha] at hm
    rcases (by omega : m < 10 ∨ (10 ≤ m ∧ m < 100) ∨ (100 ≤ m ∧ m < 1000) ∨ (1000 ≤ m ∧ m < 10000) ∨ (10000 ≤ m ∧ m ≤ 32768)) with h | h | h | h | h
    · exact fin true 1 (by decide) (by simp [ha]) (by simp only [fm, lfVal, tsVal, g0]; omega) (by simp only [fm, lfVal, tsVal, g0]; omega) (by simp only [fm, lfVal, tsVal, g0]; omega) (sat5 (by show _ ≤ g off ∧ g off ≤ _; rw [g0]; simp only []; omega) (by show _ ≤ g (off + 1) ∧ g (off + 1) ≤ _; rw [g1]; simp only []; omega) (by show _ ≤ g (off + 2) ∧ g (off + 2) ≤ _; rw [g2]; simp only []; omega) (by show _ ≤ g (off + 3) ∧ g (off + 3) ≤ _; rw [g3]; simp only []; omega) (by show _ ≤ g (off + 4) ∧ g (off + 4) ≤ _; rw [g4]; simp only []; omega)) (fun hz => sat5 (by show _ ≤ g off ∧ g off ≤ _; rw [g0]; simp only []; omega) (by show _ ≤ g (off + 1) ∧ g (off + 1) ≤ _; rw [g1]; simp only []; omega) (by show _ ≤ g (off + 2) ∧ g (off + 2) ≤ _; rw [g2]; simp only []; omega) (by show _ ≤ g (off + 3) ∧ g (off + 3) ≤ _; rw [g3]; simp only []; omega) (by show _ ≤ g (off + 4) ∧ g (off + 4) ≤ _; rw [g4]; simp only []; omega))
    · exact fin true 2 (by decide) (by simp [ha]) (by simp only [fm, lfVal, tsVal, g0, g1]; omega) (by simp only [fm, lfVal, tsVal, g0, g1]; omega) (by simp only [fm, lfVal, tsVal, g0, g1]; omega) (sat5 (by show _ ≤ g off ∧ g off ≤ _; rw [g0]; simp only []; omega) (by show _ ≤ g (off + 1) ∧ g (off + 1) ≤ _; rw [g1]; simp only []; omega) (by show _ ≤ g (off + 2) ∧ g (off + 2) ≤ _; rw [g2]; simp only []; omega) (by show _ ≤ g (off + 3) ∧ g (off + 3) ≤ _; rw [g3]; simp only []; omega) (by show _ ≤ g (off + 4) ∧ g (off + 4) ≤ _; rw [g4]; simp only []; omega)) (fun hz => sat5 (by show _ ≤ g off ∧ g off ≤ _; rw [g0]; simp only []; omega) (by show _ ≤ g (off + 1) ∧ g (off + 1) ≤ _; rw [g1]; simp only []; omega) (by show _ ≤ g (off + 2) ∧ g (off + 2) ≤ _; rw [g2]; simp only []; omega) (by show _ ≤ g (off + 3) ∧ g (off + 3) ≤ _; rw [g3]; simp only []; omega) (by show _ ≤ g (off + 4) ∧ g (off + 4) ≤ _; rw [g4]; simp only []; omega))
    · exact fin true 3 (by decide) (by simp [ha]) (by simp only [fm, lfVal, tsVal, g0, g1, g2]; omega) (by simp only [fm, lfVal, tsVal, g0, g1, g2]; omega) (by simp only [fm, lfVal, tsVal, g0, g1, g2]; omega) (sat5 (by show _ ≤ g off ∧ g off ≤ _; rw [g0]; simp only []; omega) (by show _ ≤ g (off + 1) ∧ g (off + 1) ≤ _; rw [g1]; simp only []; omega) (by show _ ≤ g (off + 2) ∧ g (off + 2) ≤ _; rw [g2]; simp only []; omega) (by show _ ≤ g (off + 3) ∧ g (off + 3) ≤ _; rw [g3]; simp only []; omega) (by show _ ≤ g (off + 4) ∧ g (off + 4) ≤ _; rw [g4]; simp only []; omega)) (fun hz => sat5 (by show _ ≤ g off ∧ g off ≤ _; rw [g0]; simp only []; omega) (by show _ ≤ g (off + 1) ∧ g (off + 1) ≤ _; rw [g1]; simp only []; omega) (by show _ ≤ g (off + 2) ∧ g (off + 2) ≤ _; rw [g2]; simp only []; omega) (by show _ ≤ g (off + 3) ∧ g (off + 3) ≤ _; rw [g3]; simp only []; omega) (by show _ ≤ g (off + 4) ∧ g (off + 4) ≤ _; rw [g4]; simp only []; omega))
    · exact fin true 4 (by decide) (by simp [ha]) (by simp only [fm, lfVal, tsVal, g0, g1, g2, g3]; omega) (by simp only [fm, lfVal, tsVal, g0, g1, g2, g3]; omega) (by simp only [fm, lfVal, tsVal, g0, g1, g2, g3]; omega) (sat5 (by show _ ≤ g off ∧ g off ≤ _; rw [g0]; simp only []; omega) (by show _ ≤ g (off + 1) ∧ g (off + 1) ≤ _; rw [g1]; simp only []; omega) (by show _ ≤ g (off + 2) ∧ g (off + 2) ≤ _; rw [g2]; simp only []; omega) (by show _ ≤ g (off + 3) ∧ g (off + 3) ≤ _; rw [g3]; simp only []; omega) (by show _ ≤ g (off + 4) ∧ g (off + 4) ≤ _; rw [g4]; simp only []; omega)) (fun hz => sat5 (by show _ ≤ g off ∧ g off ≤ _; rw [g0]; simp only []; omega) (by show _ ≤ g (off + 1) ∧ g (off + 1) ≤ _; rw [g1]; simp only []; omega) (by show _ ≤ g (off + 2) ∧ g (off + 2) ≤ _; rw [g2]; simp only []; omega) (by show _ ≤ g (off + 3) ∧ g (off + 3) ≤ _; rw [g3]; simp only []; omega) (by show _ ≤ g (off + 4) ∧ g (off + 4) ≤ _; rw [g4]; simp only []; omega))
    · exact fin true 5 (by decide) (by simp [ha]) (by simp only [fm, lfVal, tsVal, g0, g1, g2, g3, g4]; omega) (by simp only [fm, lfVal, tsVal, g0, g1, g2, g3, g4]; omega) (by simp only [fm, lfVal, tsVal, g0, g1, g2, g3, g4]; omega) (sat5 (by show _ ≤ g off ∧ g off ≤ _; rw [g0]; simp only []; omega) (by show _ ≤ g (off + 1) ∧ g (off + 1) ≤ _; rw [g1]; simp only []; omega) (by show _ ≤ g (off + 2) ∧ g (off + 2) ≤ _; rw [g2]; simp only []; omega) (by show _ ≤ g (off + 3) ∧ g (off + 3) ≤ _; rw [g3]; simp only []; omega) (by show _ ≤ g (off + 4) ∧ g (off + 4) ≤ _; rw [g4]; simp only []; omega)) (fun hz => sat5 (by show _ ≤ g off ∧ g off ≤ _; rw [g0]; simp only []; omega) (by show _ ≤ g (off + 1) ∧ g (off + 1) ≤ _; rw [g1]; simp only []; omega) (by show _ ≤ g (off + 2) ∧ g (off + 2) ≤ _; rw [g2]; simp only []; omega) (by show _ ≤ g (off + 3) ∧ g (off + 3) ≤ _; rw [g3]; simp only []; omega) (by show _ ≤ g (off + 4) ∧ g (off + 4) ≤ _; rw [g4]; simp only []; omega))
  · rw [if_neg ha] at hm
    rcases (by omega : m < 10 ∨ (10 ≤ m ∧ m < 100) ∨ (100 ≤ m ∧ m < 1000) ∨ (1000 ≤ m ∧ m < 10000) ∨ (10000 ≤ m ∧ m ≤ 32768)) with h | h | h | h | h
    · exact fin false 1 (by decide) (by simp [ha]) (by simp only [fm, lfVal, tsVal, g0]; omega) (by simp only [fm, lfVal, tsVal, g0]; omega) (by simp only [fm, lfVal, tsVal, g0]; omega) (sat5 (by show _ ≤ g off ∧ g off ≤ _; rw [g0]; simp only []; omega) (by show _ ≤ g (off + 1) ∧ g (off + 1) ≤ _; rw [g1]; simp only []; omega) (by show _ ≤ g (off + 2) ∧ g (off + 2) ≤ _; rw [g2]; simp only []; omega) (by show _ ≤ g (off + 3) ∧ g (off + 3) ≤ _; rw [g3]; simp only []; omega) (by show _ ≤ g (off + 4) ∧ g (off + 4) ≤ _; rw [g4]; simp only []; omega)) (fun hz => sat5 (by show _ ≤ g off ∧ g off ≤ _; rw [g0]; simp only []; omega) (by show _ ≤ g (off + 1) ∧ g (off + 1) ≤ _; rw [g1]; simp only []; omega) (by show _ ≤ g (off + 2) ∧ g (off + 2) ≤ _; rw [g2]; simp only []; omega) (by show _ ≤ g (off + 3) ∧ g (off + 3) ≤ _; rw [g3]; simp only []; omega) (by show _ ≤ g (off + 4) ∧ g (off + 4) ≤ _; rw [g4]; simp only []; omega))
    · exact fin false 2 (by decide) (by simp [ha]) (by simp only [fm, lfVal, tsVal, g0, g1]; omega) (by simp only [fm, lfVal, tsVal, g0, g1]; omega) (by simp only [fm, lfVal, tsVal, g0, g1]; omega) (sat5 (by show _ ≤ g off ∧ g off ≤ _; rw [g0]; simp only []; omega) (by show _ ≤ g (off + 1) ∧ g (off + 1) ≤ _; rw [g1]; simp only []; omega) (by show _ ≤ g (off + 2) ∧ g (off + 2) ≤ _; rw [g2]; simp only []; omega) (by show _ ≤ g (off + 3) ∧ g (off + 3) ≤ _; rw [g3]; simp only []; omega) (by show _ ≤ g (off + 4) ∧ g (off + 4) ≤ _; rw [g4]; simp only []; omega)) (fun hz => sat5 (by show _ ≤ g off ∧ g off ≤ _; rw [g0]; simp only []; omega) (by show _ ≤ g (off + 1) ∧ g (off + 1) ≤ _; rw [g1]; simp only []; omega) (by show _ ≤ g (off + 2) ∧ g (off + 2) ≤ _; rw [g2]; simp only []; omega) (by show _ ≤ g (off + 3) ∧ g (off + 3) ≤ _; rw [g3]; simp only []; omega) (by show _ ≤ g (off + 4) ∧ g (off + 4) ≤ _; rw [g4]; simp only []; omega))
    · exact fin false 3 (by decide) (by simp [ha]) (by simp only [fm, lfVal, tsVal, g0, g1, g2]; omega) (by simp only [fm, lfVal, tsVal, g0, g1, g2]; omega) (by simp only [fm, lfVal, tsVal, g0, g1, g2]; omega) (sat5 (by show _ ≤ g off ∧ g off ≤ _; rw [g0]; simp only []; omega) (by show _ ≤ g (off + 1) ∧ g (off + 1) ≤ _; rw [g1]; simp only []; omega) (by show _ ≤ g (off + 2) ∧ g (off + 2) ≤ _; rw [g2]; simp only []; omega) (by show _ ≤ g (off + 3) ∧ g (off + 3) ≤ _; rw [g3]; simp only []; omega) (by show _ ≤ g (off + 4) ∧ g (off + 4) ≤ _; rw [g4]; simp only []; omega)) (fun hz => sat5 (by show _ ≤ g off ∧ g off ≤ _; rw [g0]; simp only []; omega) (by show _ ≤ g (off + 1) ∧ g (off + 1) ≤ _; rw [g1]; simp only []; omega) (by show _ ≤ g (off + 2) ∧ g (off + 2) ≤ _; rw [g2]; simp only []; omega) (by show _ ≤ g (off + 3) ∧ g (off + 3) ≤ _; rw [g3]; simp only []; omega) (by show _ ≤ g (off + 4) ∧ g (off + 4) ≤ _; rw [g4]; simp only []; omega))
    · exact fin false 4 (by decide) (by simp [ha]) (by simp only [fm, lfVal, tsVal, g0, g1, g2, g3]; omega) (by simp only [fm, lfVal, tsVal, g0, g1, g2, g3]; omega) (by simp only [fm, lfVal, tsVal, g0, g1, g2, g3]; omega) (sat5 (by show _ ≤ g off ∧ g off ≤ _; rw [g0]; simp only []; omega) (by show _ ≤ g (off + 1) ∧ g (off + 1) ≤ _; rw [g1]; simp only []; omega) (by show _ ≤ g (off + 2) ∧ g (off + 2) ≤ _; rw [g2]; simp only []; omega) (by show _ ≤ g (off + 3) ∧ g (off + 3) ≤ _; rw [g3]; simp only []; omega) (by show _ ≤ g (off + 4) ∧ g (off + 4) ≤ _; rw [g4]; simp only []; omega)) (fun hz => sat5 (by show _ ≤ g off ∧ g off ≤ _; rw [g0]; simp only []; omega) (by show _ ≤ g (off + 1) ∧ g (off + 1) ≤ _; rw [g1]; simp only []; omega) (by show _ ≤ g (off + 2) ∧ g (off + 2) ≤ _; rw [g2]; simp only []; omega) (by show _ ≤ g (off + 3) ∧ g (off + 3) ≤ _; rw [g3]; simp only []; omega) (by show _ ≤ g (off + 4) ∧ g (off + 4) ≤ _; rw [g4]; simp only []; omega))
    · exact fin false 5 (by decide) (by simp [ha]) (by simp only [fm, lfVal, tsVal, g0, g1, g2, g3, g4]; omega) (by simp only [fm, lfVal, tsVal, g0, g1, g2, g3, g4]; omega) (by simp only [fm, lfVal, tsVal, g0, g1, g2, g3, g4]; omega) (sat5 (by show _ ≤ g off ∧ g off ≤ _; rw [g0]; simp only []; omega) (by show _ ≤ g (off + 1) ∧ g (off + 1) ≤ _; rw [g1]; simp only []; omega) (by show _ ≤ g (off + 2) ∧ g (off + 2) ≤ _; rw [g2]; simp only []; omega) (by show _ ≤ g (off + 3) ∧ g (off + 3) ≤ _; rw [g3]; simp only []; omega) (by show _ ≤ g (off + 4) ∧ g (off + 4) ≤ _; rw [g4]; simp only []; omega)) (fun hz => sat5 (by show _ ≤ g off ∧ g off ≤ _; rw [g0]; simp only []; omega) (by show _ ≤ g (off + 1) ∧ g (off + 1) ≤ _; rw [g1]; simp only []; omega) (by show _ ≤ g (off + 2) ∧ g (off + 2) ≤ _; rw [g2]; simp only []; omega) (by show _ ≤ g (off + 3) ∧ g (off + 3) ≤ _; rw [g3]; simp only []; omega) (by show _ ≤ g (off + 4) ∧ g (off + 4) ≤ _; rw [g4]; simp only []; omega))
theorem pick0 (na : Bool) (ka : Nat) (nb : Bool) (kb : Nat) (ha : 1 ≤ ka ∧ ka ≤ 5) (hb : 1 ≤ kb ∧ kb ≤ 5) : (hN 0 na ka nb kb).val = true := by
  cases na
  · obtain ⟨a0, a1, a2, a3, a4, a5, a6, a7, a8, a9, a10, a11, a12, a13, a14, a15, a16, a17, a18, a19, a20, a21, a22, a23, a24, a25, a26, a27, a28, a29, a30, a31, a32, a33, a34, a35, a36, a37, a38, a39, a40, a41, a42, a43, a44, a45, a46, a47, a48, a49, a50, a51, a52, a53, a54, a55, a56, a57, a58, a59⟩ := hosts0a
    rcases (by omega : ka = 1 ∨ ka = 2 ∨ ka = 3 ∨ ka = 4 ∨ ka = 5) with rfl | rfl | rfl | rfl | rfl <;> cases nb <;> rcases (by omega : kb = 1 ∨ kb = 2 ∨ kb = 3 ∨ kb = 4 ∨ kb = 5) with rfl | rfl | rfl | rfl | rfl
    · exact vt a0 rfl
    · exact vt a2 rfl
    · exact vt a3 rfl
    · exact vt a4 rfl
    · exact vt a5 rfl
    · exact vt a6 rfl
    · exact vt a8 rfl
    · exact vt a9 rfl
    · exact vt a10 rfl
    · exact vt a11 rfl
    · exact vt a12 rfl
    · exact vt a13 rfl
    · exact vt a15 rfl
    · exact vt a16 rfl
    · exact vt a17 rfl
    · exact vt a18 rfl
    · exact vt a19 rfl
    · exact vt a21 rfl
    · exact vt a22 rfl
    · exact vt a23 rfl
    · exact vt a24 rfl
    · exact vt a25 rfl
    · exact vt a26 rfl
    · exact vt a28 rfl
    · exact vt a29 rfl
    · exact vt a30 rfl
    · exact vt a31 rfl
    · exact vt a32 rfl
    · exact vt a34 rfl
    · exact vt a35 rfl
    · exact vt a36 rfl
    · exact vt a37 rfl
    · exact vt a38 rfl
    · exact vt a39 rfl
    · exact vt a41 rfl
    · exact vt a42 rfl
    · exact vt a43 rfl
    · exact vt a44 rfl
    · exact vt a45 rfl
    · exact vt a47 rfl
    · exact vt a48 rfl
    · exact vt a49 rfl
    · exact vt a50 rfl
    · exact vt a51 rfl
    · exact vt a52 rfl
    · exact vt a54 rfl
    · exact vt a55 rfl
    · exact vt a56 rfl
    · exact vt a57 rfl
    · exact vt a58 rfl
  · obtain ⟨a0, a1, a2, a3, a4, a5, a6, a7, a8, a9, a10, a11, a12, a13, a14, a15, a16, a17, a18, a19, a20, a21, a22, a23, a24, a25, a26, a27, a28, a29, a30, a31, a32, a33, a34, a35, a36, a37, a38, a39, a40, a41, a42, a43, a44, a45, a46, a47, a48, a49, a50, a51, a52, a53, a54, a55, a56, a57, a58, a59⟩ := hosts0b
    rcases (by omega : ka = 1 ∨ ka = 2 ∨ ka = 3 ∨ ka = 4 ∨ ka = 5) with rfl | rfl | rfl | rfl | rfl <;> cases nb <;> rcases (by omega : kb = 1 ∨ kb = 2 ∨ kb = 3 ∨ kb = 4 ∨ kb = 5) with rfl | rfl | rfl | rfl | rfl
    · exact vt a0 rfl
    · exact vt a2 rfl
    · exact vt a3 rfl
    · exact vt a4 rfl
    · exact vt a5 rfl
    · exact vt a6 rfl
    · exact vt a8 rfl
    · exact vt a9 rfl
    · exact vt a10 rfl
    · exact vt a11 rfl
    · exact vt a12 rfl
    · exact vt a13 rfl
    · exact vt a15 rfl
    · exact vt a16 rfl
    · exact vt a17 rfl
    · exact vt a18 rfl
    · exact vt a19 rfl
    · exact vt a21 rfl
    · exact vt a22 rfl
    · exact vt a23 rfl
    · exact vt a24 rfl
    · exact vt a25 rfl
    · exact vt a26 rfl
    · exact vt a28 rfl
    · exact vt a29 rfl
    · exact vt a30 rfl
    · exact vt a31 rfl
    · exact vt a32 rfl
    · exact vt a34 rfl
    · exact vt a35 rfl
    · exact vt a36 rfl
    · exact vt a37 rfl
    · exact vt a38 rfl
    · exact vt a39 rfl
    · exact vt a41 rfl
    · exact vt a42 rfl
    · exact vt a43 rfl
    · exact vt a44 rfl
    · exact vt a45 rfl
    · exact vt a47 rfl
    · exact vt a48 rfl
    · exact vt a49 rfl
    · exact vt a50 rfl
    · exact vt a51 rfl
    · exact vt a52 rfl
    · exact vt a54 rfl
    · exact vt a55 rfl
    · exact vt a56 rfl
    · exact vt a57 rfl
    · exact vt a58 rfl
theorem pickE0 (na nb : Bool) (k : Nat) (ha : 1 ≤ k ∧ k ≤ 5) : (hE 0 na nb k).val = true := by
  cases na
  · obtain ⟨a0, a1, a2, a3, a4, a5, a6, a7, a8, a9, a10, a11, a12, a13, a14, a15, a16, a17, a18, a19, a20, a21, a22, a23, a24, a25, a26, a27, a28, a29, a30, a31, a32, a33, a34, a35, a36, a37, a38, a39, a40, a41, a42, a43, a44, a45, a46, a47, a48, a49, a50, a51, a52, a53, a54, a55, a56, a57, a58, a59⟩ := hosts0a
    rcases (by omega : k = 1 ∨ k = 2 ∨ k = 3 ∨ k = 4 ∨ k = 5) with rfl | rfl | rfl | rfl | rfl <;> cases nb
    · exact vt a1 rfl
    · exact vt a7 rfl
    · exact vt a14 rfl
    · exact vt a20 rfl
    · exact vt a27 rfl
    · exact vt a33 rfl
    · exact vt a40 rfl
    · exact vt a46 rfl
    · exact vt a53 rfl
    · exact vt a59 rfl
  · obtain ⟨a0, a1, a2, a3, a4, a5, a6, a7, a8, a9, a10, a11, a12, a13, a14, a15, a16, a17, a18, a19, a20, a21, a22, a23, a24, a25, a26, a27, a28, a29, a30, a31, a32, a33, a34, a35, a36, a37, a38, a39, a40, a41, a42, a43, a44, a45, a46, a47, a48, a49, a50, a51, a52, a53, a54, a55, a56, a57, a58, a59⟩ := hosts0b
    rcases (by omega : k = 1 ∨ k = 2 ∨ k = 3 ∨ k = 4 ∨ k = 5) with rfl | rfl | rfl | rfl | rfl <;> cases nb
    · exact vt a1 rfl
    · exact vt a7 rfl
    · exact vt a14 rfl
    · exact vt a20 rfl
    · exact vt a27 rfl
    · exact vt a33 rfl
    · exact vt a40 rfl
    · exact vt a46 rfl
    · exact vt a53 rfl
    · exact vt a59 rfl
theorem pick1 (na : Bool) (ka : Nat) (nb : Bool) (kb : Nat) (ha : 1 ≤ ka ∧ ka ≤ 5) (hb : 1 ≤ kb ∧ kb ≤ 5) : (hN 1 na ka nb kb).val = true := by
  cases na
  · obtain ⟨a0, a1, a2, a3, a4, a5, a6, a7, a8, a9, a10, a11, a12, a13, a14, a15, a16, a17, a18, a19, a20, a21, a22, a23, a24, a25, a26, a27, a28, a29, a30, a31, a32, a33, a34, a35, a36, a37, a38, a39, a40, a41, a42, a43, a44, a45, a46, a47, a48, a49, a50, a51, a52, a53, a54, a55, a56, a57, a58, a59⟩ := hosts1a
    rcases (by omega : ka = 1 ∨ ka = 2 ∨ ka = 3 ∨ ka = 4 ∨ ka = 5) with rfl | rfl | rfl | rfl | rfl <;> cases nb <;> rcases (by omega : kb = 1 ∨ kb = 2 ∨ kb = 3 ∨ kb = 4 ∨ kb = 5) with rfl | rfl | rfl | rfl | rfl
    · exact vt a0 rfl
    · exact vt a2 rfl
    · exact vt a3 rfl
    · exact vt a4 rfl
    · exact vt a5 rfl
    · exact vt a6 rfl
    · exact vt a8 rfl
    · exact vt a9 rfl
    · exact vt a10 rfl
    · exact vt a11 rfl
    · exact vt a12 rfl
    · exact vt a13 rfl
    · exact vt a15 rfl
    · exact vt a16 rfl
    · exact vt a17 rfl
    · exact vt a18 rfl
    · exact vt a19 rfl
    · exact vt a21 rfl
    · exact vt a22 rfl
    · exact vt a23 rfl
    · exact vt a24 rfl
    · exact vt a25 rfl
    · exact vt a26 rfl
    · exact vt a28 rfl
    · exact vt a29 rfl
    · exact vt a30 rfl
    · exact vt a31 rfl
    · exact vt a32 rfl
    · exact vt a34 rfl
    · exact vt a35 rfl
    · exact vt a36 rfl
    · exact vt a37 rfl
    · exact vt a38 rfl
    · exact vt a39 rfl
    · exact vt a41 rfl
    · exact vt a42 rfl
    · exact vt a43 rfl
    · exact vt a44 rfl
    · exact vt a45 rfl
    · exact vt a47 rfl
    · exact vt a48 rfl
    · exact vt a49 rfl
    · exact vt a50 rfl
    · exact vt a51 rfl
    · exact vt a52 rfl
    · exact vt a54 rfl
    · exact vt a55 rfl
    · exact vt a56 rfl
    · exact vt a57 rfl
    · exact vt a58 rfl
  · obtain ⟨a0, a1, a2, a3, a4, a5, a6, a7, a8, a9, a10, a11, a12, a13, a14, a15, a16, a17, a18, a19, a20, a21, a22, a23, a24, a25, a26, a27, a28, a29, a30, a31, a32, a33, a34, a35, a36, a37, a38, a39, a40, a41, a42, a43, a44, a45, a46, a47, a48, a49, a50, a51, a52, a53, a54, a55, a56, a57, a58, a59⟩ := hosts1b
    rcases (by omega : ka = 1 ∨ ka = 2 ∨ ka = 3 ∨ ka = 4 ∨ ka = 5) with rfl | rfl | rfl | rfl | rfl <;> cases nb <;> rcases (by omega : kb = 1 ∨ kb = 2 ∨ kb = 3 ∨ kb = 4 ∨ kb = 5) with rfl | rfl | rfl | rfl | rfl
    · exact vt a0 rfl
    · exact vt a2 rfl
    · exact vt a3 rfl
    · exact vt a4 rfl
    · exact vt a5 rfl
    · exact vt a6 rfl
    · exact vt a8 rfl
    · exact vt a9 rfl
    · exact vt a10 rfl
    · exact vt a11 rfl
    · exact vt a12 rfl
    · exact vt a13 rfl
    · exact vt a15 rfl
    · exact vt a16 rfl
    · exact vt a17 rfl
    · exact vt a18 rfl
    · exact vt a19 rfl
    · exact vt a21 rfl
    · exact vt a22 rfl
    · exact vt a23 rfl
    · exact vt a24 rfl
    · exact vt a25 rfl
    · exact vt a26 rfl
    · exact vt a28 rfl
    · exact vt a29 rfl
    · exact vt a30 rfl
    · exact vt a31 rfl
    · exact vt a32 rfl
    · exact vt a34 rfl
    · exact vt a35 rfl
    · exact vt a36 rfl
    · exact vt a37 rfl
    · exact vt a38 rfl
    · exact vt a39 rfl
    · exact vt a41 rfl
    · exact vt a42 rfl
    · exact vt a43 rfl
    · exact vt a44 rfl
    · exact vt a45 rfl
    · exact vt a47 rfl
    · exact vt a48 rfl
    · exact vt a49 rfl
    · exact vt a50 rfl
    · exact vt a51 rfl
    · exact vt a52 rfl
    · exact vt a54 rfl
    · exact vt a55 rfl
    · exact vt a56 rfl
    · exact vt a57 rfl
    · exact vt a58 rfl
theorem pickE1 (na nb : Bool) (k : Nat) (ha : 1 ≤ k ∧ k ≤ 5) : (hE 1 na nb k).val = true := by
  cases na
  · obtain ⟨a0, a1, a2, a3, a4, a5, a6, a7, a8, a9, a10, a11, a12, a13, a14, a15, a16, a17, a18, a19, a20, a21, a22, a23, a24, a25, a26, a27, a28, a29, a30, a31, a32, a33, a34, a35, a36, a37, a38, a39, a40, a41, a42, a43, a44, a45, a46, a47, a48, a49, a50, a51, a52, a53, a54, a55, a56, a57, a58, a59⟩ := hosts1a
    rcases (by omega : k = 1 ∨ k = 2 ∨ k = 3 ∨ k = 4 ∨ k = 5) with rfl | rfl | rfl | rfl | rfl <;> cases nb
    · exact vt a1 rfl
    · exact vt a7 rfl
    · exact vt a14 rfl
    · exact vt a20 rfl
    · exact vt a27 rfl
    · exact vt a33 rfl
    · exact vt a40 rfl
    · exact vt a46 rfl
    · exact vt a53 rfl
    · exact vt a59 rfl
  · obtain ⟨a0, a1, a2, a3, a4, a5, a6, a7, a8, a9, a10, a11, a12, a13, a14, a15, a16, a17, a18, a19, a20, a21, a22, a23, a24, a25, a26, a27, a28, a29, a30, a31, a32, a33, a34, a35, a36, a37, a38, a39, a40, a41, a42, a43, a44, a45, a46, a47, a48, a49, a50, a51, a52, a53, a54, a55, a56, a57, a58, a59⟩ := hosts1b
    rcases (by omega : k = 1 ∨ k = 2 ∨ k = 3 ∨ k = 4 ∨ k = 5) with rfl | rfl | rfl | rfl | rfl <;> cases nb
    · exact vt a1 rfl
    · exact vt a7 rfl
    · exact vt a14 rfl
    · exact vt a20 rfl
    · exact vt a27 rfl
    · exact vt a33 rfl
    · exact vt a40 rfl
    · exact vt a46 rfl
    · exact vt a53 rfl
    · exact vt a59 rfl
theorem pick2 (na : Bool) (ka : Nat) (nb : Bool) (kb : Nat) (ha : 1 ≤ ka ∧ ka ≤ 5) (hb : 1 ≤ kb ∧ kb ≤ 5) : (hN 2 na ka nb kb).val = true := by
  cases na
  · obtain ⟨a0, a1, a2, a3, a4, a5, a6, a7, a8, a9, a10, a11, a12, a13, a14, a15, a16, a17, a18, a19, a20, a21, a22, a23, a24, a25, a26, a27, a28, a29, a30, a31, a32, a33, a34, a35, a36, a37, a38, a39, a40, a41, a42, a43, a44, a45, a46, a47, a48, a49, a50, a51, a52, a53, a54, a55, a56, a57, a58, a59⟩ := hosts2a
    rcases (by omega : ka = 1 ∨ ka = 2 ∨ ka = 3 ∨ ka = 4 ∨ ka = 5) with rfl | rfl | rfl | rfl | rfl <;> cases nb <;> rcases (by omega : kb = 1 ∨ kb = 2 ∨ kb = 3 ∨ kb = 4 ∨ kb = 5) with rfl | rfl | rfl | rfl | rfl
    · exact vt a0 rfl
    · exact vt a2 rfl
    · exact vt a3 rfl
    · exact vt a4 rfl
    · exact vt a5 rfl
    · exact vt a6 rfl
    · exact vt a8 rfl
    · exact vt a9 rfl
    · exact vt a10 rfl
    · exact vt a11 rfl
    · exact vt a12 rfl
    · exact vt a13 rfl
    · exact vt a15 rfl
    · exact vt a16 rfl
    · exact vt a17 rfl
    · exact vt a18 rfl
    · exact vt a19 rfl
    · exact vt a21 rfl
    · exact vt a22 rfl
    · exact vt a23 rfl
    · exact vt a24 rfl
    · exact vt a25 rfl
    · exact vt a26 rfl
    · exact vt a28 rfl
    · exact vt a29 rfl
    · exact vt a30 rfl
    · exact vt a31 rfl
    · exact vt a32 rfl
    · exact vt a34 rfl
    · exact vt a35 rfl
    · exact vt a36 rfl
    · exact vt a37 rfl
    · exact vt a38 rfl
    · exact vt a39 rfl
    · exact vt a41 rfl
    · exact vt a42 rfl
    · exact vt a43 rfl
    · exact vt a44 rfl
    · exact vt a45 rfl
    · exact vt a47 rfl
    · exact vt a48 rfl
    · exact vt a49 rfl
    · exact vt a50 rfl
    · exact vt a51 rfl
    · exact vt a52 rfl
    · exact vt a54 rfl
    · exact vt a55 rfl
    · exact vt a56 rfl
    · exact vt a57 rfl
    · exact vt a58 rfl
  · obtain ⟨a0, a1, a2, a3, a4, a5, a6, a7, a8, a9, a10, a11, a12, a13, a14, a15, a16, a17, a18, a19, a20, a21, a22, a23, a24, a25, a26, a27, a28, a29, a30, a31, a32, a33, a34, a35, a36, a37, a38, a39, a40, a41, a42, a43, a44, a45, a46, a47, a48, a49, a50, a51, a52, a53, a54, a55, a56, a57, a58, a59⟩ := hosts2b
    rcases (by omega : ka = 1 ∨ ka = 2 ∨ ka = 3 ∨ ka = 4 ∨ ka = 5) with rfl | rfl | rfl | rfl | rfl <;> cases nb <;> rcases (by omega : kb = 1 ∨ kb = 2 ∨ kb = 3 ∨ kb = 4 ∨ kb = 5) with rfl | rfl | rfl | rfl | rfl
    · exact vt a0 rfl
    · exact vt a2 rfl
    · exact vt a3 rfl
    · exact vt a4 rfl
    · exact vt a5 rfl
    · exact vt a6 rfl
    · exact vt a8 rfl
    · exact vt a9 rfl
    · exact vt a10 rfl
    · exact vt a11 rfl
    · exact vt a12 rfl
    · exact vt a13 rfl
    · exact vt a15 rfl
    · exact vt a16 rfl
    · exact vt a17 rfl
    · exact vt a18 rfl
    · exact vt a19 rfl
    · exact vt a21 rfl
    · exact vt a22 rfl
    · exact vt a23 rfl
    · exact vt a24 rfl
    · exact vt a25 rfl
    · exact vt a26 rfl
    · exact vt a28 rfl
    · exact vt a29 rfl
    · exact vt a30 rfl
    · exact vt a31 rfl
    · exact vt a32 rfl
    · exact vt a34 rfl
    · exact vt a35 rfl
    · exact vt a36 rfl
    · exact vt a37 rfl
    · exact vt a38 rfl
    · exact vt a39 rfl
    · exact vt a41 rfl
    · exact vt a42 rfl
    · exact vt a43 rfl
    · exact vt a44 rfl
    · exact vt a45 rfl
    · exact vt a47 rfl
    · exact vt a48 rfl
    · exact vt a49 rfl
    · exact vt a50 rfl
    · exact vt a51 rfl
    · exact vt a52 rfl
    · exact vt a54 rfl
    · exact vt a55 rfl
    · exact vt a56 rfl
    · exact vt a57 rfl
    · exact vt a58 rfl
theorem pickE2 (na nb : Bool) (k : Nat) (ha : 1 ≤ k ∧ k ≤ 5) : (hE 2 na nb k).val = true := by
  cases na
  · obtain ⟨a0, a1, a2, a3, a4, a5, a6, a7, a8, a9, a10, a11, a12, a13, a14, a15, a16, a17, a18, a19, a20, a21, a22, a23, a24, a25, a26, a27, a28, a29, a30, a31, a32, a33, a34, a35, a36, a37, a38, a39, a40, a41, a42, a43, a44, a45, a46, a47, a48, a49, a50, a51, a52, a53, a54, a55, a56, a57, a58, a59⟩ := hosts2a
    rcases (by omega : k = 1 ∨ k = 2 ∨ k = 3 ∨ k = 4 ∨ k = 5) with rfl | rfl | rfl | rfl | rfl <;> cases nb
    · exact vt a1 rfl
    · exact vt a7 rfl
    · exact vt a14 rfl
    · exact vt a20 rfl
    · exact vt a27 rfl
    · exact vt a33 rfl
    · exact vt a40 rfl
    · exact vt a46 rfl
    · exact vt a53 rfl
    · exact vt a59 rfl
  · obtain ⟨a0, a1, a2, a3, a4, a5, a6, a7, a8, a9, a10, a11, a12, a13, a14, a15, a16, a17, a18, a19, a20, a21, a22, a23, a24, a25, a26, a27, a28, a29, a30, a31, a32, a33, a34, a35, a36, a37, a38, a39, a40, a41, a42, a43, a44, a45, a46, a47, a48, a49, a50, a51, a52, a53, a54, a55, a56, a57, a58, a59⟩ := hosts2b
    rcases (by omega : k = 1 ∨ k = 2 ∨ k = 3 ∨ k = 4 ∨ k = 5) with rfl | rfl | rfl | rfl | rfl <;> cases nb
    · exact vt a1 rfl
    · exact vt a7 rfl
    · exact vt a14 rfl
    · exact vt a20 rfl
    · exact vt a27 rfl
    · exact vt a33 rfl
    · exact vt a40 rfl
    · exact vt a46 rfl
    · exact vt a53 rfl
    · exact vt a59 rfl
theorem pick3 (na : Bool) (ka : Nat) (nb : Bool) (kb : Nat) (ha : 1 ≤ ka ∧ ka ≤ 5) (hb : 1 ≤ kb ∧ kb ≤ 5) : (hN 3 na ka nb kb).val = true := by
  cases na
  · obtain ⟨a0, a1, a2, a3, a4, a5, a6, a7, a8, a9, a10, a11, a12, a13, a14, a15, a16, a17, a18, a19, a20, a21, a22, a23, a24, a25, a26, a27, a28, a29, a30, a31, a32, a33, a34, a35, a36, a37, a38, a39, a40, a41, a42, a43, a44, a45, a46, a47, a48, a49, a50, a51, a52, a53, a54, a55, a56, a57, a58, a59⟩ := hosts3a
    rcases (by omega : ka = 1 ∨ ka = 2 ∨ ka = 3 ∨ ka = 4 ∨ ka = 5) with rfl | rfl | rfl | rfl | rfl <;> cases nb <;> rcases (by omega : kb = 1 ∨ kb = 2 ∨ kb = 3 ∨ kb = 4 ∨ kb = 5) with rfl | rfl | rfl | rfl | rfl
    · exact vt a0 rfl
    · exact vt a2 rfl
    · exact vt a3 rfl
    · exact vt a4 rfl
    · exact vt a5 rfl
    · exact vt a6 rfl
    · exact vt a8 rfl
    · exact vt a9 rfl
    · exact vt a10 rfl
    · exact vt a11 rfl
    · exact vt a12 rfl
    · exact vt a13 rfl
    · exact vt a15 rfl
    · exact vt a16 rfl
    · exact vt a17 rfl
    · exact vt a18 rfl
    · exact vt a19 rfl
    · exact vt a21 rfl
    · exact vt a22 rfl
    · exact vt a23 rfl
    · exact vt a24 rfl
    · exact vt a25 rfl
    · exact vt a26 rfl
    · exact vt a28 rfl
    · exact vt a29 rfl
    · exact vt a30 rfl
    · exact vt a31 rfl
    · exact vt a32 rfl
    · exact vt a34 rfl
    · exact vt a35 rfl
    · exact vt a36 rfl
    · exact vt a37 rfl
    · exact vt a38 rfl
    · exact vt a39 rfl
    · exact vt a41 rfl
    · exact vt a42 rfl
    · exact vt a43 rfl
    · exact vt a44 rfl
    · exact vt a45 rfl
    · exact vt a47 rfl
    · exact vt a48 rfl
    · exact vt a49 rfl
    · exact vt a50 rfl
    · exact vt a51 rfl
    · exact vt a52 rfl
    · exact vt a54 rfl
    · exact vt a55 rfl
    · exact vt a56 rfl
    · exact vt a57 rfl
    · exact vt a58 rfl
  · obtain ⟨a0, a1, a2, a3, a4, a5, a6, a7, a8, a9, a10, a11, a12, a13, a14, a15, a16, a17, a18, a19, a20, a21, a22, a23, a24, a25, a26, a27, a28, a29, a30, a31, a32, a33, a34, a35, a36, a37, a38, a39, a40, a41, a42, a43, a44, a45, a46, a47, a48, a49, a50, a51, a52, a53, a54, a55, a56, a57, a58, a59⟩ := hosts3b
    rcases (by omega : ka = 1 ∨ ka = 2 ∨ ka = 3 ∨ ka = 4 ∨ ka = 5) with rfl | rfl | rfl | rfl | rfl <;> cases nb <;> rcases (by omega : kb = 1 ∨ kb = 2 ∨ kb = 3 ∨ kb = 4 ∨ kb = 5) with rfl | rfl | rfl | rfl | rfl
    · exact vt a0 rfl
    · exact vt a2 rfl
    · exact vt a3 rfl
    · exact vt a4 rfl
    · exact vt a5 rfl
    · exact vt a6 rfl
    · exact vt a8 rfl
    · exact vt a9 rfl
    · exact vt a10 rfl
    · exact vt a11 rfl
    · exact vt a12 rfl
    · exact vt a13 rfl
    · exact vt a15 rfl
    · exact vt a16 rfl
    · exact vt a17 rfl
    · exact vt a18 rfl
    · exact vt a19 rfl
    · exact vt a21 rfl
    · exact vt a22 rfl
    · exact vt a23 rfl
    · exact vt a24 rfl
    · exact vt a25 rfl
    · exact vt a26 rfl
    · exact vt a28 rfl
    · exact vt a29 rfl
    · exact vt a30 rfl
    · exact vt a31 rfl
    · exact vt a32 rfl
    · exact vt a34 rfl
    · exact vt a35 rfl
    · exact vt a36 rfl
    · exact vt a37 rfl
    · exact vt a38 rfl
    · exact vt a39 rfl
    · exact vt a41 rfl
    · exact vt a42 rfl
    · exact vt a43 rfl
    · exact vt a44 rfl
    · exact vt a45 rfl
    · exact vt a47 rfl
    · exact vt a48 rfl
    · exact vt a49 rfl
    · exact vt a50 rfl
    · exact vt a51 rfl
    · exact vt a52 rfl
    · exact vt a54 rfl
    · exact vt a55 rfl
    · exact vt a56 rfl
    · exact vt a57 rfl
    · exact vt a58 rfl
theorem pickE3 (na nb : Bool) (k : Nat) (ha : 1 ≤ k ∧ k ≤ 5) : (hE 3 na nb k).val = true := by
  cases na
  · obtain ⟨a0, a1, a2, a3, a4, a5, a6, a7, a8, a9, a10, a11, a12, a13, a14, a15, a16, a17, a18, a19, a20, a21, a22, a23, a24, a25, a26, a27, a28, a29, a30, a31, a32, a33, a34, a35, a36, a37, a38, a39, a40, a41, a42, a43, a44, a45, a46, a47, a48, a49, a50, a51, a52, a53, a54, a55, a56, a57, a58, a59⟩ := hosts3a
    rcases (by omega : k = 1 ∨ k = 2 ∨ k = 3 ∨ k = 4 ∨ k = 5) with rfl | rfl | rfl | rfl | rfl <;> cases nb
    · exact vt a1 rfl
    · exact vt a7 rfl
    · exact vt a14 rfl
    · exact vt a20 rfl
    · exact vt a27 rfl
    · exact vt a33 rfl
    · exact vt a40 rfl
    · exact vt a46 rfl
    · exact vt a53 rfl
    · exact vt a59 rfl
  · obtain ⟨a0, a1, a2, a3, a4, a5, a6, a7, a8, a9, a10, a11, a12, a13, a14, a15, a16, a17, a18, a19, a20, a21, a22, a23, a24, a25, a26, a27, a28, a29, a30, a31, a32, a33, a34, a35, a36, a37, a38, a39, a40, a41, a42, a43, a44, a45, a46, a47, a48, a49, a50, a51, a52, a53, a54, a55, a56, a57, a58, a59⟩ := hosts3b
    rcases (by omega : k = 1 ∨ k = 2 ∨ k = 3 ∨ k = 4 ∨ k = 5) with rfl | rfl | rfl | rfl | rfl <;> cases nb
    · exact vt a1 rfl
    · exact vt a7 rfl
    · exact vt a14 rfl
    · exact vt a20 rfl
    · exact vt a27 rfl
    · exact vt a33 rfl
    · exact vt a40 rfl
    · exact vt a46 rfl
    · exact vt a53 rfl
    · exact vt a59 rfl
theorem pick4 (na : Bool) (ka : Nat) (nb : Bool) (kb : Nat) (ha : 1 ≤ ka ∧ ka ≤ 5) (hb : 1 ≤ kb ∧ kb ≤ 5) : (hN 4 na ka nb kb).val = true := by
  cases na
  · obtain ⟨a0, a1, a2, a3, a4, a5, a6, a7, a8, a9, a10, a11, a12, a13, a14, a15, a16, a17, a18, a19, a20, a21, a22, a23, a24, a25, a26, a27, a28, a29, a30, a31, a32, a33, a34, a35, a36, a37, a38, a39, a40, a41, a42, a43, a44, a45, a46, a47, a48, a49, a50, a51, a52, a53, a54, a55, a56, a57, a58, a59⟩ := hosts4a
    rcases (by omega : ka = 1 ∨ ka = 2 ∨ ka = 3 ∨ ka = 4 ∨ ka = 5) with rfl | rfl | rfl | rfl | rfl <;> cases nb <;> rcases (by omega : kb = 1 ∨ kb = 2 ∨ kb = 3 ∨ kb = 4 ∨ kb = 5) with rfl | rfl | rfl | rfl | rfl
    · exact vt a0 rfl
    · exact vt a2 rfl
    · exact vt a3 rfl
    · exact vt a4 rfl
    · exact vt a5 rfl
    · exact vt a6 rfl
    · exact vt a8 rfl
    · exact vt a9 rfl
    · exact vt a10 rfl
    · exact vt a11 rfl
    · exact vt a12 rfl
    · exact vt a13 rfl
    · exact vt a15 rfl
    · exact vt a16 rfl
    · exact vt a17 rfl
    · exact vt a18 rfl
    · exact vt a19 rfl
    · exact vt a21 rfl
    · exact vt a22 rfl
    · exact vt a23 rfl
    · exact vt a24 rfl
    · exact vt a25 rfl
    · exact vt a26 rfl
    · exact vt a28 rfl
    · exact vt a29 rfl
    · exact vt a30 rfl
    · exact vt a31 rfl
    · exact vt a32 rfl
    · exact vt a34 rfl
    · exact vt a35 rfl
    · exact vt a36 rfl
    · exact vt a37 rfl
    · exact vt a38 rfl
    · exact vt a39 rfl
    · exact vt a41 rfl
    · exact vt a42 rfl
    · exact vt a43 rfl
    · exact vt a44 rfl
    · exact vt a45 rfl
    · exact vt a47 rfl
    · exact vt a48 rfl
    · exact vt a49 rfl
    · exact vt a50 rfl
    · exact vt a51 rfl
    · exact vt a52 rfl
    · exact vt a54 rfl
    · exact vt a55 rfl
    · exact vt a56 rfl
    · exact vt a57 rfl
    · exact vt a58 rfl
  · obtain ⟨a0, a1, a2, a3, a4, a5, a6, a7, a8, a9, a10, a11, a12, a13, a14, a15, a16, a17, a18, a19, a20, a21, a22, a23, a24, a25, a26, a27, a28, a29, a30, a31, a32, a33, a34, a35, a36, a37, a38, a39, a40, a41, a42, a43, a44, a45, a46, a47, a48, a49, a50, a51, a52, a53, a54, a55, a56, a57, a58, a59⟩ := hosts4b
    rcases (by omega : ka = 1 ∨ ka = 2 ∨ ka = 3 ∨ ka = 4 ∨ ka = 5) with rfl | rfl | rfl | rfl | rfl <;> cases nb <;> rcases (by omega : kb = 1 ∨ kb = 2 ∨ kb = 3 ∨ kb = 4 ∨ kb = 5) with rfl | rfl | rfl | rfl | rfl
    · exact vt a0 rfl
    · exact vt a2 rfl
    · exact vt a3 rfl
    · exact vt a4 rfl
    · exact vt a5 rfl
    · exact vt a6 rfl
    · exact vt a8 rfl
    · exact vt a9 rfl
    · exact vt a10 rfl
    · exact vt a11 rfl
    · exact vt a12 rfl
    · exact vt a13 rfl
    · exact vt a15 rfl
    · exact vt a16 rfl
    · exact vt a17 rfl
    · exact vt a18 rfl
    · exact vt a19 rfl
    · exact vt a21 rfl
    · exact vt a22 rfl
    · exact vt a23 rfl
    · exact vt a24 rfl
    · exact vt a25 rfl
    · exact vt a26 rfl
    · exact vt a28 rfl
    · exact vt a29 rfl
    · exact vt a30 rfl
    · exact vt a31 rfl
    · exact vt a32 rfl
    · exact vt a34 rfl
    · exact vt a35 rfl
    · exact vt a36 rfl
    · exact vt a37 rfl
    · exact vt a38 rfl
    · exact vt a39 rfl
    · exact vt a41 rfl
    · exact vt a42 rfl
    · exact vt a43 rfl
    · exact vt a44 rfl
    · exact vt a45 rfl
    · exact vt a47 rfl
    · exact vt a48 rfl
    · exact vt a49 rfl
    · exact vt a50 rfl
    · exact vt a51 rfl
    · exact vt a52 rfl
    · exact vt a54 rfl
    · exact vt a55 rfl
    · exact vt a56 rfl
    · exact vt a57 rfl
    · exact vt a58 rfl
theorem pickE4 (na nb : Bool) (k : Nat) (ha : 1 ≤ k ∧ k ≤ 5) : (hE 4 na nb k).val = true := by
  cases na
  · obtain ⟨a0, a1, a2, a3, a4, a5, a6, a7, a8, a9, a10, a11, a12, a13, a14, a15, a16, a17, a18, a19, a20, a21, a22, a23, a24, a25, a26, a27, a28, a29, a30, a31, a32, a33, a34, a35, a36, a37, a38, a39, a40, a41, a42, a43, a44, a45, a46, a47, a48, a49, a50, a51, a52, a53, a54, a55, a56, a57, a58, a59⟩ := hosts4a
    rcases (by omega : k = 1 ∨ k = 2 ∨ k = 3 ∨ k = 4 ∨ k = 5) with rfl | rfl | rfl | rfl | rfl <;> cases nb
    · exact vt a1 rfl
    · exact vt a7 rfl
    · exact vt a14 rfl
    · exact vt a20 rfl
    · exact vt a27 rfl
    · exact vt a33 rfl
    · exact vt a40 rfl
    · exact vt a46 rfl
    · exact vt a53 rfl
    · exact vt a59 rfl
  · obtain ⟨a0, a1, a2, a3, a4, a5, a6, a7, a8, a9, a10, a11, a12, a13, a14, a15, a16, a17, a18, a19, a20, a21, a22, a23, a24, a25, a26, a27, a28, a29, a30, a31, a32, a33, a34, a35, a36, a37, a38, a39, a40, a41, a42, a43, a44, a45, a46, a47, a48, a49, a50, a51, a52, a53, a54, a55, a56, a57, a58, a59⟩ := hosts4b
    rcases (by omega : k = 1 ∨ k = 2 ∨ k = 3 ∨ k = 4 ∨ k = 5) with rfl | rfl | rfl | rfl | rfl <;> cases nb
    · exact vt a1 rfl
    · exact vt a7 rfl
    · exact vt a14 rfl
    · exact vt a20 rfl
    · exact vt a27 rfl
    · exact vt a33 rfl
    · exact vt a40 rfl
    · exact vt a46 rfl
    · exact vt a53 rfl
    · exact vt a59 rfl
theorem pick5 (na : Bool) (ka : Nat) (nb : Bool) (kb : Nat) (ha : 1 ≤ ka ∧ ka ≤ 5) (hb : 1 ≤ kb ∧ kb ≤ 5) : (hN 5 na ka nb kb).val = true := by
  cases na
  · obtain ⟨a0, a1, a2, a3, a4, a5, a6, a7, a8, a9, a10, a11, a12, a13, a14, a15, a16, a17, a18, a19, a20, a21, a22, a23, a24, a25, a26, a27, a28, a29, a30, a31, a32, a33, a34, a35, a36, a37, a38, a39, a40, a41, a42, a43, a44, a45, a46, a47, a48, a49, a50, a51, a52, a53, a54, a55, a56, a57, a58, a59⟩ := hosts5a
    rcases (by omega : ka = 1 ∨ ka = 2 ∨ ka = 3 ∨ ka = 4 ∨ ka = 5) with rfl | rfl | rfl | rfl | rfl <;> cases nb <;> rcases (by omega : kb = 1 ∨ kb = 2 ∨ kb = 3 ∨ kb = 4 ∨ kb = 5) with rfl | rfl | rfl | rfl | rfl
    · exact vt a0 rfl
    · exact vt a2 rfl
    · exact vt a3 rfl
    · exact vt a4 rfl
    · exact vt a5 rfl
    · exact vt a6 rfl
    · exact vt a8 rfl
    · exact vt a9 rfl
    · exact vt a10 rfl
    · exact vt a11 rfl
    · exact vt a12 rfl
    · exact vt a13 rfl
    · exact vt a15 rfl
    · exact vt a16 rfl
    · exact vt a17 rfl
    · exact vt a18 rfl
    · exact vt a19 rfl
    · exact vt a21 rfl
    · exact vt a22 rfl
    · exact vt a23 rfl
    · exact vt a24 rfl
    · exact vt a25 rfl
    · exact vt a26 rfl
    · exact vt a28 rfl
    · exact vt a29 rfl
    · exact vt a30 rfl
    · exact vt a31 rfl
    · exact vt a32 rfl
    · exact vt a34 rfl
    · exact vt a35 rfl
    · exact vt a36 rfl
    · exact vt a37 rfl
    · exact vt a38 rfl
    · exact vt a39 rfl
    · exact vt a41 rfl
    · exact vt a42 rfl
    · exact vt a43 rfl
    · exact vt a44 rfl
    · exact vt a45 rfl
    · exact vt a47 rfl
    · exact vt a48 rfl
    · exact vt a49 rfl
    · exact vt a50 rfl
    · exact vt a51 rfl
    · exact vt a52 rfl
    · exact vt a54 rfl
    · exact vt a55 rfl
    · exact vt a56 rfl
    · exact vt a57 rfl
    · exact vt a58 rfl
  · obtain ⟨a0, a1, a2, a3, a4, a5, a6, a7, a8, a9, a10, a11, a12, a13, a14, a15, a16, a17, a18, a19, a20, a21, a22, a23, a24, a25, a26, a27, a28, a29, a30, a31, a32, a33, a34, a35, a36, a37, a38, a39, a40, a41, a42, a43, a44, a45, a46, a47, a48, a49, a50, a51, a52, a53, a54, a55, a56, a57, a58, a59⟩ := hosts5b
    rcases (by omega : ka = 1 ∨ ka = 2 ∨ ka = 3 ∨ ka = 4 ∨ ka = 5) with rfl | rfl | rfl | rfl | rfl <;> cases nb <;> rcases (by omega : kb = 1 ∨ kb = 2 ∨ kb = 3 ∨ kb = 4 ∨ kb = 5) with rfl | rfl | rfl | rfl | rfl
    · exact vt a0 rfl
    · exact vt a2 rfl
    · exact vt a3 rfl
    · exact vt a4 rfl
    · exact vt a5 rfl
    · exact vt a6 rfl
    · exact vt a8 rfl
    · exact vt a9 rfl
    · exact vt a10 rfl
    · exact vt a11 rfl
    · exact vt a12 rfl
    · exact vt a13 rfl
    · exact vt a15 rfl
    · exact vt a16 rfl
    · exact vt a17 rfl
    · exact vt a18 rfl
    · exact vt a19 rfl
    · exact vt a21 rfl
    · exact vt a22 rfl
    · exact vt a23 rfl
    · exact vt a24 rfl
    · exact vt a25 rfl
    · exact vt a26 rfl
    · exact vt a28 rfl
    · exact vt a29 rfl
    · exact vt a30 rfl
    · exact vt a31 rfl
    · exact vt a32 rfl
    · exact vt a34 rfl
    · exact vt a35 rfl
    · exact vt a36 rfl
    · exact vt a37 rfl
    · exact vt a38 rfl
    · exact vt a39 rfl
    · exact vt a41 rfl
    · exact vt a42 rfl
    · exact vt a43 rfl
    · exact vt a44 rfl
    · exact vt a45 rfl
    · exact vt a47 rfl
    · exact vt a48 rfl
    · exact vt a49 rfl
    · exact vt a50 rfl
    · exact vt a51 rfl
    · exact vt a52 rfl
    · exact vt a54 rfl
    · exact vt a55 rfl
    · exact vt a56 rfl
    · exact vt a57 rfl
    · exact vt a58 rfl
theorem pickE5 (na nb : Bool) (k : Nat) (ha : 1 ≤ k ∧ k ≤ 5) : (hE 5 na nb k).val = true := by
  cases na
  · obtain ⟨a0, a1, a2, a3, a4, a5, a6, a7, a8, a9, a10, a11, a12, a13, a14, a15, a16, a17, a18, a19, a20, a21, a22, a23, a24, a25, a26, a27, a28, a29, a30, a31, a32, a33, a34, a35, a36, a37, a38, a39, a40, a41, a42, a43, a44, a45, a46, a47, a48, a49, a50, a51, a52, a53, a54, a55, a56, a57, a58, a59⟩ := hosts5a
    rcases (by omega : k = 1 ∨ k = 2 ∨ k = 3 ∨ k = 4 ∨ k = 5) with rfl | rfl | rfl | rfl | rfl <;> cases nb
    · exact vt a1 rfl
    · exact vt a7 rfl
    · exact vt a14 rfl
    · exact vt a20 rfl
    · exact vt a27 rfl
    · exact vt a33 rfl
    · exact vt a40 rfl
    · exact vt a46 rfl
    · exact vt a53 rfl
    · exact vt a59 rfl
  · obtain ⟨a0, a1, a2, a3, a4, a5, a6, a7, a8, a9, a10, a11, a12, a13, a14, a15, a16, a17, a18, a19, a20, a21, a22, a23, a24, a25, a26, a27, a28, a29, a30, a31, a32, a33, a34, a35, a36, a37, a38, a39, a40, a41, a42, a43, a44, a45, a46, a47, a48, a49, a50, a51, a52, a53, a54, a55, a56, a57, a58, a59⟩ := hosts5b
    rcases (by omega : k = 1 ∨ k = 2 ∨ k = 3 ∨ k = 4 ∨ k = 5) with rfl | rfl | rfl | rfl | rfl <;> cases nb
    · exact vt a1 rfl
    · exact vt a7 rfl
    · exact vt a14 rfl
    · exact vt a20 rfl
    · exact vt a27 rfl
    · exact vt a33 rfl
    · exact vt a40 rfl
    · exact vt a46 rfl
    · exact vt a53 rfl
    · exact vt a59 rfl
theorem len_dg : ∀ (neg : Bool) (k : Nat), 1 ≤ k ∧ k ≤ 5 → (dg neg k).length = 5 := by
  intro neg k h
  rcases (by omega : k = 1 ∨ k = 2 ∨ k = 3 ∨ k = 4 ∨ k = 5) with rfl | rfl | rfl | rfl | rfl <;> cases neg <;> rfl
theorem tsVal_append (f : Nat → Int) : ∀ xs ys : Ts, tsVal f (xs ++ ys) = tsVal f xs + tsVal f ys
  | [], ys => by simp [tsVal]
  | (a, s) :: xs, ys => by simp only [List.cons_append, tsVal, tsVal_append f xs ys]; omega
theorem walk (a0 a1 a2 : Int) (w0 : (Lit.int .i16 a0).wf = true) (w1 : (Lit.int .i16 a1).wf = true) (w2 : (Lit.int .u8 a2).wf = true) (w : World) :
    Calls Tryz.prog 5 #[.int .i16 a0, .int .i16 a1, .int .u8 a2] w fun e w' => e = .returned (.bool true) ∧ w.keptBut w' (fun _ => False) := by
  have c0 := fits_i16 w0
  have c1 := fits_i16 w1
  have c2 := fits_u8 w2
  clear w0 w1 w2
  obtain ⟨cb, hbody⟩ : ∃ cb, Tryz.f5.body = some cb := Option.isSome_iff_exists.1 (by kernel_rfl)
  obtain ⟨m, hm⟩ : ∃ m, m = if a0 < 0 then -a0 else a0 := ⟨_, rfl⟩
  obtain ⟨n, hn⟩ : ∃ n, n = if a1 < 0 then -a1 else a1 := ⟨_, rfl⟩
  obtain ⟨σ, g0, g1, g2, g3, g4, g5, g6, g7, g8, g9, g10⟩ : ∃ σ : Sg, σ.i 0 = m % 10 ∧ σ.i (0 + 1) = m / 10 % 10 ∧ σ.i (0 + 2) = m / 100 % 10 ∧ σ.i (0 + 3) = m / 1000 % 10 ∧ σ.i (0 + 4) = m / 10000 ∧
      σ.i 5 = n % 10 ∧ σ.i (5 + 1) = n / 10 % 10 ∧ σ.i (5 + 2) = n / 100 % 10 ∧ σ.i (5 + 3) = n / 1000 % 10 ∧ σ.i (5 + 4) = n / 10000 ∧ σ.i 10 = a2 :=
    ⟨{ i := fun s => match s with | 0 => m % 10 | 1 => m / 10 % 10 | 2 => m / 100 % 10 | 3 => m / 1000 % 10 | 4 => m / 10000 | 5 => n % 10 | 6 => n / 10 % 10 | 7 => n / 100 % 10 | 8 => n / 1000 % 10 | 9 => n / 10000 | _ => a2, s := fun _ => ByteArray.empty },
      rfl, rfl, rfl, rfl, rfl, rfl, rfl, rfl, rfl, rfl, rfl⟩
  obtain ⟨na, ka, hka, sa, fa, ma, ma', da, da'⟩ := shape c0 hm g0 g1 g2 g3 g4
  obtain ⟨nb, kb, hkb, sb, fb, mb, mb', db, db'⟩ := shape c1 hn g5 g6 g7 g8 g9
  have b10 : SatI (fun i => σ.i (10 + i)) [(0, 255)] := sat1 (by show (0 : Int) ≤ σ.i 10 ∧ σ.i 10 ≤ (255 : Int); rw [g10]; exact c2)
  have sat : ∀ x : Bool, SatI (fun i => σ.i (0 + i)) (dg x ka) → SatI σ.i (ivs x ka nb kb) := by
    intro x hx
    refine satI_append (by simpa only [Nat.zero_add] using hx) ?_
    rw [len_dg x ka hka]
    refine satI_append db ?_
    rw [len_dg nb kb hkb]
    have e : (fun i => σ.i (5 + (5 + i))) = fun i => σ.i (10 + i) := funext fun i => by rw [show 5 + (5 + i) = 10 + i by omega]
    rw [e]
    exact b10
  have lr : ∀ {x y z : CV}, VR σ (fun _ => none) x (.int .i16 a0) → VR σ (fun _ => none) y (.int .i16 a1) → VR σ (fun _ => none) z (.int .u8 a2) →
      LR σ (fun _ => none) [x, y, z] (#[.int .i16 a0, .int .i16 a1, .int .u8 a2] : Array Value).toList := fun h1 h2 h3 => LR.cons h1 (LR.cons h2 (LR.cons h3 LR.nil))
  by_cases he : ka = kb ∧ m = n
  · obtain ⟨rfl, rfl⟩ := he
    have fb' : lfVal σ.i 0 (fm 0 nb ka) = a1 := by
      cases nb with
      | false =>
        have : ¬ a1 < 0 := fun h => by simpa using sb.2 h
        rw [if_neg this] at hn
        rw [ma, hn]
      | true =>
        have : a1 < 0 := sb.1 rfl
        rw [if_pos this] at hn
        rw [ma', hn]; omega
    have s1 : SatI σ.i (ivs (na || nb) ka nb ka) := by
      refine sat _ ?_
      cases na with
      | true => exact da
      | false => cases nb with
        | false => exact da
        | true =>
          have : a1 < 0 := sb.1 rfl
          rw [if_pos this] at hn
          exact da' (by omega)
    have go : ∀ how : Nat, a2 % 6 = (how : Int) → (hE how na nb ka).val = true →
        Calls Tryz.prog 5 #[.int .i16 a0, .int .i16 a1, .int .u8 a2] w fun e w' => e = .returned (.bool true) ∧ w.keptBut w' (fun _ => False) := fun how hh hr =>
      law_calls Tryz.func5 hbody hr ⟨s1, fun x hx => by cases hx⟩ w _ (lr (lin_of fa) (lin_of fb') (symr_of g10 c2.1 hh))
    rcases (by omega : a2 % 6 = 0 ∨ a2 % 6 = 1 ∨ a2 % 6 = 2 ∨ a2 % 6 = 3 ∨ a2 % 6 = 4 ∨ a2 % 6 = 5) with h | h | h | h | h | h
    · exact go 0 h (pickE0 na nb ka hka)
    · exact go 1 h (pickE1 na nb ka hka)
    · exact go 2 h (pickE2 na nb ka hka)
    · exact go 3 h (pickE3 na nb ka hka)
    · exact go 4 h (pickE4 na nb ka hka)
    · exact go 5 h (pickE5 na nb ka hka)
  · have s2 : Sat σ ⟨ivs na ka nb kb, nesN ka kb⟩ := by
      refine ⟨sat _ da, fun x hx => ?_⟩
      have hx : x ∈ nesN ka kb := hx
      unfold nesN at hx
      cases hq : Nat.beq ka kb with
      | false => rw [hq] at hx; cases hx
      | true =>
        rw [hq] at hx
        have hk : ka = kb := by simpa using hq
        obtain rfl := List.mem_singleton.1 hx
        have hne : m ≠ n := fun h => he ⟨hk, h⟩
        show lfVal σ.i 0 (fm 0 false ka ++ fm 5 true ka) ≠ 0
        rw [← hk] at mb'
        simp only [lfVal, tsVal_append] at ma mb' ⊢
        omega
    have go : ∀ how : Nat, a2 % 6 = (how : Int) → (hN how na ka nb kb).val = true →
        Calls Tryz.prog 5 #[.int .i16 a0, .int .i16 a1, .int .u8 a2] w fun e w' => e = .returned (.bool true) ∧ w.keptBut w' (fun _ => False) := fun how hh hr =>
      law_calls Tryz.func5 hbody hr s2 w _ (lr (lin_of fa) (lin_of fb) (symr_of g10 c2.1 hh))
    rcases (by omega : a2 % 6 = 0 ∨ a2 % 6 = 1 ∨ a2 % 6 = 2 ∨ a2 % 6 = 3 ∨ a2 % 6 = 4 ∨ a2 % 6 = 5) with h | h | h | h | h | h
    · exact go 0 h (pick0 na ka nb kb hka hkb)
    · exact go 1 h (pick1 na ka nb kb hka hkb)
    · exact go 2 h (pick2 na ka nb kb hka hkb)
    · exact go 3 h (pick3 na ka nb kb hka hkb)
    · exact go 4 h (pick4 na ka nb kb hka hkb)
    · exact go 5 h (pick5 na ka nb kb hka hkb)
#print axioms walk
end Go.Proofs.YtaikcgmgjchfmaaGreatDoor.machineHosts
