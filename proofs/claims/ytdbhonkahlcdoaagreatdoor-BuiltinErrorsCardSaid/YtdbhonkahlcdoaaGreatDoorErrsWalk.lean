/- BuiltinErrors hands back true at every input: the evaluator's runs, put together. Condition: strings.asciiSpace and strconv.ErrSyntax read as they are laid. -/
import Derived.Test.YtdbhonkahlcdoaaGreatDoorRunAP
import Derived.Test.YtdbhonkahlcdoaaGreatDoorErrsR0
import Derived.Test.YtdbhonkahlcdoaaGreatDoorErrsR1
import Derived.Test.YtdbhonkahlcdoaaGreatDoorErrsR2
import Derived.Test.YtdbhonkahlcdoaaGreatDoorErrsR3
import Derived.Test.YtdbhonkahlcdoaaGreatDoorErrsR4
import Derived.Test.YtdbhonkahlcdoaaGreatDoorErrsR5
import Derived.Test.YtdbhonkahlcdoaaGreatDoorErrsR6
import Derived.Test.YtdbhonkahlcdoaaGreatDoorErrsR7
import Derived.Test.YtdbhonkahlcdoaaGreatDoorErrsR8
namespace Go.Proofs.YtdbhonkahlcdoaaGreatDoor.builtinErrors
open Go Go.Ev
set_option maxRecDepth 100000

theorem fits_u8 {a : Int} (h : (Lit.int .u8 a).wf = true) : 0 ≤ a ∧ a ≤ 255 := by
  have e1 : IntKind.min .u8 = 0 := by kernel_rfl
  have e2 : IntKind.max .u8 = 255 := by kernel_rfl
  simpa [Lit.wf, e1, e2] using h
theorem lin_of {σ : Sg} {e : Env} {k : IntKind} {c : Int} {ts : Ts} {a : Int} (h : lfVal σ.i c ts = a) : VR σ e (.lin k c ts) (.int k a) := by
  rw [← h]; exact .lin k c ts
theorem symr_of {σ : Sg} {e : Env} {k : IntKind} {s c lo : Nat} {a : Int} (h : σ.i s = a) (h0 : 0 ≤ a) (hr : a % (c : Int) = (lo : Int)) : VR σ e (.symr k s c lo 1) (.int k a) := by
  obtain ⟨n, rfl⟩ : ∃ n : Nat, a = Int.ofNat n := ⟨a.toNat, by simp only [Int.ofNat_eq_natCast]; omega⟩
  rw [← h]
  refine .symr (σ := σ) k s c lo 1 0 n h (by decide) ?_
  have : ((n % c : Nat) : Int) = (lo : Int) := by rw [Int.natCast_emod]; exact hr
  omega
theorem fits_i16 {a : Int} (h : (Lit.int .i16 a).wf = true) : -32768 ≤ a ∧ a ≤ 32767 := by
  have e1 : IntKind.min .i16 = -32768 := by kernel_rfl
  have e2 : IntKind.max .i16 = 32767 := by kernel_rfl
  simpa [Lit.wf, e1, e2] using h
theorem satI_append {g : Nat → Int} {l l' : Ivs} (h : SatI g l) (h' : SatI (fun i => g (l.length + i)) l') : SatI g (l ++ l') := by
  intro s lo hi hx
  rcases Nat.lt_or_ge s l.length with hs | hs
  · rw [List.getElem?_append_left hs] at hx; exact h s lo hi hx
  · rw [List.getElem?_append_right hs] at hx
    have := h' (s - l.length) lo hi hx
    have e : l.length + (s - l.length) = s := by omega
    simpa only [e] using this
theorem sat5 {g : Nat → Int} {p0 p1 p2 p3 p4 : Int × Int} (b0 : p0.1 ≤ g 0 ∧ g 0 ≤ p0.2) (b1 : p1.1 ≤ g 1 ∧ g 1 ≤ p1.2) (b2 : p2.1 ≤ g 2 ∧ g 2 ≤ p2.2)
    (b3 : p3.1 ≤ g 3 ∧ g 3 ≤ p3.2) (b4 : p4.1 ≤ g 4 ∧ g 4 ≤ p4.2) : SatI g [p0, p1, p2, p3, p4] := by
  intro s lo hi h
  match s, h with
  | 0, h => cases h; exact b0
  | 1, h => cases h; exact b1
  | 2, h => cases h; exact b2
  | 3, h => cases h; exact b3
  | 4, h => cases h; exact b4
  | n + 5, h => simp at h
theorem sat1 {g : Nat → Int} {p0 : Int × Int} (b0 : p0.1 ≤ g 0 ∧ g 0 ≤ p0.2) : SatI g [p0] := by
  intro s lo hi h
  match s, h with
  | 0, h => cases h; exact b0
  | n + 1, h => simp at h
/-- each number has a shape -/
theorem shape {g : Nat → Int} {off : Nat} {a m : Int} (hr : -32768 ≤ a ∧ a ≤ 32767) (hm : m = if a < 0 then -a else a) (g0 : g off = m % 10) (g1 : g (off + 1) = m / 10 % 10) (g2 : g (off + 2) = m / 100 % 10)
    (g3 : g (off + 3) = m / 1000 % 10) (g4 : g (off + 4) = m / 10000) :
    ∃ neg k, (1 ≤ k ∧ k ≤ 5) ∧ (neg = true ↔ a < 0) ∧ lfVal g 0 (fm off neg k) = a ∧ lfVal g 0 (fm off false k) = m ∧ lfVal g 0 (fm off true k) = -m ∧ SatI (fun i => g (off + i)) (dg neg k) ∧ (m ≠ 0 → SatI (fun i => g (off + i)) (dg true k)) := by
  have fin : ∀ (neg : Bool) (k : Nat), (1 ≤ k ∧ k ≤ 5) → (neg = true ↔ a < 0) → lfVal g 0 (fm off neg k) = a → lfVal g 0 (fm off false k) = m → lfVal g 0 (fm off true k) = -m → SatI (fun i => g (off + i)) (dg neg k) → (m ≠ 0 → SatI (fun i => g (off + i)) (dg true k)) →
      ∃ neg k, (1 ≤ k ∧ k ≤ 5) ∧ (neg = true ↔ a < 0) ∧ lfVal g 0 (fm off neg k) = a ∧ lfVal g 0 (fm off false k) = m ∧ lfVal g 0 (fm off true k) = -m ∧ SatI (fun i => g (off + i)) (dg neg k) ∧ (m ≠ 0 → SatI (fun i => g (off + i)) (dg true k)) :=
    fun neg k h1 h2 h3 h4 h5 h6 h7 => ⟨neg, k, h1, h2, h3, h4, h5, h6, h7⟩
  by_cases ha : a < 0
  · rw [if_pos ha] at hm
    rcases (by omega : m < 10 ∨ (10 ≤ m ∧ m < 100) ∨ (100 ≤ m ∧ m < 1000) ∨ (1000 ≤ m ∧ m < 10000) ∨ (10000 ≤ m ∧ m ≤ 32768)) with h | h | h | h | h
    · exact fin true 1 (by decide) (by simp [ha]) (by simp only [fm, lfVal, tsVal, g0]; omega) (by simp only [fm, lfVal, tsVal, g0]; omega) (by simp only [fm, lfVal, tsVal, g0]; omega) (sat5 (by show _ ≤ g off ∧ g off ≤ _; rw [g0]; simp only []; omega) (by show _ ≤ g (off + 1) ∧ g (off + 1) ≤ _; rw [g1]; simp only []; omega) (by show _ ≤ g (off + 2) ∧ g (off + 2) ≤ _; rw [g2]; simp only []; omega) (by show _ ≤ g (off + 3) ∧ g (off + 3) ≤ _; rw [g3]; simp only []; omega) (by show _ ≤ g (off + 4) ∧ g (off + 4) ≤ _; rw [g4]; simp only []; omega)) (fun hz => sat5 (by show _ ≤ g off ∧ g off ≤ _; rw [g0]; simp only []; omega) (by show _ ≤ g (off + 1) ∧ g (off + 1) ≤ _; rw [g1]; simp only []; omega) (by show _ ≤ g (off + 2) ∧ g (off + 2) ≤ _; rw [g2]; simp only []; omega) (by show _ ≤ g (off + 3) ∧ g (off + 3) ≤ _; rw [g3]; simp only []; omega) (by show _ ≤ g (off + 4) ∧ g (off + 4) ≤ _; rw [g4]; simp only []; omega))
    · exact fin true 2 (by decide) (by simp [ha]) (by simp only [fm, lfVal, tsVal, g0, g1]; omega) (by simp only [fm, lfVal, tsVal, g0, g1]; omega) (by simp only [fm, lfVal, tsVal, g0, g1]; omega) (sat5 (by show _ ≤ g off ∧ g off ≤ _; rw [g0]; simp only []; omega) (by show _ ≤ g (off + 1) ∧ g (off + 1) ≤ _; rw [g1]; simp only []; omega) (by show _ ≤ g (off + 2) ∧ g (off + 2) ≤ _; rw [g2]; simp only []; omega) (by show _ ≤ g (off + 3) ∧ g (off + 3) ≤ _; rw [g3]; simp only []; omega) (by show _ ≤ g (off + 4) ∧ g (off + 4) ≤ _; rw [g4]; simp only []; omega)) (fun hz => sat5 (by show _ ≤ g off ∧ g off ≤ _; rw [g0]; simp only []; omega) (by show _ ≤ g (off + 1) ∧ g (off + 1) ≤ _; rw [g1]; simp only []; omega) (by show _ ≤ g (off + 2) ∧ g (off + 2) ≤ _; rw [g2]; simp only []; omega) (by show _ ≤ g (off + 3) ∧ g (off + 3) ≤ _; rw [g3]; simp only []; omega) (by show _ ≤ g (off + 4) ∧ g (off + 4) ≤ _; rw [g4]; simp only []; omega))
    · exact fin true 3 (by decide) (by simp [ha]) (by simp only [fm, lfVal, tsVal, g0, g1, g2]; omega) (by simp only [fm, lfVal, tsVal, g0, g1, g2]; omega) (by simp only [fm, lfVal, tsVal, g0, g1, g2]; omega) (sat5 (by show _ ≤ g off ∧ g off ≤ _; rw [g0]; simp only []; omega) (by show _ ≤ g (off + 1) ∧ g (off + 1) ≤ _; rw [g1]; simp only []; omega) (by show _ ≤ g (off + 2) ∧ g (off + 2) ≤ _; rw [g2]; simp only []; omega) (by show _ ≤ g (off + 3) ∧ g (off + 3) ≤ _; rw [g3]; simp only []; omega) (by show _ ≤ g (off + 4) ∧ g (off + 4) ≤ _; rw [g4]; simp only []; omega)) (fun hz => sat5 (by show _ ≤ g off ∧ g off ≤ _; rw [g0]; simp only []; omega) (by show _ ≤ g (off + 1) ∧ g (off + 1) ≤ _; rw [g1]; simp only []; omega) (by show _ ≤ g (off + 2) ∧ g (off + 2) ≤ _; rw [g2]; simp only []; omega) (by show _ ≤ g (off + 3) ∧ g (off + 3) ≤ _; rw [g3]; simp only []; omega) (by show _ ≤ g (off + 4) ∧ g (off + 4) ≤ _; rw [g4]; simp only []; omega))
    · exact fin true 4 (by decide) (by simp [ha]) (by simp only [fm, lfVal, tsVal, g0, g1, g2, g3]; omega) (by simp only [fm, lfVal, tsVal, g0, g1, g2, g3]; omega) (by simp only [fm, lfVal, tsVal, g0, g1, g2, g3]; omega) (sat5 (by show _ ≤ g off ∧ g off ≤ _; rw [g0]; simp only []; omega) (by show _ ≤ g (off + 1) ∧ g (off + 1) ≤ _; rw [g1]; simp only []; omega) (by show _ ≤ g (off + 2) ∧ g (off + 2) ≤ _; rw [g2]; simp only []; omega) (by show _ ≤ g (off + 3) ∧ g (off + 3) ≤ _; rw [g3]; simp only []; omega) (by show _ ≤ g (off + 4) ∧ g (off + 4) ≤ _; rw [g4]; simp only []; omega)) (fun hz => sat5 (by show _ ≤ g off ∧ g off ≤ _; rw [g0]; simp only []; omega) (by show _ ≤ g (off + 1) ∧ g (off + 1) ≤ _; rw [g1]; simp only []; omega) (by show _ ≤ g (off + 2) ∧ g (off + 2) ≤ _; rw [g2]; simp only []; omega) (by show _ ≤ g (off + 3) ∧ g (off + 3) ≤ _; rw [g3]; simp only []; omega) (by show _ ≤ g (off + 4) ∧ g (off + 4) ≤ _; rw [g4]; simp only []; omega))
    · exact fin true 5 (by decide) (by simp [ha]) (by simp only [fm, lfVal, tsVal, g0, g1, g2, g3, g4]; omega) (by simp only [fm, lfVal, tsVal, g0, g1, g2, g3, g4]; omega) (by simp only [fm, lfVal, tsVal, g0, g1, g2, g3, g4]; omega) (sat5 (by show _ ≤ g off ∧ g off ≤ _; rw [g0]; simp only []; omega) (by show _ ≤ g (off + 1) ∧ g (off + 1) ≤ _; rw [g1]; simp only []; omega) (by show _ ≤ g (off + 2) ∧ g (off + 2) ≤ _; rw [g2]; simp only []; omega) (by show _ ≤ g (off + 3) ∧ g (off + 3) ≤ _; rw [g3]; simp only []; omega) (by show _ ≤ g (off + 4) ∧ g (off + 4) ≤ _; rw [g4]; simp only []; omega)) (fun hz => sat5 (by show _ ≤ g off ∧ g off ≤ _; rw [g0]; simp only []; omega) (by show _ ≤ g (off + 1) ∧ g (off + 1) ≤ _; rw [g1]; simp only []; omega) (by show _ ≤ g (off + 2) ∧ g (off + 2) ≤ _; rw [g2]; simp only []; omega) (by show _ ≤ g (off + 3) ∧ g (off + 3) ≤ _; rw [g3]; simp only []; omega) (by show _ ≤ g (off + 4) ∧ g (off + 4) ≤ _; rw [g4]; simp only []; omega))
  · rw [if_neg ha] at hm
    rcases (by omega : m < 10 ∨ (10 ≤ m ∧ m < 100) ∨ (100 ≤ m ∧ m < 1000) ∨ (1000 ≤ m ∧ m < 10000) ∨ (10000 ≤ m ∧ m ≤ 32768)) with h | h | h | h | h
    · exact fin false 1 (by decide) (by simp [ha]) (by simp only [fm, lfVal, tsVal, g0]; omega) (by simp only [fm, lfVal, tsVal, g0]; omega) (by simp only [fm, lfVal, tsVal, g0]; omega) (sat5 (by show _ ≤ g off ∧ g off ≤ _; rw [g0]; simp only []; omega) (by show _ ≤ g (off + 1) ∧ g (off + 1) ≤ _; rw [g1]; simp only []; omega) (by show _ ≤ g (off + 2) ∧ g (off + 2) ≤ _; rw [g2]; simp only []; omega) (by show _ ≤ g (off + 3) ∧ g (off + 3) ≤ _; rw [g3]; simp only []; omega) (by show _ ≤ g (off + 4) ∧ g (off + 4) ≤ _; rw [g4]; simp only []; omega)) (fun hz => sat5 (by show _ ≤ g off ∧ g off ≤ _; rw [g0]; simp only []; omega) (by show _ ≤ g (off + 1) ∧ g (off + 1) ≤ _; rw [g1]; simp only []; omega) (by show _ ≤ g (off + 2) ∧ g (off + 2) ≤ _; rw [g2]; simp only []; omega) (by show _ ≤ g (off + 3) ∧ g (off + 3) ≤ _; rw [g3]; simp only []; omega) (by show _ ≤ g (off + 4) ∧ g (off + 4) ≤ _; rw [g4]; simp only []; omega))
    · exact fin false 2 (by decide) (by simp [ha]) (by simp only [fm, lfVal, tsVal, g0, g1]; omega) (by simp only [fm, lfVal, tsVal, g0, g1]; omega) (by simp only [fm, lfVal, tsVal, g0, g1]; omega) (sat5 (by show _ ≤ g off ∧ g off ≤ _; rw [g0]; simp only []; omega) (by show _ ≤ g (off + 1) ∧ g (off + 1) ≤ _; rw [g1]; simp only []; omega) (by show _ ≤ g (off + 2) ∧ g (off + 2) ≤ _; rw [g2]; simp only []; omega) (by show _ ≤ g (off + 3) ∧ g (off + 3) ≤ _; rw [g3]; simp only []; omega) (by show _ ≤ g (off + 4) ∧ g (off + 4) ≤ _; rw [g4]; simp only []; omega)) (fun hz => sat5 (by show _ ≤ g off ∧ g off ≤ _; rw [g0]; simp only []; omega) (by show _ ≤ g (off + 1) ∧ g (off + 1) ≤ _; rw [g1]; simp only []; omega) (by show _ ≤ g (off + 2) ∧ g (off + 2) ≤ _; rw [g2]; simp only []; omega) (by show _ ≤ g (off + 3) ∧ g (off + 3) ≤ _; rw [g3]; simp only []; omega) (by show _ ≤ g (off + 4) ∧ g (off + 4) ≤ _; rw [g4]; simp only []; omega))
    · exact fin false 3 (by decide) (by simp [ha]) (by simp only [fm, lfVal, tsVal, g0, g1, g2]; omega) (by simp only [fm, lfVal, tsVal, g0, g1, g2]; omega) (by simp only [fm, lfVal, tsVal, g0, g1, g2]; omega) (sat5 (by show _ ≤ g off ∧ g off ≤ _; rw [g0]; simp only []; omega) (by show _ ≤ g (off + 1) ∧ g (off + 1) ≤ _; rw [g1]; simp only []; omega) (by show _ ≤ g (off + 2) ∧ g (off + 2) ≤ _; rw [g2]; simp only []; omega) (by show _ ≤ g (off + 3) ∧ g (off + 3) ≤ _; rw [g3]; simp only []; omega) (by show _ ≤ g (off + 4) ∧ g (off + 4) ≤ _; rw [g4]; simp only []; omega)) (fun hz => sat5 (by show _ ≤ g off ∧ g off ≤ _; rw [g0]; simp only []; omega) (by show _ ≤ g (off + 1) ∧ g (off + 1) ≤ _; rw [g1]; simp only []; omega) (by show _ ≤ g (off + 2) ∧ g (off + 2) ≤ _; rw [g2]; simp only []; omega) (by show _ ≤ g (off + 3) ∧ g (off + 3) ≤ _; rw [g3]; simp only []; omega) (by show _ ≤ g (off + 4) ∧ g (off + 4) ≤ _; rw [g4]; simp only []; omega))
    · exact fin false 4 (by decide) (by simp [ha]) (by simp only [fm, lfVal, tsVal, g0, g1, g2, g3]; omega) (by simp only [fm, lfVal, tsVal, g0, g1, g2, g3]; omega) (by simp only [fm, lfVal, tsVal, g0, g1, g2, g3]; omega) (sat5 (by show _ ≤ g off ∧ g off ≤ _; rw [g0]; simp only []; omega) (by show _ ≤ g (off + 1) ∧ g (off + 1) ≤ _; rw [g1]; simp only []; omega) (by show _ ≤ g (off + 2) ∧ g (off + 2) ≤ _; rw [g2]; simp only []; omega) (by show _ ≤ g (off + 3) ∧ g (off + 3) ≤ _; rw [g3]; simp only []; omega) (by show _ ≤ g (off + 4) ∧ g (off + 4) ≤ _; rw [g4]; simp only []; omega)) (fun hz => sat5 (by show _ ≤ g off ∧ g off ≤ _; rw [g0]; simp only []; omega) (by show _ ≤ g (off + 1) ∧ g (off + 1) ≤ _; rw [g1]; simp only []; omega) (by show _ ≤ g (off + 2) ∧ g (off + 2) ≤ _; rw [g2]; simp only []; omega) (by show _ ≤ g (off + 3) ∧ g (off + 3) ≤ _; rw [g3]; simp only []; omega) (by show _ ≤ g (off + 4) ∧ g (off + 4) ≤ _; rw [g4]; simp only []; omega))
    · exact fin false 5 (by decide) (by simp [ha]) (by simp only [fm, lfVal, tsVal, g0, g1, g2, g3, g4]; omega) (by simp only [fm, lfVal, tsVal, g0, g1, g2, g3, g4]; omega) (by simp only [fm, lfVal, tsVal, g0, g1, g2, g3, g4]; omega) (sat5 (by show _ ≤ g off ∧ g off ≤ _; rw [g0]; simp only []; omega) (by show _ ≤ g (off + 1) ∧ g (off + 1) ≤ _; rw [g1]; simp only []; omega) (by show _ ≤ g (off + 2) ∧ g (off + 2) ≤ _; rw [g2]; simp only []; omega) (by show _ ≤ g (off + 3) ∧ g (off + 3) ≤ _; rw [g3]; simp only []; omega) (by show _ ≤ g (off + 4) ∧ g (off + 4) ≤ _; rw [g4]; simp only []; omega)) (fun hz => sat5 (by show _ ≤ g off ∧ g off ≤ _; rw [g0]; simp only []; omega) (by show _ ≤ g (off + 1) ∧ g (off + 1) ≤ _; rw [g1]; simp only []; omega) (by show _ ≤ g (off + 2) ∧ g (off + 2) ≤ _; rw [g2]; simp only []; omega) (by show _ ≤ g (off + 3) ∧ g (off + 3) ≤ _; rw [g3]; simp only []; omega) (by show _ ≤ g (off + 4) ∧ g (off + 4) ≤ _; rw [g4]; simp only []; omega))
theorem pick0 (na : Bool) (ka : Nat) (ha : 1 ≤ ka ∧ ka ≤ 5) : (er 0 na ka).val = true := by
  cases na <;> rcases (by omega : ka = 1 ∨ ka = 2 ∨ ka = 3 ∨ ka = 4 ∨ ka = 5) with rfl | rfl | rfl | rfl | rfl
  · exact vt ers2.1 rfl
  · exact vt ers13.1 rfl
  · exact vt ers3.1 rfl
  · exact vt ers5.1 rfl
  · exact vt ers7.1 rfl
  · exact vt ers10.1 rfl
  · exact vt ers10.2.1 rfl
  · exact vt ers6.1 rfl
  · exact vt ers11.1 rfl
  · exact vt ers8.1 rfl
theorem pick1 (na : Bool) (ka : Nat) (ha : 1 ≤ ka ∧ ka ≤ 5) : (er 1 na ka).val = true := by
  cases na <;> rcases (by omega : ka = 1 ∨ ka = 2 ∨ ka = 3 ∨ ka = 4 ∨ ka = 5) with rfl | rfl | rfl | rfl | rfl
  · exact vt ers0.2.2.2.2.2.2.2.1 rfl
  · exact vt ers5.2.2.2.2.2.2.1 rfl
  · exact vt ers10.2.2.2.2.2.2.2.2.1 rfl
  · exact vt ers11.2.2.2.2.2.1 rfl
  · exact vt ers12.2.2.2.2.2.2.2.1 rfl
  · exact vt ers5.2.2.2.2.2.1 rfl
  · exact vt ers8.2.2.2.2.2.2.2.2.1 rfl
  · exact vt ers12.2.2.2.2.2.2.1 rfl
  · exact vt ers9.2.2.2.2.1 rfl
  · exact vt ers0.2.2.2.2.2.2.1 rfl
theorem pick2 (na : Bool) (ka : Nat) (ha : 1 ≤ ka ∧ ka ≤ 5) : (er 2 na ka).val = true := by
  cases na <;> rcases (by omega : ka = 1 ∨ ka = 2 ∨ ka = 3 ∨ ka = 4 ∨ ka = 5) with rfl | rfl | rfl | rfl | rfl
  · exact vt ers6.2.2.2.2.2.2.2.2.1 rfl
  · exact vt ers11.2.2.2.2.2.2.1 rfl
  · exact vt ers9.2.2.2.2.2.2.1 rfl
  · exact vt ers12.2.2.2.2.2.2.2.2.2.1 rfl
  · exact vt ers1.2.2.2.2.1 rfl
  · exact vt ers4.2.2.2.2.2.2.1 rfl
  · exact vt ers10.2.2.2.2.2.2.2.2.2.1 rfl
  · exact vt ers6.2.2.2.2.2.2.2.1 rfl
  · exact vt ers12.2.2.2.2.2.2.2.2.1 rfl
  · exact vt ers9.2.2.2.2.2.1 rfl
theorem pick3 (na : Bool) (ka : Nat) (ha : 1 ≤ ka ∧ ka ≤ 5) : (er 3 na ka).val = true := by
  cases na <;> rcases (by omega : ka = 1 ∨ ka = 2 ∨ ka = 3 ∨ ka = 4 ∨ ka = 5) with rfl | rfl | rfl | rfl | rfl
  · exact vt ers11.2.2.2.2.2.2.2.2.1 rfl
  · exact vt ers13.2.2.2.2.2.2.2.2.1 rfl
  · exact vt ers4.2.2.2.2.2.2.2.1 rfl
  · exact vt ers5.2.2.2.2.2.2.2.1 rfl
  · exact vt ers9.2.2.2.2.2.2.2.2.1 rfl
  · exact vt ers6.2.2.2.2.2.2.2.2.2.1 rfl
  · exact vt ers11.2.2.2.2.2.2.2.1 rfl
  · exact vt ers8.2.2.2.2.2.2.2.2.2.1 rfl
  · exact vt ers12.2.2.2.2.2.2.2.2.2.2.1 rfl
  · exact vt ers9.2.2.2.2.2.2.2.1 rfl
theorem pick4 (na : Bool) (ka : Nat) (ha : 1 ≤ ka ∧ ka ≤ 5) : (er 4 na ka).val = true := by
  cases na <;> rcases (by omega : ka = 1 ∨ ka = 2 ∨ ka = 3 ∨ ka = 4 ∨ ka = 5) with rfl | rfl | rfl | rfl | rfl
  · exact vt ers1.2.2.2.2.2.1 rfl
  · exact vt ers13.2.2.2.2.2.2.2.2.2.1 rfl
  · exact vt ers4.2.2.2.2.2.2.2.2.1 rfl
  · exact vt ers6.2.2.2.2.2.2.2.2.2.2.1 rfl
  · exact vt ers7.2.2.2.2.2.2.2.2.1 rfl
  · exact vt ers2.2.2.2.2.2.2.2.1 rfl
  · exact vt ers3.2.2.2.2.2.2.2.2.1 rfl
  · exact vt ers5.2.2.2.2.2.2.2.2.1 rfl
  · exact vt ers10.2.2.2.2.2.2.2.2.2.2.1 rfl
  · exact vt ers11.2.2.2.2.2.2.2.2.2.1 rfl
theorem pick5 (na : Bool) (ka : Nat) (ha : 1 ≤ ka ∧ ka ≤ 5) : (er 5 na ka).val = true := by
  cases na <;> rcases (by omega : ka = 1 ∨ ka = 2 ∨ ka = 3 ∨ ka = 4 ∨ ka = 5) with rfl | rfl | rfl | rfl | rfl
  · exact vt ers1.2.2.2.2.2.2.2.1 rfl
  · exact vt ers10.2.2.2.2.2.2.2.2.2.2.2.1 rfl
  · exact vt ers7.2.2.2.2.2.2.2.2.2.2.1 rfl
  · exact vt ers11.2.2.2.2.2.2.2.2.2.2.1 rfl
  · exact vt ers8.2.2.2.2.2.2.2.2.2.2.1 rfl
  · exact vt ers7.2.2.2.2.2.2.2.2.2.1 rfl
  · exact vt ers9.2.2.2.2.2.2.2.2.2.1 rfl
  · exact vt ers12.2.2.2.2.2.2.2.2.2.2.2.1 rfl
  · exact vt ers0.2.2.2.2.2.2.2.2.1 rfl
  · exact vt ers1.2.2.2.2.2.2.1 rfl
theorem pick6 (na : Bool) (ka : Nat) (ha : 1 ≤ ka ∧ ka ≤ 5) : (er 6 na ka).val = true := by
  cases na <;> rcases (by omega : ka = 1 ∨ ka = 2 ∨ ka = 3 ∨ ka = 4 ∨ ka = 5) with rfl | rfl | rfl | rfl | rfl
  · exact vt ers1.2.2.2.2.2.2.2.2.1 rfl
  · exact vt ers13.2.2.2.2.2.2.2.2.2.2.1 rfl
  · exact vt ers4.2.2.2.2.2.2.2.2.2.1 rfl
  · exact vt ers6.2.2.2.2.2.2.2.2.2.2.2.1 rfl
  · exact vt ers8.2.2.2.2.2.2.2.2.2.2.2.1 rfl
  · exact vt ers2.2.2.2.2.2.2.2.2.1 rfl
  · exact vt ers3.2.2.2.2.2.2.2.2.2.1 rfl
  · exact vt ers5.2.2.2.2.2.2.2.2.2.1 rfl
  · exact vt ers7.2.2.2.2.2.2.2.2.2.2.2.1 rfl
  · exact vt ers9.2.2.2.2.2.2.2.2.2.2.1 rfl
theorem pick7 (na : Bool) (ka : Nat) (ha : 1 ≤ ka ∧ ka ≤ 5) : (er 7 na ka).val = true := by
  cases na <;> rcases (by omega : ka = 1 ∨ ka = 2 ∨ ka = 3 ∨ ka = 4 ∨ ka = 5) with rfl | rfl | rfl | rfl | rfl
  · exact vt ers12.2.2.2.2.2.2.2.2.2.2.2.2 rfl
  · exact vt ers0.2.2.2.2.2.2.2.2.2.1 rfl
  · exact vt ers2.2.2.2.2.2.2.2.2.2.1 rfl
  · exact vt ers3.2.2.2.2.2.2.2.2.2.2.1 rfl
  · exact vt ers5.2.2.2.2.2.2.2.2.2.2.1 rfl
  · exact vt ers9.2.2.2.2.2.2.2.2.2.2.2.1 rfl
  · exact vt ers1.2.2.2.2.2.2.2.2.2.1 rfl
  · exact vt ers13.2.2.2.2.2.2.2.2.2.2.2.1 rfl
  · exact vt ers4.2.2.2.2.2.2.2.2.2.2.1 rfl
  · exact vt ers6.2.2.2.2.2.2.2.2.2.2.2.2 rfl
theorem pick8 (na : Bool) (ka : Nat) (ha : 1 ≤ ka ∧ ka ≤ 5) : (er 8 na ka).val = true := by
  cases na <;> rcases (by omega : ka = 1 ∨ ka = 2 ∨ ka = 3 ∨ ka = 4 ∨ ka = 5) with rfl | rfl | rfl | rfl | rfl
  · exact vt ers8.2.2.2.2.2.2.2.2.2.2.2.2 rfl
  · exact vt ers11.2.2.2.2.2.2.2.2.2.2.2.1 rfl
  · exact vt ers1.2.2.2.2.2.2.2.2.2.2.1 rfl
  · exact vt ers13.2.2.2.2.2.2.2.2.2.2.2.2.1 rfl
  · exact vt ers4.2.2.2.2.2.2.2.2.2.2.2.1 rfl
  · exact vt ers7.2.2.2.2.2.2.2.2.2.2.2.2 rfl
  · exact vt ers0.2.2.2.2.2.2.2.2.2.2.1 rfl
  · exact vt ers2.2.2.2.2.2.2.2.2.2.2.1 rfl
  · exact vt ers3.2.2.2.2.2.2.2.2.2.2.2.1 rfl
  · exact vt ers5.2.2.2.2.2.2.2.2.2.2.2.1 rfl
theorem pick9 (na : Bool) (ka : Nat) (ha : 1 ≤ ka ∧ ka ≤ 5) : (er 9 na ka).val = true := by
  cases na <;> rcases (by omega : ka = 1 ∨ ka = 2 ∨ ka = 3 ∨ ka = 4 ∨ ka = 5) with rfl | rfl | rfl | rfl | rfl
  · exact vt ers11.2.2.2.2.2.2.2.2.2.2.2.2 rfl
  · exact vt ers1.2.2.2.2.2.2.2.2.2.2.2 rfl
  · exact vt ers13.2.2.2.2.2.2.2.2.2.2.2.2.2 rfl
  · exact vt ers4.2.2.2.2.2.2.2.2.2.2.2.2 rfl
  · exact vt ers10.2.2.2.2.2.2.2.2.2.2.2.2 rfl
  · exact vt ers0.2.2.2.2.2.2.2.2.2.2.2 rfl
  · exact vt ers2.2.2.2.2.2.2.2.2.2.2.2 rfl
  · exact vt ers3.2.2.2.2.2.2.2.2.2.2.2.2 rfl
  · exact vt ers5.2.2.2.2.2.2.2.2.2.2.2.2 rfl
  · exact vt ers9.2.2.2.2.2.2.2.2.2.2.2.2 rfl
theorem pick10 (na : Bool) (ka : Nat) (ha : 1 ≤ ka ∧ ka ≤ 5) : (er 10 na ka).val = true := by
  cases na <;> rcases (by omega : ka = 1 ∨ ka = 2 ∨ ka = 3 ∨ ka = 4 ∨ ka = 5) with rfl | rfl | rfl | rfl | rfl
  · exact vt ers8.2.2.1 rfl
  · exact vt ers0.2.1 rfl
  · exact vt ers13.2.1 rfl
  · exact vt ers5.2.1 rfl
  · exact vt ers10.2.2.1 rfl
  · exact vt ers7.2.1 rfl
  · exact vt ers6.2.1 rfl
  · exact vt ers8.2.1 rfl
  · exact vt ers0.1 rfl
  · exact vt ers2.2.1 rfl
theorem pick11 (na : Bool) (ka : Nat) (ha : 1 ≤ ka ∧ ka ≤ 5) : (er 11 na ka).val = true := by
  cases na <;> rcases (by omega : ka = 1 ∨ ka = 2 ∨ ka = 3 ∨ ka = 4 ∨ ka = 5) with rfl | rfl | rfl | rfl | rfl
  · exact vt ers12.2.1 rfl
  · exact vt ers12.2.2.1 rfl
  · exact vt ers9.1 rfl
  · exact vt ers1.1 rfl
  · exact vt ers2.2.2.1 rfl
  · exact vt ers3.2.1 rfl
  · exact vt ers10.2.2.2.1 rfl
  · exact vt ers12.1 rfl
  · exact vt ers6.2.2.1 rfl
  · exact vt ers8.2.2.2.1 rfl
theorem pick12 (na : Bool) (ka : Nat) (ha : 1 ≤ ka ∧ ka ≤ 5) : (er 12 na ka).val = true := by
  cases na <;> rcases (by omega : ka = 1 ∨ ka = 2 ∨ ka = 3 ∨ ka = 4 ∨ ka = 5) with rfl | rfl | rfl | rfl | rfl
  · exact vt ers9.2.1 rfl
  · exact vt ers7.2.2.1 rfl
  · exact vt ers12.2.2.2.1 rfl
  · exact vt ers6.2.2.2.1 rfl
  · exact vt ers7.2.2.2.1 rfl
  · exact vt ers10.2.2.2.2.1 rfl
  · exact vt ers1.2.1 rfl
  · exact vt ers2.2.2.2.1 rfl
  · exact vt ers3.2.2.1 rfl
  · exact vt ers4.1 rfl
theorem pick13 (na : Bool) (ka : Nat) (ha : 1 ≤ ka ∧ ka ≤ 5) : (er 13 na ka).val = true := by
  cases na <;> rcases (by omega : ka = 1 ∨ ka = 2 ∨ ka = 3 ∨ ka = 4 ∨ ka = 5) with rfl | rfl | rfl | rfl | rfl
  · exact vt ers11.2.1 rfl
  · exact vt ers0.2.2.1 rfl
  · exact vt ers2.2.2.2.2.1 rfl
  · exact vt ers3.2.2.2.1 rfl
  · exact vt ers5.2.2.1 rfl
  · exact vt ers8.2.2.2.2.1 rfl
  · exact vt ers1.2.2.1 rfl
  · exact vt ers13.2.2.1 rfl
  · exact vt ers4.2.1 rfl
  · exact vt ers7.2.2.2.2.1 rfl
theorem pick14 (na : Bool) (ka : Nat) (ha : 1 ≤ ka ∧ ka ≤ 5) : (er 14 na ka).val = true := by
  cases na <;> rcases (by omega : ka = 1 ∨ ka = 2 ∨ ka = 3 ∨ ka = 4 ∨ ka = 5) with rfl | rfl | rfl | rfl | rfl
  · exact vt ers13.2.2.2.1 rfl
  · exact vt ers4.2.2.1 rfl
  · exact vt ers11.2.2.1 rfl
  · exact vt ers8.2.2.2.2.2.1 rfl
  · exact vt ers6.2.2.2.2.1 rfl
  · exact vt ers3.2.2.2.2.1 rfl
  · exact vt ers5.2.2.2.1 rfl
  · exact vt ers7.2.2.2.2.2.1 rfl
  · exact vt ers0.2.2.2.1 rfl
  · exact vt ers10.2.2.2.2.2.1 rfl
theorem pick15 (na : Bool) (ka : Nat) (ha : 1 ≤ ka ∧ ka ≤ 5) : (er 15 na ka).val = true := by
  cases na <;> rcases (by omega : ka = 1 ∨ ka = 2 ∨ ka = 3 ∨ ka = 4 ∨ ka = 5) with rfl | rfl | rfl | rfl | rfl
  · exact vt ers3.2.2.2.2.2.2.1 rfl
  · exact vt ers10.2.2.2.2.2.2.1 rfl
  · exact vt ers11.2.2.2.1 rfl
  · exact vt ers12.2.2.2.2.1 rfl
  · exact vt ers0.2.2.2.2.1 rfl
  · exact vt ers1.2.2.2.1 rfl
  · exact vt ers2.2.2.2.2.2.1 rfl
  · exact vt ers13.2.2.2.2.1 rfl
  · exact vt ers3.2.2.2.2.2.1 rfl
  · exact vt ers4.2.2.2.1 rfl
theorem pick16 (na : Bool) (ka : Nat) (ha : 1 ≤ ka ∧ ka ≤ 5) : (er 16 na ka).val = true := by
  cases na <;> rcases (by omega : ka = 1 ∨ ka = 2 ∨ ka = 3 ∨ ka = 4 ∨ ka = 5) with rfl | rfl | rfl | rfl | rfl
  · exact vt ers4.2.2.2.2.1 rfl
  · exact vt ers2.2.2.2.2.2.2.1 rfl
  · exact vt ers13.2.2.2.2.2.1 rfl
  · exact vt ers3.2.2.2.2.2.2.2.1 rfl
  · exact vt ers4.2.2.2.2.2.1 rfl
  · exact vt ers6.2.2.2.2.2.1 rfl
  · exact vt ers7.2.2.2.2.2.2.1 rfl
  · exact vt ers8.2.2.2.2.2.2.1 rfl
  · exact vt ers9.2.2.1 rfl
  · exact vt ers0.2.2.2.2.2.1 rfl
theorem pick17 (na : Bool) (ka : Nat) (ha : 1 ≤ ka ∧ ka ≤ 5) : (er 17 na ka).val = true := by
  cases na <;> rcases (by omega : ka = 1 ∨ ka = 2 ∨ ka = 3 ∨ ka = 4 ∨ ka = 5) with rfl | rfl | rfl | rfl | rfl
  · exact vt ers5.2.2.2.2.1 rfl
  · exact vt ers7.2.2.2.2.2.2.2.1 rfl
  · exact vt ers9.2.2.2.1 rfl
  · exact vt ers11.2.2.2.2.1 rfl
  · exact vt ers13.2.2.2.2.2.2.2.1 rfl
  · exact vt ers6.2.2.2.2.2.2.1 rfl
  · exact vt ers8.2.2.2.2.2.2.2.1 rfl
  · exact vt ers10.2.2.2.2.2.2.2.1 rfl
  · exact vt ers12.2.2.2.2.2.1 rfl
  · exact vt ers13.2.2.2.2.2.2.1 rfl
theorem len_dg : ∀ (neg : Bool) (k : Nat), 1 ≤ k ∧ k ≤ 5 → (dg neg k).length = 5 := by
  intro neg k h
  rcases (by omega : k = 1 ∨ k = 2 ∨ k = 3 ∨ k = 4 ∨ k = 5) with rfl | rfl | rfl | rfl | rfl <;> cases neg <;> rfl
theorem walk (a0 a1 : Int) (w0 : (Lit.int .u8 a0).wf = true) (w1 : (Lit.int .i16 a1).wf = true) (w : World) (hL : Libs w) :
    Calls Tryz.prog 4 #[.int .u8 a0, .int .i16 a1] w fun e w' => e = .returned (.bool true) ∧ w.keptBut w' (fun _ => False) := by
  have c0 := fits_u8 w0
  have c1 := fits_i16 w1
  clear w0 w1
  obtain ⟨cb, hbody⟩ : ∃ cb, Tryz.f4.body = some cb := Option.isSome_iff_exists.1 (by kernel_rfl)
  obtain ⟨m, hm⟩ : ∃ m, m = if a1 < 0 then -a1 else a1 := ⟨_, rfl⟩
  obtain ⟨σ, g0, g1, g2, g3, g4, g5, fx, pn⟩ : ∃ σ : Sg, σ.i 0 = m % 10 ∧ σ.i (0 + 1) = m / 10 % 10 ∧ σ.i (0 + 2) = m / 100 % 10 ∧ σ.i (0 + 3) = m / 1000 % 10 ∧ σ.i (0 + 4) = m / 10000 ∧ σ.i 5 = a0 / 18 ∧ (∀ r, σ.fx r = if fixed r = true then w.heap[r]? else none) ∧ ∀ b, σ.pn b = none :=
    ⟨{ i := fun s => match s with | 0 => m % 10 | 1 => m / 10 % 10 | 2 => m / 100 % 10 | 3 => m / 1000 % 10 | 4 => m / 10000 | _ => a0 / 18, s := fun _ => ByteArray.empty, fx := fun r => if fixed r = true then w.heap[r]? else none }, rfl, rfl, rfl, rfl, rfl, rfl, fun _ => rfl, fun _ => rfl⟩
  have hx : ∀ r o, σ.fx r = some o → w.heap[r]? = some o := by
    intro r o h
    rw [fx] at h
    split at h
    · exact h
    · cases h
  have hfx : ∀ r o, fixed r = true → w.heap[r]? = some o → σ.fx r = some o := fun r o hr h => by rw [fx, if_pos hr]; exact h
  obtain ⟨na, ka, hka, sa, fa, ma, ma', da, da'⟩ := shape c1 hm g0 g1 g2 g3 g4
  have sat : ∀ h : Nat, a0 % 18 = (h : Int) → SatI σ.i (dg na ka ++ [(0, Int.ofNat ((255 - h) / 18))]) := by
    intro h hh
    refine satI_append (by simpa only [Nat.zero_add] using da) ?_
    rw [len_dg na ka hka]
    intro s lo hi hq
    match s, hq with
    | 0, hq =>
      cases hq
      show (0 : Int) ≤ σ.i 5 ∧ σ.i 5 ≤ (((255 - h) / 18 : Nat) : Int)
      rw [g5]
      omega
    | n + 1, hq => simp at hq
  have q1 : AnsOk Tryz.prog σ (withFmt A1 0 na ka) := ansFmt_ok (ans1 hL hfx) hka da (by rw [fa]; omega) hL hfx
  have go : ∀ h : Nat, a0 % 18 = (h : Int) → (er h na ka).val = true →
      Calls Tryz.prog 4 #[.int .u8 a0, .int .i16 a1] w fun e w' => e = .returned (.bool true) ∧ w.keptBut w' (fun _ => False) := fun h hh hr =>
    law_callsP (σ := σ) Tryz.func4 hbody hr q1 ⟨sat h hh, fun x hx => by cases hx⟩ w hx pn _ (LR.cons (lin_of (by simp only [lfVal, tsVal, g5]; show (h : Int) + _ = _; omega)) (LR.cons (lin_of fa) LR.nil))
  rcases (by omega : a0 % 18 = 0 ∨ a0 % 18 = 1 ∨ a0 % 18 = 2 ∨ a0 % 18 = 3 ∨ a0 % 18 = 4 ∨ a0 % 18 = 5 ∨ a0 % 18 = 6 ∨ a0 % 18 = 7 ∨ a0 % 18 = 8 ∨ a0 % 18 = 9 ∨ a0 % 18 = 10 ∨ a0 % 18 = 11 ∨ a0 % 18 = 12 ∨ a0 % 18 = 13 ∨ a0 % 18 = 14 ∨ a0 % 18 = 15 ∨ a0 % 18 = 16 ∨ a0 % 18 = 17) with h | h | h | h | h | h | h | h | h | h | h | h | h | h | h | h | h | h
  · exact go 0 h (pick0 na ka hka)
  · exact go 1 h (pick1 na ka hka)
  · exact go 2 h (pick2 na ka hka)
  · exact go 3 h (pick3 na ka hka)
  · exact go 4 h (pick4 na ka hka)
  · exact go 5 h (pick5 na ka hka)
  · exact go 6 h (pick6 na ka hka)
  · exact go 7 h (pick7 na ka hka)
  · exact go 8 h (pick8 na ka hka)
  · exact go 9 h (pick9 na ka hka)
  · exact go 10 h (pick10 na ka hka)
  · exact go 11 h (pick11 na ka hka)
  · exact go 12 h (pick12 na ka hka)
  · exact go 13 h (pick13 na ka hka)
  · exact go 14 h (pick14 na ka hka)
  · exact go 15 h (pick15 na ka hka)
  · exact go 16 h (pick16 na ka hka)
  · exact go 17 h (pick17 na ka hka)
#print axioms walk
end Go.Proofs.YtdbhonkahlcdoaaGreatDoor.builtinErrors
