/- MachineFull hands back true at every input: the evaluator's runs, put together. -/
import Derived.Test.YtbckjaoljeimgaaGreatDoorFullRa
import Derived.Test.YtbckjaoljeimgaaGreatDoorFullRb
import Derived.Test.YtbckjaoljeimgaaGreatDoorFullRc
namespace Go.Proofs.YtbckjaoljeimgaaGreatDoor.machineFull
open Go Go.Ev
set_option maxRecDepth 100000
theorem fits_u8 {a : Int} (h : (Lit.int .u8 a).wf = true) : 0 ≤ a ∧ a ≤ 255 := by
  have e1 : IntKind.min .u8 = 0 := by kernel_rfl
  have e2 : IntKind.max .u8 = 255 := by kernel_rfl
  simpa [Lit.wf, e1, e2] using h
theorem lin_of {σ : Sg} {e : Env} {k : IntKind} {c : Int} {ts : Ts} {a : Int} (h : lfVal σ.i c ts = a) : VR σ e (.lin k c ts) (.int k a) := by
  rw [← h]; exact .lin k c ts
theorem sat1 {g : Nat → Int} {lo hi : Int} (b0 : lo ≤ g 0 ∧ g 0 ≤ hi) : SatI g [(lo, hi)] := by
  intro s a b h
  match s, h with
  | 0, h => cases h; exact b0
  | n + 1, h => simp at h
theorem okP (σ : Sg) : SoundCall Tryz.prog σ glo0 (callK Tryz.prog glo0 K1 1000000 140) := callK_sound noCount extFact rows1 1000000 140 σ
theorem okQ (σ : Sg) : SoundCall Tryz.prog σ glo0 (callKQ Tryz.prog glo0 K1 PSf 10 9 0 0 1000000 140) := callKQ_sound noCount extFact rows1 PSf 10 9 0 0 1000000 140 σ
theorem walk (a0 : Int) (w0 : (Lit.int .u8 a0).wf = true) (w : World) :
    Calls Tryz.prog 3 #[.int .u8 a0] w fun e w' => e = .returned (.bool true) ∧ w.keptBut w' (fun _ => False) := by
  have c0 := fits_u8 w0
  clear w0
  obtain ⟨cb, hbody⟩ : ∃ cb, Tryz.f3.body = some cb := Option.isSome_iff_exists.1 (by kernel_rfl)
  have lr : ∀ {σ : Sg} {x : CV}, VR σ (fun _ => none) x (.int .u8 a0) → LR σ (fun _ => none) [x] (#[.int .u8 a0] : Array Value).toList := fun h1 => LR.cons h1 LR.nil
  obtain ⟨σ, g0⟩ : ∃ σ : Sg, σ.i 0 = a0 / 32 := ⟨{ i := fun _ => a0 / 32, s := fun _ => ByteArray.empty }, rfl⟩
  by_cases h0 : a0 = 0
  · subst h0
    exact runY_calls cQ_ok okQ (by decide) hbody (vt fullz rfl) (σ := σ) ⟨fun s lo hi h => by simp at h, fun x hx => by cases hx⟩ w _ (lr (.int .u8 0))
  have fin : ∀ {lf N : Nat} {r : Int} {lo : Int}, N + lf = 100000 → a0 % 32 = r → (lo ≤ a0 / 32 ∧ a0 / 32 ≤ 7) → (runY cP lf N (.lin .u8 r [(32, 0)]) ⟨[(lo, 7)], []⟩).val = true →
      Calls Tryz.prog 3 #[.int .u8 a0] w fun e w' => e = .returned (.bool true) ∧ w.keptBut w' (fun _ => False) := fun hN hr hq hrun =>
    runY_calls cP_ok okP hN hbody hrun (σ := σ) ⟨sat1 (by rw [g0]; exact hq), fun x hx => by cases hx⟩ w _ (lr (lin_of (by simp only [lfVal, tsVal, g0]; omega)))
  rcases (by omega : a0 % 32 = 0 ∨ a0 % 32 = 1 ∨ a0 % 32 = 2 ∨ a0 % 32 = 3 ∨ a0 % 32 = 4 ∨ a0 % 32 = 5 ∨ a0 % 32 = 6 ∨ a0 % 32 = 7 ∨ a0 % 32 = 8 ∨ a0 % 32 = 9 ∨ a0 % 32 = 10 ∨ a0 % 32 = 11 ∨ a0 % 32 = 12 ∨ a0 % 32 = 13 ∨ a0 % 32 = 14 ∨ a0 % 32 = 15 ∨ a0 % 32 = 16 ∨ a0 % 32 = 17 ∨ a0 % 32 = 18 ∨ a0 % 32 = 19 ∨ a0 % 32 = 20 ∨ a0 % 32 = 21 ∨ a0 % 32 = 22 ∨ a0 % 32 = 23 ∨ a0 % 32 = 24 ∨ a0 % 32 = 25 ∨ a0 % 32 = 26 ∨ a0 % 32 = 27 ∨ a0 % 32 = 28 ∨ a0 % 32 = 29 ∨ a0 % 32 = 30 ∨ a0 % 32 = 31) with h | h | h | h | h | h | h | h | h | h | h | h | h | h | h | h | h | h | h | h | h | h | h | h | h | h | h | h | h | h | h | h
  · exact fin (by decide) h (by omega) (vt fullr0 rfl)
  · exact fin (by decide) h (by omega) (vt fullr1 rfl)
  · exact fin (by decide) h (by omega) (vt fullr2 rfl)
  · exact fin (by decide) h (by omega) (vt fullr3 rfl)
  · exact fin (by decide) h (by omega) (vt fullr4 rfl)
  · exact fin (by decide) h (by omega) (vt fullr5 rfl)
  · exact fin (by decide) h (by omega) (vt fullr6 rfl)
  · exact fin (by decide) h (by omega) (vt fullr7 rfl)
  · exact fin (by decide) h (by omega) (vt fullr8 rfl)
  · exact fin (by decide) h (by omega) (vt fullr9 rfl)
  · exact fin (by decide) h (by omega) (vt fullr10 rfl)
  · exact fin (by decide) h (by omega) (vt fullr11 rfl)
  · exact fin (by decide) h (by omega) (vt fullr12 rfl)
  · exact fin (by decide) h (by omega) (vt fullr13 rfl)
  · exact fin (by decide) h (by omega) (vt fullr14 rfl)
  · exact fin (by decide) h (by omega) (vt fullr15 rfl)
  · exact fin (by decide) h (by omega) (vt fullr16 rfl)
  · exact fin (by decide) h (by omega) (vt fullr17 rfl)
  · exact fin (by decide) h (by omega) (vt fullr18 rfl)
  · exact fin (by decide) h (by omega) (vt fullr19 rfl)
  · exact fin (by decide) h (by omega) (vt fullr20 rfl)
  · exact fin (by decide) h (by omega) (vt fullr21 rfl)
  · exact fin (by decide) h (by omega) (vt fullr22 rfl)
  · exact fin (by decide) h (by omega) (vt fullr23 rfl)
  · exact fin (by decide) h (by omega) (vt fullr24 rfl)
  · exact fin (by decide) h (by omega) (vt fullr25 rfl)
  · exact fin (by decide) h (by omega) (vt fullr26 rfl)
  · exact fin (by decide) h (by omega) (vt fullr27 rfl)
  · exact fin (by decide) h (by omega) (vt fullr28 rfl)
  · exact fin (by decide) h (by omega) (vt fullr29 rfl)
  · exact fin (by decide) h (by omega) (vt fullr30 rfl)
  · exact fin (by decide) h (by omega) (vt fullr31 rfl)
#print axioms walk
end Go.Proofs.YtbckjaoljeimgaaGreatDoor.machineFull
