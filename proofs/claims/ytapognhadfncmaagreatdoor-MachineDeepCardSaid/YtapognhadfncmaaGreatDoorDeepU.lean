/- MachineDeep: the rounds of the machine's loop from point to point: what is to be run, and what follows from it. -/
import Derived.Test.YtapognhadfncmaaGreatDoorDeepS
namespace Go.Proofs.YtapognhadfncmaaGreatDoor
open Go Go.Ev
set_option maxRecDepth 1000000
noncomputable def cb9 : Code := fBody (some Tryz.f9)
def sqA : Code → Code | .seq a _ => a | c => c
def sqB : Code → Code | .seq _ b => b | c => c
def blkA : Code → Code | .block _ a => a | c => c
def lpA : Code → Code | .loop a => a | c => c
noncomputable def r0 : Code := sqA cb9
noncomputable def r1 : Code := sqA (sqA (sqB cb9))
noncomputable def lb9 : Code := lpA (blkA (sqB (sqA (sqB cb9))))
noncomputable def tl9 : Code := sqB (sqB cb9)
theorem cb9_eq : cb9 = .seq r0 (.seq (.seq r1 (.block 0 (.loop lb9))) tl9) := by kernel_rfl
noncomputable def cK : CallS DD := callDK Tryz.prog tyI fnF glo0 drawn dirT K0 1000000 140
noncomputable def cQ : CallS DD := callDKQ Tryz.prog tyI fnF glo0 drawn dirT K0 PSd 10 15 0 0 1000000 140
noncomputable def sg (c : CallS DD) (a : Code) (p f : Nat) (iv : Ivs) (A : Pt) (l : List (Nat × Nat)) (B : Pt) : Res := runSeg Tryz.prog tyI G0 1000000 9 a p c f 1 ⟨iv, []⟩ A l B
noncomputable def sgR (c : CallS DD) (a : Code) (p f : Nat) (iv : Ivs) (A : Pt) (l : List (Nat × Nat)) (B : Pt) : Res := runSegR Tryz.prog tyI G0 1000000 9 a p c f 1 ⟨iv, []⟩ A l B
noncomputable def forceR (n : Nat) (k : Nat → Res) : Res := Nat.rec (motive := fun _ => Res) .bad (fun p _ => k p) (Nat.succ n)
/-- n runs, from the a-th on -/
noncomputable def okA (f : Nat → Res) (a n : Nat) : Res := Nat.rec (motive := fun _ => Nat → Res) (fun _ => .ok) (fun _ ih a => forceR a fun a => .both (f a) (ih (Nat.succ a))) n a
noncomputable def okT (n : Nat) : Res := Nat.rec (motive := fun _ => Res) .ok (fun _ ih => .both .ok ih) n
theorem okT_val : ∀ n, (okT n).val = true
  | 0 => rfl
  | n + 1 => by
    have h : ((Res.ok).val && (okT n).val) = true := by rw [okT_val n]; rfl
    exact h
theorem okA_get {f : Nat → Res} : ∀ {n a : Nat}, (okA f a n).val = true → ∀ j, a ≤ j → j < a + n → (f j).val = true
  | 0, a, _, j, h1, h2 => by omega
  | n + 1, a, h, j, h1, h2 => by
    have h : (Res.both (f a) (okA f (a + 1) n)).val = true := h
    have h : ((f a).val && (okA f (a + 1) n).val) = true := h
    rw [Bool.and_eq_true] at h
    rcases Nat.lt_or_ge a j with hj | hj
    · exact okA_get h.2 j hj (by omega)
    · obtain rfl : j = a := by omega
      exact h.1
theorem okA_eq {f : Nat → Res} {a n : Nat} (h : okA f a n = okT n) : ∀ j, a ≤ j → j < a + n → (f j).val = true := okA_get (by rw [h]; exact okT_val n)
noncomputable def dn0 (j : Nat) : Res := sg cK lb9 11 7 [(.ofNat (Nat.succ j), 399)] (D0 j) (rd0 j) (D0 (Nat.succ j))
noncomputable def AZ0 (j : Nat) : Pt := Nat.rec (motive := fun _ => Pt) Az0 (fun p _ => A0 p) j
noncomputable def tn0 (j : Nat) : Res := sg cK lb9 7 7 [(.ofNat j, .ofNat j)] (D0 j) (rt0 j) (AZ0 j)
noncomputable def up0 (j : Nat) : Res := sg cK lb9 2 7 [(.ofNat (Nat.succ j), 254)] (A0 j) (ru0 j) (AZ0 j)
noncomputable def dn1 (j : Nat) : Res := sg cK lb9 11 8 [(.ofNat (Nat.succ j), 399)] (D1 j) (rd1 j) (D1 (Nat.succ j))
noncomputable def AZ1 (j : Nat) : Pt := Nat.rec (motive := fun _ => Pt) Az1 (fun p _ => A1 p) j
noncomputable def tn1 (j : Nat) : Res := sg cK lb9 7 8 [(.ofNat j, .ofNat j)] (D1 j) (rt1 j) (AZ1 j)
noncomputable def up1 (j : Nat) : Res := sg cK lb9 2 8 [(.ofNat (Nat.succ j), 254)] (A1 j) (ru1 j) (AZ1 j)
end Go.Proofs.YtapognhadfncmaaGreatDoor
