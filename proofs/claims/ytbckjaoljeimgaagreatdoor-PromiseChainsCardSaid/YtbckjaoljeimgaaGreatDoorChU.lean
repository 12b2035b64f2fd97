/- PromiseChains: what is to be run: the calls and the rounds of Finish's loop, from point to point. -/
import Derived.Test.YtbckjaoljeimgaaGreatDoorChS
namespace Go.Proofs.YtbckjaoljeimgaaGreatDoor
open Go Go.Ev
set_option maxRecDepth 1000000
noncomputable def cb15 : Code := fBody (some Tryz.f15)
def sqA : Code → Code | .seq a _ => a | c => c
def sqB : Code → Code | .seq _ b => b | c => c
def blkA : Code → Code | .block _ a => a | c => c
def lpA : Code → Code | .loop a => a | c => c
noncomputable def r0 : Code := sqA cb15
noncomputable def r1 : Code := sqA (sqA (sqB cb15))
noncomputable def lb15 : Code := lpA (blkA (sqB (sqA (sqB cb15))))
noncomputable def tl15 : Code := sqB (sqB cb15)
theorem cb15_eq : cb15 = .seq r0 (.seq (.seq r1 (.block 0 (.loop lb15))) tl15) := by kernel_rfl
noncomputable def cK : CallS DD := callDK Tryz.prog tyI fnF glo0 drawn dirT K0 1000000 140
/-- counters, values -/
def ivC : Ivs := List.replicate 21 (0, 2900) ++ List.replicate 21 (-4503599627370496, 4503599627370496)
noncomputable def to (g : FuncId) (as0 : List CV) (s0 : List BC) (l : List (Nat × Nat)) (r : CV) (s9 : List BC) : Res := runTo cK g 15 143 ⟨ivC, []⟩ as0 s0 l r s9
noncomputable def sg (a : Code) (p : Nat) (A : Pt) (l : List (Nat × Nat)) (B : Pt) : Res := runSeg Tryz.prog tyI G0 1000000 15 a p cK 15 143 ⟨ivC, []⟩ A l B
noncomputable def sgR (a : Code) (p : Nat) (A : Pt) (l : List (Nat × Nat)) (B : Pt) : Res := runSegR Tryz.prog tyI G0 1000000 15 a p cK 15 143 ⟨ivC, []⟩ A l B
/-- the next job: after a value or a thrown one, by the next handlers -/
def jn (t : Bool) (q : Nat) : Nat := match t with
  | false => (match q with | 0 => 0 | 1 => 1 | 2 => 3 | _ => 0)
  | true => (match q with | 0 => 4 | 1 => 4 | 2 => 2 | _ => 2)
/-- what a job does: does it throw, to the value, to the loop's counter -/
def jT (j : Nat) : Bool := match j with | 1 => true | 4 => true | _ => false
noncomputable def jV (j k : Nat) : CV := match j with
  | 0 => .lin .i64 1 [(1, 21 + k)]
  | 1 => .lin .i64 0 [(2, 21 + k)]
  | 2 => .lin .i64 (-3) [(1, 21 + k)]
  | _ => hv k
def jP (j : Nat) : Nat := match j with | 0 => 6 | 1 => 6 | 2 => 6 | _ => 1
noncomputable def clT (t : Bool) : CV := match t with | true => i 2 | false => i 1
/-- names -/
def jD (j : Nat) : Nat := match j with | 0 => 200 | 1 => 188 | 2 => 198 | _ => 26
def jF (j L : Nat) : Nat × Nat := match j with | 0 => (L + 70, 2) | 1 => (L + 70, 2) | 2 => (L + 70, 2) | _ => (16, 0)
def psO (j : Nat) : Nat := match j with | 3 => 11 | 4 => 11 | _ => 14
noncomputable def dN (d N a x : Nat) : List (Nat × Nat) := upt (fun k => match Nat.beq k a with | true => [(x, 0)] | false => [(d + k, 0)]) 0 N
/-! Then -/
noncomputable def thA (n q : Nat) : List CV := [.ptr 14 2, .ptr 14 11, .agg (refC n), .agg ((hc q).take 4), .agg ((hc q).drop 4)]
noncomputable def thL (n q : Nat) : List (Nat × Nat) := ids 15 ++ ((Nat.add 30 n, 0) :: (16, 0) :: dN 17 (Nat.succ n) n (Nat.add (Nat.add 54 n) (match Nat.beq q 3 with | true => 1 | false => 0)))
noncomputable def th (n q : Nat) : Res := to 18 (thA n q) (cT n (hs (Nat.pred n))) (thL n q) (.tup [.agg (refC (Nat.succ n)), i 0]) (cT (Nat.succ n) (hc q))
/-! Resolve -/
noncomputable def reA : List CV := [.ptr 14 2, .ptr 14 11, .agg (refC 0), .agg (valC (hv 0))]
noncomputable def reL (N q : Nat) : List (Nat × Nat) := ids 17 ++ ((Nat.add (Nat.add 40 N) (psO (jn false q)), 0) :: (Nat.add (Nat.add 37 N) (psO (jn false q)), 0) :: (Nat.add 37 N, 0) :: dN 18 (Nat.pred N) N 0)
noncomputable def re (N q : Nat) : Res := to 19 reA (cT0 N (hc q)) (reL N q) (i 0) (cP' N 0 (jn false q) (i 1) (hv 0) (hs 1))
noncomputable def re0 : Res := to 19 reA (cT0 0 []) (ids 17 ++ [(37, 0)]) (i 0) (cE0 (i 1) (hv 0))
/-! Status -/
noncomputable def stA (N : Nat) : List CV := [.ptr 14 2, .agg (refC N)]
noncomputable def stt (N : Nat) (t : Bool) : Res := to 20 (stA N) (cE N (clT t) (hv N)) (ids (19 + N)) (.tup [clT t, .agg (valC (hv N)), i 0]) (cE N (clT t) (hv N))
noncomputable def stt0 : Res := to 20 (stA 0) (cE0 (i 1) (hv 0)) (ids 18) (.tup [i 1, .agg (valC (hv 0)), i 0]) (cE0 (i 1) (hv 0))
/-! Finish: from job to job -/
noncomputable def cn (a : Nat) : CV := sy a
noncomputable def cnP (a p : Nat) : CV := .lin .i64 (.ofNat p) [(1, a)]
noncomputable def cnM (a : Nat) : CV := .lin .i64 (-1) [(1, a)]
/-- the slots at promise a -/
noncomputable def slA (a : Nat) : List CV := match Nat.beq a 0 with | true => fs0 | false => fs1 (cn a) (cnM a)
noncomputable def slB' (a p : Nat) : List CV := match Nat.beq a 0 with | true => fs1 (i p) (i (Nat.pred p)) | false => fs1 (cnP a p) (cnP a (Nat.pred p))
noncomputable def ptP (N a j : Nat) (h : List CV) : Pt := ⟨cP' N a j (cl a) (hv a) h, slA a⟩
noncomputable def sgL (N a j q : Nat) : List (Nat × Nat) := ids 16 ++ (jF j (19 + N) :: (19 + N + (jD j + (psO (jn (jT j) q) + 3)), 0) :: (19 + N + (jD j + psO (jn (jT j) q)), 0) :: dN 19 N (Nat.succ a) (19 + N + jD j))
noncomputable def sgC (N a j q : Nat) : Res := sg lb15 (jP j) (ptP N a j (hc q)) (sgL N a j q) ⟨cP' N (Nat.succ a) (jn (jT j) q) (clT (jT j)) (jV j a) (hs (Nat.succ (Nat.succ a))), slB' a (jP j)⟩
/-- the last promise -/
noncomputable def seL (N j : Nat) : List (Nat × Nat) := ids 16 ++ (jF j (19 + N) :: (26 + N, 0) :: dN 19 (Nat.succ N) N (19 + N + jD j))
noncomputable def sgE (N j : Nat) : Res := sg lb15 (jP j) (ptP N (Nat.pred N) j []) (seL N j) ⟨cE N (clT (jT j)) (jV j (Nat.pred N)), slB' (Nat.pred N) (jP j)⟩
/-- the last round -/
noncomputable def enL (m : Nat) : List (Nat × Nat) := ids m
noncomputable def en (N : Nat) : Res := sgR lb15 1 ⟨cE N (cl N) (hv N), fs1 (cn N) (cnM N)⟩ (enL (19 + N)) ⟨cE N (cl N) (hv N), fs9 (cn N) (cnM N)⟩
noncomputable def fs90 : List CV := [.ptr 14 0, i 3000, undefC, undefC, .bool true, i 0, i 0, i 3000, .bool true, undefC, undefC, .ptr 14 0, .bool false, .bool true]
noncomputable def en0 : Res := sgR lb15 1 ⟨cE0 (cl 0) (hv 0), fs0⟩ (enL 18) ⟨cE0 (cl 0) (hv 0), fs90⟩
noncomputable def forceR (n : Nat) (k : Nat → Res) : Res := Nat.rec (motive := fun _ => Res) .bad (fun p _ => k p) (Nat.succ n)
/-- n runs, from the a-th on -/
noncomputable def okA (f : Nat → Res) (a n : Nat) : Res := Nat.rec (motive := fun _ => Nat → Res) (fun _ => .ok) (fun _ ih a => forceR a fun a => .both (f a) (ih (Nat.succ a))) n a
noncomputable def okT (n : Nat) : Res := Nat.rec (motive := fun _ => Res) .ok (fun _ ih => .both .ok ih) n
theorem okT_val : ∀ n, (okT n).val = true
  | 0 => rfl
  | n + 1 => by
    have h : ((Res.ok).val && (okT n).val) = true := by rw [okT_val n]; rfl
    exact h
theorem okA_get {f : Nat → Res} : ∀ {n a : Nat}, (okA f a n).val = true → ∀ j, a ≤ j → j < a + n → (f j).val = true
  | 0, a, _, j, h1, h2 => by omega
  | n + 1, a, h, j, h1, h2 => by
    have h : (Res.both (f a) (okA f (a + 1) n)).val = true := h
    have h : ((f a).val && (okA f (a + 1) n).val) = true := h
    rw [Bool.and_eq_true] at h
    rcases Nat.lt_or_ge a j with hj | hj
    · exact okA_get h.2 j hj (by omega)
    · obtain rfl : j = a := by omega
      exact h.1
theorem okA_eq {f : Nat → Res} {a n : Nat} (h : okA f a n = okT n) : ∀ j, a ≤ j → j < a + n → (f j).val = true := okA_get (by rw [h]; exact okT_val n)
/-- runs, numbered -/
noncomputable def thX (x : Nat) : Res := th (Nat.div x 4) (Nat.mod x 4)
noncomputable def reX (x : Nat) : Res := re (Nat.succ (Nat.div x 4)) (Nat.mod x 4)
noncomputable def stX (x : Nat) : Res := stt (Nat.succ (Nat.div x 2)) (Nat.beq (Nat.mod x 2) 1)
noncomputable def enX (x : Nat) : Res := en (Nat.succ x)
noncomputable def seX (x : Nat) : Res := sgE (Nat.succ (Nat.div x 5)) (Nat.mod x 5)
noncomputable def sgX (N a x : Nat) : Res := sgC N a (Nat.div x 4) (Nat.mod x 4)
end Go.Proofs.YtbckjaoljeimgaaGreatDoor
