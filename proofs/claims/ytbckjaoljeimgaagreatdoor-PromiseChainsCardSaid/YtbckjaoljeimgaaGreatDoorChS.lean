/- PromiseChains: the points of the chain, as small memories: n promises made; promise i settled, and a job for the next one. -/
import Derived.Test.YtbckjaoljeimgaaGreatDoorRunR
import Derived.Test.YtbckjaoljeimgaaGreatDoorEvO
namespace Go.Proofs.YtbckjaoljeimgaaGreatDoor
open Go Go.Ev
set_option maxRecDepth 1000000
noncomputable def i (n : Nat) : CV := .int .i64 (.ofNat n)
noncomputable def sy (s : Nat) : CV := .sym .i64 s
noncomputable def upt {α : Type} (f : Nat → List α) (a n : Nat) : List α := Nat.rec (motive := fun _ => Nat → List α) (fun _ => []) (fun _ ih a => f a ++ ih (Nat.succ a)) n a
noncomputable def ids (n : Nat) : List (Nat × Nat) := (List.range n).map fun b => (b, 0)
/-- what stays: the program, the prototypes, the functions, the global object's properties -/
noncomputable def fxB : List BC := [⟨0, false, 0, [.str 0 0, i 1, i 0, i 1, .sl 8 0 10 10, .sl 7 0 3 3, .sl0, .str 0 0, i 2, i 1, i 1, .sl 2 0 6 6, .sl 1 0 1 1, .sl0, .str 0 0, i 2, i 1, i 1, .sl 4 0 6 6, .sl 3 0 1 1, .sl0, .str 0 0, i 2, i 1, i 1, .sl 6 0 6 6, .sl 5 0 1 1, .sl0]⟩,
  ⟨211, true, 3, [i 1, i 1, .str 0 0]⟩,
  ⟨107, true, 3, [i 12, i 0, i 0, i 1, i 0, i 0, i 39, i 6, i 0, i 48, i 0, i 0, i 2, i 0, i 0, i 48, i 0, i 0]⟩,
  ⟨211, true, 3, [i 1, i 2, .str 0 0]⟩,
  ⟨107, true, 3, [i 12, i 0, i 0, i 1, i 0, i 0, i 39, i 8, i 0, i 49, i 0, i 0, i 2, i 0, i 0, i 48, i 0, i 0]⟩,
  ⟨211, true, 3, [i 1, i 3, .str 0 0]⟩,
  ⟨107, true, 3, [i 12, i 0, i 0, i 1, i 0, i 0, i 39, i 7, i 0, i 48, i 0, i 0, i 2, i 0, i 0, i 48, i 0, i 0]⟩,
  ⟨211, true, 3, [i 2, i 0, .str 3 7302757, i 2, i 0, .str 3 6447460, i 2, i 0, .str 4 1735356260]⟩,
  ⟨107, true, 3, [i 2, i 0, i 0, i 14, i 0, i 0, i 37, i 1, i 0, i 24, i 0, i 0, i 37, i 2, i 0, i 24, i 1, i 0, i 37, i 3, i 0, i 24, i 2, i 0, i 12, i 0, i 0, i 48, i 0, i 0]⟩,
  ⟨0, false, 0, [i 9, i 10, i 11, i 11, i 12, i 13, i 14, i 15, i 16, i 0, i 17, i 18]⟩,
  ⟨0, false, 0, [i 0, i 0, .str 0 0, i 0]⟩,
  ⟨0, false, 0, [i 0, i 0, .str 0 0, i 0]⟩,
  ⟨0, false, 0, [i 0, i 0, .str 0 0, i 0]⟩,
  ⟨116, true, 5, [.str 3 7302757, i 5, i 0, .str 0 0, i 21, .str 3 6447460, i 5, i 0, .str 0 0, i 22, .str 4 1735356260, i 5, i 0, .str 0 0, i 23]⟩]
/-- the objects before the promises -/
noncomputable def base : List CV := [.bool true, i 0, i 0, .sl0, .sl0, .sl0, i 0, i 0, i 0, i 0, .sl0, .bool true, i 0, i 9, .sl0, .sl0, .sl0, i 0, i 0, i 0, i 0, .sl0, .bool true, i 0, i 9, .sl0, .sl0, .sl0, i 0, i 0, i 0, i 0, .sl0, .bool true, i 0, i 9, .sl0, .sl0, .sl0, i 0, i 0, i 0, i 0, .sl0, .bool true, i 0, i 9, .sl0, .sl0, .sl0, i 0, i 0, i 0, i 0, .sl0, .bool true, i 0, i 9, .sl0, .sl0, .sl0, i 0, i 0, i 0, i 0, .sl0, .bool true, i 0, i 9, .sl0, .sl0, .sl0, i 0, i 0, i 0, i 0, .sl0, .bool true, i 0, i 9, .sl0, .sl0, .sl0, i 0, i 0, i 0, i 0, .sl0, .bool true, i 0, i 9, .sl0, .sl0, .sl0, i 0, i 0, i 0, i 0, .sl0, .bool true, i 0, i 9, .sl0, .sl0, .sl0, i 0, i 0, i 0, i 0, .sl0, .bool true, i 0, i 9, .sl0, .sl0, .sl0, i 0, i 0, i 0, i 0, .sl0, .bool true, i 0, i 9, .sl 13 0 3 3, .sl0, .sl0, i 0, i 0, i 0, i 0, .sl0, .bool true, i 2, i 11, .sl0, .sl0, .sl 10 0 1 1, i 1, i 0, i 0, i 0, .sl0, .bool true, i 2, i 11, .sl0, .sl0, .sl 11 0 1 1, i 2, i 0, i 0, i 0, .sl0, .bool true, i 2, i 11, .sl0, .sl0, .sl 12 0 1 1, i 3, i 0, i 0, i 0, .sl0]
/-- the value of a promise, its class, the handlers that it has: symbols -/
noncomputable def hv (k : Nat) : CV := sy (21 + k)
noncomputable def cl (k : Nat) : CV := sy (42 + k)
noncomputable def hs (k : Nat) : List CV := [sy (63 + 4 * k), i 0, .str 0 0, sy (64 + 4 * k), sy (65 + 4 * k), i 0, .str 0 0, sy (66 + 4 * k)]
/-- the handlers that the law gives -/
noncomputable def fnC (x : Nat) : List CV := [i 5, i 0, .str 0 0, i x]
noncomputable def noC : List CV := [i 0, i 0, .str 0 0, i 0]
noncomputable def hc (q : Nat) : List CV := match q with
  | 0 => fnC 21 ++ noC
  | 1 => fnC 22 ++ noC
  | 2 => noC ++ fnC 23
  | _ => fnC 21 ++ fnC 23
noncomputable def valC (v : CV) : List CV := [i 3, v, .str 0 0, i 0]
noncomputable def refC (k : Nat) : List CV := [i 5, i 0, .str 0 0, i (24 + k)]
/-- objects: settled, with reactions, with none -/
noncomputable def oS (b : Nat) (c : CV) : List CV := [.bool true, i 6, i 14, .sl0, .sl0, .sl b 0 1 1, i 0, i 0, c, i 0, .sl0]
noncomputable def oW (b : Nat) : List CV := [.bool true, i 6, i 14, .sl0, .sl0, .sl b 0 3 3, i 0, i 0, i 0, i 0, .sl0]
noncomputable def oN : List CV := [.bool true, i 6, i 14, .sl0, .sl0, .sl0, i 0, i 0, i 0, i 0, .sl0]
/-- data: settled, with reactions -/
noncomputable def dS (v : CV) : BC := ⟨0, false, 0, valC v⟩
noncomputable def dW (k : Nat) (h : List CV) : BC := ⟨42, true, 4, h ++ refC (k + 1)⟩
noncomputable def wB (m : Nat) (q : CV) : BC := ⟨0, false, 0, [.sl 16 0 0 0, .bool false, i 9, i 1, .sl 15 0 (15 + m) (15 + m), .sl0, i (15 + m), i 20, i 19, .sl 9 0 12 12, .sl 0 0 4 4, q, i 0, i 0, .str 0 0, i 0, .bool false, i 1]⟩
noncomputable def slB (l : List CV) : BC := ⟨132, true, 11, base ++ l⟩
noncomputable def frB : BC := ⟨55, true, 16, []⟩
/-- n promises with reactions, and one behind them: h are the last one's handlers -/
noncomputable def cT (n : Nat) (h : List CV) : List BC := fxB ++ (wB (1 + n) .sl0 :: slB (upt (fun k => oW (17 + k)) 0 n ++ oN) :: frB :: upt (fun k => [dW k (match Nat.beq (Nat.succ k) n with | true => h | false => hs k)]) 0 n)
/-- .. where the first one's handlers are given -/
noncomputable def cT0 (n : Nat) (h : List CV) : List BC := fxB ++ (wB (1 + n) .sl0 :: slB (upt (fun k => oW (17 + k)) 0 n ++ oN) :: frB :: upt (fun k => [dW k (match Nat.beq k 0 with | true => h | false => hs k)]) 0 n)
/-- jobs: the functions one, bad, good; on, and a thrown value on -/
noncomputable def jobB (j : Nat) : BC := match j with
  | 0 | 1 | 2 => ⟨161, true, 2, [i 1, .sl 18 0 3 3]⟩
  | _ => ⟨161, true, 2, [i 2, .sl 18 0 3 3]⟩
noncomputable def jobV (j k : Nat) (v : CV) : BC := match j with
  | 0 => ⟨0, false, 0, fnC 21 ++ (valC v ++ refC k)⟩
  | 1 => ⟨0, false, 0, fnC 22 ++ (valC v ++ refC k)⟩
  | 2 => ⟨0, false, 0, fnC 23 ++ (valC v ++ refC k)⟩
  | 3 => ⟨0, false, 0, refC k ++ (valC v ++ [i 2, i 0, .str 0 0, i 0])⟩
  | _ => ⟨0, false, 0, refC k ++ (valC v ++ [i 2, i 1, .str 0 0, i 0])⟩
/-- N reactions in all; promise a is settled with v, its class is c; h are the handlers of promise a + 1; d: where the data begin -/
noncomputable def objs (d N a : Nat) (c : CV) : List CV := upt (fun k => match Nat.blt k a with
  | true => oS (d + k) (cl k)
  | false => (match Nat.beq k a with
    | true => oS (d + k) c
    | false => (match Nat.beq k N with | true => oN | false => oW (d + k)))) 0 (Nat.succ N)
noncomputable def dats (N a : Nat) (v : CV) (h : List CV) : List BC := upt (fun k => match Nat.blt k a with
  | true => [dS (hv k)]
  | false => (match Nat.beq k a with
    | true => [dS v]
    | false => (match Nat.beq k N with | true => [] | false => [dW k (match Nat.beq k (Nat.succ a) with | true => h | false => hs k)]))) 0 (Nat.succ N)
noncomputable def cP' (N a j : Nat) (c v : CV) (h : List CV) : List BC := fxB ++ (wB (1 + N) (.sl 17 0 1 1) :: slB (objs 19 N a c) :: frB :: jobB j :: jobV j (a + 1) v :: dats N a v h)
/-- all is settled -/
noncomputable def cE (N : Nat) (c v : CV) : List BC := fxB ++ (wB (1 + N) (.sl 17 0 0 0) :: slB (objs 18 N N c) :: frB :: ⟨0, false, 0, []⟩ :: dats N N v [])
noncomputable def cE0 (c v : CV) : List BC := fxB ++ (wB 1 .sl0 :: slB (objs 17 0 0 c) :: frB :: dats 0 0 v [])
/-- Finish's slots: at its loop's head first, later, at the end -/
noncomputable def fs0 : List CV := [.ptr 14 0, i 3000, undefC, undefC, .bool false, i 0] ++ List.replicate 8 undefC
noncomputable def fs1 (c p : CV) : List CV := [.ptr 14 0, i 3000, undefC, undefC, .bool false, c, p, i 3000, .bool true, p, c, .ptr 14 0, .bool true, .bool false]
noncomputable def fs9 (c p : CV) : List CV := [.ptr 14 0, i 3000, undefC, undefC, .bool true, c, c, i 3000, .bool true, p, c, .ptr 14 0, .bool false, .bool true]
end Go.Proofs.YtbckjaoljeimgaaGreatDoor
