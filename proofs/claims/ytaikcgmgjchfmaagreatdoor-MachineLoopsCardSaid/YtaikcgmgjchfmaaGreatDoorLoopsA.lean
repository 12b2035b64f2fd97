/- The two loops of MachineLoops, as codes that set slots: walked. -/
import Derived.Test.YtaikcgmgjchfmaaGreatDoorLoopsT
import Derived.WalkKit
import Derived.WalkMore
namespace Go.Proofs.YtaikcgmgjchfmaaGreatDoor
open Go Go.Ev
set_option maxRecDepth 100000
/-- the sum of the numbers below n that m does not divide -/
def sumN (m : Int) : Nat → Int
  | 0 => 0
  | n + 1 => if (n : Int) % m = 0 then sumN m n else sumN m n + n
/-- the last of them -/
def lastN (m : Int) : Nat → Int
  | 0 => 0
  | n + 1 => if (n : Int) % m = 0 then lastN m n else n
theorem sumN_bd (m : Int) : ∀ n, 0 ≤ sumN m n ∧ sumN m n ≤ tri n := by
  intro n
  induction n with
  | zero => exact ⟨Int.le_refl _, Int.le_refl _⟩
  | succ n ih => simp only [sumN, tri]; split <;> omega
def setA1 (n : Nat) (m : Int) (b : Bool) : List (Nat × Value) := [(12, .int .i64 (sumN m n)), (13, .int .i64 n), (74, .int .i64 n), (75, .int .i64 n), (76, .bool false), (79, .int .i64 ((n : Int) - 1)), (80, .int .i64 m), (81, .int .i64 (((n : Int) - 1) % m)), (82, .bool b), (77, .int .i64 ((n : Int) - 1)), (78, .int .i64 n)]
def setA2 (n : Nat) (m : Int) : List (Nat × Value) := [(83, .int .i64 (sumN m n - lastN m n)), (84, .int .i64 (lastN m n)), (85, .int .i64 (sumN m n))]
set_option maxHeartbeats 8000000 in
set_option maxRecDepth 1000000 in
theorem loopA_wp (c : Code) (hc : Tryz.f3.body = some c) (n : Nat) (m : Int) (hn : 1 ≤ n ∧ n ≤ 39) (hm : 1 ≤ m ∧ m ≤ 7) (h2 : 2 ≤ m → 2 ≤ n) (T : Array Value) (hT : T.size = 131) (h7 : T[7]? = some (.int .i64 n)) (h8 : T[8]? = some (.int .i64 m)) (h12 : T[12]? = some (.int .i64 0)) (h13 : T[13]? = some (.int .i64 0)) (w : World) :
    (subP pathA c).wp Tryz.prog (fun en a' w' => en = .normal ∧ w' = w ∧ a' = ⟨setA (setA1 n m (((n : Int) - 1) % m != 0) ++ if m = 1 then [] else setA2 n m) T, []⟩) ⟨T, []⟩ w := by
  obtain rfl : _ = c := Option.some.inj hc
  clear hc
  revert h7 h8 h12 h13
  refine split131 (Q := fun T => T[7]? = some (.int .i64 n) → T[8]? = some (.int .i64 m) → T[12]? = some (.int .i64 0) → T[13]? = some (.int .i64 0) → (subP pathA _).wp Tryz.prog (fun en a' w' => en = .normal ∧ w' = w ∧ a' = ⟨setA (setA1 n m (((n : Int) - 1) % m != 0) ++ if m = 1 then [] else setA2 n m) T, []⟩) ⟨T, []⟩ w) ?_ T hT
  clear hT T
  intro u0 u1 u2 u3 u4 u5 u6 u7 u8 u9 u10 u11 u12 u13 u14 u15 u16 u17 u18 u19 u20 u21 u22 u23 u24 u25 u26 u27 u28 u29 u30 u31 u32 u33 u34 u35 u36 u37 u38 u39 u40 u41 u42 u43 u44 u45 u46 u47 u48 u49 u50 u51 u52 u53 u54 u55 u56 u57 u58 u59 u60 u61 u62 u63 u64 u65 u66 u67 u68 u69 u70 u71 u72 u73 u74 u75 u76 u77 u78 u79 u80 u81 u82 u83 u84 u85 u86 u87 u88 u89 u90 u91 u92 u93 u94 u95 u96 u97 u98 u99 u100 u101 u102 u103 u104 u105 u106 u107 u108 u109 u110 u111 u112 u113 u114 u115 u116 u117 u118 u119 u120 u121 u122 u123 u124 u125 u126 u127 u128 u129 u130 h7 h8 h12 h13
  obtain rfl : u7 = .int .i64 n := Option.some.inj h7
  obtain rfl : u8 = .int .i64 m := Option.some.inj h8
  obtain rfl : u12 = .int .i64 0 := Option.some.inj h12
  obtain rfl : u13 = .int .i64 0 := Option.some.inj h13
  clear h7 h8 h12 h13
  unfold subP pathA
  dsimp only [subP]
  refine wp_block ?_
  go_loop [12, 13, 74, 75, 76, 77, 78, 79, 80, 81, 82, 83, 84, 85] (fun v12 v13 v74 v75 v76 v77 v78 v79 v80 v81 v82 v83 v84 v85 => ∃ k : Nat, k ≤ n ∧ v13 = .int .i64 k ∧ v12 = .int .i64 (sumN m k) ∧ (1 ≤ k → v76 = .bool true ∧ v75 = .int .i64 n ∧ v74 = .int .i64 ((k : Int) - 1) ∧ v77 = .int .i64 ((k : Int) - 1) ∧ v78 = .int .i64 k ∧ v79 = .int .i64 ((k : Int) - 1) ∧ v80 = .int .i64 m ∧ v81 = .int .i64 (((k : Int) - 1) % m) ∧ v82 = .bool (((k : Int) - 1) % m != 0)) ∧
    (m = 1 → v83 = u83 ∧ v84 = u84 ∧ v85 = u85) ∧ (2 ≤ m → 2 ≤ k → v83 = .int .i64 (sumN m k - lastN m k) ∧ v84 = .int .i64 (lastN m k) ∧ v85 = .int .i64 (sumN m k))) (fun _ v13 _ _ _ _ _ _ _ _ _ _ _ _ => match v13 with | .int _ k => n - k.toNat | _ => 0)
  case atStart => exact ⟨0, by omega, rfl, rfl, by omega, fun _ => ⟨rfl, rfl, rfl⟩, by omega⟩
  case round =>
    obtain ⟨k, hk, rfl, rfl, hv, hv1, hv2⟩ := hrel
    have t0 := tri_bd k (by omega)
    have s0 := sumN_bd m k
    by_cases hlt : k < n
    · have hltz : (k : Int) < n := by omega
      have hmne : m ≠ 0 := by omega
      clear hv
      have e2 : ((k + 1 : Nat) : Int) = (k : Int) + 1 := by omega
      have e3 : (k : Int) + 1 - 1 = k := by omega
      have mu : n - ((k : Int) + 1).toNat < n - (k : Int).toNat := by omega
      go_wp2
      · rename_i hne
        have hne : ¬ (k : Int) % m = 0 := by simpa using hne
        have f1 : sumN m (k + 1) = sumN m k + k := by simp only [sumN, if_neg hne]
        have f2 : lastN m (k + 1) = k := by simp only [lastN, if_neg hne]
        refine ⟨⟨k + 1, hlt, by rw [e2], by rw [f1], fun _ => ⟨rfl, rfl, by rw [e2, e3], by rw [e2, e3], by rw [e2], by rw [e2, e3], rfl, by rw [e2, e3], by rw [e2, e3]⟩, fun h1 => ?_, fun _ _ => ⟨by rw [f1, f2, Int.add_sub_cancel], by rw [f2], by rw [f1]⟩⟩, mu⟩
        subst h1
        exact absurd (Int.emod_one _) hne
      · rename_i hne
        have hne : (k : Int) % m = 0 := by simpa using hne
        have f1 : sumN m (k + 1) = sumN m k := by simp only [sumN, if_pos hne]
        have f2 : lastN m (k + 1) = lastN m k := by simp only [lastN, if_pos hne]
        refine ⟨⟨k + 1, hlt, by rw [e2], by rw [f1], fun _ => ⟨rfl, rfl, by rw [e2, e3], by rw [e2, e3], by rw [e2], by rw [e2, e3], rfl, by rw [e2, e3], by rw [e2, e3]⟩, hv1, fun h2 hk2 => ?_⟩, mu⟩
        rw [f1, f2]
        refine hv2 h2 ?_
        by_cases hk1 : k = 1
        · subst hk1
          rw [Int.emod_eq_of_lt (by omega) (by omega)] at hne
          omega
        · omega
    · obtain rfl : k = n := by omega
      obtain ⟨rfl, rfl, rfl, rfl, rfl, rfl, rfl, rfl, rfl⟩ := hv hn.1
      have hltz : ¬ (k : Int) < k := by omega
      by_cases h1 : m = 1
      · obtain ⟨rfl, rfl, rfl⟩ := hv1 h1
        rw [if_pos h1]
        clear h1 hv1 hv2 hv h2 hm hn
        go_wp2
        kernel_rfl
      · obtain ⟨rfl, rfl, rfl⟩ := hv2 (by omega) (h2 (by omega))
        rw [if_neg h1]
        clear h1 hv1 hv2 hv h2 hn
        go_wp2
        kernel_rfl
end Go.Proofs.YtaikcgmgjchfmaaGreatDoor
