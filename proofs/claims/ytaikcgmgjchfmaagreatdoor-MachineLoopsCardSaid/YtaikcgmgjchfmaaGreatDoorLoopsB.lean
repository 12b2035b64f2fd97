/- The two loops of MachineLoops, as codes that set slots: walked. -/
import Derived.Test.YtaikcgmgjchfmaaGreatDoorLoopsT
import Derived.WalkKit
import Derived.WalkMore
namespace Go.Proofs.YtaikcgmgjchfmaaGreatDoor
open Go Go.Ev
set_option maxRecDepth 100000
/-- what the second loop leaves in its slots -/
def setB (n : Nat) (m : Int) : List (Nat × Value) := [(12, .int .i64 (m * tri n)), (14, .int .i64 n), (90, .int .i64 n), (91, .int .i64 n), (92, .bool false), (95, .int .i64 (m * tri (n - 1))), (96, .int .i64 ((n : Int) - 1)), (97, .int .i64 m), (98, .int .i64 (((n : Int) - 1) * m)), (99, .int .i64 (m * tri n)), (93, .int .i64 ((n : Int) - 1)), (94, .int .i64 n)]
set_option maxHeartbeats 8000000 in
set_option maxRecDepth 1000000 in
theorem loopB_wp (c : Code) (hc : Tryz.f3.body = some c) (n : Nat) (m : Int) (hn : 1 ≤ n ∧ n ≤ 39) (hm : 1 ≤ m ∧ m ≤ 7) (T : Array Value) (hT : T.size = 131) (h7 : T[7]? = some (.int .i64 n)) (h8 : T[8]? = some (.int .i64 m)) (h12 : T[12]? = some (.int .i64 0)) (h14 : T[14]? = some (.int .i64 0)) (w : World) :
    (subP pathB c).wp Tryz.prog (fun en a' w' => en = .normal ∧ w' = w ∧ a' = ⟨setA (setB n m) T, []⟩) ⟨T, []⟩ w := by
  obtain rfl : _ = c := Option.some.inj hc
  clear hc
  revert h7 h8 h12 h14
  refine split131 (Q := fun T => T[7]? = some (.int .i64 n) → T[8]? = some (.int .i64 m) → T[12]? = some (.int .i64 0) → T[14]? = some (.int .i64 0) → (subP pathB _).wp Tryz.prog (fun en a' w' => en = .normal ∧ w' = w ∧ a' = ⟨setA (setB n m) T, []⟩) ⟨T, []⟩ w) ?_ T hT
  clear hT T
  intro u0 u1 u2 u3 u4 u5 u6 u7 u8 u9 u10 u11 u12 u13 u14 u15 u16 u17 u18 u19 u20 u21 u22 u23 u24 u25 u26 u27 u28 u29 u30 u31 u32 u33 u34 u35 u36 u37 u38 u39 u40 u41 u42 u43 u44 u45 u46 u47 u48 u49 u50 u51 u52 u53 u54 u55 u56 u57 u58 u59 u60 u61 u62 u63 u64 u65 u66 u67 u68 u69 u70 u71 u72 u73 u74 u75 u76 u77 u78 u79 u80 u81 u82 u83 u84 u85 u86 u87 u88 u89 u90 u91 u92 u93 u94 u95 u96 u97 u98 u99 u100 u101 u102 u103 u104 u105 u106 u107 u108 u109 u110 u111 u112 u113 u114 u115 u116 u117 u118 u119 u120 u121 u122 u123 u124 u125 u126 u127 u128 u129 u130 h7 h8 h12 h14
  obtain rfl : u7 = .int .i64 n := Option.some.inj h7
  obtain rfl : u8 = .int .i64 m := Option.some.inj h8
  obtain rfl : u12 = .int .i64 0 := Option.some.inj h12
  obtain rfl : u14 = .int .i64 0 := Option.some.inj h14
  clear h7 h8 h12 h14
  unfold subP pathB
  dsimp only [subP]
  refine wp_block ?_
  go_loop [12, 14, 90, 91, 92, 93, 94, 95, 96, 97, 98, 99] (fun v12 v14 v90 v91 v92 v93 v94 v95 v96 v97 v98 v99 => ∃ k : Nat, k ≤ n ∧ v14 = .int .i64 k ∧ v12 = .int .i64 (m * tri k) ∧ (1 ≤ k → v92 = .bool true ∧ v91 = .int .i64 n ∧ v90 = .int .i64 ((k : Int) - 1) ∧ v93 = .int .i64 ((k : Int) - 1) ∧ v94 = .int .i64 k ∧ v95 = .int .i64 (m * tri (k - 1)) ∧ v96 = .int .i64 ((k : Int) - 1) ∧ v97 = .int .i64 m ∧ v98 = .int .i64 (((k : Int) - 1) * m) ∧ v99 = .int .i64 (m * tri k))) (fun _ v14 _ _ _ _ _ _ _ _ _ _ => match v14 with | .int _ k => n - k.toNat | _ => 0)
  case atStart => exact ⟨0, by omega, rfl, by simp [tri], by omega⟩
  case round =>
    obtain ⟨k, hk, rfl, rfl, hv⟩ := hrel
    have t0 := tri_bd k (by omega)
    have hp : 0 ≤ m * tri k ∧ m * tri k ≤ 7 * 780 := mul_bd ⟨by omega, hm.2⟩ t0
    have hq : 0 ≤ (k : Int) * m ∧ (k : Int) * m ≤ 39 * 7 := mul_bd ⟨by omega, by omega⟩ ⟨by omega, hm.2⟩
    by_cases hlt : k < n
    · have hltz : (k : Int) < n := by omega
      clear hv
      go_wp2
      have e1 : m * tri (k + 1) = m * tri k + (k : Int) * m := by rw [tri, Int.mul_add, Int.mul_comm m (k : Int)]
      have e2 : ((k + 1 : Nat) : Int) = (k : Int) + 1 := by omega
      have e3 : (k : Int) + 1 - 1 = k := by omega
      refine ⟨⟨k + 1, hlt, by rw [e2], by rw [e1], fun _ => ⟨rfl, rfl, by rw [e2, e3], by rw [e2, e3], by rw [e2], rfl, by rw [e2, e3], rfl, by rw [e2, e3], by rw [e1]⟩⟩, ?_⟩
      show n - ((k : Int) + 1).toNat < n - (k : Int).toNat
      omega
    · obtain rfl : k = n := by omega
      obtain ⟨rfl, rfl, rfl, rfl, rfl, rfl, rfl, rfl, rfl, rfl⟩ := hv hn.1
      have hltz : ¬ (k : Int) < k := by omega
      go_wp2
      kernel_rfl
end Go.Proofs.YtaikcgmgjchfmaaGreatDoor
