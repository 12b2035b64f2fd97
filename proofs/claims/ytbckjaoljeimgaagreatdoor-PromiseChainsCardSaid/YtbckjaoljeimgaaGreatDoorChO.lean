/- PromiseChains: the text behind the loop. -/
import Derived.Test.YtbckjaoljeimgaaGreatDoorChM
namespace Go.Proofs.YtbckjaoljeimgaaGreatDoor
open Go Go.Ev Go.RowKit
set_option maxRecDepth 100000
set_option maxHeartbeats 100000000 in
set_option maxRecDepth 1000000 in
theorem tail (w0 : World) (n : Int) (hn : -2147483648 ≤ n ∧ n ≤ 2147483647) (ao : Option Addr) (len cap : Nat) (q : Nat → Nat) (hq : ∀ k, q k < 4) (hv0 : -2147483648 ≤ n ∧ n ≤ 2147483648) (W r1 r2 r3 r13 r15 m : Nat) (h20 : m ≤ 20) (wr : World)
  (hX : Sx w0 (sgK n q) [(r15, 5, 0, 24), (r13, 5, 0, ((24 + m : Nat) : Int)), (r3, 5, 0, 23), (r2, 5, 0, 22), (r1, 5, 0, 21)] (cT m (hs (m - 1))) 14 W wr) (A0 A1 A2 A3 A4 A5 A6 A7 A8 A9 B0 B1 B2 B3 B4 B5 B6 B7 B8 B9 C0 C1 C2 C3 C4 C5 C6 C7 C8 C9 D0 D1 D2 D3 D4 D5 D6 D7 D8 D9 E0 E1 E2 E3 E4 E5 E6 E7 E8 E9 F0 F1 F2 F3 F4 F5 F6 F7 F8 F9 G0 G1 G2 G3 G4 G5 G6 G7 G8 G9 H0 H1 H2 H3 H4 H5 H6 H7 H8 H9 I0 I1 I2 I3 I4 I5 I6 I7 I8 I9 J0 J1 J2 J3 J4 J5 J6 J7 J8 J9 L0 L1 L2 L3 L4 L5 L6 L7 L8 L9 M0 M1 M2 M3 M4 M5 M6 M7 M8 M9 N0 N1 N2 N3 N4 N5 N6 N7 N8 N9 O0 O1 O2 O3 O4 O5 O6 O7 O8 O9 P0 P1 P2 P3 P4 P5 P6 P7 P8 P9 Q0 Q1 Q2 Q3 Q4 Q5 Q6 Q7 Q8 Q9 S0 S1 S2 S3 S4 S5 S6 S7 S8 S9 T0 T1 T2 T3 T4 T5 T6 T7 : Value) :
  Code.wp Tryz.prog restC (bodyPost Tryz.prog Tryz.f4 fun en w' => en = .returned (.bool true) ∧ Below w0.heap.size w0 w') ⟨#[.int .i32 n, .slice ao len cap, A0, A1, A2, .pointer (some ⟨W, 0, none⟩), A3, .pointer (some ⟨r1, 0, none⟩), A4, .pointer (some ⟨r2, 0, none⟩), A5, .pointer (some ⟨r3, 0, none⟩), A6, .pointer (some ⟨r13, 0, none⟩), A7, .pointer (some ⟨r15, 0, none⟩), .int .i64 (stK n q m).1, .bool (stK n q m).2, .int .i64 m, A8, A9, B0, B1, B2, B3, B4, B5, B6, B7, B8, B9, C0, C1, C2, C3, C4, C5, C6, C7, C8, C9, D0, D1, D2, D3, D4, D5, D6, D7, D8, D9, E0, E1, E2, E3, E4, E5, E6, E7, E8, E9, F0, F1, F2, F3, F4, F5, F6, F7, F8, F9, G0, G1, G2, G3, G4, G5, G6, G7, G8, G9, H0, H1, H2, H3, H4, H5, H6, H7, H8, H9, I0, I1, I2, I3, I4, I5, I6, I7, I8, I9, J0, J1, J2, J3, J4, J5, J6, J7, J8, J9, L0, L1, L2, L3, L4, L5, L6, L7, L8, L9, M0, M1, M2, M3, M4, M5, M6, M7, M8, M9, N0, N1, N2, N3, N4, N5, N6, N7, N8, N9, O0, O1, O2, O3, O4, O5, O6, O7, O8, O9, P0, P1, P2, P3, P4, P5, P6, P7, P8, P9, Q0, Q1, Q2, Q3, Q4, Q5, Q6, Q7, Q8, Q9, S0, S1, S2, S3, S4, S5, S6, S7, S8, S9, T0, T1, T2, T3, T4, T5, T6, T7], []⟩ wr := by
 conv => arg 2; whnf
 have pc0 := fun d os => (hX.cg d os 0 rfl).1
 have pc1 := fun d os => (hX.cg d os 0 rfl).2.1
 have pc2 := fun d os => (hX.cg d os 0 rfl).2.2.1
 have pc3 := fun d os => (hX.cg d os 0 rfl).2.2.2
 have cN := of_regrown n wr
 have hwr : IntKind.i64.wrap n = n := by rw [IntKind.wrap_i64]; omega
 go_wp2_with fail
 go_cut [165] (fun v wx => v = .bool false ∧ Sx w0 (sgK n q) [(r15, 5, 0, 24), (r13, 5, 0, ((24 + m : Nat) : Int)), (r3, 5, 0, 23), (r2, 5, 0, 22), (r1, 5, 0, 21)] (sE m) 14 W wx)
 case first =>
  refine wp_region_quiet_tail (C := fun w' => ∃ p : Regrown, w' = Go.Sort.grow (redrawn wr p.d) p.os) 10 (by kernel_rfl) (by kernel_rfl) ⟨⟨wr.drawn + 1, #[]⟩, by rw [Go.Sort.grow_empty]; rfl⟩ ?_
  simp only [List.take_succ_cons, List.take_zero, List.drop_succ_cons, List.drop_zero]
  repeat (quiet_step (first | exact cN _ _ | (rw [hwr]; exact cN _ _)))
  refine wpQuiet_nil ?_
  intro _ hw'
  obtain ⟨⟨dq, osq⟩, hw''⟩ := hw'
  subst hw''
  have hXg := hX.grown dq osq
  clear pc0 pc1 pc2 pc3 cN
  generalize Go.Sort.grow (redrawn wr dq) osq = wg at *
  have cR := k_re hv0 hq h20 hXg.st
  simp only [refV, valV, Int.cast_ofNat_Int] at cR
  go_wp2_with fail
  go_at_call 19
  refine cR.mono ?_
  rintro e w4 ⟨rfl, hS4, hz4, hk4⟩
  have hX4 := hXg.call hS4 hk4
  go_wp2_with fail
  go_at_call 15
  refine (k_fin hv0 hq h20 hX4.st).mono ?_
  rintro e w5 ⟨rfl, hS5, hz5, hk5⟩
  have hX5 := hX4.call hS5 hk5
  go_wp2_with fail
  go_meet
  exact ⟨rfl, hX5⟩
 case rest =>
 obtain ⟨rfl, hXc⟩ := hcut
 clear pc0 pc1 pc2 pc3 cN hwr hX
 go_upto_region 43 with fail
 have hXd := hXc.drew
 have hXz := (hXc.alloc 0 0 0).drew
 simp only [bx] at hXz
 have cA := k_st hv0 hq h20 hXd.st
 have cB := k_st hv0 hq h20 hXz.st
 simp only [refV, valV] at cA cB
 generalize hvt : stK n q m = vt at *
 obtain ⟨V, T⟩ := vt
 dsimp only at cA cB
 generalize hcl : clI T = C at *
 generalize hy : ((24 + m : Nat) : Int) = y at *
 obtain ⟨p0, p1, p2, p3, -⟩ := hXd.c 1 rfl
 obtain ⟨q0, q1, q2, q3, -⟩ := hXz.c 2 rfl
 go_cut [23, 24, 25] (fun v23 v24 v25 wx => ∃ r : Nat, v23 = .int .i64 C ∧ v24 = .pointer (some ⟨r, 0, none⟩) ∧ v25 = .int .i64 0 ∧ Sx w0 (sgK n q) [(r, 3, V, 0), (r15, 5, 0, 24), (r13, 5, 0, y), (r3, 5, 0, 23), (r2, 5, 0, 22), (r1, 5, 0, 21)] (sE m) 14 W wx)
 case first =>
  go_region_with (go_simp; go_at_call 20; (first | refine cA.mono ?_ | refine cB.mono ?_); rintro e w4 ⟨rfl, hS4, hz4, hk4⟩; (first | (have hX4 := hXz.call hS4 hk4; obtain ⟨j0, j1, j2, j3, e0, e1, e2, e3⟩ := hX4.c 0 rfl) | have hX4 := hXd.call hS4 hk4); go_simp)
  all_goals (go_wp2_with fail; go_meet)
  all_goals (first | exact ⟨_, rfl, rfl, rfl, hX4.alloc 3 V 0⟩ | exact ⟨_, rfl, rfl, rfl, hX4.set 0 3 V 0 rfl⟩)
 case rest =>
 obtain ⟨r24, rfl, rfl, rfl, hXe⟩ := hcut
 clear p0 p1 p2 p3 q0 q1 q2 q3 cA cB hXd hXz hXc
 have pc0 := fun d os => (hXe.cg d os 0 rfl).1
 have pc1 := fun d os => (hXe.cg d os 0 rfl).2.1
 have pc2 := fun d os => (hXe.cg d os 0 rfl).2.2.1
 have pc3 := fun d os => (hXe.cg d os 0 rfl).2.2.2
 have cN := of_regrown V wc
 cases T
 ·have hC : C = 1 := hcl.symm
  subst hC
  clear hcl
  go_upto_region 47 with fail
  refine wp_region_quiet_below (by kernel_rfl) (by kernel_rfl) ?_
  repeat (quiet_step (exact cN _ _))
  refine wpQuiet_nil ?_
  intro _ hw'
  obtain ⟨⟨dq, osq⟩, hw''⟩ := hw'
  subst hw''
  go_wp2_with fail
  go_ret
  exact ⟨rfl, hXe.st.blw.trans ((below_regrown _ dq osq).mono hXe.st.size)⟩
 ·have hC : C = 2 := hcl.symm
  subst hC
  clear hcl
  go_upto_region 47 with fail
  refine wp_region_quiet_below (by kernel_rfl) (by kernel_rfl) ?_
  repeat (quiet_step (exact cN _ _))
  refine wpQuiet_nil ?_
  intro _ hw'
  obtain ⟨⟨dq, osq⟩, hw''⟩ := hw'
  subst hw''
  go_wp2_with fail
  go_ret
  exact ⟨rfl, hXe.st.blw.trans ((below_regrown _ dq osq).mono hXe.st.size)⟩
end Go.Proofs.YtbckjaoljeimgaaGreatDoor
