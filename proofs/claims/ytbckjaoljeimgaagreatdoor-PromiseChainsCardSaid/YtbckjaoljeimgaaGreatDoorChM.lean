/- PromiseChains: the loop's round. -/
import Derived.Test.YtbckjaoljeimgaaGreatDoorChN
import Derived.Deep.DeepCutAuto
import Derived.Deep.CutBlock
import Derived.Deep.RegionWith
import Derived.Lib.QuietBelow
namespace Go.Proofs.YtbckjaoljeimgaaGreatDoor
open Go Go.Ev Go.RowKit
set_option maxRecDepth 100000
theorem p20 : ∀ m : Nat, m < 20 → (2147483648 : Int) * 2 ^ m ≤ 2251799813685248 := by decide
def fnB (q : Nat) : Int × Int × Int := match q with | 0 => (5, 0, 21) | 1 => (5, 0, 22) | 2 => (0, 0, 0) | _ => (5, 0, 21)
def fwB (q : Nat) : Int × Int × Int := match q with | 0 => (0, 0, 0) | 1 => (0, 0, 0) | 2 => (5, 0, 23) | _ => (5, 0, 23)
theorem fnV_eq (q : Nat) : fnV q = .agg #[.int .i64 (fnB q).1, .int .i64 (fnB q).2.1, .string ⟨#[]⟩, .int .i64 (fnB q).2.2] := by
 rcases q with _ | _ | _ | k <;> rfl
theorem fnW_eq (q : Nat) : fnW q = .agg #[.int .i64 (fwB q).1, .int .i64 (fwB q).2.1, .string ⟨#[]⟩, .int .i64 (fwB q).2.2] := by
 rcases q with _ | _ | _ | k <;> rfl
theorem of_calls (n : Int) (w : World) : Calls Tryz.prog 12 #[.int .i64 n] w fun en w' => en = .returned (.agg #[.int .i64 3, .int .i64 n, .string ⟨#[]⟩, .int .i64 0]) ∧ w' = w.alloc (.cells #[.int .i64 3, .int .i64 n, .string ⟨#[]⟩, .int .i64 0] 41 (0, 0)) := by
 go_enter Tryz.func12, Tryz.ntmps12
 go_wp2_with fail
 have hr : Tryz.f12.results = #[.cell 2 41] := by kernel_rfl
 have hc := halloc1 w (.cells #[.int .i64 3, .int .i64 n, .string ⟨#[]⟩, .int .i64 0] 41 (0, 0))
 obtain ⟨d0, d1, d2, d3⟩ := Bx4.cells (k := 3) (n := n) (x := 0) (show Bx4 (w.alloc (.cells #[.int .i64 3, .int .i64 n, .string ⟨#[]⟩, .int .i64 0] 41 (0, 0))) w.heap.size 3 n 0 from hc)
 refine bodyPost_ret (v := .agg #[.int .i64 3, .int .i64 n, .string ⟨#[]⟩, .int .i64 0]) ?_ rfl ⟨rfl, rfl⟩
 unfold results
 rw [hr]
 go_simp
open Go.Sort in
theorem of_regrown (n : Int) (W : World) (d : Nat) (os : Array Obj) : Calls Tryz.prog 12 #[.int .i64 n] (grow (redrawn W d) os) fun e w'' => e = .returned (.agg #[.int .i64 3, .int .i64 n, .string ⟨#[]⟩, .int .i64 0]) ∧ ∃ p : Regrown, w'' = grow (redrawn W p.d) p.os :=
 Calls.regrown_of ((of_calls n _).mono fun en w' h => ⟨h.1, by rw [h.2]; exact (Below.refl _ _).alloc (Nat.le_refl _) _⟩)
open Go.Sort in
theorem Sx.cg {w0 : World} {σ : Sg} {L : List Box} {s : List BC} {bW W : Nat} {w : World} (h : Sx w0 σ L s bW W w) (d : Nat) (os : Array Obj) (i : Nat) {r : Nat} {k n x : Int} (hi : L[i]? = some (r, k, n, x)) :
  (grow (redrawn w d) os).cell? ⟨r, 0, none⟩ = some (.int .i64 k) ∧ (grow (redrawn w d) os).cell? ⟨r, 1, none⟩ = some (.int .i64 n) ∧ (grow (redrawn w d) os).cell? ⟨r, 2, none⟩ = some (.string ⟨#[]⟩) ∧ (grow (redrawn w d) os).cell? ⟨r, 3, none⟩ = some (.int .i64 x) := by
 have h0 := h.2.2 _ (List.mem_of_getElem? hi)
 have hr := h.lt (List.mem_of_getElem? hi)
 have hb := below_regrown w d os
 have h1 : Bx4 (grow (redrawn w d) os) r k n x := by unfold Bx4; rw [hb.block r hr]; exact h0
 exact h1.cells
theorem Sx.grown {w0 : World} {σ : Sg} {L : List Box} {s : List BC} {bW W : Nat} {w : World} (h : Sx w0 σ L s bW W w) (d : Nat) (os : Array Obj) : Sx w0 σ L s bW W (Go.Sort.grow (redrawn w d) os) := by
 have hb := below_regrown w d os
 refine ⟨h.1.step (fun r hr _ => hb.block r hr) (hb.mono h.1.size) fun r hr => ⟨.inl hr, Nat.lt_of_lt_of_le (h.1.avl r hr).2 hb.size⟩, h.2.1, fun t ht => ?_⟩
 have h0 := h.2.2 t ht
 unfold Bx4
 rw [hb.block _ (h.lt ht)]
 exact h0
def loopIn : Code → Option Code
 | .loop c => some c
 | .seq a b => match loopIn a with | some c => some c | none => loopIn b
 | .block _ c => loopIn c
 | .scope c => loopIn c
 | .cond _ a b => match loopIn a with | some c => some c | none => loopIn b
 | _ => none
def endsLoop : Code → Bool
 | .block _ (.loop _) => true
 | .seq _ b => endsLoop b
 | _ => false
def restIn : Code → Option Code
 | .seq a b => match endsLoop a with | true => some b | false => (match restIn a with | some c => some c | none => restIn b)
 | .block _ c => restIn c
 | .scope c => restIn c
 | _ => none
noncomputable def bodyC : Code := (Tryz.f4.body.bind loopIn).getD .skip
noncomputable def restC : Code := (Tryz.f4.body.bind restIn).getD .skip
set_option maxHeartbeats 100000000 in
set_option maxRecDepth 1000000 in
theorem round (w0 : World) (n : Int) (ao : Option Addr) (len cap : Nat) (h20 : len ≤ 20) (xs : Nat → Int) (hx : ∀ k, 0 ≤ xs k ∧ xs k ≤ 255)
  (hL : ∀ k, k < len → ∃ b o : Nat, ao = some ⟨b, o, none⟩ ∧ b < w0.heap.size ∧ w0.cell? ⟨b, o + k, none⟩ = some (.int .u8 (xs k)))
  (q : Nat → Nat) (hqd : ∀ k, (q k : Int) = xs k % 4) (hq : ∀ k, q k < 4) (hv0 : -2147483648 ≤ n ∧ n ≤ 2147483648) (W r1 r2 r3 r13 r15 m : Nat) (hlt : m < len) (wr : World)
  (hX : Sx w0 (sgK n q) [(r15, 5, 0, 24), (r13, 5, 0, ((24 + m : Nat) : Int)), (r3, 5, 0, 23), (r2, 5, 0, 22), (r1, 5, 0, 21)] (cT m (hs (m - 1))) 14 W wr) (R K : Act → World → Prop) (φ : Ending → World → Prop) (A0 A1 A2 A3 A4 A5 A6 A7 A8 A9 B0 B1 B2 B3 B4 B5 B6 B7 B8 B9 C0 C1 C2 C3 C4 C5 C6 C7 C8 C9 D0 D1 D2 D3 D4 D5 D6 D7 D8 D9 E0 E1 E2 E3 E4 E5 E6 E7 E8 E9 F0 F1 F2 F3 F4 F5 F6 F7 F8 F9 G0 G1 G2 G3 G4 G5 G6 G7 G8 G9 H0 H1 H2 H3 H4 H5 H6 H7 H8 H9 I0 I1 I2 I3 I4 I5 I6 I7 I8 I9 J0 J1 J2 J3 J4 J5 J6 J7 J8 J9 L0 L1 L2 L3 L4 L5 L6 L7 L8 L9 M0 M1 M2 M3 M4 M5 M6 M7 M8 M9 N0 N1 N2 N3 N4 N5 N6 N7 N8 N9 O0 O1 O2 O3 O4 O5 O6 O7 O8 O9 P0 P1 P2 P3 P4 P5 P6 P7 P8 P9 Q0 Q1 Q2 Q3 Q4 Q5 Q6 Q7 Q8 Q9 S0 S1 S2 S3 S4 S5 S6 S7 S8 S9 T0 T1 T2 T3 T4 T5 T6 T7 : Value)
  (hQ : ∀ (a0 a1 a2 a3 a4 a5 a6 a7 a8 a9 b4 b5 b6 b7 b8 b9 c0 c1 c2 c3 c4 c5 c6 c7 c8 c9 d4 d5 d6 d7 d8 d9 e4 e5 e6 e7 e8 e9 f5 f6 f7 f8 f9 g4 g5 g6 g7 g8 g9 h4 h5 h6 h7 h8 h9 i0 i1 i2 i3 i4 i5 : Value) (w' : World), Sx w0 (sgK n q) [(r15, 5, 0, 24), (r13, 5, 0, ((24 + (m + 1) : Nat) : Int)), (r3, 5, 0, 23), (r2, 5, 0, 22), (r1, 5, 0, 21)] (cT (m + 1) (hs (m + 1 - 1))) 14 W w' → R ⟨#[.int .i32 n, .slice ao len cap, A0, A1, a0, .pointer (some ⟨W, 0, none⟩), A3, .pointer (some ⟨r1, 0, none⟩), A4, .pointer (some ⟨r2, 0, none⟩), A5, .pointer (some ⟨r3, 0, none⟩), A6, .pointer (some ⟨r13, 0, none⟩), A7, .pointer (some ⟨r15, 0, none⟩), .int .i64 (stK n q (m + 1)).1, .bool (stK n q (m + 1)).2, .int .i64 ((m : Int) + 1), a1, a2, a3, a4, B2, B3, B4, B5, B6, B7, B8, B9, C0, C1, C2, C3, C4, C5, C6, C7, C8, C9, D0, D1, D2, D3, D4, D5, D6, D7, D8, D9, E0, E1, E2, E3, E4, E5, E6, E7, E8, E9, F0, F1, F2, F3, F4, F5, F6, F7, F8, F9, G0, G1, G2, G3, G4, G5, G6, G7, G8, G9, H0, H1, H2, H3, H4, H5, H6, H7, H8, H9, I0, I1, a5, a6, a7, a8, a9, b4, b5, b6, b7, b8, b9, c0, c1, c2, c3, c4, c5, c6, c7, c8, c9, d4, d5, d6, d7, d8, d9, e4, e5, e6, e7, e8, e9, f5, f6, f7, f8, f9, g4, g5, g6, g7, g8, g9, h4, h5, h6, h7, h8, h9, i0, i1, i2, i3, i4, i5, O8, O9, P0, P1, P2, P3, P4, P5, P6, P7, P8, P9, Q0, Q1, Q2, Q3, Q4, Q5, Q6, Q7, Q8, Q9, S0, S1, S2, S3, S4, S5, S6, S7, S8, S9, T0, T1, T2, T3, T4, T5, T6, T7], []⟩ w') :
  Code.wp Tryz.prog bodyC (Exit.then R (Exit.inBlock 0 (Exit.then K (bodyPost Tryz.prog Tryz.f4 φ)))) ⟨#[.int .i32 n, .slice ao len cap, A0, A1, A2, .pointer (some ⟨W, 0, none⟩), A3, .pointer (some ⟨r1, 0, none⟩), A4, .pointer (some ⟨r2, 0, none⟩), A5, .pointer (some ⟨r3, 0, none⟩), A6, .pointer (some ⟨r13, 0, none⟩), A7, .pointer (some ⟨r15, 0, none⟩), .int .i64 (stK n q m).1, .bool (stK n q m).2, .int .i64 m, A8, A9, B0, B1, B2, B3, B4, B5, B6, B7, B8, B9, C0, C1, C2, C3, C4, C5, C6, C7, C8, C9, D0, D1, D2, D3, D4, D5, D6, D7, D8, D9, E0, E1, E2, E3, E4, E5, E6, E7, E8, E9, F0, F1, F2, F3, F4, F5, F6, F7, F8, F9, G0, G1, G2, G3, G4, G5, G6, G7, G8, G9, H0, H1, H2, H3, H4, H5, H6, H7, H8, H9, I0, I1, I2, I3, I4, I5, I6, I7, I8, I9, J0, J1, J2, J3, J4, J5, J6, J7, J8, J9, L0, L1, L2, L3, L4, L5, L6, L7, L8, L9, M0, M1, M2, M3, M4, M5, M6, M7, M8, M9, N0, N1, N2, N3, N4, N5, N6, N7, N8, N9, O0, O1, O2, O3, O4, O5, O6, O7, O8, O9, P0, P1, P2, P3, P4, P5, P6, P7, P8, P9, Q0, Q1, Q2, Q3, Q4, Q5, Q6, Q7, Q8, Q9, S0, S1, S2, S3, S4, S5, S6, S7, S8, S9, T0, T1, T2, T3, T4, T5, T6, T7], []⟩ wr := by
 conv => arg 2; whnf
 obtain ⟨b, o, rfl, hb, hc⟩ := hL m hlt
 have hce : ∀ w', Below w0.heap.size w0 w' → w'.cell? ⟨b, o + m, none⟩ = some (.int .u8 (xs m)) := fun w' h => by
  rw [← hc]; simp only [World.cell?, h.block b hb]
 have hltz : (m : Int) < (len : Int) := by omega
 have hxm := hx m
 have hqm := hqd m
 have hab := st_abs (v := n) (q := q) hv0 m
 have hp : (2147483648 : Int) * 2 ^ m ≤ 2251799813685248 := p20 m (by omega)
 have hst : stK n q (m + 1) = stp (stK n q m) (q m) := rfl
 rw [hst] at hQ
 generalize stK n q m = vt at *
 obtain ⟨V, T⟩ := vt
 have hab' : -2251799813685248 ≤ V ∧ V ≤ 2251799813685248 := by dsimp only at hab; omega
 clear hab hp
 have hXa := (hX.alloc 0 0 0).alloc 0 0 0
 simp only [bx] at hXa
 have hcx := hce _ hXa.st.blw
 have hcx2 := hce _ hX.st.blw
 obtain ⟨p0, p1, p2, p3, _⟩ := hXa.c 4 rfl
 obtain ⟨q0, q1, q2, q3, _⟩ := hXa.c 5 rfl
 obtain ⟨s0, s1, s2, s3, _⟩ := hXa.c 6 rfl
 clear hcx2 p0 p1 p2 p3 q0 q1 q2 q3 s0 s1 s2 s3
 go_upto_region 16 with fail
 rw [show (wr.alloc (.cells #[.int .i64 0, .int .i64 0, .string ⟨#[]⟩, .int .i64 0] 41 (0, 0))).heap.size = wr.heap.size + 1 from by simp] at hXa
 generalize hWA : (wr.alloc (.cells #[.int .i64 0, .int .i64 0, .string ⟨#[]⟩, .int .i64 0] 41 (0, 0))).alloc (.cells #[.int .i64 0, .int .i64 0, .string ⟨#[]⟩, .int .i64 0] 41 (0, 0)) = WA at *
 clear hWA hX
 generalize wr.heap.size + 1 = r20 at *
 generalize wr.heap.size = r19 at *
 obtain ⟨d0, d1, d2, d3, e0, e1, e2, e3⟩ := hXa.c 0 rfl
 obtain ⟨b0, b1, b2, b3, f0, f1, f2, f3⟩ := hXa.c 1 rfl
 obtain ⟨p0, p1, p2, p3, -⟩ := hXa.c 4 rfl
 obtain ⟨q0, q1, q2, q3, -⟩ := hXa.c 5 rfl
 obtain ⟨s0, s1, s2, s3, -⟩ := hXa.c 6 rfl
 have hXs := hXa.set 1 5 0 21 rfl
 obtain ⟨h0, h1, h2, h3, g0, g1, g2, g3⟩ := hXs.c 0 rfl
 obtain ⟨t0, t1, t2, t3, -⟩ := hXs.c 4 rfl
 have htm : (xs m).tmod 4 = xs m % 4 := Int.tmod_eq_emod_of_nonneg hxm.1
 go_upto_block 2 with fail
 go_cut [16, 17, 105] (fun v16 v17 _ wx => v16 = .int .i64 (stp (V, T) (q m)).1 ∧ v17 = .bool (stp (V, T) (q m)).2 ∧ Sx w0 (sgK n q) [(r20, fwB (q m)), (r19, fnB (q m)), (r15, 5, 0, 24), (r13, 5, 0, ((24 + m : Nat) : Int)), (r3, 5, 0, 23), (r2, 5, 0, 22), (r1, 5, 0, 21)] (cT m (hs (m - 1))) 14 W wx)
 case first =>
  have hq4 := hq m
  rcases (by omega : q m = 0 ∨ q m = 1 ∨ q m = 2 ∨ q m = 3) with hk | hk | hk | hk <;> (rw [hk] at hqm; have hxk := hqm.symm; clear hqm; have hxk2 := htm; rw [hxk] at hxk2; simp only [Int.cast_ofNat_Int] at hxk hxk2; clear htm) <;> cases T
  all_goals (go_wp2_with fail; go_meet)
  all_goals (refine ⟨?_, ?_, ?_⟩ <;> rw [hk])
  all_goals try first | rfl | (exact congrArg _ (Int.mul_comm V 2))
  ·exact hXa.set 1 5 0 21 rfl
  ·exact hXa.set 1 5 0 21 rfl
  ·exact hXa.set 1 5 0 22 rfl
  ·exact hXa.set 1 5 0 22 rfl
  ·exact hXa.set 0 5 0 23 rfl
  ·exact hXa.set 0 5 0 23 rfl
  ·exact hXs.set 0 5 0 23 rfl
  ·exact hXs.set 0 5 0 23 rfl
 case rest =>
 obtain ⟨rfl, rfl, hXc⟩ := hcut
 clear d0 d1 d2 d3 e0 e1 e2 e3 b0 b1 b2 b3 f0 f1 f2 f3 p0 p1 p2 p3 q0 q1 q2 q3 s0 s1 s2 s3 h0 h1 h2 h3 g0 g1 g2 g3 t0 t1 t2 t3 hXs hXa hcx
 go_upto_region 37 with fail
 have hXd := hXc.drew
 have hXz := (hXc.alloc 0 0 0).drew
 simp only [bx] at hXz
 have cA := k_th hv0 hq (show m < 20 by omega) hXd.st
 have cB := k_th hv0 hq (show m < 20 by omega) hXz.st
 rw [fnV_eq, fnW_eq] at cA cB
 simp only [refV] at cA cB
 generalize fnB (q m) = fn at *
 generalize fwB (q m) = fw at *
 obtain ⟨fn1, fn2, fn3⟩ := fn
 obtain ⟨fw1, fw2, fw3⟩ := fw
 generalize hy : ((24 + m : Nat) : Int) = y at *
 generalize hz : ((24 + (m + 1) : Nat) : Int) = z at *
 obtain ⟨d0, d1, d2, d3, -⟩ := hXd.c 0 rfl
 obtain ⟨b0, b1, b2, b3, -⟩ := hXd.c 1 rfl
 obtain ⟨p0, p1, p2, p3, -⟩ := hXd.c 3 rfl
 obtain ⟨h0, h1, h2, h3, -⟩ := hXz.c 1 rfl
 obtain ⟨f0, f1, f2, f3, -⟩ := hXz.c 2 rfl
 obtain ⟨q0, q1, q2, q3, -⟩ := hXz.c 4 rfl
 go_cut [21, 22] (fun v21 v22 wx => ∃ r : Nat, v21 = .pointer (some ⟨r, 0, none⟩) ∧ v22 = .int .i64 0 ∧ Sx w0 (sgK n q) [(r, 5, 0, z), (r20, fw1, fw2, fw3), (r19, fn1, fn2, fn3), (r15, 5, 0, 24), (r13, 5, 0, y), (r3, 5, 0, 23), (r2, 5, 0, 22), (r1, 5, 0, 21)] (cT (m + 1) (hs m)) 14 W wx)
 case first =>
  go_region_with (go_simp; go_at_call 18; (first | refine cA.mono ?_ | refine cB.mono ?_); rintro e w4 ⟨rfl, hS4, hz4, hk4⟩; (first | (have hX4 := hXz.call hS4 hk4; obtain ⟨j0, j1, j2, j3, e0, e1, e2, e3⟩ := hX4.c 0 rfl) | have hX4 := hXd.call hS4 hk4); go_simp)
  all_goals (go_wp2_with fail; go_meet)
  all_goals (first | exact ⟨_, rfl, rfl, hX4.alloc 5 0 z⟩ | exact ⟨_, rfl, rfl, hX4.set 0 5 0 z rfl⟩)
 case rest =>
 obtain ⟨r21, rfl, rfl, hXe⟩ := hcut
 clear d0 d1 d2 d3 b0 b1 b2 b3 h0 h1 h2 h3 f0 f1 f2 f3 p0 p1 p2 p3 q0 q1 q2 q3 cA cB hXd hXz hXc
 obtain ⟨d0, d1, d2, d3, -⟩ := hXe.c 0 rfl
 obtain ⟨p0, p1, p2, p3, e0, e1, e2, e3⟩ := hXe.c 4 rfl
 go_wp2_with fail
 subst hy hz
 exact ((hXe.set 4 5 0 _ rfl).weak ((((List.Sublist.refl _).cons _).cons _).cons _))
end Go.Proofs.YtbckjaoljeimgaaGreatDoor
