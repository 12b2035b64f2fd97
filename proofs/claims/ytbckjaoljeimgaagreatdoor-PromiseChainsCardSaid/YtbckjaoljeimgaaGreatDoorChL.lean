/- PromiseChains, walked. Conditions: the number is an int32; at most 20 bytes in the list. -/
import Derived.Test.YtbckjaoljeimgaaGreatDoorChO
namespace Go.Proofs.YtbckjaoljeimgaaGreatDoor
open Go Go.Ev Go.RowKit
set_option maxRecDepth 100000
set_option maxHeartbeats 100000000 in
set_option maxRecDepth 1000000 in
theorem law (w0 : World) (n : Int) (hn : -2147483648 ≤ n ∧ n ≤ 2147483647) (ao : Option Addr) (len cap : Nat) (h20 : len ≤ 20) (xs : Nat → Int) (hx : ∀ k, 0 ≤ xs k ∧ xs k ≤ 255)
  (hL : ∀ k, k < len → ∃ b o : Nat, ao = some ⟨b, o, none⟩ ∧ b < w0.heap.size ∧ w0.cell? ⟨b, o + k, none⟩ = some (.int .u8 (xs k))) :
  Calls Tryz.prog 4 #[.int .i32 n, .slice ao len cap] w0 fun en w' => en = .returned (.bool true) ∧ Below w0.heap.size w0 w' := by
 obtain ⟨q, hqd⟩ : ∃ q : Nat → Nat, ∀ k, (q k : Int) = xs k % 4 := ⟨fun k => (xs k % 4).toNat, fun k => by have := hx k; show ((xs k % 4).toNat : Int) = _; omega⟩
 have hq : ∀ k, q k < 4 := fun k => by have := hqd k; omega
 have hv0 : -2147483648 ≤ n ∧ n ≤ 2147483648 := by omega
 have z20 : ¬ (20 : Int) < (len : Int) := by omega
 go_enter Tryz.func4, Tryz.ntmps4
 go_wp2_with fail
 go_at_call 13
 refine (awake_calls _).mono ?_
 rintro en W1 ⟨rfl, hb1⟩
 go_wp2_with fail
 refine (k_begin (q := q) hv0 _ (fun e => scr_vr) hb1).mono ?_
 rintro en W2 ⟨W, rfl, hS2⟩
 go_wp2_with fail
 refine (k_fin0 hv0 hS2).mono ?_
 rintro en W3 ⟨rfl, hS3, hz3, _⟩
 have hX3 : Sx w0 (sgK n q) [] b1S 14 W W3 := ⟨hS3, List.nodup_nil, fun t ht => by cases ht⟩
 clear hS2 hS3
 go_upto_region 6 with fail
 have hXd := hX3.drew
 have hXz := (hX3.alloc 0 0 0).drew
 simp only [bx] at hXz
 have c7 := hXd.st.cellW (k := 7) (n := 20) (show b1S[14]? = some (wB 0 .sl0) from rfl) rfl
 have c7z := hXz.st.cellW (k := 7) (n := 20) (show b1S[14]? = some (wB 0 .sl0) from rfl) rfl
 have cA := k_own (q := q) hv0 own1 { data := #[111, 110, 101] } (by kernel_rfl) (by kernel_rfl) hXd.st
 have cB := k_own (q := q) hv0 own1 { data := #[111, 110, 101] } (by kernel_rfl) (by kernel_rfl) hXz.st
 simp only [refV, Int.cast_ofNat_Int] at cA cB
 go_cut [7, 8] (fun s7 s8 wx => ∃ r : Nat, s7 = .pointer (some ⟨r, 0, none⟩) ∧ s8 = .bool true ∧ Sx w0 (sgK n q) ([(r, 5, 0, 21)]) b1S 14 W wx)
 case first =>
  go_region_with (go_simp; go_at_call 16; (first | refine cA.mono ?_ | refine cB.mono ?_); rintro e w4 ⟨rfl, hS4, hz4, hk4⟩; (first | (have hX4 := hXz.call hS4 hk4; obtain ⟨d0, d1, d2, d3, e0, e1, e2, e3⟩ := hX4.c 0 rfl) | have hX4 := hXd.call hS4 hk4); go_simp)
  all_goals (go_wp2_with fail; go_meet)
  all_goals (first | exact ⟨_, rfl, rfl, hX4.alloc 5 0 21⟩ | exact ⟨_, rfl, rfl, hX4.set 0 5 0 21 rfl⟩)
 case rest =>
 obtain ⟨r1, rfl, rfl, hX4⟩ := hcut
 clear cA cB c7 c7z hXd hXz hX3
 go_upto_region 7 with fail
 have hXd := hX4.drew
 have hXz := (hX4.alloc 0 0 0).drew
 simp only [bx] at hXz
 have c7 := hXd.st.cellW (k := 7) (n := 20) (show b1S[14]? = some (wB 0 .sl0) from rfl) rfl
 have c7z := hXz.st.cellW (k := 7) (n := 20) (show b1S[14]? = some (wB 0 .sl0) from rfl) rfl
 have cA := k_own (q := q) hv0 own2 { data := #[98, 97, 100] } (by kernel_rfl) (by kernel_rfl) hXd.st
 have cB := k_own (q := q) hv0 own2 { data := #[98, 97, 100] } (by kernel_rfl) (by kernel_rfl) hXz.st
 simp only [refV, Int.cast_ofNat_Int] at cA cB
 go_cut [9, 10] (fun s7 s8 wx => ∃ r : Nat, s7 = .pointer (some ⟨r, 0, none⟩) ∧ s8 = .bool true ∧ Sx w0 (sgK n q) ([(r, 5, 0, 22), (r1, 5, 0, 21)]) b1S 14 W wx)
 case first =>
  go_region_with (go_simp; go_at_call 16; (first | refine cA.mono ?_ | refine cB.mono ?_); rintro e w4 ⟨rfl, hS4, hz4, hk4⟩; (first | (have hX4 := hXz.call hS4 hk4; obtain ⟨d0, d1, d2, d3, e0, e1, e2, e3⟩ := hX4.c 0 rfl) | have hX4 := hXd.call hS4 hk4); go_simp)
  all_goals (go_wp2_with fail; go_meet)
  all_goals (first | exact ⟨_, rfl, rfl, hX4.alloc 5 0 22⟩ | exact ⟨_, rfl, rfl, hX4.set 0 5 0 22 rfl⟩)
 case rest =>
 obtain ⟨r2, rfl, rfl, hX5⟩ := hcut
 clear cA cB c7 c7z hXd hXz hX4
 go_upto_region 8 with fail
 have hXd := hX5.drew
 have hXz := (hX5.alloc 0 0 0).drew
 simp only [bx] at hXz
 have c7 := hXd.st.cellW (k := 7) (n := 20) (show b1S[14]? = some (wB 0 .sl0) from rfl) rfl
 have c7z := hXz.st.cellW (k := 7) (n := 20) (show b1S[14]? = some (wB 0 .sl0) from rfl) rfl
 have cA := k_own (q := q) hv0 own3 { data := #[103, 111, 111, 100] } (by kernel_rfl) (by kernel_rfl) hXd.st
 have cB := k_own (q := q) hv0 own3 { data := #[103, 111, 111, 100] } (by kernel_rfl) (by kernel_rfl) hXz.st
 simp only [refV, Int.cast_ofNat_Int] at cA cB
 go_cut [11, 12] (fun s7 s8 wx => ∃ r : Nat, s7 = .pointer (some ⟨r, 0, none⟩) ∧ s8 = .bool true ∧ Sx w0 (sgK n q) ([(r, 5, 0, 23), (r2, 5, 0, 22), (r1, 5, 0, 21)]) b1S 14 W wx)
 case first =>
  go_region_with (go_simp; go_at_call 16; (first | refine cA.mono ?_ | refine cB.mono ?_); rintro e w4 ⟨rfl, hS4, hz4, hk4⟩; (first | (have hX4 := hXz.call hS4 hk4; obtain ⟨d0, d1, d2, d3, e0, e1, e2, e3⟩ := hX4.c 0 rfl) | have hX4 := hXd.call hS4 hk4); go_simp)
  all_goals (go_wp2_with fail; go_meet)
  all_goals (first | exact ⟨_, rfl, rfl, hX4.alloc 5 0 23⟩ | exact ⟨_, rfl, rfl, hX4.set 0 5 0 23 rfl⟩)
 case rest =>
 obtain ⟨r3, rfl, rfl, hX6⟩ := hcut
 clear cA cB c7 c7z hXd hXz hX5
 have cN := k_new (q := q) hv0 hX6.st
 simp only [refV, Int.cast_ofNat_Int] at cN
 go_wp2_with fail
 refine cN.mono ?_
 rintro e W9 ⟨rfl, hS9, hz9, hk9⟩
 have hX7 := hX6.call hS9 hk9
 have hX8 := hX7.alloc 5 0 24
 have hX9 := hX8.alloc 5 0 24
 simp only [bx] at hX8 hX9
 obtain ⟨c0, c1, c2, c3, _⟩ := hX8.c 0 rfl
 go_wp2_with fail
 rw [show (W9.alloc (.cells #[.int .i64 5, .int .i64 0, .string ⟨#[]⟩, .int .i64 24] 41 (0, 0))).heap.size = W9.heap.size + 1 from by simp] at hX9
 generalize W9.heap.size + 1 = r15 at *
 generalize W9.heap.size = r13 at *
 clear c0 c1 c2 c3 hX8 hX7 cN hS9 hz9 hk9 hX6
 go_loopw [16, 17, 18] (fun v16 v17 v18 wr => ∃ m : Nat, m ≤ len ∧ v16 = .int .i64 (stK n q m).1 ∧ v17 = .bool (stK n q m).2 ∧ v18 = .int .i64 m ∧ Sx w0 (sgK n q) [(r15, 5, 0, 24), (r13, 5, 0, ((24 + m : Nat) : Int)), (r3, 5, 0, 23), (r2, 5, 0, 22), (r1, 5, 0, 21)] (cT m (hs (m - 1))) 14 W wr) (fun _ _ i _ => match i with | .int _ n => len - n.toNat | _ => 0)
 case atStart => exact ⟨0, Nat.zero_le _, rfl, rfl, rfl, hX9⟩
 case round =>
  obtain ⟨m, hm, rfl, rfl, rfl, hX⟩ := hrel
  by_cases hlt : m < len
  ·apply round w0 n ao len cap h20 xs hx hL q hqd hq hv0 W r1 r2 r3 r13 r15 m hlt wr hX
   intros
   rename_i hX'
   refine ⟨⟨_, _, _, _, _, _, _, _, _, _, _, _, _, _, _, _, _, _, _, _, _, _, _, _, _, _, _, _, _, _, _, _, _, _, _, _, _, _, _, _, _, _, _, _, _, _, _, _, _, _, _, _, _, _, _, _, _, _, _, _, _, _, _, _, ⟨m + 1, hlt, rfl, rfl, rfl, hX'⟩, rfl⟩, ?_⟩
   show len - ((m : Int) + 1).toNat < len - (m : Int).toNat
   omega
  ·have hml : m = len := by omega
   subst hml
   rename_i K hK _ _
   have hKK : (∀ a w, Code.wp Tryz.prog restC (bodyPost Tryz.prog Tryz.f4 fun en w' => en = .returned (.bool true) ∧ Below w0.heap.size w0 w') a w → K a w) ∧ True := ⟨hK, trivial⟩
   clear hK hX9 hL hx
   go_wp2_with fail
   apply hKK.1
   apply tail w0 n hn ao m cap q hq hv0 W r1 r2 r3 r13 r15 m h20 _ hX
theorem law_big (w0 : World) (n : Int) (ao : Option Addr) (len cap : Nat) (h20 : 20 < len) :
  Calls Tryz.prog 4 #[.int .i32 n, .slice ao len cap] w0 fun en w' => en = .returned (.bool true) ∧ Below w0.heap.size w0 w' := by
 have z20 : (20 : Int) < (len : Int) := by omega
 go_enter Tryz.func4, Tryz.ntmps4
 go_wp2_with fail
 go_at_call 13
 refine (awake_calls _).mono ?_
 rintro en W1 ⟨rfl, hb1⟩
 go_wp2_with fail
 go_at_call 13
 refine (awake_calls _).mono ?_
 rintro en W2 ⟨rfl, hb2⟩
 go_wp2_with fail
 go_ret
 exact ⟨rfl, hb1.trans (hb2.mono hb1.size)⟩
end Go.Proofs.YtbckjaoljeimgaaGreatDoor
