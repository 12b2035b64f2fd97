/- MachineLoops hands back true at every input: the evaluator's runs, put together. -/
import Derived.Test.YtaikcgmgjchfmaaGreatDoorRunL0
import Derived.Test.YtaikcgmgjchfmaaGreatDoorRunL1
import Derived.Test.YtaikcgmgjchfmaaGreatDoorRunL2
import Derived.Test.YtaikcgmgjchfmaaGreatDoorRunL3
import Derived.Test.YtaikcgmgjchfmaaGreatDoorRunL4
import Derived.Test.YtaikcgmgjchfmaaGreatDoorRunL5
import Derived.Test.YtaikcgmgjchfmaaGreatDoorRunL6
import Derived.Test.YtaikcgmgjchfmaaGreatDoorRunL7
import Derived.Test.YtaikcgmgjchfmaaGreatDoorRunL8
import Derived.Test.YtaikcgmgjchfmaaGreatDoorRunL9
import Derived.Test.YtaikcgmgjchfmaaGreatDoorRunL10
import Derived.Test.YtaikcgmgjchfmaaGreatDoorRunL11
namespace Go.Proofs.YtaikcgmgjchfmaaGreatDoor.machineLoops
open Go Go.Ev
set_option maxRecDepth 100000
theorem fits_u8 {a : Int} (h : (Lit.int .u8 a).wf = true) : 0 ≤ a ∧ a ≤ 255 := by
  have e1 : IntKind.min .u8 = 0 := by kernel_rfl
  have e2 : IntKind.max .u8 = 255 := by kernel_rfl
  simpa [Lit.wf, e1, e2] using h
theorem lin_of {σ : Sg} {e : Env} {k : IntKind} {c : Int} {ts : Ts} {a : Int} (h : lfVal σ.i c ts = a) : VR σ e (.lin k c ts) (.int k a) := by
  rw [← h]; exact .lin k c ts
theorem sym_of {σ : Sg} {e : Env} {k : IntKind} {s : Nat} {a : Int} (h : σ.i s = a) : VR σ e (.sym k s) (.int k a) := by
  rw [← h]; exact .sym k s
theorem symr_of {σ : Sg} {e : Env} {k : IntKind} {s c lo : Nat} {a : Int} (h : σ.i s = a) (h0 : 0 ≤ a) (hr : a % (c : Int) = (lo : Int)) : VR σ e (.symr k s c lo 1) (.int k a) := by
  obtain ⟨n, rfl⟩ : ∃ n : Nat, a = Int.ofNat n := ⟨a.toNat, by simp only [Int.ofNat_eq_natCast]; omega⟩
  rw [← h]
  refine .symr (σ := σ) k s c lo 1 0 n h (by decide) ?_
  have : ((n % c : Nat) : Int) = (lo : Int) := by rw [Int.natCast_emod]; exact hr
  omega
theorem sat12 {g : Nat → Int} {p0 p1 p2 p3 p4 p5 p6 p7 p8 p9 p10 p11 : Int × Int} (b0 : p0.1 ≤ g 0 ∧ g 0 ≤ p0.2) (b1 : p1.1 ≤ g 1 ∧ g 1 ≤ p1.2) (b2 : p2.1 ≤ g 2 ∧ g 2 ≤ p2.2) (b3 : p3.1 ≤ g 3 ∧ g 3 ≤ p3.2) (b4 : p4.1 ≤ g 4 ∧ g 4 ≤ p4.2) (b5 : p5.1 ≤ g 5 ∧ g 5 ≤ p5.2) (b6 : p6.1 ≤ g 6 ∧ g 6 ≤ p6.2) (b7 : p7.1 ≤ g 7 ∧ g 7 ≤ p7.2) (b8 : p8.1 ≤ g 8 ∧ g 8 ≤ p8.2) (b9 : p9.1 ≤ g 9 ∧ g 9 ≤ p9.2) (b10 : p10.1 ≤ g 10 ∧ g 10 ≤ p10.2) (b11 : p11.1 ≤ g 11 ∧ g 11 ≤ p11.2) : SatI g [p0, p1, p2, p3, p4, p5, p6, p7, p8, p9, p10, p11] := by
  intro s lo hi h
  match s, h with
  | 0, h => cases h; exact b0
  | 1, h => cases h; exact b1
  | 2, h => cases h; exact b2
  | 3, h => cases h; exact b3
  | 4, h => cases h; exact b4
  | 5, h => cases h; exact b5
  | 6, h => cases h; exact b6
  | 7, h => cases h; exact b7
  | 8, h => cases h; exact b8
  | 9, h => cases h; exact b9
  | 10, h => cases h; exact b10
  | 11, h => cases h; exact b11
  | n + 12, h => simp at h
theorem lastN_bd (m : Int) : ∀ n : Nat, 0 ≤ lastN m n ∧ lastN m n ≤ n ∧ lastN m n ≤ sumN m n := by
  intro n
  induction n with
  | zero => exact ⟨Int.le_refl _, Int.le_refl _, Int.le_refl _⟩
  | succ n ih =>
    have := sumN_bd m n
    simp only [lastN, sumN]
    split <;> omega
theorem Pairs.append {σ : Sg} {e : Env} {nt : Nat} {ss ss' : List (Nat × CV)} {vs vs' : List (Nat × Value)} (h : Pairs σ e nt ss vs) (h' : Pairs σ e nt ss' vs') : Pairs σ e nt (ss ++ ss') (vs ++ vs') := by
  induction h with
  | nil => exact h'
  | cons hi h _ ih => exact .cons hi h ih
theorem int_of {σ : Sg} {e : Env} {k : IntKind} {c : Int} {ts : Ts} {a : Int} {v : Value} (h : VR σ e (.lin k c ts) v) (ha : lfVal σ.i c ts = a) : v = .int k a := by
  cases h; rw [ha]
theorem goB {cb : Code} (hbody : Tryz.f3.body = some cb) {how n : Nat} (hh : how ≠ 0) {nF a b : Int × Ts} {iv : Ivs} {ne : List (Int × Ts)} (hr : (runB how nF a b iv ne).val = true) {σ : Sg} (hs : Sat σ ⟨iv, ne⟩) {m : Int} (hm : 1 + σ.i 4 = m) (hm' : 1 ≤ m ∧ m ≤ 7) (hn : lfVal σ.i nF.1 nF.2 = n) (hn' : 1 ≤ n ∧ n ≤ 39)
    (h6 : σ.i 6 = m * tri n) (h7 : σ.i 7 = m * tri (n - 1)) (h8 : σ.i 8 = (n : Int) - 1) (h9 : σ.i 9 = ((n : Int) - 1) * m) (w : World) {a0 a1 a2 : Int} (h0 : σ.i 0 = a2) (c2 : 0 ≤ a2) (ha : lfVal σ.i a.1 a.2 = a0) (hb : lfVal σ.i b.1 b.2 = a1) (hw : a2 % 5 = how) :
    Calls Tryz.prog 3 #[.int .u8 a0, .int .u8 a1, .int .u8 a2] w fun e w' => e = .returned (.bool true) ∧ w.keptBut w' (fun _ => False) := by
  have hv : LR σ (fun _ => none) [.lin .u8 a.1 a.2, .lin .u8 b.1 b.2, .symr .u8 0 5 how 1] (#[.int .u8 a0, .int .u8 a1, .int .u8 a2] : Array Value).toList := LR.cons (lin_of ha) (LR.cons (lin_of hb) (LR.cons (symr_of h0 c2 hw) LR.nil))
  have em : lfVal σ.i 1 [(1, 4)] = m := by simp only [lfVal, tsVal]; omega
  refine loop_calls hbody hr (evX_ok (by decide) fun e T w hT hc => ?_) hs hn (fun h => absurd h hh) (by rw [if_neg hh, em]; exact h6) w _ hv
  obtain ⟨v7, q7, r7⟩ := hc (7, _) (List.mem_cons_self ..)
  obtain ⟨v8, q8, r8⟩ := hc (8, _) (List.mem_cons_of_mem _ (List.mem_cons_self ..))
  obtain ⟨v12, q12, r12⟩ := hc (12, _) (List.mem_cons_of_mem _ (List.mem_cons_of_mem _ (List.mem_cons_self ..)))
  obtain ⟨v14, q14, r14⟩ := hc (14, _) (List.mem_cons_of_mem _ (List.mem_cons_of_mem _ (List.mem_cons_of_mem _ (List.mem_cons_self ..))))
  obtain rfl := int_of r7 hn
  obtain rfl := int_of r8 em
  cases r12
  cases r14
  refine ⟨setB n m, ?_, loopB_wp cb hbody n m hn' hm' T hT q7 q8 q12 q14 w⟩
  have N : VR σ e (.lin .i64 nF.1 nF.2) (.int .i64 n) := lin_of hn
  have M : VR σ e (.lin .i64 1 [(1, 4)]) (.int .i64 m) := lin_of em
  exact .cons (by decide) (sym_of h6) (.cons (by decide) N (.cons (by decide) N (.cons (by decide) N (.cons (by decide) (.bool false) (.cons (by decide) (sym_of h7) (.cons (by decide) (sym_of h8) (.cons (by decide) M (.cons (by decide) (sym_of h9) (.cons (by decide) (sym_of h6) (.cons (by decide) (sym_of h8) (.cons (by decide) N .nil)))))))))))
theorem goA {cb : Code} (hbody : Tryz.f3.body = some cb) {n : Nat} {m : Int} {q : Bool} {nF a b : Int × Ts} {iv : Ivs} (hr : (runAt m q nF a b iv).val = true) {σ : Sg} (hs : Sat σ ⟨iv, []⟩) (hm' : 1 ≤ m ∧ m ≤ 7) (hn : lfVal σ.i nF.1 nF.2 = n) (hn' : 1 ≤ n ∧ n ≤ 39) (h2 : 2 ≤ m → 2 ≤ n)
    (h6 : σ.i 6 = sumN m n) (h7 : σ.i 7 = sumN m n - lastN m n) (h8 : σ.i 8 = (n : Int) - 1) (h9 : σ.i 9 = ((n : Int) - 1) % m) (h10 : σ.i 10 = lastN m n) (hq : (((n : Int) - 1) % m != 0) = q) (w : World) {a0 a1 a2 : Int} (h0 : σ.i 0 = a2) (c2 : 0 ≤ a2) (ha : lfVal σ.i a.1 a.2 = a0) (hb : lfVal σ.i b.1 b.2 = a1) (hw : a2 % 5 = 0) :
    Calls Tryz.prog 3 #[.int .u8 a0, .int .u8 a1, .int .u8 a2] w fun e w' => e = .returned (.bool true) ∧ w.keptBut w' (fun _ => False) := by
  have hv : LR σ (fun _ => none) [.lin .u8 a.1 a.2, .lin .u8 b.1 b.2, .symr .u8 0 5 0 1] (#[.int .u8 a0, .int .u8 a1, .int .u8 a2] : Array Value).toList := LR.cons (lin_of ha) (LR.cons (lin_of hb) (LR.cons (symr_of h0 c2 hw) LR.nil))
  refine loop_calls hbody hr (evX_ok (by decide) fun e T w hT hc => ?_) hs hn (fun _ => rfl) (by rw [if_pos rfl]; exact h6) w _ hv
  obtain ⟨v7, q7, r7⟩ := hc (7, _) (List.mem_cons_self ..)
  obtain ⟨v8, q8, r8⟩ := hc (8, _) (List.mem_cons_of_mem _ (List.mem_cons_self ..))
  obtain ⟨v12, q12, r12⟩ := hc (12, _) (List.mem_cons_of_mem _ (List.mem_cons_of_mem _ (List.mem_cons_self ..)))
  obtain ⟨v13, q13, r13⟩ := hc (13, _) (List.mem_cons_of_mem _ (List.mem_cons_of_mem _ (List.mem_cons_of_mem _ (List.mem_cons_self ..))))
  obtain rfl := int_of r7 hn
  cases r8
  cases r12
  cases r13
  refine ⟨setA1 n m (((n : Int) - 1) % m != 0) ++ if m = 1 then [] else setA2 n m, ?_, loopA_wp cb hbody n m hn' hm' h2 T hT q7 q8 q12 q13 w⟩
  have N : VR σ e (.lin .i64 nF.1 nF.2) (.int .i64 n) := lin_of hn
  have M : VR σ e (.int .i64 m) (.int .i64 m) := .int _ _
  refine Pairs.append ?_ ?_
  · rw [hq]
    exact .cons (by decide) (sym_of h6) (.cons (by decide) N (.cons (by decide) N (.cons (by decide) N (.cons (by decide) (.bool false) (.cons (by decide) (sym_of h8) (.cons (by decide) M (.cons (by decide) (sym_of h9) (.cons (by decide) (.bool q) (.cons (by decide) (sym_of h8) (.cons (by decide) N .nil))))))))))
  · rw [eqI_eq]
    by_cases h1 : m = 1
    · rw [if_pos h1, decide_eq_true h1]; exact .nil
    · rw [if_neg h1, decide_eq_false h1]
      exact .cons (by decide) (sym_of h7) (.cons (by decide) (sym_of h10) (.cons (by decide) (sym_of h6) .nil))
theorem goN {cb : Code} (hbody : Tryz.f3.body = some cb) {how : Nat} {a b : Int × Ts} {iv : Ivs} (hr : (runN how a b iv).val = true) {σ : Sg} (hs : Sat σ ⟨iv, []⟩) (w : World) {a0 a1 a2 : Int} (h0 : σ.i 0 = a2) (c2 : 0 ≤ a2) (ha : lfVal σ.i a.1 a.2 = a0) (hb : lfVal σ.i b.1 b.2 = a1) (hw : a2 % 5 = how) :
    Calls Tryz.prog 3 #[.int .u8 a0, .int .u8 a1, .int .u8 a2] w fun e w' => e = .returned (.bool true) ∧ w.keptBut w' (fun _ => False) :=
  law_calls Tryz.func3 hbody hr hs w _ (LR.cons (lin_of ha) (LR.cons (lin_of hb) (LR.cons (symr_of h0 c2 hw) LR.nil)))
/-- the symbols -/
structure Dat (σ : Sg) (a0 a1 a2 s6 s7 s8 s9 s10 s11 : Int) : Prop where
  g0 : σ.i 0 = a2
  g1 : σ.i 1 = a0 / 40
  g2 : σ.i 2 = a0 % 10
  g3 : σ.i 3 = a1 / 7
  g4 : σ.i 4 = a1 % 7
  g5 : σ.i 5 = a0 % 40 / 10
  g6 : σ.i 6 = s6
  g7 : σ.i 7 = s7
  g8 : σ.i 8 = s8
  g9 : σ.i 9 = s9
  g10 : σ.i 10 = s10
  g11 : σ.i 11 = s11
theorem dat (a0 a1 a2 s6 s7 s8 s9 s10 s11 : Int) : ∃ σ, Dat σ a0 a1 a2 s6 s7 s8 s9 s10 s11 :=
  ⟨{ i := fun s => match s with | 0 => a2 | 1 => a0 / 40 | 2 => a0 % 10 | 3 => a1 / 7 | 4 => a1 % 7 | 5 => a0 % 40 / 10 | 6 => s6 | 7 => s7 | 8 => s8 | 9 => s9 | 10 => s10 | _ => s11, s := fun _ => ByteArray.empty }, rfl, rfl, rfl, rfl, rfl, rfl, rfl, rfl, rfl, rfl, rfl, rfl⟩
theorem Dat.sat {σ : Sg} {a0 a1 a2 s6 s7 s8 s9 s10 s11 : Int} (d : Dat σ a0 a1 a2 s6 s7 s8 s9 s10 s11) (c0 : 0 ≤ a0 ∧ a0 ≤ 255) (c1 : 0 ≤ a1 ∧ a1 ≤ 255) (c2 : 0 ≤ a2 ∧ a2 ≤ 255) (h6 : 0 ≤ s6 ∧ s6 ≤ 6000) (h7 : 0 ≤ s7 ∧ s7 ≤ 6000) (h8 : 0 ≤ s8 ∧ s8 ≤ 39) (h9 : 0 ≤ s9 ∧ s9 ≤ 300) (h10 : 0 ≤ s10 ∧ s10 ≤ 39)
    {p2 p5 : Int × Int} (b2 : p2.1 ≤ σ.i 2 ∧ σ.i 2 ≤ p2.2) (b5 : p5.1 ≤ σ.i 5 ∧ σ.i 5 ≤ p5.2) : SatI σ.i [(0, 255), (0, 6), p2, (0, 36), (0, 6), p5, (0, 6000), (0, 6000), (0, 39), (0, 300), (0, 39), (s11, s11)] := by
  obtain ⟨g0, g1, g2, g3, g4, g5, g6, g7, g8, g9, g10, g11⟩ := d
  refine sat12 ?_ ?_ b2 ?_ ?_ b5 ?_ ?_ ?_ ?_ ?_ ?_ <;> simp only [g0, g1, g3, g4, g6, g7, g8, g9, g10, g11] <;> omega
/-- the runs that need no contract: no round, or none but one; the last script -/
theorem plain (cb : Code) (hbody : Tryz.f3.body = some cb) (a0 a1 a2 : Int) (c0 : 0 ≤ a0 ∧ a0 ≤ 255) (c1 : 0 ≤ a1 ∧ a1 ≤ 255) (c2 : 0 ≤ a2 ∧ a2 ≤ 255) (w : World) (h : a2 % 5 = 4 ∨ a0 % 40 = 0 ∨ (a2 % 5 = 0 ∧ a0 % 40 = 1 ∧ 1 ≤ a1 % 7)) : Calls Tryz.prog 3 #[.int .u8 a0, .int .u8 a1, .int .u8 a2] w fun e w' => e = .returned (.bool true) ∧ w.keptBut w' (fun _ => False) := by
  have N0 : ∀ {σ : Sg}, ∀ x ∈ ([] : List (Int × Ts)), lfVal σ.i x.1 x.2 ≠ 0 := fun x hx => by cases hx
  obtain ⟨σ, D⟩ := dat a0 a1 a2 (0) (0) (0) (0) (0) (0)
  have S : ∀ {p2 p5 : Int × Int}, _ → _ → _ := fun {p2 p5} => D.sat c0 c1 c2 (by omega) (by omega) (by omega) (by omega) (by omega) (p2 := p2) (p5 := p5)
  obtain ⟨g0, g1, g2, g3, g4, g5, g6, g7, g8, g9, g10, g11⟩ := D
  rcases (by omega : a2 % 5 = 0 ∨ a2 % 5 = 1 ∨ a2 % 5 = 2 ∨ a2 % 5 = 3 ∨ a2 % 5 = 4) with k | k | k | k | k
  · rcases (by omega : a1 % 7 = 0 ∨ a1 % 7 = 1 ∨ a1 % 7 = 2 ∨ a1 % 7 = 3 ∨ a1 % 7 = 4 ∨ a1 % 7 = 5 ∨ a1 % 7 = 6) with m | m | m | m | m | m | m
    · refine goN hbody (vt loops9.1 rfl) ⟨S ?_ ?_, N0⟩ w g0 c2.1 ?_ ?_ ?_ <;> (try simp only [lfVal, tsVal, g1, g2, g3, g5]) <;> omega
    · by_cases z : a0 % 40 = 0
      · refine goN hbody (vt loops6.1 rfl) ⟨S ?_ ?_, N0⟩ w g0 c2.1 ?_ ?_ ?_ <;> (try simp only [lfVal, tsVal, g1, g2, g3, g5]) <;> omega
      · refine goN hbody (vt loops1.1 rfl) ⟨S ?_ ?_, N0⟩ w g0 c2.1 ?_ ?_ ?_ <;> (try simp only [lfVal, tsVal, g1, g2, g3, g5]) <;> omega
    · by_cases z : a0 % 40 = 0
      · refine goN hbody (vt loops2.2.2.2.1 rfl) ⟨S ?_ ?_, N0⟩ w g0 c2.1 ?_ ?_ ?_ <;> (try simp only [lfVal, tsVal, g1, g2, g3, g5]) <;> omega
      · refine goN hbody (vt loops5.2.2.2.1 rfl) ⟨S ?_ ?_, N0⟩ w g0 c2.1 ?_ ?_ ?_ <;> (try simp only [lfVal, tsVal, g1, g2, g3, g5]) <;> omega
    · by_cases z : a0 % 40 = 0
      · refine goN hbody (vt loops8.2.2.2.2.1 rfl) ⟨S ?_ ?_, N0⟩ w g0 c2.1 ?_ ?_ ?_ <;> (try simp only [lfVal, tsVal, g1, g2, g3, g5]) <;> omega
      · refine goN hbody (vt loops7.1 rfl) ⟨S ?_ ?_, N0⟩ w g0 c2.1 ?_ ?_ ?_ <;> (try simp only [lfVal, tsVal, g1, g2, g3, g5]) <;> omega
    · by_cases z : a0 % 40 = 0
      · refine goN hbody (vt loops10.2.2.2.2.2.1 rfl) ⟨S ?_ ?_, N0⟩ w g0 c2.1 ?_ ?_ ?_ <;> (try simp only [lfVal, tsVal, g1, g2, g3, g5]) <;> omega
      · refine goN hbody (vt loops3.2.2.1 rfl) ⟨S ?_ ?_, N0⟩ w g0 c2.1 ?_ ?_ ?_ <;> (try simp only [lfVal, tsVal, g1, g2, g3, g5]) <;> omega
    · by_cases z : a0 % 40 = 0
      · refine goN hbody (vt loops1.2.2.1 rfl) ⟨S ?_ ?_, N0⟩ w g0 c2.1 ?_ ?_ ?_ <;> (try simp only [lfVal, tsVal, g1, g2, g3, g5]) <;> omega
      · refine goN hbody (vt loops4.2.2.2.2.2.1 rfl) ⟨S ?_ ?_, N0⟩ w g0 c2.1 ?_ ?_ ?_ <;> (try simp only [lfVal, tsVal, g1, g2, g3, g5]) <;> omega
    · by_cases z : a0 % 40 = 0
      · refine goN hbody (vt loops5.2.2.2.2.2.2.1 rfl) ⟨S ?_ ?_, N0⟩ w g0 c2.1 ?_ ?_ ?_ <;> (try simp only [lfVal, tsVal, g1, g2, g3, g5]) <;> omega
      · refine goN hbody (vt loops11.2.2.2.2.2.1 rfl) ⟨S ?_ ?_, N0⟩ w g0 c2.1 ?_ ?_ ?_ <;> (try simp only [lfVal, tsVal, g1, g2, g3, g5]) <;> omega
  · refine goN hbody (vt loops7.2.2.2.2.2.1 rfl) ⟨S ?_ ?_, N0⟩ w g0 c2.1 ?_ ?_ ?_ <;> (try simp only [lfVal, tsVal, g1, g2, g3, g4, g5]) <;> omega
  · refine goN hbody (vt loops1.2.2.2.2.1 rfl) ⟨S ?_ ?_, N0⟩ w g0 c2.1 ?_ ?_ ?_ <;> (try simp only [lfVal, tsVal, g1, g2, g3, g4, g5]) <;> omega
  · refine goN hbody (vt loops5.2.2.2.2.2.2.2.2.2 rfl) ⟨S ?_ ?_, N0⟩ w g0 c2.1 ?_ ?_ ?_ <;> (try simp only [lfVal, tsVal, g1, g2, g3, g4, g5]) <;> omega
  · rcases (by omega : a1 % 7 = 0 ∨ a1 % 7 = 1 ∨ a1 % 7 = 2 ∨ a1 % 7 = 3 ∨ a1 % 7 = 4 ∨ a1 % 7 = 5 ∨ a1 % 7 = 6) with m | m | m | m | m | m | m
    · by_cases z : a0 % 40 / 10 = 0
      · refine goN hbody (vt loops11.2.2.2.2.2.2.2.1 rfl) ⟨S ?_ ?_, N0⟩ w g0 c2.1 ?_ ?_ ?_ <;> (try simp only [lfVal, tsVal, g1, g2, g3, g5]) <;> omega
      · refine goN hbody (vt loops8.2.2.2.2.2.2.2.1 rfl) ⟨S ?_ ?_, N0⟩ w g0 c2.1 ?_ ?_ ?_ <;> (try simp only [lfVal, tsVal, g1, g2, g3, g5]) <;> omega
    · by_cases z : a0 % 40 / 10 = 0
      · refine goN hbody (vt loops10.2.2.2.2.2.2.2.2 rfl) ⟨S ?_ ?_, N0⟩ w g0 c2.1 ?_ ?_ ?_ <;> (try simp only [lfVal, tsVal, g1, g2, g3, g5]) <;> omega
      · refine goN hbody (vt loops6.2.2.2.2.2.2.2.1 rfl) ⟨S ?_ ?_, N0⟩ w g0 c2.1 ?_ ?_ ?_ <;> (try simp only [lfVal, tsVal, g1, g2, g3, g5]) <;> omega
    · by_cases z : a0 % 40 / 10 = 0
      · refine goN hbody (vt loops3.2.2.2.2.2.2.2.1 rfl) ⟨S ?_ ?_, N0⟩ w g0 c2.1 ?_ ?_ ?_ <;> (try simp only [lfVal, tsVal, g1, g2, g3, g5]) <;> omega
      · refine goN hbody (vt loops9.2.2.2.2.2.2.2.1 rfl) ⟨S ?_ ?_, N0⟩ w g0 c2.1 ?_ ?_ ?_ <;> (try simp only [lfVal, tsVal, g1, g2, g3, g5]) <;> omega
    · by_cases z : a0 % 40 / 10 = 0
      · refine goN hbody (vt loops6.2.2.2.2.2.2.2.2 rfl) ⟨S ?_ ?_, N0⟩ w g0 c2.1 ?_ ?_ ?_ <;> (try simp only [lfVal, tsVal, g1, g2, g3, g5]) <;> omega
      · refine goN hbody (vt loops7.2.2.2.2.2.2.2.2.1 rfl) ⟨S ?_ ?_, N0⟩ w g0 c2.1 ?_ ?_ ?_ <;> (try simp only [lfVal, tsVal, g1, g2, g3, g5]) <;> omega
    · by_cases z : a0 % 40 / 10 = 0
      · refine goN hbody (vt loops7.2.2.2.2.2.2.2.2.2 rfl) ⟨S ?_ ?_, N0⟩ w g0 c2.1 ?_ ?_ ?_ <;> (try simp only [lfVal, tsVal, g1, g2, g3, g5]) <;> omega
      · refine goN hbody (vt loops3.2.2.2.2.2.2.2.2 rfl) ⟨S ?_ ?_, N0⟩ w g0 c2.1 ?_ ?_ ?_ <;> (try simp only [lfVal, tsVal, g1, g2, g3, g5]) <;> omega
    · by_cases z : a0 % 40 / 10 = 0
      · refine goN hbody (vt loops8.2.2.2.2.2.2.2.2 rfl) ⟨S ?_ ?_, N0⟩ w g0 c2.1 ?_ ?_ ?_ <;> (try simp only [lfVal, tsVal, g1, g2, g3, g5]) <;> omega
      · refine goN hbody (vt loops4.2.2.2.2.2.2.2.2 rfl) ⟨S ?_ ?_, N0⟩ w g0 c2.1 ?_ ?_ ?_ <;> (try simp only [lfVal, tsVal, g1, g2, g3, g5]) <;> omega
    · by_cases z : a0 % 40 / 10 = 0
      · refine goN hbody (vt loops9.2.2.2.2.2.2.2.2 rfl) ⟨S ?_ ?_, N0⟩ w g0 c2.1 ?_ ?_ ?_ <;> (try simp only [lfVal, tsVal, g1, g2, g3, g5]) <;> omega
      · refine goN hbody (vt loops11.2.2.2.2.2.2.2.2 rfl) ⟨S ?_ ?_, N0⟩ w g0 c2.1 ?_ ?_ ?_ <;> (try simp only [lfVal, tsVal, g1, g2, g3, g5]) <;> omega
/-- the scripts whose sum is m (0 + .. + (n - 1)) -/
theorem sums (cb : Code) (hbody : Tryz.f3.body = some cb) (a0 a1 a2 : Int) (c0 : 0 ≤ a0 ∧ a0 ≤ 255) (c1 : 0 ≤ a1 ∧ a1 ≤ 255) (c2 : 0 ≤ a2 ∧ a2 ≤ 255) (w : World) (h : a2 % 5 = 1 ∨ a2 % 5 = 2 ∨ a2 % 5 = 3) (n : Nat) (hn : (n : Int) = a0 % 40) (h1 : 1 ≤ n) (m : Int) (em : m = a1 % 7 + 1) : Calls Tryz.prog 3 #[.int .u8 a0, .int .u8 a1, .int .u8 a2] w fun e w' => e = .returned (.bool true) ∧ w.keptBut w' (fun _ => False) := by
  have hm : 1 ≤ m ∧ m ≤ 7 := by omega
  have t1 := mul_bd (a := m) (b := tri n) ⟨by omega, hm.2⟩ (tri_bd n (by omega))
  have t2 := mul_bd (a := m) (b := tri (n - 1)) ⟨by omega, hm.2⟩ (tri_bd (n - 1) (by omega))
  have t3 := mul_bd (a := (n : Int) - 1) (b := m) (x := 38) ⟨by omega, by omega⟩ ⟨by omega, hm.2⟩
  have N0 : ∀ {σ : Sg}, ∀ x ∈ ([] : List (Int × Ts)), lfVal σ.i x.1 x.2 ≠ 0 := fun x hx => by cases hx
  obtain ⟨σ, D⟩ := dat a0 a1 a2 (m * tri n) (m * tri (n - 1)) ((n : Int) - 1) (((n : Int) - 1) * m) (0) (0)
  have S : ∀ {p2 p5 : Int × Int}, _ → _ → _ := fun {p2 p5} => D.sat c0 c1 c2 (by omega) (by omega) (by omega) (by omega) (by omega) (p2 := p2) (p5 := p5)
  obtain ⟨g0, g1, g2, g3, g4, g5, g6, g7, g8, g9, g10, g11⟩ := D
  have e4 : 1 + σ.i 4 = m := by rw [g4]; omega
  rcases h with k | k | k
  · rcases (by omega : a0 % 40 / 10 = 0 ∨ a0 % 40 / 10 = 1 ∨ a0 % 40 / 10 = 2 ∨ a0 % 40 / 10 = 3) with d | d | d | d
    · by_cases q : a0 % 10 = a1 % 7 + 1
      · refine goB hbody (by decide) (vt loops2.2.2.2.2.2.1 rfl) ⟨S ?_ ?_, N0⟩ e4 hm ?_ (by omega) g6 g7 g8 g9 w g0 c2.1 ?_ ?_ ?_ <;> (try simp only [lfVal, tsVal, g1, g2, g3, g4, g5, hn]) <;> omega
      · refine goB hbody (by decide) (vt loops7.2.2.2.2.1 rfl) ⟨S ?_ ?_, fun x hx => by obtain rfl := List.mem_singleton.1 hx; simp only [lfVal, tsVal, g2, g4]; omega⟩ e4 hm ?_ (by omega) g6 g7 g8 g9 w g0 c2.1 ?_ ?_ ?_ <;> (try simp only [lfVal, tsVal, g1, g2, g3, g4, g5, hn]) <;> omega
    · refine goB hbody (by decide) (vt loops4.2.2.2.2.2.2.1 rfl) ⟨S ?_ ?_, N0⟩ e4 hm ?_ (by omega) g6 g7 g8 g9 w g0 c2.1 ?_ ?_ ?_ <;> (try simp only [lfVal, tsVal, g1, g2, g3, g4, g5, hn]) <;> omega
    · refine goB hbody (by decide) (vt loops6.2.2.2.2.2.2.1 rfl) ⟨S ?_ ?_, N0⟩ e4 hm ?_ (by omega) g6 g7 g8 g9 w g0 c2.1 ?_ ?_ ?_ <;> (try simp only [lfVal, tsVal, g1, g2, g3, g4, g5, hn]) <;> omega
    · refine goB hbody (by decide) (vt loops5.2.2.2.2.2.2.2.1 rfl) ⟨S ?_ ?_, N0⟩ e4 hm ?_ (by omega) g6 g7 g8 g9 w g0 c2.1 ?_ ?_ ?_ <;> (try simp only [lfVal, tsVal, g1, g2, g3, g4, g5, hn]) <;> omega
  · rcases (by omega : a0 % 40 / 10 = 0 ∨ a0 % 40 / 10 = 1 ∨ a0 % 40 / 10 = 2 ∨ a0 % 40 / 10 = 3) with d | d | d | d
    · by_cases q : a0 % 10 = a1 % 7 + 1
      · refine goB hbody (by decide) (vt loops1.2.2.2.1 rfl) ⟨S ?_ ?_, N0⟩ e4 hm ?_ (by omega) g6 g7 g8 g9 w g0 c2.1 ?_ ?_ ?_ <;> (try simp only [lfVal, tsVal, g1, g2, g3, g4, g5, hn]) <;> omega
      · refine goB hbody (by decide) (vt loops11.2.2.2.2.2.2.1 rfl) ⟨S ?_ ?_, fun x hx => by obtain rfl := List.mem_singleton.1 hx; simp only [lfVal, tsVal, g2, g4]; omega⟩ e4 hm ?_ (by omega) g6 g7 g8 g9 w g0 c2.1 ?_ ?_ ?_ <;> (try simp only [lfVal, tsVal, g1, g2, g3, g4, g5, hn]) <;> omega
    · refine goB hbody (by decide) (vt loops7.2.2.2.2.2.2.1 rfl) ⟨S ?_ ?_, N0⟩ e4 hm ?_ (by omega) g6 g7 g8 g9 w g0 c2.1 ?_ ?_ ?_ <;> (try simp only [lfVal, tsVal, g1, g2, g3, g4, g5, hn]) <;> omega
    · refine goB hbody (by decide) (vt loops5.2.2.2.2.2.2.2.2.1 rfl) ⟨S ?_ ?_, N0⟩ e4 hm ?_ (by omega) g6 g7 g8 g9 w g0 c2.1 ?_ ?_ ?_ <;> (try simp only [lfVal, tsVal, g1, g2, g3, g4, g5, hn]) <;> omega
    · refine goB hbody (by decide) (vt loops3.2.2.2.2.2.2.1 rfl) ⟨S ?_ ?_, N0⟩ e4 hm ?_ (by omega) g6 g7 g8 g9 w g0 c2.1 ?_ ?_ ?_ <;> (try simp only [lfVal, tsVal, g1, g2, g3, g4, g5, hn]) <;> omega
  · rcases (by omega : a0 % 40 / 10 = 0 ∨ a0 % 40 / 10 = 1 ∨ a0 % 40 / 10 = 2 ∨ a0 % 40 / 10 = 3) with d | d | d | d
    · by_cases q : a0 % 10 = a1 % 7 + 1
      · refine goB hbody (by decide) (vt loops7.2.2.2.2.2.2.2.1 rfl) ⟨S ?_ ?_, N0⟩ e4 hm ?_ (by omega) g6 g7 g8 g9 w g0 c2.1 ?_ ?_ ?_ <;> (try simp only [lfVal, tsVal, g1, g2, g3, g4, g5, hn]) <;> omega
      · refine goB hbody (by decide) (vt loops4.2.2.2.2.2.2.2.1 rfl) ⟨S ?_ ?_, fun x hx => by obtain rfl := List.mem_singleton.1 hx; simp only [lfVal, tsVal, g2, g4]; omega⟩ e4 hm ?_ (by omega) g6 g7 g8 g9 w g0 c2.1 ?_ ?_ ?_ <;> (try simp only [lfVal, tsVal, g1, g2, g3, g4, g5, hn]) <;> omega
    · refine goB hbody (by decide) (vt loops2.2.2.2.2.2.2 rfl) ⟨S ?_ ?_, N0⟩ e4 hm ?_ (by omega) g6 g7 g8 g9 w g0 c2.1 ?_ ?_ ?_ <;> (try simp only [lfVal, tsVal, g1, g2, g3, g4, g5, hn]) <;> omega
    · refine goB hbody (by decide) (vt loops1.2.2.2.2.2 rfl) ⟨S ?_ ?_, N0⟩ e4 hm ?_ (by omega) g6 g7 g8 g9 w g0 c2.1 ?_ ?_ ?_ <;> (try simp only [lfVal, tsVal, g1, g2, g3, g4, g5, hn]) <;> omega
    · refine goB hbody (by decide) (vt loops0 rfl) ⟨S ?_ ?_, N0⟩ e4 hm ?_ (by omega) g6 g7 g8 g9 w g0 c2.1 ?_ ?_ ?_ <;> (try simp only [lfVal, tsVal, g1, g2, g3, g4, g5, hn]) <;> omega
theorem odd1 (cb : Code) (hbody : Tryz.f3.body = some cb) (a0 a1 a2 : Int) (c0 : 0 ≤ a0 ∧ a0 ≤ 255) (c1 : 0 ≤ a1 ∧ a1 ≤ 255) (c2 : 0 ≤ a2 ∧ a2 ≤ 255) (w : World) (h : a2 % 5 = 0) (n : Nat) (hn : (n : Int) = a0 % 40) (h1 : 1 ≤ n) (em : a1 % 7 = 0) (q : Bool) (hq : (((n : Int) - 1) % 1 != 0) = q) : Calls Tryz.prog 3 #[.int .u8 a0, .int .u8 a1, .int .u8 a2] w fun e w' => e = .returned (.bool true) ∧ w.keptBut w' (fun _ => False) := by
  have t1 := sumN_bd 1 n
  have t2 := tri_bd n (by omega)
  have t3 := lastN_bd 1 n
  have N0 : ∀ {σ : Sg}, ∀ x ∈ ([] : List (Int × Ts)), lfVal σ.i x.1 x.2 ≠ 0 := fun x hx => by cases hx
  have q0 : q = false := by rw [← hq]; simp
  subst q0
  obtain ⟨σ, D⟩ := dat a0 a1 a2 (sumN 1 n) (sumN 1 n - lastN 1 n) ((n : Int) - 1) (((n : Int) - 1) % 1) (lastN 1 n) (0)
  have S : ∀ {p2 p5 : Int × Int}, _ → _ → _ := fun {p2 p5} => D.sat c0 c1 c2 (by omega) (by omega) (by omega) (by omega) (by omega) (p2 := p2) (p5 := p5)
  obtain ⟨g0, g1, g2, g3, g4, g5, g6, g7, g8, g9, g10, g11⟩ := D
  rcases (by omega : a0 % 40 / 10 = 0 ∨ a0 % 40 / 10 = 1 ∨ a0 % 40 / 10 = 2 ∨ a0 % 40 / 10 = 3) with d | d | d | d
  · refine goA hbody (vt loops10.1 rfl) ⟨S ?_ ?_, N0⟩ (by decide) ?_ (by omega) (by omega) g6 g7 g8 g9 g10 hq w g0 c2.1 ?_ ?_ ?_ <;> (try simp only [lfVal, tsVal, g1, g2, g3, g5, hn]) <;> omega
  · refine goA hbody (vt loops8.1 rfl) ⟨S ?_ ?_, N0⟩ (by decide) ?_ (by omega) (by omega) g6 g7 g8 g9 g10 hq w g0 c2.1 ?_ ?_ ?_ <;> (try simp only [lfVal, tsVal, g1, g2, g3, g5, hn]) <;> omega
  · refine goA hbody (vt loops3.1 rfl) ⟨S ?_ ?_, N0⟩ (by decide) ?_ (by omega) (by omega) g6 g7 g8 g9 g10 hq w g0 c2.1 ?_ ?_ ?_ <;> (try simp only [lfVal, tsVal, g1, g2, g3, g5, hn]) <;> omega
  · refine goA hbody (vt loops4.1 rfl) ⟨S ?_ ?_, N0⟩ (by decide) ?_ (by omega) (by omega) g6 g7 g8 g9 g10 hq w g0 c2.1 ?_ ?_ ?_ <;> (try simp only [lfVal, tsVal, g1, g2, g3, g5, hn]) <;> omega
theorem odd2 (cb : Code) (hbody : Tryz.f3.body = some cb) (a0 a1 a2 : Int) (c0 : 0 ≤ a0 ∧ a0 ≤ 255) (c1 : 0 ≤ a1 ∧ a1 ≤ 255) (c2 : 0 ≤ a2 ∧ a2 ≤ 255) (w : World) (h : a2 % 5 = 0) (n : Nat) (hn : (n : Int) = a0 % 40) (h1 : 2 ≤ n) (em : a1 % 7 = 1) (q : Bool) (hq : (((n : Int) - 1) % 2 != 0) = q) : Calls Tryz.prog 3 #[.int .u8 a0, .int .u8 a1, .int .u8 a2] w fun e w' => e = .returned (.bool true) ∧ w.keptBut w' (fun _ => False) := by
  have t1 := sumN_bd 2 n
  have t2 := tri_bd n (by omega)
  have t3 := lastN_bd 2 n
  have N0 : ∀ {σ : Sg}, ∀ x ∈ ([] : List (Int × Ts)), lfVal σ.i x.1 x.2 ≠ 0 := fun x hx => by cases hx
  cases q with
  | false =>
    obtain ⟨σ, D⟩ := dat a0 a1 a2 (sumN 2 n) (sumN 2 n - lastN 2 n) ((n : Int) - 1) (((n : Int) - 1) % 2) (lastN 2 n) (0)
    have S : ∀ {p2 p5 : Int × Int}, _ → _ → _ := fun {p2 p5} => D.sat c0 c1 c2 (by omega) (by omega) (by omega) (by omega) (by omega) (p2 := p2) (p5 := p5)
    obtain ⟨g0, g1, g2, g3, g4, g5, g6, g7, g8, g9, g10, g11⟩ := D
    rcases (by omega : a0 % 40 / 10 = 0 ∨ a0 % 40 / 10 = 1 ∨ a0 % 40 / 10 = 2 ∨ a0 % 40 / 10 = 3) with d | d | d | d
    · refine goA hbody (vt loops10.2.1 rfl) ⟨S ?_ ?_, N0⟩ (by decide) ?_ (by omega) (by omega) g6 g7 g8 g9 g10 hq w g0 c2.1 ?_ ?_ ?_ <;> (try simp only [lfVal, tsVal, g1, g2, g3, g5, hn]) <;> omega
    · refine goA hbody (vt loops4.2.1 rfl) ⟨S ?_ ?_, N0⟩ (by decide) ?_ (by omega) (by omega) g6 g7 g8 g9 g10 hq w g0 c2.1 ?_ ?_ ?_ <;> (try simp only [lfVal, tsVal, g1, g2, g3, g5, hn]) <;> omega
    · refine goA hbody (vt loops5.1 rfl) ⟨S ?_ ?_, N0⟩ (by decide) ?_ (by omega) (by omega) g6 g7 g8 g9 g10 hq w g0 c2.1 ?_ ?_ ?_ <;> (try simp only [lfVal, tsVal, g1, g2, g3, g5, hn]) <;> omega
    · refine goA hbody (vt loops8.2.1 rfl) ⟨S ?_ ?_, N0⟩ (by decide) ?_ (by omega) (by omega) g6 g7 g8 g9 g10 hq w g0 c2.1 ?_ ?_ ?_ <;> (try simp only [lfVal, tsVal, g1, g2, g3, g5, hn]) <;> omega
  | true =>
    obtain ⟨σ, D⟩ := dat a0 a1 a2 (sumN 2 n) (sumN 2 n - lastN 2 n) ((n : Int) - 1) (((n : Int) - 1) % 2) (lastN 2 n) (1)
    have S : ∀ {p2 p5 : Int × Int}, _ → _ → _ := fun {p2 p5} => D.sat c0 c1 c2 (by omega) (by omega) (by omega) (by omega) (by omega) (p2 := p2) (p5 := p5)
    obtain ⟨g0, g1, g2, g3, g4, g5, g6, g7, g8, g9, g10, g11⟩ := D
    rcases (by omega : a0 % 40 / 10 = 0 ∨ a0 % 40 / 10 = 1 ∨ a0 % 40 / 10 = 2 ∨ a0 % 40 / 10 = 3) with d | d | d | d
    · refine goA hbody (vt loops2.2.2.1 rfl) ⟨S ?_ ?_, N0⟩ (by decide) ?_ (by omega) (by omega) g6 g7 g8 g9 g10 hq w g0 c2.1 ?_ ?_ ?_ <;> (try simp only [lfVal, tsVal, g1, g2, g3, g5, hn]) <;> omega
    · refine goA hbody (vt loops2.1 rfl) ⟨S ?_ ?_, N0⟩ (by decide) ?_ (by omega) (by omega) g6 g7 g8 g9 g10 hq w g0 c2.1 ?_ ?_ ?_ <;> (try simp only [lfVal, tsVal, g1, g2, g3, g5, hn]) <;> omega
    · refine goA hbody (vt loops2.2.1 rfl) ⟨S ?_ ?_, N0⟩ (by decide) ?_ (by omega) (by omega) g6 g7 g8 g9 g10 hq w g0 c2.1 ?_ ?_ ?_ <;> (try simp only [lfVal, tsVal, g1, g2, g3, g5, hn]) <;> omega
    · refine goA hbody (vt loops9.2.1 rfl) ⟨S ?_ ?_, N0⟩ (by decide) ?_ (by omega) (by omega) g6 g7 g8 g9 g10 hq w g0 c2.1 ?_ ?_ ?_ <;> (try simp only [lfVal, tsVal, g1, g2, g3, g5, hn]) <;> omega
theorem odd3 (cb : Code) (hbody : Tryz.f3.body = some cb) (a0 a1 a2 : Int) (c0 : 0 ≤ a0 ∧ a0 ≤ 255) (c1 : 0 ≤ a1 ∧ a1 ≤ 255) (c2 : 0 ≤ a2 ∧ a2 ≤ 255) (w : World) (h : a2 % 5 = 0) (n : Nat) (hn : (n : Int) = a0 % 40) (h1 : 2 ≤ n) (em : a1 % 7 = 2) (q : Bool) (hq : (((n : Int) - 1) % 3 != 0) = q) : Calls Tryz.prog 3 #[.int .u8 a0, .int .u8 a1, .int .u8 a2] w fun e w' => e = .returned (.bool true) ∧ w.keptBut w' (fun _ => False) := by
  have t1 := sumN_bd 3 n
  have t2 := tri_bd n (by omega)
  have t3 := lastN_bd 3 n
  have N0 : ∀ {σ : Sg}, ∀ x ∈ ([] : List (Int × Ts)), lfVal σ.i x.1 x.2 ≠ 0 := fun x hx => by cases hx
  cases q with
  | false =>
    obtain ⟨σ, D⟩ := dat a0 a1 a2 (sumN 3 n) (sumN 3 n - lastN 3 n) ((n : Int) - 1) (((n : Int) - 1) % 3) (lastN 3 n) (0)
    have S : ∀ {p2 p5 : Int × Int}, _ → _ → _ := fun {p2 p5} => D.sat c0 c1 c2 (by omega) (by omega) (by omega) (by omega) (by omega) (p2 := p2) (p5 := p5)
    obtain ⟨g0, g1, g2, g3, g4, g5, g6, g7, g8, g9, g10, g11⟩ := D
    rcases (by omega : a0 % 40 / 10 = 0 ∨ a0 % 40 / 10 = 1 ∨ a0 % 40 / 10 = 2 ∨ a0 % 40 / 10 = 3) with d | d | d | d
    · refine goA hbody (vt loops3.2.1 rfl) ⟨S ?_ ?_, N0⟩ (by decide) ?_ (by omega) (by omega) g6 g7 g8 g9 g10 hq w g0 c2.1 ?_ ?_ ?_ <;> (try simp only [lfVal, tsVal, g1, g2, g3, g5, hn]) <;> omega
    · refine goA hbody (vt loops5.2.1 rfl) ⟨S ?_ ?_, N0⟩ (by decide) ?_ (by omega) (by omega) g6 g7 g8 g9 g10 hq w g0 c2.1 ?_ ?_ ?_ <;> (try simp only [lfVal, tsVal, g1, g2, g3, g5, hn]) <;> omega
    · refine goA hbody (vt loops8.2.2.1 rfl) ⟨S ?_ ?_, N0⟩ (by decide) ?_ (by omega) (by omega) g6 g7 g8 g9 g10 hq w g0 c2.1 ?_ ?_ ?_ <;> (try simp only [lfVal, tsVal, g1, g2, g3, g5, hn]) <;> omega
    · refine goA hbody (vt loops5.2.2.1 rfl) ⟨S ?_ ?_, N0⟩ (by decide) ?_ (by omega) (by omega) g6 g7 g8 g9 g10 hq w g0 c2.1 ?_ ?_ ?_ <;> (try simp only [lfVal, tsVal, g1, g2, g3, g5, hn]) <;> omega
  | true =>
    obtain ⟨σ, D⟩ := dat a0 a1 a2 (sumN 3 n) (sumN 3 n - lastN 3 n) ((n : Int) - 1) (((n : Int) - 1) % 3) (lastN 3 n) (1)
    have S : ∀ {p2 p5 : Int × Int}, _ → _ → _ := fun {p2 p5} => D.sat c0 c1 c2 (by omega) (by omega) (by omega) (by omega) (by omega) (p2 := p2) (p5 := p5)
    obtain ⟨g0, g1, g2, g3, g4, g5, g6, g7, g8, g9, g10, g11⟩ := D
    rcases (by omega : a0 % 40 / 10 = 0 ∨ a0 % 40 / 10 = 1 ∨ a0 % 40 / 10 = 2 ∨ a0 % 40 / 10 = 3) with d | d | d | d
    · refine goA hbody (vt loops4.2.2.2.1 rfl) ⟨S ?_ ?_, N0⟩ (by decide) ?_ (by omega) (by omega) g6 g7 g8 g9 g10 hq w g0 c2.1 ?_ ?_ ?_ <;> (try simp only [lfVal, tsVal, g1, g2, g3, g5, hn]) <;> omega
    · refine goA hbody (vt loops6.2.1 rfl) ⟨S ?_ ?_, N0⟩ (by decide) ?_ (by omega) (by omega) g6 g7 g8 g9 g10 hq w g0 c2.1 ?_ ?_ ?_ <;> (try simp only [lfVal, tsVal, g1, g2, g3, g5, hn]) <;> omega
    · refine goA hbody (vt loops9.2.2.1 rfl) ⟨S ?_ ?_, N0⟩ (by decide) ?_ (by omega) (by omega) g6 g7 g8 g9 g10 hq w g0 c2.1 ?_ ?_ ?_ <;> (try simp only [lfVal, tsVal, g1, g2, g3, g5, hn]) <;> omega
    · refine goA hbody (vt loops4.2.2.1 rfl) ⟨S ?_ ?_, N0⟩ (by decide) ?_ (by omega) (by omega) g6 g7 g8 g9 g10 hq w g0 c2.1 ?_ ?_ ?_ <;> (try simp only [lfVal, tsVal, g1, g2, g3, g5, hn]) <;> omega
theorem odd4 (cb : Code) (hbody : Tryz.f3.body = some cb) (a0 a1 a2 : Int) (c0 : 0 ≤ a0 ∧ a0 ≤ 255) (c1 : 0 ≤ a1 ∧ a1 ≤ 255) (c2 : 0 ≤ a2 ∧ a2 ≤ 255) (w : World) (h : a2 % 5 = 0) (n : Nat) (hn : (n : Int) = a0 % 40) (h1 : 2 ≤ n) (em : a1 % 7 = 3) (q : Bool) (hq : (((n : Int) - 1) % 4 != 0) = q) : Calls Tryz.prog 3 #[.int .u8 a0, .int .u8 a1, .int .u8 a2] w fun e w' => e = .returned (.bool true) ∧ w.keptBut w' (fun _ => False) := by
  have t1 := sumN_bd 4 n
  have t2 := tri_bd n (by omega)
  have t3 := lastN_bd 4 n
  have N0 : ∀ {σ : Sg}, ∀ x ∈ ([] : List (Int × Ts)), lfVal σ.i x.1 x.2 ≠ 0 := fun x hx => by cases hx
  cases q with
  | false =>
    obtain ⟨σ, D⟩ := dat a0 a1 a2 (sumN 4 n) (sumN 4 n - lastN 4 n) ((n : Int) - 1) (((n : Int) - 1) % 4) (lastN 4 n) (0)
    have S : ∀ {p2 p5 : Int × Int}, _ → _ → _ := fun {p2 p5} => D.sat c0 c1 c2 (by omega) (by omega) (by omega) (by omega) (by omega) (p2 := p2) (p5 := p5)
    obtain ⟨g0, g1, g2, g3, g4, g5, g6, g7, g8, g9, g10, g11⟩ := D
    rcases (by omega : a0 % 40 / 10 = 0 ∨ a0 % 40 / 10 = 1 ∨ a0 % 40 / 10 = 2 ∨ a0 % 40 / 10 = 3) with d | d | d | d
    · refine goA hbody (vt loops9.2.2.2.2.1 rfl) ⟨S ?_ ?_, N0⟩ (by decide) ?_ (by omega) (by omega) g6 g7 g8 g9 g10 hq w g0 c2.1 ?_ ?_ ?_ <;> (try simp only [lfVal, tsVal, g1, g2, g3, g5, hn]) <;> omega
    · refine goA hbody (vt loops11.1 rfl) ⟨S ?_ ?_, N0⟩ (by decide) ?_ (by omega) (by omega) g6 g7 g8 g9 g10 hq w g0 c2.1 ?_ ?_ ?_ <;> (try simp only [lfVal, tsVal, g1, g2, g3, g5, hn]) <;> omega
    · refine goA hbody (vt loops11.2.1 rfl) ⟨S ?_ ?_, N0⟩ (by decide) ?_ (by omega) (by omega) g6 g7 g8 g9 g10 hq w g0 c2.1 ?_ ?_ ?_ <;> (try simp only [lfVal, tsVal, g1, g2, g3, g5, hn]) <;> omega
    · refine goA hbody (vt loops8.2.2.2.1 rfl) ⟨S ?_ ?_, N0⟩ (by decide) ?_ (by omega) (by omega) g6 g7 g8 g9 g10 hq w g0 c2.1 ?_ ?_ ?_ <;> (try simp only [lfVal, tsVal, g1, g2, g3, g5, hn]) <;> omega
  | true =>
    obtain ⟨σ, D⟩ := dat a0 a1 a2 (sumN 4 n) (sumN 4 n - lastN 4 n) ((n : Int) - 1) (((n : Int) - 1) % 4) (lastN 4 n) (1)
    have S : ∀ {p2 p5 : Int × Int}, _ → _ → _ := fun {p2 p5} => D.sat c0 c1 c2 (by omega) (by omega) (by omega) (by omega) (by omega) (p2 := p2) (p5 := p5)
    obtain ⟨g0, g1, g2, g3, g4, g5, g6, g7, g8, g9, g10, g11⟩ := D
    rcases (by omega : a0 % 40 / 10 = 0 ∨ a0 % 40 / 10 = 1 ∨ a0 % 40 / 10 = 2 ∨ a0 % 40 / 10 = 3) with d | d | d | d
    · refine goA hbody (vt loops6.2.2.1 rfl) ⟨S ?_ ?_, N0⟩ (by decide) ?_ (by omega) (by omega) g6 g7 g8 g9 g10 hq w g0 c2.1 ?_ ?_ ?_ <;> (try simp only [lfVal, tsVal, g1, g2, g3, g5, hn]) <;> omega
    · refine goA hbody (vt loops10.2.2.1 rfl) ⟨S ?_ ?_, N0⟩ (by decide) ?_ (by omega) (by omega) g6 g7 g8 g9 g10 hq w g0 c2.1 ?_ ?_ ?_ <;> (try simp only [lfVal, tsVal, g1, g2, g3, g5, hn]) <;> omega
    · refine goA hbody (vt loops10.2.2.2.1 rfl) ⟨S ?_ ?_, N0⟩ (by decide) ?_ (by omega) (by omega) g6 g7 g8 g9 g10 hq w g0 c2.1 ?_ ?_ ?_ <;> (try simp only [lfVal, tsVal, g1, g2, g3, g5, hn]) <;> omega
    · refine goA hbody (vt loops9.2.2.2.1 rfl) ⟨S ?_ ?_, N0⟩ (by decide) ?_ (by omega) (by omega) g6 g7 g8 g9 g10 hq w g0 c2.1 ?_ ?_ ?_ <;> (try simp only [lfVal, tsVal, g1, g2, g3, g5, hn]) <;> omega
theorem odd5 (cb : Code) (hbody : Tryz.f3.body = some cb) (a0 a1 a2 : Int) (c0 : 0 ≤ a0 ∧ a0 ≤ 255) (c1 : 0 ≤ a1 ∧ a1 ≤ 255) (c2 : 0 ≤ a2 ∧ a2 ≤ 255) (w : World) (h : a2 % 5 = 0) (n : Nat) (hn : (n : Int) = a0 % 40) (h1 : 2 ≤ n) (em : a1 % 7 = 4) (q : Bool) (hq : (((n : Int) - 1) % 5 != 0) = q) : Calls Tryz.prog 3 #[.int .u8 a0, .int .u8 a1, .int .u8 a2] w fun e w' => e = .returned (.bool true) ∧ w.keptBut w' (fun _ => False) := by
  have t1 := sumN_bd 5 n
  have t2 := tri_bd n (by omega)
  have t3 := lastN_bd 5 n
  have N0 : ∀ {σ : Sg}, ∀ x ∈ ([] : List (Int × Ts)), lfVal σ.i x.1 x.2 ≠ 0 := fun x hx => by cases hx
  cases q with
  | false =>
    obtain ⟨σ, D⟩ := dat a0 a1 a2 (sumN 5 n) (sumN 5 n - lastN 5 n) ((n : Int) - 1) (((n : Int) - 1) % 5) (lastN 5 n) (0)
    have S : ∀ {p2 p5 : Int × Int}, _ → _ → _ := fun {p2 p5} => D.sat c0 c1 c2 (by omega) (by omega) (by omega) (by omega) (by omega) (p2 := p2) (p5 := p5)
    obtain ⟨g0, g1, g2, g3, g4, g5, g6, g7, g8, g9, g10, g11⟩ := D
    rcases (by omega : a0 % 40 / 10 = 0 ∨ a0 % 40 / 10 = 1 ∨ a0 % 40 / 10 = 2 ∨ a0 % 40 / 10 = 3) with d | d | d | d
    · refine goA hbody (vt loops1.2.1 rfl) ⟨S ?_ ?_, N0⟩ (by decide) ?_ (by omega) (by omega) g6 g7 g8 g9 g10 hq w g0 c2.1 ?_ ?_ ?_ <;> (try simp only [lfVal, tsVal, g1, g2, g3, g5, hn]) <;> omega
    · refine goA hbody (vt loops11.2.2.1 rfl) ⟨S ?_ ?_, N0⟩ (by decide) ?_ (by omega) (by omega) g6 g7 g8 g9 g10 hq w g0 c2.1 ?_ ?_ ?_ <;> (try simp only [lfVal, tsVal, g1, g2, g3, g5, hn]) <;> omega
    · refine goA hbody (vt loops4.2.2.2.2.1 rfl) ⟨S ?_ ?_, N0⟩ (by decide) ?_ (by omega) (by omega) g6 g7 g8 g9 g10 hq w g0 c2.1 ?_ ?_ ?_ <;> (try simp only [lfVal, tsVal, g1, g2, g3, g5, hn]) <;> omega
    · refine goA hbody (vt loops6.2.2.2.2.1 rfl) ⟨S ?_ ?_, N0⟩ (by decide) ?_ (by omega) (by omega) g6 g7 g8 g9 g10 hq w g0 c2.1 ?_ ?_ ?_ <;> (try simp only [lfVal, tsVal, g1, g2, g3, g5, hn]) <;> omega
  | true =>
    obtain ⟨σ, D⟩ := dat a0 a1 a2 (sumN 5 n) (sumN 5 n - lastN 5 n) ((n : Int) - 1) (((n : Int) - 1) % 5) (lastN 5 n) (1)
    have S : ∀ {p2 p5 : Int × Int}, _ → _ → _ := fun {p2 p5} => D.sat c0 c1 c2 (by omega) (by omega) (by omega) (by omega) (by omega) (p2 := p2) (p5 := p5)
    obtain ⟨g0, g1, g2, g3, g4, g5, g6, g7, g8, g9, g10, g11⟩ := D
    rcases (by omega : a0 % 40 / 10 = 0 ∨ a0 % 40 / 10 = 1 ∨ a0 % 40 / 10 = 2 ∨ a0 % 40 / 10 = 3) with d | d | d | d
    · refine goA hbody (vt loops5.2.2.2.2.1 rfl) ⟨S ?_ ?_, N0⟩ (by decide) ?_ (by omega) (by omega) g6 g7 g8 g9 g10 hq w g0 c2.1 ?_ ?_ ?_ <;> (try simp only [lfVal, tsVal, g1, g2, g3, g5, hn]) <;> omega
    · refine goA hbody (vt loops10.2.2.2.2.1 rfl) ⟨S ?_ ?_, N0⟩ (by decide) ?_ (by omega) (by omega) g6 g7 g8 g9 g10 hq w g0 c2.1 ?_ ?_ ?_ <;> (try simp only [lfVal, tsVal, g1, g2, g3, g5, hn]) <;> omega
    · refine goA hbody (vt loops6.2.2.2.1 rfl) ⟨S ?_ ?_, N0⟩ (by decide) ?_ (by omega) (by omega) g6 g7 g8 g9 g10 hq w g0 c2.1 ?_ ?_ ?_ <;> (try simp only [lfVal, tsVal, g1, g2, g3, g5, hn]) <;> omega
    · refine goA hbody (vt loops7.2.1 rfl) ⟨S ?_ ?_, N0⟩ (by decide) ?_ (by omega) (by omega) g6 g7 g8 g9 g10 hq w g0 c2.1 ?_ ?_ ?_ <;> (try simp only [lfVal, tsVal, g1, g2, g3, g5, hn]) <;> omega
theorem odd6 (cb : Code) (hbody : Tryz.f3.body = some cb) (a0 a1 a2 : Int) (c0 : 0 ≤ a0 ∧ a0 ≤ 255) (c1 : 0 ≤ a1 ∧ a1 ≤ 255) (c2 : 0 ≤ a2 ∧ a2 ≤ 255) (w : World) (h : a2 % 5 = 0) (n : Nat) (hn : (n : Int) = a0 % 40) (h1 : 2 ≤ n) (em : a1 % 7 = 5) (q : Bool) (hq : (((n : Int) - 1) % 6 != 0) = q) : Calls Tryz.prog 3 #[.int .u8 a0, .int .u8 a1, .int .u8 a2] w fun e w' => e = .returned (.bool true) ∧ w.keptBut w' (fun _ => False) := by
  have t1 := sumN_bd 6 n
  have t2 := tri_bd n (by omega)
  have t3 := lastN_bd 6 n
  have N0 : ∀ {σ : Sg}, ∀ x ∈ ([] : List (Int × Ts)), lfVal σ.i x.1 x.2 ≠ 0 := fun x hx => by cases hx
  cases q with
  | false =>
    obtain ⟨σ, D⟩ := dat a0 a1 a2 (sumN 6 n) (sumN 6 n - lastN 6 n) ((n : Int) - 1) (((n : Int) - 1) % 6) (lastN 6 n) (0)
    have S : ∀ {p2 p5 : Int × Int}, _ → _ → _ := fun {p2 p5} => D.sat c0 c1 c2 (by omega) (by omega) (by omega) (by omega) (by omega) (p2 := p2) (p5 := p5)
    obtain ⟨g0, g1, g2, g3, g4, g5, g6, g7, g8, g9, g10, g11⟩ := D
    rcases (by omega : a0 % 40 / 10 = 0 ∨ a0 % 40 / 10 = 1 ∨ a0 % 40 / 10 = 2 ∨ a0 % 40 / 10 = 3) with d | d | d | d
    · refine goA hbody (vt loops3.2.2.2.2.1 rfl) ⟨S ?_ ?_, N0⟩ (by decide) ?_ (by omega) (by omega) g6 g7 g8 g9 g10 hq w g0 c2.1 ?_ ?_ ?_ <;> (try simp only [lfVal, tsVal, g1, g2, g3, g5, hn]) <;> omega
    · refine goA hbody (vt loops8.2.2.2.2.2.1 rfl) ⟨S ?_ ?_, N0⟩ (by decide) ?_ (by omega) (by omega) g6 g7 g8 g9 g10 hq w g0 c2.1 ?_ ?_ ?_ <;> (try simp only [lfVal, tsVal, g1, g2, g3, g5, hn]) <;> omega
    · refine goA hbody (vt loops3.2.2.2.1 rfl) ⟨S ?_ ?_, N0⟩ (by decide) ?_ (by omega) (by omega) g6 g7 g8 g9 g10 hq w g0 c2.1 ?_ ?_ ?_ <;> (try simp only [lfVal, tsVal, g1, g2, g3, g5, hn]) <;> omega
    · refine goA hbody (vt loops10.2.2.2.2.2.2.1 rfl) ⟨S ?_ ?_, N0⟩ (by decide) ?_ (by omega) (by omega) g6 g7 g8 g9 g10 hq w g0 c2.1 ?_ ?_ ?_ <;> (try simp only [lfVal, tsVal, g1, g2, g3, g5, hn]) <;> omega
  | true =>
    obtain ⟨σ, D⟩ := dat a0 a1 a2 (sumN 6 n) (sumN 6 n - lastN 6 n) ((n : Int) - 1) (((n : Int) - 1) % 6) (lastN 6 n) (1)
    have S : ∀ {p2 p5 : Int × Int}, _ → _ → _ := fun {p2 p5} => D.sat c0 c1 c2 (by omega) (by omega) (by omega) (by omega) (by omega) (p2 := p2) (p5 := p5)
    obtain ⟨g0, g1, g2, g3, g4, g5, g6, g7, g8, g9, g10, g11⟩ := D
    rcases (by omega : a0 % 40 / 10 = 0 ∨ a0 % 40 / 10 = 1 ∨ a0 % 40 / 10 = 2 ∨ a0 % 40 / 10 = 3) with d | d | d | d
    · refine goA hbody (vt loops7.2.2.1 rfl) ⟨S ?_ ?_, N0⟩ (by decide) ?_ (by omega) (by omega) g6 g7 g8 g9 g10 hq w g0 c2.1 ?_ ?_ ?_ <;> (try simp only [lfVal, tsVal, g1, g2, g3, g5, hn]) <;> omega
    · refine goA hbody (vt loops9.2.2.2.2.2.1 rfl) ⟨S ?_ ?_, N0⟩ (by decide) ?_ (by omega) (by omega) g6 g7 g8 g9 g10 hq w g0 c2.1 ?_ ?_ ?_ <;> (try simp only [lfVal, tsVal, g1, g2, g3, g5, hn]) <;> omega
    · refine goA hbody (vt loops2.2.2.2.2.1 rfl) ⟨S ?_ ?_, N0⟩ (by decide) ?_ (by omega) (by omega) g6 g7 g8 g9 g10 hq w g0 c2.1 ?_ ?_ ?_ <;> (try simp only [lfVal, tsVal, g1, g2, g3, g5, hn]) <;> omega
    · refine goA hbody (vt loops11.2.2.2.1 rfl) ⟨S ?_ ?_, N0⟩ (by decide) ?_ (by omega) (by omega) g6 g7 g8 g9 g10 hq w g0 c2.1 ?_ ?_ ?_ <;> (try simp only [lfVal, tsVal, g1, g2, g3, g5, hn]) <;> omega
theorem odd7 (cb : Code) (hbody : Tryz.f3.body = some cb) (a0 a1 a2 : Int) (c0 : 0 ≤ a0 ∧ a0 ≤ 255) (c1 : 0 ≤ a1 ∧ a1 ≤ 255) (c2 : 0 ≤ a2 ∧ a2 ≤ 255) (w : World) (h : a2 % 5 = 0) (n : Nat) (hn : (n : Int) = a0 % 40) (h1 : 2 ≤ n) (em : a1 % 7 = 6) (q : Bool) (hq : (((n : Int) - 1) % 7 != 0) = q) : Calls Tryz.prog 3 #[.int .u8 a0, .int .u8 a1, .int .u8 a2] w fun e w' => e = .returned (.bool true) ∧ w.keptBut w' (fun _ => False) := by
  have t1 := sumN_bd 7 n
  have t2 := tri_bd n (by omega)
  have t3 := lastN_bd 7 n
  have N0 : ∀ {σ : Sg}, ∀ x ∈ ([] : List (Int × Ts)), lfVal σ.i x.1 x.2 ≠ 0 := fun x hx => by cases hx
  cases q with
  | false =>
    obtain ⟨σ, D⟩ := dat a0 a1 a2 (sumN 7 n) (sumN 7 n - lastN 7 n) ((n : Int) - 1) (((n : Int) - 1) % 7) (lastN 7 n) (0)
    have S : ∀ {p2 p5 : Int × Int}, _ → _ → _ := fun {p2 p5} => D.sat c0 c1 c2 (by omega) (by omega) (by omega) (by omega) (by omega) (p2 := p2) (p5 := p5)
    obtain ⟨g0, g1, g2, g3, g4, g5, g6, g7, g8, g9, g10, g11⟩ := D
    rcases (by omega : a0 % 40 / 10 = 0 ∨ a0 % 40 / 10 = 1 ∨ a0 % 40 / 10 = 2 ∨ a0 % 40 / 10 = 3) with d | d | d | d
    · refine goA hbody (vt loops8.2.2.2.2.2.2.1 rfl) ⟨S ?_ ?_, N0⟩ (by decide) ?_ (by omega) (by omega) g6 g7 g8 g9 g10 hq w g0 c2.1 ?_ ?_ ?_ <;> (try simp only [lfVal, tsVal, g1, g2, g3, g5, hn]) <;> omega
    · refine goA hbody (vt loops5.2.2.2.2.2.1 rfl) ⟨S ?_ ?_, N0⟩ (by decide) ?_ (by omega) (by omega) g6 g7 g8 g9 g10 hq w g0 c2.1 ?_ ?_ ?_ <;> (try simp only [lfVal, tsVal, g1, g2, g3, g5, hn]) <;> omega
    · refine goA hbody (vt loops7.2.2.2.1 rfl) ⟨S ?_ ?_, N0⟩ (by decide) ?_ (by omega) (by omega) g6 g7 g8 g9 g10 hq w g0 c2.1 ?_ ?_ ?_ <;> (try simp only [lfVal, tsVal, g1, g2, g3, g5, hn]) <;> omega
    · refine goA hbody (vt loops10.2.2.2.2.2.2.2.1 rfl) ⟨S ?_ ?_, N0⟩ (by decide) ?_ (by omega) (by omega) g6 g7 g8 g9 g10 hq w g0 c2.1 ?_ ?_ ?_ <;> (try simp only [lfVal, tsVal, g1, g2, g3, g5, hn]) <;> omega
  | true =>
    obtain ⟨σ, D⟩ := dat a0 a1 a2 (sumN 7 n) (sumN 7 n - lastN 7 n) ((n : Int) - 1) (((n : Int) - 1) % 7) (lastN 7 n) (1)
    have S : ∀ {p2 p5 : Int × Int}, _ → _ → _ := fun {p2 p5} => D.sat c0 c1 c2 (by omega) (by omega) (by omega) (by omega) (by omega) (p2 := p2) (p5 := p5)
    obtain ⟨g0, g1, g2, g3, g4, g5, g6, g7, g8, g9, g10, g11⟩ := D
    rcases (by omega : a0 % 40 / 10 = 0 ∨ a0 % 40 / 10 = 1 ∨ a0 % 40 / 10 = 2 ∨ a0 % 40 / 10 = 3) with d | d | d | d
    · refine goA hbody (vt loops9.2.2.2.2.2.2.1 rfl) ⟨S ?_ ?_, N0⟩ (by decide) ?_ (by omega) (by omega) g6 g7 g8 g9 g10 hq w g0 c2.1 ?_ ?_ ?_ <;> (try simp only [lfVal, tsVal, g1, g2, g3, g5, hn]) <;> omega
    · refine goA hbody (vt loops6.2.2.2.2.2.1 rfl) ⟨S ?_ ?_, N0⟩ (by decide) ?_ (by omega) (by omega) g6 g7 g8 g9 g10 hq w g0 c2.1 ?_ ?_ ?_ <;> (try simp only [lfVal, tsVal, g1, g2, g3, g5, hn]) <;> omega
    · refine goA hbody (vt loops3.2.2.2.2.2.1 rfl) ⟨S ?_ ?_, N0⟩ (by decide) ?_ (by omega) (by omega) g6 g7 g8 g9 g10 hq w g0 c2.1 ?_ ?_ ?_ <;> (try simp only [lfVal, tsVal, g1, g2, g3, g5, hn]) <;> omega
    · refine goA hbody (vt loops11.2.2.2.2.1 rfl) ⟨S ?_ ?_, N0⟩ (by decide) ?_ (by omega) (by omega) g6 g7 g8 g9 g10 hq w g0 c2.1 ?_ ?_ ?_ <;> (try simp only [lfVal, tsVal, g1, g2, g3, g5, hn]) <;> omega
theorem walk (a0 a1 a2 : Int) (w0 : (Lit.int .u8 a0).wf = true) (w1 : (Lit.int .u8 a1).wf = true) (w2 : (Lit.int .u8 a2).wf = true) (w : World) :
    Calls Tryz.prog 3 #[.int .u8 a0, .int .u8 a1, .int .u8 a2] w fun e w' => e = .returned (.bool true) ∧ w.keptBut w' (fun _ => False) := by
  have c0 := fits_u8 w0
  have c1 := fits_u8 w1
  have c2 := fits_u8 w2
  obtain ⟨cb, hbody⟩ : ∃ cb, Tryz.f3.body = some cb := Option.isSome_iff_exists.1 (by kernel_rfl)
  by_cases h : a2 % 5 = 4 ∨ a0 % 40 = 0 ∨ (a2 % 5 = 0 ∧ a0 % 40 = 1 ∧ 1 ≤ a1 % 7)
  · exact plain cb hbody a0 a1 a2 c0 c1 c2 w h
  obtain ⟨n, hn⟩ : ∃ n : Nat, (n : Int) = a0 % 40 := ⟨(a0 % 40).toNat, by omega⟩
  by_cases h0 : a2 % 5 = 0
  · rcases (by omega : a1 % 7 = 0 ∨ a1 % 7 = 1 ∨ a1 % 7 = 2 ∨ a1 % 7 = 3 ∨ a1 % 7 = 4 ∨ a1 % 7 = 5 ∨ a1 % 7 = 6) with m | m | m | m | m | m | m
    · exact odd1 cb hbody a0 a1 a2 c0 c1 c2 w h0 n hn (by omega) m _ rfl
    · exact odd2 cb hbody a0 a1 a2 c0 c1 c2 w h0 n hn (by omega) m _ rfl
    · exact odd3 cb hbody a0 a1 a2 c0 c1 c2 w h0 n hn (by omega) m _ rfl
    · exact odd4 cb hbody a0 a1 a2 c0 c1 c2 w h0 n hn (by omega) m _ rfl
    · exact odd5 cb hbody a0 a1 a2 c0 c1 c2 w h0 n hn (by omega) m _ rfl
    · exact odd6 cb hbody a0 a1 a2 c0 c1 c2 w h0 n hn (by omega) m _ rfl
    · exact odd7 cb hbody a0 a1 a2 c0 c1 c2 w h0 n hn (by omega) m _ rfl
  · exact sums cb hbody a0 a1 a2 c0 c1 c2 w (by omega) n hn (by omega) _ rfl
#print axioms walk
end Go.Proofs.YtaikcgmgjchfmaaGreatDoor.machineLoops
