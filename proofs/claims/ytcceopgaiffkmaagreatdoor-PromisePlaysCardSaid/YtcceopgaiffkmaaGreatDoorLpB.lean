/- The law's play: one operation on the program, the second half. -/
import Derived.Test.YtcceopgaiffkmaaGreatDoorLpA
namespace Go.Proofs.YtcceopgaiffkmaaGreatDoor
open Go Go.RowKit Go.Pl
set_option maxRecDepth 100000
section
variable {lab : Nat → Lab} {K : PK} {w : World} {A : Ab}
set_option maxHeartbeats 8000000 in
theorem lplay_hi (hP : PS lab K w A) (hT : Tabs K.w0) (hn : K.n < 60000) {vW : Value} (hW : Hs lab K w A.N vW) (o a b : Nat) (ho : o < 256) (ha : a < 256) (hb : b < 256) (k n x : Int) (s : ByteArray) (h5 : k ≠ 5) (h6 : k ≠ 6) (hs : s.size ≤ 60) (hws : ∀ p, p < A.N → (A.pr p).ws.length ≤ 900) (hjs : A.jobs.length ≤ 49000) (hNb : A.N ≤ 900) (hhi : 3 ≤ o % 6) :
    Calls Tryz.prog 6 #[.pointer (some ⟨K.H, 0, none⟩), .pointer (some ⟨K.J, 0, none⟩), vW, .agg #[.int .u8 o, .int .u8 a, .int .u8 b, .int .i64 k, .int .i64 n, .string s, .int .i64 x]] w
      (fun e w' => ∃ vW', e = .returned (.tuple #[vW', .bool true]) ∧ ∃ lab' K', PS lab' K' w' (A.play o a b (.nv (nk k) (ni k n) (ns k s))) ∧ Ext lab K w lab' K' w' A.N ∧ Hs lab' K' w' (A.play o a b (.nv (nk k) (ni k n) (ns k s))).N vW') := by
  obtain ⟨A2, hA2⟩ : ∃ A2, Hide (A2 = A.play o a b (.nv (nk k) (ni k n) (ns k s))) := ⟨_, ⟨rfl⟩⟩
  rw [← hA2.out]
  have hB0 := ((Below.refl w.heap.size w).alloc (Nat.le_refl _) (.cells #[.int .u8 o, .int .u8 a, .int .u8 b, .int .i64 k, .int .i64 n, .string s, .int .i64 x] 45))
  have wa : IntKind.i64.wrap (a : Int) = a := IntWalk.i64_in _ (by omega)
  have wb : IntKind.i64.wrap (b : Int) = b := IntWalk.i64_in _ (by omega)
  have hr1 : (o : Int) % 6 = ((o % 6 : Nat) : Int) := by omega
  have hr2 : (o : Int).tmod 6 = ((o % 6 : Nat) : Int) := by rw [Int.tmod_eq_emod_of_nonneg (by omega)]; omega
  have hr3 : IntKind.u8.wrap ((o % 6 : Nat) : Int) = ((o % 6 : Nat) : Int) := IntWalk.u8_in _ (by omega)
  have hpl : Hide (∀ r, o % 6 = r → A2 = (if r = 0 then A.new else if r = 1 then (if A.has a then A.resolve (a - 1) (.nv (nk k) (ni k n) (ns k s)) else A) else if r = 2 then (if A.has a && A.has b then A.resolveP (a - 1) (b - 1) A.ob else A) else if r = 3 then (if A.has a then A.reject (a - 1) (.nv (nk k) (ni k n) (ns k s)) else A) else if r = 4 then (if A.has a then A.new.wait (a - 1) A.N else A) else A.next)) := ⟨fun r hr => by rw [hA2.out, Ab.play, hr]⟩
  have hr6 : o % 6 < 6 := Nat.mod_lt _ (by decide)
  generalize hrr : o % 6 = r at *
  obtain ⟨ao, cap, hvW⟩ := hW.form
  subst hvW
  obtain ⟨N, hN⟩ : ∃ N, A.N = N := ⟨_, rfl⟩
  rw [hN] at hW ⊢
  have hasH : Hide (∀ z : Nat, A.has z = decide (1 ≤ (z : Int) ∧ (z : Int) ≤ N)) := ⟨fun z => by rw [← hN]; rfl⟩
  go_enter Tryz.func6, Tryz.ntmps6
  go_wp2_with fail
  go_quiet (fail)
  go_upto_region 2 with fail
  go_cut [12] (fun v12 wx => v12 = .bool (A.has a) ∧ wx = (w.alloc (.cells #[.int .u8 o, .int .u8 a, .int .u8 b, .int .i64 k, .int .i64 n, .string s, .int .i64 x] 45)).drewN nq)
  case first =>
    by_cases h1 : 1 ≤ (a : Int)
    · by_cases h2 : (a : Int) ≤ N
      · go_wp2_with fail
        go_meet
        exact ⟨by rw [hasH.out, decide_eq_true ⟨h1, h2⟩], rfl⟩
      · go_wp2_with fail
        go_meet
        exact ⟨by rw [hasH.out, decide_eq_false (by omega)], rfl⟩
    · have h1' : decide (1 ≤ (a : Int)) = false := decide_eq_false h1
      go_wp2_with fail
      go_meet
      exact ⟨by rw [hasH.out, decide_eq_false (by omega)], rfl⟩
  obtain ⟨rfl, rfl⟩ := hcut
  go_upto_region 3 with fail
  go_cut [13] (fun v13 wx => v13 = .bool (A.has b) ∧ wx = (w.alloc (.cells #[.int .u8 o, .int .u8 a, .int .u8 b, .int .i64 k, .int .i64 n, .string s, .int .i64 x] 45)).drewN nq)
  case first =>
    by_cases h1 : 1 ≤ (b : Int)
    · by_cases h2 : (b : Int) ≤ N
      · go_wp2_with fail
        go_meet
        exact ⟨by rw [hasH.out, decide_eq_true ⟨h1, h2⟩], rfl⟩
      · go_wp2_with fail
        go_meet
        exact ⟨by rw [hasH.out, decide_eq_false (by omega)], rfl⟩
    · have h1' : decide (1 ≤ (b : Int)) = false := decide_eq_false h1
      go_wp2_with fail
      go_meet
      exact ⟨by rw [hasH.out, decide_eq_false (by omega)], rfl⟩
  obtain ⟨rfl, rfl⟩ := hcut
  have hB2 : Below w.heap.size w ((w.alloc (.cells #[.int .u8 o, .int .u8 a, .int .u8 b, .int .i64 k, .int .i64 n, .string s, .int .i64 x] 45)).drewN nq) := ⟨hB0.os, hB0.tape, hB0.output, hB0.size, hB0.block⟩
  have z0 : ((w.alloc (.cells #[.int .u8 o, .int .u8 a, .int .u8 b, .int .i64 k, .int .i64 n, .string s, .int .i64 x] 45)).drewN nq).heap[w.heap.size]? = some (.cells #[.int .u8 o, .int .u8 a, .int .u8 b, .int .i64 k, .int .i64 n, .string s, .int .i64 x] 45) := hallocn w _
  clear hB0
  generalize (w.alloc (.cells #[.int .u8 o, .int .u8 a, .int .u8 b, .int .i64 k, .int .i64 n, .string s, .int .i64 x] 45)).drewN nq = w2 at *
  have lz := blk_lt z0
  have c0 : w2.cell? ⟨w.heap.size, 0, none⟩ = some (.int .u8 o) := cell_blk z0 0
  have c3 : w2.cell? ⟨w.heap.size, 3, none⟩ = some (.int .i64 k) := cell_blk z0 3
  have c4 : w2.cell? ⟨w.heap.size, 4, none⟩ = some (.int .i64 n) := cell_blk z0 4
  have c5 : w2.cell? ⟨w.heap.size, 5, none⟩ = some (.string s) := cell_blk z0 5
  have c6 : w2.cell? ⟨w.heap.size, 6, none⟩ = some (.int .i64 x) := cell_blk z0 6
  have hB3 := below_alloc (below_alloc hB2 (.cells #[.slice none 0 0, .bool false] 68)) (.cells #[.slice none 0 0] 71)
  have hP3 := hP.below hB3
  have hE3 : Ext lab K w lab K _ A.N := Ext.below hB3
  have hW3 : Hs lab K ((w2.alloc (.cells #[.slice none 0 0, .bool false] 68)).alloc (.cells #[.slice none 0 0] 71)) N (.slice ao N cap) := hW.same (fun r hr _ => hB3.block r hr) fun _ _ h => h
  have lz1 : w.heap.size < w2.heap.size + 1 := by omega
  have lz2 : w.heap.size < w2.heap.size + 1 + 1 := by omega
  have hfin : Hide (A2 = A → ∀ wf, Below ((w2.alloc (.cells #[.slice none 0 0, .bool false] 68)).alloc (.cells #[.slice none 0 0] 71)).heap.size ((w2.alloc (.cells #[.slice none 0 0, .bool false] 68)).alloc (.cells #[.slice none 0 0] 71)) wf → ∃ vW', Ending.returned (.tuple #[.slice ao N cap, .bool true]) = Ending.returned (.tuple #[vW', .bool true]) ∧ ∃ lab' K', PS lab' K' wf A2 ∧ Ext lab K w lab' K' wf N ∧ Hs lab' K' wf A2.N vW') := ⟨fun h wf hb => by
    rw [h, hN]
    exact ⟨_, rfl, lab, K, hP3.below hb, hN ▸ hE3.trans (Ext.below hb) (Nat.le_refl _), hW3.same (fun r hr _ => hb.block r hr) fun _ _ h => h⟩⟩
  have hvok : VOk lab K w (.nv (nk k) (ni k n) (ns k s)) := nrm_of k n s h5 h6 hs
  have hvN : NTo (.agg #[.int .i64 k, .int .i64 n, .string s, .int .i64 x]) (.nv (nk k) (ni k n) (ns k s)) := fun w hT => normal_calls k n x s h5 (by omega) w hT
  have hv5 : pk (.nv (nk k) (ni k n) (ns k s)) ≠ 5 := nk5 k
  have hres : ∀ p, p < A.N → ∀ W, Below ((w2.alloc (.cells #[.slice none 0 0, .bool false] 68)).alloc (.cells #[.slice none 0 0] 71)).heap.size ((w2.alloc (.cells #[.slice none 0 0, .bool false] 68)).alloc (.cells #[.slice none 0 0] 71)) W → Calls Tryz.prog 18 #[.pointer (some ⟨K.H, 0, none⟩), .pointer (some ⟨K.J, 0, none⟩), .agg #[.int .i64 5, .int .i64 0, .string ⟨#[]⟩, .int .i64 (4 + 6 * (K.sl p : Int))], .agg #[.int .i64 k, .int .i64 n, .string s, .int .i64 x]] W (fun e w' => e = .returned (.int .i64 0) ∧ ∃ lab' K', PS lab' K' w' (A.resolve p (.nv (nk k) (ni k n) (ns k s))) ∧ Ext lab K W lab' K' w' A.N) := fun p hp W hb => by
    have hPW := hP3.below hb
    by_cases hbz : A.busy p
    · rw [show A.resolve p (.nv (nk k) (ni k n) (ns k s)) = A from if_pos hbz]
      refine (resolve_busy hPW (by omega) hp hbz k n x s).mono ?_
      rintro e w' ⟨rfl, hb'⟩
      exact ⟨rfl, lab, K, hPW.below hb', Ext.below hb'⟩
    · rw [show A.resolve p (.nv (nk k) (ni k n) (ns k s)) = A.settle p 1 (.nv (nk k) (ni k n) (ns k s)) from if_neg hbz]
      exact resolve_free hPW hT (by omega) hp hbz k n x s h5 hvN hv5 hvok (Nat.le_trans (hws p hp) (by decide)) (by omega)
  have hrej : ∀ p, p < A.N → ∀ W, Below ((w2.alloc (.cells #[.slice none 0 0, .bool false] 68)).alloc (.cells #[.slice none 0 0] 71)).heap.size ((w2.alloc (.cells #[.slice none 0 0, .bool false] 68)).alloc (.cells #[.slice none 0 0] 71)) W → Calls Tryz.prog 19 #[.pointer (some ⟨K.H, 0, none⟩), .pointer (some ⟨K.J, 0, none⟩), .agg #[.int .i64 5, .int .i64 0, .string ⟨#[]⟩, .int .i64 (4 + 6 * (K.sl p : Int))], .agg #[.int .i64 k, .int .i64 n, .string s, .int .i64 x]] W (fun e w' => e = .returned (.int .i64 0) ∧ ∃ lab' K', PS lab' K' w' (A.reject p (.nv (nk k) (ni k n) (ns k s))) ∧ Ext lab K W lab' K' w' A.N) := fun p hp W hb => by
    have hPW := hP3.below hb
    by_cases hbz : A.busy p
    · rw [show A.reject p (.nv (nk k) (ni k n) (ns k s)) = A from if_pos hbz]
      refine (reject_busy hPW (by omega) hp hbz k n x s).mono ?_
      rintro e w' ⟨rfl, hb'⟩
      exact ⟨rfl, lab, K, hPW.below hb', Ext.below hb'⟩
    · rw [show A.reject p (.nv (nk k) (ni k n) (ns k s)) = A.settle p 2 (.nv (nk k) (ni k n) (ns k s)) from if_neg hbz]
      exact reject_free hPW hT (by omega) hp hbz k n x s hvN hvok (Nat.le_trans (hws p hp) (by decide)) (by omega)
  have hlk : ∀ p q, p < A.N → q < A.N → ∀ W, Below ((w2.alloc (.cells #[.slice none 0 0, .bool false] 68)).alloc (.cells #[.slice none 0 0] 71)).heap.size ((w2.alloc (.cells #[.slice none 0 0, .bool false] 68)).alloc (.cells #[.slice none 0 0] 71)) W → Calls Tryz.prog 18 #[.pointer (some ⟨K.H, 0, none⟩), .pointer (some ⟨K.J, 0, none⟩), .agg #[.int .i64 5, .int .i64 0, .string ⟨#[]⟩, .int .i64 (4 + 6 * (K.sl p : Int))], .agg #[.int .i64 5, .int .i64 0, .string ⟨#[]⟩, .int .i64 (4 + 6 * (K.sl q : Int))]] W (fun e w' => e = .returned (.int .i64 0) ∧ ∃ lab' K', PS lab' K' w' (A.resolveP p q A.ob) ∧ Ext lab K W lab' K' w' A.N) := fun p q hp hq W hb => by
    have hPW := hP3.below hb
    by_cases hbz : A.busy p
    · rw [show A.resolveP p q A.ob = A from if_pos hbz]
      refine (resolve_busy hPW (by omega) hp hbz 5 0 _ ⟨#[]⟩).mono ?_
      rintro e w' ⟨rfl, hb'⟩
      exact ⟨rfl, lab, K, hPW.below hb', Ext.below hb'⟩
    · by_cases hqp : q = p
      · subst hqp
        rw [show A.resolveP q q A.ob = A.grow.settle q 2 (.flt A.ob) by simp [Ab.resolveP, hbz], ← hP.eob]
        exact resolve_self hPW hT (by omega) hp hbz (Nat.le_trans (hws q hp) (by decide)) (by omega)
      · rw [show A.resolveP p q A.ob = (A.put p { A.pr p with lk := true }).wait q p by simp [Ab.resolveP, hbz, hqp]]
        exact resolve_lock hPW hT (by omega) hp hq (Ne.symm hqp) hbz (Nat.le_trans (hws q hq) (by decide)) (by omega)
  rcases (by omega : r = 3 ∨ r = 4 ∨ r = 5) with rfl | rfl | rfl
  · cases hda : A.has a
    · have hpl2 : Hide (A2 = A) := ⟨by have := hpl.out 3 rfl; simpa [hda] using this⟩
      go_wp2_with fail
      go_quiet (fail)
      go_wp2
      refine bodyPost_ret (results_tmp2 rfl _ _ _) rfl ?_
      exact hfin.out hpl2.out _ ((Below.refl _ _).trans ⟨rfl, rfl, rfl, Nat.le_refl _, fun _ _ => rfl⟩)
    · have hpl2 : Hide (A2 = A.reject (a - 1) (.nv (nk k) (ni k n) (ns k s))) := ⟨by have := hpl.out 3 rfl; simpa [hda] using this⟩
      obtain ⟨rW, dW, cW, hvW, hLW, rowW⟩ := hW3.pos (by have := hasH.out a; rw [hda] at this; have := of_decide_eq_true this.symm; omega)
      cases hvW
      have hra := of_decide_eq_true ((hasH.out a).symm.trans hda)
      obtain ⟨p, hpa⟩ : ∃ p : Nat, p + 1 = a := ⟨a - 1, by omega⟩
      have hpN : p < N := by omega
      have t0 := rowW.cell0 hpN (by decide)
      have t1 := rowW.cell hpN (show 1 < 4 by decide)
      have t2 := rowW.cell hpN (show 2 < 4 by decide)
      have t3 := rowW.cell hpN (show 3 < 4 by decide)
      have ea : (a : Int) - 1 = (p : Int) := by omega
      have iw : IntKind.i64.wrap (p : Int) = p := IntWalk.i64_in _ (by omega)
      have i0 : (0 : Int) ≤ p := by omega
      have ip : (p : Int) < N := by omega
      have hcl := hrej p (by omega)
      have hOut : Hide (A2 = A.reject p (.nv (nk k) (ni k n) (ns k s))) := ⟨by rw [hpl2.out, ← hpa]; rfl⟩
      have hON : Hide ((A.reject p (.nv (nk k) (ni k n) (ns k s))).N = N) := ⟨by unfold Ab.reject; split <;> exact hN⟩
      have d3 := keepc (below_alloc (below_alloc (Below.refl w2.heap.size w2) (.cells #[.slice none 0 0, .bool false] 68)) (.cells #[.slice none 0 0] 71)) c3
      have d4 := keepc (below_alloc (below_alloc (Below.refl w2.heap.size w2) (.cells #[.slice none 0 0, .bool false] 68)) (.cells #[.slice none 0 0] 71)) c4
      have d5 := keepc (below_alloc (below_alloc (Below.refl w2.heap.size w2) (.cells #[.slice none 0 0, .bool false] 68)) (.cells #[.slice none 0 0] 71)) c5
      have d6 := keepc (below_alloc (below_alloc (Below.refl w2.heap.size w2) (.cells #[.slice none 0 0, .bool false] 68)) (.cells #[.slice none 0 0] 71)) c6
      have hlb : lab w.heap.size = .imm := hP.new _ (Nat.le_refl _)
      clear hra hpa
      go_wp2_with fail
      clear c0 c3 c4 c5 c6
      generalize ((w2.alloc (.cells #[.slice none 0 0, .bool false] 68)).alloc (.cells #[.slice none 0 0] 71)) = w5 at *
      have hC : Below w5.heap.size w5 w5.drew := (Below.refl _ _).drew
      go_region_held3 (fun W : World => W.cell? ⟨rW, dW + p * 4, none⟩ = some (.int .i64 5) ∧ W.cell? ⟨rW, dW + p * 4 + 1, none⟩ = some (.int .i64 0) ∧ W.cell? ⟨rW, dW + p * 4 + 2, none⟩ = some (.string ⟨#[]⟩) ∧ W.cell? ⟨rW, dW + p * 4 + 3, none⟩ = some (.int .i64 (4 + 6 * (K.sl p : Int))) ∧ W.cell? ⟨w.heap.size, 3, none⟩ = some (.int .i64 k) ∧ W.cell? ⟨w.heap.size, 4, none⟩ = some (.int .i64 n) ∧ W.cell? ⟨w.heap.size, 5, none⟩ = some (.string s) ∧ W.cell? ⟨w.heap.size, 6, none⟩ = some (.int .i64 x)) (first | exact ⟨keepc hC t0, keepc hC t1, keepc hC t2, keepc hC t3, keepc hC d3, keepc hC d4, keepc hC d5, keepc hC d6⟩ | exact ⟨hE6.lt.cell hLW (keepc hC t0), hE6.lt.cell hLW (keepc hC t1), hE6.lt.cell hLW (keepc hC t2), hE6.lt.cell hLW (keepc hC t3), hE6.lt.cell hlb (keepc hC d3), hE6.lt.cell hlb (keepc hC d4), hE6.lt.cell hlb (keepc hC d5), hE6.lt.cell hlb (keepc hC d6)⟩) (first | (go_at_call 19; refine (hcl _ hC).mono ?_; rintro e w6 ⟨rfl, lab6, K6, hP6, hE6⟩; go_simp))
      all_goals
        go_wp2_with fail
        refine bodyPost_ret (results_tmp2 rfl _ _ _) rfl ?_
        have hEE := hE3.trans ((Ext.below hC).trans hE6 (Nat.le_refl _)) (Nat.le_refl _)
        rw [hOut.out, hON.out]
        rw [hN] at hEE
        exact ⟨_, rfl, lab6, K6, hP6, hEE, hW.ext hEE.lt⟩
  · cases hda : A.has a
    · have hpl2 : Hide (A2 = A) := ⟨by have := hpl.out 4 rfl; simpa [hda] using this⟩
      go_wp2_with fail
      refine bodyPost_ret (results_tmp2 rfl _ _ _) rfl ?_
      exact hfin.out hpl2.out _ (Below.refl _ _)
    · have hOut0 : Hide (A2 = A.new.wait (a - 1) A.N) := ⟨by have := hpl.out 4 rfl; simpa [hda] using this⟩
      obtain ⟨rW, dW, cW, hvW, hLW, rowW⟩ := hW3.pos (by have := hasH.out a; rw [hda] at this; have := of_decide_eq_true this.symm; omega)
      cases hvW
      have hra := of_decide_eq_true ((hasH.out a).symm.trans hda)
      obtain ⟨p, hpa⟩ : ∃ p : Nat, p + 1 = a := ⟨a - 1, by omega⟩
      have hpN : p < N := by omega
      have t0 := rowW.cell0 hpN (by decide)
      have t1 := rowW.cell hpN (show 1 < 4 by decide)
      have t2 := rowW.cell hpN (show 2 < 4 by decide)
      have t3 := rowW.cell hpN (show 3 < 4 by decide)
      have lrW := rowW.lt
      have ea : (a : Int) - 1 = (p : Int) := by omega
      have iw : IntKind.i64.wrap (p : Int) = p := IntWalk.i64_in _ (by omega)
      have i0 : (0 : Int) ≤ p := by omega
      have ip : (p : Int) < N := by omega
      have hth := fun W (hb : Below ((w2.alloc (.cells #[.slice none 0 0, .bool false] 68)).alloc (.cells #[.slice none 0 0] 71)).heap.size ((w2.alloc (.cells #[.slice none 0 0, .bool false] 68)).alloc (.cells #[.slice none 0 0] 71)) W) => then_calls (hP3.below hb) hT (by omega) (p := p) (by omega) (Nat.le_trans (hws p (by omega)) (by decide)) (by omega)
      have hthr := fun W (r : Nat) (hb : Below ((w2.alloc (.cells #[.slice none 0 0, .bool false] 68)).alloc (.cells #[.slice none 0 0] 71)).heap.size ((w2.alloc (.cells #[.slice none 0 0, .bool false] 68)).alloc (.cells #[.slice none 0 0] 71)) W) (h1 : ((w2.alloc (.cells #[.slice none 0 0, .bool false] 68)).alloc (.cells #[.slice none 0 0] 71)).heap.size ≤ r) (h2 : r < W.heap.size) => then_calls (PS_relabel hP3 hb h1 h2).1 hT (by omega) (p := p) (by omega) (Nat.le_trans (hws p (by omega)) (by decide)) (by omega)
      have hrel := fun W (r : Nat) (hb : Below ((w2.alloc (.cells #[.slice none 0 0, .bool false] 68)).alloc (.cells #[.slice none 0 0] 71)).heap.size ((w2.alloc (.cells #[.slice none 0 0, .bool false] 68)).alloc (.cells #[.slice none 0 0] 71)) W) (h1 : ((w2.alloc (.cells #[.slice none 0 0, .bool false] 68)).alloc (.cells #[.slice none 0 0] 71)).heap.size ≤ r) (h2 : r < W.heap.size) => (PS_relabel hP3 hb h1 h2).2
      have hOut : Hide (A2 = A.new.wait p A.N) := ⟨by rw [hOut0.out, ← hpa]; rfl⟩
      have hON : Hide ((A.new.wait p A.N).N = N + 1) := ⟨by unfold Ab.wait; split <;> (show A.N + 1 = N + 1; rw [hN])⟩
      clear hra hpa
      go_upto_region 19 with fail
      generalize ((w2.alloc (.cells #[.slice none 0 0, .bool false] 68)).alloc (.cells #[.slice none 0 0] 71)) = w5 at *
      go_cut [18, 19] (fun v18 v19 wx => ∃ (b : Nat) (lab6 : Nat → Lab) (K6 : PK), v18 = .pointer (some ⟨b, 0, none⟩) ∧ v19 = .int .i64 0 ∧ PS lab6 K6 wx (A.new.wait p A.N) ∧ Ext lab K w5 lab6 K6 wx A.N ∧ K6.sl A.N = K.n ∧ wx.heap[b]? = some (.cells #[.int .i64 5, .int .i64 0, .string ⟨#[]⟩, .int .i64 (4 + 6 * (K.n : Int))] 38))
      case first =>
        have hC : Below w5.heap.size w5 w5.drew := (Below.refl _ _).drew
        clear hres hrej hlk hvok hvN hv5 hfin rowW c0 c3 c4 c5 c6 z0 hB2 hB3 hE3 hpl hasH hA2 wa wb hr1 hr2 hr3
        have kA : ∀ W : World, Below w5.heap.size w5 W → (W.cell? ⟨rW, dW + p * 4, none⟩ = some (.int .i64 5) ∧ W.cell? ⟨rW, dW + p * 4 + 1, none⟩ = some (.int .i64 0) ∧ W.cell? ⟨rW, dW + p * 4 + 2, none⟩ = some (.string ⟨#[]⟩) ∧ W.cell? ⟨rW, dW + p * 4 + 3, none⟩ = some (.int .i64 (4 + 6 * (K.sl p : Int)))) := fun W h => ⟨keepc h t0, keepc h t1, keepc h t2, keepc h t3⟩
        have kE : ∀ (lb : Nat → Lab) (Kb : PK) (W : World), Ext lab K w5 lb Kb W A.N → (W.cell? ⟨rW, dW + p * 4, none⟩ = some (.int .i64 5) ∧ W.cell? ⟨rW, dW + p * 4 + 1, none⟩ = some (.int .i64 0) ∧ W.cell? ⟨rW, dW + p * 4 + 2, none⟩ = some (.string ⟨#[]⟩) ∧ W.cell? ⟨rW, dW + p * 4 + 3, none⟩ = some (.int .i64 (4 + 6 * (K.sl p : Int)))) := fun lb Kb W h => ⟨h.lt.cell hLW t0, h.lt.cell hLW t1, h.lt.cell hLW t2, h.lt.cell hLW t3⟩
        have kF : ∀ (lb : Nat → Lab) (Kb : PK) (W : World) (b : Nat) (x y z u : Value), Ext lab K w5 lb Kb W A.N → rW ≠ b → (((((W.setCell ⟨b, 0, none⟩ x).setCell ⟨b, 1, none⟩ y).setCell ⟨b, 2, none⟩ z).setCell ⟨b, 3, none⟩ u).cell? ⟨rW, dW + p * 4, none⟩ = some (.int .i64 5) ∧ ((((W.setCell ⟨b, 0, none⟩ x).setCell ⟨b, 1, none⟩ y).setCell ⟨b, 2, none⟩ z).setCell ⟨b, 3, none⟩ u).cell? ⟨rW, dW + p * 4 + 1, none⟩ = some (.int .i64 0) ∧ ((((W.setCell ⟨b, 0, none⟩ x).setCell ⟨b, 1, none⟩ y).setCell ⟨b, 2, none⟩ z).setCell ⟨b, 3, none⟩ u).cell? ⟨rW, dW + p * 4 + 2, none⟩ = some (.string ⟨#[]⟩) ∧ ((((W.setCell ⟨b, 0, none⟩ x).setCell ⟨b, 1, none⟩ y).setCell ⟨b, 2, none⟩ z).setCell ⟨b, 3, none⟩ u).cell? ⟨rW, dW + p * 4 + 3, none⟩ = some (.int .i64 (4 + 6 * (K.sl p : Int)))) := fun lb Kb W b x y z u h hne => ⟨far4 (h.lt.cell hLW t0) hne _ _ _ _, far4 (h.lt.cell hLW t1) hne _ _ _ _, far4 (h.lt.cell hLW t2) hne _ _ _ _, far4 (h.lt.cell hLW t3) hne _ _ _ _⟩
        go_region_held3 (fun W : World => W.cell? ⟨rW, dW + p * 4, none⟩ = some (.int .i64 5) ∧ W.cell? ⟨rW, dW + p * 4 + 1, none⟩ = some (.int .i64 0) ∧ W.cell? ⟨rW, dW + p * 4 + 2, none⟩ = some (.string ⟨#[]⟩) ∧ W.cell? ⟨rW, dW + p * 4 + 3, none⟩ = some (.int .i64 (4 + 6 * (K.sl p : Int)))) (first | with_reducible exact kA _ hC | with_reducible exact kE _ _ _ hEx | with_reducible exact kA _ (below_alloc hC _) | with_reducible exact kA _ (below_alloc (Below.refl _ w5) _).drew | with_reducible exact kE _ _ _ (hEx.trans (Ext.below (below_alloc (Below.refl _ _) _)) (Nat.le_refl _)) | with_reducible exact kF _ _ _ _ _ _ _ _ hEx neB) (first | (go_at_call 14; refine (of_calls 1 _).mono ?_; rintro e w7 ⟨rfl, hb⟩; (first | (have g7 := (hb.block w5.heap.size (by show _ < (w5.alloc _).heap.size; simp)).trans (hallocn w5 _); replace hC := below_then (below_alloc (Below.refl _ w5) _).drew hb) | (replace hC := below_then hC hb)); have lra := Nat.lt_of_lt_of_le lrW hC.size; go_simp) | (go_at_call 20; refine (hthr _ w5.heap.size hC (Nat.le_refl _) (blk_lt g7)).mono ?_; rintro e w6 ⟨rfl, lab6, K6, hP6, hE6, hsN⟩; have z6 := (hE6.oth _ (blk_lt g7) (.inl (up_same _ _))).trans g7; have hl6 := (hE6.lt.labs _ (blk_lt g7)).trans (up_same _ _); have hEx := (hrel _ w5.heap.size hC (Nat.le_refl _) (blk_lt g7)).trans hE6 (Nat.le_refl _); have neB := Nat.ne_of_lt lrW; obtain ⟨s0, s1, s2, s3⟩ := cells4 z6; obtain ⟨u0, u1, u2, u3⟩ := free4 z6; go_simp) | (go_at_call 20; refine (hthr _ w7.heap.size (below_alloc hC _) hC.size (by simp)).mono ?_; rintro e w6 ⟨rfl, lab6, K6, hP6, hE6, hsN⟩; have z6 := (hE6.oth w7.heap.size (by simp) (.inl (up_same _ _))).trans (hallocn _ _); have hl6 := (hE6.lt.labs w7.heap.size (by simp)).trans (up_same _ _); have hEx := (hrel _ w7.heap.size (below_alloc hC _) hC.size (by simp)).trans hE6 (Nat.le_refl _); have neB := Nat.ne_of_lt lra; obtain ⟨s0, s1, s2, s3⟩ := cells4 z6; obtain ⟨u0, u1, u2, u3⟩ := free4 z6; go_simp) | (go_at_call 20; refine (hth _ hC).mono ?_; rintro e w6 ⟨rfl, lab6, K6, hP6, hE6, hsN⟩; have hEx := (Ext.below hC).trans hE6 (Nat.le_refl _); go_simp))
        all_goals
          go_wp2_with fail
          go_meet
          first
            | exact ⟨_, lab6, K6, rfl, rfl, hP6.below ((Below.refl w6.heap.size w6).alloc (Nat.le_refl _) _), hEx.trans (Ext.below ((Below.refl w6.heap.size w6).alloc (Nat.le_refl _) _)) (Nat.le_refl _), hsN, hallocn _ _⟩
            | exact ⟨_, lab6, K6, rfl, rfl, PS_wr (PS_wr (PS_wr (PS_wr hP6 hl6 _ _) hl6 _ _) hl6 _ _) hl6 _ _, Ext_wr (Ext_wr (Ext_wr (Ext_wr hEx (by first | exact Nat.le_refl _ | exact hC.size) _ _) (by first | exact Nat.le_refl _ | exact hC.size) _ _) (by first | exact Nat.le_refl _ | exact hC.size) _ _) (by first | exact Nat.le_refl _ | exact hC.size) _ _, hsN, set4 _ _ _ _ z6⟩
      obtain ⟨bx, lab6, K6, rfl, rfl, hP6, hEx, hsN, hbx⟩ := hcut
      rw [hN] at hEx hsN
      have hsl : Hs lab6 K6 wc N (.slice (some ⟨rW, dW, none⟩) N cap) := hW3.ext hEx.lt
      go_wp2_with fail
      obtain ⟨i1, z, hi1, hz0, hz1, hz2, hz3⟩ := z38
      have lbx := blk_lt hbx
      obtain ⟨e0, e1, e2, e3⟩ := cells4 hbx
      have hslK : ∀ p, p < N → K6.sl p = K.sl p := fun p hp => hEx.lt.sl p hp
      clear t0 t1 t2 t3 hth hthr hrel hres hrej hlk hfin c0 c3 c4 c5 c6
      generalize wc = wr at *
      have hsrc : ∀ W, Below wr.heap.size wr W → Src Tryz.prog 4 43 (.slice (some ⟨rW, dW, none⟩) N cap) N (flat 4 N fun p c => ref (K.sl p) c) W := fun W hC => by
        have h1 : Sl W (fun r => lab6 r = .imm) tVal 4 (.slice (some ⟨rW, dW, none⟩) N cap) N (fun p c => ref (K6.sl p) c) := Sl.same hsl (fun r hr _ => hC.block r hr) fun _ _ h => h
        exact sl_src (P := Tryz.prog) Tryz.underlying43 (h1.eqf fun p c hp _ => by show ref (K.sl p) c = ref (K6.sl p) c; rw [hslK p hp]) (fun p c _ hc => by
          match c, hc with
          | 0, _ => rfl
          | 1, _ => rfl
          | 2, _ => rfl
          | 3, _ => rfl)
      have hle : ∀ W, Below wr.heap.size wr W → wr.heap.size ≤ W.heap.size := fun W h => h.size
      have hX : ∀ (W : World) (r : Nat), W.heap[r]? = some (.cells #[.int .i64 5, .int .i64 0, .string ⟨#[]⟩, .int .i64 (4 + 6 * (K.n : Int))] 38) → Src Tryz.prog 4 43 (.slice (some ⟨r, 0, none⟩) 1 1) 1 [.int .i64 5, .int .i64 0, .string ⟨#[]⟩, .int .i64 (4 + 6 * (K.n : Int))] W := fun W r h => Src.ofSlice (e' := 38) _ Tryz.underlying43 _ 1 1 _ rfl (World.news_of_block (cs := #[.int .i64 5, .int .i64 0, .string ⟨#[]⟩, .int .i64 (4 + 6 * (K.n : Int))]) (t := 38) (fr := (0, 0)) h) (by simp [Value.oneCell'])
      have hXA : ∀ (e : Nat) (w2 : World), ((wr.drew.alloc (.cells #[.int .i64 5, .int .i64 0, .string ⟨#[]⟩, .int .i64 (4 + 6 * (K.n : Int))] 38)).alloc (.cells #[] 38)).grownBy w2 (some e) → e = wr.heap.size + 1 → Src Tryz.prog 4 43 (.slice (some ⟨wr.heap.size, 0, none⟩) 1 1) 1 [.int .i64 5, .int .i64 0, .string ⟨#[]⟩, .int .i64 (4 + 6 * (K.n : Int))] w2 := fun _ w2 hg he => hX _ _ (blk_grown hg ((halloc _ _ _ (by show wr.heap.size < (wr.drew.alloc _).heap.size; simp)).trans (alloc_at rfl)) (by omega))
      have hXB : ∀ (e : Nat) (w2 : World), ((wr.drew.alloc (.cells #[] 38)).alloc (.cells #[.int .i64 5, .int .i64 0, .string ⟨#[]⟩, .int .i64 (4 + 6 * (K.n : Int))] 38)).grownBy w2 (some e) → e = wr.heap.size → Src Tryz.prog 4 43 (.slice (some ⟨wr.heap.size + 1, 0, none⟩) 1 1) 1 [.int .i64 5, .int .i64 0, .string ⟨#[]⟩, .int .i64 (4 + 6 * (K.n : Int))] w2 := fun _ w2 hg he => hX _ _ (blk_grown hg (alloc_at (by simp)) (by omega))
      have hXn : ∀ W : World, Src Tryz.prog 4 43 (.slice (some ⟨W.heap.size, 0, none⟩) 1 1) 1 [.int .i64 5, .int .i64 0, .string ⟨#[]⟩, .int .i64 (4 + 6 * (K.n : Int))] (W.alloc (.cells #[.int .i64 5, .int .i64 0, .string ⟨#[]⟩, .int .i64 (4 + 6 * (K.n : Int))] 38)) := fun W => hX _ _ (hallocn _ _)
      have hC : Below wr.heap.size wr wr.drew := (Below.refl _ wr).drew
      have hm : N + 1 ≤ 1000000 := by omega
      go_region_law (first | (refine step_append_sl0 _ rfl (.tmp 143) (.tmp 144) 43 43 rfl 38 i1 z 4 i1.bytes Tryz.underlying43 hi1 hz0 hz1 rfl hz3 (fun r => wr.heap.size ≤ r) _ 0 0 0 (fun _ _ => .bool false) (by simp [Act.eval]) (by first | (simp; done) | (simp; omega)) (row_empty 4 (hallocn _ _)) _ N _ (by simp [Act.eval]) (hsrc _ (by first | exact below_alloc (below_alloc hC _) _ | exact below_alloc hC _)) (by omega) hz2 _ rfl ?_; intro g2 d2 c2 w2' hrow2 hgrow2 hat2; rw [Nat.zero_add] at hrow2; have hg2 := ge_of hat2 (by first | (simp; done) | (simp; omega)); (first | (have hX0 := hXA _ _ hgrow2 (by simp)) | (have hX0 := hXB _ _ hgrow2 (by simp)) | skip); replace hC := below_grown (by first | exact below_alloc (below_alloc hC _) _ | exact below_alloc hC _) hgrow2 (by first | (simp; done) | (simp; omega)) (by first | (simp; done) | (simp; omega)); have e0a := keepc hC e0; have e1a := keepc hC e1; have e2a := keepc hC e2; have e3a := keepc hC e3; have lxa := Nat.lt_of_lt_of_le lbx hC.size) | (refine step_append_sl0 _ rfl (.tmp 143) (.tmp 144) 43 43 rfl 38 i1 z 4 i1.bytes Tryz.underlying43 hi1 hz0 hz1 rfl hz3 (fun r => wr.heap.size ≤ r) _ 0 0 0 (fun _ _ => .bool false) (by simp [Act.eval]) (by first | (simp; done) | (simp; omega)) ((row_empty 4 (hallocn _ _)).alloc _) _ N _ (by simp [Act.eval]) (hsrc _ (by first | exact below_alloc (below_alloc hC _) _ | exact below_alloc hC _)) (by omega) hz2 _ rfl ?_; intro g2 d2 c2 w2' hrow2 hgrow2 hat2; rw [Nat.zero_add] at hrow2; have hg2 := ge_of hat2 (by first | (simp; done) | (simp; omega)); (first | (have hX0 := hXA _ _ hgrow2 (by simp)) | (have hX0 := hXB _ _ hgrow2 (by simp)) | skip); replace hC := below_grown (by first | exact below_alloc (below_alloc hC _) _ | exact below_alloc hC _) hgrow2 (by first | (simp; done) | (simp; omega)) (by first | (simp; done) | (simp; omega)); have e0a := keepc hC e0; have e1a := keepc hC e1; have e2a := keepc hC e2; have e3a := keepc hC e3; have lxa := Nat.lt_of_lt_of_le lbx hC.size) | (refine step_append_sl0 _ rfl (.tmp 145) (.tmp 147) 43 43 rfl 38 i1 z 4 i1.bytes Tryz.underlying43 hi1 hz0 hz1 rfl hz3 (fun r => wr.heap.size ≤ r) g2 d2 N c2 _ (by simp [Act.eval]) hg2 hrow2 _ 1 _ (by simp [Act.eval]) (hX0) (by omega) hz2 _ rfl ?_; intro g3 d3 c3 w3 hrow3 hgrow3 hat3; have hg3 := ge_of hat3 (hle _ hC); replace hC := below_grown hC hgrow3 hg2 (hle _ hC); have e0b := keepc hC e0; have e1b := keepc hC e1; have e2b := keepc hC e2; have e3b := keepc hC e3) | (refine step_append_sl0 _ rfl (.tmp 145) (.tmp 147) 43 43 rfl 38 i1 z 4 i1.bytes Tryz.underlying43 hi1 hz0 hz1 rfl hz3 (fun r => wr.heap.size ≤ r) g2 d2 N c2 _ (by simp [Act.eval]) hg2 (hrow2.alloc _) _ 1 _ (by simp [Act.eval]) (hXn _) (by omega) hz2 _ rfl ?_; intro g3 d3 c3 w3 hrow3 hgrow3 hat3; have hg3 := ge_of hat3 (hle _ (below_alloc hC _)); replace hC := below_grown (below_alloc hC _) hgrow3 hg2 (hle _ (below_alloc hC _)); have e0b := keepc hC e0; have e1b := keepc hC e1; have e2b := keepc hC e2; have e3b := keepc hC e3))
      all_goals
        go_wp2_with fail
        refine bodyPost_ret (results_tmp2 rfl _ _ _) rfl ?_
        have hEE := (hE3.trans (hN ▸ hEx) (Nat.le_refl _)).trans (Ext.below hC) (Nat.le_refl _)
        rw [hN] at hEE
        rw [hOut.out, hON.out]
        exact ⟨_, rfl, lab6, K6, hP6.below hC, hEE, hs_new hslK hsN (hP6.new _ hg3) hrow3⟩
  · have hpl2 : Hide (A2 = A.next) := ⟨by have := hpl.out 5 rfl; simpa using this⟩
    cases hj : A.jobs with
    | nil =>
      have hnx : Hide (A.next = A) := ⟨by simp [Ab.next, hj]⟩
      go_wp2_with fail
      refine (pop_none hP3 hj).mono ?_
      rintro e w4 ⟨rfl, hb4⟩
      go_wp2_with fail
      go_quiet (fail)
      go_wp2
      refine bodyPost_ret (results_tmp2 rfl _ _ _) rfl ?_
      exact hfin.out (hpl2.out.trans hnx.out) _ ((below_alloc hb4 _).trans ⟨rfl, rfl, rfl, Nat.le_refl _, fun _ _ => rfl⟩)
    | cons j rest => 
      obtain ⟨hjs2, hjw, hjv, r1, d1, c1, hj1, hjr⟩ := hP3.jb 0 j (by rw [hj]; rfl)
      go_wp2_with fail
      refine (pop_some hP3 (by omega) hj hj1).mono ?_
      rintro e w4 ⟨rfl, lab4, K4, hP4, hE4, hjb4⟩
      go_wp2_with fail
      have hnx : Hide (A.next = ({ A with jobs := rest } : Ab).act j) := ⟨by simp [Ab.next, hj, Ab.act]⟩
      have hs0 : ((w2.alloc (.cells #[.slice none 0 0, .bool false] 68)).alloc (.cells #[.slice none 0 0] 71)).cell? ⟨w2.heap.size, 0, none⟩ = some (.slice none 0 0) := cell_blk ((halloc _ _ _ (by simp)).trans (hallocn _ _)) 0
      have hsl : lab w2.heap.size = .imm := hP.new _ hB2.size
      have s4 := hE4.lt.cell hsl hs0
      have hsl4 : lab4 w2.heap.size = .imm := hE4.lt.lab_imm hsl hs0
      have hbl4 : lab4 w4.heap.size = .imm := hP4.new _ (Nat.le_refl _)
      have hB5 := (Below.refl w4.heap.size w4).alloc (Nat.le_refl _) (.cells #[.int .i64 2, .slice (some ⟨r1, d1, none⟩) 3 c1] 53)
      have g5 := hallocn w4 (.cells #[.int .i64 2, .slice (some ⟨r1, d1, none⟩) 3 c1] 53)
      have s5 := keepc hB5 s4
      have p0 := cell_blk g5 0
      have p1 := cell_blk g5 1
      have hjl4 : ({ A with jobs := rest } : Ab).jobs.length ≤ 50000 := by
        have : A.jobs.length = rest.length + 1 := by rw [hj]; rfl
        show rest.length ≤ 50000
        omega
      have hT4 : Tabs K4.w0 := by rw [hE4.e0]; exact hT
      have hn4 : K4.n < 80000 := by
        have e1 := hP4.eob
        have e2 := hP.eob
        have e3 : ({ A with jobs := rest } : Ab).ob = A.ob := rfl
        omega
      have hbeg := fun W (hb : Below (w4.alloc (.cells #[.int .i64 2, .slice (some ⟨r1, d1, none⟩) 3 c1] 53)).heap.size (w4.alloc (.cells #[.int .i64 2, .slice (some ⟨r1, d1, none⟩) 3 c1] 53)) W) => begin_calls (hP4.below (hB5.trans (hb.mono (by simp)))) hT4 hn4 ((Lt.below (hB5.trans (hb.mono (by simp)))).jb (Nat.le_refl _) hjb4) hj1 (Nat.le_trans (hws _ hjw) (by decide)) hjl4 w2.heap.size (.pointer (some ⟨w2.heap.size + 1, 0, none⟩)) (keepc hb s5)
      have hC : Below (w4.alloc (.cells #[.int .i64 2, .slice (some ⟨r1, d1, none⟩) 3 c1] 53)).heap.size (w4.alloc (.cells #[.int .i64 2, .slice (some ⟨r1, d1, none⟩) 3 c1] 53)) (w4.alloc (.cells #[.int .i64 2, .slice (some ⟨r1, d1, none⟩) 3 c1] 53)).drew := (Below.refl _ _).drew
      rw [hE4.eH, hE4.eJ] at hbeg
      generalize (w4.alloc (.cells #[.int .i64 2, .slice (some ⟨r1, d1, none⟩) 3 c1] 53)) = w5 at *
      clear hjs2 hjv hjr hj1 hjb4 c0 c3 c4 c5 c6 wa wb hr1 hr2 hr3
      go_region_held3 (fun W : World => W.cell? ⟨w4.heap.size, 0, none⟩ = some (.int .i64 2) ∧ W.cell? ⟨w4.heap.size, 1, none⟩ = some (.slice (some ⟨r1, d1, none⟩) 3 c1) ∧ W.cell? ⟨w2.heap.size, 0, none⟩ = some (.slice none 0 0)) (first | exact ⟨keepc hC p0, keepc hC p1, keepc hC s5⟩ | exact ⟨hE6.lt.cell hbl4 (keepc hC p0), hE6.lt.cell hbl4 (keepc hC p1), hE6.lt.cell hsl4 (keepc hC s5)⟩) (first | (go_at_call 22; refine (hbeg _ hC).mono ?_; rintro e w6 ⟨rfl, lab6, K6, hP6, hE6⟩; go_simp))
      all_goals
        go_wp2_with fail
        refine bodyPost_ret (results_tmp2 rfl _ _ _) rfl ?_
        have hEE := (hE3.trans hE4 (Nat.le_refl _)).trans ((Ext.below (hB5.trans (hC.mono hB5.size))).trans hE6 (Nat.le_refl _)) (Nat.le_refl _)
        rw [hpl2.out, hnx.out]
        have hNa : (({ A with jobs := rest } : Ab).act j).N = N := by
          unfold Ab.act
          split <;> exact hN
        rw [hNa]
        rw [hN] at hEE
        exact ⟨_, rfl, lab6, K6, hP6, hEE, hW.ext hEE.lt⟩
end
end Go.Proofs.YtcceopgaiffkmaaGreatDoor
