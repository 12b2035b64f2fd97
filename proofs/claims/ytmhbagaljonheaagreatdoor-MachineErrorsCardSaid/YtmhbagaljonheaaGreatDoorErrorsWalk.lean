/- MachineErrors hands back true at every input: the evaluator's runs, put together. Condition: the two tables of unicode/utf8 read as they are laid. -/
import Derived.Test.YtmhbagaljonheaaGreatDoorRunE0
import Derived.Test.YtmhbagaljonheaaGreatDoorRunE1
import Derived.Test.YtmhbagaljonheaaGreatDoorRunE2
import Derived.Test.YtmhbagaljonheaaGreatDoorRepair
namespace Go.Proofs.YtmhbagaljonheaaGreatDoor
open Go Go.Ev
set_option maxRecDepth 100000

theorem Tabs.of_fx {w0 w : World} (hT : Tabs w0) (h : ∀ r o, r < 2 → w0.heap[r]? = some o → w.heap[r]? = some o) : Tabs w := by
  have key : ∀ r c v, r < 2 → w0.cell? ⟨r, c, none⟩ = some v → w.cell? ⟨r, c, none⟩ = some v := by
    intro r c v hr hv
    cases h0 : w0.heap[r]? with
    | none => simp [World.cell?, h0] at hv
    | some o =>
      have := h r o hr h0
      simp only [World.cell?, h0] at hv
      simp only [World.cell?, this]
      exact hv
  exact ⟨fun c hc => key 0 c _ (by decide) (hT.1 c hc), fun i hi => ⟨key 1 _ _ (by decide) (hT.2 i hi).1, key 1 _ _ (by decide) (hT.2 i hi).2⟩⟩

theorem repOk {σ : Sg} {s : ByteArray} {w0 : World} (g0 : σ.s 0 = s) (g1 : σ.s 1 = repairOf s) (gl : ((repairOf s).size : Int) = σ.i 1) (hs : s.size ≤ 60) (hT : Tabs w0)
    (hfx : ∀ r o, r < 2 → w0.heap[r]? = some o → σ.fx r = some o) : RepOk Tryz.prog σ 82 ans1 := by
  obtain ⟨c, hc⟩ : ∃ c, Tryz.f82.body = some c := Option.isSome_iff_exists.1 (by kernel_rfl)
  refine ⟨Tryz.f82, c, Tryz.func82, hc, fun args v hans e vs w hl hx => ?_⟩
  have tabs : Tabs w := hT.of_fx fun r o hr h => hx r o (hfx r o hr h)
  have hv : VR σ e (.ssym 1 1) (.string (repairOf s)) := by
    have := VR.ssym (σ := σ) (e := e) 1 1 (by rw [g1]; exact gl)
    rwa [g1] at this
  have go : ∀ t : ByteArray, t.size ≤ 1000 → repairOf t = repairOf s → vs = #[.string t] → v = .ssym 1 1 →
      c.wp Tryz.prog (bodyPost Tryz.prog Tryz.f82 fun en w' => ∃ v', en = .returned v' ∧ VR σ e v v' ∧ RowKit.Below w.heap.size w w') { tmps := vs ++ Array.replicate (Tryz.f82.ntmps - vs.size) undef, defers := [] } w := by
    rintro t h1 h2 rfl rfl
    refine wp_mono (repair_wp c hc t w h1 tabs) fun en a w' h => ?_
    cases en with
    | normal => obtain ⟨q1, u, q2, q3, q4⟩ := h; exact ⟨q1, u, q2, u, rfl, by injection q3 with q3; rw [q3, h2]; exact hv, q4⟩
    | ret => obtain ⟨q1, u, q2, q3, q4⟩ := h; exact ⟨q1, u, q2, u, rfl, by injection q3 with q3; rw [q3, h2]; exact hv, q4⟩
    | panic chain => obtain ⟨_, q, _⟩ := h; cases q
    | exit id => exact h
    | goto l => exact h
    | outgrown => obtain ⟨q, _⟩ := h; cases q
  have sz := repairOf_size s
  unfold ans1 at hans
  split at hans
  · rename_i j l
    obtain ⟨u, us, hu, r1, r2⟩ := hl.cons_inv
    obtain rfl := r2.nil_inv
    have hvs : vs = #[u] := by apply Array.ext'; exact hu
    cases r1
    split at hans
    · rename_i hj
      obtain rfl : j = 0 := by simpa using hj
      exact go s (by omega) rfl (by rw [hvs, g0]) (Option.some.inj hans).symm
    · split at hans
      · rename_i hj
        obtain rfl : j = 1 := by simpa using hj
        exact go (repairOf s) (by omega) (repairOf_idem s) (by rw [hvs, g1]) (Option.some.inj hans).symm
      · cases hans
  · cases hans

theorem sat7 {g : Nat → Int} {p0 p1 p2 p3 p4 p5 p6 : Int × Int} (b0 : p0.1 ≤ g 0 ∧ g 0 ≤ p0.2) (b1 : p1.1 ≤ g 1 ∧ g 1 ≤ p1.2) (b2 : p2.1 ≤ g 2 ∧ g 2 ≤ p2.2)
    (b3 : p3.1 ≤ g 3 ∧ g 3 ≤ p3.2) (b4 : p4.1 ≤ g 4 ∧ g 4 ≤ p4.2) (b5 : p5.1 ≤ g 5 ∧ g 5 ≤ p5.2) (b6 : p6.1 ≤ g 6 ∧ g 6 ≤ p6.2) : SatI g [p0, p1, p2, p3, p4, p5, p6] := by
  intro s lo hi h
  match s, h with
  | 0, h => cases h; exact b0
  | 1, h => cases h; exact b1
  | 2, h => cases h; exact b2
  | 3, h => cases h; exact b3
  | 4, h => cases h; exact b4
  | 5, h => cases h; exact b5
  | 6, h => cases h; exact b6
  | n + 7, h => simp at h

namespace machineErrors
theorem fits_i64 {a : Int} (h : (Lit.int .i64 a).wf = true) : -9223372036854775808 ≤ a ∧ a ≤ 9223372036854775807 := by
  have e1 : IntKind.min .i64 = -9223372036854775808 := by kernel_rfl
  have e2 : IntKind.max .i64 = 9223372036854775807 := by kernel_rfl
  simpa [Lit.wf, e1, e2] using h
theorem fits_u16 {a : Int} (h : (Lit.int .u16 a).wf = true) : 0 ≤ a ∧ a ≤ 65535 := by
  have e1 : IntKind.min .u16 = 0 := by kernel_rfl
  have e2 : IntKind.max .u16 = 65535 := by kernel_rfl
  simpa [Lit.wf, e1, e2] using h

theorem walk (a k n r u : Int) (s : ByteArray) (wa : (Lit.int .i64 a).wf = true) (wk : (Lit.int .i64 k).wf = true) (wn : (Lit.int .i64 n).wf = true) (wr : (Lit.int .i64 r).wf = true) (wu : (Lit.int .u16 u).wf = true)
    (ws : s.size ≤ 9223372036854775807) (w : World) (hT : Tabs w) :
    Calls Tryz.prog 3 #[.int .i64 a, .agg #[.int .i64 k, .int .i64 n, .string s, .int .i64 r], .int .u16 u] w fun e w' => e = .returned (.bool true) ∧ w.keptBut w' (fun _ => False) := by
  have ca := fits_i64 wa
  have ck := fits_i64 wk
  have cn := fits_i64 wn
  have cr := fits_i64 wr
  have cu := fits_u16 wu
  clear wa wk wn wr wu
  obtain ⟨cb, hbody⟩ : ∃ cb, Tryz.f3.body = some cb := Option.isSome_iff_exists.1 (by kernel_rfl)
  by_cases hs : s.size ≤ 60
  · have fin : ∀ (q3 q4 : Int) {x y : CV} {p3 p4 : Int × Int}, (runs 3 [.sym .i64 2, .agg [x, y, .ssym 0 0, .sym .i64 5], .sym .u16 6] ⟨[(0, 60), (0, 9223372036854775807), (-9223372036854775808, 9223372036854775807), p3, p4, (-9223372036854775808, 9223372036854775807), (0, 65535)], []⟩).val = true →
        (∀ σ : Sg, σ.i 3 = q3 → σ.i 4 = q4 → VR σ (fun _ => none) x (.int .i64 k) ∧ VR σ (fun _ => none) y (.int .i64 n)) → p3.1 ≤ q3 ∧ q3 ≤ p3.2 → p4.1 ≤ q4 ∧ q4 ≤ p4.2 →
        Calls Tryz.prog 3 #[.int .i64 a, .agg #[.int .i64 k, .int .i64 n, .string s, .int .i64 r], .int .u16 u] w fun e w' => e = .returned (.bool true) ∧ w.keptBut w' (fun _ => False) := by
      intro q3 q4 x y p3 p4 h hxy h3 h4
      obtain ⟨σ, g0, g1, g2, g3, g4, g5, g6, t0, t1, fx⟩ : ∃ σ : Sg, σ.i 0 = (s.size : Int) ∧ σ.i 1 = ((repairOf s).size : Int) ∧ σ.i 2 = a ∧ σ.i 3 = q3 ∧ σ.i 4 = q4 ∧ σ.i 5 = r ∧ σ.i 6 = u ∧ σ.s 0 = s ∧ σ.s 1 = repairOf s ∧ (∀ r, σ.fx r = if r < 2 then w.heap[r]? else none) :=
        ⟨{ i := fun j => match j with | 0 => (s.size : Int) | 1 => ((repairOf s).size : Int) | 2 => a | 3 => q3 | 4 => q4 | 5 => r | _ => u, s := fun j => match j with | 0 => s | _ => repairOf s, fx := fun r => if r < 2 then w.heap[r]? else none },
          rfl, rfl, rfl, rfl, rfl, rfl, rfl, rfl, rfl, fun _ => rfl⟩
      have hx : ∀ r o, σ.fx r = some o → w.heap[r]? = some o := by
        intro r o h
        rw [fx] at h
        split at h
        · exact h
        · cases h
      have vi : ∀ {k : IntKind} {j : Nat} {x : Int}, σ.i j = x → VR σ (fun _ => none) (.sym k j) (.int k x) := fun h => by rw [← h]; exact .sym _ _
      have vs : VR σ (fun _ => none) (.ssym 0 0) (.string s) := by
        have := VR.ssym (σ := σ) (e := fun _ => none) 0 0 (by rw [t0, g0])
        rwa [t0] at this
      have hA := repOk (σ := σ) t0 t1 g1.symm hs hT fun r o hr h => by rw [fx, if_pos hr]; exact h
      have sz := repairOf_size s
      refine law_calls Tryz.func3 hbody h hA ⟨sat7 ?_ ?_ ?_ ?_ ?_ ?_ ?_, fun x hx => by cases hx⟩ w hx _
        (LR.cons (vi g2) (LR.cons (.agg rfl (LR.cons (hxy σ g3 g4).1 (LR.cons (hxy σ g3 g4).2 (LR.cons vs (LR.cons (vi g5) LR.nil)))).2) (LR.cons (vi g6) LR.nil)))
      · rw [g0]; simp only []; omega
      · rw [g1]; simp only []; omega
      · rw [g2]; exact ca
      · rw [g3]; exact h3
      · rw [g4]; exact h4
      · rw [g5]; exact cr
      · rw [g6]; exact cu
    have sy : ∀ {k : IntKind} {j : Nat} {x : Int} (σ : Sg), σ.i j = x → VR σ (fun _ => none) (.sym k j) (.int k x) := fun σ h => by rw [← h]; exact .sym _ _
    rcases (by omega : k = 0 ∨ k = 1 ∨ k = 2 ∨ k = 3 ∨ k = 4 ∨ k = 5 ∨ k = 6 ∨ k < 0 ∨ 6 < k) with e | e | e | e | e | e | e | e | e
    · subst e; exact fin 0 n errorsA.1 (fun σ _ h4 => ⟨.int _ _, sy σ h4⟩) (by decide) cn
    · subst e; exact fin 0 n errorsA.2.1 (fun σ _ h4 => ⟨.int _ _, sy σ h4⟩) (by decide) cn
    · subst e
      rcases (by omega : n < 0 ∨ n = 0 ∨ 0 < n) with f | f | f
      · exact fin 0 n errorsB.1 (fun σ _ h4 => ⟨.int _ _, sy σ h4⟩) (by decide) (by simp only []; omega)
      · subst f; exact fin 0 0 errorsB.2.1 (fun σ _ _ => ⟨.int _ _, .int _ _⟩) (by decide) (by decide)
      · exact fin 0 n errorsB.2.2.1 (fun σ _ h4 => ⟨.int _ _, sy σ h4⟩) (by decide) (by simp only []; omega)
    · subst e; exact fin 0 n errorsA.2.2.1 (fun σ _ h4 => ⟨.int _ _, sy σ h4⟩) (by decide) cn
    · subst e; exact fin 0 n errorsA.2.2.2.1 (fun σ _ h4 => ⟨.int _ _, sy σ h4⟩) (by decide) cn
    · subst e; exact fin 0 n errorsA.2.2.2.2.1 (fun σ _ h4 => ⟨.int _ _, sy σ h4⟩) (by decide) cn
    · subst e; exact fin 0 n errorsA.2.2.2.2.2 (fun σ _ h4 => ⟨.int _ _, sy σ h4⟩) (by decide) cn
    · exact fin k n errorsB.2.2.2.1 (fun σ h3 h4 => ⟨sy σ h3, sy σ h4⟩) (by simp only []; omega) cn
    · exact fin k n errorsB.2.2.2.2 (fun σ h3 h4 => ⟨sy σ h3, sy σ h4⟩) (by simp only []; omega) cn
  · obtain ⟨τ, f0, f1, f2, f3, f4, f5, f6, v0, fy⟩ : ∃ τ : Sg, τ.i 0 = (s.size : Int) ∧ τ.i 1 = 0 ∧ τ.i 2 = a ∧ τ.i 3 = k ∧ τ.i 4 = n ∧ τ.i 5 = r ∧ τ.i 6 = u ∧ τ.s 0 = s ∧ (∀ r, τ.fx r = none) :=
      ⟨{ i := fun j => match j with | 0 => (s.size : Int) | 1 => 0 | 2 => a | 3 => k | 4 => n | 5 => r | _ => u, s := fun _ => s }, rfl, rfl, rfl, rfl, rfl, rfl, rfl, rfl, fun _ => rfl⟩
    have vi : ∀ {k : IntKind} {j : Nat} {x : Int}, τ.i j = x → VR τ (fun _ => none) (.sym k j) (.int k x) := fun h => by rw [← h]; exact .sym _ _
    have vs : VR τ (fun _ => none) (.ssym 0 0) (.string s) := by
      have := VR.ssym (σ := τ) (e := fun _ => none) 0 0 (by rw [v0, f0])
      rwa [v0] at this
    refine law_calls0 (σ := τ) Tryz.func3 hbody errorsL ⟨sat7 ?_ ?_ ?_ ?_ ?_ ?_ ?_, fun x hx => by cases hx⟩ w (fun r o h => by rw [fy] at h; cases h) _
      (LR.cons (vi f2) (LR.cons (.agg rfl (LR.cons (vi f3) (LR.cons (vi f4) (LR.cons vs (LR.cons (vi f5) LR.nil)))).2) (LR.cons (vi f6) LR.nil)))
    · rw [f0]; simp only []; omega
    · rw [f1]; decide
    · rw [f2]; exact ca
    · rw [f3]; exact ck
    · rw [f4]; exact cn
    · rw [f5]; exact cr
    · rw [f6]; exact cu
#print axioms walk
end machineErrors
end Go.Proofs.YtmhbagaljonheaaGreatDoor
