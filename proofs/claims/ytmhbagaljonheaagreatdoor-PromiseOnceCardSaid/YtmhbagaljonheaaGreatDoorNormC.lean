/- The reference's Normal, as a contract of a call. Condition: as Norm. -/
import Derived.Test.YtmhbagaljonheaaGreatDoorNorm
namespace Go.Proofs.YtmhbagaljonheaaGreatDoor
open Go Go.Ev
set_option maxRecDepth 100000
theorem norm_calls {f : FuncId} {fn : Func} {cb : Code} (hfn : Tryz.prog.funcs[f]? = some fn) (hbody : fn.body = some cb) (H : Norms f) (k n x : Int) (s : ByteArray) (ck : -9223372036854775808 ≤ k ∧ k ≤ 9223372036854775807) (cn : -9223372036854775808 ≤ n ∧ n ≤ 9223372036854775807)
    (cx : -9223372036854775808 ≤ x ∧ x ≤ 9223372036854775807) (hs : s.size ≤ 60) (h5 : k ≠ 5) (w : World) (hT : Tabs w) :
    Calls Tryz.prog f #[.agg #[.int .i64 k, .int .i64 n, .string s, .int .i64 x]] w fun en w' => en = .returned (normV k n s) ∧ RowKit.Below w.heap.size w w' := by
  have fin : ∀ (q3 q4 : Int) {y z r : CV} {p3 p4 : Int × Int}, (runN f [.agg [y, z, .ssym 0 0, .sym .i64 5]] ⟨[(0, 60), (0, 9223372036854775807), (0, 0), p3, p4, (-9223372036854775808, 9223372036854775807)], []⟩ r).val = true →
      (∀ τ : Sg, τ.i 3 = q3 → τ.i 4 = q4 → VR τ (fun _ => none) y (.int .i64 k) ∧ VR τ (fun _ => none) z (.int .i64 n)) → p3.1 ≤ q3 ∧ q3 ≤ p3.2 → p4.1 ≤ q4 ∧ q4 ≤ p4.2 →
      (∀ (τ : Sg) (e : Env) (v : Value), τ.i 4 = q4 → τ.s 1 = repairOf s → VR τ e r v → v = normV k n s) →
      Calls Tryz.prog f #[.agg #[.int .i64 k, .int .i64 n, .string s, .int .i64 x]] w fun en w' => en = .returned (normV k n s) ∧ RowKit.Below w.heap.size w w' := by
    intro q3 q4 y z r p3 p4 h hyz h3 h4 hr
    obtain ⟨τ, g0, g1, g2, g3, g4, g5, t0, t1, fx, pn⟩ : ∃ τ : Sg, τ.i 0 = (s.size : Int) ∧ τ.i 1 = ((repairOf s).size : Int) ∧ τ.i 2 = 0 ∧ τ.i 3 = q3 ∧ τ.i 4 = q4 ∧ τ.i 5 = x ∧ τ.s 0 = s ∧ τ.s 1 = repairOf s ∧ (∀ r, τ.fx r = if r < 2 then w.heap[r]? else none) ∧ (∀ r, τ.pn r = none) :=
      ⟨{ i := fun j => match j with | 0 => (s.size : Int) | 1 => ((repairOf s).size : Int) | 2 => 0 | 3 => q3 | 4 => q4 | _ => x, s := fun j => match j with | 0 => s | _ => repairOf s, fx := fun r => if r < 2 then w.heap[r]? else none },
        rfl, rfl, rfl, rfl, rfl, rfl, rfl, rfl, (fun _ => rfl), fun _ => rfl⟩
    have hx : ∀ r o, τ.fx r = some o → w.heap[r]? = some o := by
      intro r o h
      rw [fx] at h
      split at h
      · exact h
      · cases h
    have vs : VR τ (fun _ => none) (.ssym 0 0) (.string s) := by
      have := VR.ssym (σ := τ) (e := fun _ => none) 0 0 (by rw [t0, g0])
      rwa [t0] at this
    have v5 : VR τ (fun _ => none) (.sym .i64 5) (.int .i64 x) := by rw [← g5]; exact .sym _ _
    have hA := repOk (σ := τ) t0 t1 g1.symm hs hT fun r o hr h => by rw [fx, if_pos hr]; exact h
    have hA2 := repOk2 (σ := τ) t0 t1 g1.symm hs
    have sz := repairOf_size s
    have hcall := callG_sound (σ := τ) noCount extFact (ov := ovN) (fun call hc => ovrR_ok noCount (ovrR_ok noCount hc hA2) hA) 1000000 140
    obtain ⟨v, m', k1, k2⟩ := calls_of_eval noCount hcall hfn hbody (runN_at h) ⟨sat6 (by rw [g0]; simp only []; omega) (by rw [g1]; simp only []; omega) (by rw [g2]; decide) (by rw [g3]; exact h3) (by rw [g4]; exact h4) (by rw [g5]; exact cx), fun x hx => by cases hx⟩
    unfold isRP at k1
    split at k1
    · rename_i hc
      have hc := cvBeq_eq _ _ hc
      subst hc
      refine (k2 (fun _ => none) w #[.agg #[.int .i64 k, .int .i64 n, .string s, .int .i64 x]] (RL.empty _ _ _ _ hx pn)
        (LR.cons (.agg rfl (LR.cons (hyz τ g3 g4).1 (LR.cons (hyz τ g3 g4).2 (LR.cons vs (LR.cons v5 LR.nil)))).2) LR.nil)).mono fun en w' ⟨v', e', he, q2, _, q4⟩ => ?_
      obtain rfl := hr τ e' v' g4 t1 q2
      exact ⟨he, q4.os, q4.tap, q4.out, q4.siz, fun r hr => q4.frm r hr (fun b p hb => by cases hb)⟩
    · cases k1
  have sy : ∀ {k : IntKind} {j : Nat} {x : Int} (σ : Sg), σ.i j = x → VR σ (fun _ => none) (.sym k j) (.int k x) := fun σ h => by rw [← h]; exact .sym _ _
  rcases (by omega : k = 0 ∨ k = 1 ∨ k = 2 ∨ k = 3 ∨ k = 4 ∨ k = 6 ∨ k < 0 ∨ 6 < k) with hk | hk | hk | hk | hk | hk | hk | hk
  · subst hk; exact fin 0 n H.1 (fun τ _ h4 => ⟨.int _ _, sy τ h4⟩) (by decide) cn (fun τ e v g4 t1 hv => by obtain ⟨a, b, c, d, rfl, h1, h2, h3, h4⟩ := vr_agg4 hv; cases h1; cases h2; cases h4; rw [vr_str h3]; simp [normV, nk, ni, ns])
  · subst hk; exact fin 0 n H.2.1 (fun τ _ h4 => ⟨.int _ _, sy τ h4⟩) (by decide) cn (fun τ e v g4 t1 hv => by obtain ⟨a, b, c, d, rfl, h1, h2, h3, h4⟩ := vr_agg4 hv; cases h1; cases h2; cases h4; rw [vr_str h3]; simp [normV, nk, ni, ns])
  · subst hk
    rcases (by omega : n < 0 ∨ n = 0 ∨ 0 < n) with hn | hn | hn
    · have hz : ¬ n = 0 := by omega
      exact fin 0 n H.2.2.1 (fun τ _ h4 => ⟨.int _ _, sy τ h4⟩) (by decide) (by simp only []; omega) (fun τ e v g4 t1 hv => by obtain ⟨a, b, c, d, rfl, h1, h2, h3, h4⟩ := vr_agg4 hv; cases h1; cases h2; cases h4; rw [vr_str h3]; simp [normV, nk, ni, ns, hz])
    · subst hn; exact fin 0 0 H.2.2.2.1 (fun τ _ _ => ⟨.int _ _, .int _ _⟩) (by decide) (by decide) (fun τ e v g4 t1 hv => by obtain ⟨a, b, c, d, rfl, h1, h2, h3, h4⟩ := vr_agg4 hv; cases h1; cases h2; cases h4; rw [vr_str h3]; simp [normV, nk, ni, ns])
    · have hz : ¬ n = 0 := by omega
      exact fin 0 n H.2.2.2.2.1 (fun τ _ h4 => ⟨.int _ _, sy τ h4⟩) (by decide) (by simp only []; omega) (fun τ e v g4 t1 hv => by obtain ⟨a, b, c, d, rfl, h1, h2, h3, h4⟩ := vr_agg4 hv; cases h1; cases h2; cases h4; rw [vr_str h3]; simp [normV, nk, ni, ns, hz])
  · subst hk; exact fin 0 n H.2.2.2.2.2.1 (fun τ _ h4 => ⟨.int _ _, sy τ h4⟩) (by decide) cn (fun τ e v g4 t1 hv => by obtain ⟨a, b, c, d, rfl, h1, h2, h3, h4⟩ := vr_agg4 hv; cases h1; cases h2; cases h4; rw [vr_str h3, g4]; simp [normV, nk, ni, ns])
  · subst hk; exact fin 0 n H.2.2.2.2.2.2.1 (fun τ _ h4 => ⟨.int _ _, sy τ h4⟩) (by decide) cn (fun τ e v g4 t1 hv => by obtain ⟨a, b, c, d, rfl, h1, h2, h3, h4⟩ := vr_agg4 hv; cases h1; cases h2; cases h4; cases h3; rw [t1]; simp [normV, nk, ni, ns])
  · subst hk; exact fin 0 n H.2.2.2.2.2.2.2.1 (fun τ _ h4 => ⟨.int _ _, sy τ h4⟩) (by decide) cn (fun τ e v g4 t1 hv => by obtain ⟨a, b, c, d, rfl, h1, h2, h3, h4⟩ := vr_agg4 hv; cases h1; cases h2; cases h4; rw [vr_str h3]; simp [normV, nk, ni, ns])
  · have a1 : ¬ k = 1 := by omega
    have a2 : ¬ k = 2 := by omega
    have a3 : ¬ k = 3 := by omega
    have a4 : ¬ k = 4 := by omega
    have a6 : ¬ k = 6 := by omega
    exact fin k n H.2.2.2.2.2.2.2.2.1 (fun τ h3 h4 => ⟨sy τ h3, sy τ h4⟩) (by simp only []; omega) cn (fun τ e v g4 t1 hv => by obtain ⟨a, b, c, d, rfl, h1, h2, h3, h4⟩ := vr_agg4 hv; cases h1; cases h2; cases h4; rw [vr_str h3]; simp [normV, nk, ni, ns, a1, a2, a3, a4, a6])
  · have a1 : ¬ k = 1 := by omega
    have a2 : ¬ k = 2 := by omega
    have a3 : ¬ k = 3 := by omega
    have a4 : ¬ k = 4 := by omega
    have a6 : ¬ k = 6 := by omega
    exact fin k n H.2.2.2.2.2.2.2.2.2 (fun τ h3 h4 => ⟨sy τ h3, sy τ h4⟩) (by simp only []; omega) cn (fun τ e v g4 t1 hv => by obtain ⟨a, b, c, d, rfl, h1, h2, h3, h4⟩ := vr_agg4 hv; cases h1; cases h2; cases h4; rw [vr_str h3]; simp [normV, nk, ni, ns, a1, a2, a3, a4, a6])
#print axioms norm_calls
end Go.Proofs.YtmhbagaljonheaaGreatDoor
