/- What the small runs say of value.Normal and knapsackref30.Normal, of every value that is no object. Condition: the two tables of unicode/utf8 read as they are laid; at most 60 bytes. -/
import Derived.Test.YtmhbagaljonheaaGreatDoorRunN
import Derived.Test.YtmhbagaljonheaaGreatDoorRepairOk
import Derived.Test.YtmhbagaljonheaaGreatDoorRepair2
namespace Go.Proofs.YtmhbagaljonheaaGreatDoor
open Go Go.Ev
set_option maxRecDepth 100000
theorem sat6 {g : Nat → Int} {p0 p1 p2 p3 p4 p5 : Int × Int} (b0 : p0.1 ≤ g 0 ∧ g 0 ≤ p0.2) (b1 : p1.1 ≤ g 1 ∧ g 1 ≤ p1.2) (b2 : p2.1 ≤ g 2 ∧ g 2 ≤ p2.2)
    (b3 : p3.1 ≤ g 3 ∧ g 3 ≤ p3.2) (b4 : p4.1 ≤ g 4 ∧ g 4 ≤ p4.2) (b5 : p5.1 ≤ g 5 ∧ g 5 ≤ p5.2) : SatI g [p0, p1, p2, p3, p4, p5] := by
  intro s lo hi h
  match s, h with
  | 0, h => cases h; exact b0
  | 1, h => cases h; exact b1
  | 2, h => cases h; exact b2
  | 3, h => cases h; exact b3
  | 4, h => cases h; exact b4
  | 5, h => cases h; exact b5
  | n + 6, h => simp at h
theorem repOk2 {σ : Sg} {s : ByteArray} (g0 : σ.s 0 = s) (g1 : σ.s 1 = repairOf s) (gl : ((repairOf s).size : Int) = σ.i 1) (hs : s.size ≤ 60) : RepOk Tryz.prog σ 64 ans1 := by
  obtain ⟨c, hc⟩ : ∃ c, Tryz.f64.body = some c := Option.isSome_iff_exists.1 (by kernel_rfl)
  refine ⟨Tryz.f64, c, Tryz.func64, hc, fun args v hans e vs w hl _ => ?_⟩
  have hv : VR σ e (.ssym 1 1) (.string (repairOf s)) := by
    have := VR.ssym (σ := σ) (e := e) 1 1 (by rw [g1]; exact gl)
    rwa [g1] at this
  have go : ∀ t : ByteArray, t.size ≤ 1000 → repairOf t = repairOf s → vs = #[.string t] → v = .ssym 1 1 →
      c.wp Tryz.prog (bodyPost Tryz.prog Tryz.f64 fun en w' => ∃ v', en = .returned v' ∧ VR σ e v v' ∧ RowKit.Below w.heap.size w w') { tmps := vs ++ Array.replicate (Tryz.f64.ntmps - vs.size) undef, defers := [] } w := by
    rintro t h1 h2 rfl rfl
    refine wp_mono (repair2_wp c hc t w h1) fun en a w' h => ?_
    cases en with
    | normal => obtain ⟨q1, u, q2, q3, q4⟩ := h; exact ⟨q1, u, q2, u, rfl, by injection q3 with q3; rw [q3, h2]; exact hv, q4⟩
    | ret => obtain ⟨q1, u, q2, q3, q4⟩ := h; exact ⟨q1, u, q2, u, rfl, by injection q3 with q3; rw [q3, h2]; exact hv, q4⟩
    | panic chain => obtain ⟨_, q, _⟩ := h; cases q
    | exit id => exact h
    | goto l => exact h
    | outgrown => obtain ⟨q, _⟩ := h; cases q
  have sz := repairOf_size s
  unfold ans1 at hans
  split at hans
  · rename_i j l
    obtain ⟨u, us, hu, r1, r2⟩ := hl.cons_inv
    obtain rfl := r2.nil_inv
    have hvs : vs = #[u] := by apply Array.ext'; exact hu
    cases r1
    split at hans
    · rename_i hj
      obtain rfl : j = 0 := by simpa using hj
      exact go s (by omega) rfl (by rw [hvs, g0]) (Option.some.inj hans).symm
    · split at hans
      · rename_i hj
        obtain rfl : j = 1 := by simpa using hj
        exact go (repairOf s) (by omega) (repairOf_idem s) (by rw [hvs, g1]) (Option.some.inj hans).symm
      · cases hans
  · cases hans
/-- the kind, the number and the text of a value's normal form -/
def nk (k : Int) : Int := if k = 1 ∨ k = 2 ∨ k = 3 ∨ k = 4 ∨ k = 6 then k else 0
def ni (k n : Int) : Int := if k = 3 then n else if k = 2 then (if n = 0 then 0 else 1) else 0
def ns (k : Int) (s : ByteArray) : ByteArray := if k = 4 then repairOf s else ByteArray.empty
def normV (k n : Int) (s : ByteArray) : Value := .agg #[.int .i64 (nk k), .int .i64 (ni k n), .string (ns k s), .int .i64 0]

theorem vr_str {σ : Sg} {e : Env} {v : Value} (h : VR σ e (.str 0 0) v) : v = .string ByteArray.empty := by
  cases h with
  | str s hl hc =>
    have : s = ByteArray.empty := by
      obtain ⟨d⟩ := s
      have : d = #[] := Array.eq_empty_of_size_eq_zero hl
      subst this
      rfl
    rw [this]
theorem vr_agg4 {σ : Sg} {e : Env} {a b c d : CV} {v : Value} (h : VR σ e (.agg [a, b, c, d]) v) : ∃ x y z u, v = .agg #[x, y, z, u] ∧ VR σ e a x ∧ VR σ e b y ∧ VR σ e c z ∧ VR σ e d u := by
  cases h with
  | @agg _ us hlen hall =>
    obtain ⟨x, us1, e1, h1, r1⟩ := (show LR σ e [a, b, c, d] us.toList from ⟨hlen, hall⟩).cons_inv
    obtain ⟨y, us2, rfl, h2, r2⟩ := r1.cons_inv
    obtain ⟨z, us3, rfl, h3, r3⟩ := r2.cons_inv
    obtain ⟨u, us4, rfl, h4, r4⟩ := r3.cons_inv
    obtain rfl := r4.nil_inv
    obtain ⟨l⟩ := us
    obtain rfl : l = [x, y, z, u] := e1
    exact ⟨x, y, z, u, rfl, h1, h2, h3, h4⟩

theorem norm_goes {f : FuncId} (H : Norms f) (k n x : Int) (s : ByteArray) (ck : -9223372036854775808 ≤ k ∧ k ≤ 9223372036854775807) (cn : -9223372036854775808 ≤ n ∧ n ≤ 9223372036854775807)
    (cx : -9223372036854775808 ≤ x ∧ x ≤ 9223372036854775807) (hs : s.size ≤ 60) (h5 : k ≠ 5) (w : World) (hT : Tabs w) {kd : CallKind} {c : Frame} {cs : List Frame} (hk : KindOK (.func f) kd c) :
    ∃ w', CallGoes Tryz.prog kd c cs (CallSem (.func f) #[.agg #[.int .i64 k, .int .i64 n, .string s, .int .i64 x]]) w (normV k n s) w' ∧ RowKit.Below w.heap.size w w' := by
  have fin : ∀ (q3 q4 : Int) {y z r : CV} {p3 p4 : Int × Int}, (runN f [.agg [y, z, .ssym 0 0, .sym .i64 5]] ⟨[(0, 60), (0, 9223372036854775807), (0, 0), p3, p4, (-9223372036854775808, 9223372036854775807)], []⟩ r).val = true →
      (∀ τ : Sg, τ.i 3 = q3 → τ.i 4 = q4 → VR τ (fun _ => none) y (.int .i64 k) ∧ VR τ (fun _ => none) z (.int .i64 n)) → p3.1 ≤ q3 ∧ q3 ≤ p3.2 → p4.1 ≤ q4 ∧ q4 ≤ p4.2 →
      (∀ (τ : Sg) (e : Env) (v : Value), τ.i 4 = q4 → τ.s 1 = repairOf s → VR τ e r v → v = normV k n s) →
      ∃ w', CallGoes Tryz.prog kd c cs (CallSem (.func f) #[.agg #[.int .i64 k, .int .i64 n, .string s, .int .i64 x]]) w (normV k n s) w' ∧ RowKit.Below w.heap.size w w' := by
    intro q3 q4 y z r p3 p4 h hyz h3 h4 hr
    obtain ⟨τ, g0, g1, g2, g3, g4, g5, t0, t1, fx, pn⟩ : ∃ τ : Sg, τ.i 0 = (s.size : Int) ∧ τ.i 1 = ((repairOf s).size : Int) ∧ τ.i 2 = 0 ∧ τ.i 3 = q3 ∧ τ.i 4 = q4 ∧ τ.i 5 = x ∧ τ.s 0 = s ∧ τ.s 1 = repairOf s ∧ (∀ r, τ.fx r = if r < 2 then w.heap[r]? else none) ∧ (∀ r, τ.pn r = none) :=
      ⟨{ i := fun j => match j with | 0 => (s.size : Int) | 1 => ((repairOf s).size : Int) | 2 => 0 | 3 => q3 | 4 => q4 | _ => x, s := fun j => match j with | 0 => s | _ => repairOf s, fx := fun r => if r < 2 then w.heap[r]? else none },
        rfl, rfl, rfl, rfl, rfl, rfl, rfl, rfl, (fun _ => rfl), fun _ => rfl⟩
    have hx : ∀ r o, τ.fx r = some o → w.heap[r]? = some o := by
      intro r o h
      rw [fx] at h
      split at h
      · exact h
      · cases h
    have vs : VR τ (fun _ => none) (.ssym 0 0) (.string s) := by
      have := VR.ssym (σ := τ) (e := fun _ => none) 0 0 (by rw [t0, g0])
      rwa [t0] at this
    have v5 : VR τ (fun _ => none) (.sym .i64 5) (.int .i64 x) := by rw [← g5]; exact .sym _ _
    have hA := repOk (σ := τ) t0 t1 g1.symm hs hT fun r o hr h => by rw [fx, if_pos hr]; exact h
    have hA2 := repOk2 (σ := τ) t0 t1 g1.symm hs
    have sz := repairOf_size s
    have hcall := callG_sound (σ := τ) noCount extFact (ov := ovN) (fun call hc => ovrR_ok noCount (ovrR_ok noCount hc hA2) hA) 1000000 140
    obtain ⟨v, m', k1, _, k2⟩ := stepG_sound noCount extFact hcall 1000000 _ _ _ _ (runN_at h) ⟨sat6 (by rw [g0]; simp only []; omega) (by rw [g1]; simp only []; omega) (by rw [g2]; decide) (by rw [g3]; exact h3) (by rw [g4]; exact h4) (by rw [g5]; exact cx), fun x hx => by cases hx⟩
    unfold isRP at k1
    split at k1
    · rename_i hc
      have hc := cvBeq_eq _ _ hc
      subst hc
      obtain ⟨v', w', e', q1, q2, _, q4⟩ := k2 (fun _ => none) w (.func f) #[.agg #[.int .i64 k, .int .i64 n, .string s, .int .i64 x]] kd c cs (RL.empty _ _ _ _ hx pn) (.func f)
        (LR.cons (.agg rfl (LR.cons (hyz τ g3 g4).1 (LR.cons (hyz τ g3 g4).2 (LR.cons vs (LR.cons v5 LR.nil)))).2) LR.nil) hk
      obtain rfl := hr τ e' v' g4 t1 q2
      exact ⟨w', q1, q4.os, q4.tap, q4.out, q4.siz, fun r hr => q4.frm r hr (fun b p hb => by cases hb)⟩
    · cases k1
  have sy : ∀ {k : IntKind} {j : Nat} {x : Int} (σ : Sg), σ.i j = x → VR σ (fun _ => none) (.sym k j) (.int k x) := fun σ h => by rw [← h]; exact .sym _ _
  rcases (by omega : k = 0 ∨ k = 1 ∨ k = 2 ∨ k = 3 ∨ k = 4 ∨ k = 6 ∨ k < 0 ∨ 6 < k) with hk | hk | hk | hk | hk | hk | hk | hk
  · subst hk; exact fin 0 n H.1 (fun τ _ h4 => ⟨.int _ _, sy τ h4⟩) (by decide) cn (fun τ e v g4 t1 hv => by obtain ⟨a, b, c, d, rfl, h1, h2, h3, h4⟩ := vr_agg4 hv; cases h1; cases h2; cases h4; rw [vr_str h3]; simp [normV, nk, ni, ns])
  · subst hk; exact fin 0 n H.2.1 (fun τ _ h4 => ⟨.int _ _, sy τ h4⟩) (by decide) cn (fun τ e v g4 t1 hv => by obtain ⟨a, b, c, d, rfl, h1, h2, h3, h4⟩ := vr_agg4 hv; cases h1; cases h2; cases h4; rw [vr_str h3]; simp [normV, nk, ni, ns])
  · subst hk
    rcases (by omega : n < 0 ∨ n = 0 ∨ 0 < n) with hn | hn | hn
    · have hz : ¬ n = 0 := by omega
      exact fin 0 n H.2.2.1 (fun τ _ h4 => ⟨.int _ _, sy τ h4⟩) (by decide) (by simp only []; omega) (fun τ e v g4 t1 hv => by obtain ⟨a, b, c, d, rfl, h1, h2, h3, h4⟩ := vr_agg4 hv; cases h1; cases h2; cases h4; rw [vr_str h3]; simp [normV, nk, ni, ns, hz])
    · subst hn; exact fin 0 0 H.2.2.2.1 (fun τ _ _ => ⟨.int _ _, .int _ _⟩) (by decide) (by decide) (fun τ e v g4 t1 hv => by obtain ⟨a, b, c, d, rfl, h1, h2, h3, h4⟩ := vr_agg4 hv; cases h1; cases h2; cases h4; rw [vr_str h3]; simp [normV, nk, ni, ns])
    · have hz : ¬ n = 0 := by omega
      exact fin 0 n H.2.2.2.2.1 (fun τ _ h4 => ⟨.int _ _, sy τ h4⟩) (by decide) (by simp only []; omega) (fun τ e v g4 t1 hv => by obtain ⟨a, b, c, d, rfl, h1, h2, h3, h4⟩ := vr_agg4 hv; cases h1; cases h2; cases h4; rw [vr_str h3]; simp [normV, nk, ni, ns, hz])
  · subst hk; exact fin 0 n H.2.2.2.2.2.1 (fun τ _ h4 => ⟨.int _ _, sy τ h4⟩) (by decide) cn (fun τ e v g4 t1 hv => by obtain ⟨a, b, c, d, rfl, h1, h2, h3, h4⟩ := vr_agg4 hv; cases h1; cases h2; cases h4; rw [vr_str h3, g4]; simp [normV, nk, ni, ns])
  · subst hk; exact fin 0 n H.2.2.2.2.2.2.1 (fun τ _ h4 => ⟨.int _ _, sy τ h4⟩) (by decide) cn (fun τ e v g4 t1 hv => by obtain ⟨a, b, c, d, rfl, h1, h2, h3, h4⟩ := vr_agg4 hv; cases h1; cases h2; cases h4; cases h3; rw [t1]; simp [normV, nk, ni, ns])
  · subst hk; exact fin 0 n H.2.2.2.2.2.2.2.1 (fun τ _ h4 => ⟨.int _ _, sy τ h4⟩) (by decide) cn (fun τ e v g4 t1 hv => by obtain ⟨a, b, c, d, rfl, h1, h2, h3, h4⟩ := vr_agg4 hv; cases h1; cases h2; cases h4; rw [vr_str h3]; simp [normV, nk, ni, ns])
  · have a1 : ¬ k = 1 := by omega
    have a2 : ¬ k = 2 := by omega
    have a3 : ¬ k = 3 := by omega
    have a4 : ¬ k = 4 := by omega
    have a6 : ¬ k = 6 := by omega
    exact fin k n H.2.2.2.2.2.2.2.2.1 (fun τ h3 h4 => ⟨sy τ h3, sy τ h4⟩) (by simp only []; omega) cn (fun τ e v g4 t1 hv => by obtain ⟨a, b, c, d, rfl, h1, h2, h3, h4⟩ := vr_agg4 hv; cases h1; cases h2; cases h4; rw [vr_str h3]; simp [normV, nk, ni, ns, a1, a2, a3, a4, a6])
  · have a1 : ¬ k = 1 := by omega
    have a2 : ¬ k = 2 := by omega
    have a3 : ¬ k = 3 := by omega
    have a4 : ¬ k = 4 := by omega
    have a6 : ¬ k = 6 := by omega
    exact fin k n H.2.2.2.2.2.2.2.2.2 (fun τ h3 h4 => ⟨sy τ h3, sy τ h4⟩) (by simp only []; omega) cn (fun τ e v g4 t1 hv => by obtain ⟨a, b, c, d, rfl, h1, h2, h3, h4⟩ := vr_agg4 hv; cases h1; cases h2; cases h4; rw [vr_str h3]; simp [normV, nk, ni, ns, a1, a2, a3, a4, a6])
#print axioms norm_goes
end Go.Proofs.YtmhbagaljonheaaGreatDoor
