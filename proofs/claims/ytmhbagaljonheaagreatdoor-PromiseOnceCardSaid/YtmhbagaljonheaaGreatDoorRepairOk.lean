/- text.Repair's contract, as the evaluator takes it. Condition: the two tables of unicode/utf8 read as they are laid; at most 60 bytes. -/
import Derived.Test.YtmhbagaljonheaaGreatDoorRunA
import Derived.Test.YtmhbagaljonheaaGreatDoorRepair
namespace Go.Proofs.YtmhbagaljonheaaGreatDoor
open Go Go.Ev
set_option maxRecDepth 100000

theorem Tabs.of_fx {w0 w : World} (hT : Tabs w0) (h : ∀ r o, r < 2 → w0.heap[r]? = some o → w.heap[r]? = some o) : Tabs w := by
  have key : ∀ r c v, r < 2 → w0.cell? ⟨r, c, none⟩ = some v → w.cell? ⟨r, c, none⟩ = some v := by
    intro r c v hr hv
    cases h0 : w0.heap[r]? with
    | none => simp [World.cell?, h0] at hv
    | some o =>
      have := h r o hr h0
      simp only [World.cell?, h0] at hv
      simp only [World.cell?, this]
      exact hv
  exact ⟨fun c hc => key 0 c _ (by decide) (hT.1 c hc), fun i hi => ⟨key 1 _ _ (by decide) (hT.2 i hi).1, key 1 _ _ (by decide) (hT.2 i hi).2⟩⟩

theorem repOk {σ : Sg} {s : ByteArray} {w0 : World} (g0 : σ.s 0 = s) (g1 : σ.s 1 = repairOf s) (gl : ((repairOf s).size : Int) = σ.i 1) (hs : s.size ≤ 60) (hT : Tabs w0)
    (hfx : ∀ r o, r < 2 → w0.heap[r]? = some o → σ.fx r = some o) : RepOk Tryz.prog σ 82 ans1 := by
  obtain ⟨c, hc⟩ : ∃ c, Tryz.f82.body = some c := Option.isSome_iff_exists.1 (by kernel_rfl)
  refine ⟨Tryz.f82, c, Tryz.func82, hc, fun args v hans e vs w hl hx => ?_⟩
  have tabs : Tabs w := hT.of_fx fun r o hr h => hx r o (hfx r o hr h)
  have hv : VR σ e (.ssym 1 1) (.string (repairOf s)) := by
    have := VR.ssym (σ := σ) (e := e) 1 1 (by rw [g1]; exact gl)
    rwa [g1] at this
  have go : ∀ t : ByteArray, t.size ≤ 1000 → repairOf t = repairOf s → vs = #[.string t] → v = .ssym 1 1 →
      c.wp Tryz.prog (bodyPost Tryz.prog Tryz.f82 fun en w' => ∃ v', en = .returned v' ∧ VR σ e v v' ∧ RowKit.Below w.heap.size w w') { tmps := vs ++ Array.replicate (Tryz.f82.ntmps - vs.size) undef, defers := [] } w := by
    rintro t h1 h2 rfl rfl
    refine wp_mono (repair_wp c hc t w h1 tabs) fun en a w' h => ?_
    cases en with
    | normal => obtain ⟨q1, u, q2, q3, q4⟩ := h; exact ⟨q1, u, q2, u, rfl, by injection q3 with q3; rw [q3, h2]; exact hv, q4⟩
    | ret => obtain ⟨q1, u, q2, q3, q4⟩ := h; exact ⟨q1, u, q2, u, rfl, by injection q3 with q3; rw [q3, h2]; exact hv, q4⟩
    | panic chain => obtain ⟨_, q, _⟩ := h; cases q
    | exit id => exact h
    | goto l => exact h
    | outgrown => obtain ⟨q, _⟩ := h; cases q
  have sz := repairOf_size s
  unfold ans1 at hans
  split at hans
  · rename_i j l
    obtain ⟨u, us, hu, r1, r2⟩ := hl.cons_inv
    obtain rfl := r2.nil_inv
    have hvs : vs = #[u] := by apply Array.ext'; exact hu
    cases r1
    split at hans
    · rename_i hj
      obtain rfl : j = 0 := by simpa using hj
      exact go s (by omega) rfl (by rw [hvs, g0]) (Option.some.inj hans).symm
    · split at hans
      · rename_i hj
        obtain rfl : j = 1 := by simpa using hj
        exact go (repairOf s) (by omega) (repairOf_idem s) (by rw [hvs, g1]) (Option.some.inj hans).symm
      · cases hans
  · cases hans

theorem sat7 {g : Nat → Int} {p0 p1 p2 p3 p4 p5 p6 : Int × Int} (b0 : p0.1 ≤ g 0 ∧ g 0 ≤ p0.2) (b1 : p1.1 ≤ g 1 ∧ g 1 ≤ p1.2) (b2 : p2.1 ≤ g 2 ∧ g 2 ≤ p2.2)
    (b3 : p3.1 ≤ g 3 ∧ g 3 ≤ p3.2) (b4 : p4.1 ≤ g 4 ∧ g 4 ≤ p4.2) (b5 : p5.1 ≤ g 5 ∧ g 5 ≤ p5.2) (b6 : p6.1 ≤ g 6 ∧ g 6 ≤ p6.2) : SatI g [p0, p1, p2, p3, p4, p5, p6] := by
  intro s lo hi h
  match s, h with
  | 0, h => cases h; exact b0
  | 1, h => cases h; exact b1
  | 2, h => cases h; exact b2
  | 3, h => cases h; exact b3
  | 4, h => cases h; exact b4
  | 5, h => cases h; exact b5
  | 6, h => cases h; exact b6
  | n + 7, h => simp at h

end Go.Proofs.YtmhbagaljonheaaGreatDoor
