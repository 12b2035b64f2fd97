/- The closed calls that PromisePlays begins with: the awake hands back true; heap.New makes a heap of twelve slots. -/
import Derived.Test.YtcceopgaiffkmaaGreatDoorRunC
import Derived.Test.YtcceopgaiffkmaaGreatDoorPlA
namespace Go.Proofs.YtcceopgaiffkmaaGreatDoor
open Go Go.Ev Go.RowKit
set_option maxRecDepth 1000000
/-- what heap.New hands back, and where its slots and its prototypes lie -/
noncomputable def rNew : CV := .agg [.int .i64 4, .int .i64 6, .sl 94 0 12 12, .sl0, .int .i64 12, .int .i64 70, .int .i64 64, .sl 10 0 12 12]
noncomputable def isN (c : Option CV) : Bool := match c with
  | some (.int .i64 _) => true
  | _ => false
noncomputable def okS (c : Option CB) : Bool := match c with
  | some (.cells te _ es sz _) => match Nat.beq te 109 with | true => (match Nat.beq es 11 with | true => Nat.beq sz 132 | false => false) | false => false
  | _ => false
noncomputable def okP (c : Option CB) : Bool := match c with
  | some (.cells _ lo _ _ cs) => match lo with | true => false | false => match isN (cs.get? 6) with | true => isN (cs.get? 11) | false => false
  | _ => false
noncomputable def okNew : KA := fun v m => match cvBeq rNew v with | true => (match okS (m.h.get? 94) with | true => okP (m.h.get? 10) | false => false) | false => false
theorem isN_inv {c : Option CV} (h : isN c = true) : ∃ n, c = some (.int .i64 n) := by
  unfold isN at h
  split at h
  · exact ⟨_, rfl⟩
  · cases h
theorem okS_inv {c : Option CB} (h : okS c = true) : ∃ lo cs, c = some (.cells 109 lo 11 132 cs) := by
  unfold okS at h
  split at h
  · rename_i te lo es sz cs
    split at h
    · rename_i h1
      split at h
      · rename_i h2
        have h1 := Nat.eq_of_beq_eq_true h1
        have h2 := Nat.eq_of_beq_eq_true h2
        have h3 := Nat.eq_of_beq_eq_true h
        subst h1 h2 h3
        exact ⟨_, _, rfl⟩
      · cases h
    · cases h
  · cases h
theorem okP_inv {c : Option CB} (h : okP c = true) : ∃ te es sz cs n m, c = some (.cells te false es sz cs) ∧ cs.get? 6 = some (.int .i64 n) ∧ cs.get? 11 = some (.int .i64 m) := by
  unfold okP at h
  split at h
  · split at h
    · cases h
    · split at h
      · rename_i h1
        obtain ⟨n, h1⟩ := isN_inv h1
        obtain ⟨m, h2⟩ := isN_inv h
        exact ⟨_, _, _, _, n, m, rfl, h1, h2⟩
      · cases h
  · cases h
theorem okNew_inv {v : CV} {m : M} (h : okNew v m = true) : v = rNew ∧ okS (m.h.get? 94) = true ∧ okP (m.h.get? 10) = true := by
  unfold okNew at h
  split at h
  · rename_i h1
    split at h
    · rename_i h2
      exact ⟨(cvBeq_eq _ _ h1).symm, h2, h⟩
    · cases h
  · cases h
set_option maxHeartbeats 4000000 in
theorem runNew : callStep Tryz.prog (fun _ => false) 1000000 (callC Tryz.prog (fun _ => false) 1000000 100) (.func 5) [.agg [.int .i64 4, .int .i64 6]] ⟨heap0, 8, ⟨[], []⟩⟩ okNew = true := by kernel_rfl
def sg0 : Sg := ⟨fun _ => 0, fun _ => ⟨#[]⟩⟩
theorem sat0 : Sat sg0 ⟨[], []⟩ := ⟨fun s lo hi h => by simp at h, fun x h => by cases h⟩
theorem below_of {e' : Env} {m m' : M} {w w' : World} (h : Kept (fun _ => none) m w e' m' w') : Below w.heap.size w w' :=
  ⟨h.os, h.tap, h.out, h.siz, fun k hk => h.frm k hk fun b p hb => by cases hb⟩
theorem awake_calls (W : World) : Calls Tryz.prog 4 #[] W (fun e W2 => e = .returned (.bool true) ∧ Below W.heap.size W W2) := by
  obtain ⟨cb, hcb⟩ : ∃ cb, Tryz.f4.body = some cb := Option.isSome_iff_exists.1 (by kernel_rfl)
  obtain ⟨v, m', k1, k2⟩ := calls_of_eval noCount (eval_sound noCount extFact 1000000 100) Tryz.func4 hcb awakeP sat0
  have := isT_inv k1
  subst this
  refine (k2 (fun _ => none) W #[] (RL.empty _ _ _ _) LR.nil).mono fun en w' ⟨v', e', he, hvr, _, hk⟩ => ?_
  cases hvr
  exact ⟨he, below_of hk⟩
theorem hnew_calls (W : World) : Calls Tryz.prog 5 #[.agg #[.int .i64 4, .int .i64 6]] W (fun e W2 => ∃ (g d n cp Pr pd : Nat) (gl tx p6 p11 : Int) (S : Nat → Nat → Value), e = .returned (.agg #[.int .i64 4, .int .i64 6, .slice (some ⟨g, d, none⟩) n cp, .slice none 0 0, .int .i64 n, .int .i64 gl, .int .i64 tx, .slice (some ⟨Pr, pd, none⟩) 12 12]) ∧
      n ≤ 20 ∧ Pl.Row W2 Pl.tSlot 11 g d n cp S ∧ W2.cell? ⟨Pr, pd + 6, none⟩ = some (.int .i64 p6) ∧ W2.cell? ⟨Pr, pd + 11, none⟩ = some (.int .i64 p11) ∧ W.heap.size ≤ g ∧ W.heap.size ≤ Pr ∧ g ≠ Pr ∧ Below W.heap.size W W2) := by
  obtain ⟨cb, hcb⟩ : ∃ cb, Tryz.f5.body = some cb := Option.isSome_iff_exists.1 (by kernel_rfl)
  obtain ⟨v, m', k1, k2⟩ := calls_of_eval noCount (eval_sound noCount extFact 1000000 100) Tryz.func5 hcb runNew sat0
  obtain ⟨rfl, hS, hP⟩ := okNew_inv k1
  obtain ⟨lo, cs, hS⟩ := okS_inv hS
  obtain ⟨te, es, sz, cs2, n6, n11, hP, h6, h11⟩ := okP_inv hP
  refine (k2 (fun _ => none) W #[.agg #[.int .i64 4, .int .i64 6]] (RL.empty _ _ _ _) (LR.cons (.agg (vs := #[.int .i64 4, .int .i64 6]) rfl (LR.cons (.int _ _) (LR.cons (.int _ _) LR.nil)).2) LR.nil)).mono fun en w' ⟨v', e', he, hvr, hR, hk⟩ => ?_
  subst he
  have hb := below_of hk
  unfold rNew at hvr
  cases hvr with
  | @agg _ us hlen hall =>
    have hl : LR sg0 e' [.int .i64 4, .int .i64 6, .sl 94 0 12 12, .sl0, .int .i64 12, .int .i64 70, .int .i64 64, .sl 10 0 12 12] us.toList := ⟨hlen, hall⟩
    obtain ⟨u1, us1, e1, q1, h1⟩ := hl.cons_inv
    obtain ⟨u2, us2, e2, q2, h2⟩ := h1.cons_inv
    obtain ⟨u3, us3, e3, q3, h3⟩ := h2.cons_inv
    obtain ⟨u4, us4, e4, q4, h4⟩ := h3.cons_inv
    obtain ⟨u5, us5, e5, q5, h5⟩ := h4.cons_inv
    obtain ⟨u6, us6, e6, q6, h6'⟩ := h5.cons_inv
    obtain ⟨u7, us7, e7, q7, h7⟩ := h6'.cons_inv
    obtain ⟨u8, us8, e8, q8, h8⟩ := h7.cons_inv
    obtain rfl := h8.nil_inv
    subst e2 e3 e4 e5 e6 e7 e8
    obtain ⟨us⟩ := us
    obtain rfl : us = _ := e1
    cases q1
    cases q2
    cases q5
    cases q6
    cases q7
    cases q3 with
    | @sl _ _ _ _ p hp =>
      cases q4
      cases q8 with
      | @sl _ _ _ _ p' hp' =>
        have b1 := hR.hr 94 p _ hp hS
        have b2 := hR.hr 10 p' _ hp' hP
        split at b1
        · rename_i l1
          split at b2
          · rename_i l2
            obtain ⟨o1, g1, B1⟩ := b1
            obtain ⟨o2, g2, B2⟩ := b2
            have fr1 : W.heap.size ≤ p.r := by
              rcases hk.rng 94 p hp l1 with ⟨_, _, hx, _⟩ | hx
              · cases hx
              · exact hx
            have fr2 : W.heap.size ≤ p'.r := by
              rcases hk.rng 10 p' hp' l2 with ⟨_, _, hx, _⟩ | hx
              · cases hx
              · exact hx
            have hne : p.r ≠ p'.r := fun h => by
              have := hR.inj 94 10 p p' hp hp' l1 l2 h
              omega
            cases B1 with
            | @cells _ _ _ _ _ _ c el fz hsz hex hout hin hfz hte =>
              obtain rfl := hte 108 rfl
              cases B2 with
              | @cells _ _ _ _ _ _ c2 el2 fz2 hsz2 hex2 hout2 hin2 hfz2 hte2 =>
                obtain ⟨_, hs2⟩ := hex2 rfl
                have hfz0 : fz = (0, 0) := by
                  rcases hfz with h | ⟨_, h, _⟩
                  · exact h
                  · cases h
                subst hfz0
                have lt : ∀ {i : Nat} {x : CV}, cs2.get? i = some x → i < sz := fun {i x} hx => by
                  rcases Nat.lt_or_ge i sz with h | h
                  · exact h
                  · rw [hout2 i h] at hx; cases hx
                obtain ⟨x6, v6, y6, z6, r6⟩ := hin2 6 (lt h6)
                obtain ⟨x11, v11, y11, z11, r11⟩ := hin2 11 (lt h11)
                rw [h6] at y6
                rw [h11] at y11
                cases y6
                cases y11
                cases r6
                cases r11
                refine ⟨p.r, 0 + p.d, 12, 12 + p.s, p'.r, 0 + p'.d, 70, 64, n6, n11, fun i k => (c[0 + p.d + i * 11 + k]?).getD (.bool false), ?_, by decide, ⟨by omega, c, g1, ?_, ?_⟩, ?_, ?_, fr1, fr2, hne, hb⟩
                · rw [hs2]
                  rfl
                · rw [hsz]; omega
                · intro i k hi hk
                  obtain ⟨_, vv, _, hv, _⟩ := hin (i * 11 + k) (by omega)
                  have ek : c[0 + p.d + i * 11 + k]? = some vv := by rw [show 0 + p.d + i * 11 + k = p.d + (i * 11 + k) by omega, hv]
                  show c[0 + p.d + i * 11 + k]? = some ((c[0 + p.d + i * 11 + k]?).getD (.bool false))
                  rw [ek]
                  rfl
                · rw [Pl.cell_blk g2, show 0 + p'.d + 6 = p'.d + 6 by omega]
                  exact z6
                · rw [Pl.cell_blk g2, show 0 + p'.d + 11 = p'.d + 11 by omega]
                  exact z11
          · rename_i hd
            cases b2
        · rename_i hd
          cases b1
end Go.Proofs.YtcceopgaiffkmaaGreatDoor
