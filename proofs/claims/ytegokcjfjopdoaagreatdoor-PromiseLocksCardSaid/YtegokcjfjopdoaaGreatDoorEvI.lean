/- A verified evaluator for the model's code (part EvI): own work, of no program. -/
import Derived.Test.YtegokcjfjopdoaaGreatDoorEvH
namespace Go.Ev

theorem eqGuard_plain {P : Program} {op : BinOp} {ty : TypeId} {xo yo : Operand} {u v : Value} (w : World) (hm : match u, v with | .nilIface, .nilIface => False | .agg _, .agg _ => False | _, _ => True) :
    (eqGuard op ty xo yo u v).run P w = .ok () w := by
  have hif : ∀ (w : World) (X : Sem Unit), X.run P w = .ok () w → (if (!(op matches .eql | .neq)) = true then pure () else X : Sem Unit).run P w = .ok () w := by
    intro w X hX
    cases op <;> first | exact hX | rfl
  unfold eqGuard
  refine hif w _ ?_
  split
  · simp at hm
  · simp at hm
  · rfl

theorem bin_odd {P : Program} {ty : TypeId} {u v : Value} {b : Bool} {w : World} (ho : odd2 u v) (h : (Op.equal ty u v).run P w = .ok b w) :
    (binOp .eql ty u v).run P w = .ok (.bool b) w ∧ (binOp .neq ty u v).run P w = .ok (.bool (!b)) w := by
  cases u <;> cases v <;> simp only [odd2] at ho <;> (refine ⟨?_, ?_⟩ <;> simp [binOp, h])

theorem eqBin_inv {σ : Sg} {P : Program} {op : BinOp} {ty : TypeId} {xo yo : Operand} {x y : CV} {h : Hp} {tab : Tab} {k : CV → Tab → Bool} (hh : eqBin P op ty (isC xo) (isC yo) x y h tab k = true) (hs : Sat σ tab) :
    ∃ c tab', k c tab' = true ∧ Sat σ tab' ∧ ∀ {e : Env} {w : World} {u v : Value}, HR σ e h w → InjE e → VR σ e x u → VR σ e y v →
      ∃ r, (eqGuard op ty xo yo u v).run P w = .ok () w ∧ (binOp op ty u v).run P w = .ok r w ∧ VR σ e c r := by
  simp only [eqBin] at hh
  split at hh
  · obtain ⟨b, tab', h1, h2, h3⟩ := eqC_inv (op := .eql) hh hs
    refine ⟨_, tab', kB_inv h1, h2, fun {e w u v} hr hi hu hv => ?_⟩
    obtain ⟨a1, a2, a3⟩ := h3 hr hi hu hv
    exact ⟨_, a2, (bin_odd a1 a3).1, .bool _⟩
  · obtain ⟨b, tab', h1, h2, h3⟩ := eqC_inv (op := .neq) hh hs
    refine ⟨_, tab', kB_inv h1, h2, fun {e w u v} hr hi hu hv => ?_⟩
    obtain ⟨a1, a2, a3⟩ := h3 hr hi hu hv
    exact ⟨_, a2, (bin_odd a1 a3).2, .bool _⟩
  · cases hh

theorem binC_inv {σ : Sg} {P : Program} {op : BinOp} {ty : TypeId} {xo yo : Operand} {x y : CV} {h : Hp} {tab : Tab} {k : CV → Tab → Bool} (hh : binC P op ty (isC xo) (isC yo) x y h tab k = true) (hs : Sat σ tab) :
    ∃ c tab', k c tab' = true ∧ Sat σ tab' ∧ ∀ {e : Env} {w : World} {u v : Value}, HR σ e h w → InjE e → VR σ e x u → VR σ e y v →
      ∃ r, (eqGuard op ty xo yo u v).run P w = .ok () w ∧ (binOp op ty u v).run P w = .ok r w ∧ VR σ e c r := by
  cases x with
  | int kd a =>
    cases y <;> simp only [binC] at hh <;> first | (cases hh; done) | skip
    · rename_i kd' b
      split at hh
      · rename_i hk
        have hk' : kd = kd' ∨ op = .shl ∨ op = .shr := by
          simp only [Bool.or_eq_true, decide_eq_true_eq] at hk
          rcases hk with h | h
          · exact .inl h
          · split at h
            · exact .inr (.inl rfl)
            · exact .inr (.inr rfl)
            · cases h
        obtain ⟨c, v, h1, h2, h3⟩ := intOp_inv hh hk'
        refine ⟨c, tab, h1, hs, fun {e w u v} _ _ hu hv => ?_⟩
        cases hu; cases hv
        exact ⟨_, eqGuard_plain w trivial, h3 P ty w, h2 σ e⟩
      · cases hh
    · rename_i kd' s
      split at hh
      · rename_i hk
        have g1 := hh
        clear hh
        obtain rfl : kd = kd' := by simpa using hk
        obtain ⟨h1, tab', h2, h3⟩ := symCmp_inv g1 hs
        obtain ⟨h4, h5⟩ := flip_cmp h1 (σ.i s) a
        refine ⟨_, tab', h2, h3, fun {e w u v} _ _ hu hv => ?_⟩
        cases hu; cases hv
        refine ⟨_, eqGuard_plain w trivial, cmp_run h4 kd _ _ P ty w, ?_⟩
        rw [h5]; exact .bool _
      · cases hh
  | sym kd s =>
    cases y <;> simp only [binC] at hh <;> first | (cases hh; done) | skip
    · rename_i kd' b
      split at hh
      · rename_i hk
        have g1 := hh
        clear hh
        obtain rfl : kd = kd' := by simpa using hk
        split at g1
        · obtain ⟨v, h1, h2⟩ := symRem_inv g1 hs
          refine ⟨_, tab, h1, hs, fun {e w u v} _ _ hu hv => ?_⟩
          cases hu; cases hv
          exact ⟨_, eqGuard_plain w trivial, h2 P ty w, .int _ _⟩
        · obtain ⟨h1, tab', h2, h3⟩ := symCmp_inv g1 hs
          refine ⟨_, tab', h2, h3, fun {e w u v} _ _ hu hv => ?_⟩
          cases hu; cases hv
          exact ⟨_, eqGuard_plain w trivial, cmp_run h1 kd _ _ P ty w, .bool _⟩
      · cases hh
    · rename_i kd' s'
      split at hh
      · rename_i hk
        simp only [Bool.and_eq_true, decide_eq_true_eq, Nat.beq_eq] at hk
        have g1 := hh
        clear hh
        obtain ⟨rfl, rfl⟩ := hk
        split at g1
        · refine ⟨_, tab, g1, hs, fun {e w u v} _ _ hu hv => ?_⟩
          cases hu; cases hv
          exact ⟨_, eqGuard_plain w trivial, cmp_run rfl kd _ _ P ty w, by simp only [cmpB, decide_true]; exact .bool _⟩
        · refine ⟨_, tab, g1, hs, fun {e w u v} _ _ hu hv => ?_⟩
          cases hu; cases hv
          exact ⟨_, eqGuard_plain w trivial, cmp_run rfl kd _ _ P ty w, by simp only [cmpB, decide_true, Bool.not_true]; exact .bool _⟩
        · cases g1
      · cases hh
  | str l1 c1 =>
    cases y <;> simp only [binC] at hh <;> first | (cases hh; done) | skip
    rename_i l2 c2
    by_cases hx : ∃ (s1 s2 : ByteArray), s1.size = l1 ∧ encBytes s1.data.toList = c1 ∧ s2.size = l2 ∧ encBytes s2.data.toList = c2
    · obtain ⟨s1, s2, rfl, rfl, rfl, rfl⟩ := hx
      obtain ⟨c, v, h1, h2, h3⟩ := strOp_inv hh
      refine ⟨c, tab, h1, hs, fun {e w u v} _ _ hu hv => ?_⟩
      cases hu with
      | str t1 a1 a2 =>
        cases hv with
        | str t2 b1 b2 =>
          have e1 : t1 = s1 := by
            have := enc_inj (a := t1.data.toList) (b := s1.data.toList) (by rw [strLen, strLen, a1]) a2
            cases t1; cases s1; congr 1; exact Array.ext' this
          have e2 : t2 = s2 := by
            have := enc_inj (a := t2.data.toList) (b := s2.data.toList) (by rw [strLen, strLen, b1]) b2
            cases t2; cases s2; congr 1; exact Array.ext' this
          subst e1; subst e2
          exact ⟨_, eqGuard_plain w trivial, h3 P ty w, h2 σ e⟩
    · -- no strings have these numbers: the operation is never carried out
      have hany : ∃ c, k c tab = true := by
        cases op <;> simp only [strOp, forceN_eq] at hh <;> first | (cases hh; done) | exact ⟨_, kB_inv hh⟩ | skip
        split at hh
        · exact ⟨_, hh⟩
        · cases hh
      obtain ⟨c, hc⟩ := hany
      refine ⟨c, tab, hc, hs, fun {e w u v} _ _ hu hv => ?_⟩
      cases hu with
      | str t1 a1 a2 =>
        cases hv with
        | str t2 b1 b2 => exact absurd ⟨t1, t2, a1, a2, b1, b2⟩ hx
  | ssym s l =>
    cases y <;> simp only [binC] at hh <;> first | (cases hh; done) | skip
    rename_i s' l'
    split at hh
    · rename_i hk
      have hk : s = s' := by simpa using hk
      have g1 := hh
      clear hh
      subst hk
      split at g1
      · refine ⟨_, tab, g1, hs, fun {e w u v} _ _ hu hv => ?_⟩
        cases hu; cases hv
        exact ⟨_, eqGuard_plain w trivial, by simp [binOp, Op.stringOp], .bool true⟩
      · refine ⟨_, tab, g1, hs, fun {e w u v} _ _ hu hv => ?_⟩
        cases hu; cases hv
        exact ⟨_, eqGuard_plain w trivial, by simp [binOp, Op.stringOp], .bool false⟩
      · cases g1
    · cases hh
  | symr kd s c r =>
    simp only [binC] at hh
    split at hh
    · cases y <;> first | (cases hh; done) | skip
      rename_i kd' b
      cases b with
      | negSucc n => cases hh
      | ofNat n =>
        simp only [] at hh
        split at hh
        · rename_i hk
          simp only [Bool.and_eq_true, decide_eq_true_eq, Nat.beq_eq, Bool.not_eq_true'] at hk
          obtain ⟨rfl, rfl, hc0⟩ := hk
          refine ⟨_, tab, hh, hs, fun {e w u v} _ _ hu hv => ?_⟩
          cases hv
          cases hu with
          | symr _ _ _ _ x hx hr =>
            refine ⟨.int kd (Int.ofNat r), eqGuard_plain w trivial, ?_, .int _ _⟩
            have hn0 : (Int.ofNat n) ≠ 0 := by
              intro h
              cases n with
              | zero => cases hc0
              | succ n => cases h
            have hn0' : ¬ (Int.ofNat n = 0) := hn0
            rw [hx]
            simp only [binOp, ne_eq, not_true_eq_false, if_false, Op.intDiv, hn0', Sem.run_pure]
            rw [← hr]
            rfl
        · cases hh
    · cases hh
  | bool b => exact eqBin_inv hh hs
  | ptr0 => exact eqBin_inv hh hs
  | ptr b o => exact eqBin_inv hh hs
  | sl0 => exact eqBin_inv hh hs
  | sl b o l c => exact eqBin_inv hh hs
  | slE => exact eqBin_inv hh hs
  | map0 => exact eqBin_inv hh hs
  | map b => exact eqBin_inv hh hs
  | fn f a c => exact eqBin_inv hh hs
  | yld b => exact eqBin_inv hh hs
  | fn0 => exact eqBin_inv hh hs
  | ifc t v => exact eqBin_inv hh hs
  | ifc0 => exact eqBin_inv hh hs
  | agg cs => exact eqBin_inv hh hs
  | tup vs => exact eqBin_inv hh hs

end Go.Ev
