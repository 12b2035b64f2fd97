/- A verified evaluator for the model's code (part EvZc): own work, of no program. -/
import Derived.Test.YtegokcjfjopdoaaGreatDoorEvZb
namespace Go.Ev

section
variable {P : Program} {σ : Sg} {G : Nat → Bool}
variable {rd : Bool} {ops : Array Oper} {plan : List PS} {S : Nat → St} {e0 : Env} {w0 : World}

theorem binds_any {e : Edge} (h : Region.binds .any e = true) (m : Region.Mode) : Region.binds m e = true := by
  cases hg : e.ground <;> simp_all [Region.binds]

def nf (l : List Bool) : Nat := l.countP (!·)
theorem nf_set : ∀ (l : List Bool) (i : Nat), l[i]? = some false → nf (l.set i true) + 1 = nf l
  | [], i, h => by simp at h
  | b :: l, 0, h => by simp at h; subst h; simp [nf]
  | b :: l, i + 1, h => by
    have := nf_set l i (by simpa using h)
    simp only [nf, List.set_cons_succ, List.countP_cons] at *
    omega
theorem nf_zero {l : List Bool} (h : nf l = 0) (i : Nat) (hi : i < l.length) : l[i]? = some true := by
  have := List.countP_eq_zero.1 h l[i] (List.getElem_mem hi)
  rw [List.getElem?_eq_getElem hi]
  cases hb : l[i] <;> simp_all

theorem mem_ready {md : Region.Mode} {listed : Array Bool} {i : Nat} : i ∈ Region.ready md ops listed ↔ i < ops.size ∧ listed.getD i true = false ∧ ∃ o, ops[i]? = some o ∧ ∀ e ∈ o.after, Region.binds md e = true → listed.getD e.on false = true := by
  simp only [Region.ready, List.mem_filter, List.mem_range, Bool.and_eq_true, Bool.not_eq_true']
  refine ⟨fun ⟨h1, h2, h3⟩ => ⟨h1, h2, ?_⟩, fun ⟨h1, h2, o, h3, h4⟩ => ⟨h1, h2, ?_⟩⟩
  · rw [Array.getElem?_eq_getElem h1] at h3
    refine ⟨ops[i], Array.getElem?_eq_getElem h1, fun e he hb => ?_⟩
    simp only [Option.map_some, Option.getD_some] at h3
    have := Array.all_eq_true'.1 h3 e he
    simpa [hb] using this
  · rw [h3]
    simp only [Option.map_some, Option.getD_some]
    refine Array.all_eq_true'.2 fun e he => ?_
    cases hb : Region.binds md e with
    | false => rfl
    | true => simp [h4 e he hb]

/-- who is not done yet lets one be ready -/
theorem ready_ne {md : Region.Mode} {listed : Array Bool} (hsz : listed.size = ops.size) (r : Nat → Nat) (hr : ∀ (i : Nat) (o : Oper) (e : Edge), ops[i]? = some o → e ∈ o.after → Region.binds md e = true → e.on < ops.size ∧ r e.on < r i) :
    ∀ (k i : Nat), r i = k → i < ops.size → listed[i]? = some false → Region.ready md ops listed ≠ [] := by
  intro k
  induction k using Nat.strongRecOn with
  | _ k ih =>
    intro i hk hi hl hne
    have ho := Array.getElem?_eq_getElem hi
    by_cases hall : ∀ e ∈ (ops[i]).after, Region.binds md e = true → listed.getD e.on false = true
    · have : i ∈ Region.ready md ops listed := mem_ready.2 ⟨hi, by simp [Array.getD_eq_getD_getElem?, hl], ops[i], ho, hall⟩
      rw [hne] at this; cases this
    · simp only [Classical.not_forall] at hall
      obtain ⟨e, he, hb, hn⟩ := hall
      obtain ⟨h1, h2⟩ := hr i _ e ho he hb
      have hlt : e.on < listed.size := by omega
      have hf : listed[e.on]? = some false := by
        rw [Array.getElem?_eq_getElem hlt]
        cases hbb : listed[e.on] with
        | false => rfl
        | true => exact absurd (by simp [Array.getD_eq_getD_getElem?, hlt, hbb]) hn
      exact ih (r e.on) (by omega) e.on rfl h1 hf hne

theorem go_sim (hrun : Run P σ G rd ops plan S) {md : Region.Mode} (r : Nat → Nat) (hr : ∀ (i : Nat) (o : Oper) (e : Edge), ops[i]? = some o → e ∈ o.after → Region.binds md e = true → e.on < ops.size ∧ r e.on < r i)
    (b : Frame) (cs : List Frame) (hfr : FrOK rd b cs) (k : List Item) : ∀ (fuel q : Nat) (listed : Array Bool) (c : Nat) (e : Env) (T : Array Value) (D : List Deferred) (w : World), listed.size = ops.size → nf listed.toList ≤ fuel →
    Inv P σ G ops plan S e0 w0 (fun i => listed[i]? = some true) c e T D w → (∀ s, plan[c]? = some s → s.isCh = true) →
    ∃ e' T' D' w' c' listed', Steps P (lone (fr b T D (.inRegion ops (Region.linearise.go md ops fuel q listed []) :: k)) cs w) (lone (fr b T' D' (.inRegion ops [] :: k)) cs w') ∧ (∀ i, i < ops.size → listed'[i]? = some true) ∧
      Inv P σ G ops plan S e0 w0 (fun i => (listed' : Array Bool)[i]? = some true) c' e' T' D' w' := by
  intro fuel
  induction fuel with
  | zero =>
    intro q listed c e T D w hsz hn hI _
    exact ⟨e, T, D, w, c, listed, .refl _ _, fun i hi => by have := nf_zero (by omega : nf listed.toList = 0) i (by simpa [hsz] using hi); simpa using this, hI⟩
  | succ fuel ih =>
    intro q listed c e T D w hsz hn hI hch
    have wf := hrun.wf
    have hgo : Region.linearise.go md ops (fuel + 1) q listed [] = match (Region.ready md ops listed)[q % (Region.ready md ops listed).length]? with
        | some i => i :: Region.linearise.go md ops fuel (q / (Region.ready md ops listed).length) (listed.setIfInBounds i true) []
        | none => [] := by
      simp only [Region.linearise.go]
      change (match (Region.ready md ops listed)[q % (Region.ready md ops listed).length]? with
        | some i => Region.linearise.go md ops fuel (q / (Region.ready md ops listed).length) (listed.setIfInBounds i true) [i]
        | none => [].reverse) = _
      split
      · rw [linearise_go_acc]; rfl
      · rfl
    rw [hgo]
    cases hi : (Region.ready md ops listed)[q % (Region.ready md ops listed).length]? with
    | none =>
      have hnil : Region.ready md ops listed = [] := by
        cases hrl : Region.ready md ops listed with
        | nil => rfl
        | cons x xs =>
          rw [hrl] at hi
          have hlt : q % (x :: xs).length < (x :: xs).length := Nat.mod_lt _ (by simp)
          rw [List.getElem?_eq_getElem hlt] at hi; cases hi
      refine ⟨e, T, D, w, c, listed, .refl _ _, fun i hi' => ?_, hI⟩
      have hlt : i < listed.size := by omega
      rw [Array.getElem?_eq_getElem hlt]
      cases hb : listed[i] with
      | true => rfl
      | false => exact absurd hnil (ready_ne hsz r hr _ i rfl hi' (by rw [Array.getElem?_eq_getElem hlt, hb]))
    | some i =>
      obtain ⟨h1, h2, o, h3, h4⟩ := mem_ready.1 (List.mem_of_getElem? hi)
      have hlt : i < listed.size := by omega
      have hfalse : listed[i]? = some false := by
        rw [Array.getElem?_eq_getElem hlt]
        simp only [Array.getD_eq_getD_getElem?, Array.getElem?_eq_getElem hlt, Option.getD_some] at h2
        rw [h2]
      obtain ⟨p, s, hp, rfl⟩ := wf.sur i h1
      have hnd : ¬ listed[s.ix]? = some true := by rw [hfalse]; simp
      have hrdy : ∀ o' (e : Edge), ops[s.ix]? = some o' → e ∈ o'.after → Region.binds .any e = true → listed[e.on]? = some true := by
        intro o' e ho' he hb
        rw [h3] at ho'; cases ho'
        have := h4 e he (binds_any hb md)
        simp only [Array.getD_eq_getD_getElem?] at this
        cases hx : listed[e.on]? with
        | none => rw [hx] at this; cases this
        | some y => rw [hx] at this; simp at this; rw [this]
      have hdone : (fun j => listed[j]? = some true ∨ j = s.ix) = fun j => (listed.setIfInBounds s.ix true)[j]? = some true := by
        funext j
        apply propext
        by_cases hj : j = s.ix
        · subst hj; simp [hlt]
        · rw [Array.getElem?_setIfInBounds_ne (fun h => hj h.symm)]; simp [hj]
      have hnf : nf (listed.setIfInBounds s.ix true).toList ≤ fuel := by
        have := nf_set listed.toList s.ix (by simpa using hfalse)
        rw [Array.toList_setIfInBounds]
        omega
      rcases Nat.lt_or_ge p c with hpc | hpc
      · have hsf : s.isCh = false := by
          cases hh : s.isCh with
          | false => rfl
          | true => exact absurd (hI.bef p s hpc hp hh) hnd
        obtain ⟨e1, T1, w1, q1, q2⟩ := hI.float hrun hp hpc hsf hnd hrdy b cs (Region.linearise.go md ops fuel (q / (Region.ready md ops listed).length) (listed.setIfInBounds s.ix true) []) k
        rw [hdone] at q2
        obtain ⟨e', T', D', w', c', listed', r1, r2, r3⟩ := ih _ _ c e1 T1 D w1 (by simpa using hsz) hnf q2 hch
        exact ⟨e', T', D', w', c', listed', q1.trans r1, r2, r3⟩
      · have hpe : p = c := by
          rcases Nat.lt_or_ge c p with hlt' | hge
          · exfalso
            have hplt : p < plan.length := by
              rcases Nat.lt_or_ge p plan.length with h | h
              · exact h
              · rw [List.getElem?_eq_none h] at hp; cases hp
            have hcs := List.getElem?_eq_getElem (show c < plan.length by omega)
            have hanc := wf.chn p c s _ hp hcs hlt' (hch _ hcs)
            exact hI.aft c _ (Nat.le_refl _) hcs (anc_done hI.clo hanc hrdy)
          · omega
        subst hpe
        obtain ⟨e1, T1, D1, w1, q1, q2⟩ := hI.chain hrun hp (hch s hp) hrdy b cs hfr (Region.linearise.go md ops fuel (q / (Region.ready md ops listed).length) (listed.setIfInBounds s.ix true) []) k
        rw [hdone] at q2
        obtain ⟨c1, q3, q4⟩ := q2.next hrun
        obtain ⟨e', T', D', w', c', listed', r1, r2, r3⟩ := ih _ _ c1 e1 T1 D1 w1 (by simpa using hsz) hnf q3 q4
        exact ⟨e', T', D', w', c', listed', q1.trans r1, r2, r3⟩

/-- DRAWN REGIONS: WHATEVER THE ORDER. -/
theorem draw_ok {call : CallFn} (hcall : SoundCall P σ G call) (rd : Bool) : DrawOK P σ G rd call := by
  intro ops t d m K hh hs
  obtain ⟨hok, h1⟩ := isTrue_inv hh
  have wf := drawOk_inv hok
  obtain ⟨f, hf0, hf, hK, hS⟩ := planC_inv hcall (S := ⟨t, d, m⟩) h1 hs
  have hrun : Run P σ G rd ops (planOf ops) f := ⟨wf, hf⟩
  refine ⟨_, _, _, hK, hS, fun e w T D b cs k q hR hT hD hfr => ?_⟩
  have hinit : Inv P σ G ops (planOf ops) f e w (fun i => (Array.replicate ops.size false)[i]? = some true) 0 e T D w := by
    have hnone : ∀ (i : Nat), ¬ (Array.replicate ops.size false)[i]? = some true := by
      intro i h
      rw [Array.getElem?_replicate] at h
      split at h <;> cases h
    refine ⟨Nat.zero_le _, fun p s hp => by omega, fun p s _ _ => hnone _, fun i o ed hi => absurd hi (hnone i), by rw [hf0]; exact hR, by rw [hf0]; exact hD, fun i => ?_, fun p s o hp => by omega, fun p q hpq hq => ?_, by rw [hf0]; exact .refl _ _ _⟩
    · rw [hf0]
      have := hT i
      show match t.get? i with | some cv => _ | none => _
      cases hg : t.get? i with
      | none => rw [hg] at this; exact this
      | some cv => rw [hg] at this; obtain ⟨v, h1, h2⟩ := this; exact ⟨v, h1, .inr h2⟩
    · have h1 : p = 0 := by omega
      have h2 : q = 0 := by omega
      rw [h1, h2]; exact Nat.le_refl _
  obtain ⟨c0, hI, hch⟩ := hinit.next hrun
  have hnf : nf (Array.replicate ops.size false).toList ≤ ops.size := by
    have := List.countP_le_length (p := fun (b : Bool) => !b) (l := (Array.replicate ops.size false).toList)
    simpa [nf] using this
  have fin : ∀ (md : Region.Mode) (q : Nat) (r : Nat → Nat), (∀ (i : Nat) (o : Oper) (e : Edge), ops[i]? = some o → e ∈ o.after → Region.binds md e = true → e.on < ops.size ∧ r e.on < r i) →
      ∃ T' D' w' e', Steps P (lone (fr b T D (.inRegion ops (Region.linearise md ops q) :: k)) cs w) (lone (fr b T' D' (.inRegion ops [] :: k)) cs w') ∧ RL σ G e' (f (planOf ops).length).m w' ∧ TR σ e' (f (planOf ops).length).t T' ∧ DR σ e' (f (planOf ops).length).d D' ∧
        Kept e m w e' (f (planOf ops).length).m w' := by
    intro md q r hr
    obtain ⟨e', T', D', w', c', listed', q1, q2, q3⟩ := go_sim hrun r hr b cs hfr k ops.size q (Array.replicate ops.size false) c0 e T D w (by simp) hnf hI hch
    have hc : c' = (planOf ops).length := by
      rcases Nat.lt_or_ge c' (planOf ops).length with h | h
      · have hs' := List.getElem?_eq_getElem h
        exact absurd (q2 _ (wf.bnd c' _ hs')) (q3.aft c' _ (Nat.le_refl _) hs')
      · have := q3.cle; omega
    subst hc
    refine ⟨T', D', w', e', q1, q3.rl, fun i => ?_, q3.dr, by have := q3.kpt; rw [hf0] at this; exact this⟩
    have := q3.slt i
    cases hg : (f (planOf ops).length).t.get? i with
    | none => rw [hg] at this; exact this
    | some cv =>
      rw [hg] at this
      obtain ⟨v, h1, h2⟩ := this
      rcases h2 with ⟨p, s, o, _, hs', hnd, _⟩ | h2
      · exact absurd (q2 _ (wf.bnd p s hs')) hnd
      · exact ⟨v, h1, h2⟩
  have rtxt : ∀ (md : Region.Mode), (md = .any ∨ md = .text) → ∀ (i : Nat) (o : Oper) (e : Edge), ops[i]? = some o → e ∈ o.after → Region.binds md e = true → e.on < ops.size ∧ id e.on < id i := by
    intro md hmd i o ed ho he hb
    have ht : Region.binds .text ed = true := by
      rcases hmd with h | h
      · subst h; exact binds_any hb .text
      · subst h; exact hb
    have := wf.txt i o ed ho he ht
    have hi : i < ops.size := by
      rcases Nat.lt_or_ge i ops.size with h | h
      · exact h
      · rw [Array.getElem?_eq_none h] at ho; cases ho
    exact ⟨by omega, this⟩
  unfold Region.schedule
  split
  · exact fin .any q id (rtxt .any (.inl rfl))
  · rename_i hmix
    simp only [Bool.or_eq_true, Bool.not_eq_true', not_or, Bool.not_eq_false] at hmix
    split
    · exact fin .text _ id (rtxt .text (.inr rfl))
    · obtain ⟨r, hr⟩ := wf.gcc hmix.2
      exact fin .gc _ r hr

end
end Go.Ev
