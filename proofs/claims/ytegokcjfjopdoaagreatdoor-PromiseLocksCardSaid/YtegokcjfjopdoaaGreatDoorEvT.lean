/- A verified evaluator for the model's code (part EvT): own work, of no program. -/
import Derived.Test.YtegokcjfjopdoaaGreatDoorEvS
namespace Go.Ev

section
variable {P : Program} {σ : Sg} {G : Nat → Bool}

def NewM (m : M) (tab : Tab) (ncb : Option CB) (m' : M) : Prop := match ncb with
  | none => m' = ⟨m.h, m.n, tab⟩
  | some cb => m'.n = m.n + 1 ∧ m'.tab = tab ∧ (∀ j, m'.h.get? j = if j = m.n then some cb else m.h.get? j) ∧ m.h.get? m.n = none

def DefSem (P : Program) (σ : Sg) (G : Nat → Bool) (o : Oper) (t : Tm) (m : M) (df : DF) : Prop :=
  ∀ (e : Env) (w : World) (ρ : Operand → Value), RL σ G e m w → (∀ x, x ∈ o.op.operands → ∀ c, OV G t x c → VR σ e c (ρ x)) → ∃ dd, (execOp ρ o).run P w = .ok (.defer dd) w ∧ DR1 σ e df dd

inductive OperSem (P : Program) (σ : Sg) (G : Nat → Bool) (rd : Bool) (ops : Array Oper) (o : Oper) (t : Tm) (d : List DF) (m : M) : Tm → List DF → M → Prop
  | skip {t' : Tm} (hg : GuardSem σ ops o t false) (hp : Put o.dst undefC t t') : OperSem P σ G rd ops o t d m t' d m
  | fl {t' : Tm} {v : CV} {ncb : Option CB} {tab' : Tab} {m' : M} (hg : GuardSem σ ops o t true) (hf : isFloat o.op = true) (hs : FlSem P σ G o t m.h m.n v ncb) (hbl : looks o.op = false → ∀ h', FlSem P σ G o t h' m.n v ncb) (hp : Put o.dst v t t') (hm : NewM m tab' ncb m') :
      OperSem P σ G rd ops o t d m t' d m'
  | act {t' : Tm} {v : CV} {m' : M} (hg : GuardSem σ ops o t true) (hf : isFloat o.op = false) (ha : ActSem P σ G rd ops o t m v m') (hp : Put o.dst v t t') : OperSem P σ G rd ops o t d m t' d m'
  | defer {t' : Tm} {df : DF} (hg : GuardSem σ ops o t true) (hf : isFloat o.op = false) (hrd : rd = false) (hd : DefSem P σ G o t m df) (hp : Put o.dst undefC t t') : OperSem P σ G rd ops o t d m t' (df :: d) m

theorem operC_inv {call : CallFn} (hcall : SoundCall P σ G call) {rd : Bool} {ops : Array Oper} {o : Oper} {t : Tm} {d : List DF} {m : M} {k : Tm → List DF → M → Bool} (hh : operC P G rd call ops o t d m k = true) (hs : Sat σ m.tab) :
    ∃ t' d' m', k t' d' m' = true ∧ Sat σ m'.tab ∧ OperSem P σ G rd ops o t d m t' d' m' := by
  obtain ⟨wnt, h1, hg⟩ := guardC_inv (σ := σ) hh
  cases wnt with
  | false =>
    obtain ⟨t', h2, hp⟩ := putT_inv (show putT o.dst undefC t (fun t' => k t' d m) = true from h1)
    exact ⟨t', d, m, h2, hs, .skip hg hp⟩
  | true =>
    simp only [] at h1
    split at h1
    · rename_i hf
      obtain ⟨v, ncb, tab', h2, hs', hsem, hbl⟩ : ∃ v ncb tab', (fun v nb tab => putT o.dst v t fun t' => match nb with
          | none => k t' d ⟨m.h, m.n, tab⟩
          | some cb => newB cb ⟨m.h, m.n, tab⟩ fun _ m' => k t' d m') v ncb tab' = true ∧ Sat σ tab' ∧ FlSem P σ G o t m.h m.n v ncb ∧ (looks o.op = false → ∀ h', FlSem P σ G o t h' m.n v ncb) := by
        cases hlk : looks o.op with
        | true =>
          obtain ⟨v, ncb, tab', a1, a2, a3⟩ := floatC_inv h1 hs
          exact ⟨v, ncb, tab', a1, a2, a3, fun h => by cases h⟩
        | false =>
          rw [floatC_blind hlk .nil] at h1
          obtain ⟨v, ncb, tab', a1, a2, a3⟩ := floatC_inv h1 hs
          have hall : ∀ h', FlSem P σ G o t h' m.n v ncb := fun h' => a3.mono fun e w _ b p cb _ hc => by simp [Tr.get?] at hc
          exact ⟨v, ncb, tab', a1, a2, hall _, fun _ => hall⟩
      obtain ⟨t', h3, hp⟩ := putT_inv h2
      cases ncb with
      | none => exact ⟨t', d, _, h3, hs', .fl hg hf hsem hbl hp rfl⟩
      | some cb =>
        obtain ⟨h', h4, hh'⟩ := newB_inv (show newB cb ⟨m.h, m.n, tab'⟩ (fun _ m' => k t' d m') = true from h3)
        exact ⟨t', d, _, h4, hs', .fl hg hf hsem hbl hp ⟨rfl, rfl, hh', newB_fresh (m := ⟨m.h, m.n, tab'⟩) (show newB cb ⟨m.h, m.n, tab'⟩ (fun _ m' => k t' d m') = true from h3)⟩⟩
    · rename_i hf
      split at h1
      · rename_i c hop
        split at h1
        · cases h1
        · rename_i hrd
          split at h1
          · rename_i f hcal
            obtain ⟨fv, hfv, h2⟩ := getO_inv h1
            obtain ⟨as, hal, hav, h3⟩ := getOs_inv h2
            cases fv <;> simp only [] at h3 <;> first | (cases h3; done) | skip
            rename_i fn first cap
            cases fn <;> simp only [] at h3 <;> first | (cases h3; done) | skip
            rename_i g
            obtain ⟨t', h4, hp⟩ := putT_inv h3
            refine ⟨t', _, m, h4, hs, .defer hg hf rfl (fun e w ρ hR ho => ?_) hp⟩
            obtain ⟨dst, op, type, pos, after, guard⟩ := o
            obtain ⟨callee, ⟨args⟩, ats⟩ := c
            simp only at hop hcal
            subst hop
            subst hcal
            have hfr := ho f (by simp [Op.operands, Call.operands]) _ hfv
            generalize hfx : ρ f = fx at hfr
            cases hfr with
            | fn _ ha hb va vb =>
              rename_i fa fc
              have hargs : LR σ e as (args.map ρ) := getOs_LR hal hav (fun x hx c hc => ho x (by simp [Op.operands, Call.operands]; exact .inr hx) c hc)
              refine ⟨{ target := .fn (.func g) fc, args := fa ++ (args.map ρ).toArray }, ?_, .call g ?_ ⟨hb, vb⟩⟩
              · simp [execOp, resolve, hfx, Deferred.ofValue]
              · have := LR.append ⟨ha, va⟩ hargs
                simpa using this
          · cases h1
      · rename_i hnd
        rw [Bool.and_eq_true] at h1
        obtain ⟨v, m', h2, hs', ha⟩ := actC_inv hcall (rd := rd) (ops := ops) h1.1 h1.2 hs
        obtain ⟨t', h3, hp⟩ := putT_inv h2
        exact ⟨t', d, m', h3, hs', .act hg hf ha hp⟩

/-- the guard's slot, out of all slots -/
theorem TR.guard {e : Env} {t : Tm} {T : Array Value} (h : TR σ e t T) {ops : Array Oper} {o : Oper} : ∀ j want oj d c, o.guard = some (j, want) → ops[j]? = some oj → oj.dst = some d → t.get? d = some c → ∃ v, T[d]? = some v ∧ VR σ e c v :=
  fun _ _ _ _ _ _ _ _ hc => h.get hc

theorem undef_VR {e : Env} : VR σ e undefC undef := .tup rfl (fun i c v h => by simp at h)

theorem RL.tab {e : Env} {m : M} {w : World} (h : RL σ G e m w) (tab : Tab) : RL σ G e ⟨m.h, m.n, tab⟩ w := ⟨h.hr, h.dom, h.inj, h.bnd, h.glo⟩
theorem Kept.tab {e : Env} {m : M} {w : World} (tab : Tab) : Kept e m w e ⟨m.h, m.n, tab⟩ w :=
  ⟨.refl e, Nat.le_refl _, fun _ _ h => ⟨h, rfl⟩, Nat.le_refl _, fun _ _ _ => rfl, fun b p h hl => .inl ⟨b, p, h, hl, rfl⟩, rfl, rfl, rfl⟩

/-- one operation, all slots known -/
theorem OperSem.step {rd : Bool} {ops : Array Oper} {o : Oper} {t t' : Tm} {d d' : List DF} {m m' : M} (h : OperSem P σ G rd ops o t d m t' d' m') {e : Env} {w : World} {T : Array Value} {D : List Deferred} {b : Frame} {cs : List Frame}
    {i : Nat} {rest : List Nat} {k : List Item} (hR : RL σ G e m w) (hT : TR σ e t T) (hD : DR σ e d D) (hf : FrOK rd b cs) (hi : ops[i]? = some o) :
    ∃ T' D' w' e', Steps P (lone (fr b T D (.inRegion ops (i :: rest) :: k)) cs w) (lone (fr b T' D' (.inRegion ops rest :: k)) cs w') ∧ RL σ G e' m' w' ∧ TR σ e' t' T' ∧ DR σ e' d' D' ∧ Kept e m w e' m' w' := by
  cases h with
  | skip hg hp => exact ⟨_, D, w, e, .one (st_op_skip hi (hg e T hT.guard)), hR, hT.put undef_VR hp, hD, .refl _ _ _⟩
  | fl hg hfl hs _hbl hp hm =>
    rename_i v ncb tab'
    have hw := hg e T hT.guard
    have hnd : ∀ c, o.op ≠ .defer c := fun c hc => by rw [hc] at hfl; cases hfl
    have := hs e w (Act.mk T D).eval hR.hr hR.inj (fun x _ c hc => hT.ops hR x c hc)
    cases ncb with
    | none =>
      obtain ⟨v', h1, h2⟩ := this
      rw [show m' = _ from hm]
      exact ⟨_, D, w, e, .one (st_value hi hw (.inr hnd) (.inl h1)), hR.tab _, hT.put h2 hp, hD, .tab _⟩
    | some cb =>
      obtain ⟨v', obj, s, dr, h1, h2, h3⟩ := this
      obtain ⟨hm1, hm2, hm3, _⟩ := hm
      obtain ⟨mh, mn, mt⟩ := m'
      simp only at hm1 hm2 hm3
      subst hm1; subst hm2
      have hnew := (hR.tab mt).new (dr := dr) h2 hm3
      have hx : Ext e (e.up m.n ⟨w.heap.size, 0, s, true⟩) := Ext.up (hR.bnd _ (Nat.le_refl _))
      refine ⟨_, D, _, _, .one (st_value hi hw (.inr hnd) (.inl h1)), hnew.1, (hT.mono hx).put h3 hp, hD.mono hx, (Kept.tab mt).trans hnew.2⟩
  | act hg hfl ha hp =>
    obtain ⟨v', w', e', h1, h2, h3, h4⟩ := ha e w T D b cs i rest k hR (fun x _ c hc => hT.ops hR x c hc) hf hi (hg e T hT.guard)
    exact ⟨_, D, w', e', h1, h3, (hT.mono h4.ext).put h2 hp, hD.mono h4.ext, h4⟩
  | defer hg hfl hrd hd hp =>
    subst hrd
    obtain ⟨dd, h1, h2⟩ := hd e w (Act.mk T D).eval hR (fun x _ c hc => hT.ops hR x c hc)
    exact ⟨_, dd :: D, w, e, .one (st_defer hi (hg e T hT.guard) hf.1 h1), hR, hT.put undef_VR hp, .cons h2 hD, .refl _ _ _⟩

/-- an ordered region -/
theorem opsC_inv {call : CallFn} (hcall : SoundCall P σ G call) {rd : Bool} {ops : Array Oper} : ∀ {l : List Oper} {s : Nat}, (∀ n, l[n]? = ops[s + n]?) → ∀ {t : Tm} {d : List DF} {m : M} {K : Tm → List DF → M → Bool},
    opsC P G rd call ops l t d m K = true → Sat σ m.tab → ∃ t' d' m', K t' d' m' = true ∧ Sat σ m'.tab ∧ ∀ (e : Env) (w : World) (T : Array Value) (D : List Deferred) (b : Frame) (cs : List Frame) (k : List Item),
      RL σ G e m w → TR σ e t T → DR σ e d D → FrOK rd b cs → (l ≠ [] → s + l.length ≤ ops.size) →
      ∃ T' D' w' e', Steps P (lone (fr b T D (.inRegion ops (List.range' s l.length) :: k)) cs w) (lone (fr b T' D' (.inRegion ops [] :: k)) cs w') ∧ RL σ G e' m' w' ∧ TR σ e' t' T' ∧ DR σ e' d' D' ∧ Kept e m w e' m' w'
  | [], s, hl, t, d, m, K, hh, hs => ⟨t, d, m, hh, hs, fun e w T D b cs k hR hT hD hf _ => ⟨T, D, w, e, .refl _ _, hR, hT, hD, .refl _ _ _⟩⟩
  | o :: l, s, hl, t, d, m, K, hh, hs => by
    have ho : ops[s]? = some o := by have := hl 0; simpa using this.symm
    obtain ⟨t1, d1, m1, h1, hs1, sem⟩ := operC_inv hcall (show operC P G rd call ops o t d m (fun t d m => opsC P G rd call ops l t d m K) = true from hh) hs
    obtain ⟨t', d', m', h2, hs2, ih⟩ := opsC_inv hcall (l := l) (s := s + 1) (fun n => by have := hl (n + 1); rw [show s + 1 + n = s + (n + 1) by omega, ← this]; simp) h1 hs1
    refine ⟨t', d', m', h2, hs2, fun e w T D b cs k hR hT hD hf hsz => ?_⟩
    obtain ⟨T1, D1, w1, e1, g1, g2, g3, g4, g5⟩ := sem.step (rest := List.range' (s + 1) l.length) (k := k) hR hT hD hf ho
    obtain ⟨T', D', w', e', q1, q2, q3, q4, q5⟩ := ih e1 w1 T1 D1 b cs k g2 g3 g4 hf (fun _ => by have := hsz (by simp); simp at this; omega)
    exact ⟨T', D', w', e', by rw [List.length_cons, List.range'_succ]; exact g1.trans q1, q2, q3, q4, g5.trans q5⟩

end
end Go.Ev
