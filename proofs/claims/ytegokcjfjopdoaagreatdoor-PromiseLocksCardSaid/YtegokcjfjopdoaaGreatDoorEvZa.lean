/- A verified evaluator for the model's code (part EvZa): own work, of no program. -/
import Derived.Test.YtegokcjfjopdoaaGreatDoorEvZ
namespace Go.Ev

section
variable {P : Program} {σ : Sg} {G : Nat → Bool}

theorem RL.grow {e : Env} {m m' : M} {w : World} (hR : RL σ G e m w) {tab : Tab} {ncb : Option CB} (h : NewM m tab ncb m') : RL σ G e m' w ∧ m.n ≤ m'.n ∧ (∀ b, b < m.n → m'.h.get? b = m.h.get? b) ∧ (∀ b cb, m.h.get? b = some cb → m'.h.get? b = some cb) := by
  cases ncb with
  | none => rw [show m' = _ from h]; exact ⟨hR.tab _, Nat.le_refl _, fun _ _ => rfl, fun _ _ h => h⟩
  | some cb =>
    obtain ⟨h1, h2, h3, h4⟩ := h
    have hn : e m.n = none := hR.bnd _ (Nat.le_refl _)
    refine ⟨⟨fun b p c hb hc => ?_, fun b p hb => ?_, hR.inj, fun b hb => hR.bnd b (by omega), hR.glo⟩, by omega, fun b hb => by rw [h3, if_neg (by omega)], fun b c hb => ?_⟩
    · have hbn : b ≠ m.n := fun h => by rw [h, hn] at hb; cases hb
      rw [h3, if_neg hbn] at hc
      exact hR.hr b p c hb hc
    · have hbn : b ≠ m.n := fun h => by rw [h, hn] at hb; cases hb
      rw [h3, if_neg hbn]
      exact hR.dom b p hb
    · have hbn : b ≠ m.n := fun h => by rw [h, h4] at hb; cases hb
      rw [h3, if_neg hbn]; exact hb

/-- a bigger memory knows what the smaller one knew -/
theorem HR.sub {e : Env} {h h' : Hp} {w : World} (hr : HR σ e h' w) (hh : ∀ b cb, h.get? b = some cb → h'.get? b = some cb) : HR σ e h w :=
  fun b p cb hb hc => hr b p cb hb (hh b cb hc)

theorem RL.born {e : Env} {m : M} {w : World} (hR : RL σ G e m w) {nb s dr : Nat} {cb : CB} {obj : Obj} (hlt : nb < m.n) (hn : e nb = none) (hcb : m.h.get? nb = some cb) (hB : BR σ e cb ⟨w.heap.size, 0, s, true⟩ obj) :
    RL σ G (e.up nb ⟨w.heap.size, 0, s, true⟩) m { w with heap := w.heap.push obj, drawn := dr } := by
  have hext : Ext e (e.up nb ⟨w.heap.size, 0, s, true⟩) := Ext.up hn
  have hw : ∀ x, ({ w with heap := w.heap.push obj, drawn := dr } : World).heap[x]? = if x = w.heap.size then some obj else w.heap[x]? := by
    intro x
    show (w.heap.push obj)[x]? = _
    rw [Array.getElem?_push]
  have hfree : ∀ b q, e b = some q → q.live = true → q.r ≠ w.heap.size := fun b q hb hl he => by have := hR.lt hb hl; omega
  refine ⟨fun b q c hb hc => ?_, fun b q hb => ?_, fun b b' q q' hb hb' hq hq' he => ?_, fun b hb => ?_, fun g hg => ?_⟩
  · by_cases hbb : b = nb
    · subst hbb
      simp [Env.up] at hb
      subst hb
      rw [hcb] at hc; cases hc
      exact ⟨obj, by rw [hw]; simp, hB.mono hext⟩
    · have hb' : e b = some q := by simpa [Env.up, hbb] using hb
      have old := hR.hr b q c hb' hc
      split at old
      · rename_i hl'
        obtain ⟨o, h2, h3⟩ := old
        simp only [hl', if_true]
        exact ⟨o, by rw [hw]; simp [hfree b q hb' hl', h2], h3.mono hext⟩
      · rename_i hl'
        simp only [hl']
        exact old
  · by_cases hbb : b = nb
    · subst hbb; exact ⟨cb, hcb⟩
    · exact hR.dom b q (by simpa [Env.up, hbb] using hb)
  · by_cases h1 : b = nb <;> by_cases h2 : b' = nb
    · rw [h1, h2]
    · subst h1
      simp [Env.up] at hb
      subst hb
      have hb2 : e b' = some q' := by simpa [Env.up, h2] using hb'
      exact absurd he.symm (hfree b' q' hb2 hq')
    · subst h2
      simp [Env.up] at hb'
      subst hb'
      have hb2 : e b = some q := by simpa [Env.up, h1] using hb
      exact absurd he (hfree b q hb2 hq)
    · exact hR.inj b b' q q' (by simpa [Env.up, h1] using hb) (by simpa [Env.up, h2] using hb') hq hq' he
  · have : b ≠ nb := by omega
    simp only [Env.up, this, if_false]
    exact hR.bnd b hb
  · obtain ⟨q, hq, h1, h2⟩ := hR.glo g hg
    have : g ≠ nb := fun he => by rw [he, hn] at hq; cases hq
    exact ⟨q, by simp [Env.up, this, hq], h1, h2⟩

theorem Kept.born {e0 e : Env} {m0 m : M} {w0 w : World} (h : Kept e0 m0 w0 e m w) {nb s dr : Nat} {obj : Obj} (hge : m0.n ≤ nb) (hn : e nb = none) :
    Kept e0 m0 w0 (e.up nb ⟨w.heap.size, 0, s, true⟩) m { w with heap := w.heap.push obj, drawn := dr } := by
  refine ⟨h.ext.trans (Ext.up hn), h.nle, fun b hb hb0 => ?_, ?_, fun r hr hnl => ?_, fun b p hb hl => ?_, h.tap, h.os, h.out⟩
  · obtain ⟨a1, a2⟩ := h.unb b hb hb0
    have : b ≠ nb := by omega
    exact ⟨by simp [Env.up, this, a1], a2⟩
  · have := h.siz; simp; omega
  · have := h.siz
    show (w.heap.push obj)[r]? = _
    rw [Array.getElem?_push, if_neg (by omega)]
    exact h.frm r hr hnl
  · by_cases hbb : b = nb
    · subst hbb
      simp [Env.up] at hb
      subst hb
      exact .inr h.siz
    · exact h.rng b p (by simpa [Env.up, hbb] using hb) hl

theorem Kept.grow {e0 e : Env} {m0 m m' : M} {w0 w : World} (h : Kept e0 m0 w0 e m w) (hn : m.n ≤ m'.n) (hh : ∀ b, b < m.n → m'.h.get? b = m.h.get? b) : Kept e0 m0 w0 e m' w :=
  ⟨h.ext, Nat.le_trans h.nle hn, fun b hb hb0 => by
    obtain ⟨a1, a2⟩ := h.unb b hb hb0
    exact ⟨a1, by rw [hh b (Nat.lt_of_lt_of_le hb h.nle)]; exact a2⟩, h.siz, h.frm, h.rng, h.tap, h.os, h.out⟩

/-- the canonical states of a plan -/
structure Run (P : Program) (σ : Sg) (G : Nat → Bool) (rd : Bool) (ops : Array Oper) (plan : List PS) (S : Nat → St) : Prop where
  wf : DrawWF ops plan
  st : ∀ p s, plan[p]? = some s → StepAt P σ G rd ops s (S p) (S (p + 1))

/-- the real state while a region is under way: done: what has been carried out; c: how far the canonical one is taken -/
structure Inv (P : Program) (σ : Sg) (G : Nat → Bool) (ops : Array Oper) (plan : List PS) (S : Nat → St) (e0 : Env) (w0 : World) (done : Nat → Prop) (c : Nat) (e : Env) (T : Array Value) (D : List Deferred) (w : World) : Prop where
  cle : c ≤ plan.length
  bef : ∀ p s, p < c → plan[p]? = some s → s.isCh = true → done s.ix
  aft : ∀ p s, c ≤ p → plan[p]? = some s → ¬ done s.ix
  clo : ∀ i o (e : Edge), done i → ops[i]? = some o → e ∈ o.after → Region.binds .any e = true → done e.on
  rl : RL σ G e (S c).m w
  dr : DR σ e (S c).d D
  slt : ∀ i, match (S c).t.get? i with
    | some cv => ∃ v, T[i]? = some v ∧ ((∃ p s o, p < c ∧ plan[p]? = some s ∧ ¬ done s.ix ∧ ops[s.ix]? = some o ∧ o.dst = some i) ∨ VR σ e cv v)
    | none => T[i]? = none
  pnd : ∀ p s o, p < c → plan[p]? = some s → ¬ done s.ix → ops[s.ix]? = some o → Pend P σ G ops o (S p).m.n (S (p + 1)).m.n (S c).t (S c).m e
  mon : ∀ p q, p ≤ q → q ≤ c → (S p).m.n ≤ (S q).m.n
  kpt : Kept e0 (S 0).m w0 e (S c).m w

variable {rd : Bool} {ops : Array Oper} {plan : List PS} {S : Nat → St} {e0 : Env} {w0 : World} {done : Nat → Prop} {c : Nat} {e : Env} {T : Array Value} {D : List Deferred} {w : World}

/-- what stands before a ready operation is done -/
theorem anc_done (clo : ∀ i o (e : Edge), done i → ops[i]? = some o → e ∈ o.after → Region.binds .any e = true → done e.on) {i j : Nat} (h : Anc ops i j)
    (hr : ∀ o (e : Edge), ops[j]? = some o → e ∈ o.after → Region.binds .any e = true → done e.on) : done i := by
  induction h with
  | direct ho he hb => exact hr _ _ ho he hb
  | trans ho he hb _ ih => exact ih fun o e' ho' he' hb' => clo _ _ _ (hr _ _ ho he hb) ho' he' hb'

/-- the slots that a plan's step at c writes are not read by what stands before it -/
theorem put_reads (wf : DrawWF ops plan) {p q : Nat} {s s' : PS} {o o' : Oper} (hp : plan[p]? = some s) (hq : plan[q]? = some s') (ho : ops[s.ix]? = some o) (ho' : ops[s'.ix]? = some o') (hle : p ≤ q) {v : CV} {t t' : Tm}
    (hput : Put o'.dst v t t') : ∀ x, x ∈ readsOf ops o → t'.get? x = t.get? x := by
  intro x hx
  cases hd : o'.dst with
  | none => rw [hd] at hput; rw [show t' = t from hput]
  | some y =>
    rw [hd] at hput
    rw [hput.2]
    have : x ≠ y := fun he => by
      subst he
      have := (wf.rds p q s s' o o' x hp hq ho ho' hx hd).1
      omega
    rw [if_neg this]
theorem put_other (wf : DrawWF ops plan) {p q : Nat} {s s' : PS} {o o' : Oper} (hp : plan[p]? = some s) (hq : plan[q]? = some s') (ho : ops[s.ix]? = some o) (ho' : ops[s'.ix]? = some o') (hne : p ≠ q) {v : CV} {t t' : Tm}
    (hput : Put o'.dst v t t') {x : Nat} (hx : o.dst = some x) : t'.get? x = t.get? x := by
  cases hd : o'.dst with
  | none => rw [hd] at hput; rw [show t' = t from hput]
  | some y =>
    rw [hd] at hput
    rw [hput.2]
    have : x ≠ y := fun he => by subst he; exact hne (wf.dst p q s s' o o' x hp hq ho ho' hx hd)
    rw [if_neg this]
theorem put_same {o : Oper} {v : CV} {t t' : Tm} (hput : Put o.dst v t t') {x : Nat} (hx : o.dst = some x) : t'.get? x = some v := by
  rw [hx] at hput
  rw [hput.2]; simp

/-- the canonical state is taken over an operation that floats: it waits -/
theorem Inv.adv (hrun : Run P σ G rd ops plan S) (h : Inv P σ G ops plan S e0 w0 done c e T D w) {s : PS} (hs : plan[c]? = some s) (hf : s.isCh = false) : Inv P σ G ops plan S e0 w0 done (c + 1) e T D w := by
  have wf := hrun.wf
  obtain ⟨o, ho, sem, _⟩ := hrun.st c s hs
  have hfl : isFloat o.op = true := by rw [wf.knd c s o hs ho, hf]; rfl
  have hlt : c < plan.length := by
    rcases Nat.lt_or_ge c plan.length with h | h
    · exact h
    · rw [List.getElem?_eq_none h] at hs; cases hs
  -- the two ways
  have way : ∃ v tab ncb, Put o.dst v (S c).t (S (c + 1)).t ∧ (S (c + 1)).d = (S c).d ∧ NewM (S c).m tab ncb (S (c + 1)).m ∧
      ((GuardSem σ ops o (S c).t false ∧ v = undefC ∧ ncb = none) ∨ (GuardSem σ ops o (S c).t true ∧ FlSem P σ G o (S c).t (S c).m.h (S c).m.n v ncb ∧ (looks o.op = false → ∀ h', FlSem P σ G o (S c).t h' (S c).m.n v ncb))) := by
    generalize S (c + 1) = S' at sem
    obtain ⟨t', d', m'⟩ := S'
    cases sem with
    | skip hg hp => exact ⟨_, (S c).m.tab, none, hp, rfl, rfl, .inl ⟨hg, rfl, rfl⟩⟩
    | fl hg _ hsm hbl hp hm => exact ⟨_, _, _, hp, rfl, hm, .inr ⟨hg, hsm, hbl⟩⟩
    | act _ hf' _ _ => rw [hfl] at hf'; cases hf'
    | defer _ hf' _ _ _ => rw [hfl] at hf'; cases hf'
  obtain ⟨v, tab, ncb, hput, hd, hm, hway⟩ := way
  obtain ⟨g1, g2, g3, g4⟩ := h.rl.grow hm
  have hsub : ∀ e w, HR σ e (S (c + 1)).m.h w → HR σ e (S c).m.h w := fun e w hr => hr.sub g4
  refine ⟨hlt, fun p s' hp hs' hc => ?_, fun p s' hp hs' => h.aft p s' (by omega) hs', h.clo, g1, by rw [hd]; exact h.dr, fun i => ?_, fun p s' o' hp hs' hnd ho' => ?_, fun p q hpq hq => ?_, h.kpt.grow g2 g3⟩
  · rcases Nat.lt_or_ge p c with hpc | hpc
    · exact h.bef p s' hpc hs' hc
    · have : p = c := by omega
      subst this
      rw [hs] at hs'; cases hs'
      rw [hf] at hc; cases hc
  · have old := h.slt i
    have lift : ∀ {cv : CV}, (S (c + 1)).t.get? i = (S c).t.get? i → (match (S (c + 1)).t.get? i with
        | some cv => ∃ v, T[i]? = some v ∧ ((∃ p s o, p < c + 1 ∧ plan[p]? = some s ∧ ¬ done s.ix ∧ ops[s.ix]? = some o ∧ o.dst = some i) ∨ VR σ e cv v)
        | none => T[i]? = none) := by
      intro _ he
      rw [he]
      split at old
      · obtain ⟨v, h1, h2⟩ := old
        refine ⟨v, h1, h2.imp (fun ⟨p, s, o, a, b⟩ => ⟨p, s, o, by omega, b⟩) id⟩
      · exact old
    cases hdst : o.dst with
    | none => rw [hdst] at hput; exact lift (cv := undefC) (by rw [show (S (c + 1)).t = (S c).t from hput])
    | some x =>
      have hput' := hput
      rw [hdst] at hput'
      by_cases hix : i = x
      · subst hix
        rw [put_same hput hdst]
        obtain ⟨y, hy⟩ := hput'.1
        rw [hy] at old
        obtain ⟨u, hu, _⟩ := old
        exact ⟨u, hu, .inl ⟨c, s, o, by omega, hs, h.aft c s (Nat.le_refl _) hs, ho, hdst⟩⟩
      · exact lift (cv := undefC) (by rw [hput'.2, if_neg hix])
  · rcases Nat.lt_or_ge p c with hpc | hpc
    · have hrd := put_reads wf hs' hs ho' ho (by omega) hput
      rcases h.pnd p s' o' hpc hs' hnd ho' with ⟨a1, a2⟩ | ⟨a1, a2⟩ | ⟨a1, v', ncb', a2, a3, a4, a5⟩
      · exact .inl ⟨a1.slots hrd, a2.slots hrd⟩
      · exact .inr <| .inl ⟨a1.slots hrd, fun x hx => by rw [put_other wf hs' hs ho' ho (by omega) hput hx]; exact a2 x hx⟩
      · refine .inr <| .inr ⟨a1.slots hrd, v', ncb', (a2.slots hrd).mono hsub, fun hl h' => (a3 hl h').slots hrd, fun x hx => by rw [put_other wf hs' hs ho' ho (by omega) hput hx]; exact a4 x hx, fun cb hcb => ?_⟩
        obtain ⟨b1, b2, b3, b4⟩ := a5 cb hcb
        exact ⟨b1, by omega, by rw [g3 _ b2]; exact b3, b4⟩
    · have : p = c := by omega
      subst this
      rw [hs] at hs'; cases hs'
      rw [ho] at ho'; cases ho'
      have hrd := put_reads wf hs hs ho ho (Nat.le_refl _) hput
      rcases hway with ⟨a1, rfl, rfl⟩ | ⟨a1, a2, a3⟩
      · exact .inr <| .inl ⟨a1.slots hrd, fun x hx => put_same hput hx⟩
      · refine .inr <| .inr ⟨a1.slots hrd, v, ncb, (a2.slots hrd).mono hsub, fun hl h' => (a3 hl h').slots hrd, fun x hx => put_same hput hx, fun cb hcb => ?_⟩
        subst hcb
        obtain ⟨b1, _, b3, _⟩ := hm
        exact ⟨by omega, by omega, by rw [b3]; simp, h.rl.bnd _ (Nat.le_refl _)⟩
  · rcases Nat.lt_or_ge q (c + 1) with hq' | hq'
    · exact h.mon p q hpq (by omega)
    · have hqe : q = c + 1 := by omega
      subst hqe
      rcases Nat.lt_or_ge p (c + 1) with hp' | hp'
      · exact Nat.le_trans (h.mon p c (by omega) (Nat.le_refl _)) g2
      · have : p = c + 1 := by omega
        subst this; exact Nat.le_refl _

/-- it is taken on to the next operation that acts -/
theorem Inv.next (hrun : Run P σ G rd ops plan S) (h : Inv P σ G ops plan S e0 w0 done c e T D w) : ∃ c', Inv P σ G ops plan S e0 w0 done c' e T D w ∧ ∀ s, plan[c']? = some s → s.isCh = true := by
  have key : ∀ (n : Nat) (c : Nat), plan.length - c = n → Inv P σ G ops plan S e0 w0 done c e T D w → ∃ c', Inv P σ G ops plan S e0 w0 done c' e T D w ∧ ∀ s, plan[c']? = some s → s.isCh = true := by
    intro n
    induction n with
    | zero =>
      intro c hc h
      exact ⟨c, h, fun s hs => by rw [List.getElem?_eq_none (by omega)] at hs; cases hs⟩
    | succ n ih =>
      intro c hc h
      have hlt : c < plan.length := by omega
      have hs := List.getElem?_eq_getElem hlt
      cases hch : (plan[c]).isCh with
      | true => exact ⟨c, h, fun s hs' => by rw [hs] at hs'; cases hs'; exact hch⟩
      | false => exact ih (c + 1) (by omega) (h.adv hrun hs hch)
  exact key _ c rfl h

end
end Go.Ev
