/- A verified evaluator for the model's code (part EvE): own work, of no program. -/
import Derived.Test.YtdbhonkahlcdoaaGreatDoorEvD
import Derived.Lib.Bytealg
import Derived.RowKit3
namespace Go.Ev

section
variable {P : Program} {σ : Sg} {G : Nat → Bool}

theorem RL.grow {e : Env} {m m' : M} {w : World} (hR : RL σ G e m w) {tab : Tab} {ncb : Option CB} (h : NewM m tab ncb m') : RL σ G e m' w ∧ m.n ≤ m'.n ∧ (∀ b, b < m.n → m'.h.get? b = m.h.get? b) ∧ (∀ b cb, m.h.get? b = some cb → m'.h.get? b = some cb) := by
  cases ncb with
  | none => rw [show m' = _ from h]; exact ⟨hR.tab _, Nat.le_refl _, fun _ _ => rfl, fun _ _ h => h⟩
  | some cb =>
    obtain ⟨h1, h2, h3, h4⟩ := h
    have hn : e m.n = none := hR.bnd _ (Nat.le_refl _)
    refine ⟨⟨fun b p c hb hc => ?_, fun b p hb => ?_, hR.inj, fun b hb => hR.bnd b (by omega), hR.glo, hR.fix, hR.pin⟩, by omega, fun b hb => by rw [h3, if_neg (by omega)], fun b c hb => ?_⟩
    · have hbn : b ≠ m.n := fun h => by rw [h, hn] at hb; cases hb
      rw [h3, if_neg hbn] at hc
      exact hR.hr b p c hb hc
    · have hbn : b ≠ m.n := fun h => by rw [h, hn] at hb; cases hb
      rw [h3, if_neg hbn]
      exact hR.dom b p hb
    · have hbn : b ≠ m.n := fun h => by rw [h, h4] at hb; cases hb
      rw [h3, if_neg hbn]; exact hb

/-- a bigger memory knows what the smaller one knew -/
theorem HR.sub {e : Env} {h h' : Hp} {w : World} (hr : HR σ e h' w) (hh : ∀ b cb, h.get? b = some cb → h'.get? b = some cb) : HR σ e h w :=
  fun b p cb hb hc => hr b p cb hb (hh b cb hc)

theorem RL.born {e : Env} {m : M} {w : World} (hR : RL σ G e m w) {nb s dr : Nat} {cb : CB} {obj : Obj} (hlt : nb < m.n) (hn : e nb = none) (hcb : m.h.get? nb = some cb) (hB : BR σ e cb ⟨w.heap.size, 0, s, true⟩ obj) :
    RL σ G (e.up nb ⟨w.heap.size, 0, s, true⟩) m { w with heap := w.heap.push obj, drawn := dr } := by
  have hext : Ext e (e.up nb ⟨w.heap.size, 0, s, true⟩) := Ext.up hn
  have hw : ∀ x, ({ w with heap := w.heap.push obj, drawn := dr } : World).heap[x]? = if x = w.heap.size then some obj else w.heap[x]? := by
    intro x
    show (w.heap.push obj)[x]? = _
    rw [Array.getElem?_push]
  have hfree : ∀ b q, e b = some q → q.live = true → q.r ≠ w.heap.size := fun b q hb hl he => by have := hR.lt hb hl; omega
  refine ⟨fun b q c hb hc => ?_, fun b q hb => ?_, fun b b' q q' hb hb' hq hq' he => ?_, fun b hb => ?_, fun g hg => ?_, fun r o hr => ?_, fun b q hq => ?_⟩
  · by_cases hbb : b = nb
    · subst hbb
      simp [Env.up] at hb
      subst hb
      rw [hcb] at hc; cases hc
      exact ⟨obj, by rw [hw]; simp, hB.mono hext⟩
    · have hb' : e b = some q := by simpa [Env.up, hbb] using hb
      have old := hR.hr b q c hb' hc
      split at old
      · rename_i hl'
        obtain ⟨o, h2, h3⟩ := old
        simp only [hl', if_true]
        exact ⟨o, by rw [hw]; simp [hfree b q hb' hl', h2], h3.mono hext⟩
      · rename_i hl'
        simp only [hl']
        exact old
  · by_cases hbb : b = nb
    · subst hbb; exact ⟨cb, hcb⟩
    · exact hR.dom b q (by simpa [Env.up, hbb] using hb)
  · by_cases h1 : b = nb <;> by_cases h2 : b' = nb
    · rw [h1, h2]
    · subst h1
      simp [Env.up] at hb
      subst hb
      have hb2 : e b' = some q' := by simpa [Env.up, h2] using hb'
      exact absurd he.symm (hfree b' q' hb2 hq')
    · subst h2
      simp [Env.up] at hb'
      subst hb'
      have hb2 : e b = some q := by simpa [Env.up, h1] using hb
      exact absurd he (hfree b q hb2 hq)
    · exact hR.inj b b' q q' (by simpa [Env.up, h1] using hb) (by simpa [Env.up, h2] using hb') hq hq' he
  · have : b ≠ nb := by omega
    simp only [Env.up, this, if_false]
    exact hR.bnd b hb
  · obtain ⟨q, hq, h1, h2⟩ := hR.glo g hg
    have : g ≠ nb := fun he => by rw [he, hn] at hq; cases hq
    exact ⟨q, by simp [Env.up, this, hq], h1, h2⟩
  · have hne : w.heap.size ≠ r := fun he => by have := hR.nofx_end; rw [he, hr] at this; cases this
    refine ⟨by rw [hw, if_neg (fun he => hne he.symm)]; exact (hR.fix r o hr).1, fun b q hb hq => ?_⟩
    by_cases hbb : b = nb
    · subst hbb
      simp [Env.up] at hb
      subst hb
      exact hne
    · exact (hR.fix r o hr).2 b q (by simpa [Env.up, hbb] using hb) hq
  · obtain ⟨p1, h1, h2⟩ := hR.pin b q hq
    have : b ≠ nb := fun he => by rw [he, hn] at h1; cases h1
    exact ⟨p1, by simp [Env.up, this, h1], h2⟩

theorem Kept.born {e0 e : Env} {m0 m : M} {w0 w : World} (h : Kept e0 m0 w0 e m w) {nb s dr : Nat} {obj : Obj} (hge : m0.n ≤ nb) (hn : e nb = none) :
    Kept e0 m0 w0 (e.up nb ⟨w.heap.size, 0, s, true⟩) m { w with heap := w.heap.push obj, drawn := dr } := by
  refine ⟨h.ext.trans (Ext.up hn), h.nle, fun b hb hb0 => ?_, ?_, fun r hr hnl => ?_, fun b p hb hl => ?_, h.tap, h.os, h.out⟩
  · obtain ⟨a1, a2⟩ := h.unb b hb hb0
    have : b ≠ nb := by omega
    exact ⟨by simp [Env.up, this, a1], a2⟩
  · have := h.siz; simp; omega
  · have := h.siz
    show (w.heap.push obj)[r]? = _
    rw [Array.getElem?_push, if_neg (by omega)]
    exact h.frm r hr hnl
  · by_cases hbb : b = nb
    · subst hbb
      simp [Env.up] at hb
      subst hb
      exact .inr h.siz
    · exact h.rng b p (by simpa [Env.up, hbb] using hb) hl

theorem Kept.grow {e0 e : Env} {m0 m m' : M} {w0 w : World} (h : Kept e0 m0 w0 e m w) (hn : m.n ≤ m'.n) (hh : ∀ b, b < m.n → m'.h.get? b = m.h.get? b) : Kept e0 m0 w0 e m' w :=
  ⟨h.ext, Nat.le_trans h.nle hn, fun b hb hb0 => by
    obtain ⟨a1, a2⟩ := h.unb b hb hb0
    exact ⟨a1, by rw [hh b (Nat.lt_of_lt_of_le hb h.nle)]; exact a2⟩, h.siz, h.frm, h.rng, h.tap, h.os, h.out⟩

/-- the canonical states of a plan, up to N -/
structure Run (P : Program) (σ : Sg) (G : Nat → Bool) (rd : Bool) (ops : Array Oper) (plan : List PS) (N : Nat) (S : Nat → St) : Prop where
  wf : DrawWF P ops plan
  top : ∀ s, plan[N]? = some s → s.isCh = true
  st : ∀ p s, p < N → plan[p]? = some s → StepAt P σ G rd ops s (S p) (S (p + 1))

/-- the real state while a region is under way: done: what has been carried out; c: how far the canonical one is taken -/
structure Inv (P : Program) (σ : Sg) (G : Nat → Bool) (ops : Array Oper) (plan : List PS) (S : Nat → St) (e0 : Env) (w0 : World) (done : Nat → Prop) (c : Nat) (e : Env) (T : Array Value) (D : List Deferred) (w : World) : Prop where
  cle : c ≤ plan.length
  bef : ∀ p s, p < c → plan[p]? = some s → s.isCh = true → done s.ix
  aft : ∀ p s, c ≤ p → plan[p]? = some s → ¬ done s.ix
  clo : ∀ i o (e : Edge), done i → ops[i]? = some o → e ∈ o.after → Region.binds .any e = true → done e.on
  rl : RL σ G e (S c).m w
  dr : DR σ e (S c).d D
  slt : ∀ i, match (S c).t.get? i with
    | some cv => ∃ v, T[i]? = some v ∧ ((∃ p s o, p < c ∧ plan[p]? = some s ∧ ¬ done s.ix ∧ ops[s.ix]? = some o ∧ o.dst = some i) ∨ VR σ e cv v)
    | none => T[i]? = none
  pnd : ∀ p s o, p < c → plan[p]? = some s → ¬ done s.ix → ops[s.ix]? = some o → Pend P σ G ops o (S p).m.n (S (p + 1)).m.n (S c).t (S c).m e
  mon : ∀ p q, p ≤ q → q ≤ c → (S p).m.n ≤ (S q).m.n
  kpt : Kept e0 (S 0).m w0 e (S c).m w

variable {rd : Bool} {ops : Array Oper} {plan : List PS} {S : Nat → St} {e0 : Env} {w0 : World} {done : Nat → Prop} {c : Nat} {e : Env} {T : Array Value} {D : List Deferred} {w : World}

/-- what stands before a ready operation is done -/
theorem anc_done (clo : ∀ i o (e : Edge), done i → ops[i]? = some o → e ∈ o.after → Region.binds .any e = true → done e.on) {i j : Nat} (h : Anc ops i j)
    (hr : ∀ o (e : Edge), ops[j]? = some o → e ∈ o.after → Region.binds .any e = true → done e.on) : done i := by
  induction h with
  | direct ho he hb => exact hr _ _ ho he hb
  | trans ho he hb _ ih => exact ih fun o e' ho' he' hb' => clo _ _ _ (hr _ _ ho he hb) ho' he' hb'

/-- the slots that a plan's step at c writes are not read by what stands before it -/
theorem put_reads (wf : DrawWF P ops plan) {p q : Nat} {s s' : PS} {o o' : Oper} (hp : plan[p]? = some s) (hq : plan[q]? = some s') (ho : ops[s.ix]? = some o) (ho' : ops[s'.ix]? = some o') (hle : p ≤ q) {v : CV} {t t' : Tm}
    (hput : Put o'.dst v t t') : ∀ x, x ∈ readsOf ops o → t'.get? x = t.get? x := by
  intro x hx
  cases hd : o'.dst with
  | none => rw [hd] at hput; rw [show t' = t from hput]
  | some y =>
    rw [hd] at hput
    rw [hput.2]
    have : x ≠ y := fun he => by
      subst he
      have := (wf.rds p q s s' o o' x hp hq ho ho' hx hd).1
      omega
    rw [if_neg this]
theorem put_other (wf : DrawWF P ops plan) {p q : Nat} {s s' : PS} {o o' : Oper} (hp : plan[p]? = some s) (hq : plan[q]? = some s') (ho : ops[s.ix]? = some o) (ho' : ops[s'.ix]? = some o') (hne : p ≠ q) {v : CV} {t t' : Tm}
    (hput : Put o'.dst v t t') {x : Nat} (hx : o.dst = some x) : t'.get? x = t.get? x := by
  cases hd : o'.dst with
  | none => rw [hd] at hput; rw [show t' = t from hput]
  | some y =>
    rw [hd] at hput
    rw [hput.2]
    have : x ≠ y := fun he => by subst he; exact hne (wf.dst p q s s' o o' x hp hq ho ho' hx hd)
    rw [if_neg this]
theorem put_same {o : Oper} {v : CV} {t t' : Tm} (hput : Put o.dst v t t') {x : Nat} (hx : o.dst = some x) : t'.get? x = some v := by
  rw [hx] at hput
  rw [hput.2]; simp

/-- the canonical state is taken over an operation that floats: it waits -/
theorem Inv.adv {N : Nat} (hrun : Run P σ G rd ops plan N S) (hN : c < N) (h : Inv P σ G ops plan S e0 w0 done c e T D w) {s : PS} (hs : plan[c]? = some s) (hf : s.isCh = false) : Inv P σ G ops plan S e0 w0 done (c + 1) e T D w := by
  have wf := hrun.wf
  obtain ⟨o, ho, sem, _⟩ := hrun.st c s hN hs
  have hfl : isFloat o.op = true := by rw [wf.knd c s o hs ho, hf]; rfl
  have hlt : c < plan.length := by
    rcases Nat.lt_or_ge c plan.length with h | h
    · exact h
    · rw [List.getElem?_eq_none h] at hs; cases hs
  -- the two ways
  have way : ∃ v tab ncb, Put o.dst v (S c).t (S (c + 1)).t ∧ (S (c + 1)).d = (S c).d ∧ NewM (S c).m tab ncb (S (c + 1)).m ∧
      ((GuardSem σ ops o (S c).t false ∧ v = undefC ∧ ncb = none) ∨ (GuardSem σ ops o (S c).t true ∧ FlSem P σ G o (S c).t (S c).m.h (S c).m.n v ncb ∧ (looks P o.op = false → ∀ h', FlSem P σ G o (S c).t h' (S c).m.n v ncb))) := by
    generalize S (c + 1) = S' at sem
    obtain ⟨t', d', m'⟩ := S'
    cases sem with
    | skip hg hp => exact ⟨_, (S c).m.tab, none, hp, rfl, rfl, .inl ⟨hg, rfl, rfl⟩⟩
    | fl hg _ hsm hbl hp hm => exact ⟨_, _, _, hp, rfl, hm, .inr ⟨hg, hsm, hbl⟩⟩
    | act _ hf' _ _ => rw [hfl] at hf'; cases hf'
    | defer _ hf' _ _ _ => rw [hfl] at hf'; cases hf'
  obtain ⟨v, tab, ncb, hput, hd, hm, hway⟩ := way
  obtain ⟨g1, g2, g3, g4⟩ := h.rl.grow hm
  have hsub : ∀ e w, HR σ e (S (c + 1)).m.h w → HR σ e (S c).m.h w := fun e w hr => hr.sub g4
  refine ⟨hlt, fun p s' hp hs' hc => ?_, fun p s' hp hs' => h.aft p s' (by omega) hs', h.clo, g1, by rw [hd]; exact h.dr, fun i => ?_, fun p s' o' hp hs' hnd ho' => ?_, fun p q hpq hq => ?_, h.kpt.grow g2 g3⟩
  · rcases Nat.lt_or_ge p c with hpc | hpc
    · exact h.bef p s' hpc hs' hc
    · have : p = c := by omega
      subst this
      rw [hs] at hs'; cases hs'
      rw [hf] at hc; cases hc
  · have old := h.slt i
    have lift : ∀ {cv : CV}, (S (c + 1)).t.get? i = (S c).t.get? i → (match (S (c + 1)).t.get? i with
        | some cv => ∃ v, T[i]? = some v ∧ ((∃ p s o, p < c + 1 ∧ plan[p]? = some s ∧ ¬ done s.ix ∧ ops[s.ix]? = some o ∧ o.dst = some i) ∨ VR σ e cv v)
        | none => T[i]? = none) := by
      intro _ he
      rw [he]
      split at old
      · obtain ⟨v, h1, h2⟩ := old
        refine ⟨v, h1, h2.imp (fun ⟨p, s, o, a, b⟩ => ⟨p, s, o, by omega, b⟩) id⟩
      · exact old
    cases hdst : o.dst with
    | none => rw [hdst] at hput; exact lift (cv := undefC) (by rw [show (S (c + 1)).t = (S c).t from hput])
    | some x =>
      have hput' := hput
      rw [hdst] at hput'
      by_cases hix : i = x
      · subst hix
        rw [put_same hput hdst]
        obtain ⟨y, hy⟩ := hput'.1
        rw [hy] at old
        obtain ⟨u, hu, _⟩ := old
        exact ⟨u, hu, .inl ⟨c, s, o, by omega, hs, h.aft c s (Nat.le_refl _) hs, ho, hdst⟩⟩
      · exact lift (cv := undefC) (by rw [hput'.2, if_neg hix])
  · rcases Nat.lt_or_ge p c with hpc | hpc
    · have hrd := put_reads wf hs' hs ho' ho (by omega) hput
      rcases h.pnd p s' o' hpc hs' hnd ho' with ⟨a1, a2⟩ | ⟨a1, a2⟩ | ⟨a1, v', ncb', a2, a3, a4, a5⟩
      · exact .inl ⟨a1.slots hrd, a2.slots hrd⟩
      · exact .inr <| .inl ⟨a1.slots hrd, fun x hx => by rw [put_other wf hs' hs ho' ho (by omega) hput hx]; exact a2 x hx⟩
      · refine .inr <| .inr ⟨a1.slots hrd, v', ncb', (a2.slots hrd).mono hsub, fun hl h' => (a3 hl h').slots hrd, fun x hx => by rw [put_other wf hs' hs ho' ho (by omega) hput hx]; exact a4 x hx, fun cb hcb => ?_⟩
        obtain ⟨b1, b2, b3, b4⟩ := a5 cb hcb
        exact ⟨b1, by omega, by rw [g3 _ b2]; exact b3, b4⟩
    · have : p = c := by omega
      subst this
      rw [hs] at hs'; cases hs'
      rw [ho] at ho'; cases ho'
      have hrd := put_reads wf hs hs ho ho (Nat.le_refl _) hput
      rcases hway with ⟨a1, rfl, rfl⟩ | ⟨a1, a2, a3⟩
      · exact .inr <| .inl ⟨a1.slots hrd, fun x hx => put_same hput hx⟩
      · refine .inr <| .inr ⟨a1.slots hrd, v, ncb, (a2.slots hrd).mono hsub, fun hl h' => (a3 hl h').slots hrd, fun x hx => put_same hput hx, fun cb hcb => ?_⟩
        subst hcb
        obtain ⟨b1, _, b3, _⟩ := hm
        exact ⟨by omega, by omega, by rw [b3]; simp, h.rl.bnd _ (Nat.le_refl _)⟩
  · rcases Nat.lt_or_ge q (c + 1) with hq' | hq'
    · exact h.mon p q hpq (by omega)
    · have hqe : q = c + 1 := by omega
      subst hqe
      rcases Nat.lt_or_ge p (c + 1) with hp' | hp'
      · exact Nat.le_trans (h.mon p c (by omega) (Nat.le_refl _)) g2
      · have : p = c + 1 := by omega
        subst this; exact Nat.le_refl _

/-- it is taken on to the next operation that acts -/
theorem Inv.next {N : Nat} (hrun : Run P σ G rd ops plan N S) (hc : c ≤ N) (h : Inv P σ G ops plan S e0 w0 done c e T D w) : ∃ c', c' ≤ N ∧ Inv P σ G ops plan S e0 w0 done c' e T D w ∧ ∀ s, plan[c']? = some s → s.isCh = true := by
  have key : ∀ (n : Nat) (c : Nat), plan.length - c = n → c ≤ N → Inv P σ G ops plan S e0 w0 done c e T D w → ∃ c', c' ≤ N ∧ Inv P σ G ops plan S e0 w0 done c' e T D w ∧ ∀ s, plan[c']? = some s → s.isCh = true := by
    intro n
    induction n with
    | zero =>
      intro c hc hN h
      exact ⟨c, hN, h, fun s hs => by rw [List.getElem?_eq_none (by omega)] at hs; cases hs⟩
    | succ n ih =>
      intro c hc hN h
      rcases Nat.lt_or_ge c N with hlt | hge
      · have hlt' : c < plan.length := by omega
        have hs := List.getElem?_eq_getElem hlt'
        cases hch : (plan[c]).isCh with
        | true => exact ⟨c, hN, h, fun s hs' => by rw [hs] at hs'; cases hs'; exact hch⟩
        | false => exact ih (c + 1) (by omega) hlt (h.adv hrun hlt hs hch)
      · obtain rfl : c = N := by omega
        exact ⟨c, hN, h, hrun.top⟩
  exact key _ c rfl hc h

end
end Go.Ev

namespace Go.Ev

section
variable {P : Program} {σ : Sg} {G : Nat → Bool}
variable {rd : Bool} {ops : Array Oper} {plan : List PS} {S : Nat → St} {e0 : Env} {w0 : World} {done : Nat → Prop} {c : Nat} {e : Env} {T : Array Value} {D : List Deferred} {w : World}

theorem Inv.reads (wf : DrawWF P ops plan) (h : Inv P σ G ops plan S e0 w0 done c e T D w) {p : Nat} {s : PS} {o : Oper} (hp : plan[p]? = some s) (ho : ops[s.ix]? = some o)
    (hrdy : ∀ o (e : Edge), ops[s.ix]? = some o → e ∈ o.after → Region.binds .any e = true → done e.on) : ∀ x, x ∈ readsOf ops o → ∀ cv, (S c).t.get? x = some cv → ∃ v, T[x]? = some v ∧ VR σ e cv v := by
  intro x hx cv hcv
  have := h.slt x
  rw [hcv] at this
  obtain ⟨v, hv, hh⟩ := this
  rcases hh with ⟨q, s', o', hq, hs', hnd, ho', hd⟩ | hh
  · exact absurd (anc_done h.clo (wf.rds p q s s' o o' x hp hs' ho ho' hx hd).2 hrdy) hnd
  · exact ⟨v, hv, hh⟩

theorem Inv.opers (wf : DrawWF P ops plan) (h : Inv P σ G ops plan S e0 w0 done c e T D w) {p : Nat} {s : PS} {o : Oper} (hp : plan[p]? = some s) (ho : ops[s.ix]? = some o)
    (hrdy : ∀ o (e : Edge), ops[s.ix]? = some o → e ∈ o.after → Region.binds .any e = true → done e.on) : ∀ x, x ∈ o.op.operands → ∀ c', OV G (S c).t x c' → VR σ e c' ((Act.mk T D).eval x) := by
  intro x hx c' hc
  cases x with
  | tmp i =>
    obtain ⟨v, hv, hr⟩ := h.reads wf hp ho hrdy i (mem_reads hx) c' hc
    simpa [Act.eval, hv] using hr
  | const v => exact ofValue_VR hc
  | global g =>
    obtain ⟨hg, rfl⟩ := hc
    obtain ⟨p, hp, h1, h2⟩ := h.rl.glo g hg
    have := VR.ptr (σ := σ) (o := 0) hp
    rw [h1, h2] at this
    exact this
  | func f => rw [show c' = _ from hc]; exact .fn f rfl rfl (fun i c v h => by simp at h) (fun i c v h => by simp at h)

theorem Inv.guards (wf : DrawWF P ops plan) (h : Inv P σ G ops plan S e0 w0 done c e T D w) {p : Nat} {s : PS} {o : Oper} (hp : plan[p]? = some s) (ho : ops[s.ix]? = some o)
    (hrdy : ∀ o (e : Edge), ops[s.ix]? = some o → e ∈ o.after → Region.binds .any e = true → done e.on) :
    ∀ j want oj d cv, o.guard = some (j, want) → ops[j]? = some oj → oj.dst = some d → (S c).t.get? d = some cv → ∃ v, T[d]? = some v ∧ VR σ e cv v :=
  fun j want oj d cv hg hj hd hc => h.reads wf hp ho hrdy d (List.mem_append_right _ (by simp [hg, hj, hd])) cv hc

/-- an operation that waited is carried out: what follows for the slots -/
theorem Inv.fill (wf : DrawWF P ops plan) (h : Inv P σ G ops plan S e0 w0 done c e T D w) {p : Nat} {s : PS} {o : Oper} (hp : plan[p]? = some s) (hpc : p < c) (ho : ops[s.ix]? = some o) {e' : Env} {w' : World} {cv : CV} {v : Value}
    (hrdy : ∀ o (e : Edge), ops[s.ix]? = some o → e ∈ o.after → Region.binds .any e = true → done e.on) (hext : Ext e e') (hv : VR σ e' cv v) (hslot : ∀ x, o.dst = some x → (S c).t.get? x = some cv)
    (hRL : RL σ G e' (S c).m w') (hk : Kept e0 (S 0).m w0 e' (S c).m w') (hnone : ∀ q s' o', q < c → plan[q]? = some s' → ¬ (done s'.ix ∨ s'.ix = s.ix) → ops[s'.ix]? = some o' → e' (S q).m.n = e (S q).m.n ∨ (S (q + 1)).m.n ≤ (S q).m.n) :
    Inv P σ G ops plan S e0 w0 (fun i => done i ∨ i = s.ix) c e' (tput o.dst v T) D w' := by
  refine ⟨h.cle, fun q s' hq hs' hc => .inl (h.bef q s' hq hs' hc), fun q s' hq hs' hd => ?_, fun i o1 ed hi ho1 he hb => ?_, hRL, h.dr.mono hext, fun i => ?_, fun q s' o' hq hs' hnd ho' => ?_, h.mon, hk⟩
  · rcases hd with hd | hd
    · exact h.aft q s' hq hs' hd
    · have := wf.inj q p s' s hs' hp hd
      omega
  · rcases hi with hi | hi
    · exact .inl (h.clo i o1 ed hi ho1 he hb)
    · subst hi; exact .inl (hrdy o1 ed ho1 he hb)
  · have old := h.slt i
    cases hdst : o.dst with
    | none =>
      simp only [tput]
      split at old
      · obtain ⟨u, h1, h2⟩ := old
        refine ⟨u, h1, h2.imp (fun ⟨q, s', o', a1, a2, a3, a4, a5⟩ => ⟨q, s', o', a1, a2, fun hd => ?_, a4, a5⟩) (fun h => h.mono hext)⟩
        rcases hd with hd | hd
        · exact a3 hd
        · rw [hd, ho] at a4; cases a4; rw [hdst] at a5; cases a5
      · exact old
    | some x =>
      simp only [tput]
      by_cases hix : i = x
      · subst hix
        have hc := hslot i hdst
        rw [hc] at old ⊢
        obtain ⟨u, hu, _⟩ := old
        have hlt : i < T.size := by
          rcases Nat.lt_or_ge i T.size with h | h
          · exact h
          · rw [Array.getElem?_eq_none h] at hu; cases hu
        exact ⟨v, by simp [hlt], .inr hv⟩
      · rw [Array.getElem?_setIfInBounds_ne (fun h => hix h.symm)]
        split at old
        · obtain ⟨u, h1, h2⟩ := old
          refine ⟨u, h1, h2.imp (fun ⟨q, s', o', a1, a2, a3, a4, a5⟩ => ⟨q, s', o', a1, a2, fun hd => ?_, a4, a5⟩) (fun h => h.mono hext)⟩
          rcases hd with hd | hd
          · exact a3 hd
          · rw [hd, ho] at a4; cases a4; rw [hdst] at a5; cases a5; exact hix rfl
        · exact old
  · have hnd' : ¬ done s'.ix := fun hd => hnd (.inl hd)
    rcases h.pnd q s' o' hq hs' hnd' ho' with a | a | ⟨a1, v', ncb', a2, a3, a4, a5⟩
    · exact .inl a
    · exact .inr (.inl a)
    · refine .inr <| .inr ⟨a1, v', ncb', a2, a3, a4, fun cb hcb => ?_⟩
      obtain ⟨b1, b2, b3, b4⟩ := a5 cb hcb
      refine ⟨b1, b2, b3, ?_⟩
      rcases hnone q s' o' hq hs' hnd ho' with h1 | h1
      · rw [h1]; exact b4
      · omega

/-- AN OPERATION THAT FLOATS IS CARRIED OUT. -/
theorem Inv.float {N : Nat} (hrun : Run P σ G rd ops plan N S) (h : Inv P σ G ops plan S e0 w0 done c e T D w) {p : Nat} {s : PS} (hp : plan[p]? = some s) (hpc : p < c) (hf : s.isCh = false) (hnd : ¬ done s.ix)
    (hrdy : ∀ o (e : Edge), ops[s.ix]? = some o → e ∈ o.after → Region.binds .any e = true → done e.on) (b : Frame) (cs : List Frame) (rest : List Nat) (k : List Item) :
    ∃ e' T' w', Steps P (lone (fr b T D (.inRegion ops (s.ix :: rest) :: k)) cs w) (lone (fr b T' D (.inRegion ops rest :: k)) cs w') ∧ Inv P σ G ops plan S e0 w0 (fun i => done i ∨ i = s.ix) c e' T' D w' := by
  have wf := hrun.wf
  have ho : ∃ o, ops[s.ix]? = some o := ⟨_, Array.getElem?_eq_getElem (wf.bnd p s hp)⟩
  obtain ⟨o, ho⟩ := ho
  have hfl : isFloat o.op = true := by rw [wf.knd p s o hp ho, hf]; rfl
  have hnde : ∀ c, o.op ≠ .defer c := fun c hc => by rw [hc] at hfl; cases hfl
  have hgr := h.guards wf hp ho hrdy
  have hop := h.opers wf hp ho hrdy
  rcases h.pnd p s o hpc hp hnd ho with ⟨a1, a2⟩ | ⟨a1, a2⟩ | ⟨a1, v, ncb, a2, a3, a4, a5⟩
  · have h1 := a1 e T hgr
    have h2 := a2 e T hgr
    rw [h1] at h2; cases h2
  · refine ⟨e, _, w, .one (st_op_skip ho (a1 e T hgr)), ?_⟩
    exact h.fill wf hp hpc ho hrdy (.refl e) undef_VR a2 h.rl h.kpt (fun _ _ _ _ _ _ _ => .inl rfl)
  · have hw := a1 e T hgr
    have hres := a2 e w (Act.mk T D).eval h.rl.hr h.rl.inj hop
    cases ncb with
    | none =>
      obtain ⟨v', h1, h2⟩ := hres
      refine ⟨e, _, w, .one (st_value ho hw (.inr hnde) (.inl h1)), ?_⟩
      exact h.fill wf hp hpc ho hrdy (.refl e) h2 a4 h.rl h.kpt (fun _ _ _ _ _ _ _ => .inl rfl)
    | some cb =>
      obtain ⟨v', obj, sl, dr, h1, h2, h3⟩ := hres
      obtain ⟨b1, b2, b3, b4⟩ := a5 cb rfl
      refine ⟨e.up (S p).m.n ⟨w.heap.size, 0, sl, true⟩, _, _, .one (st_value ho hw (.inr hnde) (.inl h1)), ?_⟩
      refine h.fill wf hp hpc ho hrdy (Ext.up b4) h3 a4 (h.rl.born b2 b4 b3 h2) (h.kpt.born (h.mon 0 p (Nat.zero_le _) (by omega)) b4) (fun q s' o' hq hs' hnd' ho' => ?_)
      by_cases hqn : (S q).m.n = (S p).m.n
      · rcases Nat.lt_or_ge q p with hlt | hge
        · right
          have := h.mon (q + 1) p (by omega) (by omega)
          omega
        · have hqp : q ≠ p := fun he => by
            subst he
            rw [hp] at hs'; cases hs'
            exact hnd' (.inr rfl)
          exfalso
          have := h.mon (p + 1) q (by omega) (by omega)
          omega
      · left; simp [Env.up, hqn]

/-- AN OPERATION THAT ACTS IS CARRIED OUT. -/
theorem Inv.chain {N : Nat} (hrun : Run P σ G rd ops plan N S) (hN : c < N) (h : Inv P σ G ops plan S e0 w0 done c e T D w) {s : PS} (hs : plan[c]? = some s) (hch : s.isCh = true)
    (hrdy : ∀ o (e : Edge), ops[s.ix]? = some o → e ∈ o.after → Region.binds .any e = true → done e.on) (b : Frame) (cs : List Frame) (hfr : FrOK rd b cs) (rest : List Nat) (k : List Item) :
    ∃ e' T' D' w', Steps P (lone (fr b T D (.inRegion ops (s.ix :: rest) :: k)) cs w) (lone (fr b T' D' (.inRegion ops rest :: k)) cs w') ∧ Inv P σ G ops plan S e0 w0 (fun i => done i ∨ i = s.ix) (c + 1) e' T' D' w' := by
  have wf := hrun.wf
  obtain ⟨o, ho, sem, hagn⟩ := hrun.st c s hN hs
  have hfl : isFloat o.op = false := by rw [wf.knd c s o hs ho, hch]; rfl
  have hlt : c < plan.length := by
    rcases Nat.lt_or_ge c plan.length with h | h
    · exact h
    · rw [List.getElem?_eq_none h] at hs; cases hs
  have hgr := h.guards wf hs ho hrdy
  have hop := h.opers wf hs ho hrdy
  have way : ∃ v v' D' w' e', Steps P (lone (fr b T D (.inRegion ops (s.ix :: rest) :: k)) cs w) (lone (fr b (tput o.dst v' T) D' (.inRegion ops rest :: k)) cs w') ∧ Put o.dst v (S c).t (S (c + 1)).t ∧ VR σ e' v v' ∧
      RL σ G e' (S (c + 1)).m w' ∧ Kept e (S c).m w e' (S (c + 1)).m w' ∧ DR σ e' (S (c + 1)).d D' := by
    generalize S (c + 1) = S' at sem
    obtain ⟨t', d', m'⟩ := S'
    cases sem with
    | skip hg hp => exact ⟨_, undef, D, w, e, .one (st_op_skip ho (hg e T hgr)), hp, undef_VR, h.rl, .refl _ _ _, h.dr⟩
    | fl _ hf' _ _ _ _ => rw [hfl] at hf'; cases hf'
    | act hg _ ha hp =>
      obtain ⟨v', w', e', h1, h2, h3, h4⟩ := ha e w T D b cs s.ix rest k h.rl hop hfr ho (hg e T hgr)
      exact ⟨_, v', D, w', e', h1, hp, h2, h3, h4, h.dr.mono h4.ext⟩
    | defer hg _ hrd hd hp =>
      subst hrd
      obtain ⟨dd, h1, h2⟩ := hd e w (Act.mk T D).eval h.rl hop
      exact ⟨_, undef, dd :: D, w, e, .one (st_defer ho (hg e T hgr) hfr.1 h1), hp, undef_VR, h.rl, .refl _ _ _, .cons h2 h.dr⟩
  obtain ⟨v, v', D', w', e', q1, q2, q3, q4, q5, q6⟩ := way
  refine ⟨e', _, D', w', q1, ⟨hlt, fun p s' hp hs' hc => ?_, fun p s' hp hs' hd => ?_, fun i o1 ed hi ho1 he hb => ?_, q4, q6, fun i => ?_, fun p s' o' hp hs' hnd ho' => ?_, fun p q hpq hq => ?_, h.kpt.trans q5⟩⟩
  · rcases Nat.lt_or_ge p c with hpc | hpc
    · exact .inl (h.bef p s' hpc hs' hc)
    · have : p = c := by omega
      subst this
      rw [hs] at hs'; cases hs'
      exact .inr rfl
  · rcases hd with hd | hd
    · exact h.aft p s' (by omega) hs' hd
    · have := wf.inj p c s' s hs' hs hd
      omega
  · rcases hi with hi | hi
    · exact .inl (h.clo i o1 ed hi ho1 he hb)
    · subst hi; exact .inl (hrdy o1 ed ho1 he hb)
  · have old := h.slt i
    have lift : (S (c + 1)).t.get? i = (S c).t.get? i → (tput o.dst v' T)[i]? = T[i]? → (match (S (c + 1)).t.get? i with
        | some cv => ∃ v, (tput o.dst v' T)[i]? = some v ∧ ((∃ p s_1 o, p < c + 1 ∧ plan[p]? = some s_1 ∧ ¬ (done s_1.ix ∨ s_1.ix = s.ix) ∧ ops[s_1.ix]? = some o ∧ o.dst = some i) ∨ VR σ e' cv v)
        | none => (tput o.dst v' T)[i]? = none) := by
      intro he hT
      rw [he, hT]
      cases hg : (S c).t.get? i with
      | none => rw [hg] at old; exact old
      | some cv =>
        rw [hg] at old
        obtain ⟨u, h1, h2⟩ := old
        refine ⟨u, h1, h2.imp (fun ⟨q, s', o', a1, a2, a3, a4, a5⟩ => ⟨q, s', o', by omega, a2, fun hd => ?_, a4, a5⟩) (fun h => h.mono q5.ext)⟩
        rcases hd with hd | hd
        · exact a3 hd
        · have := wf.inj q c s' s a2 hs hd
          omega
    cases hdst : o.dst with
    | none =>
      rw [hdst] at q2 lift
      exact lift (by rw [show (S (c + 1)).t = (S c).t from q2]) rfl
    | some x =>
      have q2' := q2
      rw [hdst] at q2'
      by_cases hix : i = x
      · subst hix
        rw [put_same q2 hdst]
        obtain ⟨y, hy⟩ := q2'.1
        rw [hy] at old
        obtain ⟨u, hu, _⟩ := old
        have hlt : i < T.size := by
          rcases Nat.lt_or_ge i T.size with h | h
          · exact h
          · rw [Array.getElem?_eq_none h] at hu; cases hu
        exact ⟨v', by simp [tput, hlt], .inr q3⟩
      · rw [hdst] at lift
        exact lift (by rw [q2'.2, if_neg hix]) (Array.getElem?_setIfInBounds_ne (fun h => hix h.symm))
  · have hpc : p < c := by
      rcases Nat.lt_or_ge p c with hpc | hpc
      · exact hpc
      · have : p = c := by omega
        subst this
        rw [hs] at hs'; cases hs'
        exact absurd (.inr rfl) hnd
    have hnd' : ¬ done s'.ix := fun hd => hnd (.inl hd)
    have hrd := put_reads wf hs' hs ho' ho (by omega) q2
    rcases h.pnd p s' o' hpc hs' hnd' ho' with ⟨a1, a2⟩ | ⟨a1, a2⟩ | ⟨a1, v1, ncb1, a2, a3, a4, a5⟩
    · exact .inl ⟨a1.slots hrd, a2.slots hrd⟩
    · exact .inr <| .inl ⟨a1.slots hrd, fun x hx => by rw [put_other wf hs' hs ho' ho (by omega) q2 hx]; exact a2 x hx⟩
    · have hsf : s'.isCh = false := by
        cases hh : s'.isCh with
        | false => rfl
        | true => exact absurd (h.bef p s' hpc hs' hh) hnd'
      cases hlk : looks P o'.op with
      | true =>
        obtain ⟨i, again, hsc⟩ : ∃ i again, s = .ch i again := by cases s <;> first | (cases hch; done) | exact ⟨_, _, rfl⟩
        subst hsc
        rcases wf.agn c p i again s' o' hs hs' hpc hsf ho' hlk with hin | han
        · obtain ⟨o2, ho2, hag⟩ := hagn i again rfl s'.ix hin
          rw [ho'] at ho2; cases ho2
          rcases hag with hg | ⟨hg, x, v2, hx, hvx, hfs⟩
          · exact .inl ⟨a1.slots hrd, hg⟩
          · refine .inr <| .inr ⟨hg, v2, none, hfs _, (fun h => by rw [hlk] at h; cases h), fun x' hx' => ?_, (fun cb hcb => by cases hcb)⟩
            rw [hx] at hx'; cases hx'; exact hvx
        · exact absurd (anc_done h.clo han hrdy) hnd'
      | false =>
        refine .inr <| .inr ⟨a1.slots hrd, v1, ncb1, (a3 hlk _).slots hrd, fun _ h' => (a3 hlk h').slots hrd, fun x hx => by rw [put_other wf hs' hs ho' ho (by omega) q2 hx]; exact a4 x hx, fun cb hcb => ?_⟩
        obtain ⟨b1, b2, b3, b4⟩ := a5 cb hcb
        obtain ⟨c1, c2⟩ := q5.unb _ b2 b4
        exact ⟨b1, Nat.lt_of_lt_of_le b2 q5.nle, by rw [c2]; exact b3, c1⟩
  · rcases Nat.lt_or_ge q (c + 1) with hq' | hq'
    · exact h.mon p q hpq (by omega)
    · have hqe : q = c + 1 := by omega
      subst hqe
      rcases Nat.lt_or_ge p (c + 1) with hp' | hp'
      · exact Nat.le_trans (h.mon p c (by omega) (Nat.le_refl _)) q5.nle
      · have : p = c + 1 := by omega
        subst this; exact Nat.le_refl _

end
end Go.Ev

namespace Go.Ev

section
variable {P : Program} {σ : Sg} {G : Nat → Bool}
variable {rd : Bool} {ops : Array Oper} {plan : List PS} {S : Nat → St} {e0 : Env} {w0 : World}

theorem binds_any {e : Edge} (h : Region.binds .any e = true) (m : Region.Mode) : Region.binds m e = true := by
  cases hg : e.ground <;> simp_all [Region.binds]

def nf (l : List Bool) : Nat := l.countP (!·)
theorem nf_set : ∀ (l : List Bool) (i : Nat), l[i]? = some false → nf (l.set i true) + 1 = nf l
  | [], i, h => by simp at h
  | b :: l, 0, h => by simp at h; subst h; simp [nf]
  | b :: l, i + 1, h => by
    have := nf_set l i (by simpa using h)
    simp only [nf, List.set_cons_succ, List.countP_cons] at *
    omega
theorem nf_zero {l : List Bool} (h : nf l = 0) (i : Nat) (hi : i < l.length) : l[i]? = some true := by
  have := List.countP_eq_zero.1 h l[i] (List.getElem_mem hi)
  rw [List.getElem?_eq_getElem hi]
  cases hb : l[i] <;> simp_all

theorem mem_ready {md : Region.Mode} {listed : Array Bool} {i : Nat} : i ∈ Region.ready md ops listed ↔ i < ops.size ∧ listed.getD i true = false ∧ ∃ o, ops[i]? = some o ∧ ∀ e ∈ o.after, Region.binds md e = true → listed.getD e.on false = true := by
  simp only [Region.ready, List.mem_filter, List.mem_range, Bool.and_eq_true, Bool.not_eq_true']
  refine ⟨fun ⟨h1, h2, h3⟩ => ⟨h1, h2, ?_⟩, fun ⟨h1, h2, o, h3, h4⟩ => ⟨h1, h2, ?_⟩⟩
  · rw [Array.getElem?_eq_getElem h1] at h3
    refine ⟨ops[i], Array.getElem?_eq_getElem h1, fun e he hb => ?_⟩
    simp only [Option.map_some, Option.getD_some] at h3
    have := Array.all_eq_true'.1 h3 e he
    simpa [hb] using this
  · rw [h3]
    simp only [Option.map_some, Option.getD_some]
    refine Array.all_eq_true'.2 fun e he => ?_
    cases hb : Region.binds md e with
    | false => rfl
    | true => simp [h4 e he hb]

/-- who is not done yet lets one be ready -/
theorem ready_ne {md : Region.Mode} {listed : Array Bool} (hsz : listed.size = ops.size) (r : Nat → Nat) (hr : ∀ (i : Nat) (o : Oper) (e : Edge), ops[i]? = some o → e ∈ o.after → Region.binds md e = true → e.on < ops.size ∧ r e.on < r i) :
    ∀ (k i : Nat), r i = k → i < ops.size → listed[i]? = some false → Region.ready md ops listed ≠ [] := by
  intro k
  induction k using Nat.strongRecOn with
  | _ k ih =>
    intro i hk hi hl hne
    have ho := Array.getElem?_eq_getElem hi
    by_cases hall : ∀ e ∈ (ops[i]).after, Region.binds md e = true → listed.getD e.on false = true
    · have : i ∈ Region.ready md ops listed := mem_ready.2 ⟨hi, by simp [Array.getD_eq_getD_getElem?, hl], ops[i], ho, hall⟩
      rw [hne] at this; cases this
    · simp only [Classical.not_forall] at hall
      obtain ⟨e, he, hb, hn⟩ := hall
      obtain ⟨h1, h2⟩ := hr i _ e ho he hb
      have hlt : e.on < listed.size := by omega
      have hf : listed[e.on]? = some false := by
        rw [Array.getElem?_eq_getElem hlt]
        cases hbb : listed[e.on] with
        | false => rfl
        | true => exact absurd (by simp [Array.getD_eq_getD_getElem?, hlt, hbb]) hn
      exact ih (r e.on) (by omega) e.on rfl h1 hf hne

theorem go_sim (hrun : Run P σ G rd ops plan plan.length S) {md : Region.Mode} (r : Nat → Nat) (hr : ∀ (i : Nat) (o : Oper) (e : Edge), ops[i]? = some o → e ∈ o.after → Region.binds md e = true → e.on < ops.size ∧ r e.on < r i)
    (b : Frame) (cs : List Frame) (hfr : FrOK rd b cs) (k : List Item) : ∀ (fuel q : Nat) (listed : Array Bool) (c : Nat) (e : Env) (T : Array Value) (D : List Deferred) (w : World), listed.size = ops.size → nf listed.toList ≤ fuel →
    Inv P σ G ops plan S e0 w0 (fun i => listed[i]? = some true) c e T D w → (∀ s, plan[c]? = some s → s.isCh = true) →
    ∃ e' T' D' w' c' listed', Steps P (lone (fr b T D (.inRegion ops (Region.linearise.go md ops fuel q listed []) :: k)) cs w) (lone (fr b T' D' (.inRegion ops [] :: k)) cs w') ∧ (∀ i, i < ops.size → listed'[i]? = some true) ∧
      Inv P σ G ops plan S e0 w0 (fun i => (listed' : Array Bool)[i]? = some true) c' e' T' D' w' := by
  intro fuel
  induction fuel with
  | zero =>
    intro q listed c e T D w hsz hn hI _
    exact ⟨e, T, D, w, c, listed, .refl _ _, fun i hi => by have := nf_zero (by omega : nf listed.toList = 0) i (by simpa [hsz] using hi); simpa using this, hI⟩
  | succ fuel ih =>
    intro q listed c e T D w hsz hn hI hch
    have wf := hrun.wf
    have hgo : Region.linearise.go md ops (fuel + 1) q listed [] = match (Region.ready md ops listed)[q % (Region.ready md ops listed).length]? with
        | some i => i :: Region.linearise.go md ops fuel (q / (Region.ready md ops listed).length) (listed.setIfInBounds i true) []
        | none => [] := by
      simp only [Region.linearise.go]
      change (match (Region.ready md ops listed)[q % (Region.ready md ops listed).length]? with
        | some i => Region.linearise.go md ops fuel (q / (Region.ready md ops listed).length) (listed.setIfInBounds i true) [i]
        | none => [].reverse) = _
      split
      · rw [linearise_go_acc]; rfl
      · rfl
    rw [hgo]
    cases hi : (Region.ready md ops listed)[q % (Region.ready md ops listed).length]? with
    | none =>
      have hnil : Region.ready md ops listed = [] := by
        cases hrl : Region.ready md ops listed with
        | nil => rfl
        | cons x xs =>
          rw [hrl] at hi
          have hlt : q % (x :: xs).length < (x :: xs).length := Nat.mod_lt _ (by simp)
          rw [List.getElem?_eq_getElem hlt] at hi; cases hi
      refine ⟨e, T, D, w, c, listed, .refl _ _, fun i hi' => ?_, hI⟩
      have hlt : i < listed.size := by omega
      rw [Array.getElem?_eq_getElem hlt]
      cases hb : listed[i] with
      | true => rfl
      | false => exact absurd hnil (ready_ne hsz r hr _ i rfl hi' (by rw [Array.getElem?_eq_getElem hlt, hb]))
    | some i =>
      obtain ⟨h1, h2, o, h3, h4⟩ := mem_ready.1 (List.mem_of_getElem? hi)
      have hlt : i < listed.size := by omega
      have hfalse : listed[i]? = some false := by
        rw [Array.getElem?_eq_getElem hlt]
        simp only [Array.getD_eq_getD_getElem?, Array.getElem?_eq_getElem hlt, Option.getD_some] at h2
        rw [h2]
      obtain ⟨p, s, hp, rfl⟩ := wf.sur i h1
      have hnd : ¬ listed[s.ix]? = some true := by rw [hfalse]; simp
      have hrdy : ∀ o' (e : Edge), ops[s.ix]? = some o' → e ∈ o'.after → Region.binds .any e = true → listed[e.on]? = some true := by
        intro o' e ho' he hb
        rw [h3] at ho'; cases ho'
        have := h4 e he (binds_any hb md)
        simp only [Array.getD_eq_getD_getElem?] at this
        cases hx : listed[e.on]? with
        | none => rw [hx] at this; cases this
        | some y => rw [hx] at this; simp at this; rw [this]
      have hdone : (fun j => listed[j]? = some true ∨ j = s.ix) = fun j => (listed.setIfInBounds s.ix true)[j]? = some true := by
        funext j
        apply propext
        by_cases hj : j = s.ix
        · subst hj; simp [hlt]
        · rw [Array.getElem?_setIfInBounds_ne (fun h => hj h.symm)]; simp [hj]
      have hnf : nf (listed.setIfInBounds s.ix true).toList ≤ fuel := by
        have := nf_set listed.toList s.ix (by simpa using hfalse)
        rw [Array.toList_setIfInBounds]
        omega
      rcases Nat.lt_or_ge p c with hpc | hpc
      · have hsf : s.isCh = false := by
          cases hh : s.isCh with
          | false => rfl
          | true => exact absurd (hI.bef p s hpc hp hh) hnd
        obtain ⟨e1, T1, w1, q1, q2⟩ := hI.float hrun hp hpc hsf hnd hrdy b cs (Region.linearise.go md ops fuel (q / (Region.ready md ops listed).length) (listed.setIfInBounds s.ix true) []) k
        rw [hdone] at q2
        obtain ⟨e', T', D', w', c', listed', r1, r2, r3⟩ := ih _ _ c e1 T1 D w1 (by simpa using hsz) hnf q2 hch
        exact ⟨e', T', D', w', c', listed', q1.trans r1, r2, r3⟩
      · have hpe : p = c := by
          rcases Nat.lt_or_ge c p with hlt' | hge
          · exfalso
            have hplt : p < plan.length := by
              rcases Nat.lt_or_ge p plan.length with h | h
              · exact h
              · rw [List.getElem?_eq_none h] at hp; cases hp
            have hcs := List.getElem?_eq_getElem (show c < plan.length by omega)
            have hanc := wf.chn p c s _ hp hcs hlt' (hch _ hcs)
            exact hI.aft c _ (Nat.le_refl _) hcs (anc_done hI.clo hanc hrdy)
          · omega
        subst hpe
        have hpl : p < plan.length := by
          rcases Nat.lt_or_ge p plan.length with h | h
          · exact h
          · rw [List.getElem?_eq_none h] at hp; cases hp
        obtain ⟨e1, T1, D1, w1, q1, q2⟩ := hI.chain hrun hpl hp (hch s hp) hrdy b cs hfr (Region.linearise.go md ops fuel (q / (Region.ready md ops listed).length) (listed.setIfInBounds s.ix true) []) k
        rw [hdone] at q2
        obtain ⟨c1, _, q3, q4⟩ := q2.next hrun q2.cle
        obtain ⟨e', T', D', w', c', listed', r1, r2, r3⟩ := ih _ _ c1 e1 T1 D1 w1 (by simpa using hsz) hnf q3 q4
        exact ⟨e', T', D', w', c', listed', q1.trans r1, r2, r3⟩

/-- a drawn region whose canonical states are known -/
theorem draw_run {ops : Array Oper} {t : Tm} {d : List DF} {m : M} (wf : DrawWF P ops (planOf P ops)) {f : Nat → St} (hf0 : f 0 = ⟨t, d, m⟩) (hf : ∀ p s, (planOf P ops)[p]? = some s → StepAt P σ G rd ops s (f p) (f (p + 1)))
    (e : Env) (w : World) (T : Array Value) (D : List Deferred) (b : Frame) (cs : List Frame) (k : List Item) (q : Nat) (hR : RL σ G e m w) (hT : TR σ e t T) (hD : DR σ e d D) (hfr : FrOK rd b cs) :
    ∃ T' D' w' e', Steps P (lone (fr b T D (.inRegion ops (Region.schedule (P.follows .mixedOrders) ops q) :: k)) cs w) (lone (fr b T' D' (.inRegion ops [] :: k)) cs w') ∧ RL σ G e' (f (planOf P ops).length).m w' ∧ TR σ e' (f (planOf P ops).length).t T' ∧
      DR σ e' (f (planOf P ops).length).d D' ∧ Kept e m w e' (f (planOf P ops).length).m w' := by
  have hrun : Run P σ G rd ops (planOf P ops) (planOf P ops).length f := ⟨wf, fun s hs => by simp at hs, fun p s _ hp => hf p s hp⟩
  have hinit : Inv P σ G ops (planOf P ops) f e w (fun i => (Array.replicate ops.size false)[i]? = some true) 0 e T D w := by
    have hnone : ∀ (i : Nat), ¬ (Array.replicate ops.size false)[i]? = some true := by
      intro i h
      rw [Array.getElem?_replicate] at h
      split at h <;> cases h
    refine ⟨Nat.zero_le _, fun p s hp => by omega, fun p s _ _ => hnone _, fun i o ed hi => absurd hi (hnone i), by rw [hf0]; exact hR, by rw [hf0]; exact hD, fun i => ?_, fun p s o hp => by omega, fun p q hpq hq => ?_, by rw [hf0]; exact .refl _ _ _⟩
    · rw [hf0]
      have := hT i
      show match t.get? i with | some cv => _ | none => _
      cases hg : t.get? i with
      | none => rw [hg] at this; exact this
      | some cv => rw [hg] at this; obtain ⟨v, h1, h2⟩ := this; exact ⟨v, h1, .inr h2⟩
    · have h1 : p = 0 := by omega
      have h2 : q = 0 := by omega
      rw [h1, h2]; exact Nat.le_refl _
  obtain ⟨c0, _, hI, hch⟩ := hinit.next hrun hinit.cle
  have hnf : nf (Array.replicate ops.size false).toList ≤ ops.size := by
    have := List.countP_le_length (p := fun (b : Bool) => !b) (l := (Array.replicate ops.size false).toList)
    simpa [nf] using this
  have fin : ∀ (md : Region.Mode) (q : Nat) (r : Nat → Nat), (∀ (i : Nat) (o : Oper) (e : Edge), ops[i]? = some o → e ∈ o.after → Region.binds md e = true → e.on < ops.size ∧ r e.on < r i) →
      ∃ T' D' w' e', Steps P (lone (fr b T D (.inRegion ops (Region.linearise md ops q) :: k)) cs w) (lone (fr b T' D' (.inRegion ops [] :: k)) cs w') ∧ RL σ G e' (f (planOf P ops).length).m w' ∧ TR σ e' (f (planOf P ops).length).t T' ∧ DR σ e' (f (planOf P ops).length).d D' ∧
        Kept e m w e' (f (planOf P ops).length).m w' := by
    intro md q r hr
    obtain ⟨e', T', D', w', c', listed', q1, q2, q3⟩ := go_sim hrun r hr b cs hfr k ops.size q (Array.replicate ops.size false) c0 e T D w (by simp) hnf hI hch
    have hc : c' = (planOf P ops).length := by
      rcases Nat.lt_or_ge c' (planOf P ops).length with h | h
      · have hs' := List.getElem?_eq_getElem h
        exact absurd (q2 _ (wf.bnd c' _ hs')) (q3.aft c' _ (Nat.le_refl _) hs')
      · have := q3.cle; omega
    subst hc
    refine ⟨T', D', w', e', q1, q3.rl, fun i => ?_, q3.dr, by have := q3.kpt; rw [hf0] at this; exact this⟩
    have := q3.slt i
    cases hg : (f (planOf P ops).length).t.get? i with
    | none => rw [hg] at this; exact this
    | some cv =>
      rw [hg] at this
      obtain ⟨v, h1, h2⟩ := this
      rcases h2 with ⟨p, s, o, _, hs', hnd, _⟩ | h2
      · exact absurd (q2 _ (wf.bnd p s hs')) hnd
      · exact ⟨v, h1, h2⟩
  have rtxt : ∀ (md : Region.Mode), (md = .any ∨ md = .text) → ∀ (i : Nat) (o : Oper) (e : Edge), ops[i]? = some o → e ∈ o.after → Region.binds md e = true → e.on < ops.size ∧ id e.on < id i := by
    intro md hmd i o ed ho he hb
    have ht : Region.binds .text ed = true := by
      rcases hmd with h | h
      · subst h; exact binds_any hb .text
      · subst h; exact hb
    have := wf.txt i o ed ho he ht
    have hi : i < ops.size := by
      rcases Nat.lt_or_ge i ops.size with h | h
      · exact h
      · rw [Array.getElem?_eq_none h] at ho; cases ho
    exact ⟨by omega, this⟩
  unfold Region.schedule
  split
  · exact fin .any q id (rtxt .any (.inl rfl))
  · rename_i hmix
    simp only [Bool.or_eq_true, Bool.not_eq_true', not_or, Bool.not_eq_false] at hmix
    split
    · exact fin .text _ id (rtxt .text (.inr rfl))
    · obtain ⟨r, hr⟩ := wf.gcc hmix.2
      exact fin .gc _ r hr

/-- DRAWN REGIONS: WHATEVER THE ORDER. -/
theorem draw_ok {call : CallFn} (hcall : SoundCall P σ G call) (rd : Bool) : DrawOK P σ G rd call := by
  intro ops t d m K hh hs
  obtain ⟨hok, h1⟩ := isTrue_inv hh
  have wf := drawOk_inv hok
  obtain ⟨f, hf0, hf, hK, hS⟩ := planC_inv hcall (S := ⟨t, d, m⟩) h1 hs
  exact ⟨_, _, _, hK, hS, fun e w T D b cs k q hR hT hD hfr => draw_run wf hf0 hf e w T D b cs k q hR hT hD hfr⟩

end
end Go.Ev

namespace Go.Ev

theorem idxByte_eq (c : Nat) (hc : c < 256) : ∀ (l : List UInt8) (i : Nat), idxByte c l i = if Lib.indexByte l (UInt8.ofNat c) = -1 then -1 else Lib.indexByte l (UInt8.ofNat c) + i
  | [], i => by simp [idxByte, Lib.indexByte]
  | b :: l, i => by
    have hb : (b == UInt8.ofNat c) = Nat.beq b.toNat c := by
      rw [Bool.eq_iff_iff, beq_iff_eq, Nat.beq_eq]
      constructor
      · intro h; rw [h]; simp; omega
      · intro h; rw [← h]; simp
    simp only [idxByte, Lib.indexByte, hb]
    cases hbb : Nat.beq b.toNat c with
    | true => simp
    | false =>
      simp only [Bool.false_eq_true, if_false]
      rw [idxByte_eq c hc l (i + 1)]
      have := Lib.indexByte_ge l (UInt8.ofNat c)
      by_cases h : Lib.indexByte l (UInt8.ofNat c) = -1
      · simp [h]
      · have h' : (Lib.indexByte l (UInt8.ofNat c) == -1) = false := by simpa using h
        simp only [h, if_false, h', Bool.false_eq_true]
        rw [if_neg (by omega)]
        omega

/-- what the program says of the one function without a body that is met -/
def ExtFact (P : Program) : Prop := ∀ (f : FuncId) (fn : Func), P.funcs[f]? = some fn → ((fn.name == "internal/bytealg.IndexByteString") = true → Extern.findNext fn = none ∧ Extern.find fn = some Extern.BytealgIndexByte.indexByte) ∧
  ((fn.name == "internal/abi.NoEscape") = true → Extern.findNext fn = none ∧ Extern.find fn = some Extern.AbiNoEscape.same)

theorem ext_ok {P : Program} {σ : Sg} (hng : NoCount P) (hx : ExtFact P) : ExtOK P σ := by
  intro f fn args m k hf hb hh
  simp only [extC] at hh
  split at hh
  · rename_i hname
    split at hh
    · rename_i l c b
      obtain ⟨hb256, h1⟩ := isTrue_inv hh
      have hb256 : b < 256 := by simpa [Nat.blt_eq] using hb256
      rw [forceI_eq] at h1
      refine ⟨_, h1, fun e w vs hv => ?_⟩
      obtain ⟨v1, vs1, e1, r1, hv1⟩ := hv.cons_inv
      obtain ⟨v2, vs2, rfl, r2, hv2⟩ := hv1.cons_inv
      have := hv2.nil_inv
      subst this
      cases r2
      cases r1 with
      | str s hl hc =>
        subst hl; subst hc
        have hvs : vs = #[.string s, .int .u8 (Int.ofNat b)] := by apply Array.ext'; exact e1
        obtain ⟨q1, q2⟩ := (hx f fn hf).1 hname
        refine ⟨.int .i64 (idxByte b (decBytes s.size (encBytes s.data.toList)) 0), ?_, .int _ _⟩
        rw [hvs, run_callFunc_extern hf (hng f fn hf) (by rw [hb]; rfl) q1 q2, run_indexByte_string]
        have hd : decBytes s.size (encBytes s.data.toList) = s.data.toList := by rw [← strLen, dec_enc]
        rw [hd, idxByte_eq b hb256, Lib.firstIdx_eq]
        have hu : (Int.ofNat b).toNat.toUInt8 = UInt8.ofNat b := rfl
        rw [hu]
        simp only [Result.andThen_ok]
        congr 3
        split
        · rename_i h; exact h
        · simp
    · cases hh
  · split at hh
    · rename_i hname
      split at hh
      · rename_i v
        refine ⟨_, hh, fun e w vs hv => ?_⟩
        obtain ⟨v1, vs1, e1, r1, hv1⟩ := hv.cons_inv
        have := hv1.nil_inv
        subst this
        have hvs : vs = #[v1] := by apply Array.ext'; exact e1
        obtain ⟨q1, q2⟩ := (hx f fn hf).2 hname
        refine ⟨v1, ?_, r1⟩
        rw [hvs, run_callFunc_extern hf (hng f fn hf) (by rw [hb]; rfl) q1 q2]
        rfl
      · cases hh
    · cases hh

/-- THE EVALUATOR IS SOUND. -/
theorem eval_sound {P : Program} {σ : Sg} {G : Nat → Bool} (hng : NoCount P) (hx : ExtFact P) (fuel depth : Nat) : SoundCall P σ G (callC P G fuel depth) :=
  callC_ok hng (ext_ok hng hx) (fun _ hc rd => draw_ok hc rd) fuel depth

end Go.Ev

namespace Go.Ev

section
variable {P : Program} {σ : Sg} {G : Nat → Bool}

/-- a call with a body, up to its return, as the kit has it -/
theorem calls_of_eval {call : CallFn} (hng : NoCount P) (hcall : SoundCall P σ G call) {fuel : Nat} {f : FuncId} {fn : Func} {cb : Code} {args : List CV} {m : M} {k : KA} (hfn : P.funcs[f]? = some fn) (hbody : fn.body = some cb)
    (hh : callStep P G fuel call (.func f) args m k = true) (hs : Sat σ m.tab) :
    ∃ v m', k v m' = true ∧ ∀ (e : Env) (w : World) (vs : Array Value), RL σ G e m w → LR σ e args vs.toList →
      Calls P f vs w fun en w' => ∃ v' e', en = .returned v' ∧ VR σ e' v v' ∧ RL σ G e' m' w' ∧ Kept e m w e' m' w' := by
  have hh' : (setArgs args 0 (blank fn.ntmps) fun t => codeC P G f false call fuel cb t [] m fun x t d m => match x with
          | .exit _ => false
          | _ => defersC call d m fun m => resultsC P fn.results.toList t m fun vs => match vs with
            | [v] => k v m
            | vs => k (.tup vs) m) = true := by
    have : (match P.funcs[f]? with
      | some fn => match fn.body with
        | some c => setArgs args 0 (blank fn.ntmps) fun t => codeC P G f false call fuel c t [] m fun x t d m => match x with
          | .exit _ => false
          | _ => defersC call d m fun m => resultsC P fn.results.toList t m fun vs => match vs with
            | [v] => k v m
            | vs => k (.tup vs) m
        | none => extC fn.name args m k
      | none => false) = true := hh
    rw [hfn] at this
    simp only [hbody] at this
    exact this
  obtain ⟨t, h1, hin, ht⟩ := setArgs_inv hh'
  obtain ⟨x, t1, d1, m1, h2, hs1, h3⟩ := codeC_ok hng hcall (fun rd => draw_ok hcall rd) f false fuel cb t [] m _ h1 hs
  have h2' : (defersC call d1 m1 fun m => resultsC P fn.results.toList t1 m fun vs => match vs with
        | [v] => k v m
        | vs => k (.tup vs) m) = true ∧ ∀ id, x ≠ .exit id := by
    cases x with
    | normal => exact ⟨h2, by simp⟩
    | exit id => cases h2
    | ret => exact ⟨h2, by simp⟩
  obtain ⟨m2, h4, hs2, h5⟩ := defersC_inv hcall h2'.1 hs1
  obtain ⟨vs, h6, h7⟩ := results_run (P := P) (σ := σ) (fn := fn) h4
  have h6' : k (oneOr vs) m2 = true := by
    match vs, h6 with
    | [], h6 => exact h6
    | [v], h6 => exact h6
    | v :: v' :: vs, h6 => exact h6
  refine ⟨oneOr vs, m2, h6', fun e w us hR hv cs => ?_⟩
  let b : Frame := { fn := f, tmps := #[], todo := [], defers := [], mode := .run, kind := .normal }
  have henter : Frame.enter P f us .normal = fr b (us ++ Array.replicate (fn.ntmps - us.size) undef) [] [.code cb] := by
    simp [Frame.enter, fr, hfn, hbody, b]
  have hfo : FrOK false b cs := ⟨rfl, .inl rfl⟩
  obtain ⟨T1, D1, w1, e1, todo, q1, q2, q3, q4, q5, q6⟩ := h3 e w _ [] b cs [] hR (entry_TR hv hin ht) .nil hfo rfl
  have hret : ∃ todo', Steps P (lone (fr b T1 D1 todo) cs w1) (lone (rf b T1 D1 todo') cs w1) := by
    cases x with
    | normal => rw [show todo = [] from q2]; exact ⟨_, .one (st_leave rfl)⟩
    | exit id => exact absurd rfl (h2'.2 id)
    | ret => obtain ⟨k'', rfl⟩ := q2; exact ⟨_, .one (st_ret' rfl)⟩
  obtain ⟨todo', hst⟩ := hret
  obtain ⟨w2, e2, r1, r2, r3⟩ := h5 e1 w1 D1 b T1 todo' cs q3 q5
  obtain ⟨v, s1, s2⟩ := h7 r2.hr (q4.mono r3.ext)
  refine ⟨.returned v, w2, rf b T1 [] todo', ⟨v, e2, rfl, s2, r2, q6.trans r3⟩, ?_, rfl, rfl, rfl, rfl, fn, hfn, s1⟩
  rw [henter]
  exact q1.trans (hst.trans r1)

/-- the empty canonical state goes with every real one -/
theorem RL.empty (h : Hp) (n : Nat) (tab : Tab) (w : World) (hx : ∀ r o, σ.fx r = some o → w.heap[r]? = some o) (hp : ∀ b, σ.pn b = none) : RL σ (fun _ => false) (fun _ => none) ⟨h, n, tab⟩ w :=
  ⟨(fun b p cb hb => by cases hb), (fun b p hb => by cases hb), (fun b b' p p' hb => by cases hb), (fun b _ => rfl), (fun g hg => by cases hg), fun r o hr => ⟨hx r o hr, fun b p hb => by cases hb⟩, fun b q hq => by rw [hp] at hq; cases hq⟩

theorem RL.frame {e : Env} {m : M} {w w' : World} (hR : RL σ G e m w) (h : ∀ r, r < w.heap.size → w'.heap[r]? = w.heap[r]?) : RL σ G e m w' := by
  refine ⟨fun b p cb hb hc => ?_, hR.dom, hR.inj, hR.bnd, hR.glo, fun r o hr => ⟨by rw [h r (Array.getElem?_eq_some_iff.1 (hR.fix r o hr).1).1]; exact (hR.fix r o hr).1, (hR.fix r o hr).2⟩, hR.pin⟩
  have old := hR.hr b p cb hb hc
  split at old
  · rename_i hl
    obtain ⟨o, h1, h2⟩ := old
    simp only [hl, if_true]
    exact ⟨o, by rw [h _ (hR.lt hb hl)]; exact h1, h2⟩
  · rename_i hl
    simp only [hl]
    exact old

def sg0 : Sg := { i := fun _ => 0, s := fun _ => ByteArray.empty }
def isT : KA := fun v _ => match v with | .bool b => b | _ => false
theorem isT_inv {v : CV} {m : M} (h : isT v m = true) : v = .bool true := by
  cases v <;> simp [isT] at h; rw [h]

/-- a closed call that hands back true may be passed over -/
theorem ovr_ok {call call' : CallFn} (hcall : SoundCall P σ G call) {aw : FuncId} (hsound : ∀ τ, SoundCall P τ (fun _ => false) call') {h0 : Hp} {n0 : Nat} (haw : call' (.func aw) [] ⟨h0, n0, ⟨[], []⟩⟩ isT = true) : SoundCall P σ G (ovr aw call) := by
  intro f args m k hh hs
  simp only [ovr] at hh
  split at hh
  · rename_i g
    split at hh
    · rename_i hg
      have hg : g = aw := by simpa using hg
      subst hg
      split at hh
      · obtain ⟨v, m', h1, _, h2⟩ := hsound sg0 _ _ _ _ haw ⟨fun s lo hi h => by simp at h, fun x hx => by cases hx⟩
        have hv := isT_inv h1
        subst hv
        refine ⟨.bool true, m, hh, hs, fun e w f' vs kd c cs hR hf hv hk => ?_⟩
        cases hf
        obtain ⟨v', w', e', q1, q2, q3, q4⟩ := h2 (fun _ => none) w (.func g) vs kd c cs (RL.empty _ _ _ _ (fun r o hr => by cases hr) fun _ => rfl) (.func g) (by rw [hv.nil_inv]; exact .nil) hk
        cases q2
        have hfr : ∀ r, r < w.heap.size → w'.heap[r]? = w.heap[r]? := fun r hr => q4.frm r hr (fun b p hb => by cases hb)
        exact ⟨.bool true, w', e, q1, .bool true, hR.frame hfr, ⟨.refl e, Nat.le_refl _, fun _ _ h => ⟨h, rfl⟩, q4.siz, fun r hr _ => hfr r hr, fun b p h hl => .inl ⟨b, p, h, hl, rfl⟩, q4.tap, q4.os, q4.out⟩⟩
      · cases hh
    · exact hcall _ _ _ _ hh hs
  · exact hcall _ _ _ _ hh hs

/-- a law whose arguments are integers, walked by the evaluator -/
theorem kept_of_run {e' : Env} {m m' : M} {w w' : World} (h : Kept (fun _ => none) m w e' m' w') : w.keptBut w' (fun _ => False) := by
  refine ⟨h.os, h.out, fun i hi => ?_⟩
  have hfr : w'.heap[i]? = w.heap[i]? := h.frm i hi (fun b p hb => by cases hb)
  rw [hfr]
  split
  · rename_i h1 h2
    rw [h1] at h2
    cases h2
    exact ⟨rfl, rfl, rfl, fun _ _ => rfl⟩
  · rename_i h1 h2
    rw [h1] at h2
    cases h2
    exact .inr ⟨rfl, rfl⟩
  · rfl

theorem calls_true {call : CallFn} (hng : NoCount P) (hcall : SoundCall P σ (fun _ => false) call) {fuel : Nat} {f : FuncId} {fn : Func} {cb : Code} {args : List CV} {m : M} (hfn : P.funcs[f]? = some fn) (hbody : fn.body = some cb)
    (hh : callStep P (fun _ => false) fuel call (.func f) args m isT = true) (hs : Sat σ m.tab) (w : World) (hx : ∀ r o, σ.fx r = some o → w.heap[r]? = some o) (hpn : ∀ b, σ.pn b = none) (vs : Array Value) (hv : LR σ (fun _ => none) args vs.toList) :
    Calls P f vs w fun en w' => en = .returned (.bool true) ∧ w.keptBut w' (fun _ => False) := by
  obtain ⟨v, m', h1, h2⟩ := calls_of_eval hng hcall hfn hbody hh hs
  have := isT_inv h1
  subst this
  refine (h2 (fun _ => none) w vs (RL.empty _ _ _ _ hx hpn) hv).mono fun en w' ⟨v', e', he, hvr, _, hk⟩ => ?_
  cases hvr
  exact ⟨he, kept_of_run hk⟩

/-- the same, where the arguments name memory that the run leaves alone -/
theorem calls_true_at {call : CallFn} (hng : NoCount P) (hcall : SoundCall P σ (fun _ => false) call) {fuel : Nat} {f : FuncId} {fn : Func} {cb : Code} {args : List CV} {m : M} (hfn : P.funcs[f]? = some fn) (hbody : fn.body = some cb)
    (hh : callStep P (fun _ => false) fuel call (.func f) args m isT = true) (hs : Sat σ m.tab) {e : Env} {w : World} (hR : RL σ (fun _ => false) e m w) (hdead : ∀ b p, e b = some p → p.live = false) (vs : Array Value) (hv : LR σ e args vs.toList) :
    Calls P f vs w fun en w' => en = .returned (.bool true) ∧ w.keptBut w' (fun _ => False) ∧ ∀ r, r < w.heap.size → w'.heap[r]? = w.heap[r]? := by
  obtain ⟨v, m', h1, h2⟩ := calls_of_eval hng hcall hfn hbody hh hs
  have := isT_inv h1
  subst this
  refine (h2 e w vs hR hv).mono fun en w' ⟨v', e', he, hvr, _, hk⟩ => ?_
  cases hvr
  have hfr : ∀ r, r < w.heap.size → w'.heap[r]? = w.heap[r]? := fun r hr => hk.frm r hr (fun b p hb hl => by rw [hdead b p hb] at hl; cases hl)
  refine ⟨he, ⟨hk.os, hk.out, fun i hi => ?_⟩, hfr⟩
  have hfr := hfr i hi
  rw [hfr]
  split
  · rename_i h1 h2
    rw [h1] at h2
    cases h2
    exact ⟨rfl, rfl, rfl, fun _ _ => rfl⟩
  · rename_i h1 h2
    rw [h1] at h2
    cases h2
    exact .inr ⟨rfl, rfl⟩
  · rfl

end
end Go.Ev
