/- A verified evaluator for the model's code (part EvO): own work, of no program. -/
import Derived.Test.YtegokcjfjopdoaaGreatDoorEvN
import Derived.Deep.AppendSrc
namespace Go.Ev

section
variable {P : Program} {σ : Sg} {G : Nat → Bool}

/-- the canonical state and the real one -/
structure RL (σ : Sg) (G : Nat → Bool) (e : Env) (m : M) (w : World) : Prop where
  hr : HR σ e m.h w
  dom : ∀ b p, e b = some p → ∃ cb, m.h.get? b = some cb
  inj : InjE e
  bnd : ∀ b, m.n ≤ b → e b = none
  glo : ∀ g, G g = true → ∃ p, e g = some p ∧ p.r = g ∧ p.d = 0

theorem RL.lt {e : Env} {m : M} {w : World} (h : RL σ G e m w) {b : Nat} {p : Place} (hb : e b = some p) (hl : p.live = true) : p.r < w.heap.size := by
  obtain ⟨cb, hcb⟩ := h.dom b p hb
  have := h.hr b p cb hb hcb
  rw [if_pos hl] at this
  obtain ⟨o, h2, _⟩ := this
  rcases Nat.lt_or_ge p.r w.heap.size with h | h
  · exact h
  · rw [Array.getElem?_eq_none h] at h2; cases h2

/-- one block is written -/
theorem RL.put {e : Env} {m : M} {w w' : World} (hR : RL σ G e m w) {b : Nat} {p : Place} (hb : e b = some p) (hl : p.live = true) {cb : CB} {obj : Obj} (hB : BR σ e cb p obj)
    {h' : Hp} (hh : ∀ j, h'.get? j = if j = b then some cb else m.h.get? j) (hw : ∀ x, w'.heap[x]? = if x = p.r then some obj else w.heap[x]?)
    (ht : w'.tape = w.tape) (ho : w'.os = w.os) (hu : w'.output = w.output) :
    RL σ G e ⟨h', m.n, m.tab⟩ w' ∧ Kept e m w e ⟨h', m.n, m.tab⟩ w' := by
  have hsz : w.heap.size ≤ w'.heap.size := by
    rcases Nat.eq_zero_or_pos w.heap.size with h | h
    · omega
    · have := hw (w.heap.size - 1)
      have h1 : (w.heap[w.heap.size - 1]?).isSome = true := by simp; omega
      have h2 : (w'.heap[w.heap.size - 1]?).isSome = true := by
        rw [this]; split
        · rfl
        · exact h1
      have : w.heap.size - 1 < w'.heap.size := by simpa using h2
      omega
  refine ⟨⟨fun b' p' cb' hb' hcb' => ?_, fun b' p' hb' => ?_, hR.inj, hR.bnd, hR.glo⟩, ⟨.refl e, Nat.le_refl _, fun b' hb' hn => ⟨hn, ?_⟩, hsz, fun r hr hn => ?_, fun b' p' hb' hl' => .inl ⟨b', p', hb', hl', rfl⟩, ht, ho, hu⟩⟩
  · replace hcb' : h'.get? b' = some cb' := hcb'
    rw [hh] at hcb'
    by_cases hbb : b' = b
    · subst hbb
      rw [hb] at hb'; cases hb'
      rw [if_pos hl]
      simp at hcb'
      subst hcb'
      exact ⟨obj, by rw [hw]; simp, hB⟩
    · rw [if_neg hbb] at hcb'
      have old := hR.hr b' p' cb' hb' hcb'
      split at old
      · rename_i hl'
        obtain ⟨o, h2, h3⟩ := old
        have hne : p'.r ≠ p.r := fun he => hbb (hR.inj _ _ _ _ hb' hb hl' hl he)
        simp only [hl', if_true]
        exact ⟨o, by rw [hw]; simp [hne, h2], h3⟩
      · rename_i hl'
        simp only [hl']
        exact old
  · obtain ⟨cb', hcb'⟩ := hR.dom b' p' hb'
    show ∃ cb, h'.get? b' = some cb
    rw [hh]
    split
    · exact ⟨_, rfl⟩
    · exact ⟨cb', hcb'⟩
  · have : b' ≠ b := fun he => by rw [he, hb] at hn; cases hn
    show h'.get? b' = m.h.get? b'
    rw [hh]; simp [this]
  · rw [hw, if_neg (fun he => hn b p hb hl he.symm)]

/-- a new name for a block that has none -/
theorem RL.bind {e : Env} {m : M} {w w' : World} (hR : RL σ G e m w) {p : Place} (hl : p.live = true) (hfree : ∀ b q, e b = some q → q.live = true → q.r ≠ p.r) {cb : CB} {obj : Obj} (hB : BR σ e cb p obj)
    {h' : Hp} (hh : ∀ j, h'.get? j = if j = m.n then some cb else m.h.get? j) (hw : ∀ x, w'.heap[x]? = if x = p.r then some obj else w.heap[x]?) : RL σ G (e.up m.n p) ⟨h', m.n + 1, m.tab⟩ w' := by
  have hnn : e m.n = none := hR.bnd _ (Nat.le_refl _)
  have hext : Ext e (e.up m.n p) := Ext.up hnn
  refine ⟨fun b q cb1 hb hcb1 => ?_, fun b q hb => ?_, fun b b' q q' hb hb' hq hq' he => ?_, fun b hb => ?_, fun g hg => ?_⟩
  · replace hcb1 : h'.get? b = some cb1 := hcb1
    rw [hh] at hcb1
    by_cases hbb : b = m.n
    · subst hbb
      simp [Env.up] at hb
      subst hb
      rw [if_pos hl]
      simp at hcb1
      subst hcb1
      exact ⟨obj, by rw [hw]; simp, hB.mono hext⟩
    · rw [if_neg hbb] at hcb1
      have hb' : e b = some q := by simpa [Env.up, hbb] using hb
      have old := hR.hr b q cb1 hb' hcb1
      split at old
      · rename_i hl'
        obtain ⟨o, h2, h3⟩ := old
        simp only [hl', if_true]
        exact ⟨o, by rw [hw]; simp [hfree b q hb' hl', h2], h3.mono hext⟩
      · rename_i hl'
        simp only [hl']
        exact old
  · show ∃ cb, h'.get? b = some cb
    rw [hh]
    by_cases hbb : b = m.n
    · rw [if_pos hbb]; exact ⟨_, rfl⟩
    · rw [if_neg hbb]; exact hR.dom b q (by simpa [Env.up, hbb] using hb)
  · by_cases h1 : b = m.n <;> by_cases h2 : b' = m.n
    · rw [h1, h2]
    · subst h1
      simp [Env.up] at hb
      subst hb
      have hb2 : e b' = some q' := by simpa [Env.up, h2] using hb'
      exact absurd he.symm (hfree b' q' hb2 hq')
    · subst h2
      simp [Env.up] at hb'
      subst hb'
      have hb2 : e b = some q := by simpa [Env.up, h1] using hb
      exact absurd he (hfree b q hb2 hq)
    · exact hR.inj b b' q q' (by simpa [Env.up, h1] using hb) (by simpa [Env.up, h2] using hb') hq hq' he
  · have : b ≠ m.n := by have : m.n + 1 ≤ b := hb; omega
    simp only [Env.up, this, if_false]
    exact hR.bnd b (by have : m.n + 1 ≤ b := hb; omega)
  · obtain ⟨q, hq, h1, h2⟩ := hR.glo g hg
    have : g ≠ m.n := fun he => by rw [he, hnn] at hq; cases hq
    exact ⟨q, by simp [Env.up, this, hq], h1, h2⟩

/-- a block at the heap's end -/
theorem RL.new {e : Env} {m : M} {w : World} (hR : RL σ G e m w) {s dr : Nat} {cb : CB} {obj : Obj} (hB : BR σ e cb ⟨w.heap.size, 0, s, true⟩ obj)
    {h' : Hp} (hh : ∀ j, h'.get? j = if j = m.n then some cb else m.h.get? j) :
    RL σ G (e.up m.n ⟨w.heap.size, 0, s, true⟩) ⟨h', m.n + 1, m.tab⟩ { w with heap := w.heap.push obj, drawn := dr } ∧
    Kept e m w (e.up m.n ⟨w.heap.size, 0, s, true⟩) ⟨h', m.n + 1, m.tab⟩ { w with heap := w.heap.push obj, drawn := dr } := by
  have hnn : e m.n = none := hR.bnd _ (Nat.le_refl _)
  have hw : ∀ x, ({ w with heap := w.heap.push obj, drawn := dr } : World).heap[x]? = if x = w.heap.size then some obj else w.heap[x]? := by
    intro x
    show (w.heap.push obj)[x]? = _
    rw [Array.getElem?_push]
  refine ⟨hR.bind (p := ⟨w.heap.size, 0, s, true⟩) rfl (fun b q hb hl he => ?_) hB hh hw, ⟨Ext.up hnn, Nat.le_succ _, fun b hb hn => ?_, by simp, fun r hr _ => ?_, fun b p hb hl => ?_, rfl, rfl, rfl⟩⟩
  · have := hR.lt hb hl; rw [he] at this; simp at this
  · have : b ≠ m.n := by omega
    exact ⟨by simp [Env.up, this, hn], by show h'.get? b = _; rw [hh]; simp [this]⟩
  · rw [hw, if_neg (by omega)]
  · by_cases hbb : b = m.n
    · subst hbb
      simp [Env.up] at hb
      subst hb
      exact .inr (Nat.le_refl _)
    · exact .inl ⟨b, p, by simpa [Env.up, hbb] using hb, hl, rfl⟩

def Env.kill (e : Env) (b : Nat) : Env := fun x => if x = b then (e b).map fun p => { p with live := false } else e x
theorem Ext.kill (e : Env) (b : Nat) : Ext e (e.kill b) := by
  intro x p hp
  by_cases hx : x = b
  · subst hx
    exact ⟨{ p with live := false }, by simp [Env.kill, hp], rfl, rfl, rfl, fun h => by cases h⟩
  · exact ⟨p, by simp [Env.kill, hx, hp], rfl, rfl, rfl, id⟩

/-- a block is given up -/
theorem RL.kill {e : Env} {m : M} {w : World} (hR : RL σ G e m w) {b : Nat} {p : Place} (hb : e b = some p) {h' : Hp} (hh : ∀ j, h'.get? j = if j = b then some .none else m.h.get? j) :
    RL σ G (e.kill b) ⟨h', m.n, m.tab⟩ w ∧ Kept e m w (e.kill b) ⟨h', m.n, m.tab⟩ w := by
  have hx := Ext.kill e b
  have liv : ∀ {x q}, e.kill b x = some q → q.live = true → x ≠ b ∧ e x = some q := by
    intro x q hq hl
    by_cases hxb : x = b
    · subst hxb; simp [Env.kill, hb] at hq; subst hq; cases hl
    · exact ⟨hxb, by simpa [Env.kill, hxb] using hq⟩
  refine ⟨⟨fun x q cb hq hcb => ?_, fun x q hq => ?_, fun x x' q q' h1 h2 l1 l2 he => hR.inj x x' q q' (liv h1 l1).2 (liv h2 l2).2 l1 l2 he, fun x hxn => ?_, fun g hg => ?_⟩, ⟨hx, Nat.le_refl _, fun x hxn hn => ?_, Nat.le_refl _, fun _ _ _ => rfl, fun x q hq hl => .inl ⟨x, q, (liv hq hl).2, hl, rfl⟩, rfl, rfl, rfl⟩⟩
  · replace hcb : h'.get? x = some cb := hcb
    rw [hh] at hcb
    by_cases hxb : x = b
    · subst hxb
      simp [Env.kill, hb] at hq
      subst hq
      simp at hcb
      exact hcb.symm
    · rw [if_neg hxb] at hcb
      have hq' : e x = some q := by simpa [Env.kill, hxb] using hq
      have old := hR.hr x q cb hq' hcb
      split at old
      · rename_i hl
        obtain ⟨o, h2, h3⟩ := old
        simp only [hl, if_true]
        exact ⟨o, h2, h3.mono hx⟩
      · rename_i hl
        simp only [hl]
        exact old
  · show ∃ cb, h'.get? x = some cb
    rw [hh]
    by_cases hxb : x = b
    · rw [if_pos hxb]; exact ⟨_, rfl⟩
    · rw [if_neg hxb]; exact hR.dom x q (by simpa [Env.kill, hxb] using hq)
  · have hn := hR.bnd x hxn
    have : x ≠ b := fun he => by rw [he, hb] at hn; cases hn
    simp [Env.kill, this, hn]
  · obtain ⟨q, hq, h1, h2⟩ := hR.glo g hg
    by_cases hgb : g = b
    · subst hgb
      exact ⟨{ q with live := false }, by simp [Env.kill, hq], h1, h2⟩
    · exact ⟨q, by simp [Env.kill, hgb, hq], h1, h2⟩
  · have : x ≠ b := fun he => by rw [he, hb] at hn; cases hn
    exact ⟨by simp [Env.kill, this, hn], by show h'.get? x = _; rw [hh]; simp [this]⟩

end
end Go.Ev
