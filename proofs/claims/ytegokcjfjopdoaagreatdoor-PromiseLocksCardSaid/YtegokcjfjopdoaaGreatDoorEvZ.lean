/- A verified evaluator for the model's code (part EvZ): own work, of no program. -/
import Derived.Test.YtegokcjfjopdoaaGreatDoorEvY
namespace Go.Ev

section
variable {P : Program} {σ : Sg} {G : Nat → Bool}

structure St where
  t : Tm
  d : List DF
  m : M

/-- an operation once more -/
def AgainSem (P : Program) (σ : Sg) (G : Nat → Bool) (ops : Array Oper) (t : Tm) (m : M) (j : Nat) : Prop := ∃ o, ops[j]? = some o ∧
  ((GuardSem σ ops o t false) ∨ (GuardSem σ ops o t true ∧ ∃ x v, o.dst = some x ∧ t.get? x = some v ∧ ∀ nb, FlSem P σ G o t m.h nb v none))

theorem cvBeq_eq : ∀ (a b : CV), cvBeq a b = true → a = b := by
  intro a
  apply CV.rec (motive_1 := fun a => ∀ b, cvBeq a b = true → a = b) (motive_2 := fun l => ∀ l', cvBeq.goL l l' = true → l = l') (t := a)
  all_goals first
    | (intro l'; cases l' <;> intro h <;> first | rfl | (simp [cvBeq.goL] at h; done))
    | skip
  case bool => intro x b h; cases b <;> simp [cvBeq] at h; rw [h]
  case int => intro k n b h; cases b <;> simp [cvBeq, eqI_eq] at h; rw [h.1, h.2]
  case str => intro l c b h; cases b <;> simp [cvBeq] at h; rw [h.1, h.2]
  case ptr0 => intro b h; cases b <;> simp [cvBeq] at h; rfl
  case ptr => intro x o b h; cases b <;> simp [cvBeq] at h; rw [h.1, h.2]
  case sl0 => intro b h; cases b <;> simp [cvBeq] at h; rfl
  case sl => intro x o l c b h; cases b <;> simp [cvBeq] at h; rw [h.1.1.1, h.1.1.2, h.1.2, h.2]
  case slE => intro b h; cases b <;> simp [cvBeq] at h; rfl
  case map0 => intro b h; cases b <;> simp [cvBeq] at h; rfl
  case map => intro x b h; cases b <;> simp [cvBeq] at h; rw [h]
  case fn =>
    intro f xs zs ih1 ih2 b h
    cases b <;> simp [cvBeq] at h
  case yld => intro x b h; cases b <;> simp [cvBeq] at h
  case fn0 => intro b h; cases b <;> simp [cvBeq] at h; rfl
  case ifc => intro t v ih b h; cases b <;> simp [cvBeq] at h
  case ifc0 => intro b h; cases b <;> simp [cvBeq] at h; rfl
  case agg => intro cs ih b h; cases b <;> simp [cvBeq] at h; rw [ih _ h]
  case tup => intro cs ih b h; cases b <;> simp [cvBeq] at h; rw [ih _ h]
  case sym => intro k s b h; cases b <;> simp [cvBeq] at h; rw [h.1, h.2]
  case ssym => intro k s b h; cases b <;> simp [cvBeq] at h; rw [h.1, h.2]
  case symr => intro k s c r b h; cases b <;> simp [cvBeq] at h
  case cons =>
    intro x xs ih1 ih2 l' h
    cases l' with
    | nil => simp [cvBeq.goL] at h
    | cons y ys => simp [cvBeq.goL] at h; rw [ih1 _ h.1, ih2 _ h.2]

theorem againC_inv {ops : Array Oper} {t : Tm} {m : M} {j : Nat} (h : againC P G ops t m j = true) (hs : Sat σ m.tab) : AgainSem P σ G ops t m j := by
  simp only [againC] at h
  split at h
  · rename_i o ho
    obtain ⟨wnt, h1, hg⟩ := guardC_inv (σ := σ) h
    cases wnt with
    | false => exact ⟨o, ho, .inl hg⟩
    | true =>
      simp only [] at h1
      split at h1
      · rename_i x hx
        obtain ⟨v, hv, h2⟩ := getK_inv h1
        obtain ⟨v', ncb, tab', h3, _, h4⟩ := floatC_inv h2 hs
        cases ncb with
        | some cb => cases h3
        | none =>
          have : v = v' := cvBeq_eq _ _ h3
          subst this
          exact ⟨o, ho, .inr ⟨hg, x, v, hx, hv, fun nb => h4⟩⟩
      · cases h1
  · cases h

/-- one step of the plan -/
def StepAt (P : Program) (σ : Sg) (G : Nat → Bool) (rd : Bool) (ops : Array Oper) (s : PS) (S S' : St) : Prop :=
  ∃ o, ops[s.ix]? = some o ∧ OperSem P σ G rd ops o S.t S.d S.m S'.t S'.d S'.m ∧ ∀ i again, s = .ch i again → ∀ j ∈ again, AgainSem P σ G ops S'.t S'.m j

theorem planC_inv {call : CallFn} (hcall : SoundCall P σ G call) {rd : Bool} {ops : Array Oper} : ∀ {l : List PS} {S : St} {K : Tm → List DF → M → Bool}, planC P G rd call ops l S.t S.d S.m K = true → Sat σ S.m.tab →
    ∃ f : Nat → St, f 0 = S ∧ (∀ p s, l[p]? = some s → StepAt P σ G rd ops s (f p) (f (p + 1))) ∧ K (f l.length).t (f l.length).d (f l.length).m = true ∧ Sat σ (f l.length).m.tab
  | [], S, K, h, hs => ⟨fun _ => S, rfl, fun p s hp => by simp at hp, h, hs⟩
  | s :: l, S, K, h, hs => by
    have key : ∃ S1 : St, StepAt P σ G rd ops s S S1 ∧ planC P G rd call ops l S1.t S1.d S1.m K = true ∧ Sat σ S1.m.tab := by
      cases s with
      | fl i =>
        have h' : (match ops[i]? with | some o => operC P G rd call ops o S.t S.d S.m fun t d m => planC P G rd call ops l t d m K | none => false) = true := h
        split at h'
        · rename_i o ho
          obtain ⟨t', d', m', h1, h2, h3⟩ := operC_inv hcall h' hs
          exact ⟨⟨t', d', m'⟩, ⟨o, ho, h3, fun i again he => by cases he⟩, h1, h2⟩
        · cases h'
      | ch i again =>
        have h' : (match ops[i]? with | some o => operC P G rd call ops o S.t S.d S.m fun t d m => isTrue (again.all fun j => againC P G ops t m j) (planC P G rd call ops l t d m K) | none => false) = true := h
        split at h'
        · rename_i o ho
          obtain ⟨t', d', m', h1, h2, h3⟩ := operC_inv hcall h' hs
          obtain ⟨h4, h5⟩ := isTrue_inv h1
          refine ⟨⟨t', d', m'⟩, ⟨o, ho, h3, fun i' again' he j hj => ?_⟩, h5, h2⟩
          cases he
          exact againC_inv (List.all_eq_true.1 h4 j hj) h2
        · cases h'
    obtain ⟨S1, h1, h2, h3⟩ := key
    obtain ⟨f, hf0, hf, hK, hS⟩ := planC_inv hcall h2 h3
    refine ⟨fun p => match p with | 0 => S | p + 1 => f p, rfl, fun p s' hp => ?_, hK, hS⟩
    cases p with
    | zero => simp at hp; subst hp; show StepAt P σ G rd ops s S (f 0); rw [hf0]; exact h1
    | succ p => exact hf p s' (by simpa using hp)

/-! Slots that agree -/
theorem mem_reads {ops : Array Oper} {o : Oper} {i : Nat} (h : Operand.tmp i ∈ o.op.operands) : i ∈ readsOf ops o := by
  refine List.mem_append_left _ (List.mem_filterMap.2 ⟨.tmp i, by simpa using h, rfl⟩)
theorem FlSem.slots {o : Oper} {t t' : Tm} {h : Hp} {nb : Nat} {v : CV} {ncb : Option CB} {ops : Array Oper} (hs : FlSem P σ G o t h nb v ncb) (ht : ∀ x, x ∈ readsOf ops o → t'.get? x = t.get? x) : FlSem P σ G o t' h nb v ncb := by
  intro e w ρ hr hi ho
  refine hs e w ρ hr hi fun x hx c hc => ho x hx c ?_
  cases x with
  | tmp i => show t'.get? i = some c; rw [ht i (mem_reads hx)]; exact hc
  | const v => exact hc
  | global g => exact hc
  | func f => exact hc
theorem GuardSem.slots {o : Oper} {t t' : Tm} {ops : Array Oper} {b : Bool} (hs : GuardSem σ ops o t b) (ht : ∀ x, x ∈ readsOf ops o → t'.get? x = t.get? x) : GuardSem σ ops o t' b := by
  intro e T h
  refine hs e T fun j want oj d c hg hj hd hc => h j want oj d c hg hj hd ?_
  rw [ht d ?_]; exact hc
  refine List.mem_append_right _ ?_
  simp [hg, hj, hd]

/-- an operation that waits -/
def Pend (P : Program) (σ : Sg) (G : Nat → Bool) (ops : Array Oper) (o : Oper) (nb nx : Nat) (t : Tm) (m : M) (e : Env) : Prop :=
  (GuardSem σ ops o t true ∧ GuardSem σ ops o t false) ∨ (GuardSem σ ops o t false ∧ ∀ x, o.dst = some x → t.get? x = some undefC) ∨
  (GuardSem σ ops o t true ∧ ∃ v ncb, FlSem P σ G o t m.h nb v ncb ∧ (looks o.op = false → ∀ h', FlSem P σ G o t h' nb v ncb) ∧ (∀ x, o.dst = some x → t.get? x = some v) ∧ ∀ cb, ncb = some cb → nb < nx ∧ nb < m.n ∧ m.h.get? nb = some cb ∧ e nb = none)

end
end Go.Ev
