/- A verified evaluator for the model's code (part EvY): own work, of no program. -/
import Derived.Test.YtegokcjfjopdoaaGreatDoorEvX
import Derived.Orders
namespace Go.Ev

/-! What stands before an operation -/
inductive Anc (ops : Array Oper) : Nat → Nat → Prop
  | direct {j : Nat} {o : Oper} {e : Edge} (ho : ops[j]? = some o) (he : e ∈ o.after) (hb : Region.binds .any e = true) : Anc ops e.on j
  | trans {i j : Nat} {o : Oper} {e : Edge} (ho : ops[j]? = some o) (he : e ∈ o.after) (hb : Region.binds .any e = true) (h : Anc ops i e.on) : Anc ops i j

theorem before_anc (ops : Array Oper) (i j : Nat) (h : ((Region.before ops).getD j 0).testBit i = true) : Anc ops i j := by
  have inner : ∀ (acc : Array Nat) (j : Nat) (o : Oper), ops[j]? = some o → (∀ k, (acc.getD k 0).testBit i = true → Anc ops i k) → ∀ (l : List Edge), (∀ e ∈ l, e ∈ o.after) → ∀ s : Nat, (s.testBit i = true → Anc ops i j) →
      ((l.foldl (fun s e => if Region.binds .any e then s ||| 2 ^ e.on ||| acc.getD e.on 0 else s) s).testBit i = true → Anc ops i j) := by
    intro acc j o ho hacc l
    induction l with
    | nil => intro _ s hs; exact hs
    | cons e l ih =>
      intro hl s hs
      simp only [List.foldl_cons]
      refine ih (fun e' he' => hl e' (List.mem_cons_of_mem _ he')) _ ?_
      split
      · rename_i hb
        intro ht
        simp only [Nat.testBit_or, Bool.or_eq_true] at ht
        rcases ht with (ht | ht) | ht
        · exact hs ht
        · rw [Nat.testBit_two_pow] at ht
          have : e.on = i := by simpa using ht
          rw [← this]
          exact .direct ho (hl e (by simp)) hb
        · exact .trans ho (hl e (by simp)) hb (hacc _ ht)
      · exact hs
  have outer : ∀ (l : List Oper) (acc : Array Nat), (∀ n o, l[n]? = some o → ops[acc.size + n]? = some o) → (∀ k, (acc.getD k 0).testBit i = true → Anc ops i k) →
      ∀ k, ((l.foldl (fun acc o => acc.push (o.after.foldl (fun s e => if Region.binds .any e then s ||| 2 ^ e.on ||| acc.getD e.on 0 else s) 0)) acc).getD k 0).testBit i = true → Anc ops i k := by
    intro l
    induction l with
    | nil => intro acc _ hacc; exact hacc
    | cons o l ih =>
      intro acc hl hacc
      simp only [List.foldl_cons]
      refine ih _ (fun n o' hn => ?_) (fun k hk => ?_)
      · have := hl (n + 1) o' (by simpa using hn)
        rw [Array.size_push]
        rwa [show acc.size + 1 + n = acc.size + (n + 1) by omega]
      · simp only [Array.getD_eq_getD_getElem?, Array.getElem?_push] at hk
        split at hk
        · rename_i hks
          subst hks
          have ho : ops[acc.size]? = some o := by have := hl 0 o (by simp); simpa using this
          simp only [Option.getD_some] at hk
          rw [← Array.foldl_toList] at hk
          exact inner acc acc.size o ho hacc o.after.toList (fun e he => by simpa using he) 0 (fun h => by simp at h) (by simpa [Array.getD_eq_getD_getElem?] using hk)
        · exact hacc k (by simpa [Array.getD_eq_getD_getElem?] using hk)
  have hb : Region.before ops = ops.toList.foldl (fun acc o => acc.push (o.after.foldl (fun s e => if Region.binds .any e then s ||| 2 ^ e.on ||| acc.getD e.on 0 else s) 0)) #[] := by
    rw [Region.before, Array.foldl_toList]
  rw [hb] at h
  exact outer ops.toList #[] (fun n o hn => by simpa using hn) (fun k hk => by simp at hk) j h

/-- what the check says -/
structure DrawWF (ops : Array Oper) (plan : List PS) : Prop where
  len : plan.length = ops.size
  sur : ∀ i, i < ops.size → ∃ (p : Nat) (s : PS), plan[p]? = some s ∧ s.ix = i
  inj : ∀ (p q : Nat) (s s' : PS), plan[p]? = some s → plan[q]? = some s' → s.ix = s'.ix → p = q
  bnd : ∀ (p : Nat) (s : PS), plan[p]? = some s → s.ix < ops.size
  knd : ∀ (p : Nat) (s : PS) (o : Oper), plan[p]? = some s → ops[s.ix]? = some o → isFloat o.op = !s.isCh
  chn : ∀ (p q : Nat) (s s' : PS), plan[p]? = some s → plan[q]? = some s' → q < p → s'.isCh = true → Anc ops s'.ix s.ix
  rds : ∀ (p q : Nat) (s s' : PS) (o o' : Oper) (x : Nat), plan[p]? = some s → plan[q]? = some s' → ops[s.ix]? = some o → ops[s'.ix]? = some o' → x ∈ readsOf ops o → o'.dst = some x → q < p ∧ Anc ops s'.ix s.ix
  dst : ∀ (p q : Nat) (s s' : PS) (o o' : Oper) (x : Nat), plan[p]? = some s → plan[q]? = some s' → ops[s.ix]? = some o → ops[s'.ix]? = some o' → o.dst = some x → o'.dst = some x → p = q
  agn : ∀ (p q i : Nat) (again : List Nat) (s' : PS) (o' : Oper), plan[p]? = some (.ch i again) → plan[q]? = some s' → q < p → s'.isCh = false → ops[s'.ix]? = some o' → looks o'.op = true → s'.ix ∈ again ∨ Anc ops s'.ix i
  txt : ∀ (i : Nat) (o : Oper) (e : Edge), ops[i]? = some o → e ∈ o.after → Region.binds .text e = true → e.on < i
  gcc : Region.departs ops = true → ∃ r : Nat → Nat, ∀ (i : Nat) (o : Oper) (e : Edge), ops[i]? = some o → e ∈ o.after → Region.binds .gc e = true → e.on < ops.size ∧ r e.on < r i

theorem zip_all {α : Type} {l : List α} {f : α × Nat → Bool} (h : l.zipIdx.all f = true) {p : Nat} {s : α} (hp : l[p]? = some s) : f (s, p) = true := by
  rw [List.all_eq_true] at h
  refine h (s, p) ?_
  rw [List.mem_zipIdx_iff_getElem?]
  exact hp

theorem drawOk_inv {ops : Array Oper} (h : drawOk ops = true) : DrawWF ops (planOf ops) := by
  have gd : ∀ {i : Nat} {o : Oper}, ops[i]? = some o → ops.getD i default = o := fun h => by simp [Array.getD_eq_getD_getElem?, h]
  simp only [drawOk, Bool.and_eq_true] at h
  obtain ⟨⟨⟨⟨⟨⟨⟨⟨h1, h2⟩, h3⟩, h4⟩, h5⟩, h6⟩, h7⟩, h8⟩, h9⟩ := h
  generalize hpl : planOf ops = plan at *
  refine ⟨by simpa using h1, fun i hi => ?_, fun p q s s' hp hq he => ?_, fun p s hp => ?_, fun p s o hp ho => ?_, fun p q s s' hp hq hlt hc => ?_, fun p q s s' o o' x hp hq ho ho' hx hd => ?_,
    fun p q s s' o o' x hp hq ho ho' hx hd => ?_, fun p q i again s' o' hp hq hlt hc ho' hl => ?_, fun i o e ho he hb => ?_, fun hdep => ?_⟩
  · have := List.all_eq_true.1 h2 i (by simpa using hi)
    simp only [List.contains_eq_mem, List.mem_map, decide_eq_true_eq] at this
    obtain ⟨s, hs, rfl⟩ := this
    obtain ⟨p, hp, rfl⟩ := List.mem_iff_getElem.1 hs
    exact ⟨p, _, List.getElem?_eq_getElem hp, rfl⟩
  · have a := zip_all h3 hp
    have b := zip_all h3 hq
    simp only [Bool.and_eq_true, Nat.beq_eq] at a b
    rw [← a.1.1, ← b.1.1, he]
  · have a := zip_all h3 hp
    simp only [Bool.and_eq_true] at a
    simpa [Nat.blt_eq] using a.1.2
  · have a := zip_all h3 hp
    simp only [Bool.and_eq_true, gd ho] at a
    simpa using a.2
  · have a := zip_all (zip_all h4 hp) hq
    simp only [Bool.or_eq_true, Bool.not_eq_true', Bool.and_eq_false_iff] at a
    rcases a with (a | a) | a
    · rw [← Nat.blt_eq, a] at hlt; cases hlt
    · rw [hc] at a; cases a
    · exact before_anc ops _ _ a
  · have a := zip_all h5 hp
    simp only [gd ho] at a
    have b := zip_all (List.all_eq_true.1 a x hx) hq
    simp only [gd ho', hd, beq_self_eq_true, Bool.not_true, Bool.false_or, Bool.and_eq_true] at b
    exact ⟨by simpa [Nat.blt_eq] using b.1, before_anc ops _ _ b.2⟩
  · have a := zip_all (zip_all h6 hp) hq
    simp only [gd ho, gd ho', hx, hd, beq_self_eq_true, Bool.not_true, Bool.or_false, Nat.beq_eq] at a
    exact a
  · have a := zip_all h7 hp
    have b := zip_all a hq
    simp only [gd ho', hc, hl, Bool.not_false, Bool.and_true, Bool.or_eq_true] at b
    rcases b with (b | b) | b
    · have hq' : Nat.blt q p = true := by rw [Nat.blt_eq]; exact hlt
      rw [hq'] at b; cases b
    · exact .inl (by simpa using b)
    · exact .inr (before_anc ops _ _ b)
  · have ho' : ops.toList[i]? = some o := by simpa using ho
    have a := zip_all h8 ho'
    have b := Array.all_eq_true'.1 a e he
    simp only [hb, Bool.not_true, Bool.false_or] at b
    simpa [Nat.blt_eq] using b
  · rw [hdep] at h9
    refine ⟨fun i => (Region.linearise .gc ops 0).idxOf i, fun i o e ho he hb => ?_⟩
    have ho' : ops.toList[i]? = some o := by simpa using ho
    have a := zip_all h9 ho'
    have b := Array.all_eq_true'.1 a e he
    simp only [hb, Bool.not_true, Bool.false_or, Bool.and_eq_true] at b
    exact ⟨by simpa [Nat.blt_eq] using b.1, by simpa [Nat.blt_eq] using b.2⟩

end Go.Ev
