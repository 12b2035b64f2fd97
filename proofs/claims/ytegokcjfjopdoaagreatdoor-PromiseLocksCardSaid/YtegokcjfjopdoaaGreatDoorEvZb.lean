/- A verified evaluator for the model's code (part EvZb): own work, of no program. -/
import Derived.Test.YtegokcjfjopdoaaGreatDoorEvZa
namespace Go.Ev

section
variable {P : Program} {σ : Sg} {G : Nat → Bool}
variable {rd : Bool} {ops : Array Oper} {plan : List PS} {S : Nat → St} {e0 : Env} {w0 : World} {done : Nat → Prop} {c : Nat} {e : Env} {T : Array Value} {D : List Deferred} {w : World}

theorem Inv.reads (wf : DrawWF ops plan) (h : Inv P σ G ops plan S e0 w0 done c e T D w) {p : Nat} {s : PS} {o : Oper} (hp : plan[p]? = some s) (ho : ops[s.ix]? = some o)
    (hrdy : ∀ o (e : Edge), ops[s.ix]? = some o → e ∈ o.after → Region.binds .any e = true → done e.on) : ∀ x, x ∈ readsOf ops o → ∀ cv, (S c).t.get? x = some cv → ∃ v, T[x]? = some v ∧ VR σ e cv v := by
  intro x hx cv hcv
  have := h.slt x
  rw [hcv] at this
  obtain ⟨v, hv, hh⟩ := this
  rcases hh with ⟨q, s', o', hq, hs', hnd, ho', hd⟩ | hh
  · exact absurd (anc_done h.clo (wf.rds p q s s' o o' x hp hs' ho ho' hx hd).2 hrdy) hnd
  · exact ⟨v, hv, hh⟩

theorem Inv.opers (wf : DrawWF ops plan) (h : Inv P σ G ops plan S e0 w0 done c e T D w) {p : Nat} {s : PS} {o : Oper} (hp : plan[p]? = some s) (ho : ops[s.ix]? = some o)
    (hrdy : ∀ o (e : Edge), ops[s.ix]? = some o → e ∈ o.after → Region.binds .any e = true → done e.on) : ∀ x, x ∈ o.op.operands → ∀ c', OV G (S c).t x c' → VR σ e c' ((Act.mk T D).eval x) := by
  intro x hx c' hc
  cases x with
  | tmp i =>
    obtain ⟨v, hv, hr⟩ := h.reads wf hp ho hrdy i (mem_reads hx) c' hc
    simpa [Act.eval, hv] using hr
  | const v => exact ofValue_VR hc
  | global g =>
    obtain ⟨hg, rfl⟩ := hc
    obtain ⟨p, hp, h1, h2⟩ := h.rl.glo g hg
    have := VR.ptr (σ := σ) (o := 0) hp
    rw [h1, h2] at this
    exact this
  | func f => rw [show c' = _ from hc]; exact .fn f rfl rfl (fun i c v h => by simp at h) (fun i c v h => by simp at h)

theorem Inv.guards (wf : DrawWF ops plan) (h : Inv P σ G ops plan S e0 w0 done c e T D w) {p : Nat} {s : PS} {o : Oper} (hp : plan[p]? = some s) (ho : ops[s.ix]? = some o)
    (hrdy : ∀ o (e : Edge), ops[s.ix]? = some o → e ∈ o.after → Region.binds .any e = true → done e.on) :
    ∀ j want oj d cv, o.guard = some (j, want) → ops[j]? = some oj → oj.dst = some d → (S c).t.get? d = some cv → ∃ v, T[d]? = some v ∧ VR σ e cv v :=
  fun j want oj d cv hg hj hd hc => h.reads wf hp ho hrdy d (List.mem_append_right _ (by simp [hg, hj, hd])) cv hc

/-- an operation that waited is carried out: what follows for the slots -/
theorem Inv.fill (wf : DrawWF ops plan) (h : Inv P σ G ops plan S e0 w0 done c e T D w) {p : Nat} {s : PS} {o : Oper} (hp : plan[p]? = some s) (hpc : p < c) (ho : ops[s.ix]? = some o) {e' : Env} {w' : World} {cv : CV} {v : Value}
    (hrdy : ∀ o (e : Edge), ops[s.ix]? = some o → e ∈ o.after → Region.binds .any e = true → done e.on) (hext : Ext e e') (hv : VR σ e' cv v) (hslot : ∀ x, o.dst = some x → (S c).t.get? x = some cv)
    (hRL : RL σ G e' (S c).m w') (hk : Kept e0 (S 0).m w0 e' (S c).m w') (hnone : ∀ q s' o', q < c → plan[q]? = some s' → ¬ (done s'.ix ∨ s'.ix = s.ix) → ops[s'.ix]? = some o' → e' (S q).m.n = e (S q).m.n ∨ (S (q + 1)).m.n ≤ (S q).m.n) :
    Inv P σ G ops plan S e0 w0 (fun i => done i ∨ i = s.ix) c e' (tput o.dst v T) D w' := by
  refine ⟨h.cle, fun q s' hq hs' hc => .inl (h.bef q s' hq hs' hc), fun q s' hq hs' hd => ?_, fun i o1 ed hi ho1 he hb => ?_, hRL, h.dr.mono hext, fun i => ?_, fun q s' o' hq hs' hnd ho' => ?_, h.mon, hk⟩
  · rcases hd with hd | hd
    · exact h.aft q s' hq hs' hd
    · have := wf.inj q p s' s hs' hp hd
      omega
  · rcases hi with hi | hi
    · exact .inl (h.clo i o1 ed hi ho1 he hb)
    · subst hi; exact .inl (hrdy o1 ed ho1 he hb)
  · have old := h.slt i
    cases hdst : o.dst with
    | none =>
      simp only [tput]
      split at old
      · obtain ⟨u, h1, h2⟩ := old
        refine ⟨u, h1, h2.imp (fun ⟨q, s', o', a1, a2, a3, a4, a5⟩ => ⟨q, s', o', a1, a2, fun hd => ?_, a4, a5⟩) (fun h => h.mono hext)⟩
        rcases hd with hd | hd
        · exact a3 hd
        · rw [hd, ho] at a4; cases a4; rw [hdst] at a5; cases a5
      · exact old
    | some x =>
      simp only [tput]
      by_cases hix : i = x
      · subst hix
        have hc := hslot i hdst
        rw [hc] at old ⊢
        obtain ⟨u, hu, _⟩ := old
        have hlt : i < T.size := by
          rcases Nat.lt_or_ge i T.size with h | h
          · exact h
          · rw [Array.getElem?_eq_none h] at hu; cases hu
        exact ⟨v, by simp [hlt], .inr hv⟩
      · rw [Array.getElem?_setIfInBounds_ne (fun h => hix h.symm)]
        split at old
        · obtain ⟨u, h1, h2⟩ := old
          refine ⟨u, h1, h2.imp (fun ⟨q, s', o', a1, a2, a3, a4, a5⟩ => ⟨q, s', o', a1, a2, fun hd => ?_, a4, a5⟩) (fun h => h.mono hext)⟩
          rcases hd with hd | hd
          · exact a3 hd
          · rw [hd, ho] at a4; cases a4; rw [hdst] at a5; cases a5; exact hix rfl
        · exact old
  · have hnd' : ¬ done s'.ix := fun hd => hnd (.inl hd)
    rcases h.pnd q s' o' hq hs' hnd' ho' with a | a | ⟨a1, v', ncb', a2, a3, a4, a5⟩
    · exact .inl a
    · exact .inr (.inl a)
    · refine .inr <| .inr ⟨a1, v', ncb', a2, a3, a4, fun cb hcb => ?_⟩
      obtain ⟨b1, b2, b3, b4⟩ := a5 cb hcb
      refine ⟨b1, b2, b3, ?_⟩
      rcases hnone q s' o' hq hs' hnd ho' with h1 | h1
      · rw [h1]; exact b4
      · omega

/-- AN OPERATION THAT FLOATS IS CARRIED OUT. -/
theorem Inv.float (hrun : Run P σ G rd ops plan S) (h : Inv P σ G ops plan S e0 w0 done c e T D w) {p : Nat} {s : PS} (hp : plan[p]? = some s) (hpc : p < c) (hf : s.isCh = false) (hnd : ¬ done s.ix)
    (hrdy : ∀ o (e : Edge), ops[s.ix]? = some o → e ∈ o.after → Region.binds .any e = true → done e.on) (b : Frame) (cs : List Frame) (rest : List Nat) (k : List Item) :
    ∃ e' T' w', Steps P (lone (fr b T D (.inRegion ops (s.ix :: rest) :: k)) cs w) (lone (fr b T' D (.inRegion ops rest :: k)) cs w') ∧ Inv P σ G ops plan S e0 w0 (fun i => done i ∨ i = s.ix) c e' T' D w' := by
  have wf := hrun.wf
  have ho : ∃ o, ops[s.ix]? = some o := ⟨_, Array.getElem?_eq_getElem (wf.bnd p s hp)⟩
  obtain ⟨o, ho⟩ := ho
  have hfl : isFloat o.op = true := by rw [wf.knd p s o hp ho, hf]; rfl
  have hnde : ∀ c, o.op ≠ .defer c := fun c hc => by rw [hc] at hfl; cases hfl
  have hgr := h.guards wf hp ho hrdy
  have hop := h.opers wf hp ho hrdy
  rcases h.pnd p s o hpc hp hnd ho with ⟨a1, a2⟩ | ⟨a1, a2⟩ | ⟨a1, v, ncb, a2, a3, a4, a5⟩
  · have h1 := a1 e T hgr
    have h2 := a2 e T hgr
    rw [h1] at h2; cases h2
  · refine ⟨e, _, w, .one (st_op_skip ho (a1 e T hgr)), ?_⟩
    exact h.fill wf hp hpc ho hrdy (.refl e) undef_VR a2 h.rl h.kpt (fun _ _ _ _ _ _ _ => .inl rfl)
  · have hw := a1 e T hgr
    have hres := a2 e w (Act.mk T D).eval h.rl.hr h.rl.inj hop
    cases ncb with
    | none =>
      obtain ⟨v', h1, h2⟩ := hres
      refine ⟨e, _, w, .one (st_value ho hw (.inr hnde) (.inl h1)), ?_⟩
      exact h.fill wf hp hpc ho hrdy (.refl e) h2 a4 h.rl h.kpt (fun _ _ _ _ _ _ _ => .inl rfl)
    | some cb =>
      obtain ⟨v', obj, sl, dr, h1, h2, h3⟩ := hres
      obtain ⟨b1, b2, b3, b4⟩ := a5 cb rfl
      refine ⟨e.up (S p).m.n ⟨w.heap.size, 0, sl, true⟩, _, _, .one (st_value ho hw (.inr hnde) (.inl h1)), ?_⟩
      refine h.fill wf hp hpc ho hrdy (Ext.up b4) h3 a4 (h.rl.born b2 b4 b3 h2) (h.kpt.born (h.mon 0 p (Nat.zero_le _) (by omega)) b4) (fun q s' o' hq hs' hnd' ho' => ?_)
      by_cases hqn : (S q).m.n = (S p).m.n
      · rcases Nat.lt_or_ge q p with hlt | hge
        · right
          have := h.mon (q + 1) p (by omega) (by omega)
          omega
        · have hqp : q ≠ p := fun he => by
            subst he
            rw [hp] at hs'; cases hs'
            exact hnd' (.inr rfl)
          exfalso
          have := h.mon (p + 1) q (by omega) (by omega)
          omega
      · left; simp [Env.up, hqn]

/-- AN OPERATION THAT ACTS IS CARRIED OUT. -/
theorem Inv.chain (hrun : Run P σ G rd ops plan S) (h : Inv P σ G ops plan S e0 w0 done c e T D w) {s : PS} (hs : plan[c]? = some s) (hch : s.isCh = true)
    (hrdy : ∀ o (e : Edge), ops[s.ix]? = some o → e ∈ o.after → Region.binds .any e = true → done e.on) (b : Frame) (cs : List Frame) (hfr : FrOK rd b cs) (rest : List Nat) (k : List Item) :
    ∃ e' T' D' w', Steps P (lone (fr b T D (.inRegion ops (s.ix :: rest) :: k)) cs w) (lone (fr b T' D' (.inRegion ops rest :: k)) cs w') ∧ Inv P σ G ops plan S e0 w0 (fun i => done i ∨ i = s.ix) (c + 1) e' T' D' w' := by
  have wf := hrun.wf
  obtain ⟨o, ho, sem, hagn⟩ := hrun.st c s hs
  have hfl : isFloat o.op = false := by rw [wf.knd c s o hs ho, hch]; rfl
  have hlt : c < plan.length := by
    rcases Nat.lt_or_ge c plan.length with h | h
    · exact h
    · rw [List.getElem?_eq_none h] at hs; cases hs
  have hgr := h.guards wf hs ho hrdy
  have hop := h.opers wf hs ho hrdy
  have way : ∃ v v' D' w' e', Steps P (lone (fr b T D (.inRegion ops (s.ix :: rest) :: k)) cs w) (lone (fr b (tput o.dst v' T) D' (.inRegion ops rest :: k)) cs w') ∧ Put o.dst v (S c).t (S (c + 1)).t ∧ VR σ e' v v' ∧
      RL σ G e' (S (c + 1)).m w' ∧ Kept e (S c).m w e' (S (c + 1)).m w' ∧ DR σ e' (S (c + 1)).d D' := by
    generalize S (c + 1) = S' at sem
    obtain ⟨t', d', m'⟩ := S'
    cases sem with
    | skip hg hp => exact ⟨_, undef, D, w, e, .one (st_op_skip ho (hg e T hgr)), hp, undef_VR, h.rl, .refl _ _ _, h.dr⟩
    | fl _ hf' _ _ _ _ => rw [hfl] at hf'; cases hf'
    | act hg _ ha hp =>
      obtain ⟨v', w', e', h1, h2, h3, h4⟩ := ha e w T D b cs s.ix rest k h.rl hop hfr ho (hg e T hgr)
      exact ⟨_, v', D, w', e', h1, hp, h2, h3, h4, h.dr.mono h4.ext⟩
    | defer hg _ hrd hd hp =>
      subst hrd
      obtain ⟨dd, h1, h2⟩ := hd e w (Act.mk T D).eval h.rl hop
      exact ⟨_, undef, dd :: D, w, e, .one (st_defer ho (hg e T hgr) hfr.1 h1), hp, undef_VR, h.rl, .refl _ _ _, .cons h2 h.dr⟩
  obtain ⟨v, v', D', w', e', q1, q2, q3, q4, q5, q6⟩ := way
  refine ⟨e', _, D', w', q1, ⟨hlt, fun p s' hp hs' hc => ?_, fun p s' hp hs' hd => ?_, fun i o1 ed hi ho1 he hb => ?_, q4, q6, fun i => ?_, fun p s' o' hp hs' hnd ho' => ?_, fun p q hpq hq => ?_, h.kpt.trans q5⟩⟩
  · rcases Nat.lt_or_ge p c with hpc | hpc
    · exact .inl (h.bef p s' hpc hs' hc)
    · have : p = c := by omega
      subst this
      rw [hs] at hs'; cases hs'
      exact .inr rfl
  · rcases hd with hd | hd
    · exact h.aft p s' (by omega) hs' hd
    · have := wf.inj p c s' s hs' hs hd
      omega
  · rcases hi with hi | hi
    · exact .inl (h.clo i o1 ed hi ho1 he hb)
    · subst hi; exact .inl (hrdy o1 ed ho1 he hb)
  · have old := h.slt i
    have lift : (S (c + 1)).t.get? i = (S c).t.get? i → (tput o.dst v' T)[i]? = T[i]? → (match (S (c + 1)).t.get? i with
        | some cv => ∃ v, (tput o.dst v' T)[i]? = some v ∧ ((∃ p s_1 o, p < c + 1 ∧ plan[p]? = some s_1 ∧ ¬ (done s_1.ix ∨ s_1.ix = s.ix) ∧ ops[s_1.ix]? = some o ∧ o.dst = some i) ∨ VR σ e' cv v)
        | none => (tput o.dst v' T)[i]? = none) := by
      intro he hT
      rw [he, hT]
      cases hg : (S c).t.get? i with
      | none => rw [hg] at old; exact old
      | some cv =>
        rw [hg] at old
        obtain ⟨u, h1, h2⟩ := old
        refine ⟨u, h1, h2.imp (fun ⟨q, s', o', a1, a2, a3, a4, a5⟩ => ⟨q, s', o', by omega, a2, fun hd => ?_, a4, a5⟩) (fun h => h.mono q5.ext)⟩
        rcases hd with hd | hd
        · exact a3 hd
        · have := wf.inj q c s' s a2 hs hd
          omega
    cases hdst : o.dst with
    | none =>
      rw [hdst] at q2 lift
      exact lift (by rw [show (S (c + 1)).t = (S c).t from q2]) rfl
    | some x =>
      have q2' := q2
      rw [hdst] at q2'
      by_cases hix : i = x
      · subst hix
        rw [put_same q2 hdst]
        obtain ⟨y, hy⟩ := q2'.1
        rw [hy] at old
        obtain ⟨u, hu, _⟩ := old
        have hlt : i < T.size := by
          rcases Nat.lt_or_ge i T.size with h | h
          · exact h
          · rw [Array.getElem?_eq_none h] at hu; cases hu
        exact ⟨v', by simp [tput, hlt], .inr q3⟩
      · rw [hdst] at lift
        exact lift (by rw [q2'.2, if_neg hix]) (Array.getElem?_setIfInBounds_ne (fun h => hix h.symm))
  · have hpc : p < c := by
      rcases Nat.lt_or_ge p c with hpc | hpc
      · exact hpc
      · have : p = c := by omega
        subst this
        rw [hs] at hs'; cases hs'
        exact absurd (.inr rfl) hnd
    have hnd' : ¬ done s'.ix := fun hd => hnd (.inl hd)
    have hrd := put_reads wf hs' hs ho' ho (by omega) q2
    rcases h.pnd p s' o' hpc hs' hnd' ho' with ⟨a1, a2⟩ | ⟨a1, a2⟩ | ⟨a1, v1, ncb1, a2, a3, a4, a5⟩
    · exact .inl ⟨a1.slots hrd, a2.slots hrd⟩
    · exact .inr <| .inl ⟨a1.slots hrd, fun x hx => by rw [put_other wf hs' hs ho' ho (by omega) q2 hx]; exact a2 x hx⟩
    · have hsf : s'.isCh = false := by
        cases hh : s'.isCh with
        | false => rfl
        | true => exact absurd (h.bef p s' hpc hs' hh) hnd'
      cases hlk : looks o'.op with
      | true =>
        obtain ⟨i, again, hsc⟩ : ∃ i again, s = .ch i again := by cases s <;> first | (cases hch; done) | exact ⟨_, _, rfl⟩
        subst hsc
        rcases wf.agn c p i again s' o' hs hs' hpc hsf ho' hlk with hin | han
        · obtain ⟨o2, ho2, hag⟩ := hagn i again rfl s'.ix hin
          rw [ho'] at ho2; cases ho2
          rcases hag with hg | ⟨hg, x, v2, hx, hvx, hfs⟩
          · exact .inl ⟨a1.slots hrd, hg⟩
          · refine .inr <| .inr ⟨hg, v2, none, hfs _, (fun h => by rw [hlk] at h; cases h), fun x' hx' => ?_, (fun cb hcb => by cases hcb)⟩
            rw [hx] at hx'; cases hx'; exact hvx
        · exact absurd (anc_done h.clo han hrdy) hnd'
      | false =>
        refine .inr <| .inr ⟨a1.slots hrd, v1, ncb1, (a3 hlk _).slots hrd, fun _ h' => (a3 hlk h').slots hrd, fun x hx => by rw [put_other wf hs' hs ho' ho (by omega) q2 hx]; exact a4 x hx, fun cb hcb => ?_⟩
        obtain ⟨b1, b2, b3, b4⟩ := a5 cb hcb
        obtain ⟨c1, c2⟩ := q5.unb _ b2 b4
        exact ⟨b1, Nat.lt_of_lt_of_le b2 q5.nle, by rw [c2]; exact b3, c1⟩
  · rcases Nat.lt_or_ge q (c + 1) with hq' | hq'
    · exact h.mon p q hpq (by omega)
    · have hqe : q = c + 1 := by omega
      subst hqe
      rcases Nat.lt_or_ge p (c + 1) with hp' | hp'
      · exact Nat.le_trans (h.mon p c (by omega) (Nat.le_refl _)) q5.nle
      · have : p = c + 1 := by omega
        subst this; exact Nat.le_refl _

end
end Go.Ev
