/- A verified evaluator for the model's code (part EvS): own work, of no program. -/
import Derived.Test.YtegokcjfjopdoaaGreatDoorEvR
namespace Go.Ev

section
variable {P : Program} {σ : Sg} {G : Nat → Bool}

def Put (dst : Option Tmp) (v : CV) (t t' : Tm) : Prop := match dst with
  | none => t' = t
  | some d => (∃ y, t.get? d = some y) ∧ ∀ j, t'.get? j = if j = d then some v else t.get? j
theorem putT_inv {dst : Option Tmp} {v : CV} {t : Tm} {k : Tm → Bool} (h : putT dst v t k = true) : ∃ t', k t' = true ∧ Put dst v t t' := by
  cases dst with
  | none => exact ⟨t, h, rfl⟩
  | some d =>
    obtain ⟨t', h1, h2, h3⟩ := setK_inv _ _ _ _ (show setK v t d k = true from h)
    exact ⟨t', h1, h2, h3⟩
theorem TR.put {e : Env} {t t' : Tm} {T : Array Value} {dst : Option Tmp} {c : CV} {v : Value} (h : TR σ e t T) (hv : VR σ e c v) (hp : Put dst c t t') : TR σ e t' (tput dst v T) := by
  cases dst with
  | none => rw [show t' = t from hp]; exact h
  | some d => exact h.set hv hp.1 hp.2

theorem TR.ops {e : Env} {t : Tm} {T : Array Value} {D : List Deferred} {m : M} {w : World} (h : TR σ e t T) (hR : RL σ G e m w) (x : Operand) (c : CV) (hx : OV G t x c) : VR σ e c ((Act.mk T D).eval x) := by
  cases x with
  | tmp i =>
    obtain ⟨v, hv, hr⟩ := h.get hx
    simpa [Act.eval, hv] using hr
  | const v => exact ofValue_VR hx
  | global g =>
    obtain ⟨hg, rfl⟩ := hx
    obtain ⟨p, hp, h1, h2⟩ := hR.glo g hg
    have := VR.ptr (σ := σ) (o := 0) hp
    rw [h1, h2] at this
    exact this
  | func f => rw [show c = _ from hx]; exact .fn f rfl rfl (fun i c v h => by simp at h) (fun i c v h => by simp at h)

/-- the guard's answer -/
def GuardSem (σ : Sg) (ops : Array Oper) (o : Oper) (t : Tm) (wnt : Bool) : Prop :=
  ∀ (e : Env) (T : Array Value), (∀ j want oj d c, o.guard = some (j, want) → ops[j]? = some oj → oj.dst = some d → t.get? d = some c → ∃ v, T[d]? = some v ∧ VR σ e c v) → Region.wanted o (yielded ops T) = wnt
theorem guardC_inv {ops : Array Oper} {o : Oper} {t : Tm} {k : Bool → Bool} (h : guardC ops o t k = true) : ∃ wnt, k wnt = true ∧ GuardSem σ ops o t wnt := by
  simp only [guardC] at h
  split at h
  · rename_i hg
    exact ⟨true, h, fun e T _ => by simp [Region.wanted, hg]⟩
  · rename_i j want hg
    split at h
    · rename_i oj hj
      split at h
      · rename_i d hd
        obtain ⟨c, hc, h1⟩ := getK_inv h
        have yl : ∀ {e : Env} {T : Array Value} {v : Value}, (∀ j want oj d c, o.guard = some (j, want) → ops[j]? = some oj → oj.dst = some d → t.get? d = some c → ∃ v, T[d]? = some v ∧ VR σ e c v) → VR σ e c v →
            (∀ u, VR σ e c u → u = v) → yielded ops T j = (match v with | .bool b => some b | _ => none) := by
          intro e T v hT hv hu
          obtain ⟨u, h1, h2⟩ := hT j want oj d c hg hj hd hc
          rw [hu u h2] at h1
          simp only [yielded, hj, Option.bind_some, hd, h1]
          cases v <;> rfl
        cases c <;> first | (cases h1; done) | skip
        · rename_i b
          have hw : ∀ {e : Env} {T : Array Value}, (∀ j want oj d c, o.guard = some (j, want) → ops[j]? = some oj → oj.dst = some d → t.get? d = some c → ∃ v, T[d]? = some v ∧ VR σ e c v) → Region.wanted o (yielded ops T) = (b == want) := by
            intro e T hT
            have := yl (v := .bool b) hT (.bool b) (fun u hu => by cases hu; rfl)
            simp [Region.wanted, hg, this]
          have h1' : k (b == want) = true := by cases want <;> cases b <;> exact h1
          exact ⟨_, h1', fun e T hT => hw hT⟩
        · rename_i vs
          cases vs with
          | nil =>
            refine ⟨false, h1, fun e T hT => ?_⟩
            have := yl (v := .tuple #[]) hT (.tup rfl (fun i c v h => by simp at h)) (fun u hu => by
              cases hu with
              | tup hl hv =>
                rename_i us
                obtain ⟨l⟩ := us
                cases l with
                | nil => rfl
                | cons x l => simp at hl)
            simp [Region.wanted, hg, this]
          | cons x vs => cases h1
      · cases h
    · cases h

/-- what an operation that acts does -/
def ActSem (P : Program) (σ : Sg) (G : Nat → Bool) (rd : Bool) (ops : Array Oper) (o : Oper) (t : Tm) (m : M) (v : CV) (m' : M) : Prop :=
  ∀ (e : Env) (w : World) (T : Array Value) (D : List Deferred) (b : Frame) (cs : List Frame) (i : Nat) (rest : List Nat) (k : List Item), RL σ G e m w → (∀ x, x ∈ o.op.operands → ∀ c, OV G t x c → VR σ e c ((Act.mk T D).eval x)) →
    FrOK rd b cs → ops[i]? = some o → Region.wanted o (yielded ops T) = true →
    ∃ v' w' e', Steps P (lone (fr b T D (.inRegion ops (i :: rest) :: k)) cs w) (lone (fr b (tput o.dst v' T) D (.inRegion ops rest :: k)) cs w') ∧ VR σ e' v v' ∧ RL σ G e' m' w' ∧ Kept e m w e' m' w'

theorem actSem_of {rd : Bool} {ops : Array Oper} {o : Oper} {t : Tm} {m m' : M} {v : CV} (hd : ∀ c, o.op ≠ .defer c)
    (h : ∀ (e : Env) (w : World) (ρ : Operand → Value), RL σ G e m w → (∀ x, x ∈ o.op.operands → ∀ c, OV G t x c → VR σ e c (ρ x)) →
      ∃ n w' e', (execOp ρ o).run P w = .ok n w' ∧ ((∃ v', n = .value v' ∧ VR σ e' v v') ∨ (n = .skip ∧ v = undefC)) ∧ RL σ G e' m' w' ∧ Kept e m w e' m' w') : ActSem P σ G rd ops o t m v m' := by
  intro e w T D b cs i rest k hR ho hf hi hw
  obtain ⟨n, w', e', h1, h2, h3, h4⟩ := h e w _ hR ho
  rcases h2 with ⟨v', rfl, hv⟩ | ⟨rfl, rfl⟩
  · exact ⟨v', w', e', .one (st_value hi hw (.inr hd) (.inl h1)), hv, h3, h4⟩
  · exact ⟨undef, w', e', .one (st_value hi hw (.inr hd) (.inr ⟨h1, rfl⟩)), .tup rfl (fun i c v h => by simp at h), h3, h4⟩

theorem actC_inv {call : CallFn} (hcall : SoundCall P σ G call) {rd : Bool} {ops : Array Oper} {o : Oper} {t : Tm} {m : M} {k : KA}
    (hrec : (match o.op, rd with | .call { callee := .builtin .recover, .. }, true => false | _, _ => true) = true) (hh : actC P G call o.op t m k = true) (hs : Sat σ m.tab) :
    ∃ v m', k v m' = true ∧ Sat σ m'.tab ∧ ActSem P σ G rd ops o t m v m' := by
  obtain ⟨dst, op, type, pos, after, guard⟩ := o
  have plain : (∀ c, op ≠ .defer c) → ActOK P σ G ⟨dst, op, type, pos, after, guard⟩ t m k → ∃ v m', k v m' = true ∧ Sat σ m'.tab ∧ ActSem P σ G rd ops ⟨dst, op, type, pos, after, guard⟩ t m v m' :=
    fun hd ⟨v, m', h1, h2, h3⟩ => ⟨v, m', h1, h2, actSem_of hd h3⟩
  cases op <;> try (cases hh; done)
  case store ty x y => exact plain (fun _ h => by cases h) (act_store hh hs)
  case mapUpdate ty x i y => exact plain (fun _ h => by cases h) (act_mapUpdate hh hs)
  case call c =>
    obtain ⟨callee, ⟨args⟩, ⟨ats⟩⟩ := c
    cases callee with
    | invoke r n => cases hh
    | value f =>
      obtain ⟨fv, hfv, h1⟩ := getO_inv (show getO G f t _ = true from hh)
      obtain ⟨as, hal, hav, h2⟩ := getOs_inv h1
      have argsR : ∀ {e : Env} {ρ : Operand → Value}, (∀ x, x ∈ (Op.call ⟨.value f, ⟨args⟩, ⟨ats⟩⟩).operands → ∀ c, OV G t x c → VR σ e c (ρ x)) → LR σ e as (args.map ρ) := fun ho =>
        getOs_LR hal hav (fun x hx c hc => ho x (by simp [Op.operands, Call.operands]; exact .inr hx) c hc)
      have goes : ∀ {v : CV} {m' : M} {e e' : Env} {w w' : World} {T : Array Value} {D : List Deferred} {b : Frame} {cs : List Frame} {i : Nat} {rest : List Nat} {kk : List Item} {s : Sem Next} {v' : Value},
          ops[i]? = some ⟨dst, .call ⟨.value f, ⟨args⟩, ⟨ats⟩⟩, type, pos, after, guard⟩ → Region.wanted ⟨dst, .call ⟨.value f, ⟨args⟩, ⟨ats⟩⟩, type, pos, after, guard⟩ (yielded ops T) = true →
          (execOp (Act.mk T D).eval ⟨dst, .call ⟨.value f, ⟨args⟩, ⟨ats⟩⟩, type, pos, after, guard⟩).run P w = s.run P w → CallGoes P .normal (fr b T D (.inRegion ops (i :: rest) :: kk)) cs s w v' w' →
          Steps P (lone (fr b T D (.inRegion ops (i :: rest) :: kk)) cs w) (lone (fr b (tput dst v' T) D (.inRegion ops rest :: kk)) cs w') := by
        intro v m' e e' w w' T D b cs i rest kk s v' hi hw hrun hg
        simp only [CallGoes] at hg
        split at hg
        · rename_i v1 w1 hr
          obtain ⟨rfl, rfl⟩ := hg
          exact .one (st_value hi hw (.inr (fun _ h => by cases h)) (.inl (hrun.trans hr)))
        · rename_i g as1 w1 hr
          refine .head (st_enter hi hw (.inr (fun _ h => by cases h)) (hrun.trans hr)) ?_
          have := hg
          simp only [backTo] at this
          rw [finish_fr hi] at this
          exact this
        · rename_i l g tm a1 b1 w1 hr
          refine .head (st_round hi hw (.inr (fun _ h => by cases h)) (hrun.trans hr)) ?_
          have := hg
          simp only [backTo] at this
          rw [finish_fr hi] at this
          exact this
        · exact hg.elim
      cases fv <;> simp only [] at h2 <;> first | (cases h2; done) | skip
      · rename_i fn first cap
        cases fn <;> simp only [] at h2 <;> first | (cases h2; done) | skip
        rename_i g
        obtain ⟨v, m', h3, h4, h5⟩ := hcall _ _ _ _ h2 hs
        refine ⟨v, m', h3, h4, fun e w T D b cs i rest kk hR ho hf hi hw => ?_⟩
        have hfr := ho f (by simp [Op.operands, Call.operands]) _ hfv
        generalize hfx : (Act.mk T D).eval f = fx at hfr
        cases hfr with
        | fn _ ha hb va vb =>
          rename_i fa fc
          have hargs := argsR ho
          have hall : LR σ e (first ++ as ++ cap) ((fa ++ (args.map (Act.mk T D).eval).toArray ++ fc).toList) := by
            have := (LR.append (LR.append ⟨ha, va⟩ hargs) ⟨hb, vb⟩)
            simpa using this
          obtain ⟨v', w', e', q1, q2, q3, q4⟩ := h5 e w (.func g) _ .normal (fr b T D (.inRegion ops (i :: rest) :: kk)) cs hR (.func g) hall (.inl rfl)
          refine ⟨v', w', e', goes (v := v) (m' := m') (e := e) (e' := e') hi hw ?_ q1, q2, q3, q4⟩
          simp [execOp, resolve, hfx, Deferred.ofValue, invoke, CallSem]
      · rename_i bl
        obtain ⟨v, m', h3, h4, h5⟩ := hcall _ _ _ _ h2 hs
        refine ⟨v, m', h3, h4, fun e w T D b cs i rest kk hR ho hf hi hw => ?_⟩
        have hfr := ho f (by simp [Op.operands, Call.operands]) _ hfv
        generalize hfx : (Act.mk T D).eval f = fx at hfr
        cases hfr with
        | @yld _ p hb =>
          have hargs := argsR ho
          obtain ⟨v', w', e', q1, q2, q3, q4⟩ := h5 e w (.yield p.r) (args.map (Act.mk T D).eval).toArray .normal (fr b T D (.inRegion ops (i :: rest) :: kk)) cs hR (.yield hb) (by simpa using hargs) (.inl rfl)
          refine ⟨v', w', e', goes (v := v) (m' := m') (e := e) (e' := e') hi hw ?_ q1, q2, q3, q4⟩
          simp [execOp, resolve, hfx, Deferred.ofValue, invoke, CallSem]
    | builtin bi =>
      cases bi <;> try (cases hh; done)
      · -- append
        simp only [actC] at hh
        split at hh
        · rename_i x y
          split at hh
          · rename_i tx ty
            split at hh
            · rename_i el he
              have hu := elemOfSl_inv he
              have fin : ∀ (str : Bool), strTy P str ty → (getO G x t fun v => getO G y t fun w => appendC P el str v w m k) = true →
                  ∃ v m', k v m' = true ∧ Sat σ m'.tab ∧ ActSem P σ G rd ops ⟨dst, .call ⟨.builtin .append, ⟨[x, y]⟩, ⟨[tx, ty]⟩⟩, type, pos, after, guard⟩ t m v m' := by
                intro str hst hg
                obtain ⟨cx, hcx, h1⟩ := getO_inv hg
                obtain ⟨cy, hcy, h2⟩ := getO_inv h1
                obtain ⟨v, m', h3, h4, h5⟩ := appendC_inv (σ := σ) (G := G) h2 hu hst
                refine ⟨v, m', h3, by rw [h4]; exact hs, actSem_of (fun _ h => by cases h) fun e w ρ hR ho => ?_⟩
                obtain ⟨v', w', e', q1, q2, q3, q4⟩ := h5 e w _ _ type hR (ho x (by simp [Op.operands, Call.operands]) _ hcx) (ho y (by simp [Op.operands, Call.operands]) _ hcy)
                exact ⟨.value v', w', e', by simp [execOp, resolve, invoke, builtin, q1], .inl ⟨v', rfl, q2⟩, q3, q4⟩
              split at hh
              · exact fin false ⟨_, by assumption⟩ hh
              · exact fin true (by assumption) hh
              · cases hh
            · cases hh
          · cases hh
        · cases hh
      · -- recover
        have hrd : rd = false := by cases rd; rfl; cases hrec
        subst hrd
        refine ⟨.ifc0, m, hh, hs, fun e w T D b cs i rest kk hR ho hf hi hw => ⟨.nilIface, w, e, .one ?_, .ifc0, hR, .refl _ _ _⟩⟩
        exact st_recover hi hw hf.1 (by simp [execOp, resolve, invoke, builtin]) (hf.norec _ _ _)

end
end Go.Ev
