/- A verified evaluator for the model's code (part EvD): own work, of no program. -/
import Derived.Test.YtdbhonkahlcdoaaGreatDoorEvC
import Derived.Orders
namespace Go.Ev

section
variable {P : Program} {σ : Sg} {G : Nat → Bool}

def NewM (m : M) (tab : Tab) (ncb : Option CB) (m' : M) : Prop := match ncb with
  | none => m' = ⟨m.h, m.n, tab⟩
  | some cb => m'.n = m.n + 1 ∧ m'.tab = tab ∧ (∀ j, m'.h.get? j = if j = m.n then some cb else m.h.get? j) ∧ m.h.get? m.n = none

def DefSem (P : Program) (σ : Sg) (G : Nat → Bool) (o : Oper) (t : Tm) (m : M) (df : DF) : Prop :=
  ∀ (e : Env) (w : World) (ρ : Operand → Value), RL σ G e m w → (∀ x, x ∈ o.op.operands → ∀ c, OV G t x c → VR σ e c (ρ x)) → ∃ dd, (execOp ρ o).run P w = .ok (.defer dd) w ∧ DR1 σ e df dd

inductive OperSem (P : Program) (σ : Sg) (G : Nat → Bool) (rd : Bool) (ops : Array Oper) (o : Oper) (t : Tm) (d : List DF) (m : M) : Tm → List DF → M → Prop
  | skip {t' : Tm} (hg : GuardSem σ ops o t false) (hp : Put o.dst undefC t t') : OperSem P σ G rd ops o t d m t' d m
  | fl {t' : Tm} {v : CV} {ncb : Option CB} {tab' : Tab} {m' : M} (hg : GuardSem σ ops o t true) (hf : isFloat o.op = true) (hs : FlSem P σ G o t m.h m.n v ncb) (hbl : looks P o.op = false → ∀ h', FlSem P σ G o t h' m.n v ncb) (hp : Put o.dst v t t') (hm : NewM m tab' ncb m') :
      OperSem P σ G rd ops o t d m t' d m'
  | act {t' : Tm} {v : CV} {m' : M} (hg : GuardSem σ ops o t true) (hf : isFloat o.op = false) (ha : ActSem P σ G rd ops o t m v m') (hp : Put o.dst v t t') : OperSem P σ G rd ops o t d m t' d m'
  | defer {t' : Tm} {df : DF} (hg : GuardSem σ ops o t true) (hf : isFloat o.op = false) (hrd : rd = false) (hd : DefSem P σ G o t m df) (hp : Put o.dst undefC t t') : OperSem P σ G rd ops o t d m t' (df :: d) m

theorem operC_inv {call : CallFn} (hcall : SoundCall P σ G call) {rd : Bool} {ops : Array Oper} {o : Oper} {t : Tm} {d : List DF} {m : M} {k : Tm → List DF → M → Bool} (hh : operC P G rd call ops o t d m k = true) (hs : Sat σ m.tab) :
    ∃ t' d' m', k t' d' m' = true ∧ Sat σ m'.tab ∧ OperSem P σ G rd ops o t d m t' d' m' := by
  obtain ⟨wnt, h1, hg⟩ := guardC_inv (σ := σ) hh
  cases wnt with
  | false =>
    obtain ⟨t', h2, hp⟩ := putT_inv (show putT o.dst undefC t (fun t' => k t' d m) = true from h1)
    exact ⟨t', d, m, h2, hs, .skip hg hp⟩
  | true =>
    simp only [] at h1
    split at h1
    · rename_i hf
      obtain ⟨v, ncb, tab', h2, hs', hsem, hbl⟩ : ∃ v ncb tab', (fun v nb tab => putT o.dst v t fun t' => match nb with
          | none => k t' d ⟨m.h, m.n, tab⟩
          | some cb => newB cb ⟨m.h, m.n, tab⟩ fun _ m' => k t' d m') v ncb tab' = true ∧ Sat σ tab' ∧ FlSem P σ G o t m.h m.n v ncb ∧ (looks P o.op = false → ∀ h', FlSem P σ G o t h' m.n v ncb) := by
        cases hlk : looks P o.op with
        | true =>
          obtain ⟨v, ncb, tab', a1, a2, a3⟩ := floatC_inv h1 hs
          exact ⟨v, ncb, tab', a1, a2, a3, fun h => by cases h⟩
        | false =>
          rw [floatC_blind hlk .nil] at h1
          obtain ⟨v, ncb, tab', a1, a2, a3⟩ := floatC_inv h1 hs
          have hall : ∀ h', FlSem P σ G o t h' m.n v ncb := fun h' => a3.mono fun e w _ b p cb _ hc => by have hn : (Tr.nil : Hp).get? b = none := get_nil b; rw [hn] at hc; cases hc
          exact ⟨v, ncb, tab', a1, a2, hall _, fun _ => hall⟩
      obtain ⟨t', h3, hp⟩ := putT_inv h2
      cases ncb with
      | none => exact ⟨t', d, _, h3, hs', .fl hg hf hsem hbl hp rfl⟩
      | some cb =>
        obtain ⟨h', h4, hh'⟩ := newB_inv (show newB cb ⟨m.h, m.n, tab'⟩ (fun _ m' => k t' d m') = true from h3)
        exact ⟨t', d, _, h4, hs', .fl hg hf hsem hbl hp ⟨rfl, rfl, hh', newB_fresh (m := ⟨m.h, m.n, tab'⟩) (show newB cb ⟨m.h, m.n, tab'⟩ (fun _ m' => k t' d m') = true from h3)⟩⟩
    · rename_i hf
      split at h1
      · rename_i c hop
        split at h1
        · cases h1
        · rename_i hrd
          split at h1
          · rename_i f hcal
            obtain ⟨fv, hfv, h2⟩ := getO_inv h1
            obtain ⟨as, hal, hav, h3⟩ := getOs_inv h2
            cases fv <;> simp only [] at h3 <;> first | (cases h3; done) | skip
            rename_i fn first cap
            cases fn <;> simp only [] at h3 <;> first | (cases h3; done) | skip
            rename_i g
            obtain ⟨t', h4, hp⟩ := putT_inv h3
            refine ⟨t', _, m, h4, hs, .defer hg hf rfl (fun e w ρ hR ho => ?_) hp⟩
            obtain ⟨dst, op, type, pos, after, guard⟩ := o
            obtain ⟨callee, ⟨args⟩, ats⟩ := c
            simp only at hop hcal
            subst hop
            subst hcal
            have hfr := ho f (by simp [Op.operands, Call.operands]) _ hfv
            generalize hfx : ρ f = fx at hfr
            cases hfr with
            | fn _ ha hb va vb =>
              rename_i fa fc
              have hargs : LR σ e as (args.map ρ) := getOs_LR hal hav (fun x hx c hc => ho x (by simp [Op.operands, Call.operands]; exact .inr hx) c hc)
              refine ⟨{ target := .fn (.func g) fc, args := fa ++ (args.map ρ).toArray }, ?_, .call g ?_ ⟨hb, vb⟩⟩
              · simp [execOp, resolve, hfx, Deferred.ofValue]
              · have := LR.append ⟨ha, va⟩ hargs
                simpa using this
          · cases h1
      · rename_i hnd
        rw [Bool.and_eq_true] at h1
        obtain ⟨v, m', h2, hs', ha⟩ := actC_inv hcall (rd := rd) (ops := ops) h1.1 h1.2 hs
        obtain ⟨t', h3, hp⟩ := putT_inv h2
        exact ⟨t', d, m', h3, hs', .act hg hf ha hp⟩

/-- the guard's slot, out of all slots -/
theorem TR.guard {e : Env} {t : Tm} {T : Array Value} (h : TR σ e t T) {ops : Array Oper} {o : Oper} : ∀ j want oj d c, o.guard = some (j, want) → ops[j]? = some oj → oj.dst = some d → t.get? d = some c → ∃ v, T[d]? = some v ∧ VR σ e c v :=
  fun _ _ _ _ _ _ _ _ hc => h.get hc

theorem undef_VR {e : Env} : VR σ e undefC undef := .tup rfl (fun i c v h => by simp at h)

theorem RL.tab {e : Env} {m : M} {w : World} (h : RL σ G e m w) (tab : Tab) : RL σ G e ⟨m.h, m.n, tab⟩ w := ⟨h.hr, h.dom, h.inj, h.bnd, h.glo, h.fix, h.pin⟩
theorem Kept.tab {e : Env} {m : M} {w : World} (tab : Tab) : Kept e m w e ⟨m.h, m.n, tab⟩ w :=
  ⟨.refl e, Nat.le_refl _, fun _ _ h => ⟨h, rfl⟩, Nat.le_refl _, fun _ _ _ => rfl, fun b p h hl => .inl ⟨b, p, h, hl, rfl⟩, rfl, rfl, rfl⟩

/-- one operation, all slots known -/
theorem OperSem.step {rd : Bool} {ops : Array Oper} {o : Oper} {t t' : Tm} {d d' : List DF} {m m' : M} (h : OperSem P σ G rd ops o t d m t' d' m') {e : Env} {w : World} {T : Array Value} {D : List Deferred} {b : Frame} {cs : List Frame}
    {i : Nat} {rest : List Nat} {k : List Item} (hR : RL σ G e m w) (hT : TR σ e t T) (hD : DR σ e d D) (hf : FrOK rd b cs) (hi : ops[i]? = some o) :
    ∃ T' D' w' e', Steps P (lone (fr b T D (.inRegion ops (i :: rest) :: k)) cs w) (lone (fr b T' D' (.inRegion ops rest :: k)) cs w') ∧ RL σ G e' m' w' ∧ TR σ e' t' T' ∧ DR σ e' d' D' ∧ Kept e m w e' m' w' := by
  cases h with
  | skip hg hp => exact ⟨_, D, w, e, .one (st_op_skip hi (hg e T hT.guard)), hR, hT.put undef_VR hp, hD, .refl _ _ _⟩
  | fl hg hfl hs _hbl hp hm =>
    rename_i v ncb tab'
    have hw := hg e T hT.guard
    have hnd : ∀ c, o.op ≠ .defer c := fun c hc => by rw [hc] at hfl; cases hfl
    have := hs e w (Act.mk T D).eval hR.hr hR.inj (fun x _ c hc => hT.ops hR x c hc)
    cases ncb with
    | none =>
      obtain ⟨v', h1, h2⟩ := this
      rw [show m' = _ from hm]
      exact ⟨_, D, w, e, .one (st_value hi hw (.inr hnd) (.inl h1)), hR.tab _, hT.put h2 hp, hD, .tab _⟩
    | some cb =>
      obtain ⟨v', obj, s, dr, h1, h2, h3⟩ := this
      obtain ⟨hm1, hm2, hm3, _⟩ := hm
      obtain ⟨mh, mn, mt⟩ := m'
      simp only at hm1 hm2 hm3
      subst hm1; subst hm2
      have hnew := (hR.tab mt).new (dr := dr) h2 hm3
      have hx : Ext e (e.up m.n ⟨w.heap.size, 0, s, true⟩) := Ext.up (hR.bnd _ (Nat.le_refl _))
      refine ⟨_, D, _, _, .one (st_value hi hw (.inr hnd) (.inl h1)), hnew.1, (hT.mono hx).put h3 hp, hD.mono hx, (Kept.tab mt).trans hnew.2⟩
  | act hg hfl ha hp =>
    obtain ⟨v', w', e', h1, h2, h3, h4⟩ := ha e w T D b cs i rest k hR (fun x _ c hc => hT.ops hR x c hc) hf hi (hg e T hT.guard)
    exact ⟨_, D, w', e', h1, h3, (hT.mono h4.ext).put h2 hp, hD.mono h4.ext, h4⟩
  | defer hg hfl hrd hd hp =>
    subst hrd
    obtain ⟨dd, h1, h2⟩ := hd e w (Act.mk T D).eval hR (fun x _ c hc => hT.ops hR x c hc)
    exact ⟨_, dd :: D, w, e, .one (st_defer hi (hg e T hT.guard) hf.1 h1), hR, hT.put undef_VR hp, .cons h2 hD, .refl _ _ _⟩

/-- an ordered region -/
theorem opsC_inv {call : CallFn} (hcall : SoundCall P σ G call) {rd : Bool} {ops : Array Oper} : ∀ {l : List Oper} {s : Nat}, (∀ n, l[n]? = ops[s + n]?) → ∀ {t : Tm} {d : List DF} {m : M} {K : Tm → List DF → M → Bool},
    opsC P G rd call ops l t d m K = true → Sat σ m.tab → ∃ t' d' m', K t' d' m' = true ∧ Sat σ m'.tab ∧ ∀ (e : Env) (w : World) (T : Array Value) (D : List Deferred) (b : Frame) (cs : List Frame) (k : List Item),
      RL σ G e m w → TR σ e t T → DR σ e d D → FrOK rd b cs → (l ≠ [] → s + l.length ≤ ops.size) →
      ∃ T' D' w' e', Steps P (lone (fr b T D (.inRegion ops (List.range' s l.length) :: k)) cs w) (lone (fr b T' D' (.inRegion ops [] :: k)) cs w') ∧ RL σ G e' m' w' ∧ TR σ e' t' T' ∧ DR σ e' d' D' ∧ Kept e m w e' m' w'
  | [], s, hl, t, d, m, K, hh, hs => ⟨t, d, m, hh, hs, fun e w T D b cs k hR hT hD hf _ => ⟨T, D, w, e, .refl _ _, hR, hT, hD, .refl _ _ _⟩⟩
  | o :: l, s, hl, t, d, m, K, hh, hs => by
    have ho : ops[s]? = some o := by have := hl 0; simpa using this.symm
    obtain ⟨t1, d1, m1, h1, hs1, sem⟩ := operC_inv hcall (show operC P G rd call ops o t d m (fun t d m => opsC P G rd call ops l t d m K) = true from hh) hs
    obtain ⟨t', d', m', h2, hs2, ih⟩ := opsC_inv hcall (l := l) (s := s + 1) (fun n => by have := hl (n + 1); rw [show s + 1 + n = s + (n + 1) by omega, ← this]; simp) h1 hs1
    refine ⟨t', d', m', h2, hs2, fun e w T D b cs k hR hT hD hf hsz => ?_⟩
    obtain ⟨T1, D1, w1, e1, g1, g2, g3, g4, g5⟩ := sem.step (rest := List.range' (s + 1) l.length) (k := k) hR hT hD hf ho
    obtain ⟨T', D', w', e', q1, q2, q3, q4, q5⟩ := ih e1 w1 T1 D1 b cs k g2 g3 g4 hf (fun _ => by have := hsz (by simp); simp at this; omega)
    exact ⟨T', D', w', e', by rw [List.length_cons, List.range'_succ]; exact g1.trans q1, q2, q3, q4, g5.trans q5⟩

end
end Go.Ev

namespace Go.Ev

section
variable {P : Program} {σ : Sg} {G : Nat → Bool}

def Land (x : CX) (k todo : List Item) : Prop := match x with
  | .normal => todo = k
  | .exit id => ∃ k'', todo = .code (.exit id) :: k'' ∧ exitTo id k'' = exitTo id k
  | .ret => ∃ k'', todo = .code .ret :: k''

def CodeOK (P : Program) (σ : Sg) (G : Nat → Bool) (fn : FuncId) (rd : Bool) (c : Code) (ev : EvCode) : Prop := ∀ t d m K, ev t d m K = true → Sat σ m.tab →
  ∃ x t' d' m', K x t' d' m' = true ∧ Sat σ m'.tab ∧ ∀ (e : Env) (w : World) (T : Array Value) (D : List Deferred) (b : Frame) (cs : List Frame) (k : List Item), RL σ G e m w → TR σ e t T → DR σ e d D → FrOK rd b cs → b.fn = fn →
    ∃ T' D' w' e' todo, Steps P (lone (fr b T D (.code c :: k)) cs w) (lone (fr b T' D' todo) cs w') ∧ Land x k todo ∧ RL σ G e' m' w' ∧ TR σ e' t' T' ∧ DR σ e' d' D' ∧ Kept e m w e' m' w'

/-- drawn regions: whatever the order -/
def DrawOK (P : Program) (σ : Sg) (G : Nat → Bool) (rd : Bool) (call : CallFn) : Prop := ∀ ops t d m K, isTrue (drawOk P ops) (planC P G rd call ops (planOf P ops) t d m K) = true → Sat σ m.tab →
  ∃ t' d' m', K t' d' m' = true ∧ Sat σ m'.tab ∧ ∀ (e : Env) (w : World) (T : Array Value) (D : List Deferred) (b : Frame) (cs : List Frame) (k : List Item) (q : Nat), RL σ G e m w → TR σ e t T → DR σ e d D → FrOK rd b cs →
    ∃ T' D' w' e', Steps P (lone (fr b T D (.inRegion ops (Region.schedule (P.follows .mixedOrders) ops q) :: k)) cs w) (lone (fr b T' D' (.inRegion ops [] :: k)) cs w') ∧ RL σ G e' m' w' ∧ TR σ e' t' T' ∧ DR σ e' d' D' ∧ Kept e m w e' m' w'

theorem RL.drawn {e : Env} {m : M} {w : World} (h : RL σ G e m w) (n : Nat) : RL σ G e m { w with drawn := n } := ⟨h.hr, h.dom, h.inj, h.bnd, h.glo, h.fix, h.pin⟩
theorem Kept.drawn {e : Env} {m : M} {w : World} (n : Nat) : Kept e m w e m { w with drawn := n } :=
  ⟨.refl e, Nat.le_refl _, fun _ _ h => ⟨h, rfl⟩, Nat.le_refl _, fun _ _ _ => rfl, fun b p h hl => .inl ⟨b, p, h, hl, rfl⟩, rfl, rfl, rfl⟩

theorem code_region {fn : FuncId} {rd : Bool} {call : CallFn} (hcall : SoundCall P σ G call) (hdraw : DrawOK P σ G rd call) (id : Nat) (ops : Array Oper) (draw : Bool) :
    CodeOK P σ G fn rd (.region id ops draw) (fun t d m k => match draw with
      | false => opsC P G rd call ops ops.toList t d m fun t d m => k .normal t d m
      | true => isTrue (drawOk P ops) (planC P G rd call ops (planOf P ops) t d m fun t d m => k .normal t d m)) := by
  intro t d m K hh hs
  cases draw with
  | false =>
    obtain ⟨t', d', m', h1, h2, h3⟩ := opsC_inv hcall (l := ops.toList) (s := 0) (fun n => by simp) (show opsC P G rd call ops ops.toList t d m (fun t d m => K .normal t d m) = true from hh) hs
    refine ⟨.normal, t', d', m', h1, h2, fun e w T D b cs k hR hT hD hf _ => ?_⟩
    obtain ⟨T', D', w', e', q1, q2, q3, q4, q5⟩ := h3 e w T D b cs k hR hT hD hf (fun _ => by simp)
    rw [show List.range' 0 ops.toList.length = List.range ops.size by simp [List.range_eq_range']] at q1
    exact ⟨T', D', w', e', k, .head st_region (q1.trans (.one st_region_end)), rfl, q2, q3, q4, q5⟩
  | true =>
    obtain ⟨t', d', m', h1, h2, h3⟩ := hdraw ops t d m _ (show isTrue (drawOk P ops) (planC P G rd call ops (planOf P ops) t d m (fun t d m => K .normal t d m)) = true from hh) hs
    refine ⟨.normal, t', d', m', h1, h2, fun e w T D b cs k hR hT hD hf _ => ?_⟩
    obtain ⟨T', D', w', e', q1, q2, q3, q4, q5⟩ := h3 e { w with drawn := w.drawn + 1 } T D b cs k (w.tape w.drawn (.order b.fn id)) (hR.drawn _) hT hD hf
    exact ⟨T', D', w', e', k, .head st_region_draw (q1.trans (.one st_region_end)), rfl, q2, q3, q4, (Kept.drawn _).trans q5⟩

theorem code_seq {fn : FuncId} {rd : Bool} {a b : Code} {ea eb : EvCode} (ha : CodeOK P σ G fn rd a ea) (hb : CodeOK P σ G fn rd b eb) :
    CodeOK P σ G fn rd (.seq a b) (fun t d m k => ea t d m fun x t d m => match x with
      | .normal => eb t d m k
      | .exit id => k (.exit id) t d m
      | .ret => k .ret t d m) := by
  intro t d m K hh hs
  obtain ⟨x, t1, d1, m1, h1, hs1, h2⟩ := ha t d m _ hh hs
  cases x with
  | normal =>
    obtain ⟨x, t2, d2, m2, h3, hs2, h4⟩ := hb t1 d1 m1 _ h1 hs1
    refine ⟨x, t2, d2, m2, h3, hs2, fun e w T D fb cs k hR hT hD hf hfn => ?_⟩
    obtain ⟨T1, D1, w1, e1, todo, q1, q2, q3, q4, q5, q6⟩ := h2 e w T D fb cs (.code b :: k) hR hT hD hf hfn
    rw [show todo = _ from q2] at q1
    obtain ⟨T2, D2, w2, e2, todo2, r1, r2, r3, r4, r5, r6⟩ := h4 e1 w1 T1 D1 fb cs k q3 q4 q5 hf hfn
    exact ⟨T2, D2, w2, e2, todo2, .head st_seq (q1.trans r1), r2, r3, r4, r5, q6.trans r6⟩
  | exit id =>
    refine ⟨.exit id, t1, d1, m1, h1, hs1, fun e w T D fb cs k hR hT hD hf hfn => ?_⟩
    obtain ⟨T1, D1, w1, e1, todo, q1, ⟨k'', hk1, hk2⟩, q3, q4, q5, q6⟩ := h2 e w T D fb cs (.code b :: k) hR hT hD hf hfn
    exact ⟨T1, D1, w1, e1, todo, .head st_seq q1, ⟨k'', hk1, by rw [hk2]; simp [exitTo]⟩, q3, q4, q5, q6⟩
  | ret =>
    refine ⟨.ret, t1, d1, m1, h1, hs1, fun e w T D fb cs k hR hT hD hf hfn => ?_⟩
    obtain ⟨T1, D1, w1, e1, todo, q1, q2, q3, q4, q5, q6⟩ := h2 e w T D fb cs (.code b :: k) hR hT hD hf hfn
    exact ⟨T1, D1, w1, e1, todo, .head st_seq q1, q2, q3, q4, q5, q6⟩

theorem code_cond {fn : FuncId} {rd : Bool} {c : Operand} {a b : Code} {ea eb : EvCode} (ha : CodeOK P σ G fn rd a ea) (hb : CodeOK P σ G fn rd b eb) :
    CodeOK P σ G fn rd (.cond c a b) (fun t d m k => getO G c t fun v => asBool v fun b' => match b' with | true => ea t d m k | false => eb t d m k) := by
  intro t d m K hh hs
  obtain ⟨cv, hcv, h1⟩ := getO_inv hh
  obtain ⟨bb, rfl, h2⟩ := asBool_inv h1
  have ev : ∀ {e : Env} {w : World} {T : Array Value} {D : List Deferred}, RL σ G e m w → TR σ e t T → (Act.mk T D).eval c = .bool bb := by
    intro e w T D hR hT
    have := hT.ops (D := D) hR c _ hcv
    generalize (Act.mk T D).eval c = y at this
    cases this; rfl
  cases bb with
  | true =>
    obtain ⟨x, t2, d2, m2, h3, hs2, h4⟩ := ha t d m K h2 hs
    refine ⟨x, t2, d2, m2, h3, hs2, fun e w T D fb cs k hR hT hD hf hfn => ?_⟩
    obtain ⟨T2, D2, w2, e2, todo2, r1, r2⟩ := h4 e w T D fb cs k hR hT hD hf hfn
    exact ⟨T2, D2, w2, e2, todo2, .head (st_cond (ev hR hT)) r1, r2⟩
  | false =>
    obtain ⟨x, t2, d2, m2, h3, hs2, h4⟩ := hb t d m K h2 hs
    refine ⟨x, t2, d2, m2, h3, hs2, fun e w T D fb cs k hR hT hD hf hfn => ?_⟩
    obtain ⟨T2, D2, w2, e2, todo2, r1, r2⟩ := h4 e w T D fb cs k hR hT hD hf hfn
    exact ⟨T2, D2, w2, e2, todo2, .head (st_cond (ev hR hT)) r1, r2⟩

theorem code_block {fn : FuncId} {rd : Bool} {id : Nat} {a : Code} {ea : EvCode} (ha : CodeOK P σ G fn rd a ea) :
    CodeOK P σ G fn rd (.block id a) (fun t d m k => ea t d m fun x t d m => match x with
      | .normal => k .normal t d m
      | .exit j => match Nat.beq j id with | true => k .normal t d m | false => k (.exit j) t d m
      | .ret => k .ret t d m) := by
  intro t d m K hh hs
  obtain ⟨x, t1, d1, m1, h1, hs1, h2⟩ := ha t d m _ hh hs
  cases x with
  | normal =>
    refine ⟨.normal, t1, d1, m1, h1, hs1, fun e w T D fb cs k hR hT hD hf hfn => ?_⟩
    obtain ⟨T1, D1, w1, e1, todo, q1, q2, q3, q4, q5, q6⟩ := h2 e w T D fb cs (.inBlock id :: k) hR hT hD hf hfn
    rw [show todo = _ from q2] at q1
    exact ⟨T1, D1, w1, e1, k, .head st_block (q1.trans (.one st_inBlock)), rfl, q3, q4, q5, q6⟩
  | exit j =>
    simp only [] at h1
    split at h1
    · rename_i hj
      have hj : j = id := by simpa using hj
      subst hj
      refine ⟨.normal, t1, d1, m1, h1, hs1, fun e w T D fb cs k hR hT hD hf hfn => ?_⟩
      obtain ⟨T1, D1, w1, e1, todo, q1, ⟨k'', hk1, hk2⟩, q3, q4, q5, q6⟩ := h2 e w T D fb cs (.inBlock j :: k) hR hT hD hf hfn
      rw [hk1] at q1
      exact ⟨T1, D1, w1, e1, k, .head st_block (q1.trans (.one (st_exit (by rw [hk2]; simp [exitTo])))), rfl, q3, q4, q5, q6⟩
    · rename_i hj
      refine ⟨.exit j, t1, d1, m1, h1, hs1, fun e w T D fb cs k hR hT hD hf hfn => ?_⟩
      obtain ⟨T1, D1, w1, e1, todo, q1, ⟨k'', hk1, hk2⟩, q3, q4, q5, q6⟩ := h2 e w T D fb cs (.inBlock id :: k) hR hT hD hf hfn
      have hne : (id == j) = false := by
        cases hb : (id == j) with
        | false => rfl
        | true => have : id = j := by simpa using hb
                  subst this; simp at hj
      exact ⟨T1, D1, w1, e1, todo, .head st_block q1, ⟨k'', hk1, by rw [hk2]; simp [exitTo, hne]⟩, q3, q4, q5, q6⟩
  | ret =>
    refine ⟨.ret, t1, d1, m1, h1, hs1, fun e w T D fb cs k hR hT hD hf hfn => ?_⟩
    obtain ⟨T1, D1, w1, e1, todo, q1, q2, q3, q4, q5, q6⟩ := h2 e w T D fb cs (.inBlock id :: k) hR hT hD hf hfn
    exact ⟨T1, D1, w1, e1, todo, .head st_block q1, q2, q3, q4, q5, q6⟩

theorem code_loop {fn : FuncId} {rd : Bool} {a : Code} {ea : EvCode} (ha : CodeOK P σ G fn rd a ea) (fuel : Nat) : CodeOK P σ G fn rd (.loop a) (loopC ea fuel) := by
  have key : ∀ (fuel : Nat) t d m K, loopC ea fuel t d m K = true → Sat σ m.tab →
      ∃ x t' d' m', K x t' d' m' = true ∧ Sat σ m'.tab ∧ ∀ (e : Env) (w : World) (T : Array Value) (D : List Deferred) (b : Frame) (cs : List Frame) (k : List Item), RL σ G e m w → TR σ e t T → DR σ e d D → FrOK rd b cs → b.fn = fn →
        ∃ T' D' w' e' todo, Steps P (lone (fr b T D (.code a :: .inLoop a :: k)) cs w) (lone (fr b T' D' todo) cs w') ∧ Land x k todo ∧ RL σ G e' m' w' ∧ TR σ e' t' T' ∧ DR σ e' d' D' ∧ Kept e m w e' m' w' := by
    intro fuel
    induction fuel with
    | zero => intro t d m K hh; cases hh
    | succ n ih =>
      intro t d m K hh hs
      obtain ⟨x, t1, d1, m1, h1, hs1, h2⟩ := ha t d m (fun x t d m => match x with
        | .normal => loopC ea n t d m K
        | .exit id => K (.exit id) t d m
        | .ret => K .ret t d m) hh hs
      cases x with
      | normal =>
        obtain ⟨x, t2, d2, m2, h3, hs2, h4⟩ := ih t1 d1 m1 K h1 hs1
        refine ⟨x, t2, d2, m2, h3, hs2, fun e w T D fb cs k hR hT hD hf hfn => ?_⟩
        obtain ⟨T1, D1, w1, e1, todo, q1, q2, q3, q4, q5, q6⟩ := h2 e w T D fb cs (.inLoop a :: k) hR hT hD hf hfn
        rw [show todo = _ from q2] at q1
        obtain ⟨T2, D2, w2, e2, todo2, r1, r2, r3, r4, r5, r6⟩ := h4 e1 w1 T1 D1 fb cs k q3 q4 q5 hf hfn
        exact ⟨T2, D2, w2, e2, todo2, q1.trans (.head st_inLoop r1), r2, r3, r4, r5, q6.trans r6⟩
      | exit id =>
        refine ⟨.exit id, t1, d1, m1, h1, hs1, fun e w T D fb cs k hR hT hD hf hfn => ?_⟩
        obtain ⟨T1, D1, w1, e1, todo, q1, ⟨k'', hk1, hk2⟩, q3, q4, q5, q6⟩ := h2 e w T D fb cs (.inLoop a :: k) hR hT hD hf hfn
        exact ⟨T1, D1, w1, e1, todo, q1, ⟨k'', hk1, by rw [hk2]; simp [exitTo]⟩, q3, q4, q5, q6⟩
      | ret =>
        refine ⟨.ret, t1, d1, m1, h1, hs1, fun e w T D fb cs k hR hT hD hf hfn => ?_⟩
        obtain ⟨T1, D1, w1, e1, todo, q1, q2, q3, q4, q5, q6⟩ := h2 e w T D fb cs (.inLoop a :: k) hR hT hD hf hfn
        exact ⟨T1, D1, w1, e1, todo, q1, q2, q3, q4, q5, q6⟩
  intro t d m K hh hs
  obtain ⟨x, t', d', m', h1, h2, h3⟩ := key fuel t d m K hh hs
  refine ⟨x, t', d', m', h1, h2, fun e w T D fb cs k hR hT hD hf hfn => ?_⟩
  obtain ⟨T2, D2, w2, e2, todo2, r1, r2⟩ := h3 e w T D fb cs k hR hT hD hf hfn
  exact ⟨T2, D2, w2, e2, todo2, .head st_loop r1, r2⟩

/-! Ranges over functions -/
theorem st_rangeFunc {b : Frame} {T : Array Value} {d : List Deferred} {k : List Item} {cs : List Frame} {w : World} {f : Operand} {ps : Array Tmp} {a c : Code} {g : FuncId} {first cap : Array Value} {fn : Func} {cb : Code}
    (hb : b.roundOf = none) (hf : (Act.mk T d).eval f = .func (.func g) first cap) (hg : P.funcs[g]? = some fn) (hbody : fn.body = some cb) (hng : (fn.name == "runtime.NumGoroutine") = false) :
    step P (lone (fr b T d (.code (.rangeFunc f ps a c) :: k)) cs w) = .next (lone (Frame.enter P g (first ++ #[.func (.yield (w.heap.size + 1)) #[] #[]] ++ cap) .normal)
      (fr b T ({ target := .collected w.heap.size, args := #[] } :: d) (.inRangeFunc (w.heap.size + 1) :: k) :: cs)
      { w with heap := (w.heap.push (.deferred (some []))).push (.loop { state := .ready, pending := none, fn := b.fn, tmps := T, params := ps, assign := a, body := c, defers := w.heap.size }) }) := by
  refine step_lone_go ?_
  have he := fr_eval' b T ({ target := .collected w.heap.size, args := #[] } :: d) (.inRangeFunc (w.heap.size + 1) :: k)
  have he2 : (Act.mk T ({ target := .collected w.heap.size, args := #[] } :: d)).eval f = .func (.func g) first cap := by cases f <;> exact hf
  simp only [fr, hb] at he
  have hng' : ¬ fn.name = "runtime.NumGoroutine" := by simpa using hng
  have hk : ∀ v, (Act.mk T ({ target := .collected w.heap.size, args := #[] } :: d)).eval (.const v) = v := fun v => rfl
  simp [stepG, stepG.exec, fr, hb, Instr.enterLoop, stepG.apply, resolve, he, he2, hk, Deferred.ofValue, invoke, callFunc, hg, hbody, hng']
  rfl

theorem st_endRange {b : Frame} {T : Array Value} {d : List Deferred} {k : List Item} {cs : List Frame} {w : World} {l : Nat} {r : Loop} (hl : w.heap[l]? = some (.loop r)) (hb : r.state ≠ .busy) :
    step P (lone (fr b T d (.endRangeFunc l :: k)) cs w) = .next (lone (fr b T d ((r.pending.map Item.code).toList ++ k)) cs { w with heap := w.heap.setIfInBounds l (.loop { r with state := .exhausted }) }) := by
  refine step_lone_go ?_
  simp [stepG, stepG.exec, fr, Instr.endLoop, Instr.getLoop, getObj, setObj, Sem.run, hl, hb]

end
end Go.Ev

namespace Go.Ev

section
variable {P : Program} {σ : Sg} {G : Nat → Bool}

/-- no function of the program is the one that counts goroutines -/
def NoCount (P : Program) : Prop := ∀ (f : FuncId) (fn : Func), P.funcs[f]? = some fn → (fn.name == "runtime.NumGoroutine") = false

theorem callFunc_body (hng : NoCount P) {g : FuncId} {fn : Func} {cb : Code} (hg : P.funcs[g]? = some fn) (hb : fn.body = some cb) (vs : Array Value) (w : World) : (callFunc g vs).run P w = .ok (.enter g vs) w := by
  have hng' : ¬ fn.name = "runtime.NumGoroutine" := by simpa using hng g fn hg
  simp [callFunc, hg, hb, hng']

/-- setting an object that is no row -/
theorem set_heap (w : World) (r : Nat) (hr : r < w.heap.size) (obj : Obj) (x : Nat) : ({ w with heap := w.heap.setIfInBounds r obj } : World).heap[x]? = if x = r then some obj else w.heap[x]? := by
  show (w.heap.setIfInBounds r obj)[x]? = _
  by_cases hz : x = r
  · subst hz; simp [hr]
  · rw [Array.getElem?_setIfInBounds_ne (fun h => hz h.symm), if_neg hz]

theorem HR.loop {e : Env} {h : Hp} {w : World} (hr : HR σ e h w) {b : Nat} {p : Place} (hb : e b = some p) {st : LoopState} {pend : Option Code} {fn : FuncId} {tm : Tr CV} {ps : Array Tmp} {a c : Code} {db : Nat}
    (hc : h.get? b = some (.loop st pend fn tm ps a c db)) : p.live = true ∧ ∃ T pl, w.heap[p.r]? = some (.loop { state := st, pending := pend, fn, tmps := T, params := ps, assign := a, body := c, defers := pl.r }) ∧ TR σ e tm T ∧ e db = some pl := by
  have := hr b p _ hb hc
  split at this
  · rename_i hl
    obtain ⟨o, h2, h3⟩ := this
    cases h3 with
    | loop ht hd => exact ⟨hl, _, _, h2, ht, hd⟩
  · cases this

theorem code_rangeFunc {fn : FuncId} {rd : Bool} {call : CallFn} (hng : NoCount P) (hcall : SoundCall P σ G call) (f : Operand) (ps : Array Tmp) (a b : Code) :
    CodeOK P σ G fn rd (.rangeFunc f ps a b) (fun t d m k => match rd with
      | true => false
      | false => getO G f t fun fv => match fv with
        | .fn f first cap => match f with
          | .func f => isTrue (match P.funcs[f]? with | some fn => fn.body.isSome | none => false) <| newB (.dfd true) m fun db m => newB (.loop .ready none fn t ps a b db) m fun l m =>
            call (.func f) (first ++ [.yld l] ++ cap) m fun _ m => getK m.h l fun cb => match cb with
              | .loop st pend fn t' ps a b db' => match st with
                | .busy => false
                | _ => setK (.loop .exhausted pend fn t' ps a b db') m.h l fun h' => pendK pend fun x => k x t (.coll db :: d) ⟨h', m.n, m.tab⟩
              | _ => false
          | _ => false
        | _ => false) := by
  intro t d m K hh hs
  cases rd with
  | true => cases hh
  | false =>
    obtain ⟨fv, hfv, h1⟩ := getO_inv (show getO G f t _ = true from hh)
    cases fv <;> simp only [] at h1 <;> first | (cases h1; done) | skip
    rename_i g first cap
    cases g <;> simp only [] at h1 <;> first | (cases h1; done) | skip
    rename_i g
    obtain ⟨hbd, h2⟩ := isTrue_inv h1
    obtain ⟨fn0, cb0, hg, hbody⟩ : ∃ fn0 cb0, P.funcs[g]? = some fn0 ∧ fn0.body = some cb0 := by
      cases hfg : P.funcs[g]? with
      | none => rw [hfg] at hbd; cases hbd
      | some fn0 =>
        rw [hfg] at hbd
        obtain ⟨cb0, hcb⟩ := Option.isSome_iff_exists.1 hbd
        exact ⟨fn0, cb0, rfl, hcb⟩
    obtain ⟨h1', h3, hh1⟩ := newB_inv h2
    obtain ⟨h2', h4, hh2⟩ := newB_inv h3
    obtain ⟨v, m3, h5, hs3, h6⟩ := hcall _ _ _ _ h4 hs
    obtain ⟨cb, hcb, h7⟩ := getK_inv h5
    cases cb <;> simp only [] at h7 <;> first | (cases h7; done) | skip
    rename_i st pend fn1 t1 ps1 a1 b1 db1
    have hst : st ≠ .busy := fun h => by subst h; cases h7
    obtain ⟨h3', h8, hh3⟩ : ∃ h3' : Hp, pendK pend (fun x => K x t (.coll m.n :: d) ⟨h3', m3.n, m3.tab⟩) = true ∧ ∀ j, h3'.get? j = if j = m.n + 1 then some (.loop .exhausted pend fn1 t1 ps1 a1 b1 db1) else m3.h.get? j := by
      cases st <;> first | exact absurd rfl hst | (obtain ⟨h', q1, _, q2⟩ := setK_inv _ _ _ _ h7; exact ⟨h', q1, q2⟩)
    -- the real run
    have run : ∀ (e : Env) (w : World) (T : Array Value) (D : List Deferred) (fb : Frame) (cs : List Frame) (k : List Item), RL σ G e m w → TR σ e t T → DR σ e d D → FrOK false fb cs → fb.fn = fn →
        ∃ D' w' e', Steps P (lone (fr fb T D (.code (.rangeFunc f ps a b) :: k)) cs w) (lone (fr fb T D' ((pend.map Item.code).toList ++ k)) cs w') ∧ RL σ G e' ⟨h3', m3.n, m3.tab⟩ w' ∧ TR σ e' t T ∧ DR σ e' (.coll m.n :: d) D' ∧ Kept e m w e' ⟨h3', m3.n, m3.tab⟩ w' := by
      intro e w T D fb cs k hR hT hD hf hfn
      have hfr := hT.ops (D := D) hR f _ hfv
      generalize hfx : (Act.mk T D).eval f = fx at hfr
      cases hfr with
      | fn _ ha hb va vb =>
        rename_i fa fc
        -- the block of deferred calls
        obtain ⟨hR1, hK1⟩ := hR.new (dr := w.drawn) (s := 0) (cb := .dfd true) (obj := .deferred (some [])) .dfdT hh1
        have hx1 := hK1.ext
        -- the loop's block
        have hdb : (e.up m.n ⟨w.heap.size, 0, 0, true⟩) m.n = some ⟨w.heap.size, 0, 0, true⟩ := Env.up_same _ _ _
        obtain ⟨hR2, hK2⟩ := hR1.new (dr := w.drawn) (s := 0) (cb := .loop .ready none fn t ps a b m.n) (obj := .loop { state := .ready, pending := none, fn := fb.fn, tmps := T, params := ps, assign := a, body := b, defers := w.heap.size })
          (by rw [hfn]; exact .loop (pl := ⟨w.heap.size, 0, 0, true⟩) (hT.mono hx1) hdb) hh2
        have hx2 := hK2.ext
        have hl : ((e.up m.n ⟨w.heap.size, 0, 0, true⟩).up (m.n + 1) ⟨w.heap.size + 1, 0, 0, true⟩) (m.n + 1) = some ⟨w.heap.size + 1, 0, 0, true⟩ := Env.up_same _ _ _
        have hsz : (w.heap.push (Obj.deferred (some []))).size = w.heap.size + 1 := by simp
        simp only [hsz] at hR2 hK2 hx2
        have hx := hx1.trans hx2
        have hall : LR σ ((e.up m.n ⟨w.heap.size, 0, 0, true⟩).up (m.n + 1) ⟨w.heap.size + 1, 0, 0, true⟩) (first ++ [.yld (m.n + 1)] ++ cap) (fa ++ #[Value.func (.yield (w.heap.size + 1)) #[] #[]] ++ fc).toList := by
          have := LR.append (LR.append ((show LR σ e first fa.toList from ⟨ha, va⟩).mono hx) (LR.cons (VR.yld hl) .nil)) ((show LR σ e cap fc.toList from ⟨hb, vb⟩).mono hx)
          simpa using this
        obtain ⟨v', w3, e3, q1, q2, q3, q4⟩ := h6 _ _ (.func g) (fa ++ #[.func (.yield (w.heap.size + 1)) #[] #[]] ++ fc) .normal (fr fb T ({ target := .collected w.heap.size, args := #[] } :: D) (.inRangeFunc (w.heap.size + 1) :: k)) cs hR2 (.func g) hall (.inl rfl)
        simp only [CallGoes, CallSem, callFunc_body hng hg hbody] at q1
        have hfin : backTo .normal (fr fb T ({ target := .collected w.heap.size, args := #[] } :: D) (.inRangeFunc (w.heap.size + 1) :: k)) v' = fr fb T ({ target := .collected w.heap.size, args := #[] } :: D) (.endRangeFunc (w.heap.size + 1) :: k) := rfl
        rw [hfin] at q1
        -- behind the call
        obtain ⟨pl3, hl3, hpr, hpd, hps, _⟩ := q4.ext _ _ hl
        obtain ⟨hlive, T1, pdb, hw3, hT1, hdb3⟩ := q3.hr.loop hl3 hcb
        rw [hpr] at hw3
        simp only at hw3
        have hlt : w.heap.size + 1 < w3.heap.size := by have := q3.lt hl3 hlive; rw [hpr] at this; exact this
        obtain ⟨hR4, hK4⟩ := q3.put (w' := { w3 with heap := w3.heap.setIfInBounds (w.heap.size + 1) (.loop { state := .exhausted, pending := pend, fn := fn1, tmps := T1, params := ps1, assign := a1, body := b1, defers := pdb.r }) }) hl3 hlive (cb := .loop .exhausted pend fn1 t1 ps1 a1 b1 db1) (obj := .loop { state := .exhausted, pending := pend, fn := fn1, tmps := T1, params := ps1, assign := a1, body := b1, defers := pdb.r })
          (.loop hT1 hdb3) hh3 (by rw [hpr]; exact set_heap w3 (w.heap.size + 1) hlt _) rfl rfl rfl
        have hxx := hx.trans q4.ext
        -- the deferred calls' block is still the same
        obtain ⟨pdb', hd', hdr, _⟩ := (hx2.trans q4.ext) _ _ hdb
        refine ⟨{ target := .collected w.heap.size, args := #[] } :: D, _, e3, ?_, hR4, hT.mono hxx, .cons ?_ (hD.mono hxx), ((hK1.trans hK2).trans q4).trans hK4⟩
        · refine .head (st_rangeFunc hf.1 hfx hg hbody (hng g fn0 hg)) (q1.trans (.one ?_))
          exact st_endRange hw3 hst
        · have := DR1.coll (σ := σ) hd'
          rw [hdr] at this
          exact this
    cases pend with
    | none =>
      refine ⟨.normal, t, _, _, h8, hs3, fun e w T D fb cs k hR hT hD hf hfn => ?_⟩
      obtain ⟨D', w', e', q1, q2, q3, q4, q5⟩ := run e w T D fb cs k hR hT hD hf hfn
      exact ⟨T, D', w', e', k, q1, rfl, q2, q3, q4, q5⟩
    | some c =>
      cases c <;> simp only [pendK] at h8 <;> first | (cases h8; done) | skip
      · rename_i id
        refine ⟨.exit id, t, _, _, h8, hs3, fun e w T D fb cs k hR hT hD hf hfn => ?_⟩
        obtain ⟨D', w', e', q1, q2, q3, q4, q5⟩ := run e w T D fb cs k hR hT hD hf hfn
        exact ⟨T, D', w', e', _, q1, ⟨k, rfl, rfl⟩, q2, q3, q4, q5⟩
      · refine ⟨.ret, t, _, _, h8, hs3, fun e w T D fb cs k hR hT hD hf hfn => ?_⟩
        obtain ⟨D', w', e', q1, q2, q3, q4, q5⟩ := run e w T D fb cs k hR hT hD hf hfn
        exact ⟨T, D', w', e', _, q1, ⟨k, rfl⟩, q2, q3, q4, q5⟩

theorem codeC_ok {call : CallFn} (hng : NoCount P) (hcall : SoundCall P σ G call) (hdraw : ∀ rd, DrawOK P σ G rd call) (fn : FuncId) (rd : Bool) (fuel : Nat) (c : Code) : CodeOK P σ G fn rd c (codeC P G fn rd call fuel c) := by
  have one : ∀ (x : CX) (c : Code), (∀ (e : Env) (w : World) (m : M) (T : Array Value) (D : List Deferred) (b : Frame) (cs : List Frame) (k : List Item), ∃ todo, Steps P (lone (fr b T D (.code c :: k)) cs w) (lone (fr b T D todo) cs w) ∧ Land x k todo) →
      CodeOK P σ G fn rd c (fun t d m k => k x t d m) := by
    intro x c h t d m K hh hs
    refine ⟨x, t, d, m, hh, hs, fun e w T D b cs k hR hT hD hf _ => ?_⟩
    obtain ⟨todo, h1, h2⟩ := h e w m T D b cs k
    exact ⟨T, D, w, e, todo, h1, h2, hR, hT, hD, .refl _ _ _⟩
  have no : ∀ c, CodeOK P σ G fn rd c (fun _ _ _ _ => false) := fun c t d m K hh => by cases hh
  induction c with
  | skip => exact one .normal .skip fun e w m T D b cs k => ⟨k, .one st_skip, rfl⟩
  | region id ops draw => exact code_region hcall (hdraw rd) id ops draw
  | seq a b iha ihb => exact code_seq iha ihb
  | cond c a b iha ihb => exact code_cond iha ihb
  | block id a iha => exact code_block iha
  | loop a iha => exact code_loop iha fuel
  | rangeFunc f ps a b _ _ => exact code_rangeFunc hng hcall f ps a b
  | exit id => exact one (.exit id) (.exit id) fun e w m T D b cs k => ⟨_, .refl _ _, k, rfl, rfl⟩
  | scope c _ => exact no _
  | label l => exact one .normal (.label l) fun e w m T D b cs k => ⟨k, .one st_label, rfl⟩
  | goto l => exact no _
  | ret => exact one .ret .ret fun e w m T D b cs k => ⟨_, .refl _ _, k, rfl⟩
  | refuse s => exact no _

end
end Go.Ev

namespace Go.Ev

section
variable {P : Program} {σ : Sg} {G : Nat → Bool}

/-- a frame that returns -/
def rf (b : Frame) (T : Array Value) (d : List Deferred) (todo : List Item) : Frame := { fr b T d todo with mode := .returning }

theorem setArgs_inv : ∀ {as : List CV} {i : Nat} {t : Tm} {k : Tm → Bool}, setArgs as i t k = true → ∃ t', k t' = true ∧ (∀ j, j < as.length → ∃ y, t.get? (i + j) = some y) ∧ ∀ j, t'.get? j = if i ≤ j ∧ j < i + as.length then as[j - i]? else t.get? j
  | [], i, t, k, h => ⟨t, h, (fun j hj => by simp at hj), (fun j => by rw [if_neg (by simp)])⟩
  | a :: as, i, t, k, h => by
    obtain ⟨t1, h1, ⟨y, hy⟩, h2⟩ := setK_inv _ _ _ _ (show setK a t i (fun t' => setArgs as (i + 1) t' k) = true from h)
    obtain ⟨t', h3, h4, h5⟩ := setArgs_inv h1
    refine ⟨t', h3, fun j hj => ?_, fun j => ?_⟩
    · cases j with
      | zero => exact ⟨y, hy⟩
      | succ j =>
        obtain ⟨z, hz⟩ := h4 j (by simpa using hj)
        rw [h2, if_neg (by omega)] at hz
        exact ⟨z, by rwa [show i + (j + 1) = i + 1 + j by omega]⟩
    · rw [h5, h2]
      by_cases hj : i ≤ j ∧ j < i + (a :: as).length
      · rw [if_pos hj]
        simp only [List.length_cons] at hj
        by_cases h0 : j = i
        · subst h0; rw [if_neg (by omega)]; simp
        · rw [if_pos (by omega)]
          have : j - i = (j - (i + 1)) + 1 := by omega
          rw [this]; simp
      · rw [if_neg hj]
        simp only [List.length_cons] at hj
        rw [if_neg (by omega), if_neg (by omega)]

theorem entry_TR {e : Env} {args : List CV} {vs : Array Value} {n : Nat} {t : Tm} (hv : LR σ e args vs.toList) (hin : ∀ j, j < args.length → ∃ y, (blank n).get? (0 + j) = some y)
    (ht : ∀ j, t.get? j = if 0 ≤ j ∧ j < 0 + args.length then args[j - 0]? else (blank n).get? j) : TR σ e t (vs ++ Array.replicate (n - vs.size) undef) := by
  have hb : ∀ j, (blank n).get? j = if j < n then some undefC else none := by
    intro j
    rw [blank, ofList_get, List.getElem?_replicate]
  have hlen : args.length = vs.size := by simpa using hv.1
  have hle : args.length ≤ n := by
    rcases Nat.eq_zero_or_pos args.length with h | h
    · omega
    · obtain ⟨y, hy⟩ := hin (args.length - 1) (by omega)
      rw [hb] at hy
      split at hy
      · omega
      · cases hy
  intro j
  rw [ht, hb]
  by_cases h1 : j < args.length
  · rw [if_pos (by omega)]
    have hc : args[j - 0]? = some args[j] := by simp [List.getElem?_eq_getElem h1]
    rw [hc]
    obtain ⟨v, h2, h3⟩ := hv.get (List.getElem?_eq_getElem h1)
    exact ⟨v, by rw [Array.getElem?_append_left (by omega)]; simpa using h2, h3⟩
  · rw [if_neg (by omega)]
    by_cases h2 : j < n
    · rw [if_pos h2]
      refine ⟨undef, ?_, undef_VR⟩
      rw [Array.getElem?_append_right (by omega), Array.getElem?_replicate, if_pos (by omega)]
    · rw [if_neg h2]
      exact Array.getElem?_eq_none (by simp; omega)

theorem resultsC_inv : ∀ {rs : List ResultVar} {t : Tm} {m : M} {k : List CV → Bool}, resultsC P rs t m k = true → ∃ vs, k vs = true ∧ ∀ {e : Env} {w : World} {T : Array Value}, HR σ e m.h w → TR σ e t T →
    ∃ us, (rs.mapM (fun r => match r with | .tmp i => pure (T.getD i undef) | .cell a ty => do loadVar ty (← asAddr (T.getD a undef)) : ResultVar → Sem Value)).run P w = .ok us w ∧ LR σ e vs us
  | [], t, m, k, h => ⟨[], h, fun {e w T} _ _ => ⟨[], by simp, .nil⟩⟩
  | r :: rs, t, m, k, h => by
    cases r with
    | tmp i =>
      obtain ⟨v, hv, h1⟩ := getK_inv (show getK t i (fun v => resultsC P rs t m fun vs => k (v :: vs)) = true from h)
      obtain ⟨vs, h2, h3⟩ := resultsC_inv h1
      refine ⟨v :: vs, h2, fun {e w T} hr hT => ?_⟩
      obtain ⟨us, h4, h5⟩ := h3 hr hT
      obtain ⟨u, hu, hvr⟩ := hT.get hv
      have hgd : T.getD i undef = u := by simp [hu]
      exact ⟨u :: us, by simp only [List.mapM_cons, Sem.run_bind, Sem.run_pure, Result.andThen_ok, hgd, h4], .cons hvr h5⟩
    | cell a ty =>
      obtain ⟨v, hv, h1⟩ := getK_inv (show getK t a (fun v => asPtr v fun b off => loadC P ty b off m.h fun v => resultsC P rs t m fun vs => k (v :: vs)) = true from h)
      obtain ⟨b, off, rfl, h2⟩ := asPtr_inv h1
      obtain ⟨c, h3, h4⟩ := loadC_inv h2
      obtain ⟨vs, h5, h6⟩ := resultsC_inv h3
      refine ⟨c :: vs, h5, fun {e w T} hr hT => ?_⟩
      obtain ⟨us, h7, h8⟩ := h6 hr hT
      obtain ⟨u, hu, hvr⟩ := hT.get hv
      cases hvr with
      | @ptr _ _ p hp =>
        obtain ⟨z, h9, h10⟩ := h4 hr _ hp
        refine ⟨z :: us, ?_, .cons h10 h8⟩
        have hgd : T.getD a undef = .pointer (some ⟨p.r, off + p.d, none⟩) := by simp [hu]
        have hadr : (Go.asAddr (.pointer (some ⟨p.r, off + p.d, none⟩))).run P w = .ok ⟨p.r, off + p.d, none⟩ w := rfl
        simp only [List.mapM_cons, Sem.run_bind, Sem.run_pure, Result.andThen_ok, hgd, hadr, h9, h7]

/-- the value that a call hands back -/
def oneOr (vs : List CV) : CV := match vs with | [v] => v | vs => .tup vs
theorem results_run {fn : Func} {t : Tm} {m : M} {k : List CV → Bool} (h : resultsC P fn.results.toList t m k = true) : ∃ vs, k vs = true ∧ ∀ {e : Env} {w : World} {T : Array Value}, HR σ e m.h w → TR σ e t T →
    ∃ v, (results fn T).run P w = .ok v w ∧ VR σ e (oneOr vs) v := by
  obtain ⟨vs, h1, h2⟩ := resultsC_inv (σ := σ) h
  refine ⟨vs, h1, fun {e w T} hr hT => ?_⟩
  obtain ⟨us, h3, h4⟩ := h2 hr hT
  have hm : (fn.results.mapM (fun r => match r with | .tmp i => pure (T.getD i undef) | .cell a ty => do loadVar ty (← asAddr (T.getD a undef)) : ResultVar → Sem Value)).run P w = .ok us.toArray w := by
    rw [Array.mapM_eq_mapM_toList, Sem.run_map, h3]; rfl
  have hrun : (results fn T).run P w = .ok (if h : us.toArray.size = 1 then us.toArray[0] else .tuple us.toArray) w := by
    have hdef : results fn T = (fn.results.mapM (fun r => match r with | .tmp i => pure (T.getD i undef) | .cell a ty => do loadVar ty (← asAddr (T.getD a undef)) : ResultVar → Sem Value) >>= fun vs => pure (if h : vs.size = 1 then vs[0] else .tuple vs)) := rfl
    rw [hdef, Sem.run_bind, hm]
    rfl
  refine ⟨_, hrun, ?_⟩
  match us, vs, h4 with
  | [], [], h4 => exact .tup rfl (fun i c v h => by simp at h)
  | [u], [c], h4 => simpa [oneOr] using h4.2 0 c u (by simp) (by simp)
  | u :: u' :: us, c :: c' :: vs, h4 => simpa [oneOr] using VR.tup (vs := (u :: u' :: us).toArray) h4.1 h4.2
  | [], _ :: _, h4 => exact absurd h4.1 (by simp)
  | _ :: _, [], h4 => exact absurd h4.1 (by simp)
  | [u], c :: c' :: vs, h4 => exact absurd h4.1 (by simp)
  | u :: u' :: us, [c], h4 => exact absurd h4.1 (by simp)

/-- a deferred call -/
theorem st_deferCall {b : Frame} {T : Array Value} {ds : List Deferred} {todo : List Item} {cs : List Frame} {w w' : World} {g : FuncId} {args cap : Array Value} {v' : Value}
    (hg : CallGoes P .deferred (rf b T ds todo) cs (CallSem (.func g) (args ++ cap)) w v' w') :
    Steps P (lone (rf b T ({ target := .fn (.func g) cap, args := args } :: ds) todo) cs w) (lone (rf b T ds todo) cs w') := by
  simp only [CallGoes, CallSem] at hg
  split at hg
  · rename_i v1 w1 hr
    obtain ⟨rfl, rfl⟩ := hg
    refine .one (step_lone_go ?_)
    simp [stepG, rf, fr, unwind, callDeferred, invoke, hr]
  · rename_i f as1 w1 hr
    refine .head (step_lone_go (fr' := Frame.enter P f as1 .deferred) (cs' := rf b T ds todo :: cs) (w' := w1) ?_) hg
    simp [stepG, rf, fr, unwind, callDeferred, invoke, hr]
  · rename_i l f tm a1 b1 w1 hr
    refine .head (step_lone_go (fr' := Frame.round l f tm a1 b1 .deferred) (cs' := rf b T ds todo :: cs) (w' := w1) ?_) hg
    simp [stepG, rf, fr, unwind, callDeferred, invoke, hr]
  · exact hg.elim
theorem st_collected {b : Frame} {T : Array Value} {ds : List Deferred} {todo : List Item} {cs : List Frame} {w : World} {r : Nat} (h : w.heap[r]? = some (.deferred (some []))) :
    step P (lone (rf b T ({ target := .collected r, args := #[] } :: ds) todo) cs w) = .next (lone (rf b T ds todo) cs { w with heap := w.heap.setIfInBounds r (.deferred none) }) := by
  refine step_lone_go ?_
  simp [stepG, rf, fr, unwind, Instr.takeDeferred, getObj, setObj, Sem.run, h]

theorem defersC_inv {call : CallFn} (hcall : SoundCall P σ G call) : ∀ {ds : List DF} {m : M} {k : M → Bool}, defersC call ds m k = true → Sat σ m.tab → ∃ m', k m' = true ∧ Sat σ m'.tab ∧
    ∀ (e : Env) (w : World) (D : List Deferred) (b : Frame) (T : Array Value) (todo : List Item) (cs : List Frame), RL σ G e m w → DR σ e ds D →
      ∃ w' e', Steps P (lone (rf b T D todo) cs w) (lone (rf b T [] todo) cs w') ∧ RL σ G e' m' w' ∧ Kept e m w e' m' w'
  | [], m, k, h, hs => ⟨m, h, hs, fun e w D b T todo cs hR hD => by cases hD; exact ⟨w, e, .refl _ _, hR, .refl _ _ _⟩⟩
  | x :: ds, m, k, h, hs => by
    cases x with
    | call f args cap =>
      obtain ⟨v, m1, h1, hs1, h2⟩ := hcall _ _ _ _ (show call f (args ++ cap) m (fun _ m => defersC call ds m k) = true from h) hs
      obtain ⟨m', h3, hs2, h4⟩ := defersC_inv hcall h1 hs1
      refine ⟨m', h3, hs2, fun e w D b T todo cs hR hD => ?_⟩
      cases hD with
      | cons hx hD' =>
        cases hx with
        | call g q1 q2 =>
          rename_i ys vs us
          obtain ⟨v', w1, e1, r1, r2, r3, r4⟩ := h2 e w (.func g) (vs ++ us) .deferred (rf b T ys todo) cs hR (.func g) (by simpa using q1.append q2) (.inr ⟨rfl, rfl, g, rfl⟩)
          obtain ⟨w', e', s1, s2, s3⟩ := h4 e1 w1 ys b T todo cs r3 (hD'.mono r4.ext)
          exact ⟨w', e', (st_deferCall r1).trans s1, s2, r4.trans s3⟩
    | coll bl =>
      obtain ⟨cb, hcb, h1⟩ := getK_inv (show getK m.h bl _ = true from h)
      cases cb <;> first | (cases h1; done) | skip
      rename_i bb
      cases bb
      · cases h1
      obtain ⟨h', h2, _, hh'⟩ := setK_inv _ _ _ _ h1
      obtain ⟨m', h3, hs2, h4⟩ := defersC_inv hcall h2 hs
      refine ⟨m', h3, hs2, fun e w D b T todo cs hR hD => ?_⟩
      cases hD with
      | cons hx hD' =>
        cases hx with
        | @coll _ p hb =>
          rename_i ys
          have := hR.hr _ _ _ hb hcb
          split at this
          · rename_i hl
            obtain ⟨o, g2, g3⟩ := this
            cases g3
            obtain ⟨hR1, hK1⟩ := hR.put (w' := { w with heap := w.heap.setIfInBounds p.r (.deferred none) }) hb hl (cb := .dfd false) (obj := .deferred none) .dfdF hh' (set_heap w p.r (hR.lt hb hl) _) rfl rfl rfl
            obtain ⟨w', e', s1, s2, s3⟩ := h4 e _ ys b T todo cs hR1 hD'
            exact ⟨w', e', .head (st_collected g2) s1, s2, hK1.trans s3⟩
          · cases this

end
end Go.Ev

namespace Go.Ev

section
variable {P : Program} {σ : Sg} {G : Nat → Bool}

theorem st_leave {b : Frame} {T : Array Value} {d : List Deferred} {cs : List Frame} {w : World} (hb : b.roundOf = none) : step P (lone (fr b T d []) cs w) = .next (lone (rf b T d []) cs w) :=
  step_lone_go (by simp [stepG, stepG.exec, fr, rf, hb])
theorem st_ret' {b : Frame} {T : Array Value} {d : List Deferred} {k : List Item} {cs : List Frame} {w : World} (hb : b.roundOf = none) : step P (lone (fr b T d (.code .ret :: k)) cs w) = .next (lone (rf b T d (.code .ret :: k)) cs w) :=
  step_lone_go (by simp [stepG, stepG.exec, fr, rf, hb])
theorem st_return {b c : Frame} {T : Array Value} {todo : List Item} {cs : List Frame} {w : World} {fn : Func} {v : Value} (hf : P.funcs[b.fn]? = some fn) (hr : (results fn T).run P w = .ok v w)
    (hk : b.kind = .normal ∨ (b.kind = .deferred ∧ c.mode = .returning)) : step P (lone (rf b T [] todo) (c :: cs) w) = .next (lone (backTo b.kind c v) cs w) := by
  refine step_lone_go ?_
  rcases hk with hk | ⟨hk, hm⟩
  · simp [stepG, rf, fr, unwind, hf, hr, doReturn, hk, backTo]
  · simp [stepG, rf, fr, unwind, hf, hr, doReturn, hk, hm, backTo]

/-- functions without a Go body -/
def ExtOK (P : Program) (σ : Sg) : Prop := ∀ (f : FuncId) (fn : Func) (args : List CV) (m : M) (k : KA), P.funcs[f]? = some fn → fn.body = none → extC fn.name args m k = true →
  ∃ v, k v m = true ∧ ∀ (e : Env) (w : World) (vs : Array Value), LR σ e args vs.toList → ∃ v', (callFunc f vs).run P w = .ok (.value v') w ∧ VR σ e v v'

theorem call_func {call : CallFn} (hng : NoCount P) (hext : ExtOK P σ) (hcall : SoundCall P σ G call) (hdraw : ∀ rd, DrawOK P σ G rd call) {fuel : Nat} {f : FuncId} {args : List CV} {m : M} {k : KA}
    (hh : (match P.funcs[f]? with
      | some fn => match fn.body with
        | some c => setArgs args 0 (blank fn.ntmps) fun t => codeC P G f false call fuel c t [] m fun x t d m => match x with
          | .exit _ => false
          | _ => defersC call d m fun m => resultsC P fn.results.toList t m fun vs => match vs with
            | [v] => k v m
            | vs => k (.tup vs) m
        | none => extC fn.name args m k
      | none => false) = true) (hs : Sat σ m.tab) :
    ∃ v m', k v m' = true ∧ Sat σ m'.tab ∧ ∀ (e : Env) (w : World) (f' : Fn) (vs : Array Value) (kd : CallKind) (c : Frame) (cs : List Frame), RL σ G e m w → FnR e (.func f) f' → LR σ e args vs.toList → KindOK (.func f) kd c →
      ∃ v' w' e', CallGoes P kd c cs (CallSem f' vs) w v' w' ∧ VR σ e' v v' ∧ RL σ G e' m' w' ∧ Kept e m w e' m' w' := by
  split at hh
  · rename_i fn hfn
    split at hh
    · rename_i cb hbody
      obtain ⟨t, h1, hin, ht⟩ := setArgs_inv hh
      obtain ⟨x, t1, d1, m1, h2, hs1, h3⟩ := codeC_ok hng hcall hdraw f false fuel cb t [] m _ h1 hs
      have h2' : (defersC call d1 m1 fun m => resultsC P fn.results.toList t1 m fun vs => match vs with
            | [v] => k v m
            | vs => k (.tup vs) m) = true ∧ x ≠ .exit 0 ∧ ∀ id, x ≠ .exit id := by
        cases x with
        | normal => exact ⟨h2, by simp, by simp⟩
        | exit id => cases h2
        | ret => exact ⟨h2, by simp, by simp⟩
      obtain ⟨m2, h4, hs2, h5⟩ := defersC_inv hcall h2'.1 hs1
      obtain ⟨vs, h6, h7⟩ := results_run (P := P) (σ := σ) (fn := fn) h4
      have h6' : k (oneOr vs) m2 = true := by
        match vs, h6 with
        | [], h6 => exact h6
        | [v], h6 => exact h6
        | v :: v' :: vs, h6 => exact h6
      refine ⟨oneOr vs, m2, h6', hs2, fun e w f' us kd c cs hR hf hv hk => ?_⟩
      cases hf
      have hkd : kd = .normal ∨ (kd = .deferred ∧ c.mode = .returning) := hk.imp id (fun h => ⟨h.1, h.2.1⟩)
      let b : Frame := { fn := f, tmps := #[], todo := [], defers := [], mode := .run, kind := kd }
      have henter : Frame.enter P f us kd = fr b (us ++ Array.replicate (fn.ntmps - us.size) undef) [] [.code cb] := by
        simp [Frame.enter, fr, hfn, hbody, b]
      have hfo : FrOK false b (c :: cs) := ⟨rfl, hkd.imp id (fun h => ⟨h.1, c, cs, rfl, .inl h.2⟩)⟩
      obtain ⟨T1, D1, w1, e1, todo, q1, q2, q3, q4, q5, q6⟩ := h3 e w _ [] b (c :: cs) [] hR (entry_TR hv hin ht) .nil hfo rfl
      have hret : ∃ todo', Steps P (lone (fr b T1 D1 todo) (c :: cs) w1) (lone (rf b T1 D1 todo') (c :: cs) w1) := by
        cases x with
        | normal => rw [show todo = [] from q2]; exact ⟨_, .one (st_leave rfl)⟩
        | exit id => exact absurd rfl (h2'.2.2 id)
        | ret => obtain ⟨k'', rfl⟩ := q2; exact ⟨_, .one (st_ret' rfl)⟩
      obtain ⟨todo', hst⟩ := hret
      obtain ⟨w2, e2, r1, r2, r3⟩ := h5 e1 w1 D1 b T1 todo' (c :: cs) q3 q5
      obtain ⟨v, s1, s2⟩ := h7 r2.hr (q4.mono r3.ext)
      refine ⟨v, w2, e2, ?_, s2, r2, q6.trans r3⟩
      simp only [CallGoes, CallSem, callFunc_body hng hfn hbody]
      rw [henter]
      exact q1.trans (hst.trans (r1.trans (.one (st_return (b := b) hfn s1 hkd))))
    · rename_i hbody
      obtain ⟨v, h1, h2⟩ := hext f fn args m k hfn hbody hh
      refine ⟨v, m, h1, hs, fun e w f' us kd c cs hR hf hv hk => ?_⟩
      cases hf
      obtain ⟨v', q1, q2⟩ := h2 e w us hv
      exact ⟨v', w, e, by simp [CallGoes, CallSem, q1], q2, hR, .refl _ _ _⟩
  · cases hh

/-! Rounds of a range over a function -/
theorem setPs_inv : ∀ {ps : List Nat} {as : List CV} {t : Tm} {k : Tm → Bool}, setPs ps as t k = true → ∃ t', k t' = true ∧ ps.length = as.length ∧ ∀ {e : Env} {T : Array Value} {vs : List Value}, TR σ e t T → LR σ e as vs →
    TR σ e t' ((ps.zip vs).foldl (fun T (x : Nat × Value) => T.setIfInBounds x.1 x.2) T)
  | [], as, t, k, h => by
    cases as with
    | nil => exact ⟨t, h, rfl, fun {e T vs} hT _ => by simpa using hT⟩
    | cons a as => cases h
  | p :: ps, as, t, k, h => by
    cases as with
    | nil => cases h
    | cons a as =>
      obtain ⟨t1, h1, hy, h2⟩ := setK_inv _ _ _ _ (show setK a t p (fun t' => setPs ps as t' k) = true from h)
      obtain ⟨t', h3, h4, h5⟩ := setPs_inv h1
      refine ⟨t', h3, by simp [h4], fun {e T vs} hT hv => ?_⟩
      obtain ⟨v, vs', rfl, hv1, hv2⟩ := hv.cons_inv
      simp only [List.zip_cons_cons, List.foldl_cons]
      exact h5 (hT.set hv1 hy h2) hv2

theorem st_begin {b : Frame} {T : Array Value} {d : List Deferred} {k : List Item} {cs : List Frame} {w : World} {l : Nat} {r : Loop} (hb : b.roundOf = some l) (hl : w.heap[l]? = some (.loop r)) (hr : r.state = .ready) :
    step P (lone (fr b T d (.beginRound :: k)) cs w) = .next (lone (fr b T d k) cs { w with heap := w.heap.setIfInBounds l (.loop { r with state := .busy }) }) := by
  refine step_lone_go ?_
  simp [stepG, stepG.exec, fr, hb, stepG.apply, Instr.beginRound, Instr.getLoop, getObj, setObj, Sem.run, hl, hr, Frame.finish]

theorem st_endRound {b c : Frame} {T : Array Value} {d : List Deferred} {todo : List Item} {cs : List Frame} {w : World} {l : Nat} {r : Loop} {jump : Option Code} (hb : b.roundOf = some l) (hk : b.kind = .normal) (hl : w.heap[l]? = some (.loop r))
    (hj : (jump = none ∧ todo = []) ∨ (∃ k, jump = some .ret ∧ todo = .code .ret :: k) ∨ (∃ id k, jump = some (.exit id) ∧ todo = .code (.exit id) :: k ∧ exitTo id k = none)) :
    step P (lone (fr b T d todo) (c :: cs) w) = .next (lone (c.finish (.bool jump.isNone)) cs { w with heap := w.heap.setIfInBounds l (.loop { r with state := if jump.isNone then .ready else .done, pending := jump }) }) := by
  refine step_lone_go ?_
  rcases hj with ⟨rfl, rfl⟩ | ⟨k, rfl, rfl⟩ | ⟨id, k, rfl, rfl, he⟩
  · simp [stepG, stepG.exec, fr, hb, hk, Instr.endRound, Instr.getLoop, getObj, setObj, Sem.run, hl, doReturn]
  · simp [stepG, stepG.exec, fr, hb, hk, Instr.endRound, Instr.getLoop, getObj, setObj, Sem.run, hl, doReturn]
  · simp [stepG, stepG.exec, fr, hb, hk, Instr.endRound, Instr.getLoop, getObj, setObj, Sem.run, hl, doReturn, he]

theorem call_yield {call : CallFn} (hng : NoCount P) (hcall : SoundCall P σ G call) (hdraw : ∀ rd, DrawOK P σ G rd call) {fuel : Nat} {l : Nat} {args : List CV} {m : M} {k : KA}
    (hh : (getK m.h l fun cb => match cb with
      | .loop st _ fn tm ps assign body _ => match st with
        | .ready => setPs ps.toList args tm fun t => codeC P G fn true call fuel assign t [] m fun x t d m => match x with
          | .normal => getK m.h l fun cb => match cb with
            | .loop st pend fn' tm' ps' a' b' db' => match st with
              | .ready => setK (.loop .busy pend fn' tm' ps' a' b' db') m.h l fun h' => codeC P G fn true call fuel body t d ⟨h', m.n, m.tab⟩ fun x _ _ m => endRd l x m k
              | _ => false
            | _ => false
          | _ => false
        | _ => false
      | _ => false) = true) (hs : Sat σ m.tab) :
    ∃ v m', k v m' = true ∧ Sat σ m'.tab ∧ ∀ (e : Env) (w : World) (f' : Fn) (vs : Array Value) (kd : CallKind) (c : Frame) (cs : List Frame), RL σ G e m w → FnR e (.yield l) f' → LR σ e args vs.toList → KindOK (.yield l) kd c →
      ∃ v' w' e', CallGoes P kd c cs (CallSem f' vs) w v' w' ∧ VR σ e' v v' ∧ RL σ G e' m' w' ∧ Kept e m w e' m' w' := by
  obtain ⟨cb, hcb, h1⟩ := getK_inv hh
  cases cb <;> simp only [] at h1 <;> first | (cases h1; done) | skip
  rename_i st pend0 fn tm ps assign body db0
  cases st <;> simp only [] at h1 <;> first | (cases h1; done) | skip
  obtain ⟨t, h2, hpl, hset⟩ := setPs_inv (σ := σ) h1
  obtain ⟨x, t1, d1, m1, h3, hs1, h4⟩ := codeC_ok hng hcall hdraw fn true fuel assign t [] m _ h2 hs
  cases x <;> simp only [] at h3 <;> first | (cases h3; done) | skip
  obtain ⟨cb, hcb1, h5⟩ := getK_inv h3
  cases cb <;> simp only [] at h5 <;> first | (cases h5; done) | skip
  rename_i st pend fn1 tm1 ps1 a1 b1 db1
  cases st <;> simp only [] at h5 <;> first | (cases h5; done) | skip
  obtain ⟨h', h6, _, hh'⟩ := setK_inv _ _ _ _ h5
  obtain ⟨x, t2, d2, m2, h7, hs2, h8⟩ := codeC_ok hng hcall hdraw fn true fuel body t1 d1 _ _ h6 hs1
  obtain ⟨cb, hcb2, h9⟩ := getK_inv h7
  cases cb <;> simp only [] at h9 <;> first | (cases h9; done) | skip
  rename_i st2 pend2 fn2 tm2 ps2 a2 b2 db2
  -- how it ends
  obtain ⟨jump, h3', h10, hh3, hjx⟩ : ∃ (jump : Option Code) (h3' : Hp), k (.bool jump.isNone) ⟨h3', m2.n, m2.tab⟩ = true ∧ (∀ j, h3'.get? j = if j = l then some (.loop (if jump.isNone then .ready else .done) jump fn2 tm2 ps2 a2 b2 db2) else m2.h.get? j) ∧
      ∀ todo, Land x [] todo → (jump = none ∧ todo = []) ∨ (∃ k, jump = some .ret ∧ todo = .code .ret :: k) ∨ (∃ id k, jump = some (.exit id) ∧ todo = .code (.exit id) :: k ∧ exitTo id k = none) := by
    cases x with
    | normal =>
      obtain ⟨h', q1, _, q2⟩ := setK_inv _ _ _ _ h9
      exact ⟨none, h', q1, q2, fun todo h => .inl ⟨rfl, h⟩⟩
    | exit id =>
      obtain ⟨h', q1, _, q2⟩ := setK_inv _ _ _ _ h9
      exact ⟨some (.exit id), h', q1, q2, fun todo ⟨k, hk1, hk2⟩ => .inr (.inr ⟨id, k, rfl, hk1, hk2⟩)⟩
    | ret =>
      obtain ⟨h', q1, _, q2⟩ := setK_inv _ _ _ _ h9
      exact ⟨some .ret, h', q1, q2, fun todo ⟨k, hk1⟩ => .inr (.inl ⟨k, rfl, hk1⟩)⟩
  refine ⟨_, _, h10, hs2, fun e w f' vs kd c cs hR hf hv hk => ?_⟩
  cases hf with
  | @yield _ p hb =>
    have hkd : kd = .normal := by
      rcases hk with h | ⟨_, _, g, hg⟩
      · exact h
      · cases hg
    subst hkd
    obtain ⟨hlive, T0, pl, hw, hT0, hdb⟩ := hR.hr.loop hb hcb
    have hlen : vs.size = ps.size := by have := hv.1; simp at this; have h2 := hpl; simp at h2; omega
    have hrun : (Instr.yield p.r vs).run P w = .ok (.round p.r fn ((ps.zip vs).foldl (fun tmps (x : Nat × Value) => tmps.setIfInBounds x.1 x.2) T0) assign body) w := by
      simp [Instr.yield, Instr.getLoop, getObj, Sem.run, hw, hlen]
    have hTr : TR σ e t ((ps.zip vs).foldl (fun tmps (x : Nat × Value) => tmps.setIfInBounds x.1 x.2) T0) := by
      have := hset hT0 hv
      rw [← Array.foldl_toList, Array.toList_zip]
      exact this
    let b : Frame := { fn := fn, tmps := #[], todo := [], defers := [], mode := .run, kind := .normal, roundOf := some p.r }
    have hround : ∀ T, Frame.round p.r fn T assign body .normal = fr b T [] [.code assign, .beginRound, .code body] := fun T => rfl
    have hfo : FrOK true b (c :: cs) := ⟨p.r, rfl⟩
    obtain ⟨T1, D1, w1, e1, todo1, q1, q2, q3, q4, q5, q6⟩ := h4 e w _ [] b (c :: cs) [.beginRound, .code body] hR hTr .nil hfo rfl
    rw [show todo1 = _ from q2] at q1
    obtain ⟨p1, hb1, hr1, _⟩ := q6.ext _ _ hb
    obtain ⟨hlive1, T1', pl1, hw1, hT1', hdb1⟩ := q3.hr.loop hb1 hcb1
    rw [hr1] at hw1
    have hlt1 : p.r < w1.heap.size := by have := q3.lt hb1 hlive1; rw [hr1] at this; exact this
    obtain ⟨hR2, hK2⟩ := q3.put (w' := { w1 with heap := w1.heap.setIfInBounds p.r (.loop { state := .busy, pending := pend, fn := fn1, tmps := T1', params := ps1, assign := a1, body := b1, defers := pl1.r }) }) hb1 hlive1
      (cb := .loop .busy pend fn1 tm1 ps1 a1 b1 db1) (.loop hT1' hdb1) hh' (by rw [hr1]; exact set_heap w1 p.r hlt1 _) rfl rfl rfl
    obtain ⟨T2, D2, w2, e2, todo2, r1, r2, r3, r4, r5, r6⟩ := h8 e1 _ T1 D1 b (c :: cs) [] hR2 q4 q5 hfo rfl
    obtain ⟨p2, hb2, hr2, _⟩ := r6.ext _ _ hb1
    obtain ⟨hlive2, T2', pl2, hw2, hT2', hdb2⟩ := r3.hr.loop hb2 hcb2
    rw [hr2, hr1] at hw2
    have hlt2 : p.r < w2.heap.size := by have := r3.lt hb2 hlive2; rw [hr2, hr1] at this; exact this
    obtain ⟨hR3, hK3⟩ := r3.put (w' := { w2 with heap := w2.heap.setIfInBounds p.r (.loop { state := if jump.isNone then .ready else .done, pending := jump, fn := fn2, tmps := T2', params := ps2, assign := a2, body := b2, defers := pl2.r }) }) hb2 hlive2
      (cb := .loop (if jump.isNone then .ready else .done) jump fn2 tm2 ps2 a2 b2 db2) (.loop hT2' hdb2) hh3 (by rw [hr2, hr1]; exact set_heap w2 p.r hlt2 _) rfl rfl rfl
    refine ⟨.bool jump.isNone, _, e2, ?_, .bool _, hR3, ((q6.trans hK2).trans r6).trans hK3⟩
    simp only [CallGoes, CallSem, hrun, hround, backTo]
    exact q1.trans (.head (st_begin rfl hw1 rfl) (r1.trans (.one (st_endRound rfl rfl hw2 (hjx todo2 r2)))))

/-- ONE MORE LEVEL OF CALLS. -/
theorem callStep_ok {call : CallFn} (hng : NoCount P) (hext : ExtOK P σ) (hcall : SoundCall P σ G call) (hdraw : ∀ rd, DrawOK P σ G rd call) (fuel : Nat) : SoundCall P σ G (callStep P G fuel call) := by
  intro f args m k hh hs
  cases f with
  | func f => exact call_func hng hext hcall hdraw hh hs
  | yield l => exact call_yield hng hcall hdraw hh hs
  | method n => cases hh
  | methodOf t n => cases hh
  | via t p f q => cases hh

/-- THE CALLS. -/
theorem callC_ok (hng : NoCount P) (hext : ExtOK P σ) (hdraw : ∀ call, SoundCall P σ G call → ∀ rd, DrawOK P σ G rd call) (fuel : Nat) : ∀ depth, SoundCall P σ G (callC P G fuel depth)
  | 0 => fun f args m k hh => by cases hh
  | depth + 1 => callStep_ok hng hext (callC_ok hng hext hdraw fuel depth) (hdraw _ (callC_ok hng hext hdraw fuel depth)) fuel

end
end Go.Ev

namespace Go.Ev

/-! What stands before an operation -/
inductive Anc (ops : Array Oper) : Nat → Nat → Prop
  | direct {j : Nat} {o : Oper} {e : Edge} (ho : ops[j]? = some o) (he : e ∈ o.after) (hb : Region.binds .any e = true) : Anc ops e.on j
  | trans {i j : Nat} {o : Oper} {e : Edge} (ho : ops[j]? = some o) (he : e ∈ o.after) (hb : Region.binds .any e = true) (h : Anc ops i e.on) : Anc ops i j

theorem before_anc (ops : Array Oper) (i j : Nat) (h : ((Region.before ops).getD j 0).testBit i = true) : Anc ops i j := by
  have inner : ∀ (acc : Array Nat) (j : Nat) (o : Oper), ops[j]? = some o → (∀ k, (acc.getD k 0).testBit i = true → Anc ops i k) → ∀ (l : List Edge), (∀ e ∈ l, e ∈ o.after) → ∀ s : Nat, (s.testBit i = true → Anc ops i j) →
      ((l.foldl (fun s e => if Region.binds .any e then s ||| 2 ^ e.on ||| acc.getD e.on 0 else s) s).testBit i = true → Anc ops i j) := by
    intro acc j o ho hacc l
    induction l with
    | nil => intro _ s hs; exact hs
    | cons e l ih =>
      intro hl s hs
      simp only [List.foldl_cons]
      refine ih (fun e' he' => hl e' (List.mem_cons_of_mem _ he')) _ ?_
      split
      · rename_i hb
        intro ht
        simp only [Nat.testBit_or, Bool.or_eq_true] at ht
        rcases ht with (ht | ht) | ht
        · exact hs ht
        · rw [Nat.testBit_two_pow] at ht
          have : e.on = i := by simpa using ht
          rw [← this]
          exact .direct ho (hl e (by simp)) hb
        · exact .trans ho (hl e (by simp)) hb (hacc _ ht)
      · exact hs
  have outer : ∀ (l : List Oper) (acc : Array Nat), (∀ n o, l[n]? = some o → ops[acc.size + n]? = some o) → (∀ k, (acc.getD k 0).testBit i = true → Anc ops i k) →
      ∀ k, ((l.foldl (fun acc o => acc.push (o.after.foldl (fun s e => if Region.binds .any e then s ||| 2 ^ e.on ||| acc.getD e.on 0 else s) 0)) acc).getD k 0).testBit i = true → Anc ops i k := by
    intro l
    induction l with
    | nil => intro acc _ hacc; exact hacc
    | cons o l ih =>
      intro acc hl hacc
      simp only [List.foldl_cons]
      refine ih _ (fun n o' hn => ?_) (fun k hk => ?_)
      · have := hl (n + 1) o' (by simpa using hn)
        rw [Array.size_push]
        rwa [show acc.size + 1 + n = acc.size + (n + 1) by omega]
      · simp only [Array.getD_eq_getD_getElem?, Array.getElem?_push] at hk
        split at hk
        · rename_i hks
          subst hks
          have ho : ops[acc.size]? = some o := by have := hl 0 o (by simp); simpa using this
          simp only [Option.getD_some] at hk
          rw [← Array.foldl_toList] at hk
          exact inner acc acc.size o ho hacc o.after.toList (fun e he => by simpa using he) 0 (fun h => by simp at h) (by simpa [Array.getD_eq_getD_getElem?] using hk)
        · exact hacc k (by simpa [Array.getD_eq_getD_getElem?] using hk)
  have hb : Region.before ops = ops.toList.foldl (fun acc o => acc.push (o.after.foldl (fun s e => if Region.binds .any e then s ||| 2 ^ e.on ||| acc.getD e.on 0 else s) 0)) #[] := by
    rw [Region.before, Array.foldl_toList]
  rw [hb] at h
  exact outer ops.toList #[] (fun n o hn => by simpa using hn) (fun k hk => by simp at hk) j h

/-- what the check says -/
structure DrawWF (P : Program) (ops : Array Oper) (plan : List PS) : Prop where
  len : plan.length = ops.size
  sur : ∀ i, i < ops.size → ∃ (p : Nat) (s : PS), plan[p]? = some s ∧ s.ix = i
  inj : ∀ (p q : Nat) (s s' : PS), plan[p]? = some s → plan[q]? = some s' → s.ix = s'.ix → p = q
  bnd : ∀ (p : Nat) (s : PS), plan[p]? = some s → s.ix < ops.size
  knd : ∀ (p : Nat) (s : PS) (o : Oper), plan[p]? = some s → ops[s.ix]? = some o → isFloat o.op = !s.isCh
  chn : ∀ (p q : Nat) (s s' : PS), plan[p]? = some s → plan[q]? = some s' → q < p → s'.isCh = true → Anc ops s'.ix s.ix
  rds : ∀ (p q : Nat) (s s' : PS) (o o' : Oper) (x : Nat), plan[p]? = some s → plan[q]? = some s' → ops[s.ix]? = some o → ops[s'.ix]? = some o' → x ∈ readsOf ops o → o'.dst = some x → q < p ∧ Anc ops s'.ix s.ix
  dst : ∀ (p q : Nat) (s s' : PS) (o o' : Oper) (x : Nat), plan[p]? = some s → plan[q]? = some s' → ops[s.ix]? = some o → ops[s'.ix]? = some o' → o.dst = some x → o'.dst = some x → p = q
  agn : ∀ (p q i : Nat) (again : List Nat) (s' : PS) (o' : Oper), plan[p]? = some (.ch i again) → plan[q]? = some s' → q < p → s'.isCh = false → ops[s'.ix]? = some o' → looks P o'.op = true → s'.ix ∈ again ∨ Anc ops s'.ix i
  txt : ∀ (i : Nat) (o : Oper) (e : Edge), ops[i]? = some o → e ∈ o.after → Region.binds .text e = true → e.on < i
  gcc : Region.departs ops = true → ∃ r : Nat → Nat, ∀ (i : Nat) (o : Oper) (e : Edge), ops[i]? = some o → e ∈ o.after → Region.binds .gc e = true → e.on < ops.size ∧ r e.on < r i

theorem zip_all {α : Type} {l : List α} {f : α × Nat → Bool} (h : l.zipIdx.all f = true) {p : Nat} {s : α} (hp : l[p]? = some s) : f (s, p) = true := by
  rw [List.all_eq_true] at h
  refine h (s, p) ?_
  rw [List.mem_zipIdx_iff_getElem?]
  exact hp

theorem drawOk_inv {P : Program} {ops : Array Oper} (h : drawOk P ops = true) : DrawWF P ops (planOf P ops) := by
  have gd : ∀ {i : Nat} {o : Oper}, ops[i]? = some o → ops.getD i default = o := fun h => by simp [Array.getD_eq_getD_getElem?, h]
  simp only [drawOk, Bool.and_eq_true] at h
  obtain ⟨⟨⟨⟨⟨⟨⟨⟨h1, h2⟩, h3⟩, h4⟩, h5⟩, h6⟩, h7⟩, h8⟩, h9⟩ := h
  generalize hpl : planOf P ops = plan at *
  refine ⟨by simpa using h1, fun i hi => ?_, fun p q s s' hp hq he => ?_, fun p s hp => ?_, fun p s o hp ho => ?_, fun p q s s' hp hq hlt hc => ?_, fun p q s s' o o' x hp hq ho ho' hx hd => ?_,
    fun p q s s' o o' x hp hq ho ho' hx hd => ?_, fun p q i again s' o' hp hq hlt hc ho' hl => ?_, fun i o e ho he hb => ?_, fun hdep => ?_⟩
  · have := List.all_eq_true.1 h2 i (by simpa using hi)
    simp only [List.contains_eq_mem, List.mem_map, decide_eq_true_eq] at this
    obtain ⟨s, hs, rfl⟩ := this
    obtain ⟨p, hp, rfl⟩ := List.mem_iff_getElem.1 hs
    exact ⟨p, _, List.getElem?_eq_getElem hp, rfl⟩
  · have a := zip_all h3 hp
    have b := zip_all h3 hq
    simp only [Bool.and_eq_true, Nat.beq_eq] at a b
    rw [← a.1.1, ← b.1.1, he]
  · have a := zip_all h3 hp
    simp only [Bool.and_eq_true] at a
    simpa [Nat.blt_eq] using a.1.2
  · have a := zip_all h3 hp
    simp only [Bool.and_eq_true, gd ho] at a
    simpa using a.2
  · have a := zip_all (zip_all h4 hp) hq
    simp only [Bool.or_eq_true, Bool.not_eq_true', Bool.and_eq_false_iff] at a
    rcases a with (a | a) | a
    · rw [← Nat.blt_eq, a] at hlt; cases hlt
    · rw [hc] at a; cases a
    · exact before_anc ops _ _ a
  · have a := zip_all h5 hp
    simp only [gd ho] at a
    have b := zip_all (List.all_eq_true.1 a x hx) hq
    simp only [gd ho', hd, beq_self_eq_true, Bool.not_true, Bool.false_or, Bool.and_eq_true] at b
    exact ⟨by simpa [Nat.blt_eq] using b.1, before_anc ops _ _ b.2⟩
  · have a := zip_all (zip_all h6 hp) hq
    simp only [gd ho, gd ho', hx, hd, beq_self_eq_true, Bool.not_true, Bool.or_false, Nat.beq_eq] at a
    exact a
  · have a := zip_all h7 hp
    have b := zip_all a hq
    simp only [gd ho', hc, hl, Bool.not_false, Bool.and_true, Bool.or_eq_true] at b
    rcases b with (b | b) | b
    · have hq' : Nat.blt q p = true := by rw [Nat.blt_eq]; exact hlt
      rw [hq'] at b; cases b
    · exact .inl (by simpa using b)
    · exact .inr (before_anc ops _ _ b)
  · have ho' : ops.toList[i]? = some o := by simpa using ho
    have a := zip_all h8 ho'
    have b := Array.all_eq_true'.1 a e he
    simp only [hb, Bool.not_true, Bool.false_or] at b
    simpa [Nat.blt_eq] using b
  · rw [hdep] at h9
    refine ⟨fun i => (Region.linearise .gc ops 0).idxOf i, fun i o e ho he hb => ?_⟩
    have ho' : ops.toList[i]? = some o := by simpa using ho
    have a := zip_all h9 ho'
    have b := Array.all_eq_true'.1 a e he
    simp only [hb, Bool.not_true, Bool.false_or, Bool.and_eq_true] at b
    exact ⟨by simpa [Nat.blt_eq] using b.1, by simpa [Nat.blt_eq] using b.2⟩

end Go.Ev

namespace Go.Ev

section
variable {P : Program} {σ : Sg} {G : Nat → Bool}

structure St where
  t : Tm
  d : List DF
  m : M

/-- an operation once more -/
def AgainSem (P : Program) (σ : Sg) (G : Nat → Bool) (ops : Array Oper) (t : Tm) (m : M) (j : Nat) : Prop := ∃ o, ops[j]? = some o ∧
  ((GuardSem σ ops o t false) ∨ (GuardSem σ ops o t true ∧ ∃ x v, o.dst = some x ∧ t.get? x = some v ∧ ∀ nb, FlSem P σ G o t m.h nb v none))

theorem eqBs_eq : ∀ {xs ys : List (Int × Ts)}, eqBs xs ys = true → xs = ys
  | [], [], _ => rfl
  | [], _ :: _, h => by cases h
  | _ :: _, [], h => by cases h
  | (c, ts) :: l, (c', ts') :: l', h => by
    simp only [eqBs, eqI_eq, Bool.and_eq_true, decide_eq_true_eq] at h
    rw [h.1, eqTs_eq h.2.1, eqBs_eq h.2.2]
theorem cvBeq_eq : ∀ (a b : CV), cvBeq a b = true → a = b := by
  intro a
  apply CV.rec (motive_1 := fun a => ∀ b, cvBeq a b = true → a = b) (motive_2 := fun l => ∀ l', cvBeq.goL l l' = true → l = l') (t := a)
  all_goals first
    | (intro l'; cases l' <;> intro h <;> first | rfl | (simp [cvBeq.goL] at h; done))
    | skip
  case bool => intro x b h; cases b <;> simp [cvBeq] at h; rw [h]
  case int => intro k n b h; cases b <;> simp [cvBeq, eqI_eq] at h; rw [h.1, h.2]
  case str => intro l c b h; cases b <;> simp [cvBeq] at h; rw [h.1, h.2]
  case ptr0 => intro b h; cases b <;> simp [cvBeq] at h; rfl
  case ptr => intro x o b h; cases b <;> simp [cvBeq] at h; rw [h.1, h.2]
  case sl0 => intro b h; cases b <;> simp [cvBeq] at h; rfl
  case sl => intro x o l c b h; cases b <;> simp [cvBeq] at h; rw [h.1.1.1, h.1.1.2, h.1.2, h.2]
  case slE => intro b h; cases b <;> simp [cvBeq] at h; rfl
  case map0 => intro b h; cases b <;> simp [cvBeq] at h; rfl
  case map => intro x b h; cases b <;> simp [cvBeq] at h; rw [h]
  case fn =>
    intro f xs zs ih1 ih2 b h
    cases b <;> simp [cvBeq] at h
  case yld => intro x b h; cases b <;> simp [cvBeq] at h
  case fn0 => intro b h; cases b <;> simp [cvBeq] at h; rfl
  case ifc => intro t v ih b h; cases b <;> simp [cvBeq] at h; rw [h.1, ih _ h.2]
  case ifc0 => intro b h; cases b <;> simp [cvBeq] at h; rfl
  case agg => intro cs ih b h; cases b <;> simp [cvBeq] at h; rw [ih _ h]
  case tup => intro cs ih b h; cases b <;> simp [cvBeq] at h; rw [ih _ h]
  case sym => intro k s b h; cases b <;> simp [cvBeq] at h; rw [h.1, h.2]
  case ssym => intro k s b h; cases b <;> simp [cvBeq] at h; rw [h.1, h.2]
  case symr => intro k s c lo cnt b h; cases b <;> simp [cvBeq] at h
  case lin =>
    intro k c ts b h
    cases b <;> simp [cvBeq, eqI_eq] at h
    rw [h.1, h.2.1, eqTs_eq h.2.2]
  case lstr => intro bs b h; cases b <;> simp [cvBeq] at h; rw [eqBs_eq h]
  case cons =>
    intro x xs ih1 ih2 l' h
    cases l' with
    | nil => simp [cvBeq.goL] at h
    | cons y ys => simp [cvBeq.goL] at h; rw [ih1 _ h.1, ih2 _ h.2]

theorem againC_inv {ops : Array Oper} {t : Tm} {m : M} {j : Nat} (h : againC P G ops t m j = true) (hs : Sat σ m.tab) : AgainSem P σ G ops t m j := by
  simp only [againC] at h
  split at h
  · rename_i o ho
    obtain ⟨wnt, h1, hg⟩ := guardC_inv (σ := σ) h
    cases wnt with
    | false => exact ⟨o, ho, .inl hg⟩
    | true =>
      simp only [] at h1
      split at h1
      · rename_i x hx
        obtain ⟨v, hv, h2⟩ := getK_inv h1
        obtain ⟨v', ncb, tab', h3, _, h4⟩ := floatC_inv h2 hs
        cases ncb with
        | some cb => cases h3
        | none =>
          have : v = v' := cvBeq_eq _ _ h3
          subst this
          exact ⟨o, ho, .inr ⟨hg, x, v, hx, hv, fun nb => h4⟩⟩
      · cases h1
  · cases h

/-- one step of the plan -/
def StepAt (P : Program) (σ : Sg) (G : Nat → Bool) (rd : Bool) (ops : Array Oper) (s : PS) (S S' : St) : Prop :=
  ∃ o, ops[s.ix]? = some o ∧ OperSem P σ G rd ops o S.t S.d S.m S'.t S'.d S'.m ∧ ∀ i again, s = .ch i again → ∀ j ∈ again, AgainSem P σ G ops S'.t S'.m j

theorem planC_inv {call : CallFn} (hcall : SoundCall P σ G call) {rd : Bool} {ops : Array Oper} : ∀ {l : List PS} {S : St} {K : Tm → List DF → M → Bool}, planC P G rd call ops l S.t S.d S.m K = true → Sat σ S.m.tab →
    ∃ f : Nat → St, f 0 = S ∧ (∀ p s, l[p]? = some s → StepAt P σ G rd ops s (f p) (f (p + 1))) ∧ K (f l.length).t (f l.length).d (f l.length).m = true ∧ Sat σ (f l.length).m.tab
  | [], S, K, h, hs => ⟨fun _ => S, rfl, fun p s hp => by simp at hp, h, hs⟩
  | s :: l, S, K, h, hs => by
    have key : ∃ S1 : St, StepAt P σ G rd ops s S S1 ∧ planC P G rd call ops l S1.t S1.d S1.m K = true ∧ Sat σ S1.m.tab := by
      cases s with
      | fl i =>
        have h' : (match ops[i]? with | some o => operC P G rd call ops o S.t S.d S.m fun t d m => planC P G rd call ops l t d m K | none => false) = true := h
        split at h'
        · rename_i o ho
          obtain ⟨t', d', m', h1, h2, h3⟩ := operC_inv hcall h' hs
          exact ⟨⟨t', d', m'⟩, ⟨o, ho, h3, fun i again he => by cases he⟩, h1, h2⟩
        · cases h'
      | ch i again =>
        have h' : (match ops[i]? with | some o => operC P G rd call ops o S.t S.d S.m fun t d m => isTrue (again.all fun j => againC P G ops t m j) (planC P G rd call ops l t d m K) | none => false) = true := h
        split at h'
        · rename_i o ho
          obtain ⟨t', d', m', h1, h2, h3⟩ := operC_inv hcall h' hs
          obtain ⟨h4, h5⟩ := isTrue_inv h1
          refine ⟨⟨t', d', m'⟩, ⟨o, ho, h3, fun i' again' he j hj => ?_⟩, h5, h2⟩
          cases he
          exact againC_inv (List.all_eq_true.1 h4 j hj) h2
        · cases h'
    obtain ⟨S1, h1, h2, h3⟩ := key
    obtain ⟨f, hf0, hf, hK, hS⟩ := planC_inv hcall h2 h3
    refine ⟨fun p => match p with | 0 => S | p + 1 => f p, rfl, fun p s' hp => ?_, hK, hS⟩
    cases p with
    | zero => simp at hp; subst hp; show StepAt P σ G rd ops s S (f 0); rw [hf0]; exact h1
    | succ p => exact hf p s' (by simpa using hp)

/-! Slots that agree -/
theorem mem_reads {ops : Array Oper} {o : Oper} {i : Nat} (h : Operand.tmp i ∈ o.op.operands) : i ∈ readsOf ops o := by
  refine List.mem_append_left _ (List.mem_filterMap.2 ⟨.tmp i, by simpa using h, rfl⟩)
theorem FlSem.slots {o : Oper} {t t' : Tm} {h : Hp} {nb : Nat} {v : CV} {ncb : Option CB} {ops : Array Oper} (hs : FlSem P σ G o t h nb v ncb) (ht : ∀ x, x ∈ readsOf ops o → t'.get? x = t.get? x) : FlSem P σ G o t' h nb v ncb := by
  intro e w ρ hr hi ho
  refine hs e w ρ hr hi fun x hx c hc => ho x hx c ?_
  cases x with
  | tmp i => show t'.get? i = some c; rw [ht i (mem_reads hx)]; exact hc
  | const v => exact hc
  | global g => exact hc
  | func f => exact hc
theorem GuardSem.slots {o : Oper} {t t' : Tm} {ops : Array Oper} {b : Bool} (hs : GuardSem σ ops o t b) (ht : ∀ x, x ∈ readsOf ops o → t'.get? x = t.get? x) : GuardSem σ ops o t' b := by
  intro e T h
  refine hs e T fun j want oj d c hg hj hd hc => h j want oj d c hg hj hd ?_
  rw [ht d ?_]; exact hc
  refine List.mem_append_right _ ?_
  simp [hg, hj, hd]

/-- an operation that waits -/
def Pend (P : Program) (σ : Sg) (G : Nat → Bool) (ops : Array Oper) (o : Oper) (nb nx : Nat) (t : Tm) (m : M) (e : Env) : Prop :=
  (GuardSem σ ops o t true ∧ GuardSem σ ops o t false) ∨ (GuardSem σ ops o t false ∧ ∀ x, o.dst = some x → t.get? x = some undefC) ∨
  (GuardSem σ ops o t true ∧ ∃ v ncb, FlSem P σ G o t m.h nb v ncb ∧ (looks P o.op = false → ∀ h', FlSem P σ G o t h' nb v ncb) ∧ (∀ x, o.dst = some x → t.get? x = some v) ∧ ∀ cb, ncb = some cb → nb < nx ∧ nb < m.n ∧ m.h.get? nb = some cb ∧ e nb = none)

end
end Go.Ev
