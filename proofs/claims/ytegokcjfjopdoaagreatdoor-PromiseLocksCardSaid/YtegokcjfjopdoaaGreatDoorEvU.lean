/- A verified evaluator for the model's code (part EvU): own work, of no program. -/
import Derived.Test.YtegokcjfjopdoaaGreatDoorEvT
namespace Go.Ev

section
variable {P : Program} {σ : Sg} {G : Nat → Bool}

def Land (x : CX) (k todo : List Item) : Prop := match x with
  | .normal => todo = k
  | .exit id => ∃ k'', todo = .code (.exit id) :: k'' ∧ exitTo id k'' = exitTo id k
  | .ret => ∃ k'', todo = .code .ret :: k''

def CodeOK (P : Program) (σ : Sg) (G : Nat → Bool) (fn : FuncId) (rd : Bool) (c : Code) (ev : EvCode) : Prop := ∀ t d m K, ev t d m K = true → Sat σ m.tab →
  ∃ x t' d' m', K x t' d' m' = true ∧ Sat σ m'.tab ∧ ∀ (e : Env) (w : World) (T : Array Value) (D : List Deferred) (b : Frame) (cs : List Frame) (k : List Item), RL σ G e m w → TR σ e t T → DR σ e d D → FrOK rd b cs → b.fn = fn →
    ∃ T' D' w' e' todo, Steps P (lone (fr b T D (.code c :: k)) cs w) (lone (fr b T' D' todo) cs w') ∧ Land x k todo ∧ RL σ G e' m' w' ∧ TR σ e' t' T' ∧ DR σ e' d' D' ∧ Kept e m w e' m' w'

/-- drawn regions: whatever the order -/
def DrawOK (P : Program) (σ : Sg) (G : Nat → Bool) (rd : Bool) (call : CallFn) : Prop := ∀ ops t d m K, isTrue (drawOk ops) (planC P G rd call ops (planOf ops) t d m K) = true → Sat σ m.tab →
  ∃ t' d' m', K t' d' m' = true ∧ Sat σ m'.tab ∧ ∀ (e : Env) (w : World) (T : Array Value) (D : List Deferred) (b : Frame) (cs : List Frame) (k : List Item) (q : Nat), RL σ G e m w → TR σ e t T → DR σ e d D → FrOK rd b cs →
    ∃ T' D' w' e', Steps P (lone (fr b T D (.inRegion ops (Region.schedule (P.follows .mixedOrders) ops q) :: k)) cs w) (lone (fr b T' D' (.inRegion ops [] :: k)) cs w') ∧ RL σ G e' m' w' ∧ TR σ e' t' T' ∧ DR σ e' d' D' ∧ Kept e m w e' m' w'

theorem RL.drawn {e : Env} {m : M} {w : World} (h : RL σ G e m w) (n : Nat) : RL σ G e m { w with drawn := n } := ⟨h.hr, h.dom, h.inj, h.bnd, h.glo⟩
theorem Kept.drawn {e : Env} {m : M} {w : World} (n : Nat) : Kept e m w e m { w with drawn := n } :=
  ⟨.refl e, Nat.le_refl _, fun _ _ h => ⟨h, rfl⟩, Nat.le_refl _, fun _ _ _ => rfl, fun b p h hl => .inl ⟨b, p, h, hl, rfl⟩, rfl, rfl, rfl⟩

theorem code_region {fn : FuncId} {rd : Bool} {call : CallFn} (hcall : SoundCall P σ G call) (hdraw : DrawOK P σ G rd call) (id : Nat) (ops : Array Oper) (draw : Bool) :
    CodeOK P σ G fn rd (.region id ops draw) (fun t d m k => match draw with
      | false => opsC P G rd call ops ops.toList t d m fun t d m => k .normal t d m
      | true => isTrue (drawOk ops) (planC P G rd call ops (planOf ops) t d m fun t d m => k .normal t d m)) := by
  intro t d m K hh hs
  cases draw with
  | false =>
    obtain ⟨t', d', m', h1, h2, h3⟩ := opsC_inv hcall (l := ops.toList) (s := 0) (fun n => by simp) (show opsC P G rd call ops ops.toList t d m (fun t d m => K .normal t d m) = true from hh) hs
    refine ⟨.normal, t', d', m', h1, h2, fun e w T D b cs k hR hT hD hf _ => ?_⟩
    obtain ⟨T', D', w', e', q1, q2, q3, q4, q5⟩ := h3 e w T D b cs k hR hT hD hf (fun _ => by simp)
    rw [show List.range' 0 ops.toList.length = List.range ops.size by simp [List.range_eq_range']] at q1
    exact ⟨T', D', w', e', k, .head st_region (q1.trans (.one st_region_end)), rfl, q2, q3, q4, q5⟩
  | true =>
    obtain ⟨t', d', m', h1, h2, h3⟩ := hdraw ops t d m _ (show isTrue (drawOk ops) (planC P G rd call ops (planOf ops) t d m (fun t d m => K .normal t d m)) = true from hh) hs
    refine ⟨.normal, t', d', m', h1, h2, fun e w T D b cs k hR hT hD hf _ => ?_⟩
    obtain ⟨T', D', w', e', q1, q2, q3, q4, q5⟩ := h3 e { w with drawn := w.drawn + 1 } T D b cs k (w.tape w.drawn (.order b.fn id)) (hR.drawn _) hT hD hf
    exact ⟨T', D', w', e', k, .head st_region_draw (q1.trans (.one st_region_end)), rfl, q2, q3, q4, (Kept.drawn _).trans q5⟩

theorem code_seq {fn : FuncId} {rd : Bool} {a b : Code} {ea eb : EvCode} (ha : CodeOK P σ G fn rd a ea) (hb : CodeOK P σ G fn rd b eb) :
    CodeOK P σ G fn rd (.seq a b) (fun t d m k => ea t d m fun x t d m => match x with
      | .normal => eb t d m k
      | .exit id => k (.exit id) t d m
      | .ret => k .ret t d m) := by
  intro t d m K hh hs
  obtain ⟨x, t1, d1, m1, h1, hs1, h2⟩ := ha t d m _ hh hs
  cases x with
  | normal =>
    obtain ⟨x, t2, d2, m2, h3, hs2, h4⟩ := hb t1 d1 m1 _ h1 hs1
    refine ⟨x, t2, d2, m2, h3, hs2, fun e w T D fb cs k hR hT hD hf hfn => ?_⟩
    obtain ⟨T1, D1, w1, e1, todo, q1, q2, q3, q4, q5, q6⟩ := h2 e w T D fb cs (.code b :: k) hR hT hD hf hfn
    rw [show todo = _ from q2] at q1
    obtain ⟨T2, D2, w2, e2, todo2, r1, r2, r3, r4, r5, r6⟩ := h4 e1 w1 T1 D1 fb cs k q3 q4 q5 hf hfn
    exact ⟨T2, D2, w2, e2, todo2, .head st_seq (q1.trans r1), r2, r3, r4, r5, q6.trans r6⟩
  | exit id =>
    refine ⟨.exit id, t1, d1, m1, h1, hs1, fun e w T D fb cs k hR hT hD hf hfn => ?_⟩
    obtain ⟨T1, D1, w1, e1, todo, q1, ⟨k'', hk1, hk2⟩, q3, q4, q5, q6⟩ := h2 e w T D fb cs (.code b :: k) hR hT hD hf hfn
    exact ⟨T1, D1, w1, e1, todo, .head st_seq q1, ⟨k'', hk1, by rw [hk2]; simp [exitTo]⟩, q3, q4, q5, q6⟩
  | ret =>
    refine ⟨.ret, t1, d1, m1, h1, hs1, fun e w T D fb cs k hR hT hD hf hfn => ?_⟩
    obtain ⟨T1, D1, w1, e1, todo, q1, q2, q3, q4, q5, q6⟩ := h2 e w T D fb cs (.code b :: k) hR hT hD hf hfn
    exact ⟨T1, D1, w1, e1, todo, .head st_seq q1, q2, q3, q4, q5, q6⟩

theorem code_cond {fn : FuncId} {rd : Bool} {c : Operand} {a b : Code} {ea eb : EvCode} (ha : CodeOK P σ G fn rd a ea) (hb : CodeOK P σ G fn rd b eb) :
    CodeOK P σ G fn rd (.cond c a b) (fun t d m k => getO G c t fun v => asBool v fun b' => match b' with | true => ea t d m k | false => eb t d m k) := by
  intro t d m K hh hs
  obtain ⟨cv, hcv, h1⟩ := getO_inv hh
  obtain ⟨bb, rfl, h2⟩ := asBool_inv h1
  have ev : ∀ {e : Env} {w : World} {T : Array Value} {D : List Deferred}, RL σ G e m w → TR σ e t T → (Act.mk T D).eval c = .bool bb := by
    intro e w T D hR hT
    have := hT.ops (D := D) hR c _ hcv
    generalize (Act.mk T D).eval c = y at this
    cases this; rfl
  cases bb with
  | true =>
    obtain ⟨x, t2, d2, m2, h3, hs2, h4⟩ := ha t d m K h2 hs
    refine ⟨x, t2, d2, m2, h3, hs2, fun e w T D fb cs k hR hT hD hf hfn => ?_⟩
    obtain ⟨T2, D2, w2, e2, todo2, r1, r2⟩ := h4 e w T D fb cs k hR hT hD hf hfn
    exact ⟨T2, D2, w2, e2, todo2, .head (st_cond (ev hR hT)) r1, r2⟩
  | false =>
    obtain ⟨x, t2, d2, m2, h3, hs2, h4⟩ := hb t d m K h2 hs
    refine ⟨x, t2, d2, m2, h3, hs2, fun e w T D fb cs k hR hT hD hf hfn => ?_⟩
    obtain ⟨T2, D2, w2, e2, todo2, r1, r2⟩ := h4 e w T D fb cs k hR hT hD hf hfn
    exact ⟨T2, D2, w2, e2, todo2, .head (st_cond (ev hR hT)) r1, r2⟩

theorem code_block {fn : FuncId} {rd : Bool} {id : Nat} {a : Code} {ea : EvCode} (ha : CodeOK P σ G fn rd a ea) :
    CodeOK P σ G fn rd (.block id a) (fun t d m k => ea t d m fun x t d m => match x with
      | .normal => k .normal t d m
      | .exit j => match Nat.beq j id with | true => k .normal t d m | false => k (.exit j) t d m
      | .ret => k .ret t d m) := by
  intro t d m K hh hs
  obtain ⟨x, t1, d1, m1, h1, hs1, h2⟩ := ha t d m _ hh hs
  cases x with
  | normal =>
    refine ⟨.normal, t1, d1, m1, h1, hs1, fun e w T D fb cs k hR hT hD hf hfn => ?_⟩
    obtain ⟨T1, D1, w1, e1, todo, q1, q2, q3, q4, q5, q6⟩ := h2 e w T D fb cs (.inBlock id :: k) hR hT hD hf hfn
    rw [show todo = _ from q2] at q1
    exact ⟨T1, D1, w1, e1, k, .head st_block (q1.trans (.one st_inBlock)), rfl, q3, q4, q5, q6⟩
  | exit j =>
    simp only [] at h1
    split at h1
    · rename_i hj
      have hj : j = id := by simpa using hj
      subst hj
      refine ⟨.normal, t1, d1, m1, h1, hs1, fun e w T D fb cs k hR hT hD hf hfn => ?_⟩
      obtain ⟨T1, D1, w1, e1, todo, q1, ⟨k'', hk1, hk2⟩, q3, q4, q5, q6⟩ := h2 e w T D fb cs (.inBlock j :: k) hR hT hD hf hfn
      rw [hk1] at q1
      exact ⟨T1, D1, w1, e1, k, .head st_block (q1.trans (.one (st_exit (by rw [hk2]; simp [exitTo])))), rfl, q3, q4, q5, q6⟩
    · rename_i hj
      refine ⟨.exit j, t1, d1, m1, h1, hs1, fun e w T D fb cs k hR hT hD hf hfn => ?_⟩
      obtain ⟨T1, D1, w1, e1, todo, q1, ⟨k'', hk1, hk2⟩, q3, q4, q5, q6⟩ := h2 e w T D fb cs (.inBlock id :: k) hR hT hD hf hfn
      have hne : (id == j) = false := by
        cases hb : (id == j) with
        | false => rfl
        | true => have : id = j := by simpa using hb
                  subst this; simp at hj
      exact ⟨T1, D1, w1, e1, todo, .head st_block q1, ⟨k'', hk1, by rw [hk2]; simp [exitTo, hne]⟩, q3, q4, q5, q6⟩
  | ret =>
    refine ⟨.ret, t1, d1, m1, h1, hs1, fun e w T D fb cs k hR hT hD hf hfn => ?_⟩
    obtain ⟨T1, D1, w1, e1, todo, q1, q2, q3, q4, q5, q6⟩ := h2 e w T D fb cs (.inBlock id :: k) hR hT hD hf hfn
    exact ⟨T1, D1, w1, e1, todo, .head st_block q1, q2, q3, q4, q5, q6⟩

theorem code_loop {fn : FuncId} {rd : Bool} {a : Code} {ea : EvCode} (ha : CodeOK P σ G fn rd a ea) (fuel : Nat) : CodeOK P σ G fn rd (.loop a) (loopC ea fuel) := by
  have key : ∀ (fuel : Nat) t d m K, loopC ea fuel t d m K = true → Sat σ m.tab →
      ∃ x t' d' m', K x t' d' m' = true ∧ Sat σ m'.tab ∧ ∀ (e : Env) (w : World) (T : Array Value) (D : List Deferred) (b : Frame) (cs : List Frame) (k : List Item), RL σ G e m w → TR σ e t T → DR σ e d D → FrOK rd b cs → b.fn = fn →
        ∃ T' D' w' e' todo, Steps P (lone (fr b T D (.code a :: .inLoop a :: k)) cs w) (lone (fr b T' D' todo) cs w') ∧ Land x k todo ∧ RL σ G e' m' w' ∧ TR σ e' t' T' ∧ DR σ e' d' D' ∧ Kept e m w e' m' w' := by
    intro fuel
    induction fuel with
    | zero => intro t d m K hh; cases hh
    | succ n ih =>
      intro t d m K hh hs
      obtain ⟨x, t1, d1, m1, h1, hs1, h2⟩ := ha t d m (fun x t d m => match x with
        | .normal => loopC ea n t d m K
        | .exit id => K (.exit id) t d m
        | .ret => K .ret t d m) hh hs
      cases x with
      | normal =>
        obtain ⟨x, t2, d2, m2, h3, hs2, h4⟩ := ih t1 d1 m1 K h1 hs1
        refine ⟨x, t2, d2, m2, h3, hs2, fun e w T D fb cs k hR hT hD hf hfn => ?_⟩
        obtain ⟨T1, D1, w1, e1, todo, q1, q2, q3, q4, q5, q6⟩ := h2 e w T D fb cs (.inLoop a :: k) hR hT hD hf hfn
        rw [show todo = _ from q2] at q1
        obtain ⟨T2, D2, w2, e2, todo2, r1, r2, r3, r4, r5, r6⟩ := h4 e1 w1 T1 D1 fb cs k q3 q4 q5 hf hfn
        exact ⟨T2, D2, w2, e2, todo2, q1.trans (.head st_inLoop r1), r2, r3, r4, r5, q6.trans r6⟩
      | exit id =>
        refine ⟨.exit id, t1, d1, m1, h1, hs1, fun e w T D fb cs k hR hT hD hf hfn => ?_⟩
        obtain ⟨T1, D1, w1, e1, todo, q1, ⟨k'', hk1, hk2⟩, q3, q4, q5, q6⟩ := h2 e w T D fb cs (.inLoop a :: k) hR hT hD hf hfn
        exact ⟨T1, D1, w1, e1, todo, q1, ⟨k'', hk1, by rw [hk2]; simp [exitTo]⟩, q3, q4, q5, q6⟩
      | ret =>
        refine ⟨.ret, t1, d1, m1, h1, hs1, fun e w T D fb cs k hR hT hD hf hfn => ?_⟩
        obtain ⟨T1, D1, w1, e1, todo, q1, q2, q3, q4, q5, q6⟩ := h2 e w T D fb cs (.inLoop a :: k) hR hT hD hf hfn
        exact ⟨T1, D1, w1, e1, todo, q1, q2, q3, q4, q5, q6⟩
  intro t d m K hh hs
  obtain ⟨x, t', d', m', h1, h2, h3⟩ := key fuel t d m K hh hs
  refine ⟨x, t', d', m', h1, h2, fun e w T D fb cs k hR hT hD hf hfn => ?_⟩
  obtain ⟨T2, D2, w2, e2, todo2, r1, r2⟩ := h3 e w T D fb cs k hR hT hD hf hfn
  exact ⟨T2, D2, w2, e2, todo2, .head st_loop r1, r2⟩

/-! Ranges over functions -/
theorem st_rangeFunc {b : Frame} {T : Array Value} {d : List Deferred} {k : List Item} {cs : List Frame} {w : World} {f : Operand} {ps : Array Tmp} {a c : Code} {g : FuncId} {first cap : Array Value} {fn : Func} {cb : Code}
    (hb : b.roundOf = none) (hf : (Act.mk T d).eval f = .func (.func g) first cap) (hg : P.funcs[g]? = some fn) (hbody : fn.body = some cb) (hng : (fn.name == "runtime.NumGoroutine") = false) :
    step P (lone (fr b T d (.code (.rangeFunc f ps a c) :: k)) cs w) = .next (lone (Frame.enter P g (first ++ #[.func (.yield (w.heap.size + 1)) #[] #[]] ++ cap) .normal)
      (fr b T ({ target := .collected w.heap.size, args := #[] } :: d) (.inRangeFunc (w.heap.size + 1) :: k) :: cs)
      { w with heap := (w.heap.push (.deferred (some []))).push (.loop { state := .ready, pending := none, fn := b.fn, tmps := T, params := ps, assign := a, body := c, defers := w.heap.size }) }) := by
  refine step_lone_go ?_
  have he := fr_eval' b T ({ target := .collected w.heap.size, args := #[] } :: d) (.inRangeFunc (w.heap.size + 1) :: k)
  have he2 : (Act.mk T ({ target := .collected w.heap.size, args := #[] } :: d)).eval f = .func (.func g) first cap := by cases f <;> exact hf
  simp only [fr, hb] at he
  have hng' : ¬ fn.name = "runtime.NumGoroutine" := by simpa using hng
  have hk : ∀ v, (Act.mk T ({ target := .collected w.heap.size, args := #[] } :: d)).eval (.const v) = v := fun v => rfl
  simp [stepG, stepG.exec, fr, hb, Instr.enterLoop, stepG.apply, resolve, he, he2, hk, Deferred.ofValue, invoke, callFunc, hg, hbody, hng']
  rfl

theorem st_endRange {b : Frame} {T : Array Value} {d : List Deferred} {k : List Item} {cs : List Frame} {w : World} {l : Nat} {r : Loop} (hl : w.heap[l]? = some (.loop r)) (hb : r.state ≠ .busy) :
    step P (lone (fr b T d (.endRangeFunc l :: k)) cs w) = .next (lone (fr b T d ((r.pending.map Item.code).toList ++ k)) cs { w with heap := w.heap.setIfInBounds l (.loop { r with state := .exhausted }) }) := by
  refine step_lone_go ?_
  simp [stepG, stepG.exec, fr, Instr.endLoop, Instr.getLoop, getObj, setObj, Sem.run, hl, hb]

end
end Go.Ev
