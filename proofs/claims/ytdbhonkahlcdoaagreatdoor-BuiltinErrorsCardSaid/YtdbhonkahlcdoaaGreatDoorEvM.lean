/- A verified evaluator for the model's code (part EvM): own work, of no program. -/
import Derived.Test.YtdbhonkahlcdoaaGreatDoorEvE
import Derived.Defers
namespace Go.Ev
noncomputable section
/-! Calls that may panic: two last continuations -/
abbrev KP := CV → M → Bool
abbrev QFn := Fn → List CV → M → KA → KP → Bool
abbrev KPX := CV → List Nat → Tm → List DF → M → Bool
abbrev EvQ := Tm → List DF → M → KX → KPX → Bool
def operQ (P : Program) (G : Nat → Bool) (call : CallFn) (q : QFn) (PS : FuncId → Bool) (ops : Array Oper) (o : Oper) (t : Tm) (d : List DF) (m : M) (k : Tm → List DF → M → Bool) (kp : KP) : Bool :=
  match o.guard with
  | some _ => operC P G false call ops o t d m k
  | none => match o.op with
    | .panic x => getO G x t fun v => match v with
      | .ifc .. => kp v m
      | _ => false
    | .call c => match c.callee with
      | .value f => getO G f t fun fv => match fv with
        | .fn f first cap => match f with
          | .func g => match PS g with
            | true => getOs G c.args.toList t fun args => q (.func g) (first ++ args ++ cap) m (fun v m => putT o.dst v t fun t => k t d m) kp
            | false => operC P G false call ops o t d m k
          | _ => operC P G false call ops o t d m k
        | _ => operC P G false call ops o t d m k
      | _ => operC P G false call ops o t d m k
    | _ => operC P G false call ops o t d m k
def opsQ (P : Program) (G : Nat → Bool) (call : CallFn) (q : QFn) (PS : FuncId → Bool) (ops : Array Oper) (l : List Oper) : Tm → List DF → M → (Tm → List DF → M → Bool) → KPX → Bool :=
  lrec (fun t d m k _ => k t d m) (fun o _ ih t d m k kp => operQ P G call q PS ops o t d m (fun t d m => ih t d m k kp) (fun v m => kp v [] t d m)) l
/-- the slots that a region writes -/
def dsts (ops : Array Oper) : List Nat := ops.toList.filterMap (·.dst)
def planQ (P : Program) (G : Nat → Bool) (call : CallFn) (q : QFn) (PS : FuncId → Bool) (ops : Array Oper) (l : List Go.Ev.PS) : Tm → List DF → M → (Tm → List DF → M → Bool) → KPX → Bool :=
  lrec (fun t d m k _ => k t d m) (fun s _ ih t d m k kp => match s with
    | .fl i => match ops[i]? with
      | some o => operC P G false call ops o t d m fun t d m => ih t d m k kp
      | none => false
    | .ch i again => match ops[i]? with
      | some o => operQ P G call q PS ops o t d m (fun t d m => isTrue (again.all fun j => againC P G ops t m j) (ih t d m k kp)) (fun v m => kp v (dsts ops) t d m)
      | none => false) l
def loopQ (body : EvQ) (fuel : Nat) : EvQ :=
  Nat.rec (motive := fun _ => EvQ) (fun _ _ _ _ _ => false)
    (fun _ ih t d m k kp => body t d m (fun x t d m => match x with
      | .normal => ih t d m k kp
      | .exit id => k (.exit id) t d m
      | .ret => k .ret t d m) kp) fuel
def codeQ (P : Program) (G : Nat → Bool) (fn : FuncId) (call : CallFn) (q : QFn) (PS : FuncId → Bool) (fuel : Nat) (c : Code) : EvQ :=
  Code.rec (motive := fun _ => EvQ)
    (fun t d m k _ => k .normal t d m)
    (fun _ ops draw t d m k kp => match draw with
      | false => opsQ P G call q PS ops ops.toList t d m (fun t d m => k .normal t d m) kp
      | true => isTrue (drawOk P ops) (planQ P G call q PS ops (planOf P ops) t d m (fun t d m => k .normal t d m) kp))
    (fun _ _ a b t d m k kp => a t d m (fun x t d m => match x with
      | .normal => b t d m k kp
      | .exit id => k (.exit id) t d m
      | .ret => k .ret t d m) kp)
    (fun c _ _ a b t d m k kp => getO G c t fun v => asBool v fun b' => match b' with | true => a t d m k kp | false => b t d m k kp)
    (fun id _ a t d m k kp => a t d m (fun x t d m => match x with
      | .normal => k .normal t d m
      | .exit j => match Nat.beq j id with | true => k .normal t d m | false => k (.exit j) t d m
      | .ret => k .ret t d m) kp)
    (fun _ a => loopQ a fuel)
    (fun f ps a b _ _ t d m k _ => codeC P G fn false call fuel (.rangeFunc f ps a b) t d m k)
    (fun id t d m k _ => k (.exit id) t d m)
    (fun _ _ _ _ _ _ _ => false)
    (fun _ t d m k _ => k .normal t d m)
    (fun _ _ _ _ _ _ => false)
    (fun t d m k _ => k .ret t d m)
    (fun _ _ _ _ _ _ => false) c
def callStepQ (P : Program) (G : Nat → Bool) (fuel : Nat) (call : CallFn) (q : QFn) (PS : FuncId → Bool) : QFn := fun f args m k kp => match f with
  | .func f => match P.funcs[f]? with
    | some fn => match fn.body with
      | some c => setArgs args 0 (blank fn.ntmps) fun t => codeQ P G f call q PS fuel c t [] m (fun x t d m => match x with
          | .exit _ => false
          | _ => defersC call d m fun m => resultsC P fn.results.toList t m fun vs => match vs with
            | [v] => k v m
            | vs => k (.tup vs) m) (fun v _ _ d m => match d with | [] => kp v m | _ => false)
      | none => false
    | none => false
  | _ => false
def callQ (P : Program) (G : Nat → Bool) (fuel : Nat) (call : CallFn) (PS : FuncId → Bool) (depth : Nat) : QFn :=
  Nat.rec (motive := fun _ => QFn) (fun _ _ _ _ _ => false) (fun _ q => callStepQ P G fuel call q PS) depth

/-! A deferred call that recovers, at the head of its code -/
def isRec (o : Oper) : Bool := match o.guard with
  | some _ => false
  | none => match o.op with
    | .call c => match c.callee with
      | .builtin b => match b with
        | .recover => true
        | _ => false
      | _ => false
    | _ => false
def opsV (P : Program) (G : Nat → Bool) (call : CallFn) (ops : Array Oper) (l : List Oper) (v : CV) (t : Tm) (d : List DF) (m : M) (k : Tm → List DF → M → Bool) : Bool := match l with
  | [] => false
  | o :: l => match isRec o with
    | true => putT o.dst v t fun t => opsC P G false call ops l t d m k
    | false => false
def codeV (P : Program) (G : Nat → Bool) (fn : FuncId) (call : CallFn) (fuel : Nat) (v : CV) (c : Code) : EvCode :=
  Code.rec (motive := fun _ => EvCode)
    (fun _ _ _ _ => false)
    (fun _ ops draw t d m k => match draw with
      | false => opsV P G call ops ops.toList v t d m (fun t d m => k .normal t d m)
      | true => false)
    (fun _ b a _ t d m k => a t d m (fun x t d m => match x with
      | .normal => codeC P G fn false call fuel b t d m k
      | .exit id => k (.exit id) t d m
      | .ret => k .ret t d m))
    (fun _ _ _ _ _ _ _ _ _ => false)
    (fun id _ a t d m k => a t d m (fun x t d m => match x with
      | .normal => k .normal t d m
      | .exit j => match Nat.beq j id with | true => k .normal t d m | false => k (.exit j) t d m
      | .ret => k .ret t d m))
    (fun _ _ _ _ _ _ => false)
    (fun _ _ _ _ _ _ _ _ _ _ => false)
    (fun _ _ _ _ _ => false)
    (fun _ _ _ _ _ _ => false)
    (fun _ _ _ _ _ => false)
    (fun _ _ _ _ _ => false)
    (fun _ _ _ _ => false)
    (fun _ _ _ _ _ => false) c
def recF (P : Program) (G : Nat → Bool) (fuel : Nat) (call : CallFn) (g : FuncId) (args : List CV) (v : CV) (m : M) (km : M → Bool) : Bool := match P.funcs[g]? with
  | some fn => match fn.body with
    | some c => setArgs args 0 (blank fn.ntmps) fun t => codeV P G g call fuel v c t [] m fun x t d m => match x with
      | .exit _ => false
      | _ => match d with
        | [] => resultsC P fn.results.toList t m fun _ => km m
        | _ => false
    | none => false
  | none => false
def resSlot : ResultVar → Nat
  | .tmp i => i
  | .cell a _ => a
def wOk (W : List Nat) (rs : List ResultVar) : Bool := rs.all fun r => W.all fun x => !Nat.beq x (resSlot r)
/-- a function that recovers -/
def recC (P : Program) (G : Nat → Bool) (fuel : Nat) (call : CallFn) (q : QFn) (PS : FuncId → Bool) (f : FuncId) (args : List CV) (m : M) (k : KA) : Bool := match P.funcs[f]? with
  | some fn => match fn.body with
    | some c => setArgs args 0 (blank fn.ntmps) fun t => codeQ P G f call q PS fuel c t [] m (fun x t d m => match x with
        | .exit _ => false
        | _ => defersC call d m fun m => resultsC P fn.results.toList t m fun vs => match vs with
          | [v] => k v m
          | vs => k (.tup vs) m)
        (fun v W t d m => match d with
          | [x] => match x with
            | .call g args cap => match g with
              | .func g => isTrue (wOk W fn.results.toList) <| recF P G fuel call g (args ++ cap) v m fun m => resultsC P fn.results.toList t m fun vs => match vs with
                | [v] => k v m
                | vs => k (.tup vs) m
              | _ => false
            | _ => false
          | _ => false)
    | none => false
  | none => false
/-- is a slice, at a place behind the first argument, that long? -/
def longC (off n : Nat) (args : List CV) (h : Hp) (k : Bool → Bool) : Bool := match args with
  | x :: _ => match x with
    | .ptr b o => getK h b fun cb => match cb with
      | .cells _ _ _ _ cs => getK cs (o + off) fun v => match v with
        | .sl _ _ len _ => match Nat.ble n len with | true => k true | false => k false
        | _ => k false
      | _ => k false
    | _ => k false
  | _ => k false
/-- where a slice is long, the function R is carried out by the evaluator that knows panics -/
def ovrQ (P : Program) (G : Nat → Bool) (fuel : Nat) (PS : FuncId → Bool) (dq : Nat) (R off n : Nat) (call base : CallFn) : CallFn := fun f args m k => match f with
  | .func g => match Nat.beq g R with
    | true => longC off n args m.h fun b => match b with
      | true => recC P G fuel call (callQ P G fuel call PS dq) PS g args m k
      | false => base (.func g) args m k
    | false => base (.func g) args m k
  | f => base f args m k
end
end Go.Ev

namespace Go.Ev

section
variable {P : Program} {σ : Sg} {G : Nat → Bool}

/-- a frame that panics -/
def pf (b : Frame) (T : Array Value) (d : List Deferred) (todo : List Item) (v : Value) : Frame := { fr b T d todo with mode := .panicking [{ v := v, recovered := false }] }

def GoN (P : Program) (σ : Sg) (G : Nat → Bool) (fn : FuncId) (hd : List Item) (t : Tm) (d : List DF) (m : M) (x : CX) (t' : Tm) (d' : List DF) (m' : M) : Prop :=
  ∀ (e : Env) (w : World) (T : Array Value) (D : List Deferred) (b : Frame) (cs : List Frame) (k : List Item), RL σ G e m w → TR σ e t T → DR σ e d D → FrOK false b cs → b.fn = fn →
    ∃ T' D' w' e' todo, Steps P (lone (fr b T D (hd ++ k)) cs w) (lone (fr b T' D' todo) cs w') ∧ Land x k todo ∧ RL σ G e' m' w' ∧ TR σ e' t' T' ∧ DR σ e' d' D' ∧ Kept e m w e' m' w'
/-- all slots but some -/
def TRW (σ : Sg) (e : Env) (W : List Nat) (t : Tm) (T : Array Value) : Prop := ∀ i, match t.get? i with
  | some cv => ∃ v, T[i]? = some v ∧ (i ∈ W ∨ VR σ e cv v)
  | none => T[i]? = none
theorem TR.w {e : Env} {W : List Nat} {t : Tm} {T : Array Value} (h : TR σ e t T) : TRW σ e W t T := by
  intro i
  have := h i
  cases hg : t.get? i with
  | none => rw [hg] at this; exact this
  | some cv => rw [hg] at this; obtain ⟨v, h1, h2⟩ := this; exact ⟨v, h1, .inr h2⟩
theorem TRW.mono {e e' : Env} (he : Ext e e') {W : List Nat} {t : Tm} {T : Array Value} (h : TRW σ e W t T) : TRW σ e' W t T := by
  intro i
  have := h i
  cases hg : t.get? i with
  | none => rw [hg] at this; exact this
  | some cv => rw [hg] at this; obtain ⟨v, h1, h2⟩ := this; exact ⟨v, h1, h2.imp id (·.mono he)⟩
def GoP (P : Program) (σ : Sg) (G : Nat → Bool) (fn : FuncId) (hd : List Item) (t : Tm) (d : List DF) (m : M) (v : CV) (W : List Nat) (t' : Tm) (d' : List DF) (m' : M) : Prop :=
  ∀ (e : Env) (w : World) (T : Array Value) (D : List Deferred) (b : Frame) (cs : List Frame) (k : List Item), RL σ G e m w → TR σ e t T → DR σ e d D → FrOK false b cs → b.fn = fn →
    ∃ T' D' w' e' todo v', Steps P (lone (fr b T D (hd ++ k)) cs w) (lone (pf b T' D' todo v') cs w') ∧ VR σ e' v v' ∧ RL σ G e' m' w' ∧ TRW σ e' W t' T' ∧ DR σ e' d' D' ∧ Kept e m w e' m' w'
def QOK (P : Program) (σ : Sg) (G : Nat → Bool) (fn : FuncId) (hd : List Item) (ev : EvQ) : Prop := ∀ t d m K Kp, ev t d m K Kp = true → Sat σ m.tab →
  (∃ x t' d' m', K x t' d' m' = true ∧ Sat σ m'.tab ∧ GoN P σ G fn hd t d m x t' d' m') ∨ (∃ v W t' d' m', Kp v W t' d' m' = true ∧ Sat σ m'.tab ∧ GoP P σ G fn hd t d m v W t' d' m')

theorem qok_code {fn : FuncId} {c : Code} {ev : EvCode} (h : CodeOK P σ G fn false c ev) : QOK P σ G fn [.code c] (fun t d m k _ => ev t d m k) := by
  intro t d m K Kp hh hs
  obtain ⟨x, t', d', m', h1, h2, h3⟩ := h t d m K hh hs
  exact .inl ⟨x, t', d', m', h1, h2, fun e w T D b cs k => h3 e w T D b cs k⟩

theorem GoN.head {fn : FuncId} {hd hd' : List Item} {t t' : Tm} {d d' : List DF} {m m' : M} {x : CX} (h : GoN P σ G fn hd' t d m x t' d' m')
    (hst : ∀ (T : Array Value) (D : List Deferred) (b : Frame) (cs : List Frame) (k : List Item) (w : World) (e : Env), RL σ G e m w → TR σ e t T → step P (lone (fr b T D (hd ++ k)) cs w) = .next (lone (fr b T D (hd' ++ k)) cs w)) : GoN P σ G fn hd t d m x t' d' m' := by
  intro e w T D b cs k hR hT hD hf hfn
  obtain ⟨T', D', w', e', todo, q1, q2⟩ := h e w T D b cs k hR hT hD hf hfn
  exact ⟨T', D', w', e', todo, .head (hst T D b cs k w e hR hT) q1, q2⟩
theorem GoP.head {fn : FuncId} {hd hd' : List Item} {t t' : Tm} {d d' : List DF} {m m' : M} {v : CV} {W : List Nat} (h : GoP P σ G fn hd' t d m v W t' d' m')
    (hst : ∀ (T : Array Value) (D : List Deferred) (b : Frame) (cs : List Frame) (k : List Item) (w : World) (e : Env), RL σ G e m w → TR σ e t T → step P (lone (fr b T D (hd ++ k)) cs w) = .next (lone (fr b T D (hd' ++ k)) cs w)) : GoP P σ G fn hd t d m v W t' d' m' := by
  intro e w T D b cs k hR hT hD hf hfn
  obtain ⟨T', D', w', e', todo, v', q1, q2⟩ := h e w T D b cs k hR hT hD hf hfn
  exact ⟨T', D', w', e', todo, v', .head (hst T D b cs k w e hR hT) q1, q2⟩
/-- what stands behind a code that panics is never come to -/
theorem GoP.before {fn : FuncId} {hd l : List Item} {t t' : Tm} {d d' : List DF} {m m' : M} {v : CV} {W : List Nat} (h : GoP P σ G fn hd t d m v W t' d' m') : GoP P σ G fn (hd ++ l) t d m v W t' d' m' := by
  intro e w T D b cs k hR hT hD hf hfn
  rw [List.append_assoc]
  exact h e w T D b cs (l ++ k) hR hT hD hf hfn
theorem GoN.normal {fn : FuncId} {hd l : List Item} {t t1 t' : Tm} {d d1 d' : List DF} {m m1 m' : M} {x : CX} (h : GoN P σ G fn hd t d m .normal t1 d1 m1) (h' : GoN P σ G fn l t1 d1 m1 x t' d' m') : GoN P σ G fn (hd ++ l) t d m x t' d' m' := by
  intro e w T D b cs k hR hT hD hf hfn
  rw [List.append_assoc]
  obtain ⟨T1, D1, w1, e1, todo, q1, q2, q3, q4, q5, q6⟩ := h e w T D b cs (l ++ k) hR hT hD hf hfn
  rw [show todo = _ from q2] at q1
  obtain ⟨T2, D2, w2, e2, todo2, r1, r2, r3, r4, r5, r6⟩ := h' e1 w1 T1 D1 b cs k q3 q4 q5 hf hfn
  exact ⟨T2, D2, w2, e2, todo2, q1.trans r1, r2, r3, r4, r5, q6.trans r6⟩
theorem GoN.panics {fn : FuncId} {hd l : List Item} {t t1 t' : Tm} {d d1 d' : List DF} {m m1 m' : M} {v : CV} {W : List Nat} (h : GoN P σ G fn hd t d m .normal t1 d1 m1) (h' : GoP P σ G fn l t1 d1 m1 v W t' d' m') : GoP P σ G fn (hd ++ l) t d m v W t' d' m' := by
  intro e w T D b cs k hR hT hD hf hfn
  rw [List.append_assoc]
  obtain ⟨T1, D1, w1, e1, todo, q1, q2, q3, q4, q5, q6⟩ := h e w T D b cs (l ++ k) hR hT hD hf hfn
  rw [show todo = _ from q2] at q1
  obtain ⟨T2, D2, w2, e2, todo2, v', r1, r2, r3, r4, r5, r6⟩ := h' e1 w1 T1 D1 b cs k q3 q4 q5 hf hfn
  exact ⟨T2, D2, w2, e2, todo2, v', q1.trans r1, r2, r3, r4, r5, q6.trans r6⟩

theorem q_seq {fn : FuncId} {a b : Code} {ea eb : EvQ} (ha : QOK P σ G fn [.code a] ea) (hb : QOK P σ G fn [.code b] eb) :
    QOK P σ G fn [.code (.seq a b)] (fun t d m k kp => ea t d m (fun x t d m => match x with
      | .normal => eb t d m k kp
      | .exit id => k (.exit id) t d m
      | .ret => k .ret t d m) kp) := by
  intro t d m K Kp hh hs
  have hst : ∀ (T : Array Value) (D : List Deferred) (fb : Frame) (cs : List Frame) (k : List Item) (w : World) (e : Env), RL σ G e m w → TR σ e t T →
      step P (lone (fr fb T D ([.code (.seq a b)] ++ k)) cs w) = .next (lone (fr fb T D (([.code a] ++ [.code b]) ++ k)) cs w) := fun T D fb cs k w e _ _ => st_seq
  rcases ha t d m _ _ hh hs with ⟨x, t1, d1, m1, h1, hs1, h2⟩ | ⟨v, W, t1, d1, m1, h1, hs1, h2⟩
  · cases x with
    | normal =>
      rcases hb t1 d1 m1 _ _ h1 hs1 with ⟨x, t2, d2, m2, h3, hs2, h4⟩ | ⟨v, W, t2, d2, m2, h3, hs2, h4⟩
      · exact .inl ⟨x, t2, d2, m2, h3, hs2, (h2.normal h4).head hst⟩
      · exact .inr ⟨v, W, t2, d2, m2, h3, hs2, (h2.panics h4).head hst⟩
    | exit id =>
      refine .inl ⟨.exit id, t1, d1, m1, h1, hs1, fun e w T D fb cs k hR hT hD hf hfn => ?_⟩
      obtain ⟨T1, D1, w1, e1, todo, q1, ⟨k'', hk1, hk2⟩, q3, q4, q5, q6⟩ := h2 e w T D fb cs (.code b :: k) hR hT hD hf hfn
      exact ⟨T1, D1, w1, e1, todo, .head st_seq q1, ⟨k'', hk1, by rw [hk2]; simp [exitTo]⟩, q3, q4, q5, q6⟩
    | ret =>
      refine .inl ⟨.ret, t1, d1, m1, h1, hs1, fun e w T D fb cs k hR hT hD hf hfn => ?_⟩
      obtain ⟨T1, D1, w1, e1, todo, q1, q2, q3, q4, q5, q6⟩ := h2 e w T D fb cs (.code b :: k) hR hT hD hf hfn
      exact ⟨T1, D1, w1, e1, todo, .head st_seq q1, q2, q3, q4, q5, q6⟩
  · exact .inr ⟨v, W, t1, d1, m1, h1, hs1, (h2.before (l := [.code b])).head hst⟩

theorem q_cond {fn : FuncId} {c : Operand} {a b : Code} {ea eb : EvQ} (ha : QOK P σ G fn [.code a] ea) (hb : QOK P σ G fn [.code b] eb) :
    QOK P σ G fn [.code (.cond c a b)] (fun t d m k kp => getO G c t fun v => asBool v fun b' => match b' with | true => ea t d m k kp | false => eb t d m k kp) := by
  intro t d m K Kp hh hs
  obtain ⟨cv, hcv, h1⟩ := getO_inv hh
  obtain ⟨bb, rfl, h2⟩ := asBool_inv h1
  have hst : ∀ (T : Array Value) (D : List Deferred) (fb : Frame) (cs : List Frame) (k : List Item) (w : World) (e : Env), RL σ G e m w → TR σ e t T →
      step P (lone (fr fb T D ([.code (.cond c a b)] ++ k)) cs w) = .next (lone (fr fb T D ([.code (if bb then a else b)] ++ k)) cs w) := by
    intro T D fb cs k w e hR hT
    refine st_cond ?_
    have := hT.ops (D := D) hR c _ hcv
    generalize (Act.mk T D).eval c = y at this
    cases this; rfl
  cases bb with
  | true =>
    rcases ha t d m _ _ h2 hs with ⟨x, t1, d1, m1, h1, hs1, h3⟩ | ⟨v, W, t1, d1, m1, h1, hs1, h3⟩
    · exact .inl ⟨x, t1, d1, m1, h1, hs1, h3.head hst⟩
    · exact .inr ⟨v, W, t1, d1, m1, h1, hs1, h3.head hst⟩
  | false =>
    rcases hb t d m _ _ h2 hs with ⟨x, t1, d1, m1, h1, hs1, h3⟩ | ⟨v, W, t1, d1, m1, h1, hs1, h3⟩
    · exact .inl ⟨x, t1, d1, m1, h1, hs1, h3.head hst⟩
    · exact .inr ⟨v, W, t1, d1, m1, h1, hs1, h3.head hst⟩

theorem q_block {fn : FuncId} {id : Nat} {a : Code} {ea : EvQ} (ha : QOK P σ G fn [.code a] ea) :
    QOK P σ G fn [.code (.block id a)] (fun t d m k kp => ea t d m (fun x t d m => match x with
      | .normal => k .normal t d m
      | .exit j => match Nat.beq j id with | true => k .normal t d m | false => k (.exit j) t d m
      | .ret => k .ret t d m) kp) := by
  intro t d m K Kp hh hs
  have hst : ∀ (T : Array Value) (D : List Deferred) (fb : Frame) (cs : List Frame) (k : List Item) (w : World) (e : Env), RL σ G e m w → TR σ e t T →
      step P (lone (fr fb T D ([.code (.block id a)] ++ k)) cs w) = .next (lone (fr fb T D (([.code a] ++ [.inBlock id]) ++ k)) cs w) := fun T D fb cs k w e _ _ => st_block
  rcases ha t d m _ _ hh hs with ⟨x, t1, d1, m1, h1, hs1, h2⟩ | ⟨v, W, t1, d1, m1, h1, hs1, h2⟩
  · cases x with
    | normal =>
      refine .inl ⟨.normal, t1, d1, m1, h1, hs1, fun e w T D fb cs k hR hT hD hf hfn => ?_⟩
      obtain ⟨T1, D1, w1, e1, todo, q1, q2, q3, q4, q5, q6⟩ := h2 e w T D fb cs (.inBlock id :: k) hR hT hD hf hfn
      rw [show todo = _ from q2] at q1
      exact ⟨T1, D1, w1, e1, k, .head st_block (q1.trans (.one st_inBlock)), rfl, q3, q4, q5, q6⟩
    | exit j =>
      simp only [] at h1
      split at h1
      · rename_i hj
        have hj : j = id := by simpa using hj
        subst hj
        refine .inl ⟨.normal, t1, d1, m1, h1, hs1, fun e w T D fb cs k hR hT hD hf hfn => ?_⟩
        obtain ⟨T1, D1, w1, e1, todo, q1, ⟨k'', hk1, hk2⟩, q3, q4, q5, q6⟩ := h2 e w T D fb cs (.inBlock j :: k) hR hT hD hf hfn
        rw [hk1] at q1
        exact ⟨T1, D1, w1, e1, k, .head st_block (q1.trans (.one (st_exit (by rw [hk2]; simp [exitTo])))), rfl, q3, q4, q5, q6⟩
      · rename_i hj
        refine .inl ⟨.exit j, t1, d1, m1, h1, hs1, fun e w T D fb cs k hR hT hD hf hfn => ?_⟩
        obtain ⟨T1, D1, w1, e1, todo, q1, ⟨k'', hk1, hk2⟩, q3, q4, q5, q6⟩ := h2 e w T D fb cs (.inBlock id :: k) hR hT hD hf hfn
        have hne : (id == j) = false := by
          cases hb : (id == j) with
          | false => rfl
          | true => have : id = j := by simpa using hb
                    subst this; simp at hj
        exact ⟨T1, D1, w1, e1, todo, .head st_block q1, ⟨k'', hk1, by rw [hk2]; simp [exitTo, hne]⟩, q3, q4, q5, q6⟩
    | ret =>
      refine .inl ⟨.ret, t1, d1, m1, h1, hs1, fun e w T D fb cs k hR hT hD hf hfn => ?_⟩
      obtain ⟨T1, D1, w1, e1, todo, q1, q2, q3, q4, q5, q6⟩ := h2 e w T D fb cs (.inBlock id :: k) hR hT hD hf hfn
      exact ⟨T1, D1, w1, e1, todo, .head st_block q1, q2, q3, q4, q5, q6⟩
  · exact .inr ⟨v, W, t1, d1, m1, h1, hs1, (h2.before (l := [.inBlock id])).head hst⟩

theorem q_loop {fn : FuncId} {a : Code} {ea : EvQ} (ha : QOK P σ G fn [.code a] ea) (fuel : Nat) : QOK P σ G fn [.code (.loop a)] (loopQ ea fuel) := by
  have key : ∀ (fuel : Nat), QOK P σ G fn ([.code a] ++ [.inLoop a]) (loopQ ea fuel) := by
    intro fuel
    induction fuel with
    | zero => intro t d m K Kp hh; cases hh
    | succ n ih =>
      intro t d m K Kp hh hs
      rcases ha t d m (fun x t d m => match x with
        | .normal => loopQ ea n t d m K Kp
        | .exit id => K (.exit id) t d m
        | .ret => K .ret t d m) Kp hh hs with ⟨x, t1, d1, m1, h1, hs1, h2⟩ | ⟨v, W, t1, d1, m1, h1, hs1, h2⟩
      · cases x with
        | normal =>
          have hst : ∀ (T : Array Value) (D : List Deferred) (fb : Frame) (cs : List Frame) (k : List Item) (w : World) (e : Env), RL σ G e m1 w → TR σ e t1 T →
              step P (lone (fr fb T D ([.inLoop a] ++ k)) cs w) = .next (lone (fr fb T D (([.code a] ++ [.inLoop a]) ++ k)) cs w) := fun T D fb cs k w e _ _ => st_inLoop
          rcases ih t1 d1 m1 _ _ h1 hs1 with ⟨x, t2, d2, m2, h3, hs2, h4⟩ | ⟨v, W, t2, d2, m2, h3, hs2, h4⟩
          · exact .inl ⟨x, t2, d2, m2, h3, hs2, h2.normal (h4.head hst)⟩
          · exact .inr ⟨v, W, t2, d2, m2, h3, hs2, h2.panics (h4.head hst)⟩
        | exit id =>
          refine .inl ⟨.exit id, t1, d1, m1, h1, hs1, fun e w T D fb cs k hR hT hD hf hfn => ?_⟩
          obtain ⟨T1, D1, w1, e1, todo, q1, ⟨k'', hk1, hk2⟩, q3, q4, q5, q6⟩ := h2 e w T D fb cs (.inLoop a :: k) hR hT hD hf hfn
          exact ⟨T1, D1, w1, e1, todo, q1, ⟨k'', hk1, by rw [hk2]; simp [exitTo]⟩, q3, q4, q5, q6⟩
        | ret =>
          refine .inl ⟨.ret, t1, d1, m1, h1, hs1, fun e w T D fb cs k hR hT hD hf hfn => ?_⟩
          obtain ⟨T1, D1, w1, e1, todo, q1, q2, q3, q4, q5, q6⟩ := h2 e w T D fb cs (.inLoop a :: k) hR hT hD hf hfn
          exact ⟨T1, D1, w1, e1, todo, q1, q2, q3, q4, q5, q6⟩
      · exact .inr ⟨v, W, t1, d1, m1, h1, hs1, h2.before⟩
  intro t d m K Kp hh hs
  have hst : ∀ (T : Array Value) (D : List Deferred) (fb : Frame) (cs : List Frame) (k : List Item) (w : World) (e : Env), RL σ G e m w → TR σ e t T →
      step P (lone (fr fb T D ([.code (.loop a)] ++ k)) cs w) = .next (lone (fr fb T D (([.code a] ++ [.inLoop a]) ++ k)) cs w) := fun T D fb cs k w e _ _ => st_loop
  rcases key fuel t d m K Kp hh hs with ⟨x, t2, d2, m2, h3, hs2, h4⟩ | ⟨v, W, t2, d2, m2, h3, hs2, h4⟩
  · exact .inl ⟨x, t2, d2, m2, h3, hs2, h4.head hst⟩
  · exact .inr ⟨v, W, t2, d2, m2, h3, hs2, h4.head hst⟩

/-! Operations -/
def PanGoes (P : Program) (g : FuncId) (vs : Array Value) (c : Frame) (cs : List Frame) (w : World) (v' : Value) (w' : World) : Prop :=
  (callFunc g vs).run P w = .ok (.enter g vs) w ∧ Steps P (lone (Frame.enter P g vs .normal) (c :: cs) w) (lone (c.raise [{ v := v', recovered := false }]) cs w')
def SoundQ (P : Program) (σ : Sg) (G : Nat → Bool) (q : QFn) : Prop := ∀ g args m k kp, q (.func g) args m k kp = true → Sat σ m.tab →
  (∃ v m', k v m' = true ∧ Sat σ m'.tab ∧ ∀ (e : Env) (w : World) (f' : Fn) (vs : Array Value) (kd : CallKind) (c : Frame) (cs : List Frame), RL σ G e m w → FnR e (.func g) f' → LR σ e args vs.toList → KindOK (.func g) kd c →
    ∃ v' w' e', CallGoes P kd c cs (CallSem f' vs) w v' w' ∧ VR σ e' v v' ∧ RL σ G e' m' w' ∧ Kept e m w e' m' w') ∨
  (∃ v m', kp v m' = true ∧ Sat σ m'.tab ∧ ∀ (e : Env) (w : World) (vs : Array Value) (c : Frame) (cs : List Frame), RL σ G e m w → LR σ e args vs.toList →
    ∃ v' w' e', PanGoes P g vs c cs w v' w' ∧ VR σ e' v v' ∧ RL σ G e' m' w' ∧ Kept e m w e' m' w')

theorem st_panic {b : Frame} {T : Array Value} {d : List Deferred} {k : List Item} {cs : List Frame} {w w' : World} {ops : Array Oper} {i : Nat} {o : Oper} {rest : List Nat} {v : Value} (ho : ops[i]? = some o) (hw : Region.wanted o (yielded ops T) = true)
    (hb : b.roundOf = none) (hr : (execOp (Act.mk T d).eval o).run P w = .halt (.panic v) w') :
    step P (lone (fr b T d (.inRegion ops (i :: rest) :: k)) cs w) = .next (lone (pf b T d (.inRegion ops (i :: rest) :: k) v) cs w') := by
  refine step_lone_go ?_
  rw [stepG_fr ho hw (.inl hb)]
  simp [stepG.apply, hr, pf, fr, Frame.raise]

/-- one operation that panics -/
def PanSem (P : Program) (σ : Sg) (G : Nat → Bool) (ops : Array Oper) (o : Oper) (t : Tm) (m : M) (v : CV) (m' : M) : Prop :=
  ∀ (e : Env) (w : World) (T : Array Value) (D : List Deferred) (b : Frame) (cs : List Frame) (i : Nat) (rest : List Nat) (kk : List Item), RL σ G e m w → (∀ x, x ∈ o.op.operands → ∀ c, OV G t x c → VR σ e c ((Act.mk T D).eval x)) →
    FrOK false b cs → ops[i]? = some o → ∃ w' e' todo v', Steps P (lone (fr b T D (.inRegion ops (i :: rest) :: kk)) cs w) (lone (pf b T D todo v') cs w') ∧ VR σ e' v v' ∧ RL σ G e' m' w' ∧ Kept e m w e' m' w'
/-- one operation that may panic -/
inductive StepQ (P : Program) (σ : Sg) (G : Nat → Bool) (ops : Array Oper) (o : Oper) (t : Tm) (d : List DF) (m : M) (k : Tm → List DF → M → Bool) (kp : KP) : Prop
  | inl (t' : Tm) (d' : List DF) (m' : M) (h1 : k t' d' m' = true) (h2 : Sat σ m'.tab) (h3 : OperSem P σ G false ops o t d m t' d' m')
  | inr (v : CV) (m' : M) (h1 : kp v m' = true) (h2 : Sat σ m'.tab) (h3 : PanSem P σ G ops o t m v m')

theorem operQ_inv {call : CallFn} (hcall : SoundCall P σ G call) {q : QFn} (hq : SoundQ P σ G q) {PS : FuncId → Bool} {ops : Array Oper} {o : Oper} {t : Tm} {d : List DF} {m : M} {k : Tm → List DF → M → Bool} {kp : KP}
    (hh : operQ P G call q PS ops o t d m k kp = true) (hs : Sat σ m.tab) : StepQ P σ G ops o t d m k kp := by
  have plain : operC P G false call ops o t d m k = true → StepQ P σ G ops o t d m k kp := by
    intro h
    obtain ⟨t', d', m', h1, h2, h3⟩ := operC_inv hcall h hs
    exact .inl t' d' m' h1 h2 h3
  simp only [operQ] at hh
  cases hg : o.guard with
  | some g => rw [hg] at hh; exact plain hh
  | none =>
    rw [hg] at hh
    simp only [] at hh
    have hw : ∀ T, Region.wanted o (yielded ops T) = true := fun T => by simp [Region.wanted, hg]
    split at hh
    · -- panic
      rename_i x hop
      obtain ⟨v, hv, h1⟩ := getO_inv hh
      cases v <;> first | (cases h1; done) | skip
      rename_i ty u
      refine .inr _ m h1 hs fun e w T D b cs i rest kk hR hO hf hi => ?_
      have hx := hO x (by rw [hop]; simp [Op.operands]) _ hv
      have hrun : (execOp (Act.mk T D).eval o).run P w = .halt (.panic ((Act.mk T D).eval x)) w := by
        obtain ⟨dst, op, type, pos, after, guard⟩ := o
        simp only at hop
        subst hop
        generalize hy : (Act.mk T D).eval x = y at hx
        cases hx
        simp [execOp, hy, Instr.panic, goPanic]
      exact ⟨w, e, _, _, .one (st_panic hi (hw T) hf.1 hrun), hx, hR, .refl _ _ _⟩
    · -- a call
      rename_i c hop
      split at hh
      · rename_i f hcal
        obtain ⟨fv, hfv, h1⟩ := getO_inv hh
        split at h1
        · rename_i fn first cap
          split at h1
          · rename_i g
            split at h1
            · rename_i hps
              obtain ⟨as, hal, hav, h2⟩ := getOs_inv h1
              obtain ⟨dst, op, type, pos, after, guard⟩ := o
              obtain ⟨callee, ⟨args⟩, ats⟩ := c
              simp only at hop hcal hg
              subst hop; subst hcal; subst hg
              have hall : ∀ {e : Env} {T : Array Value} {D : List Deferred}, (∀ x, x ∈ (Op.call ⟨.value f, ⟨args⟩, ats⟩).operands → ∀ c, OV G t x c → VR σ e c ((Act.mk T D).eval x)) →
                  ∃ fa fc : Array Value, (Act.mk T D).eval f = .func (.func g) fa fc ∧ LR σ e (first ++ as ++ cap) ((fa ++ (args.map (Act.mk T D).eval).toArray ++ fc).toList) := by
                intro e T D hO
                have hfr := hO f (by simp [Op.operands, Call.operands]) _ hfv
                generalize hfx : (Act.mk T D).eval f = fx at hfr
                cases hfr with
                | fn _ ha hb va vb =>
                  rename_i fa fc
                  have hargs : LR σ e as (args.map (Act.mk T D).eval) := getOs_LR hal hav (fun x hx c hc => hO x (by simp [Op.operands, Call.operands]; exact .inr hx) c hc)
                  refine ⟨fa, fc, rfl, ?_⟩
                  have := (LR.append (LR.append ⟨ha, va⟩ hargs) ⟨hb, vb⟩)
                  simpa using this
              have hrun : ∀ {T : Array Value} {D : List Deferred} {fa fc : Array Value} (w : World), (Act.mk T D).eval f = .func (.func g) fa fc →
                  (execOp (Act.mk T D).eval ⟨dst, .call ⟨.value f, ⟨args⟩, ats⟩, type, pos, after, none⟩).run P w = (callFunc g (fa ++ (args.map (Act.mk T D).eval).toArray ++ fc)).run P w := by
                intro T D fa fc w hfx
                simp [execOp, resolve, hfx, Deferred.ofValue, invoke]
              rcases hq _ _ _ _ _ h2 hs with ⟨v, m', h3, h4, h5⟩ | ⟨v, m', h3, h4, h5⟩
              · obtain ⟨t', h6, hp⟩ := putT_inv h3
                refine .inl t' d m' h6 h4 (.act (v := v) (fun e T _ => hw T) rfl (fun e w T D b cs i rest kk hR hO hf hi _ => ?_) hp)
                obtain ⟨fa, fc, hfx, hl⟩ := hall hO
                obtain ⟨v', w', e', q1, q2, q3, q4⟩ := h5 e w (.func g) _ .normal (fr b T D (.inRegion ops (i :: rest) :: kk)) cs hR (.func g) hl (.inl rfl)
                refine ⟨v', w', e', ?_, q2, q3, q4⟩
                simp only [CallGoes, CallSem] at q1
                have hr := hrun w hfx
                split at q1
                · rename_i v1 w1 hr1
                  obtain ⟨rfl, rfl⟩ := q1
                  exact .one (st_value hi (hw T) (.inr (fun _ h => by cases h)) (.inl (hr.trans hr1)))
                · rename_i g1 as1 w1 hr1
                  refine .head (st_enter hi (hw T) (.inr (fun _ h => by cases h)) (hr.trans hr1)) ?_
                  have := q1
                  simp only [backTo] at this
                  rw [finish_fr hi] at this
                  exact this
                · rename_i l g1 tm a1 b1 w1 hr1
                  refine .head (st_round hi (hw T) (.inr (fun _ h => by cases h)) (hr.trans hr1)) ?_
                  have := q1
                  simp only [backTo] at this
                  rw [finish_fr hi] at this
                  exact this
                · exact q1.elim
              · refine .inr v m' h3 h4 fun e w T D b cs i rest kk hR hO hf hi => ?_
                obtain ⟨fa, fc, hfx, hl⟩ := hall hO
                obtain ⟨v', w', e', ⟨q0, q1⟩, q2, q3, q4⟩ := h5 e w _ (fr b T D (.inRegion ops (i :: rest) :: kk)) cs hR hl
                exact ⟨w', e', .inRegion ops (i :: rest) :: kk, v', .head (st_enter hi (hw T) (.inr (fun _ h => by cases h)) ((hrun w hfx).trans q0)) q1, q2, q3, q4⟩
            · exact plain h1
          · exact plain h1
        · exact plain h1
      · exact plain hh
    · exact plain hh

theorem opsQ_inv {call : CallFn} (hcall : SoundCall P σ G call) {q : QFn} (hq : SoundQ P σ G q) {PS : FuncId → Bool} {ops : Array Oper} {fn : FuncId} : ∀ {l : List Oper} {s : Nat}, (∀ n, l[n]? = ops[s + n]?) →
    ∀ t d m K Kp, opsQ P G call q PS ops l t d m K Kp = true → Sat σ m.tab →
    (∃ t' d' m', K t' d' m' = true ∧ Sat σ m'.tab ∧ GoN P σ G fn [.inRegion ops (List.range' s l.length)] t d m .normal t' d' m') ∨
    (∃ v W t' d' m', Kp v W t' d' m' = true ∧ Sat σ m'.tab ∧ GoP P σ G fn [.inRegion ops (List.range' s l.length)] t d m v W t' d' m')
  | [], s, hl, t, d, m, K, Kp, hh, hs => .inl ⟨t, d, m, hh, hs, fun e w T D b cs k hR hT hD hf _ => ⟨T, D, w, e, k, .one st_region_end, rfl, hR, hT, hD, .refl _ _ _⟩⟩
  | o :: l, s, hl, t, d, m, K, Kp, hh, hs => by
    have ho : ops[s]? = some o := by have := hl 0; simpa using this.symm
    cases operQ_inv hcall hq (show operQ P G call q PS ops o t d m (fun t d m => opsQ P G call q PS ops l t d m K Kp) (fun v m => Kp v [] t d m) = true from hh) hs with
    | inl t1 d1 m1 h1 hs1 h2 =>
      have first : ∀ (e : Env) (w : World) (T : Array Value) (D : List Deferred) (b : Frame) (cs : List Frame) (k : List Item), RL σ G e m w → TR σ e t T → DR σ e d D → FrOK false b cs →
          ∃ T' D' w' e', Steps P (lone (fr b T D ([.inRegion ops (List.range' s (o :: l).length)] ++ k)) cs w) (lone (fr b T' D' ([.inRegion ops (List.range' (s + 1) l.length)] ++ k)) cs w') ∧ RL σ G e' m1 w' ∧ TR σ e' t1 T' ∧ DR σ e' d1 D' ∧ Kept e m w e' m1 w' := by
        intro e w T D b cs k hR hT hD hf
        have := h2.step (rest := List.range' (s + 1) l.length) (k := k) hR hT hD hf ho
        rw [List.length_cons, List.range'_succ]
        exact this
      rcases opsQ_inv hcall hq (fn := fn) (l := l) (s := s + 1) (fun n => by have := hl (n + 1); rw [show s + 1 + n = s + (n + 1) by omega, ← this]; simp) t1 d1 m1 K Kp h1 hs1 with ⟨t', d', m', h3, h4, h5⟩ | ⟨v, W, t', d', m', h3, h4, h5⟩
      · refine .inl ⟨t', d', m', h3, h4, fun e w T D b cs k hR hT hD hf hfn => ?_⟩
        obtain ⟨T1, D1, w1, e1, g1, g2, g3, g4, g5⟩ := first e w T D b cs k hR hT hD hf
        obtain ⟨T', D', w', e', todo, q1, q2, q3, q4, q5, q6⟩ := h5 e1 w1 T1 D1 b cs k g2 g3 g4 hf hfn
        exact ⟨T', D', w', e', todo, g1.trans q1, q2, q3, q4, q5, g5.trans q6⟩
      · refine .inr ⟨v, W, t', d', m', h3, h4, fun e w T D b cs k hR hT hD hf hfn => ?_⟩
        obtain ⟨T1, D1, w1, e1, g1, g2, g3, g4, g5⟩ := first e w T D b cs k hR hT hD hf
        obtain ⟨T', D', w', e', todo, v', q1, q2, q3, q4, q5, q6⟩ := h5 e1 w1 T1 D1 b cs k g2 g3 g4 hf hfn
        exact ⟨T', D', w', e', todo, v', g1.trans q1, q2, q3, q4, q5, g5.trans q6⟩
    | inr v m' h1 hs1 h2 =>
      refine .inr ⟨v, [], t, d, m', h1, hs1, fun e w T D b cs k hR hT hD hf hfn => ?_⟩
      obtain ⟨w', e', todo, v', q1, q2, q3, q4⟩ := h2 e w T D b cs s (List.range' (s + 1) l.length) k hR (fun x _ c hc => hT.ops hR x c hc) hf ho
      refine ⟨T, D, w', e', todo, v', ?_, q2, q3, TR.w (TR.mono q4.ext hT), hD.mono q4.ext, q4⟩
      rw [List.length_cons, List.range'_succ]
      exact q1

/-! Drawn regions -/
theorem planQ_inv {call : CallFn} (hcall : SoundCall P σ G call) {q : QFn} (hq : SoundQ P σ G q) {PS : FuncId → Bool} {ops : Array Oper} : ∀ {l : List Go.Ev.PS} {S : St} {K : Tm → List DF → M → Bool} {Kp : KPX}, planQ P G call q PS ops l S.t S.d S.m K Kp = true → Sat σ S.m.tab →
    (∃ f : Nat → St, f 0 = S ∧ (∀ p s, l[p]? = some s → StepAt P σ G false ops s (f p) (f (p + 1))) ∧ K (f l.length).t (f l.length).d (f l.length).m = true ∧ Sat σ (f l.length).m.tab) ∨
    (∃ (N : Nat) (f : Nat → St) (v : CV) (m' : M) (s : Go.Ev.PS) (o : Oper), f 0 = S ∧ (∀ p s, p < N → l[p]? = some s → StepAt P σ G false ops s (f p) (f (p + 1))) ∧ l[N]? = some s ∧ s.isCh = true ∧ ops[s.ix]? = some o ∧
      PanSem P σ G ops o (f N).t (f N).m v m' ∧ Kp v (dsts ops) (f N).t (f N).d m' = true ∧ Sat σ m'.tab)
  | [], S, K, Kp, h, hs => .inl ⟨fun _ => S, rfl, fun p s hp => by simp at hp, h, hs⟩
  | s :: l, S, K, Kp, h, hs => by
    have key : (∃ S1 : St, StepAt P σ G false ops s S S1 ∧ planQ P G call q PS ops l S1.t S1.d S1.m K Kp = true ∧ Sat σ S1.m.tab) ∨
        (∃ v m' o, s.isCh = true ∧ ops[s.ix]? = some o ∧ PanSem P σ G ops o S.t S.m v m' ∧ Kp v (dsts ops) S.t S.d m' = true ∧ Sat σ m'.tab) := by
      cases s with
      | fl i =>
        left
        have h' : (match ops[i]? with | some o => operC P G false call ops o S.t S.d S.m fun t d m => planQ P G call q PS ops l t d m K Kp | none => false) = true := h
        split at h'
        · rename_i o ho
          obtain ⟨t', d', m', h1, h2, h3⟩ := operC_inv hcall h' hs
          exact ⟨⟨t', d', m'⟩, ⟨o, ho, h3, fun i again he => by cases he⟩, h1, h2⟩
        · cases h'
      | ch i again =>
        have h' : (match ops[i]? with | some o => operQ P G call q PS ops o S.t S.d S.m (fun t d m => isTrue (again.all fun j => againC P G ops t m j) (planQ P G call q PS ops l t d m K Kp)) (fun v m => Kp v (dsts ops) S.t S.d m) | none => false) = true := h
        split at h'
        · rename_i o ho
          cases operQ_inv hcall hq h' hs with
          | inl t' d' m' h1 h2 h3 =>
            left
            obtain ⟨h4, h5⟩ := isTrue_inv h1
            refine ⟨⟨t', d', m'⟩, ⟨o, ho, h3, fun i' again' he j hj => ?_⟩, h5, h2⟩
            cases he
            exact againC_inv (List.all_eq_true.1 h4 j hj) h2
          | inr v m' h1 h2 h3 => exact .inr ⟨v, m', o, rfl, ho, h3, h1, h2⟩
        · cases h'
    rcases key with ⟨S1, h1, h2, h3⟩ | ⟨v, m', o, hc, ho, hp, h1, h2⟩
    · rcases planQ_inv hcall hq h2 h3 with ⟨f, hf0, hf, hK, hS⟩ | ⟨N, f, v, m', s', o, hf0, hf, a1, a2, a3, a4, a5, a6⟩
      · refine .inl ⟨fun p => match p with | 0 => S | p + 1 => f p, rfl, fun p s' hp => ?_, hK, hS⟩
        cases p with
        | zero => simp at hp; subst hp; show StepAt P σ G false ops s S (f 0); rw [hf0]; exact h1
        | succ p => exact hf p s' (by simpa using hp)
      · refine .inr ⟨N + 1, fun p => match p with | 0 => S | p + 1 => f p, v, m', s', o, rfl, fun p s'' hlt hp => ?_, by simpa using a1, a2, a3, a4, a5, a6⟩
        cases p with
        | zero => simp at hp; subst hp; show StepAt P σ G false ops s S (f 0); rw [hf0]; exact h1
        | succ p => exact hf p s'' (by omega) (by simpa using hp)
    · exact .inr ⟨0, fun _ => S, v, m', s, o, rfl, fun p s' hlt => by omega, rfl, hc, ho, hp, h1, h2⟩

theorem go_simP {ops : Array Oper} {plan : List Go.Ev.PS} {S : Nat → St} {e0 : Env} {w0 : World} {N : Nat} (hrun : Run P σ G false ops plan N S) {sN : Go.Ev.PS} (hsN : plan[N]? = some sN) {oN : Oper} (hoN : ops[sN.ix]? = some oN) {v : CV} {m' : M} (hpan : PanSem P σ G ops oN (S N).t (S N).m v m')
    {md : Region.Mode} (r : Nat → Nat) (hr : ∀ (i : Nat) (o : Oper) (e : Edge), ops[i]? = some o → e ∈ o.after → Region.binds md e = true → e.on < ops.size ∧ r e.on < r i)
    (b : Frame) (cs : List Frame) (hfr : FrOK false b cs) (k : List Item) : ∀ (fuel q : Nat) (listed : Array Bool) (c : Nat) (e : Env) (T : Array Value) (D : List Deferred) (w : World), listed.size = ops.size → nf listed.toList ≤ fuel → c ≤ N →
    Inv P σ G ops plan S e0 w0 (fun i => listed[i]? = some true) c e T D w → (∀ s, plan[c]? = some s → s.isCh = true) →
    ∃ e' T' D' w' todo v', Steps P (lone (fr b T D (.inRegion ops (Region.linearise.go md ops fuel q listed []) :: k)) cs w) (lone (pf b T' D' todo v') cs w') ∧ VR σ e' v v' ∧ RL σ G e' m' w' ∧ DR σ e' (S N).d D' ∧ TRW σ e' (dsts ops) (S N).t T' ∧
      Kept e0 (S 0).m w0 e' m' w' := by
  intro fuel
  induction fuel with
  | zero =>
    intro q listed c e T D w hsz hn hcN hI _
    have hlt := hrun.wf.bnd N sN hsN
    have := nf_zero (by omega : nf listed.toList = 0) sN.ix (by simpa [hsz] using hlt)
    exact absurd (by simpa using this) (hI.aft N sN hcN hsN)
  | succ fuel ih =>
    intro q listed c e T D w hsz hn hcN hI hch
    have wf := hrun.wf
    have hgo : Region.linearise.go md ops (fuel + 1) q listed [] = match (Region.ready md ops listed)[q % (Region.ready md ops listed).length]? with
        | some i => i :: Region.linearise.go md ops fuel (q / (Region.ready md ops listed).length) (listed.setIfInBounds i true) []
        | none => [] := by
      simp only [Region.linearise.go]
      change (match (Region.ready md ops listed)[q % (Region.ready md ops listed).length]? with
        | some i => Region.linearise.go md ops fuel (q / (Region.ready md ops listed).length) (listed.setIfInBounds i true) [i]
        | none => [].reverse) = _
      split
      · rw [linearise_go_acc]; rfl
      · rfl
    rw [hgo]
    cases hi : (Region.ready md ops listed)[q % (Region.ready md ops listed).length]? with
    | none =>
      have hnil : Region.ready md ops listed = [] := by
        cases hrl : Region.ready md ops listed with
        | nil => rfl
        | cons x xs =>
          rw [hrl] at hi
          have hlt : q % (x :: xs).length < (x :: xs).length := Nat.mod_lt _ (by simp)
          rw [List.getElem?_eq_getElem hlt] at hi; cases hi
      have hltN := wf.bnd N sN hsN
      have hlt : sN.ix < listed.size := by omega
      have hfin := hI.aft N sN hcN hsN
      refine absurd ?_ hfin
      show listed[sN.ix]? = some true
      rw [Array.getElem?_eq_getElem hlt]
      cases hb : listed[sN.ix] with
      | true => rfl
      | false => exact absurd hnil (ready_ne hsz r hr _ sN.ix rfl hltN (by rw [Array.getElem?_eq_getElem hlt, hb]))
    | some i =>
      obtain ⟨h1, h2, o, h3, h4⟩ := mem_ready.1 (List.mem_of_getElem? hi)
      have hlt : i < listed.size := by omega
      have hfalse : listed[i]? = some false := by
        rw [Array.getElem?_eq_getElem hlt]
        simp only [Array.getD_eq_getD_getElem?, Array.getElem?_eq_getElem hlt, Option.getD_some] at h2
        rw [h2]
      obtain ⟨p, s, hp, rfl⟩ := wf.sur i h1
      have hnd : ¬ listed[s.ix]? = some true := by rw [hfalse]; simp
      have hrdy : ∀ o' (e : Edge), ops[s.ix]? = some o' → e ∈ o'.after → Region.binds .any e = true → listed[e.on]? = some true := by
        intro o' e ho' he hb
        rw [h3] at ho'; cases ho'
        have := h4 e he (binds_any hb md)
        simp only [Array.getD_eq_getD_getElem?] at this
        cases hx : listed[e.on]? with
        | none => rw [hx] at this; cases this
        | some y => rw [hx] at this; simp at this; rw [this]
      have hdone : (fun j => listed[j]? = some true ∨ j = s.ix) = fun j => (listed.setIfInBounds s.ix true)[j]? = some true := by
        funext j
        apply propext
        by_cases hj : j = s.ix
        · subst hj; simp [hlt]
        · rw [Array.getElem?_setIfInBounds_ne (fun h => hj h.symm)]; simp [hj]
      have hnf : nf (listed.setIfInBounds s.ix true).toList ≤ fuel := by
        have := nf_set listed.toList s.ix (by simpa using hfalse)
        rw [Array.toList_setIfInBounds]
        omega
      rcases Nat.lt_or_ge p c with hpc | hpc
      · have hsf : s.isCh = false := by
          cases hh : s.isCh with
          | false => rfl
          | true => exact absurd (hI.bef p s hpc hp hh) hnd
        obtain ⟨e1, T1, w1, q1, q2⟩ := hI.float hrun hp hpc hsf hnd hrdy b cs (Region.linearise.go md ops fuel (q / (Region.ready md ops listed).length) (listed.setIfInBounds s.ix true) []) k
        rw [hdone] at q2
        obtain ⟨e', T', D', w', todo, v', r1, r2⟩ := ih _ _ c e1 T1 D w1 (by simpa using hsz) hnf hcN q2 hch
        exact ⟨e', T', D', w', todo, v', q1.trans r1, r2⟩
      · have hpe : p = c := by
          rcases Nat.lt_or_ge c p with hlt' | hge
          · exfalso
            have hplt : p < plan.length := by
              rcases Nat.lt_or_ge p plan.length with h | h
              · exact h
              · rw [List.getElem?_eq_none h] at hp; cases hp
            have hcs := List.getElem?_eq_getElem (show c < plan.length by omega)
            have hanc := wf.chn p c s _ hp hcs hlt' (hch _ hcs)
            exact hI.aft c _ (Nat.le_refl _) hcs (anc_done hI.clo hanc hrdy)
          · omega
        subst hpe
        rcases Nat.lt_or_ge p N with hpN | hpN
        · obtain ⟨e1, T1, D1, w1, q1, q2⟩ := hI.chain hrun hpN hp (hch s hp) hrdy b cs hfr (Region.linearise.go md ops fuel (q / (Region.ready md ops listed).length) (listed.setIfInBounds s.ix true) []) k
          rw [hdone] at q2
          obtain ⟨c1, hc1, q3, q4⟩ := q2.next hrun hpN
          obtain ⟨e', T', D', w', todo, v', r1, r2⟩ := ih _ _ c1 e1 T1 D1 w1 (by simpa using hsz) hnf hc1 q3 q4
          exact ⟨e', T', D', w', todo, v', q1.trans r1, r2⟩
        · obtain rfl : p = N := by omega
          rw [hsN] at hp; cases hp
          obtain ⟨w', e', todo, v', q1, q2, q3, q4⟩ := hpan e w T D b cs sN.ix (Region.linearise.go md ops fuel (q / (Region.ready md ops listed).length) (listed.setIfInBounds sN.ix true) []) k hI.rl (hI.opers wf hsN hoN hrdy) hfr hoN
          refine ⟨e', T, D, w', todo, v', q1, q2, q3, hI.dr.mono q4.ext, ?_, hI.kpt.trans q4⟩
          intro i
          have := hI.slt i
          cases hg : (S p).t.get? i with
          | none => rw [hg] at this; exact this
          | some cv =>
            rw [hg] at this
            obtain ⟨u, a1, a2⟩ := this
            refine ⟨u, a1, a2.imp (fun ⟨p', s', o', b1, b2, b3, b4, b5⟩ => ?_) (fun h => h.mono q4.ext)⟩
            exact List.mem_filterMap.2 ⟨o', by simpa using Array.mem_of_getElem? b4, b5⟩

theorem draw_pan {ops : Array Oper} {t : Tm} {d : List DF} {m : M} (wf : DrawWF P ops (planOf P ops)) {N : Nat} {f : Nat → St} (hf0 : f 0 = ⟨t, d, m⟩) (hf : ∀ p s, p < N → (planOf P ops)[p]? = some s → StepAt P σ G false ops s (f p) (f (p + 1)))
    {sN : Go.Ev.PS} (hsN : (planOf P ops)[N]? = some sN) (hcN : sN.isCh = true) {oN : Oper} (hoN : ops[sN.ix]? = some oN) {v : CV} {m' : M} (hpan : PanSem P σ G ops oN (f N).t (f N).m v m')
    (e : Env) (w : World) (T : Array Value) (D : List Deferred) (b : Frame) (cs : List Frame) (k : List Item) (q : Nat) (hR : RL σ G e m w) (hT : TR σ e t T) (hD : DR σ e d D) (hfr : FrOK false b cs) :
    ∃ T' D' w' e' todo v', Steps P (lone (fr b T D (.inRegion ops (Region.schedule (P.follows .mixedOrders) ops q) :: k)) cs w) (lone (pf b T' D' todo v') cs w') ∧ VR σ e' v v' ∧ RL σ G e' m' w' ∧ TRW σ e' (dsts ops) (f N).t T' ∧
      DR σ e' (f N).d D' ∧ Kept e m w e' m' w' := by
  have hrun : Run P σ G false ops (planOf P ops) N f := ⟨wf, fun s hs => by rw [hsN] at hs; cases hs; exact hcN, hf⟩
  have hinit : Inv P σ G ops (planOf P ops) f e w (fun i => (Array.replicate ops.size false)[i]? = some true) 0 e T D w := by
    have hnone : ∀ (i : Nat), ¬ (Array.replicate ops.size false)[i]? = some true := by
      intro i h
      rw [Array.getElem?_replicate] at h
      split at h <;> cases h
    refine ⟨Nat.zero_le _, fun p s hp => by omega, fun p s _ _ => hnone _, fun i o ed hi => absurd hi (hnone i), by rw [hf0]; exact hR, by rw [hf0]; exact hD, fun i => ?_, fun p s o hp => by omega, fun p q hpq hq => ?_, by rw [hf0]; exact .refl _ _ _⟩
    · rw [hf0]
      have := hT i
      show match t.get? i with | some cv => _ | none => _
      cases hg : t.get? i with
      | none => rw [hg] at this; exact this
      | some cv => rw [hg] at this; obtain ⟨v, h1, h2⟩ := this; exact ⟨v, h1, .inr h2⟩
    · have h1 : p = 0 := by omega
      have h2 : q = 0 := by omega
      rw [h1, h2]; exact Nat.le_refl _
  obtain ⟨c0, hc0, hI, hch⟩ := hinit.next hrun (Nat.zero_le _)
  have hnf : nf (Array.replicate ops.size false).toList ≤ ops.size := by
    have := List.countP_le_length (p := fun (b : Bool) => !b) (l := (Array.replicate ops.size false).toList)
    simpa [nf] using this
  have fin : ∀ (md : Region.Mode) (q : Nat) (r : Nat → Nat), (∀ (i : Nat) (o : Oper) (e : Edge), ops[i]? = some o → e ∈ o.after → Region.binds md e = true → e.on < ops.size ∧ r e.on < r i) →
      ∃ T' D' w' e' todo v', Steps P (lone (fr b T D (.inRegion ops (Region.linearise md ops q) :: k)) cs w) (lone (pf b T' D' todo v') cs w') ∧ VR σ e' v v' ∧ RL σ G e' m' w' ∧ TRW σ e' (dsts ops) (f N).t T' ∧ DR σ e' (f N).d D' ∧ Kept e m w e' m' w' := by
    intro md q r hr
    obtain ⟨e', T', D', w', todo, v', q1, q2, q3, q4, q5, q6⟩ := go_simP hrun hsN hoN hpan r hr b cs hfr k ops.size q (Array.replicate ops.size false) c0 e T D w (by simp) hnf hc0 hI hch
    exact ⟨T', D', w', e', todo, v', q1, q2, q3, q5, q4, by have := q6; rw [hf0] at this; exact this⟩
  have rtxt : ∀ (md : Region.Mode), (md = .any ∨ md = .text) → ∀ (i : Nat) (o : Oper) (e : Edge), ops[i]? = some o → e ∈ o.after → Region.binds md e = true → e.on < ops.size ∧ id e.on < id i := by
    intro md hmd i o ed ho he hb
    have ht : Region.binds .text ed = true := by
      rcases hmd with h | h
      · subst h; exact binds_any hb .text
      · subst h; exact hb
    have := wf.txt i o ed ho he ht
    have hi : i < ops.size := by
      rcases Nat.lt_or_ge i ops.size with h | h
      · exact h
      · rw [Array.getElem?_eq_none h] at ho; cases ho
    exact ⟨by omega, this⟩
  unfold Region.schedule
  split
  · exact fin .any q id (rtxt .any (.inl rfl))
  · rename_i hmix
    simp only [Bool.or_eq_true, Bool.not_eq_true', not_or, Bool.not_eq_false] at hmix
    split
    · exact fin .text _ id (rtxt .text (.inr rfl))
    · obtain ⟨r, hr⟩ := wf.gcc hmix.2
      exact fin .gc _ r hr

theorem codeQ_ok {call : CallFn} (hng : NoCount P) (hcall : SoundCall P σ G call) (hdraw : ∀ rd, DrawOK P σ G rd call) {q : QFn} (hq : SoundQ P σ G q) {PS : FuncId → Bool} (fn : FuncId) (fuel : Nat) (c : Code) :
    QOK P σ G fn [.code c] (codeQ P G fn call q PS fuel c) := by
  have plain : ∀ (c : Code) (ev : EvQ), (∀ t d m k kp, ev t d m k kp = codeC P G fn false call fuel c t d m k) → QOK P σ G fn [.code c] ev := by
    intro c ev h t d m K Kp hh hs
    rw [h] at hh
    exact qok_code (codeC_ok hng hcall hdraw fn false fuel c) t d m K Kp hh hs
  have no : ∀ c, QOK P σ G fn [.code c] (fun _ _ _ _ _ => false) := fun c t d m K Kp hh => by cases hh
  induction c with
  | skip => exact plain _ _ fun _ _ _ _ _ => rfl
  | region id ops draw =>
    intro t d m K Kp hh hs
    cases draw with
    | true =>
      obtain ⟨hok, h1⟩ := isTrue_inv (show isTrue (drawOk P ops) (planQ P G call q PS ops (planOf P ops) t d m (fun t d m => K .normal t d m) Kp) = true from hh)
      have wf := drawOk_inv hok
      rcases planQ_inv hcall hq (S := ⟨t, d, m⟩) h1 hs with ⟨f, hf0, hf, hK, hS⟩ | ⟨N, f, v, m', s, o, hf0, hf, a1, a2, a3, a4, a5, a6⟩
      · refine .inl ⟨.normal, _, _, _, hK, hS, fun e w T D b cs k hR hT hD hfr _ => ?_⟩
        obtain ⟨T', D', w', e', q1, q2, q3, q4, q5⟩ := draw_run wf hf0 hf e { w with drawn := w.drawn + 1 } T D b cs k (w.tape w.drawn (.order b.fn id)) (hR.drawn _) hT hD hfr
        exact ⟨T', D', w', e', k, .head st_region_draw (q1.trans (.one st_region_end)), rfl, q2, q3, q4, (Kept.drawn _).trans q5⟩
      · refine .inr ⟨v, dsts ops, _, _, _, a5, a6, fun e w T D b cs k hR hT hD hfr _ => ?_⟩
        obtain ⟨T', D', w', e', todo, v', q1, q2, q3, q4, q5, q6⟩ := draw_pan wf hf0 hf a1 a2 a3 a4 e { w with drawn := w.drawn + 1 } T D b cs k (w.tape w.drawn (.order b.fn id)) (hR.drawn _) hT hD hfr
        exact ⟨T', D', w', e', todo, v', .head st_region_draw q1, q2, q3, q4, q5, (Kept.drawn _).trans q6⟩
    | false =>
      have hst : ∀ (T : Array Value) (D : List Deferred) (fb : Frame) (cs : List Frame) (k : List Item) (w : World) (e : Env), RL σ G e m w → TR σ e t T →
          step P (lone (fr fb T D ([.code (.region id ops false)] ++ k)) cs w) = .next (lone (fr fb T D ([.inRegion ops (List.range' 0 ops.toList.length)] ++ k)) cs w) := by
        intro T D fb cs k w e _ _
        rw [show List.range' 0 ops.toList.length = List.range ops.size by simp [List.range_eq_range']]
        exact st_region
      rcases opsQ_inv hcall hq (fn := fn) (PS := PS) (l := ops.toList) (s := 0) (fun n => by simp) t d m (fun t d m => K .normal t d m) Kp hh hs with ⟨t', d', m', h1, h2, h3⟩ | ⟨v, W, t', d', m', h1, h2, h3⟩
      · exact .inl ⟨.normal, t', d', m', h1, h2, h3.head hst⟩
      · exact .inr ⟨v, W, t', d', m', h1, h2, h3.head hst⟩
  | seq a b iha ihb => exact q_seq iha ihb
  | cond c a b iha ihb => exact q_cond iha ihb
  | block id a iha => exact q_block iha
  | loop a iha => exact q_loop iha fuel
  | rangeFunc f ps a b _ _ => exact plain _ _ fun _ _ _ _ _ => rfl
  | exit id => exact plain _ _ fun _ _ _ _ _ => rfl
  | scope c _ => exact no _
  | label l => exact plain _ _ fun _ _ _ _ _ => rfl
  | goto l => exact no _
  | ret => exact plain _ _ fun _ _ _ _ _ => rfl
  | refuse s => exact no _

end
end Go.Ev

namespace Go.Ev

section
variable {P : Program} {σ : Sg} {G : Nat → Bool}

/-! Calls -/
theorem st_raise {b c : Frame} {T : Array Value} {todo : List Item} {v : Value} {cs : List Frame} {w : World} {fn : Func} (hf : P.funcs[b.fn]? = some fn) :
    step P (lone (pf b T [] todo v) (c :: cs) w) = .next (lone (c.raise [{ v := v, recovered := false }]) cs w) :=
  step_lone_go (by simp [stepG, unwind, Frame.catches, pf, fr, hf])

theorem callStepQ_ok {call : CallFn} (hng : NoCount P) (hcall : SoundCall P σ G call) (hdraw : ∀ rd, DrawOK P σ G rd call) {q : QFn} (hq : SoundQ P σ G q) {PS : FuncId → Bool} (fuel : Nat) : SoundQ P σ G (callStepQ P G fuel call q PS) := by
  intro f args m k kp hh hs
  simp only [callStepQ] at hh
  split at hh
  · rename_i fn hfn
    split at hh
    · rename_i cb hbody
      obtain ⟨t, h1, hin, ht⟩ := setArgs_inv hh
      have henter : ∀ (vs : Array Value) (kd : CallKind), Frame.enter P f vs kd = fr { fn := f, tmps := #[], todo := [], defers := [], mode := .run, kind := kd } (vs ++ Array.replicate (fn.ntmps - vs.size) undef) [] [.code cb] := by
        intro vs kd
        simp [Frame.enter, fr, hfn, hbody]
      rcases codeQ_ok hng hcall hdraw hq f fuel cb t [] m _ _ h1 hs with ⟨x, t1, d1, m1, h2, hs1, h3⟩ | ⟨v, W, t1, d1, m1, h2, hs1, h3⟩
      · left
        have h2' : (defersC call d1 m1 fun m => resultsC P fn.results.toList t1 m fun vs => match vs with
              | [v] => k v m
              | vs => k (.tup vs) m) = true ∧ ∀ id, x ≠ .exit id := by
          cases x with
          | normal => exact ⟨h2, by simp⟩
          | exit id => cases h2
          | ret => exact ⟨h2, by simp⟩
        obtain ⟨m2, h4, hs2, h5⟩ := defersC_inv hcall h2'.1 hs1
        obtain ⟨vs, h6, h7⟩ := results_run (P := P) (σ := σ) (fn := fn) h4
        have h6' : k (oneOr vs) m2 = true := by
          match vs, h6 with
          | [], h6 => exact h6
          | [v], h6 => exact h6
          | v :: v' :: vs, h6 => exact h6
        refine ⟨oneOr vs, m2, h6', hs2, fun e w f' us kd c cs hR hf hv hk => ?_⟩
        cases hf
        have hkd : kd = .normal ∨ (kd = .deferred ∧ c.mode = .returning) := hk.imp id (fun h => ⟨h.1, h.2.1⟩)
        let b : Frame := { fn := f, tmps := #[], todo := [], defers := [], mode := .run, kind := kd }
        have hfo : FrOK false b (c :: cs) := ⟨rfl, hkd.imp id (fun h => ⟨h.1, c, cs, rfl, .inl h.2⟩)⟩
        obtain ⟨T1, D1, w1, e1, todo, q1, q2, q3, q4, q5, q6⟩ := h3 e w _ [] b (c :: cs) [] hR (entry_TR hv hin ht) .nil hfo rfl
        have hret : ∃ todo', Steps P (lone (fr b T1 D1 todo) (c :: cs) w1) (lone (rf b T1 D1 todo') (c :: cs) w1) := by
          cases x with
          | normal => rw [show todo = [] from q2]; exact ⟨_, .one (st_leave rfl)⟩
          | exit id => exact absurd rfl (h2'.2 id)
          | ret => obtain ⟨k'', rfl⟩ := q2; exact ⟨_, .one (st_ret' rfl)⟩
        obtain ⟨todo', hst⟩ := hret
        obtain ⟨w2, e2, r1, r2, r3⟩ := h5 e1 w1 D1 b T1 todo' (c :: cs) q3 q5
        obtain ⟨v, s1, s2⟩ := h7 r2.hr (q4.mono r3.ext)
        refine ⟨v, w2, e2, ?_, s2, r2, q6.trans r3⟩
        simp only [CallGoes, CallSem, callFunc_body hng hfn hbody]
        rw [henter]
        exact q1.trans (hst.trans (r1.trans (.one (st_return (b := b) hfn s1 hkd))))
      · right
        cases d1 with
        | cons x d1 => cases h2
        | nil =>
          refine ⟨v, m1, h2, hs1, fun e w us c cs hR hv => ?_⟩
          let b : Frame := { fn := f, tmps := #[], todo := [], defers := [], mode := .run, kind := .normal }
          have hfo : FrOK false b (c :: cs) := ⟨rfl, .inl rfl⟩
          obtain ⟨T1, D1, w1, e1, todo, v', q1, q2, q3, q4, q5, q6⟩ := h3 e w _ [] b (c :: cs) [] hR (entry_TR hv hin ht) .nil hfo rfl
          cases q5
          refine ⟨v', w1, e1, ⟨callFunc_body hng hfn hbody us w, ?_⟩, q2, q3, q6⟩
          rw [henter]
          exact q1.trans (.one (st_raise (b := b) hfn))
    · cases hh
  · cases hh

theorem callQ_ok {call : CallFn} (hng : NoCount P) (hcall : SoundCall P σ G call) (hdraw : ∀ rd, DrawOK P σ G rd call) {PS : FuncId → Bool} (fuel : Nat) : ∀ depth, SoundQ P σ G (callQ P G fuel call PS depth)
  | 0 => fun g args m k kp hh => by cases hh
  | depth + 1 => callStepQ_ok hng hcall hdraw (callQ_ok hng hcall hdraw fuel depth) fuel

/-! Recovering -/
def panM (v : Value) (r : Bool) : FrameMode := .panicking [{ v := v, recovered := r }]
theorem st_recovers {b c0 : Frame} {T : Array Value} {d : List Deferred} {k : List Item} {cs : List Frame} {w w' : World} {ops : Array Oper} {i : Nat} {o : Oper} {rest : List Nat} {v : Value} (ho : ops[i]? = some o) (hw : Region.wanted o (yielded ops T) = true)
    (hd : b.roundOf = none) (hk : b.kind = .deferred) (hm : c0.mode = panM v false) (hr : (execOp (Act.mk T d).eval o).run P w = .ok .recover w') :
    step P (lone (fr b T d (.inRegion ops (i :: rest) :: k)) (c0 :: cs) w) = .next (lone (fr b (tput o.dst v T) d (.inRegion ops rest :: k)) ({ c0 with mode := panM v true } :: cs) w') := by
  rw [← finish_fr ho]
  refine step_lone_go ?_
  rw [stepG_fr ho hw (.inl hd)]
  have h1 : (fr b T d (.inRegion ops (i :: rest) :: k)).roundOf = none := hd
  have h2 : tryRecover (fr b T d (.inRegion ops (i :: rest) :: k)) (c0 :: cs) = some (v, { c0 with mode := panM v true } :: cs) := by
    simp [tryRecover, fr, hk, hm, panM]
  simp only [stepG.apply, Sem.runT_eq, if_true, hr, h1, h2, GStep.bare_after, GStep.bare_go]

def VOK (P : Program) (σ : Sg) (G : Nat → Bool) (fn : FuncId) (v : CV) (c : Code) (ev : EvCode) : Prop := ∀ t d m K, ev t d m K = true → Sat σ m.tab →
  ∃ x t' d' m', K x t' d' m' = true ∧ Sat σ m'.tab ∧ ∀ (e : Env) (w : World) (T : Array Value) (D : List Deferred) (b c0 : Frame) (cs : List Frame) (k : List Item) (v' : Value), RL σ G e m w → TR σ e t T → DR σ e d D → VR σ e v v' →
    b.kind = .deferred → b.roundOf = none → b.fn = fn → c0.mode = panM v' false →
    ∃ T' D' w' e' todo, Steps P (lone (fr b T D (.code c :: k)) (c0 :: cs) w) (lone (fr b T' D' todo) ({ c0 with mode := panM v' true } :: cs) w') ∧ Land x k todo ∧ RL σ G e' m' w' ∧ TR σ e' t' T' ∧ DR σ e' d' D' ∧ Kept e m w e' m' w'

theorem frok_rec {b c0 : Frame} {cs : List Frame} {v : Value} (hk : b.kind = .deferred) (hr : b.roundOf = none) : FrOK false b ({ c0 with mode := panM v true } :: cs) :=
  ⟨hr, .inr ⟨hk, _, _, rfl, .inr ⟨v, [], rfl⟩⟩⟩

theorem codeV_ok {call : CallFn} (hng : NoCount P) (hcall : SoundCall P σ G call) (hdraw : ∀ rd, DrawOK P σ G rd call) (fn : FuncId) (fuel : Nat) (v : CV) (c : Code) : VOK P σ G fn v c (codeV P G fn call fuel v c) := by
  have no : ∀ c, VOK P σ G fn v c (fun _ _ _ _ => false) := fun c t d m K hh => by cases hh
  induction c with
  | region id ops draw =>
    intro t d m K hh hs
    cases draw with
    | true => cases hh
    | false =>
      have hh' : opsV P G call ops ops.toList v t d m (fun t d m => K .normal t d m) = true := hh
      cases hl : ops.toList with
      | nil => rw [hl] at hh'; cases hh'
      | cons o l =>
        rw [hl] at hh'
        simp only [opsV] at hh'
        split at hh'
        · rename_i hrec
          obtain ⟨t1, h1, hp⟩ := putT_inv hh'
          have ho : ops[0]? = some o := by have : ops.toList[0]? = some o := by rw [hl]; rfl
                                           simpa using this
          have hsz : ops.size = l.length + 1 := by have := congrArg List.length hl; simpa using this
          have hn : ∀ n, l[n]? = ops[1 + n]? := by
            intro n
            have : ops.toList[n + 1]? = l[n]? := by rw [hl]; rfl
            rw [← this]
            simp [Nat.add_comm]
          obtain ⟨t2, d2, m2, h2, hs2, h3⟩ := opsC_inv hcall (l := l) (s := 1) hn h1 hs
          refine ⟨.normal, t2, d2, m2, h2, hs2, fun e w T D b c0 cs k v' hR hT hD hv hk hr hfn hm => ?_⟩
          have hg : o.guard = none := by
            cases hg : o.guard with
            | none => rfl
            | some g => simp [isRec, hg] at hrec
          have hw : ∀ T, Region.wanted o (yielded ops T) = true := fun T => by simp [Region.wanted, hg]
          have hrun : (execOp (Act.mk T D).eval o).run P w = .ok .recover w := by
            obtain ⟨dst, op, type, pos, after, guard⟩ := o
            simp only at hg
            subst hg
            simp only [isRec] at hrec
            cases op <;> first | (cases hrec; done) | skip
            rename_i c
            obtain ⟨callee, args, ats⟩ := c
            cases callee <;> first | (cases hrec; done) | skip
            rename_i bi
            cases bi <;> first | (cases hrec; done) | simp [execOp, resolve, invoke, builtin]
          obtain ⟨T', D', w', e', q1, q2, q3, q4, q5⟩ := h3 e w (tput o.dst v' T) D b ({ c0 with mode := panM v' true } :: cs) k hR (hT.put hv hp) hD (frok_rec hk hr) (fun _ => by omega)
          refine ⟨T', D', w', e', k, ?_, rfl, q2, q3, q4, q5⟩
          refine .head st_region ?_
          rw [show List.range ops.size = 0 :: List.range' 1 l.length by rw [hsz, List.range_eq_range', List.range'_succ]]
          exact .head (st_recovers ho (hw T) hr hk hm hrun) (q1.trans (.one st_region_end))
        · cases hh'
  | seq a b iha ihb =>
    intro t d m K hh hs
    obtain ⟨x, t1, d1, m1, h1, hs1, h2⟩ := iha t d m _ hh hs
    cases x with
    | normal =>
      obtain ⟨x, t2, d2, m2, h3, hs2, h4⟩ := codeC_ok hng hcall hdraw fn false fuel b t1 d1 m1 K h1 hs1
      refine ⟨x, t2, d2, m2, h3, hs2, fun e w T D fb c0 cs k v' hR hT hD hv hk hr hfn hm => ?_⟩
      obtain ⟨T1, D1, w1, e1, todo, q1, q2, q3, q4, q5, q6⟩ := h2 e w T D fb c0 cs (.code b :: k) v' hR hT hD hv hk hr hfn hm
      rw [show todo = _ from q2] at q1
      obtain ⟨T2, D2, w2, e2, todo2, r1, r2, r3, r4, r5, r6⟩ := h4 e1 w1 T1 D1 fb _ k q3 q4 q5 (frok_rec hk hr) hfn
      exact ⟨T2, D2, w2, e2, todo2, .head st_seq (q1.trans r1), r2, r3, r4, r5, q6.trans r6⟩
    | exit id =>
      refine ⟨.exit id, t1, d1, m1, h1, hs1, fun e w T D fb c0 cs k v' hR hT hD hv hk hr hfn hm => ?_⟩
      obtain ⟨T1, D1, w1, e1, todo, q1, ⟨k'', hk1, hk2⟩, q3, q4, q5, q6⟩ := h2 e w T D fb c0 cs (.code b :: k) v' hR hT hD hv hk hr hfn hm
      exact ⟨T1, D1, w1, e1, todo, .head st_seq q1, ⟨k'', hk1, by rw [hk2]; simp [exitTo]⟩, q3, q4, q5, q6⟩
    | ret =>
      refine ⟨.ret, t1, d1, m1, h1, hs1, fun e w T D fb c0 cs k v' hR hT hD hv hk hr hfn hm => ?_⟩
      obtain ⟨T1, D1, w1, e1, todo, q1, q2, q3, q4, q5, q6⟩ := h2 e w T D fb c0 cs (.code b :: k) v' hR hT hD hv hk hr hfn hm
      exact ⟨T1, D1, w1, e1, todo, .head st_seq q1, q2, q3, q4, q5, q6⟩
  | block id a iha =>
    intro t d m K hh hs
    obtain ⟨x, t1, d1, m1, h1, hs1, h2⟩ := iha t d m _ hh hs
    cases x with
    | normal =>
      refine ⟨.normal, t1, d1, m1, h1, hs1, fun e w T D fb c0 cs k v' hR hT hD hv hk hr hfn hm => ?_⟩
      obtain ⟨T1, D1, w1, e1, todo, q1, q2, q3, q4, q5, q6⟩ := h2 e w T D fb c0 cs (.inBlock id :: k) v' hR hT hD hv hk hr hfn hm
      rw [show todo = _ from q2] at q1
      exact ⟨T1, D1, w1, e1, k, .head st_block (q1.trans (.one st_inBlock)), rfl, q3, q4, q5, q6⟩
    | exit j =>
      simp only [] at h1
      split at h1
      · rename_i hj
        have hj : j = id := by simpa using hj
        subst hj
        refine ⟨.normal, t1, d1, m1, h1, hs1, fun e w T D fb c0 cs k v' hR hT hD hv hk hr hfn hm => ?_⟩
        obtain ⟨T1, D1, w1, e1, todo, q1, ⟨k'', hk1, hk2⟩, q3, q4, q5, q6⟩ := h2 e w T D fb c0 cs (.inBlock j :: k) v' hR hT hD hv hk hr hfn hm
        rw [hk1] at q1
        exact ⟨T1, D1, w1, e1, k, .head st_block (q1.trans (.one (st_exit (by rw [hk2]; simp [exitTo])))), rfl, q3, q4, q5, q6⟩
      · rename_i hj
        refine ⟨.exit j, t1, d1, m1, h1, hs1, fun e w T D fb c0 cs k v' hR hT hD hv hk hr hfn hm => ?_⟩
        obtain ⟨T1, D1, w1, e1, todo, q1, ⟨k'', hk1, hk2⟩, q3, q4, q5, q6⟩ := h2 e w T D fb c0 cs (.inBlock id :: k) v' hR hT hD hv hk hr hfn hm
        have hne : (id == j) = false := by
          cases hb : (id == j) with
          | false => rfl
          | true => have : id = j := by simpa using hb
                    subst this; simp at hj
        exact ⟨T1, D1, w1, e1, todo, .head st_block q1, ⟨k'', hk1, by rw [hk2]; simp [exitTo, hne]⟩, q3, q4, q5, q6⟩
    | ret =>
      refine ⟨.ret, t1, d1, m1, h1, hs1, fun e w T D fb c0 cs k v' hR hT hD hv hk hr hfn hm => ?_⟩
      obtain ⟨T1, D1, w1, e1, todo, q1, q2, q3, q4, q5, q6⟩ := h2 e w T D fb c0 cs (.inBlock id :: k) v' hR hT hD hv hk hr hfn hm
      exact ⟨T1, D1, w1, e1, todo, .head st_block q1, q2, q3, q4, q5, q6⟩
  | skip => exact no _
  | cond c a b _ _ => exact no _
  | loop a _ => exact no _
  | rangeFunc f ps a b _ _ => exact no _
  | exit id => exact no _
  | scope c _ => exact no _
  | label l => exact no _
  | goto l => exact no _
  | ret => exact no _
  | refuse s => exact no _

theorem recF_inv {call : CallFn} (hng : NoCount P) (hcall : SoundCall P σ G call) (hdraw : ∀ rd, DrawOK P σ G rd call) {fuel : Nat} {g : FuncId} {args : List CV} {v : CV} {m : M} {km : M → Bool} (hh : recF P G fuel call g args v m km = true) (hs : Sat σ m.tab) :
    ∃ m', km m' = true ∧ Sat σ m'.tab ∧ ∀ (e : Env) (w : World) (vs : Array Value) (v' : Value) (c : Frame) (cs : List Frame), RL σ G e m w → LR σ e args vs.toList → VR σ e v v' → c.mode = panM v' false →
      ∃ w' e', (callFunc g vs).run P w = .ok (.enter g vs) w ∧ Steps P (lone (Frame.enter P g vs .deferred) (c :: cs) w) (lone { c with mode := .returning } cs w') ∧ RL σ G e' m' w' ∧ Kept e m w e' m' w' := by
  simp only [recF] at hh
  split at hh
  · rename_i fn hfn
    split at hh
    · rename_i cb hbody
      obtain ⟨t, h1, hin, ht⟩ := setArgs_inv hh
      obtain ⟨x, t1, d1, m1, h2, hs1, h3⟩ := codeV_ok hng hcall hdraw g fuel v cb t [] m _ h1 hs
      cases d1 with
      | cons y d1 => cases x <;> cases h2
      | nil =>
        have h2' : (resultsC P fn.results.toList t1 m1 fun _ => km m1) = true ∧ ∀ id, x ≠ .exit id := by
          cases x with
          | normal => exact ⟨h2, by simp⟩
          | exit id => cases h2
          | ret => exact ⟨h2, by simp⟩
        obtain ⟨vs, h6, h7⟩ := results_run (P := P) (σ := σ) (fn := fn) h2'.1
        refine ⟨m1, h6, hs1, fun e w us v' c cs hR hv hvr hm => ?_⟩
        let b : Frame := { fn := g, tmps := #[], todo := [], defers := [], mode := .run, kind := .deferred }
        have henter : Frame.enter P g us .deferred = fr b (us ++ Array.replicate (fn.ntmps - us.size) undef) [] [.code cb] := by
          simp [Frame.enter, fr, hfn, hbody, b]
        obtain ⟨T1, D1, w1, e1, todo, q1, q2, q3, q4, q5, q6⟩ := h3 e w _ [] b c cs [] v' hR (entry_TR hv hin ht) .nil hvr rfl rfl rfl hm
        cases q5
        have hret : ∃ todo', Steps P (lone (fr b T1 [] todo) ({ c with mode := panM v' true } :: cs) w1) (lone (rf b T1 [] todo') ({ c with mode := panM v' true } :: cs) w1) := by
          cases x with
          | normal => rw [show todo = [] from q2]; exact ⟨_, .one (st_leave rfl)⟩
          | exit id => exact absurd rfl (h2'.2 id)
          | ret => obtain ⟨k'', rfl⟩ := q2; exact ⟨_, .one (st_ret' rfl)⟩
        obtain ⟨todo', hst⟩ := hret
        obtain ⟨u, s1, s2⟩ := h7 q3.hr q4
        refine ⟨w1, e1, callFunc_body hng hfn hbody us w, ?_, q3, q6⟩
        rw [henter]
        have hgo := step_going_returned (P := P) (fr := rf b T1 [] todo') (c := { c with mode := panM v' true }) (cs := cs) (w := w1) (v := u) rfl ⟨rfl, rfl, fn, hfn, s1⟩
        have hset : ({ ({ c with mode := panM v' true } : Frame) with mode := settle ({ c with mode := panM v' true } : Frame).mode } : Frame) = { c with mode := .returning } := rfl
        rw [hset] at hgo
        exact q1.trans (hst.trans (.one hgo))
    · cases hh
  · cases hh

theorem st_deferP {b : Frame} {T : Array Value} {ds : List Deferred} {todo : List Item} {cs : List Frame} {w : World} {v : Value} {g : FuncId} {as cap : Array Value} (hi : (callFunc g (as ++ cap)).run P w = .ok (.enter g (as ++ cap)) w) :
    step P (lone (pf b T ({ target := .fn (.func g) cap, args := as } :: ds) todo v) cs w) = .next (lone (Frame.enter P g (as ++ cap) .deferred) (pf b T ds todo v :: cs) w) :=
  step_defer (fr := pf b T ({ target := .fn (.func g) cap, args := as } :: ds) todo v) (d := { target := .fn (.func g) cap, args := as }) (by simp [pf]) rfl rfl (by simpa [invoke] using hi)

theorem TRW.get {e : Env} {W : List Nat} {t : Tm} {T : Array Value} {i : Nat} {c : CV} (h : TRW σ e W t T) (hc : t.get? i = some c) (hi : i ∉ W) : ∃ v, T[i]? = some v ∧ VR σ e c v := by
  have := h i
  rw [hc] at this
  obtain ⟨v, h1, h2⟩ := this
  exact ⟨v, h1, h2.resolve_left hi⟩
theorem wOk_cons {W : List Nat} {r : ResultVar} {rs : List ResultVar} (h : wOk W (r :: rs) = true) : resSlot r ∉ W ∧ wOk W rs = true := by
  simp only [wOk, List.all_cons, Bool.and_eq_true] at h
  refine ⟨fun hm => ?_, h.2⟩
  have := List.all_eq_true.1 h.1 _ hm
  simp at this
theorem resultsC_invW : ∀ {rs : List ResultVar} {t : Tm} {m : M} {k : List CV → Bool}, resultsC P rs t m k = true → ∃ vs, k vs = true ∧ ∀ {e : Env} {w : World} {T : Array Value} {W : List Nat}, HR σ e m.h w → TRW σ e W t T → wOk W rs = true →
    ∃ us, (rs.mapM (fun r => match r with | .tmp i => pure (T.getD i undef) | .cell a ty => do loadVar ty (← asAddr (T.getD a undef)) : ResultVar → Sem Value)).run P w = .ok us w ∧ LR σ e vs us
  | [], t, m, k, h => ⟨[], h, fun {e w T W} _ _ _ => ⟨[], by simp, .nil⟩⟩
  | r :: rs, t, m, k, h => by
    cases r with
    | tmp i =>
      obtain ⟨v, hv, h1⟩ := getK_inv (show getK t i (fun v => resultsC P rs t m fun vs => k (v :: vs)) = true from h)
      obtain ⟨vs, h2, h3⟩ := resultsC_invW h1
      refine ⟨v :: vs, h2, fun {e w T W} hr hT hw => ?_⟩
      obtain ⟨hw1, hw2⟩ := wOk_cons hw
      obtain ⟨us, h4, h5⟩ := h3 hr hT hw2
      obtain ⟨u, hu, hvr⟩ := hT.get hv hw1
      have hgd : T.getD i undef = u := by simp [hu]
      exact ⟨u :: us, by simp only [List.mapM_cons, Sem.run_bind, Sem.run_pure, Result.andThen_ok, hgd, h4], .cons hvr h5⟩
    | cell a ty =>
      obtain ⟨v, hv, h1⟩ := getK_inv (show getK t a (fun v => asPtr v fun b off => loadC P ty b off m.h fun v => resultsC P rs t m fun vs => k (v :: vs)) = true from h)
      obtain ⟨b, off, rfl, h2⟩ := asPtr_inv h1
      obtain ⟨c, h3, h4⟩ := loadC_inv h2
      obtain ⟨vs, h5, h6⟩ := resultsC_invW h3
      refine ⟨c :: vs, h5, fun {e w T W} hr hT hw => ?_⟩
      obtain ⟨hw1, hw2⟩ := wOk_cons hw
      obtain ⟨us, h7, h8⟩ := h6 hr hT hw2
      obtain ⟨u, hu, hvr⟩ := hT.get hv hw1
      cases hvr with
      | @ptr _ _ p hp =>
        obtain ⟨z, h9, h10⟩ := h4 hr _ hp
        refine ⟨z :: us, ?_, .cons h10 h8⟩
        have hgd : T.getD a undef = .pointer (some ⟨p.r, off + p.d, none⟩) := by simp [hu]
        have hadr : (Go.asAddr (.pointer (some ⟨p.r, off + p.d, none⟩))).run P w = .ok ⟨p.r, off + p.d, none⟩ w := rfl
        simp only [List.mapM_cons, Sem.run_bind, Sem.run_pure, Result.andThen_ok, hgd, hadr, h9, h7]
theorem results_runW {fn : Func} {t : Tm} {m : M} {k : List CV → Bool} (h : resultsC P fn.results.toList t m k = true) : ∃ vs, k vs = true ∧ ∀ {e : Env} {w : World} {T : Array Value} {W : List Nat}, HR σ e m.h w → TRW σ e W t T → wOk W fn.results.toList = true →
    ∃ v, (results fn T).run P w = .ok v w ∧ VR σ e (oneOr vs) v := by
  obtain ⟨vs, h1, h2⟩ := resultsC_invW (σ := σ) h
  refine ⟨vs, h1, fun {e w T W} hr hT hw => ?_⟩
  obtain ⟨us, h3, h4⟩ := h2 hr hT hw
  have hm : (fn.results.mapM (fun r => match r with | .tmp i => pure (T.getD i undef) | .cell a ty => do loadVar ty (← asAddr (T.getD a undef)) : ResultVar → Sem Value)).run P w = .ok us.toArray w := by
    rw [Array.mapM_eq_mapM_toList, Sem.run_map, h3]; rfl
  have hrun : (results fn T).run P w = .ok (if h : us.toArray.size = 1 then us.toArray[0] else .tuple us.toArray) w := by
    have hdef : results fn T = (fn.results.mapM (fun r => match r with | .tmp i => pure (T.getD i undef) | .cell a ty => do loadVar ty (← asAddr (T.getD a undef)) : ResultVar → Sem Value) >>= fun vs => pure (if h : vs.size = 1 then vs[0] else .tuple vs)) := rfl
    rw [hdef, Sem.run_bind, hm]
    rfl
  refine ⟨_, hrun, ?_⟩
  match us, vs, h4 with
  | [], [], h4 => exact .tup rfl (fun i c v h => by simp at h)
  | [u], [c], h4 => simpa [oneOr] using h4.2 0 c u (by simp) (by simp)
  | u :: u' :: us, c :: c' :: vs, h4 => simpa [oneOr] using VR.tup (vs := (u :: u' :: us).toArray) h4.1 h4.2
  | [], _ :: _, h4 => exact absurd h4.1 (by simp)
  | _ :: _, [], h4 => exact absurd h4.1 (by simp)
  | [u], c :: c' :: vs, h4 => exact absurd h4.1 (by simp)
  | u :: u' :: us, [c], h4 => exact absurd h4.1 (by simp)

theorem recC_inv {call : CallFn} (hng : NoCount P) (hcall : SoundCall P σ G call) (hdraw : ∀ rd, DrawOK P σ G rd call) {q : QFn} (hq : SoundQ P σ G q) {PS : FuncId → Bool} {fuel : Nat} {f : FuncId} {args : List CV} {m : M} {k : KA}
    (hh : recC P G fuel call q PS f args m k = true) (hs : Sat σ m.tab) :
    ∃ v m', k v m' = true ∧ Sat σ m'.tab ∧ ∀ (e : Env) (w : World) (f' : Fn) (vs : Array Value) (kd : CallKind) (c : Frame) (cs : List Frame), RL σ G e m w → FnR e (.func f) f' → LR σ e args vs.toList → KindOK (.func f) kd c →
      ∃ v' w' e', CallGoes P kd c cs (CallSem f' vs) w v' w' ∧ VR σ e' v v' ∧ RL σ G e' m' w' ∧ Kept e m w e' m' w' := by
  simp only [recC] at hh
  split at hh
  · rename_i fn hfn
    split at hh
    · rename_i cb hbody
      obtain ⟨t, h1, hin, ht⟩ := setArgs_inv hh
      have henter : ∀ (vs : Array Value) (kd : CallKind), Frame.enter P f vs kd = fr { fn := f, tmps := #[], todo := [], defers := [], mode := .run, kind := kd } (vs ++ Array.replicate (fn.ntmps - vs.size) undef) [] [.code cb] := by
        intro vs kd
        simp [Frame.enter, fr, hfn, hbody]
      rcases codeQ_ok hng hcall hdraw hq f fuel cb t [] m _ _ h1 hs with ⟨x, t1, d1, m1, h2, hs1, h3⟩ | ⟨v, W, t1, d1, m1, h2, hs1, h3⟩
      · have h2' : (defersC call d1 m1 fun m => resultsC P fn.results.toList t1 m fun vs => match vs with
              | [v] => k v m
              | vs => k (.tup vs) m) = true ∧ ∀ id, x ≠ .exit id := by
          cases x with
          | normal => exact ⟨h2, by simp⟩
          | exit id => cases h2
          | ret => exact ⟨h2, by simp⟩
        obtain ⟨m2, h4, hs2, h5⟩ := defersC_inv hcall h2'.1 hs1
        obtain ⟨vs, h6, h7⟩ := results_run (P := P) (σ := σ) (fn := fn) h4
        have h6' : k (oneOr vs) m2 = true := by
          match vs, h6 with
          | [], h6 => exact h6
          | [v], h6 => exact h6
          | v :: v' :: vs, h6 => exact h6
        refine ⟨oneOr vs, m2, h6', hs2, fun e w f' us kd c cs hR hf hv hk => ?_⟩
        cases hf
        have hkd : kd = .normal ∨ (kd = .deferred ∧ c.mode = .returning) := hk.imp id (fun h => ⟨h.1, h.2.1⟩)
        let b : Frame := { fn := f, tmps := #[], todo := [], defers := [], mode := .run, kind := kd }
        have hfo : FrOK false b (c :: cs) := ⟨rfl, hkd.imp id (fun h => ⟨h.1, c, cs, rfl, .inl h.2⟩)⟩
        obtain ⟨T1, D1, w1, e1, todo, q1, q2, q3, q4, q5, q6⟩ := h3 e w _ [] b (c :: cs) [] hR (entry_TR hv hin ht) .nil hfo rfl
        have hret : ∃ todo', Steps P (lone (fr b T1 D1 todo) (c :: cs) w1) (lone (rf b T1 D1 todo') (c :: cs) w1) := by
          cases x with
          | normal => rw [show todo = [] from q2]; exact ⟨_, .one (st_leave rfl)⟩
          | exit id => exact absurd rfl (h2'.2 id)
          | ret => obtain ⟨k'', rfl⟩ := q2; exact ⟨_, .one (st_ret' rfl)⟩
        obtain ⟨todo', hst⟩ := hret
        obtain ⟨w2, e2, r1, r2, r3⟩ := h5 e1 w1 D1 b T1 todo' (c :: cs) q3 q5
        obtain ⟨v, s1, s2⟩ := h7 r2.hr (q4.mono r3.ext)
        refine ⟨v, w2, e2, ?_, s2, r2, q6.trans r3⟩
        simp only [CallGoes, CallSem, callFunc_body hng hfn hbody]
        rw [henter]
        exact q1.trans (hst.trans (r1.trans (.one (st_return (b := b) hfn s1 hkd))))
      · split at h2
        · rename_i x
          split at h2
          · rename_i gf as cap
            split at h2
            · rename_i g
              obtain ⟨hwok, h2⟩ := isTrue_inv h2
              obtain ⟨m2, h4, hs2, h5⟩ := recF_inv hng hcall hdraw h2 hs1
              obtain ⟨vs, h6, h7⟩ := results_runW (P := P) (σ := σ) (fn := fn) h4
              have h6' : k (oneOr vs) m2 = true := by
                match vs, h6 with
                | [], h6 => exact h6
                | [v], h6 => exact h6
                | v :: v' :: vs, h6 => exact h6
              refine ⟨oneOr vs, m2, h6', hs2, fun e w f' us kd c cs hR hf hv hk => ?_⟩
              cases hf
              have hkd : kd = .normal ∨ (kd = .deferred ∧ c.mode = .returning) := hk.imp id (fun h => ⟨h.1, h.2.1⟩)
              let b : Frame := { fn := f, tmps := #[], todo := [], defers := [], mode := .run, kind := kd }
              have hfo : FrOK false b (c :: cs) := ⟨rfl, hkd.imp id (fun h => ⟨h.1, c, cs, rfl, .inl h.2⟩)⟩
              obtain ⟨T1, D1, w1, e1, todo, v', q1, q2, q3, q4, q5, q6⟩ := h3 e w _ [] b (c :: cs) [] hR (entry_TR hv hin ht) .nil hfo rfl
              cases q5 with
              | cons hx hxs =>
                cases hxs
                cases hx with
                | call _ l1 l2 =>
                  rename_i vas vcap
                  obtain ⟨w2, e2, r0, r1, r2, r3⟩ := h5 e1 w1 (vas ++ vcap) v' (pf b T1 [] todo v') (c :: cs) q3 (by simpa using l1.append l2) q2 rfl
                  obtain ⟨u, s1, s2⟩ := h7 r2.hr (q4.mono r3.ext) hwok
                  refine ⟨u, w2, e2, ?_, s2, r2, q6.trans r3⟩
                  simp only [CallGoes, CallSem, callFunc_body hng hfn hbody]
                  rw [henter]
                  have hrf : ({ pf b T1 [] todo v' with mode := .returning } : Frame) = rf b T1 [] todo := rfl
                  rw [hrf] at r1
                  exact q1.trans (.head (st_deferP r0) (r1.trans (.one (st_return (b := b) hfn s1 hkd))))
            · cases h2
          · cases h2
        · cases h2
    · cases hh
  · cases hh

theorem longC_inv {off n : Nat} {args : List CV} {h : Hp} {k : Bool → Bool} (hh : longC off n args h k = true) : ∃ b, k b = true := by
  cases args with
  | nil => exact ⟨false, hh⟩
  | cons x l =>
    cases x <;> first | exact ⟨false, hh⟩ | skip
    rename_i b o
    obtain ⟨cb, _, h1⟩ := getK_inv (show getK h b _ = true from hh)
    cases cb <;> first | exact ⟨false, h1⟩ | skip
    obtain ⟨v, _, h2⟩ := getK_inv (show getK _ (o + off) _ = true from h1)
    cases v <;> first | exact ⟨false, h2⟩ | skip
    simp only [] at h2
    split at h2
    · exact ⟨true, h2⟩
    · exact ⟨false, h2⟩

theorem ovrQ_ok {call base : CallFn} (hng : NoCount P) (hcall : SoundCall P σ G call) (hbase : SoundCall P σ G base) (hdraw : ∀ rd, DrawOK P σ G rd call) (fuel : Nat) (PS : FuncId → Bool) (dq R off n : Nat) : SoundCall P σ G (ovrQ P G fuel PS dq R off n call base) := by
  intro f args m k hh hs
  cases f with
  | func g =>
    simp only [ovrQ] at hh
    split at hh
    · obtain ⟨b, h1⟩ := longC_inv hh
      cases b with
      | true => exact recC_inv hng hcall hdraw (callQ_ok hng hcall hdraw fuel dq) h1 hs
      | false => exact hbase _ _ _ _ h1 hs
    · exact hbase _ _ _ _ hh hs
  | method s => exact hbase _ _ _ _ hh hs
  | methodOf t s => exact hbase _ _ _ _ hh hs
  | via t p g b => exact hbase _ _ _ _ hh hs
  | yield l => exact hbase _ _ _ _ hh hs
end
end Go.Ev
