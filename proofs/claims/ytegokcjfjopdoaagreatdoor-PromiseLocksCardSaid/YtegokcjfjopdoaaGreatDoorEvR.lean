/- A verified evaluator for the model's code (part EvR): own work, of no program. -/
import Derived.Test.YtegokcjfjopdoaaGreatDoorEvQ
namespace Go.Ev

/-- A running frame over the base b. -/
def fr (b : Frame) (T : Array Value) (d : List Deferred) (todo : List Item) : Frame :=
  { fn := b.fn, tmps := T, todo, defers := d, mode := .run, kind := b.kind, roundOf := b.roundOf }

theorem fr_eval (b : Frame) (T : Array Value) (d : List Deferred) (todo : List Item) (x : Operand) : (fr b T d todo).eval x = (Act.mk T d).eval x := by
  cases x <;> rfl
theorem fr_eval' (b : Frame) (T : Array Value) (d : List Deferred) (todo : List Item) : (fr b T d todo).eval = (Act.mk T d).eval := funext (fr_eval b T d todo)

def tput (dst : Option Tmp) (v : Value) (T : Array Value) : Array Value := match dst with | some d => T.setIfInBounds d v | none => T

section steps
variable {P : Program} {b : Frame} {T : Array Value} {d : List Deferred} {k : List Item} {cs : List Frame} {w : World}

theorem st_skip : step P (lone (fr b T d (.code .skip :: k)) cs w) = .next (lone (fr b T d k) cs w) :=
  step_lone_go (by simp [stepG, stepG.exec, fr])
theorem st_label {l : Nat} : step P (lone (fr b T d (.code (.label l) :: k)) cs w) = .next (lone (fr b T d k) cs w) :=
  step_lone_go (by simp [stepG, stepG.exec, fr])
theorem st_inBlock {id : Nat} : step P (lone (fr b T d (.inBlock id :: k)) cs w) = .next (lone (fr b T d k) cs w) :=
  step_lone_go (by simp [stepG, stepG.exec, fr])
theorem st_seq {x y : Code} : step P (lone (fr b T d (.code (.seq x y) :: k)) cs w) = .next (lone (fr b T d (.code x :: .code y :: k)) cs w) :=
  step_lone_go (by simp [stepG, stepG.exec, fr])
theorem st_block {id : Nat} {c : Code} : step P (lone (fr b T d (.code (.block id c) :: k)) cs w) = .next (lone (fr b T d (.code c :: .inBlock id :: k)) cs w) :=
  step_lone_go (by simp [stepG, stepG.exec, fr])
theorem st_loop {c : Code} : step P (lone (fr b T d (.code (.loop c) :: k)) cs w) = .next (lone (fr b T d (.code c :: .inLoop c :: k)) cs w) :=
  step_lone_go (by simp [stepG, stepG.exec, fr])
theorem st_inLoop {c : Code} : step P (lone (fr b T d (.inLoop c :: k)) cs w) = .next (lone (fr b T d (.code c :: .inLoop c :: k)) cs w) :=
  step_lone_go (by simp [stepG, stepG.exec, fr])
theorem st_exit {id : Nat} {k' : List Item} (h : exitTo id k = some k') :
    step P (lone (fr b T d (.code (.exit id) :: k)) cs w) = .next (lone (fr b T d k') cs w) :=
  step_lone_go (by simp [stepG, stepG.exec, fr, h])
theorem st_cond {c : Operand} {x y : Code} {t : Bool} (h : (Act.mk T d).eval c = .bool t) :
    step P (lone (fr b T d (.code (.cond c x y) :: k)) cs w) = .next (lone (fr b T d (.code (if t then x else y) :: k)) cs w) :=
  step_lone_go (by
    have := fr_eval b T d (.code (.cond c x y) :: k) c
    simp only [fr] at this
    simp [stepG, stepG.exec, fr, this, h])
theorem st_region {id : Nat} {ops : Array Oper} :
    step P (lone (fr b T d (.code (.region id ops false) :: k)) cs w) = .next (lone (fr b T d (.inRegion ops (List.range ops.size) :: k)) cs w) :=
  step_lone_go (by simp [stepG, stepG.exec, fr])
theorem st_region_draw {id : Nat} {ops : Array Oper} :
    step P (lone (fr b T d (.code (.region id ops true) :: k)) cs w) =
      .next (lone (fr b T d (.inRegion ops (Region.schedule (P.follows .mixedOrders) ops (w.tape w.drawn (.order b.fn id))) :: k)) cs { w with drawn := w.drawn + 1 }) :=
  step_lone_go (by simp [stepG, stepG.exec, fr, choose, Sem.run, Question.forced, Question.cut])
theorem st_region_end {ops : Array Oper} : step P (lone (fr b T d (.inRegion ops [] :: k)) cs w) = .next (lone (fr b T d k) cs w) :=
  step_lone_go (by simp [stepG, stepG.exec, fr])

theorem finish_fr {ops : Array Oper} {i : Nat} {o : Oper} {rest : List Nat} (ho : ops[i]? = some o) (v : Value) :
    (fr b T d (.inRegion ops (i :: rest) :: k)).finish v = fr b (tput o.dst v T) d (.inRegion ops rest :: k) := by
  simp only [fr, Frame.finish, ho, Option.bind_some]
  cases h : o.dst <;> simp [tput]

theorem st_op_skip {ops : Array Oper} {i : Nat} {o : Oper} {rest : List Nat} (ho : ops[i]? = some o) (h : Region.wanted o (yielded ops T) = false) :
    step P (lone (fr b T d (.inRegion ops (i :: rest) :: k)) cs w) = .next (lone (fr b (tput o.dst undef T) d (.inRegion ops rest :: k)) cs w) := by
  rw [← finish_fr ho]
  refine step_lone_go ?_
  simp only [fr] at *
  simp [stepG, stepG.exec, ho, h]

theorem stepG_fr {ops : Array Oper} {i : Nat} {o : Oper} {rest : List Nat} (ho : ops[i]? = some o) (hw : Region.wanted o (yielded ops T) = true) (hd : b.roundOf = none ∨ ∀ c, o.op ≠ .defer c) :
    stepG P true { frame := fr b T d (.inRegion ops (i :: rest) :: k), callers := cs, status := .running, dying := none } w =
      stepG.apply P true (fr b T d (.inRegion ops (i :: rest) :: k)) cs none (execOp (Act.mk T d).eval o) w := by
  have he := fr_eval' b T d (.inRegion ops (i :: rest) :: k)
  simp only [fr] at he
  have : ∀ (r : Option Nat), (r = none ∨ ∀ c, o.op ≠ .defer c) → (match r, o.op with
      | some l, .defer c => stepG.apply P true (fr b T d (.inRegion ops (i :: rest) :: k)) cs none (do Instr.deferInRound l (← resolve (Act.mk T d).eval c o.type); pure .skip) w
      | _, _ => stepG.apply P true (fr b T d (.inRegion ops (i :: rest) :: k)) cs none (execOp (Act.mk T d).eval o) w) = stepG.apply P true (fr b T d (.inRegion ops (i :: rest) :: k)) cs none (execOp (Act.mk T d).eval o) w := by
    intro r hr
    split
    · rename_i l c h1
      rcases hr with h | h
      · cases h
      · exact absurd (by assumption) (h _)
    · rfl
  have key := this b.roundOf hd
  simp only [fr] at key
  simp [stepG, stepG.exec, stepG.oper, Frame.oper?, fr, ho, hw, he]
  exact key

theorem st_value {ops : Array Oper} {i : Nat} {o : Oper} {rest : List Nat} {v : Value} {w' : World} (ho : ops[i]? = some o) (hw : Region.wanted o (yielded ops T) = true) (hd : b.roundOf = none ∨ ∀ c, o.op ≠ .defer c)
    (hr : (execOp (Act.mk T d).eval o).run P w = .ok (.value v) w' ∨ ((execOp (Act.mk T d).eval o).run P w = .ok .skip w' ∧ v = undef)) :
    step P (lone (fr b T d (.inRegion ops (i :: rest) :: k)) cs w) = .next (lone (fr b (tput o.dst v T) d (.inRegion ops rest :: k)) cs w') := by
  rw [← finish_fr ho]
  refine step_lone_go ?_
  rw [stepG_fr ho hw hd]
  rcases hr with hr | ⟨hr, rfl⟩ <;> simp [stepG.apply, hr]
theorem st_defer {ops : Array Oper} {i : Nat} {o : Oper} {rest : List Nat} {dd : Deferred} {w' : World} (ho : ops[i]? = some o) (hw : Region.wanted o (yielded ops T) = true) (hd : b.roundOf = none)
    (hr : (execOp (Act.mk T d).eval o).run P w = .ok (.defer dd) w') :
    step P (lone (fr b T d (.inRegion ops (i :: rest) :: k)) cs w) = .next (lone (fr b (tput o.dst undef T) (dd :: d) (.inRegion ops rest :: k)) cs w') := by
  have := finish_fr (b := b) (T := T) (d := dd :: d) (k := k) (rest := rest) ho undef
  rw [← this]
  refine step_lone_go ?_
  rw [stepG_fr ho hw (.inl hd)]
  simp [stepG.apply, hr, fr]
theorem st_enter {ops : Array Oper} {i : Nat} {o : Oper} {rest : List Nat} {f : FuncId} {args : Array Value} {w' : World} (ho : ops[i]? = some o) (hw : Region.wanted o (yielded ops T) = true) (hd : b.roundOf = none ∨ ∀ c, o.op ≠ .defer c)
    (hr : (execOp (Act.mk T d).eval o).run P w = .ok (.enter f args) w') :
    step P (lone (fr b T d (.inRegion ops (i :: rest) :: k)) cs w) = .next (lone (Frame.enter P f args .normal) (fr b T d (.inRegion ops (i :: rest) :: k) :: cs) w') := by
  refine step_lone_go ?_
  rw [stepG_fr ho hw hd]
  simp [stepG.apply, hr, fr]
theorem st_round {ops : Array Oper} {i : Nat} {o : Oper} {rest : List Nat} {l : Nat} {f : FuncId} {tm : Array Value} {a c : Code} {w' : World} (ho : ops[i]? = some o) (hw : Region.wanted o (yielded ops T) = true) (hd : b.roundOf = none ∨ ∀ c, o.op ≠ .defer c)
    (hr : (execOp (Act.mk T d).eval o).run P w = .ok (.round l f tm a c) w') :
    step P (lone (fr b T d (.inRegion ops (i :: rest) :: k)) cs w) = .next (lone (Frame.round l f tm a c .normal) (fr b T d (.inRegion ops (i :: rest) :: k) :: cs) w') := by
  refine step_lone_go ?_
  rw [stepG_fr ho hw hd]
  simp [stepG.apply, hr]
theorem st_recover {ops : Array Oper} {i : Nat} {o : Oper} {rest : List Nat} {w' : World} (ho : ops[i]? = some o) (hw : Region.wanted o (yielded ops T) = true) (hd : b.roundOf = none)
    (hr : (execOp (Act.mk T d).eval o).run P w = .ok .recover w') (ht : tryRecover (fr b T d (.inRegion ops (i :: rest) :: k)) cs = none) :
    step P (lone (fr b T d (.inRegion ops (i :: rest) :: k)) cs w) = .next (lone (fr b (tput o.dst .nilIface T) d (.inRegion ops rest :: k)) cs w') := by
  rw [← finish_fr ho]
  refine step_lone_go ?_
  rw [stepG_fr ho hw (.inl hd)]
  have h1 : (fr b T d (.inRegion ops (i :: rest) :: k)).roundOf = none := hd
  simp only [stepG.apply, Sem.runT_eq, if_true, hr, h1, ht, GStep.bare_after, GStep.bare_go]
end steps

/-! Calls -/
def backTo (kd : CallKind) (c : Frame) (v : Value) : Frame := match kd with | .deferred => c | _ => c.finish v
def KindOK (f : Fn) (kd : CallKind) (c : Frame) : Prop := kd = .normal ∨ (kd = .deferred ∧ c.mode = .returning ∧ ∃ g, f = .func g)
def CallSem (f : Fn) (vs : Array Value) : Sem Next := match f with | .func f => callFunc f vs | .yield l => Instr.yield l vs | _ => stuck ""
def CallGoes (P : Program) (kd : CallKind) (c : Frame) (cs : List Frame) (s : Sem Next) (w : World) (v' : Value) (w' : World) : Prop := match s.run P w with
  | .ok (.value v) w1 => v = v' ∧ w1 = w'
  | .ok (.enter f args) w1 => Steps P (lone (Frame.enter P f args kd) (c :: cs) w1) (lone (backTo kd c v') cs w')
  | .ok (.round l f tm a b) w1 => Steps P (lone (Frame.round l f tm a b kd) (c :: cs) w1) (lone (backTo kd c v') cs w')
  | _ => False
inductive FnR (e : Env) : Fn → Fn → Prop
  | func (f : FuncId) : FnR e (.func f) (.func f)
  | yield {b : Nat} {p : Place} (h : e b = some p) : FnR e (.yield b) (.yield p.r)
def SoundCall (P : Program) (σ : Sg) (G : Nat → Bool) (call : CallFn) : Prop := ∀ f args m k, call f args m k = true → Sat σ m.tab →
  ∃ v m', k v m' = true ∧ Sat σ m'.tab ∧ ∀ (e : Env) (w : World) (f' : Fn) (vs : Array Value) (kd : CallKind) (c : Frame) (cs : List Frame), RL σ G e m w → FnR e f f' → LR σ e args vs.toList → KindOK f kd c →
    ∃ v' w' e', CallGoes P kd c cs (CallSem f' vs) w v' w' ∧ VR σ e' v v' ∧ RL σ G e' m' w' ∧ Kept e m w e' m' w'

inductive DR1 (σ : Sg) (e : Env) : DF → Deferred → Prop
  | call (f : FuncId) {args cap : List CV} {vs us : Array Value} (h1 : LR σ e args vs.toList) (h2 : LR σ e cap us.toList) : DR1 σ e (.call (.func f) args cap) { target := .fn (.func f) us, args := vs }
  | coll {b : Nat} {p : Place} (h : e b = some p) : DR1 σ e (.coll b) { target := .collected p.r, args := #[] }
inductive DR (σ : Sg) (e : Env) : List DF → List Deferred → Prop
  | nil : DR σ e [] []
  | cons {x : DF} {y : Deferred} {xs : List DF} {ys : List Deferred} (h : DR1 σ e x y) (hs : DR σ e xs ys) : DR σ e (x :: xs) (y :: ys)
theorem DR1.mono {σ : Sg} {e e' : Env} (he : Ext e e') {x : DF} {y : Deferred} (h : DR1 σ e x y) : DR1 σ e' x y := by
  cases h with
  | call f h1 h2 => exact .call f (h1.mono he) (h2.mono he)
  | coll h => obtain ⟨p', h', hr, _⟩ := he _ _ h; rw [← hr]; exact .coll h'
theorem DR.mono {σ : Sg} {e e' : Env} (he : Ext e e') {x : List DF} {y : List Deferred} (h : DR σ e x y) : DR σ e' x y := by
  induction h with
  | nil => exact .nil
  | cons h _ ih => exact .cons (h.mono he) ih

/-- where code may run -/
def FrOK (rd : Bool) (b : Frame) (cs : List Frame) : Prop := match rd with
  | false => b.roundOf = none ∧ (b.kind = .normal ∨ (b.kind = .deferred ∧ ∃ c cs', cs = c :: cs' ∧ c.mode = .returning))
  | true => ∃ l, b.roundOf = some l

theorem FrOK.norec {b : Frame} {cs : List Frame} (h : FrOK false b cs) (T : Array Value) (d : List Deferred) (k : List Item) : tryRecover (fr b T d k) cs = none := by
  obtain ⟨_, hk⟩ := h
  rcases hk with hk | ⟨hk, c, cs', rfl, hm⟩ <;> simp [tryRecover, fr, hk]
  simp [hm]

end Go.Ev
