/- A verified evaluator for the model's code (part EvX): own work, of no program. -/
import Derived.Test.YtegokcjfjopdoaaGreatDoorEvW
namespace Go.Ev

section
variable {P : Program} {σ : Sg} {G : Nat → Bool}

theorem st_leave {b : Frame} {T : Array Value} {d : List Deferred} {cs : List Frame} {w : World} (hb : b.roundOf = none) : step P (lone (fr b T d []) cs w) = .next (lone (rf b T d []) cs w) :=
  step_lone_go (by simp [stepG, stepG.exec, fr, rf, hb])
theorem st_ret' {b : Frame} {T : Array Value} {d : List Deferred} {k : List Item} {cs : List Frame} {w : World} (hb : b.roundOf = none) : step P (lone (fr b T d (.code .ret :: k)) cs w) = .next (lone (rf b T d (.code .ret :: k)) cs w) :=
  step_lone_go (by simp [stepG, stepG.exec, fr, rf, hb])
theorem st_return {b c : Frame} {T : Array Value} {todo : List Item} {cs : List Frame} {w : World} {fn : Func} {v : Value} (hf : P.funcs[b.fn]? = some fn) (hr : (results fn T).run P w = .ok v w)
    (hk : b.kind = .normal ∨ (b.kind = .deferred ∧ c.mode = .returning)) : step P (lone (rf b T [] todo) (c :: cs) w) = .next (lone (backTo b.kind c v) cs w) := by
  refine step_lone_go ?_
  rcases hk with hk | ⟨hk, hm⟩
  · simp [stepG, rf, fr, unwind, hf, hr, doReturn, hk, backTo]
  · simp [stepG, rf, fr, unwind, hf, hr, doReturn, hk, hm, backTo]

/-- functions without a Go body -/
def ExtOK (P : Program) (σ : Sg) : Prop := ∀ (f : FuncId) (fn : Func) (args : List CV) (m : M) (k : KA), P.funcs[f]? = some fn → fn.body = none → extC fn.name args m k = true →
  ∃ v, k v m = true ∧ ∀ (e : Env) (w : World) (vs : Array Value), LR σ e args vs.toList → ∃ v', (callFunc f vs).run P w = .ok (.value v') w ∧ VR σ e v v'

theorem call_func {call : CallFn} (hng : NoCount P) (hext : ExtOK P σ) (hcall : SoundCall P σ G call) (hdraw : ∀ rd, DrawOK P σ G rd call) {fuel : Nat} {f : FuncId} {args : List CV} {m : M} {k : KA}
    (hh : (match P.funcs[f]? with
      | some fn => match fn.body with
        | some c => setArgs args 0 (blank fn.ntmps) fun t => codeC P G f false call fuel c t [] m fun x t d m => match x with
          | .exit _ => false
          | _ => defersC call d m fun m => resultsC P fn.results.toList t m fun vs => match vs with
            | [v] => k v m
            | vs => k (.tup vs) m
        | none => extC fn.name args m k
      | none => false) = true) (hs : Sat σ m.tab) :
    ∃ v m', k v m' = true ∧ Sat σ m'.tab ∧ ∀ (e : Env) (w : World) (f' : Fn) (vs : Array Value) (kd : CallKind) (c : Frame) (cs : List Frame), RL σ G e m w → FnR e (.func f) f' → LR σ e args vs.toList → KindOK (.func f) kd c →
      ∃ v' w' e', CallGoes P kd c cs (CallSem f' vs) w v' w' ∧ VR σ e' v v' ∧ RL σ G e' m' w' ∧ Kept e m w e' m' w' := by
  split at hh
  · rename_i fn hfn
    split at hh
    · rename_i cb hbody
      obtain ⟨t, h1, hin, ht⟩ := setArgs_inv hh
      obtain ⟨x, t1, d1, m1, h2, hs1, h3⟩ := codeC_ok hng hcall hdraw f false fuel cb t [] m _ h1 hs
      have h2' : (defersC call d1 m1 fun m => resultsC P fn.results.toList t1 m fun vs => match vs with
            | [v] => k v m
            | vs => k (.tup vs) m) = true ∧ x ≠ .exit 0 ∧ ∀ id, x ≠ .exit id := by
        cases x with
        | normal => exact ⟨h2, by simp, by simp⟩
        | exit id => cases h2
        | ret => exact ⟨h2, by simp, by simp⟩
      obtain ⟨m2, h4, hs2, h5⟩ := defersC_inv hcall h2'.1 hs1
      obtain ⟨vs, h6, h7⟩ := results_run (P := P) (σ := σ) (fn := fn) h4
      have h6' : k (oneOr vs) m2 = true := by
        match vs, h6 with
        | [], h6 => exact h6
        | [v], h6 => exact h6
        | v :: v' :: vs, h6 => exact h6
      refine ⟨oneOr vs, m2, h6', hs2, fun e w f' us kd c cs hR hf hv hk => ?_⟩
      cases hf
      have hkd : kd = .normal ∨ (kd = .deferred ∧ c.mode = .returning) := hk.imp id (fun h => ⟨h.1, h.2.1⟩)
      let b : Frame := { fn := f, tmps := #[], todo := [], defers := [], mode := .run, kind := kd }
      have henter : Frame.enter P f us kd = fr b (us ++ Array.replicate (fn.ntmps - us.size) undef) [] [.code cb] := by
        simp [Frame.enter, fr, hfn, hbody, b]
      have hfo : FrOK false b (c :: cs) := ⟨rfl, hkd.imp id (fun h => ⟨h.1, c, cs, rfl, h.2⟩)⟩
      obtain ⟨T1, D1, w1, e1, todo, q1, q2, q3, q4, q5, q6⟩ := h3 e w _ [] b (c :: cs) [] hR (entry_TR hv hin ht) .nil hfo rfl
      have hret : ∃ todo', Steps P (lone (fr b T1 D1 todo) (c :: cs) w1) (lone (rf b T1 D1 todo') (c :: cs) w1) := by
        cases x with
        | normal => rw [show todo = [] from q2]; exact ⟨_, .one (st_leave rfl)⟩
        | exit id => exact absurd rfl (h2'.2.2 id)
        | ret => obtain ⟨k'', rfl⟩ := q2; exact ⟨_, .one (st_ret' rfl)⟩
      obtain ⟨todo', hst⟩ := hret
      obtain ⟨w2, e2, r1, r2, r3⟩ := h5 e1 w1 D1 b T1 todo' (c :: cs) q3 q5
      obtain ⟨v, s1, s2⟩ := h7 r2.hr (q4.mono r3.ext)
      refine ⟨v, w2, e2, ?_, s2, r2, q6.trans r3⟩
      simp only [CallGoes, CallSem, callFunc_body hng hfn hbody]
      rw [henter]
      exact q1.trans (hst.trans (r1.trans (.one (st_return (b := b) hfn s1 hkd))))
    · rename_i hbody
      obtain ⟨v, h1, h2⟩ := hext f fn args m k hfn hbody hh
      refine ⟨v, m, h1, hs, fun e w f' us kd c cs hR hf hv hk => ?_⟩
      cases hf
      obtain ⟨v', q1, q2⟩ := h2 e w us hv
      exact ⟨v', w, e, by simp [CallGoes, CallSem, q1], q2, hR, .refl _ _ _⟩
  · cases hh

/-! Rounds of a range over a function -/
theorem setPs_inv : ∀ {ps : List Nat} {as : List CV} {t : Tm} {k : Tm → Bool}, setPs ps as t k = true → ∃ t', k t' = true ∧ ps.length = as.length ∧ ∀ {e : Env} {T : Array Value} {vs : List Value}, TR σ e t T → LR σ e as vs →
    TR σ e t' ((ps.zip vs).foldl (fun T (x : Nat × Value) => T.setIfInBounds x.1 x.2) T)
  | [], as, t, k, h => by
    cases as with
    | nil => exact ⟨t, h, rfl, fun {e T vs} hT _ => by simpa using hT⟩
    | cons a as => cases h
  | p :: ps, as, t, k, h => by
    cases as with
    | nil => cases h
    | cons a as =>
      obtain ⟨t1, h1, hy, h2⟩ := setK_inv _ _ _ _ (show setK a t p (fun t' => setPs ps as t' k) = true from h)
      obtain ⟨t', h3, h4, h5⟩ := setPs_inv h1
      refine ⟨t', h3, by simp [h4], fun {e T vs} hT hv => ?_⟩
      obtain ⟨v, vs', rfl, hv1, hv2⟩ := hv.cons_inv
      simp only [List.zip_cons_cons, List.foldl_cons]
      exact h5 (hT.set hv1 hy h2) hv2

theorem st_begin {b : Frame} {T : Array Value} {d : List Deferred} {k : List Item} {cs : List Frame} {w : World} {l : Nat} {r : Loop} (hb : b.roundOf = some l) (hl : w.heap[l]? = some (.loop r)) (hr : r.state = .ready) :
    step P (lone (fr b T d (.beginRound :: k)) cs w) = .next (lone (fr b T d k) cs { w with heap := w.heap.setIfInBounds l (.loop { r with state := .busy }) }) := by
  refine step_lone_go ?_
  simp [stepG, stepG.exec, fr, hb, stepG.apply, Instr.beginRound, Instr.getLoop, getObj, setObj, Sem.run, hl, hr, Frame.finish]

theorem st_endRound {b c : Frame} {T : Array Value} {d : List Deferred} {todo : List Item} {cs : List Frame} {w : World} {l : Nat} {r : Loop} {jump : Option Code} (hb : b.roundOf = some l) (hk : b.kind = .normal) (hl : w.heap[l]? = some (.loop r))
    (hj : (jump = none ∧ todo = []) ∨ (∃ k, jump = some .ret ∧ todo = .code .ret :: k) ∨ (∃ id k, jump = some (.exit id) ∧ todo = .code (.exit id) :: k ∧ exitTo id k = none)) :
    step P (lone (fr b T d todo) (c :: cs) w) = .next (lone (c.finish (.bool jump.isNone)) cs { w with heap := w.heap.setIfInBounds l (.loop { r with state := if jump.isNone then .ready else .done, pending := jump }) }) := by
  refine step_lone_go ?_
  rcases hj with ⟨rfl, rfl⟩ | ⟨k, rfl, rfl⟩ | ⟨id, k, rfl, rfl, he⟩
  · simp [stepG, stepG.exec, fr, hb, hk, Instr.endRound, Instr.getLoop, getObj, setObj, Sem.run, hl, doReturn]
  · simp [stepG, stepG.exec, fr, hb, hk, Instr.endRound, Instr.getLoop, getObj, setObj, Sem.run, hl, doReturn]
  · simp [stepG, stepG.exec, fr, hb, hk, Instr.endRound, Instr.getLoop, getObj, setObj, Sem.run, hl, doReturn, he]

theorem call_yield {call : CallFn} (hng : NoCount P) (hcall : SoundCall P σ G call) (hdraw : ∀ rd, DrawOK P σ G rd call) {fuel : Nat} {l : Nat} {args : List CV} {m : M} {k : KA}
    (hh : (getK m.h l fun cb => match cb with
      | .loop st _ fn tm ps assign body _ => match st with
        | .ready => setPs ps.toList args tm fun t => codeC P G fn true call fuel assign t [] m fun x t d m => match x with
          | .normal => getK m.h l fun cb => match cb with
            | .loop st pend fn' tm' ps' a' b' db' => match st with
              | .ready => setK (.loop .busy pend fn' tm' ps' a' b' db') m.h l fun h' => codeC P G fn true call fuel body t d ⟨h', m.n, m.tab⟩ fun x _ _ m => endRd l x m k
              | _ => false
            | _ => false
          | _ => false
        | _ => false
      | _ => false) = true) (hs : Sat σ m.tab) :
    ∃ v m', k v m' = true ∧ Sat σ m'.tab ∧ ∀ (e : Env) (w : World) (f' : Fn) (vs : Array Value) (kd : CallKind) (c : Frame) (cs : List Frame), RL σ G e m w → FnR e (.yield l) f' → LR σ e args vs.toList → KindOK (.yield l) kd c →
      ∃ v' w' e', CallGoes P kd c cs (CallSem f' vs) w v' w' ∧ VR σ e' v v' ∧ RL σ G e' m' w' ∧ Kept e m w e' m' w' := by
  obtain ⟨cb, hcb, h1⟩ := getK_inv hh
  cases cb <;> simp only [] at h1 <;> first | (cases h1; done) | skip
  rename_i st pend0 fn tm ps assign body db0
  cases st <;> simp only [] at h1 <;> first | (cases h1; done) | skip
  obtain ⟨t, h2, hpl, hset⟩ := setPs_inv (σ := σ) h1
  obtain ⟨x, t1, d1, m1, h3, hs1, h4⟩ := codeC_ok hng hcall hdraw fn true fuel assign t [] m _ h2 hs
  cases x <;> simp only [] at h3 <;> first | (cases h3; done) | skip
  obtain ⟨cb, hcb1, h5⟩ := getK_inv h3
  cases cb <;> simp only [] at h5 <;> first | (cases h5; done) | skip
  rename_i st pend fn1 tm1 ps1 a1 b1 db1
  cases st <;> simp only [] at h5 <;> first | (cases h5; done) | skip
  obtain ⟨h', h6, _, hh'⟩ := setK_inv _ _ _ _ h5
  obtain ⟨x, t2, d2, m2, h7, hs2, h8⟩ := codeC_ok hng hcall hdraw fn true fuel body t1 d1 _ _ h6 hs1
  obtain ⟨cb, hcb2, h9⟩ := getK_inv h7
  cases cb <;> simp only [] at h9 <;> first | (cases h9; done) | skip
  rename_i st2 pend2 fn2 tm2 ps2 a2 b2 db2
  -- how it ends
  obtain ⟨jump, h3', h10, hh3, hjx⟩ : ∃ (jump : Option Code) (h3' : Hp), k (.bool jump.isNone) ⟨h3', m2.n, m2.tab⟩ = true ∧ (∀ j, h3'.get? j = if j = l then some (.loop (if jump.isNone then .ready else .done) jump fn2 tm2 ps2 a2 b2 db2) else m2.h.get? j) ∧
      ∀ todo, Land x [] todo → (jump = none ∧ todo = []) ∨ (∃ k, jump = some .ret ∧ todo = .code .ret :: k) ∨ (∃ id k, jump = some (.exit id) ∧ todo = .code (.exit id) :: k ∧ exitTo id k = none) := by
    cases x with
    | normal =>
      obtain ⟨h', q1, _, q2⟩ := setK_inv _ _ _ _ h9
      exact ⟨none, h', q1, q2, fun todo h => .inl ⟨rfl, h⟩⟩
    | exit id =>
      obtain ⟨h', q1, _, q2⟩ := setK_inv _ _ _ _ h9
      exact ⟨some (.exit id), h', q1, q2, fun todo ⟨k, hk1, hk2⟩ => .inr (.inr ⟨id, k, rfl, hk1, hk2⟩)⟩
    | ret =>
      obtain ⟨h', q1, _, q2⟩ := setK_inv _ _ _ _ h9
      exact ⟨some .ret, h', q1, q2, fun todo ⟨k, hk1⟩ => .inr (.inl ⟨k, rfl, hk1⟩)⟩
  refine ⟨_, _, h10, hs2, fun e w f' vs kd c cs hR hf hv hk => ?_⟩
  cases hf with
  | @yield _ p hb =>
    have hkd : kd = .normal := by
      rcases hk with h | ⟨_, _, g, hg⟩
      · exact h
      · cases hg
    subst hkd
    obtain ⟨hlive, T0, pl, hw, hT0, hdb⟩ := hR.hr.loop hb hcb
    have hlen : vs.size = ps.size := by have := hv.1; simp at this; have h2 := hpl; simp at h2; omega
    have hrun : (Instr.yield p.r vs).run P w = .ok (.round p.r fn ((ps.zip vs).foldl (fun tmps (x : Nat × Value) => tmps.setIfInBounds x.1 x.2) T0) assign body) w := by
      simp [Instr.yield, Instr.getLoop, getObj, Sem.run, hw, hlen]
    have hTr : TR σ e t ((ps.zip vs).foldl (fun tmps (x : Nat × Value) => tmps.setIfInBounds x.1 x.2) T0) := by
      have := hset hT0 hv
      rw [← Array.foldl_toList, Array.toList_zip]
      exact this
    let b : Frame := { fn := fn, tmps := #[], todo := [], defers := [], mode := .run, kind := .normal, roundOf := some p.r }
    have hround : ∀ T, Frame.round p.r fn T assign body .normal = fr b T [] [.code assign, .beginRound, .code body] := fun T => rfl
    have hfo : FrOK true b (c :: cs) := ⟨p.r, rfl⟩
    obtain ⟨T1, D1, w1, e1, todo1, q1, q2, q3, q4, q5, q6⟩ := h4 e w _ [] b (c :: cs) [.beginRound, .code body] hR hTr .nil hfo rfl
    rw [show todo1 = _ from q2] at q1
    obtain ⟨p1, hb1, hr1, _⟩ := q6.ext _ _ hb
    obtain ⟨hlive1, T1', pl1, hw1, hT1', hdb1⟩ := q3.hr.loop hb1 hcb1
    rw [hr1] at hw1
    have hlt1 : p.r < w1.heap.size := by have := q3.lt hb1 hlive1; rw [hr1] at this; exact this
    obtain ⟨hR2, hK2⟩ := q3.put (w' := { w1 with heap := w1.heap.setIfInBounds p.r (.loop { state := .busy, pending := pend, fn := fn1, tmps := T1', params := ps1, assign := a1, body := b1, defers := pl1.r }) }) hb1 hlive1
      (cb := .loop .busy pend fn1 tm1 ps1 a1 b1 db1) (.loop hT1' hdb1) hh' (by rw [hr1]; exact set_heap w1 p.r hlt1 _) rfl rfl rfl
    obtain ⟨T2, D2, w2, e2, todo2, r1, r2, r3, r4, r5, r6⟩ := h8 e1 _ T1 D1 b (c :: cs) [] hR2 q4 q5 hfo rfl
    obtain ⟨p2, hb2, hr2, _⟩ := r6.ext _ _ hb1
    obtain ⟨hlive2, T2', pl2, hw2, hT2', hdb2⟩ := r3.hr.loop hb2 hcb2
    rw [hr2, hr1] at hw2
    have hlt2 : p.r < w2.heap.size := by have := r3.lt hb2 hlive2; rw [hr2, hr1] at this; exact this
    obtain ⟨hR3, hK3⟩ := r3.put (w' := { w2 with heap := w2.heap.setIfInBounds p.r (.loop { state := if jump.isNone then .ready else .done, pending := jump, fn := fn2, tmps := T2', params := ps2, assign := a2, body := b2, defers := pl2.r }) }) hb2 hlive2
      (cb := .loop (if jump.isNone then .ready else .done) jump fn2 tm2 ps2 a2 b2 db2) (.loop hT2' hdb2) hh3 (by rw [hr2, hr1]; exact set_heap w2 p.r hlt2 _) rfl rfl rfl
    refine ⟨.bool jump.isNone, _, e2, ?_, .bool _, hR3, ((q6.trans hK2).trans r6).trans hK3⟩
    simp only [CallGoes, CallSem, hrun, hround, backTo]
    exact q1.trans (.head (st_begin rfl hw1 rfl) (r1.trans (.one (st_endRound rfl rfl hw2 (hjx todo2 r2)))))

/-- ONE MORE LEVEL OF CALLS. -/
theorem callStep_ok {call : CallFn} (hng : NoCount P) (hext : ExtOK P σ) (hcall : SoundCall P σ G call) (hdraw : ∀ rd, DrawOK P σ G rd call) (fuel : Nat) : SoundCall P σ G (callStep P G fuel call) := by
  intro f args m k hh hs
  cases f with
  | func f => exact call_func hng hext hcall hdraw hh hs
  | yield l => exact call_yield hng hcall hdraw hh hs
  | method n => cases hh
  | methodOf t n => cases hh
  | via t p f q => cases hh

/-- THE CALLS. -/
theorem callC_ok (hng : NoCount P) (hext : ExtOK P σ) (hdraw : ∀ call, SoundCall P σ G call → ∀ rd, DrawOK P σ G rd call) (fuel : Nat) : ∀ depth, SoundCall P σ G (callC P G fuel depth)
  | 0 => fun f args m k hh => by cases hh
  | depth + 1 => callStep_ok hng hext (callC_ok hng hext hdraw fuel depth) (hdraw _ (callC_ok hng hext hdraw fuel depth)) fuel

end
end Go.Ev
