/- A verified evaluator for the model's code (part EvV): own work, of no program. -/
import Derived.Test.YtegokcjfjopdoaaGreatDoorEvU
namespace Go.Ev

section
variable {P : Program} {σ : Sg} {G : Nat → Bool}

/-- no function of the program is the one that counts goroutines -/
def NoCount (P : Program) : Prop := ∀ (f : FuncId) (fn : Func), P.funcs[f]? = some fn → (fn.name == "runtime.NumGoroutine") = false

theorem callFunc_body (hng : NoCount P) {g : FuncId} {fn : Func} {cb : Code} (hg : P.funcs[g]? = some fn) (hb : fn.body = some cb) (vs : Array Value) (w : World) : (callFunc g vs).run P w = .ok (.enter g vs) w := by
  have hng' : ¬ fn.name = "runtime.NumGoroutine" := by simpa using hng g fn hg
  simp [callFunc, hg, hb, hng']

/-- setting an object that is no row -/
theorem set_heap (w : World) (r : Nat) (hr : r < w.heap.size) (obj : Obj) (x : Nat) : ({ w with heap := w.heap.setIfInBounds r obj } : World).heap[x]? = if x = r then some obj else w.heap[x]? := by
  show (w.heap.setIfInBounds r obj)[x]? = _
  by_cases hz : x = r
  · subst hz; simp [hr]
  · rw [Array.getElem?_setIfInBounds_ne (fun h => hz h.symm), if_neg hz]

theorem HR.loop {e : Env} {h : Hp} {w : World} (hr : HR σ e h w) {b : Nat} {p : Place} (hb : e b = some p) {st : LoopState} {pend : Option Code} {fn : FuncId} {tm : Tr CV} {ps : Array Tmp} {a c : Code} {db : Nat}
    (hc : h.get? b = some (.loop st pend fn tm ps a c db)) : p.live = true ∧ ∃ T pl, w.heap[p.r]? = some (.loop { state := st, pending := pend, fn, tmps := T, params := ps, assign := a, body := c, defers := pl.r }) ∧ TR σ e tm T ∧ e db = some pl := by
  have := hr b p _ hb hc
  split at this
  · rename_i hl
    obtain ⟨o, h2, h3⟩ := this
    cases h3 with
    | loop ht hd => exact ⟨hl, _, _, h2, ht, hd⟩
  · cases this

theorem code_rangeFunc {fn : FuncId} {rd : Bool} {call : CallFn} (hng : NoCount P) (hcall : SoundCall P σ G call) (f : Operand) (ps : Array Tmp) (a b : Code) :
    CodeOK P σ G fn rd (.rangeFunc f ps a b) (fun t d m k => match rd with
      | true => false
      | false => getO G f t fun fv => match fv with
        | .fn f first cap => match f with
          | .func f => isTrue (match P.funcs[f]? with | some fn => fn.body.isSome | none => false) <| newB (.dfd true) m fun db m => newB (.loop .ready none fn t ps a b db) m fun l m =>
            call (.func f) (first ++ [.yld l] ++ cap) m fun _ m => getK m.h l fun cb => match cb with
              | .loop st pend fn t' ps a b db' => match st with
                | .busy => false
                | _ => setK (.loop .exhausted pend fn t' ps a b db') m.h l fun h' => pendK pend fun x => k x t (.coll db :: d) ⟨h', m.n, m.tab⟩
              | _ => false
          | _ => false
        | _ => false) := by
  intro t d m K hh hs
  cases rd with
  | true => cases hh
  | false =>
    obtain ⟨fv, hfv, h1⟩ := getO_inv (show getO G f t _ = true from hh)
    cases fv <;> simp only [] at h1 <;> first | (cases h1; done) | skip
    rename_i g first cap
    cases g <;> simp only [] at h1 <;> first | (cases h1; done) | skip
    rename_i g
    obtain ⟨hbd, h2⟩ := isTrue_inv h1
    obtain ⟨fn0, cb0, hg, hbody⟩ : ∃ fn0 cb0, P.funcs[g]? = some fn0 ∧ fn0.body = some cb0 := by
      cases hfg : P.funcs[g]? with
      | none => rw [hfg] at hbd; cases hbd
      | some fn0 =>
        rw [hfg] at hbd
        obtain ⟨cb0, hcb⟩ := Option.isSome_iff_exists.1 hbd
        exact ⟨fn0, cb0, rfl, hcb⟩
    obtain ⟨h1', h3, hh1⟩ := newB_inv h2
    obtain ⟨h2', h4, hh2⟩ := newB_inv h3
    obtain ⟨v, m3, h5, hs3, h6⟩ := hcall _ _ _ _ h4 hs
    obtain ⟨cb, hcb, h7⟩ := getK_inv h5
    cases cb <;> simp only [] at h7 <;> first | (cases h7; done) | skip
    rename_i st pend fn1 t1 ps1 a1 b1 db1
    have hst : st ≠ .busy := fun h => by subst h; cases h7
    obtain ⟨h3', h8, hh3⟩ : ∃ h3' : Hp, pendK pend (fun x => K x t (.coll m.n :: d) ⟨h3', m3.n, m3.tab⟩) = true ∧ ∀ j, h3'.get? j = if j = m.n + 1 then some (.loop .exhausted pend fn1 t1 ps1 a1 b1 db1) else m3.h.get? j := by
      cases st <;> first | exact absurd rfl hst | (obtain ⟨h', q1, _, q2⟩ := setK_inv _ _ _ _ h7; exact ⟨h', q1, q2⟩)
    -- the real run
    have run : ∀ (e : Env) (w : World) (T : Array Value) (D : List Deferred) (fb : Frame) (cs : List Frame) (k : List Item), RL σ G e m w → TR σ e t T → DR σ e d D → FrOK false fb cs → fb.fn = fn →
        ∃ D' w' e', Steps P (lone (fr fb T D (.code (.rangeFunc f ps a b) :: k)) cs w) (lone (fr fb T D' ((pend.map Item.code).toList ++ k)) cs w') ∧ RL σ G e' ⟨h3', m3.n, m3.tab⟩ w' ∧ TR σ e' t T ∧ DR σ e' (.coll m.n :: d) D' ∧ Kept e m w e' ⟨h3', m3.n, m3.tab⟩ w' := by
      intro e w T D fb cs k hR hT hD hf hfn
      have hfr := hT.ops (D := D) hR f _ hfv
      generalize hfx : (Act.mk T D).eval f = fx at hfr
      cases hfr with
      | fn _ ha hb va vb =>
        rename_i fa fc
        -- the block of deferred calls
        obtain ⟨hR1, hK1⟩ := hR.new (dr := w.drawn) (s := 0) (cb := .dfd true) (obj := .deferred (some [])) .dfdT hh1
        have hx1 := hK1.ext
        -- the loop's block
        have hdb : (e.up m.n ⟨w.heap.size, 0, 0, true⟩) m.n = some ⟨w.heap.size, 0, 0, true⟩ := Env.up_same _ _ _
        obtain ⟨hR2, hK2⟩ := hR1.new (dr := w.drawn) (s := 0) (cb := .loop .ready none fn t ps a b m.n) (obj := .loop { state := .ready, pending := none, fn := fb.fn, tmps := T, params := ps, assign := a, body := b, defers := w.heap.size })
          (by rw [hfn]; exact .loop (pl := ⟨w.heap.size, 0, 0, true⟩) (hT.mono hx1) hdb) hh2
        have hx2 := hK2.ext
        have hl : ((e.up m.n ⟨w.heap.size, 0, 0, true⟩).up (m.n + 1) ⟨w.heap.size + 1, 0, 0, true⟩) (m.n + 1) = some ⟨w.heap.size + 1, 0, 0, true⟩ := Env.up_same _ _ _
        have hsz : (w.heap.push (Obj.deferred (some []))).size = w.heap.size + 1 := by simp
        simp only [hsz] at hR2 hK2 hx2
        have hx := hx1.trans hx2
        have hall : LR σ ((e.up m.n ⟨w.heap.size, 0, 0, true⟩).up (m.n + 1) ⟨w.heap.size + 1, 0, 0, true⟩) (first ++ [.yld (m.n + 1)] ++ cap) (fa ++ #[Value.func (.yield (w.heap.size + 1)) #[] #[]] ++ fc).toList := by
          have := LR.append (LR.append ((show LR σ e first fa.toList from ⟨ha, va⟩).mono hx) (LR.cons (VR.yld hl) .nil)) ((show LR σ e cap fc.toList from ⟨hb, vb⟩).mono hx)
          simpa using this
        obtain ⟨v', w3, e3, q1, q2, q3, q4⟩ := h6 _ _ (.func g) (fa ++ #[.func (.yield (w.heap.size + 1)) #[] #[]] ++ fc) .normal (fr fb T ({ target := .collected w.heap.size, args := #[] } :: D) (.inRangeFunc (w.heap.size + 1) :: k)) cs hR2 (.func g) hall (.inl rfl)
        simp only [CallGoes, CallSem, callFunc_body hng hg hbody] at q1
        have hfin : backTo .normal (fr fb T ({ target := .collected w.heap.size, args := #[] } :: D) (.inRangeFunc (w.heap.size + 1) :: k)) v' = fr fb T ({ target := .collected w.heap.size, args := #[] } :: D) (.endRangeFunc (w.heap.size + 1) :: k) := rfl
        rw [hfin] at q1
        -- behind the call
        obtain ⟨pl3, hl3, hpr, hpd, hps, _⟩ := q4.ext _ _ hl
        obtain ⟨hlive, T1, pdb, hw3, hT1, hdb3⟩ := q3.hr.loop hl3 hcb
        rw [hpr] at hw3
        simp only at hw3
        have hlt : w.heap.size + 1 < w3.heap.size := by have := q3.lt hl3 hlive; rw [hpr] at this; exact this
        obtain ⟨hR4, hK4⟩ := q3.put (w' := { w3 with heap := w3.heap.setIfInBounds (w.heap.size + 1) (.loop { state := .exhausted, pending := pend, fn := fn1, tmps := T1, params := ps1, assign := a1, body := b1, defers := pdb.r }) }) hl3 hlive (cb := .loop .exhausted pend fn1 t1 ps1 a1 b1 db1) (obj := .loop { state := .exhausted, pending := pend, fn := fn1, tmps := T1, params := ps1, assign := a1, body := b1, defers := pdb.r })
          (.loop hT1 hdb3) hh3 (by rw [hpr]; exact set_heap w3 (w.heap.size + 1) hlt _) rfl rfl rfl
        have hxx := hx.trans q4.ext
        -- the deferred calls' block is still the same
        obtain ⟨pdb', hd', hdr, _⟩ := (hx2.trans q4.ext) _ _ hdb
        refine ⟨{ target := .collected w.heap.size, args := #[] } :: D, _, e3, ?_, hR4, hT.mono hxx, .cons ?_ (hD.mono hxx), ((hK1.trans hK2).trans q4).trans hK4⟩
        · refine .head (st_rangeFunc hf.1 hfx hg hbody (hng g fn0 hg)) (q1.trans (.one ?_))
          exact st_endRange hw3 hst
        · have := DR1.coll (σ := σ) hd'
          rw [hdr] at this
          exact this
    cases pend with
    | none =>
      refine ⟨.normal, t, _, _, h8, hs3, fun e w T D fb cs k hR hT hD hf hfn => ?_⟩
      obtain ⟨D', w', e', q1, q2, q3, q4, q5⟩ := run e w T D fb cs k hR hT hD hf hfn
      exact ⟨T, D', w', e', k, q1, rfl, q2, q3, q4, q5⟩
    | some c =>
      cases c <;> simp only [pendK] at h8 <;> first | (cases h8; done) | skip
      · rename_i id
        refine ⟨.exit id, t, _, _, h8, hs3, fun e w T D fb cs k hR hT hD hf hfn => ?_⟩
        obtain ⟨D', w', e', q1, q2, q3, q4, q5⟩ := run e w T D fb cs k hR hT hD hf hfn
        exact ⟨T, D', w', e', _, q1, ⟨k, rfl, rfl⟩, q2, q3, q4, q5⟩
      · refine ⟨.ret, t, _, _, h8, hs3, fun e w T D fb cs k hR hT hD hf hfn => ?_⟩
        obtain ⟨D', w', e', q1, q2, q3, q4, q5⟩ := run e w T D fb cs k hR hT hD hf hfn
        exact ⟨T, D', w', e', _, q1, ⟨k, rfl⟩, q2, q3, q4, q5⟩

theorem codeC_ok {call : CallFn} (hng : NoCount P) (hcall : SoundCall P σ G call) (hdraw : ∀ rd, DrawOK P σ G rd call) (fn : FuncId) (rd : Bool) (fuel : Nat) (c : Code) : CodeOK P σ G fn rd c (codeC P G fn rd call fuel c) := by
  have one : ∀ (x : CX) (c : Code), (∀ (e : Env) (w : World) (m : M) (T : Array Value) (D : List Deferred) (b : Frame) (cs : List Frame) (k : List Item), ∃ todo, Steps P (lone (fr b T D (.code c :: k)) cs w) (lone (fr b T D todo) cs w) ∧ Land x k todo) →
      CodeOK P σ G fn rd c (fun t d m k => k x t d m) := by
    intro x c h t d m K hh hs
    refine ⟨x, t, d, m, hh, hs, fun e w T D b cs k hR hT hD hf _ => ?_⟩
    obtain ⟨todo, h1, h2⟩ := h e w m T D b cs k
    exact ⟨T, D, w, e, todo, h1, h2, hR, hT, hD, .refl _ _ _⟩
  have no : ∀ c, CodeOK P σ G fn rd c (fun _ _ _ _ => false) := fun c t d m K hh => by cases hh
  induction c with
  | skip => exact one .normal .skip fun e w m T D b cs k => ⟨k, .one st_skip, rfl⟩
  | region id ops draw => exact code_region hcall (hdraw rd) id ops draw
  | seq a b iha ihb => exact code_seq iha ihb
  | cond c a b iha ihb => exact code_cond iha ihb
  | block id a iha => exact code_block iha
  | loop a iha => exact code_loop iha fuel
  | rangeFunc f ps a b _ _ => exact code_rangeFunc hng hcall f ps a b
  | exit id => exact one (.exit id) (.exit id) fun e w m T D b cs k => ⟨_, .refl _ _, k, rfl, rfl⟩
  | scope c _ => exact no _
  | label l => exact one .normal (.label l) fun e w m T D b cs k => ⟨k, .one st_label, rfl⟩
  | goto l => exact no _
  | ret => exact one .ret .ret fun e w m T D b cs k => ⟨_, .refl _ _, k, rfl⟩
  | refuse s => exact no _

end
end Go.Ev
