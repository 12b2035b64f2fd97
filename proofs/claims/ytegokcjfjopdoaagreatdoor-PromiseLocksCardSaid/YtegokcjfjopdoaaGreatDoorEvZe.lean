/- A verified evaluator for the model's code (part EvZe): own work, of no program. -/
import Derived.Test.YtegokcjfjopdoaaGreatDoorEvZd
import Derived.RowKit3
namespace Go.Ev

section
variable {P : Program} {σ : Sg} {G : Nat → Bool}

/-- a call with a body, up to its return, as the kit has it -/
theorem calls_of_eval {call : CallFn} (hng : NoCount P) (hcall : SoundCall P σ G call) {fuel : Nat} {f : FuncId} {fn : Func} {cb : Code} {args : List CV} {m : M} {k : KA} (hfn : P.funcs[f]? = some fn) (hbody : fn.body = some cb)
    (hh : callStep P G fuel call (.func f) args m k = true) (hs : Sat σ m.tab) :
    ∃ v m', k v m' = true ∧ ∀ (e : Env) (w : World) (vs : Array Value), RL σ G e m w → LR σ e args vs.toList →
      Calls P f vs w fun en w' => ∃ v' e', en = .returned v' ∧ VR σ e' v v' ∧ RL σ G e' m' w' ∧ Kept e m w e' m' w' := by
  have hh' : (setArgs args 0 (blank fn.ntmps) fun t => codeC P G f false call fuel cb t [] m fun x t d m => match x with
          | .exit _ => false
          | _ => defersC call d m fun m => resultsC P fn.results.toList t m fun vs => match vs with
            | [v] => k v m
            | vs => k (.tup vs) m) = true := by
    have : (match P.funcs[f]? with
      | some fn => match fn.body with
        | some c => setArgs args 0 (blank fn.ntmps) fun t => codeC P G f false call fuel c t [] m fun x t d m => match x with
          | .exit _ => false
          | _ => defersC call d m fun m => resultsC P fn.results.toList t m fun vs => match vs with
            | [v] => k v m
            | vs => k (.tup vs) m
        | none => extC fn.name args m k
      | none => false) = true := hh
    rw [hfn] at this
    simp only [hbody] at this
    exact this
  obtain ⟨t, h1, hin, ht⟩ := setArgs_inv hh'
  obtain ⟨x, t1, d1, m1, h2, hs1, h3⟩ := codeC_ok hng hcall (fun rd => draw_ok hcall rd) f false fuel cb t [] m _ h1 hs
  have h2' : (defersC call d1 m1 fun m => resultsC P fn.results.toList t1 m fun vs => match vs with
        | [v] => k v m
        | vs => k (.tup vs) m) = true ∧ ∀ id, x ≠ .exit id := by
    cases x with
    | normal => exact ⟨h2, by simp⟩
    | exit id => cases h2
    | ret => exact ⟨h2, by simp⟩
  obtain ⟨m2, h4, hs2, h5⟩ := defersC_inv hcall h2'.1 hs1
  obtain ⟨vs, h6, h7⟩ := results_run (P := P) (σ := σ) (fn := fn) h4
  have h6' : k (oneOr vs) m2 = true := by
    match vs, h6 with
    | [], h6 => exact h6
    | [v], h6 => exact h6
    | v :: v' :: vs, h6 => exact h6
  refine ⟨oneOr vs, m2, h6', fun e w us hR hv cs => ?_⟩
  let b : Frame := { fn := f, tmps := #[], todo := [], defers := [], mode := .run, kind := .normal }
  have henter : Frame.enter P f us .normal = fr b (us ++ Array.replicate (fn.ntmps - us.size) undef) [] [.code cb] := by
    simp [Frame.enter, fr, hfn, hbody, b]
  have hfo : FrOK false b cs := ⟨rfl, .inl rfl⟩
  obtain ⟨T1, D1, w1, e1, todo, q1, q2, q3, q4, q5, q6⟩ := h3 e w _ [] b cs [] hR (entry_TR hv hin ht) .nil hfo rfl
  have hret : ∃ todo', Steps P (lone (fr b T1 D1 todo) cs w1) (lone (rf b T1 D1 todo') cs w1) := by
    cases x with
    | normal => rw [show todo = [] from q2]; exact ⟨_, .one (st_leave rfl)⟩
    | exit id => exact absurd rfl (h2'.2 id)
    | ret => obtain ⟨k'', rfl⟩ := q2; exact ⟨_, .one (st_ret' rfl)⟩
  obtain ⟨todo', hst⟩ := hret
  obtain ⟨w2, e2, r1, r2, r3⟩ := h5 e1 w1 D1 b T1 todo' cs q3 q5
  obtain ⟨v, s1, s2⟩ := h7 r2.hr (q4.mono r3.ext)
  refine ⟨.returned v, w2, rf b T1 [] todo', ⟨v, e2, rfl, s2, r2, q6.trans r3⟩, ?_, rfl, rfl, rfl, rfl, fn, hfn, s1⟩
  rw [henter]
  exact q1.trans (hst.trans r1)

/-- the empty canonical state goes with every real one -/
theorem RL.empty (h : Hp) (n : Nat) (tab : Tab) (w : World) : RL σ (fun _ => false) (fun _ => none) ⟨h, n, tab⟩ w :=
  ⟨(fun b p cb hb => by cases hb), (fun b p hb => by cases hb), (fun b b' p p' hb => by cases hb), (fun b _ => rfl), (fun g hg => by cases hg)⟩

theorem RL.frame {e : Env} {m : M} {w w' : World} (hR : RL σ G e m w) (h : ∀ r, r < w.heap.size → w'.heap[r]? = w.heap[r]?) : RL σ G e m w' := by
  refine ⟨fun b p cb hb hc => ?_, hR.dom, hR.inj, hR.bnd, hR.glo⟩
  have old := hR.hr b p cb hb hc
  split at old
  · rename_i hl
    obtain ⟨o, h1, h2⟩ := old
    simp only [hl, if_true]
    exact ⟨o, by rw [h _ (hR.lt hb hl)]; exact h1, h2⟩
  · rename_i hl
    simp only [hl]
    exact old

def isT : KA := fun v _ => match v with | .bool b => b | _ => false
theorem isT_inv {v : CV} {m : M} (h : isT v m = true) : v = .bool true := by
  cases v <;> simp [isT] at h; rw [h]

/-- a closed call that hands back true may be passed over -/
theorem ovr_ok {call call' : CallFn} (hcall : SoundCall P σ G call) {aw : FuncId} (hsound : SoundCall P σ (fun _ => false) call') {h0 : Hp} {n0 : Nat} (haw : call' (.func aw) [] ⟨h0, n0, []⟩ isT = true) : SoundCall P σ G (ovr aw call) := by
  intro f args m k hh hs
  simp only [ovr] at hh
  split at hh
  · rename_i g
    split at hh
    · rename_i hg
      have hg : g = aw := by simpa using hg
      subst hg
      split at hh
      · obtain ⟨v, m', h1, _, h2⟩ := hsound _ _ _ _ haw (fun s lo hi h => by simp at h)
        have hv := isT_inv h1
        subst hv
        refine ⟨.bool true, m, hh, hs, fun e w f' vs kd c cs hR hf hv hk => ?_⟩
        cases hf
        obtain ⟨v', w', e', q1, q2, q3, q4⟩ := h2 (fun _ => none) w (.func g) vs kd c cs (RL.empty _ _ _ _) (.func g) (by rw [hv.nil_inv]; exact .nil) hk
        cases q2
        have hfr : ∀ r, r < w.heap.size → w'.heap[r]? = w.heap[r]? := fun r hr => q4.frm r hr (fun b p hb => by cases hb)
        exact ⟨.bool true, w', e, q1, .bool true, hR.frame hfr, ⟨.refl e, Nat.le_refl _, fun _ _ h => ⟨h, rfl⟩, q4.siz, fun r hr _ => hfr r hr, fun b p h hl => .inl ⟨b, p, h, hl, rfl⟩, q4.tap, q4.os, q4.out⟩⟩
      · cases hh
    · exact hcall _ _ _ _ hh hs
  · exact hcall _ _ _ _ hh hs

/-- a law whose arguments are integers, walked by the evaluator -/
theorem kept_of_run {e' : Env} {m m' : M} {w w' : World} (h : Kept (fun _ => none) m w e' m' w') : w.keptBut w' (fun _ => False) := by
  refine ⟨h.os, h.out, fun i hi => ?_⟩
  have hfr : w'.heap[i]? = w.heap[i]? := h.frm i hi (fun b p hb => by cases hb)
  rw [hfr]
  split
  · rename_i h1 h2
    rw [h1] at h2
    cases h2
    exact ⟨rfl, rfl, rfl, fun _ _ => rfl⟩
  · rename_i h1 h2
    rw [h1] at h2
    cases h2
    exact .inr ⟨rfl, rfl⟩
  · rfl

theorem calls_true {call : CallFn} (hng : NoCount P) (hcall : SoundCall P σ (fun _ => false) call) {fuel : Nat} {f : FuncId} {fn : Func} {cb : Code} {args : List CV} {m : M} (hfn : P.funcs[f]? = some fn) (hbody : fn.body = some cb)
    (hh : callStep P (fun _ => false) fuel call (.func f) args m isT = true) (hs : Sat σ m.tab) (w : World) (vs : Array Value) (hv : LR σ (fun _ => none) args vs.toList) :
    Calls P f vs w fun en w' => en = .returned (.bool true) ∧ w.keptBut w' (fun _ => False) := by
  obtain ⟨v, m', h1, h2⟩ := calls_of_eval hng hcall hfn hbody hh hs
  have := isT_inv h1
  subst this
  refine (h2 (fun _ => none) w vs (RL.empty _ _ _ _) hv).mono fun en w' ⟨v', e', he, hvr, _, hk⟩ => ?_
  cases hvr
  exact ⟨he, kept_of_run hk⟩

end
end Go.Ev
