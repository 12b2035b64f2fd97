/- A verified evaluator for the model's code (part EvP): own work, of no program. -/
import Derived.Test.YtbckjaoljeimgaaGreatDoorEvO
namespace Go.Ev
/-! A call known from small memory to small memory, as a contract -/
section
variable {P : Program} {σ : Sg} {G : Nat → Bool}
theorem calls_of_evalS {call : CallFn} (hng : NoCount P) (hcall : SoundCall P σ G call) {fuel : Nat} {f : FuncId} {fn : Func} {cb : Code} {args : List CV} {m : M} {k : KA} (hfn : P.funcs[f]? = some fn) (hbody : fn.body = some cb)
    (hh : callStep P G fuel call (.func f) args m k = true) (hs : Sat σ m.tab) :
    ∃ v m', k v m' = true ∧ Sat σ m'.tab ∧ ∀ (e : Env) (w : World) (vs : Array Value), RL σ G e m w → LR σ e args vs.toList →
      Calls P f vs w fun en w' => ∃ v' e', en = .returned v' ∧ VR σ e' v v' ∧ RL σ G e' m' w' ∧ Kept e m w e' m' w' := by
  have hh' : (setArgs args 0 (blank fn.ntmps) fun t => codeC P G f false call fuel cb t [] m fun x t d m => match x with
          | .exit _ => false
          | _ => defersC call d m fun m => resultsC P fn.results.toList t m fun vs => match vs with
            | [v] => k v m
            | vs => k (.tup vs) m) = true := by
    have : (match P.funcs[f]? with
      | some fn => match fn.body with
        | some c => setArgs args 0 (blank fn.ntmps) fun t => codeC P G f false call fuel c t [] m fun x t d m => match x with
          | .exit _ => false
          | _ => defersC call d m fun m => resultsC P fn.results.toList t m fun vs => match vs with
            | [v] => k v m
            | vs => k (.tup vs) m
        | none => extC fn.name args m k
      | none => false) = true := hh
    rw [hfn] at this
    simp only [hbody] at this
    exact this
  obtain ⟨t, h1, hin, ht⟩ := setArgs_inv hh'
  obtain ⟨x, t1, d1, m1, h2, hs1, h3⟩ := codeC_ok hng hcall (fun rd => draw_ok hcall rd) f false fuel cb t [] m _ h1 hs
  have h2' : (defersC call d1 m1 fun m => resultsC P fn.results.toList t1 m fun vs => match vs with
        | [v] => k v m
        | vs => k (.tup vs) m) = true ∧ ∀ id, x ≠ .exit id := by
    cases x with
    | normal => exact ⟨h2, by simp⟩
    | exit id => cases h2
    | ret => exact ⟨h2, by simp⟩
  obtain ⟨m2, h4, hs2, h5⟩ := defersC_inv hcall h2'.1 hs1
  obtain ⟨vs, h6, h7⟩ := results_run (P := P) (σ := σ) (fn := fn) h4
  have h6' : k (oneOr vs) m2 = true := by
    match vs, h6 with
    | [], h6 => exact h6
    | [v], h6 => exact h6
    | v :: v' :: vs, h6 => exact h6
  refine ⟨oneOr vs, m2, h6', hs2, fun e w us hR hv cs => ?_⟩
  let b : Frame := { fn := f, tmps := #[], todo := [], defers := [], mode := .run, kind := .normal }
  have henter : Frame.enter P f us .normal = fr b (us ++ Array.replicate (fn.ntmps - us.size) undef) [] [.code cb] := by
    simp [Frame.enter, fr, hfn, hbody, b]
  have hfo : FrOK false b cs := ⟨rfl, .inl rfl⟩
  obtain ⟨T1, D1, w1, e1, todo, q1, q2, q3, q4, q5, q6⟩ := h3 e w _ [] b cs [] hR (entry_TR hv hin ht) .nil hfo rfl
  have hret : ∃ todo', Steps P (lone (fr b T1 D1 todo) cs w1) (lone (rf b T1 D1 todo') cs w1) := by
    cases x with
    | normal => rw [show todo = [] from q2]; exact ⟨_, .one (st_leave rfl)⟩
    | exit id => exact absurd rfl (h2'.2 id)
    | ret => obtain ⟨k'', rfl⟩ := q2; exact ⟨_, .one (st_ret' rfl)⟩
  obtain ⟨todo', hst⟩ := hret
  obtain ⟨w2, e2, r1, r2, r3⟩ := h5 e1 w1 D1 b T1 todo' cs q3 q5
  obtain ⟨v, s1, s2⟩ := h7 r2.hr (q4.mono r3.ext)
  refine ⟨.returned v, w2, rf b T1 [] todo', ⟨v, e2, rfl, s2, r2, q6.trans r3⟩, ?_, rfl, rfl, rfl, rfl, fn, hfn, s1⟩
  rw [henter]
  exact q1.trans (hst.trans r1)


/-- the block b0 is named b9 afterwards -/
def CallsTo (P : Program) (σ : Sg) (g : FuncId) (as0 : List CV) (s0 : List BC) (r : CV) (s9 : List BC) (b0 b9 : Nat) : Prop :=
  ∀ (e : Env) (w : World) (vs : Array Value), RL σ G0 e ⟨hpOf s0, s0.length, ⟨[], []⟩⟩ w → LR σ e as0 vs.toList →
    Calls P g vs w fun en w' => ∃ v' e', en = .returned v' ∧ VR σ e' r v' ∧ RL σ G0 e' ⟨hpOf s9, s9.length, ⟨[], []⟩⟩ w' ∧ KeptW e w e' w' ∧ ∀ p, e b0 = some p → ∃ p', e' b9 = some p' ∧ p'.r = p.r ∧ p'.d = p.d
theorem callsTo_of_run (hng : NoCount P) {call : CallFn} (hcall : SoundCall P σ G0 call) {fuel : Nat} {g : FuncId} {fn : Func} {cb : Code} (hfn : P.funcs[g]? = some fn) (hbody : fn.body = some cb) {f ns : Nat} {l : List (Nat × Nat)} {as0 : List CV} {s0 : List BC} {r : CV} {s9 : List BC} {tab : Tab}
    (hh : callStep P G0 fuel call (.func g) as0 ⟨hpOf s0, s0.length, tab⟩ (endK f ns l r s9) = true) (hs : Sat σ tab) {b0 b9 : Nat} (h0 : b0 < s0.length) (h9 : b9 < s9.length) (hl : l[b9]? = some (b0, 0)) : CallsTo P σ g as0 s0 r s9 b0 b9 := by
  obtain ⟨v, m', h1, hs1, h2⟩ := calls_of_evalS hng hcall hfn hbody hh hs
  intro e w vs hR hv
  refine (h2 e w vs (hR.tab tab) hv).mono fun en w' ⟨v', e', q1, q2, q3, q4⟩ => ?_
  unfold endK at h1
  split at h1
  · rename_i hc
    rw [Bool.and_eq_true, Bool.and_eq_true] at hc
    obtain ⟨g1, g2, hord⟩ := hc
    have g2 : l.length = s9.length := by simpa using g2
    have hij : ∀ b b' q q', (ofList l).get? b = some q → (ofList l).get? b' = some q' → q.1 = q'.1 → b = b' := fun b b' q q' hq hq' => by
      rw [ofList_get] at hq hq'
      exact ordR_inj hord b b' q q' hq hq'
    split at h1
    · rename_i h3
      have hn := ofList_lt g2
      refine ⟨v', e'.ren (ofList l) s9.length, q1, q2.ren2 hs1.iv (idF_ok σ ns) hn h3, q3.ren hs1.iv (idF_ok σ ns) hn hij h1 _, q4.toW.trans (.ren _ _ _ _), fun p hp => ?_⟩
      have := q4.fix (f := s0.length) (Nat.le_refl _) b0 h0
      rw [hp] at this
      obtain ⟨p1, k1, k2, k3, _⟩ := this
      exact ⟨_, Env.ren_of h9 (by rw [ofList_get]; exact hl) k1, k2, k3⟩
    · cases h1
  · cases h1
/-- a first call, at no memory of its own -/
theorem callsTo_first (hng : NoCount P) {call : CallFn} (hcall : SoundCall P σ G0 call) {fuel : Nat} {g : FuncId} {fn : Func} {cb : Code} (hfn : P.funcs[g]? = some fn) (hbody : fn.body = some cb) {ns : Nat} {l : List (Nat × Nat)} {as0 : List CV} {r : CV} {s9 : List BC} {tab : Tab}
    (hh : callStep P G0 fuel call (.func g) as0 ⟨hpOf [], 0, tab⟩ (endK 0 ns l r s9) = true) (hs : Sat σ tab) (w : World) (vs : Array Value) (hv : LR σ (fun _ => none) as0 vs.toList) :
    Calls P g vs w fun en w' => ∃ v' e', en = .returned v' ∧ VR σ e' r v' ∧ RL σ G0 e' ⟨hpOf s9, s9.length, ⟨[], []⟩⟩ w' ∧ KeptW (fun _ => none) w e' w' := by
  obtain ⟨v, m', h1, hs1, h2⟩ := calls_of_evalS hng hcall hfn hbody hh hs
  refine (h2 (fun _ => none) w vs (RL.empty _ _ _ _) hv).mono fun en w' ⟨v', e', q1, q2, q3, q4⟩ => ?_
  unfold endK at h1
  split at h1
  · rename_i hc
    rw [Bool.and_eq_true, Bool.and_eq_true] at hc
    obtain ⟨g1, g2, hord⟩ := hc
    have g2 : l.length = s9.length := by simpa using g2
    have hij : ∀ b b' q q', (ofList l).get? b = some q → (ofList l).get? b' = some q' → q.1 = q'.1 → b = b' := fun b b' q q' hq hq' => by
      rw [ofList_get] at hq hq'
      exact ordR_inj hord b b' q q' hq hq'
    split at h1
    · rename_i h3
      have hn := ofList_lt g2
      exact ⟨v', e'.ren (ofList l) s9.length, q1, q2.ren2 hs1.iv (idF_ok σ ns) hn h3, q3.ren hs1.iv (idF_ok σ ns) hn hij h1 _, q4.toW.trans (.ren _ _ _ _)⟩
    · cases h1
  · cases h1
theorem callsTo_of_seg {g : FuncId} {fn : Func} {cb : Code} (hfn : P.funcs[g]? = some fn) (hbody : fn.body = some cb) {f : Nat} {as0 : List CV} {s0 : List BC} (hn : as0.length ≤ fn.ntmps) {B : Pt}
    (hseg : SegR P σ g f ⟨s0, as0 ++ List.replicate (fn.ntmps - as0.length) undefC⟩ [.code cb] B) {r : CV} (hr : resultsC P fn.results.toList (ofList B.t) ⟨hpOf B.s, B.s.length, ⟨[], []⟩⟩ (fun vs => cvBeq (oneOr vs) r) = true) {b0 : Nat} (hb : b0 < f) :
    CallsTo P σ g as0 s0 r B.s b0 b0 := by
  intro e w vs hR hv cs
  let b : Frame := { fn := g, tmps := #[], todo := [], defers := [], mode := .run, kind := .normal }
  have henter : Frame.enter P g vs .normal = fr b (vs ++ Array.replicate (fn.ntmps - vs.size) undef) [] [.code cb] := by
    simp [Frame.enter, fr, hfn, hbody, b]
  have hfo : FrOK false b cs := ⟨rfl, .inl rfl⟩
  obtain ⟨T', w', e', k', q1, ⟨q2, q3⟩, q4, q5⟩ := hseg e w _ b cs [] ⟨hR, TR.entry hv hn⟩ hfo rfl
  obtain ⟨us, h1, h2⟩ := results_run (P := P) (σ := σ) (fn := fn) hr
  obtain ⟨v, s1, s2⟩ := h2 q2.hr q3
  have h1 := cvBeq_eq _ _ h1
  rw [h1] at s2
  refine ⟨.returned v, w', rf b T' [] (.code .ret :: k'), ⟨v, e', rfl, s2, q2, q4, fun p hp => ?_⟩, ?_, rfl, rfl, rfl, rfl, fn, hfn, s1⟩
  · have := q5 b0 hb
    rw [hp] at this
    obtain ⟨p', c1, c2, c3, _⟩ := this
    exact ⟨p', c1, c2, c3⟩
  · rw [henter]
    exact q1.trans (.one (st_ret' rfl))
end
end Go.Ev
