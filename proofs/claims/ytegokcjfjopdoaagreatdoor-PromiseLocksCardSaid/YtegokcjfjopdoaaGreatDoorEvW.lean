/- A verified evaluator for the model's code (part EvW): own work, of no program. -/
import Derived.Test.YtegokcjfjopdoaaGreatDoorEvV
namespace Go.Ev

section
variable {P : Program} {σ : Sg} {G : Nat → Bool}

/-- a frame that returns -/
def rf (b : Frame) (T : Array Value) (d : List Deferred) (todo : List Item) : Frame := { fr b T d todo with mode := .returning }

theorem setArgs_inv : ∀ {as : List CV} {i : Nat} {t : Tm} {k : Tm → Bool}, setArgs as i t k = true → ∃ t', k t' = true ∧ (∀ j, j < as.length → ∃ y, t.get? (i + j) = some y) ∧ ∀ j, t'.get? j = if i ≤ j ∧ j < i + as.length then as[j - i]? else t.get? j
  | [], i, t, k, h => ⟨t, h, (fun j hj => by simp at hj), (fun j => by rw [if_neg (by simp)])⟩
  | a :: as, i, t, k, h => by
    obtain ⟨t1, h1, ⟨y, hy⟩, h2⟩ := setK_inv _ _ _ _ (show setK a t i (fun t' => setArgs as (i + 1) t' k) = true from h)
    obtain ⟨t', h3, h4, h5⟩ := setArgs_inv h1
    refine ⟨t', h3, fun j hj => ?_, fun j => ?_⟩
    · cases j with
      | zero => exact ⟨y, hy⟩
      | succ j =>
        obtain ⟨z, hz⟩ := h4 j (by simpa using hj)
        rw [h2, if_neg (by omega)] at hz
        exact ⟨z, by rwa [show i + (j + 1) = i + 1 + j by omega]⟩
    · rw [h5, h2]
      by_cases hj : i ≤ j ∧ j < i + (a :: as).length
      · rw [if_pos hj]
        simp only [List.length_cons] at hj
        by_cases h0 : j = i
        · subst h0; rw [if_neg (by omega)]; simp
        · rw [if_pos (by omega)]
          have : j - i = (j - (i + 1)) + 1 := by omega
          rw [this]; simp
      · rw [if_neg hj]
        simp only [List.length_cons] at hj
        rw [if_neg (by omega), if_neg (by omega)]

theorem entry_TR {e : Env} {args : List CV} {vs : Array Value} {n : Nat} {t : Tm} (hv : LR σ e args vs.toList) (hin : ∀ j, j < args.length → ∃ y, (blank n).get? (0 + j) = some y)
    (ht : ∀ j, t.get? j = if 0 ≤ j ∧ j < 0 + args.length then args[j - 0]? else (blank n).get? j) : TR σ e t (vs ++ Array.replicate (n - vs.size) undef) := by
  have hb : ∀ j, (blank n).get? j = if j < n then some undefC else none := by
    intro j
    rw [blank, ofList_get, List.getElem?_replicate]
  have hlen : args.length = vs.size := by simpa using hv.1
  have hle : args.length ≤ n := by
    rcases Nat.eq_zero_or_pos args.length with h | h
    · omega
    · obtain ⟨y, hy⟩ := hin (args.length - 1) (by omega)
      rw [hb] at hy
      split at hy
      · omega
      · cases hy
  intro j
  rw [ht, hb]
  by_cases h1 : j < args.length
  · rw [if_pos (by omega)]
    have hc : args[j - 0]? = some args[j] := by simp [List.getElem?_eq_getElem h1]
    rw [hc]
    obtain ⟨v, h2, h3⟩ := hv.get (List.getElem?_eq_getElem h1)
    exact ⟨v, by rw [Array.getElem?_append_left (by omega)]; simpa using h2, h3⟩
  · rw [if_neg (by omega)]
    by_cases h2 : j < n
    · rw [if_pos h2]
      refine ⟨undef, ?_, undef_VR⟩
      rw [Array.getElem?_append_right (by omega), Array.getElem?_replicate, if_pos (by omega)]
    · rw [if_neg h2]
      exact Array.getElem?_eq_none (by simp; omega)

theorem resultsC_inv : ∀ {rs : List ResultVar} {t : Tm} {m : M} {k : List CV → Bool}, resultsC P rs t m k = true → ∃ vs, k vs = true ∧ ∀ {e : Env} {w : World} {T : Array Value}, HR σ e m.h w → TR σ e t T →
    ∃ us, (rs.mapM (fun r => match r with | .tmp i => pure (T.getD i undef) | .cell a ty => do loadVar ty (← asAddr (T.getD a undef)) : ResultVar → Sem Value)).run P w = .ok us w ∧ LR σ e vs us
  | [], t, m, k, h => ⟨[], h, fun {e w T} _ _ => ⟨[], by simp, .nil⟩⟩
  | r :: rs, t, m, k, h => by
    cases r with
    | tmp i =>
      obtain ⟨v, hv, h1⟩ := getK_inv (show getK t i (fun v => resultsC P rs t m fun vs => k (v :: vs)) = true from h)
      obtain ⟨vs, h2, h3⟩ := resultsC_inv h1
      refine ⟨v :: vs, h2, fun {e w T} hr hT => ?_⟩
      obtain ⟨us, h4, h5⟩ := h3 hr hT
      obtain ⟨u, hu, hvr⟩ := hT.get hv
      have hgd : T.getD i undef = u := by simp [hu]
      exact ⟨u :: us, by simp only [List.mapM_cons, Sem.run_bind, Sem.run_pure, Result.andThen_ok, hgd, h4], .cons hvr h5⟩
    | cell a ty =>
      obtain ⟨v, hv, h1⟩ := getK_inv (show getK t a (fun v => asPtr v fun b off => loadC P ty b off m.h fun v => resultsC P rs t m fun vs => k (v :: vs)) = true from h)
      obtain ⟨b, off, rfl, h2⟩ := asPtr_inv h1
      obtain ⟨c, h3, h4⟩ := loadC_inv h2
      obtain ⟨vs, h5, h6⟩ := resultsC_inv h3
      refine ⟨c :: vs, h5, fun {e w T} hr hT => ?_⟩
      obtain ⟨us, h7, h8⟩ := h6 hr hT
      obtain ⟨u, hu, hvr⟩ := hT.get hv
      cases hvr with
      | @ptr _ _ p hp =>
        obtain ⟨z, h9, h10⟩ := h4 hr _ hp
        refine ⟨z :: us, ?_, .cons h10 h8⟩
        have hgd : T.getD a undef = .pointer (some ⟨p.r, off + p.d, none⟩) := by simp [hu]
        have hadr : (Go.asAddr (.pointer (some ⟨p.r, off + p.d, none⟩))).run P w = .ok ⟨p.r, off + p.d, none⟩ w := rfl
        simp only [List.mapM_cons, Sem.run_bind, Sem.run_pure, Result.andThen_ok, hgd, hadr, h9, h7]

/-- the value that a call hands back -/
def oneOr (vs : List CV) : CV := match vs with | [v] => v | vs => .tup vs
theorem results_run {fn : Func} {t : Tm} {m : M} {k : List CV → Bool} (h : resultsC P fn.results.toList t m k = true) : ∃ vs, k vs = true ∧ ∀ {e : Env} {w : World} {T : Array Value}, HR σ e m.h w → TR σ e t T →
    ∃ v, (results fn T).run P w = .ok v w ∧ VR σ e (oneOr vs) v := by
  obtain ⟨vs, h1, h2⟩ := resultsC_inv (σ := σ) h
  refine ⟨vs, h1, fun {e w T} hr hT => ?_⟩
  obtain ⟨us, h3, h4⟩ := h2 hr hT
  have hm : (fn.results.mapM (fun r => match r with | .tmp i => pure (T.getD i undef) | .cell a ty => do loadVar ty (← asAddr (T.getD a undef)) : ResultVar → Sem Value)).run P w = .ok us.toArray w := by
    rw [Array.mapM_eq_mapM_toList, Sem.run_map, h3]; rfl
  have hrun : (results fn T).run P w = .ok (if h : us.toArray.size = 1 then us.toArray[0] else .tuple us.toArray) w := by
    have hdef : results fn T = (fn.results.mapM (fun r => match r with | .tmp i => pure (T.getD i undef) | .cell a ty => do loadVar ty (← asAddr (T.getD a undef)) : ResultVar → Sem Value) >>= fun vs => pure (if h : vs.size = 1 then vs[0] else .tuple vs)) := rfl
    rw [hdef, Sem.run_bind, hm]
    rfl
  refine ⟨_, hrun, ?_⟩
  match us, vs, h4 with
  | [], [], h4 => exact .tup rfl (fun i c v h => by simp at h)
  | [u], [c], h4 => simpa [oneOr] using h4.2 0 c u (by simp) (by simp)
  | u :: u' :: us, c :: c' :: vs, h4 => simpa [oneOr] using VR.tup (vs := (u :: u' :: us).toArray) h4.1 h4.2
  | [], _ :: _, h4 => exact absurd h4.1 (by simp)
  | _ :: _, [], h4 => exact absurd h4.1 (by simp)
  | [u], c :: c' :: vs, h4 => exact absurd h4.1 (by simp)
  | u :: u' :: us, [c], h4 => exact absurd h4.1 (by simp)

/-- a deferred call -/
theorem st_deferCall {b : Frame} {T : Array Value} {ds : List Deferred} {todo : List Item} {cs : List Frame} {w w' : World} {g : FuncId} {args cap : Array Value} {v' : Value}
    (hg : CallGoes P .deferred (rf b T ds todo) cs (CallSem (.func g) (args ++ cap)) w v' w') :
    Steps P (lone (rf b T ({ target := .fn (.func g) cap, args := args } :: ds) todo) cs w) (lone (rf b T ds todo) cs w') := by
  simp only [CallGoes, CallSem] at hg
  split at hg
  · rename_i v1 w1 hr
    obtain ⟨rfl, rfl⟩ := hg
    refine .one (step_lone_go ?_)
    simp [stepG, rf, fr, unwind, callDeferred, invoke, hr]
  · rename_i f as1 w1 hr
    refine .head (step_lone_go (fr' := Frame.enter P f as1 .deferred) (cs' := rf b T ds todo :: cs) (w' := w1) ?_) hg
    simp [stepG, rf, fr, unwind, callDeferred, invoke, hr]
  · rename_i l f tm a1 b1 w1 hr
    refine .head (step_lone_go (fr' := Frame.round l f tm a1 b1 .deferred) (cs' := rf b T ds todo :: cs) (w' := w1) ?_) hg
    simp [stepG, rf, fr, unwind, callDeferred, invoke, hr]
  · exact hg.elim
theorem st_collected {b : Frame} {T : Array Value} {ds : List Deferred} {todo : List Item} {cs : List Frame} {w : World} {r : Nat} (h : w.heap[r]? = some (.deferred (some []))) :
    step P (lone (rf b T ({ target := .collected r, args := #[] } :: ds) todo) cs w) = .next (lone (rf b T ds todo) cs { w with heap := w.heap.setIfInBounds r (.deferred none) }) := by
  refine step_lone_go ?_
  simp [stepG, rf, fr, unwind, Instr.takeDeferred, getObj, setObj, Sem.run, h]

theorem defersC_inv {call : CallFn} (hcall : SoundCall P σ G call) : ∀ {ds : List DF} {m : M} {k : M → Bool}, defersC call ds m k = true → Sat σ m.tab → ∃ m', k m' = true ∧ Sat σ m'.tab ∧
    ∀ (e : Env) (w : World) (D : List Deferred) (b : Frame) (T : Array Value) (todo : List Item) (cs : List Frame), RL σ G e m w → DR σ e ds D →
      ∃ w' e', Steps P (lone (rf b T D todo) cs w) (lone (rf b T [] todo) cs w') ∧ RL σ G e' m' w' ∧ Kept e m w e' m' w'
  | [], m, k, h, hs => ⟨m, h, hs, fun e w D b T todo cs hR hD => by cases hD; exact ⟨w, e, .refl _ _, hR, .refl _ _ _⟩⟩
  | x :: ds, m, k, h, hs => by
    cases x with
    | call f args cap =>
      obtain ⟨v, m1, h1, hs1, h2⟩ := hcall _ _ _ _ (show call f (args ++ cap) m (fun _ m => defersC call ds m k) = true from h) hs
      obtain ⟨m', h3, hs2, h4⟩ := defersC_inv hcall h1 hs1
      refine ⟨m', h3, hs2, fun e w D b T todo cs hR hD => ?_⟩
      cases hD with
      | cons hx hD' =>
        cases hx with
        | call g q1 q2 =>
          rename_i ys vs us
          obtain ⟨v', w1, e1, r1, r2, r3, r4⟩ := h2 e w (.func g) (vs ++ us) .deferred (rf b T ys todo) cs hR (.func g) (by simpa using q1.append q2) (.inr ⟨rfl, rfl, g, rfl⟩)
          obtain ⟨w', e', s1, s2, s3⟩ := h4 e1 w1 ys b T todo cs r3 (hD'.mono r4.ext)
          exact ⟨w', e', (st_deferCall r1).trans s1, s2, r4.trans s3⟩
    | coll bl =>
      obtain ⟨cb, hcb, h1⟩ := getK_inv (show getK m.h bl _ = true from h)
      cases cb <;> first | (cases h1; done) | skip
      rename_i bb
      cases bb
      · cases h1
      obtain ⟨h', h2, _, hh'⟩ := setK_inv _ _ _ _ h1
      obtain ⟨m', h3, hs2, h4⟩ := defersC_inv hcall h2 hs
      refine ⟨m', h3, hs2, fun e w D b T todo cs hR hD => ?_⟩
      cases hD with
      | cons hx hD' =>
        cases hx with
        | @coll _ p hb =>
          rename_i ys
          have := hR.hr _ _ _ hb hcb
          split at this
          · rename_i hl
            obtain ⟨o, g2, g3⟩ := this
            cases g3
            obtain ⟨hR1, hK1⟩ := hR.put (w' := { w with heap := w.heap.setIfInBounds p.r (.deferred none) }) hb hl (cb := .dfd false) (obj := .deferred none) .dfdF hh' (set_heap w p.r (hR.lt hb hl) _) rfl rfl rfl
            obtain ⟨w', e', s1, s2, s3⟩ := h4 e _ ys b T todo cs hR1 hD'
            exact ⟨w', e', .head (st_collected g2) s1, s2, hK1.trans s3⟩
          · cases this

end
end Go.Ev
