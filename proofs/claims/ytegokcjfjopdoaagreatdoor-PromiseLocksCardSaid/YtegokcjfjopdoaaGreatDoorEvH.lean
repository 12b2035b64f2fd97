/- A verified evaluator for the model's code (part EvH): own work, of no program. -/
import Derived.Test.YtegokcjfjopdoaaGreatDoorEvG
namespace Go.Ev

theorem pk_agg {P : Program} {t : TypeId} {p : PK} (h : pkOf P t = some p) (w : World) : (isAgg t).run P w = .ok false w := by
  simp only [pkOf] at h
  split at h <;> first | (simp [isAgg, undRun (by assumption)]; done) | cases h

theorem part_plain {P : Program} {t : TypeId} {p : PK} (h : pkOf P t = some p) {us : Array Value} {i : Nat} {u : Value} (hu : us.toList[i]? = some u) (w : World) :
    (part t us i).run P w = .ok u w := by
  have hu' : us[i]? = some u := by simpa using hu
  simp [part, pk_agg h, hu']

theorem eqL_inv {σ : Sg} : ∀ {ps : List PK} {xs ys : List CV} {tab : Tab} {k : Bool → Tab → Bool}, eqL ps xs ys tab k = true → Sat σ tab →
    ∃ b tab', k b tab' = true ∧ Sat σ tab' ∧ ∀ {P : Program} {e : Env} {us vs : Array Value} {i : Nat} {fs : List Field}, plainFrom P i fs = some ps →
      LR σ e xs (us.toList.drop i) → LR σ e ys (vs.toList.drop i) → ∀ (n : Nat) (w : World), (Op.eqFields (n + 1) us vs fs).run P w = .ok b w
  | [], xs, ys, tab, k, h, hs => by
    refine ⟨true, tab, h, hs, fun {P e us vs i fs} hf _ _ n w => ?_⟩
    cases fs with
    | nil => rfl
    | cons f fs =>
      simp only [plainFrom] at hf
      split at hf
      · split at hf
        · split at hf <;> cases hf
        · cases hf
      · cases hf
  | p :: ps, xs, ys, tab, k, h, hs => by
    cases xs with
    | nil => cases (show false = true from h)
    | cons x xs =>
      cases ys with
      | nil => cases (show false = true from h)
      | cons y ys =>
        have h' : (match fitP p x with
          | true => eqP x y tab fun b tab => match b with | true => eqL ps xs ys tab k | false => k false tab
          | false => false) = true := h
        split at h'
        · rename_i hfit
          obtain ⟨b, tab', h1, h2, h3⟩ := eqP_inv h' hs
          have step : ∀ {P : Program} {e : Env} {us vs : Array Value} {i : Nat} {f : Field} {fs : List Field}, plainFrom P i (f :: fs) = some (p :: ps) →
              LR σ e (x :: xs) (us.toList.drop i) → LR σ e (y :: ys) (vs.toList.drop i) → ∀ (n : Nat) (w : World),
              plainFrom P (i + 1) fs = some ps ∧ LR σ e xs (us.toList.drop (i + 1)) ∧ LR σ e ys (vs.toList.drop (i + 1)) ∧
              (Op.eqFields (n + 1) us vs (f :: fs)).run P w = if b then (Op.eqFields (n + 1) us vs fs).run P w else .ok false w := by
            intro P e us vs i f fs hf hx hy n w
            simp only [plainFrom] at hf
            split at hf
            · rename_i hno
              simp only [Bool.and_eq_true, bne_iff_ne, ne_eq, Nat.beq_eq] at hno
              split at hf
              · rename_i p' hp
                split at hf
                · rename_i ps' hps
                  simp only [Option.some.injEq, List.cons.injEq] at hf
                  obtain ⟨rfl, rfl⟩ := hf
                  obtain ⟨u, us', hus, hu, hxs⟩ := hx.cons_inv
                  obtain ⟨v, vs', hvs, hv, hys⟩ := hy.cons_inv
                  have gu : us.toList[i]? = some u := by have := congrArg (·[0]?) hus; simpa using this
                  have gv : vs.toList[i]? = some v := by have := congrArg (·[0]?) hvs; simpa using this
                  have du : us.toList.drop (i + 1) = us' := by rw [← List.drop_drop, hus]; rfl
                  have dv : vs.toList.drop (i + 1) = vs' := by rw [← List.drop_drop, hvs]; rfl
                  refine ⟨hps, du ▸ hxs, dv ▸ hys, ?_⟩
                  have ht : ∃ d, P.underlying f.type = some d ∧ (d = .bool ∨ (∃ kd, d = .int kd) ∨ d = .string) ∧
                      fitV d u := by
                    simp only [pkOf] at hp
                    split at hp <;> simp only [Option.some.injEq, reduceCtorEq] at hp <;> subst hp <;>
                      refine ⟨_, by assumption, by simp, ?_⟩ <;> cases x <;> simp only [fitP] at hfit <;> first | (cases hfit; done) | (cases hu; trivial)
                  obtain ⟨d, hd, hd', hm⟩ := ht
                  have heq := h3 (P := P) hu hv hd hd' hm n w
                  simp only [Op.eqFields, hno.1, ne_eq, not_false_eq_true, if_true, Sem.run_bind, hno.2, part_plain hp gu, part_plain hp gv, Result.andThen_ok, heq]
                  cases b <;> simp
                · cases hf
              · cases hf
            · cases hf
          cases b with
          | true =>
            obtain ⟨b', tab'', k1, k2, k3⟩ := eqL_inv h1 h2
            refine ⟨b', tab'', k1, k2, fun {P e us vs i fs} hf hx hy n w => ?_⟩
            cases fs with
            | nil => simp [plainFrom] at hf
            | cons f fs =>
              obtain ⟨a1, a2, a3, a4⟩ := step hf hx hy n w
              rw [a4, if_pos rfl]; exact k3 a1 a2 a3 n w
          | false =>
            refine ⟨false, tab', h1, h2, fun {P e us vs i fs} hf hx hy n w => ?_⟩
            cases fs with
            | nil => simp [plainFrom] at hf
            | cons f fs =>
              obtain ⟨_, _, _, a4⟩ := step hf hx hy n w
              rw [a4]; simp
        · cases h'

theorem liveB_inv {h : Hp} {b : Nat} {k : Bool} (hh : liveB h b k = true) : k = true ∧ ∃ lo es sz cs, h.get? b = some (.cells lo es sz cs) ∧ (lo = false ∨ es ≠ 1) := by
  obtain ⟨cb, hc, hk⟩ := getK_inv hh
  cases cb <;> simp only [] at hk <;> first | (cases hk; done) | skip
  rename_i lo es sz cs
  cases lo with
  | true =>
    simp only [] at hk
    split at hk
    · cases hk
    · rename_i he
      exact ⟨hk, _, _, _, _, hc, .inr fun h => by subst h; cases he⟩
  | false => exact ⟨hk, _, _, _, _, hc, .inl rfl⟩

/-- two addresses in two blocks -/
theorem sameAddr_other {P : Program} {w : World} {r r' o o' : Nat} {c c' : Array Value} {el el' : TypeId} (hne : r ≠ r')
    (h : w.heap[r]? = some (.cells c el (0, 0))) (h' : w.heap[r']? = some (.cells c' el' (0, 0))) :
    (sameAddr ⟨r, o, none⟩ ⟨r', o', none⟩).run P w = .ok false w := by
  have hb : (r == r') = false := by simpa using hne
  have f1 : ∀ x, w.frozen? ⟨r, x, none⟩ = false := fun x => by simp [World.frozen?, h]
  have f2 : ∀ x, w.frozen? ⟨r', x, none⟩ = false := fun x => by simp [World.frozen?, h']
  have s1 : w.shape? r = some (el, c.size) := by simp [World.shape?, h]
  have s2 : w.shape? r' = some (el', c'.size) := by simp [World.shape?, h']
  have st1 : (stringish ⟨r, o, none⟩).run P w = .ok false w := by simp [stringish, f1, s1]
  have st2 : (stringish ⟨r', o', none⟩).run P w = .ok false w := by simp [stringish, f2, s2]
  have n1 : ∀ x, (noView ⟨r, x, none⟩).run P w = .ok () w := fun x => by simp [noView, viewAt, s1]
  have n2 : ∀ x, (noView ⟨r', x, none⟩).run P w = .ok () w := fun x => by simp [noView, viewAt, s2]
  have m1 : (mayBeOne ⟨r, o, none⟩ ⟨r', o', none⟩).run P w = .ok false w := by
    simp [mayBeOne, st1, st2]
  simp [sameAddr, hb, f1, n1, n2, m1]

/-- values that binOp hands to the comparison -/
def odd2 : Value → Value → Prop
  | .pointer _, .pointer _ | .slice .., .slice .. | .map _, .map _ | .bool _, .bool _ | .agg _, .agg _ | .nilIface, _ | .iface .., _ | .nilFunc, _ | .func .., _ => True
  | _, _ => False

theorem plainStruct_inv {P : Program} {t : TypeId} {ps : List PK} (h : plainStruct P t = some ps) :
    ∃ fs, P.underlying t = some (.struct fs) ∧ P.stoodInHeld t = false ∧ P.eqGuardType P.depth t = false ∧ plainFrom P 0 fs.toList = some ps := by
  simp only [plainStruct] at h
  split at h
  · rename_i fs hfs
    split at h
    · rename_i hb
      simp only [Bool.and_eq_true, Bool.not_eq_true'] at hb
      exact ⟨fs, hfs, hb.1, hb.2, h⟩
    · cases h
  · cases h

theorem eqC_inv {σ : Sg} {P : Program} {op : BinOp} {ty : TypeId} {xo yo : Operand} {x y : CV} {h : Hp} {tab : Tab} {k : Bool → Tab → Bool} (hh : eqC P ty (isC xo) (isC yo) x y h tab k = true) (hs : Sat σ tab) :
    ∃ b tab', k b tab' = true ∧ Sat σ tab' ∧ ∀ {e : Env} {w : World} {u v : Value}, HR σ e h w → InjE e → VR σ e x u → VR σ e y v →
      odd2 u v ∧ (eqGuard op ty xo yo u v).run P w = .ok () w ∧ (Op.equal ty u v).run P w = .ok b w := by
  have hif : ∀ (w : World) (X : Sem Unit), X.run P w = .ok () w → (if (!(op matches .eql | .neq)) = true then pure () else X : Sem Unit).run P w = .ok () w := by
    intro w X hX
    cases op <;> first | exact hX | rfl
  have eqr : ∀ {u v : Value} {b : Bool} {w : World}, (∀ n, (Op.equalIn (n + 1) ty u v).run P w = .ok b w) → (Op.equal ty u v).run P w = .ok b w := fun h => h 9999
  have gd : ∀ {u v : Value} (w : World), (match u, v with | .nilIface, .nilIface => False | .agg _, .agg _ => False | _, _ => True) → (eqGuard op ty xo yo u v).run P w = .ok () w := by
    intro u v w hm
    unfold eqGuard
    refine hif w _ ?_
    split
    · simp at hm
    · simp at hm
    · rfl
  cases x with
  | agg xs =>
    simp only [eqC] at hh
    split at hh
    · rename_i ys
      split at hh
      · rename_i ps hp
        obtain ⟨b, tab', h1, h2, h3⟩ := eqL_inv hh hs
        refine ⟨b, tab', h1, h2, fun {e w u v} _ _ hu hv => ?_⟩
        obtain ⟨fs, hf, hst, hg, hpl⟩ := plainStruct_inv hp
        cases hu with
        | agg hl hv' =>
          rename_i us
          cases hv with
          | agg hl2 hv2 =>
            rename_i vs
            refine ⟨trivial, ?_, ?_⟩
            · unfold eqGuard
              refine hif w _ ?_
              simp [hg]
            · have hfo : P.fieldsOf ty = fs := by simp [Program.fieldsOf, hf]
              have := run_equalIn_struct (P := P) w 9999 ty us vs (by rw [hfo]; exact hf) hst
              rw [hfo] at this
              show (Op.equalIn 10000 ty _ _).run P w = _
              rw [this]
              exact h3 hpl ⟨hl, hv'⟩ ⟨hl2, hv2⟩ 9998 w
      · cases hh
    · cases hh
  | ptr0 =>
    simp only [eqC] at hh
    split at hh
    · rename_i el ht
      cases y <;> simp only [] at hh <;> first | (cases hh; done) | skip
      · refine ⟨_, _, hh, hs, fun {e w u v} _ _ hu hv => ?_⟩
        cases hu; cases hv
        exact ⟨trivial, gd w trivial, eqr fun n => by simp [Op.equalIn, undRun ht]⟩
      · refine ⟨_, _, hh, hs, fun {e w u v} _ _ hu hv => ?_⟩
        cases hu; cases hv
        exact ⟨trivial, gd w trivial, eqr fun n => by simp [Op.equalIn, undRun ht]⟩
    · cases hh
  | ptr b o =>
    simp only [eqC] at hh
    split at hh
    · rename_i el ht
      cases y <;> simp only [] at hh <;> first | (cases hh; done) | skip
      · refine ⟨_, _, hh, hs, fun {e w u v} _ _ hu hv => ?_⟩
        cases hu; cases hv
        exact ⟨trivial, gd w trivial, eqr fun n => by simp [Op.equalIn, undRun ht]⟩
      · rename_i b' o'
        obtain ⟨i, hi, h1⟩ := szK_inv hh
        clear hh
        split at h1
        · cases h1
        · rename_i hz
          have hz' : i.size ≠ 0 := fun h => by rw [h] at hz; cases hz
          split at h1
          · rename_i hb
            have hb' : b = b' := by simpa using hb
            subst hb'
            refine ⟨_, _, h1, hs, fun {e w u v} _ _ hu hv => ?_⟩
            cases hu with
            | ptr hp =>
              cases hv with
              | ptr hp' =>
                rw [hp] at hp'; cases hp'
                refine ⟨trivial, gd w trivial, ?_⟩
                refine eqr fun n => ?_
                simp only [Op.equalIn, Sem.run_bind, undRun ht, Result.andThen_ok, szRun hi, ne_eq, hz', not_false_eq_true, if_true, sameAddr, beq_self_eq_true, Sem.run_pure]
                congr 1
                rw [Bool.eq_iff_iff]
                simp
          · rename_i hb
            have hb' : b ≠ b' := fun h => by subst h; simp at hb
            obtain ⟨h1, lo, es, sz, cs, hc, hlo⟩ := liveB_inv h1
            obtain ⟨h1, lo', es', sz', cs', hc', hlo'⟩ := liveB_inv h1
            refine ⟨_, _, h1, hs, fun {e w u v} hr hinj hu hv => ?_⟩
            cases hu with
            | ptr hp =>
              cases hv with
              | ptr hp' =>
                obtain ⟨l1, c, el1, fz, hw, _, _, _, _, hfz⟩ := hr.cells hp hc
                obtain ⟨l2, c', el2, fz', hw', _, _, _, _, hfz'⟩ := hr.cells hp' hc'
                have z1 : fz = (0, 0) := by
                  rcases hfz with h | ⟨h3, h2, _⟩
                  · exact h
                  · rcases hlo with h | h
                    · rw [h] at h3; cases h3
                    · exact absurd h2 h
                have z2 : fz' = (0, 0) := by
                  rcases hfz' with h | ⟨h3, h2, _⟩
                  · exact h
                  · rcases hlo' with h | h
                    · rw [h] at h3; cases h3
                    · exact absurd h2 h
                subst z1; subst z2
                have hne : _ ≠ _ := fun he => hb' (hinj _ _ _ _ hp hp' l1 l2 he)
                refine ⟨trivial, gd w trivial, ?_⟩
                refine eqr fun n => ?_
                simp only [Op.equalIn, Sem.run_bind, undRun ht, Result.andThen_ok, szRun hi, ne_eq, hz', not_false_eq_true, if_true]
                exact sameAddr_other hne hw hw'
    · cases hh
  | sl0 =>
    simp only [eqC] at hh
    split at hh
    · rename_i el ht
      cases y <;> simp only [] at hh <;> first | (cases hh; done) | skip
      all_goals
        refine ⟨_, _, hh, hs, fun {e w u v} _ _ hu hv => ?_⟩
        cases hu; cases hv
        exact ⟨trivial, gd w trivial, eqr fun n => by simp [Op.equalIn, undRun ht]⟩
    · cases hh
  | slE =>
    simp only [eqC] at hh
    split at hh
    · rename_i el ht
      cases y <;> simp only [] at hh <;> first | (cases hh; done) | skip
      refine ⟨_, _, hh, hs, fun {e w u v} _ _ hu hv => ?_⟩
      cases hu; cases hv
      exact ⟨trivial, gd w trivial, eqr fun n => by simp [Op.equalIn, undRun ht]⟩
    · cases hh
  | sl b o l c =>
    simp only [eqC] at hh
    split at hh
    · rename_i el ht
      cases y <;> simp only [] at hh <;> first | (cases hh; done) | skip
      refine ⟨_, _, hh, hs, fun {e w u v} _ _ hu hv => ?_⟩
      cases hu; cases hv
      exact ⟨trivial, gd w trivial, eqr fun n => by simp [Op.equalIn, undRun ht]⟩
    · cases hh
  | map0 =>
    simp only [eqC] at hh
    split at hh
    · rename_i a1 a2 ht
      cases y <;> simp only [] at hh <;> first | (cases hh; done) | skip
      all_goals
        refine ⟨_, _, hh, hs, fun {e w u v} _ _ hu hv => ?_⟩
        cases hu; cases hv
        exact ⟨trivial, gd w trivial, eqr fun n => by simp [Op.equalIn, undRun ht]⟩
    · cases hh
  | map b =>
    simp only [eqC] at hh
    split at hh
    · rename_i a1 a2 ht
      cases y <;> simp only [] at hh <;> first | (cases hh; done) | skip
      refine ⟨_, _, hh, hs, fun {e w u v} _ _ hu hv => ?_⟩
      cases hu; cases hv
      exact ⟨trivial, gd w trivial, eqr fun n => by simp [Op.equalIn, undRun ht]⟩
    · cases hh
  | fn0 =>
    simp only [eqC] at hh
    split at hh
    · rename_i a1 a2 a3 ht
      cases y <;> simp only [] at hh <;> first | (cases hh; done) | skip
      all_goals
        refine ⟨_, _, hh, hs, fun {e w u v} _ _ hu hv => ?_⟩
        cases hu; cases hv
        exact ⟨trivial, gd w trivial, eqr fun n => by simp [Op.equalIn, undRun ht]⟩
    · cases hh
  | fn f as bs =>
    simp only [eqC] at hh
    split at hh
    · rename_i a1 a2 a3 ht
      cases y <;> simp only [] at hh <;> first | (cases hh; done) | skip
      refine ⟨_, _, hh, hs, fun {e w u v} _ _ hu hv => ?_⟩
      cases hu; cases hv
      exact ⟨trivial, gd w trivial, eqr fun n => by simp [Op.equalIn, undRun ht]⟩
    · cases hh
  | ifc0 =>
    simp only [eqC] at hh
    split at hh
    · rename_i ms ht
      cases y <;> simp only [] at hh <;> first | (cases hh; done) | skip
      · refine ⟨_, _, hh, hs, fun {e w u v} _ _ hu hv => ?_⟩
        cases hu; cases hv
        exact ⟨trivial, gd w trivial, eqr fun n => by simp [Op.equalIn, undRun ht]⟩
      · split at hh
        · rename_i hc
          refine ⟨_, _, hh, hs, fun {e w u v} _ _ hu hv => ?_⟩
          cases hu; cases hv
          refine ⟨trivial, ?_, eqr fun n => by simp [Op.equalIn, undRun ht]⟩
          unfold eqGuard
          refine hif w _ ?_
          simp only [Bool.or_eq_true] at hc
          rcases hc with h | h
          · cases xo <;> first | (cases h; done) | rfl
          · cases yo <;> first | (cases h; done) | skip
            cases xo <;> rfl
        · cases hh
    · cases hh
  | ifc t c =>
    simp only [eqC] at hh
    split at hh
    · rename_i ms ht
      cases y <;> simp only [] at hh <;> first | (cases hh; done) | skip
      refine ⟨_, _, hh, hs, fun {e w u v} _ _ hu hv => ?_⟩
      cases hu; cases hv
      exact ⟨trivial, gd w trivial, eqr fun n => by simp [Op.equalIn, undRun ht]⟩
    · cases hh
  | bool b0 =>
    simp only [eqC] at hh
    split at hh
    · rename_i ht
      obtain ⟨b, tab', h1, h2, h3⟩ := eqP_inv hh hs
      refine ⟨b, tab', h1, h2, fun {e w u v} _ _ hu hv => ?_⟩
      have hr := h3 (P := P) hu hv ht (.inl rfl) (by cases hu; trivial) 9999 w
      cases hu
      cases y <;> simp only [eqP] at hh <;> first | (cases hh; done) | skip
      cases hv
      exact ⟨trivial, gd w trivial, hr⟩
    · cases hh
  | _ => cases hh

end Go.Ev
