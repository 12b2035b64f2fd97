/- A verified evaluator for the model's code (part EvB): own work, of no program. -/
import Derived.Test.YtdbhonkahlcdoaaGreatDoorEvA
import Derived.Laws.Tables
import Derived.Laws.MakeOwn
import Derived.Great.BuildSlice
import Derived.Lib.Builder
import Derived.Laws.IdiomStrings
import Derived.Laws.RangeString
namespace Go.Ev

theorem pk_agg {P : Program} {t : TypeId} {p : PK} (h : pkOf P t = some p) (w : World) : (isAgg t).run P w = .ok false w := by
  simp only [pkOf] at h
  split at h <;> first | (simp [isAgg, undRun (by assumption)]; done) | cases h

theorem part_plain {P : Program} {t : TypeId} {p : PK} (h : pkOf P t = some p) {us : Array Value} {i : Nat} {u : Value} (hu : us.toList[i]? = some u) (w : World) :
    (part t us i).run P w = .ok u w := by
  have hu' : us[i]? = some u := by simpa using hu
  simp [part, pk_agg h, hu']

theorem eqL_inv {σ : Sg} : ∀ {ps : List PK} {xs ys : List CV} {tab : Tab} {k : Bool → Tab → Bool}, eqL ps xs ys tab k = true → Sat σ tab →
    ∃ b tab', k b tab' = true ∧ Sat σ tab' ∧ ∀ {P : Program} {e : Env} {us vs : Array Value} {i : Nat} {fs : List Field}, plainFrom P i fs = some ps →
      LR σ e xs (us.toList.drop i) → LR σ e ys (vs.toList.drop i) → ∀ (n : Nat) (w : World), (Op.eqFields (n + 1) us vs fs).run P w = .ok b w
  | [], xs, ys, tab, k, h, hs => by
    refine ⟨true, tab, h, hs, fun {P e us vs i fs} hf _ _ n w => ?_⟩
    cases fs with
    | nil => rfl
    | cons f fs =>
      simp only [plainFrom] at hf
      split at hf
      · split at hf
        · split at hf <;> cases hf
        · cases hf
      · cases hf
  | p :: ps, xs, ys, tab, k, h, hs => by
    cases xs with
    | nil => cases (show false = true from h)
    | cons x xs =>
      cases ys with
      | nil => cases (show false = true from h)
      | cons y ys =>
        have h' : (match fitP p x with
          | true => eqP x y tab fun b tab => match b with | true => eqL ps xs ys tab k | false => k false tab
          | false => false) = true := h
        split at h'
        · rename_i hfit
          obtain ⟨b, tab', h1, h2, h3⟩ := eqP_inv h' hs
          have step : ∀ {P : Program} {e : Env} {us vs : Array Value} {i : Nat} {f : Field} {fs : List Field}, plainFrom P i (f :: fs) = some (p :: ps) →
              LR σ e (x :: xs) (us.toList.drop i) → LR σ e (y :: ys) (vs.toList.drop i) → ∀ (n : Nat) (w : World),
              plainFrom P (i + 1) fs = some ps ∧ LR σ e xs (us.toList.drop (i + 1)) ∧ LR σ e ys (vs.toList.drop (i + 1)) ∧
              (Op.eqFields (n + 1) us vs (f :: fs)).run P w = if b then (Op.eqFields (n + 1) us vs fs).run P w else .ok false w := by
            intro P e us vs i f fs hf hx hy n w
            simp only [plainFrom] at hf
            split at hf
            · rename_i hno
              simp only [Bool.and_eq_true, bne_iff_ne, ne_eq, Nat.beq_eq] at hno
              split at hf
              · rename_i p' hp
                split at hf
                · rename_i ps' hps
                  simp only [Option.some.injEq, List.cons.injEq] at hf
                  obtain ⟨rfl, rfl⟩ := hf
                  obtain ⟨u, us', hus, hu, hxs⟩ := hx.cons_inv
                  obtain ⟨v, vs', hvs, hv, hys⟩ := hy.cons_inv
                  have gu : us.toList[i]? = some u := by have := congrArg (·[0]?) hus; simpa using this
                  have gv : vs.toList[i]? = some v := by have := congrArg (·[0]?) hvs; simpa using this
                  have du : us.toList.drop (i + 1) = us' := by rw [← List.drop_drop, hus]; rfl
                  have dv : vs.toList.drop (i + 1) = vs' := by rw [← List.drop_drop, hvs]; rfl
                  refine ⟨hps, du ▸ hxs, dv ▸ hys, ?_⟩
                  have ht : ∃ d, P.underlying f.type = some d ∧ (d = .bool ∨ (∃ kd, d = .int kd) ∨ d = .string) ∧
                      fitV d u := by
                    simp only [pkOf] at hp
                    split at hp <;> simp only [Option.some.injEq, reduceCtorEq] at hp <;> subst hp <;>
                      refine ⟨_, by assumption, by simp, ?_⟩ <;> cases x <;> simp only [fitP] at hfit <;> first | (cases hfit; done) | (cases hu; trivial)
                  obtain ⟨d, hd, hd', hm⟩ := ht
                  have heq := h3 (P := P) hu hv hd hd' hm n w
                  simp only [Op.eqFields, hno.1, ne_eq, not_false_eq_true, if_true, Sem.run_bind, hno.2, part_plain hp gu, part_plain hp gv, Result.andThen_ok, heq]
                  cases b <;> simp
                · cases hf
              · cases hf
            · cases hf
          cases b with
          | true =>
            obtain ⟨b', tab'', k1, k2, k3⟩ := eqL_inv h1 h2
            refine ⟨b', tab'', k1, k2, fun {P e us vs i fs} hf hx hy n w => ?_⟩
            cases fs with
            | nil => simp [plainFrom] at hf
            | cons f fs =>
              obtain ⟨a1, a2, a3, a4⟩ := step hf hx hy n w
              rw [a4, if_pos rfl]; exact k3 a1 a2 a3 n w
          | false =>
            refine ⟨false, tab', h1, h2, fun {P e us vs i fs} hf hx hy n w => ?_⟩
            cases fs with
            | nil => simp [plainFrom] at hf
            | cons f fs =>
              obtain ⟨_, _, _, a4⟩ := step hf hx hy n w
              rw [a4]; simp
        · cases h'

theorem liveB_inv {h : Hp} {b : Nat} {k : Bool} (hh : liveB h b k = true) : k = true ∧ ∃ te lo es sz cs, h.get? b = some (.cells te lo es sz cs) ∧ (lo = false ∨ es ≠ 1) := by
  obtain ⟨cb, hc, hk⟩ := getK_inv hh
  cases cb <;> simp only [] at hk <;> first | (cases hk; done) | skip
  rename_i te lo es sz cs
  cases lo with
  | true =>
    simp only [] at hk
    split at hk
    · cases hk
    · rename_i he
      exact ⟨hk, _, _, _, _, _, hc, .inr fun h => by subst h; cases he⟩
  | false => exact ⟨hk, _, _, _, _, _, hc, .inl rfl⟩

/-- two addresses in two blocks -/
theorem sameAddr_other {P : Program} {w : World} {r r' o o' : Nat} {c c' : Array Value} {el el' : TypeId} (hne : r ≠ r')
    (h : w.heap[r]? = some (.cells c el (0, 0))) (h' : w.heap[r']? = some (.cells c' el' (0, 0))) :
    (sameAddr ⟨r, o, none⟩ ⟨r', o', none⟩).run P w = .ok false w := by
  have hb : (r == r') = false := by simpa using hne
  have f1 : ∀ x, w.frozen? ⟨r, x, none⟩ = false := fun x => by simp [World.frozen?, h]
  have f2 : ∀ x, w.frozen? ⟨r', x, none⟩ = false := fun x => by simp [World.frozen?, h']
  have s1 : w.shape? r = some (el, c.size) := by simp [World.shape?, h]
  have s2 : w.shape? r' = some (el', c'.size) := by simp [World.shape?, h']
  have st1 : (stringish ⟨r, o, none⟩).run P w = .ok false w := by simp [stringish, f1, s1]
  have st2 : (stringish ⟨r', o', none⟩).run P w = .ok false w := by simp [stringish, f2, s2]
  have n1 : ∀ x, (noView ⟨r, x, none⟩).run P w = .ok () w := fun x => by simp [noView, viewAt, s1]
  have n2 : ∀ x, (noView ⟨r', x, none⟩).run P w = .ok () w := fun x => by simp [noView, viewAt, s2]
  have m1 : (mayBeOne ⟨r, o, none⟩ ⟨r', o', none⟩).run P w = .ok false w := by
    simp [mayBeOne, st1, st2]
  simp [sameAddr, hb, f1, n1, n2, m1]

/-- values that binOp hands to the comparison -/
def odd2 : Value → Value → Prop
  | .pointer _, .pointer _ | .slice .., .slice .. | .map _, .map _ | .bool _, .bool _ | .agg _, .agg _ | .nilIface, _ | .iface .., _ | .nilFunc, _ | .func .., _ => True
  | _, _ => False

theorem plainStruct_inv {P : Program} {t : TypeId} {ps : List PK} (h : plainStruct P t = some ps) :
    ∃ fs, P.underlying t = some (.struct fs) ∧ P.stoodInHeld t = false ∧ P.eqGuardType P.depth t = false ∧ plainFrom P 0 fs.toList = some ps := by
  simp only [plainStruct] at h
  split at h
  · rename_i fs hfs
    split at h
    · rename_i hb
      simp only [Bool.and_eq_true, Bool.not_eq_true'] at hb
      exact ⟨fs, hfs, hb.1, hb.2, h⟩
    · cases h
  · cases h

theorem eqC_inv {σ : Sg} {P : Program} {op : BinOp} {ty : TypeId} {xo yo : Operand} {x y : CV} {h : Hp} {tab : Tab} {k : Bool → Tab → Bool} (hh : eqC P ty (isC xo) (isC yo) x y h tab k = true) (hs : Sat σ tab) :
    ∃ b tab', k b tab' = true ∧ Sat σ tab' ∧ ∀ {e : Env} {w : World} {u v : Value}, HR σ e h w → InjE e → VR σ e x u → VR σ e y v →
      odd2 u v ∧ (eqGuard op ty xo yo u v).run P w = .ok () w ∧ (Op.equal ty u v).run P w = .ok b w := by
  have hif : ∀ (w : World) (X : Sem Unit), X.run P w = .ok () w → (if (!(op matches .eql | .neq)) = true then pure () else X : Sem Unit).run P w = .ok () w := by
    intro w X hX
    cases op <;> first | exact hX | rfl
  have eqr : ∀ {u v : Value} {b : Bool} {w : World}, (∀ n, (Op.equalIn (n + 1) ty u v).run P w = .ok b w) → (Op.equal ty u v).run P w = .ok b w := fun h => h 9999
  have gd : ∀ {u v : Value} (w : World), (match u, v with | .nilIface, .nilIface => False | .agg _, .agg _ => False | _, _ => True) → (eqGuard op ty xo yo u v).run P w = .ok () w := by
    intro u v w hm
    unfold eqGuard
    refine hif w _ ?_
    split
    · simp at hm
    · simp at hm
    · rfl
  cases x with
  | agg xs =>
    simp only [eqC] at hh
    split at hh
    · rename_i ys
      split at hh
      · rename_i ps hp
        obtain ⟨b, tab', h1, h2, h3⟩ := eqL_inv hh hs
        refine ⟨b, tab', h1, h2, fun {e w u v} _ _ hu hv => ?_⟩
        obtain ⟨fs, hf, hst, hg, hpl⟩ := plainStruct_inv hp
        cases hu with
        | agg hl hv' =>
          rename_i us
          cases hv with
          | agg hl2 hv2 =>
            rename_i vs
            refine ⟨trivial, ?_, ?_⟩
            · unfold eqGuard
              refine hif w _ ?_
              simp [hg]
            · have hfo : P.fieldsOf ty = fs := by simp [Program.fieldsOf, hf]
              have := run_equalIn_struct (P := P) w 9999 ty us vs (by rw [hfo]; exact hf) hst
              rw [hfo] at this
              show (Op.equalIn 10000 ty _ _).run P w = _
              rw [this]
              exact h3 hpl ⟨hl, hv'⟩ ⟨hl2, hv2⟩ 9998 w
      · cases hh
    · cases hh
  | ptr0 =>
    simp only [eqC] at hh
    split at hh
    · rename_i el ht
      cases y <;> simp only [] at hh <;> first | (cases hh; done) | skip
      · refine ⟨_, _, hh, hs, fun {e w u v} _ _ hu hv => ?_⟩
        cases hu; cases hv
        exact ⟨trivial, gd w trivial, eqr fun n => by simp [Op.equalIn, undRun ht]⟩
      · refine ⟨_, _, hh, hs, fun {e w u v} _ _ hu hv => ?_⟩
        cases hu; cases hv
        exact ⟨trivial, gd w trivial, eqr fun n => by simp [Op.equalIn, undRun ht]⟩
    · cases hh
  | ptr b o =>
    simp only [eqC] at hh
    split at hh
    · rename_i el ht
      cases y <;> simp only [] at hh <;> first | (cases hh; done) | skip
      · refine ⟨_, _, hh, hs, fun {e w u v} _ _ hu hv => ?_⟩
        cases hu; cases hv
        exact ⟨trivial, gd w trivial, eqr fun n => by simp [Op.equalIn, undRun ht]⟩
      · rename_i b' o'
        obtain ⟨i, hi, h1⟩ := szK_inv hh
        clear hh
        split at h1
        · cases h1
        · rename_i hz
          have hz' : i.size ≠ 0 := fun h => by rw [h] at hz; cases hz
          split at h1
          · rename_i hb
            have hb' : b = b' := by simpa using hb
            subst hb'
            refine ⟨_, _, h1, hs, fun {e w u v} _ _ hu hv => ?_⟩
            cases hu with
            | ptr hp =>
              cases hv with
              | ptr hp' =>
                rw [hp] at hp'; cases hp'
                refine ⟨trivial, gd w trivial, ?_⟩
                refine eqr fun n => ?_
                simp only [Op.equalIn, Sem.run_bind, undRun ht, Result.andThen_ok, szRun hi, ne_eq, hz', not_false_eq_true, if_true, sameAddr, beq_self_eq_true, Sem.run_pure]
                congr 1
                rw [Bool.eq_iff_iff]
                simp
          · rename_i hb
            have hb' : b ≠ b' := fun h => by subst h; simp at hb
            obtain ⟨h1, te, lo, es, sz, cs, hc, hlo⟩ := liveB_inv h1
            obtain ⟨h1, te', lo', es', sz', cs', hc', hlo'⟩ := liveB_inv h1
            refine ⟨_, _, h1, hs, fun {e w u v} hr hinj hu hv => ?_⟩
            cases hu with
            | ptr hp =>
              cases hv with
              | ptr hp' =>
                obtain ⟨l1, c, el1, fz, hw, _, _, _, _, hfz, _⟩ := hr.cells hp hc
                obtain ⟨l2, c', el2, fz', hw', _, _, _, _, hfz', _⟩ := hr.cells hp' hc'
                have z1 : fz = (0, 0) := by
                  rcases hfz with h | ⟨h3, h2, _⟩
                  · exact h
                  · rcases hlo with h | h
                    · rw [h] at h3; cases h3
                    · exact absurd h2 h
                have z2 : fz' = (0, 0) := by
                  rcases hfz' with h | ⟨h3, h2, _⟩
                  · exact h
                  · rcases hlo' with h | h
                    · rw [h] at h3; cases h3
                    · exact absurd h2 h
                subst z1; subst z2
                have hne : _ ≠ _ := fun he => hb' (hinj _ _ _ _ hp hp' l1 l2 he)
                refine ⟨trivial, gd w trivial, ?_⟩
                refine eqr fun n => ?_
                simp only [Op.equalIn, Sem.run_bind, undRun ht, Result.andThen_ok, szRun hi, ne_eq, hz', not_false_eq_true, if_true]
                exact sameAddr_other hne hw hw'
    · cases hh
  | sl0 =>
    simp only [eqC] at hh
    split at hh
    · rename_i el ht
      cases y <;> simp only [] at hh <;> first | (cases hh; done) | skip
      all_goals
        refine ⟨_, _, hh, hs, fun {e w u v} _ _ hu hv => ?_⟩
        cases hu; cases hv
        exact ⟨trivial, gd w trivial, eqr fun n => by simp [Op.equalIn, undRun ht]⟩
    · cases hh
  | slE =>
    simp only [eqC] at hh
    split at hh
    · rename_i el ht
      cases y <;> simp only [] at hh <;> first | (cases hh; done) | skip
      refine ⟨_, _, hh, hs, fun {e w u v} _ _ hu hv => ?_⟩
      cases hu; cases hv
      exact ⟨trivial, gd w trivial, eqr fun n => by simp [Op.equalIn, undRun ht]⟩
    · cases hh
  | sl b o l c =>
    simp only [eqC] at hh
    split at hh
    · rename_i el ht
      cases y <;> simp only [] at hh <;> first | (cases hh; done) | skip
      refine ⟨_, _, hh, hs, fun {e w u v} _ _ hu hv => ?_⟩
      cases hu; cases hv
      exact ⟨trivial, gd w trivial, eqr fun n => by simp [Op.equalIn, undRun ht]⟩
    · cases hh
  | map0 =>
    simp only [eqC] at hh
    split at hh
    · rename_i a1 a2 ht
      cases y <;> simp only [] at hh <;> first | (cases hh; done) | skip
      all_goals
        refine ⟨_, _, hh, hs, fun {e w u v} _ _ hu hv => ?_⟩
        cases hu; cases hv
        exact ⟨trivial, gd w trivial, eqr fun n => by simp [Op.equalIn, undRun ht]⟩
    · cases hh
  | map b =>
    simp only [eqC] at hh
    split at hh
    · rename_i a1 a2 ht
      cases y <;> simp only [] at hh <;> first | (cases hh; done) | skip
      refine ⟨_, _, hh, hs, fun {e w u v} _ _ hu hv => ?_⟩
      cases hu; cases hv
      exact ⟨trivial, gd w trivial, eqr fun n => by simp [Op.equalIn, undRun ht]⟩
    · cases hh
  | fn0 =>
    simp only [eqC] at hh
    split at hh
    · rename_i a1 a2 a3 ht
      cases y <;> simp only [] at hh <;> first | (cases hh; done) | skip
      all_goals
        refine ⟨_, _, hh, hs, fun {e w u v} _ _ hu hv => ?_⟩
        cases hu; cases hv
        exact ⟨trivial, gd w trivial, eqr fun n => by simp [Op.equalIn, undRun ht]⟩
    · cases hh
  | fn f as bs =>
    simp only [eqC] at hh
    split at hh
    · rename_i a1 a2 a3 ht
      cases y <;> simp only [] at hh <;> first | (cases hh; done) | skip
      refine ⟨_, _, hh, hs, fun {e w u v} _ _ hu hv => ?_⟩
      cases hu; cases hv
      exact ⟨trivial, gd w trivial, eqr fun n => by simp [Op.equalIn, undRun ht]⟩
    · cases hh
  | ifc0 =>
    simp only [eqC] at hh
    split at hh
    · rename_i ms ht
      cases y <;> simp only [] at hh <;> first | (cases hh; done) | skip
      · refine ⟨_, _, hh, hs, fun {e w u v} _ _ hu hv => ?_⟩
        cases hu; cases hv
        exact ⟨trivial, gd w trivial, eqr fun n => by simp [Op.equalIn, undRun ht]⟩
      · split at hh
        · rename_i hc
          refine ⟨_, _, hh, hs, fun {e w u v} _ _ hu hv => ?_⟩
          cases hu; cases hv
          refine ⟨trivial, ?_, eqr fun n => by simp [Op.equalIn, undRun ht]⟩
          unfold eqGuard
          refine hif w _ ?_
          simp only [Bool.or_eq_true] at hc
          rcases hc with h | h
          · cases xo <;> first | (cases h; done) | rfl
          · cases yo <;> first | (cases h; done) | skip
            cases xo <;> rfl
        · cases hh
    · cases hh
  | ifc t c =>
    simp only [eqC] at hh
    split at hh
    · rename_i ms ht
      cases y <;> simp only [] at hh <;> first | (cases hh; done) | skip
      refine ⟨_, _, hh, hs, fun {e w u v} _ _ hu hv => ?_⟩
      cases hu; cases hv
      exact ⟨trivial, gd w trivial, eqr fun n => by simp [Op.equalIn, undRun ht]⟩
    · cases hh
  | bool b0 =>
    simp only [eqC] at hh
    split at hh
    · rename_i ht
      obtain ⟨b, tab', h1, h2, h3⟩ := eqP_inv hh hs
      refine ⟨b, tab', h1, h2, fun {e w u v} _ _ hu hv => ?_⟩
      have hr := h3 (P := P) hu hv ht (.inl rfl) (by cases hu; trivial) 9999 w
      cases hu
      cases y <;> simp only [eqP] at hh <;> first | (cases hh; done) | skip
      cases hv
      exact ⟨trivial, gd w trivial, hr⟩
    · cases hh
  | _ => cases hh

end Go.Ev

namespace Go.Ev

theorem eqGuard_plain {P : Program} {op : BinOp} {ty : TypeId} {xo yo : Operand} {u v : Value} (w : World) (hm : match u, v with | .nilIface, .nilIface => False | .agg _, .agg _ => False | _, _ => True) :
    (eqGuard op ty xo yo u v).run P w = .ok () w := by
  have hif : ∀ (w : World) (X : Sem Unit), X.run P w = .ok () w → (if (!(op matches .eql | .neq)) = true then pure () else X : Sem Unit).run P w = .ok () w := by
    intro w X hX
    cases op <;> first | exact hX | rfl
  unfold eqGuard
  refine hif w _ ?_
  split
  · simp at hm
  · simp at hm
  · rfl

theorem bin_odd {P : Program} {ty : TypeId} {u v : Value} {b : Bool} {w : World} (ho : odd2 u v) (h : (Op.equal ty u v).run P w = .ok b w) :
    (binOp .eql ty u v).run P w = .ok (.bool b) w ∧ (binOp .neq ty u v).run P w = .ok (.bool (!b)) w := by
  cases u <;> cases v <;> simp only [odd2] at ho <;> (refine ⟨?_, ?_⟩ <;> simp [binOp, h])

theorem eqBin_inv {σ : Sg} {P : Program} {op : BinOp} {ty : TypeId} {xo yo : Operand} {x y : CV} {h : Hp} {tab : Tab} {k : CV → Tab → Bool} (hh : eqBin P op ty (isC xo) (isC yo) x y h tab k = true) (hs : Sat σ tab) :
    ∃ c tab', k c tab' = true ∧ Sat σ tab' ∧ ∀ {e : Env} {w : World} {u v : Value}, HR σ e h w → InjE e → VR σ e x u → VR σ e y v →
      ∃ r, (eqGuard op ty xo yo u v).run P w = .ok () w ∧ (binOp op ty u v).run P w = .ok r w ∧ VR σ e c r := by
  simp only [eqBin] at hh
  split at hh
  · obtain ⟨b, tab', h1, h2, h3⟩ := eqC_inv (op := .eql) hh hs
    refine ⟨_, tab', kB_inv h1, h2, fun {e w u v} hr hi hu hv => ?_⟩
    obtain ⟨a1, a2, a3⟩ := h3 hr hi hu hv
    exact ⟨_, a2, (bin_odd a1 a3).1, .bool _⟩
  · obtain ⟨b, tab', h1, h2, h3⟩ := eqC_inv (op := .neq) hh hs
    refine ⟨_, tab', kB_inv h1, h2, fun {e w u v} hr hi hu hv => ?_⟩
    obtain ⟨a1, a2, a3⟩ := h3 hr hi hu hv
    exact ⟨_, a2, (bin_odd a1 a3).2, .bool _⟩
  · cases hh

theorem linBin_case {σ : Sg} {P : Program} {op : BinOp} {ty : TypeId} {xo yo : Operand} {x y : CV} {h : Hp} {tab : Tab} {k : CV → Tab → Bool} (hh : linBinV op x y tab k = true) (hs : Sat σ tab) :
    ∃ c tab', k c tab' = true ∧ Sat σ tab' ∧ ∀ {e : Env} {w : World} {u v : Value}, HR σ e h w → InjE e → VR σ e x u → VR σ e y v →
      ∃ r, (eqGuard op ty xo yo u v).run P w = .ok () w ∧ (binOp op ty u v).run P w = .ok r w ∧ VR σ e c r := by
  obtain ⟨c, tab', r, h1, h2, h3, h4⟩ := linBinV_inv hh hs
  refine ⟨c, tab', h1, h2, fun {e w u v} _ _ hu hv => ?_⟩
  obtain ⟨kd, a, b, rfl, rfl, h5⟩ := h4 hu hv
  exact ⟨r, eqGuard_plain w trivial, h5 P ty w, h3 e⟩
theorem lsBin_case {σ : Sg} {P : Program} {op : BinOp} {ty : TypeId} {xo yo : Operand} {x y : CV} {h : Hp} {tab : Tab} {k : CV → Tab → Bool} (hh : lsBin op x y tab k = true) (hs : Sat σ tab) :
    ∃ c tab', k c tab' = true ∧ Sat σ tab' ∧ ∀ {e : Env} {w : World} {u v : Value}, HR σ e h w → InjE e → VR σ e x u → VR σ e y v →
      ∃ r, (eqGuard op ty xo yo u v).run P w = .ok () w ∧ (binOp op ty u v).run P w = .ok r w ∧ VR σ e c r := by
  obtain ⟨c, tab', h1, h2, h3⟩ := lsBin_inv hh hs
  refine ⟨c, tab', h1, h2, fun {e w u v} _ _ hu hv => ?_⟩
  obtain ⟨s, s', r, rfl, rfl, h4, h5⟩ := h3 hu hv
  exact ⟨r, eqGuard_plain w trivial, h5 P ty w, h4 e⟩
theorem binC_inv {σ : Sg} {P : Program} {op : BinOp} {ty : TypeId} {xo yo : Operand} {x y : CV} {h : Hp} {tab : Tab} {k : CV → Tab → Bool} (hh : binC P op ty (isC xo) (isC yo) x y h tab k = true) (hs : Sat σ tab) :
    ∃ c tab', k c tab' = true ∧ Sat σ tab' ∧ ∀ {e : Env} {w : World} {u v : Value}, HR σ e h w → InjE e → VR σ e x u → VR σ e y v →
      ∃ r, (eqGuard op ty xo yo u v).run P w = .ok () w ∧ (binOp op ty u v).run P w = .ok r w ∧ VR σ e c r := by
  cases x with
  | int kd a =>
    cases y <;> simp only [binC] at hh <;> first | (cases hh; done) | skip
    · rename_i kd' b
      split at hh
      · rename_i hk
        have hk' : kd = kd' ∨ op = .shl ∨ op = .shr := by
          simp only [Bool.or_eq_true, decide_eq_true_eq] at hk
          rcases hk with h | h
          · exact .inl h
          · split at h
            · exact .inr (.inl rfl)
            · exact .inr (.inr rfl)
            · cases h
        obtain ⟨c, v, h1, h2, h3⟩ := intOp_inv hh hk'
        refine ⟨c, tab, h1, hs, fun {e w u v} _ _ hu hv => ?_⟩
        cases hu; cases hv
        exact ⟨_, eqGuard_plain w trivial, h3 P ty w, h2 σ e⟩
      · cases hh
    · rename_i kd' s
      split at hh
      · split at hh
        · rename_i hk
          have g1 := hh
          clear hh
          obtain rfl : kd = kd' := by simpa using hk
          obtain ⟨h1, tab', h2, h3⟩ := symCmp_inv g1 hs
          obtain ⟨h4, h5⟩ := flip_cmp h1 (σ.i s) a
          refine ⟨_, tab', h2, h3, fun {e w u v} _ _ hu hv => ?_⟩
          cases hu; cases hv
          refine ⟨_, eqGuard_plain w trivial, cmp_run h4 kd _ _ P ty w, ?_⟩
          rw [h5]; exact .bool _
        · cases hh
      · exact linBin_case hh hs
    · exact linBin_case hh hs
  | sym kd s =>
    cases y <;> simp only [binC] at hh <;> first | (cases hh; done) | skip
    · rename_i kd' b
      split at hh
      · split at hh
        · rename_i hk
          have g1 := hh
          clear hh
          obtain rfl : kd = kd' := by simpa using hk
          obtain ⟨h1, tab', h2, h3⟩ := symCmp_inv g1 hs
          refine ⟨_, tab', h2, h3, fun {e w u v} _ _ hu hv => ?_⟩
          cases hu; cases hv
          exact ⟨_, eqGuard_plain w trivial, cmp_run h1 kd _ _ P ty w, .bool _⟩
        · cases hh
      · split at hh
        · split at hh
          · rename_i hk
            have g1 := hh
            clear hh
            obtain rfl : kd = kd' := by simpa using hk
            obtain ⟨v, h1, h2⟩ := symRem_inv g1 hs
            refine ⟨_, tab, h1, hs, fun {e w u v} _ _ hu hv => ?_⟩
            cases hu; cases hv
            exact ⟨_, eqGuard_plain w trivial, h2 P ty w, .int _ _⟩
          · cases hh
        · exact linBin_case hh hs
    · exact linBin_case hh hs
    · exact linBin_case hh hs
  | lin kd c ts =>
    simp only [binC] at hh
    exact linBin_case hh hs
  | lstr bs =>
    simp only [binC] at hh
    exact lsBin_case hh hs
  | str l1 c1 =>
    cases y <;> simp only [binC] at hh <;> first | (cases hh; done) | skip
    rotate_left
    · rename_i s l
      split at hh
      · split at hh
        · rename_i hz
          simp only [Bool.and_eq_true, Nat.beq_eq] at hz
          obtain ⟨hz, hsm⟩ := hz
          have hbd : σ.i l ≤ 1000000 := by
            unfold smallS at hsm
            split at hsm
            · rename_i lo hi hiv
              have := hs.iv l lo hi hiv
              simp only [leI_eq, decide_eq_true_eq] at hsm
              omega
            · cases hsm
          refine ⟨.ssym s l, tab, hh, hs, fun {e w u v} _ _ hu hv => ?_⟩
          cases hv with
          | ssym _ _ hl =>
            cases hu with
            | str t1 a1 a2 =>
              have e1 : t1 = ByteArray.empty := by
                have : t1.data = #[] := Array.eq_empty_of_size_eq_zero (by rw [hz] at a1; exact a1)
                cases t1
                simp only at this
                rw [this]
                rfl
              subst e1
              exact ⟨.string (σ.s s), eqGuard_plain w trivial, by simp [binOp, Op.stringOp]; omega, .ssym s l hl⟩
        · cases hh
      · cases hh
    · exact lsBin_case hh hs
    rename_i l2 c2
    by_cases hx : ∃ (s1 s2 : ByteArray), s1.size = l1 ∧ encBytes s1.data.toList = c1 ∧ s2.size = l2 ∧ encBytes s2.data.toList = c2
    · obtain ⟨s1, s2, rfl, rfl, rfl, rfl⟩ := hx
      obtain ⟨c, v, h1, h2, h3⟩ := strOp_inv hh
      refine ⟨c, tab, h1, hs, fun {e w u v} _ _ hu hv => ?_⟩
      cases hu with
      | str t1 a1 a2 =>
        cases hv with
        | str t2 b1 b2 =>
          have e1 : t1 = s1 := by
            have := enc_inj (a := t1.data.toList) (b := s1.data.toList) (by rw [strLen, strLen, a1]) a2
            cases t1; cases s1; congr 1; exact Array.ext' this
          have e2 : t2 = s2 := by
            have := enc_inj (a := t2.data.toList) (b := s2.data.toList) (by rw [strLen, strLen, b1]) b2
            cases t2; cases s2; congr 1; exact Array.ext' this
          subst e1; subst e2
          exact ⟨_, eqGuard_plain w trivial, h3 P ty w, h2 σ e⟩
    · -- no strings have these numbers: the operation is never carried out
      have hany : ∃ c, k c tab = true := by
        cases op <;> simp only [strOp, forceN_eq] at hh <;> first | (cases hh; done) | exact ⟨_, kB_inv hh⟩ | skip
        split at hh
        · exact ⟨_, hh⟩
        · cases hh
      obtain ⟨c, hc⟩ := hany
      refine ⟨c, tab, hc, hs, fun {e w u v} _ _ hu hv => ?_⟩
      cases hu with
      | str t1 a1 a2 =>
        cases hv with
        | str t2 b1 b2 => exact absurd ⟨t1, t2, a1, a2, b1, b2⟩ hx
  | ssym s l =>
    cases y <;> simp only [binC] at hh <;> first | (cases hh; done) | skip
    rename_i s' l'
    split at hh
    · rename_i hk
      have hk : s = s' := by simpa using hk
      have g1 := hh
      clear hh
      subst hk
      split at g1
      · refine ⟨_, tab, g1, hs, fun {e w u v} _ _ hu hv => ?_⟩
        cases hu; cases hv
        exact ⟨_, eqGuard_plain w trivial, by simp [binOp, Op.stringOp], .bool true⟩
      · refine ⟨_, tab, g1, hs, fun {e w u v} _ _ hu hv => ?_⟩
        cases hu; cases hv
        exact ⟨_, eqGuard_plain w trivial, by simp [binOp, Op.stringOp], .bool false⟩
      · cases g1
    · cases hh
  | symr kd s c lo cnt =>
    simp only [binC] at hh
    split at hh
    · cases y <;> first | (cases hh; done) | skip
      rename_i kd' b
      cases b with
      | negSucc n => cases hh
      | ofNat n =>
        simp only [] at hh
        split at hh
        · rename_i hk
          simp only [Bool.and_eq_true, decide_eq_true_eq, Nat.beq_eq, Bool.not_eq_true'] at hk
          obtain ⟨rfl, rfl, hc0, hc1⟩ := hk
          have hcnt : 0 < cnt := by
            cases cnt with
            | zero => cases hc1
            | succ n => exact Nat.succ_pos n
          obtain ⟨i, hi, hin⟩ : ∃ i, i < cnt ∧ (∀ j, j < cnt → (σ.i s).toNat % n = lo + j → j = i) := by
            by_cases hx : ∃ j, j < cnt ∧ (σ.i s).toNat % n = lo + j
            · obtain ⟨j, h1, h2⟩ := hx
              exact ⟨j, h1, fun j' _ h2' => by omega⟩
            · exact ⟨0, hcnt, fun j' h1' h2' => absurd ⟨j', h1', h2'⟩ hx⟩
          have hr0 := allB_inv hh i hi
          rw [forceN_eq] at hr0
          refine ⟨_, tab, hr0, hs, fun {e w u v} _ _ hu hv => ?_⟩
          cases hv
          cases hu with
          | symr _ _ _ _ _ j x hx hj hr =>
            have hji := hin j hj (by rw [hx]; exact hr)
            subst hji
            refine ⟨.int kd (Int.ofNat (lo + j)), eqGuard_plain w trivial, ?_, .int _ _⟩
            have hn0 : (Int.ofNat n) ≠ 0 := by
              intro h
              cases n with
              | zero => cases hc0
              | succ n => cases h
            have hn0' : ¬ (Int.ofNat n = 0) := hn0
            rw [hx]
            simp only [binOp, ne_eq, not_true_eq_false, if_false, Op.intDiv, hn0', Sem.run_pure]
            rw [← hr]
            rfl
        · cases hh
    · cases hh
  | bool b => exact eqBin_inv hh hs
  | ptr0 => exact eqBin_inv hh hs
  | ptr b o => exact eqBin_inv hh hs
  | sl0 => exact eqBin_inv hh hs
  | sl b o l c => exact eqBin_inv hh hs
  | slE => exact eqBin_inv hh hs
  | map0 => exact eqBin_inv hh hs
  | map b => exact eqBin_inv hh hs
  | fn f a c => exact eqBin_inv hh hs
  | yld b => exact eqBin_inv hh hs
  | fn0 => exact eqBin_inv hh hs
  | ifc t v => exact eqBin_inv hh hs
  | ifc0 => exact eqBin_inv hh hs
  | agg cs => exact eqBin_inv hh hs
  | tup vs => exact eqBin_inv hh hs

end Go.Ev

namespace Go.Ev

section
variable {P : Program} {σ : Sg} {G : Nat → Bool} {t : Tm} {h : Hp} {tab : Tab} {nb : Nat} {k : KF}
variable {dst : Option Tmp} {type : TypeId} {pos : String} {after : Array Edge} {guard : Option (Nat × Bool)}

/-- what the lemma says of one operation -/
def FlOK (P : Program) (σ : Sg) (G : Nat → Bool) (o : Oper) (t : Tm) (h : Hp) (nb : Nat) (k : KF) : Prop :=
  ∃ v ncb tab', k v ncb tab' = true ∧ Sat σ tab' ∧ FlSem P σ G o t h nb v ncb

theorem fl_move {x : Operand} (hh : getO G x t (fun v => k v none tab) = true) (hs : Sat σ tab) : FlOK P σ G ⟨dst, .move x, type, pos, after, guard⟩ t h nb k := by
  obtain ⟨c, hc, hk⟩ := getO_inv hh
  exact ⟨c, none, tab, hk, hs, fun e w ρ hr hi ho => ⟨ρ x, rfl, ho x (by simp [Op.operands]) c hc⟩⟩
theorem fl_assign {x : Operand} (hh : getO G x t (fun v => k v none tab) = true) (hs : Sat σ tab) : FlOK P σ G ⟨dst, .assign x, type, pos, after, guard⟩ t h nb k := by
  obtain ⟨c, hc, hk⟩ := getO_inv hh
  exact ⟨c, none, tab, hk, hs, fun e w ρ hr hi ho => ⟨ρ x, rfl, ho x (by simp [Op.operands]) c hc⟩⟩
theorem fl_pick {c a b : Operand} (hh : floatC P G (.pick c a b) t h tab nb k = true) (hs : Sat σ tab) : FlOK P σ G ⟨dst, .pick c a b, type, pos, after, guard⟩ t h nb k := by
  obtain ⟨cv, hc, h1⟩ := getO_inv hh
  obtain ⟨bb, rfl, h2⟩ := asBool_inv h1
  cases bb with
  | true =>
    obtain ⟨v, hv, hk⟩ := getO_inv (show getO G a t (fun v => k v none tab) = true from h2)
    refine ⟨v, none, tab, hk, hs, fun e w ρ hr hi ho => ⟨ρ a, ?_, ho a (by simp [Op.operands]) v hv⟩⟩
    have := ho c (by simp [Op.operands]) _ hc
    generalize hx : ρ c = x at this
    cases this
    simp [execOp, hx, Go.asBool]
  | false =>
    obtain ⟨v, hv, hk⟩ := getO_inv (show getO G b t (fun v => k v none tab) = true from h2)
    refine ⟨v, none, tab, hk, hs, fun e w ρ hr hi ho => ⟨ρ b, ?_, ho b (by simp [Op.operands]) v hv⟩⟩
    have := ho c (by simp [Op.operands]) _ hc
    generalize hx : ρ c = x at this
    cases this
    simp [execOp, hx, Go.asBool]

/-- a new block of given cells -/
theorem BR.fresh {e : Env} {cs : List CV} {vs : Array Value} (hv : LR σ e cs vs.toList) (r el : Nat) (es : Nat) {te : Nat} (hte : TE te el) : BR σ e (.cells te false es cs.length (ofList cs)) ⟨r, 0, 0, true⟩ (.cells vs el (0, 0)) := by
  refine .cells ?_ (fun _ => ⟨rfl, rfl⟩) (fun i hi => ?_) (fun i hi => ?_) (.inl rfl) hte
  · have := hv.1; simp at this; simp [this]
  · rw [ofList_get]; exact List.getElem?_eq_none hi
  · have hc : cs[i]? = some cs[i] := List.getElem?_eq_getElem hi
    obtain ⟨v, hv', hr⟩ := hv.get hc
    exact ⟨_, v, by rw [ofList_get]; exact hc, by simpa using hv', hr⟩

theorem fl_alloc {el : TypeId} (hh : floatC P G (.alloc el) t h tab nb k = true) (hs : Sat σ tab) : FlOK P σ G ⟨dst, .alloc el, type, pos, after, guard⟩ t h nb k := by
  simp only [floatC] at hh
  split at hh
  · rename_i z hz
    obtain ⟨i, v, hi, hv, hz'⟩ := zeroOf_inv hz
    refine ⟨_, _, tab, hh, hs, fun e w ρ hr hij ho => ⟨.pointer (some ⟨w.heap.size, 0, none⟩), .cells v.cells el, 0, w.drawn, ?_, ?_, ?_⟩⟩
    · simp [execOp, Instr.alloc, zeroRun hi hv, newVar, newRow]
    · have hl := ofValues_LR (σ := σ) (e := e) hz'
      exact BR.fresh hl _ _ 0 (.succ _)
    · exact .ptr (o := 0) (p := ⟨w.heap.size, 0, 0, true⟩) (Env.up_same _ _ _)
  · cases hh
theorem fl_box {el : TypeId} {x : Operand} (hh : floatC P G (.box el x) t h tab nb k = true) (hs : Sat σ tab) : FlOK P σ G ⟨dst, .box el x, type, pos, after, guard⟩ t h nb k := by
  obtain ⟨c, hc, hk⟩ := getO_inv hh
  rw [forceN_eq] at hk
  refine ⟨_, _, tab, hk, hs, fun e w ρ hr hij ho => ⟨.pointer (some ⟨w.heap.size, 0, none⟩), .cells (ρ x).cells el, 0, w.drawn, ?_, ?_, ?_⟩⟩
  · simp [execOp, Instr.box, newVar, newRow]
  · exact BR.fresh (cells_LR (ho x (by simp [Op.operands]) c hc)) _ _ 0 (.zero _)
  · exact .ptr (o := 0) (p := ⟨w.heap.size, 0, 0, true⟩) (Env.up_same _ _ _)

theorem fl_load {ty : TypeId} {x : Operand} (hh : floatC P G (.load ty x) t h tab nb k = true) (hs : Sat σ tab) : FlOK P σ G ⟨dst, .load ty x, type, pos, after, guard⟩ t h nb k := by
  obtain ⟨c, hc, h1⟩ := getO_inv hh
  obtain ⟨b, o, rfl, h2⟩ := asPtr_inv h1
  obtain ⟨v, hk, hv⟩ := loadC_inv h2
  refine ⟨v, none, tab, hk, hs, fun e w ρ hr hi ho => ?_⟩
  have hx := ho x (by simp [Op.operands]) _ hc
  generalize hy : ρ x = y at hx
  cases hx with
  | ptr hb =>
    obtain ⟨u, hu, hr'⟩ := hv hr _ hb
    refine ⟨u, ?_, hr'⟩
    simp [execOp, Instr.loadAt, Instr.sureAddr, hy, hu]

theorem fl_nilCheck {x : Operand} (hh : floatC P G (.nilCheck x) t h tab nb k = true) (hs : Sat σ tab) : FlOK P σ G ⟨dst, .nilCheck x, type, pos, after, guard⟩ t h nb k := by
  obtain ⟨c, hc, h1⟩ := getO_inv hh
  have fin : k c none tab = true → (∀ e y, VR σ e c y → ∀ (w : World) (ρ : Operand → Value), ρ x = y → (execOp ρ ⟨dst, .nilCheck x, type, pos, after, guard⟩).run P w = .ok (.value y) w) →
      FlOK P σ G ⟨dst, .nilCheck x, type, pos, after, guard⟩ t h nb k := fun hk hf =>
    ⟨c, none, tab, hk, hs, fun e w ρ hr hi ho => ⟨ρ x, hf e _ (ho x (by simp [Op.operands]) c hc) w ρ rfl, ho x (by simp [Op.operands]) c hc⟩⟩
  split at h1
  · exact fin h1 fun e y hy w ρ hx => by cases hy; simp [execOp, hx]
  · exact fin h1 fun e y hy w ρ hx => by cases hy; simp [execOp, hx]
  · exact fin h1 fun e y hy w ρ hx => by cases hy; simp [execOp, hx]
  · exact fin h1 fun e y hy w ρ hx => by cases hy; simp [execOp, hx]
  · cases h1

theorem fl_binOp {op : BinOp} {ty ty' : TypeId} {x y : Operand} (hh : floatC P G (.binOp op ty x y ty') t h tab nb k = true) (hs : Sat σ tab) :
    FlOK P σ G ⟨dst, .binOp op ty x y ty', type, pos, after, guard⟩ t h nb k := by
  obtain ⟨cx, hcx, h1⟩ := getO_inv hh
  obtain ⟨cy, hcy, h2⟩ := getO_inv h1
  obtain ⟨c, tab', hk, hs', hv⟩ := binC_inv h2 hs
  refine ⟨c, none, tab', hk, hs', fun e w ρ hr hi ho => ?_⟩
  obtain ⟨r, a1, a2, a3⟩ := hv hr hi (ho x (by simp [Op.operands]) _ hcx) (ho y (by simp [Op.operands]) _ hcy)
  exact ⟨r, by simp [execOp, a1, a2], a3⟩

theorem fl_unOp {op : UnOp} {ty : TypeId} {x : Operand} (hh : floatC P G (.unOp op ty x) t h tab nb k = true) (hs : Sat σ tab) :
    FlOK P σ G ⟨dst, .unOp op ty x, type, pos, after, guard⟩ t h nb k := by
  obtain ⟨c, hc, h1⟩ := getO_inv hh
  split at h1
  · obtain ⟨b, rfl, h2⟩ := asBool_inv h1
    cases b
    · refine ⟨_, none, tab, h2, hs, fun e w ρ hr hi ho => ?_⟩
      have hx := ho x (by simp [Op.operands]) _ hc
      generalize hy : ρ x = y at hx
      cases hx
      exact ⟨_, by simp [execOp, hy, Op.unary], .bool _⟩
    · refine ⟨_, none, tab, h2, hs, fun e w ρ hr hi ho => ?_⟩
      have hx := ho x (by simp [Op.operands]) _ hc
      generalize hy : ρ x = y at hx
      cases hx
      exact ⟨_, by simp [execOp, hy, Op.unary], .bool _⟩
  · have lin : linNeg c tab (fun r => k r none tab) = true → FlOK P σ G ⟨dst, .unOp .neg ty x, type, pos, after, guard⟩ t h nb k := by
      intro hl
      simp only [linNeg] at hl
      split at hl
      · rename_i kd cc ts hlo
        obtain ⟨g1, g2, cv, g3, g4⟩ := linRes_inv (k := fun r => k r none tab) hl hs
        refine ⟨cv, none, tab, g3, hs, fun e w ρ hr hi ho => ?_⟩
        have hx := ho x (by simp [Op.operands]) _ hc
        have hv := linOf_inv hlo hx
        have e0 : lfVal σ.i (-cc) (scaleTs (-1) ts) = 0 - lfVal σ.i cc ts := by simp only [lfVal, scaleTs_val]; omega
        rw [e0] at g1 g2 g4
        exact ⟨.int kd (kd.wrap (0 - lfVal σ.i cc ts)), by simp [execOp, hv, Op.unary, Op.intArith], by rw [wrap_in g1 g2]; exact g4 _⟩
      · cases hl
    cases c <;> simp only [] at h1 <;> first | (exact lin h1) | skip
    rename_i kd a
    have h2 := wrapK_inv h1
    refine ⟨_, none, tab, h2, hs, fun e w ρ hr hi ho => ?_⟩
    have hx := ho x (by simp [Op.operands]) _ hc
    generalize hy : ρ x = y at hx
    cases hx
    exact ⟨_, by simp [execOp, hy, Op.unary, Op.intArith], .int _ _⟩
  · cases h1

theorem fl_makeInterface {ty : TypeId} {x : Operand} (hh : floatC P G (.makeInterface ty x) t h tab nb k = true) (hs : Sat σ tab) :
    FlOK P σ G ⟨dst, .makeInterface ty x, type, pos, after, guard⟩ t h nb k := by
  obtain ⟨c, hc, h1⟩ := getO_inv hh
  split at h1
  · cases h1
  · rename_i hi
    refine ⟨_, none, tab, h1, hs, fun e w ρ hr hij ho => ⟨.iface ty (ρ x), ?_, .ifc ty (ho x (by simp [Op.operands]) c hc)⟩⟩
    simp only [isIfc] at hi
    split at hi
    · cases hi
    · cases hi
    · rename_i d hn1 hn2
      cases hd : P.underlying ty with
      | none => exact absurd hd hn2
      | some d' =>
        simp only [execOp, Instr.makeInterface, Sem.run_bind, undRun hd, Result.andThen_ok]
        cases d' <;> first | (exact absurd hd (hn1 _)) | simp

theorem fl_typeAssert {x : Operand} {xt ty : TypeId} {ok : Bool} (hh : floatC P G (.typeAssert x xt ty ok) t h tab nb k = true) (hs : Sat σ tab) :
    FlOK P σ G ⟨dst, .typeAssert x xt ty ok, type, pos, after, guard⟩ t h nb k := by
  obtain ⟨c, hc, h1⟩ := getO_inv hh
  split at h1
  · cases h1
  · rename_i hi
    split at h1
    · rename_i t' u
      split at h1
      · rename_i ht
        have ht : t' = ty := by simpa using ht
        subst ht
        have run : ∀ (w : World) (ρ : Operand → Value) (v : Value), ρ x = .iface t' v →
            (execOp ρ ⟨dst, .typeAssert x xt t' ok, type, pos, after, guard⟩).run P w = .ok (.value (if ok then .tuple #[v, .bool true] else v)) w := by
          intro w ρ v hv
          simp only [isIfc] at hi
          split at hi
          · cases hi
          · cases hi
          · rename_i d hn1 hn2
            cases hd : P.underlying t' with
            | none => exact absurd hd hn2
            | some d' =>
              simp only [execOp, Instr.typeAssert, Sem.run_bind, undRun hd, Result.andThen_ok, hv]
              cases d' <;> first | (exact absurd hd (hn1 _)) | (cases ok <;> simp)
        cases ok with
        | true =>
          refine ⟨_, none, tab, h1, hs, fun e w ρ hr hij ho => ?_⟩
          have hx := ho x (by simp [Op.operands]) _ hc
          generalize hy : ρ x = y at hx
          cases hx with
          | ifc _ hu =>
            have hl := LR.cons hu (LR.cons (VR.bool true) .nil)
            exact ⟨_, run w ρ _ hy, VR.tup (vs := #[_, _]) hl.1 hl.2⟩
        | false =>
          refine ⟨_, none, tab, h1, hs, fun e w ρ hr hij ho => ?_⟩
          have hx := ho x (by simp [Op.operands]) _ hc
          generalize hy : ρ x = y at hx
          cases hx with
          | ifc _ hu => exact ⟨_, run w ρ _ hy, hu⟩
      · cases h1
    · cases h1

theorem getOs_LR {xs : List Operand} {cs : List CV} {e : Env} {ρ : Operand → Value} (hl : cs.length = xs.length) (hv : ∀ (i : Nat) x c, xs[i]? = some x → cs[i]? = some c → OV G t x c)
    (ho : ∀ x, x ∈ xs → ∀ c, OV G t x c → VR σ e c (ρ x)) : LR σ e cs (xs.map ρ) := by
  refine ⟨by simp [hl], fun i c v hc hv' => ?_⟩
  simp only [List.getElem?_map, Option.map_eq_some_iff] at hv'
  obtain ⟨x, hx, rfl⟩ := hv'
  exact ho x (List.mem_of_getElem? hx) c (hv i x c hx hc)

theorem fl_makeFunc {f : Fn} {first cap : Array Operand} (hh : floatC P G (.makeFunc f first cap) t h tab nb k = true) (hs : Sat σ tab) :
    FlOK P σ G ⟨dst, .makeFunc f first cap, type, pos, after, guard⟩ t h nb k := by
  cases f <;> simp only [floatC] at hh <;> first | (cases hh; done) | skip
  rename_i f
  obtain ⟨a, hl, hv, h1⟩ := getOs_inv hh
  obtain ⟨b, hl', hv', h2⟩ := getOs_inv h1
  refine ⟨_, none, tab, h2, hs, fun e w ρ hr hi ho => ⟨.func (.func f) (first.map ρ) (cap.map ρ), rfl, ?_⟩⟩
  have r1 := getOs_LR (σ := σ) (e := e) (ρ := ρ) hl hv (fun x hx c hc => ho x (by simp [Op.operands]; exact .inl (by simpa using hx)) c hc)
  have r2 := getOs_LR (σ := σ) (e := e) (ρ := ρ) hl' hv' (fun x hx c hc => ho x (by simp [Op.operands]; exact .inr (by simpa using hx)) c hc)
  exact .fn f (by simpa using r1.1) (by simpa using r2.1) (by simpa using r1.2) (by simpa using r2.2)

theorem fl_makeMap {ty : TypeId} {r : Option Operand} (hh : floatC P G (.makeMap ty r) t h tab nb k = true) (hs : Sat σ tab) :
    FlOK P σ G ⟨dst, .makeMap ty r, type, pos, after, guard⟩ t h nb k := by
  cases r with
  | some r => cases hh
  | none =>
    refine ⟨_, _, tab, hh, hs, fun e w ρ hr hij ho => ⟨.map (some w.heap.size), .map #[] 0, 0, w.drawn, ?_, .map rfl (fun i x y hx => by simp at hx), .map (p := ⟨w.heap.size, 0, 0, true⟩) (Env.up_same _ _ _)⟩⟩
    simp [execOp, Instr.makeMap]

theorem fieldOf_inv {s : TypeId} {f : Nat} {fd : Field} (hf : fieldOf P s f = some fd) : ∃ fs, P.underlying s = some (.struct fs) ∧ fs[f]? = some fd := by
  simp only [fieldOf] at hf
  split at hf
  · exact ⟨_, by assumption, hf⟩
  · cases hf

theorem fl_fieldAddr {s : TypeId} {x : Operand} {f : Nat} (hh : floatC P G (.fieldAddr s x f) t h tab nb k = true) (hs : Sat σ tab) :
    FlOK P σ G ⟨dst, .fieldAddr s x f, type, pos, after, guard⟩ t h nb k := by
  simp only [floatC] at hh
  split at hh
  · rename_i fd hf
    obtain ⟨i, hi, h1⟩ := szK_inv hh
    split at h1
    · cases h1
    · rename_i hz
      have hz' : i.size ≠ 0 := fun h => by rw [h] at hz; cases hz
      obtain ⟨c, hc, h2⟩ := getO_inv h1
      obtain ⟨b, o, rfl, h3⟩ := asPtr_inv h2
      rw [forceN_eq] at h3
      refine ⟨_, none, tab, h3, hs, fun e w ρ hr hij ho => ?_⟩
      have hx := ho x (by simp [Op.operands]) _ hc
      generalize hy : ρ x = y at hx
      obtain ⟨fs, hu, hfd⟩ := fieldOf_inv hf
      cases hx with
      | @ptr _ _ p hb =>
        refine ⟨.pointer (some ⟨p.r, o + fd.offset + p.d, none⟩), ?_, .ptr hb⟩
        simp [execOp, Instr.fieldAt, undRun hu, hfd, hy, Instr.sureAddr, fieldPlace, szRun hi, hz', addr_add]
        omega
  · cases hh

theorem partC_inv {ty : TypeId} {cs : List CV} {off : Nat} {k : CV → Bool} (hh : partC P ty cs off k = true) :
    ∃ c, k c = true ∧ ∀ {e : Env} {vs : Array Value} (w : World), LR σ e cs vs.toList → ∃ v, (part ty vs off).run P w = .ok v w ∧ VR σ e c v := by
  simp only [partC] at hh
  have fL : ∀ (l : List CV) (k : List CV → Bool), forceL l k = k l := by
    intro l
    induction l with
    | nil => intro k; rfl
    | cons x l ih => intro k; show forceL l (fun l => k (x :: l)) = _; rw [ih]
  split at hh
  · rename_i ha
    obtain ⟨i, hi, h1⟩ := szK_inv hh
    rw [fL] at h1
    refine ⟨_, h1, fun {e vs} w hv => ?_⟩
    have hagg : (isAgg ty).run P w = .ok true w := by
      simp only [aggT] at ha
      split at ha <;> first | (simp [isAgg, undRun (by assumption)]; done) | cases ha
    refine ⟨.agg (vs.extract off (off + i.size)), by simp [part, hagg, szRun hi], ?_⟩
    have := (hv.drop off).take i.size
    refine .agg ?_ ?_
    · rw [this.1]; simp
    · intro j c v hc hv'
      refine this.2 j c v hc ?_
      simpa [List.drop_take] using hv'
  · rename_i ha
    split at hh
    · rename_i c hc
      refine ⟨c, hh, fun {e vs} w hv => ?_⟩
      obtain ⟨v, hv', hr⟩ := hv.get hc
      have hagg : (isAgg ty).run P w = .ok false w := by
        simp only [aggT] at ha
        split at ha
        · cases ha
        · cases ha
        · rename_i d hn1 hn2 hd
          simp only [isAgg, Sem.run_bind, undRun hd, Result.andThen_ok]
          cases d <;> first | rfl | (exact absurd rfl (hn1 _)) | (exact absurd rfl (hn2 _ _))
        · cases ha
      have : vs[off]? = some v := by simpa using hv'
      exact ⟨v, by simp [part, hagg, this], hr⟩
    · cases hh
  · cases hh

theorem fl_field {s : TypeId} {x : Operand} {f : Nat} (hh : floatC P G (.field s x f) t h tab nb k = true) (hs : Sat σ tab) :
    FlOK P σ G ⟨dst, .field s x f, type, pos, after, guard⟩ t h nb k := by
  simp only [floatC] at hh
  split at hh
  · rename_i fd hf
    obtain ⟨c, hc, h2⟩ := getO_inv hh
    cases c <;> simp only [] at h2 <;> first | (cases h2; done) | skip
    obtain ⟨v, h3, hv⟩ := partC_inv (σ := σ) h2
    refine ⟨_, none, tab, h3, hs, fun e w ρ hr hij ho => ?_⟩
    have hx := ho x (by simp [Op.operands]) _ hc
    generalize hy : ρ x = y at hx
    obtain ⟨fs, hu, hfd⟩ := fieldOf_inv hf
    cases hx with
    | agg hl hvs =>
      obtain ⟨u, h4, h5⟩ := hv w ⟨hl, hvs⟩
      exact ⟨u, by simp [execOp, Instr.field, undRun hu, hfd, hy, asAgg, h4], h5⟩
  · cases hh

theorem fl_extract {x : Operand} {i : Nat} (hh : floatC P G (.extract x i) t h tab nb k = true) (hs : Sat σ tab) :
    FlOK P σ G ⟨dst, .extract x i, type, pos, after, guard⟩ t h nb k := by
  obtain ⟨c, hc, h2⟩ := getO_inv hh
  cases c <;> simp only [] at h2 <;> first | (cases h2; done) | skip
  rename_i vs
  split at h2
  · rename_i c hci
    refine ⟨_, none, tab, h2, hs, fun e w ρ hr hij ho => ?_⟩
    have hx := ho x (by simp [Op.operands]) _ hc
    generalize hy : ρ x = y at hx
    cases hx with
    | tup hl hv =>
      obtain ⟨v, h3, h4⟩ := LR.get ⟨hl, hv⟩ hci
      rename_i us
      have : us[i]? = some v := by simpa using h3
      exact ⟨v, by simp [execOp, Instr.extract, hy, this], h4⟩
  · cases h2

end
end Go.Ev

namespace Go.Ev

section
variable {P : Program} {σ : Sg} {G : Nat → Bool} {t : Tm} {h : Hp} {tab : Tab} {nb : Nat} {k : KF}
variable {dst : Option Tmp} {type : TypeId} {pos : String} {after : Array Edge} {guard : Option (Nat × Bool)}

theorem elemOfSl_inv {ty e : TypeId} (he : elemOfSl P ty = some e) : P.underlying ty = some (.slice e) := by
  simp only [elemOfSl] at he
  split at he
  · rename_i d hd; simp at he; rw [← he]; exact hd
  · cases he

theorem asIntOf_int (kd : IntKind) (n : Int) (w : World) : (asIntOf (.int kd n)).run P w = .ok (kd, n) w := rfl

theorem fl_indexAddr {ty : TypeId} {x i : Operand} (hh : floatC P G (.indexAddr ty x i) t h tab nb k = true) (hs : Sat σ tab) :
    FlOK P σ G ⟨dst, .indexAddr ty x i, type, pos, after, guard⟩ t h nb k := by
  obtain ⟨cx, hcx, h1⟩ := getO_inv hh
  obtain ⟨ci, hci, h2⟩ := getO_inv h1
  obtain ⟨n, tab', h3, hs', kd, hn⟩ := asNat_inv h2 hs
  cases cx <;> simp only [] at h3 <;> first | (cases h3; done) | skip
  · rename_i b off
    split at h3
    · rename_i len el hu
      split at h3
      · rename_i hlt
        have hlt' : n < len := by simpa [Nat.blt_eq] using hlt
        obtain ⟨i', hi', h4⟩ := szK_inv h3
        rw [forceN_eq] at h4
        refine ⟨_, none, tab', h4, hs', fun e w ρ hr hij ho => ?_⟩
        have hx := ho x (by simp [Op.operands]) _ hcx
        have hii := hn e _ (ho i (by simp [Op.operands]) _ hci)
        generalize hy : ρ x = y at hx
        cases hx with
        | @ptr _ _ p hb =>
          refine ⟨.pointer (some ⟨p.r, off + n * i'.size + p.d, none⟩), ?_, .ptr hb⟩
          have c1 : (0 : Int) ≤ (n : Int) ∧ (n : Int) < (len : Int) := by omega
          simp [execOp, Instr.indexAt, hii, asIntOf_int, undRun hu, hy, Instr.sureAddr, c1, szRun hi', addr_add]
          omega
      · cases h3
    · cases h3
  · rename_i b off len cap
    split at h3
    · rename_i el he
      have hu := elemOfSl_inv he
      split at h3
      · rename_i hlt
        have hlt' : n < len := by simpa [Nat.blt_eq] using hlt
        obtain ⟨i', hi', h4⟩ := szK_inv h3
        rw [forceN_eq] at h4
        refine ⟨_, none, tab', h4, hs', fun e w ρ hr hij ho => ?_⟩
        have hx := ho x (by simp [Op.operands]) _ hcx
        have hii := hn e _ (ho i (by simp [Op.operands]) _ hci)
        generalize hy : ρ x = y at hx
        cases hx with
        | @sl _ _ _ _ p hb =>
          refine ⟨.pointer (some ⟨p.r, off + n * i'.size + p.d, none⟩), ?_, .ptr hb⟩
          have c1 : (0 : Int) ≤ (n : Int) ∧ (n : Int) < (len : Int) := by omega
          simp [execOp, Instr.indexAt, hii, asIntOf_int, undRun hu, hy, c1, szRun hi', addr_add]
          omega
      · cases h3
    · cases h3

theorem fl_index {ty : TypeId} {x i : Operand} (hh : floatC P G (.index ty x i) t h tab nb k = true) (hs : Sat σ tab) :
    FlOK P σ G ⟨dst, .index ty x i, type, pos, after, guard⟩ t h nb k := by
  obtain ⟨cx, hcx, h1⟩ := getO_inv hh
  obtain ⟨ci, hci, h2⟩ := getO_inv h1
  obtain ⟨n, tab', h3, hs', kd, hn⟩ := asNat_inv h2 hs
  cases cx <;> simp only [] at h3 <;> first | (cases h3; done) | skip
  · rename_i len code
    split at h3
    · rename_i hu
      split at h3
      · rename_i hlt
        have hlt' : n < len := by simpa [Nat.blt_eq] using hlt
        rw [forceN_eq] at h3
        refine ⟨_, none, tab', h3, hs', fun e w ρ hr hij ho => ?_⟩
        have hx := ho x (by simp [Op.operands]) _ hcx
        have hii := hn e _ (ho i (by simp [Op.operands]) _ hci)
        generalize hy : ρ x = y at hx
        cases hx with
        | str s hl hc =>
          subst hl; subst hc
          have hlt2 : n < s.data.toList.length := hlt'
          have hidx := enc_index s.data.toList hlt2
          rw [strLen] at hidx
          rw [hidx]
          have hget : s[n]? = some (s.data.toList[n]) := by
            rw [getElem?_pos s n hlt']
            congr 1
          refine ⟨.int .u8 (s.data.toList[n].toNat : Int), ?_, .int _ _⟩
          simp [execOp, Instr.index, hii, asIntOf_int, undRun hu, hy, hget]
      · cases h3
    · cases h3
  · rename_i cs
    split at h3
    · rename_i len el hu
      split at h3
      · rename_i hlt
        have hlt' : n < len := by simpa [Nat.blt_eq] using hlt
        obtain ⟨i', hi', h4⟩ := szK_inv h3
        obtain ⟨c, h5, hc⟩ := partC_inv (σ := σ) h4
        refine ⟨_, none, tab', h5, hs', fun e w ρ hr hij ho => ?_⟩
        have hx := ho x (by simp [Op.operands]) _ hcx
        have hii := hn e _ (ho i (by simp [Op.operands]) _ hci)
        generalize hy : ρ x = y at hx
        cases hx with
        | agg hl hv =>
          obtain ⟨v, h6, h7⟩ := hc w ⟨hl, hv⟩
          refine ⟨v, ?_, h7⟩
          have c1 : (0 : Int) ≤ (n : Int) ∧ (n : Int) < (len : Int) := by omega
          simp [execOp, Instr.index, hii, asIntOf_int, undRun hu, hy, c1, szRun hi', h6]
      · cases h3
    · cases h3
  · rename_i bs
    split at h3
    · rename_i hu
      split at h3
      · rename_i f hf
        refine ⟨_, none, tab', h3, hs', fun e w ρ hr hij ho => ?_⟩
        have hx := ho x (by simp [Op.operands]) _ hcx
        have hii := hn e _ (ho i (by simp [Op.operands]) _ hci)
        generalize hy : ρ x = y at hx
        cases hx with
        | lstr _ s hl =>
          have hlen : s.data.toList.length = bs.length := byteVal_size (σ := σ) hl
          have hlt2 : n < s.data.toList.length := by rw [hlen]; exact (List.getElem?_eq_some_iff.1 hf).1
          have hget : s[n]? = some (s.data.toList[n]) := by
            rw [getElem?_pos s n hlt2]
            congr 1
          have hval := byteVal_get (σ := σ) hl hf hlt2
          refine ⟨.int .u8 (s.data.toList[n].toNat : Int), ?_, by rw [hval]; exact byteC_vr e _ _⟩
          simp [execOp, Instr.index, hii, asIntOf_int, undRun hu, hy, hget]
      · cases h3
    · cases h3

/-- the two bounds of a slice expression, as the real values have them -/
def BdOK (σ : Sg) (lo hi : Option CV) (isSlice : Bool) (P : Program) (l hh : Nat) (len cap : Nat) : Prop :=
  ∀ (e : Env) (w : World) (lo' hi' : Option Value) (s : Nat), (∀ c v, lo = some c → lo' = some v → VR σ e c v) → (∀ c v, hi = some c → hi' = some v → VR σ e c v) → lo.isSome = lo'.isSome → hi.isSome = hi'.isSome →
    (Instr.sliceBounds isSlice len (cap + s) lo' hi' none).run P w = .ok (l, hh, cap + s) w

theorem sliceBd_inv {len cap : Nat} {lo hi : Option CV} {k : Nat → Nat → Tab → Bool} (h : sliceBd len cap lo hi tab k = true) (hs : Sat σ tab) (hlc : len ≤ cap) (isSlice : Bool) :
    ∃ l h' tab', k l h' tab' = true ∧ Sat σ tab' ∧ l ≤ h' ∧ h' ≤ cap ∧ BdOK σ lo hi isSlice P l h' len cap := by
  have bnd : ∀ {v : CV} {n y : Nat} {code : BoundsCode} {kd : IntKind} {e : Env} {v' : Value} {w : World}, (∀ e v', VR σ e v v' → v' = .int kd (n : Int)) → VR σ e v v' → n ≤ y →
      (Instr.sliceBound v' y code).run P w = .ok n w := by
    intro v n y code kd e v' w hn hv hle
    rw [hn e v' hv]
    have c1 : (0 : Int) ≤ (n : Int) ∧ (n : Int) ≤ (y : Int) := by omega
    simp [Instr.sliceBound, asIntOf_int, c1]
  have low : ∀ {lo : Option CV} {h : Nat} {tab : Tab} {k : Nat → Tab → Bool}, loBd lo h tab k = true → Sat σ tab → ∃ l tab', k l tab' = true ∧ Sat σ tab' ∧ l ≤ h ∧
      ∀ (e : Env) (w : World) (lo' : Option Value), (∀ c v, lo = some c → lo' = some v → VR σ e c v) → lo.isSome = lo'.isSome →
        (lo' = none → l = 0) ∧ ∀ v, lo' = some v → ∀ code, (Instr.sliceBound v h code).run P w = .ok l w := by
    intro lo h tab k hh hs
    cases lo with
    | none =>
      refine ⟨0, tab, hh, hs, Nat.zero_le _, fun e w lo' _ h1 => ?_⟩
      cases lo' <;> simp at h1
      exact ⟨(fun _ => rfl), (fun v h => by cases h)⟩
    | some v =>
      obtain ⟨n, tab', h1, hs', kd, hn⟩ := asNat_inv (show asNat v tab (fun l tab => match Nat.ble l h with | true => k l tab | false => false) = true from hh) hs
      split at h1
      · rename_i hle
        have hle' : n ≤ h := Nat.le_of_ble_eq_true hle
        refine ⟨n, tab', h1, hs', hle', fun e w lo' hv g1 => ?_⟩
        cases lo' with
        | none => simp at g1
        | some u => exact ⟨(fun h => by cases h), (fun v' h' code => by cases h'; exact bnd hn (hv v u rfl rfl) hle')⟩
      · cases h1
  cases hi with
  | none =>
    obtain ⟨l, tab', h1, hs', hle, hrun⟩ := low (show loBd lo len tab (fun l tab => k l len tab) = true from h) hs
    refine ⟨l, len, tab', h1, hs', hle, hlc, fun e w lo' hi' s hv _ g1 g2 => ?_⟩
    cases hi' with
    | some _ => simp at g2
    | none =>
      obtain ⟨r1, r2⟩ := hrun e w lo' hv g1
      cases lo' with
      | none => obtain rfl := r1 rfl; simp [Instr.sliceBounds]
      | some u => simp [Instr.sliceBounds, r2 u rfl]
  | some v =>
    obtain ⟨n, tab', h1, hs', kd, hn⟩ := asNat_inv (show asNat v tab (fun h tab => match Nat.ble h cap with
      | true => loBd lo h tab fun l tab => k l h tab
      | false => false) = true from h) hs
    split at h1
    · rename_i hle
      have hle' : n ≤ cap := Nat.le_of_ble_eq_true hle
      obtain ⟨l, tab'', h2, hs'', hle2, hrun⟩ := low h1 hs'
      refine ⟨l, n, tab'', h2, hs'', hle2, hle', fun e w lo' hi' s hv hvh g1 g2 => ?_⟩
      cases hi' with
      | none => simp at g2
      | some u =>
        have b1 : ∀ code, (Instr.sliceBound u (cap + s) code).run P w = .ok n w := fun code => bnd hn (hvh v u rfl rfl) (by omega)
        obtain ⟨r1, r2⟩ := hrun e w lo' hv g1
        cases lo' with
        | none => obtain rfl := r1 rfl; simp [Instr.sliceBounds, b1]
        | some u' => simp [Instr.sliceBounds, b1, r2 u' rfl]
    · cases h1

theorem optO_inv {x : Option Operand} {k : Option CV → Bool} (h : optO G x t k = true) : ∃ c, k c = true ∧ c.isSome = x.isSome ∧ ∀ y cv, x = some y → c = some cv → OV G t y cv := by
  cases x with
  | none => exact ⟨none, h, rfl, fun _ _ h => by cases h⟩
  | some y =>
    obtain ⟨c, hc, hk⟩ := getO_inv (show getO G y t (fun v => k (some v)) = true from h)
    exact ⟨some c, hk, rfl, fun y' cv h1 h2 => by cases h1; cases h2; exact hc⟩

theorem fl_slice {ty : TypeId} {x : Operand} {lo hi mx : Option Operand} (hh : floatC P G (.slice ty x lo hi mx) t h tab nb k = true) (hs : Sat σ tab) :
    FlOK P σ G ⟨dst, .slice ty x lo hi mx, type, pos, after, guard⟩ t h nb k := by
  cases mx with
  | some _ => cases hh
  | none =>
  obtain ⟨cx, hcx, h1⟩ := getO_inv (show getO G x t _ = true from hh)
  obtain ⟨cl, h2, hl1, hl2⟩ := optO_inv h1
  obtain ⟨ch, h3, hh1, hh2⟩ := optO_inv h2
  have bds : ∀ (e : Env) (ρ : Operand → Value), (∀ y, y ∈ (Op.slice ty x lo hi none).operands → ∀ c, OV G t y c → VR σ e c (ρ y)) →
      (∀ c v, cl = some c → lo.map ρ = some v → VR σ e c v) ∧ (∀ c v, ch = some c → hi.map ρ = some v → VR σ e c v) ∧ cl.isSome = (lo.map ρ).isSome ∧ ch.isSome = (hi.map ρ).isSome := by
    intro e ρ ho
    refine ⟨fun c v hc hv => ?_, fun c v hc hv => ?_, by simp [hl1], by simp [hh1]⟩
    · cases lo with
      | none => simp at hv
      | some y => simp at hv; subst hv; exact ho y (by simp [Op.operands]) c (hl2 y c rfl hc)
    · cases hi with
      | none => simp at hv
      | some y => simp at hv; subst hv; exact ho y (by simp [Op.operands]) c (hh2 y c rfl hc)
  cases cx <;> simp only [] at h3 <;> first | (cases h3; done) | skip
  · -- a string
    rename_i len code
    split at h3
    · rename_i hu
      split at h3
      · -- a piece at a form
        rename_i kd lc ts
        split at h3
        · rename_i hv
          split at h3
          · rename_i kd' hc ts' hlin
            split at h3
            · rename_i hsub
              split at h3
              · rename_i m hm
                obtain ⟨bs, h4, h5⟩ := linPiece_inv h3 hs
                obtain ⟨cv, h6, h7⟩ := lstrK_inv (σ := σ) h4
                refine ⟨cv, none, tab, h6, hs, fun e w ρ hr hij ho => ?_⟩
                have hx := ho x (by simp [Op.operands]) _ hcx
                generalize hy : ρ x = y at hx
                obtain ⟨b1, b2, b3, b4⟩ := bds e ρ ho
                cases hx with
                | str s hl hc' =>
                  obtain ⟨n, n1, n2, n3⟩ := h5 s hl hc'
                  obtain ⟨vl, hvl⟩ : ∃ vl, lo.map ρ = some vl := Option.isSome_iff_exists.1 (by rw [← b3]; rfl)
                  obtain ⟨vh, hvh⟩ : ∃ vh, hi.map ρ = some vh := Option.isSome_iff_exists.1 (by rw [← b4]; rfl)
                  have e1 := linOf_inv (v := .lin kd lc ts) rfl (b1 _ vl rfl hvl)
                  have e2 := linOf_inv hlin (b2 _ vh rfl hvh)
                  have e3 : lfVal σ.i hc ts' = ((n + m : Nat) : Int) := by
                    have t1 := subTs_val σ.i ts' ts
                    rw [hsub] at t1
                    have t0 : tsVal σ.i [] = 0 := rfl
                    have hm' : hc - lc = (m : Int) := hm
                    simp only [lfVal] at n1 ⊢
                    omega
                  rw [n1] at e1
                  rw [e3] at e2
                  subst e1; subst e2
                  have bnd : ∀ {kd : IntKind} {n y : Nat} {code : BoundsCode}, n ≤ y → (Instr.sliceBound (.int kd (n : Int)) y code).run P w = .ok n w := by
                    intro kd n y code hle
                    have c1 : (0 : Int) ≤ (n : Int) ∧ (n : Int) ≤ (y : Int) := by omega
                    simp [Instr.sliceBound, asIntOf_int, c1]
                  have hb : (Instr.sliceBounds false s.size s.size (lo.map ρ) (hi.map ρ) none).run P w = .ok (n, n + m, s.size) w := by
                    rw [hvl, hvh]
                    have x1 := fun code => bnd (kd := kd) (code := code) (show n ≤ n + m by omega)
                    have x2 := fun code => bnd (kd := kd') (code := code) n2
                    simp only [Instr.sliceBounds, Sem.run_bind, x2, Result.andThen_ok, x1, Sem.run_pure]
                  refine ⟨.string (s.extract n (n + m)), ?_, h7 e _ n3⟩
                  simp [execOp, Instr.sliceAt, Instr.slice, undRun hu, hy, hb]
              · cases h3
            · cases h3
          · cases h3
        · cases h3
      · -- plain bounds
        obtain ⟨l, hi', tab', h4, hs', hle, hle2, hbd⟩ := sliceBd_inv (P := P) h3 hs (Nat.le_refl _) false
        rw [forceN_eq, forceN_eq] at h4
        refine ⟨_, none, tab', h4, hs', fun e w ρ hr hij ho => ?_⟩
        have hx := ho x (by simp [Op.operands]) _ hcx
        generalize hy : ρ x = y at hx
        obtain ⟨b1, b2, b3, b4⟩ := bds e ρ ho
        have hb := hbd e w _ _ 0 b1 b2 b3 b4
        cases hx with
        | str s hl hc =>
          subst hl; subst hc
          refine ⟨.string (s.extract l hi'), ?_, .str _ ?_ ?_⟩
          · simp only [Nat.add_zero] at hb
            simp [execOp, Instr.sliceAt, Instr.slice, undRun hu, hy, hb]
          · simp; omega
          · rw [← strLen, enc_slice s.data.toList hle (by rw [strLen]; exact hle2)]
            simp [ByteArray.data_extract, List.drop_take]
    · cases h3
  · -- nil
    split at h3
    · rename_i el he
      have hu := elemOfSl_inv he
      obtain ⟨i, hi0, h4⟩ := szK_inv h3
      obtain ⟨l, hi', tab', h5, hs', hle, hle2, hbd⟩ := sliceBd_inv (P := P) h4 hs (Nat.le_refl _) true
      refine ⟨_, none, tab', h5, hs', fun e w ρ hr hij ho => ?_⟩
      have hx := ho x (by simp [Op.operands]) _ hcx
      generalize hy : ρ x = y at hx
      obtain ⟨b1, b2, b3, b4⟩ := bds e ρ ho
      have hb := hbd e w _ _ 0 b1 b2 b3 b4
      have e1 : l = 0 := by omega
      have e2 : hi' = 0 := by omega
      subst e1; subst e2
      cases hx
      refine ⟨.slice none 0 0, ?_, .sl0⟩
      simp [execOp, Instr.sliceAt, Instr.slice, undRun hu, hy, hb, szRun hi0]
    · cases h3
  · -- a slice
    rename_i b off len cap
    split at h3
    · rename_i el he
      have hu := elemOfSl_inv he
      obtain ⟨i, hi0, h4⟩ := szK_inv h3
      split at h4
      · cases h4
      · rename_i hlc0
        have hlc : len ≤ cap := Nat.le_of_ble_eq_true hlc0
        obtain ⟨l, hi', tab', h5, hs', hle, hle2, hbd⟩ := sliceBd_inv (P := P) h4 hs hlc true
        split at h5
        · rename_i hlt
          have hlt' : l < cap := by simpa [Nat.blt_eq] using hlt
          rw [forceN_eq, forceN_eq, forceN_eq] at h5
          refine ⟨_, none, tab', h5, hs', fun e w ρ hr hij ho => ?_⟩
          have hx := ho x (by simp [Op.operands]) _ hcx
          generalize hy : ρ x = y at hx
          obtain ⟨b1, b2, b3, b4⟩ := bds e ρ ho
          cases hx with
          | @sl _ _ _ _ p hb0 =>
            have hb := hbd e w _ _ p.s b1 b2 b3 b4
            refine ⟨.slice (some ⟨p.r, off + l * i.size + p.d, none⟩) (hi' - l) (cap - l + p.s), ?_, .sl hb0⟩
            have hne : ¬ (cap + p.s = l) := by omega
            simp [execOp, Instr.sliceAt, Instr.slice, undRun hu, hy, hb, szRun hi0, hne, addr_add]
            omega
        · rename_i hlt
          refine ⟨_, none, tab', h5, hs', fun e w ρ hr hij ho => ?_⟩
          have hx := ho x (by simp [Op.operands]) _ hcx
          generalize hy : ρ x = y at hx
          obtain ⟨b1, b2, b3, b4⟩ := bds e ρ ho
          cases hx with
          | @sl _ _ _ _ p hb0 =>
            have hb := hbd e w _ _ p.s b1 b2 b3 b4
            have hge : ¬ l < cap := by intro hh; rw [← Nat.blt_eq, hlt] at hh; cases hh
            have e1 : hi' - l = 0 := by omega
            by_cases hm : cap + p.s = l
            · refine ⟨.slice (some ⟨p.r, off + p.d, none⟩) 0 (cap + p.s - l), ?_, .slE _ _ _⟩
              rw [hm] at hb
              simp [execOp, Instr.sliceAt, Instr.slice, undRun hu, hy, hb, szRun hi0, hm, e1]
            · refine ⟨.slice (some ⟨p.r, off + p.d + l * i.size, none⟩) 0 (cap + p.s - l), ?_, .slE _ _ _⟩
              simp [execOp, Instr.sliceAt, Instr.slice, undRun hu, hy, hb, szRun hi0, hm, e1, addr_add]
    · cases h3
  · -- an empty one
    split at h3
    · rename_i el he
      have hu := elemOfSl_inv he
      obtain ⟨i, hi0, h4⟩ := szK_inv h3
      obtain ⟨l, hi', tab', h5, hs', hle, hle2, hbd⟩ := sliceBd_inv (P := P) h4 hs (Nat.le_refl _) true
      refine ⟨_, none, tab', h5, hs', fun e w ρ hr hij ho => ?_⟩
      have hx := ho x (by simp [Op.operands]) _ hcx
      generalize hy : ρ x = y at hx
      obtain ⟨b1, b2, b3, b4⟩ := bds e ρ ho
      have e1 : l = 0 := by omega
      have e2 : hi' = 0 := by omega
      subst e1; subst e2
      cases hx with
      | slE r o c =>
        have hb := hbd e w _ _ c b1 b2 b3 b4
        simp only [Nat.zero_add] at hb
        refine ⟨.slice (some ⟨r, o, none⟩) 0 c, ?_, .slE _ _ _⟩
        by_cases hm : c = 0
        · subst hm
          simp [execOp, Instr.sliceAt, Instr.slice, undRun hu, hy, hb, szRun hi0]
        · simp [execOp, Instr.sliceAt, Instr.slice, undRun hu, hy, hb, szRun hi0, hm, addr_add]
    · cases h3
  · -- a string of forms
    rename_i bs
    split at h3
    · rename_i hu
      obtain ⟨l, hi', tab', h4, hs', hle, hle2, hbd⟩ := sliceBd_inv (P := P) h3 hs (Nat.le_refl _) false
      obtain ⟨cv, h5, h6⟩ := lstrK_inv (σ := σ) h4
      refine ⟨cv, none, tab', h5, hs', fun e w ρ hr hij ho => ?_⟩
      have hx := ho x (by simp [Op.operands]) _ hcx
      generalize hy : ρ x = y at hx
      obtain ⟨b1, b2, b3, b4⟩ := bds e ρ ho
      have hb := hbd e w _ _ 0 b1 b2 b3 b4
      cases hx with
      | lstr _ s hl =>
        have hlen : s.size = bs.length := byteVal_size (σ := σ) hl
        refine ⟨.string (s.extract l hi'), ?_, h6 e _ ?_⟩
        · simp only [Nat.add_zero, ← hlen] at hb
          simp [execOp, Instr.sliceAt, Instr.slice, undRun hu, hy, hb]
        · have hl' : byteVal s = bsVal σ.i bs := hl
          simp only [byteVal, bsVal] at hl' ⊢
          rw [ByteArray.data_extract, Array.toList_extract, List.extract_eq_take_drop, List.map_take, List.map_drop, hl', ← List.map_drop, ← List.map_take, List.drop_take]
    · cases h3

end
end Go.Ev

namespace Go.Ev

section
variable {P : Program} {σ : Sg} {G : Nat → Bool} {t : Tm} {h : Hp} {tab : Tab} {nb : Nat} {k : KF}
variable {dst : Option Tmp} {type : TypeId} {pos : String} {after : Array Edge} {guard : Option (Nat × Bool)}

def setL {α : Type} (l : List α) : Nat → List α → List α
  | _, [] => l
  | off, x :: xs => setL (l.set off x) (off + 1) xs
theorem setList_eq (l : List CV) (off : Nat) (xs : List CV) : setList l off xs = setL l off xs := by
  induction xs generalizing l off with
  | nil => rfl
  | cons x xs ih => exact ih _ _
theorem LR.set {e : Env} {cs : List CV} {vs : List Value} (hl : LR σ e cs vs) {c : CV} {v : Value} (hv : VR σ e c v) (off : Nat) : LR σ e (cs.set off c) (vs.set off v) := by
  refine ⟨by simp [hl.1], fun i c' v' hc hv' => ?_⟩
  rw [List.getElem?_set] at hc hv'
  rw [hl.1] at hc
  split at hc
  · rename_i he
    rw [if_pos he] at hv'
    split at hc
    · rename_i hlt
      rw [if_pos hlt] at hv'
      cases hc; cases hv'; exact hv
    · cases hc
  · rename_i he
    rw [if_neg he] at hv'
    exact hl.2 i c' v' hc hv'
theorem LR.setL {e : Env} {cs : List CV} {vs : List Value} (hl : LR σ e cs vs) : ∀ {xs : List CV} {ys : List Value}, LR σ e xs ys → ∀ off, LR σ e (setL cs off xs) (Ev.setL vs off ys) := by
  intro xs
  induction xs generalizing cs vs with
  | nil => intro ys hx off; rw [hx.nil_inv]; exact hl
  | cons x xs ih =>
    intro ys hx off
    obtain ⟨y, ys', rfl, hy, hx'⟩ := hx.cons_inv
    exact ih (hl.set hy off) hx' (off + 1)
theorem foldl_setL (off : Nat) : ∀ (xs : List Value) (s : Nat) (cells : Array Value),
    ((xs.zipIdx s).foldl (fun cs (x : Value × Nat) => cs.setIfInBounds (off + x.2) x.1) cells).toList = setL cells.toList (off + s) xs
  | [], s, cells => rfl
  | x :: xs, s, cells => by
    simp only [List.zipIdx_cons, List.foldl_cons]
    rw [foldl_setL off xs (s + 1), show off + (s + 1) = off + s + 1 by omega]
    simp [setL]

theorem fillC_inv {place : Nat → Option (Nat × Nat)} {e : Env} {ρ : Operand → Value} : ∀ {is : List Nat} {vs : List CV} {us : List Value} {cells cs : List CV} {arr : Array Value},
    is.length = vs.length → LR σ e vs us → LR σ e cells arr.toList → fillC place (is.zip vs) cells = some cs → ∃ arr', Instr.fill place arr (is.zip us) = some arr' ∧ LR σ e cs arr'.toList
  | [], vs, us, cells, cs, arr, hl, hv, hc, hf => by
    simp [fillC] at hf; subst hf
    exact ⟨arr, by simp [Instr.fill], hc⟩
  | i :: is, [], us, cells, cs, arr, hl, hv, hc, hf => by simp at hl
  | i :: is, v :: vs, us, cells, cs, arr, hl, hv, hc, hf => by
    obtain ⟨u, us', rfl, hu, hus⟩ := hv.cons_inv
    simp only [List.zip_cons_cons, fillC] at hf
    split at hf
    · cases hf
    · rename_i off size hp
      split at hf
      · rename_i hb
        simp only [Bool.and_eq_true, Nat.beq_eq] at hb
        have hle : off + size ≤ cells.length := Nat.le_of_ble_eq_true hb.2
        have hcu := cells_LR hu
        have hlen : u.cells.size = size := by have := hcu.1; rw [hb.1] at this; simpa using this.symm
        have hca : cells.length = arr.size := by simpa using hc.1
        have hz : (u.cells.zipIdx.foldl (fun cs (x : Value × Nat) => cs.setIfInBounds (off + x.2) x.1) arr).toList = setL arr.toList off u.cells.toList := by
          rw [← Array.foldl_toList, Array.toList_zipIdx]
          exact foldl_setL off _ 0 arr
        have hnew := hc.setL hcu off
        rw [← hz, ← setList_eq] at hnew
        obtain ⟨arr', h1, h2⟩ := fillC_inv (place := place) (ρ := ρ) (by simpa using hl) hus hnew hf
        refine ⟨arr', ?_, h2⟩
        have n1 : ¬ (u.cells.size ≠ size || off + u.cells.size > arr.size) = true := by
          simp only [hlen, Bool.or_eq_true, decide_eq_true_eq, ne_eq, not_true_eq_false, false_or, gt_iff_lt, Nat.not_lt]; omega
        simp only [List.zip_cons_cons, Instr.fill, hp, n1]
        exact h1
      · cases hf

theorem forceL_eq (l : List CV) (k : List CV → Bool) : forceL l k = k l := by
  induction l generalizing k with
  | nil => rfl
  | cons x l ih => show forceL l (fun l => k (x :: l)) = _; rw [ih]

theorem parts_zip (parts : Array (Nat × Operand)) (ρ : Operand → Value) :
    (parts.map fun (x : Nat × Operand) => (x.1, ρ x.2)).toList = (parts.toList.map (·.1)).zip ((parts.toList.map (·.2)).map ρ) := by
  rw [Array.toList_map]
  induction parts.toList with
  | nil => rfl
  | cons x l ih => simp [ih]

theorem fl_build {ty : TypeId} {parts : Array (Nat × Operand)} (hh : floatC P G (.build ty parts) t h tab nb k = true) (hs : Sat σ tab) :
    FlOK P σ G ⟨dst, .build ty parts, type, pos, after, guard⟩ t h nb k := by
  simp only [floatC] at hh
  split at hh
  · rename_i z hz
    obtain ⟨i, zv, hi, hzv, hzz⟩ := zeroOf_inv hz
    have fin : ∀ (place : Nat → Option (Nat × Nat)), (∀ ps : List (Nat × Value), P.built ty ps = Instr.fill place zv.cells ps) →
        (getOs G (parts.toList.map (·.2)) t fun vs => match fillC place ((parts.toList.map (·.1)).zip vs) z with
          | some cs => forceL cs fun cs => k (.agg cs) none tab
          | none => false) = true → FlOK P σ G ⟨dst, .build ty parts, type, pos, after, guard⟩ t h nb k := by
      intro place hbuilt hg
      obtain ⟨vs, hl, hv, h1⟩ := getOs_inv hg
      split at h1
      · rename_i cs hcs
        rw [forceL_eq] at h1
        refine ⟨_, none, tab, h1, hs, fun e w ρ hr hij ho => ?_⟩
        have hvs := getOs_LR (σ := σ) (e := e) (ρ := ρ) hl hv (fun x hx c hc => ho x (by simpa [Op.operands] using hx) c hc)
        obtain ⟨arr', h2, h3⟩ := fillC_inv (ρ := ρ) (by simpa using hl.symm) hvs (ofValues_LR (σ := σ) (e := e) hzz) hcs
        refine ⟨.agg arr', ?_, .agg h3.1 h3.2⟩
        have := run_build (P := P) w ty (parts.map fun (i, x) => (i, ρ x)) arr' (by rw [hbuilt, parts_zip]; exact h2)
        simp only [execOp, Sem.run_bind, this, Result.andThen_ok, Sem.run_pure]
      · cases h1
    split at hh
    · rename_i fields hu
      split at hh
      · cases hh
      · rename_i hall
        refine fin _ (fun ps => ?_) hh
        have hpl : fields.toList.mapM (fun f => (P.info? f.type).map fun i => (f.offset, i.size)) = some (fields.toList.map fun f => (f.offset, P.cellsOf f.type)) := by
          have hall' : ∀ f ∈ fields.toList, (P.info? f.type).isSome = true := List.all_eq_true.1 hall
          generalize fields.toList = fs at hall'
          induction fs with
          | nil => simp
          | cons f fs ih =>
            obtain ⟨j, hj⟩ := Option.isSome_iff_exists.1 (hall' f (by simp))
            rw [List.mapM_cons, ih (fun g hg => hall' g (by simp [hg]))]
            simp [hj, Program.cellsOf]
        simp only [Program.built, hi, hu, hzv, hpl]
        congr 1
        funext j
        simp
    · rename_i n el hu
      obtain ⟨ie, hie, h1⟩ := szK_inv hh
      refine fin _ (fun ps => ?_) h1
      simp only [Program.built, hi, hu, hzv, hie]
    · cases hh
  · cases hh

theorem repl_LR {e : Env} {z : List CV} {zs : Array Value} (hz : LR σ e z zs.toList) (n : Nat) : LR σ e (repl n z) ((Array.range (n * z.length)).map (zs[· % zs.size]!)).toList := by
  have hsz : z.length = zs.size := by simpa using hz.1
  refine ⟨by simp [repl], fun i c v hc hv => ?_⟩
  simp only [repl, List.getElem?_map, Option.map_eq_some_iff] at hc
  obtain ⟨j, hj, rfl⟩ := hc
  simp only [Array.toList_map, Array.toList_range, List.getElem?_map, Option.map_eq_some_iff] at hv
  obtain ⟨j', hj', rfl⟩ := hv
  rw [hj] at hj'
  cases hj'
  have hlt : j < n * z.length := by
    have := List.mem_of_getElem? hj
    simpa using this
  have hpos : 0 < z.length := by
    rcases Nat.eq_zero_or_pos z.length with h | h
    · rw [h] at hlt; omega
    · exact h
  have hm : j % z.length < z.length := Nat.mod_lt _ hpos
  have g1 : z[j % z.length]? = some (z.getD (j % z.length) undefC) := by simp [List.getD, List.getElem?_eq_getElem hm]
  obtain ⟨v, hv, hr⟩ := hz.get g1
  have : zs[j % zs.size]! = v := by
    rw [← hsz]
    have hv' : zs[j % z.length]? = some v := by simpa using hv
    rw [getElem!_def, hv']
  rw [this]; exact hr

theorem fl_buildSlice {ty : TypeId} {len : Nat} {parts : Array (Nat × Operand)} (hh : floatC P G (.buildSlice ty len parts) t h tab nb k = true) (hs : Sat σ tab) :
    FlOK P σ G ⟨dst, .buildSlice ty len parts, type, pos, after, guard⟩ t h nb k := by
  simp only [floatC] at hh
  split at hh
  · rename_i el he
    have hu := elemOfSl_inv he
    split at hh
    · rename_i z hz
      obtain ⟨i, zv, hi, hzv, hzz⟩ := zeroOf_inv hz
      obtain ⟨i', hi', h1⟩ := szK_inv hh
      rw [hi] at hi'; cases hi'
      split at h1
      · rename_i hb
        simp only [Bool.and_eq_true, Nat.beq_eq] at hb
        have hle : len * z.length ≤ 65536 := Nat.le_of_ble_eq_true hb.1
        obtain ⟨vs, hl, hv, h2⟩ := getOs_inv h1
        split at h2
        · rename_i cs hcs
          rw [forceN_eq] at h2
          refine ⟨_, _, tab, h2, hs, fun e w ρ hr hij ho => ?_⟩
          have hvs := getOs_LR (σ := σ) (e := e) (ρ := ρ) hl hv (fun x hx c hc => ho x (by simpa [Op.operands] using hx) c hc)
          have hzl := ofValues_LR (σ := σ) (e := e) hzz
          obtain ⟨arr', h3, h4⟩ := fillC_inv (ρ := ρ) (by simpa using hl.symm) hvs (repl_LR hzl len) hcs
          have hsize : z.length = i.size := hb.2
          have hcl : cs.length = len * z.length := by
            have aux : ∀ (place : Nat → Option (Nat × Nat)) (ps : List (Nat × CV)) (c0 c1 : List CV), fillC place ps c0 = some c1 → c1.length = c0.length := by
              intro place ps
              induction ps with
              | nil => intro c0 c1 h; simp [fillC] at h; rw [h]
              | cons p ps ih =>
                intro c0 c1 h
                obtain ⟨a, b⟩ := p
                simp only [fillC] at h
                split at h
                · cases h
                · split at h
                  · rw [ih _ _ h, setList_eq]
                    have sl : ∀ (xs l : List CV) (o : Nat), (setL l o xs).length = l.length := by
                      intro xs
                      induction xs with
                      | nil => intro l o; rfl
                      | cons x xs ih => intro l o; simp [setL, ih]
                    exact sl _ _ _
                  · cases h
            rw [aux _ _ _ _ hcs]; simp [repl]
          refine ⟨.slice (some ⟨w.heap.size, 0, none⟩) len len, .cells arr' el, 0, w.drawn, ?_, ?_, .sl (o := 0) (cap := len) (p := ⟨w.heap.size, 0, 0, true⟩) (Env.up_same _ _ _)⟩
          · by_cases hpos : len * i.size = 0
            · have h3' : Instr.fill (fun j => some (j * i.size, i.size)) #[] ((parts.toList.map (·.1)).zip ((parts.toList.map (·.2)).map ρ)) = some arr' := by
                rw [hsize, hpos, Array.range_zero', Array.map_empty] at h3; exact h3
              have hp : parts.toList.map (fun x => (x.1, ρ x.2)) = (parts.toList.map (·.1)).zip ((parts.toList.map (·.2)).map ρ) := by
                have := parts_zip parts ρ
                rwa [Array.toList_map] at this
              rw [← hp] at h3'
              simp [execOp, Instr.buildSlice, undRun hu, szRun hi, hpos, newRow, Array.range_zero', h3']
            · have := run_buildSlice (P := P) w ty el len (parts.map fun (i, x) => (i, ρ x)) arr' i zv hu hi hzv (by rw [← hsize]; omega) hpos (by
                rw [parts_zip]
                rw [hsize] at h3
                exact h3)
              simp only [execOp, Sem.run_bind, this, Result.andThen_ok, Sem.run_pure, World.alloc]
          · rw [← hcl]; exact BR.fresh h4 _ _ 0 (.zero _)
        · cases h2
      · cases h1
    · cases hh
  · cases hh

theorem fl_makeSlice {ty : TypeId} {lo co : Operand} (hh : floatC P G (.makeSlice ty lo co) t h tab nb k = true) (hs : Sat σ tab) :
    FlOK P σ G ⟨dst, .makeSlice ty lo co, type, pos, after, guard⟩ t h nb k := by
  simp only [floatC] at hh
  split at hh
  · rename_i el he
    have hu := elemOfSl_inv he
    split at hh
    · rename_i z hz
      obtain ⟨i, zv, hi, hzv, hzz⟩ := zeroOf_inv hz
      obtain ⟨cl, hcl, h1⟩ := getO_inv hh
      obtain ⟨l, tab1, h2, hs1, kd1, hn1⟩ := asNat_inv h1 hs
      obtain ⟨cc, hcc, h3⟩ := getO_inv h2
      obtain ⟨c, tab2, h4, hs2, kd2, hn2⟩ := asNat_inv h3 hs1
      obtain ⟨i', hi', h5⟩ := szK_inv h4
      rw [hi] at hi'; cases hi'
      split at h5
      · rename_i hb
        simp only [Bool.and_eq_true, Nat.beq_eq] at hb
        obtain ⟨b1, b2, b3, b4, b5⟩ := hb
        have b1 := Nat.le_of_ble_eq_true b1
        have b2 := Nat.le_of_ble_eq_true b2
        have b3 := Nat.le_of_ble_eq_true b3
        have b4 := Nat.le_of_ble_eq_true b4
        have hby : P.bytesOf el = i.bytes := by simp [Program.bytesOf, hi]
        rw [forceN_eq] at h5
        refine ⟨_, _, tab2, h5, hs2, fun e w ρ hr hij ho => ?_⟩
        have e1 := hn1 e _ (ho lo (by simp [Op.operands]) _ hcl)
        have e2 := hn2 e _ (ho co (by simp [Op.operands]) _ hcc)
        have hzl := ofValues_LR (σ := σ) (e := e) hzz
        have hrep := repl_LR hzl c
        refine ⟨.slice (some ⟨w.heap.size, 0, none⟩) l c, .cells (madeCells zv.cells (c * i.size)) el, 0, w.drawn, ?_, ?_, .sl (o := 0) (cap := c) (p := ⟨w.heap.size, 0, 0, true⟩) (Env.up_same _ _ _)⟩
        · have hbc : ((i.bytes : Int)) * (c : Int) ≤ 281474976710656 := by
            have h1 : c * i.bytes ≤ 1000000000 := hby ▸ b3
            have h2 : ((i.bytes : Int)) * (c : Int) = ((c * i.bytes : Nat) : Int) := by rw [Nat.mul_comm]; simp
            rw [h2]; omega
          have := run_make (P := P) w ty el i zv hu hi hzv kd1 kd2 l c (by omega) (by omega) hbc (by omega)
          simp only [execOp, Sem.run_bind, e1, e2, this, Result.andThen_ok, Sem.run_pure, World.alloc, Int.toNat_natCast]
        · have hlen : c * z.length = (repl c z).length := by simp [repl]
          rw [hlen]
          rw [b5] at hrep
          exact BR.fresh hrep _ _ 0 (.zero _)
      · cases h5
    · cases hh
  · cases hh

end
end Go.Ev

namespace Go.Ev

section
variable {P : Program} {σ : Sg} {G : Nat → Bool} {t : Tm} {h : Hp} {tab : Tab} {nb : Nat} {k : KF}
variable {dst : Option Tmp} {type : TypeId} {pos : String} {after : Array Edge} {guard : Option (Nat × Bool)}

theorem decBytes_len : ∀ (n c : Nat), (decBytes n c).length = n
  | 0, _ => rfl
  | n + 1, c => by simp [decBytes, decBytes_len n c]

theorem modify_push {α : Type} (a : Array α) (x : α) (f : α → α) : (a.push x).modify a.size f = a.push (f x) := by
  apply Array.ext_getElem?
  intro i
  rw [Array.getElem?_modify, Array.getElem?_push, Array.getElem?_push]
  by_cases hi : a.size = i
  · subst hi; simp
  · have : ¬ i = a.size := fun h => hi h.symm
    simp [hi, this]

theorem run_stringToBytes {e : Env} (el : TypeId) (s : ByteArray) (w : World) (cl : List CV) (hcl : cl.length = s.size)
    (hcv : ∀ (i : Nat) (hlt : i < s.data.toList.length), ∃ c, cl[i]? = some c ∧ VR σ e c (.int .u8 (s.data.toList[i].toNat : Nat))) :
    ∃ (sl dr : Nat) (obj : Obj), (Conv.stringToBytes el s).run P w = .ok (.slice (some ⟨w.heap.size, 0, none⟩) s.size (s.size + sl)) { w with heap := w.heap.push obj, drawn := dr } ∧
      BR σ e (.cells 0 true 1 s.size (ofList cl)) ⟨w.heap.size, 0, sl, true⟩ obj := by
  let tp := w.tape w.drawn (.appendCap s.size 0 el) % (2 ^ 63 - s.size)
  let elems : Array Value := s.data.map fun b => .int .u8 b.toNat
  let c : Array Value := elems ++ Array.replicate (s.size + tp - s.size) (.int .u8 0)
  have hes : elems.size = s.size := by simp [elems]
  have hc : c.size = s.size + tp := by simp [c, hes]
  refine ⟨tp, w.drawn + 1, .cells c el (c.size, c.size + 1), ?_, ?_⟩
  · have hsh : ({ w with heap := w.heap.push (.cells c el), drawn := w.drawn + 1 } : World).shape? w.heap.size = some (el, c.size) := by simp [World.shape?]
    have hfr : ({ w with heap := w.heap.push (.cells c el), drawn := w.drawn + 1 } : World).freeze ⟨w.heap.size, c.size, none⟩ 1 = { w with heap := w.heap.push (.cells c el (c.size, c.size + 1)), drawn := w.drawn + 1 } := by
      simp only [World.freeze, Nat.one_ne_zero, if_false]
      congr 1
      exact modify_push _ _ _
    simp only [Conv.stringToBytes, Sem.run_bind, run_choose, Question.forced, Bool.false_eq_true, if_false, Result.andThen_ok, Question.cut]
    have hrow : (newRow el c).run P { w with drawn := w.drawn + 1 } = .ok ⟨w.heap.size, 0, none⟩ { w with heap := w.heap.push (.cells c el), drawn := w.drawn + 1 } := rfl
    show ((newRow el c).run P { w with drawn := w.drawn + 1 }).andThen _ = _
    rw [hrow]
    simp only [Result.andThen_ok, markStringish, Sem.run_bind, run_shape, hsh, run_freeze, hfr, Sem.run_pure]
    rfl
  · refine .cells (by simp [hc]) (fun h => by cases h) (fun i hi => ?_) (fun i hi => ?_) (.inr ⟨rfl, rfl, rfl⟩) (.zero _)
    · rw [ofList_get]; exact List.getElem?_eq_none (by rw [hcl]; exact hi)
    · have hlt : i < s.data.toList.length := hi
      have hlt' : i < s.data.size := hi
      obtain ⟨cv, g1, g2⟩ := hcv i hlt
      refine ⟨cv, .int .u8 (s.data.toList[i].toNat : Nat), ?_, ?_, g2⟩
      · rw [ofList_get]; exact g1
      · have hi' : i < s.size := hi
        simp [c, elems, Array.getElem?_append, hi']

theorem runesFrom_ascii (s : ByteArray) (ha : ∀ (i : Nat) (h : i < s.size), (s[i]'h).toNat < 128) : ∀ (bound i : Nat) (acc : Array Value), i + bound = s.size → Conv.runesFrom s bound i acc = acc ++ ((s.data.toList.drop i).map fun b => Value.int .i32 b.toNat).toArray
  | 0, i, acc, h => by
    have : s.data.toList.drop i = [] := List.drop_eq_nil_of_le (by rw [strLen]; omega)
    simp [Conv.runesFrom, this]
  | bound + 1, i, acc, h => by
    have hi : i < s.size := by omega
    unfold Conv.runesFrom
    rw [if_pos hi, decode_ascii s i hi (ha i hi)]
    show Conv.runesFrom s bound (i + 1) _ = _
    rw [runesFrom_ascii s ha bound (i + 1) _ (by omega)]
    have hd : s.data.toList.drop i = (s[i]'hi) :: s.data.toList.drop (i + 1) := by
      rw [List.drop_eq_getElem_cons (by rw [strLen]; exact hi)]
      rfl
    rw [hd, List.map_cons]
    apply Array.ext'
    simp
theorem run_runes_any (w : World) {us : TypeDesc} (src dst e : TypeId) (s : ByteArray) (hs : P.underlying src = some us) (hd : P.underlying dst = some (.slice e)) (he : P.underlying e = some (.int .i32)) :
    (convert src dst (.string s)).run P w = .ok (.slice (some ⟨w.heap.size, 0, none⟩) (Conv.runesFrom s s.size 0 #[]).size (grownCap w (Conv.runesFrom s s.size 0 #[]).size 0 e))
      (w.drew.alloc (.cells (Conv.runesFrom s s.size 0 #[] ++ Array.replicate (grownCap w (Conv.runesFrom s s.size 0 #[]).size 0 e - (Conv.runesFrom s s.size 0 #[]).size) (.int .i32 0)) e)) := by
  simp [convert, run_underlying hs, run_underlying hd, run_underlying he, Conv.stringToRunes, Question.forced, newRow, grownCap]
theorem run_stringToRunes {e : Env} {us : TypeDesc} (src dst el : TypeId) (s : ByteArray) (w : World) (hs : P.underlying src = some us) (hd : P.underlying dst = some (.slice el)) (he : P.underlying el = some (.int .i32)) 
    (ha : asciiB s.data.toList = true) :
    ∃ (sl dr : Nat) (obj : Obj), (convert src dst (.string s)).run P w = .ok (.slice (some ⟨w.heap.size, 0, none⟩) s.size (s.size + sl)) { w with heap := w.heap.push obj, drawn := dr } ∧
      BR σ e (.cells 0 true 1 s.size (ofList (s.data.toList.map fun b => CV.int .i32 b.toNat))) ⟨w.heap.size, 0, sl, true⟩ obj := by
  have hr : Conv.runesFrom s s.size 0 #[] = (s.data.toList.map fun b => Value.int .i32 b.toNat).toArray := by
    rw [runesFrom_ascii s (fun i h => by
      have := List.all_eq_true.1 ha (s[i]'h) (List.mem_of_getElem (l := s.data.toList) (i := i) (h := by rw [strLen]; exact h) rfl)
      simpa [Nat.blt_eq] using this) s.size 0 #[] (by omega)]
    simp
  have hrs : (Conv.runesFrom s s.size 0 #[]).size = s.size := by rw [hr]; simp
  have hrun := run_runes_any (P := P) w src dst el s hs hd he
  rw [hrs] at hrun
  have hge := grownCap_ge w s.size 0 el
  generalize grownCap w s.size 0 el = cp at hrun hge
  refine ⟨cp - s.size, w.drawn + 1, .cells (Conv.runesFrom s s.size 0 #[] ++ Array.replicate (cp - s.size) (.int .i32 0)) el, ?_, ?_⟩
  · rw [hrun, show s.size + (cp - s.size) = cp by omega]
    rfl
  · refine .cells (by rw [Array.size_append, hrs]; simp) (fun h => by cases h) (fun i hi => ?_) (fun i hi => ?_) (.inl rfl) (.zero _)
    · rw [ofList_get]; exact List.getElem?_eq_none (by simp; exact hi)
    · have hlt : i < s.data.toList.length := by rw [strLen]; exact hi
      refine ⟨.int .i32 (s.data.toList[i].toNat : Nat), .int .i32 (s.data.toList[i].toNat : Nat), ?_, ?_, .int _ _⟩
      · rw [ofList_get, List.getElem?_map, List.getElem?_eq_getElem hlt]; rfl
      · show (Conv.runesFrom s s.size 0 #[] ++ _)[0 + i]? = _
        rw [Nat.zero_add, Array.getElem?_append_left (by rw [hrs]; exact hi), hr, List.getElem?_toArray, List.getElem?_map, List.getElem?_eq_getElem hlt]
        rfl

theorem fl_convert {s d : TypeId} {x : Operand} (hh : floatC P G (.convert s d x) t h tab nb k = true) (hs : Sat σ tab) : FlOK P σ G ⟨dst, .convert s d x, type, pos, after, guard⟩ t h nb k := by
  obtain ⟨c, hc, h1⟩ := getO_inv hh
  simp only [convC] at h1
  split at h1
  · cases h1
  · rename_i sd hsd
    split at h1
    · rename_i el hd
      cases c <;> simp only [] at h1 <;> first | (cases h1; done) | skip
      rotate_left
      · rename_i bs
        split at h1
        · rename_i hel
          rw [forceN_eq] at h1
          refine ⟨_, _, tab, h1, hs, fun e w ρ hr hij ho => ?_⟩
          have hx := ho x (by simp [Op.operands]) _ hc
          generalize hy : ρ x = y at hx
          cases hx with
          | lstr _ st hl =>
            have hlen : st.size = bs.length := byteVal_size (σ := σ) hl
            obtain ⟨sl, dr, obj, h2, h3⟩ := run_stringToBytes (P := P) (σ := σ) (e := e) el st w (bs.map fun f => byteC f.1 f.2) (by simp [hlen])
              (fun i hlt => by
                have hlt' : i < bs.length := by rw [← hlen]; exact hlt
                refine ⟨byteC bs[i].1 bs[i].2, by rw [List.getElem?_map, List.getElem?_eq_getElem hlt']; rfl, ?_⟩
                rw [byteVal_get (σ := σ) hl (List.getElem?_eq_getElem hlt') hlt]
                exact byteC_vr _ _ _)
            rw [← hlen]
            refine ⟨_, obj, sl, dr, ?_, h3, .sl (o := 0) (cap := st.size) (p := ⟨w.heap.size, 0, sl, true⟩) (Env.up_same _ _ _)⟩
            simp [execOp, convert, undRun hsd, undRun hd, undRun hel, hy, h2]
        · cases h1
      rename_i l code
      split at h1
      · rename_i hel
        refine ⟨_, _, tab, h1, hs, fun e w ρ hr hij ho => ?_⟩
        have hx := ho x (by simp [Op.operands]) _ hc
        generalize hy : ρ x = y at hx
        cases hx with
        | str st hl hcd =>
          subst hl; subst hcd
          have hd0 : decBytes st.size (encBytes st.data.toList) = st.data.toList := by rw [← strLen, dec_enc]
          obtain ⟨sl, dr, obj, h2, h3⟩ := run_stringToBytes (P := P) (σ := σ) (e := e) el st w ((decBytes st.size (encBytes st.data.toList)).map fun b => .int .u8 b.toNat) (by rw [hd0]; simp)
            (fun i hlt => ⟨.int .u8 (st.data.toList[i].toNat : Nat), by rw [hd0, List.getElem?_map, List.getElem?_eq_getElem hlt]; rfl, .int _ _⟩)
          refine ⟨_, obj, sl, dr, ?_, h3, .sl (o := 0) (cap := st.size) (p := ⟨w.heap.size, 0, sl, true⟩) (Env.up_same _ _ _)⟩
          simp [execOp, convert, undRun hsd, undRun hd, undRun hel, hy, h2]
      · rename_i hel
        split at h1
        · rename_i hq
          simp only [Bool.and_eq_true] at hq
          refine ⟨_, _, tab, h1, hs, fun e w ρ hr hij ho => ?_⟩
          have hx := ho x (by simp [Op.operands]) _ hc
          generalize hy : ρ x = y at hx
          cases hx with
          | str st hl hcd =>
            subst hl; subst hcd
            have hd0 : decBytes st.size (encBytes st.data.toList) = st.data.toList := by rw [← strLen, dec_enc]
            rw [hd0] at hq ⊢
            obtain ⟨sl, dr, obj, h2, h3⟩ := run_stringToRunes (P := P) (σ := σ) (e := e) s d el st w hsd hd hel hq.2
            refine ⟨_, obj, sl, dr, ?_, h3, .sl (o := 0) (cap := st.size) (p := ⟨w.heap.size, 0, sl, true⟩) (Env.up_same _ _ _)⟩
            simp only [execOp, hy]
            simp [h2]
        · cases h1
      · cases h1
    · rename_i kd hd
      cases c <;> simp only [] at h1 <;> first | (cases h1; done) | skip
      · have h2 := wrapK_inv h1
        refine ⟨_, none, tab, h2, hs, fun e w ρ hr hij ho => ?_⟩
        have hx := ho x (by simp [Op.operands]) _ hc
        generalize hy : ρ x = y at hx
        cases hx
        exact ⟨_, by simp [execOp, convert, undRun hsd, undRun hd, hy, Conv.intToInt], .int _ _⟩
      · rename_i kd' sy
        split at h1
        · rename_i lo hi ht
          split at h1
          · rename_i hb
            simp only [leI_eq, Bool.and_eq_true, decide_eq_true_eq] at hb
            have hb2 := hs.iv sy lo hi ht
            refine ⟨_, none, tab, h1, hs, fun e w ρ hr hij ho => ?_⟩
            have hx := ho x (by simp [Op.operands]) _ hc
            generalize hy : ρ x = y at hx
            cases hx
            refine ⟨.int kd (σ.i sy), ?_, .sym _ _⟩
            have hw : kd.wrap (σ.i sy) = σ.i sy := wrap_in (by omega) (by omega)
            simp [execOp, convert, undRun hsd, undRun hd, hy, Conv.intToInt, hw]
          · cases h1
        · cases h1
      · rename_i kd' lc ts
        obtain ⟨q1, q2, cv, q3, q4⟩ := linRes_inv h1 hs
        refine ⟨cv, none, tab, q3, hs, fun e w ρ hr hij ho => ?_⟩
        have hx := ho x (by simp [Op.operands]) _ hc
        generalize hy : ρ x = y at hx
        cases hx
        refine ⟨.int kd (lfVal σ.i lc ts), ?_, q4 e⟩
        simp [execOp, convert, undRun hsd, undRun hd, hy, Conv.intToInt, wrap_in q1 q2]
    · rename_i hd
      cases c <;> simp only [] at h1 <;> first | (cases h1; done) | skip
      · rename_i kd a
        rw [forceN_eq, forceN_eq] at h1
        refine ⟨_, none, tab, h1, hs, fun e w ρ hr hij ho => ?_⟩
        have hx := ho x (by simp [Op.operands]) _ hc
        generalize hy : ρ x = y at hx
        cases hx
        exact ⟨_, by simp [execOp, convert, undRun hsd, undRun hd, hy, Conv.intToString], .str _ rfl rfl⟩
      · refine ⟨_, none, tab, h1, hs, fun e w ρ hr hij ho => ?_⟩
        have hx := ho x (by simp [Op.operands]) _ hc
        generalize hy : ρ x = y at hx
        have hx' := hx
        cases hx
        exact ⟨_, by simp [execOp, convert, undRun hsd, undRun hd, hy], hx'⟩
      · refine ⟨_, none, tab, h1, hs, fun e w ρ hr hij ho => ?_⟩
        have hx := ho x (by simp [Op.operands]) _ hc
        generalize hy : ρ x = y at hx
        have hx' := hx
        cases hx
        exact ⟨_, by simp [execOp, convert, undRun hsd, undRun hd, hy], hx'⟩
      · refine ⟨_, none, tab, h1, hs, fun e w ρ hr hij ho => ?_⟩
        have hx := ho x (by simp [Op.operands]) _ hc
        generalize hy : ρ x = y at hx
        have hx' := hx
        cases hx
        exact ⟨_, by simp [execOp, convert, undRun hsd, undRun hd, hy], hx'⟩
    · rename_i hd
      split at h1
      · cases c <;> simp only [] at h1 <;> first | (cases h1; done) | skip
        rename_i b o
        obtain ⟨te, lo, es, sz, cs, hcb, h2⟩ := withCells_inv h1
        obtain ⟨i, hi, h3⟩ := szK_inv h2
        split at h3
        · rename_i hb
          simp only [Bool.and_eq_true, Nat.blt_eq, Bool.not_eq_true'] at hb
          refine ⟨_, none, tab, h3, hs, fun e w ρ hr hij ho => ?_⟩
          have hx := ho x (by simp [Op.operands]) _ hc
          generalize hy : ρ x = y at hx
          have hx' := hx
          cases hx with
          | @ptr _ _ p hb' =>
            obtain ⟨_, cc, el, fz, hw, hsz, _⟩ := hr.cells hb' hcb
            have hsh : w.shape? p.r = some (el, cc.size) := by simp [World.shape?, hw]
            have hi0 : i.size ≠ 0 := fun h => by rw [h] at hb; exact absurd hb.2 (by simp)
            have hrun := Lib.run_to_unsafe (P := P) w (src := s) (dst := d) ⟨p.r, o + p.d, none⟩ hsd hd hi hi0 hsh (by show o + p.d < cc.size; omega)
            exact ⟨_, by simp [execOp, hy, hrun], hx'⟩
        · cases h3
      · cases h1
    · rename_i u hd
      split at h1
      · cases c <;> simp only [] at h1 <;> first | (cases h1; done) | skip
        rename_i b o
        obtain ⟨te, lo, es, sz, cs, hcb, h2⟩ := withCells_inv h1
        cases te with
        | zero => cases h2
        | succ T =>
          cases lo with
          | true => cases h2
          | false =>
            obtain ⟨i, hi, h3⟩ := szK_inv h2
            split at h3
            · rename_i hlies
              refine ⟨_, none, tab, h3, hs, fun e w ρ hr hij ho => ?_⟩
              have hx := ho x (by simp [Op.operands]) _ hc
              generalize hy : ρ x = y at hx
              have hx' := hx
              cases hx with
              | @ptr _ _ p hb' =>
                obtain ⟨_, cc, el, fz, hw, hsz, hex, _, _, _, hte⟩ := hr.cells hb' hcb
                obtain ⟨h0, h1'⟩ := hex rfl
                have hel : el = T := hte T rfl
                subst hel
                have hcs : cc.size = sz := by rw [hsz, h0, h1']; simp
                have hsh : w.shape? p.r = some (el, sz) := by simp [World.shape?, hw, hcs]
                have hrun := Lib.run_from_unsafe (P := P) w (src := s) (dst := d) ⟨p.r, o + p.d, none⟩ hsd hd hi hsh (by show liesAt P P.depth el (sz / P.cellsOf el) (o + p.d) u 1 = true; rw [h0]; exact hlies)
                exact ⟨_, by simp [execOp, hy, hrun], hx'⟩
            · cases h3
      · cases h1
    · cases h1

theorem lenC_inv {ty : TypeId} {v : CV} {k : CV → Tab → Bool} (hh : lenC P ty v h tab k = true) :
    ∃ c, k c tab = true ∧ ∀ {e : Env} {w : World} {u : Value} (rt : TypeId) (ats : Array TypeId), ats[0]? = some ty → HR σ e h w → VR σ e v u → ∃ r, (Builtin.len_ ats rt #[u]).run P w = .ok r w ∧ VR σ e c r := by
  have arr : ∀ {m el}, P.underlying ty = some (.array m el) → k (.int .i64 (.ofNat m)) tab = true → ∃ c, k c tab = true ∧ ∀ {e : Env} {w : World} {u : Value} (rt : TypeId) (ats : Array TypeId), ats[0]? = some ty → HR σ e h w → VR σ e v u → ∃ r, (Builtin.len_ ats rt #[u]).run P w = .ok r w ∧ VR σ e c r :=
    fun {m el} hu hk => ⟨_, hk, fun {e w u} rt ats ht _ _ => ⟨.int .i64 m, by simp [Builtin.len_, ht, undRun hu, goInt], .int _ _⟩⟩
  have parr : ∀ {a m el}, P.underlying ty = some (.pointer a) → P.underlying a = some (.array m el) → k (.int .i64 (.ofNat m)) tab = true → ∃ c, k c tab = true ∧ ∀ {e : Env} {w : World} {u : Value} (rt : TypeId) (ats : Array TypeId), ats[0]? = some ty → HR σ e h w → VR σ e v u → ∃ r, (Builtin.len_ ats rt #[u]).run P w = .ok r w ∧ VR σ e c r :=
    fun {a m el} hu hu2 hk => ⟨_, hk, fun {e w u} rt ats ht _ _ => ⟨.int .i64 m, by simp [Builtin.len_, ht, undRun hu, undRun hu2, goInt], .int _ _⟩⟩
  have dflt : (match P.underlying ty with
    | some (.array m _) => k (.int .i64 (.ofNat m)) tab
    | some (.pointer a) => match P.underlying a with | some (.array m _) => k (.int .i64 (.ofNat m)) tab | _ => false
    | _ => false) = true → ∃ c, k c tab = true ∧ ∀ {e : Env} {w : World} {u : Value} (rt : TypeId) (ats : Array TypeId), ats[0]? = some ty → HR σ e h w → VR σ e v u → ∃ r, (Builtin.len_ ats rt #[u]).run P w = .ok r w ∧ VR σ e c r := by
    intro h1
    split at h1
    · exact arr (by assumption) h1
    · split at h1
      · exact parr (by assumption) (by assumption) h1
      · cases h1
    · cases h1
  cases v <;> simp only [lenC] at hh <;> first | exact dflt hh | skip
  · split at hh
    · rename_i hu
      refine ⟨_, hh, fun {e w u} rt ats ht _ hv => ?_⟩
      cases hv with
      | str s hl hc => exact ⟨.int .i64 s.size, by simp [Builtin.len_, ht, undRun hu, goInt], by rw [hl]; exact .int _ _⟩
    · cases hh
  · split at hh
    · rename_i hu
      refine ⟨_, hh, fun {e w u} rt ats ht _ hv => ?_⟩
      cases hv
      exact ⟨.int .i64 0, by simp [Builtin.len_, ht, undRun hu, goInt], .int _ _⟩
    · cases hh
  · split at hh
    · rename_i hu
      refine ⟨_, hh, fun {e w u} rt ats ht _ hv => ?_⟩
      cases hv
      exact ⟨_, by simp [Builtin.len_, ht, undRun hu, goInt], .int _ _⟩
    · cases hh
  · split at hh
    · rename_i hu
      refine ⟨_, hh, fun {e w u} rt ats ht _ hv => ?_⟩
      cases hv
      exact ⟨.int .i64 0, by simp [Builtin.len_, ht, undRun hu, goInt], .int _ _⟩
    · cases hh
  · split at hh
    · rename_i hu
      refine ⟨_, hh, fun {e w u} rt ats ht _ hv => ?_⟩
      cases hv
      exact ⟨.int .i64 0, by simp [Builtin.len_, ht, undRun hu, goInt], .int _ _⟩
    · cases hh
  · rename_i b
    split at hh
    · rename_i hu
      obtain ⟨cb, hcb, h1⟩ := getK_inv hh
      cases cb <;> simp only [] at h1 <;> first | (cases h1; done) | skip
      rename_i es clock
      rw [forceN_eq] at h1
      refine ⟨_, h1, fun {e w u} rt ats ht hr hv => ?_⟩
      cases hv with
      | map hb =>
        have := hr _ _ _ hb hcb
        split at this
        · obtain ⟨o, g2, g3⟩ := this
          cases g3 with
          | map hl hv' =>
            rename_i entries
            refine ⟨.int .i64 entries.size, by simp [Builtin.len_, ht, undRun hu, goInt, getObj, Sem.run, g2], ?_⟩
            rw [hl]; simp only [Array.length_toList]; exact .int _ _
        · cases this
    · cases hh
  · rename_i s l
    split at hh
    · rename_i hu
      refine ⟨_, hh, fun {e w u} rt ats ht _ hv => ?_⟩
      cases hv with
      | ssym _ _ hl => exact ⟨.int .i64 ((σ.s s).size), by simp [Builtin.len_, ht, undRun hu, goInt], by rw [hl]; exact .sym _ _⟩
    · cases hh
  · rename_i bs
    split at hh
    · rename_i hu
      rw [forceN_eq] at hh
      refine ⟨_, hh, fun {e w u} rt ats ht _ hv => ?_⟩
      cases hv with
      | lstr _ s hl => exact ⟨.int .i64 s.size, by simp [Builtin.len_, ht, undRun hu, goInt], by rw [← byteVal_size (σ := σ) hl]; exact .int _ _⟩
    · cases hh

end
end Go.Ev
