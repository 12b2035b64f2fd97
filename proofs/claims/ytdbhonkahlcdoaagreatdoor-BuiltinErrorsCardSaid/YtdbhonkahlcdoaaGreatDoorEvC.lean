/- A verified evaluator for the model's code (part EvC): own work, of no program. -/
import Derived.Test.YtdbhonkahlcdoaaGreatDoorEvB
import Derived.Deep.AppendSrc
import Derived.Lib.UnsafeStr
namespace Go.Ev

section
variable {P : Program} {σ : Sg} {G : Nat → Bool} {t : Tm} {h : Hp} {tab : Tab} {nb : Nat} {k : KF}
variable {dst : Option Tmp} {type : TypeId} {pos : String} {after : Array Edge} {guard : Option (Nat × Bool)}

/-- entries -/
def ER (σ : Sg) (e : Env) (es : List (CV × CV × Nat)) (L : List MapEntry) : Prop :=
  es.length = L.length ∧ ∀ (i : Nat) x y, es[i]? = some x → L[i]? = some y → VR σ e x.1 y.key ∧ VR σ e x.2.1 y.val ∧ x.2.2 = y.born
theorem ER.cons_inv {e : Env} {x : CV × CV × Nat} {es : List (CV × CV × Nat)} {L : List MapEntry} (h : ER σ e (x :: es) L) :
    ∃ y L', L = y :: L' ∧ VR σ e x.1 y.key ∧ VR σ e x.2.1 y.val ∧ x.2.2 = y.born ∧ ER σ e es L' := by
  cases L with
  | nil => simp [ER] at h
  | cons y L =>
    obtain ⟨a, b, c⟩ := h.2 0 x y (by simp) (by simp)
    exact ⟨y, L, rfl, a, b, c, by simpa using h.1, fun i x' y' hx hy => h.2 (i + 1) x' y' (by simpa using hx) (by simpa using hy)⟩
theorem ER.nil_inv {e : Env} {L : List MapEntry} (h : ER σ e [] L) : L = [] := by
  cases L with
  | nil => rfl
  | cons y L => simp [ER] at h
theorem ER.cons {e : Env} {x : CV × CV × Nat} {y : MapEntry} {es : List (CV × CV × Nat)} {L : List MapEntry} (h1 : VR σ e x.1 y.key) (h2 : VR σ e x.2.1 y.val) (h3 : x.2.2 = y.born) (h : ER σ e es L) :
    ER σ e (x :: es) (y :: L) := by
  refine ⟨by simp [h.1], fun i x' y' hx hy => ?_⟩
  cases i with
  | zero => simp at hx hy; subst hx; subst hy; exact ⟨h1, h2, h3⟩
  | succ i => simp at hx hy; exact h.2 i x' y' hx hy

/-- one key against another -/
def KeyRun (P : Program) (kt : TypeId) (d : TypeDesc) (w : World) (u v : Value) (b : Bool) : Prop :=
  match d with
  | .pointer _ => Instr.sameNow d u v = none ∧ (Op.equal kt u v).run P w = .ok b w
  | _ => Instr.sameNow d u v = some b

theorem keyEq_inv {kt : TypeId} {x y : CV} {k : Bool → Bool} (hh : keyEq P kt x y h tab k = true) (hs : Sat σ tab) (hok : keyOk P kt x = true) {d : TypeDesc} (hd : P.underlying kt = some d) :
    ∃ b, k b = true ∧ ∀ {e : Env} {w : World} {u v : Value}, HR σ e h w → InjE e → VR σ e x u → VR σ e y v → KeyRun P kt d w u v b ∧ (b = true → Instr.sameBits 10000 v u = true) := by
  simp only [keyOk, hd] at hok
  cases x with
  | int kd a =>
    cases y <;> simp only [keyEq] at hh <;> first | (cases hh; done) | skip
    rename_i kd' b
    split at hh
    · rename_i hk
      have hk' : kd = kd' := by simpa using hk
      subst hk'
      refine ⟨_, hh, fun {e w u v} _ _ hu hv => ?_⟩
      cases hu; cases hv
      cases d <;> simp at hok
      refine ⟨?_, fun hb => ?_⟩
      · simp [KeyRun, Instr.sameNow, eqI_eq]
        rw [Bool.eq_iff_iff]; simp
      · have : a = b := by simpa [eqI_eq] using hb
        subst this; simp [Instr.sameBits]
    · cases hh
  | str l1 c1 =>
    cases y <;> simp only [keyEq] at hh <;> first | (cases hh; done) | skip
    rename_i l2 c2
    refine ⟨_, hh, fun {e w u v} _ _ hu hv => ?_⟩
    cases hu with
    | str s1 a1 a2 =>
      cases hv with
      | str s2 b1 b2 =>
        subst a1; subst a2; subst b1; subst b2
        cases d <;> simp at hok
        have hbb : (Nat.beq s1.size s2.size && Nat.beq (encBytes s1.data.toList) (encBytes s2.data.toList)) = (s1 == s2) := by
          rw [← strLen s1, ← strLen s2, beq_bytes, beq_toListBytes, ByteArray.toList_eq, ByteArray.toList_eq]
        refine ⟨?_, fun hb => ?_⟩
        · simp only [KeyRun, Instr.sameNow, hbb]
        · rw [hbb, beq_toListBytes, beq_iff_eq] at hb
          simp [Instr.sameBits, beq_toListBytes, hb]
  | ptr b o =>
    have hp : ∃ el, d = .pointer el := by cases d <;> simp at hok; exact ⟨_, rfl⟩
    obtain ⟨el, rfl⟩ := hp
    have fin : ∀ (b0 : Bool) (y : CV), eqC P kt (isC (.tmp 0)) (isC (.tmp 0)) (.ptr b o) y h tab (fun bb _ => bb == b0) = true → ∀ {e : Env} {w : World} {u v : Value}, HR σ e h w → InjE e → VR σ e (.ptr b o) u → VR σ e y v →
        KeyRun P kt (.pointer el) w u v b0 := by
      intro b0 y he e w u v hr hi hu hv
      obtain ⟨bb, tab', h1, h2, h3⟩ := eqC_inv (op := .eql) he hs
      have hb : bb = b0 := by simpa using h1
      subst hb
      obtain ⟨_, _, a3⟩ := h3 hr hi hu hv
      refine ⟨?_, a3⟩
      cases hu; rfl
    cases y <;> simp only [keyEq, eqC, hd] at hh <;> first | (cases hh; done) | skip
    · exact ⟨false, hh, fun {e w u v} hr hi hu hv => ⟨fin false .ptr0 (by simp [eqC, hd]) hr hi hu hv, fun h => by cases h⟩⟩
    · rename_i b' o'
      obtain ⟨i, hi, h1⟩ := szK_inv hh
      split at h1
      · cases h1
      · rename_i hz
        split at h1
        · rename_i hb
          refine ⟨_, h1, fun {e w u v} hr hij hu hv => ⟨fin _ (.ptr b' o') (by simp [eqC, hd, szK, hi, hz, hb]) hr hij hu hv, fun ht => ?_⟩⟩
          have e1 : b = b' := by simpa using hb
          have e2 : o = o' := by simpa using ht
          subst e1; subst e2
          cases hu with
          | ptr p1 =>
            cases hv with
            | ptr p2 =>
              rw [p1] at p2; cases p2
              simp [Instr.sameBits]
        · rename_i hb
          have h1' := h1
          obtain ⟨h1, te, lo, es, sz, cs, hc, hlo⟩ := liveB_inv h1
          have h1'' := h1
          obtain ⟨h1, te', lo', es', sz', cs', hc', hlo'⟩ := liveB_inv h1
          refine ⟨false, h1, fun {e w u v} hr hij hu hv => ⟨fin false (.ptr b' o') ?_ hr hij hu hv, fun h => by cases h⟩⟩
          have l1 : ∀ k, liveB h b k = k := by
            intro k
            simp only [liveB, getK_eq, hc]
            cases lo
            · rfl
            · rcases hlo with h | h
              · cases h
              · have : Nat.beq es 1 = false := by
                  cases hbe : Nat.beq es 1 with
                  | false => rfl
                  | true => exact absurd (by simpa using hbe) h
                simp [this]
          have l2 : ∀ k, liveB h b' k = k := by
            intro k
            simp only [liveB, getK_eq, hc']
            cases lo'
            · rfl
            · rcases hlo' with h | h
              · cases h
              · have : Nat.beq es' 1 = false := by
                  cases hbe : Nat.beq es' 1 with
                  | false => rfl
                  | true => exact absurd (by simpa using hbe) h
                simp [this]
          simp [eqC, hd, szK, hi, hz, hb, l1, l2]
  | _ => cases hh

/-- what the search for a key answers -/
def FindOK (P : Program) (kt : TypeId) (d : TypeDesc) (u : Value) (L : List MapEntry) (i : Nat) (w : World) (r' : Option (Nat × Value)) : Prop := match d with
  | .pointer _ => (Instr.findAsking kt u L i).run P w = .ok r' w ∧ (L ≠ [] → Instr.findNow d u L i = none)
  | _ => Instr.findNow d u L i = some r'

theorem findM_inv {kt : TypeId} {key : CV} (hs : Sat σ tab) (hok : keyOk P kt key = true) {d : TypeDesc} (hd : P.underlying kt = some d) : ∀ {es : List (CV × CV × Nat)} {k : Option CV → Bool},
    findM P kt h tab key es k = true → ∃ r, k r = true ∧ ∀ {e : Env} {w : World} {u : Value} {L : List MapEntry}, HR σ e h w → InjE e → VR σ e key u → ER σ e es L →
      ∀ i, ∃ r', FindOK P kt d u L i w r' ∧ (match r with | none => r' = none | some c => ∃ j v, r' = some (j, v) ∧ VR σ e c v)
  | [], k, hh => by
    refine ⟨none, hh, fun {e w u L} _ _ _ hL i => ⟨none, ?_, rfl⟩⟩
    rw [hL.nil_inv]
    simp only [FindOK]
    split
    · exact ⟨by simp [Instr.findAsking], fun h => absurd rfl h⟩
    · rfl
  | x :: es, k, hh => by
    have hh' : keyEq P kt key x.1 h tab (fun b => match b with | true => k (some x.2.1) | false => findM P kt h tab key es k) = true := hh
    obtain ⟨b, h1, h2⟩ := keyEq_inv hh' hs hok hd
    cases b with
    | true =>
      refine ⟨some x.2.1, h1, fun {e w u L} hr hi hu hL i => ?_⟩
      obtain ⟨y, L', rfl, a1, a2, a3, a4⟩ := hL.cons_inv
      have := (h2 hr hi hu a1).1
      refine ⟨some (i, y.val), ?_, i, y.val, rfl, a2⟩
      simp only [KeyRun] at this
      simp only [FindOK]
      split
      · rename_i el
        exact ⟨by simp [Instr.findAsking, this.2], fun _ => by simp [Instr.findNow, this.1]⟩
      · rename_i hne
        split at this
        · exact absurd rfl (hne _)
        · simp [Instr.findNow, this]
    | false =>
      obtain ⟨r, k1, k2⟩ := findM_inv hs hok hd h1
      refine ⟨r, k1, fun {e w u L} hr hi hu hL i => ?_⟩
      obtain ⟨y, L', rfl, a1, a2, a3, a4⟩ := hL.cons_inv
      have hkr := (h2 hr hi hu a1).1
      obtain ⟨r', g1, g2⟩ := k2 hr hi hu a4 (i + 1)
      refine ⟨r', ?_, g2⟩
      simp only [KeyRun] at hkr
      simp only [FindOK] at g1 ⊢
      split
      · rename_i el
        exact ⟨by simp [Instr.findAsking, hkr.2, g1.1], fun _ => by simp [Instr.findNow, hkr.1]⟩
      · rename_i hne
        split at hkr
        · exact absurd rfl (hne _)
        · split at g1
          · exact absurd rfl (hne _)
          · simp [Instr.findNow, hkr, g1]

theorem checkKey_run {kt : TypeId} {x : CV} (hok : keyOk P kt x = true) (emp : Bool) (u : Value) (w : World) : ∀ n, (Instr.checkKey emp (n + 1) kt u).run P w = .ok () w := by
  intro n
  simp only [keyOk] at hok
  cases hd : P.underlying kt with
  | none => rw [hd] at hok; cases hok
  | some d =>
    rw [hd] at hok
    simp only [Instr.checkKey, Sem.run_bind, undRun hd, Result.andThen_ok]
    cases d <;> simp at hok <;> rfl

theorem findKey_run {kt : TypeId} {d : TypeDesc} (hd : P.underlying kt = some d) {u : Value} {L : List MapEntry} {w : World} {r' : Option (Nat × Value)}
    (hr : FindOK P kt d u L 0 w r') : (Instr.findKey kt u L).run P w = .ok r' w := by
  simp only [Instr.findKey, Sem.run_bind, undRun hd, Result.andThen_ok]
  simp only [FindOK] at hr
  split at hr
  · cases L with
    | nil =>
      simp [Instr.findAsking] at hr
      subst hr
      rfl
    | cons y L => rw [hr.2 (by simp)]; exact hr.1
  · rw [hr]; rfl

theorem lookup_run {ty kt el : TypeId} (hu : P.underlying ty = some (.map kt el)) {w : World} {es : Array MapEntry} {u ui zv : Value} {ok : Bool} {r' : Option (Nat × Value)}
    (hx : (u = .map none ∧ es = #[]) ∨ ∃ r clock, u = .map (some r) ∧ w.heap[r]? = some (.map es clock)) (hck : ∀ emp, (Instr.checkKey emp 10000 kt ui).run P w = .ok () w)
    (hfk : (Instr.findKey kt ui es.toList).run P w = .ok r' w) (hz : (zeroValue el).run P w = .ok zv w) :
    (Instr.lookup ty u ui ok).run P w = .ok (match r' with
      | some (_, v) => if ok then .tuple #[v, .bool true] else v
      | none => if ok then .tuple #[zv, .bool false] else zv) w := by
  rcases hx with ⟨rfl, rfl⟩ | ⟨r, clock, rfl, hw⟩
  · cases r' with
    | none => simp [Instr.lookup, undRun hu, hck, hfk, hz]
    | some x => simp [Instr.lookup, undRun hu, hck, hfk]
  · cases r' with
    | none => simp [Instr.lookup, undRun hu, hck, hfk, hz, getObj, Sem.run, hw]
    | some x => simp [Instr.lookup, undRun hu, hck, hfk, getObj, Sem.run, hw]

theorem fl_lookup {ty : TypeId} {x i : Operand} {ok : Bool} (hh : floatC P G (.lookup ty x i ok) t h tab nb k = true) (hs : Sat σ tab) :
    FlOK P σ G ⟨dst, .lookup ty x i ok, type, pos, after, guard⟩ t h nb k := by
  simp only [floatC] at hh
  split at hh
  · rename_i kt el hu
    obtain ⟨cx, hcx, h1⟩ := getO_inv hh
    obtain ⟨ci, hci, h2⟩ := getO_inv h1
    clear h1 hh
    split at h2
    · cases h2
    · rename_i hok
      have hd0 : ∃ d, P.underlying kt = some d := by
        cases hd : P.underlying kt with
        | none => simp [keyOk, hd] at hok
        | some d => exact ⟨d, rfl⟩
      obtain ⟨d, hd⟩ := hd0
      split at h2
      · rename_i z hz
        obtain ⟨iz, zv, hiz, hzv, hzr⟩ := zeroVal_inv hz
        have fin : ∀ (r : Option CV), lkB ok z tab k r = true →
            (∀ (e : Env) (w : World) (u ui : Value), HR σ e h w → InjE e → VR σ e cx u → VR σ e ci ui → ∃ es : Array MapEntry, ((u = .map none ∧ es = #[]) ∨ ∃ r clock, u = .map (some r) ∧ w.heap[r]? = some (.map es clock)) ∧
              ∃ r', (Instr.findKey kt ui es.toList).run P w = .ok r' w ∧ (match r with | none => r' = none | some c => ∃ j v, r' = some (j, v) ∧ VR σ e c v)) →
            FlOK P σ G ⟨dst, .lookup ty x i ok, type, pos, after, guard⟩ t h nb k := by
          intro r hk hf
          have two : ∀ {e : Env} {c : CV} {v : Value} (b : Bool), VR σ e c v → VR σ e (.tup [c, .bool b]) (.tuple #[v, .bool b]) := fun b hv =>
            .tup rfl (LR.cons hv (LR.cons (.bool b) .nil)).2
          cases r with
          | some c =>
            cases ok with
            | true =>
              refine ⟨_, none, tab, hk, hs, fun e w ρ hr hij ho => ?_⟩
              obtain ⟨es, g0, r', g2, j, v, rfl, hv⟩ := hf e w _ _ hr hij (ho x (by simp [Op.operands]) _ hcx) (ho i (by simp [Op.operands]) _ hci)
              have := lookup_run (P := P) hu (ok := true) g0 (fun emp => checkKey_run hok emp _ w 9999) g2 (zeroRun hiz hzv w)
              exact ⟨_, by simp only [execOp, Sem.run_bind, this, Result.andThen_ok, Sem.run_pure]; rfl, two true hv⟩
            | false =>
              refine ⟨_, none, tab, hk, hs, fun e w ρ hr hij ho => ?_⟩
              obtain ⟨es, g0, r', g2, j, v, rfl, hv⟩ := hf e w _ _ hr hij (ho x (by simp [Op.operands]) _ hcx) (ho i (by simp [Op.operands]) _ hci)
              have := lookup_run (P := P) hu (ok := false) g0 (fun emp => checkKey_run hok emp _ w 9999) g2 (zeroRun hiz hzv w)
              exact ⟨_, by simp only [execOp, Sem.run_bind, this, Result.andThen_ok, Sem.run_pure]; rfl, hv⟩
          | none =>
            cases ok with
            | true =>
              refine ⟨_, none, tab, hk, hs, fun e w ρ hr hij ho => ?_⟩
              obtain ⟨es, g0, r', g2, rfl⟩ := hf e w _ _ hr hij (ho x (by simp [Op.operands]) _ hcx) (ho i (by simp [Op.operands]) _ hci)
              have := lookup_run (P := P) hu (ok := true) g0 (fun emp => checkKey_run hok emp _ w 9999) g2 (zeroRun hiz hzv w)
              exact ⟨_, by simp only [execOp, Sem.run_bind, this, Result.andThen_ok, Sem.run_pure]; rfl, two false (hzr σ e)⟩
            | false =>
              refine ⟨_, none, tab, hk, hs, fun e w ρ hr hij ho => ?_⟩
              obtain ⟨es, g0, r', g2, rfl⟩ := hf e w _ _ hr hij (ho x (by simp [Op.operands]) _ hcx) (ho i (by simp [Op.operands]) _ hci)
              have := lookup_run (P := P) hu (ok := false) g0 (fun emp => checkKey_run hok emp _ w 9999) g2 (zeroRun hiz hzv w)
              exact ⟨_, by simp only [execOp, Sem.run_bind, this, Result.andThen_ok, Sem.run_pure]; rfl, hzr σ e⟩
        cases cx <;> simp only [] at h2 <;> first | (cases h2; done) | skip
        · refine fin none h2 fun e w u ui hr hij hu' hui => ?_
          cases hu'
          exact ⟨#[], .inl ⟨rfl, rfl⟩, none, by simp [Instr.findKey, undRun hd, Instr.findNow], rfl⟩
        · rename_i b
          obtain ⟨cb, hcb, h3⟩ := getK_inv h2
          cases cb <;> simp only [] at h3 <;> first | (cases h3; done) | skip
          rename_i es clock
          obtain ⟨r, hk, hr⟩ := findM_inv hs hok hd h3
          refine fin r hk fun e w u ui hrr hij hu' hui => ?_
          cases hu' with
          | map hb =>
            have := hrr _ _ _ hb hcb
            split at this
            · obtain ⟨o, g2, g3⟩ := this
              cases g3 with
              | map hl hv =>
                rename_i entries
                obtain ⟨r', q1, q2⟩ := hr hrr hij hui ⟨hl, hv⟩ 0
                exact ⟨entries, .inr ⟨_, _, rfl, g2⟩, r', findKey_run hd q1, q2⟩
            · cases this
      · cases h2
  · cases hh

theorem fl_call {c : Call} (hh : floatC P G (.call c) t h tab nb k = true) (hs : Sat σ tab) : FlOK P σ G ⟨dst, .call c, type, pos, after, guard⟩ t h nb k := by
  obtain ⟨callee, ⟨args⟩, ats⟩ := c
  simp only [floatC] at hh
  split at hh
  · split at hh
    · rename_i x
      split at hh
      · rename_i ty hty
        obtain ⟨cx, hcx, h1⟩ := getO_inv hh
        obtain ⟨r, hk, hr⟩ := lenC_inv (σ := σ) h1
        refine ⟨r, none, tab, hk, hs, fun e w ρ hrr hij ho => ?_⟩
        obtain ⟨v, g1, g2⟩ := hr type ats hty hrr (ho x (by simp [Op.operands, Call.operands]) _ hcx)
        refine ⟨v, ?_, g2⟩
        simp [execOp, resolve, invoke, builtin, g1]
      · cases hh
    · cases hh
  · split at hh
    · rename_i x y
      obtain ⟨cx, hcx, h1⟩ := getO_inv hh
      obtain ⟨cy, hcy, h2⟩ := getO_inv h1
      have lin : linMM false cx cy tab (fun r tab => k r none tab) = true → FlOK P σ G ⟨dst, .call ⟨.builtin .min, ⟨[x, y]⟩, ats⟩, type, pos, after, guard⟩ t h nb k := by
        intro hl
        obtain ⟨kd, cv, tab', hk, hs', hcv⟩ := linMM_inv (σ := σ) (k := fun r tab => k r none tab) hl hs
        refine ⟨cv, none, tab', hk, hs', fun e w ρ hrr hij ho => ?_⟩
        have v1 := ho x (by simp [Op.operands, Call.operands]) _ hcx
        have v2 := ho y (by simp [Op.operands, Call.operands]) _ hcy
        obtain ⟨a, b, ha, hb, hv⟩ := hcv v1 v2
        exact ⟨_, by simp [execOp, resolve, invoke, builtin, Builtin.min_, Builtin.min2, ha, hb], hv⟩
      cases cx <;> simp only [] at h2 <;> first | (exact lin h2) | skip
      cases cy <;> simp only [] at h2 <;> first | (exact lin h2) | skip
      rename_i kd a kd' b
      have fin : ∀ n, k (.int kd n) none tab = true → n = (if b < a then b else a) → FlOK P σ G ⟨dst, .call ⟨.builtin .min, ⟨[x, y]⟩, ats⟩, type, pos, after, guard⟩ t h nb k := by
        intro n hk hnn
        refine ⟨_, none, tab, hk, hs, fun e w ρ hrr hij ho => ?_⟩
        have v1 := ho x (by simp [Op.operands, Call.operands]) _ hcx
        have v2 := ho y (by simp [Op.operands, Call.operands]) _ hcy
        generalize h3 : ρ x = ux at v1
        generalize h4 : ρ y = uy at v2
        cases v1; cases v2
        refine ⟨.int kd n, ?_, .int _ _⟩
        simp [execOp, resolve, invoke, builtin, Builtin.min_, Builtin.min2, h3, h4, hnn]
      rw [ltI_eq] at h2
      split at h2
      · rename_i hlt; exact fin _ h2 (by simp at hlt; simp [hlt])
      · rename_i hlt; exact fin _ h2 (by simp at hlt; rw [if_neg (by omega)])
    · cases hh
  · split at hh
    · rename_i x y
      obtain ⟨cx, hcx, h1⟩ := getO_inv hh
      obtain ⟨cy, hcy, h2⟩ := getO_inv h1
      have lin : linMM true cx cy tab (fun r tab => k r none tab) = true → FlOK P σ G ⟨dst, .call ⟨.builtin .max, ⟨[x, y]⟩, ats⟩, type, pos, after, guard⟩ t h nb k := by
        intro hl
        obtain ⟨kd, cv, tab', hk, hs', hcv⟩ := linMM_inv (σ := σ) (k := fun r tab => k r none tab) hl hs
        refine ⟨cv, none, tab', hk, hs', fun e w ρ hrr hij ho => ?_⟩
        have v1 := ho x (by simp [Op.operands, Call.operands]) _ hcx
        have v2 := ho y (by simp [Op.operands, Call.operands]) _ hcy
        obtain ⟨a, b, ha, hb, hv⟩ := hcv v1 v2
        exact ⟨_, by simp [execOp, resolve, invoke, builtin, Builtin.max_, Builtin.max2, ha, hb], hv⟩
      cases cx <;> simp only [] at h2 <;> first | (exact lin h2) | skip
      cases cy <;> simp only [] at h2 <;> first | (exact lin h2) | skip
      rename_i kd a kd' b
      have fin : ∀ n, k (.int kd n) none tab = true → n = (if a < b then b else a) → FlOK P σ G ⟨dst, .call ⟨.builtin .max, ⟨[x, y]⟩, ats⟩, type, pos, after, guard⟩ t h nb k := by
        intro n hk hnn
        refine ⟨_, none, tab, hk, hs, fun e w ρ hrr hij ho => ?_⟩
        have v1 := ho x (by simp [Op.operands, Call.operands]) _ hcx
        have v2 := ho y (by simp [Op.operands, Call.operands]) _ hcy
        generalize h3 : ρ x = ux at v1
        generalize h4 : ρ y = uy at v2
        cases v1; cases v2
        refine ⟨.int kd n, ?_, .int _ _⟩
        simp [execOp, resolve, invoke, builtin, Builtin.max_, Builtin.max2, h3, h4, hnn]
      rw [ltI_eq] at h2
      split at h2
      · rename_i hlt; exact fin _ h2 (by simp at hlt; simp [hlt])
      · rename_i hlt; exact fin _ h2 (by simp at hlt; rw [if_neg (by omega)])
    · cases hh
  · cases hh

/-- THE OPERATIONS THAT ACT ON NOTHING. -/
theorem floatC_inv {o : Oper} (hh : floatC P G o.op t h tab nb k = true) (hs : Sat σ tab) : FlOK P σ G o t h nb k := by
  obtain ⟨dst, op, type, pos, after, guard⟩ := o
  cases op with
  | move x => exact fl_move hh hs
  | assign x => exact fl_assign hh hs
  | pick c a b => exact fl_pick hh hs
  | alloc e => exact fl_alloc hh hs
  | box e x => exact fl_box hh hs
  | build ty ps => exact fl_build hh hs
  | buildSlice ty len ps => exact fl_buildSlice hh hs
  | load ty x => exact fl_load hh hs
  | nilCheck x => exact fl_nilCheck hh hs
  | binOp op ty x y ty' => exact fl_binOp hh hs
  | unOp op ty x => exact fl_unOp hh hs
  | convert s d x => exact fl_convert hh hs
  | makeInterface ty x => exact fl_makeInterface hh hs
  | typeAssert x xt ty ok => exact fl_typeAssert hh hs
  | makeFunc f a b => exact fl_makeFunc hh hs
  | makeMap ty r => exact fl_makeMap hh hs
  | makeSlice ty l c => exact fl_makeSlice hh hs
  | slice ty x a b c => exact fl_slice hh hs
  | fieldAddr s x f => exact fl_fieldAddr hh hs
  | field s x f => exact fl_field hh hs
  | indexAddr ty x i => exact fl_indexAddr hh hs
  | index ty x i => exact fl_index hh hs
  | lookup ty x i ok => exact fl_lookup hh hs
  | extract x i => exact fl_extract hh hs
  | call c => exact fl_call hh hs
  | _ => cases hh

/-- what does not look at memory does not hang on it -/
theorem floatC_blind {o : Op} (hl : looks P o = false) (h' : Hp) : floatC P G o t h tab nb k = floatC P G o t h' tab nb k := by
  cases o <;> simp only [looks] at hl <;> first | rfl | (cases hl; done) | skip
  case convert s d x =>
    simp only [Bool.or_eq_false_iff] at hl
    have hsu : P.underlying s ≠ some .unsafePointer := fun h => by simp [isUns, h] at hl
    have hdu : P.underlying d ≠ some .unsafePointer := fun h => by simp [isUns, h] at hl
    simp only [floatC]
    refine congrArg (getO G x t) (funext fun v => ?_)
    simp only [convC]
    split
    · rfl
    · rename_i us hus
      split <;> first | rfl | skip
      · rename_i hd; exact absurd hd hdu
      · split
        · exact absurd hus hsu
        · rfl
  rename_i op ty x y ty'
  cases op <;> simp only [] at hl <;> first | (cases hl; done) | skip
  all_goals
    simp only [floatC]
    congr 1

end
end Go.Ev

namespace Go.Ev

section
variable {P : Program} {σ : Sg} {G : Nat → Bool}

/-- the canonical state and the real one -/
structure RL (σ : Sg) (G : Nat → Bool) (e : Env) (m : M) (w : World) : Prop where
  hr : HR σ e m.h w
  dom : ∀ b p, e b = some p → ∃ cb, m.h.get? b = some cb
  inj : InjE e
  bnd : ∀ b, m.n ≤ b → e b = none
  glo : ∀ g, G g = true → ∃ p, e g = some p ∧ p.r = g ∧ p.d = 0
  fix : ∀ r o, σ.fx r = some o → w.heap[r]? = some o ∧ ∀ b p, e b = some p → p.live = true → p.r ≠ r
  pin : ∀ b q, σ.pn b = some q → ∃ p, e b = some p ∧ p.r = q.r ∧ p.d = q.d ∧ p.s = q.s

theorem RL.nofx {e : Env} {m : M} {w : World} (h : RL σ G e m w) {b : Nat} {p : Place} (hb : e b = some p) (hl : p.live = true) : σ.fx p.r = none := by
  cases hx : σ.fx p.r with
  | none => rfl
  | some o => exact absurd rfl ((h.fix _ o hx).2 b p hb hl)
theorem RL.nofx_end {e : Env} {m : M} {w : World} (h : RL σ G e m w) : σ.fx w.heap.size = none := by
  cases hx : σ.fx w.heap.size with
  | none => rfl
  | some o => have := (h.fix _ o hx).1; simp at this

theorem RL.lt {e : Env} {m : M} {w : World} (h : RL σ G e m w) {b : Nat} {p : Place} (hb : e b = some p) (hl : p.live = true) : p.r < w.heap.size := by
  obtain ⟨cb, hcb⟩ := h.dom b p hb
  have := h.hr b p cb hb hcb
  rw [if_pos hl] at this
  obtain ⟨o, h2, _⟩ := this
  rcases Nat.lt_or_ge p.r w.heap.size with h | h
  · exact h
  · rw [Array.getElem?_eq_none h] at h2; cases h2

/-- one block is written -/
theorem RL.put {e : Env} {m : M} {w w' : World} (hR : RL σ G e m w) {b : Nat} {p : Place} (hb : e b = some p) (hl : p.live = true) {cb : CB} {obj : Obj} (hB : BR σ e cb p obj)
    {h' : Hp} (hh : ∀ j, h'.get? j = if j = b then some cb else m.h.get? j) (hw : ∀ x, w'.heap[x]? = if x = p.r then some obj else w.heap[x]?)
    (ht : w'.tape = w.tape) (ho : w'.os = w.os) (hu : w'.output = w.output) :
    RL σ G e ⟨h', m.n, m.tab⟩ w' ∧ Kept e m w e ⟨h', m.n, m.tab⟩ w' := by
  have hsz : w.heap.size ≤ w'.heap.size := by
    rcases Nat.eq_zero_or_pos w.heap.size with h | h
    · omega
    · have := hw (w.heap.size - 1)
      have h1 : (w.heap[w.heap.size - 1]?).isSome = true := by simp; omega
      have h2 : (w'.heap[w.heap.size - 1]?).isSome = true := by
        rw [this]; split
        · rfl
        · exact h1
      have : w.heap.size - 1 < w'.heap.size := by simpa using h2
      omega
  refine ⟨⟨fun b' p' cb' hb' hcb' => ?_, fun b' p' hb' => ?_, hR.inj, hR.bnd, hR.glo, fun r o h => ⟨by rw [hw, if_neg (fun he => (hR.fix r o h).2 b p hb hl he.symm)]; exact (hR.fix r o h).1, (hR.fix r o h).2⟩, hR.pin⟩, ⟨.refl e, Nat.le_refl _, fun b' hb' hn => ⟨hn, ?_⟩, hsz, fun r hr hn => ?_, fun b' p' hb' hl' => .inl ⟨b', p', hb', hl', rfl⟩, ht, ho, hu⟩⟩
  · replace hcb' : h'.get? b' = some cb' := hcb'
    rw [hh] at hcb'
    by_cases hbb : b' = b
    · subst hbb
      rw [hb] at hb'; cases hb'
      rw [if_pos hl]
      simp at hcb'
      subst hcb'
      exact ⟨obj, by rw [hw]; simp, hB⟩
    · rw [if_neg hbb] at hcb'
      have old := hR.hr b' p' cb' hb' hcb'
      split at old
      · rename_i hl'
        obtain ⟨o, h2, h3⟩ := old
        have hne : p'.r ≠ p.r := fun he => hbb (hR.inj _ _ _ _ hb' hb hl' hl he)
        simp only [hl', if_true]
        exact ⟨o, by rw [hw]; simp [hne, h2], h3⟩
      · rename_i hl'
        simp only [hl']
        exact old
  · obtain ⟨cb', hcb'⟩ := hR.dom b' p' hb'
    show ∃ cb, h'.get? b' = some cb
    rw [hh]
    split
    · exact ⟨_, rfl⟩
    · exact ⟨cb', hcb'⟩
  · have : b' ≠ b := fun he => by rw [he, hb] at hn; cases hn
    show h'.get? b' = m.h.get? b'
    rw [hh]; simp [this]
  · rw [hw, if_neg (fun he => hn b p hb hl he.symm)]

/-- a new name for a block that has none -/
theorem RL.bind {e : Env} {m : M} {w w' : World} (hR : RL σ G e m w) {p : Place} (hl : p.live = true) (hfx : σ.fx p.r = none) (hfree : ∀ b q, e b = some q → q.live = true → q.r ≠ p.r) {cb : CB} {obj : Obj} (hB : BR σ e cb p obj)
    {h' : Hp} (hh : ∀ j, h'.get? j = if j = m.n then some cb else m.h.get? j) (hw : ∀ x, w'.heap[x]? = if x = p.r then some obj else w.heap[x]?) : RL σ G (e.up m.n p) ⟨h', m.n + 1, m.tab⟩ w' := by
  have hnn : e m.n = none := hR.bnd _ (Nat.le_refl _)
  have hext : Ext e (e.up m.n p) := Ext.up hnn
  refine ⟨fun b q cb1 hb hcb1 => ?_, fun b q hb => ?_, fun b b' q q' hb hb' hq hq' he => ?_, fun b hb => ?_, fun g hg => ?_, fun r o hr => ?_, fun b q hq => ?_⟩
  · replace hcb1 : h'.get? b = some cb1 := hcb1
    rw [hh] at hcb1
    by_cases hbb : b = m.n
    · subst hbb
      simp [Env.up] at hb
      subst hb
      rw [if_pos hl]
      simp at hcb1
      subst hcb1
      exact ⟨obj, by rw [hw]; simp, hB.mono hext⟩
    · rw [if_neg hbb] at hcb1
      have hb' : e b = some q := by simpa [Env.up, hbb] using hb
      have old := hR.hr b q cb1 hb' hcb1
      split at old
      · rename_i hl'
        obtain ⟨o, h2, h3⟩ := old
        simp only [hl', if_true]
        exact ⟨o, by rw [hw]; simp [hfree b q hb' hl', h2], h3.mono hext⟩
      · rename_i hl'
        simp only [hl']
        exact old
  · show ∃ cb, h'.get? b = some cb
    rw [hh]
    by_cases hbb : b = m.n
    · rw [if_pos hbb]; exact ⟨_, rfl⟩
    · rw [if_neg hbb]; exact hR.dom b q (by simpa [Env.up, hbb] using hb)
  · by_cases h1 : b = m.n <;> by_cases h2 : b' = m.n
    · rw [h1, h2]
    · subst h1
      simp [Env.up] at hb
      subst hb
      have hb2 : e b' = some q' := by simpa [Env.up, h2] using hb'
      exact absurd he.symm (hfree b' q' hb2 hq')
    · subst h2
      simp [Env.up] at hb'
      subst hb'
      have hb2 : e b = some q := by simpa [Env.up, h1] using hb
      exact absurd he (hfree b q hb2 hq)
    · exact hR.inj b b' q q' (by simpa [Env.up, h1] using hb) (by simpa [Env.up, h2] using hb') hq hq' he
  · have : b ≠ m.n := by have : m.n + 1 ≤ b := hb; omega
    simp only [Env.up, this, if_false]
    exact hR.bnd b (by have : m.n + 1 ≤ b := hb; omega)
  · obtain ⟨q, hq, h1, h2⟩ := hR.glo g hg
    have : g ≠ m.n := fun he => by rw [he, hnn] at hq; cases hq
    exact ⟨q, by simp [Env.up, this, hq], h1, h2⟩
  · have hne : p.r ≠ r := fun he => by rw [he, hr] at hfx; cases hfx
    refine ⟨by rw [hw, if_neg (fun he => hne he.symm)]; exact (hR.fix r o hr).1, fun b q hb hq => ?_⟩
    by_cases hbb : b = m.n
    · subst hbb
      simp [Env.up] at hb
      subst hb
      exact hne
    · exact (hR.fix r o hr).2 b q (by simpa [Env.up, hbb] using hb) hq
  · obtain ⟨p1, h1, h2⟩ := hR.pin b q hq
    have : b ≠ m.n := fun he => by rw [he, hnn] at h1; cases h1
    exact ⟨p1, by simp [Env.up, this, h1], h2⟩

/-- a block at the heap's end -/
theorem RL.new {e : Env} {m : M} {w : World} (hR : RL σ G e m w) {s dr : Nat} {cb : CB} {obj : Obj} (hB : BR σ e cb ⟨w.heap.size, 0, s, true⟩ obj)
    {h' : Hp} (hh : ∀ j, h'.get? j = if j = m.n then some cb else m.h.get? j) :
    RL σ G (e.up m.n ⟨w.heap.size, 0, s, true⟩) ⟨h', m.n + 1, m.tab⟩ { w with heap := w.heap.push obj, drawn := dr } ∧
    Kept e m w (e.up m.n ⟨w.heap.size, 0, s, true⟩) ⟨h', m.n + 1, m.tab⟩ { w with heap := w.heap.push obj, drawn := dr } := by
  have hnn : e m.n = none := hR.bnd _ (Nat.le_refl _)
  have hw : ∀ x, ({ w with heap := w.heap.push obj, drawn := dr } : World).heap[x]? = if x = w.heap.size then some obj else w.heap[x]? := by
    intro x
    show (w.heap.push obj)[x]? = _
    rw [Array.getElem?_push]
  refine ⟨hR.bind (p := ⟨w.heap.size, 0, s, true⟩) rfl hR.nofx_end (fun b q hb hl he => ?_) hB hh hw, ⟨Ext.up hnn, Nat.le_succ _, fun b hb hn => ?_, by simp, fun r hr _ => ?_, fun b p hb hl => ?_, rfl, rfl, rfl⟩⟩
  · have := hR.lt hb hl; rw [he] at this; simp at this
  · have : b ≠ m.n := by omega
    exact ⟨by simp [Env.up, this, hn], by show h'.get? b = _; rw [hh]; simp [this]⟩
  · rw [hw, if_neg (by omega)]
  · by_cases hbb : b = m.n
    · subst hbb
      simp [Env.up] at hb
      subst hb
      exact .inr (Nat.le_refl _)
    · exact .inl ⟨b, p, by simpa [Env.up, hbb] using hb, hl, rfl⟩

def Env.kill (e : Env) (b : Nat) : Env := fun x => if x = b then (e b).map fun p => { p with live := false } else e x
theorem Ext.kill (e : Env) (b : Nat) : Ext e (e.kill b) := by
  intro x p hp
  by_cases hx : x = b
  · subst hx
    exact ⟨{ p with live := false }, by simp [Env.kill, hp], rfl, rfl, rfl, fun h => by cases h⟩
  · exact ⟨p, by simp [Env.kill, hx, hp], rfl, rfl, rfl, id⟩

/-- a block is given up -/
theorem RL.kill {e : Env} {m : M} {w : World} (hR : RL σ G e m w) {b : Nat} {p : Place} (hb : e b = some p) {h' : Hp} (hh : ∀ j, h'.get? j = if j = b then some .none else m.h.get? j) :
    RL σ G (e.kill b) ⟨h', m.n, m.tab⟩ w ∧ Kept e m w (e.kill b) ⟨h', m.n, m.tab⟩ w := by
  have hx := Ext.kill e b
  have liv : ∀ {x q}, e.kill b x = some q → q.live = true → x ≠ b ∧ e x = some q := by
    intro x q hq hl
    by_cases hxb : x = b
    · subst hxb; simp [Env.kill, hb] at hq; subst hq; cases hl
    · exact ⟨hxb, by simpa [Env.kill, hxb] using hq⟩
  refine ⟨⟨fun x q cb hq hcb => ?_, fun x q hq => ?_, fun x x' q q' h1 h2 l1 l2 he => hR.inj x x' q q' (liv h1 l1).2 (liv h2 l2).2 l1 l2 he, fun x hxn => ?_, fun g hg => ?_, fun r o hr => ⟨(hR.fix r o hr).1, fun x q hq hl => (hR.fix r o hr).2 x q (liv hq hl).2 hl⟩, fun x q hq => ?_⟩, ⟨hx, Nat.le_refl _, fun x hxn hn => ?_, Nat.le_refl _, fun _ _ _ => rfl, fun x q hq hl => .inl ⟨x, q, (liv hq hl).2, hl, rfl⟩, rfl, rfl, rfl⟩⟩
  · replace hcb : h'.get? x = some cb := hcb
    rw [hh] at hcb
    by_cases hxb : x = b
    · subst hxb
      simp [Env.kill, hb] at hq
      subst hq
      simp at hcb
      exact hcb.symm
    · rw [if_neg hxb] at hcb
      have hq' : e x = some q := by simpa [Env.kill, hxb] using hq
      have old := hR.hr x q cb hq' hcb
      split at old
      · rename_i hl
        obtain ⟨o, h2, h3⟩ := old
        simp only [hl, if_true]
        exact ⟨o, h2, h3.mono hx⟩
      · rename_i hl
        simp only [hl]
        exact old
  · show ∃ cb, h'.get? x = some cb
    rw [hh]
    by_cases hxb : x = b
    · rw [if_pos hxb]; exact ⟨_, rfl⟩
    · rw [if_neg hxb]; exact hR.dom x q (by simpa [Env.kill, hxb] using hq)
  · have hn := hR.bnd x hxn
    have : x ≠ b := fun he => by rw [he, hb] at hn; cases hn
    simp [Env.kill, this, hn]
  · obtain ⟨q, hq, h1, h2⟩ := hR.glo g hg
    by_cases hgb : g = b
    · subst hgb
      exact ⟨{ q with live := false }, by simp [Env.kill, hq], h1, h2⟩
    · exact ⟨q, by simp [Env.kill, hgb, hq], h1, h2⟩
  · obtain ⟨p1, h1, h2⟩ := hR.pin x q hq
    by_cases hxb : x = b
    · subst hxb
      exact ⟨{ p1 with live := false }, by simp [Env.kill, h1], h2⟩
    · exact ⟨p1, by simp [Env.kill, hxb, h1], h2⟩
  · have : x ≠ b := fun he => by rw [he, hb] at hn; cases hn
    exact ⟨by simp [Env.kill, this, hn], by show h'.get? x = _; rw [hh]; simp [this]⟩

end
end Go.Ev

namespace Go.Ev

section
variable {P : Program} {σ : Sg} {G : Nat → Bool} {t : Tm} {m : M} {k : KA}
variable {dst : Option Tmp} {type : TypeId} {pos : String} {after : Array Edge} {guard : Option (Nat × Bool)}

def ActOK (P : Program) (σ : Sg) (G : Nat → Bool) (o : Oper) (t : Tm) (m : M) (k : KA) : Prop :=
  ∃ v m', k v m' = true ∧ Sat σ m'.tab ∧ ∀ (e : Env) (w : World) (ρ : Operand → Value), RL σ G e m w → (∀ x, x ∈ o.op.operands → ∀ c, OV G t x c → VR σ e c (ρ x)) →
    ∃ n w' e', (execOp ρ o).run P w = .ok n w' ∧ ((∃ v', n = .value v' ∧ VR σ e' v v') ∨ (n = .skip ∧ v = undefC)) ∧ RL σ G e' m' w' ∧ Kept e m w e' m' w'

def oneC : CV → Bool
  | .agg _ => false
  | .tup _ => false
  | _ => true
theorem oneK_inv {v : CV} {k : Bool} (h : oneK v k = true) : oneC v = true ∧ k = true := by
  cases v <;> simp_all [oneK, oneC]
theorem one_VR {e : Env} {c : CV} {v : Value} (h : VR σ e c v) (ho : oneC c = true) : v.oneCell' = true := by
  cases h <;> first | rfl | (cases ho; done)
theorem allOne_inv {l : List CV} {k : Bool} (h : allOne l k = true) : (∀ c ∈ l, oneC c = true) ∧ k = true := by
  induction l with
  | nil => exact ⟨(fun c hc => by cases hc), h⟩
  | cons x l ih =>
    obtain ⟨h1, h2⟩ := oneK_inv (show oneK x (allOne l k) = true from h)
    obtain ⟨h3, h4⟩ := ih h2
    exact ⟨List.forall_mem_cons.2 ⟨h1, h3⟩, h4⟩
theorem LR.one {e : Env} {cs : List CV} {vs : List Value} (h : LR σ e cs vs) (ho : ∀ c ∈ cs, oneC c = true) : ∀ u ∈ vs, u.oneCell' = true := by
  intro u hu
  obtain ⟨i, hi, rfl⟩ := List.mem_iff_getElem.1 hu
  have hc : i < cs.length := h.1 ▸ hi
  exact one_VR (h.2 i cs[i] vs[i] (List.getElem?_eq_getElem hc) (List.getElem?_eq_getElem hi)) (ho _ (List.getElem_mem hc))

theorem storeN_inv : ∀ {l : List CV} {off : Nat} {cs : Tr CV} {k : Tr CV → Bool}, storeN l off cs k = true → ∃ cs', k cs' = true ∧ (∀ c ∈ l, oneC c = true) ∧ (∀ i, i < l.length → ∃ y, cs.get? (off + i) = some y) ∧
    ∀ j, cs'.get? j = if off ≤ j ∧ j < off + l.length then l[j - off]? else cs.get? j
  | [], off, cs, k, h => ⟨cs, h, (fun c hc => by cases hc), (fun i hi => by simp at hi), (fun j => by rw [if_neg (by simp)])⟩
  | x :: l, off, cs, k, h => by
    obtain ⟨h1, h2⟩ := oneK_inv (show oneK x (setK x cs off fun cs' => storeN l (off + 1) cs' k) = true from h)
    obtain ⟨cs1, h3, ⟨y, hy⟩, h4⟩ := setK_inv _ _ _ _ h2
    obtain ⟨cs', h5, h6, h7, h8⟩ := storeN_inv h3
    refine ⟨cs', h5, List.forall_mem_cons.2 ⟨h1, h6⟩, fun i hi => ?_, fun j => ?_⟩
    · cases i with
      | zero => exact ⟨y, hy⟩
      | succ i =>
        obtain ⟨z, hz⟩ := h7 i (by simpa using hi)
        rw [h4] at hz
        rw [if_neg (by omega)] at hz
        exact ⟨z, by rwa [show off + (i + 1) = off + 1 + i by omega]⟩
    · rw [h8, h4]
      by_cases hj : off ≤ j ∧ j < off + (x :: l).length
      · rw [if_pos hj]
        simp only [List.length_cons] at hj
        by_cases h0 : j = off
        · subst h0
          rw [if_neg (by omega)]; simp
        · rw [if_pos (by omega)]
          have : j - off = (j - (off + 1)) + 1 := by omega
          rw [this]; simp
      · rw [if_neg hj]
        simp only [List.length_cons] at hj
        rw [if_neg (by omega), if_neg (by omega)]

/-- the real cells are written -/
theorem setCells_heap (r : Nat) (el : TypeId) (fz : Nat × Nat) : ∀ (vs : List Value) (o : Nat) (w : World) (c : Array Value), w.heap[r]? = some (.cells c el fz) →
    ∃ c' : Array Value, (∀ x, (w.setCells r o vs).heap[x]? = if x = r then some (.cells c' el fz) else w.heap[x]?) ∧ c'.size = c.size ∧
      (∀ j, c'[j]? = if o ≤ j ∧ j < o + vs.length ∧ j < c.size then vs[j - o]? else c[j]?) ∧ (w.setCells r o vs).tape = w.tape ∧ (w.setCells r o vs).os = w.os ∧ (w.setCells r o vs).output = w.output
  | [], o, w, c, hw => by
    refine ⟨c, fun x => ?_, rfl, fun j => ?_, rfl, rfl, rfl⟩
    · show w.heap[x]? = _
      split
      · rename_i h; rw [h, hw]
      · rfl
    · rw [if_neg (by simp; omega)]
  | v :: vs, o, w, c, hw => by
    have h1 : ∀ x, (w.setCell ⟨r, o, none⟩ v).heap[x]? = if x = r then some (.cells (c.setIfInBounds o v) el fz) else w.heap[x]? := by
      intro x
      simp only [World.setCell, Array.getElem?_modify]
      by_cases hx : r = x
      · subst hx; simp [hw]
      · have : ¬ x = r := fun h => hx h.symm
        simp [hx, this]
    obtain ⟨c', h2, h3, h4, h5, h6, h7⟩ := setCells_heap r el fz vs (o + 1) (w.setCell ⟨r, o, none⟩ v) (c.setIfInBounds o v) (by rw [h1]; simp)
    refine ⟨c', fun x => ?_, by simpa using h3, fun j => ?_, h5, h6, h7⟩
    · show ((w.setCell ⟨r, o, none⟩ v).setCells r (o + 1) vs).heap[x]? = _
      rw [h2]
      split
      · rfl
      · rename_i hx; rw [h1, if_neg hx]
    · rw [h4]
      simp only [Array.size_setIfInBounds, List.length_cons]
      by_cases hj : o ≤ j ∧ j < o + (vs.length + 1) ∧ j < c.size
      · rw [if_pos hj]
        by_cases h0 : j = o
        · subst h0
          rw [if_neg (by omega)]; simp [hj.2.2]
        · rw [if_pos (by omega)]
          have : j - o = (j - (o + 1)) + 1 := by omega
          rw [this]; simp
      · rw [if_neg hj, if_neg (by omega)]
        by_cases h0 : o = j
        · subst h0
          have : ¬ o < c.size := by omega
          rw [Array.getElem?_setIfInBounds]
          simp [this]
        · exact Array.getElem?_setIfInBounds_ne h0

/-- cells of a block are written, on both sides -/
theorem RL.store {e : Env} {w : World} (hR : RL σ G e m w) {b : Nat} {p : Place} (hb : e b = some p) {te : Nat} {lo : Bool} {es sz : Nat} {cs cs' : Tr CV} (hc : m.h.get? b = some (.cells te lo es sz cs)) {l : List CV} {off : Nat}
    (hone : ∀ c ∈ l, oneC c = true) (hin : ∀ i, i < l.length → ∃ y, cs.get? (off + i) = some y) (hcs : ∀ j, cs'.get? j = if off ≤ j ∧ j < off + l.length then l[j - off]? else cs.get? j)
    {h' : Hp} (hh : ∀ j, h'.get? j = if j = b then some (.cells te lo es sz cs') else m.h.get? j) {vs : List Value} (hv : LR σ e l vs) :
    (∀ j, j < vs.length → (w.cell? ⟨p.r, off + p.d + j, none⟩).isSome = true) ∧ (∀ j, j < vs.length → w.frozen? ⟨p.r, off + p.d + j, none⟩ = false) ∧ (∀ u ∈ vs, u.oneCell' = true) ∧
    RL σ G e ⟨h', m.n, m.tab⟩ (w.setCells p.r (off + p.d) vs) ∧ Kept e m w e ⟨h', m.n, m.tab⟩ (w.setCells p.r (off + p.d) vs) := by
  obtain ⟨hl, c, el, fz, hw, hsz, hex, hout, hinn, hfz, hte⟩ := hR.hr.cells hb hc
  have hlt : ∀ i, i < l.length → off + i < sz := by
    intro i hi
    obtain ⟨y, hy⟩ := hin i hi
    rcases Nat.lt_or_ge (off + i) sz with h | h
    · exact h
    · rw [hout _ h] at hy; cases hy
  have hcell : ∀ i, i < vs.length → off + p.d + i < c.size := by
    intro i hi
    have := hlt i (hv.1 ▸ hi)
    rw [hsz]; omega
  obtain ⟨c', h2, h3, h4, h5, h6, h7⟩ := setCells_heap p.r el fz vs (off + p.d) w c hw
  refine ⟨fun j hj => ?_, fun j hj => ?_, hv.one hone, ?_⟩
  · simp [World.cell?, hw, hcell j hj]
  · have := hcell j hj
    simp only [World.frozen?, hw]
    rcases hfz with rfl | ⟨_, _, rfl⟩
    · simp
    · simp; omega
  · refine hR.put hb hl (cb := .cells te lo es sz cs') (obj := .cells c' el fz) ?_ hh h2 h5 h6 h7
    refine .cells (by rw [h3, hsz]) hex (fun i hi => ?_) (fun i hi => ?_) (by rw [h3]; exact hfz) hte
    · rw [hcs]
      split
      · rename_i hc2
        have := hlt (i - off) (by omega)
        omega
      · exact hout i hi
    · rw [hcs]
      by_cases hc2 : off ≤ i ∧ i < off + l.length
      · rw [if_pos hc2]
        have hil : i - off < l.length := by omega
        obtain ⟨v, hv1, hv2⟩ := hv.get (List.getElem?_eq_getElem hil)
        refine ⟨l[i - off], v, List.getElem?_eq_getElem hil, ?_, hv2⟩
        rw [h4, if_pos ⟨by omega, by have := hv.1; omega, by rw [hsz]; omega⟩]
        rw [show p.d + i - (off + p.d) = i - off by omega]
        exact hv1
      · rw [if_neg hc2]
        obtain ⟨cv, v, a1, a2, a3⟩ := hinn i hi
        refine ⟨cv, v, a1, ?_, a3⟩
        rw [h4, if_neg (by have := hv.1; omega)]
        exact a2

theorem act_store {ty : TypeId} {x y : Operand} {call : CallFn} (hh : actC P G call (.store ty x y) t m k = true) (hs : Sat σ m.tab) : ActOK P σ G ⟨dst, .store ty x y, type, pos, after, guard⟩ t m k := by
  obtain ⟨cx, hcx, h1⟩ := getO_inv hh
  obtain ⟨b, off, rfl, h2⟩ := asPtr_inv h1
  obtain ⟨cy, hcy, h3⟩ := getO_inv h2
  obtain ⟨te, lo, es, sz, cs, hc, h4⟩ := withCells_inv h3
  obtain ⟨i, hi, h5⟩ := szK_inv h4
  split at h5
  · rename_i hlen
    have hlen : (cellsOfCV cy).length = i.size := by simpa using hlen
    obtain ⟨cs', h6, hone, hin, hcs⟩ := storeN_inv h5
    obtain ⟨h', h7, ⟨_, _⟩, hh'⟩ := setK_inv _ _ _ _ h6
    refine ⟨undefC, _, h7, hs, fun e w ρ hR ho => ?_⟩
    have v1 := ho x (by simp [Op.operands]) _ hcx
    have v2 := ho y (by simp [Op.operands]) _ hcy
    generalize hy : ρ x = u at v1
    cases v1 with
    | @ptr _ _ p hb =>
      have hv := cells_LR v2
      obtain ⟨a1, a2, a3, a4, a5⟩ := hR.store hb hc hone hin hcs hh' hv
      refine ⟨.skip, _, e, ?_, .inr ⟨rfl, rfl⟩, a4, a5⟩
      have hst := run_storeCells_cells (P := P) p.r (off + p.d) (ρ y).cells.toList 0 w (by simpa using a1) (by simpa using a2) a3
      simp only [Nat.add_zero] at hst
      have hsize : (ρ y).cells.size = i.size := by have := hv.1; rw [hlen] at this; simpa using this.symm
      simp [execOp, Instr.storeAt, Instr.sureAddr, hy, storeVar, szRun hi, hsize, hst]
  · cases h5

theorem putM_inv {h : Hp} {tab : Tab} {kt : TypeId} {key val : CV} {clock : Nat} (hs : Sat σ tab) (hok : keyOk P kt key = true) {d : TypeDesc} (hd : P.underlying kt = some d) :
    ∀ {es : List (CV × CV × Nat)} {k : List (CV × CV × Nat) → Bool → Bool}, putM P kt h tab key val clock es k = true →
    ∃ es' new, k es' new = true ∧ ∀ {e : Env} {w : World} {u uv : Value} {L : List MapEntry}, HR σ e h w → InjE e → VR σ e key u → VR σ e val uv → ER σ e es L → ∀ i, ∃ r', FindOK P kt d u L i w r' ∧
      (match new with
       | true => r' = none ∧ ER σ e es' (L ++ [{ key := u, val := uv, born := clock }])
       | false => ∃ j y, L[j]? = some y ∧ r' = some (i + j, y.val) ∧ Instr.sameBits 10000 y.key u = true ∧ ER σ e es' (L.modify j fun e => { e with key := u, val := uv }))
  | [], k, hh => by
    refine ⟨_, true, hh, fun {e w u uv L} _ _ hu huv hL i => ⟨none, ?_, rfl, ?_⟩⟩
    · rw [hL.nil_inv]
      simp only [FindOK]
      split
      · exact ⟨by simp [Instr.findAsking], fun h => absurd rfl h⟩
      · rfl
    · rw [hL.nil_inv]
      exact .cons hu huv rfl ⟨rfl, fun i x y hx => by simp at hx⟩
  | x :: es, k, hh => by
    have hh' : keyEq P kt key x.1 h tab (fun b => match b with
      | true => k ((key, val, x.2.2) :: es) false
      | false => putM P kt h tab key val clock es fun es' new => k (x :: es') new) = true := hh
    obtain ⟨b, h1, h2⟩ := keyEq_inv hh' hs hok hd
    cases b with
    | true =>
      refine ⟨_, false, h1, fun {e w u uv L} hr hi hu huv hL i => ?_⟩
      obtain ⟨y, L', rfl, a1, a2, a3, a4⟩ := hL.cons_inv
      have hkr := h2 hr hi hu a1
      refine ⟨some (i, y.val), ?_, 0, y, by simp, by simp, hkr.2 rfl, ?_⟩
      · have := hkr.1
        simp only [KeyRun] at this
        simp only [FindOK]
        split
        · exact ⟨by simp [Instr.findAsking, this.2], fun _ => by simp [Instr.findNow, this.1]⟩
        · rename_i hne
          split at this
          · exact absurd rfl (hne _)
          · simp [Instr.findNow, this]
      · exact .cons hu huv a3 a4
    | false =>
      obtain ⟨es', new, k1, k2⟩ := putM_inv hs hok hd h1
      refine ⟨_, new, k1, fun {e w u uv L} hr hi hu huv hL i => ?_⟩
      obtain ⟨y, L', rfl, a1, a2, a3, a4⟩ := hL.cons_inv
      have hkr := (h2 hr hi hu a1).1
      obtain ⟨r', g1, g2⟩ := k2 hr hi hu huv a4 (i + 1)
      refine ⟨r', ?_, ?_⟩
      · simp only [KeyRun] at hkr
        simp only [FindOK] at g1 ⊢
        split
        · exact ⟨by simp [Instr.findAsking, hkr.2, g1.1], fun _ => by simp [Instr.findNow, hkr.1]⟩
        · rename_i hne
          split at hkr
          · exact absurd rfl (hne _)
          · split at g1
            · exact absurd rfl (hne _)
            · simp [Instr.findNow, hkr, g1]
      · cases new with
        | true => exact ⟨g2.1, .cons a1 a2 a3 g2.2⟩
        | false =>
          obtain ⟨j, z, b1, b2, b3, b4⟩ := g2
          exact ⟨j + 1, z, by simpa using b1, by rw [b2]; congr 2; omega, b3, .cons a1 a2 a3 b4⟩

theorem act_mapUpdate {ty : TypeId} {x i y : Operand} {call : CallFn} (hh : actC P G call (.mapUpdate ty x i y) t m k = true) (hs : Sat σ m.tab) :
    ActOK P σ G ⟨dst, .mapUpdate ty x i y, type, pos, after, guard⟩ t m k := by
  simp only [actC] at hh
  split at hh
  · rename_i kt el hu
    obtain ⟨cx, hcx, h1⟩ := getO_inv hh
    obtain ⟨ci, hci, h2⟩ := getO_inv h1
    obtain ⟨cy, hcy, h3⟩ := getO_inv h2
    clear h1 h2 hh
    split at h3
    · cases h3
    · rename_i hok
      have hd0 : ∃ d, P.underlying kt = some d := by
        cases hd : P.underlying kt with
        | none => simp [keyOk, hd] at hok
        | some d => exact ⟨d, rfl⟩
      obtain ⟨d, hd⟩ := hd0
      cases cx <;> simp only [] at h3 <;> first | (cases h3; done) | skip
      rename_i b
      obtain ⟨cb, hcb, h4⟩ := getK_inv h3
      cases cb <;> simp only [] at h4 <;> first | (cases h4; done) | skip
      rename_i es clock
      obtain ⟨es', new, h5, h6⟩ := putM_inv hs hok hd h4
      rw [forceN_eq] at h5
      obtain ⟨h', h7, _, hh'⟩ := setK_inv _ _ _ _ h5
      refine ⟨undefC, _, h7, hs, fun e w ρ hR ho => ?_⟩
      have v1 := ho x (by simp [Op.operands]) _ hcx
      have v2 := ho i (by simp [Op.operands]) _ hci
      have v3 := ho y (by simp [Op.operands]) _ hcy
      generalize hx : ρ x = ux at v1
      cases v1 with
      | @map _ p hb =>
        have := hR.hr _ _ _ hb hcb
        split at this
        · rename_i hl
          obtain ⟨o, g2, g3⟩ := this
          cases g3 with
          | map hln hv =>
            rename_i entries
            obtain ⟨r', q1, q2⟩ := h6 hR.hr hR.inj v2 v3 ⟨hln, hv⟩ 0
            have hfk := findKey_run hd q1
            have hck := checkKey_run (P := P) hok false (ρ i) w 9999
            have hlt : p.r < w.heap.size := hR.lt hb hl
            have hset : ∀ (obj : Obj) (z : Nat), ({ w with heap := w.heap.setIfInBounds p.r obj } : World).heap[z]? = if z = p.r then some obj else w.heap[z]? := by
              intro obj z
              show (w.heap.setIfInBounds p.r obj)[z]? = _
              by_cases hz : z = p.r
              · subst hz; simp [hlt]
              · rw [Array.getElem?_setIfInBounds_ne (fun h => hz h.symm), if_neg hz]
            cases new with
            | true =>
              obtain ⟨rfl, hER⟩ := q2
              have hp := hR.put hb hl (cb := .map es' (clock + 1)) (obj := .map (entries.push { key := ρ i, val := ρ y, born := clock }) (clock + 1)) (.map (by simpa using hER.1) (by simpa using hER.2)) hh' (hset _) rfl rfl rfl
              refine ⟨.skip, _, e, ?_, .inr ⟨rfl, rfl⟩, hp.1, hp.2⟩
              simp [execOp, Instr.mapUpdate, undRun hu, hx, getObj, setObj, Sem.run, g2, hck, hfk]
            | false =>
              obtain ⟨j, z, b1, rfl, b3, b4⟩ := q2
              have b1' : entries[j]? = some z := by simpa using b1
              have hp := hR.put hb hl (cb := .map es' clock) (obj := .map (entries.modify j fun e => { e with key := ρ i, val := ρ y }) clock) (.map (by simpa [Array.toList_modify] using b4.1) (by simpa [Array.toList_modify] using b4.2)) hh' (hset _) rfl rfl rfl
              refine ⟨.skip, _, e, ?_, .inr ⟨rfl, rfl⟩, hp.1, hp.2⟩
              have hks : (Instr.keyThatStays z.key (ρ i)).run P w = .ok (ρ i) w := by simp [Instr.keyThatStays, b3]
              simp [execOp, Instr.mapUpdate, undRun hu, hx, getObj, setObj, Sem.run, g2, hck, hfk, b1', hks]
        · cases this
  · cases hh

end
end Go.Ev

namespace Go.Ev

section
variable {P : Program} {σ : Sg} {G : Nat → Bool} {t : Tm} {m : M} {k : KA}
variable {dst : Option Tmp} {type : TypeId} {pos : String} {after : Array Edge} {guard : Option (Nat × Bool)}

/-- how the second argument's type goes with it -/
def strTy (P : Program) (str : Bool) (ty : TypeId) : Prop := if str then P.underlying ty = some .string else ∃ e', P.underlying ty = some (.slice e')

theorem appended_inv {str : Bool} {n : Nat} {x : CV} {h : Hp} {k : List CV → Nat → Bool} (hh : appended str n x h k = true) :
    ∃ new cnt, k new cnt = true ∧ (∀ c ∈ new, oneC c = true) ∧ new.length = cnt * n ∧ ∀ {e : Env} {w : World} {ux : Value} {ty : TypeId}, HR σ e h w → VR σ e x ux → strTy P str ty →
      ∃ news, LR σ e new news ∧ Src P n ty ux cnt news w := by
  cases str with
  | false =>
    cases x <;> simp only [appended] at hh <;> first | (cases hh; done) | skip
    · refine ⟨[], 0, hh, (fun c hc => by cases hc), by simp, fun {e w ux ty} _ hv ht => ?_⟩
      obtain ⟨e', ht⟩ : ∃ e', P.underlying ty = some (.slice e') := by simpa [strTy] using ht
      cases hv
      exact ⟨[], .nil, Src.ofNil w ht 0⟩
    · rename_i b off len cap
      obtain ⟨te, lo, es, sz, cs, hc, h1⟩ := withCells_inv hh
      obtain ⟨l, hl, hrow, h2⟩ := loadN_inv h1
      obtain ⟨hone, h3⟩ := allOne_inv h2
      refine ⟨l, len, h3, hone, hl, fun {e w ux ty} hr hv ht => ?_⟩
      obtain ⟨e', ht⟩ : ∃ e', P.underlying ty = some (.slice e') := by simpa [strTy] using ht
      cases hv with
      | @sl _ _ _ _ p hb =>
        obtain ⟨_, c, el, fz, hw, _, _, hout, hin, _⟩ := hr.cells hb hc
        obtain ⟨vs, hvs, hget⟩ := row_real hout hin hrow
        refine ⟨vs, hvs, Src.ofSlice w ht ⟨p.r, off + p.d, none⟩ len (cap + p.s) vs (by rw [← hvs.1, hl]) (fun j u hu => ?_) (hvs.one hone)⟩
        rw [addr_add]
        simp [World.cell?, hw, hget j u hu]
    · refine ⟨[], 0, hh, (fun c hc => by cases hc), by simp, fun {e w ux ty} _ hv ht => ?_⟩
      obtain ⟨e', ht⟩ : ∃ e', P.underlying ty = some (.slice e') := by simpa [strTy] using ht
      cases hv with
      | slE r o c => exact ⟨[], .nil, Src.ofSlice w ht ⟨r, o, none⟩ 0 c [] (by simp) (fun j u hu => by simp at hu) (fun u hu => by cases hu)⟩
  | true =>
    cases x <;> simp only [appended] at hh <;> first | (cases hh; done) | skip
    rotate_left
    · rename_i bs
      split at hh
      · rename_i hn
        have hn : n = 1 := by simpa using hn
        subst hn
        rw [forceN_eq] at hh
        refine ⟨_, _, hh, fun c hc => ?_, by simp, fun {e w ux ty} _ hv ht => ?_⟩
        · obtain ⟨b, _, rfl⟩ := List.mem_map.1 hc
          obtain ⟨c, ts⟩ := b
          cases ts <;> rfl
        · have ht : P.underlying ty = some .string := by simpa [strTy] using ht
          cases hv with
          | lstr _ s hl =>
            have hlen : s.size = bs.length := byteVal_size (σ := σ) hl
            rw [← hlen]
            refine ⟨byteCells s, ?_, Src.ofString w ht s⟩
            refine ⟨by simp [byteCells, ← hlen], fun i c v hc hv => ?_⟩
            simp only [byteCells, List.getElem?_map, Option.map_eq_some_iff] at hc hv
            obtain ⟨f, hf, rfl⟩ := hc
            obtain ⟨b', hb', rfl⟩ := hv
            obtain ⟨hi, rfl⟩ := List.getElem?_eq_some_iff.1 hb'
            rw [byteVal_get (σ := σ) hl hf hi]
            exact byteC_vr _ _ _
      · cases hh
    rename_i l code
    split at hh
    · rename_i hn
      have hn : n = 1 := by simpa using hn
      subst hn
      refine ⟨_, _, hh, fun c hc => ?_, by simp [decBytes_len], fun {e w ux ty} _ hv ht => ?_⟩
      · obtain ⟨b, _, rfl⟩ := List.mem_map.1 hc; rfl
      · have ht : P.underlying ty = some .string := by simpa [strTy] using ht
        cases hv with
        | str s hl hcd =>
          subst hl; subst hcd
          have hd : decBytes s.size (encBytes s.data.toList) = s.data.toList := by rw [← strLen, dec_enc]
          refine ⟨byteCells s, ?_, Src.ofString w ht s⟩
          rw [hd]
          refine ⟨by simp [byteCells], fun i c v hc hv => ?_⟩
          simp only [byteCells, List.getElem?_map, Option.map_eq_some_iff] at hc hv
          obtain ⟨b, hb, rfl⟩ := hc
          obtain ⟨b', hb', rfl⟩ := hv
          rw [hb] at hb'; cases hb'
          exact .int _ _
    · cases hh

theorem pushN_inv : ∀ {l : List CV} {off : Nat} {cs : Tr CV} {k : Tr CV → Bool}, pushN l off cs k = true → ∃ cs', k cs' = true ∧ ∀ j, cs'.get? j = if off ≤ j ∧ j < off + l.length then l[j - off]? else cs.get? j
  | [], off, cs, k, h => ⟨cs, h, (fun j => by rw [if_neg (by simp)])⟩
  | x :: l, off, cs, k, h => by
    obtain ⟨h1, h2⟩ := oneK_inv (show oneK x (insK x cs off fun cs' => pushN l (off + 1) cs' k) = true from h)
    obtain ⟨cs1, h3, _, h4⟩ := insK_inv _ _ _ _ h2
    obtain ⟨cs', h5, h8⟩ := pushN_inv h3
    refine ⟨cs', h5, fun j => ?_⟩
    rw [h8, h4]
    by_cases hj : off ≤ j ∧ j < off + (x :: l).length
    · rw [if_pos hj]
      simp only [List.length_cons] at hj
      by_cases h0 : j = off
      · subst h0
        rw [if_neg (by omega)]; simp
      · rw [if_pos (by omega)]
        have : j - off = (j - (off + 1)) + 1 := by omega
        rw [this]; simp
    · rw [if_neg hj]
      simp only [List.length_cons] at hj
      rw [if_neg (by omega), if_neg (by omega)]

theorem newB_inv {cb : CB} {k : Nat → M → Bool} (h : newB cb m k = true) : ∃ h', k m.n ⟨h', m.n + 1, m.tab⟩ = true ∧ ∀ j, h'.get? j = if j = m.n then some cb else m.h.get? j := by
  obtain ⟨h', h1, _, h2⟩ := insK_inv _ _ _ _ (show insK cb m.h m.n (fun h' => forceN (Nat.succ m.n) fun n' => k m.n ⟨h', n', m.tab⟩) = true from h)
  rw [forceN_eq] at h1
  exact ⟨h', h1, h2⟩

theorem newB_fresh {cb : CB} {k : Nat → M → Bool} (h : newB cb m k = true) : m.h.get? m.n = none := by
  obtain ⟨h', h1, h0, h2⟩ := insK_inv _ _ _ _ (show insK cb m.h m.n (fun h' => forceN (Nat.succ m.n) fun n' => k m.n ⟨h', n', m.tab⟩) = true from h)
  exact h0

theorem TE.same {te : Nat} {el : TypeId} (h : TE te el) (x : Nat) : TE (sameTe te x) el := by
  unfold sameTe
  split
  · rename_i hb
    have : te = x := by simpa using hb
    exact this ▸ h
  · exact .zero _
theorem TE.sameR (te : Nat) (el : TypeId) : TE (sameTe te (el + 1)) el := by
  unfold sameTe
  split
  · exact .succ _
  · exact .zero _

/-- a grown row: what is listed, then zeros -/
theorem BR.grown {e : Env} {cs : List CV} {vs : List Value} (hv : LR σ e cs vs) {tr : Tr CV} (htr : ∀ i, tr.get? i = cs[i]?) {sz es s : Nat} (hsz : cs.length = sz) {z : Array Value} (hz : z.size = es) (r : Nat) (el : TypeId) {te : Nat} (hte : TE te el) :
    BR σ e (.cells te true es sz tr) ⟨r, 0, s, true⟩ (.cells (vs.toArray ++ Builtin.zeroCells z s) el (0, 0)) := by
  have hl : vs.length = sz := hv.1 ▸ hsz
  refine .cells (by simp [Builtin.zeroCells, hl, hz]) (fun h => by cases h) (fun i hi => ?_) (fun i hi => ?_) (.inl rfl) hte
  · rw [htr]; exact List.getElem?_eq_none (by omega)
  · have hi' : i < cs.length := by omega
    obtain ⟨v, h1, h2⟩ := hv.get (List.getElem?_eq_getElem hi')
    refine ⟨_, v, by rw [htr]; exact List.getElem?_eq_getElem hi', ?_, h2⟩
    have : i < vs.length := by omega
    simp only [Nat.zero_add]
    rw [Array.getElem?_append_left (by simpa using this)]
    simpa using h1

theorem grownCap_split (w : World) (need old : Nat) (el : TypeId) : ∃ s, grownCap w need old el = need + s := by
  exact ⟨_, rfl⟩

/-- what is appended: cells, or zeros -/
def SrcX (P : Program) (i : TypeInfo) (z : Value) (tx : TypeId) (x : Value) (n : Nat) (news : List Value) (w : World) : Prop :=
  Src P i.size tx x n news w ∨ ((∃ kd, P.underlying tx = some (.int kd)) ∧ x = .int .i64 (n : Int) ∧ n * i.bytes ≤ 281474976710656 ∧ n ≤ 65536 ∧ news = (Builtin.zeroCells z.cells n).toList ∧ z.cells.size = i.size ∧ ∀ u ∈ news, u.oneCell' = true)
theorem wrap_nat {n : Nat} (h : n ≤ 65536) : IntKind.wrap .i64 (n : Int) = n := by
  have e1 : IntKind.min .i64 = -9223372036854775808 := by decide +kernel
  have e2 : IntKind.max .i64 = 9223372036854775807 := by decide +kernel
  exact wrap_in (by rw [e1]; omega) (by rw [e2]; omega)
theorem zeroCells_nil {z : Array Value} {n : Nat} (h : n * z.size = 0) : Builtin.zeroCells z n = #[] := by
  unfold Builtin.zeroCells
  rw [h]
  exact Array.eq_empty_of_size_eq_zero (by simp)
section
variable {P : Program} (w : World)
theorem run_append_room_x (t tx ty e : TypeId) (i : TypeInfo) (z : Value) (ht : P.underlying t = some (.slice e)) (hi : P.info? e = some i) (hz : i.zero = some z) (b off sLen sCap : Nat) (x : Value) (n : Nat) (news : List Value) (hs : SrcX P i z tx x n news w)
    (hroom : sLen + n ≤ sCap) (hc : ∀ j, j < news.length → (w.cell? ⟨b, off + sLen * i.size + j, none⟩).isSome = true) (hf : ∀ j, j < news.length → w.frozen? ⟨b, off + sLen * i.size + j, none⟩ = false) :
    (Builtin.append_ #[t, tx] ty #[.slice (some ⟨b, off, none⟩) sLen sCap, x]).run P w = .ok (.slice (some ⟨b, off, none⟩) (sLen + n) sCap) (w.setCells b (off + sLen * i.size) news) := by
  rcases hs with hs | ⟨⟨kd, hk⟩, rfl, hb, hn, hnw, hzs, h1⟩
  · exact run_append_room_src w t tx ty e i ht hi b off sLen sCap x n news hs hroom hc hf
  · have hst := run_storeCells_cells (P := P) b (off + sLen * i.size) news 0 w (by simpa using hc) (by simpa using hf) h1
    simp only [Nat.add_zero] at hst
    have hw := wrap_nat hn
    have hn0 : ¬ ((n : Int) < 0) := by omega
    have hb' : ¬ (281474976710656 < (n : Int) * (i.bytes : Int)) := by
      have : ((n * i.bytes : Nat) : Int) ≤ 281474976710656 := Int.ofNat_le.2 hb
      rw [Int.natCast_mul] at this
      omega
    by_cases h0 : n * i.size = 0
    · have hnil : news = [] := by rw [hnw, zeroCells_nil (by rw [hzs]; exact h0)]
      subst hnil
      simp [Builtin.append_, run_underlying ht, run_underlying hk, sizeOf, typeInfo, hi, asInt, asIntOf, hw, hn0, hb', h0, hroom, Addr.add_lit, hst]
    · simp [Builtin.append_, run_underlying ht, run_underlying hk, sizeOf, typeInfo, zeroValue, hi, hz, asInt, asIntOf, hw, hn0, hb', h0, hroom, Addr.add_lit, ← hnw, hst]
theorem run_append_none_x (t tx ty e : TypeId) (i : TypeInfo) (z : Value) (ht : P.underlying t = some (.slice e)) (hi : P.info? e = some i) (_ : i.zero = some z) (x : Value) (news : List Value) (hs : SrcX P i z tx x 0 news w) :
    (Builtin.append_ #[t, tx] ty #[.slice none 0 0, x]).run P w = .ok (.slice none 0 0) w := by
  rcases hs with hs | ⟨⟨kd, hk⟩, rfl, hb, hn, hnw, hzs, h1⟩
  · rcases hs.kind with ⟨e', hk⟩ | hk <;> simp [Builtin.append_, run_underlying ht, run_underlying hk, sizeOf, typeInfo, hi, hs.len, hs.cells]
  · have hw : IntKind.wrap .i64 0 = 0 := wrap_nat hn
    simp [Builtin.append_, run_underlying ht, run_underlying hk, sizeOf, typeInfo, hi, asInt, asIntOf, hw]
theorem run_append_grow_x (t tx ty e : TypeId) (i : TypeInfo) (z : Value) (ht : P.underlying t = some (.slice e)) (hi : P.info? e = some i) (hz : i.zero = some z) (base : Option Addr) (sLen sCap : Nat) (olds : List Value)
    (hold : (Builtin.firstCells i.size sLen (.slice base sLen sCap)).run P w.drew = .ok olds.toArray w.drew) (x : Value) (n : Nat) (news : List Value) (hs : SrcX P i z tx x n news w)
    (hg : sCap < sLen + n) (h63 : ((sLen + n : Nat) : Int) ≤ 9223372036854775807) (hfit : Builtin.nextslicecap (sLen + n) sCap * i.bytes ≤ 281474976710656) :
    (Builtin.append_ #[t, tx] ty #[.slice base sLen sCap, x]).run P w =
      .ok (.slice (some ⟨w.heap.size, 0, none⟩) (sLen + n) (grownCap w (sLen + n) sCap e))
        (w.drew.alloc (.cells ((olds ++ news).toArray ++ Builtin.zeroCells z.cells (grownCap w (sLen + n) sCap e - (sLen + n))) e)) := by
  rcases hs with hs | ⟨⟨kd, hk⟩, rfl, hb, hn, hnw, hzs, h1⟩
  · exact run_append_grow_src w t tx ty e i z ht hi hz base sLen sCap olds hold x n news hs hg h63 hfit
  · have hn' : ¬ (sLen + n ≤ sCap) := by omega
    have h63' : ¬ (9223372036854775807 < ((sLen : Int) + (n : Int))) := by omega
    have h48' : ¬ (281474976710656 < Builtin.nextslicecap (sLen + n) sCap * i.bytes) := by omega
    have hw := wrap_nat hn
    have hn0 : ¬ ((n : Int) < 0) := by omega
    have hb' : ¬ (281474976710656 < (n : Int) * (i.bytes : Int)) := by
      have : ((n * i.bytes : Nat) : Int) ≤ 281474976710656 := Int.ofNat_le.2 hb
      rw [Int.natCast_mul] at this
      omega
    have hnA : news.toArray = Builtin.zeroCells z.cells n := by rw [hnw]
    by_cases h0 : n * i.size = 0
    · have hnil : news = [] := by rw [hnw, zeroCells_nil (by rw [hzs]; exact h0)]
      subst hnil
      simp [Builtin.append_, run_underlying ht, run_underlying hk, sizeOf, typeInfo, zeroValue, hi, hz, asInt, asIntOf, hw, hn0, hb', h0, hn', h63', h48', Question.forced, hold, newRow, grownCap]
    · simp [Builtin.append_, run_underlying ht, run_underlying hk, sizeOf, typeInfo, zeroValue, hi, hz, asInt, asIntOf, hw, hn0, hb', h0, hn', h63', h48', Question.forced, hold, newRow, grownCap]
      rw [← hnA]
      congr 2
      apply Array.ext'
      simp [List.append_assoc]
end

theorem tailC_inv {et tx ty : TypeId} {s x : CV} {i : TypeInfo} {zv : Value} {new : List CV} {cnt : Nat} (hu : P.underlying tx = some (.slice et)) (hi : P.info? et = some i) (hzv : i.zero = some zv) (hzs : zv.cells.size = i.size) (hb0 : (!Nat.beq (P.bytesOf et) 0) = true)
    (hlen : new.length = cnt * i.size) (hsrc : ∀ {e : Env} {w : World} {ux : Value}, HR σ e m.h w → VR σ e x ux → ∃ news, LR σ e new news ∧ SrcX P i zv ty ux cnt news w) (h5 : tailC P et i.size new cnt s m k = true) :
    ∃ v m', k v m' = true ∧ m'.tab = m.tab ∧ ∀ (e : Env) (w : World) (us ux : Value) (rt : TypeId), RL σ G e m w → VR σ e s us → VR σ e x ux →
      ∃ v' w' e', (Builtin.append_ #[tx, ty] rt #[us, ux]).run P w = .ok v' w' ∧ VR σ e' v v' ∧ RL σ G e' m' w' ∧ Kept e m w e' m' w' := by
  have hby : P.bytesOf et = i.bytes := by simp [Program.bytesOf, hi]
  unfold tailC at h5
  -- a new row
  have grow : ∀ {e : Env} {w : World} {ux : Value} {base : Option Addr} {sLen sCap : Nat} {m1 : M} {old : List CV} {olds news : List Value} (rt : TypeId), RL σ G e m1 w → LR σ e new news → SrcX P i zv ty ux cnt news w → LR σ e old olds → old.length = sLen * i.size →
      (∀ w' : World, w'.heap = w.heap → (Builtin.firstCells i.size sLen (.slice base sLen sCap)).run P w' = .ok olds.toArray w') → sCap < sLen + cnt → 4 * (sLen + cnt) * i.bytes ≤ 281474976710656 →
      ∀ {tr : Tr CV} (_ : ∀ j, tr.get? j = (old ++ new)[j]?) {te : Nat} (_ : TE te et) {h' : Hp} (_ : ∀ j, h'.get? j = if j = m1.n then some (.cells te true i.size ((sLen + cnt) * i.size) tr) else m1.h.get? j),
      ∃ v' w' e', (Builtin.append_ #[tx, ty] rt #[.slice base sLen sCap, ux]).run P w = .ok v' w' ∧ VR σ e' (.sl m1.n 0 (sLen + cnt) (sLen + cnt)) v' ∧ RL σ G e' ⟨h', m1.n + 1, m1.tab⟩ w' ∧ Kept e m1 w e' ⟨h', m1.n + 1, m1.tab⟩ w' := by
    intro e w ux base sLen sCap m1 old olds news rt hR hnews hs hold hol hfc hgt hfit tr htr te hte h' hh'
    obtain ⟨sl, hsl⟩ := grownCap_split w (sLen + cnt) sCap et
    have hn : sLen + cnt ≤ 281474976710656 := by
      have hb : 0 < i.bytes := by
        rcases Nat.eq_zero_or_pos i.bytes with h | h
        · rw [hby, h] at hb0; cases hb0
        · exact h
      have : (sLen + cnt) * 1 ≤ (4 * (sLen + cnt)) * i.bytes := Nat.mul_le_mul (by omega) hb
      omega
    have hfit' : Builtin.nextslicecap (sLen + cnt) sCap * i.bytes ≤ 281474976710656 := by
      have h1 := nextslicecap_le hgt
      have : Builtin.nextslicecap (sLen + cnt) sCap * i.bytes ≤ (4 * (sLen + cnt)) * i.bytes := Nat.mul_le_mul_right _ (by omega)
      omega
    have hrun := run_append_grow_x (P := P) w tx ty rt et i zv hu hi hzv base sLen sCap olds (hfc w.drew rfl) ux cnt news hs hgt (by omega) hfit'
    rw [hsl] at hrun
    have hBR := BR.grown (σ := σ) (e := e) (hold.append hnews) htr (sz := (sLen + cnt) * i.size) (s := sl) (by simp [hol, hlen, Nat.add_mul]) hzs w.heap.size et hte
    have hnew := hR.new (dr := w.drawn + 1) hBR hh'
    refine ⟨_, _, e.up m1.n ⟨w.heap.size, 0, sl, true⟩, hrun, .sl (o := 0) (cap := sLen + cnt) (p := ⟨w.heap.size, 0, sl, true⟩) (Env.up_same _ _ _), ?_, ?_⟩
    · have := hnew.1
      rw [show sLen + cnt + sl - (sLen + cnt) = sl by omega]
      exact this
    · have := hnew.2
      rw [show sLen + cnt + sl - (sLen + cnt) = sl by omega]
      exact this
  cases s <;> simp only [] at h5 <;> first | (cases h5; done) | skip
  · -- nil
    split at h5
    · rename_i hc0
      have hc0 : cnt = 0 := by simpa using hc0
      refine ⟨_, _, h5, rfl, fun e w us ux rt hR hs hx => ?_⟩
      cases hs
      obtain ⟨news, hnews, hsr⟩ := hsrc hR.hr hx
      subst hc0
      refine ⟨.slice none 0 0, w, e, ?_, .sl0, hR, .refl _ _ _⟩
      exact run_append_none_x (P := P) w tx ty rt et i zv hu hi hzv ux news hsr
    · rename_i hcnt
      obtain ⟨hfit, h6⟩ := isTrue_inv h5
      have hfit := Nat.le_of_ble_eq_true hfit
      rw [hby] at hfit
      rw [forceN_eq] at h6
      obtain ⟨h', h7, hh'⟩ := newB_inv h6
      have hpos : 0 < cnt := by
        rcases Nat.eq_zero_or_pos cnt with h | h
        · subst h; cases hcnt
        · exact h
      refine ⟨_, _, h7, rfl, fun e w us ux rt hR hs hx => ?_⟩
      cases hs
      obtain ⟨news, hnews, hsr⟩ := hsrc hR.hr hx
      have := grow (base := none) (sLen := 0) (sCap := 0) (old := []) (olds := []) rt hR hnews hsr .nil (by simp) (fun w' _ => by simp [Builtin.firstCells]) (by omega) (by simpa using hfit) (tr := ofList new) (fun j => by rw [ofList_get]; simp) (te := et + 1) (.succ _) (h' := h') (by simpa using hh')
      simpa using this
  · -- a slice
    rename_i b off len cap
    obtain ⟨te, lo, es, sz, cs, hc, h6⟩ := withCells_inv h5
    rw [forceN_eq] at h6
    split at h6
    · -- there is room, whatever the capacity
      rename_i hroom
      have hroom := Nat.le_of_ble_eq_true hroom
      obtain ⟨cs', h7, hone', hin, hcs⟩ := storeN_inv h6
      obtain ⟨h', h8, _, hh'⟩ := setK_inv _ _ _ _ h7
      refine ⟨_, _, h8, rfl, fun e w us ux rt hR hs hx => ?_⟩
      obtain ⟨news, hnews, hsr⟩ := hsrc hR.hr hx
      cases hs with
      | @sl _ _ _ _ p hb =>
        obtain ⟨a1, a2, a3, a4, a5⟩ := hR.store hb hc hone' hin hcs hh' hnews
        have e1 : ∀ j, off + len * i.size + p.d + j = off + p.d + len * i.size + j := fun j => by omega
        have e2 : off + len * i.size + p.d = off + p.d + len * i.size := by omega
        simp only [e1] at a1 a2
        rw [e2] at a4 a5
        have hrun := run_append_room_x (P := P) w tx ty rt et i zv hu hi hzv p.r (off + p.d) len (cap + p.s) ux cnt news hsr (by omega) a1 a2
        exact ⟨_, _, e, hrun, .sl hb, a4, a5⟩
    · rename_i hnr
      have hnr : cap < len + cnt := by
        rcases Nat.lt_or_ge cap (len + cnt) with h | h
        · exact h
        · rw [Nat.ble_eq_true_of_le h] at hnr; cases hnr
      obtain ⟨hfit, h7⟩ := isTrue_inv h6
      have hfit := Nat.le_of_ble_eq_true hfit
      rw [hby] at hfit
      rw [forceN_eq] at h7
      cases lo with
      | false =>
        simp only [] at h7
        obtain ⟨old, hol, hrow, h8⟩ := loadN_inv h7
        obtain ⟨h', h9, hh'⟩ := newB_inv h8
        refine ⟨_, _, h9, rfl, fun e w us ux rt hR hs hx => ?_⟩
        cases hs with
        | @sl _ _ _ _ p hb =>
          obtain ⟨_, c, el, fz, hw, _, hex, hout, hin, _⟩ := hR.hr.cells hb hc
          obtain ⟨vs, hvs, hget⟩ := row_real hout hin hrow
          have hps := (hex rfl).2
          obtain ⟨news, hnews, hsr⟩ := hsrc hR.hr hx
          refine grow rt hR hnews hsr hvs hol (fun w' hw' => ?_) (by omega) hfit (tr := ofList (old ++ new)) (fun j => ofList_get _ _) (.succ _) hh'
          have hvl : vs.length = len * i.size := hvs.1 ▸ hol
          have := run_loadRow (P := P) (w := w') (r := p.r) (o := off + p.d) (by rw [hw']; exact hw) vs hget
          rw [hvl] at this
          simpa [Builtin.firstCells] using this
      | true =>
        obtain ⟨hes, h8⟩ := isTrue_inv h7
        have hes : es = i.size := by simpa using hes
        obtain ⟨hcap, h9⟩ := isTrue_inv h8
        have hcap : off + cap * es = sz := by simpa using hcap
        obtain ⟨h1, h10, _, hh1⟩ := setK_inv _ _ _ _ h9
        subst hes
        -- the two ways to lay the row
        have lay : ∃ (tr : Tr CV) (h' : Hp), k (.sl m.n 0 (len + cnt) (len + cnt)) ⟨h', m.n + 1, m.tab⟩ = true ∧ (∀ j, h'.get? j = if j = m.n then some (.cells (sameTe te (et + 1)) true i.size ((len + cnt) * i.size) tr) else h1.get? j) ∧
            ∀ {e : Env} {w : World} {p : Place}, HR σ e m.h w → e b = some p → ∃ old : List CV, old.length = len * i.size ∧ Row cs off old ∧ ∀ j, tr.get? j = (old ++ new)[j]? := by
          split at h10
          · rename_i hb
            simp only [Bool.and_eq_true, Nat.beq_eq] at hb
            obtain ⟨hoff, hfull⟩ := hb
            obtain ⟨cs', h11, hp⟩ := pushN_inv h10
            obtain ⟨h', h12, hh'⟩ := newB_inv h11
            refine ⟨cs', h', h12, hh', fun {e w p} hr hb => ?_⟩
            obtain ⟨_, c, el, fz, _, _, _, hout, hin, _⟩ := hr.cells hb hc
            have hrow : ∀ (n o : Nat), o + n ≤ sz → Row cs o ((List.range n).map fun j => (cs.get? (o + j)).getD undefC) := by
              intro n
              induction n with
              | zero => intro o _; trivial
              | succ n ih =>
                intro o ho
                rw [List.range_succ_eq_map]
                obtain ⟨cv, v, a1, _, _⟩ := hin o (by omega)
                refine ⟨by simp [a1], ?_⟩
                have := ih (o + 1) (by omega)
                simpa [List.map_map, Function.comp_def, Nat.add_assoc, Nat.add_comm 1] using this
            refine ⟨_, ?_, hrow sz off (by omega), fun j => ?_⟩
            · simp [← hfull]
            · rw [hp]
              by_cases hj : j < sz
              · rw [if_neg (by omega), List.getElem?_append_left (by simpa using hj)]
                obtain ⟨cv, v, a1, _, _⟩ := hin j hj
                simp [hj, hoff, a1]
              · rw [List.getElem?_append_right (by simp; omega)]
                simp only [List.length_map, List.length_range]
                by_cases hj2 : j < sz + new.length
                · rw [if_pos ⟨by omega, hj2⟩]
                · rw [if_neg (by omega), hout j (by omega), List.getElem?_eq_none (by omega)]
          · obtain ⟨old, hol, hrow, h11⟩ := loadN_inv h10
            obtain ⟨h', h12, hh'⟩ := newB_inv h11
            exact ⟨_, h', h12, hh', fun {e w p} _ _ => ⟨old, hol, hrow, fun j => ofList_get _ _⟩⟩
        obtain ⟨tr, h', h11, hh', hlay⟩ := lay
        refine ⟨_, _, h11, rfl, fun e w us ux rt hR hs hx => ?_⟩
        obtain ⟨news, hnews, hsr⟩ := hsrc hR.hr hx
        cases hs with
        | @sl _ _ _ _ p hb =>
          obtain ⟨old, hol, hrow, htr⟩ := hlay hR.hr hb
          obtain ⟨hl, c, el, fz, hw, hsz, hex, hout, hin, hfz, hte⟩ := hR.hr.cells hb hc
          obtain ⟨vs, hvs, hget⟩ := row_real hout hin hrow
          have hvl : vs.length = len * i.size := hvs.1 ▸ hol
          have hnl : news.length = cnt * i.size := hnews.1 ▸ hlen
          obtain ⟨hRk, hKk⟩ := hR.kill hb hh1
          by_cases hroom : len + cnt ≤ cap + p.s
          · -- in place
            have hm1 : (len + cnt) * i.size ≤ (cap + p.s) * i.size := Nat.mul_le_mul_right _ hroom
            have hsplit : (cap + p.s) * i.size = (len + cnt) * i.size + (cap + p.s - (len + cnt)) * i.size := by
              rw [← Nat.add_mul]; congr 1; omega
            have hcs : c.size = off + p.d + (cap + p.s) * i.size := by rw [hsz, ← hcap, Nat.add_mul]; omega
            have hadd : (len + cnt) * i.size = len * i.size + cnt * i.size := Nat.add_mul _ _ _
            have a1 : ∀ j, j < news.length → (w.cell? ⟨p.r, off + p.d + len * i.size + j, none⟩).isSome = true := by
              intro j hj
              have : off + p.d + len * i.size + j < c.size := by omega
              simp [World.cell?, hw, this]
            have a2 : ∀ j, j < news.length → w.frozen? ⟨p.r, off + p.d + len * i.size + j, none⟩ = false := by
              intro j hj
              have : off + p.d + len * i.size + j < c.size := by omega
              simp only [World.frozen?, hw]
              rcases hfz with rfl | ⟨_, _, rfl⟩
              · simp
              · simp; omega
            have hrun := run_append_room_x (P := P) w tx ty rt et i zv hu hi hzv p.r (off + p.d) len (cap + p.s) ux cnt news hsr hroom a1 a2
            obtain ⟨c', g2, g3, g4, g5, g6, g7⟩ := setCells_heap p.r el fz news (off + p.d + len * i.size) w c hw
            have hBR : BR σ (e.kill b) (.cells (sameTe te (et + 1)) true i.size ((len + cnt) * i.size) tr) ⟨p.r, off + p.d, cap + p.s - (len + cnt), true⟩ (.cells c' el fz) := by
              have hall := hvs.append hnews
              have hallen : (old ++ new).length = (len + cnt) * i.size := by simp [hol, hlen, Nat.add_mul]
              refine .cells (by rw [g3, hcs, hsplit]; simp; omega) (fun h => by cases h) (fun j hj => ?_) (fun j hj => ?_) ?_ (hte.same _)
              · rw [htr]; exact List.getElem?_eq_none (by omega)
              · have hj' : j < (old ++ new).length := by omega
                obtain ⟨v, q1, q2⟩ := hall.get (List.getElem?_eq_getElem hj')
                refine ⟨_, v, by rw [htr]; exact List.getElem?_eq_getElem hj', ?_, q2.mono (Ext.kill e b)⟩
                show c'[off + p.d + j]? = some v
                rw [g4]
                by_cases hjo : j < len * i.size
                · rw [if_neg (by omega)]
                  rw [List.getElem?_append_left (by omega)] at q1
                  exact hget j v q1
                · rw [if_pos (by omega)]
                  rw [List.getElem?_append_right (by omega)] at q1
                  rw [show off + p.d + j - (off + p.d + len * i.size) = j - vs.length by omega]
                  exact q1
              · rcases hfz with h | ⟨_, h2, h3⟩
                · exact .inl h
                · exact .inr ⟨rfl, h2, by rw [g3]; exact h3⟩
            have hfree : ∀ x q, e.kill b x = some q → q.live = true → q.r ≠ p.r := by
              intro x q hq hql he
              by_cases hxb : x = b
              · subst hxb; simp [Env.kill, hb] at hq; subst hq; cases hql
              · have hq' : e x = some q := by simpa [Env.kill, hxb] using hq
                exact hxb (hR.inj _ _ _ _ hq' hb hql hl he)
            have hRn := hRk.bind (p := ⟨p.r, off + p.d, cap + p.s - (len + cnt), true⟩) rfl (show σ.fx p.r = none from hR.nofx hb hl) hfree hBR hh' g2
            have hkn : (e.kill b) m.n = none := hRk.bnd _ (Nat.le_refl _)
            have hbn : b ≠ m.n := fun h => by have := hR.bnd m.n (Nat.le_refl _); rw [← h, hb] at this; cases this
            refine ⟨_, _, (e.kill b).up m.n ⟨p.r, off + p.d, cap + p.s - (len + cnt), true⟩, hrun, ?_, hRn, ?_⟩
            · have := VR.sl (σ := σ) (o := 0) (len := len + cnt) (cap := len + cnt) (Env.up_same (e.kill b) m.n ⟨p.r, off + p.d, cap + p.s - (len + cnt), true⟩)
              simp only [Nat.zero_add] at this
              rw [show len + cnt + (cap + p.s - (len + cnt)) = cap + p.s by omega] at this
              exact this
            · have hsize : w.heap.size ≤ (w.setCells p.r (off + p.d + len * i.size) news).heap.size := by
                rcases Nat.lt_or_ge (w.setCells p.r (off + p.d + len * i.size) news).heap.size w.heap.size with h | h
                · exfalso
                  have := g2 (w.setCells p.r (off + p.d + len * i.size) news).heap.size
                  rw [Array.getElem?_eq_none (Nat.le_refl _)] at this
                  split at this
                  · cases this
                  · rw [Array.getElem?_eq_getElem h] at this; cases this
                · exact h
              refine ⟨(Ext.kill e b).trans (Ext.up hkn), Nat.le_succ _, fun x hx hn => ?_, hsize, fun r hr hn => ?_, fun x q hq hql => ?_, g5, g6, g7⟩
              · have hxn : x ≠ m.n := by omega
                have hxb : x ≠ b := fun h => by rw [h, hb] at hn; cases hn
                exact ⟨by simp [Env.up, hxn, Env.kill, hxb, hn], by show h'.get? x = _; rw [hh', if_neg hxn, hh1, if_neg hxb]⟩
              · rw [g2, if_neg (fun he => hn b p hb hl he.symm)]
              · by_cases hxn : x = m.n
                · subst hxn
                  simp [Env.up] at hq
                  subst hq
                  exact .inl ⟨b, p, hb, hl, rfl⟩
                · have hq' : e.kill b x = some q := by simpa [Env.up, hxn] using hq
                  by_cases hxb : x = b
                  · subst hxb; simp [Env.kill, hb] at hq'; subst hq'; cases hql
                  · exact .inl ⟨x, q, by simpa [Env.kill, hxb] using hq', hql, rfl⟩
          · -- a new row
            obtain ⟨v', w', e', q1, q2, q3, q4⟩ := grow (m1 := ⟨h1, m.n, m.tab⟩) (base := some ⟨p.r, off + p.d, none⟩) (sLen := len) (sCap := cap + p.s) rt hRk (hnews.mono (Ext.kill e b)) hsr (hvs.mono (Ext.kill e b)) hol (fun w' hw' => by
                have := run_loadRow (P := P) (w := w') (r := p.r) (o := off + p.d) (by rw [hw']; exact hw) vs hget
                rw [hvl] at this
                simpa [Builtin.firstCells] using this) (by omega) hfit htr (TE.sameR _ _) hh'
            exact ⟨v', w', e', q1, q2, q3, hKk.trans q4⟩

theorem appendC_inv {et tx ty : TypeId} {str : Bool} {s x : CV} (hh : appendC P et str s x m k = true) (hu : P.underlying tx = some (.slice et)) (hty : strTy P str ty) :
    ∃ v m', k v m' = true ∧ m'.tab = m.tab ∧ ∀ (e : Env) (w : World) (us ux : Value) (rt : TypeId), RL σ G e m w → VR σ e s us → VR σ e x ux →
      ∃ v' w' e', (Builtin.append_ #[tx, ty] rt #[us, ux]).run P w = .ok v' w' ∧ VR σ e' v v' ∧ RL σ G e' m' w' ∧ Kept e m w e' m' w' := by
  obtain ⟨i, hi, h1⟩ := szK_inv hh
  obtain ⟨hn0, h2⟩ := isTrue_inv h1
  obtain ⟨hb0, h3⟩ := isTrue_inv h2
  obtain ⟨hz0, h4⟩ := isTrue_inv h3
  obtain ⟨new, cnt, h5, hone, hlen, hsrc⟩ := appended_inv (P := P) (σ := σ) h4
  have hzero : ∃ zv z, i.zero = some zv ∧ ofValues zv.cells.toList = some z ∧ z.length = i.size := by
    cases hzz : zeroOf P et with
    | none => rw [hzz] at hz0; cases hz0
    | some z =>
      rw [hzz] at hz0
      obtain ⟨i', zv, hi', hzv, hz'⟩ := zeroOf_inv hzz
      rw [hi] at hi'; cases hi'
      exact ⟨zv, z, hzv, hz', by simpa using hz0⟩
  obtain ⟨zv, z, hzv, hzz, hzl⟩ := hzero
  have hzs : zv.cells.size = i.size := by have := (ofValues_LR (σ := σ) (e := fun _ => none) hzz).1; simp at this; omega
  exact tailC_inv hu hi hzv hzs hb0 hlen (fun hr hx => by obtain ⟨news, q1, q2⟩ := hsrc hr hx hty; exact ⟨news, q1, .inl q2⟩) h5
theorem appendZ_inv {et tx ty : TypeId} {kd : IntKind} {s x : CV} (hh : appendZ P et s x m k = true) (hu : P.underlying tx = some (.slice et)) (hty : P.underlying ty = some (.int kd)) :
    ∃ v m', k v m' = true ∧ m'.tab = m.tab ∧ ∀ (e : Env) (w : World) (us ux : Value) (rt : TypeId), RL σ G e m w → VR σ e s us → VR σ e x ux →
      ∃ v' w' e', (Builtin.append_ #[tx, ty] rt #[us, ux]).run P w = .ok v' w' ∧ VR σ e' v v' ∧ RL σ G e' m' w' ∧ Kept e m w e' m' w' := by
  obtain ⟨i, hi, h1⟩ := szK_inv hh
  obtain ⟨hn0, h2⟩ := isTrue_inv h1
  obtain ⟨hb0, h3⟩ := isTrue_inv h2
  split at h3
  · rename_i z hzz
    obtain ⟨hzl, h4⟩ := isTrue_inv h3
    have hzl : z.length = i.size := by simpa using hzl
    obtain ⟨i', zv, hi', hzv, hz'⟩ := zeroOf_inv hzz
    rw [hi] at hi'; cases hi'
    have hzs : zv.cells.size = i.size := by have := (ofValues_LR (σ := σ) (e := fun _ => none) hz').1; simp at this; omega
    cases x <;> simp only [] at h4 <;> first | (cases h4; done) | skip
    rename_i kd' a
    cases kd' <;> simp only [] at h4 <;> first | (cases h4; done) | skip
    cases a <;> simp only [] at h4 <;> first | (cases h4; done) | skip
    rename_i cnt
    obtain ⟨hb, h5⟩ := isTrue_inv h4
    obtain ⟨hn, h6⟩ := isTrue_inv h5
    obtain ⟨hone, h7⟩ := allOne_inv h6
    have hb := Nat.le_of_ble_eq_true hb
    have hn := Nat.le_of_ble_eq_true hn
    have hby : P.bytesOf et = i.bytes := by simp [Program.bytesOf, hi]
    rw [hby] at hb
    refine tailC_inv hu hi hzv hzs hb0 (by simp [repl, hzl]) (fun {e w ux} hr hx => ?_) h7
    have hl : LR σ e (repl cnt z) (Builtin.zeroCells zv.cells cnt).toList := by
      have := repl_LR (ofValues_LR (σ := σ) (e := e) hz') cnt
      rw [hzl, ← hzs] at this
      exact this
    cases hx
    exact ⟨_, hl, .inr ⟨⟨kd, hty⟩, rfl, hb, hn, rfl, hzs, hl.one hone⟩⟩
  · cases h3

end
end Go.Ev

namespace Go.Ev

/-- A running frame over the base b. -/
def fr (b : Frame) (T : Array Value) (d : List Deferred) (todo : List Item) : Frame :=
  { fn := b.fn, tmps := T, todo, defers := d, mode := .run, kind := b.kind, roundOf := b.roundOf }

theorem fr_eval (b : Frame) (T : Array Value) (d : List Deferred) (todo : List Item) (x : Operand) : (fr b T d todo).eval x = (Act.mk T d).eval x := by
  cases x <;> rfl
theorem fr_eval' (b : Frame) (T : Array Value) (d : List Deferred) (todo : List Item) : (fr b T d todo).eval = (Act.mk T d).eval := funext (fr_eval b T d todo)

def tput (dst : Option Tmp) (v : Value) (T : Array Value) : Array Value := match dst with | some d => T.setIfInBounds d v | none => T

section steps
variable {P : Program} {b : Frame} {T : Array Value} {d : List Deferred} {k : List Item} {cs : List Frame} {w : World}

theorem st_skip : step P (lone (fr b T d (.code .skip :: k)) cs w) = .next (lone (fr b T d k) cs w) :=
  step_lone_go (by simp [stepG, stepG.exec, fr])
theorem st_label {l : Nat} : step P (lone (fr b T d (.code (.label l) :: k)) cs w) = .next (lone (fr b T d k) cs w) :=
  step_lone_go (by simp [stepG, stepG.exec, fr])
theorem st_inBlock {id : Nat} : step P (lone (fr b T d (.inBlock id :: k)) cs w) = .next (lone (fr b T d k) cs w) :=
  step_lone_go (by simp [stepG, stepG.exec, fr])
theorem st_seq {x y : Code} : step P (lone (fr b T d (.code (.seq x y) :: k)) cs w) = .next (lone (fr b T d (.code x :: .code y :: k)) cs w) :=
  step_lone_go (by simp [stepG, stepG.exec, fr])
theorem st_block {id : Nat} {c : Code} : step P (lone (fr b T d (.code (.block id c) :: k)) cs w) = .next (lone (fr b T d (.code c :: .inBlock id :: k)) cs w) :=
  step_lone_go (by simp [stepG, stepG.exec, fr])
theorem st_loop {c : Code} : step P (lone (fr b T d (.code (.loop c) :: k)) cs w) = .next (lone (fr b T d (.code c :: .inLoop c :: k)) cs w) :=
  step_lone_go (by simp [stepG, stepG.exec, fr])
theorem st_inLoop {c : Code} : step P (lone (fr b T d (.inLoop c :: k)) cs w) = .next (lone (fr b T d (.code c :: .inLoop c :: k)) cs w) :=
  step_lone_go (by simp [stepG, stepG.exec, fr])
theorem st_exit {id : Nat} {k' : List Item} (h : exitTo id k = some k') :
    step P (lone (fr b T d (.code (.exit id) :: k)) cs w) = .next (lone (fr b T d k') cs w) :=
  step_lone_go (by simp [stepG, stepG.exec, fr, h])
theorem st_cond {c : Operand} {x y : Code} {t : Bool} (h : (Act.mk T d).eval c = .bool t) :
    step P (lone (fr b T d (.code (.cond c x y) :: k)) cs w) = .next (lone (fr b T d (.code (if t then x else y) :: k)) cs w) :=
  step_lone_go (by
    have := fr_eval b T d (.code (.cond c x y) :: k) c
    simp only [fr] at this
    simp [stepG, stepG.exec, fr, this, h])
theorem st_region {id : Nat} {ops : Array Oper} :
    step P (lone (fr b T d (.code (.region id ops false) :: k)) cs w) = .next (lone (fr b T d (.inRegion ops (List.range ops.size) :: k)) cs w) :=
  step_lone_go (by simp [stepG, stepG.exec, fr])
theorem st_region_draw {id : Nat} {ops : Array Oper} :
    step P (lone (fr b T d (.code (.region id ops true) :: k)) cs w) =
      .next (lone (fr b T d (.inRegion ops (Region.schedule (P.follows .mixedOrders) ops (w.tape w.drawn (.order b.fn id))) :: k)) cs { w with drawn := w.drawn + 1 }) :=
  step_lone_go (by simp [stepG, stepG.exec, fr, choose, Sem.run, Question.forced, Question.cut])
theorem st_region_end {ops : Array Oper} : step P (lone (fr b T d (.inRegion ops [] :: k)) cs w) = .next (lone (fr b T d k) cs w) :=
  step_lone_go (by simp [stepG, stepG.exec, fr])

theorem finish_fr {ops : Array Oper} {i : Nat} {o : Oper} {rest : List Nat} (ho : ops[i]? = some o) (v : Value) :
    (fr b T d (.inRegion ops (i :: rest) :: k)).finish v = fr b (tput o.dst v T) d (.inRegion ops rest :: k) := by
  simp only [fr, Frame.finish, ho, Option.bind_some]
  cases h : o.dst <;> simp [tput]

theorem st_op_skip {ops : Array Oper} {i : Nat} {o : Oper} {rest : List Nat} (ho : ops[i]? = some o) (h : Region.wanted o (yielded ops T) = false) :
    step P (lone (fr b T d (.inRegion ops (i :: rest) :: k)) cs w) = .next (lone (fr b (tput o.dst undef T) d (.inRegion ops rest :: k)) cs w) := by
  rw [← finish_fr ho]
  refine step_lone_go ?_
  simp only [fr] at *
  simp [stepG, stepG.exec, ho, h]

theorem stepG_fr {ops : Array Oper} {i : Nat} {o : Oper} {rest : List Nat} (ho : ops[i]? = some o) (hw : Region.wanted o (yielded ops T) = true) (hd : b.roundOf = none ∨ ∀ c, o.op ≠ .defer c) :
    stepG P true { frame := fr b T d (.inRegion ops (i :: rest) :: k), callers := cs, status := .running, dying := none } w =
      stepG.apply P true (fr b T d (.inRegion ops (i :: rest) :: k)) cs none (execOp (Act.mk T d).eval o) w := by
  have he := fr_eval' b T d (.inRegion ops (i :: rest) :: k)
  simp only [fr] at he
  have : ∀ (r : Option Nat), (r = none ∨ ∀ c, o.op ≠ .defer c) → (match r, o.op with
      | some l, .defer c => stepG.apply P true (fr b T d (.inRegion ops (i :: rest) :: k)) cs none (do Instr.deferInRound l (← resolve (Act.mk T d).eval c o.type); pure .skip) w
      | _, _ => stepG.apply P true (fr b T d (.inRegion ops (i :: rest) :: k)) cs none (execOp (Act.mk T d).eval o) w) = stepG.apply P true (fr b T d (.inRegion ops (i :: rest) :: k)) cs none (execOp (Act.mk T d).eval o) w := by
    intro r hr
    split
    · rename_i l c h1
      rcases hr with h | h
      · cases h
      · exact absurd (by assumption) (h _)
    · rfl
  have key := this b.roundOf hd
  simp only [fr] at key
  simp [stepG, stepG.exec, stepG.oper, Frame.oper?, fr, ho, hw, he]
  exact key

theorem st_value {ops : Array Oper} {i : Nat} {o : Oper} {rest : List Nat} {v : Value} {w' : World} (ho : ops[i]? = some o) (hw : Region.wanted o (yielded ops T) = true) (hd : b.roundOf = none ∨ ∀ c, o.op ≠ .defer c)
    (hr : (execOp (Act.mk T d).eval o).run P w = .ok (.value v) w' ∨ ((execOp (Act.mk T d).eval o).run P w = .ok .skip w' ∧ v = undef)) :
    step P (lone (fr b T d (.inRegion ops (i :: rest) :: k)) cs w) = .next (lone (fr b (tput o.dst v T) d (.inRegion ops rest :: k)) cs w') := by
  rw [← finish_fr ho]
  refine step_lone_go ?_
  rw [stepG_fr ho hw hd]
  rcases hr with hr | ⟨hr, rfl⟩ <;> simp [stepG.apply, hr]
theorem st_defer {ops : Array Oper} {i : Nat} {o : Oper} {rest : List Nat} {dd : Deferred} {w' : World} (ho : ops[i]? = some o) (hw : Region.wanted o (yielded ops T) = true) (hd : b.roundOf = none)
    (hr : (execOp (Act.mk T d).eval o).run P w = .ok (.defer dd) w') :
    step P (lone (fr b T d (.inRegion ops (i :: rest) :: k)) cs w) = .next (lone (fr b (tput o.dst undef T) (dd :: d) (.inRegion ops rest :: k)) cs w') := by
  have := finish_fr (b := b) (T := T) (d := dd :: d) (k := k) (rest := rest) ho undef
  rw [← this]
  refine step_lone_go ?_
  rw [stepG_fr ho hw (.inl hd)]
  simp [stepG.apply, hr, fr]
theorem st_enter {ops : Array Oper} {i : Nat} {o : Oper} {rest : List Nat} {f : FuncId} {args : Array Value} {w' : World} (ho : ops[i]? = some o) (hw : Region.wanted o (yielded ops T) = true) (hd : b.roundOf = none ∨ ∀ c, o.op ≠ .defer c)
    (hr : (execOp (Act.mk T d).eval o).run P w = .ok (.enter f args) w') :
    step P (lone (fr b T d (.inRegion ops (i :: rest) :: k)) cs w) = .next (lone (Frame.enter P f args .normal) (fr b T d (.inRegion ops (i :: rest) :: k) :: cs) w') := by
  refine step_lone_go ?_
  rw [stepG_fr ho hw hd]
  simp [stepG.apply, hr, fr]
theorem st_round {ops : Array Oper} {i : Nat} {o : Oper} {rest : List Nat} {l : Nat} {f : FuncId} {tm : Array Value} {a c : Code} {w' : World} (ho : ops[i]? = some o) (hw : Region.wanted o (yielded ops T) = true) (hd : b.roundOf = none ∨ ∀ c, o.op ≠ .defer c)
    (hr : (execOp (Act.mk T d).eval o).run P w = .ok (.round l f tm a c) w') :
    step P (lone (fr b T d (.inRegion ops (i :: rest) :: k)) cs w) = .next (lone (Frame.round l f tm a c .normal) (fr b T d (.inRegion ops (i :: rest) :: k) :: cs) w') := by
  refine step_lone_go ?_
  rw [stepG_fr ho hw hd]
  simp [stepG.apply, hr]
theorem st_recover {ops : Array Oper} {i : Nat} {o : Oper} {rest : List Nat} {w' : World} (ho : ops[i]? = some o) (hw : Region.wanted o (yielded ops T) = true) (hd : b.roundOf = none)
    (hr : (execOp (Act.mk T d).eval o).run P w = .ok .recover w') (ht : tryRecover (fr b T d (.inRegion ops (i :: rest) :: k)) cs = none) :
    step P (lone (fr b T d (.inRegion ops (i :: rest) :: k)) cs w) = .next (lone (fr b (tput o.dst .nilIface T) d (.inRegion ops rest :: k)) cs w') := by
  rw [← finish_fr ho]
  refine step_lone_go ?_
  rw [stepG_fr ho hw (.inl hd)]
  have h1 : (fr b T d (.inRegion ops (i :: rest) :: k)).roundOf = none := hd
  simp only [stepG.apply, Sem.runT_eq, if_true, hr, h1, ht, GStep.bare_after, GStep.bare_go]
end steps

/-! Calls -/
def backTo (kd : CallKind) (c : Frame) (v : Value) : Frame := match kd with | .deferred => c | _ => c.finish v
def KindOK (f : Fn) (kd : CallKind) (c : Frame) : Prop := kd = .normal ∨ (kd = .deferred ∧ c.mode = .returning ∧ ∃ g, f = .func g)
def CallSem (f : Fn) (vs : Array Value) : Sem Next := match f with | .func f => callFunc f vs | .yield l => Instr.yield l vs | _ => stuck ""
def CallGoes (P : Program) (kd : CallKind) (c : Frame) (cs : List Frame) (s : Sem Next) (w : World) (v' : Value) (w' : World) : Prop := match s.run P w with
  | .ok (.value v) w1 => v = v' ∧ w1 = w'
  | .ok (.enter f args) w1 => Steps P (lone (Frame.enter P f args kd) (c :: cs) w1) (lone (backTo kd c v') cs w')
  | .ok (.round l f tm a b) w1 => Steps P (lone (Frame.round l f tm a b kd) (c :: cs) w1) (lone (backTo kd c v') cs w')
  | _ => False
inductive FnR (e : Env) : Fn → Fn → Prop
  | func (f : FuncId) : FnR e (.func f) (.func f)
  | yield {b : Nat} {p : Place} (h : e b = some p) : FnR e (.yield b) (.yield p.r)
def SoundCall (P : Program) (σ : Sg) (G : Nat → Bool) (call : CallFn) : Prop := ∀ f args m k, call f args m k = true → Sat σ m.tab →
  ∃ v m', k v m' = true ∧ Sat σ m'.tab ∧ ∀ (e : Env) (w : World) (f' : Fn) (vs : Array Value) (kd : CallKind) (c : Frame) (cs : List Frame), RL σ G e m w → FnR e f f' → LR σ e args vs.toList → KindOK f kd c →
    ∃ v' w' e', CallGoes P kd c cs (CallSem f' vs) w v' w' ∧ VR σ e' v v' ∧ RL σ G e' m' w' ∧ Kept e m w e' m' w'

inductive DR1 (σ : Sg) (e : Env) : DF → Deferred → Prop
  | call (f : FuncId) {args cap : List CV} {vs us : Array Value} (h1 : LR σ e args vs.toList) (h2 : LR σ e cap us.toList) : DR1 σ e (.call (.func f) args cap) { target := .fn (.func f) us, args := vs }
  | coll {b : Nat} {p : Place} (h : e b = some p) : DR1 σ e (.coll b) { target := .collected p.r, args := #[] }
inductive DR (σ : Sg) (e : Env) : List DF → List Deferred → Prop
  | nil : DR σ e [] []
  | cons {x : DF} {y : Deferred} {xs : List DF} {ys : List Deferred} (h : DR1 σ e x y) (hs : DR σ e xs ys) : DR σ e (x :: xs) (y :: ys)
theorem DR1.mono {σ : Sg} {e e' : Env} (he : Ext e e') {x : DF} {y : Deferred} (h : DR1 σ e x y) : DR1 σ e' x y := by
  cases h with
  | call f h1 h2 => exact .call f (h1.mono he) (h2.mono he)
  | coll h => obtain ⟨p', h', hr, _⟩ := he _ _ h; rw [← hr]; exact .coll h'
theorem DR.mono {σ : Sg} {e e' : Env} (he : Ext e e') {x : List DF} {y : List Deferred} (h : DR σ e x y) : DR σ e' x y := by
  induction h with
  | nil => exact .nil
  | cons h _ ih => exact .cons (h.mono he) ih

/-- where code may run -/
def FrOK (rd : Bool) (b : Frame) (cs : List Frame) : Prop := match rd with
  | false => b.roundOf = none ∧ (b.kind = .normal ∨ (b.kind = .deferred ∧ ∃ c cs', cs = c :: cs' ∧ (c.mode = .returning ∨ ∃ v older, c.mode = .panicking ({ v := v, recovered := true } :: older))))
  | true => ∃ l, b.roundOf = some l

theorem FrOK.norec {b : Frame} {cs : List Frame} (h : FrOK false b cs) (T : Array Value) (d : List Deferred) (k : List Item) : tryRecover (fr b T d k) cs = none := by
  obtain ⟨_, hk⟩ := h
  rcases hk with hk | ⟨hk, c, cs', rfl, hm⟩ <;> simp [tryRecover, fr, hk]
  rcases hm with hm | ⟨v, older, hm⟩ <;> simp [hm]

end Go.Ev

namespace Go.Ev

section
variable {P : Program} {σ : Sg} {G : Nat → Bool} {m : M} {k : KA}

/-- memory that no live block names may change -/
theorem RL.off {e : Env} {w w' : World} (hR : RL σ G e m w) (h : ∀ b q, e b = some q → q.live = true → w'.heap[q.r]? = w.heap[q.r]?) (hx : ∀ r o, σ.fx r = some o → w'.heap[r]? = w.heap[r]?) : RL σ G e m w' := by
  refine ⟨fun b p cb hb hc => ?_, hR.dom, hR.inj, hR.bnd, hR.glo, fun r o hr => ⟨by rw [hx r o hr]; exact (hR.fix r o hr).1, (hR.fix r o hr).2⟩, hR.pin⟩
  have old := hR.hr b p cb hb hc
  split at old
  · rename_i hl
    obtain ⟨o, h1, h2⟩ := old
    simp only [hl, if_true]
    exact ⟨o, by rw [h b p hb hl]; exact h1, h2⟩
  · rename_i hl
    simp only [hl]
    exact old

theorem liesAt_bytes' {e : TypeId} (hc : P.cellsOf e = 1) (count off n : Nat) (hn : off + n ≤ count) : liesAt P P.depth e count off e n = true := by
  have hd : P.depth = (2 * (P.types.size + Made.depth) + 1) + 1 := rfl
  rw [hd]
  simp only [liesAt, Bool.or_eq_true]
  left
  rw [hd]
  simp [rowAt, hc, hn, sameLayout, Nat.mod_one]

/-- unsafe.String over bytes that lie within a row -/
theorem run_ustr (w : World) (pt it ty e : TypeId) (hp : P.underlying pt = some (.pointer e)) (hc : P.cellsOf e = 1) (g off cells : Nat) (hsh : w.shape? g = some (e, cells)) (l : List UInt8) (h0 : l ≠ []) (hn : off + l.length ≤ cells)
    (h63 : l.length ≤ 9223372036854775807) (hcell : ∀ j x, l[j]? = some x → w.cell? ((⟨g, off, none⟩ : Addr).add j) = some (.int .u8 x.toNat)) :
    (Builtin.unsafeString_ #[pt, it] ty #[.pointer (some ⟨g, off, none⟩), .int .i64 l.length]).run P w = .ok (.string ⟨l.toArray⟩) (w.freeze ⟨g, off, none⟩ l.length) := by
  have hl : l.length ≠ 0 := by simpa using h0
  have hlb := Lib.run_loadBytes (P := P) w l ⟨g, off, none⟩ .empty hcell
  have hlies := liesAt_bytes' (P := P) hc (cells / P.cellsOf e) off l.length (by rw [hc]; simpa using hn)
  have h63' : ¬ (9223372036854775807 : Int) < (l.length : Int) := by omega
  have hdef : Builtin.unsafeString_ #[pt, it] ty #[.pointer (some ⟨g, off, none⟩), .int .i64 l.length] =
      (do
        let n ← asInt (.int .i64 l.length)
        if n < 0 then runtimePanic (.error "unsafe.String: len out of range")
        if n > IntKind.i64.max then unsupported (.unsafePointer "String: a length above the largest int")
        if n = 0 then pure (.string .empty)
        else if ← variablesAt ⟨g, off, none⟩ (← elemOf pt) n.toNat then do
          let s ← loadBytes ⟨g, off, none⟩ .empty n.toNat
          freeze ⟨g, off, none⟩ n.toNat
          pure (.string s)
        else unsupported (.unsafePointer "String: not so many bytes at ptr")) := rfl
  rw [hdef]
  have hmax : IntKind.i64.max = 9223372036854775807 := rfl
  have hneg : ¬ (l.length : Int) < 0 := by omega
  simp [asInt, asIntOf, hmax, h63', hneg, hl, variablesAt, hsh, elemOf, run_underlying hp, hlies, hlb]

theorem bytesOf?_inv : ∀ {l : List CV} {bs : List UInt8}, bytesOf? l = some bs → l = bs.map fun b => CV.int .u8 (Int.ofNat b.toNat)
  | [], bs, h => by simp [bytesOf?] at h; subst h; rfl
  | c :: l, bs, h => by
    unfold bytesOf? at h
    split at h
    · rename_i heq
      cases heq
    · rename_i x l' heq
      injection heq with h1 h2
      subst h1; subst h2
      split at h
      · rename_i hx
        split at h
        · rename_i bs' hb
          injection h with h
          subst h
          have hx : x < 256 := by simpa [Nat.blt_eq] using hx
          rw [bytesOf?_inv hb]
          simp only [List.map_cons, List.cons.injEq, CV.int.injEq, true_and, and_true]
          congr 1
          simp; omega
        · cases h
      · cases h
    · cases h

theorem byteForms_inv {iv : Ivs} (hs : SatI σ.i iv) : ∀ {l : List CV} {fs : List (Int × Ts)}, byteForms iv l = some fs → fs.length = l.length ∧ (∀ f ∈ fs, 0 ≤ lfVal σ.i f.1 f.2 ∧ lfVal σ.i f.1 f.2 ≤ 255) ∧ ∀ (j : Nat) f v, fs[j]? = some f → l[j]? = some v → ∀ (e : Env) u, VR σ e v u → u = .int .u8 (lfVal σ.i f.1 f.2)
  | [], fs, h => by
    obtain rfl : [] = fs := Option.some.inj h
    exact ⟨rfl, fun f hf => (by cases hf), fun j f v hf => by simp at hf⟩
  | v :: l, fs, h => by
    unfold byteForms at h
    split at h
    · rename_i f hf
      split at h
      · rename_i fs' hfs
        obtain rfl := Option.some.inj h
        obtain ⟨q1, q2, q3⟩ := byteForms_inv hs hfs
        unfold byteForm at hf
        split at hf
        · rename_i kd c ts hlin
          split at hf
          · split at hf
            · rename_i lo hi hb
              split at hf
              · rename_i hle
                obtain rfl := Option.some.inj hf
                simp only [leI_eq, Bool.and_eq_true, decide_eq_true_eq] at hle
                have bd := bndL_val hs hb
                refine ⟨by simp [q1], fun f hf => ?_, fun j f w hf hw e u hu => ?_⟩
                · rcases List.mem_cons.1 hf with rfl | hf
                  · exact ⟨by simp only []; omega, by simp only []; omega⟩
                  · exact q2 f hf
                · cases j with
                  | zero =>
                    simp only [List.getElem?_cons_zero, Option.some.injEq] at hf hw
                    subst hf; subst hw
                    exact linOf_inv hlin hu
                  | succ j => exact q3 j f w (by simpa using hf) (by simpa using hw) e u hu
              · cases hf
            · cases hf
          · cases hf
        · cases hf
      · cases h
    · cases h

theorem ustrC_inv {e pt : TypeId} {v : CV} {n : Nat} (hh : ustrC e v n m k = true) (hs : Sat σ m.tab) (hp : P.underlying pt = some (.pointer e)) (hc : P.cellsOf e = 1) :
    ∃ r m', k r m' = true ∧ m'.tab = m.tab ∧ ∀ (en : Env) (w : World) (u : Value) (it rt : TypeId), RL σ G en m w → VR σ en v u →
      ∃ r' w' e', (Builtin.unsafeString_ #[pt, it] rt #[u, .int .i64 (Int.ofNat n)]).run P w = .ok r' w' ∧ VR σ e' r r' ∧ RL σ G e' m' w' ∧ Kept en m w e' m' w' := by
  have empty : ∀ (q : Option Addr) (it rt : TypeId) (w : World), (Builtin.unsafeString_ #[pt, it] rt #[.pointer q, .int .i64 (Int.ofNat 0)]).run P w = .ok (.string .empty) w :=
    fun q it rt w => Lib.run_unsafeString_none (P := P) w pt it rt q
  cases v <;> simp only [ustrC] at hh <;> first | (cases hh; done) | skip
  · split at hh
    · rename_i h0
      have h0 : n = 0 := by simpa using h0
      subst h0
      refine ⟨_, _, hh, rfl, fun en w u it rt hR hv => ?_⟩
      cases hv
      exact ⟨_, w, en, empty _ it rt w, .str _ rfl rfl, hR, .refl _ _ _⟩
    · cases hh
  · rename_i b off
    split at hh
    · rename_i h0
      have h0 : n = 0 := by simpa using h0
      subst h0
      refine ⟨_, _, hh, rfl, fun en w u it rt hR hv => ?_⟩
      cases hv
      exact ⟨_, w, en, empty _ it rt w, .str _ rfl rfl, hR, .refl _ _ _⟩
    · rename_i h0
      have h0 : n ≠ 0 := fun h => by subst h; exact absurd h0 (by simp)
      obtain ⟨te, lo, es, sz, cs, hcb, h1⟩ := withCells_inv hh
      split at h1
      · rename_i hb
        simp only [Bool.and_eq_true, Nat.beq_eq] at hb
        obtain ⟨hte, hfit, hsmall⟩ := hb
        have hfit := Nat.le_of_ble_eq_true hfit
        have hsmall := Nat.le_of_ble_eq_true hsmall
        subst hte
        obtain ⟨l, hlen, hrow, h2⟩ := loadN_inv h1
        have fin : ∀ (r : CV) (h' : Hp), k r ⟨h', m.n, m.tab⟩ = true → (∀ x, h'.get? x = if x = b then some .none else m.h.get? x) →
            (∀ (en : Env) (vs : List Value), LR σ en l vs → ∃ bs : List UInt8, bs.length = n ∧ (∀ (j : Nat) (x : UInt8), bs[j]? = some x → vs[j]? = some (Value.int .u8 x.toNat)) ∧ ∀ e', VR σ e' r (.string ⟨bs.toArray⟩)) →
            ∃ r m', k r m' = true ∧ m'.tab = m.tab ∧ ∀ (en : Env) (w : World) (u : Value) (it rt : TypeId), RL σ G en m w → VR σ en (.ptr b off) u →
              ∃ r' w' e', (Builtin.unsafeString_ #[pt, it] rt #[u, .int .i64 (Int.ofNat n)]).run P w = .ok r' w' ∧ VR σ e' r r' ∧ RL σ G e' m' w' ∧ Kept en m w e' m' w' := by
          intro r h' h3 hh' hb
          refine ⟨r, _, h3, rfl, fun en w u it rt hR hv => ?_⟩
          cases hv with
          | @ptr _ _ p hpb =>
            obtain ⟨hlive, c, el, fz, hw, hsz, hex, hout, hin, hfz, hTE⟩ := hR.hr.cells hpb hcb
            have hel : el = e := hTE e rfl
            subst hel
            obtain ⟨vs, hvs, hget⟩ := row_real hout hin hrow
            obtain ⟨bs, hbl, hbv, hbr⟩ := hb en vs hvs
            have hsh : w.shape? p.r = some (el, c.size) := by simp [World.shape?, hw]
            have hcell : ∀ j x, bs[j]? = some x → w.cell? ((⟨p.r, off + p.d, none⟩ : Addr).add j) = some (.int .u8 x.toNat) := by
              intro j x hj
              rw [addr_add]
              simp [World.cell?, hw, hget j _ (hbv j x hj)]
            have hrun := run_ustr (P := P) w pt it rt el hp hc p.r (off + p.d) c.size hsh bs (fun h => by rw [h] at hbl; exact h0 hbl.symm) (by rw [hsz, hbl]; omega) (by omega) hcell
            rw [hbl] at hrun
            obtain ⟨hRk, hKk⟩ := hR.kill hpb hh'
            have hheap : ∀ r, r ≠ p.r → (w.freeze ⟨p.r, off + p.d, none⟩ n).heap[r]? = w.heap[r]? := by
              intro r hr
              simp only [World.freeze, h0, if_false]
              rw [Array.getElem?_modify, if_neg (fun h => hr h.symm)]
            have hkl : ∀ x q, en.kill b x = some q → q.live = true → q.r ≠ p.r := by
              intro x q hq hql he
              by_cases hxb : x = b
              · subst hxb; simp [Env.kill, hpb] at hq; subst hq; cases hql
              · have hq' : en x = some q := by simpa [Env.kill, hxb] using hq
                exact hxb (hR.inj _ _ _ _ hq' hpb hql hlive he)
            have hsize : (w.freeze ⟨p.r, off + p.d, none⟩ n).heap.size = w.heap.size := by simp [World.freeze, h0]
            have hos : (w.freeze ⟨p.r, off + p.d, none⟩ n).tape = w.tape ∧ (w.freeze ⟨p.r, off + p.d, none⟩ n).os = w.os ∧ (w.freeze ⟨p.r, off + p.d, none⟩ n).output = w.output := by
              simp [World.freeze, h0]
            refine ⟨_, _, en.kill b, hrun, hbr _, hRk.off (fun x q hq hql => hheap _ (hkl x q hq hql)) (fun r o hr => hheap r (fun he => by have := hR.nofx hpb hlive; rw [← he, hr] at this; cases this)), ?_⟩
            exact ⟨hKk.ext, hKk.nle, hKk.unb, by rw [hsize]; exact hKk.siz, fun r hr hn => hheap r (fun he => hn b p hpb hlive he.symm), hKk.rng, hos.1, hos.2.1, hos.2.2⟩
        split at h2
        · rename_i bs hbs
          rw [forceN_eq] at h2
          obtain ⟨h', h3, _, hh'⟩ := setK_inv _ _ _ _ h2
          have hl := bytesOf?_inv hbs
          have hbl : bs.length = n := by rw [← hlen, hl]; simp
          refine fin _ h' h3 hh' fun en vs hvs => ⟨bs, hbl, fun j x hj => ?_, fun e' => .str _ (by show bs.toArray.size = n; simpa using hbl) (by simp)⟩
          have hlj : l[j]? = some (CV.int .u8 (Int.ofNat x.toNat)) := by rw [hl]; simp [hj]
          obtain ⟨v', q1, q2⟩ := hvs.get hlj
          cases q2
          exact q1
        · split at h2
          · rename_i fs hfs
            obtain ⟨h', h3, _, hh'⟩ := setK_inv _ _ _ _ h2
            obtain ⟨q1, q2, q3⟩ := byteForms_inv hs.iv hfs
            refine fin _ h' h3 hh' fun en vs hvs => ⟨fs.map fun f => UInt8.ofNat (lfVal σ.i f.1 f.2).toNat, by rw [List.length_map, q1, hlen], fun j x hj => ?_, fun e' => .lstr fs _ ?_⟩
            · rw [List.getElem?_map, Option.map_eq_some_iff] at hj
              obtain ⟨f, hf, rfl⟩ := hj
              have hjl : j < l.length := by rw [← q1]; exact (List.getElem?_eq_some_iff.1 hf).1
              obtain ⟨v', h4, h5⟩ := hvs.get (List.getElem?_eq_getElem hjl)
              have e1 := q3 j f _ hf (List.getElem?_eq_getElem hjl) _ _ h5
              have b1 := q2 f (List.mem_of_getElem? hf)
              rw [h4, e1]
              have : ((UInt8.ofNat (lfVal σ.i f.1 f.2).toNat).toNat : Int) = lfVal σ.i f.1 f.2 := by
                simp only [UInt8.toNat_ofNat']
                omega
              rw [this]
            · show (fs.map fun f => UInt8.ofNat (lfVal σ.i f.1 f.2).toNat).map _ = _
              rw [List.map_map]
              refine List.map_congr_left fun f hf => ?_
              have b1 := q2 f hf
              show ((UInt8.ofNat (lfVal σ.i f.1 f.2).toNat).toNat : Int) = _
              simp only [UInt8.toNat_ofNat']
              omega
          · cases h2
      · cases h1

end
end Go.Ev

namespace Go.Ev

section
variable {P : Program} {σ : Sg} {G : Nat → Bool}

def Put (dst : Option Tmp) (v : CV) (t t' : Tm) : Prop := match dst with
  | none => t' = t
  | some d => (∃ y, t.get? d = some y) ∧ ∀ j, t'.get? j = if j = d then some v else t.get? j
theorem putT_inv {dst : Option Tmp} {v : CV} {t : Tm} {k : Tm → Bool} (h : putT dst v t k = true) : ∃ t', k t' = true ∧ Put dst v t t' := by
  cases dst with
  | none => exact ⟨t, h, rfl⟩
  | some d =>
    obtain ⟨t', h1, h2, h3⟩ := setK_inv _ _ _ _ (show setK v t d k = true from h)
    exact ⟨t', h1, h2, h3⟩
theorem TR.put {e : Env} {t t' : Tm} {T : Array Value} {dst : Option Tmp} {c : CV} {v : Value} (h : TR σ e t T) (hv : VR σ e c v) (hp : Put dst c t t') : TR σ e t' (tput dst v T) := by
  cases dst with
  | none => rw [show t' = t from hp]; exact h
  | some d => exact h.set hv hp.1 hp.2

theorem TR.ops {e : Env} {t : Tm} {T : Array Value} {D : List Deferred} {m : M} {w : World} (h : TR σ e t T) (hR : RL σ G e m w) (x : Operand) (c : CV) (hx : OV G t x c) : VR σ e c ((Act.mk T D).eval x) := by
  cases x with
  | tmp i =>
    obtain ⟨v, hv, hr⟩ := h.get hx
    simpa [Act.eval, hv] using hr
  | const v => exact ofValue_VR hx
  | global g =>
    obtain ⟨hg, rfl⟩ := hx
    obtain ⟨p, hp, h1, h2⟩ := hR.glo g hg
    have := VR.ptr (σ := σ) (o := 0) hp
    rw [h1, h2] at this
    exact this
  | func f => rw [show c = _ from hx]; exact .fn f rfl rfl (fun i c v h => by simp at h) (fun i c v h => by simp at h)

/-- the guard's answer -/
def GuardSem (σ : Sg) (ops : Array Oper) (o : Oper) (t : Tm) (wnt : Bool) : Prop :=
  ∀ (e : Env) (T : Array Value), (∀ j want oj d c, o.guard = some (j, want) → ops[j]? = some oj → oj.dst = some d → t.get? d = some c → ∃ v, T[d]? = some v ∧ VR σ e c v) → Region.wanted o (yielded ops T) = wnt
theorem guardC_inv {ops : Array Oper} {o : Oper} {t : Tm} {k : Bool → Bool} (h : guardC ops o t k = true) : ∃ wnt, k wnt = true ∧ GuardSem σ ops o t wnt := by
  simp only [guardC] at h
  split at h
  · rename_i hg
    exact ⟨true, h, fun e T _ => by simp [Region.wanted, hg]⟩
  · rename_i j want hg
    split at h
    · rename_i oj hj
      split at h
      · rename_i d hd
        obtain ⟨c, hc, h1⟩ := getK_inv h
        have yl : ∀ {e : Env} {T : Array Value} {v : Value}, (∀ j want oj d c, o.guard = some (j, want) → ops[j]? = some oj → oj.dst = some d → t.get? d = some c → ∃ v, T[d]? = some v ∧ VR σ e c v) → VR σ e c v →
            (∀ u, VR σ e c u → u = v) → yielded ops T j = (match v with | .bool b => some b | _ => none) := by
          intro e T v hT hv hu
          obtain ⟨u, h1, h2⟩ := hT j want oj d c hg hj hd hc
          rw [hu u h2] at h1
          simp only [yielded, hj, Option.bind_some, hd, h1]
          cases v <;> rfl
        cases c <;> first | (cases h1; done) | skip
        · rename_i b
          have hw : ∀ {e : Env} {T : Array Value}, (∀ j want oj d c, o.guard = some (j, want) → ops[j]? = some oj → oj.dst = some d → t.get? d = some c → ∃ v, T[d]? = some v ∧ VR σ e c v) → Region.wanted o (yielded ops T) = (b == want) := by
            intro e T hT
            have := yl (v := .bool b) hT (.bool b) (fun u hu => by cases hu; rfl)
            simp [Region.wanted, hg, this]
          have h1' : k (b == want) = true := by cases want <;> cases b <;> exact h1
          exact ⟨_, h1', fun e T hT => hw hT⟩
        · rename_i vs
          cases vs with
          | nil =>
            refine ⟨false, h1, fun e T hT => ?_⟩
            have := yl (v := .tuple #[]) hT (.tup rfl (fun i c v h => by simp at h)) (fun u hu => by
              cases hu with
              | tup hl hv =>
                rename_i us
                obtain ⟨l⟩ := us
                cases l with
                | nil => rfl
                | cons x l => simp at hl)
            simp [Region.wanted, hg, this]
          | cons x vs => cases h1
      · cases h
    · cases h

/-- what an operation that acts does -/
def ActSem (P : Program) (σ : Sg) (G : Nat → Bool) (rd : Bool) (ops : Array Oper) (o : Oper) (t : Tm) (m : M) (v : CV) (m' : M) : Prop :=
  ∀ (e : Env) (w : World) (T : Array Value) (D : List Deferred) (b : Frame) (cs : List Frame) (i : Nat) (rest : List Nat) (k : List Item), RL σ G e m w → (∀ x, x ∈ o.op.operands → ∀ c, OV G t x c → VR σ e c ((Act.mk T D).eval x)) →
    FrOK rd b cs → ops[i]? = some o → Region.wanted o (yielded ops T) = true →
    ∃ v' w' e', Steps P (lone (fr b T D (.inRegion ops (i :: rest) :: k)) cs w) (lone (fr b (tput o.dst v' T) D (.inRegion ops rest :: k)) cs w') ∧ VR σ e' v v' ∧ RL σ G e' m' w' ∧ Kept e m w e' m' w'

theorem actSem_of {rd : Bool} {ops : Array Oper} {o : Oper} {t : Tm} {m m' : M} {v : CV} (hd : ∀ c, o.op ≠ .defer c)
    (h : ∀ (e : Env) (w : World) (ρ : Operand → Value), RL σ G e m w → (∀ x, x ∈ o.op.operands → ∀ c, OV G t x c → VR σ e c (ρ x)) →
      ∃ n w' e', (execOp ρ o).run P w = .ok n w' ∧ ((∃ v', n = .value v' ∧ VR σ e' v v') ∨ (n = .skip ∧ v = undefC)) ∧ RL σ G e' m' w' ∧ Kept e m w e' m' w') : ActSem P σ G rd ops o t m v m' := by
  intro e w T D b cs i rest k hR ho hf hi hw
  obtain ⟨n, w', e', h1, h2, h3, h4⟩ := h e w _ hR ho
  rcases h2 with ⟨v', rfl, hv⟩ | ⟨rfl, rfl⟩
  · exact ⟨v', w', e', .one (st_value hi hw (.inr hd) (.inl h1)), hv, h3, h4⟩
  · exact ⟨undef, w', e', .one (st_value hi hw (.inr hd) (.inr ⟨h1, rfl⟩)), .tup rfl (fun i c v h => by simp at h), h3, h4⟩

theorem actC_inv {call : CallFn} (hcall : SoundCall P σ G call) {rd : Bool} {ops : Array Oper} {o : Oper} {t : Tm} {m : M} {k : KA}
    (hrec : (match o.op, rd with | .call { callee := .builtin .recover, .. }, true => false | _, _ => true) = true) (hh : actC P G call o.op t m k = true) (hs : Sat σ m.tab) :
    ∃ v m', k v m' = true ∧ Sat σ m'.tab ∧ ActSem P σ G rd ops o t m v m' := by
  obtain ⟨dst, op, type, pos, after, guard⟩ := o
  have plain : (∀ c, op ≠ .defer c) → ActOK P σ G ⟨dst, op, type, pos, after, guard⟩ t m k → ∃ v m', k v m' = true ∧ Sat σ m'.tab ∧ ActSem P σ G rd ops ⟨dst, op, type, pos, after, guard⟩ t m v m' :=
    fun hd ⟨v, m', h1, h2, h3⟩ => ⟨v, m', h1, h2, actSem_of hd h3⟩
  cases op <;> try (cases hh; done)
  case store ty x y => exact plain (fun _ h => by cases h) (act_store hh hs)
  case mapUpdate ty x i y => exact plain (fun _ h => by cases h) (act_mapUpdate hh hs)
  case call c =>
    obtain ⟨callee, ⟨args⟩, ⟨ats⟩⟩ := c
    cases callee with
    | invoke r n => cases hh
    | value f =>
      obtain ⟨fv, hfv, h1⟩ := getO_inv (show getO G f t _ = true from hh)
      obtain ⟨as, hal, hav, h2⟩ := getOs_inv h1
      have argsR : ∀ {e : Env} {ρ : Operand → Value}, (∀ x, x ∈ (Op.call ⟨.value f, ⟨args⟩, ⟨ats⟩⟩).operands → ∀ c, OV G t x c → VR σ e c (ρ x)) → LR σ e as (args.map ρ) := fun ho =>
        getOs_LR hal hav (fun x hx c hc => ho x (by simp [Op.operands, Call.operands]; exact .inr hx) c hc)
      have goes : ∀ {v : CV} {m' : M} {e e' : Env} {w w' : World} {T : Array Value} {D : List Deferred} {b : Frame} {cs : List Frame} {i : Nat} {rest : List Nat} {kk : List Item} {s : Sem Next} {v' : Value},
          ops[i]? = some ⟨dst, .call ⟨.value f, ⟨args⟩, ⟨ats⟩⟩, type, pos, after, guard⟩ → Region.wanted ⟨dst, .call ⟨.value f, ⟨args⟩, ⟨ats⟩⟩, type, pos, after, guard⟩ (yielded ops T) = true →
          (execOp (Act.mk T D).eval ⟨dst, .call ⟨.value f, ⟨args⟩, ⟨ats⟩⟩, type, pos, after, guard⟩).run P w = s.run P w → CallGoes P .normal (fr b T D (.inRegion ops (i :: rest) :: kk)) cs s w v' w' →
          Steps P (lone (fr b T D (.inRegion ops (i :: rest) :: kk)) cs w) (lone (fr b (tput dst v' T) D (.inRegion ops rest :: kk)) cs w') := by
        intro v m' e e' w w' T D b cs i rest kk s v' hi hw hrun hg
        simp only [CallGoes] at hg
        split at hg
        · rename_i v1 w1 hr
          obtain ⟨rfl, rfl⟩ := hg
          exact .one (st_value hi hw (.inr (fun _ h => by cases h)) (.inl (hrun.trans hr)))
        · rename_i g as1 w1 hr
          refine .head (st_enter hi hw (.inr (fun _ h => by cases h)) (hrun.trans hr)) ?_
          have := hg
          simp only [backTo] at this
          rw [finish_fr hi] at this
          exact this
        · rename_i l g tm a1 b1 w1 hr
          refine .head (st_round hi hw (.inr (fun _ h => by cases h)) (hrun.trans hr)) ?_
          have := hg
          simp only [backTo] at this
          rw [finish_fr hi] at this
          exact this
        · exact hg.elim
      cases fv <;> simp only [] at h2 <;> first | (cases h2; done) | skip
      · rename_i fn first cap
        cases fn <;> simp only [] at h2 <;> first | (cases h2; done) | skip
        rename_i g
        obtain ⟨v, m', h3, h4, h5⟩ := hcall _ _ _ _ h2 hs
        refine ⟨v, m', h3, h4, fun e w T D b cs i rest kk hR ho hf hi hw => ?_⟩
        have hfr := ho f (by simp [Op.operands, Call.operands]) _ hfv
        generalize hfx : (Act.mk T D).eval f = fx at hfr
        cases hfr with
        | fn _ ha hb va vb =>
          rename_i fa fc
          have hargs := argsR ho
          have hall : LR σ e (first ++ as ++ cap) ((fa ++ (args.map (Act.mk T D).eval).toArray ++ fc).toList) := by
            have := (LR.append (LR.append ⟨ha, va⟩ hargs) ⟨hb, vb⟩)
            simpa using this
          obtain ⟨v', w', e', q1, q2, q3, q4⟩ := h5 e w (.func g) _ .normal (fr b T D (.inRegion ops (i :: rest) :: kk)) cs hR (.func g) hall (.inl rfl)
          refine ⟨v', w', e', goes (v := v) (m' := m') (e := e) (e' := e') hi hw ?_ q1, q2, q3, q4⟩
          simp [execOp, resolve, hfx, Deferred.ofValue, invoke, CallSem]
      · rename_i bl
        obtain ⟨v, m', h3, h4, h5⟩ := hcall _ _ _ _ h2 hs
        refine ⟨v, m', h3, h4, fun e w T D b cs i rest kk hR ho hf hi hw => ?_⟩
        have hfr := ho f (by simp [Op.operands, Call.operands]) _ hfv
        generalize hfx : (Act.mk T D).eval f = fx at hfr
        cases hfr with
        | @yld _ p hb =>
          have hargs := argsR ho
          obtain ⟨v', w', e', q1, q2, q3, q4⟩ := h5 e w (.yield p.r) (args.map (Act.mk T D).eval).toArray .normal (fr b T D (.inRegion ops (i :: rest) :: kk)) cs hR (.yield hb) (by simpa using hargs) (.inl rfl)
          refine ⟨v', w', e', goes (v := v) (m' := m') (e := e) (e' := e') hi hw ?_ q1, q2, q3, q4⟩
          simp [execOp, resolve, hfx, Deferred.ofValue, invoke, CallSem]
    | builtin bi =>
      cases bi <;> try (cases hh; done)
      · -- append
        simp only [actC] at hh
        split at hh
        · rename_i x y
          split at hh
          · rename_i tx ty
            split at hh
            · rename_i el he
              have hu := elemOfSl_inv he
              have fin : ∀ (str : Bool), strTy P str ty → (getO G x t fun v => getO G y t fun w => appendC P el str v w m k) = true →
                  ∃ v m', k v m' = true ∧ Sat σ m'.tab ∧ ActSem P σ G rd ops ⟨dst, .call ⟨.builtin .append, ⟨[x, y]⟩, ⟨[tx, ty]⟩⟩, type, pos, after, guard⟩ t m v m' := by
                intro str hst hg
                obtain ⟨cx, hcx, h1⟩ := getO_inv hg
                obtain ⟨cy, hcy, h2⟩ := getO_inv h1
                obtain ⟨v, m', h3, h4, h5⟩ := appendC_inv (σ := σ) (G := G) h2 hu hst
                refine ⟨v, m', h3, by rw [h4]; exact hs, actSem_of (fun _ h => by cases h) fun e w ρ hR ho => ?_⟩
                obtain ⟨v', w', e', q1, q2, q3, q4⟩ := h5 e w _ _ type hR (ho x (by simp [Op.operands, Call.operands]) _ hcx) (ho y (by simp [Op.operands, Call.operands]) _ hcy)
                exact ⟨.value v', w', e', by simp [execOp, resolve, invoke, builtin, q1], .inl ⟨v', rfl, q2⟩, q3, q4⟩
              split at hh
              · exact fin false ⟨_, by assumption⟩ hh
              · exact fin true (by assumption) hh
              · rename_i kd hkd
                obtain ⟨cx, hcx, h1⟩ := getO_inv hh
                obtain ⟨cy, hcy, h2⟩ := getO_inv h1
                obtain ⟨v, m', h3, h4, h5⟩ := appendZ_inv (σ := σ) (G := G) h2 hu hkd
                refine ⟨v, m', h3, by rw [h4]; exact hs, actSem_of (fun _ h => by cases h) fun e w ρ hR ho => ?_⟩
                obtain ⟨v', w', e', q1, q2, q3, q4⟩ := h5 e w _ _ type hR (ho x (by simp [Op.operands, Call.operands]) _ hcx) (ho y (by simp [Op.operands, Call.operands]) _ hcy)
                exact ⟨.value v', w', e', by simp [execOp, resolve, invoke, builtin, q1], .inl ⟨v', rfl, q2⟩, q3, q4⟩
              · cases hh
            · cases hh
          · cases hh
        · cases hh
      · -- recover
        have hrd : rd = false := by cases rd; rfl; cases hrec
        subst hrd
        refine ⟨.ifc0, m, hh, hs, fun e w T D b cs i rest kk hR ho hf hi hw => ⟨.nilIface, w, e, .one ?_, .ifc0, hR, .refl _ _ _⟩⟩
        exact st_recover hi hw hf.1 (by simp [execOp, resolve, invoke, builtin]) (hf.norec _ _ _)
      · -- unsafe.SliceData
        simp only [actC] at hh
        split at hh
        · rename_i x
          obtain ⟨c, hc, h1⟩ := getO_inv hh
          cases c <;> simp only [] at h1 <;> first | (cases h1; done) | skip
          · refine ⟨.ptr0, m, h1, hs, actSem_of (fun _ h => by cases h) fun e w ρ hR ho => ?_⟩
            have hx := ho x (by simp [Op.operands, Call.operands]) _ hc
            generalize hy : ρ x = y at hx
            cases hx
            exact ⟨.value (.pointer none), w, e, by simp [execOp, resolve, invoke, builtin, hy, Lib.run_unsafeSliceData_nil (P := P) w], .inl ⟨_, rfl, .ptr0⟩, hR, .refl _ _ _⟩
          · rename_i b off len cap
            split at h1
            · rename_i hcap
              refine ⟨.ptr b off, m, h1, hs, actSem_of (fun _ h => by cases h) fun e w ρ hR ho => ?_⟩
              have hx := ho x (by simp [Op.operands, Call.operands]) _ hc
              generalize hy : ρ x = y at hx
              cases hx with
              | @sl _ _ _ _ p hb =>
                have hcap' : cap + p.s ≠ 0 := by have : 0 < cap := by simpa [Nat.blt_eq] using hcap
                                                 omega
                have hrun := Lib.run_unsafeSliceData_row (P := P) w ats.toArray type ⟨p.r, off + p.d, none⟩ len (cap + p.s) hcap'
                exact ⟨.value (.pointer (some ⟨p.r, off + p.d, none⟩)), w, e, by simp [execOp, resolve, invoke, builtin, hy, hrun], .inl ⟨_, rfl, .ptr hb⟩, hR, .refl _ _ _⟩
            · cases h1
        · cases hh
      · -- unsafe.String
        simp only [actC] at hh
        split at hh
        · rename_i x y
          split at hh
          · rename_i pt it
            split at hh
            · rename_i el hpt
              split at hh
              · rename_i hcel
                obtain ⟨cx, hcx, h1⟩ := getO_inv hh
                obtain ⟨cy, hcy, h2⟩ := getO_inv h1
                split at h2
                · rename_i n
                  obtain ⟨v, m', h3, h4, h5⟩ := ustrC_inv (P := P) (σ := σ) (G := G) h2 hs hpt (by simpa using hcel)
                  refine ⟨v, m', h3, by rw [h4]; exact hs, actSem_of (fun _ h => by cases h) fun e w ρ hR ho => ?_⟩
                  have hy := ho y (by simp [Op.operands, Call.operands]) _ hcy
                  generalize hyy : ρ y = yv at hy
                  cases hy
                  obtain ⟨v', w', e', q1, q2, q3, q4⟩ := h5 e w _ it type hR (ho x (by simp [Op.operands, Call.operands]) _ hcx)
                  have q1' : (Builtin.unsafeString_ ⟨[pt, it]⟩ type #[ρ x, .int .i64 (n : Int)]).run P w = .ok v' w' := q1
                  exact ⟨.value v', w', e', by simp [execOp, resolve, invoke, builtin, hyy, q1'], .inl ⟨v', rfl, q2⟩, q3, q4⟩
                · cases h2
              · cases hh
            · cases hh
          · cases hh
        · cases hh

end
end Go.Ev
