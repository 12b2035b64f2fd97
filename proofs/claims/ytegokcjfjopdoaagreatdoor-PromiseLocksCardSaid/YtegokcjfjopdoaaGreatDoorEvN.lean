/- A verified evaluator for the model's code (part EvN): own work, of no program. -/
import Derived.Test.YtegokcjfjopdoaaGreatDoorEvM
namespace Go.Ev

section
variable {P : Program} {σ : Sg} {G : Nat → Bool} {t : Tm} {h : Hp} {tab : Tab} {nb : Nat} {k : KF}
variable {dst : Option Tmp} {type : TypeId} {pos : String} {after : Array Edge} {guard : Option (Nat × Bool)}

/-- entries -/
def ER (σ : Sg) (e : Env) (es : List (CV × CV × Nat)) (L : List MapEntry) : Prop :=
  es.length = L.length ∧ ∀ (i : Nat) x y, es[i]? = some x → L[i]? = some y → VR σ e x.1 y.key ∧ VR σ e x.2.1 y.val ∧ x.2.2 = y.born
theorem ER.cons_inv {e : Env} {x : CV × CV × Nat} {es : List (CV × CV × Nat)} {L : List MapEntry} (h : ER σ e (x :: es) L) :
    ∃ y L', L = y :: L' ∧ VR σ e x.1 y.key ∧ VR σ e x.2.1 y.val ∧ x.2.2 = y.born ∧ ER σ e es L' := by
  cases L with
  | nil => simp [ER] at h
  | cons y L =>
    obtain ⟨a, b, c⟩ := h.2 0 x y (by simp) (by simp)
    exact ⟨y, L, rfl, a, b, c, by simpa using h.1, fun i x' y' hx hy => h.2 (i + 1) x' y' (by simpa using hx) (by simpa using hy)⟩
theorem ER.nil_inv {e : Env} {L : List MapEntry} (h : ER σ e [] L) : L = [] := by
  cases L with
  | nil => rfl
  | cons y L => simp [ER] at h
theorem ER.cons {e : Env} {x : CV × CV × Nat} {y : MapEntry} {es : List (CV × CV × Nat)} {L : List MapEntry} (h1 : VR σ e x.1 y.key) (h2 : VR σ e x.2.1 y.val) (h3 : x.2.2 = y.born) (h : ER σ e es L) :
    ER σ e (x :: es) (y :: L) := by
  refine ⟨by simp [h.1], fun i x' y' hx hy => ?_⟩
  cases i with
  | zero => simp at hx hy; subst hx; subst hy; exact ⟨h1, h2, h3⟩
  | succ i => simp at hx hy; exact h.2 i x' y' hx hy

/-- one key against another -/
def KeyRun (P : Program) (kt : TypeId) (d : TypeDesc) (w : World) (u v : Value) (b : Bool) : Prop :=
  match d with
  | .pointer _ => Instr.sameNow d u v = none ∧ (Op.equal kt u v).run P w = .ok b w
  | _ => Instr.sameNow d u v = some b

theorem keyEq_inv {kt : TypeId} {x y : CV} {k : Bool → Bool} (hh : keyEq P kt x y h tab k = true) (hs : Sat σ tab) (hok : keyOk P kt x = true) {d : TypeDesc} (hd : P.underlying kt = some d) :
    ∃ b, k b = true ∧ ∀ {e : Env} {w : World} {u v : Value}, HR σ e h w → InjE e → VR σ e x u → VR σ e y v → KeyRun P kt d w u v b ∧ (b = true → Instr.sameBits 10000 v u = true) := by
  simp only [keyOk, hd] at hok
  cases x with
  | int kd a =>
    cases y <;> simp only [keyEq] at hh <;> first | (cases hh; done) | skip
    rename_i kd' b
    split at hh
    · rename_i hk
      have hk' : kd = kd' := by simpa using hk
      subst hk'
      refine ⟨_, hh, fun {e w u v} _ _ hu hv => ?_⟩
      cases hu; cases hv
      cases d <;> simp at hok
      refine ⟨?_, fun hb => ?_⟩
      · simp [KeyRun, Instr.sameNow, eqI_eq]
        rw [Bool.eq_iff_iff]; simp
      · have : a = b := by simpa [eqI_eq] using hb
        subst this; simp [Instr.sameBits]
    · cases hh
  | str l1 c1 =>
    cases y <;> simp only [keyEq] at hh <;> first | (cases hh; done) | skip
    rename_i l2 c2
    refine ⟨_, hh, fun {e w u v} _ _ hu hv => ?_⟩
    cases hu with
    | str s1 a1 a2 =>
      cases hv with
      | str s2 b1 b2 =>
        subst a1; subst a2; subst b1; subst b2
        cases d <;> simp at hok
        have hbb : (Nat.beq s1.size s2.size && Nat.beq (encBytes s1.data.toList) (encBytes s2.data.toList)) = (s1 == s2) := by
          rw [← strLen s1, ← strLen s2, beq_bytes, beq_toListBytes, ByteArray.toList_eq, ByteArray.toList_eq]
        refine ⟨?_, fun hb => ?_⟩
        · simp only [KeyRun, Instr.sameNow, hbb]
        · rw [hbb, beq_toListBytes, beq_iff_eq] at hb
          simp [Instr.sameBits, beq_toListBytes, hb]
  | ptr b o =>
    have hp : ∃ el, d = .pointer el := by cases d <;> simp at hok; exact ⟨_, rfl⟩
    obtain ⟨el, rfl⟩ := hp
    have fin : ∀ (b0 : Bool) (y : CV), eqC P kt (isC (.tmp 0)) (isC (.tmp 0)) (.ptr b o) y h tab (fun bb _ => bb == b0) = true → ∀ {e : Env} {w : World} {u v : Value}, HR σ e h w → InjE e → VR σ e (.ptr b o) u → VR σ e y v →
        KeyRun P kt (.pointer el) w u v b0 := by
      intro b0 y he e w u v hr hi hu hv
      obtain ⟨bb, tab', h1, h2, h3⟩ := eqC_inv (op := .eql) he hs
      have hb : bb = b0 := by simpa using h1
      subst hb
      obtain ⟨_, _, a3⟩ := h3 hr hi hu hv
      refine ⟨?_, a3⟩
      cases hu; rfl
    cases y <;> simp only [keyEq, eqC, hd] at hh <;> first | (cases hh; done) | skip
    · exact ⟨false, hh, fun {e w u v} hr hi hu hv => ⟨fin false .ptr0 (by simp [eqC, hd]) hr hi hu hv, fun h => by cases h⟩⟩
    · rename_i b' o'
      obtain ⟨i, hi, h1⟩ := szK_inv hh
      split at h1
      · cases h1
      · rename_i hz
        split at h1
        · rename_i hb
          refine ⟨_, h1, fun {e w u v} hr hij hu hv => ⟨fin _ (.ptr b' o') (by simp [eqC, hd, szK, hi, hz, hb]) hr hij hu hv, fun ht => ?_⟩⟩
          have e1 : b = b' := by simpa using hb
          have e2 : o = o' := by simpa using ht
          subst e1; subst e2
          cases hu with
          | ptr p1 =>
            cases hv with
            | ptr p2 =>
              rw [p1] at p2; cases p2
              simp [Instr.sameBits]
        · rename_i hb
          have h1' := h1
          obtain ⟨h1, lo, es, sz, cs, hc, hlo⟩ := liveB_inv h1
          have h1'' := h1
          obtain ⟨h1, lo', es', sz', cs', hc', hlo'⟩ := liveB_inv h1
          refine ⟨false, h1, fun {e w u v} hr hij hu hv => ⟨fin false (.ptr b' o') ?_ hr hij hu hv, fun h => by cases h⟩⟩
          have l1 : ∀ k, liveB h b k = k := by
            intro k
            simp only [liveB, getK_eq, hc]
            cases lo
            · rfl
            · rcases hlo with h | h
              · cases h
              · have : Nat.beq es 1 = false := by
                  cases hbe : Nat.beq es 1 with
                  | false => rfl
                  | true => exact absurd (by simpa using hbe) h
                simp [this]
          have l2 : ∀ k, liveB h b' k = k := by
            intro k
            simp only [liveB, getK_eq, hc']
            cases lo'
            · rfl
            · rcases hlo' with h | h
              · cases h
              · have : Nat.beq es' 1 = false := by
                  cases hbe : Nat.beq es' 1 with
                  | false => rfl
                  | true => exact absurd (by simpa using hbe) h
                simp [this]
          simp [eqC, hd, szK, hi, hz, hb, l1, l2]
  | _ => cases hh

/-- what the search for a key answers -/
def FindOK (P : Program) (kt : TypeId) (d : TypeDesc) (u : Value) (L : List MapEntry) (i : Nat) (w : World) (r' : Option (Nat × Value)) : Prop := match d with
  | .pointer _ => (Instr.findAsking kt u L i).run P w = .ok r' w ∧ (L ≠ [] → Instr.findNow d u L i = none)
  | _ => Instr.findNow d u L i = some r'

theorem findM_inv {kt : TypeId} {key : CV} (hs : Sat σ tab) (hok : keyOk P kt key = true) {d : TypeDesc} (hd : P.underlying kt = some d) : ∀ {es : List (CV × CV × Nat)} {k : Option CV → Bool},
    findM P kt h tab key es k = true → ∃ r, k r = true ∧ ∀ {e : Env} {w : World} {u : Value} {L : List MapEntry}, HR σ e h w → InjE e → VR σ e key u → ER σ e es L →
      ∀ i, ∃ r', FindOK P kt d u L i w r' ∧ (match r with | none => r' = none | some c => ∃ j v, r' = some (j, v) ∧ VR σ e c v)
  | [], k, hh => by
    refine ⟨none, hh, fun {e w u L} _ _ _ hL i => ⟨none, ?_, rfl⟩⟩
    rw [hL.nil_inv]
    simp only [FindOK]
    split
    · exact ⟨by simp [Instr.findAsking], fun h => absurd rfl h⟩
    · rfl
  | x :: es, k, hh => by
    have hh' : keyEq P kt key x.1 h tab (fun b => match b with | true => k (some x.2.1) | false => findM P kt h tab key es k) = true := hh
    obtain ⟨b, h1, h2⟩ := keyEq_inv hh' hs hok hd
    cases b with
    | true =>
      refine ⟨some x.2.1, h1, fun {e w u L} hr hi hu hL i => ?_⟩
      obtain ⟨y, L', rfl, a1, a2, a3, a4⟩ := hL.cons_inv
      have := (h2 hr hi hu a1).1
      refine ⟨some (i, y.val), ?_, i, y.val, rfl, a2⟩
      simp only [KeyRun] at this
      simp only [FindOK]
      split
      · rename_i el
        exact ⟨by simp [Instr.findAsking, this.2], fun _ => by simp [Instr.findNow, this.1]⟩
      · rename_i hne
        split at this
        · exact absurd rfl (hne _)
        · simp [Instr.findNow, this]
    | false =>
      obtain ⟨r, k1, k2⟩ := findM_inv hs hok hd h1
      refine ⟨r, k1, fun {e w u L} hr hi hu hL i => ?_⟩
      obtain ⟨y, L', rfl, a1, a2, a3, a4⟩ := hL.cons_inv
      have hkr := (h2 hr hi hu a1).1
      obtain ⟨r', g1, g2⟩ := k2 hr hi hu a4 (i + 1)
      refine ⟨r', ?_, g2⟩
      simp only [KeyRun] at hkr
      simp only [FindOK] at g1 ⊢
      split
      · rename_i el
        exact ⟨by simp [Instr.findAsking, hkr.2, g1.1], fun _ => by simp [Instr.findNow, hkr.1]⟩
      · rename_i hne
        split at hkr
        · exact absurd rfl (hne _)
        · split at g1
          · exact absurd rfl (hne _)
          · simp [Instr.findNow, hkr, g1]

theorem checkKey_run {kt : TypeId} {x : CV} (hok : keyOk P kt x = true) (emp : Bool) (u : Value) (w : World) : ∀ n, (Instr.checkKey emp (n + 1) kt u).run P w = .ok () w := by
  intro n
  simp only [keyOk] at hok
  cases hd : P.underlying kt with
  | none => rw [hd] at hok; cases hok
  | some d =>
    rw [hd] at hok
    simp only [Instr.checkKey, Sem.run_bind, undRun hd, Result.andThen_ok]
    cases d <;> simp at hok <;> rfl

theorem findKey_run {kt : TypeId} {d : TypeDesc} (hd : P.underlying kt = some d) {u : Value} {L : List MapEntry} {w : World} {r' : Option (Nat × Value)}
    (hr : FindOK P kt d u L 0 w r') : (Instr.findKey kt u L).run P w = .ok r' w := by
  simp only [Instr.findKey, Sem.run_bind, undRun hd, Result.andThen_ok]
  simp only [FindOK] at hr
  split at hr
  · cases L with
    | nil =>
      simp [Instr.findAsking] at hr
      subst hr
      rfl
    | cons y L => rw [hr.2 (by simp)]; exact hr.1
  · rw [hr]; rfl

theorem lookup_run {ty kt el : TypeId} (hu : P.underlying ty = some (.map kt el)) {w : World} {es : Array MapEntry} {u ui zv : Value} {ok : Bool} {r' : Option (Nat × Value)}
    (hx : (u = .map none ∧ es = #[]) ∨ ∃ r clock, u = .map (some r) ∧ w.heap[r]? = some (.map es clock)) (hck : ∀ emp, (Instr.checkKey emp 10000 kt ui).run P w = .ok () w)
    (hfk : (Instr.findKey kt ui es.toList).run P w = .ok r' w) (hz : (zeroValue el).run P w = .ok zv w) :
    (Instr.lookup ty u ui ok).run P w = .ok (match r' with
      | some (_, v) => if ok then .tuple #[v, .bool true] else v
      | none => if ok then .tuple #[zv, .bool false] else zv) w := by
  rcases hx with ⟨rfl, rfl⟩ | ⟨r, clock, rfl, hw⟩
  · cases r' with
    | none => simp [Instr.lookup, undRun hu, hck, hfk, hz]
    | some x => simp [Instr.lookup, undRun hu, hck, hfk]
  · cases r' with
    | none => simp [Instr.lookup, undRun hu, hck, hfk, hz, getObj, Sem.run, hw]
    | some x => simp [Instr.lookup, undRun hu, hck, hfk, getObj, Sem.run, hw]

theorem fl_lookup {ty : TypeId} {x i : Operand} {ok : Bool} (hh : floatC P G (.lookup ty x i ok) t h tab nb k = true) (hs : Sat σ tab) :
    FlOK P σ G ⟨dst, .lookup ty x i ok, type, pos, after, guard⟩ t h nb k := by
  simp only [floatC] at hh
  split at hh
  · rename_i kt el hu
    obtain ⟨cx, hcx, h1⟩ := getO_inv hh
    obtain ⟨ci, hci, h2⟩ := getO_inv h1
    clear h1 hh
    split at h2
    · cases h2
    · rename_i hok
      have hd0 : ∃ d, P.underlying kt = some d := by
        cases hd : P.underlying kt with
        | none => simp [keyOk, hd] at hok
        | some d => exact ⟨d, rfl⟩
      obtain ⟨d, hd⟩ := hd0
      split at h2
      · rename_i z hz
        obtain ⟨iz, zv, hiz, hzv, hzr⟩ := zeroVal_inv hz
        have fin : ∀ (r : Option CV), lkB ok z tab k r = true →
            (∀ (e : Env) (w : World) (u ui : Value), HR σ e h w → InjE e → VR σ e cx u → VR σ e ci ui → ∃ es : Array MapEntry, ((u = .map none ∧ es = #[]) ∨ ∃ r clock, u = .map (some r) ∧ w.heap[r]? = some (.map es clock)) ∧
              ∃ r', (Instr.findKey kt ui es.toList).run P w = .ok r' w ∧ (match r with | none => r' = none | some c => ∃ j v, r' = some (j, v) ∧ VR σ e c v)) →
            FlOK P σ G ⟨dst, .lookup ty x i ok, type, pos, after, guard⟩ t h nb k := by
          intro r hk hf
          have two : ∀ {e : Env} {c : CV} {v : Value} (b : Bool), VR σ e c v → VR σ e (.tup [c, .bool b]) (.tuple #[v, .bool b]) := fun b hv =>
            .tup rfl (LR.cons hv (LR.cons (.bool b) .nil)).2
          cases r with
          | some c =>
            cases ok with
            | true =>
              refine ⟨_, none, tab, hk, hs, fun e w ρ hr hij ho => ?_⟩
              obtain ⟨es, g0, r', g2, j, v, rfl, hv⟩ := hf e w _ _ hr hij (ho x (by simp [Op.operands]) _ hcx) (ho i (by simp [Op.operands]) _ hci)
              have := lookup_run (P := P) hu (ok := true) g0 (fun emp => checkKey_run hok emp _ w 9999) g2 (zeroRun hiz hzv w)
              exact ⟨_, by simp only [execOp, Sem.run_bind, this, Result.andThen_ok, Sem.run_pure]; rfl, two true hv⟩
            | false =>
              refine ⟨_, none, tab, hk, hs, fun e w ρ hr hij ho => ?_⟩
              obtain ⟨es, g0, r', g2, j, v, rfl, hv⟩ := hf e w _ _ hr hij (ho x (by simp [Op.operands]) _ hcx) (ho i (by simp [Op.operands]) _ hci)
              have := lookup_run (P := P) hu (ok := false) g0 (fun emp => checkKey_run hok emp _ w 9999) g2 (zeroRun hiz hzv w)
              exact ⟨_, by simp only [execOp, Sem.run_bind, this, Result.andThen_ok, Sem.run_pure]; rfl, hv⟩
          | none =>
            cases ok with
            | true =>
              refine ⟨_, none, tab, hk, hs, fun e w ρ hr hij ho => ?_⟩
              obtain ⟨es, g0, r', g2, rfl⟩ := hf e w _ _ hr hij (ho x (by simp [Op.operands]) _ hcx) (ho i (by simp [Op.operands]) _ hci)
              have := lookup_run (P := P) hu (ok := true) g0 (fun emp => checkKey_run hok emp _ w 9999) g2 (zeroRun hiz hzv w)
              exact ⟨_, by simp only [execOp, Sem.run_bind, this, Result.andThen_ok, Sem.run_pure]; rfl, two false (hzr σ e)⟩
            | false =>
              refine ⟨_, none, tab, hk, hs, fun e w ρ hr hij ho => ?_⟩
              obtain ⟨es, g0, r', g2, rfl⟩ := hf e w _ _ hr hij (ho x (by simp [Op.operands]) _ hcx) (ho i (by simp [Op.operands]) _ hci)
              have := lookup_run (P := P) hu (ok := false) g0 (fun emp => checkKey_run hok emp _ w 9999) g2 (zeroRun hiz hzv w)
              exact ⟨_, by simp only [execOp, Sem.run_bind, this, Result.andThen_ok, Sem.run_pure]; rfl, hzr σ e⟩
        cases cx <;> simp only [] at h2 <;> first | (cases h2; done) | skip
        · refine fin none h2 fun e w u ui hr hij hu' hui => ?_
          cases hu'
          exact ⟨#[], .inl ⟨rfl, rfl⟩, none, by simp [Instr.findKey, undRun hd, Instr.findNow], rfl⟩
        · rename_i b
          obtain ⟨cb, hcb, h3⟩ := getK_inv h2
          cases cb <;> simp only [] at h3 <;> first | (cases h3; done) | skip
          rename_i es clock
          obtain ⟨r, hk, hr⟩ := findM_inv hs hok hd h3
          refine fin r hk fun e w u ui hrr hij hu' hui => ?_
          cases hu' with
          | map hb =>
            have := hrr _ _ _ hb hcb
            split at this
            · obtain ⟨o, g2, g3⟩ := this
              cases g3 with
              | map hl hv =>
                rename_i entries
                obtain ⟨r', q1, q2⟩ := hr hrr hij hui ⟨hl, hv⟩ 0
                exact ⟨entries, .inr ⟨_, _, rfl, g2⟩, r', findKey_run hd q1, q2⟩
            · cases this
      · cases h2
  · cases hh

theorem fl_call {c : Call} (hh : floatC P G (.call c) t h tab nb k = true) (hs : Sat σ tab) : FlOK P σ G ⟨dst, .call c, type, pos, after, guard⟩ t h nb k := by
  obtain ⟨callee, ⟨args⟩, ats⟩ := c
  simp only [floatC] at hh
  split at hh
  · split at hh
    · rename_i x
      split at hh
      · rename_i ty hty
        obtain ⟨cx, hcx, h1⟩ := getO_inv hh
        obtain ⟨r, hk, hr⟩ := lenC_inv (σ := σ) h1
        refine ⟨r, none, tab, hk, hs, fun e w ρ hrr hij ho => ?_⟩
        obtain ⟨v, g1, g2⟩ := hr type ats hty hrr (ho x (by simp [Op.operands, Call.operands]) _ hcx)
        refine ⟨v, ?_, g2⟩
        simp [execOp, resolve, invoke, builtin, g1]
      · cases hh
    · cases hh
  · split at hh
    · rename_i x y
      obtain ⟨cx, hcx, h1⟩ := getO_inv hh
      obtain ⟨cy, hcy, h2⟩ := getO_inv h1
      cases cx <;> simp only [] at h2 <;> first | (cases h2; done) | skip
      cases cy <;> simp only [] at h2 <;> first | (cases h2; done) | skip
      rename_i kd a kd' b
      have fin : ∀ n, k (.int kd n) none tab = true → n = (if b < a then b else a) → FlOK P σ G ⟨dst, .call ⟨.builtin .min, ⟨[x, y]⟩, ats⟩, type, pos, after, guard⟩ t h nb k := by
        intro n hk hnn
        refine ⟨_, none, tab, hk, hs, fun e w ρ hrr hij ho => ?_⟩
        have v1 := ho x (by simp [Op.operands, Call.operands]) _ hcx
        have v2 := ho y (by simp [Op.operands, Call.operands]) _ hcy
        generalize h3 : ρ x = ux at v1
        generalize h4 : ρ y = uy at v2
        cases v1; cases v2
        refine ⟨.int kd n, ?_, .int _ _⟩
        simp [execOp, resolve, invoke, builtin, Builtin.min_, Builtin.min2, h3, h4, hnn]
      rw [ltI_eq] at h2
      split at h2
      · rename_i hlt; exact fin _ h2 (by simp at hlt; simp [hlt])
      · rename_i hlt; exact fin _ h2 (by simp at hlt; rw [if_neg (by omega)])
    · cases hh
  · split at hh
    · rename_i x y
      obtain ⟨cx, hcx, h1⟩ := getO_inv hh
      obtain ⟨cy, hcy, h2⟩ := getO_inv h1
      cases cx <;> simp only [] at h2 <;> first | (cases h2; done) | skip
      cases cy <;> simp only [] at h2 <;> first | (cases h2; done) | skip
      rename_i kd a kd' b
      have fin : ∀ n, k (.int kd n) none tab = true → n = (if a < b then b else a) → FlOK P σ G ⟨dst, .call ⟨.builtin .max, ⟨[x, y]⟩, ats⟩, type, pos, after, guard⟩ t h nb k := by
        intro n hk hnn
        refine ⟨_, none, tab, hk, hs, fun e w ρ hrr hij ho => ?_⟩
        have v1 := ho x (by simp [Op.operands, Call.operands]) _ hcx
        have v2 := ho y (by simp [Op.operands, Call.operands]) _ hcy
        generalize h3 : ρ x = ux at v1
        generalize h4 : ρ y = uy at v2
        cases v1; cases v2
        refine ⟨.int kd n, ?_, .int _ _⟩
        simp [execOp, resolve, invoke, builtin, Builtin.max_, Builtin.max2, h3, h4, hnn]
      rw [ltI_eq] at h2
      split at h2
      · rename_i hlt; exact fin _ h2 (by simp at hlt; simp [hlt])
      · rename_i hlt; exact fin _ h2 (by simp at hlt; rw [if_neg (by omega)])
    · cases hh
  · cases hh

/-- THE OPERATIONS THAT ACT ON NOTHING. -/
theorem floatC_inv {o : Oper} (hh : floatC P G o.op t h tab nb k = true) (hs : Sat σ tab) : FlOK P σ G o t h nb k := by
  obtain ⟨dst, op, type, pos, after, guard⟩ := o
  cases op with
  | move x => exact fl_move hh hs
  | assign x => exact fl_assign hh hs
  | pick c a b => exact fl_pick hh hs
  | alloc e => exact fl_alloc hh hs
  | box e x => exact fl_box hh hs
  | build ty ps => exact fl_build hh hs
  | buildSlice ty len ps => exact fl_buildSlice hh hs
  | load ty x => exact fl_load hh hs
  | nilCheck x => exact fl_nilCheck hh hs
  | binOp op ty x y ty' => exact fl_binOp hh hs
  | unOp op ty x => exact fl_unOp hh hs
  | convert s d x => exact fl_convert hh hs
  | makeInterface ty x => exact fl_makeInterface hh hs
  | makeFunc f a b => exact fl_makeFunc hh hs
  | makeMap ty r => exact fl_makeMap hh hs
  | makeSlice ty l c => exact fl_makeSlice hh hs
  | slice ty x a b c => exact fl_slice hh hs
  | fieldAddr s x f => exact fl_fieldAddr hh hs
  | field s x f => exact fl_field hh hs
  | indexAddr ty x i => exact fl_indexAddr hh hs
  | index ty x i => exact fl_index hh hs
  | lookup ty x i ok => exact fl_lookup hh hs
  | extract x i => exact fl_extract hh hs
  | call c => exact fl_call hh hs
  | _ => cases hh

/-- what does not look at memory does not hang on it -/
theorem floatC_blind {o : Op} (hl : looks o = false) (h' : Hp) : floatC P G o t h tab nb k = floatC P G o t h' tab nb k := by
  cases o <;> simp only [looks] at hl <;> first | rfl | (cases hl; done) | skip
  rename_i op ty x y ty'
  cases op <;> simp only [] at hl <;> first | (cases hl; done) | skip
  all_goals
    simp only [floatC]
    congr 1

end
end Go.Ev
