/- A verified evaluator for the model's code (part EvE): own work, of no program. -/
import Derived.Test.YtegokcjfjopdoaaGreatDoorEvD
import Derived.Laws.IdiomCopy
namespace Go.Ev

/-! Operands -/
def OV (G : Nat → Bool) (t : Tm) : Operand → CV → Prop
  | .tmp i, c => t.get? i = some c
  | .const v, c => ofValue v = some c
  | .global g, c => G g = true ∧ c = .ptr g 0
  | .func f, c => c = .fn (.func f) [] []

theorem getO_inv {G : Nat → Bool} {x : Operand} {t : Tm} {k : CV → Bool} (h : getO G x t k = true) : ∃ c, OV G t x c ∧ k c = true := by
  cases x with
  | tmp i => exact getK_inv h
  | const v =>
    simp only [getO] at h
    split at h
    · exact ⟨_, by assumption, h⟩
    · cases h
  | global g =>
    simp only [getO] at h
    split at h
    · exact ⟨_, ⟨by assumption, rfl⟩, h⟩
    · cases h
  | func f => exact ⟨_, rfl, h⟩

theorem getOs_inv {G : Nat → Bool} {t : Tm} : ∀ {xs : List Operand} {k : List CV → Bool}, getOs G xs t k = true →
    ∃ cs, cs.length = xs.length ∧ (∀ (i : Nat) x c, xs[i]? = some x → cs[i]? = some c → OV G t x c) ∧ k cs = true
  | [], k, h => ⟨[], rfl, fun i x c hx => by simp at hx, h⟩
  | x :: xs, k, h => by
    have h' : getO G x t (fun c => getOs G xs t fun cs => k (c :: cs)) = true := h
    obtain ⟨c, hc, h1⟩ := getO_inv h'
    obtain ⟨cs, hl, hv, hk⟩ := getOs_inv h1
    refine ⟨c :: cs, by simp [hl], fun i x' c' hx hc' => ?_, hk⟩
    cases i with
    | zero => simp at hx hc'; subst hx; subst hc'; exact hc
    | succ i => simp at hx hc'; exact hv i x' c' hx hc'

theorem ofValue_VR {σ : Sg} {e : Env} {v : Value} {c : CV} (h : ofValue v = some c) : VR σ e c v := by
  cases v with
  | bool b => simp [ofValue] at h; subst h; exact .bool b
  | int k n => simp [ofValue] at h; subst h; exact .int k n
  | string s => simp [ofValue] at h; subst h; exact .str s rfl rfl
  | pointer a => cases a <;> simp [ofValue] at h; subst h; exact .ptr0
  | slice a l c =>
    cases a with
    | none =>
      cases l with
      | zero => cases c <;> simp [ofValue] at h; subst h; exact .sl0
      | succ l => simp [ofValue] at h
    | some a => simp [ofValue] at h
  | map r => cases r <;> simp [ofValue] at h; subst h; exact .map0
  | nilFunc => simp [ofValue] at h; subst h; exact .fn0
  | nilIface => simp [ofValue] at h; subst h; exact .ifc0
  | tuple a =>
    obtain ⟨l⟩ := a
    cases l with
    | nil => simp [ofValue] at h; subst h; exact .tup rfl (fun i c v hc => by simp at hc)
    | cons x l => simp [ofValue] at h
  | _ => simp [ofValue] at h

theorem ofValues_LR {σ : Sg} {e : Env} : ∀ {vs : List Value} {cs : List CV}, ofValues vs = some cs → LR σ e cs vs
  | [], cs, h => by simp [ofValues] at h; subst h; exact .nil
  | v :: vs, cs, h => by
    simp only [ofValues] at h
    split at h
    · cases h
    · rename_i c hc
      split at h
      · cases h
      · rename_i cs' hcs
        simp at h; subst h
        exact .cons (ofValue_VR hc) (ofValues_LR hcs)

/-- what an operation may lean on: memory -/
def HR (σ : Sg) (e : Env) (h : Hp) (w : World) : Prop :=
  ∀ b p cb, e b = some p → h.get? b = some cb → if p.live then ∃ o, w.heap[p.r]? = some o ∧ BR σ e cb p o else cb = .none
def InjE (e : Env) : Prop := ∀ b b' p p', e b = some p → e b' = some p' → p.live = true → p'.live = true → p.r = p'.r → b = b'
def Env.up (e : Env) (b : Nat) (p : Place) : Env := fun x => if x = b then some p else e x
theorem Ext.up {e : Env} {b : Nat} {p : Place} (h : e b = none) : Ext e (e.up b p) := by
  intro x q hq
  have : x ≠ b := fun he => by rw [he, h] at hq; cases hq
  exact ⟨q, by simp [Env.up, this, hq], rfl, rfl, rfl, id⟩
theorem Env.up_same (e : Env) (b : Nat) (p : Place) : e.up b p b = some p := by simp [Env.up]

/-- the operation's meaning, whenever it is carried out: a value, or a value and a new block -/
def FlRes (σ : Sg) (e : Env) (w : World) (nb : Nat) (v : CV) (ncb : Option CB) (r : Result Next) : Prop := match ncb with
  | none => ∃ v', r = .ok (.value v') w ∧ VR σ e v v'
  | some cb => ∃ v' obj s dr, r = .ok (.value v') { w with heap := w.heap.push obj, drawn := dr } ∧ BR σ e cb ⟨w.heap.size, 0, s, true⟩ obj ∧ VR σ (e.up nb ⟨w.heap.size, 0, s, true⟩) v v'

def FlSem (P : Program) (σ : Sg) (G : Nat → Bool) (o : Oper) (t : Tm) (h : Hp) (nb : Nat) (v : CV) (ncb : Option CB) : Prop :=
  ∀ (e : Env) (w : World) (ρ : Operand → Value), HR σ e h w → InjE e → (∀ x, x ∈ o.op.operands → ∀ c, OV G t x c → VR σ e c (ρ x)) →
    FlRes σ e w nb v ncb ((execOp ρ o).run P w)

theorem FlSem.mono {P : Program} {σ : Sg} {G : Nat → Bool} {o : Oper} {t : Tm} {h h' : Hp} {nb : Nat} {v : CV} {ncb : Option CB} (hs : FlSem P σ G o t h nb v ncb)
    (hh : ∀ e w, HR σ e h' w → HR σ e h w) : FlSem P σ G o t h' nb v ncb := fun e w ρ hr hi ho => hs e w ρ (hh e w hr) hi ho

/-! Inversions -/
theorem asPtr_inv {v : CV} {k : Nat → Nat → Bool} (h : asPtr v k = true) : ∃ b o, v = .ptr b o ∧ k b o = true := by
  cases v <;> simp [asPtr] at h; exact ⟨_, _, rfl, h⟩
theorem asBool_inv {v : CV} {k : Bool → Bool} (h : asBool v k = true) : ∃ b, v = .bool b ∧ k b = true := by
  cases v <;> simp [asBool] at h; exact ⟨_, rfl, h⟩
theorem szK_inv {P : Program} {t : TypeId} {k : Nat → Bool} (h : szK P t k = true) : ∃ i, P.info? t = some i ∧ k i.size = true := by
  simp only [szK] at h; split at h
  · exact ⟨_, by assumption, h⟩
  · cases h
theorem withCells_inv {h : Hp} {b : Nat} {k : Bool → Nat → Nat → Tr CV → Bool} (hh : withCells h b k = true) : ∃ lo es sz cs, h.get? b = some (.cells lo es sz cs) ∧ k lo es sz cs = true := by
  obtain ⟨cb, hc, hk⟩ := getK_inv hh
  cases cb <;> simp at hk
  exact ⟨_, _, _, _, hc, hk⟩
theorem kB_inv {b : Bool} {k : CV → Bool} (h : kB b k = true) : k (.bool b) = true := by cases b <;> exact h
theorem isTrue_inv {b k : Bool} (h : isTrue b k = true) : b = true ∧ k = true := by cases b <;> simp_all [isTrue]
theorem allB_inv {n : Nat} {f : Nat → Bool} (h : allB n f = true) : ∀ i, i < n → f i = true := by
  induction n with
  | zero => intro i hi; omega
  | succ p ih =>
    have h' : (match f p with | true => allB p f | false => false) = true := h
    intro i hi
    cases hf : f p with
    | false => rw [hf] at h'; cases h'
    | true =>
      rw [hf] at h'
      rcases Nat.lt_or_ge i p with hlt | hge
      · exact ih h' i hlt
      · have : i = p := by omega
        rw [this, hf]

theorem sat_set {σ : Sg} : ∀ {tab : Tab} {s : Nat} {lo hi : Int}, Sat σ tab → lo ≤ σ.i s → σ.i s ≤ hi → Sat σ (setTab tab s (lo, hi)) := by
  intro tab s lo hi h h1 h2
  have key : ∀ (tab : Tab) (s j : Nat), (setTab tab s (lo, hi))[j]? = if j = s then (tab[j]?).map fun _ => (lo, hi) else tab[j]? := by
    intro tab
    induction tab with
    | nil => intro s j; simp [setTab]
    | cons a l ih =>
      intro s j
      cases s with
      | zero => cases j <;> simp [setTab]
      | succ s =>
        cases j with
        | zero => simp [setTab]
        | succ j => simp only [setTab, List.getElem?_cons_succ, ih]; simp
  intro j lo' hi' hj
  rw [key] at hj
  split at hj
  · rename_i he
    subst he
    cases ht : tab[j]? with
    | none => rw [ht] at hj; cases hj
    | some x => rw [ht] at hj; simp at hj; rw [← hj.1, ← hj.2]; exact ⟨h1, h2⟩
  · exact h j lo' hi' hj

/-- a number as the real value has it -/
theorem asNat_inv {σ : Sg} {v : CV} {tab : Tab} {k : Nat → Tab → Bool} (h : asNat v tab k = true) (hs : Sat σ tab) :
    ∃ n tab', k n tab' = true ∧ Sat σ tab' ∧ ∃ kd, ∀ e v', VR σ e v v' → v' = .int kd (n : Int) := by
  cases v with
  | int kd n =>
    cases n with
    | ofNat m => exact ⟨m, tab, h, hs, kd, fun e v' hv => by cases hv; rfl⟩
    | negSucc m => cases h
  | sym kd s =>
    simp only [asNat] at h
    split at h
    · rename_i lo hi ht
      split at h
      · rename_i hle
        have hb := hs s _ _ ht
        have h0 : (0 : Int) ≤ σ.i s := Int.le_trans (Int.natCast_nonneg lo) hb.1
        obtain ⟨n, hn⟩ := Int.eq_ofNat_of_zero_le h0
        have h1 : lo ≤ n := by have := hb.1; rw [hn] at this; exact Int.ofNat_le.1 this
        have h2 : n ≤ hi := by have := hb.2; rw [hn] at this; exact Int.ofNat_le.1 this
        have hk := allB_inv h (n - lo) (by omega)
        rw [forceN_eq] at hk
        have he : lo + (n - lo) = n := by omega
        rw [he] at hk
        exact ⟨n, _, hk, sat_set hs (by rw [hn]; exact Int.le_refl _) (by rw [hn]; exact Int.le_refl _), kd, fun e v' hv => by cases hv; rw [hn]⟩
      · cases h
    · cases h
  | _ => cases h

theorem szRun {P : Program} {t : TypeId} {i : TypeInfo} (h : P.info? t = some i) (w : World) : (sizeOf t).run P w = .ok i.size w := by
  simp [sizeOf, typeInfo, h]
theorem undRun {P : Program} {t : TypeId} {d : TypeDesc} (h : P.underlying t = some d) (w : World) : (underlying t).run P w = .ok d w := by
  simp [underlying, h]
theorem addr_add (r o n : Nat) : (⟨r, o, none⟩ : Addr).add n = ⟨r, o + n, none⟩ := by
  unfold Addr.add; split
  · rename_i h; simp [h]
  · rfl

theorem zeroOf_inv {P : Program} {t : TypeId} {z : List CV} (h : zeroOf P t = some z) : ∃ i v, P.info? t = some i ∧ i.zero = some v ∧ ofValues v.cells.toList = some z := by
  simp only [zeroOf] at h
  split at h
  · rename_i i hi
    split at h
    · rename_i v hv; exact ⟨i, v, hi, hv, h⟩
    · cases h
  · cases h
theorem zeroVal_inv {P : Program} {t : TypeId} {c : CV} (h : zeroVal P t = some c) : ∃ i v, P.info? t = some i ∧ i.zero = some v ∧ ∀ σ e, VR σ e c v := by
  simp only [zeroVal] at h
  split at h
  · rename_i i hi
    split at h
    · rename_i cs hv
      split at h
      · rename_i z hz
        simp at h; subst h
        exact ⟨i, _, hi, hv, fun σ e => .agg (ofValues_LR (σ := σ) (e := e) hz).1 (ofValues_LR hz).2⟩
      · cases h
    · rename_i v _ hv; exact ⟨i, _, hi, hv, fun σ e => ofValue_VR h⟩
    · cases h
  · cases h
theorem zeroRun {P : Program} {t : TypeId} {i : TypeInfo} {v : Value} (h : P.info? t = some i) (hz : i.zero = some v) (w : World) : (zeroValue t).run P w = .ok v w := by
  simp [zeroValue, typeInfo, h, hz]

theorem cells_LR {σ : Sg} {e : Env} {c : CV} {v : Value} (h : VR σ e c v) : LR σ e (cellsOfCV c) v.cells.toList := by
  have one : ∀ {c v}, VR σ e c v → cellsOfCV c = [c] → v.cells = #[v] → LR σ e (cellsOfCV c) v.cells.toList := by
    intro c v h h1 h2; rw [h1, h2]; exact .cons h .nil
  cases h with
  | agg hl hv => exact ⟨hl, hv⟩
  | _ => exact one (by constructor <;> assumption) rfl rfl

/-! Memory -/
theorem HR.cells {σ : Sg} {e : Env} {h : Hp} {w : World} (hr : HR σ e h w) {b : Nat} {p : Place} (hb : e b = some p) {lo : Bool} {es sz : Nat} {cs : Tr CV} (hc : h.get? b = some (.cells lo es sz cs)) :
    p.live = true ∧ ∃ c el fz, w.heap[p.r]? = some (.cells c el fz) ∧ c.size = p.d + sz + p.s * es ∧ (lo = false → p.d = 0 ∧ p.s = 0) ∧ (∀ i, sz ≤ i → cs.get? i = none) ∧
      (∀ i, i < sz → ∃ cv v, cs.get? i = some cv ∧ c[p.d + i]? = some v ∧ VR σ e cv v) ∧ (fz = (0, 0) ∨ (lo = true ∧ es = 1 ∧ fz = (c.size, c.size + 1))) := by
  have := hr b p _ hb hc
  split at this
  · rename_i hl
    obtain ⟨o, h2, h3⟩ := this
    cases h3 with
    | cells hsz hex hout hin hfz => exact ⟨hl, _, _, _, h2, hsz, hex, hout, hin, hfz⟩
  · cases this

/-- the cells that a trie holds from a place on -/
def Row (cs : Tr CV) : Nat → List CV → Prop
  | _, [] => True
  | off, c :: l => cs.get? off = some c ∧ Row cs (off + 1) l
theorem loadN_inv {cs : Tr CV} : ∀ {n off : Nat} {k : List CV → Bool}, loadN cs n off k = true → ∃ l, l.length = n ∧ Row cs off l ∧ k l = true
  | 0, off, k, h => ⟨[], rfl, trivial, h⟩
  | n + 1, off, k, h => by
    have h' : getK cs off (fun c => loadN cs n (off + 1) fun l => k (c :: l)) = true := h
    obtain ⟨c, hc, h1⟩ := getK_inv h'
    obtain ⟨l, hl, hr, hk⟩ := loadN_inv h1
    exact ⟨c :: l, by simp [hl], ⟨hc, hr⟩, hk⟩
theorem Row.get {cs : Tr CV} : ∀ {l : List CV} {off i : Nat} {c : CV}, Row cs off l → l[i]? = some c → cs.get? (off + i) = some c
  | [], _, _, _, _, h => by simp at h
  | x :: l, off, 0, c, hr, h => by simp at h; subst h; exact hr.1
  | x :: l, off, i + 1, c, hr, h => by
    have := Row.get (off := off + 1) hr.2 (by simpa using h)
    rwa [show off + 1 + i = off + (i + 1) by omega] at this

/-- the real cells of a row -/
theorem row_real {σ : Sg} {e : Env} {cs : Tr CV} {c : Array Value} {d sz off : Nat} (hout : ∀ i, sz ≤ i → cs.get? i = none)
    (hin : ∀ i, i < sz → ∃ cv v, cs.get? i = some cv ∧ c[d + i]? = some v ∧ VR σ e cv v) {l : List CV} (hr : Row cs off l) :
    ∃ vs : List Value, LR σ e l vs ∧ ∀ (i : Nat) v, vs[i]? = some v → c[off + d + i]? = some v := by
  induction l generalizing off with
  | nil => exact ⟨[], .nil, fun i v h => by simp at h⟩
  | cons x l ih =>
    obtain ⟨h0, hr'⟩ := hr
    have hlt : off < sz := by
      rcases Nat.lt_or_ge off sz with h | h
      · exact h
      · rw [hout off h] at h0; cases h0
    obtain ⟨cv, v, h1, h2, h3⟩ := hin off hlt
    rw [h0] at h1; cases h1
    obtain ⟨vs, hvs, hv⟩ := ih hr'
    refine ⟨v :: vs, .cons h3 hvs, fun i u hu => ?_⟩
    cases i with
    | zero => simp at hu; subst hu; rw [show off + d + 0 = d + off by omega]; exact h2
    | succ i => simp at hu; have := hv i u hu; rwa [show off + 1 + d + i = off + d + (i + 1) by omega] at this

theorem run_loadRow {P : Program} {w : World} {r o : Nat} {c : Array Value} {el : TypeId} {fz : Nat × Nat} (hw : w.heap[r]? = some (.cells c el fz)) (vs : List Value)
    (hv : ∀ (i : Nat) v, vs[i]? = some v → c[o + i]? = some v) : (loadCells ⟨r, o, none⟩ vs.length).run P w = .ok vs.toArray w :=
  run_loadCells_list w _ vs fun j v hj => by rw [addr_add]; simp [World.cell?, hw, hv j v hj]

theorem loadC_inv {P : Program} {h : Hp} {ty : TypeId} {b off : Nat} {k : CV → Bool} (hl : loadC P ty b off h k = true) :
    ∃ c, k c = true ∧ ∀ {σ : Sg} {e : Env} {w : World}, HR σ e h w → ∀ p, e b = some p → ∃ v, (loadVar ty ⟨p.r, off + p.d, none⟩).run P w = .ok v w ∧ VR σ e c v := by
  obtain ⟨lo, es, sz, cs, hc, hk⟩ := withCells_inv hl
  split at hk
  · rename_i ha
    obtain ⟨i, hi, hk⟩ := szK_inv hk
    obtain ⟨l, hlen, hrow, hk⟩ := loadN_inv hk
    refine ⟨_, hk, fun {σ e w} hr p hb => ?_⟩
    obtain ⟨_, c, el, fz, hw, _, _, hout, hin, _⟩ := hr.cells hb hc
    obtain ⟨vs, hvs, hv⟩ := row_real hout hin hrow
    have hrun := run_loadRow (P := P) hw vs hv
    have hlv : vs.length = i.size := hvs.1.symm.trans hlen
    have hagg : ∃ d, P.underlying ty = some d ∧ ((∃ fs, d = .struct fs) ∨ ∃ n el, d = .array n el) := by
      simp only [aggT] at ha
      split at ha <;> first | exact ⟨_, by assumption, .inl ⟨_, rfl⟩⟩ | exact ⟨_, by assumption, .inr ⟨_, _, rfl⟩⟩ | cases ha
    refine ⟨.agg vs.toArray, ?_, .agg hvs.1 hvs.2⟩
    obtain ⟨d, hd, hd'⟩ := hagg
    rw [hlv] at hrun
    rcases hd' with ⟨fs, rfl⟩ | ⟨n, el', rfl⟩ <;> simp [loadVar, isAgg, undRun hd, szRun hi, hrun]
  · rename_i ha
    obtain ⟨c, hg, hk⟩ := getK_inv hk
    refine ⟨c, hk, fun {σ e w} hr p hb => ?_⟩
    obtain ⟨_, cc, el, fz, hw, _, _, hout, hin, _⟩ := hr.cells hb hc
    have hlt : off < sz := by
      rcases Nat.lt_or_ge off sz with h | h
      · exact h
      · rw [hout off h] at hg; cases hg
    obtain ⟨cv, v, h1, h2, h3⟩ := hin off hlt
    rw [hg] at h1; cases h1
    have hcell : w.cell? ⟨p.r, off + p.d, none⟩ = some v := by simp [World.cell?, hw, Nat.add_comm off p.d, h2]
    refine ⟨v, ?_, h3⟩
    simp only [aggT] at ha
    split at ha
    · cases ha
    · cases ha
    · rename_i d hn1 hn2 hd
      have : (isAgg ty).run P w = .ok false w := by
        simp only [isAgg, Sem.run_bind, undRun hd, Result.andThen_ok]
        cases d <;> first | rfl | (exact absurd rfl (hn1 _)) | (exact absurd rfl (hn2 _ _))
      simp [loadVar, this, hcell]
    · cases ha
  · cases hk

end Go.Ev
