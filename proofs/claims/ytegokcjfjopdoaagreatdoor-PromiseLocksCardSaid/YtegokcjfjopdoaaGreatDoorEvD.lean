/- A verified evaluator for the model's code (part EvD): own work, of no program. -/
import Derived.Test.YtegokcjfjopdoaaGreatDoorEvC
namespace Go.Ev

/-! Tries: what the fast functions do -/
theorem setK_inv {α : Type} (x : α) (t : Tr α) : ∀ (n : Nat) (k : Tr α → Bool), setK x t n k = true →
    ∃ t', k t' = true ∧ (∃ y, t.get? n = some y) ∧ ∀ j, t'.get? j = if j = n then some x else t.get? j := by
  induction t with
  | nil => intro n k h; exact absurd h (by simp [setK])
  | node v l r ihl ihr =>
    intro n k h
    cases n with
    | zero =>
      refine ⟨.node x l r, h, ⟨v, rfl⟩, fun j => ?_⟩
      cases j <;> simp [Tr.get?]
    | succ p =>
      have h' : Nat.rec (motive := fun _ => Bool) (setK x l (p / 2) fun l' => k (.node v l' r)) (fun _ _ => setK x r (p / 2) fun r' => k (.node v l r')) (p % 2) = true := h
      rcases Nat.mod_two_eq_zero_or_one p with hp | hp
      · rw [hp] at h'
        obtain ⟨l', hk, ⟨y, hy⟩, hj⟩ := ihl _ _ h'
        refine ⟨_, hk, ⟨y, by simp [Tr.get?, hp, hy]⟩, fun j => ?_⟩
        cases j with
        | zero => simp [Tr.get?]
        | succ q =>
          simp only [Tr.get?]
          by_cases hq : q % 2 = 0
          · simp only [hq, if_true, hj]
            by_cases he : q / 2 = p / 2
            · have : q = p := by omega
              simp [this]
            · have : q ≠ p := fun e => he (by rw [e])
              simp [he, this]
          · have : q ≠ p := fun e => hq (by rw [e, hp])
            simp [hq, this]
      · rw [hp] at h'
        obtain ⟨r', hk, ⟨y, hy⟩, hj⟩ := ihr _ _ h'
        refine ⟨_, hk, ⟨y, by simp [Tr.get?, hp, hy]⟩, fun j => ?_⟩
        cases j with
        | zero => simp [Tr.get?]
        | succ q =>
          simp only [Tr.get?]
          by_cases hq : q % 2 = 0
          · have : q ≠ p := fun e => by rw [e, hp] at hq; cases hq
            simp [hq, this]
          · simp only [hq, if_false, hj]
            by_cases he : q / 2 = p / 2
            · have : q = p := by omega
              simp [this]
            · have : q ≠ p := fun e => he (by rw [e])
              simp [he, this]

theorem insK_inv {α : Type} (x : α) (t : Tr α) : ∀ (n : Nat) (k : Tr α → Bool), insK x t n k = true →
    ∃ t', k t' = true ∧ t.get? n = none ∧ ∀ j, t'.get? j = if j = n then some x else t.get? j := by
  induction t with
  | nil =>
    intro n k h
    cases n with
    | zero =>
      refine ⟨.node x .nil .nil, h, rfl, fun j => ?_⟩
      cases j <;> simp [Tr.get?]
    | succ p => exact absurd h (by simp [insK])
  | node v l r ihl ihr =>
    intro n k h
    cases n with
    | zero => exact absurd h (by simp [insK])
    | succ p =>
      have h' : Nat.rec (motive := fun _ => Bool) (insK x l (p / 2) fun l' => k (.node v l' r)) (fun _ _ => insK x r (p / 2) fun r' => k (.node v l r')) (p % 2) = true := h
      rcases Nat.mod_two_eq_zero_or_one p with hp | hp
      · rw [hp] at h'
        obtain ⟨l', hk, hy, hj⟩ := ihl _ _ h'
        refine ⟨_, hk, by simp [Tr.get?, hp, hy], fun j => ?_⟩
        cases j with
        | zero => simp [Tr.get?]
        | succ q =>
          simp only [Tr.get?]
          by_cases hq : q % 2 = 0
          · simp only [hq, if_true, hj]
            by_cases he : q / 2 = p / 2
            · have : q = p := by omega
              simp [this]
            · have : q ≠ p := fun e => he (by rw [e])
              simp [he, this]
          · have : q ≠ p := fun e => hq (by rw [e, hp])
            simp [hq, this]
      · rw [hp] at h'
        obtain ⟨r', hk, hy, hj⟩ := ihr _ _ h'
        refine ⟨_, hk, by simp [Tr.get?, hp, hy], fun j => ?_⟩
        cases j with
        | zero => simp [Tr.get?]
        | succ q =>
          simp only [Tr.get?]
          by_cases hq : q % 2 = 0
          · have : q ≠ p := fun e => by rw [e, hp] at hq; cases hq
            simp [hq, this]
          · simp only [hq, if_false, hj]
            by_cases he : q / 2 = p / 2
            · have : q = p := by omega
              simp [this]
            · have : q ≠ p := fun e => he (by rw [e])
              simp [he, this]

theorem getK_inv {α : Type} {t : Tr α} {n : Nat} {k : α → Bool} (h : getK t n k = true) : ∃ v, t.get? n = some v ∧ k v = true := by
  rw [getK_eq] at h
  cases hg : t.get? n with
  | none => rw [hg] at h; cases h
  | some v => rw [hg] at h; exact ⟨v, rfl, h⟩

theorem odds_get {α : Type} : ∀ (l : List α) (i : Nat), (odds l)[i]? = l[2 * i]?
  | [], i => by simp [odds]
  | [a], i => by cases i <;> simp [odds]
  | a :: b :: l, 0 => by simp [odds]
  | a :: b :: l, i + 1 => by
    simp only [odds, List.getElem?_cons_succ, odds_get l i]
    have : 2 * (i + 1) = 2 * i + 1 + 1 := by omega
    rw [this]; simp
theorem evens_get {α : Type} : ∀ (l : List α) (i : Nat), (evens l)[i]? = l[2 * i + 1]?
  | [], i => by simp [evens]
  | [a], i => by simp [evens]
  | a :: b :: l, 0 => by simp [evens]
  | a :: b :: l, i + 1 => by
    simp only [evens, List.getElem?_cons_succ, evens_get l i]
    have : 2 * (i + 1) = (2 * i + 1) + 1 := by omega
    rw [this]; simp
theorem odds_len {α : Type} : ∀ (l : List α), (odds l).length ≤ l.length
  | [] => by simp [odds]
  | [a] => by simp [odds]
  | a :: b :: l => by have := odds_len l; simp [odds]; omega
theorem evens_len {α : Type} : ∀ (l : List α), (evens l).length ≤ l.length
  | [] => by simp [evens]
  | [a] => by simp [evens]
  | a :: b :: l => by have := evens_len l; simp [evens]; omega
theorem ofListF_get {α : Type} : ∀ (f : Nat) (l : List α), l.length ≤ f → ∀ i, (ofListF f l).get? i = l[i]?
  | 0, l, h, i => by
    have : l = [] := by cases l <;> simp at h ⊢
    subst this; simp [ofListF, Tr.get?]
  | f + 1, [], h, i => by simp [ofListF, Tr.get?]
  | f + 1, a :: l, h, 0 => by simp [ofListF, Tr.get?]
  | f + 1, a :: l, h, p + 1 => by
    have hl : l.length ≤ f := by simpa using h
    simp only [ofListF, Tr.get?, List.getElem?_cons_succ]
    split
    · rw [ofListF_get f _ (Nat.le_trans (odds_len l) hl), odds_get]; congr 1; omega
    · rw [ofListF_get f _ (Nat.le_trans (evens_len l) hl), evens_get]; congr 1; omega
theorem ofList_get {α : Type} (l : List α) (i : Nat) : (ofList l).get? i = l[i]? := ofListF_get _ l (Nat.le_refl _) i

theorem forceN_eq (n : Nat) (k : Nat → Bool) : forceN n k = k n := rfl
theorem forceI_eq (n : Int) (k : Int → Bool) : forceI n k = k n := by cases n <;> rfl

/-! Relations -/
structure Place where
  r : Nat
  d : Nat
  s : Nat
  live : Bool
abbrev Env := Nat → Option Place
structure Sg where
  i : Nat → Int
  s : Nat → ByteArray

inductive VR (σ : Sg) (e : Env) : CV → Value → Prop
  | bool (b : Bool) : VR σ e (.bool b) (.bool b)
  | int (k : IntKind) (n : Int) : VR σ e (.int k n) (.int k n)
  | str {len code : Nat} (s : ByteArray) (hl : s.size = len) (hc : encBytes s.data.toList = code) : VR σ e (.str len code) (.string s)
  | ptr0 : VR σ e .ptr0 (.pointer none)
  | ptr {b o : Nat} {p : Place} (h : e b = some p) : VR σ e (.ptr b o) (.pointer (some ⟨p.r, o + p.d, none⟩))
  | sl0 : VR σ e .sl0 (.slice none 0 0)
  | sl {b o len cap : Nat} {p : Place} (h : e b = some p) : VR σ e (.sl b o len cap) (.slice (some ⟨p.r, o + p.d, none⟩) len (cap + p.s))
  | slE (r o c : Nat) : VR σ e .slE (.slice (some ⟨r, o, none⟩) 0 c)
  | map0 : VR σ e .map0 (.map none)
  | map {b : Nat} {p : Place} (h : e b = some p) : VR σ e (.map b) (.map (some p.r))
  | fn (f : FuncId) {as bs : List CV} {first cap : Array Value} (ha : as.length = first.toList.length) (hb : bs.length = cap.toList.length)
      (va : ∀ (i : Nat) c v, as[i]? = some c → first.toList[i]? = some v → VR σ e c v) (vb : ∀ (i : Nat) c v, bs[i]? = some c → cap.toList[i]? = some v → VR σ e c v) :
      VR σ e (.fn (.func f) as bs) (.func (.func f) first cap)
  | yld {b : Nat} {p : Place} (h : e b = some p) : VR σ e (.yld b) (.func (.yield p.r) #[] #[])
  | fn0 : VR σ e .fn0 .nilFunc
  | ifc (t : TypeId) {c : CV} {v : Value} (h : VR σ e c v) : VR σ e (.ifc t c) (.iface t v)
  | ifc0 : VR σ e .ifc0 .nilIface
  | agg {cs : List CV} {vs : Array Value} (hl : cs.length = vs.toList.length) (hv : ∀ (i : Nat) c v, cs[i]? = some c → vs.toList[i]? = some v → VR σ e c v) : VR σ e (.agg cs) (.agg vs)
  | tup {cs : List CV} {vs : Array Value} (hl : cs.length = vs.toList.length) (hv : ∀ (i : Nat) c v, cs[i]? = some c → vs.toList[i]? = some v → VR σ e c v) : VR σ e (.tup cs) (.tuple vs)
  | sym (k : IntKind) (s : Nat) : VR σ e (.sym k s) (.int k (σ.i s))
  | ssym (s l : Nat) (h : ((σ.s s).size : Int) = σ.i l) : VR σ e (.ssym s l) (.string (σ.s s))
  | symr (k : IntKind) (s c r n : Nat) (h : σ.i s = Int.ofNat n) (hr : n % c = r) : VR σ e (.symr k s c r) (.int k (σ.i s))

def LR (σ : Sg) (e : Env) (cs : List CV) (vs : List Value) : Prop :=
  cs.length = vs.length ∧ ∀ (i : Nat) c v, cs[i]? = some c → vs[i]? = some v → VR σ e c v

/-- what is known of a place stays known; what lives may die -/
def Ext (e e' : Env) : Prop := ∀ b p, e b = some p → ∃ p', e' b = some p' ∧ p'.r = p.r ∧ p'.d = p.d ∧ p'.s = p.s ∧ (p'.live = true → p.live = true)

theorem Ext.refl (e : Env) : Ext e e := fun _ p h => ⟨p, h, rfl, rfl, rfl, id⟩
theorem Ext.trans {e e₁ e₂ : Env} (h : Ext e e₁) (h' : Ext e₁ e₂) : Ext e e₂ := by
  intro b p hb
  obtain ⟨p₁, h1, a, b', c, d⟩ := h b p hb
  obtain ⟨p₂, h2, a', b'', c', d'⟩ := h' b p₁ h1
  exact ⟨p₂, h2, a'.trans a, b''.trans b', c'.trans c, fun x => d (d' x)⟩

theorem VR.mono {σ : Sg} {e e' : Env} (he : Ext e e') {c : CV} {v : Value} (h : VR σ e c v) : VR σ e' c v := by
  induction h with
  | bool b => exact .bool b
  | int k n => exact .int k n
  | str s hl hc => exact .str s hl hc
  | ptr0 => exact .ptr0
  | ptr h => obtain ⟨p', h', hr, hd, _, _⟩ := he _ _ h; rw [← hr, ← hd]; exact .ptr h'
  | sl0 => exact .sl0
  | sl h => obtain ⟨p', h', hr, hd, hs, _⟩ := he _ _ h; rw [← hr, ← hd, ← hs]; exact .sl h'
  | slE r o c => exact .slE r o c
  | map0 => exact .map0
  | map h => obtain ⟨p', h', hr, _⟩ := he _ _ h; rw [← hr]; exact .map h'
  | fn f ha hb _ _ iha ihb => exact .fn f ha hb iha ihb
  | yld h => obtain ⟨p', h', hr, _⟩ := he _ _ h; rw [← hr]; exact .yld h'
  | fn0 => exact .fn0
  | ifc t _ ih => exact .ifc t ih
  | ifc0 => exact .ifc0
  | agg hl _ ih => exact .agg hl ih
  | tup hl _ ih => exact .tup hl ih
  | sym k s => exact .sym k s
  | ssym s l h => exact .ssym s l h
  | symr k s c r n h hr => exact .symr k s c r n h hr

theorem LR.mono {σ : Sg} {e e' : Env} (he : Ext e e') {cs : List CV} {vs : List Value} (h : LR σ e cs vs) : LR σ e' cs vs :=
  ⟨h.1, fun i c v hc hv => (h.2 i c v hc hv).mono he⟩
theorem LR.nil {σ : Sg} {e : Env} : LR σ e [] [] := ⟨rfl, fun i c v h => by simp at h⟩
theorem LR.cons {σ : Sg} {e : Env} {c : CV} {v : Value} {cs : List CV} {vs : List Value} (h : VR σ e c v) (hs : LR σ e cs vs) : LR σ e (c :: cs) (v :: vs) := by
  refine ⟨by simp [hs.1], fun i c' v' hc hv => ?_⟩
  cases i with
  | zero => simp at hc hv; subst hc; subst hv; exact h
  | succ i => simp at hc hv; exact hs.2 i c' v' hc hv
theorem LR.append {σ : Sg} {e : Env} {cs cs' : List CV} {vs vs' : List Value} (h : LR σ e cs vs) (h' : LR σ e cs' vs') : LR σ e (cs ++ cs') (vs ++ vs') := by
  refine ⟨by simp [h.1, h'.1], fun i c v hc hv => ?_⟩
  rcases Nat.lt_or_ge i cs.length with hi | hi
  · rw [List.getElem?_append_left hi] at hc
    rw [List.getElem?_append_left (h.1 ▸ hi)] at hv
    exact h.2 i c v hc hv
  · rw [List.getElem?_append_right hi] at hc
    rw [List.getElem?_append_right (h.1 ▸ hi), ← h.1] at hv
    exact h'.2 _ c v hc hv
theorem LR.get {σ : Sg} {e : Env} {cs : List CV} {vs : List Value} (h : LR σ e cs vs) {i : Nat} {c : CV} (hc : cs[i]? = some c) : ∃ v, vs[i]? = some v ∧ VR σ e c v := by
  have hi : i < cs.length := by
    rcases Nat.lt_or_ge i cs.length with h | h
    · exact h
    · rw [List.getElem?_eq_none h] at hc; cases hc
  have hv : vs[i]? = some (vs[i]'(h.1 ▸ hi)) := List.getElem?_eq_getElem _
  exact ⟨_, hv, h.2 i c _ hc hv⟩
theorem LR.cons_inv {σ : Sg} {e : Env} {c : CV} {cs : List CV} {vs : List Value} (h : LR σ e (c :: cs) vs) : ∃ v vs', vs = v :: vs' ∧ VR σ e c v ∧ LR σ e cs vs' := by
  cases vs with
  | nil => simp [LR] at h
  | cons v vs =>
    refine ⟨v, vs, rfl, h.2 0 c v (by simp) (by simp), by simpa using h.1, fun i c' v' hc hv => h.2 (i + 1) c' v' (by simpa using hc) (by simpa using hv)⟩
theorem LR.nil_inv {σ : Sg} {e : Env} {vs : List Value} (h : LR σ e [] vs) : vs = [] := by
  cases vs with
  | nil => rfl
  | cons v vs => simp [LR] at h
theorem LR.drop {σ : Sg} {e : Env} {cs : List CV} {vs : List Value} (h : LR σ e cs vs) (n : Nat) : LR σ e (cs.drop n) (vs.drop n) := by
  refine ⟨by simp [h.1], fun i c v hc hv => h.2 (n + i) c v (by simpa using hc) (by simpa using hv)⟩
theorem LR.take {σ : Sg} {e : Env} {cs : List CV} {vs : List Value} (h : LR σ e cs vs) (n : Nat) : LR σ e (cs.take n) (vs.take n) := by
  refine ⟨by simp [h.1], fun i c v hc hv => ?_⟩
  simp only [List.getElem?_take] at hc hv
  split at hc
  · rw [if_pos (by assumption)] at hv; exact h.2 i c v hc hv
  · cases hc

/-- slots -/
def TR (σ : Sg) (e : Env) (t : Tm) (T : Array Value) : Prop :=
  ∀ i, match t.get? i with
    | some c => ∃ v, T[i]? = some v ∧ VR σ e c v
    | none => T[i]? = none
theorem TR.mono {σ : Sg} {e e' : Env} (he : Ext e e') {t : Tm} {T : Array Value} (h : TR σ e t T) : TR σ e' t T := by
  intro i
  have := h i
  split at this
  · obtain ⟨v, hv, r⟩ := this; exact ⟨v, hv, r.mono he⟩
  · exact this
theorem TR.get {σ : Sg} {e : Env} {t : Tm} {T : Array Value} (h : TR σ e t T) {i : Nat} {c : CV} (hc : t.get? i = some c) : ∃ v, T[i]? = some v ∧ VR σ e c v := by
  have := h i; rw [hc] at this; exact this
theorem TR.set {σ : Sg} {e : Env} {t t' : Tm} {T : Array Value} (h : TR σ e t T) {d : Nat} {x : CV} {v : Value} (hx : VR σ e x v)
    (hy : ∃ y, t.get? d = some y) (hj : ∀ j, t'.get? j = if j = d then some x else t.get? j) : TR σ e t' (T.setIfInBounds d v) := by
  intro i
  rw [hj]
  obtain ⟨y, hy⟩ := hy
  obtain ⟨u, hu, _⟩ := h.get hy
  have hd : d < T.size := by
    rcases Nat.lt_or_ge d T.size with h | h
    · exact h
    · rw [Array.getElem?_eq_none h] at hu; cases hu
  by_cases hi : i = d
  · subst hi
    simp only [if_true]
    exact ⟨v, by simp [hd], hx⟩
  · simp only [hi, if_false]
    have := h i
    rw [Array.getElem?_setIfInBounds_ne (by omega)]
    exact this

inductive BR (σ : Sg) (e : Env) : CB → Place → Obj → Prop
  | cells {lo : Bool} {es sz : Nat} {cs : Tr CV} {p : Place} {c : Array Value} {el : TypeId} {fz : Nat × Nat} (hsz : c.size = p.d + sz + p.s * es)
      (hex : lo = false → p.d = 0 ∧ p.s = 0) (hout : ∀ i, sz ≤ i → cs.get? i = none)
      (hin : ∀ i, i < sz → ∃ cv v, cs.get? i = some cv ∧ c[p.d + i]? = some v ∧ VR σ e cv v)
      (hfz : fz = (0, 0) ∨ (lo = true ∧ es = 1 ∧ fz = (c.size, c.size + 1))) : BR σ e (.cells lo es sz cs) p (.cells c el fz)
  | map {es : List (CV × CV × Nat)} {clock : Nat} {p : Place} {entries : Array MapEntry} (hl : es.length = entries.toList.length)
      (hv : ∀ (i : Nat) x y, es[i]? = some x → entries.toList[i]? = some y → VR σ e x.1 y.key ∧ VR σ e x.2.1 y.val ∧ x.2.2 = y.born) : BR σ e (.map es clock) p (.map entries clock)
  | loop {st : LoopState} {pend : Option Code} {fn : FuncId} {tm : Tr CV} {params : Array Tmp} {assign body : Code} {dfb : Nat} {p pl : Place} {tmps : Array Value}
      (ht : TR σ e tm tmps) (hd : e dfb = some pl) : BR σ e (.loop st pend fn tm params assign body dfb) p (.loop { state := st, pending := pend, fn, tmps, params, assign, body, defers := pl.r })
  | dfdT {p : Place} : BR σ e (.dfd true) p (.deferred (some []))
  | dfdF {p : Place} : BR σ e (.dfd false) p (.deferred none)

theorem BR.mono {σ : Sg} {e e' : Env} (he : Ext e e') {cb : CB} {p : Place} {o : Obj} (h : BR σ e cb p o) : BR σ e' cb p o := by
  cases h with
  | cells hsz hex hout hin hfz => exact .cells hsz hex hout (fun i hi => by obtain ⟨cv, v, a, b, c⟩ := hin i hi; exact ⟨cv, v, a, b, c.mono he⟩) hfz
  | map hl hv => exact .map hl (fun i x y hx hy => by obtain ⟨a, b, c⟩ := hv i x y hx hy; exact ⟨a.mono he, b.mono he, c⟩)
  | loop ht hd => obtain ⟨p', h', hr, _⟩ := he _ _ hd; rw [← hr]; exact .loop (ht.mono he) h'
  | dfdT => exact .dfdT
  | dfdF => exact .dfdF

/-- a place is looked at by its three numbers alone -/
theorem BR.place {σ : Sg} {e : Env} {cb : CB} {p p' : Place} {o : Obj} (h : BR σ e cb p o) (hd : p'.d = p.d) (hs : p'.s = p.s) : BR σ e cb p' o := by
  cases h with
  | cells hsz hex hout hin hfz => exact .cells (by rw [hd, hs]; exact hsz) (by rw [hd, hs]; exact hex) hout (by rw [hd]; exact hin) hfz
  | map hl hv => exact .map hl hv
  | loop ht hd => exact .loop ht hd
  | dfdT => exact .dfdT
  | dfdF => exact .dfdF

def Sat (σ : Sg) (tab : Tab) : Prop := ∀ s lo hi, tab[s]? = some (lo, hi) → lo ≤ σ.i s ∧ σ.i s ≤ hi

structure Rel (σ : Sg) (G : Nat → Bool) (e : Env) (m : M) (w : World) : Prop where
  sat : Sat σ m.tab
  blk : ∀ b p, e b = some p → p.live = true → ∃ cb o, m.h.get? b = some cb ∧ w.heap[p.r]? = some o ∧ BR σ e cb p o
  inj : ∀ b b' p p', e b = some p → e b' = some p' → p.live = true → p'.live = true → p.r = p'.r → b = b'
  bnd : ∀ b, m.n ≤ b → e b = none
  glo : ∀ g, G g = true → ∃ p, e g = some p ∧ p.r = g ∧ p.d = 0

/-- what a run keeps -/
structure Kept (e : Env) (m : M) (w : World) (e' : Env) (m' : M) (w' : World) : Prop where
  ext : Ext e e'
  nle : m.n ≤ m'.n
  unb : ∀ b, b < m.n → e b = none → e' b = none ∧ m'.h.get? b = m.h.get? b
  siz : w.heap.size ≤ w'.heap.size
  frm : ∀ r, r < w.heap.size → (∀ b p, e b = some p → p.live = true → p.r ≠ r) → w'.heap[r]? = w.heap[r]?
  rng : ∀ b p, e' b = some p → p.live = true → (∃ b₀ p₀, e b₀ = some p₀ ∧ p₀.live = true ∧ p₀.r = p.r) ∨ w.heap.size ≤ p.r
  tap : w'.tape = w.tape
  os : w'.os = w.os
  out : w'.output = w.output

theorem Kept.refl (e : Env) (m : M) (w : World) : Kept e m w e m w :=
  ⟨.refl e, Nat.le_refl _, fun _ _ h => ⟨h, rfl⟩, Nat.le_refl _, fun _ _ _ => rfl, fun b p h hl => .inl ⟨b, p, h, hl, rfl⟩, rfl, rfl, rfl⟩

theorem Kept.trans {e e₁ e₂ : Env} {m m₁ m₂ : M} {w w₁ w₂ : World} (h : Kept e m w e₁ m₁ w₁) (h' : Kept e₁ m₁ w₁ e₂ m₂ w₂) : Kept e m w e₂ m₂ w₂ := by
  refine ⟨h.ext.trans h'.ext, Nat.le_trans h.nle h'.nle, fun b hb hn => ?_, Nat.le_trans h.siz h'.siz, fun r hr hn => ?_, fun b p hb hl => ?_, h'.tap.trans h.tap, h'.os.trans h.os, h'.out.trans h.out⟩
  · obtain ⟨a, b'⟩ := h.unb b hb hn
    obtain ⟨a', b''⟩ := h'.unb b (Nat.lt_of_lt_of_le hb h.nle) a
    exact ⟨a', b''.trans b'⟩
  · rw [h'.frm r (Nat.lt_of_lt_of_le hr h.siz) ?_, h.frm r hr hn]
    intro b p hb hl he
    rcases h.rng b p hb hl with ⟨b₀, p₀, hb₀, hl₀, hr₀⟩ | hge
    · exact hn b₀ p₀ hb₀ hl₀ (hr₀.trans he)
    · omega
  · rcases h'.rng b p hb hl with ⟨b₀, p₀, hb₀, hl₀, hr₀⟩ | hge
    · rcases h.rng b₀ p₀ hb₀ hl₀ with ⟨b₁, p₁, hb₁, hl₁, hr₁⟩ | hge
      · exact .inl ⟨b₁, p₁, hb₁, hl₁, hr₁.trans hr₀⟩
      · exact .inr (hr₀ ▸ hge)
    · exact .inr (Nat.le_trans h.siz hge)

end Go.Ev
