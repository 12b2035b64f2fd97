/- A verified evaluator for the model's code (part EvN): own work, of no program. -/
import Derived.Test.YtapognhadfncmaaGreatDoorEvM
namespace Go.Ev
/-! Small memories, written out: a bigger memory looked at through one -/
abbrev G0 : Nat → Bool := fun _ => false
/-- a block, written out -/
structure BC where
  te : Nat
  lo : Bool
  es : Nat
  l : List CV
/-- a name: the bigger memory's, and by how many elements that block is longer -/
abbrev Ren := Tr (Nat × Nat)
/-- symbols as forms in the bigger one's symbols -/
abbrev SFm := List (Int × Ts)
noncomputable section
def BC.cb (f : BC) : CB := .cells f.te f.lo f.es f.l.length (ofList f.l)
def hpOf (s : List BC) : Hp := ofList (s.map BC.cb)
/-- a number, as a form -/
def numF : CV → Option (IntKind × Int × Ts)
  | .int k n => some (k, n, [])
  | .sym k s => some (k, 0, [(1, s)])
  | .lin k c ts => some (k, c, ts)
  | _ => none
def plC : CV → Bool
  | .bool _ | .str .. | .ptr0 | .sl0 | .map0 | .fn0 | .ifc0 => true
  | .tup [] => true
  | _ => false
/-- a form that is zero once its fixed symbols are put in -/
def zeroF (iv : Ivs) (c : Int) (ts : Ts) : Bool := match pinL iv c (addTs ts []) with
  | (c', ts') => eqI c' 0 && ts'.all fun t => eqI t.1 0
def subF (kf : SFm) : Ts → Option (Int × Ts)
  | [] => some (0, [])
  | (a, s) :: l => match kf[s]? with
    | some (c, ts) => match subF kf l with
      | some (c', ts') => some (a * c + c', addTs (mulTs a ts) ts')
      | none => none
    | none => none
def numR (iv : Ivs) (kf : SFm) (x y : Option (IntKind × Int × Ts)) : Bool := match x with
  | some (k, c, ts) => match y with
    | some (k', c', ts') => match decide (k = k') with
      | true => (match subF kf ts with
        | some (c1, ts1) => zeroF iv (c + c1 - c') (subTs ts1 ts')
        | none => false)
      | false => false
    | none => false
  | none => false
def eqR (iv : Ivs) (kf : SFm) (ρ : Ren) (x y : CV) : Bool := match x with
  | .int k n => (match y with
    | .int k' n' => (match Nat.beq k.ctorIdx k'.ctorIdx with | true => eqI n n' | false => false)
    | _ => numR iv kf (some (k, n, [])) (numF y))
  | .ptr b o => match y with
    | .ptr c o' => match ρ.get? b with
      | some q => Nat.beq q.1 c && Nat.beq o o'
      | none => false
    | _ => false
  | .sl b o len cap => match y with
    | .sl c o' len' cap' => match ρ.get? b with
      | some q => Nat.beq q.1 c && (Nat.beq o o' && (Nat.beq len len' && Nat.beq (cap + q.2) cap'))
      | none => false
    | _ => false
  | x => match plC x with
    | true => cvBeq x y
    | false => numR iv kf (numF x) (numF y)
/-- a list, dealt to four -/
def deal {α β : Type} (l : List α) : (List α → List α → List α → List α → β) → β :=
  List.rec (motive := fun _ => (List α → List α → List α → List α → β) → β) (fun k => k [] [] [] []) (fun a _ ih k => ih fun y0 y1 y2 y3 => k (a :: y3) y0 y1 y2) l
def ofListDF {α : Type} (f : Nat) : List α → Tr α :=
  Nat.rec (motive := fun _ => List α → Tr α) (fun _ => .mk .nil)
    (fun _ ih l => List.rec (motive := fun _ => Tr α) (.mk .nil) (fun a l _ => deal l fun y0 y1 y2 y3 => .mk (.node a (ih y0) (ih y1) (ih y2) (ih y3))) l) f
def ofListD {α : Type} (l : List α) : Tr α := ofListDF l.length l
def andZ (x y : Bool) : Bool := Bool.rec (motive := fun _ => Bool) false y x
def rowZ (iv : Ivs) (kf : SFm) (ρ : Ren) (f : Nat) : List CV → Tr CV → Bool :=
  Nat.rec (motive := fun _ => List CV → Tr CV → Bool) (fun l _ => List.rec (motive := fun _ => Bool) true (fun _ _ _ => false) l)
    (fun _ ih l G => List.rec (motive := fun _ => Bool) true (fun x l _ => Nd.rec (motive := fun _ => Bool) false (fun v a b c d => andZ (eqR iv kf ρ x v)
      (deal l fun y0 y1 y2 y3 => andZ (ih y0 a) (andZ (ih y1 b) (andZ (ih y2 c) (ih y3 d))))) G.1) l) f
def rowR (iv : Ivs) (kf : SFm) (ρ : Ren) (cs : Tr CV) (i : Nat) (l : List CV) : Bool := andZ (Nat.beq i 0) (rowZ iv kf ρ 12 l cs)
def blkR (iv : Ivs) (kf : SFm) (ρ : Ren) (f : BC) (δ : Nat) (cb : CB) : Bool := match cb with
  | .cells te lo es sz cs => Nat.beq te f.te && ((lo == f.lo) && (Nat.beq es f.es && (Nat.beq sz (f.l.length + δ * f.es) && ((Nat.beq δ 0 || f.lo) && rowR iv kf ρ cs 0 f.l))))
  | _ => false
/-- the blocks of s, from name b on -/
def memR (iv : Ivs) (kf : SFm) (ρ : Ren) (h : Hp) : Nat → List BC → Bool
  | _, [] => true
  | b, f :: s => match ρ.get? b with
    | some q => (match h.get? q.1 with
        | some cb => (match blkR iv kf ρ f q.2 cb with | true => memR iv kf ρ h (b + 1) s | false => false)
        | none => false)
    | none => false
/-- names that differ: most of them grow -/
def ordR : List (Nat × Nat) → Nat → List Nat → Bool
  | [], _, _ => true
  | q :: l, hi, acc => match Nat.ble hi q.1 with
    | true => ordR l (q.1 + 1) (q.1 :: acc)
    | false => (match acc.elem q.1 with | true => false | false => ordR l hi (q.1 :: acc))
end
section
variable {σ σ' : Sg} {iv : Ivs} {kf : SFm} {ρ : Ren}
theorem zeroF_val {g : Nat → Int} (hs : SatI g iv) {c : Int} {ts : Ts} (h : zeroF iv c ts = true) : lfVal g c ts = 0 := by
  unfold zeroF at h
  have e := pinL_val hs c (addTs ts [])
  have e2 : lfVal g c (addTs ts []) = lfVal g c ts := by simp only [lfVal, addTs_val, tsVal]; omega
  rw [e2] at e
  rw [← e]
  generalize pinL iv c (addTs ts []) = p at h
  obtain ⟨c', ts'⟩ := p
  rw [Bool.and_eq_true] at h
  obtain ⟨h1, h⟩ := h
  obtain rfl : c' = 0 := by simpa [eqI_eq] using h1
  have : ∀ l : Ts, (l.all fun t => eqI t.1 0) = true → tsVal g l = 0 := by
    intro l
    induction l with
    | nil => intro _; rfl
    | cons t l ih =>
      intro h
      rw [List.all_cons, Bool.and_eq_true] at h
      obtain ⟨a, s⟩ := t
      obtain rfl : a = 0 := by simpa [eqI_eq] using h.1
      simp only [tsVal, ih h.2]
      omega
  show (0 : Int) + tsVal g ts' = 0
  rw [this ts' h]
  rfl
/-- what the forms mean -/
def KfOk (σ σ' : Sg) (kf : SFm) : Prop := ∀ s f, kf[s]? = some f → σ'.i s = lfVal σ.i f.1 f.2
theorem subF_val (hk : KfOk σ σ' kf) : ∀ {ts : Ts} {c : Int} {ts' : Ts}, subF kf ts = some (c, ts') → tsVal σ'.i ts = lfVal σ.i c ts'
  | [], c, ts', h => by
    simp only [subF, Option.some.injEq, Prod.mk.injEq] at h
    obtain ⟨rfl, rfl⟩ := h
    rfl
  | (a, s) :: l, c, ts', h => by
    simp only [subF] at h
    split at h
    · rename_i c1 ts1 h1
      split at h
      · rename_i c2 ts2 h2
        simp only [Option.some.injEq, Prod.mk.injEq] at h
        obtain ⟨rfl, rfl⟩ := h
        have e1 := hk s _ h1
        have e2 := subF_val hk h2
        simp only [tsVal, lfVal, addTs_val, mulTs_val] at *
        rw [e1, e2]
        have : a * (c1 + tsVal σ.i ts1) = a * c1 + a * tsVal σ.i ts1 := Int.mul_add ..
        omega
      · cases h
    · cases h
theorem ctorIdx_inj {k k' : IntKind} (h : k.ctorIdx = k'.ctorIdx) : k = k' := by cases k <;> cases k' <;> first | rfl | cases h
theorem numF_val {e : Env} {x : CV} {k : IntKind} {c : Int} {ts : Ts} (h : numF x = some (k, c, ts)) {v : Value} : VR σ e x v ↔ v = .int k (lfVal σ.i c ts) := by
  cases x <;> simp only [numF, Option.some.injEq, Prod.mk.injEq, reduceCtorEq] at h
  · obtain ⟨rfl, rfl, rfl⟩ := h
    rename_i n
    have e0 : lfVal σ.i n [] = n := Int.add_zero _
    rw [e0]
    exact ⟨fun h => by cases h; rfl, fun h => by rw [h]; exact .int _ _⟩
  · obtain ⟨rfl, rfl, rfl⟩ := h
    rename_i s
    have e0 : lfVal σ.i 0 [(1, s)] = σ.i s := by simp [lfVal, tsVal]
    rw [e0]
    exact ⟨fun h => by cases h; rfl, fun h => by rw [h]; exact .sym _ _⟩
  · obtain ⟨rfl, rfl, rfl⟩ := h
    exact ⟨fun h => by cases h; rfl, fun h => by rw [h]; exact .lin _ _ _⟩
/-- the small memory's places -/
noncomputable def Env.ren (e : Env) (ρ : Ren) (n : Nat) : Env := fun b => match Nat.blt b n with
  | true => match ρ.get? b with
    | some q => (match e q.1 with | some p => some { p with s := p.s + q.2 } | none => none)
    | none => none
  | false => none
theorem Env.ren_some {e : Env} {n b : Nat} {p : Place} (h : e.ren ρ n b = some p) : b < n ∧ ∃ q p0, ρ.get? b = some q ∧ e q.1 = some p0 ∧ p = { p0 with s := p0.s + q.2 } := by
  unfold Env.ren at h
  split at h
  · rename_i hb
    refine ⟨by simpa [Nat.blt_eq] using hb, ?_⟩
    split at h
    · rename_i q hq
      split at h
      · rename_i p0 hp
        exact ⟨q, p0, hq, hp, (Option.some.inj h).symm⟩
      · cases h
    · cases h
  · cases h
theorem Env.ren_of {e : Env} {n b : Nat} {q : Nat × Nat} {p0 : Place} (hb : b < n) (hq : ρ.get? b = some q) (hp : e q.1 = some p0) : e.ren ρ n b = some { p0 with s := p0.s + q.2 } := by
  unfold Env.ren
  have : Nat.blt b n = true := by rw [Nat.blt_eq]; exact hb
  simp only [this, hq, hp]
theorem VR.pl {e e' : Env} {c : CV} {v : Value} (h : VR σ e c v) (hc : plC c = true) : VR σ' e' c v := by
  cases h <;> first | (cases hc; done) | skip
  · exact .bool _
  · exact .str _ (by assumption) (by assumption)
  · exact .ptr0
  · exact .sl0
  · exact .map0
  · exact .fn0
  · exact .ifc0
  · rename_i cs vs hl hv
    cases cs with
    | nil => exact .tup hl (fun i c v h => by simp at h)
    | cons _ _ => cases hc
/-- a cell of the bigger memory, as the small one has it: its blocks are below n -/
theorem VR.ren {e : Env} {n : Nat} (hs : SatI σ.i iv) (hk : KfOk σ σ' kf) {x y : CV} {v : Value} (h : VR σ e y v) (hx : eqR iv kf ρ x y = true) (hn : ∀ b, ρ.get? b ≠ none → b < n) : VR σ' (e.ren ρ n) x v := by
  have num : ∀ x, numR iv kf (numF x) (numF y) = true → VR σ' (e.ren ρ n) x v := by
    intro x hx
    unfold numR at hx
    split at hx
    · rename_i k c ts hxf
      split at hx
      · rename_i k' c' ts' hyf
        split at hx
        · rename_i hkk
          obtain rfl : k = k' := by simpa using hkk
          split at hx
          · rename_i c1 ts1 hsub
            have e1 := subF_val hk hsub
            have e2 := zeroF_val hs hx
            have e3 := (numF_val (σ := σ) (e := e) hyf).1 h
            refine (numF_val hxf).2 ?_
            rw [e3]
            have e4 : lfVal σ.i (c + c1 - c') (subTs ts1 ts') = c + c1 - c' + (tsVal σ.i ts1 - tsVal σ.i ts') := by simp only [lfVal, subTs_val]
            rw [e4] at e2
            have : lfVal σ'.i c ts = lfVal σ.i c' ts' := by
              show c + tsVal σ'.i ts = c' + tsVal σ.i ts'
              rw [e1]
              show c + (c1 + tsVal σ.i ts1) = _
              omega
            rw [this]
          · cases hx
        · cases hx
      · cases hx
    · cases hx
  unfold eqR at hx
  split at hx
  · rename_i k n
    split at hx
    · rename_i k' n'
      split at hx
      · rename_i hk2
        obtain rfl := ctorIdx_inj (by simpa using hk2)
        rw [eqI_eq] at hx
        obtain rfl : n = n' := by simpa using hx
        cases h
        exact .int _ _
      · cases hx
    · exact num _ hx
  · rename_i b o
    split at hx
    · rename_i c o'
      split at hx
      · rename_i q hq
        simp only [Bool.and_eq_true, Nat.beq_eq] at hx
        obtain ⟨rfl, rfl⟩ := hx
        cases h with
        | @ptr _ _ p hp => exact VR.ptr (p := { p with s := p.s + q.2 }) (Env.ren_of (hn b (by rw [hq]; simp)) hq hp)
      · cases hx
    · cases hx
  · rename_i b o len cap
    split at hx
    · rename_i c o' len' cap'
      split at hx
      · rename_i q hq
        simp only [Bool.and_eq_true, Nat.beq_eq] at hx
        obtain ⟨rfl, rfl, rfl, rfl⟩ := hx
        cases h with
        | @sl _ _ _ _ p hp =>
          have := VR.sl (σ := σ') (o := o) (len := len) (cap := cap) (p := { p with s := p.s + q.2 }) (Env.ren_of (e := e) (hn b (by rw [hq]; simp)) hq hp)
          have e1 : cap + (p.s + q.2) = cap + q.2 + p.s := by omega
          rw [show cap + ({ p with s := p.s + q.2 } : Place).s = cap + q.2 + p.s from e1] at this
          exact this
      · cases hx
    · cases hx
  · split at hx
    · rename_i hp
      have := cvBeq_eq _ _ hx
      subst this
      exact h.pl hp
    · exact num _ hx
theorem deal_eq {α β : Type} : ∀ (l : List α) (k : List α → List α → List α → List α → β), deal l k = k (ev4 l 0) (ev4 l 1) (ev4 l 2) (ev4 l 3)
  | [], _ => rfl
  | a :: l, k => deal_eq l fun y0 y1 y2 y3 => k (a :: y3) y0 y1 y2
theorem ofListDF_eq {α : Type} : ∀ (f : Nat) (l : List α), ofListDF f l = ofListF f l
  | 0, l => rfl
  | f + 1, [] => rfl
  | f + 1, a :: l => by
    show deal l (fun y0 y1 y2 y3 => Tr.mk (.node a (ofListDF f y0) (ofListDF f y1) (ofListDF f y2) (ofListDF f y3))) = .mk (.node a (ofListF f (ev4 l 0)) (ofListF f (ev4 l 1)) (ofListF f (ev4 l 2)) (ofListF f (ev4 l 3)))
    rw [deal_eq, ofListDF_eq f, ofListDF_eq f, ofListDF_eq f, ofListDF_eq f]
theorem ofListD_eq {α : Type} (l : List α) : ofListD l = ofList l := ofListDF_eq _ l
theorem andZ_eq {x y : Bool} (h : andZ x y = true) : x = true ∧ y = true := by cases x <;> first | exact ⟨rfl, h⟩ | cases h
theorem rowZ_get : ∀ {f : Nat} {l : List CV} {G : Tr CV}, rowZ iv kf ρ f l G = true → ∀ j x, l[j]? = some x → ∃ y, G.get? j = some y ∧ eqR iv kf ρ x y = true
  | _, [], _, _, j, x, hj => by simp at hj
  | 0, _ :: _, _, h, _, _, _ => by cases h
  | f + 1, z :: l, ⟨nd⟩, h, j, x, hj => by
    cases nd with
    | nil => cases h
    | node v a b c d =>
      have h : andZ (eqR iv kf ρ z v) (deal l fun y0 y1 y2 y3 => andZ (rowZ iv kf ρ f y0 a) (andZ (rowZ iv kf ρ f y1 b) (andZ (rowZ iv kf ρ f y2 c) (rowZ iv kf ρ f y3 d)))) = true := h
      obtain ⟨h1, h2⟩ := andZ_eq h
      rw [deal_eq] at h2
      obtain ⟨g0, h2⟩ := andZ_eq h2
      obtain ⟨g1, h2⟩ := andZ_eq h2
      obtain ⟨g2, g3⟩ := andZ_eq h2
      cases j with
      | zero =>
        simp only [List.getElem?_cons_zero, Option.some.injEq] at hj
        subst hj
        exact ⟨v, rfl, h1⟩
      | succ p =>
        rw [get_node]
        rw [List.getElem?_cons_succ] at hj
        have key : ∀ r, p % 4 = r → (ev4 l r)[p / 4]? = some x := fun r hr => by
          rw [ev4_get, ← hj]; congr 1; omega
        rcases (by omega : p % 4 = 0 ∨ p % 4 = 1 ∨ p % 4 = 2 ∨ p % 4 = 3) with g | g | g | g
        · rw [g]; exact rowZ_get g0 _ _ (key 0 g)
        · rw [g]; exact rowZ_get g1 _ _ (key 1 g)
        · rw [g]; exact rowZ_get g2 _ _ (key 2 g)
        · rw [g]; exact rowZ_get g3 _ _ (key 3 g)
theorem rowR_get {cs : Tr CV} {l : List CV} {i : Nat} (h : rowR iv kf ρ cs i l = true) (j : Nat) (x : CV) (hj : l[j]? = some x) : ∃ y, cs.get? (i + j) = some y ∧ eqR iv kf ρ x y = true := by
  obtain ⟨h1, h2⟩ := andZ_eq h
  obtain rfl : i = 0 := by simpa using h1
  rw [Nat.zero_add]
  exact rowZ_get h2 j x hj
theorem BR.ren {e : Env} {n : Nat} (hs : SatI σ.i iv) (hk : KfOk σ σ' kf) (hn : ∀ b, ρ.get? b ≠ none → b < n) {f : BC} {δ : Nat} {cb : CB} {p : Place} {o : Obj} (h : BR σ e cb p o) (hb : blkR iv kf ρ f δ cb = true) : BR σ' (e.ren ρ n) f.cb { p with s := p.s + δ } o := by
  cases cb with
  | cells te lo es sz cs =>
    simp only [blkR, Bool.and_eq_true, Nat.beq_eq, beq_iff_eq, Bool.or_eq_true] at hb
    obtain ⟨rfl, rfl, rfl, hsz, hδ, hrow⟩ := hb
    cases h with
    | cells g1 g2 g3 g4 g5 g6 =>
      refine .cells ?_ (fun hlo => ?_) (fun i hi => ?_) (fun i hi => ?_) g5 g6
      · rw [g1, hsz]
        show p.d + (f.l.length + δ * f.es) + p.s * f.es = p.d + f.l.length + (p.s + δ) * f.es
        rw [Nat.add_mul]; omega
      · obtain ⟨a, b⟩ := g2 hlo
        rcases hδ with hδ | hδ
        · subst hδ; exact ⟨a, b⟩
        · rw [hδ] at hlo; cases hlo
      · rw [ofList_get]; exact List.getElem?_eq_none hi
      · obtain ⟨y, hy1, hy2⟩ := rowR_get hrow i f.l[i] (List.getElem?_eq_getElem hi)
        rw [Nat.zero_add] at hy1
        obtain ⟨cv, v, a, b, c⟩ := g4 i (by rw [hsz]; omega)
        rw [hy1] at a
        cases a
        exact ⟨f.l[i], v, by rw [ofList_get]; exact List.getElem?_eq_getElem hi, b, c.ren hs hk hy2 hn⟩
  | _ => cases hb
theorem memR_get {h : Hp} : ∀ {s : List BC} {b : Nat}, memR iv kf ρ h b s = true → ∀ j f, s[j]? = some f → ∃ q cb, ρ.get? (b + j) = some q ∧ h.get? q.1 = some cb ∧ blkR iv kf ρ f q.2 cb = true
  | [], b, _, j, f, hj => by simp at hj
  | g :: s, b, hh, j, f, hj => by
    simp only [memR] at hh
    split at hh
    · rename_i q hq
      split at hh
      · rename_i cb hcb
        split at hh
        · rename_i hb
          cases j with
          | zero => simp at hj; subst hj; exact ⟨q, cb, hq, hcb, hb⟩
          | succ j =>
            obtain ⟨q', cb', a1, a3, a4⟩ := memR_get hh j f (by simpa using hj)
            exact ⟨q', cb', by rw [← a1]; congr 1; omega, a3, a4⟩
        · cases hh
      · cases hh
    · cases hh
theorem ordR_nodup : ∀ {l : List (Nat × Nat)} {hi : Nat} {acc : List Nat}, ordR l hi acc = true → (∀ x ∈ acc, x < hi) → (l.map (·.1)).Nodup ∧ ∀ q ∈ l, q.1 ∉ acc
  | [], _, _, _, _ => ⟨List.nodup_nil, fun q hq => by cases hq⟩
  | q :: l, hi, acc, h, ha => by
    have key : ∀ hi', ordR l hi' (q.1 :: acc) = true → (∀ x ∈ q.1 :: acc, x < hi') → q.1 ∉ acc → ((q :: l).map (·.1)).Nodup ∧ ∀ q' ∈ q :: l, q'.1 ∉ acc := by
      intro hi' h1 h2 h3
      obtain ⟨g1, g2⟩ := ordR_nodup h1 h2
      refine ⟨?_, fun q' hq' => ?_⟩
      · rw [List.map_cons, List.nodup_cons]
        refine ⟨fun hm => ?_, g1⟩
        obtain ⟨q', hq', he⟩ := List.mem_map.1 hm
        exact g2 q' hq' (by rw [he]; exact List.mem_cons_self ..)
      · rcases List.mem_cons.1 hq' with rfl | hq'
        · exact h3
        · exact fun hm => g2 q' hq' (List.mem_cons_of_mem _ hm)
    simp only [ordR] at h
    split at h
    · rename_i hle
      have hle : hi ≤ q.1 := by simpa using hle
      refine key _ h (fun x hx => ?_) (fun hm => by have := ha _ hm; omega)
      rcases List.mem_cons.1 hx with rfl | hx
      · omega
      · have := ha x hx; omega
    · rename_i hle
      have hle : q.1 < hi := by
        rcases Nat.lt_or_ge q.1 hi with h | h
        · exact h
        · have : Nat.ble hi q.1 = true := by simpa using h
          rw [this] at hle; cases hle
      split at h
      · cases h
      · rename_i hel
        refine key _ h (fun x hx => ?_) (fun hm => by have : acc.elem q.1 = true := by simpa using hm
                                                      rw [this] at hel; cases hel)
        rcases List.mem_cons.1 hx with rfl | hx
        · exact hle
        · exact ha x hx
theorem ordR_inj {l : List (Nat × Nat)} (h : ordR l 0 [] = true) : ∀ (b b' : Nat) (q q' : Nat × Nat), l[b]? = some q → l[b']? = some q' → q.1 = q'.1 → b = b' := by
  intro b b' q q' hb hb' he
  have hn := (ordR_nodup h (fun x hx => by cases hx)).1
  obtain ⟨h1, h2⟩ := List.getElem?_eq_some_iff.1 hb
  obtain ⟨h1', h2'⟩ := List.getElem?_eq_some_iff.1 hb'
  rw [List.nodup_iff_pairwise_ne, List.pairwise_iff_getElem] at hn
  rcases Nat.lt_trichotomy b b' with hlt | hlt | hlt
  · have := hn b b' (by simpa using h1) (by simpa using h1') hlt
    simp only [List.getElem_map, h2, h2'] at this
    exact absurd he this
  · exact hlt
  · have := hn b' b (by simpa using h1') (by simpa using h1) hlt
    simp only [List.getElem_map, h2, h2'] at this
    exact absurd he.symm this
/-- THE SMALL MEMORY, LOOKED AT WITHIN THE BIGGER ONE. -/
theorem RL.ren {e : Env} {m : M} {w : World} (hR : RL σ G0 e m w) (hs : SatI σ.i iv) (hk : KfOk σ σ' kf) {s : List BC} (hn : ∀ b, ρ.get? b ≠ none → b < s.length) (hij : ∀ b b' q q', ρ.get? b = some q → ρ.get? b' = some q' → q.1 = q'.1 → b = b') (hm : memR iv kf ρ m.h 0 s = true) (tab : Tab) :
    RL σ' G0 (e.ren ρ s.length) ⟨hpOf s, s.length, tab⟩ w := by
  refine ⟨fun b p cb hb hcb => ?_, fun b p hb => ?_, fun b b' p p' hb hb' hl hl' he => ?_, fun b hb => ?_, (fun g hg => by cases hg)⟩
  · obtain ⟨hlt, q, p0, hq, hp0, rfl⟩ := Env.ren_some hb
    obtain ⟨q', cb0, a1, a3, a4⟩ := memR_get hm b s[b] (List.getElem?_eq_getElem hlt)
    rw [Nat.zero_add, hq] at a1
    cases a1
    have hcb' : cb = (s[b]).cb := by
      have : (hpOf s).get? b = some (s[b]).cb := by rw [hpOf, ofList_get, List.getElem?_map, List.getElem?_eq_getElem hlt]; rfl
      exact Option.some.inj (hcb.symm.trans this)
    subst hcb'
    have old := hR.hr _ _ _ hp0 a3
    by_cases hl : p0.live = true
    · rw [if_pos hl] at old
      obtain ⟨o, h1, h2⟩ := old
      rw [if_pos (show ({ p0 with s := p0.s + q.2 } : Place).live = true from hl)]
      exact ⟨o, h1, h2.ren hs hk hn a4⟩
    · rw [if_neg hl] at old
      subst old
      cases a4
  · obtain ⟨hlt, _⟩ := Env.ren_some hb
    exact ⟨_, by show (hpOf s).get? b = some (s[b]).cb; rw [hpOf, ofList_get, List.getElem?_map, List.getElem?_eq_getElem hlt]; rfl⟩
  · obtain ⟨hlt, q, p0, hq, hp0, rfl⟩ := Env.ren_some hb
    obtain ⟨hlt', q', p0', hq', hp0', rfl⟩ := Env.ren_some hb'
    exact hij b b' q q' hq hq' (hR.inj _ _ _ _ hp0 hp0' hl hl' he)
  · have hb : s.length ≤ b := hb
    unfold Env.ren
    have : Nat.blt b s.length = false := by
      cases h : Nat.blt b s.length with
      | false => rfl
      | true => rw [Nat.blt_eq] at h; omega
    rw [this]
end
end Go.Ev

namespace Go.Ev
/-! From one small memory to another -/
noncomputable section
def slotsR (iv : Ivs) (kf : SFm) (ρ : Ren) (l : List CV) (t : Tm) : Bool := rowR iv kf ρ t 0 l && (match t.get? l.length with | none => true | some _ => false)
/-- a memory and the slots of the frame that runs -/
structure Pt where
  s : List BC
  t : List CV
def idF (n : Nat) : SFm := (List.range n).map fun i => (0, [(1, i)])
def fixL : Nat → List (Nat × Nat) → Nat → Bool
  | 0, _, _ => true
  | _ + 1, [], _ => false
  | n + 1, q :: l, b => Nat.beq q.1 b && (Nat.beq q.2 0 && fixL n l (b + 1))
/-- where a run must end -/
def isPt (f ns : Nat) (l : List (Nat × Nat)) (B : Pt) (t : Tm) (m : M) : Bool := match fixL f l 0 && (Nat.beq l.length B.s.length && ordR l 0 []) with
  | true => (match slotsR m.tab.iv (idF ns) (ofList l) B.t t with
    | true => memR m.tab.iv (idF ns) (ofList l) m.h 0 B.s
    | false => false)
  | false => false
def toPt (f ns : Nat) (l : List (Nat × Nat)) (B : Pt) : KX := fun x t d m => match x with
  | .normal => (match d with | [] => isPt f ns l B t m | _ => false)
  | _ => false
def retPt (f ns : Nat) (l : List (Nat × Nat)) (B : Pt) : KX := fun x t d m => match x with
  | .ret => (match d with | [] => isPt f ns l B t m | _ => false)
  | _ => false
def iterC (ev : EvCode) (p : Nat) : EvCode := Nat.rec (motive := fun _ => EvCode) (fun t d m k => k .normal t d m)
  (fun _ ih t d m k => ev t d m fun x t d m => match x with
    | .normal => ih t d m k
    | .exit id => k (.exit id) t d m
    | .ret => k .ret t d m) p
end
section
variable {P : Program} {σ σ' : Sg} {iv : Ivs} {kf : SFm} {ρ : Ren}
theorem TR.ren {e : Env} {n : Nat} (hs : SatI σ.i iv) (hk : KfOk σ σ' kf) (hn : ∀ b, ρ.get? b ≠ none → b < n) {t : Tm} {T : Array Value} {l : List CV} (h : TR σ e t T) (hb : slotsR iv kf ρ l t = true) : TR σ' (e.ren ρ n) (ofList l) T := by
  simp only [slotsR, Bool.and_eq_true] at hb
  obtain ⟨h1, h2⟩ := hb
  have hnone : T[l.length]? = none := by
    have := h l.length
    split at h2
    · rename_i hg; rw [hg] at this; exact this
    · cases h2
  have hsz : T.size ≤ l.length := by
    rcases Nat.lt_or_ge l.length T.size with h | h
    · rw [Array.getElem?_eq_getElem h] at hnone; cases hnone
    · exact h
  intro i
  rw [ofList_get]
  cases hl : l[i]? with
  | none =>
    have : l.length ≤ i := by simpa using hl
    exact Array.getElem?_eq_none (by omega)
  | some x =>
    obtain ⟨y, hy1, hy2⟩ := rowR_get h1 i x hl
    rw [Nat.zero_add] at hy1
    obtain ⟨v, a, b⟩ := h.get hy1
    exact ⟨v, a, b.ren hs hk hy2 hn⟩
theorem idF_ok (σ : Sg) (n : Nat) : KfOk σ σ (idF n) := by
  intro s f h
  simp only [idF, List.getElem?_map, Option.map_eq_some_iff] at h
  obtain ⟨i, hi, rfl⟩ := h
  have : i = s := by
    rw [List.getElem?_range] at hi
    · exact (Option.some.inj hi).symm
    · rcases Nat.lt_or_ge s n with h | h
      · exact h
      · rw [List.getElem?_eq_none (by simpa using h)] at hi; cases hi
  subst this
  simp [lfVal, tsVal]
theorem ofList_lt {l : List (Nat × Nat)} {n : Nat} (hl : l.length = n) : ∀ b, (ofList l).get? b ≠ none → b < n := by
  intro b hb
  rw [ofList_get] at hb
  rcases Nat.lt_or_ge b l.length with h | h
  · omega
  · exact absurd (List.getElem?_eq_none h) hb
/-- what a run keeps of the real memory -/
structure KeptW (e : Env) (w : World) (e' : Env) (w' : World) : Prop where
  siz : w.heap.size ≤ w'.heap.size
  frm : ∀ r, r < w.heap.size → (∀ b p, e b = some p → p.live = true → p.r ≠ r) → w'.heap[r]? = w.heap[r]?
  rng : ∀ b p, e' b = some p → p.live = true → (∃ b₀ p₀, e b₀ = some p₀ ∧ p₀.live = true ∧ p₀.r = p.r) ∨ w.heap.size ≤ p.r
  tap : w'.tape = w.tape
  os : w'.os = w.os
  out : w'.output = w.output
theorem KeptW.refl (e : Env) (w : World) : KeptW e w e w := ⟨Nat.le_refl _, fun _ _ _ => rfl, fun b p h hl => .inl ⟨b, p, h, hl, rfl⟩, rfl, rfl, rfl⟩
theorem KeptW.trans {e e₁ e₂ : Env} {w w₁ w₂ : World} (h : KeptW e w e₁ w₁) (h' : KeptW e₁ w₁ e₂ w₂) : KeptW e w e₂ w₂ := by
  refine ⟨Nat.le_trans h.siz h'.siz, fun r hr hn => ?_, fun b p hb hl => ?_, h'.tap.trans h.tap, h'.os.trans h.os, h'.out.trans h.out⟩
  · rw [h'.frm r (Nat.lt_of_lt_of_le hr h.siz) ?_, h.frm r hr hn]
    intro b p hb hl he
    rcases h.rng b p hb hl with ⟨b₀, p₀, hb₀, hl₀, hr₀⟩ | hge
    · exact hn b₀ p₀ hb₀ hl₀ (hr₀.trans he)
    · omega
  · rcases h'.rng b p hb hl with ⟨b₀, p₀, hb₀, hl₀, hr₀⟩ | hge
    · rcases h.rng b₀ p₀ hb₀ hl₀ with ⟨b₁, p₁, hb₁, hl₁, hr₁⟩ | hge
      · exact .inl ⟨b₁, p₁, hb₁, hl₁, hr₁.trans hr₀⟩
      · exact .inr (hr₀ ▸ hge)
    · exact .inr (Nat.le_trans h.siz hge)
theorem Kept.toW {e e' : Env} {m m' : M} {w w' : World} (h : Kept e m w e' m' w') : KeptW e w e' w' := ⟨h.siz, h.frm, h.rng, h.tap, h.os, h.out⟩
theorem KeptW.ren (e : Env) (w : World) (ρ : Ren) (n : Nat) : KeptW e w (e.ren ρ n) w := by
  refine ⟨Nat.le_refl _, fun _ _ _ => rfl, fun b p hb hl => ?_, rfl, rfl, rfl⟩
  obtain ⟨_, q, p0, _, h2, rfl⟩ := Env.ren_some hb
  exact .inl ⟨q.1, p0, h2, hl, rfl⟩
/-- the first f names stay -/
def Fix (f : Nat) (e e' : Env) : Prop := ∀ b, b < f → match e b with
  | some p => ∃ p', e' b = some p' ∧ p'.r = p.r ∧ p'.d = p.d ∧ p'.s = p.s ∧ (p'.live = true → p.live = true)
  | none => e' b = none
theorem Fix.refl (f : Nat) (e : Env) : Fix f e e := by
  intro b _
  cases e b with
  | none => rfl
  | some p => exact ⟨p, rfl, rfl, rfl, rfl, id⟩
theorem Fix.trans {f : Nat} {e e₁ e₂ : Env} (h : Fix f e e₁) (h' : Fix f e₁ e₂) : Fix f e e₂ := by
  intro b hb
  have a := h b hb
  have a' := h' b hb
  cases he : e b with
  | none => rw [he] at a; rw [a] at a'; exact a'
  | some p =>
    rw [he] at a
    obtain ⟨p1, b1, b2, b3, b4, b5⟩ := a
    rw [b1] at a'
    obtain ⟨p2, c1, c2, c3, c4, c5⟩ := a'
    exact ⟨p2, c1, c2.trans b2, c3.trans b3, c4.trans b4, fun h => b5 (c5 h)⟩
theorem Kept.fix {e e' : Env} {m m' : M} {w w' : World} (h : Kept e m w e' m' w') {f : Nat} (hf : f ≤ m.n) : Fix f e e' := by
  intro b hb
  cases he : e b with
  | none => exact (h.unb b (by omega) he).1
  | some p => exact h.ext b p he
theorem fixL_get : ∀ {f b0 : Nat} {l : List (Nat × Nat)}, fixL f l b0 = true → ∀ b, b < f → l[b]? = some (b0 + b, 0)
  | 0, _, _, _, b, hb => by omega
  | f + 1, b0, [], h, b, hb => by cases h
  | f + 1, b0, q :: l, h, b, hb => by
    simp only [fixL, Bool.and_eq_true, Nat.beq_eq] at h
    obtain ⟨h1, h2, h3⟩ := h
    cases b with
    | zero => simp only [List.getElem?_cons_zero, Nat.add_zero]; rw [← h1, ← h2]
    | succ b =>
      rw [List.getElem?_cons_succ, fixL_get h3 b (by omega)]
      congr 2; omega
theorem fix_ren {f n : Nat} {l : List (Nat × Nat)} (h : fixL f l 0 = true) (hn : f ≤ n) (e : Env) : Fix f e (e.ren (ofList l) n) := by
  intro b hb
  have hg : (ofList l).get? b = some (b, 0) := by rw [ofList_get, fixL_get h b hb, Nat.zero_add]
  cases he : e b with
  | none =>
    show e.ren (ofList l) n b = none
    unfold Env.ren
    cases Nat.blt b n with
    | true => simp only [hg, he]
    | false => rfl
  | some p => exact ⟨_, Env.ren_of (by omega) hg he, rfl, rfl, Nat.add_zero _, id⟩
/-- the real state at a point -/
def AtP (σ : Sg) (A : Pt) (e : Env) (w : World) (T : Array Value) : Prop := RL σ G0 e ⟨hpOf A.s, A.s.length, ⟨[], []⟩⟩ w ∧ TR σ e (ofList A.t) T
def SegI (P : Program) (σ : Sg) (fn : FuncId) (f : Nat) (A : Pt) (hd : List Item) (B : Pt) (hd' : List Item) : Prop := ∀ (e : Env) (w : World) (T : Array Value) (b : Frame) (cs : List Frame) (k : List Item), AtP σ A e w T → FrOK false b cs → b.fn = fn →
  ∃ T' w' e', Steps P (lone (fr b T [] (hd ++ k)) cs w) (lone (fr b T' [] (hd' ++ k)) cs w') ∧ AtP σ B e' w' T' ∧ KeptW e w e' w' ∧ Fix f e e'
/-- up to a return -/
def SegR (P : Program) (σ : Sg) (fn : FuncId) (f : Nat) (A : Pt) (hd : List Item) (B : Pt) : Prop := ∀ (e : Env) (w : World) (T : Array Value) (b : Frame) (cs : List Frame) (k : List Item), AtP σ A e w T → FrOK false b cs → b.fn = fn →
  ∃ T' w' e' k', Steps P (lone (fr b T [] (hd ++ k)) cs w) (lone (fr b T' [] (.code .ret :: k')) cs w') ∧ AtP σ B e' w' T' ∧ KeptW e w e' w' ∧ Fix f e e'
variable {fn : FuncId} {f : Nat} {A B C : Pt} {hd hd' hd'' : List Item}
theorem SegI.refl : SegI P σ fn f A hd A hd := fun e w T _ _ _ hA _ _ => ⟨T, w, e, .refl _ _, hA, .refl _ _, .refl _ _⟩
theorem SegI.trans (h : SegI P σ fn f A hd B hd') (h' : SegI P σ fn f B hd' C hd'') : SegI P σ fn f A hd C hd'' := by
  intro e w T b cs k hA hf hfn
  obtain ⟨T1, w1, e1, a1, a2, a3, a4⟩ := h e w T b cs k hA hf hfn
  obtain ⟨T2, w2, e2, b1, b2, b3, b4⟩ := h' e1 w1 T1 b cs k a2 hf hfn
  exact ⟨T2, w2, e2, a1.trans b1, b2, a3.trans b3, a4.trans b4⟩
theorem SegI.ret (h : SegI P σ fn f A hd B hd') (h' : SegR P σ fn f B hd' C) : SegR P σ fn f A hd C := by
  intro e w T b cs k hA hf hfn
  obtain ⟨T1, w1, e1, a1, a2, a3, a4⟩ := h e w T b cs k hA hf hfn
  obtain ⟨T2, w2, e2, k', b1, b2, b3, b4⟩ := h' e1 w1 T1 b cs k a2 hf hfn
  exact ⟨T2, w2, e2, k', a1.trans b1, b2, a3.trans b3, a4.trans b4⟩
theorem SegI.ctl (h : ∀ (b : Frame) (T : Array Value) (cs : List Frame) (k : List Item) (w : World), step P (lone (fr b T [] (hd ++ k)) cs w) = .next (lone (fr b T [] (hd' ++ k)) cs w)) : SegI P σ fn f A hd A hd' :=
  fun e w T b cs k hA _ _ => ⟨T, w, e, .one (h b T cs k w), hA, .refl _ _, .refl _ _⟩
theorem SegI.tail (h : SegI P σ fn f A hd B hd') (l : List Item) : SegI P σ fn f A (hd ++ l) B (hd' ++ l) := by
  intro e w T b cs k hA hf hfn
  rw [List.append_assoc, List.append_assoc]
  exact h e w T b cs (l ++ k) hA hf hfn
theorem SegR.tail (h : SegR P σ fn f A hd B) (l : List Item) : SegR P σ fn f A (hd ++ l) B := by
  intro e w T b cs k hA hf hfn
  rw [List.append_assoc]
  exact h e w T b cs (l ++ k) hA hf hfn
/-- where a run ended -/
theorem isPt_at {ns : Nat} {l : List (Nat × Nat)} {t : Tm} {m m0 : M} (hf : f ≤ m0.n) (h : isPt f ns l B t m = true) (hs : Sat σ m.tab) {e0 e : Env} {w0 w : World} {T : Array Value} (hR : RL σ G0 e m w) (hT : TR σ e t T) (hK : Kept e0 m0 w0 e m w) (hfB : f ≤ B.s.length) :
    ∃ e', AtP σ B e' w T ∧ KeptW e0 w0 e' w ∧ Fix f e0 e' := by
  unfold isPt at h
  split at h
  · rename_i h1
    rw [Bool.and_eq_true, Bool.and_eq_true] at h1
    obtain ⟨h1, h2, hord⟩ := h1
    have h2 : l.length = B.s.length := by simpa using h2
    have hij : ∀ b b' q q', (ofList l).get? b = some q → (ofList l).get? b' = some q' → q.1 = q'.1 → b = b' := fun b b' q q' hq hq' => by
      rw [ofList_get] at hq hq'
      exact ordR_inj hord b b' q q' hq hq'
    split at h
    · rename_i h3
      have hn := ofList_lt h2
      exact ⟨e.ren (ofList l) B.s.length, ⟨hR.ren hs.iv (idF_ok σ ns) hn hij h _, hT.ren hs.iv (idF_ok σ ns) hn h3⟩, hK.toW.trans (.ren _ _ _ _), (hK.fix hf).trans (fix_ren h1 hfB e)⟩
    · cases h
  · cases h
theorem iterC_ok {G : Nat → Bool} {a : Code} {ev : EvCode} (ha : CodeOK P σ G fn false a ev) : ∀ (p : Nat) t d m K, iterC ev p t d m K = true → Sat σ m.tab →
    ∃ x t' d' m', K x t' d' m' = true ∧ Sat σ m'.tab ∧ ∀ (e : Env) (w : World) (T : Array Value) (D : List Deferred) (b : Frame) (cs : List Frame) (k : List Item), RL σ G e m w → TR σ e t T → DR σ e d D → FrOK false b cs → b.fn = fn →
      ∃ T' D' w' e' todo, Steps P (lone (fr b T D (.code a :: .inLoop a :: k)) cs w) (lone (fr b T' D' todo) cs w') ∧ (match x with | .normal => todo = .code a :: .inLoop a :: k | x => Land x k todo) ∧ RL σ G e' m' w' ∧ TR σ e' t' T' ∧ DR σ e' d' D' ∧ Kept e m w e' m' w'
  | 0, t, d, m, K, hh, hs => ⟨.normal, t, d, m, hh, hs, fun e w T D b cs k hR hT hD _ _ => ⟨T, D, w, e, _, .refl _ _, rfl, hR, hT, hD, .refl _ _ _⟩⟩
  | p + 1, t, d, m, K, hh, hs => by
    obtain ⟨x, t1, d1, m1, h1, hs1, h2⟩ := ha t d m (fun x t d m => match x with
      | .normal => iterC ev p t d m K
      | .exit id => K (.exit id) t d m
      | .ret => K .ret t d m) hh hs
    cases x with
    | normal =>
      obtain ⟨x, t2, d2, m2, h3, hs2, h4⟩ := iterC_ok ha p t1 d1 m1 K h1 hs1
      refine ⟨x, t2, d2, m2, h3, hs2, fun e w T D fb cs k hR hT hD hf hfn => ?_⟩
      obtain ⟨T1, D1, w1, e1, todo, q1, q2, q3, q4, q5, q6⟩ := h2 e w T D fb cs (.inLoop a :: k) hR hT hD hf hfn
      rw [show todo = _ from q2] at q1
      obtain ⟨T2, D2, w2, e2, todo2, r1, r2, r3, r4, r5, r6⟩ := h4 e1 w1 T1 D1 fb cs k q3 q4 q5 hf hfn
      exact ⟨T2, D2, w2, e2, todo2, q1.trans (.head st_inLoop r1), r2, r3, r4, r5, q6.trans r6⟩
    | exit id =>
      refine ⟨.exit id, t1, d1, m1, h1, hs1, fun e w T D fb cs k hR hT hD hf hfn => ?_⟩
      obtain ⟨T1, D1, w1, e1, todo, q1, ⟨k'', hk1, hk2⟩, q3, q4, q5, q6⟩ := h2 e w T D fb cs (.inLoop a :: k) hR hT hD hf hfn
      exact ⟨T1, D1, w1, e1, todo, q1, ⟨k'', hk1, by rw [hk2]; simp [exitTo]⟩, q3, q4, q5, q6⟩
    | ret =>
      refine ⟨.ret, t1, d1, m1, h1, hs1, fun e w T D fb cs k hR hT hD hf hfn => ?_⟩
      obtain ⟨T1, D1, w1, e1, todo, q1, q2, q3, q4, q5, q6⟩ := h2 e w T D fb cs (.inLoop a :: k) hR hT hD hf hfn
      exact ⟨T1, D1, w1, e1, todo, q1, q2, q3, q4, q5, q6⟩
/-- some rounds of a loop, seen -/
theorem seg_iter {ns p : Nat} {a : Code} {ev : EvCode} (ha : CodeOK P σ G0 fn false a ev) {l : List (Nat × Nat)} {tab : Tab} (hh : iterC ev p (ofList A.t) [] ⟨hpOf A.s, A.s.length, tab⟩ (toPt f ns l B) = true) (hs : Sat σ tab) (hfA : f ≤ A.s.length) (hfB : f ≤ B.s.length) :
    SegI P σ fn f A [.code a, .inLoop a] B [.code a, .inLoop a] := by
  obtain ⟨x, t', d', m', h1, h2, h3⟩ := iterC_ok ha p _ _ _ _ hh hs
  cases x <;> first | (cases h1; done) | skip
  cases d' with
  | cons _ _ => cases h1
  | nil =>
    intro e w T b cs k ⟨hR, hT⟩ hf hfn
    obtain ⟨T', D', w', e', todo, q1, q2, q3, q4, q5, q6⟩ := h3 e w T [] b cs k (hR.tab tab) hT .nil hf hfn
    obtain rfl : todo = _ := q2
    cases q5
    obtain ⟨e9, r1, r2, r3⟩ := isPt_at (m0 := ⟨hpOf A.s, A.s.length, tab⟩) hfA h1 h2 q3 q4 q6 hfB
    exact ⟨T', w', e9, q1, r1, r2, r3⟩
/-- .. that ends with a return -/
theorem seg_iterR {ns p : Nat} {a : Code} {ev : EvCode} (ha : CodeOK P σ G0 fn false a ev) {l : List (Nat × Nat)} {tab : Tab} (hh : iterC ev p (ofList A.t) [] ⟨hpOf A.s, A.s.length, tab⟩ (retPt f ns l B) = true) (hs : Sat σ tab) (hfA : f ≤ A.s.length) (hfB : f ≤ B.s.length) :
    SegR P σ fn f A [.code a, .inLoop a] B := by
  obtain ⟨x, t', d', m', h1, h2, h3⟩ := iterC_ok ha p _ _ _ _ hh hs
  cases x <;> first | (cases h1; done) | skip
  cases d' with
  | cons _ _ => cases h1
  | nil =>
    intro e w T b cs k ⟨hR, hT⟩ hf hfn
    obtain ⟨T', D', w', e', todo, q1, ⟨k', q2⟩, q3, q4, q5, q6⟩ := h3 e w T [] b cs k (hR.tab tab) hT .nil hf hfn
    subst q2
    cases q5
    obtain ⟨e9, r1, r2, r3⟩ := isPt_at (m0 := ⟨hpOf A.s, A.s.length, tab⟩) hfA h1 h2 q3 q4 q6 hfB
    exact ⟨T', w', e9, k', q1, r1, r2, r3⟩
/-- a code, seen -/
theorem seg_code {ns : Nat} {a : Code} {ev : EvCode} (ha : CodeOK P σ G0 fn false a ev) {l : List (Nat × Nat)} {tab : Tab} (hh : ev (ofList A.t) [] ⟨hpOf A.s, A.s.length, tab⟩ (toPt f ns l B) = true) (hs : Sat σ tab) (hfA : f ≤ A.s.length) (hfB : f ≤ B.s.length) :
    SegI P σ fn f A [.code a] B [] := by
  obtain ⟨x, t', d', m', h1, h2, h3⟩ := ha _ _ _ _ hh hs
  cases x <;> first | (cases h1; done) | skip
  cases d' with
  | cons _ _ => cases h1
  | nil =>
    intro e w T b cs k ⟨hR, hT⟩ hf hfn
    obtain ⟨T', D', w', e', todo, q1, q2, q3, q4, q5, q6⟩ := h3 e w T [] b cs k (hR.tab tab) hT .nil hf hfn
    obtain rfl : todo = _ := q2
    cases q5
    obtain ⟨e9, r1, r2, r3⟩ := isPt_at (m0 := ⟨hpOf A.s, A.s.length, tab⟩) hfA h1 h2 q3 q4 q6 hfB
    exact ⟨T', w', e9, q1, r1, r2, r3⟩
end
end Go.Ev

namespace Go.Ev
/-! A call known from small memory to small memory, within a bigger one -/
section
variable {P : Program} {σ σ' : Sg}
def CallTo (P : Program) (σ : Sg) (g : FuncId) (f : Nat) (as0 : List CV) (s0 : List BC) (r : CV) (s9 : List BC) : Prop :=
  ∀ (e : Env) (w : World) (vs : Array Value) (kd : CallKind) (c : Frame) (cs : List Frame), RL σ G0 e ⟨hpOf s0, s0.length, ⟨[], []⟩⟩ w → LR σ e as0 vs.toList → KindOK (.func g) kd c →
    ∃ v' w' e', CallGoes P kd c cs (callFunc g vs) w v' w' ∧ VR σ e' r v' ∧ RL σ G0 e' ⟨hpOf s9, s9.length, ⟨[], []⟩⟩ w' ∧ KeptW e w e' w' ∧ Fix f e e'
theorem TR.entry {e : Env} {as0 : List CV} {vs : Array Value} {n : Nat} (hv : LR σ e as0 vs.toList) (hn : as0.length ≤ n) : TR σ e (ofList (as0 ++ List.replicate (n - as0.length) undefC)) (vs ++ Array.replicate (n - vs.size) undef) := by
  have hlen : as0.length = vs.size := by simpa using hv.1
  intro i
  rw [ofList_get]
  by_cases h1 : i < as0.length
  · rw [List.getElem?_append_left h1, List.getElem?_eq_getElem h1]
    obtain ⟨v, h2, h3⟩ := hv.get (List.getElem?_eq_getElem h1)
    exact ⟨v, by rw [Array.getElem?_append_left (by omega)]; simpa using h2, h3⟩
  · rw [List.getElem?_append_right (by omega)]
    by_cases h2 : i < n
    · rw [List.getElem?_replicate, if_pos (by omega)]
      refine ⟨undef, ?_, undef_VR⟩
      rw [Array.getElem?_append_right (by omega), Array.getElem?_replicate, if_pos (by omega)]
    · rw [List.getElem?_replicate, if_neg (by omega)]
      exact Array.getElem?_eq_none (by simp; omega)
theorem callTo_of_seg (hng : NoCount P) {g : FuncId} {fn : Func} {cb : Code} (hfn : P.funcs[g]? = some fn) (hbody : fn.body = some cb) {f : Nat} {as0 : List CV} {s0 : List BC} (hn : as0.length ≤ fn.ntmps) {B : Pt}
    (hseg : SegR P σ g f ⟨s0, as0 ++ List.replicate (fn.ntmps - as0.length) undefC⟩ [.code cb] B) {r : CV} (hr : resultsC P fn.results.toList (ofList B.t) ⟨hpOf B.s, B.s.length, ⟨[], []⟩⟩ (fun vs => cvBeq (oneOr vs) r) = true) :
    CallTo P σ g f as0 s0 r B.s := by
  intro e w vs kd c cs hR hv hk
  have hkd : kd = .normal ∨ (kd = .deferred ∧ c.mode = .returning) := hk.imp id (fun h => ⟨h.1, h.2.1⟩)
  let b : Frame := { fn := g, tmps := #[], todo := [], defers := [], mode := .run, kind := kd }
  have henter : Frame.enter P g vs kd = fr b (vs ++ Array.replicate (fn.ntmps - vs.size) undef) [] [.code cb] := by
    simp [Frame.enter, fr, hfn, hbody, b]
  have hfo : FrOK false b (c :: cs) := ⟨rfl, hkd.imp id (fun h => ⟨h.1, c, cs, rfl, .inl h.2⟩)⟩
  obtain ⟨T', w', e', k', q1, ⟨q2, q3⟩, q4, q5⟩ := hseg e w _ b (c :: cs) [] ⟨hR, TR.entry hv hn⟩ hfo rfl
  obtain ⟨us, h1, h2⟩ := results_run (P := P) (σ := σ) (fn := fn) hr
  obtain ⟨v, s1, s2⟩ := h2 q2.hr q3
  have h1 := cvBeq_eq _ _ h1
  rw [h1] at s2
  refine ⟨v, w', e', ?_, s2, q2, q4, q5⟩
  simp only [CallGoes, callFunc_body hng hfn hbody]
  rw [henter]
  exact q1.trans (.head (st_ret' rfl) (.one (st_return (b := b) hfn s1 hkd)))
end
noncomputable section
/-! the blocks that are bound, by links -/
def tgt : CV → Option Nat
  | .ptr b _ => some b
  | .sl b _ _ _ => some b
  | _ => none
def lnk (s : List BC) : List (Nat × Nat) → List Nat → Option (List Nat)
  | [], bs => some bs
  | (b, i) :: l, bs => match bs.elem b with
    | true => (match s[b]? with
      | some f => (match f.l[i]? with
        | some x => (match tgt x with | some c => lnk s l (c :: bs) | none => none)
        | none => none)
      | none => none)
    | false => none
def lnkOk (s : List BC) (as0 : List CV) (l : List (Nat × Nat)) : Bool := match as0 with
  | x :: _ => match tgt x with
    | some b => match lnk s l [b] with
      | some bs => (List.range s.length).all fun b => bs.elem b
      | none => false
    | none => false
  | [] => false
/-- bounds of a form -/
def bdF (iv : Ivs) : Ts → Option (Int × Int)
  | [] => some (0, 0)
  | (a, s) :: l => match iv[s]? with
    | some (lo, hi) => match bdF iv l with
      | some (x, y) => (match decide (0 ≤ a) with | true => some (a * lo + x, a * hi + y) | false => some (a * hi + x, a * lo + y))
      | none => none
    | none => none
def ivOk (iv : Ivs) : SFm → Ivs → Bool
  | _, [] => true
  | [], _ :: _ => false
  | f :: kf, q :: l => match bdF iv f.2 with
    | some (x, y) => (match decide (q.1 ≤ f.1 + x) && decide (f.1 + y ≤ q.2) with | true => ivOk iv kf l | false => false)
    | none => false
/-- a cell, back in the bigger memory's names; the block nw gets the new name nn -/
def backC (kf : SFm) (ρ : Ren) (f nw nn : Nat) (x : CV) : Option CV := match x with
  | .ptr b o => match Nat.blt b f with
    | true => (match ρ.get? b with | some q => some (.ptr q.1 o) | none => none)
    | false => none
  | .sl b o len cap => match Nat.beq len 0 with
    | true => some .slE
    | false => (match Nat.blt b f with
      | true => (match ρ.get? b with | some q => some (.sl q.1 o len (cap + q.2)) | none => none)
      | false => (match Nat.beq b nw with | true => some (.sl nn o len cap) | false => none))
  | x => match plC x with
    | true => some x
    | false => (match numF x with
      | some (k, c, ts) => (match subF kf ts with | some (c1, ts1) => some (.lin k (c + c1) ts1) | none => none)
      | none => none)
def backR (kf : SFm) (ρ : Ren) (f nw nn : Nat) : List CV → Option (List CV)
  | [] => some []
  | x :: l => match backC kf ρ f nw nn x with
    | some y => (match backR kf ρ f nw nn l with | some l' => some (y :: l') | none => none)
    | none => none
/-- the names of the small memory: what stands there afterwards -/
def backs (kf : SFm) (ρ : Ren) (f sv nw nn : Nat) (s9 : List BC) : List (Nat × Nat) → Nat → Option (List (Nat × CB))
  | [], _ => some []
  | q :: l, b => match backs kf ρ f sv nw nn s9 l (b + 1) with
    | some r => match Nat.beq b sv with
      | true => (match s9[b]? with
        | some g => (match backR kf ρ f nw nn g.l with | some l' => (match Nat.beq q.2 0 with | true => some ((q.1, (BC.mk g.te g.lo g.es l').cb) :: r) | false => none) | none => none)
        | none => none)
      | false => some ((q.1, .none) :: r)
    | none => none
def setBs (l : List (Nat × CB)) : Hp → (Hp → Bool) → Bool := lrec (fun h k => k h) (fun p _ ih h k => setK p.2 h p.1 fun h' => ih h' k) l
def argsR (iv : Ivs) (kf : SFm) (ρ : Ren) : List CV → List CV → Bool
  | [], [] => true
  | x :: l, y :: l' => (match eqR iv kf ρ x y with | true => argsR iv kf ρ l l' | false => false)
  | _, _ => false
/-- what is known of a call: its arguments and its memory before, what it hands back and its memory afterwards; the first f names stay, the block sv is looked at afterwards, the block nw is named afterwards -/
structure Know where
  g : FuncId
  f : Nat
  sv : Nat
  nw : Nat
  as0 : List CV
  s0 : List BC
  lk : List (Nat × Nat)
  iv0 : Ivs
  r : CV
  s9 : List BC
def ovrF (kn : Know) (kf : SFm) (ρl : List (Nat × Nat)) (call : CallFn) : CallFn := fun fn args m k => match fn with
  | .func g => match Nat.beq g kn.g with
    | true => (match argsR m.tab.iv kf (ofList ρl) kn.as0 args && (ivOk m.tab.iv kf kn.iv0 && memR m.tab.iv kf (ofList ρl) m.h 0 kn.s0) with
      | true => (match backs kf (ofList ρl) kn.f kn.sv kn.nw m.n kn.s9 ρl 0 with
        | some l => setBs l m.h fun h' => newB .none ⟨h', m.n, m.tab⟩ fun _ m => k kn.r m
        | none => false)
      | false => false)
    | false => call (.func g) args m k
  | fn => call fn args m k
/-- what stands once for all -/
def Know.ok (kn : Know) (ρl : List (Nat × Nat)) : Bool := lnkOk kn.s0 kn.as0 kn.lk && (Nat.beq ρl.length kn.s0.length && (Nat.ble kn.f kn.s0.length && (Nat.ble kn.f kn.s9.length && (Nat.blt kn.sv kn.f && (plC kn.r && ordR ρl 0 [])))))
end
section
variable {P : Program} {σ σ' : Sg} {iv : Ivs} {kf : SFm} {ρ : Ren}
theorem bdF_val {g : Nat → Int} (hs : SatI g iv) : ∀ {ts : Ts} {x y : Int}, bdF iv ts = some (x, y) → x ≤ tsVal g ts ∧ tsVal g ts ≤ y
  | [], x, y, h => by simp only [bdF, Option.some.injEq, Prod.mk.injEq] at h; obtain ⟨rfl, rfl⟩ := h; exact ⟨Int.le_refl _, Int.le_refl _⟩
  | (a, s) :: l, x, y, h => by
    simp only [bdF] at h
    split at h
    · rename_i lo hi h1
      split at h
      · rename_i x1 y1 h2
        obtain ⟨i1, i2⟩ := bdF_val hs h2
        obtain ⟨j1, j2⟩ := hs s lo hi h1
        simp only [tsVal]
        split at h
        · rename_i ha
          have ha : 0 ≤ a := by simpa using ha
          simp only [Option.some.injEq, Prod.mk.injEq] at h
          obtain ⟨rfl, rfl⟩ := h
          have := Int.mul_le_mul_of_nonneg_left j1 ha
          have := Int.mul_le_mul_of_nonneg_left j2 ha
          omega
        · rename_i ha
          have ha : a ≤ 0 := by have : ¬ 0 ≤ a := by simpa using ha
                                omega
          simp only [Option.some.injEq, Prod.mk.injEq] at h
          obtain ⟨rfl, rfl⟩ := h
          have := Int.mul_le_mul_of_nonpos_left ha j1
          have := Int.mul_le_mul_of_nonpos_left ha j2
          omega
      · cases h
    · cases h
theorem ivOk_val {g g' : Nat → Int} (hs : SatI g iv) : ∀ {kf : SFm} {l : Ivs} {b : Nat}, ivOk iv kf l = true → (∀ s f, kf[s]? = some f → g' (b + s) = lfVal g f.1 f.2) → ∀ s lo hi, l[s]? = some (lo, hi) → lo ≤ g' (b + s) ∧ g' (b + s) ≤ hi
  | _, [], _, _, _, s, lo, hi, h => by simp at h
  | [], _ :: _, _, h, _, _, _, _, _ => by cases h
  | f :: kf, q :: l, b, h, hk, s, lo, hi, hl => by
    simp only [ivOk] at h
    split at h
    · rename_i x y hb
      split at h
      · rename_i hd
        simp only [Bool.and_eq_true, decide_eq_true_eq] at hd
        cases s with
        | zero =>
          simp only [List.getElem?_cons_zero, Option.some.injEq] at hl
          subst hl
          have e := hk 0 f (by simp)
          have := bdF_val hs hb
          rw [e]
          simp only [lfVal]
          simp only at hd
          omega
        | succ s =>
          have := ivOk_val hs (g' := g') (b := b + 1) h (fun s' f' h' => by have := hk (s' + 1) f' (by simpa using h'); rw [← this]; congr 1; omega) s lo hi (by simpa using hl)
          have e : b + (s + 1) = b + 1 + s := by omega
          rw [e]; exact this
      · cases h
    · cases h
/-- symbols as their forms say -/
def sgOf (σ : Sg) (kf : SFm) : Sg := { i := fun s => match kf[s]? with | some f => lfVal σ.i f.1 f.2 | none => 0, s := σ.s }
theorem sgOf_ok (σ : Sg) (kf : SFm) : KfOk σ (sgOf σ kf) kf := by
  intro s f h
  show (match kf[s]? with | some f => lfVal σ.i f.1 f.2 | none => 0) = _
  rw [h]
theorem argsR_LR {e : Env} {n : Nat} (hs : SatI σ.i iv) (hk : KfOk σ σ' kf) (hn : ∀ b, ρ.get? b ≠ none → b < n) : ∀ {as0 args : List CV} {vs : List Value}, argsR iv kf ρ as0 args = true → LR σ e args vs → LR σ' (e.ren ρ n) as0 vs
  | [], [], vs, _, h => by rw [h.nil_inv]; exact .nil
  | [], _ :: _, _, h, _ => by cases h
  | _ :: _, [], _, h, _ => by cases h
  | x :: l, y :: l', vs, h, hl => by
    simp only [argsR] at h
    split at h
    · rename_i hx
      obtain ⟨v, vs', rfl, h1, h2⟩ := hl.cons_inv
      exact LR.cons (h1.ren hs hk hx hn) (argsR_LR hs hk hn h h2)
    · cases h
/-- a name that is pointed at is bound -/
theorem tgt_bound {e : Env} {x y : CV} {v : Value} {b : Nat} (hx : tgt x = some b) (he : eqR iv kf ρ x y = true) (h : VR σ e y v) : ∃ q p, ρ.get? b = some q ∧ e q.1 = some p := by
  cases x <;> simp only [tgt, Option.some.injEq, reduceCtorEq] at hx
  · subst hx
    simp only [eqR] at he
    split at he
    · split at he
      · rename_i q hq
        simp only [Bool.and_eq_true, Nat.beq_eq] at he
        obtain ⟨rfl, rfl⟩ := he
        cases h with
        | ptr hp => exact ⟨q, _, hq, hp⟩
      · cases he
    · cases he
  · subst hx
    simp only [eqR] at he
    split at he
    · split at he
      · rename_i q hq
        simp only [Bool.and_eq_true, Nat.beq_eq] at he
        obtain ⟨rfl, _⟩ := he
        cases h with
        | sl hp => exact ⟨q, _, hq, hp⟩
      · cases he
    · cases he
theorem lnk_bound {e : Env} {m : M} {w : World} (hR : RL σ G0 e m w) {s : List BC} (hm : memR iv kf ρ m.h 0 s = true) : ∀ {l : List (Nat × Nat)} {bs bs' : List Nat}, lnk s l bs = some bs' → (∀ b ∈ bs, ∃ q p, ρ.get? b = some q ∧ e q.1 = some p) →
    ∀ b ∈ bs', ∃ q p, ρ.get? b = some q ∧ e q.1 = some p
  | [], bs, bs', h, hb => by simp only [lnk, Option.some.injEq] at h; subst h; exact hb
  | (b, i) :: l, bs, bs', h, hb => by
    simp only [lnk] at h
    split at h
    · rename_i hel
      split at h
      · rename_i f hf
        split at h
        · rename_i x hx
          split at h
          · rename_i c hc
            refine lnk_bound hR hm h fun d hd => ?_
            rcases List.mem_cons.1 hd with rfl | hd
            · obtain ⟨q, p, h1, h2⟩ := hb b (by simpa using hel)
              obtain ⟨q', cb, a1, a3, a4⟩ := memR_get hm b f hf
              rw [Nat.zero_add, h1] at a1
              cases a1
              have old := hR.hr _ _ _ h2 a3
              cases cb with
              | cells te lo es sz cs =>
                split at old
                · obtain ⟨o, _, g2⟩ := old
                  simp only [blkR, Bool.and_eq_true, Nat.beq_eq, beq_iff_eq, Bool.or_eq_true] at a4
                  obtain ⟨_, _, _, hsz, _, hrow⟩ := a4
                  obtain ⟨y, hy1, hy2⟩ := rowR_get hrow i x hx
                  rw [Nat.zero_add] at hy1
                  cases g2 with
                  | cells _ _ hout hin _ _ =>
                    have hi : i < sz := by
                      rcases Nat.lt_or_ge i sz with h | h
                      · exact h
                      · rw [hout i h] at hy1; cases hy1
                    obtain ⟨cv, v, k1, _, k3⟩ := hin i hi
                    rw [hy1] at k1
                    cases k1
                    exact tgt_bound hc hy2 k3
                · cases old
              | _ => cases a4
            · exact hb d hd
          · cases h
        · cases h
      · cases h
    · cases h
theorem all_bound {e : Env} {m : M} {w : World} (hR : RL σ G0 e m w) {s : List BC} (hm : memR iv kf ρ m.h 0 s = true) {as0 args : List CV} {vs : List Value} (ha : argsR iv kf ρ as0 args = true) (hl : LR σ e args vs) {lk : List (Nat × Nat)} (hlk : lnkOk s as0 lk = true) :
    ∀ b, b < s.length → ∃ q p, ρ.get? b = some q ∧ e q.1 = some p := by
  cases as0 with
  | nil => cases hlk
  | cons x as0 =>
    cases args with
    | nil => cases ha
    | cons y args =>
      simp only [argsR] at ha
      split at ha
      · rename_i hx
        obtain ⟨v, vs', rfl, h1, _⟩ := hl.cons_inv
        simp only [lnkOk] at hlk
        split at hlk
        · rename_i b0 hb0
          split at hlk
          · rename_i bs hbs
            intro b hb
            have := List.all_eq_true.1 hlk b (List.mem_range.2 hb)
            refine lnk_bound hR hm hbs (fun c hc => ?_) b (by simpa using this)
            obtain rfl : c = b0 := by simpa using hc
            exact tgt_bound hb0 hx h1
          · cases hlk
        · cases hlk
      · cases ha
/-! back -/
theorem setBs_inv : ∀ {l : List (Nat × CB)} {h : Hp} {k : Hp → Bool}, setBs l h k = true → ∃ h', k h' = true ∧ (∀ j, (∀ p ∈ l, p.1 ≠ j) → h'.get? j = h.get? j) ∧ (l.Pairwise (fun p q => p.1 ≠ q.1) → ∀ p ∈ l, h'.get? p.1 = some p.2) ∧ (∀ j, (∃ y, h.get? j = some y) → ∃ y, h'.get? j = some y)
  | [], h, k, hh => ⟨h, hh, (fun _ _ => rfl), (fun _ p hp => by cases hp), (fun _ h => h)⟩
  | p :: l, h, k, hh => by
    obtain ⟨h1, h2, _, h3⟩ := setK_inv _ _ _ _ (show setK p.2 h p.1 (fun h' => setBs l h' k) = true from hh)
    obtain ⟨h', h4, h5, h6, h7⟩ := setBs_inv h2
    refine ⟨h', h4, fun j hj => ?_, fun hp q hq => ?_, fun j ⟨y, hy⟩ => ?_⟩
    · rw [h5 j (fun q hq => hj q (List.mem_cons_of_mem _ hq)), h3, if_neg (fun he => hj p (List.mem_cons_self ..) he.symm)]
    · rw [List.pairwise_cons] at hp
      rcases List.mem_cons.1 hq with rfl | hq
      · rw [h5 q.1 (fun q' hq' he => hp.1 q' hq' he.symm), h3]; simp
      · exact h6 hp.2 q hq
    · refine h7 j ?_
      rw [h3]
      split
      · exact ⟨_, rfl⟩
      · exact ⟨y, hy⟩
theorem backC_VR {e e9 e2 : Env} {n f nw nn : Nat} (hnw : ∀ p, e9 nw = some p → ∃ p2, e2 nn = some p2 ∧ p2.r = p.r ∧ p2.d = p.d ∧ p2.s = p.s) (hk : KfOk σ σ' kf) (hf : f ≤ n) (hn : ∀ b, b < f → ∃ q p, ρ.get? b = some q ∧ e q.1 = some p ∧ ∃ p2, e2 q.1 = some p2 ∧ p2.r = p.r ∧ p2.d = p.d ∧ p2.s = p.s) (hfx : Fix f (e.ren ρ n) e9)
    {x y : CV} {v : Value} (h : VR σ' e9 x v) (hb : backC kf ρ f nw nn x = some y) : VR σ e2 y v := by
  have num : (match numF x with | some (k, c, ts) => (match subF kf ts with | some (c1, ts1) => some (CV.lin k (c + c1) ts1) | none => none) | none => none) = some y → VR σ e2 y v := by
    intro hb
    split at hb
    · rename_i k c ts hx
      split at hb
      · rename_i c1 ts1 hs
        cases hb
        have e1 := subF_val hk hs
        have e3 := (numF_val (σ := σ') (e := e9) hx).1 h
        rw [e3]
        have e4 : lfVal σ'.i c ts = lfVal σ.i (c + c1) ts1 := by
          show c + tsVal σ'.i ts = c + c1 + tsVal σ.i ts1
          rw [e1]
          show c + (c1 + tsVal σ.i ts1) = _
          omega
        rw [e4]
        exact .lin _ _ _
      · cases hb
    · cases hb
  have pl : ∀ b, b < f → ∃ q p p9 p2, ρ.get? b = some q ∧ e q.1 = some p ∧ e9 b = some p9 ∧ e2 q.1 = some p2 ∧ p9.r = p2.r ∧ p9.d = p2.d ∧ p9.s = p2.s + q.2 := by
    intro b hb
    obtain ⟨q, p, h1, h2, p2, g1, g2, g3, g4⟩ := hn b hb
    have := hfx b hb
    rw [Env.ren_of (by omega) h1 h2] at this
    obtain ⟨p9, k1, k2, k3, k4, _⟩ := this
    have k4 : p9.s = p.s + q.2 := k4
    exact ⟨q, p, p9, p2, h1, h2, k1, g1, k2.trans g2.symm, k3.trans g3.symm, by rw [k4, g4]⟩
  unfold backC at hb
  split at hb
  · rename_i b o
    split at hb
    · rename_i hlt
      obtain ⟨q, p, p9, p2, h1, h2, h3, h4, h5, h6, h7⟩ := pl b (by simpa [Nat.blt_eq] using hlt)
      rw [h1] at hb
      cases hb
      cases h with
      | @ptr _ _ p9' hp =>
        rw [h3] at hp
        cases hp
        rw [h5, h6]
        exact .ptr h4
    · cases hb
  · rename_i b o len cap
    split at hb
    · rename_i hl
      cases hb
      obtain rfl : len = 0 := by simpa using hl
      cases h with
      | sl hp => exact .slE _ _ _
    · split at hb
      · rename_i hlt
        obtain ⟨q, p, p9, p2, h1, h2, h3, h4, h5, h6, h7⟩ := pl b (by simpa [Nat.blt_eq] using hlt)
        rw [h1] at hb
        cases hb
        cases h with
        | @sl _ _ _ _ p9' hp =>
          rw [h3] at hp
          cases hp
          rw [h5, h6, h7]
          have e1 : cap + (p2.s + q.2) = cap + q.2 + p2.s := by omega
          rw [e1]
          exact .sl h4
      · split at hb
        · rename_i hw
          obtain rfl : b = nw := by simpa using hw
          cases hb
          cases h with
          | @sl _ _ _ _ p9 hp =>
            obtain ⟨p2, g1, g2, g3, g4⟩ := hnw p9 hp
            rw [← g2, ← g3, ← g4]
            exact .sl g1
        · cases hb
  · split at hb
    · rename_i hp
      cases hb
      exact h.pl hp
    · exact num hb
theorem backR_get {f nw nn : Nat} : ∀ {l l' : List CV}, backR kf ρ f nw nn l = some l' → l'.length = l.length ∧ ∀ (i : Nat) x, l[i]? = some x → ∃ y, l'[i]? = some y ∧ backC kf ρ f nw nn x = some y
  | [], l', h => by simp only [backR, Option.some.injEq] at h; subst h; exact ⟨rfl, fun i x hx => by simp at hx⟩
  | x :: l, l', h => by
    simp only [backR] at h
    split at h
    · rename_i y hy
      split at h
      · rename_i l2 hl
        cases h
        obtain ⟨h1, h2⟩ := backR_get hl
        refine ⟨by simp [h1], fun i z hz => ?_⟩
        cases i with
        | zero => simp at hz; subst hz; exact ⟨y, rfl, hy⟩
        | succ i => exact h2 i z (by simpa using hz)
      · cases h
    · cases h
theorem backs_get {f sv nw nn : Nat} {s9 : List BC} : ∀ {ρl : List (Nat × Nat)} {b0 : Nat} {l : List (Nat × CB)}, backs kf ρ f sv nw nn s9 ρl b0 = some l →
    l.map (·.1) = ρl.map (·.1) ∧ ∀ (b : Nat) q, ρl[b]? = some q → ∃ cb, l[b]? = some (q.1, cb) ∧ ((b0 + b ≠ sv ∧ cb = .none) ∨ (b0 + b = sv ∧ q.2 = 0 ∧ ∃ g l', s9[sv]? = some g ∧ backR kf ρ f nw nn g.l = some l' ∧ cb = (BC.mk g.te g.lo g.es l').cb))
  | [], b0, l, h => by simp only [backs, Option.some.injEq] at h; subst h; exact ⟨rfl, fun b q hb => by simp at hb⟩
  | q :: ρl, b0, l, h => by
    simp only [backs] at h
    split at h
    · rename_i r hr
      obtain ⟨h1, h2⟩ := backs_get hr
      have tail : ∀ (x : CB), (q.1, x) :: r = l → l.map (·.1) = (q :: ρl).map (·.1) := fun x hx => by rw [← hx]; simp [h1]
      split at h
      · rename_i hsv
        have hsv : b0 = sv := by simpa using hsv
        split at h
        · rename_i g hg
          split at h
          · rename_i l' hl'
            split at h
            · rename_i hq
              have hl := Option.some.inj h
              refine ⟨tail _ hl, fun b q' hb => ?_⟩
              cases b with
              | zero =>
                simp at hb; subst hb
                exact ⟨_, by rw [← hl]; rfl, .inr ⟨hsv, by simpa using hq, g, l', by rw [← hsv]; exact hg, hl', rfl⟩⟩
              | succ b =>
                obtain ⟨cb, k1, k2⟩ := h2 b q' (by simpa using hb)
                refine ⟨cb, by rw [← hl]; exact k1, ?_⟩
                rw [show b0 + (b + 1) = b0 + 1 + b by omega]
                exact k2
            · cases h
          · cases h
        · cases h
      · rename_i hsv
        have hsv : b0 ≠ sv := fun he => by rw [he] at hsv; simp at hsv
        have hl := Option.some.inj h
        refine ⟨tail _ hl, fun b q' hb => ?_⟩
        cases b with
        | zero =>
          simp at hb; subst hb
          exact ⟨_, by rw [← hl]; rfl, .inl ⟨hsv, rfl⟩⟩
        | succ b =>
          obtain ⟨cb, k1, k2⟩ := h2 b q' (by simpa using hb)
          refine ⟨cb, by rw [← hl]; exact k1, ?_⟩
          rw [show b0 + (b + 1) = b0 + 1 + b by omega]
          exact k2
    · cases h
/-- the bigger memory's places afterwards -/
noncomputable def Env.aft (e : Env) (ρl : List (Nat × Nat)) (sv : Nat) : Env := fun c => match ρl.any fun q => Nat.beq q.1 c with
  | true => match (match ρl[sv]? with | some q => Nat.beq q.1 c | none => false) with
    | true => e c
    | false => (match e c with | some p => some { p with live := false } | none => none)
  | false => e c
theorem Env.aft_ext (e : Env) (ρl : List (Nat × Nat)) (sv : Nat) : Ext e (e.aft ρl sv) := by
  intro c p hc
  unfold Env.aft
  split
  · split
    · exact ⟨p, hc, rfl, rfl, rfl, id⟩
    · rw [hc]; exact ⟨_, rfl, rfl, rfl, rfl, fun h => by cases h⟩
  · exact ⟨p, hc, rfl, rfl, rfl, id⟩
theorem Env.aft_live {e : Env} {ρl : List (Nat × Nat)} {sv c : Nat} {p : Place} (h : e.aft ρl sv c = some p) (hl : p.live = true) : e c = some p := by
  unfold Env.aft at h
  split at h
  · split at h
    · exact h
    · split at h
      · cases h; cases hl
      · cases h
  · exact h
theorem Env.aft_some {e : Env} {ρl : List (Nat × Nat)} {sv c : Nat} {p : Place} (h : e.aft ρl sv c = some p) : ∃ p0, e c = some p0 := by
  unfold Env.aft at h
  split at h
  · split at h
    · exact ⟨p, h⟩
    · split at h
      · exact ⟨_, by assumption⟩
      · cases h
  · exact ⟨p, h⟩
theorem Env.aft_none {e : Env} {ρl : List (Nat × Nat)} {sv c : Nat} (h : e c = none) : e.aft ρl sv c = none := by
  cases ha : e.aft ρl sv c with
  | none => rfl
  | some p => obtain ⟨p0, h0⟩ := Env.aft_some ha; rw [h] at h0; cases h0
theorem ovrF_ok {call : CallFn} (hcall : SoundCall P σ G0 call) {kn : Know} {kf : SFm} {ρl : List (Nat × Nat)} (hok : kn.ok ρl = true) (hC : ∀ σ', SatI σ'.i kn.iv0 → CallTo P σ' kn.g kn.f kn.as0 kn.s0 kn.r kn.s9) : SoundCall P σ G0 (ovrF kn kf ρl call) := by
  intro f args m k hh hs
  cases f with
  | method s => exact hcall _ _ _ _ hh hs
  | methodOf t s => exact hcall _ _ _ _ hh hs
  | via t p g b => exact hcall _ _ _ _ hh hs
  | yield l => exact hcall _ _ _ _ hh hs
  | func g =>
    simp only [ovrF] at hh
    split at hh
    · rename_i hg
      obtain rfl : g = kn.g := by simpa using hg
      split at hh
      · rename_i hcond
        simp only [Bool.and_eq_true] at hcond
        obtain ⟨hargs, hiv, hm⟩ := hcond
        split at hh
        · rename_i l hl
          obtain ⟨h', h1, h2, h3, h4⟩ := setBs_inv hh
          have hfresh := newB_fresh (m := ⟨h', m.n, m.tab⟩) h1
          obtain ⟨h2', h1, hnew⟩ := newB_inv h1
          replace hnew : ∀ j, h2'.get? j = if j = m.n then some .none else h'.get? j := hnew
          simp only [Know.ok, Bool.and_eq_true, Nat.beq_eq, Nat.ble_eq, Nat.blt_eq] at hok
          obtain ⟨hlk, hlen, hf0, hf9, hsv, hpl, hord⟩ := hok
          have hn := ofList_lt hlen
          have hkf := sgOf_ok σ kf
          have hget : ∀ b, (ofList ρl).get? b = ρl[b]? := fun b => ofList_get ρl b
          obtain ⟨hnm, hbk⟩ := backs_get hl
          -- the names differ
          have hinj := ordR_inj hord
          have hij : ∀ b b' q q', (ofList ρl).get? b = some q → (ofList ρl).get? b' = some q' → q.1 = q'.1 → b = b' := fun b b' q q' hq hq' => by
            rw [hget] at hq hq'
            exact hinj b b' q q' hq hq'
          have hpw : l.Pairwise (fun p q => p.1 ≠ q.1) := by
            have : (ρl.map (·.1)).Pairwise (· ≠ ·) := List.nodup_iff_pairwise_ne.1 (ordR_nodup hord (fun x hx => by cases hx)).1
            rw [← hnm, List.pairwise_map] at this
            exact this
          have hset : ∀ (b : Nat) (q : Nat × Nat) (cb : CB), ρl[b]? = some q → l[b]? = some (q.1, cb) → h'.get? q.1 = some cb := fun b q cb hq hb => h3 hpw (q.1, cb) (List.mem_of_getElem? hb)
          have hin : ∀ c, (ρl.any fun q => Nat.beq q.1 c) = true → ∃ (b : Nat) (q : Nat × Nat), ρl[b]? = some q ∧ q.1 = c := by
            intro c hc
            obtain ⟨q, hq, hqc⟩ := List.any_eq_true.1 hc
            obtain ⟨b, hb⟩ := List.mem_iff_getElem?.1 hq
            exact ⟨b, q, hb, by simpa using hqc⟩
          have hout : ∀ c, (ρl.any fun q => Nat.beq q.1 c) = false → (∀ (b : Nat) (q : Nat × Nat), ρl[b]? = some q → q.1 ≠ c) := by
            intro c hc b q hq he
            have : (ρl.any fun q => Nat.beq q.1 c) = true := List.any_eq_true.2 ⟨q, List.mem_of_getElem? hq, by simpa using he⟩
            rw [hc] at this; cases this
          have hsame : ∀ c, (ρl.any fun q => Nat.beq q.1 c) = false → h'.get? c = m.h.get? c := by
            intro c hc
            refine h2 c fun p hp he => ?_
            have : p.1 ∈ ρl.map (·.1) := by rw [← hnm]; exact List.mem_map_of_mem hp
            obtain ⟨q, hq, hqp⟩ := List.mem_map.1 this
            obtain ⟨b, hb⟩ := List.mem_iff_getElem?.1 hq
            exact hout c hc b q hb (hqp.trans he)
          refine ⟨kn.r, ⟨h2', m.n + 1, m.tab⟩, h1, hs, fun e w f' us kd c cs hR hf hv hk => ?_⟩
          cases hf
          have hsat : SatI (sgOf σ kf).i kn.iv0 := fun s lo hi h => by
            have := ivOk_val hs.iv (g' := (sgOf σ kf).i) (b := 0) hiv (fun s f h => by rw [Nat.zero_add]; exact hkf s f h) s lo hi h
            rwa [Nat.zero_add] at this
          have hRs := hR.ren (σ' := sgOf σ kf) hs.iv hkf hn hij hm ⟨[], []⟩
          obtain ⟨v', w', e9, q1, q2, q3, q4, q5⟩ := hC (sgOf σ kf) hsat _ w us kd c cs hRs (argsR_LR hs.iv hkf hn hargs hv) hk
          have hbd := all_bound hR hm hargs hv hlk
          have hlive : ∀ (b : Nat) (q : Nat × Nat) (p : Place), ρl[b]? = some q → e q.1 = some p → p.live = true := by
            intro b q p hq hp
            have hb : b < kn.s0.length := by
              rcases Nat.lt_or_ge b ρl.length with h | h
              · omega
              · rw [List.getElem?_eq_none h] at hq; cases hq
            obtain ⟨q', cb, a1, a3, a4⟩ := memR_get hm b kn.s0[b] (List.getElem?_eq_getElem hb)
            rw [Nat.zero_add, hget, hq] at a1
            cases a1
            have old := hR.hr _ _ _ hp a3
            cases hl : p.live with
            | true => rfl
            | false => rw [if_neg (by simp [hl])] at old; subst old; cases a4
          have he0 : e m.n = none := hR.bnd _ (Nat.le_refl _)
          obtain ⟨e2, he2⟩ : ∃ e2 : Env, e2 = fun c => if c = m.n then (match e9 kn.nw with | some p => some { p with live := false } | none => none) else e.aft ρl kn.sv c := ⟨_, rfl⟩
          have he2o : ∀ c, c ≠ m.n → e2 c = e.aft ρl kn.sv c := fun c hc => by rw [he2]; simp only [if_neg hc]
          have hnw : ∀ p, e9 kn.nw = some p → ∃ p2, e2 m.n = some p2 ∧ p2.r = p.r ∧ p2.d = p.d ∧ p2.s = p.s := fun p hp => ⟨{ p with live := false }, by rw [he2]; simp [hp], rfl, rfl, rfl⟩
          have hnd : ∀ p, e2 m.n = some p → p.live = false := by
            intro p hp
            rw [he2] at hp
            simp only [if_true] at hp
            split at hp
            · cases hp; rfl
            · cases hp
          have hne : ∀ c p, e c = some p → c ≠ m.n := fun c p hc he => by rw [he, he0] at hc; cases hc
          have hext : Ext e e2 := by
            intro c p hc
            rw [he2o c (hne c p hc)]
            exact Env.aft_ext e ρl kn.sv c p hc
          have h2live : ∀ {c p}, e2 c = some p → p.live = true → e c = some p := by
            intro c p hc hl
            by_cases hcn : c = m.n
            · subst hcn; rw [hnd p hc] at hl; cases hl
            · rw [he2o c hcn] at hc; exact Env.aft_live hc hl
          have hpl2 : ∀ b, b < kn.f → ∃ q p, (ofList ρl).get? b = some q ∧ e q.1 = some p ∧ ∃ p2, e2 q.1 = some p2 ∧ p2.r = p.r ∧ p2.d = p.d ∧ p2.s = p.s := by
            intro b hb
            obtain ⟨q, p, g1, g2⟩ := hbd b (by omega)
            obtain ⟨p2, g3, g4, g5, g6, _⟩ := hext _ _ g2
            exact ⟨q, p, g1, g2, p2, g3, g4, g5, g6⟩
          have hoff : ∀ r, r < w.heap.size → (∀ c p, e c = some p → p.live = true → (ρl.any fun q => Nat.beq q.1 c) = true → p.r ≠ r) → w'.heap[r]? = w.heap[r]? := by
            intro r hr hne
            refine q4.frm r hr fun b p hb hl => ?_
            obtain ⟨_, q, p0, g1, g2, rfl⟩ := Env.ren_some hb
            rw [hget] at g1
            exact hne q.1 p0 g2 hl (List.any_eq_true.2 ⟨q, List.mem_of_getElem? g1, by simp⟩)
          refine ⟨v', w', e2, ?_, q2.pl hpl, ⟨fun c p cb hc hcb => ?_, fun c p hc => ?_, fun c c' p p' hc hc' hl hl' he => ?_, fun c hc => ?_, (fun g hg => by cases hg)⟩, ⟨hext, Nat.le_succ _, fun c hc hc0 => ?_, q4.siz, fun r hr hne => ?_, fun c p hc hl => ?_, q4.tap, q4.os, q4.out⟩⟩
          · simpa [CallSem] using q1
          · replace hcb : h2'.get? c = some cb := hcb
            rw [hnew] at hcb
            by_cases hcn : c = m.n
            · subst hcn
              rw [if_pos rfl] at hcb
              cases hcb
              rw [if_neg (by simp [hnd p hc])]
            rw [if_neg hcn] at hcb
            rw [he2o c hcn] at hc
            cases hany : (ρl.any fun q => Nat.beq q.1 c) with
            | true =>
              obtain ⟨b, q, hq, rfl⟩ := hin c hany
              obtain ⟨cb0, k1, k2⟩ := hbk b q hq
              have k3 := hset b q cb0 hq k1
              rw [hcb] at k3
              obtain rfl := Option.some.inj k3
              rw [Nat.zero_add] at k2
              rcases k2 with ⟨k4, rfl⟩ | ⟨rfl, k5, g, l', k6, k7, rfl⟩
              · have hd : p.live = false := by
                  cases hl : p.live with
                  | false => rfl
                  | true =>
                    exfalso
                    have hc := hc
                    unfold Env.aft at hc
                    rw [hany] at hc
                    simp only [] at hc
                    split at hc
                    · rename_i hx
                      split at hx
                      · rename_i q' hq'
                        have hqq : q'.1 = q.1 := by simpa using hx
                        exact k4 (hinj b kn.sv q q' hq hq' hqq.symm)
                      · cases hx
                    · split at hc
                      · cases hc; cases hl
                      · cases hc
                rw [if_neg (by simp [hd])]
              · have hc0 : e q.1 = some p := by
                  have hc := hc
                  unfold Env.aft at hc
                  rw [hany] at hc
                  simp only [hq] at hc
                  rw [show Nat.beq q.1 q.1 = true by simp] at hc
                  exact hc
                have hl := hlive _ _ _ hq hc0
                rw [if_pos hl]
                have hfx := q5 kn.sv hsv
                rw [Env.ren_of (by omega) (by rw [hget]; exact hq) hc0] at hfx
                obtain ⟨p9, f1, f2, f3, f4, _⟩ := hfx
                have f4 : p9.s = p.s + q.2 := f4
                have hg9 : (hpOf kn.s9).get? kn.sv = some g.cb := by rw [hpOf, ofList_get, List.getElem?_map, k6]; rfl
                have new := q3.hr _ _ _ f1 hg9
                split at new
                · obtain ⟨o, n1, n2⟩ := new
                  refine ⟨o, by rw [← f2]; exact n1, ?_⟩
                  obtain ⟨b1, b2⟩ := backR_get k7
                  cases n2 with
                  | cells z1 z2 z3 z4 z5 z6 =>
                    have f3 : p9.d = p.d := f3
                    refine .cells ?_ (fun hlo => ?_) (fun i hi => ?_) (fun i hi => ?_) z5 z6
                    · rw [z1, f3, f4, k5, Nat.add_zero]
                      show p.d + g.l.length + p.s * g.es = p.d + l'.length + p.s * g.es
                      rw [b1]
                    · obtain ⟨y1, y2⟩ := z2 hlo
                      exact ⟨f3 ▸ y1, by omega⟩
                    · rw [ofList_get]; exact List.getElem?_eq_none hi
                    · have hi : i < l'.length := hi
                      obtain ⟨cv, v, y1, y2, y3⟩ := z4 i (by omega)
                      rw [ofList_get] at y1
                      obtain ⟨y, x1, x2⟩ := b2 i cv y1
                      refine ⟨y, v, by rw [ofList_get]; exact x1, by rw [← f3]; exact y2, backC_VR hnw hkf hf0 hpl2 q5 y3 x2⟩
                · cases new
            | false =>
              have hce : e c = some p := by
                have hc := hc
                unfold Env.aft at hc
                rw [hany] at hc
                exact hc
              rw [hsame c hany] at hcb
              have old := hR.hr _ _ _ hce hcb
              by_cases hl : p.live = true
              · rw [if_pos hl] at old
                rw [if_pos hl]
                obtain ⟨o, g1, g2⟩ := old
                refine ⟨o, ?_, g2.mono hext⟩
                rw [hoff p.r (hR.lt hce hl) fun c' p' hc' hl' hany' he => ?_]
                · exact g1
                · obtain rfl := hR.inj _ _ _ _ hc' hce hl' hl he
                  rw [hany] at hany'; cases hany'
              · rw [if_neg hl] at old
                rw [if_neg hl]
                exact old
          · show ∃ cb, h2'.get? c = some cb
            rw [hnew]
            by_cases hcn : c = m.n
            · rw [if_pos hcn]; exact ⟨_, rfl⟩
            · rw [if_neg hcn]
              rw [he2o c hcn] at hc
              obtain ⟨p0, h0⟩ := Env.aft_some hc
              exact h4 c (hR.dom c p0 h0)
          · exact hR.inj _ _ _ _ (h2live hc hl) (h2live hc' hl') hl hl' he
          · have hc : m.n + 1 ≤ c := hc
            rw [he2o c (by omega)]
            exact Env.aft_none (hR.bnd c (by omega))
          · have hc : c < m.n := hc
            rw [he2o c (by omega)]
            refine ⟨Env.aft_none hc0, ?_⟩
            show h2'.get? c = m.h.get? c
            rw [hnew, if_neg (by omega)]
            cases hany : (ρl.any fun q => Nat.beq q.1 c) with
            | false => exact hsame c hany
            | true =>
              obtain ⟨b, q, hq, rfl⟩ := hin c hany
              have hb : b < kn.s0.length := by
                rcases Nat.lt_or_ge b ρl.length with h | h
                · omega
                · rw [List.getElem?_eq_none h] at hq; cases hq
              obtain ⟨q', p, g1, g2⟩ := hbd b hb
              rw [hget, hq] at g1
              cases g1
              rw [hc0] at g2; cases g2
          · exact hoff r hr fun c p hc hl _ => hne c p hc hl
          · exact .inl ⟨c, p, h2live hc hl, hl, rfl⟩
        · cases hh
      · cases hh
    · exact hcall _ _ _ _ hh hs
end
end Go.Ev
