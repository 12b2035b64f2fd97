/- A verified evaluator for the model's code (part EvN): own work, of no program. -/
import Derived.Test.YtbckjaoljeimgaaGreatDoorEvE
namespace Go.Ev
/-! Small memories, written out: a bigger memory looked at through one -/
abbrev G0 : Nat → Bool := fun _ => false
/-- a block, written out -/
structure BC where
  te : Nat
  lo : Bool
  es : Nat
  l : List CV
/-- a name: the bigger memory's, and by how many elements that block is longer -/
abbrev Ren := Tr (Nat × Nat)
/-- symbols as forms in the bigger one's symbols -/
abbrev SFm := List (Int × Ts)
noncomputable section
def BC.cb (f : BC) : CB := .cells f.te f.lo f.es f.l.length (ofList f.l)
def hpOf (s : List BC) : Hp := ofList (s.map BC.cb)
/-- a number, as a form -/
def numF : CV → Option (IntKind × Int × Ts)
  | .int k n => some (k, n, [])
  | .sym k s => some (k, 0, [(1, s)])
  | .lin k c ts => some (k, c, ts)
  | _ => none
def plC : CV → Bool
  | .bool _ | .str .. | .ptr0 | .sl0 | .map0 | .fn0 | .ifc0 => true
  | .tup [] => true
  | _ => false
/-- a form that is zero once its fixed symbols are put in -/
def zeroF (iv : Ivs) (c : Int) (ts : Ts) : Bool := match pinL iv c (addTs ts []) with
  | (c', ts') => eqI c' 0 && ts'.all fun t => eqI t.1 0
def subF (kf : SFm) : Ts → Option (Int × Ts)
  | [] => some (0, [])
  | (a, s) :: l => match kf[s]? with
    | some (c, ts) => match subF kf l with
      | some (c', ts') => some (a * c + c', addTs (mulTs a ts) ts')
      | none => none
    | none => none
def numR (iv : Ivs) (kf : SFm) (x y : Option (IntKind × Int × Ts)) : Bool := match x with
  | some (k, c, ts) => match y with
    | some (k', c', ts') => match decide (k = k') with
      | true => (match subF kf ts with
        | some (c1, ts1) => zeroF iv (c + c1 - c') (subTs ts1 ts')
        | none => false)
      | false => false
    | none => false
  | none => false
def eqR (iv : Ivs) (kf : SFm) (ρ : Ren) (x y : CV) : Bool := match x with
  | .int k n => (match y with
    | .int k' n' => (match Nat.beq k.ctorIdx k'.ctorIdx with | true => eqI n n' | false => false)
    | _ => numR iv kf (some (k, n, [])) (numF y))
  | .ptr b o => match y with
    | .ptr c o' => match ρ.get? b with
      | some q => Nat.beq q.1 c && Nat.beq o o'
      | none => false
    | _ => false
  | .sl b o len cap => match y with
    | .sl c o' len' cap' => match ρ.get? b with
      | some q => Nat.beq q.1 c && (Nat.beq o o' && (Nat.beq len len' && Nat.beq (cap + q.2) cap'))
      | none => false
    | _ => false
  | x => match plC x with
    | true => cvBeq x y
    | false => numR iv kf (numF x) (numF y)
/-- a list, dealt to four -/
def deal {α β : Type} (l : List α) : (List α → List α → List α → List α → β) → β :=
  List.rec (motive := fun _ => (List α → List α → List α → List α → β) → β) (fun k => k [] [] [] []) (fun a _ ih k => ih fun y0 y1 y2 y3 => k (a :: y3) y0 y1 y2) l
def ofListDF {α : Type} (f : Nat) : List α → Tr α :=
  Nat.rec (motive := fun _ => List α → Tr α) (fun _ => .mk .nil)
    (fun _ ih l => List.rec (motive := fun _ => Tr α) (.mk .nil) (fun a l _ => deal l fun y0 y1 y2 y3 => .mk (.node a (ih y0) (ih y1) (ih y2) (ih y3))) l) f
def ofListD {α : Type} (l : List α) : Tr α := ofListDF l.length l
def andZ (x y : Bool) : Bool := Bool.rec (motive := fun _ => Bool) false y x
def rowZ (iv : Ivs) (kf : SFm) (ρ : Ren) (f : Nat) : List CV → Tr CV → Bool :=
  Nat.rec (motive := fun _ => List CV → Tr CV → Bool) (fun l _ => List.rec (motive := fun _ => Bool) true (fun _ _ _ => false) l)
    (fun _ ih l G => List.rec (motive := fun _ => Bool) true (fun x l _ => Nd.rec (motive := fun _ => Bool) false (fun v a b c d => andZ (eqR iv kf ρ x v)
      (deal l fun y0 y1 y2 y3 => andZ (ih y0 a) (andZ (ih y1 b) (andZ (ih y2 c) (ih y3 d))))) G.1) l) f
def rowR (iv : Ivs) (kf : SFm) (ρ : Ren) (cs : Tr CV) (i : Nat) (l : List CV) : Bool := andZ (Nat.beq i 0) (rowZ iv kf ρ 12 l cs)
def blkR (iv : Ivs) (kf : SFm) (ρ : Ren) (f : BC) (δ : Nat) (cb : CB) : Bool := match cb with
  | .cells te lo es sz cs => Nat.beq te f.te && ((lo == f.lo) && (Nat.beq es f.es && (Nat.beq sz (f.l.length + δ * f.es) && ((Nat.beq δ 0 || f.lo) && rowR iv kf ρ cs 0 f.l))))
  | _ => false
/-- the blocks of s, from name b on -/
def memR (iv : Ivs) (kf : SFm) (ρ : Ren) (h : Hp) : Nat → List BC → Bool
  | _, [] => true
  | b, f :: s => match ρ.get? b with
    | some q => (match h.get? q.1 with
        | some cb => (match blkR iv kf ρ f q.2 cb with | true => memR iv kf ρ h (b + 1) s | false => false)
        | none => false)
    | none => false
/-- names that differ: most of them grow -/
def ordR : List (Nat × Nat) → Nat → List Nat → Bool
  | [], _, _ => true
  | q :: l, hi, acc => match Nat.ble hi q.1 with
    | true => ordR l (q.1 + 1) (q.1 :: acc)
    | false => (match acc.elem q.1 with | true => false | false => ordR l hi (q.1 :: acc))
end
section
variable {σ σ' : Sg} {iv : Ivs} {kf : SFm} {ρ : Ren}
theorem zeroF_val {g : Nat → Int} (hs : SatI g iv) {c : Int} {ts : Ts} (h : zeroF iv c ts = true) : lfVal g c ts = 0 := by
  unfold zeroF at h
  have e := pinL_val hs c (addTs ts [])
  have e2 : lfVal g c (addTs ts []) = lfVal g c ts := by simp only [lfVal, addTs_val, tsVal]; omega
  rw [e2] at e
  rw [← e]
  generalize pinL iv c (addTs ts []) = p at h
  obtain ⟨c', ts'⟩ := p
  rw [Bool.and_eq_true] at h
  obtain ⟨h1, h⟩ := h
  obtain rfl : c' = 0 := by simpa [eqI_eq] using h1
  have : ∀ l : Ts, (l.all fun t => eqI t.1 0) = true → tsVal g l = 0 := by
    intro l
    induction l with
    | nil => intro _; rfl
    | cons t l ih =>
      intro h
      rw [List.all_cons, Bool.and_eq_true] at h
      obtain ⟨a, s⟩ := t
      obtain rfl : a = 0 := by simpa [eqI_eq] using h.1
      simp only [tsVal, ih h.2]
      omega
  show (0 : Int) + tsVal g ts' = 0
  rw [this ts' h]
  rfl
/-- what the forms mean -/
def KfOk (σ σ' : Sg) (kf : SFm) : Prop := ∀ s f, kf[s]? = some f → σ'.i s = lfVal σ.i f.1 f.2
theorem subF_val (hk : KfOk σ σ' kf) : ∀ {ts : Ts} {c : Int} {ts' : Ts}, subF kf ts = some (c, ts') → tsVal σ'.i ts = lfVal σ.i c ts'
  | [], c, ts', h => by
    simp only [subF, Option.some.injEq, Prod.mk.injEq] at h
    obtain ⟨rfl, rfl⟩ := h
    rfl
  | (a, s) :: l, c, ts', h => by
    simp only [subF] at h
    split at h
    · rename_i c1 ts1 h1
      split at h
      · rename_i c2 ts2 h2
        simp only [Option.some.injEq, Prod.mk.injEq] at h
        obtain ⟨rfl, rfl⟩ := h
        have e1 := hk s _ h1
        have e2 := subF_val hk h2
        simp only [tsVal, lfVal, addTs_val, mulTs_val] at *
        rw [e1, e2]
        have : a * (c1 + tsVal σ.i ts1) = a * c1 + a * tsVal σ.i ts1 := Int.mul_add ..
        omega
      · cases h
    · cases h
theorem ctorIdx_inj {k k' : IntKind} (h : k.ctorIdx = k'.ctorIdx) : k = k' := by cases k <;> cases k' <;> first | rfl | cases h
theorem numF_val {e : Env} {x : CV} {k : IntKind} {c : Int} {ts : Ts} (h : numF x = some (k, c, ts)) {v : Value} : VR σ e x v ↔ v = .int k (lfVal σ.i c ts) := by
  cases x <;> simp only [numF, Option.some.injEq, Prod.mk.injEq, reduceCtorEq] at h
  · obtain ⟨rfl, rfl, rfl⟩ := h
    rename_i n
    have e0 : lfVal σ.i n [] = n := Int.add_zero _
    rw [e0]
    exact ⟨fun h => by cases h; rfl, fun h => by rw [h]; exact .int _ _⟩
  · obtain ⟨rfl, rfl, rfl⟩ := h
    rename_i s
    have e0 : lfVal σ.i 0 [(1, s)] = σ.i s := by simp [lfVal, tsVal]
    rw [e0]
    exact ⟨fun h => by cases h; rfl, fun h => by rw [h]; exact .sym _ _⟩
  · obtain ⟨rfl, rfl, rfl⟩ := h
    exact ⟨fun h => by cases h; rfl, fun h => by rw [h]; exact .lin _ _ _⟩
/-- the small memory's places -/
noncomputable def Env.ren (e : Env) (ρ : Ren) (n : Nat) : Env := fun b => match Nat.blt b n with
  | true => match ρ.get? b with
    | some q => (match e q.1 with | some p => some { p with s := p.s + q.2 } | none => none)
    | none => none
  | false => none
theorem Env.ren_some {e : Env} {n b : Nat} {p : Place} (h : e.ren ρ n b = some p) : b < n ∧ ∃ q p0, ρ.get? b = some q ∧ e q.1 = some p0 ∧ p = { p0 with s := p0.s + q.2 } := by
  unfold Env.ren at h
  split at h
  · rename_i hb
    refine ⟨by simpa [Nat.blt_eq] using hb, ?_⟩
    split at h
    · rename_i q hq
      split at h
      · rename_i p0 hp
        exact ⟨q, p0, hq, hp, (Option.some.inj h).symm⟩
      · cases h
    · cases h
  · cases h
theorem Env.ren_of {e : Env} {n b : Nat} {q : Nat × Nat} {p0 : Place} (hb : b < n) (hq : ρ.get? b = some q) (hp : e q.1 = some p0) : e.ren ρ n b = some { p0 with s := p0.s + q.2 } := by
  unfold Env.ren
  have : Nat.blt b n = true := by rw [Nat.blt_eq]; exact hb
  simp only [this, hq, hp]
theorem VR.pl {e e' : Env} {c : CV} {v : Value} (h : VR σ e c v) (hc : plC c = true) : VR σ' e' c v := by
  cases h <;> first | (cases hc; done) | skip
  · exact .bool _
  · exact .str _ (by assumption) (by assumption)
  · exact .ptr0
  · exact .sl0
  · exact .map0
  · exact .fn0
  · exact .ifc0
  · rename_i cs vs hl hv
    cases cs with
    | nil => exact .tup hl (fun i c v h => by simp at h)
    | cons _ _ => cases hc
/-- a cell of the bigger memory, as the small one has it: its blocks are below n -/
theorem VR.ren {e : Env} {n : Nat} (hs : SatI σ.i iv) (hk : KfOk σ σ' kf) {x y : CV} {v : Value} (h : VR σ e y v) (hx : eqR iv kf ρ x y = true) (hn : ∀ b, ρ.get? b ≠ none → b < n) : VR σ' (e.ren ρ n) x v := by
  have num : ∀ x, numR iv kf (numF x) (numF y) = true → VR σ' (e.ren ρ n) x v := by
    intro x hx
    unfold numR at hx
    split at hx
    · rename_i k c ts hxf
      split at hx
      · rename_i k' c' ts' hyf
        split at hx
        · rename_i hkk
          obtain rfl : k = k' := by simpa using hkk
          split at hx
          · rename_i c1 ts1 hsub
            have e1 := subF_val hk hsub
            have e2 := zeroF_val hs hx
            have e3 := (numF_val (σ := σ) (e := e) hyf).1 h
            refine (numF_val hxf).2 ?_
            rw [e3]
            have e4 : lfVal σ.i (c + c1 - c') (subTs ts1 ts') = c + c1 - c' + (tsVal σ.i ts1 - tsVal σ.i ts') := by simp only [lfVal, subTs_val]
            rw [e4] at e2
            have : lfVal σ'.i c ts = lfVal σ.i c' ts' := by
              show c + tsVal σ'.i ts = c' + tsVal σ.i ts'
              rw [e1]
              show c + (c1 + tsVal σ.i ts1) = _
              omega
            rw [this]
          · cases hx
        · cases hx
      · cases hx
    · cases hx
  unfold eqR at hx
  split at hx
  · rename_i k n
    split at hx
    · rename_i k' n'
      split at hx
      · rename_i hk2
        obtain rfl := ctorIdx_inj (by simpa using hk2)
        rw [eqI_eq] at hx
        obtain rfl : n = n' := by simpa using hx
        cases h
        exact .int _ _
      · cases hx
    · exact num _ hx
  · rename_i b o
    split at hx
    · rename_i c o'
      split at hx
      · rename_i q hq
        simp only [Bool.and_eq_true, Nat.beq_eq] at hx
        obtain ⟨rfl, rfl⟩ := hx
        cases h with
        | @ptr _ _ p hp => exact VR.ptr (p := { p with s := p.s + q.2 }) (Env.ren_of (hn b (by rw [hq]; simp)) hq hp)
      · cases hx
    · cases hx
  · rename_i b o len cap
    split at hx
    · rename_i c o' len' cap'
      split at hx
      · rename_i q hq
        simp only [Bool.and_eq_true, Nat.beq_eq] at hx
        obtain ⟨rfl, rfl, rfl, rfl⟩ := hx
        cases h with
        | @sl _ _ _ _ p hp =>
          have := VR.sl (σ := σ') (o := o) (len := len) (cap := cap) (p := { p with s := p.s + q.2 }) (Env.ren_of (e := e) (hn b (by rw [hq]; simp)) hq hp)
          have e1 : cap + (p.s + q.2) = cap + q.2 + p.s := by omega
          rw [show cap + ({ p with s := p.s + q.2 } : Place).s = cap + q.2 + p.s from e1] at this
          exact this
      · cases hx
    · cases hx
  · split at hx
    · rename_i hp
      have := cvBeq_eq _ _ hx
      subst this
      exact h.pl hp
    · exact num _ hx
theorem deal_eq {α β : Type} : ∀ (l : List α) (k : List α → List α → List α → List α → β), deal l k = k (ev4 l 0) (ev4 l 1) (ev4 l 2) (ev4 l 3)
  | [], _ => rfl
  | a :: l, k => deal_eq l fun y0 y1 y2 y3 => k (a :: y3) y0 y1 y2
theorem ofListDF_eq {α : Type} : ∀ (f : Nat) (l : List α), ofListDF f l = ofListF f l
  | 0, l => rfl
  | f + 1, [] => rfl
  | f + 1, a :: l => by
    show deal l (fun y0 y1 y2 y3 => Tr.mk (.node a (ofListDF f y0) (ofListDF f y1) (ofListDF f y2) (ofListDF f y3))) = .mk (.node a (ofListF f (ev4 l 0)) (ofListF f (ev4 l 1)) (ofListF f (ev4 l 2)) (ofListF f (ev4 l 3)))
    rw [deal_eq, ofListDF_eq f, ofListDF_eq f, ofListDF_eq f, ofListDF_eq f]
theorem ofListD_eq {α : Type} (l : List α) : ofListD l = ofList l := ofListDF_eq _ l
theorem andZ_eq {x y : Bool} (h : andZ x y = true) : x = true ∧ y = true := by cases x <;> first | exact ⟨rfl, h⟩ | cases h
theorem rowZ_get : ∀ {f : Nat} {l : List CV} {G : Tr CV}, rowZ iv kf ρ f l G = true → ∀ j x, l[j]? = some x → ∃ y, G.get? j = some y ∧ eqR iv kf ρ x y = true
  | _, [], _, _, j, x, hj => by simp at hj
  | 0, _ :: _, _, h, _, _, _ => by cases h
  | f + 1, z :: l, ⟨nd⟩, h, j, x, hj => by
    cases nd with
    | nil => cases h
    | node v a b c d =>
      have h : andZ (eqR iv kf ρ z v) (deal l fun y0 y1 y2 y3 => andZ (rowZ iv kf ρ f y0 a) (andZ (rowZ iv kf ρ f y1 b) (andZ (rowZ iv kf ρ f y2 c) (rowZ iv kf ρ f y3 d)))) = true := h
      obtain ⟨h1, h2⟩ := andZ_eq h
      rw [deal_eq] at h2
      obtain ⟨g0, h2⟩ := andZ_eq h2
      obtain ⟨g1, h2⟩ := andZ_eq h2
      obtain ⟨g2, g3⟩ := andZ_eq h2
      cases j with
      | zero =>
        simp only [List.getElem?_cons_zero, Option.some.injEq] at hj
        subst hj
        exact ⟨v, rfl, h1⟩
      | succ p =>
        rw [get_node]
        rw [List.getElem?_cons_succ] at hj
        have key : ∀ r, p % 4 = r → (ev4 l r)[p / 4]? = some x := fun r hr => by
          rw [ev4_get, ← hj]; congr 1; omega
        rcases (by omega : p % 4 = 0 ∨ p % 4 = 1 ∨ p % 4 = 2 ∨ p % 4 = 3) with g | g | g | g
        · rw [g]; exact rowZ_get g0 _ _ (key 0 g)
        · rw [g]; exact rowZ_get g1 _ _ (key 1 g)
        · rw [g]; exact rowZ_get g2 _ _ (key 2 g)
        · rw [g]; exact rowZ_get g3 _ _ (key 3 g)
theorem rowR_get {cs : Tr CV} {l : List CV} {i : Nat} (h : rowR iv kf ρ cs i l = true) (j : Nat) (x : CV) (hj : l[j]? = some x) : ∃ y, cs.get? (i + j) = some y ∧ eqR iv kf ρ x y = true := by
  obtain ⟨h1, h2⟩ := andZ_eq h
  obtain rfl : i = 0 := by simpa using h1
  rw [Nat.zero_add]
  exact rowZ_get h2 j x hj
theorem BR.ren {e : Env} {n : Nat} (hs : SatI σ.i iv) (hk : KfOk σ σ' kf) (hn : ∀ b, ρ.get? b ≠ none → b < n) {f : BC} {δ : Nat} {cb : CB} {p : Place} {o : Obj} (h : BR σ e cb p o) (hb : blkR iv kf ρ f δ cb = true) : BR σ' (e.ren ρ n) f.cb { p with s := p.s + δ } o := by
  cases cb with
  | cells te lo es sz cs =>
    simp only [blkR, Bool.and_eq_true, Nat.beq_eq, beq_iff_eq, Bool.or_eq_true] at hb
    obtain ⟨rfl, rfl, rfl, hsz, hδ, hrow⟩ := hb
    cases h with
    | cells g1 g2 g3 g4 g5 g6 =>
      refine .cells ?_ (fun hlo => ?_) (fun i hi => ?_) (fun i hi => ?_) g5 g6
      · rw [g1, hsz]
        show p.d + (f.l.length + δ * f.es) + p.s * f.es = p.d + f.l.length + (p.s + δ) * f.es
        rw [Nat.add_mul]; omega
      · obtain ⟨a, b⟩ := g2 hlo
        rcases hδ with hδ | hδ
        · subst hδ; exact ⟨a, b⟩
        · rw [hδ] at hlo; cases hlo
      · rw [ofList_get]; exact List.getElem?_eq_none hi
      · obtain ⟨y, hy1, hy2⟩ := rowR_get hrow i f.l[i] (List.getElem?_eq_getElem hi)
        rw [Nat.zero_add] at hy1
        obtain ⟨cv, v, a, b, c⟩ := g4 i (by rw [hsz]; omega)
        rw [hy1] at a
        cases a
        exact ⟨f.l[i], v, by rw [ofList_get]; exact List.getElem?_eq_getElem hi, b, c.ren hs hk hy2 hn⟩
  | _ => cases hb
theorem memR_get {h : Hp} : ∀ {s : List BC} {b : Nat}, memR iv kf ρ h b s = true → ∀ j f, s[j]? = some f → ∃ q cb, ρ.get? (b + j) = some q ∧ h.get? q.1 = some cb ∧ blkR iv kf ρ f q.2 cb = true
  | [], b, _, j, f, hj => by simp at hj
  | g :: s, b, hh, j, f, hj => by
    simp only [memR] at hh
    split at hh
    · rename_i q hq
      split at hh
      · rename_i cb hcb
        split at hh
        · rename_i hb
          cases j with
          | zero => simp at hj; subst hj; exact ⟨q, cb, hq, hcb, hb⟩
          | succ j =>
            obtain ⟨q', cb', a1, a3, a4⟩ := memR_get hh j f (by simpa using hj)
            exact ⟨q', cb', by rw [← a1]; congr 1; omega, a3, a4⟩
        · cases hh
      · cases hh
    · cases hh
theorem ordR_nodup : ∀ {l : List (Nat × Nat)} {hi : Nat} {acc : List Nat}, ordR l hi acc = true → (∀ x ∈ acc, x < hi) → (l.map (·.1)).Nodup ∧ ∀ q ∈ l, q.1 ∉ acc
  | [], _, _, _, _ => ⟨List.nodup_nil, fun q hq => by cases hq⟩
  | q :: l, hi, acc, h, ha => by
    have key : ∀ hi', ordR l hi' (q.1 :: acc) = true → (∀ x ∈ q.1 :: acc, x < hi') → q.1 ∉ acc → ((q :: l).map (·.1)).Nodup ∧ ∀ q' ∈ q :: l, q'.1 ∉ acc := by
      intro hi' h1 h2 h3
      obtain ⟨g1, g2⟩ := ordR_nodup h1 h2
      refine ⟨?_, fun q' hq' => ?_⟩
      · rw [List.map_cons, List.nodup_cons]
        refine ⟨fun hm => ?_, g1⟩
        obtain ⟨q', hq', he⟩ := List.mem_map.1 hm
        exact g2 q' hq' (by rw [he]; exact List.mem_cons_self ..)
      · rcases List.mem_cons.1 hq' with rfl | hq'
        · exact h3
        · exact fun hm => g2 q' hq' (List.mem_cons_of_mem _ hm)
    simp only [ordR] at h
    split at h
    · rename_i hle
      have hle : hi ≤ q.1 := by simpa using hle
      refine key _ h (fun x hx => ?_) (fun hm => by have := ha _ hm; omega)
      rcases List.mem_cons.1 hx with rfl | hx
      · omega
      · have := ha x hx; omega
    · rename_i hle
      have hle : q.1 < hi := by
        rcases Nat.lt_or_ge q.1 hi with h | h
        · exact h
        · have : Nat.ble hi q.1 = true := by simpa using h
          rw [this] at hle; cases hle
      split at h
      · cases h
      · rename_i hel
        refine key _ h (fun x hx => ?_) (fun hm => by have : acc.elem q.1 = true := by simpa using hm
                                                      rw [this] at hel; cases hel)
        rcases List.mem_cons.1 hx with rfl | hx
        · exact hle
        · exact ha x hx
theorem ordR_inj {l : List (Nat × Nat)} (h : ordR l 0 [] = true) : ∀ (b b' : Nat) (q q' : Nat × Nat), l[b]? = some q → l[b']? = some q' → q.1 = q'.1 → b = b' := by
  intro b b' q q' hb hb' he
  have hn := (ordR_nodup h (fun x hx => by cases hx)).1
  obtain ⟨h1, h2⟩ := List.getElem?_eq_some_iff.1 hb
  obtain ⟨h1', h2'⟩ := List.getElem?_eq_some_iff.1 hb'
  rw [List.nodup_iff_pairwise_ne, List.pairwise_iff_getElem] at hn
  rcases Nat.lt_trichotomy b b' with hlt | hlt | hlt
  · have := hn b b' (by simpa using h1) (by simpa using h1') hlt
    simp only [List.getElem_map, h2, h2'] at this
    exact absurd he this
  · exact hlt
  · have := hn b' b (by simpa using h1') (by simpa using h1) hlt
    simp only [List.getElem_map, h2, h2'] at this
    exact absurd he.symm this
/-- THE SMALL MEMORY, LOOKED AT WITHIN THE BIGGER ONE. -/
theorem RL.ren {e : Env} {m : M} {w : World} (hR : RL σ G0 e m w) (hs : SatI σ.i iv) (hk : KfOk σ σ' kf) {s : List BC} (hn : ∀ b, ρ.get? b ≠ none → b < s.length) (hij : ∀ b b' q q', ρ.get? b = some q → ρ.get? b' = some q' → q.1 = q'.1 → b = b') (hm : memR iv kf ρ m.h 0 s = true) (tab : Tab) :
    RL σ' G0 (e.ren ρ s.length) ⟨hpOf s, s.length, tab⟩ w := by
  refine ⟨fun b p cb hb hcb => ?_, fun b p hb => ?_, fun b b' p p' hb hb' hl hl' he => ?_, fun b hb => ?_, (fun g hg => by cases hg)⟩
  · obtain ⟨hlt, q, p0, hq, hp0, rfl⟩ := Env.ren_some hb
    obtain ⟨q', cb0, a1, a3, a4⟩ := memR_get hm b s[b] (List.getElem?_eq_getElem hlt)
    rw [Nat.zero_add, hq] at a1
    cases a1
    have hcb' : cb = (s[b]).cb := by
      have : (hpOf s).get? b = some (s[b]).cb := by rw [hpOf, ofList_get, List.getElem?_map, List.getElem?_eq_getElem hlt]; rfl
      exact Option.some.inj (hcb.symm.trans this)
    subst hcb'
    have old := hR.hr _ _ _ hp0 a3
    by_cases hl : p0.live = true
    · rw [if_pos hl] at old
      obtain ⟨o, h1, h2⟩ := old
      rw [if_pos (show ({ p0 with s := p0.s + q.2 } : Place).live = true from hl)]
      exact ⟨o, h1, h2.ren hs hk hn a4⟩
    · rw [if_neg hl] at old
      subst old
      cases a4
  · obtain ⟨hlt, _⟩ := Env.ren_some hb
    exact ⟨_, by show (hpOf s).get? b = some (s[b]).cb; rw [hpOf, ofList_get, List.getElem?_map, List.getElem?_eq_getElem hlt]; rfl⟩
  · obtain ⟨hlt, q, p0, hq, hp0, rfl⟩ := Env.ren_some hb
    obtain ⟨hlt', q', p0', hq', hp0', rfl⟩ := Env.ren_some hb'
    exact hij b b' q q' hq hq' (hR.inj _ _ _ _ hp0 hp0' hl hl' he)
  · have hb : s.length ≤ b := hb
    unfold Env.ren
    have : Nat.blt b s.length = false := by
      cases h : Nat.blt b s.length with
      | false => rfl
      | true => rw [Nat.blt_eq] at h; omega
    rw [this]
end
end Go.Ev

namespace Go.Ev
/-! From one small memory to another -/
noncomputable section
def slotsR (iv : Ivs) (kf : SFm) (ρ : Ren) (l : List CV) (t : Tm) : Bool := rowR iv kf ρ t 0 l && (match t.get? l.length with | none => true | some _ => false)
/-- a memory and the slots of the frame that runs -/
structure Pt where
  s : List BC
  t : List CV
def idF (n : Nat) : SFm := (List.range n).map fun i => (0, [(1, i)])
def fixL : Nat → List (Nat × Nat) → Nat → Bool
  | 0, _, _ => true
  | _ + 1, [], _ => false
  | n + 1, q :: l, b => Nat.beq q.1 b && (Nat.beq q.2 0 && fixL n l (b + 1))
/-- where a run must end -/
def isPt (f ns : Nat) (l : List (Nat × Nat)) (B : Pt) (t : Tm) (m : M) : Bool := match fixL f l 0 && (Nat.beq l.length B.s.length && ordR l 0 []) with
  | true => (match slotsR m.tab.iv (idF ns) (ofList l) B.t t with
    | true => memR m.tab.iv (idF ns) (ofList l) m.h 0 B.s
    | false => false)
  | false => false
def toPt (f ns : Nat) (l : List (Nat × Nat)) (B : Pt) : KX := fun x t d m => match x with
  | .normal => (match d with | [] => isPt f ns l B t m | _ => false)
  | _ => false
def retPt (f ns : Nat) (l : List (Nat × Nat)) (B : Pt) : KX := fun x t d m => match x with
  | .ret => (match d with | [] => isPt f ns l B t m | _ => false)
  | _ => false
def iterC (ev : EvCode) (p : Nat) : EvCode := Nat.rec (motive := fun _ => EvCode) (fun t d m k => k .normal t d m)
  (fun _ ih t d m k => ev t d m fun x t d m => match x with
    | .normal => ih t d m k
    | .exit id => k (.exit id) t d m
    | .ret => k .ret t d m) p
end
section
variable {P : Program} {σ σ' : Sg} {iv : Ivs} {kf : SFm} {ρ : Ren}
theorem TR.ren {e : Env} {n : Nat} (hs : SatI σ.i iv) (hk : KfOk σ σ' kf) (hn : ∀ b, ρ.get? b ≠ none → b < n) {t : Tm} {T : Array Value} {l : List CV} (h : TR σ e t T) (hb : slotsR iv kf ρ l t = true) : TR σ' (e.ren ρ n) (ofList l) T := by
  simp only [slotsR, Bool.and_eq_true] at hb
  obtain ⟨h1, h2⟩ := hb
  have hnone : T[l.length]? = none := by
    have := h l.length
    split at h2
    · rename_i hg; rw [hg] at this; exact this
    · cases h2
  have hsz : T.size ≤ l.length := by
    rcases Nat.lt_or_ge l.length T.size with h | h
    · rw [Array.getElem?_eq_getElem h] at hnone; cases hnone
    · exact h
  intro i
  rw [ofList_get]
  cases hl : l[i]? with
  | none =>
    have : l.length ≤ i := by simpa using hl
    exact Array.getElem?_eq_none (by omega)
  | some x =>
    obtain ⟨y, hy1, hy2⟩ := rowR_get h1 i x hl
    rw [Nat.zero_add] at hy1
    obtain ⟨v, a, b⟩ := h.get hy1
    exact ⟨v, a, b.ren hs hk hy2 hn⟩
theorem idF_ok (σ : Sg) (n : Nat) : KfOk σ σ (idF n) := by
  intro s f h
  simp only [idF, List.getElem?_map, Option.map_eq_some_iff] at h
  obtain ⟨i, hi, rfl⟩ := h
  have : i = s := by
    rw [List.getElem?_range] at hi
    · exact (Option.some.inj hi).symm
    · rcases Nat.lt_or_ge s n with h | h
      · exact h
      · rw [List.getElem?_eq_none (by simpa using h)] at hi; cases hi
  subst this
  simp [lfVal, tsVal]
theorem ofList_lt {l : List (Nat × Nat)} {n : Nat} (hl : l.length = n) : ∀ b, (ofList l).get? b ≠ none → b < n := by
  intro b hb
  rw [ofList_get] at hb
  rcases Nat.lt_or_ge b l.length with h | h
  · omega
  · exact absurd (List.getElem?_eq_none h) hb
/-- what a run keeps of the real memory -/
structure KeptW (e : Env) (w : World) (e' : Env) (w' : World) : Prop where
  siz : w.heap.size ≤ w'.heap.size
  frm : ∀ r, r < w.heap.size → (∀ b p, e b = some p → p.live = true → p.r ≠ r) → w'.heap[r]? = w.heap[r]?
  rng : ∀ b p, e' b = some p → p.live = true → (∃ b₀ p₀, e b₀ = some p₀ ∧ p₀.live = true ∧ p₀.r = p.r) ∨ w.heap.size ≤ p.r
  tap : w'.tape = w.tape
  os : w'.os = w.os
  out : w'.output = w.output
theorem KeptW.refl (e : Env) (w : World) : KeptW e w e w := ⟨Nat.le_refl _, fun _ _ _ => rfl, fun b p h hl => .inl ⟨b, p, h, hl, rfl⟩, rfl, rfl, rfl⟩
theorem KeptW.trans {e e₁ e₂ : Env} {w w₁ w₂ : World} (h : KeptW e w e₁ w₁) (h' : KeptW e₁ w₁ e₂ w₂) : KeptW e w e₂ w₂ := by
  refine ⟨Nat.le_trans h.siz h'.siz, fun r hr hn => ?_, fun b p hb hl => ?_, h'.tap.trans h.tap, h'.os.trans h.os, h'.out.trans h.out⟩
  · rw [h'.frm r (Nat.lt_of_lt_of_le hr h.siz) ?_, h.frm r hr hn]
    intro b p hb hl he
    rcases h.rng b p hb hl with ⟨b₀, p₀, hb₀, hl₀, hr₀⟩ | hge
    · exact hn b₀ p₀ hb₀ hl₀ (hr₀.trans he)
    · omega
  · rcases h'.rng b p hb hl with ⟨b₀, p₀, hb₀, hl₀, hr₀⟩ | hge
    · rcases h.rng b₀ p₀ hb₀ hl₀ with ⟨b₁, p₁, hb₁, hl₁, hr₁⟩ | hge
      · exact .inl ⟨b₁, p₁, hb₁, hl₁, hr₁.trans hr₀⟩
      · exact .inr (hr₀ ▸ hge)
    · exact .inr (Nat.le_trans h.siz hge)
theorem Kept.toW {e e' : Env} {m m' : M} {w w' : World} (h : Kept e m w e' m' w') : KeptW e w e' w' := ⟨h.siz, h.frm, h.rng, h.tap, h.os, h.out⟩
theorem KeptW.ren (e : Env) (w : World) (ρ : Ren) (n : Nat) : KeptW e w (e.ren ρ n) w := by
  refine ⟨Nat.le_refl _, fun _ _ _ => rfl, fun b p hb hl => ?_, rfl, rfl, rfl⟩
  obtain ⟨_, q, p0, _, h2, rfl⟩ := Env.ren_some hb
  exact .inl ⟨q.1, p0, h2, hl, rfl⟩
/-- the first f names stay -/
def Fix (f : Nat) (e e' : Env) : Prop := ∀ b, b < f → match e b with
  | some p => ∃ p', e' b = some p' ∧ p'.r = p.r ∧ p'.d = p.d ∧ p'.s = p.s ∧ (p'.live = true → p.live = true)
  | none => e' b = none
theorem Fix.refl (f : Nat) (e : Env) : Fix f e e := by
  intro b _
  cases e b with
  | none => rfl
  | some p => exact ⟨p, rfl, rfl, rfl, rfl, id⟩
theorem Fix.trans {f : Nat} {e e₁ e₂ : Env} (h : Fix f e e₁) (h' : Fix f e₁ e₂) : Fix f e e₂ := by
  intro b hb
  have a := h b hb
  have a' := h' b hb
  cases he : e b with
  | none => rw [he] at a; rw [a] at a'; exact a'
  | some p =>
    rw [he] at a
    obtain ⟨p1, b1, b2, b3, b4, b5⟩ := a
    rw [b1] at a'
    obtain ⟨p2, c1, c2, c3, c4, c5⟩ := a'
    exact ⟨p2, c1, c2.trans b2, c3.trans b3, c4.trans b4, fun h => b5 (c5 h)⟩
theorem Kept.fix {e e' : Env} {m m' : M} {w w' : World} (h : Kept e m w e' m' w') {f : Nat} (hf : f ≤ m.n) : Fix f e e' := by
  intro b hb
  cases he : e b with
  | none => exact (h.unb b (by omega) he).1
  | some p => exact h.ext b p he
theorem fixL_get : ∀ {f b0 : Nat} {l : List (Nat × Nat)}, fixL f l b0 = true → ∀ b, b < f → l[b]? = some (b0 + b, 0)
  | 0, _, _, _, b, hb => by omega
  | f + 1, b0, [], h, b, hb => by cases h
  | f + 1, b0, q :: l, h, b, hb => by
    simp only [fixL, Bool.and_eq_true, Nat.beq_eq] at h
    obtain ⟨h1, h2, h3⟩ := h
    cases b with
    | zero => simp only [List.getElem?_cons_zero, Nat.add_zero]; rw [← h1, ← h2]
    | succ b =>
      rw [List.getElem?_cons_succ, fixL_get h3 b (by omega)]
      congr 2; omega
theorem fix_ren {f n : Nat} {l : List (Nat × Nat)} (h : fixL f l 0 = true) (hn : f ≤ n) (e : Env) : Fix f e (e.ren (ofList l) n) := by
  intro b hb
  have hg : (ofList l).get? b = some (b, 0) := by rw [ofList_get, fixL_get h b hb, Nat.zero_add]
  cases he : e b with
  | none =>
    show e.ren (ofList l) n b = none
    unfold Env.ren
    cases Nat.blt b n with
    | true => simp only [hg, he]
    | false => rfl
  | some p => exact ⟨_, Env.ren_of (by omega) hg he, rfl, rfl, Nat.add_zero _, id⟩
/-- the real state at a point -/
def AtP (σ : Sg) (A : Pt) (e : Env) (w : World) (T : Array Value) : Prop := RL σ G0 e ⟨hpOf A.s, A.s.length, ⟨[], []⟩⟩ w ∧ TR σ e (ofList A.t) T
def SegI (P : Program) (σ : Sg) (fn : FuncId) (f : Nat) (A : Pt) (hd : List Item) (B : Pt) (hd' : List Item) : Prop := ∀ (e : Env) (w : World) (T : Array Value) (b : Frame) (cs : List Frame) (k : List Item), AtP σ A e w T → FrOK false b cs → b.fn = fn →
  ∃ T' w' e', Steps P (lone (fr b T [] (hd ++ k)) cs w) (lone (fr b T' [] (hd' ++ k)) cs w') ∧ AtP σ B e' w' T' ∧ KeptW e w e' w' ∧ Fix f e e'
/-- up to a return -/
def SegR (P : Program) (σ : Sg) (fn : FuncId) (f : Nat) (A : Pt) (hd : List Item) (B : Pt) : Prop := ∀ (e : Env) (w : World) (T : Array Value) (b : Frame) (cs : List Frame) (k : List Item), AtP σ A e w T → FrOK false b cs → b.fn = fn →
  ∃ T' w' e' k', Steps P (lone (fr b T [] (hd ++ k)) cs w) (lone (fr b T' [] (.code .ret :: k')) cs w') ∧ AtP σ B e' w' T' ∧ KeptW e w e' w' ∧ Fix f e e'
variable {fn : FuncId} {f : Nat} {A B C : Pt} {hd hd' hd'' : List Item}
theorem SegI.refl : SegI P σ fn f A hd A hd := fun e w T _ _ _ hA _ _ => ⟨T, w, e, .refl _ _, hA, .refl _ _, .refl _ _⟩
theorem SegI.trans (h : SegI P σ fn f A hd B hd') (h' : SegI P σ fn f B hd' C hd'') : SegI P σ fn f A hd C hd'' := by
  intro e w T b cs k hA hf hfn
  obtain ⟨T1, w1, e1, a1, a2, a3, a4⟩ := h e w T b cs k hA hf hfn
  obtain ⟨T2, w2, e2, b1, b2, b3, b4⟩ := h' e1 w1 T1 b cs k a2 hf hfn
  exact ⟨T2, w2, e2, a1.trans b1, b2, a3.trans b3, a4.trans b4⟩
theorem SegI.ret (h : SegI P σ fn f A hd B hd') (h' : SegR P σ fn f B hd' C) : SegR P σ fn f A hd C := by
  intro e w T b cs k hA hf hfn
  obtain ⟨T1, w1, e1, a1, a2, a3, a4⟩ := h e w T b cs k hA hf hfn
  obtain ⟨T2, w2, e2, k', b1, b2, b3, b4⟩ := h' e1 w1 T1 b cs k a2 hf hfn
  exact ⟨T2, w2, e2, k', a1.trans b1, b2, a3.trans b3, a4.trans b4⟩
theorem SegI.ctl (h : ∀ (b : Frame) (T : Array Value) (cs : List Frame) (k : List Item) (w : World), step P (lone (fr b T [] (hd ++ k)) cs w) = .next (lone (fr b T [] (hd' ++ k)) cs w)) : SegI P σ fn f A hd A hd' :=
  fun e w T b cs k hA _ _ => ⟨T, w, e, .one (h b T cs k w), hA, .refl _ _, .refl _ _⟩
theorem SegI.tail (h : SegI P σ fn f A hd B hd') (l : List Item) : SegI P σ fn f A (hd ++ l) B (hd' ++ l) := by
  intro e w T b cs k hA hf hfn
  rw [List.append_assoc, List.append_assoc]
  exact h e w T b cs (l ++ k) hA hf hfn
theorem SegR.tail (h : SegR P σ fn f A hd B) (l : List Item) : SegR P σ fn f A (hd ++ l) B := by
  intro e w T b cs k hA hf hfn
  rw [List.append_assoc]
  exact h e w T b cs (l ++ k) hA hf hfn
/-- where a run ended -/
theorem isPt_at {ns : Nat} {l : List (Nat × Nat)} {t : Tm} {m m0 : M} (hf : f ≤ m0.n) (h : isPt f ns l B t m = true) (hs : Sat σ m.tab) {e0 e : Env} {w0 w : World} {T : Array Value} (hR : RL σ G0 e m w) (hT : TR σ e t T) (hK : Kept e0 m0 w0 e m w) (hfB : f ≤ B.s.length) :
    ∃ e', AtP σ B e' w T ∧ KeptW e0 w0 e' w ∧ Fix f e0 e' := by
  unfold isPt at h
  split at h
  · rename_i h1
    rw [Bool.and_eq_true, Bool.and_eq_true] at h1
    obtain ⟨h1, h2, hord⟩ := h1
    have h2 : l.length = B.s.length := by simpa using h2
    have hij : ∀ b b' q q', (ofList l).get? b = some q → (ofList l).get? b' = some q' → q.1 = q'.1 → b = b' := fun b b' q q' hq hq' => by
      rw [ofList_get] at hq hq'
      exact ordR_inj hord b b' q q' hq hq'
    split at h
    · rename_i h3
      have hn := ofList_lt h2
      exact ⟨e.ren (ofList l) B.s.length, ⟨hR.ren hs.iv (idF_ok σ ns) hn hij h _, hT.ren hs.iv (idF_ok σ ns) hn h3⟩, hK.toW.trans (.ren _ _ _ _), (hK.fix hf).trans (fix_ren h1 hfB e)⟩
    · cases h
  · cases h
theorem iterC_ok {G : Nat → Bool} {a : Code} {ev : EvCode} (ha : CodeOK P σ G fn false a ev) : ∀ (p : Nat) t d m K, iterC ev p t d m K = true → Sat σ m.tab →
    ∃ x t' d' m', K x t' d' m' = true ∧ Sat σ m'.tab ∧ ∀ (e : Env) (w : World) (T : Array Value) (D : List Deferred) (b : Frame) (cs : List Frame) (k : List Item), RL σ G e m w → TR σ e t T → DR σ e d D → FrOK false b cs → b.fn = fn →
      ∃ T' D' w' e' todo, Steps P (lone (fr b T D (.code a :: .inLoop a :: k)) cs w) (lone (fr b T' D' todo) cs w') ∧ (match x with | .normal => todo = .code a :: .inLoop a :: k | x => Land x k todo) ∧ RL σ G e' m' w' ∧ TR σ e' t' T' ∧ DR σ e' d' D' ∧ Kept e m w e' m' w'
  | 0, t, d, m, K, hh, hs => ⟨.normal, t, d, m, hh, hs, fun e w T D b cs k hR hT hD _ _ => ⟨T, D, w, e, _, .refl _ _, rfl, hR, hT, hD, .refl _ _ _⟩⟩
  | p + 1, t, d, m, K, hh, hs => by
    obtain ⟨x, t1, d1, m1, h1, hs1, h2⟩ := ha t d m (fun x t d m => match x with
      | .normal => iterC ev p t d m K
      | .exit id => K (.exit id) t d m
      | .ret => K .ret t d m) hh hs
    cases x with
    | normal =>
      obtain ⟨x, t2, d2, m2, h3, hs2, h4⟩ := iterC_ok ha p t1 d1 m1 K h1 hs1
      refine ⟨x, t2, d2, m2, h3, hs2, fun e w T D fb cs k hR hT hD hf hfn => ?_⟩
      obtain ⟨T1, D1, w1, e1, todo, q1, q2, q3, q4, q5, q6⟩ := h2 e w T D fb cs (.inLoop a :: k) hR hT hD hf hfn
      rw [show todo = _ from q2] at q1
      obtain ⟨T2, D2, w2, e2, todo2, r1, r2, r3, r4, r5, r6⟩ := h4 e1 w1 T1 D1 fb cs k q3 q4 q5 hf hfn
      exact ⟨T2, D2, w2, e2, todo2, q1.trans (.head st_inLoop r1), r2, r3, r4, r5, q6.trans r6⟩
    | exit id =>
      refine ⟨.exit id, t1, d1, m1, h1, hs1, fun e w T D fb cs k hR hT hD hf hfn => ?_⟩
      obtain ⟨T1, D1, w1, e1, todo, q1, ⟨k'', hk1, hk2⟩, q3, q4, q5, q6⟩ := h2 e w T D fb cs (.inLoop a :: k) hR hT hD hf hfn
      exact ⟨T1, D1, w1, e1, todo, q1, ⟨k'', hk1, by rw [hk2]; simp [exitTo]⟩, q3, q4, q5, q6⟩
    | ret =>
      refine ⟨.ret, t1, d1, m1, h1, hs1, fun e w T D fb cs k hR hT hD hf hfn => ?_⟩
      obtain ⟨T1, D1, w1, e1, todo, q1, q2, q3, q4, q5, q6⟩ := h2 e w T D fb cs (.inLoop a :: k) hR hT hD hf hfn
      exact ⟨T1, D1, w1, e1, todo, q1, q2, q3, q4, q5, q6⟩
/-- some rounds of a loop, seen -/
theorem seg_iter {ns p : Nat} {a : Code} {ev : EvCode} (ha : CodeOK P σ G0 fn false a ev) {l : List (Nat × Nat)} {tab : Tab} (hh : iterC ev p (ofList A.t) [] ⟨hpOf A.s, A.s.length, tab⟩ (toPt f ns l B) = true) (hs : Sat σ tab) (hfA : f ≤ A.s.length) (hfB : f ≤ B.s.length) :
    SegI P σ fn f A [.code a, .inLoop a] B [.code a, .inLoop a] := by
  obtain ⟨x, t', d', m', h1, h2, h3⟩ := iterC_ok ha p _ _ _ _ hh hs
  cases x <;> first | (cases h1; done) | skip
  cases d' with
  | cons _ _ => cases h1
  | nil =>
    intro e w T b cs k ⟨hR, hT⟩ hf hfn
    obtain ⟨T', D', w', e', todo, q1, q2, q3, q4, q5, q6⟩ := h3 e w T [] b cs k (hR.tab tab) hT .nil hf hfn
    obtain rfl : todo = _ := q2
    cases q5
    obtain ⟨e9, r1, r2, r3⟩ := isPt_at (m0 := ⟨hpOf A.s, A.s.length, tab⟩) hfA h1 h2 q3 q4 q6 hfB
    exact ⟨T', w', e9, q1, r1, r2, r3⟩
/-- .. that ends with a return -/
theorem seg_iterR {ns p : Nat} {a : Code} {ev : EvCode} (ha : CodeOK P σ G0 fn false a ev) {l : List (Nat × Nat)} {tab : Tab} (hh : iterC ev p (ofList A.t) [] ⟨hpOf A.s, A.s.length, tab⟩ (retPt f ns l B) = true) (hs : Sat σ tab) (hfA : f ≤ A.s.length) (hfB : f ≤ B.s.length) :
    SegR P σ fn f A [.code a, .inLoop a] B := by
  obtain ⟨x, t', d', m', h1, h2, h3⟩ := iterC_ok ha p _ _ _ _ hh hs
  cases x <;> first | (cases h1; done) | skip
  cases d' with
  | cons _ _ => cases h1
  | nil =>
    intro e w T b cs k ⟨hR, hT⟩ hf hfn
    obtain ⟨T', D', w', e', todo, q1, ⟨k', q2⟩, q3, q4, q5, q6⟩ := h3 e w T [] b cs k (hR.tab tab) hT .nil hf hfn
    subst q2
    cases q5
    obtain ⟨e9, r1, r2, r3⟩ := isPt_at (m0 := ⟨hpOf A.s, A.s.length, tab⟩) hfA h1 h2 q3 q4 q6 hfB
    exact ⟨T', w', e9, k', q1, r1, r2, r3⟩
/-- a code, seen -/
theorem seg_code {ns : Nat} {a : Code} {ev : EvCode} (ha : CodeOK P σ G0 fn false a ev) {l : List (Nat × Nat)} {tab : Tab} (hh : ev (ofList A.t) [] ⟨hpOf A.s, A.s.length, tab⟩ (toPt f ns l B) = true) (hs : Sat σ tab) (hfA : f ≤ A.s.length) (hfB : f ≤ B.s.length) :
    SegI P σ fn f A [.code a] B [] := by
  obtain ⟨x, t', d', m', h1, h2, h3⟩ := ha _ _ _ _ hh hs
  cases x <;> first | (cases h1; done) | skip
  cases d' with
  | cons _ _ => cases h1
  | nil =>
    intro e w T b cs k ⟨hR, hT⟩ hf hfn
    obtain ⟨T', D', w', e', todo, q1, q2, q3, q4, q5, q6⟩ := h3 e w T [] b cs k (hR.tab tab) hT .nil hf hfn
    obtain rfl : todo = _ := q2
    cases q5
    obtain ⟨e9, r1, r2, r3⟩ := isPt_at (m0 := ⟨hpOf A.s, A.s.length, tab⟩) hfA h1 h2 q3 q4 q6 hfB
    exact ⟨T', w', e9, q1, r1, r2, r3⟩
end
end Go.Ev

namespace Go.Ev
/-! A call known from small memory to small memory, within a bigger one -/
section
variable {P : Program} {σ σ' : Sg}
def CallTo (P : Program) (σ : Sg) (g : FuncId) (f : Nat) (as0 : List CV) (s0 : List BC) (r : CV) (s9 : List BC) : Prop :=
  ∀ (e : Env) (w : World) (vs : Array Value) (kd : CallKind) (c : Frame) (cs : List Frame), RL σ G0 e ⟨hpOf s0, s0.length, ⟨[], []⟩⟩ w → LR σ e as0 vs.toList → KindOK (.func g) kd c →
    ∃ v' w' e', CallGoes P kd c cs (callFunc g vs) w v' w' ∧ VR σ e' r v' ∧ RL σ G0 e' ⟨hpOf s9, s9.length, ⟨[], []⟩⟩ w' ∧ KeptW e w e' w' ∧ Fix f e e'
theorem TR.entry {e : Env} {as0 : List CV} {vs : Array Value} {n : Nat} (hv : LR σ e as0 vs.toList) (hn : as0.length ≤ n) : TR σ e (ofList (as0 ++ List.replicate (n - as0.length) undefC)) (vs ++ Array.replicate (n - vs.size) undef) := by
  have hlen : as0.length = vs.size := by simpa using hv.1
  intro i
  rw [ofList_get]
  by_cases h1 : i < as0.length
  · rw [List.getElem?_append_left h1, List.getElem?_eq_getElem h1]
    obtain ⟨v, h2, h3⟩ := hv.get (List.getElem?_eq_getElem h1)
    exact ⟨v, by rw [Array.getElem?_append_left (by omega)]; simpa using h2, h3⟩
  · rw [List.getElem?_append_right (by omega)]
    by_cases h2 : i < n
    · rw [List.getElem?_replicate, if_pos (by omega)]
      refine ⟨undef, ?_, undef_VR⟩
      rw [Array.getElem?_append_right (by omega), Array.getElem?_replicate, if_pos (by omega)]
    · rw [List.getElem?_replicate, if_neg (by omega)]
      exact Array.getElem?_eq_none (by simp; omega)
theorem callTo_of_seg (hng : NoCount P) {g : FuncId} {fn : Func} {cb : Code} (hfn : P.funcs[g]? = some fn) (hbody : fn.body = some cb) {f : Nat} {as0 : List CV} {s0 : List BC} (hn : as0.length ≤ fn.ntmps) {B : Pt}
    (hseg : SegR P σ g f ⟨s0, as0 ++ List.replicate (fn.ntmps - as0.length) undefC⟩ [.code cb] B) {r : CV} (hr : resultsC P fn.results.toList (ofList B.t) ⟨hpOf B.s, B.s.length, ⟨[], []⟩⟩ (fun vs => cvBeq (oneOr vs) r) = true) :
    CallTo P σ g f as0 s0 r B.s := by
  intro e w vs kd c cs hR hv hk
  have hkd : kd = .normal ∨ (kd = .deferred ∧ c.mode = .returning) := hk.imp id (fun h => ⟨h.1, h.2.1⟩)
  let b : Frame := { fn := g, tmps := #[], todo := [], defers := [], mode := .run, kind := kd }
  have henter : Frame.enter P g vs kd = fr b (vs ++ Array.replicate (fn.ntmps - vs.size) undef) [] [.code cb] := by
    simp [Frame.enter, fr, hfn, hbody, b]
  have hfo : FrOK false b (c :: cs) := ⟨rfl, hkd.imp id (fun h => ⟨h.1, c, cs, rfl, .inl h.2⟩)⟩
  obtain ⟨T', w', e', k', q1, ⟨q2, q3⟩, q4, q5⟩ := hseg e w _ b (c :: cs) [] ⟨hR, TR.entry hv hn⟩ hfo rfl
  obtain ⟨us, h1, h2⟩ := results_run (P := P) (σ := σ) (fn := fn) hr
  obtain ⟨v, s1, s2⟩ := h2 q2.hr q3
  have h1 := cvBeq_eq _ _ h1
  rw [h1] at s2
  refine ⟨v, w', e', ?_, s2, q2, q4, q5⟩
  simp only [CallGoes, callFunc_body hng hfn hbody]
  rw [henter]
  exact q1.trans (.head (st_ret' rfl) (.one (st_return (b := b) hfn s1 hkd)))
end
end Go.Ev
