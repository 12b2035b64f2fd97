/- A verified evaluator for the model's code (part EvK): own work, of no program. -/
import Derived.Test.YtdbhonkahlcdoaaGreatDoorEvJ
namespace Go.Ev
/-! Frames as trees of values; environments -/
inductive Sk where
  | nil
  | node (v : V) (a b c e : Sk)
  | raw (t : Tm)
noncomputable def skT (d : Nat) : Sk → TS CV V d := Nat.rec (motive := fun d => Sk → TS CV V d) (fun s => match s with | .raw t => t | _ => .mk .nil)
  (fun d ih s => match s with | .node v a b c e => nodeS v (ih a) (ih b) (ih c) (ih e) | _ => nilS (d + 1)) d
theorem skT_node (d : Nat) (v : V) (a b c e : Sk) : skT (d + 1) (.node v a b c e) = nodeS v (skT d a) (skT d b) (skT d c) (skT d e) := rfl
def sget : Nat → Sk → Nat → Option V
  | 0, _, _ => none
  | _ + 1, .nil, _ => none
  | _ + 1, .raw _, _ => none
  | _ + 1, .node v _ _ _ _, 0 => some v
  | d + 1, .node _ a b c e, p + 1 => match p % 4 with | 0 => sget d a (p / 4) | 1 => sget d b (p / 4) | 2 => sget d c (p / 4) | _ => sget d e (p / 4)
def sset : Nat → Sk → Nat → V → Sk
  | 0, s, _, _ => s
  | _ + 1, .nil, _, _ => .nil
  | _ + 1, .raw t, _, _ => .raw t
  | _ + 1, .node _ a b c e, 0, x => .node x a b c e
  | d + 1, .node v a b c e, p + 1, x => match p % 4 with | 0 => .node v (sset d a (p / 4) x) b c e | 1 => .node v a (sset d b (p / 4) x) c e | 2 => .node v a b (sset d c (p / 4) x) e | _ => .node v a b c (sset d e (p / 4) x)
theorem sget_path (d : Nat) : ∀ (i : Nat) (s : Sk) (v : V), sget d s i = some v → ∀ k, (pathG encV d i).go (skT d s) k = k v := by
  induction d with
  | zero => intro i s v h; cases h
  | succ d ih =>
    intro i s v h k
    cases s with
    | nil => cases h
    | raw t => cases h
    | node w a b c e =>
      cases i with
      | zero => obtain rfl := Option.some.inj h; rfl
      | succ p =>
        have key : pathG (β := V) encV (d + 1) (p + 1) = kid (downG0 (pathG encV d (p / 4))) (downG1 (pathG encV d (p / 4))) (downG2 (pathG encV d (p / 4))) (downG3 (pathG encV d (p / 4))) (p % 4) := rfl
        rw [key, skT_node]
        simp only [sget] at h
        rcases (by omega : p % 4 = 0 ∨ p % 4 = 1 ∨ p % 4 = 2 ∨ p % 4 = 3) with g | g | g | g <;> rw [g] at h ⊢ <;> simp only [kid, downG0, downG1, downG2, downG3, opened_eq] <;> exact ih _ _ v h k
theorem sset_path (d : Nat) : ∀ (i : Nat) (s : Sk) (x : V), (sget d s i).isSome = true → ∀ k, (pathP decV d i).go (skT d s) x k = k (skT d (sset d s i x)) := by
  induction d with
  | zero => intro i s v h; cases h
  | succ d ih =>
    intro i s x h k
    cases s with
    | nil => cases h
    | raw t => cases h
    | node w a b c e =>
      cases i with
      | zero => rfl
      | succ p =>
        have key : pathP (β := V) decV (d + 1) (p + 1) = kid (downP0 (pathP decV d (p / 4))) (downP1 (pathP decV d (p / 4))) (downP2 (pathP decV d (p / 4))) (downP3 (pathP decV d (p / 4))) (p % 4) := rfl
        rw [key, skT_node]
        simp only [sget] at h
        simp only [sset]
        rcases (by omega : p % 4 = 0 ∨ p % 4 = 1 ∨ p % 4 = 2 ∨ p % 4 = 3) with g | g | g | g <;> rw [g] at h ⊢ <;> simp only [kid, downP0, downP1, downP2, downP3, opened_eq, skT_node] <;> exact ih _ _ x h _
theorem sget_sset (d : Nat) : ∀ (i j : Nat) (s : Sk) (x : V), (sget d s i).isSome = true → sget d (sset d s i x) j = if j = i then some x else sget d s j := by
  induction d with
  | zero => intro i j s v h; cases h
  | succ d ih =>
    intro i j s x h
    cases s with
    | nil => cases h
    | raw t => cases h
    | node w a b c e =>
      cases i with
      | zero =>
        cases j with
        | zero => rfl
        | succ q => simp only [sset, sget]; rw [if_neg (by omega)]
      | succ p =>
        simp only [sget] at h
        have hp : p = 4 * (p / 4) + p % 4 := by omega
        cases j with
        | zero =>
          simp only [sset]
          rcases (by omega : p % 4 = 0 ∨ p % 4 = 1 ∨ p % 4 = 2 ∨ p % 4 = 3) with g | g | g | g <;> rw [g] <;> simp only [sget] <;> rw [if_neg (by omega)]
        | succ q =>
          simp only [sset]
          rcases (by omega : p % 4 = 0 ∨ p % 4 = 1 ∨ p % 4 = 2 ∨ p % 4 = 3) with g | g | g | g <;> rw [g] at h ⊢ <;>
            rcases (by omega : q % 4 = 0 ∨ q % 4 = 1 ∨ q % 4 = 2 ∨ q % 4 = 3) with g' | g' | g' | g' <;> simp only [sget, g'] <;>
            first
            | rw [if_neg (by omega)]
            | (rw [ih _ _ _ _ h]; by_cases hq : q / 4 = p / 4
               · rw [if_pos hq, if_pos (by omega)]
               · rw [if_neg hq, if_neg (by omega)])
/-- the tree of a plain frame -/
noncomputable def toSk : Nat → Tm → Sk
  | 0, t => .raw t
  | d + 1, t => match t.1 with | .nil => .nil | .node v a b c e => .node (encV v) (toSk d a) (toSk d b) (toSk d c) (toSk d e)
theorem skT_toSk (d : Nat) : ∀ t : Tm, skT d (toSk d t) = encT encV d t := by
  induction d with
  | zero => intro t; rfl
  | succ d ih =>
    intro t
    obtain ⟨nd⟩ := t
    cases nd with
    | nil => exact (nilS_eq encV (d + 1))
    | node v a b c e =>
      show nodeS (encV v) (skT d (toSk d a)) (skT d (toSk d b)) (skT d (toSk d c)) (skT d (toSk d e)) = _
      rw [ih, ih, ih, ih]; rfl
def bnd : Nat → Nat
  | 0 => 0
  | d + 1 => 4 * bnd d + 1
theorem toSk_get (d : Nat) : ∀ (t : Tm) (i : Nat) (v : CV), i < bnd d → t.get? i = some v → sget d (toSk d t) i = some (encV v) := by
  induction d with
  | zero => intro t i v h; cases h
  | succ d ih =>
    intro t i v hb h
    obtain ⟨nd⟩ := t
    cases nd with
    | nil => rw [get_nil] at h; cases h
    | node w a b c e =>
      cases i with
      | zero => rw [get_zero] at h; obtain rfl := Option.some.inj h; rfl
      | succ p =>
        rw [get_node] at h
        simp only [toSk, sget]
        have hq : p / 4 < bnd d := by simp only [bnd] at hb; omega
        rcases (by omega : p % 4 = 0 ∨ p % 4 = 1 ∨ p % 4 = 2 ∨ p % 4 = 3) with g | g | g | g <;> rw [g] at h ⊢ <;> exact ih _ _ _ hq h
/-- environments: what is known of the slots -/
abbrev LE := List (Nat × V)
noncomputable def look (ρ : LE) (i : Nat) : V := List.rec (motive := fun _ => V) vUndef (fun p _ ih => Bool.rec (motive := fun _ => V) ih p.2 (Nat.beq p.1 i)) ρ
noncomputable def keys (ρ : LE) : List Nat := List.rec (motive := fun _ => List Nat) [] (fun p _ ih => p.1 :: ih) ρ
noncomputable def memN (i : Nat) (l : List Nat) : Bool := List.rec (motive := fun _ => Bool) false (fun j _ ih => Bool.rec (motive := fun _ => Bool) ih true (Nat.beq j i)) l
theorem memN_cons (i j : Nat) (l : List Nat) : memN i (j :: l) = (Nat.beq j i || memN i l) := by
  show (Bool.rec (motive := fun _ => Bool) (memN i l) true (Nat.beq j i)) = _
  cases Nat.beq j i <;> rfl
theorem memN_iff {i : Nat} {l : List Nat} : memN i l = true ↔ i ∈ l := by
  induction l with
  | nil => constructor <;> intro h <;> cases h
  | cons j l ih => rw [memN_cons, Bool.or_eq_true, ih, Nat.beq_eq, List.mem_cons]; constructor <;> rintro (h | h) <;> first | exact .inl h.symm | exact .inr h
theorem look_cons (p : Nat × V) (ρ : LE) (i : Nat) : look (p :: ρ) i = if p.1 = i then p.2 else look ρ i := by
  show (Bool.rec (motive := fun _ => V) (look ρ i) p.2 (Nat.beq p.1 i)) = _
  by_cases h : p.1 = i
  · have e : Nat.beq p.1 i = true := by rw [h]; exact Nat.beq_refl i
    rw [if_pos h, e]
  · have e : Nat.beq p.1 i = false := by
      cases hb : Nat.beq p.1 i
      · rfl
      · exact absurd (Nat.eq_of_beq_eq_true hb) h
    rw [if_neg h, e]
/-- the frame holds what the environment says, and has all its slots -/
structure Fr (nt : Nat) (ρ : LE) (s : Sk) : Prop where
  get : ∀ i ∈ keys ρ, sget DD s i = some (look ρ i)
  full : ∀ i, i < nt → (sget DD s i).isSome = true
theorem Fr.gT {nt : Nat} {ρ : LE} {s : Sk} (h : Fr nt ρ s) {i : Nat} (hi : memN i (keys ρ) = true) : (gT DD i).go (skT DD s) = fun k => k (look ρ i) :=
  funext (sget_path DD i s _ (h.get i (memN_iff.1 hi)))
theorem Fr.pT {nt : Nat} {ρ : LE} {s : Sk} (h : Fr nt ρ s) {i : Nat} (hi : i < nt) (x : V) (k : TmS DD → Res) : (pT DD i).go (skT DD s) x k = k (skT DD (sset DD s i x)) := sset_path DD i s x (h.full i hi) k
theorem Fr.set {nt : Nat} {ρ : LE} {s : Sk} (h : Fr nt ρ s) {i : Nat} (hi : i < nt) (x : V) : Fr nt ((i, x) :: ρ) (sset DD s i x) where
  get := by
    intro j hj
    rw [sget_sset DD i j s x (h.full i hi), look_cons]
    by_cases e : j = i
    · rw [if_pos e, if_pos e.symm]
    · rw [if_neg e, if_neg (fun e' => e e'.symm)]
      refine h.get j ?_
      have : j ∈ i :: keys ρ := hj
      rcases List.mem_cons.1 this with h1 | h1
      · exact absurd h1 e
      · exact h1
  full := by
    intro j hj
    rw [sget_sset DD i j s x (h.full i hi)]
    by_cases e : j = i
    · rw [if_pos e]; rfl
    · rw [if_neg e]; exact h.full j hj
/-- part of an environment -/
noncomputable def restr (L : List Nat) (ρ : LE) : LE := List.rec (motive := fun _ => LE) [] (fun i _ ih => (i, look ρ i) :: ih) L
theorem keys_restr (L : List Nat) (ρ : LE) : keys (restr L ρ) = L := by
  induction L with
  | nil => rfl
  | cons i L ih => show i :: keys (restr L ρ) = _; rw [ih]
theorem look_restr (L : List Nat) (ρ : LE) {i : Nat} (hi : i ∈ L) : look (restr L ρ) i = look ρ i := by
  induction L with
  | nil => cases hi
  | cons j L ih =>
    show look ((j, look ρ j) :: restr L ρ) i = _
    rw [look_cons]
    by_cases e : j = i
    · rw [if_pos e, e]
    · rw [if_neg e]; rcases List.mem_cons.1 hi with h | h
      · exact absurd h.symm e
      · exact ih h
noncomputable def subL (L A : List Nat) : Bool := List.rec (motive := fun _ => Bool) true (fun i _ ih => Bool.rec (motive := fun _ => Bool) false ih (memN i A)) L
theorem subL_mem {L A : List Nat} (h : subL L A = true) : ∀ i ∈ L, i ∈ A := by
  induction L with
  | nil => intro i hi; cases hi
  | cons j L ih =>
    have e : subL (j :: L) A = Bool.rec (motive := fun _ => Bool) false (subL L A) (memN j A) := rfl
    rw [e] at h
    cases hm : memN j A with
    | false => rw [hm] at h; cases h
    | true =>
      rw [hm] at h
      intro i hi
      rcases List.mem_cons.1 hi with rfl | h'
      · exact memN_iff.1 hm
      · exact ih h i h'
theorem Fr.restr {nt : Nat} {ρ : LE} {s : Sk} (h : Fr nt ρ s) {L : List Nat} (hL : subL L (keys ρ) = true) : Fr nt (restr L ρ) s where
  get := by
    intro i hi
    rw [keys_restr] at hi
    rw [look_restr L ρ hi]
    exact h.get i (subL_mem hL i hi)
  full := h.full
end Go.Ev

namespace Go.Ev
/-! An operation reads its operands and nothing else of the frame -/
section
variable {T H : Type} (S : Sig T H) {P : Program} {G : Nat → Bool} {t1 t2 : T}
theorem getOsR_dep {xs : List Operand} (hx : ∀ x ∈ xs, getOR S G x t1 = getOR S G x t2) : getOsR S G xs t1 = getOsR S G xs t2 := by
  induction xs with
  | nil => rfl
  | cons x xs ih =>
    have e : ∀ t, getOsR S G (x :: xs) t = fun k => getOR S G x t fun c => getOsR S G xs t fun cs => k (c :: cs) := fun _ => rfl
    rw [e, e, hx x (by simp), ih fun y hy => hx y (by simp [hy])]
theorem optOR_dep {x : Option Operand} (hx : ∀ y, x = some y → getOR S G y t1 = getOR S G y t2) : optOR S G x t1 = optOR S G x t2 := by
  cases x with
  | none => rfl
  | some x => funext k; simp only [optOR, hx x rfl]
theorem floatCR_dep {o : Op} (hx : ∀ x ∈ o.operands.toList, getOR S G x t1 = getOR S G x t2) : floatCR S P G o t1 = floatCR S P G o t2 := by
  funext h tab nb k
  cases o
  case move x => simp only [floatCR, hx x (by simp [Op.operands])]
  case assign x => simp only [floatCR, hx x (by simp [Op.operands])]
  case pick c a b => simp only [floatCR, hx c (by simp [Op.operands]), hx a (by simp [Op.operands]), hx b (by simp [Op.operands])]
  case alloc e => simp only [floatCR]
  case box e x => simp only [floatCR, hx x (by simp [Op.operands])]
  case build ty ps =>
    have e : getOsR S G (ps.toList.map (·.2)) t1 = getOsR S G (ps.toList.map (·.2)) t2 := getOsR_dep S fun x h => hx x (by simpa [Op.operands] using h)
    simp only [floatCR, e]
  case buildSlice ty l ps =>
    have e : getOsR S G (ps.toList.map (·.2)) t1 = getOsR S G (ps.toList.map (·.2)) t2 := getOsR_dep S fun x h => hx x (by simpa [Op.operands] using h)
    simp only [floatCR, e]
  case load ty x => simp only [floatCR, hx x (by simp [Op.operands])]
  case nilCheck x => simp only [floatCR, hx x (by simp [Op.operands])]
  case binOp a b x y c => simp only [floatCR, hx x (by simp [Op.operands]), hx y (by simp [Op.operands])]
  case unOp a b x => simp only [floatCR, hx x (by simp [Op.operands])]
  case convert a b x => simp only [floatCR, hx x (by simp [Op.operands])]
  case makeInterface a x => simp only [floatCR, hx x (by simp [Op.operands])]
  case typeAssert x a b c => simp only [floatCR, hx x (by simp [Op.operands])]
  case makeFunc f a b =>
    have e : getOsR S G a.toList t1 = getOsR S G a.toList t2 := getOsR_dep S fun x h => hx x (by simp [Op.operands, h] <;> simp_all)
    have e' : getOsR S G b.toList t1 = getOsR S G b.toList t2 := getOsR_dep S fun x h => hx x (by simp [Op.operands, h] <;> simp_all)
    simp only [floatCR, e, e']
  case makeMap a b => simp only [floatCR]
  case makeSlice a b c => simp only [floatCR, hx b (by simp [Op.operands]), hx c (by simp [Op.operands])]
  case slice a x lo hi mx =>
    have e : optOR S G lo t1 = optOR S G lo t2 := optOR_dep S fun y h => hx y (by subst h; simp [Op.operands])
    have e' : optOR S G hi t1 = optOR S G hi t2 := optOR_dep S fun y h => hx y (by subst h; simp [Op.operands])
    simp only [floatCR, hx x (by simp [Op.operands]), e, e']
  case fieldAddr a x b => simp only [floatCR, hx x (by simp [Op.operands])]
  case field a x b => simp only [floatCR, hx x (by simp [Op.operands])]
  case indexAddr a x b => simp only [floatCR, hx x (by simp [Op.operands]), hx b (by simp [Op.operands])]
  case index a x b => simp only [floatCR, hx x (by simp [Op.operands]), hx b (by simp [Op.operands])]
  case lookup a x b c => simp only [floatCR, hx x (by simp [Op.operands]), hx b (by simp [Op.operands])]
  case extract x i => simp only [floatCR, hx x (by simp [Op.operands])]
  case call c =>
    have key : ∀ x ∈ c.args.toList, getOR S G x t1 = getOR S G x t2 := fun x h => hx x (by simp [Op.operands, Call.operands] at h ⊢; exact .inr h)
    cases hc : c.callee with
    | value f => simp only [floatCR, hc]
    | invoke r m => simp only [floatCR, hc]
    | builtin b =>
      cases b <;> simp only [floatCR, hc]
      all_goals
        match ha : c.args.toList with
        | [] => rfl
        | [x] => first | rfl | simp only [key x (by simp [ha])]
        | [x, y] => first | rfl | simp only [key x (by simp [ha]), key y (by simp [ha])]
        | x :: y :: z :: l => rfl
  all_goals rfl
theorem actCR_dep {call : CallX H} {o : Op} (hx : ∀ x ∈ o.operands.toList, getOR S G x t1 = getOR S G x t2) : actCR S P G call o t1 = actCR S P G call o t2 := by
  funext m k
  cases o
  case store ty x y => simp only [actCR, hx x (by simp [Op.operands]), hx y (by simp [Op.operands])]
  case mapUpdate a x i y => simp only [actCR, hx x (by simp [Op.operands]), hx i (by simp [Op.operands]), hx y (by simp [Op.operands])]
  case call c =>
    have key : ∀ x ∈ c.args.toList, getOR S G x t1 = getOR S G x t2 := fun x h => hx x (by simp [Op.operands, Call.operands] at h ⊢; exact .inr h)
    cases hc : c.callee with
    | value f =>
      have k1 : getOR S G f t1 = getOR S G f t2 := hx f (by simp [Op.operands, Call.operands, hc])
      simp only [actCR, hc, k1, getOsR_dep S key]
    | invoke r m => simp only [actCR, hc]
    | builtin b =>
      cases b <;> simp only [actCR, hc]
      all_goals
        match ha : c.args.toList with
        | [] => rfl
        | [x] => first | rfl | simp only [key x (by simp [ha])]
        | [x, y] => first | rfl | simp only [key x (by simp [ha]), key y (by simp [ha])]
        | x :: y :: z :: l => rfl
  all_goals rfl
end
end Go.Ev

namespace Go.Ev
section
variable {T H : Type} (S : Sig T H) {P : Program} {G : Nat → Bool} {t1 t2 : T}
/-- the slot of an operation's guard -/
def gdst (ops : Array Oper) (o : Oper) : Option Nat := match o.guard with
  | none => none
  | some (j, _) => match ops[j]? with | some oj => oj.dst | none => none
theorem guardCR_dep {ops : Array Oper} {o : Oper} (hg : ∀ d, gdst ops o = some d → S.gT t1 d = S.gT t2 d) : guardCR S ops o t1 = guardCR S ops o t2 := by
  funext k
  unfold guardCR
  unfold gdst at hg
  cases ho : o.guard with
  | none => rfl
  | some q =>
    obtain ⟨j, want⟩ := q
    dsimp only
    simp only [ho] at hg
    cases hj : ops[j]? with
    | none => rfl
    | some oj =>
      dsimp only
      simp only [hj] at hg
      cases hd : oj.dst with
      | none => rfl
      | some d => dsimp only; rw [hg d hd]
theorem operCR_dep {rd : Bool} {call : CallX H} {ops : Array Oper} {o : Oper} {d : List DF} {m : MX H} {k1 k2 : T → List DF → MX H → Res}
    (hx : ∀ x ∈ o.op.operands.toList, getOR S G x t1 = getOR S G x t2) (hg : ∀ d, gdst ops o = some d → S.gT t1 d = S.gT t2 d)
    (hk : ∀ v, ∃ t1' t2', (∀ k : T → Res, putTR S o.dst v t1 k = k t1') ∧ (∀ k : T → Res, putTR S o.dst v t2 k = k t2') ∧ ∀ d m, k1 t1' d m = k2 t2' d m) :
    operCR S P G rd call ops o t1 d m k1 = operCR S P G rd call ops o t2 d m k2 := by
  unfold operCR
  rw [guardCR_dep S hg]
  congr 1
  funext b
  cases b with
  | false =>
    obtain ⟨t1', t2', h1, h2, h3⟩ := hk undefC
    dsimp only
    rw [h1, h2, h3]
  | true =>
    dsimp only
    have kk : (fun (v : CV) (m : MX H) => putTR S o.dst v t1 fun t' => k1 t' d m) = fun v m => putTR S o.dst v t2 fun t' => k2 t' d m := by
      funext v m
      obtain ⟨t1', t2', h1, h2, h3⟩ := hk v
      rw [h1, h2, h3]
    cases isFloat o.op with
    | true =>
      dsimp only
      rw [floatCR_dep S hx]
      congr 1
      funext v nb tab
      obtain ⟨t1', t2', h1, h2, h3⟩ := hk v
      rw [h1, h2]
      cases nb with
      | none => exact h3 _ _
      | some cb => dsimp only; simp only [h3]
    | false =>
      dsimp only
      cases ho : o.op
      case defer c =>
        cases rd with
        | true => rfl
        | false =>
          dsimp only
          cases hc : c.callee with
          | invoke r mm => rfl
          | builtin b => rfl
          | value f =>
            dsimp only
            have k1' : getOR S G f t1 = getOR S G f t2 := hx f (by rw [ho]; simp [Op.operands, Call.operands, hc])
            have key : ∀ x ∈ c.args.toList, getOR S G x t1 = getOR S G x t2 := fun x h => hx x (by rw [ho]; simp [Op.operands, Call.operands] at h ⊢; exact .inr h)
            rw [k1', getOsR_dep S key]
            obtain ⟨t1', t2', h1, h2, h3⟩ := hk undefC
            simp only [h1, h2, h3]
      all_goals
        dsimp only
        rw [← ho, actCR_dep S hx, kk]
theorem againCR_dep {ops : Array Oper} {m : MX H} {j : Nat} (hx : ∀ o, ops[j]? = some o → (∀ x ∈ o.op.operands.toList, getOR S G x t1 = getOR S G x t2) ∧ (∀ d, gdst ops o = some d → S.gT t1 d = S.gT t2 d) ∧ ∀ d, o.dst = some d → S.gT t1 d = S.gT t2 d) :
    againCR S P G ops t1 m j = againCR S P G ops t2 m j := by
  unfold againCR
  cases ho : ops[j]? with
  | none => rfl
  | some o =>
    obtain ⟨h1, h2, h3⟩ := hx o ho
    dsimp only
    rw [guardCR_dep S h2]
    congr 1
    funext b
    cases b with
    | false => rfl
    | true =>
      dsimp only
      cases hd : o.dst with
      | none => rfl
      | some d =>
        dsimp only
        rw [h3 d hd, floatCR_dep S h1]
def rslot : ResultVar → Nat
  | .tmp i => i
  | .cell a _ => a
theorem resultsCR_dep {rs : List ResultVar} (hx : ∀ r ∈ rs, S.gT t1 (rslot r) = S.gT t2 (rslot r)) : resultsCR S P rs t1 = resultsCR S P rs t2 := by
  induction rs with
  | nil => rfl
  | cons r rs ih =>
    have ih := ih fun r h => hx r (by simp [h])
    funext m k
    cases r with
    | tmp i =>
      have e : ∀ t, resultsCR S P (.tmp i :: rs) t m k = S.gT t i fun v => resultsCR S P rs t m fun vs => k (v :: vs) := fun _ => rfl
      have e1 : S.gT t1 i = S.gT t2 i := hx _ (List.mem_cons_self ..)
      rw [e, e, e1, ih]
    | cell a ty =>
      have e : ∀ t, resultsCR S P (.cell a ty :: rs) t m k = S.gT t a fun v => asPtrR v fun b off => loadCR S P ty b off m.h fun v => resultsCR S P rs t m fun vs => k (v :: vs) := fun _ => rfl
      have e1 : S.gT t1 a = S.gT t2 a := hx _ (List.mem_cons_self ..)
      rw [e, e, e1, ih]
end
end Go.Ev

namespace Go.Ev
/-! Slow operations, upon a small frame of their own -/
abbrev SK := Cx DD → HS DD → Nat → Res
noncomputable def mkK (l : LE) : TmS DD → (TmS DD → Res) → Res := List.rec (motive := fun _ => TmS DD → (TmS DD → Res) → Res) (fun t k => k t) (fun p _ ih t k => (pT DD p.1).go t p.2 fun t => ih t k) l
theorem mkK_ok {nt : Nat} (ρ : LE) : ∀ (L : List Nat) (s : Sk), (∀ i ∈ L, i < nt) → (∀ i, i < nt → (sget DD s i).isSome = true) →
    ∃ s', (∀ k, mkK (restr L ρ) (skT DD s) k = k (skT DD s')) ∧ (∀ i, i < nt → (sget DD s' i).isSome = true) ∧ ∀ i, sget DD s' i = if i ∈ L then some (look ρ i) else sget DD s i := by
  intro L
  induction L with
  | nil => intro s _ hf; exact ⟨s, fun k => rfl, hf, fun i => by simp⟩
  | cons j L ih =>
    intro s hL hf
    have hj := hL j (by simp)
    have g := sget_sset DD j
    have hf' : ∀ i, i < nt → (sget DD (sset DD s j (look ρ j)) i).isSome = true := by
      intro i hi
      rw [g i s _ (hf j hj)]
      by_cases e : i = j
      · rw [if_pos e]; rfl
      · rw [if_neg e]; exact hf i hi
    obtain ⟨s', h1, h2, h3⟩ := ih (sset DD s j (look ρ j)) (fun i hi => hL i (by simp [hi])) hf'
    refine ⟨s', fun k => ?_, h2, fun i => ?_⟩
    · have e : mkK (restr (j :: L) ρ) (skT DD s) k = (pT DD j).go (skT DD s) (look ρ j) fun t => mkK (restr L ρ) t k := rfl
      rw [e]
      exact (sset_path DD j s _ (hf j hj) _).trans (h1 k)
    · rw [h3 i, g i s _ (hf j hj)]
      by_cases hi : i ∈ L
      · rw [if_pos hi, if_pos (by simp [hi])]
      · rw [if_neg hi]
        by_cases e : i = j
        · rw [if_pos e, if_pos (by simp [e]), e]
        · rw [if_neg e, if_neg (by simp [hi, e])]
noncomputable def BL (nt : Nat) : TmS DD := (blankS nt).go
theorem BL_ok {nt : Nat} (hn : nt < bnd DD) : ∃ s, BL nt = skT DD s ∧ (∀ i, i < nt → (sget DD s i).isSome = true) := by
  refine ⟨toSk DD (ofList (List.replicate nt undefC)), ?_, fun i hi => ?_⟩
  · rw [skT_toSk]; exact ofListB_go DD _ (blank_all _)
  · rw [toSk_get DD _ i undefC (by omega) (by rw [ofList_get]; simp [hi])]; rfl
noncomputable def zS (nt : Nat) (S : OpF DD) (i : Nat) (l : LE) (κ : V → SK) : SK := fun c h n => mkK l (BL nt) fun t => S c t h n fun c t h n => (gT DD i).go t fun v => κ v c h n
noncomputable def zN (nt : Nat) (S : OpF DD) (l : LE) (κ : SK) : SK := fun c h n => mkK l (BL nt) fun t => S c t h n fun c _ h n => κ c h n
noncomputable def zA (nt : Nat) (A : AgF DD) (l : LE) (κ : SK) : SK := fun c h n => mkK l (BL nt) fun t => A c t h n (κ c h n)
/-- the slots that an operation reads -/
def slotsO : List Operand → List Nat
  | [] => []
  | .tmp i :: l => i :: slotsO l
  | _ :: l => slotsO l
theorem slotsO_mem : ∀ {l : List Operand} {i : Nat}, .tmp i ∈ l → i ∈ slotsO l
  | [], _, h => by cases h
  | x :: l, i, h => by
    rcases List.mem_cons.1 h with h | h
    · subst h; exact List.mem_cons_self ..
    · have := slotsO_mem h
      cases x <;> simp only [slotsO] <;> first | exact this | exact List.mem_cons_of_mem _ this
def usesO (ops : Array Oper) (o : Oper) : List Nat := match gdst ops o with | some d => d :: slotsO o.op.operands.toList | none => slotsO o.op.operands.toList
noncomputable def allLt (L : List Nat) (nt : Nat) : Bool := List.rec (motive := fun _ => Bool) true (fun i _ ih => Bool.rec (motive := fun _ => Bool) false ih (Nat.ble (Nat.succ i) nt)) L
theorem allLt_mem {L : List Nat} {nt : Nat} (h : allLt L nt = true) : ∀ i ∈ L, i < nt := by
  induction L with
  | nil => intro i hi; cases hi
  | cons j L ih =>
    have e : allLt (j :: L) nt = Bool.rec (motive := fun _ => Bool) false (allLt L nt) (Nat.ble (Nat.succ j) nt) := rfl
    rw [e] at h
    cases hm : Nat.ble (Nat.succ j) nt with
    | false => rw [hm] at h; cases h
    | true =>
      rw [hm] at h
      intro i hi
      rcases List.mem_cons.1 hi with rfl | h'
      · exact Nat.le_of_ble_eq_true hm
      · exact ih h i h'
section
variable {P : Program} {G : Nat → Bool} {nt : Nat} {ρ : LE} {s : Sk} {ops : Array Oper} {o : Oper} {L : List Nat}
theorem scott_gT {s1 s2 : Sk} {i : Nat} {v : V} (h1 : sget DD s1 i = some v) (h2 : sget DD s2 i = some v) : (scott DD).gT (skT DD s1) i = (scott DD).gT (skT DD s2) i := by
  funext k
  show (gT DD i).go (skT DD s1) _ = (gT DD i).go (skT DD s2) _
  exact (sget_path DD i s1 v h1 _).trans (sget_path DD i s2 v h2 fun v => decV v k).symm
theorem getOR_two {s1 s2 : Sk} {x : Operand} (h : ∀ i, x = .tmp i → ∃ v, sget DD s1 i = some v ∧ sget DD s2 i = some v) : getOR (scott DD) G x (skT DD s1) = getOR (scott DD) G x (skT DD s2) := by
  cases x with
  | tmp i => obtain ⟨v, h1, h2⟩ := h i rfl; exact scott_gT h1 h2
  | const v => rfl
  | global g => rfl
  | func f => rfl
/-- the small frame -/
theorem mini (hn : nt < bnd DD) (hs : Fr nt ρ s) (hL : subL L (keys ρ) = true) (hl : allLt L nt = true) :
    ∃ s2, (∀ k, mkK (restr L ρ) (BL nt) k = k (skT DD s2)) ∧ (∀ i, i < nt → (sget DD s2 i).isSome = true) ∧ ∀ i ∈ L, ∃ v, sget DD s i = some v ∧ sget DD s2 i = some v := by
  obtain ⟨s0, e0, f0⟩ := BL_ok hn
  obtain ⟨s2, h1, h2, h3⟩ := mkK_ok ρ L s0 (allLt_mem hl) f0
  exact ⟨s2, fun k => by rw [e0]; exact h1 k, h2, fun i hi => ⟨look ρ i, hs.get i (subL_mem hL i hi), by rw [h3 i, if_pos hi]⟩⟩
theorem uses_op {o : Oper} {s2 : Sk} (hu : usesO ops o = L) (h : ∀ i ∈ L, ∃ v, sget DD s i = some v ∧ sget DD s2 i = some v) :
    (∀ x ∈ o.op.operands.toList, getOR (scott DD) G x (skT DD s) = getOR (scott DD) G x (skT DD s2)) ∧ ∀ d, gdst ops o = some d → (scott DD).gT (skT DD s) d = (scott DD).gT (skT DD s2) d := by
  subst hu
  constructor
  · intro x hx
    refine getOR_two fun i hi => h i ?_
    subst hi
    have := slotsO_mem hx
    unfold usesO
    cases gdst ops o
    · exact this
    · exact List.mem_cons_of_mem _ this
  · intro d hd
    have : d ∈ usesO ops o := by unfold usesO; rw [hd]; exact List.mem_cons_self ..
    obtain ⟨v, h1, h2⟩ := h d this
    exact scott_gT h1 h2
theorem slD_eq (call : CallS DD) (d : List DF) (tab : Tab) (t : TmS DD) (h : HS DD) (n : Nat) (k : KO DD) : slD P G ops o (.mk call d tab) t h n k =
    operCR (scott DD) P G false (unS call) ops o t d ⟨h, n, tab⟩ fun t d m => mM m fun tab h n => k (.mk call d tab) t h n := rfl
theorem zS_ok (hn : nt < bnd DD) (hs : Fr nt ρ s) (hu : usesO ops o = L) (hL : subL L (keys ρ) = true) (hl : allLt L nt = true) {i : Nat} (hd : o.dst = some i) (hi : i < nt)
    {K : OpF DD} {k : KO DD} {κ : V → SK} (hK : ∀ v c h n, K c (skT DD (sset DD s i v)) h n k = κ v c h n) (c : Cx DD) (h : HS DD) (n : Nat) :
    slD P G ops o c (skT DD s) h n (fun c t h n => K c t h n k) = zS nt (slD P G ops o) i (restr L ρ) κ c h n := by
  obtain ⟨s2, h1, h2, h3⟩ := mini hn hs hL hl
  obtain ⟨hx, hg⟩ := uses_op (G := G) hu h3
  unfold zS
  rw [h1]
  obtain ⟨call, d, tab⟩ := c
  rw [slD_eq, slD_eq]
  refine operCR_dep (scott DD) hx hg fun v => ⟨skT DD (sset DD s i (encV v)), skT DD (sset DD s2 i (encV v)), fun k => ?_, fun k => ?_, fun d m => ?_⟩
  · rw [hd]; exact sset_path DD i s _ (hs.full i hi) k
  · rw [hd]; exact sset_path DD i s2 _ (h2 i hi) k
  · have e : ∀ k : V → Res, (gT DD i).go (skT DD (sset DD s2 i (encV v))) k = k (encV v) := sget_path DD i _ _ (by rw [sget_sset DD i i s2 _ (h2 i hi), if_pos rfl])
    simp only [e, hK]
theorem zN_ok (hn : nt < bnd DD) (hs : Fr nt ρ s) (hu : usesO ops o = L) (hL : subL L (keys ρ) = true) (hl : allLt L nt = true) (hd : o.dst = none)
    {K : OpF DD} {k : KO DD} {κ : SK} (hK : ∀ c h n, K c (skT DD s) h n k = κ c h n) (c : Cx DD) (h : HS DD) (n : Nat) :
    slD P G ops o c (skT DD s) h n (fun c t h n => K c t h n k) = zN nt (slD P G ops o) (restr L ρ) κ c h n := by
  obtain ⟨s2, h1, h2, h3⟩ := mini hn hs hL hl
  obtain ⟨hx, hg⟩ := uses_op (G := G) hu h3
  unfold zN
  rw [h1]
  obtain ⟨call, d, tab⟩ := c
  rw [slD_eq, slD_eq]
  refine operCR_dep (scott DD) hx hg fun v => ⟨skT DD s, skT DD s2, fun k => ?_, fun k => ?_, fun d m => ?_⟩
  · rw [hd]; rfl
  · rw [hd]; rfl
  · simp only [hK]
def usesA (ops : Array Oper) (j : Nat) : List Nat := match ops[j]? with
  | some o => match o.dst with | some d => d :: usesO ops o | none => usesO ops o
  | none => []
theorem zA_ok (hn : nt < bnd DD) (hs : Fr nt ρ s) {j : Nat} (hu : usesA ops j = L) (hL : subL L (keys ρ) = true) (hl : allLt L nt = true) {κ : SK} (c : Cx DD) (h : HS DD) (n : Nat) :
    (slowA P G ops j).go c (skT DD s) h n (κ c h n) = zA nt (slowA P G ops j).go (restr L ρ) κ c h n := by
  obtain ⟨s2, h1, h2, h3⟩ := mini hn hs hL hl
  unfold zA
  rw [h1]
  obtain ⟨call, d, tab⟩ := c
  show bIf (againCR (scott DD) P G ops (skT DD s) ⟨h, n, tab⟩ j).val _ _ = bIf (againCR (scott DD) P G ops (skT DD s2) ⟨h, n, tab⟩ j).val _ _
  rw [againCR_dep (scott DD) (t2 := skT DD s2) fun o ho => ?_]
  subst hu
  unfold usesA at h3
  rw [ho] at h3
  dsimp only at h3
  have h4 : ∀ i ∈ usesO ops o, ∃ v, sget DD s i = some v ∧ sget DD s2 i = some v := by
    intro i hi
    cases hd : o.dst with
    | none => rw [hd] at h3; exact h3 i hi
    | some d => rw [hd] at h3; exact h3 i (List.mem_cons_of_mem _ hi)
  obtain ⟨hx, hg⟩ := uses_op (G := G) rfl h4
  refine ⟨hx, hg, fun d hd => ?_⟩
  rw [hd] at h3
  obtain ⟨v, q1, q2⟩ := h3 d (List.mem_cons_self ..)
  exact scott_gT q1 q2
end
end Go.Ev

namespace Go.Ev
/-! The lifted forms of the operations: upon values, not slots -/
noncomputable def tK (x : V) (y : V) (g : V) (r : V → SK) : SK := fun (c : Cx DD) (h : HS DD) (n : Nat) => x (r y c h n) (r g c h n) fI fS fS fL fA fO
theorem oK_T {X : GetV DD} {x : V} {Y : GetV DD} {y : V} {A : GetV DD} {g : V} {W : VK DD} {t : TmS DD} {K : OpF DD} {k : KO DD} {r : V → SK} {t' : V → TmS DD} (hW : ∀ c h n k', W c t h n k' = fun v => k' c (t' v) h n) (hK : ∀ v c h n, K c (t' v) h n k = r v c h n) (hX : X t = fun k => k x) (hY : Y t = fun k => k y) (hA : A t = fun k => k g) (c : Cx DD) (h : HS DD) (n : Nat) :
    oK X Y A W K c t h n k = tK x y g r c h n := by
  simp only [oK, tK, hW, hK, hX, hY, hA]
noncomputable def tNot (x : V) (r : V → SK) : SK := fun (c : Cx DD) (h : HS DD) (n : Nat) => x (r vFalse c h n) (r vTrue c h n) fI fS fS fL fA fO
theorem oNot_T {X : GetV DD} {x : V} {W : VK DD} {t : TmS DD} {K : OpF DD} {k : KO DD} {r : V → SK} {t' : V → TmS DD} (hW : ∀ c h n k', W c t h n k' = fun v => k' c (t' v) h n) (hK : ∀ v c h n, K c (t' v) h n k = r v c h n) (hX : X t = fun k => k x) (c : Cx DD) (h : HS DD) (n : Nat) :
    oNot X W K c t h n k = tNot x r c h n := by
  simp only [oNot, tNot, hW, hK, hX]
noncomputable def tL (x : V) (r : V → SK) : SK := fun (c : Cx DD) (h : HS DD) (n : Nat) => x .bad .bad fI fS ((fun (c : Cx DD) (h : HS DD) (n : Nat) (r : V → SK) (b i : Nat) => (gH DD b).go h ((fun (c : Cx DD) (h : HS DD) (n i : Nat) (r : V → SK) (bs : BS DD) => bs ((fun (c : Cx DD) (h : HS DD) (n i : Nat) (r : V → SK) (_ : Nat) (_ : Bool) (_ _ : Nat) (cs : TmS DD) => (gT DD i).go cs ((fun (c : Cx DD) (h : HS DD) (n : Nat) (r : V → SK) (v : V) => r v c h n) c h n r)) c h n i r) fC) c h n i r)) c h n r) fL fA fO
theorem oL_T {X : GetV DD} {x : V} {W : VK DD} {t : TmS DD} {K : OpF DD} {k : KO DD} {r : V → SK} {t' : V → TmS DD} (hW : ∀ c h n k', W c t h n k' = fun v => k' c (t' v) h n) (hK : ∀ v c h n, K c (t' v) h n k = r v c h n) (hX : X t = fun k => k x) (c : Cx DD) (h : HS DD) (n : Nat) :
    oL X W K c t h n k = tL x r c h n := by
  simp only [oL, tL, hW, hK, hX]
noncomputable def tLs (RL : TmS DD → Nat → (List CV → Res) → Res) (x : V) (r : V → SK) : SK := fun (c : Cx DD) (h : HS DD) (n : Nat) => x .bad .bad fI fS ((fun (c : Cx DD) (h : HS DD) (n : Nat) (RL : TmS DD → Nat → (List CV → Res) → Res) (r : V → SK) (b i : Nat) => (gH DD b).go h ((fun (c : Cx DD) (h : HS DD) (n i : Nat) (RL : TmS DD → Nat → (List CV → Res) → Res) (r : V → SK) (bs : BS DD) => bs ((fun (c : Cx DD) (h : HS DD) (n i : Nat) (RL : TmS DD → Nat → (List CV → Res) → Res) (r : V → SK) (_ : Nat) (_ : Bool) (_ _ : Nat) (cs : TmS DD) => RL cs i ((fun (c : Cx DD) (h : HS DD) (n : Nat) (r : V → SK) (cl : List CV) => r (vAgg cl) c h n) c h n r)) c h n i RL r) fC) c h n i RL r)) c h n RL r) fL fA fO
theorem oLs_T {RL : TmS DD → Nat → (List CV → Res) → Res} {X : GetV DD} {x : V} {W : VK DD} {t : TmS DD} {K : OpF DD} {k : KO DD} {r : V → SK} {t' : V → TmS DD} (hW : ∀ c h n k', W c t h n k' = fun v => k' c (t' v) h n) (hK : ∀ v c h n, K c (t' v) h n k = r v c h n) (hX : X t = fun k => k x) (c : Cx DD) (h : HS DD) (n : Nat) :
    oLs RL X W K c t h n k = tLs RL x r c h n := by
  simp only [oLs, tLs, hW, hK, hX]
noncomputable def tS (SU : SK → SK) (x : V) (y : V) (u : SK) : SK := fun (c : Cx DD) (h : HS DD) (n : Nat) => x .bad .bad fI fS ((fun (c : Cx DD) (h : HS DD) (n : Nat) (u : SK) (y : V) (SU : SK → SK) (b i : Nat) => oneS y ((gH DD b).go h ((fun (c : Cx DD) (h : HS DD) (n b i : Nat) (u : SK) (y : V) (bs : BS DD) => bs ((fun (c : Cx DD) (h : HS DD) (n b i : Nat) (u : SK) (y : V) (te : Nat) (lo : Bool) (es sz : Nat) (cs : TmS DD) => (pT DD i).go cs y ((fun (c : Cx DD) (h : HS DD) (n b te es sz : Nat) (lo : Bool) (u : SK) (q : TmS DD) => (pH DD b).go h (bCells DD te lo es sz q) ((fun (c : Cx DD) (n : Nat) (u : SK) (h : HS DD) => u c h n) c n u)) c h n b te es sz lo u)) c h n b i u y) fC) c h n b i u y)) (SU u c h n)) c h n u y SU) fL fA fO
theorem oS_T {X : GetV DD} {x : V} {Y : GetV DD} {y : V} {W : VK DD} {S : OpF DD} {SU : SK → SK} {t : TmS DD} {K : OpF DD} {k : KO DD} {r : V → SK} {t' : V → TmS DD} (hW : ∀ c h n k', W c t h n k' = fun v => k' c (t' v) h n) (hK : ∀ v c h n, K c (t' v) h n k = r v c h n) (hX : X t = fun k => k x) (hY : Y t = fun k => k y) (hS : ∀ c h n, S c t h n (fun c t h n => K c t h n k) = SU (r vUndef) c h n) (c : Cx DD) (h : HS DD) (n : Nat) :
    oS S X Y W K c t h n k = tS SU x y (r vUndef) c h n := by
  simp only [oS, tS, hW, hK, hX, hY, hS]
noncomputable def tSs (RS : List CV → TmS DD → Nat → (TmS DD → Res) → Res) (SU : SK → SK) (x : V) (y : V) (u : SK) : SK := fun (c : Cx DD) (h : HS DD) (n : Nat) => x .bad .bad fI fS ((fun (c : Cx DD) (h : HS DD) (n : Nat) (RS : List CV → TmS DD → Nat → (TmS DD → Res) → Res) (u : SK) (y : V) (SU : SK → SK) (b i : Nat) => ((fun (c : Cx DD) (h : HS DD) (n b i : Nat) (RS : List CV → TmS DD → Nat → (TmS DD → Res) → Res) (u : SK) (y : V) (s : Res) => y s s (fun _ _ => s) (fun _ _ => s) (fun _ _ => s) (fun _ _ _ _ => s) ((fun (c : Cx DD) (h : HS DD) (n b i : Nat) (RS : List CV → TmS DD → Nat → (TmS DD → Res) → Res) (u : SK) (cl : List CV) => (gH DD b).go h ((fun (c : Cx DD) (h : HS DD) (n b i : Nat) (cl : List CV) (RS : List CV → TmS DD → Nat → (TmS DD → Res) → Res) (u : SK) (bs : BS DD) => bs ((fun (c : Cx DD) (h : HS DD) (n b i : Nat) (cl : List CV) (RS : List CV → TmS DD → Nat → (TmS DD → Res) → Res) (u : SK) (te : Nat) (lo : Bool) (es sz : Nat) (cs : TmS DD) => RS cl cs i ((fun (c : Cx DD) (h : HS DD) (n b te es sz : Nat) (lo : Bool) (u : SK) (q : TmS DD) => (pH DD b).go h (bCells DD te lo es sz q) ((fun (c : Cx DD) (n : Nat) (u : SK) (h : HS DD) => u c h n) c n u)) c h n b te es sz lo u)) c h n b i cl RS u) fC) c h n b i cl RS u)) c h n b i RS u) (fun _ => s)) c h n b i RS u y) (SU u c h n)) c h n RS u y SU) fL fA fO
theorem oSs_T {RS : List CV → TmS DD → Nat → (TmS DD → Res) → Res} {X : GetV DD} {x : V} {Y : GetV DD} {y : V} {W : VK DD} {S : OpF DD} {SU : SK → SK} {t : TmS DD} {K : OpF DD} {k : KO DD} {r : V → SK} {t' : V → TmS DD} (hW : ∀ c h n k', W c t h n k' = fun v => k' c (t' v) h n) (hK : ∀ v c h n, K c (t' v) h n k = r v c h n) (hX : X t = fun k => k x) (hY : Y t = fun k => k y) (hS : ∀ c h n, S c t h n (fun c t h n => K c t h n k) = SU (r vUndef) c h n) (c : Cx DD) (h : HS DD) (n : Nat) :
    oSs RS S X Y W K c t h n k = tSs RS SU x y (r vUndef) c h n := by
  simp only [oSs, tSs, hW, hK, hX, hY, hS]
noncomputable def tB (F : NF) (SR : (V → SK) → SK) (x : V) (y : V) (r : V → SK) : SK := fun (c : Cx DD) (h : HS DD) (n : Nat) => ((fun (c : Cx DD) (h : HS DD) (n : Nat) (F : NF) (x : V) (r : V → SK) (y : V) (s : Res) => x s s ((fun (c : Cx DD) (h : HS DD) (n : Nat) (F : NF) (s : Res) (r : V → SK) (y : V) (kd : IntKind) (a : Nat) => y s s ((fun (c : Cx DD) (h : HS DD) (n a : Nat) (F : NF) (kd : IntKind) (s : Res) (r : V → SK) (kd1 : IntKind) (a1 : Nat) => bIf (Nat.beq (ikN kd) (ikN kd1)) (F kd a a1 ((fun (c : Cx DD) (h : HS DD) (n : Nat) (r : V → SK) (v : V) => r v c h n) c h n r) s) s) c h n a F kd s r) (fun _ _ => s) (fun _ _ => s) (fun _ _ _ _ => s) (fun _ => s) (fun _ => s)) c h n F s r y) (fun _ _ => s) (fun _ _ => s) (fun _ _ _ _ => s) (fun _ => s) (fun _ => s)) c h n F x r y) (SR r c h n)
theorem oB_T {F : NF} {X : GetV DD} {x : V} {Y : GetV DD} {y : V} {W : VK DD} {S : OpF DD} {SR : (V → SK) → SK} {t : TmS DD} {K : OpF DD} {k : KO DD} {r : V → SK} {t' : V → TmS DD} (hW : ∀ c h n k', W c t h n k' = fun v => k' c (t' v) h n) (hK : ∀ v c h n, K c (t' v) h n k = r v c h n) (hX : X t = fun k => k x) (hY : Y t = fun k => k y) (hS : ∀ c h n, S c t h n (fun c t h n => K c t h n k) = SR r c h n) (c : Cx DD) (h : HS DD) (n : Nat) :
    oB F S X Y W K c t h n k = tB F SR x y r c h n := by
  simp only [oB, tB, hW, hK, hX, hY, hS]
noncomputable def tT (F2 : SF) (SR : (V → SK) → SK) (x : V) (y : V) (r : V → SK) : SK := fun (c : Cx DD) (h : HS DD) (n : Nat) => ((fun (c : Cx DD) (h : HS DD) (n : Nat) (F2 : SF) (x : V) (r : V → SK) (y : V) (s : Res) => x s s (fun _ _ => s) ((fun (c : Cx DD) (h : HS DD) (n : Nat) (F2 : SF) (s : Res) (r : V → SK) (y : V) (l x1 : Nat) => y s s (fun _ _ => s) ((fun (c : Cx DD) (h : HS DD) (n l x1 : Nat) (F2 : SF) (s : Res) (r : V → SK) (l1 y1 : Nat) => F2 l x1 l1 y1 ((fun (c : Cx DD) (h : HS DD) (n : Nat) (r : V → SK) (v : V) => r v c h n) c h n r) s) c h n l x1 F2 s r) (fun _ _ => s) (fun _ _ _ _ => s) (fun _ => s) (fun _ => s)) c h n F2 s r y) (fun _ _ => s) (fun _ _ _ _ => s) (fun _ => s) (fun _ => s)) c h n F2 x r y) (SR r c h n)
theorem oT_T {F2 : SF} {X : GetV DD} {x : V} {Y : GetV DD} {y : V} {W : VK DD} {S : OpF DD} {SR : (V → SK) → SK} {t : TmS DD} {K : OpF DD} {k : KO DD} {r : V → SK} {t' : V → TmS DD} (hW : ∀ c h n k', W c t h n k' = fun v => k' c (t' v) h n) (hK : ∀ v c h n, K c (t' v) h n k = r v c h n) (hX : X t = fun k => k x) (hY : Y t = fun k => k y) (hS : ∀ c h n, S c t h n (fun c t h n => K c t h n k) = SR r c h n) (c : Cx DD) (h : HS DD) (n : Nat) :
    oT F2 S X Y W K c t h n k = tT F2 SR x y r c h n := by
  simp only [oT, tT, hW, hK, hX, hY, hS]
noncomputable def tP (SR : (V → SK) → SK) (x : V) (y : V) (same : V) (other : V) (r : V → SK) : SK := fun (c : Cx DD) (h : HS DD) (n : Nat) => ((fun (c : Cx DD) (h : HS DD) (n : Nat) (same other x : V) (r : V → SK) (y : V) (s : Res) => x s s (fun _ _ => s) (fun _ _ => s) (fun _ _ => y s s (fun _ _ => s) (fun _ _ => s) (fun _ _ => s) (fun _ _ _ _ => s) (fun _ => s) ((fun (c : Cx DD) (h : HS DD) (n : Nat) (s : Res) (other : V) (r : V → SK) (cv : CV) => nilB cv (r other c h n) s) c h n s other r)) (fun _ _ _ _ => s) (fun _ => s) ((fun (c : Cx DD) (h : HS DD) (n : Nat) (s : Res) (same other : V) (r : V → SK) (y : V) (cv : CV) => nilB cv (y s s (fun _ _ => s) (fun _ _ => s) (fun _ _ => r other c h n) (fun _ _ _ _ => s) (fun _ => s) ((fun (c : Cx DD) (h : HS DD) (n : Nat) (s : Res) (same : V) (r : V → SK) (cv : CV) => nilB cv (r same c h n) s) c h n s same r)) s) c h n s same other r y)) c h n same other x r y) (SR r c h n)
theorem oP_T {X : GetV DD} {x : V} {Y : GetV DD} {y : V} {W : VK DD} {S : OpF DD} {SR : (V → SK) → SK} {same other : V} {t : TmS DD} {K : OpF DD} {k : KO DD} {r : V → SK} {t' : V → TmS DD} (hW : ∀ c h n k', W c t h n k' = fun v => k' c (t' v) h n) (hK : ∀ v c h n, K c (t' v) h n k = r v c h n) (hX : X t = fun k => k x) (hY : Y t = fun k => k y) (hS : ∀ c h n, S c t h n (fun c t h n => K c t h n k) = SR r c h n) (c : Cx DD) (h : HS DD) (n : Nat) :
    oP S X Y W same other K c t h n k = tP SR x y same other r c h n := by
  simp only [oP, tP, hW, hK, hX, hY, hS]
noncomputable def tFa (x : V) (ov : Nat) (r : V → SK) : SK := fun (c : Cx DD) (h : HS DD) (n : Nat) => x .bad .bad fI fS ((fun (c : Cx DD) (h : HS DD) (n ov : Nat) (r : V → SK) (b i : Nat) => fN .bad (Nat.add i ov) ((fun (c : Cx DD) (h : HS DD) (n b : Nat) (r : V → SK) (i : Nat) => r (vPtr b i) c h n) c h n b r)) c h n ov r) fL fA fO
theorem oFa_T {X : GetV DD} {x : V} {W : VK DD} {ov : Nat} {t : TmS DD} {K : OpF DD} {k : KO DD} {r : V → SK} {t' : V → TmS DD} (hW : ∀ c h n k', W c t h n k' = fun v => k' c (t' v) h n) (hK : ∀ v c h n, K c (t' v) h n k = r v c h n) (hX : X t = fun k => k x) (c : Cx DD) (h : HS DD) (n : Nat) :
    oFa X ov W K c t h n k = tFa x ov r c h n := by
  simp only [oFa, tFa, hW, hK, hX]
noncomputable def tF (x : V) (ov : Nat) (r : V → SK) : SK := fun (c : Cx DD) (h : HS DD) (n : Nat) => x .bad .bad fI fS fS fL ((fun (c : Cx DD) (h : HS DD) (n ov : Nat) (r : V → SK) (cl : List CV) => nthK cl ov ((fun (c : Cx DD) (h : HS DD) (n : Nat) (r : V → SK) (cv : CV) => encK cv ((fun (c : Cx DD) (h : HS DD) (n : Nat) (r : V → SK) (v : V) => r v c h n) c h n r)) c h n r)) c h n ov r) fO
theorem oF_T {X : GetV DD} {x : V} {W : VK DD} {ov : Nat} {t : TmS DD} {K : OpF DD} {k : KO DD} {r : V → SK} {t' : V → TmS DD} (hW : ∀ c h n k', W c t h n k' = fun v => k' c (t' v) h n) (hK : ∀ v c h n, K c (t' v) h n k = r v c h n) (hX : X t = fun k => k x) (c : Cx DD) (h : HS DD) (n : Nat) :
    oF X ov W K c t h n k = tF x ov r c h n := by
  simp only [oF, tF, hW, hK, hX]
noncomputable def tX (x : V) (ov : Nat) (r : V → SK) : SK := fun (c : Cx DD) (h : HS DD) (n : Nat) => x .bad .bad fI fS fS fL fA ((fun (c : Cx DD) (h : HS DD) (n ov : Nat) (r : V → SK) (cv : CV) => tupL cv ((fun (c : Cx DD) (h : HS DD) (n ov : Nat) (r : V → SK) (cl : List CV) => nthK cl ov ((fun (c : Cx DD) (h : HS DD) (n : Nat) (r : V → SK) (cv : CV) => encK cv ((fun (c : Cx DD) (h : HS DD) (n : Nat) (r : V → SK) (v : V) => r v c h n) c h n r)) c h n r)) c h n ov r)) c h n ov r)
theorem oX_T {X : GetV DD} {x : V} {W : VK DD} {ov : Nat} {t : TmS DD} {K : OpF DD} {k : KO DD} {r : V → SK} {t' : V → TmS DD} (hW : ∀ c h n k', W c t h n k' = fun v => k' c (t' v) h n) (hK : ∀ v c h n, K c (t' v) h n k = r v c h n) (hX : X t = fun k => k x) (c : Cx DD) (h : HS DD) (n : Nat) :
    oX X ov W K c t h n k = tX x ov r c h n := by
  simp only [oX, tX, hW, hK, hX]
noncomputable def tI (SR : (V → SK) → SK) (x : V) (y : V) (r : V → SK) : SK := fun (c : Cx DD) (h : HS DD) (n : Nat) => ((fun (c : Cx DD) (h : HS DD) (n : Nat) (x : V) (r : V → SK) (y : V) (s : Res) => x s s (fun _ _ => s) ((fun (c : Cx DD) (h : HS DD) (n : Nat) (s : Res) (r : V → SK) (y : V) (l x1 : Nat) => y s s ((fun (c : Cx DD) (h : HS DD) (n l x1 : Nat) (r : V → SK) _ (i : Nat) => bIf (Nat.ble (Nat.succ i) l) (fN .bad (Nat.mod (Nat.div x1 (Nat.pow 256 (Nat.sub (Nat.sub l 1) i))) 256) ((fun (c : Cx DD) (h : HS DD) (n : Nat) (r : V → SK) (i : Nat) => r (vInt .u8 i) c h n) c h n r)) .bad) c h n l x1 r) (fun _ _ => s) (fun _ _ => s) (fun _ _ _ _ => s) (fun _ => s) (fun _ => s)) c h n s r y) (fun _ _ => s) (fun _ _ _ _ => s) (fun _ => s) (fun _ => s)) c h n x r y) (SR r c h n)
theorem oI_T {X : GetV DD} {x : V} {Y : GetV DD} {y : V} {W : VK DD} {S : OpF DD} {SR : (V → SK) → SK} {t : TmS DD} {K : OpF DD} {k : KO DD} {r : V → SK} {t' : V → TmS DD} (hW : ∀ c h n k', W c t h n k' = fun v => k' c (t' v) h n) (hK : ∀ v c h n, K c (t' v) h n k = r v c h n) (hX : X t = fun k => k x) (hY : Y t = fun k => k y) (hS : ∀ c h n, S c t h n (fun c t h n => K c t h n k) = SR r c h n) (c : Cx DD) (h : HS DD) (n : Nat) :
    oI S X Y W K c t h n k = tI SR x y r c h n := by
  simp only [oI, tI, hW, hK, hX, hY, hS]
noncomputable def tIa (SR : (V → SK) → SK) (x : V) (y : V) (sz : Nat) (r : V → SK) : SK := fun (c : Cx DD) (h : HS DD) (n : Nat) => ((fun (c : Cx DD) (h : HS DD) (n sz : Nat) (x : V) (r : V → SK) (y : V) (s : Res) => x s s (fun _ _ => s) (fun _ _ => s) (fun _ _ => s) ((fun (c : Cx DD) (h : HS DD) (n sz : Nat) (s : Res) (r : V → SK) (y : V) (b off l : Nat) _ => y s s ((fun (c : Cx DD) (h : HS DD) (n b l sz off : Nat) (r : V → SK) _ (i : Nat) => bIf (Nat.ble (Nat.succ i) l) (fN .bad (Nat.add off (Nat.mul i sz)) ((fun (c : Cx DD) (h : HS DD) (n b : Nat) (r : V → SK) (i : Nat) => r (vPtr b i) c h n) c h n b r)) .bad) c h n b l sz off r) (fun _ _ => s) (fun _ _ => s) (fun _ _ _ _ => s) (fun _ => s) (fun _ => s)) c h n sz s r y) (fun _ => s) (fun _ => s)) c h n sz x r y) (SR r c h n)
theorem oIa_T {X : GetV DD} {x : V} {Y : GetV DD} {y : V} {W : VK DD} {S : OpF DD} {SR : (V → SK) → SK} {sz : Nat} {t : TmS DD} {K : OpF DD} {k : KO DD} {r : V → SK} {t' : V → TmS DD} (hW : ∀ c h n k', W c t h n k' = fun v => k' c (t' v) h n) (hK : ∀ v c h n, K c (t' v) h n k = r v c h n) (hX : X t = fun k => k x) (hY : Y t = fun k => k y) (hS : ∀ c h n, S c t h n (fun c t h n => K c t h n k) = SR r c h n) (c : Cx DD) (h : HS DD) (n : Nat) :
    oIa S X Y sz W K c t h n k = tIa SR x y sz r c h n := by
  simp only [oIa, tIa, hW, hK, hX, hY, hS]
noncomputable def tLt (SR : (V → SK) → SK) (x : V) (r : V → SK) : SK := fun (c : Cx DD) (h : HS DD) (n : Nat) => ((fun (c : Cx DD) (h : HS DD) (n : Nat) (x : V) (r : V → SK) (s : Res) => x s s (fun _ _ => s) ((fun (c : Cx DD) (h : HS DD) (n : Nat) (r : V → SK) (l : Nat) _ => r (vInt .i64 l) c h n) c h n r) (fun _ _ => s) (fun _ _ _ _ => s) (fun _ => s) (fun _ => s)) c h n x r) (SR r c h n)
theorem oLt_T {X : GetV DD} {x : V} {W : VK DD} {S : OpF DD} {SR : (V → SK) → SK} {t : TmS DD} {K : OpF DD} {k : KO DD} {r : V → SK} {t' : V → TmS DD} (hW : ∀ c h n k', W c t h n k' = fun v => k' c (t' v) h n) (hK : ∀ v c h n, K c (t' v) h n k = r v c h n) (hX : X t = fun k => k x) (hS : ∀ c h n, S c t h n (fun c t h n => K c t h n k) = SR r c h n) (c : Cx DD) (h : HS DD) (n : Nat) :
    oLt S X W K c t h n k = tLt SR x r c h n := by
  simp only [oLt, tLt, hW, hK, hX, hS]
noncomputable def tLl (SR : (V → SK) → SK) (x : V) (r : V → SK) : SK := fun (c : Cx DD) (h : HS DD) (n : Nat) => ((fun (c : Cx DD) (h : HS DD) (n : Nat) (x : V) (r : V → SK) (s : Res) => x s s (fun _ _ => s) (fun _ _ => s) (fun _ _ => s) ((fun (c : Cx DD) (h : HS DD) (n : Nat) (r : V → SK) _ _ (l : Nat) _ => r (vInt .i64 l) c h n) c h n r) (fun _ => s) ((fun (c : Cx DD) (h : HS DD) (n : Nat) (s : Res) (r : V → SK) (cv : CV) => sl0B cv (r (vInt .i64 0) c h n) s) c h n s r)) c h n x r) (SR r c h n)
theorem oLl_T {X : GetV DD} {x : V} {W : VK DD} {S : OpF DD} {SR : (V → SK) → SK} {t : TmS DD} {K : OpF DD} {k : KO DD} {r : V → SK} {t' : V → TmS DD} (hW : ∀ c h n k', W c t h n k' = fun v => k' c (t' v) h n) (hK : ∀ v c h n, K c (t' v) h n k = r v c h n) (hX : X t = fun k => k x) (hS : ∀ c h n, S c t h n (fun c t h n => K c t h n k) = SR r c h n) (c : Cx DD) (h : HS DD) (n : Nat) :
    oLl S X W K c t h n k = tLl SR x r c h n := by
  simp only [oLl, tLl, hW, hK, hX, hS]
noncomputable def tCn (SR : (V → SK) → SK) (x : V) (kd : IntKind) (r : V → SK) : SK := fun (c : Cx DD) (h : HS DD) (n : Nat) => ((fun (c : Cx DD) (h : HS DD) (n : Nat) (kd : IntKind) (x : V) (r : V → SK) (s : Res) => x s s (fun _ a1 => bIf (Nat.ble a1 (maxN kd)) (r (vInt kd a1) c h n) s) (fun _ _ => s) (fun _ _ => s) (fun _ _ _ _ => s) (fun _ => s) (fun _ => s)) c h n kd x r) (SR r c h n)
theorem oCn_T {X : GetV DD} {x : V} {W : VK DD} {S : OpF DD} {SR : (V → SK) → SK} {kd : IntKind} {t : TmS DD} {K : OpF DD} {k : KO DD} {r : V → SK} {t' : V → TmS DD} (hW : ∀ c h n k', W c t h n k' = fun v => k' c (t' v) h n) (hK : ∀ v c h n, K c (t' v) h n k = r v c h n) (hX : X t = fun k => k x) (hS : ∀ c h n, S c t h n (fun c t h n => K c t h n k) = SR r c h n) (c : Cx DD) (h : HS DD) (n : Nat) :
    oCn S X kd W K c t h n k = tCn SR x kd r c h n := by
  simp only [oCn, tCn, hW, hK, hX, hS]
noncomputable def tCt (SR : (V → SK) → SK) (x : V) (r : V → SK) : SK := fun (c : Cx DD) (h : HS DD) (n : Nat) => ((fun (c : Cx DD) (h : HS DD) (n : Nat) (x : V) (r : V → SK) (s : Res) => x s s (fun _ _ => s) ((fun (c : Cx DD) (h : HS DD) (n : Nat) (r : V → SK) (l x1 : Nat) => r (vStr l x1) c h n) c h n r) (fun _ _ => s) (fun _ _ _ _ => s) (fun _ => s) (fun _ => s)) c h n x r) (SR r c h n)
theorem oCt_T {X : GetV DD} {x : V} {W : VK DD} {S : OpF DD} {SR : (V → SK) → SK} {t : TmS DD} {K : OpF DD} {k : KO DD} {r : V → SK} {t' : V → TmS DD} (hW : ∀ c h n k', W c t h n k' = fun v => k' c (t' v) h n) (hK : ∀ v c h n, K c (t' v) h n k = r v c h n) (hX : X t = fun k => k x) (hS : ∀ c h n, S c t h n (fun c t h n => K c t h n k) = SR r c h n) (c : Cx DD) (h : HS DD) (n : Nat) :
    oCt S X W K c t h n k = tCt SR x r c h n := by
  simp only [oCt, tCt, hW, hK, hX, hS]
noncomputable def tIf (x : V) (ov : Nat) (r : V → SK) : SK := fun (c : Cx DD) (h : HS DD) (n : Nat) => decV x ((fun (c : Cx DD) (h : HS DD) (n ov : Nat) (r : V → SK) (cv : CV) => r (vOth (.ifc ov cv)) c h n) c h n ov r)
theorem oIf_T {X : GetV DD} {x : V} {W : VK DD} {ov : Nat} {t : TmS DD} {K : OpF DD} {k : KO DD} {r : V → SK} {t' : V → TmS DD} (hW : ∀ c h n k', W c t h n k' = fun v => k' c (t' v) h n) (hK : ∀ v c h n, K c (t' v) h n k = r v c h n) (hX : X t = fun k => k x) (c : Cx DD) (h : HS DD) (n : Nat) :
    oIf X ov W K c t h n k = tIf x ov r c h n := by
  simp only [oIf, tIf, hW, hK, hX]
noncomputable def tN (SR : (V → SK) → SK) (x : V) (r : V → SK) : SK := fun (c : Cx DD) (h : HS DD) (n : Nat) => ((fun (c : Cx DD) (h : HS DD) (n : Nat) (x : V) (r : V → SK) (s : Res) => x s s (fun _ _ => s) (fun _ _ => s) ((fun (c : Cx DD) (h : HS DD) (n : Nat) (r : V → SK) (b i : Nat) => r (vPtr b i) c h n) c h n r) (fun _ _ _ _ => s) (fun _ => s) (fun _ => s)) c h n x r) (SR r c h n)
theorem oN_T {X : GetV DD} {x : V} {W : VK DD} {S : OpF DD} {SR : (V → SK) → SK} {t : TmS DD} {K : OpF DD} {k : KO DD} {r : V → SK} {t' : V → TmS DD} (hW : ∀ c h n k', W c t h n k' = fun v => k' c (t' v) h n) (hK : ∀ v c h n, K c (t' v) h n k = r v c h n) (hX : X t = fun k => k x) (hS : ∀ c h n, S c t h n (fun c t h n => K c t h n k) = SR r c h n) (c : Cx DD) (h : HS DD) (n : Nat) :
    oN S X W K c t h n k = tN SR x r c h n := by
  simp only [oN, tN, hW, hK, hX, hS]
noncomputable def tC (vs : List V) (f : Nat) (r : V → SK) : SK := fun (c : Cx DD) (h : HS DD) (n : Nat) => Cx.rec (motive := fun _ => List V → HS DD → Nat → Nat → (V → SK) → Res) (fun (call : CallS DD) (d : List DF) (tab : Tab) (vs : List V) (h : HS DD) (n : Nat) (f : Nat) (r : V → SK) => call (.func f) vs tab h n ((fun (call : CallS DD) (d : List DF) (r : V → SK) (v : V) (tab : Tab) (h : HS DD) (n : Nat) => r v (.mk call d tab) h n) call d r)) c vs h n f r
theorem oC_T {XS : TmS DD → (List V → Res) → Res} {vs : List V} {f : Nat} {W : VK DD} {t : TmS DD} {K : OpF DD} {k : KO DD} {r : V → SK} {t' : V → TmS DD} (hW : ∀ c h n k', W c t h n k' = fun v => k' c (t' v) h n) (hK : ∀ v c h n, K c (t' v) h n k = r v c h n) (hX : XS t = fun k => k vs) (c : Cx DD) (h : HS DD) (n : Nat) :
    oC XS f W K c t h n k = tC vs f r c h n := by
  obtain ⟨call, d, tab⟩ := c
  simp only [oC, tC, hX, hW, hK]
noncomputable def tA (LR : (List CV → Res) → Res → Res) (SR : (V → SK) → SK) (r : V → SK) : SK := fun (c : Cx DD) (h : HS DD) (n : Nat) => LR ((fun (c : Cx DD) (h : HS DD) (n : Nat) (r : V → SK) (cl : List CV) => r (vAgg cl) c h n) c h n r) (SR r c h n)
theorem oA_T {LF : ListF DD} {LR : (List CV → Res) → Res → Res} {W : VK DD} {S : OpF DD} {SR : (V → SK) → SK} {t : TmS DD} {K : OpF DD} {k : KO DD} {r : V → SK} {t' : V → TmS DD} (hW : ∀ c h n k', W c t h n k' = fun v => k' c (t' v) h n) (hK : ∀ v c h n, K c (t' v) h n k = r v c h n) (hL : LF t = LR) (hS : ∀ c h n, S c t h n (fun c t h n => K c t h n k) = SR r c h n) (c : Cx DD) (h : HS DD) (n : Nat) :
    oA LF S W K c t h n k = tA LR SR r c h n := by
  simp only [oA, tA, hW, hK, hL, hS]
noncomputable def tAl (te : Nat) (sz : Nat) (T : TmS DD) (r : V → SK) : SK := fun (c : Cx DD) (h : HS DD) (n : Nat) => (iH DD n).go h (bCells DD te false 0 sz T) ((fun (c : Cx DD) (n : Nat) (r : V → SK) (h : HS DD) => fN .bad (Nat.succ n) ((fun (c : Cx DD) (h : HS DD) (n : Nat) (r : V → SK) (m : Nat) => r (vPtr n 0) c h m) c h n r)) c n r)
theorem oAl_T {te sz : Nat} {T : TmS DD} {W : VK DD} {t : TmS DD} {K : OpF DD} {k : KO DD} {r : V → SK} {t' : V → TmS DD} (hW : ∀ c h n k', W c t h n k' = fun v => k' c (t' v) h n) (hK : ∀ v c h n, K c (t' v) h n k = r v c h n)  (c : Cx DD) (h : HS DD) (n : Nat) :
    oAl te sz T W K c t h n k = tAl te sz T r c h n := by
  simp only [oAl, tAl, hW, hK]
noncomputable def tBx (x : V) (r : V → SK) : SK := fun (c : Cx DD) (h : HS DD) (n : Nat) => oneS x ((iT DD 0).go (nilS DD) x ((fun (c : Cx DD) (h : HS DD) (n : Nat) (r : V → SK) (cs : TmS DD) => newCS 0 false 0 1 cs h n ((fun (c : Cx DD) (n : Nat) (r : V → SK) (h : HS DD) (m : Nat) => r (vPtr n 0) c h m) c n r)) c h n r)) (decV x ((fun (c : Cx DD) (h : HS DD) (n : Nat) (r : V → SK) (cv : CV) => forceNR (cellsOfCV cv).length ((fun (c : Cx DD) (h : HS DD) (n : Nat) (cv : CV) (r : V → SK) (l : Nat) => newKS 0 false 0 l (cellsOfCV cv) h n ((fun (c : Cx DD) (n : Nat) (r : V → SK) (h : HS DD) (m : Nat) => r (vPtr n 0) c h m) c n r)) c h n cv r)) c h n r))
theorem oBx_T {X : GetV DD} {x : V} {W : VK DD} {t : TmS DD} {K : OpF DD} {k : KO DD} {r : V → SK} {t' : V → TmS DD} (hW : ∀ c h n k', W c t h n k' = fun v => k' c (t' v) h n) (hK : ∀ v c h n, K c (t' v) h n k = r v c h n) (hX : X t = fun k => k x) (c : Cx DD) (h : HS DD) (n : Nat) :
    oBx X W K c t h n k = tBx x r c h n := by
  simp only [oBx, tBx, hW, hK, hX]
noncomputable def tR (XR : (List CV → Res) → Res) (sz : Nat) (len : Nat) (tot : Nat) (r : V → SK) : SK := fun (c : Cx DD) (h : HS DD) (n : Nat) => XR ((fun (c : Cx DD) (h : HS DD) (n sz len tot : Nat) (r : V → SK) (cl : List CV) => flatK sz cl ((fun (c : Cx DD) (h : HS DD) (n len tot : Nat) (r : V → SK) (cl : List CV) => newKS 0 false 0 tot cl h n ((fun (c : Cx DD) (n len : Nat) (r : V → SK) (h : HS DD) (m : Nat) => r (vSl n 0 len len) c h m) c n len r)) c h n len tot r)) c h n sz len tot r)
theorem oR_T {XC : TmS DD → (List CV → Res) → Res} {XR : (List CV → Res) → Res} {sz len tot : Nat} {W : VK DD} {t : TmS DD} {K : OpF DD} {k : KO DD} {r : V → SK} {t' : V → TmS DD} (hW : ∀ c h n k', W c t h n k' = fun v => k' c (t' v) h n) (hK : ∀ v c h n, K c (t' v) h n k = r v c h n) (hX : XC t = XR) (c : Cx DD) (h : HS DD) (n : Nat) :
    oR XC sz len tot W K c t h n k = tR XR sz len tot r c h n := by
  simp only [oR, tR, hW, hK, hX]
noncomputable def tAp (P : Program) (et : Nat) (str : Bool) (sz : Nat) (x : V) (y : V) (r : V → SK) : SK := fun (c : Cx DD) (h : HS DD) (n : Nat) => decV x ((fun (c : Cx DD) (h : HS DD) (n sz : Nat) (str : Bool) (P : Program) (et : Nat) (r : V → SK) (y : V) (cv : CV) => decV y ((fun (c : Cx DD) (h : HS DD) (n sz : Nat) (str : Bool) (cv : CV) (P : Program) (et : Nat) (r : V → SK) (xc : CV) => appendS P et str sz cv xc h n ((fun (c : Cx DD) (r : V → SK) (v : V) (h : HS DD) (n : Nat) => r v c h n) c r)) c h n sz str cv P et r)) c h n sz str P et r y)
theorem oAp_T {P : Program} {et : Nat} {str : Bool} {sz : Nat} {X : GetV DD} {x : V} {Y : GetV DD} {y : V} {W : VK DD} {t : TmS DD} {K : OpF DD} {k : KO DD} {r : V → SK} {t' : V → TmS DD} (hW : ∀ c h n k', W c t h n k' = fun v => k' c (t' v) h n) (hK : ∀ v c h n, K c (t' v) h n k = r v c h n) (hX : X t = fun k => k x) (hY : Y t = fun k => k y) (c : Cx DD) (h : HS DD) (n : Nat) :
    oAp P et str sz X Y W K c t h n k = tAp P et str sz x y r c h n := by
  simp only [oAp, tAp, hW, hK, hX, hY]
noncomputable def tG1 (r : V → SK) (g : V) (SR : (V → SK) → SK) : SK := fun (c : Cx DD) (h : HS DD) (n : Nat) => g (SR r c h n) (r vUndef c h n) fI fS fS fL fA ((fun (c : Cx DD) (h : HS DD) (n : Nat) (r : V → SK) (cv : CV) => undB cv (r vUndef c h n)) c h n r)
theorem oG1_T {X : GetV DD} {x : V} {W : VK DD} {O : OpF DD} {SR : (V → SK) → SK} {t : TmS DD} {K : OpF DD} {k : KO DD} {r : V → SK} {t' : V → TmS DD} (hW : ∀ c h n k', W c t h n k' = fun v => k' c (t' v) h n) (hK : ∀ v c h n, K c (t' v) h n k = r v c h n) (hX : X t = fun k => k x) (hO : ∀ c h n, O c t h n (fun c t h n => K c t h n k) = SR r c h n) (c : Cx DD) (h : HS DD) (n : Nat) :
    oG1 X W O K c t h n k = tG1 r x SR c h n := by
  simp only [oG1, tG1, hW, hK, hX, hO]
noncomputable def tG0 (r : V → SK) (g : V) (SR : (V → SK) → SK) : SK := fun (c : Cx DD) (h : HS DD) (n : Nat) => g (r vUndef c h n) (SR r c h n) fI fS fS fL fA ((fun (c : Cx DD) (h : HS DD) (n : Nat) (r : V → SK) (cv : CV) => undB cv (r vUndef c h n)) c h n r)
theorem oG0_T {X : GetV DD} {x : V} {W : VK DD} {O : OpF DD} {SR : (V → SK) → SK} {t : TmS DD} {K : OpF DD} {k : KO DD} {r : V → SK} {t' : V → TmS DD} (hW : ∀ c h n k', W c t h n k' = fun v => k' c (t' v) h n) (hK : ∀ v c h n, K c (t' v) h n k = r v c h n) (hX : X t = fun k => k x) (hO : ∀ c h n, O c t h n (fun c t h n => K c t h n k) = SR r c h n) (c : Cx DD) (h : HS DD) (n : Nat) :
    oG0 X W O K c t h n k = tG0 r x SR c h n := by
  simp only [oG0, tG0, hW, hK, hX, hO]
noncomputable def tQ (v : V) (x : V) (u : SK) : SK := fun (c : Cx DD) (h : HS DD) (n : Nat) => x .bad .bad fI fS ((fun (c : Cx DD) (h : HS DD) (n : Nat) (v : V) (u : SK) (b i : Nat) => (gH DD b).go h ((fun (c : Cx DD) (h : HS DD) (n i : Nat) (v : V) (u : SK) (bs : BS DD) => bs ((fun (c : Cx DD) (h : HS DD) (n i : Nat) (v : V) (u : SK) (_ : Nat) (_ : Bool) (_ _ : Nat) (cs : TmS DD) => (gT DD i).go cs ((fun (c : Cx DD) (h : HS DD) (n : Nat) (v : V) (u : SK) (w : V) => eqV v w (u c h n)) c h n v u)) c h n i v u) fC) c h n i v u)) c h n v u) fL fA fO
theorem oQ_T {Y X : GetV DD} {y x : V} {t : TmS DD} {K : OpF DD} {k : KO DD} {u : SK} (hY : Y t = fun k => k y) (hX : X t = fun k => k x) (hK : ∀ c h n, K c t h n k = u c h n) (c : Cx DD) (h : HS DD) (n : Nat) : oQ Y X K c t h n k = tQ y x u c h n := by
  simp only [oQ, tQ, hX, hY, hK]
noncomputable def xcN : (List CV → Res) → Res → Res := fun k _ => k []
noncomputable def xcO (x : V) (R : (List CV → Res) → Res → Res) : (List CV → Res) → Res → Res := fun k s => oneS x (decV x ((fun (R : (List CV → Res) → Res → Res) (k : List CV → Res) (s : Res) (c : CV) => R ((fun (k : List CV → Res) (c : CV) (l : List CV) => k (c :: l)) k c) s) R k s)) s
noncomputable def xcC (c : CV) (R : (List CV → Res) → Res → Res) : (List CV → Res) → Res → Res := fun k s => R ((fun (c : CV) (k : List CV → Res) (l : List CV) => k (c :: l)) c k) s
noncomputable def rwN : (List CV → Res) → Res := fun k => k []
noncomputable def rwC (x : V) (R : (List CV → Res) → Res) : (List CV → Res) → Res := fun k => decV x ((fun (R : (List CV → Res) → Res) (k : List CV → Res) (c : CV) => R ((fun (k : List CV → Res) (c : CV) (cs : List CV) => k (c :: cs)) k c)) R k)
end Go.Ev

namespace Go.Ev
/-! Operations upon environments -/
noncomputable def cV (c : CV) : V := match c with
  | .bool b => match b with | true => vTrue | false => vFalse
  | .int kd a => match a with
    | .ofNat m => vInt kd m
    | .negSucc m => vOth (.int kd (.negSucc m))
  | .str l x => vStr l x
  | c => encV c
noncomputable def valX (ρ : LE) (x : XI) : V := match x with
  | .t i => look ρ i
  | .c c => cV c
  | .g g => vPtr g 0
  | .f f => vOth (.fn (.func f) [] [])
  | .bad => vUndef
noncomputable def okX (A : List Nat) (x : XI) : Bool := match x with
  | .t i => memN i A
  | .bad => false
  | _ => true
section
variable {nt : Nat} {ρ : LE} {s : Sk}
theorem valX_ok (hs : Fr nt ρ s) {x : XI} (h : okX (keys ρ) x = true) : getXD x (skT DD s) = fun k => k (valX ρ x) := by
  cases x with
  | t i => exact hs.gT h
  | g g => rfl
  | f f => rfl
  | bad => cases h
  | c c =>
    cases c <;> try rfl
    · rename_i b; cases b <;> rfl
    · rename_i kd a; cases a <;> rfl
noncomputable def argsT (ρ : LE) (xs : List XI) : List V := List.rec (motive := fun _ => List V) [] (fun x _ ih => valX ρ x :: ih) xs
noncomputable def okXs (A : List Nat) (xs : List XI) : Bool := List.rec (motive := fun _ => Bool) true (fun x _ ih => Bool.rec (motive := fun _ => Bool) false ih (okX A x)) xs
theorem okXs_cons {A : List Nat} {x : XI} {xs : List XI} (h : okXs A (x :: xs) = true) : okX A x = true ∧ okXs A xs = true := by
  have e : okXs A (x :: xs) = Bool.rec (motive := fun _ => Bool) false (okXs A xs) (okX A x) := rfl
  rw [e] at h
  cases hx : okX A x with
  | false => rw [hx] at h; cases h
  | true => rw [hx] at h; exact ⟨rfl, h⟩
theorem argsT_ok (hs : Fr nt ρ s) : ∀ {xs : List XI}, okXs (keys ρ) xs = true → getsXD xs (skT DD s) = fun k => k (argsT ρ xs) := by
  intro xs
  induction xs with
  | nil => intro _; rfl
  | cons x xs ih =>
    intro h
    obtain ⟨h1, h2⟩ := okXs_cons h
    funext k
    show getXD x (skT DD s) _ = _
    rw [valX_ok hs h1]
    show getsXD xs (skT DD s) _ = _
    rw [ih h2]
    rfl
noncomputable def rowT (ρ : LE) (xs : List XI) : (List CV → Res) → Res := List.rec (motive := fun _ => (List CV → Res) → Res) rwN (fun x _ ih => rwC (valX ρ x) ih) xs
theorem rowT_ok (hs : Fr nt ρ s) : ∀ {xs : List XI}, okXs (keys ρ) xs = true → getCsD xs (skT DD s) = rowT ρ xs := by
  intro xs
  induction xs with
  | nil => intro _; rfl
  | cons x xs ih =>
    intro h
    obtain ⟨h1, h2⟩ := okXs_cons h
    funext k
    show getXD x (skT DD s) _ = _
    rw [valX_ok hs h1]
    have e : rowT ρ (x :: xs) k = decV (valX ρ x) fun c => rowT ρ xs fun cs => k (c :: cs) := rfl
    rw [e, ← ih h2]
    rfl
noncomputable def srcT (ρ : LE) (l : List SrcI) : (List CV → Res) → Res → Res := List.rec (motive := fun _ => (List CV → Res) → Res → Res) xcN (fun x _ ih => SrcI.rec (motive := fun _ => ((List CV → Res) → Res → Res) → (List CV → Res) → Res → Res) (fun x ih => xcO (valX ρ x) ih) (fun c ih => xcC c ih) x ih) l
noncomputable def okSrc (A : List Nat) (l : List SrcI) : Bool := List.rec (motive := fun _ => Bool) true (fun x _ ih => SrcI.rec (motive := fun _ => Bool) (fun x => Bool.rec (motive := fun _ => Bool) false ih (okX A x)) (fun _ => ih) x) l
theorem srcT_ok (hs : Fr nt ρ s) : ∀ {l : List SrcI}, okSrc (keys ρ) l = true → srcsD l (skT DD s) = srcT ρ l := by
  intro l
  induction l with
  | nil => intro _; rfl
  | cons x l ih =>
    intro h
    cases x with
    | x x =>
      have e : okSrc (keys ρ) (.x x :: l) = Bool.rec (motive := fun _ => Bool) false (okSrc (keys ρ) l) (okX (keys ρ) x) := rfl
      rw [e] at h
      cases hx : okX (keys ρ) x with
      | false => rw [hx] at h; cases h
      | true =>
        rw [hx] at h
        funext k s'
        show getXD x (skT DD s) _ = _
        rw [valX_ok hs hx]
        have e2 : srcT ρ (.x x :: l) k s' = oneS (valX ρ x) (decV (valX ρ x) fun c => srcT ρ l (fun l => k (c :: l)) s') s' := rfl
        rw [e2, ← ih h]
        rfl
    | v c =>
      have h' : okSrc (keys ρ) l = true := h
      funext k s'
      have e2 : srcT ρ (.v c :: l) k s' = srcT ρ l (fun l => k (c :: l)) s' := rfl
      rw [e2, ← ih h']
      rfl
end
noncomputable def upd (d : Option Nat) (v : V) (ρ : LE) : LE := match d with | some i => (i, v) :: ρ | none => ρ
noncomputable def updA (d : Option Nat) (A : List Nat) : List Nat := match d with | some i => i :: A | none => A
theorem keys_upd (d : Option Nat) (v : V) (ρ : LE) : keys (upd d v ρ) = updA d (keys ρ) := by cases d <;> rfl
noncomputable def okW (nt : Nat) (d : Option Nat) : Bool := match d with | some i => Nat.ble (Nat.succ i) nt | none => true
noncomputable def setD (s : Sk) (d : Option Nat) (v : V) : Sk := match d with | some i => sset DD s i v | none => s
theorem Fr.setD {nt : Nat} {ρ : LE} {s : Sk} (h : Fr nt ρ s) {d : Option Nat} (hd : okW nt d = true) (v : V) : Fr nt (upd d v ρ) (setD s d v) := by
  cases d with
  | none => exact h
  | some i => exact h.set (Nat.le_of_ble_eq_true hd) v
theorem putWD_ok {nt : Nat} {ρ : LE} {s : Sk} (h : Fr nt ρ s) {d : Option Nat} (hd : okW nt d = true) (c : Cx DD) (h' : HS DD) (n : Nat) (k : KO DD) : putWD d c (skT DD s) h' n k = fun v => k c (skT DD (setD s d v)) h' n := by
  funext v
  cases d with
  | none => rfl
  | some i => exact h.pT (Nat.le_of_ble_eq_true hd) v _
/-- what runs upon frames, and what runs upon environments, are the same -/
def Sim (nt : Nat) (ρ : LE) (f : Cx DD → TmS DD → HS DD → Nat → Res) (g : SK) : Prop := ∀ s, Fr nt ρ s → ∀ c h n, f c (skT DD s) h n = g c h n
noncomputable def slT (nt : Nat) (S : OpF DD) (d : Option Nat) (L : List Nat) (ρ : LE) : (V → SK) → SK := match d with
  | some i => zS nt S i (restr L ρ)
  | none => fun r => zN nt S (restr L ρ) (r vUndef)
noncomputable def andB (a b : Bool) : Bool := Bool.rec (motive := fun _ => Bool) false b a
theorem andB_true {a b : Bool} (h : andB a b = true) : a = true ∧ b = true := by cases a <;> cases b <;> first | exact ⟨rfl, rfl⟩ | cases h
noncomputable def okL (A : List Nat) (nt : Nat) (L : List Nat) : Bool := andB (subL L A) (allLt L nt)
section
variable {P : Program} {G : Nat → Bool} {nt : Nat} {ρ : LE} {ops : Array Oper} {o : Oper}
theorem slT_ok (hn : nt < bnd DD) (hL : okL (keys ρ) nt (usesO ops o) = true) (hd : okW nt o.dst = true) {K : OpF DD} {k : KO DD} {r : V → SK} (hK : ∀ v, Sim nt (upd o.dst v ρ) (fun c t h n => K c t h n k) (r v)) :
    Sim nt ρ (fun c t h n => slD P G ops o c t h n fun c t h n => K c t h n k) (slT nt (slD P G ops o) o.dst (usesO ops o) ρ r) := by
  intro s hs c h n
  obtain ⟨h1, h2⟩ := andB_true hL
  cases ho : o.dst with
  | none => rw [ho] at hK; exact zN_ok hn hs rfl h1 h2 ho (fun c h n => hK vUndef s hs c h n) c h n
  | some i =>
    rw [ho] at hK hd
    have hi : i < nt := Nat.le_of_ble_eq_true hd
    exact zS_ok hn hs rfl h1 h2 ho hi (fun v c h n => hK v _ (hs.set hi v) c h n) c h n
end
noncomputable def tO (P : Program) (nt : Nat) (S : OpF DD) (L : List Nat) (d : Option Nat) (s : SI) (ρ : LE) (r : V → SK) : SK := match s with
  | .slow => slT nt S d L ρ r
  | .val x => r (valX ρ x)
  | .pick c a b => tK (valX ρ c) (valX ρ a) (valX ρ b) r
  | .alloc te l z => tAl te l (ofListB DD z).go r
  | .loads x sz => tLs (ldD sz) (valX ρ x) r
  | .load x => tL (valX ρ x) r
  | .nilc x => tN (slT nt S d L ρ) (valX ρ x) r
  | .binN o x y => match natOp o with | some F => tB F.go (slT nt S d L ρ) (valX ρ x) (valX ρ y) r | none => slT nt S d L ρ r
  | .binT o x y => match strOpS o with | some F => tT F.go (slT nt S d L ρ) (valX ρ x) (valX ρ y) r | none => slT nt S d L ρ r
  | .binP ne x y => match ne with | false => tP (slT nt S d L ρ) (valX ρ x) (valX ρ y) vTrue vFalse r | true => tP (slT nt S d L ρ) (valX ρ x) (valX ρ y) vFalse vTrue r
  | .not x => tNot (valX ρ x) r
  | .convN x kd => tCn (slT nt S d L ρ) (valX ρ x) kd r
  | .convT x => tCt (slT nt S d L ρ) (valX ρ x) r
  | .box x => tBx (valX ρ x) r
  | .rows xs sz len tot => tR (rowT ρ xs) sz len tot r
  | .agg l => tA (srcT ρ l) (slT nt S d L ρ) r
  | .ifc x ty => tIf (valX ρ x) ty r
  | .faddr x off => tFa (valX ρ x) off r
  | .field x off => tF (valX ρ x) off r
  | .iaddr x y sz => tIa (slT nt S d L ρ) (valX ρ x) (valX ρ y) sz r
  | .index x y => tI (slT nt S d L ρ) (valX ρ x) (valX ρ y) r
  | .extr x i => tX (valX ρ x) i r
  | .store x y => tS (zN nt S (restr L ρ)) (valX ρ x) (valX ρ y) (r vUndef)
  | .stores x y sz => tSs (stD sz) (zN nt S (restr L ρ)) (valX ρ x) (valX ρ y) (r vUndef)
  | .call xs f => tC (argsT ρ xs) f r
  | .lenT x => tLt (slT nt S d L ρ) (valX ρ x) r
  | .lenL x => tLl (slT nt S d L ρ) (valX ρ x) r
  | .app e str sz x y => tAp P e str sz (valX ρ x) (valX ρ y) r
noncomputable def noD (d : Option Nat) : Bool := match d with | none => true | some _ => false
noncomputable def okS (A : List Nat) (d : Option Nat) (s : SI) : Bool := match s with
  | .slow => true
  | .val x => okX A x
  | .pick c a b => andB (okX A c) (andB (okX A a) (okX A b))
  | .alloc _ _ _ => true
  | .loads x _ => okX A x
  | .load x => okX A x
  | .nilc x => okX A x
  | .binN _ x y => andB (okX A x) (okX A y)
  | .binT _ x y => andB (okX A x) (okX A y)
  | .binP _ x y => andB (okX A x) (okX A y)
  | .not x => okX A x
  | .convN x _ => okX A x
  | .convT x => okX A x
  | .box x => okX A x
  | .rows xs _ _ _ => okXs A xs
  | .agg l => okSrc A l
  | .ifc x _ => okX A x
  | .faddr x _ => okX A x
  | .field x _ => okX A x
  | .iaddr x y _ => andB (okX A x) (okX A y)
  | .index x y => andB (okX A x) (okX A y)
  | .extr x _ => okX A x
  | .store x y => andB (noD d) (andB (okX A x) (okX A y))
  | .stores x y _ => andB (noD d) (andB (okX A x) (okX A y))
  | .call xs _ => okXs A xs
  | .lenT x => okX A x
  | .lenL x => okX A x
  | .app _ _ _ x y => andB (okX A x) (okX A y)
theorem tO_ok {P : Program} {nt : Nat} {ρ : LE} {S : OpF DD} {L : List Nat} {d : Option Nat} {s : SI} {K : OpF DD} {k : KO DD} {r : V → SK} (hd : okW nt d = true) (ho : okS (keys ρ) d s = true)
    (hK : ∀ v, Sim nt (upd d v ρ) (fun c t h n => K c t h n k) (r v)) (hS : Sim nt ρ (fun c t h n => S c t h n fun c t h n => K c t h n k) (slT nt S d L ρ r)) :
    Sim nt ρ (fun c t h n => denOD P S d s K c t h n k) (tO P nt S L d s ρ r) := by
  intro f hf c h n
  have hW : ∀ c h n k', putWD d c (skT DD f) h n k' = fun v => k' c (skT DD (setD f d v)) h n := fun c h n k' => putWD_ok hf hd c h n k'
  have hK' : ∀ v c h n, K c (skT DD (setD f d v)) h n k = r v c h n := fun v c h n => hK v _ (hf.setD hd v) c h n
  have hS' : ∀ c h n, S c (skT DD f) h n (fun c t h n => K c t h n k) = slT nt S d L ρ r c h n := fun c h n => hS f hf c h n
  have X1 : ∀ {x : XI}, okX (keys ρ) x = true → getXD x (skT DD f) = fun k => k (valX ρ x) := fun h => valX_ok hf h
  cases s
  case slow => exact hS' c h n
  case val x =>
    show getXD x (skT DD f) _ = _
    rw [X1 ho]
    exact (congrFun (hW c h n _) _).trans (hK' _ c h n)
  case pick c' a b => obtain ⟨h1, h2⟩ := andB_true ho; obtain ⟨h2, h3⟩ := andB_true h2; exact oK_T hW hK' (X1 h1) (X1 h2) (X1 h3) c h n
  case alloc te l z => exact oAl_T hW hK' c h n
  case loads x sz => exact oLs_T hW hK' (X1 ho) c h n
  case load x => exact oL_T hW hK' (X1 ho) c h n
  case nilc x => exact oN_T hW hK' (X1 ho) hS' c h n
  case binN o x y =>
    obtain ⟨h1, h2⟩ := andB_true ho
    simp only [denOD, tO]
    cases natOp o with
    | none => exact hS' c h n
    | some F => exact oB_T hW hK' (X1 h1) (X1 h2) hS' c h n
  case binT o x y =>
    obtain ⟨h1, h2⟩ := andB_true ho
    simp only [denOD, tO]
    cases strOpS o with
    | none => exact hS' c h n
    | some F => exact oT_T hW hK' (X1 h1) (X1 h2) hS' c h n
  case binP ne x y =>
    obtain ⟨h1, h2⟩ := andB_true ho
    cases ne <;> exact oP_T hW hK' (X1 h1) (X1 h2) hS' c h n
  case not x => exact oNot_T hW hK' (X1 ho) c h n
  case convN x kd => exact oCn_T hW hK' (X1 ho) hS' c h n
  case convT x => exact oCt_T hW hK' (X1 ho) hS' c h n
  case box x => exact oBx_T hW hK' (X1 ho) c h n
  case rows xs sz len tot => exact oR_T hW hK' (rowT_ok hf ho) c h n
  case agg l => exact oA_T hW hK' (srcT_ok hf ho) hS' c h n
  case ifc x ty => exact oIf_T hW hK' (X1 ho) c h n
  case faddr x off => exact oFa_T hW hK' (X1 ho) c h n
  case field x off => exact oF_T hW hK' (X1 ho) c h n
  case iaddr x y sz => obtain ⟨h1, h2⟩ := andB_true ho; exact oIa_T hW hK' (X1 h1) (X1 h2) hS' c h n
  case index x y => obtain ⟨h1, h2⟩ := andB_true ho; exact oI_T hW hK' (X1 h1) (X1 h2) hS' c h n
  case extr x i => exact oX_T hW hK' (X1 ho) c h n
  case store x y =>
    obtain ⟨h0, h1⟩ := andB_true ho; obtain ⟨h1, h2⟩ := andB_true h1
    cases d with
    | some i => cases h0
    | none => exact oS_T hW hK' (X1 h1) (X1 h2) hS' c h n
  case stores x y sz =>
    obtain ⟨h0, h1⟩ := andB_true ho; obtain ⟨h1, h2⟩ := andB_true h1
    cases d with
    | some i => cases h0
    | none => exact oSs_T hW hK' (X1 h1) (X1 h2) hS' c h n
  case call xs f => exact oC_T hW hK' (argsT_ok hf ho) c h n
  case lenT x => exact oLt_T hW hK' (X1 ho) hS' c h n
  case lenL x => exact oLl_T hW hK' (X1 ho) hS' c h n
  case app e str sz x y => obtain ⟨h1, h2⟩ := andB_true ho; exact oAp_T hW hK' (X1 h1) (X1 h2) c h n
end Go.Ev

namespace Go.Ev
section
variable (P : Program) (G : Nat → Bool) (nt : Nat) (ops : Array Oper)
noncomputable def tOI (o : Oper) (it : OI) (N : LE → SK) (ρ : LE) : SK := match it with
  | .p d s => tO P nt (slD P G ops o) (usesO ops o) d s ρ fun v => N (upd d v ρ)
  | .g j want d s => match want with
    | true => tG1 (fun v => N (upd d v ρ)) (look ρ j) fun r => tO P nt (slD P G ops (bare o)) (usesO ops (bare o)) d s ρ r
    | false => tG0 (fun v => N (upd d v ρ)) (look ρ j) fun r => tO P nt (slD P G ops (bare o)) (usesO ops (bare o)) d s ρ r
  | .slow => slT nt (slD P G ops o) o.dst (usesO ops o) ρ fun v => N (upd o.dst v ρ)
noncomputable def eqD (a b : Option Nat) : Bool := match a with
  | some i => match b with | some j => Nat.beq i j | none => false
  | none => match b with | some _ => false | none => true
theorem eqD_eq {a b : Option Nat} (h : eqD a b = true) : a = b := by
  cases a <;> cases b <;> first | rfl | (cases h; done) | (rename_i i j; rw [Nat.eq_of_beq_eq_true h])
noncomputable def okI (o : Oper) (it : OI) (N : List Nat → Bool) (A : List Nat) : Bool := match it with
  | .p d s => andB (eqD d o.dst) (andB (okS A d s) (andB (okL A nt (usesO ops o)) (andB (okW nt o.dst) (N (updA d A)))))
  | .g j _ d s => andB (memN j A) (andB (eqD d o.dst) (andB (okS A d s) (andB (okL A nt (usesO ops (bare o))) (andB (okW nt o.dst) (N (updA d A))))))
  | .slow => andB (okL A nt (usesO ops o)) (andB (okW nt o.dst) (N (updA o.dst A)))
variable {P G nt ops}
theorem tI_ok (hn : nt < bnd DD) {ρ : LE} {o : Oper} {it : OI} {Nok : List Nat → Bool} {N : LE → SK} {K : OpF DD} {k : KO DD} (h : okI nt ops o it Nok (keys ρ) = true)
    (hK : ∀ ρ', Nok (keys ρ') = true → Sim nt ρ' (fun c t h n => K c t h n k) (N ρ')) : Sim nt ρ (fun c t h n => denID P G ops o it K c t h n k) (tOI P G nt ops o it N ρ) := by
  cases it with
  | p d s =>
    obtain ⟨h1, h⟩ := andB_true h; obtain ⟨h2, h⟩ := andB_true h; obtain ⟨h3, h⟩ := andB_true h; obtain ⟨h4, h5⟩ := andB_true h
    obtain rfl := eqD_eq h1
    have hK' : ∀ v, Sim nt (upd o.dst v ρ) (fun c t h n => K c t h n k) (N (upd o.dst v ρ)) := fun v => hK _ (by rw [keys_upd]; exact h5)
    exact tO_ok h4 h2 hK' (slT_ok hn h3 h4 hK')
  | slow =>
    obtain ⟨h3, h⟩ := andB_true h; obtain ⟨h4, h5⟩ := andB_true h
    have hK' : ∀ v, Sim nt (upd o.dst v ρ) (fun c t h n => K c t h n k) (N (upd o.dst v ρ)) := fun v => hK _ (by rw [keys_upd]; exact h5)
    exact slT_ok hn h3 h4 hK'
  | g j want d s =>
    obtain ⟨h0, h⟩ := andB_true h
    obtain ⟨h1, h⟩ := andB_true h; obtain ⟨h2, h⟩ := andB_true h; obtain ⟨h3, h⟩ := andB_true h; obtain ⟨h4, h5⟩ := andB_true h
    obtain rfl := eqD_eq h1
    have hK' : ∀ v, Sim nt (upd o.dst v ρ) (fun c t h n => K c t h n k) (N (upd o.dst v ρ)) := fun v => hK _ (by rw [keys_upd]; exact h5)
    have hO : Sim nt ρ (fun c t h n => denOD P (slD P G ops (bare o)) o.dst s nilD c t h n fun c t h n => K c t h n k) (tO P nt (slD P G ops (bare o)) (usesO ops (bare o)) o.dst s ρ fun v => N (upd o.dst v ρ)) :=
      tO_ok (K := nilD) (k := fun c t h n => K c t h n k) h4 h2 hK' (slT_ok (o := bare o) (K := nilD) (k := fun c t h n => K c t h n k) hn h3 h4 hK')
    intro s' hs c h' n
    have hW : ∀ c h n k', putWD o.dst c (skT DD s') h n k' = fun v => k' c (skT DD (setD s' o.dst v)) h n := fun c h n k' => putWD_ok hs h4 c h n k'
    have hK2 : ∀ v c h n, K c (skT DD (setD s' o.dst v)) h n k = N (upd o.dst v ρ) c h n := fun v c h n => hK' v _ (hs.setD h4 v) c h n
    cases want with
    | true => exact oG1_T hW hK2 (hs.gT h0) (SR := fun r => tO P nt (slD P G ops (bare o)) (usesO ops (bare o)) o.dst s ρ r) (fun c h n => hO s' hs c h n) c h' n
    | false => exact oG0_T hW hK2 (hs.gT h0) (SR := fun r => tO P nt (slD P G ops (bare o)) (usesO ops (bare o)) o.dst s ρ r) (fun c h n => hO s' hs c h n) c h' n
variable (P G nt ops)
noncomputable def tOps (its : List OI) : List Oper → (LE → SK) → LE → SK := List.rec (motive := fun _ => List Oper → (LE → SK) → LE → SK) (fun _ N ρ => N ρ) (fun it _ ih l N ρ => tOI P G nt ops (headO l) it (ih (tailO l) N) ρ) its
noncomputable def okOps (its : List OI) : List Oper → (List Nat → Bool) → List Nat → Bool := List.rec (motive := fun _ => List Oper → (List Nat → Bool) → List Nat → Bool) (fun _ N A => N A) (fun it _ ih l N A => okI nt ops (headO l) it (ih (tailO l) N) A) its
variable {P G nt ops}
theorem tOps_ok (hn : nt < bnd DD) {Nok : List Nat → Bool} {N : LE → SK} {k : KO DD} (hK : ∀ ρ', Nok (keys ρ') = true → Sim nt ρ' k (N ρ')) : ∀ (its : List OI) (l : List Oper) (ρ : LE), okOps nt ops its l Nok (keys ρ) = true →
    Sim nt ρ (fun c t h n => opsID P G ops its l c t h n k) (tOps P G nt ops its l N ρ) := by
  intro its
  induction its with
  | nil => intro l ρ h; exact hK ρ h
  | cons it its ih =>
    intro l ρ h
    exact tI_ok hn (Nok := okOps nt ops its (tailO l) Nok) (N := tOps P G nt ops its (tailO l) N) h fun ρ' h' => ih (tailO l) ρ' h'
variable (P G nt ops)
noncomputable def tAgs (l : List AI) (N : LE → SK) (ρ : LE) : SK := List.rec (motive := fun _ => SK) (N ρ) (fun a _ ih => AI.rec (motive := fun _ => SK → SK) (fun d x u => tQ (look ρ d) (valX ρ x) u) (fun j u => zA nt (slowA P G ops j).go (restr (usesA ops j) ρ) u) a ih) l
noncomputable def okAgs (l : List AI) (N : List Nat → Bool) (A : List Nat) : Bool := List.rec (motive := fun _ => Bool) (N A) (fun a _ ih => AI.rec (motive := fun _ => Bool) (fun d x => andB (memN d A) (andB (okX A x) ih)) (fun j => andB (okL A nt (usesA ops j)) ih) a) l
variable {P G nt ops}
theorem tAgs_ok (hn : nt < bnd DD) {Nok : List Nat → Bool} {N : LE → SK} {K : OpF DD} {k : KO DD} {ρ : LE} (hK : Nok (keys ρ) = true → Sim nt ρ (fun c t h n => K c t h n k) (N ρ)) : ∀ l : List AI, okAgs nt ops l Nok (keys ρ) = true →
    Sim nt ρ (fun c t h n => agsID P G ops l K c t h n k) (tAgs P G nt ops l N ρ) := by
  intro l
  induction l with
  | nil => intro h; exact hK h
  | cons a l ih =>
    intro h
    cases a with
    | load d x =>
      have h' : andB (memN d (keys ρ)) (andB (okX (keys ρ) x) (okAgs nt ops l Nok (keys ρ))) = true := h
      obtain ⟨h1, h'⟩ := andB_true h'; obtain ⟨h2, h3⟩ := andB_true h'
      intro s hs c h n
      exact oQ_T (hs.gT h1) (valX_ok hs h2) (fun c h n => ih h3 s hs c h n) c h n
    | slow j =>
      have h' : andB (okL (keys ρ) nt (usesA ops j)) (okAgs nt ops l Nok (keys ρ)) = true := h
      obtain ⟨h1, h3⟩ := andB_true h'; obtain ⟨h1, h2⟩ := andB_true h1
      intro s hs c h n
      have e : agsID P G ops (.slow j :: l) K c (skT DD s) h n k = (slowA P G ops j).go c (skT DD s) h n (agsID P G ops l K c (skT DD s) h n k) := rfl
      show agsID P G ops (.slow j :: l) K c (skT DD s) h n k = _
      rw [e]
      have e2 : agsID P G ops l K c (skT DD s) h n k = tAgs P G nt ops l N ρ c h n := ih h3 s hs c h n
      rw [e2]
      exact zA_ok hn hs rfl h1 h2 c h n
variable (P G nt ops)
noncomputable def badK : SK := fun _ _ _ => .bad
noncomputable def tPlan (l : List PI) : (LE → SK) → LE → SK := List.rec (motive := fun _ => (LE → SK) → LE → SK) (fun N ρ => N ρ) (fun s _ ih N ρ => PI.rec (motive := fun _ => SK) (fun i it ag => tOI P G nt ops (opAt ops i) it (tAgs P G nt ops ag (ih N)) ρ) badK s) l
noncomputable def okPlan (l : List PI) : (List Nat → Bool) → List Nat → Bool := List.rec (motive := fun _ => (List Nat → Bool) → List Nat → Bool) (fun N A => N A) (fun s _ ih N A => PI.rec (motive := fun _ => Bool) (fun i it ag => okI nt ops (opAt ops i) it (okAgs nt ops ag (ih N)) A) true s) l
variable {P G nt ops}
theorem tPlan_ok (hn : nt < bnd DD) {Nok : List Nat → Bool} {N : LE → SK} {k : KO DD} (hK : ∀ ρ', Nok (keys ρ') = true → Sim nt ρ' k (N ρ')) : ∀ (l : List PI) (ρ : LE), okPlan nt ops l Nok (keys ρ) = true →
    Sim nt ρ (fun c t h n => planID P G ops l c t h n k) (tPlan P G nt ops l N ρ) := by
  intro l
  induction l with
  | nil => intro ρ h; exact hK ρ h
  | cons s l ih =>
    intro ρ h
    cases s with
    | bad => intro s hs c h n; rfl
    | op i it ag =>
      exact tI_ok hn (Nok := okAgs nt ops ag (okPlan nt ops l Nok)) (N := tAgs P G nt ops ag (tPlan P G nt ops l N)) (K := agsID P G ops ag (planID P G ops l)) h fun ρ' h' => tAgs_ok hn (fun h'' => ih ρ' h'') ag h'
end
/-! Functions of the values of some slots -/
noncomputable def NA (L : List Nat) : Type := List.rec (motive := fun _ => Type) SK (fun _ _ T => V → T) L
noncomputable def nab (L : List Nat) : (LE → SK) → NA L := List.rec (motive := fun L => (LE → SK) → NA L) (fun f => f []) (fun i _ ih f => fun v => ih fun ρ => f ((i, v) :: ρ)) L
noncomputable def nap (L : List Nat) (ρ : LE) : NA L → SK := List.rec (motive := fun L => NA L → SK) (fun j => j) (fun i _ ih j => ih (j (look ρ i))) L
theorem nap_nab (ρ : LE) : ∀ (L : List Nat) (f : LE → SK), nap L ρ (nab L f) = f (restr L ρ) := by
  intro L
  induction L with
  | nil => intro f; rfl
  | cons i L ih => intro f; exact ih fun ρ' => f ((i, look ρ i) :: ρ')
noncomputable def jn {α : Type} (X : α) (Y : α → SK) : SK := Y X
noncomputable def lp {α : Type} (bad : α) (B : α → α) (fuel : Nat) : α := Nat.rec (motive := fun _ => α) bad (fun _ ih => B ih) fuel
noncomputable def tJ (x : V) (A B : SK) : SK := fun c h n => x (A c h n) (B c h n) fI fS fS fL fA fO
inductive AN where
  | z
  | u (L : List Nat) (a : AN)
  | p (L : List Nat) (a b : AN)
noncomputable def anL (a : AN) : List Nat := match a with | .z => [] | .u L _ => L | .p L _ _ => L
noncomputable def anA (a : AN) : AN := match a with | .z => .z | .u _ a => a | .p _ a _ => a
noncomputable def anB (a : AN) : AN := match a with | .z => .z | .u _ _ => .z | .p _ _ b => b
noncomputable def isReg (a : CI) : Bool := match a with | .reg _ => true | .plan _ => true | _ => false
section
variable (P : Program) (G : Nat → Bool) (nt fuel : Nat) (rt : LE → SK)
noncomputable def tCode (ci : CI) : AN → Code → (LE → SK) → (Nat → LE → SK) → LE → SK :=
  CI.rec (motive := fun _ => AN → Code → (LE → SK) → (Nat → LE → SK) → LE → SK)
    (fun _ _ N _ ρ => N ρ)
    (fun l _ c N _ ρ => tOps P G nt (cOps c) l (cOps c).toList N ρ)
    (fun l _ c N _ ρ => tPlan P G nt (cOps c) l N ρ)
    (fun _ _ _ _ _ => badK)
    (fun a _ ia ib an c N J ρ => Bool.rec (motive := fun _ => SK)
      (jn (nab (anL an) fun ρ' => ib (anB an) (cB c) N J ρ') fun j => ia (anA an) (cA c) (fun ρ' => nap (anL an) ρ' j) J ρ)
      (ia (anA an) (cA c) (fun ρ' => ib (anB an) (cB c) N J ρ') J ρ) (isReg a))
    (fun x _ _ ia ib an c N J ρ => tJ (valX ρ x) (ia (anA an) (cA c) N J ρ) (ib (anB an) (cB c) N J ρ))
    (fun id _ ia an c N J ρ => ia (anA an) (cA c) N (fun j => Bool.rec (motive := fun _ => LE → SK) (J j) N (Nat.beq j id)) ρ)
    (fun _ ia an c _ J ρ => nap (anL an) ρ (lp (nab (anL an) fun _ => badK) (fun j => nab (anL an) fun ρ' => ia (anA an) (cA c) (fun ρ'' => nap (anL an) ρ'' j) J ρ') fuel))
    (fun id _ _ _ J ρ => J id ρ)
    (fun _ _ N _ ρ => N ρ)
    (fun _ _ _ _ ρ => rt ρ)
    (fun _ _ _ _ _ => badK) ci
variable (rok : List Nat → Bool)
noncomputable def okCode (ci : CI) : AN → Code → (List Nat → Bool) → (Nat → List Nat → Bool) → List Nat → Bool :=
  CI.rec (motive := fun _ => AN → Code → (List Nat → Bool) → (Nat → List Nat → Bool) → List Nat → Bool)
    (fun _ _ N _ A => N A)
    (fun l _ c N _ A => okOps nt (cOps c) l (cOps c).toList N A)
    (fun l _ c N _ A => okPlan nt (cOps c) l N A)
    (fun _ _ _ _ _ => true)
    (fun a _ ia ib an c N J A => Bool.rec (motive := fun _ => Bool)
      (andB (ib (anB an) (cB c) N J (anL an)) (ia (anA an) (cA c) (fun A' => subL (anL an) A') J A))
      (ia (anA an) (cA c) (fun A' => ib (anB an) (cB c) N J A') J A) (isReg a))
    (fun x _ _ ia ib an c N J A => andB (okX A x) (andB (ia (anA an) (cA c) N J A) (ib (anB an) (cB c) N J A)))
    (fun id _ ia an c N J A => ia (anA an) (cA c) N (fun j => Bool.rec (motive := fun _ => List Nat → Bool) (J j) N (Nat.beq j id)) A)
    (fun _ ia an c _ J A => andB (subL (anL an) A) (ia (anA an) (cA c) (fun A' => subL (anL an) A') J (anL an)))
    (fun id _ _ _ J A => J id A)
    (fun _ _ N _ A => N A)
    (fun _ _ _ _ A => rok A)
    (fun _ _ _ _ _ => false) ci
variable {P G nt fuel rt rok}
theorem Sim.restr {L : List Nat} {ρ : LE} {f : Cx DD → TmS DD → HS DD → Nat → Res} {g : SK} (h : Sim nt (restr L ρ) f g) (hL : subL L (keys ρ) = true) : Sim nt ρ f g := fun s hs c h' n => h s (hs.restr hL) c h' n
theorem tCode_ok (hn : nt < bnd DD) (I : TypeId → Option TypeInfo) (fn : FuncId) (chk : Bool) (ci : CI) : ∀ (an : AN) (c : Code) (Nok : List Nat → Bool) (Jok : Nat → List Nat → Bool) (N : LE → SK) (J : Nat → LE → SK) (k : KXF DD) (ρ : LE),
    (∀ ρ', Nok (keys ρ') = true → Sim nt ρ' (k .normal) (N ρ')) → (∀ id ρ', Jok id (keys ρ') = true → Sim nt ρ' (k (.exit id)) (J id ρ')) → (∀ ρ', rok (keys ρ') = true → Sim nt ρ' (k .ret) (rt ρ')) →
    okCode nt rok ci an c Nok Jok (keys ρ) = true → Sim nt ρ (fun c' t h n => denCD P I G fn chk fuel ci c c' t h n k) (tCode P G nt fuel rt ci an c N J ρ) := by
  induction ci with
  | skip => intro an c Nok Jok N J k ρ hN hJ hR h; exact hN ρ h
  | reg l => intro an c Nok Jok N J k ρ hN hJ hR h; exact tOps_ok hn hN l _ ρ h
  | plan l => intro an c Nok Jok N J k ρ hN hJ hR h; exact tPlan_ok hn hN l ρ h
  | bad => intro an c Nok Jok N J k ρ hN hJ hR h s hs c' h' n; rfl
  | exit id => intro an c Nok Jok N J k ρ hN hJ hR h; exact hJ id ρ h
  | label => intro an c Nok Jok N J k ρ hN hJ hR h; exact hN ρ h
  | ret => intro an c Nok Jok N J k ρ hN hJ hR h; exact hR ρ h
  | slow => intro an c Nok Jok N J k ρ hN hJ hR h; cases h
  | cond x a b ia ib =>
    intro an c Nok Jok N J k ρ hN hJ hR h
    obtain ⟨h1, h⟩ := andB_true h
    obtain ⟨h2, h3⟩ := andB_true h
    intro s hs c' h' n
    have e : denCD P I G fn chk fuel (.cond x a b) c c' (skT DD s) h' n k = getXD x (skT DD s) fun v => v (denCD P I G fn chk fuel a (cA c) c' (skT DD s) h' n k) (denCD P I G fn chk fuel b (cB c) c' (skT DD s) h' n k) fI fS fS fL fA fO := rfl
    show denCD P I G fn chk fuel (.cond x a b) c c' (skT DD s) h' n k = _
    rw [e, valX_ok hs h1]
    have e1 := ia (anA an) (cA c) Nok Jok N J k ρ hN hJ hR h2 s hs c' h' n
    have e2 := ib (anB an) (cB c) Nok Jok N J k ρ hN hJ hR h3 s hs c' h' n
    dsimp only at e1 e2 ⊢
    rw [e1, e2]
    rfl
  | block id a ia =>
    intro an c Nok Jok N J k ρ hN hJ hR h
    refine ia (anA an) (cA c) Nok (fun j => Bool.rec (motive := fun _ => List Nat → Bool) (Jok j) Nok (Nat.beq j id)) N (fun j => Bool.rec (motive := fun _ => LE → SK) (J j) N (Nat.beq j id)) (blockK id k) ρ hN ?_ hR h
    intro j ρ' hj
    show Sim nt ρ' (Bool.rec (motive := fun _ => Cx DD → TmS DD → HS DD → Nat → Res) (k (.exit j)) (k .normal) (Nat.beq j id)) (Bool.rec (motive := fun _ => LE → SK) (J j) N (Nat.beq j id) ρ')
    cases hb : Nat.beq j id with
    | false => rw [hb] at hj; exact hJ j ρ' hj
    | true => rw [hb] at hj; exact hN ρ' hj
  | seq a b ia ib =>
    intro an c Nok Jok N J k ρ hN hJ hR h
    have hb : ∀ ρ', okCode nt rok b (anB an) (cB c) Nok Jok (keys ρ') = true → Sim nt ρ' (fun c' t h n => denCD P I G fn chk fuel b (cB c) c' t h n k) (tCode P G nt fuel rt b (anB an) (cB c) N J ρ') := fun ρ' h' => ib (anB an) (cB c) Nok Jok N J k ρ' hN hJ hR h'
    have e : ∀ c' t h n, denCD P I G fn chk fuel (.seq a b) c c' t h n k = denCD P I G fn chk fuel a (cA c) c' t h n (seqKD (denCD P I G fn chk fuel b (cB c)) k) := by
      intro c' t h n
      cases a <;> rfl
    have e' : (fun c' t h n => denCD P I G fn chk fuel (.seq a b) c c' t h n k) = fun c' t h n => denCD P I G fn chk fuel a (cA c) c' t h n (seqKD (denCD P I G fn chk fuel b (cB c)) k) := by
      funext c' t h n; exact e c' t h n
    rw [e']
    have ho : okCode nt rok (.seq a b) an c Nok Jok (keys ρ) = Bool.rec (motive := fun _ => Bool)
      (andB (okCode nt rok b (anB an) (cB c) Nok Jok (anL an)) (okCode nt rok a (anA an) (cA c) (fun A' => subL (anL an) A') Jok (keys ρ)))
      (okCode nt rok a (anA an) (cA c) (fun A' => okCode nt rok b (anB an) (cB c) Nok Jok A') Jok (keys ρ)) (isReg a) := rfl
    have ht : tCode P G nt fuel rt (.seq a b) an c N J ρ = Bool.rec (motive := fun _ => SK)
      (jn (nab (anL an) fun ρ' => tCode P G nt fuel rt b (anB an) (cB c) N J ρ') fun j => tCode P G nt fuel rt a (anA an) (cA c) (fun ρ' => nap (anL an) ρ' j) J ρ)
      (tCode P G nt fuel rt a (anA an) (cA c) (fun ρ' => tCode P G nt fuel rt b (anB an) (cB c) N J ρ') J ρ) (isReg a) := rfl
    rw [ho] at h
    rw [ht]
    cases hr : isReg a with
    | true =>
      rw [hr] at h
      exact ia (anA an) (cA c) _ Jok _ J _ ρ (fun ρ' h' => hb ρ' h') hJ hR h
    | false =>
      rw [hr] at h
      obtain ⟨h1, h2⟩ := andB_true h
      refine ia (anA an) (cA c) _ Jok _ J _ ρ (fun ρ' h' => ?_) hJ hR h2
      rw [nap_nab]
      refine Sim.restr (L := anL an) ?_ h'
      exact hb _ (by rw [keys_restr]; exact h1)
  | loop a ia =>
    intro an c Nok Jok N J k ρ hN hJ hR h
    obtain ⟨h1, h2⟩ := andB_true h
    have key : ∀ (fu : Nat) (ρ : LE), subL (anL an) (keys ρ) = true → Sim nt ρ (fun c' t h n => loopD (denCD P I G fn chk fuel a (cA c)) fu c' t h n k)
        (nap (anL an) ρ (lp (nab (anL an) fun _ => badK) (fun j => nab (anL an) fun ρ' => tCode P G nt fuel rt a (anA an) (cA c) (fun ρ'' => nap (anL an) ρ'' j) J ρ') fu)) := by
      intro fu
      induction fu with
      | zero =>
        intro ρ hL s hs c' h' n
        have e1 : (lp (nab (anL an) fun _ => badK) (fun j => nab (anL an) fun ρ' => tCode P G nt fuel rt a (anA an) (cA c) (fun ρ'' => nap (anL an) ρ'' j) J ρ') 0) = nab (anL an) fun _ => badK := rfl
        rw [e1, nap_nab]
        rfl
      | succ fu ih =>
        intro ρ hL
        have e1 : (lp (nab (anL an) fun _ => badK) (fun j => nab (anL an) fun ρ' => tCode P G nt fuel rt a (anA an) (cA c) (fun ρ'' => nap (anL an) ρ'' j) J ρ') (fu + 1)) =
            nab (anL an) fun ρ' => tCode P G nt fuel rt a (anA an) (cA c) (fun ρ'' => nap (anL an) ρ'' (lp (nab (anL an) fun _ => badK) (fun j => nab (anL an) fun ρ' => tCode P G nt fuel rt a (anA an) (cA c) (fun ρ'' => nap (anL an) ρ'' j) J ρ') fu)) J ρ' := rfl
        rw [e1, nap_nab]
        refine Sim.restr (L := anL an) ?_ hL
        exact ia (anA an) (cA c) (fun A' => subL (anL an) A') Jok _ J _ (restr (anL an) ρ) (fun ρ' h' => ih ρ' h') hJ hR (by rw [keys_restr]; exact h2)
    exact key fuel ρ h1
end
end Go.Ev

namespace Go.Ev
/-! Functions -/
abbrev KR := V → Tab → HS DD → Nat → Res
abbrev RvF := HS DD → Nat → Tab → (V → Res) → Res
noncomputable def lvT (R : RvF) (k : KR) : SK := fun c h n => Cx.rec (motive := fun _ => RvF → KR → HS DD → Nat → Res)
  (fun call d tab R k h n => List.rec (motive := fun _ => CallS DD → Tab → RvF → KR → HS DD → Nat → Res)
    (fun _ tab R k h n => R h n tab ((fun (k : KR) (tab : Tab) (h : HS DD) (n : Nat) (v : V) => k v tab h n) k tab h n))
    (fun x d _ call tab R k h n => defersCR (scott DD) (unS call) (x :: d) ⟨h, n, tab⟩ fun m => mM m fun tab h n => R h n tab fun v => k v tab h n) d call tab R k h n) c R k h n
theorem lvT_eq (R : RetF DD) (k : KR) (c : Cx DD) (t : TmS DD) (h : HS DD) (n : Nat) : leaveCD R k c t h n = lvT (R t) k c h n := by
  obtain ⟨call, d, tab⟩ := c
  cases d <;> rfl
noncomputable def r1 (x : V) : RvF := fun _ _ _ k => k x
noncomputable def rW (XR : (List CV → Res) → Res) : RvF := fun _ _ _ k => XR ((fun (k : V → Res) (l : List CV) => k (vOth (.tup l))) k)
noncomputable def rZ (nt : Nat) (R : RetF DD) (l : LE) : RvF := fun h n tab k => mkK l (BL nt) fun t => R t h n tab k
noncomputable def rowN (ρ : LE) (is : List Nat) : (List CV → Res) → Res := List.rec (motive := fun _ => (List CV → Res) → Res) rwN (fun i _ ih => rwC (look ρ i) ih) is
def rslots : List ResultVar → List Nat
  | [] => []
  | r :: l => rslot r :: rslots l
noncomputable def rvT (P : Program) (nt : Nat) (ρ : LE) (rs : List ResultVar) : RvF := match rs with
  | [.tmp i] => r1 (look ρ i)
  | rs => match tmpsOf rs with
    | some is => rW (rowN ρ is)
    | none => rZ nt (resS P rs).go (restr (rslots rs) ρ)
noncomputable def okRv (nt : Nat) (rs : List ResultVar) (A : List Nat) : Bool := okL A nt (rslots rs)
section
variable {P : Program} {nt : Nat} {ρ : LE} {s : Sk}
theorem rowN_ok (hs : Fr nt ρ s) : ∀ is : List Nat, (∀ i ∈ is, i ∈ keys ρ) → rTl is (skT DD s) = rowN ρ is := by
  intro is
  induction is with
  | nil => intro _; rfl
  | cons i is ih =>
    intro h
    funext k
    have e : rTl (i :: is) (skT DD s) k = (gT DD i).go (skT DD s) fun v => decV v fun c => rTl is (skT DD s) fun cs => k (c :: cs) := rfl
    rw [e, hs.gT (memN_iff.2 (h i (by simp))), ih fun j hj => h j (by simp [hj])]
    rfl
theorem tmpsOf_slots : ∀ {rs : List ResultVar} {is : List Nat}, tmpsOf rs = some is → rslots rs = is
  | [], is, h => by simp only [tmpsOf, Option.some.injEq] at h; exact h
  | .cell a ty :: rs, is, h => by simp [tmpsOf] at h
  | .tmp i :: rs, is, h => by
    simp only [tmpsOf] at h
    cases hr : tmpsOf rs with
    | none => rw [hr] at h; cases h
    | some js => rw [hr] at h; simp only [Option.some.injEq] at h; subst h; simp only [rslots, rslot, tmpsOf_slots hr]
theorem slots_mem : ∀ {rs : List ResultVar} {r : ResultVar}, r ∈ rs → rslot r ∈ rslots rs
  | r' :: rs, r, h => by
    rcases List.mem_cons.1 h with h | h
    · subst h; exact List.mem_cons_self ..
    · exact List.mem_cons_of_mem _ (slots_mem h)
noncomputable def resG (P : Program) (h' : HS DD) (n : Nat) (tab : Tab) (k : V → Res) (t : TmS DD) : List ResultVar → Res
  | [.tmp i] => (gT DD i).go t k
  | rs => resultsCR (scott DD) P rs t ⟨h', n, tab⟩ fun vs => match vs with | [v] => k (encV v) | vs => k (vOth (.tup vs))
theorem resS_gen (h' : HS DD) (n : Nat) (tab : Tab) (k : V → Res) (t : TmS DD) : ∀ rs : List ResultVar, (resS P rs : Bx (RetF DD)).go t h' n tab k = resG P h' n tab k t rs
  | [] => rfl
  | [.tmp i] => by simp only [resS, opened_eq, go_mk, resG]
  | [.cell a ty] => rfl
  | .tmp i :: r' :: rs => rfl
  | .cell a ty :: r' :: rs => rfl
theorem resZ_ok (hn : nt < bnd DD) (hs : Fr nt ρ s) {rs : List ResultVar} (h : okRv nt rs (keys ρ) = true) : (resS P rs : Bx (RetF DD)).go (skT DD s) = rZ nt (resS P rs).go (restr (rslots rs) ρ) := by
  obtain ⟨h1, h2⟩ := andB_true h
  obtain ⟨s2, e1, e2, e3⟩ := mini hn hs h1 h2
  have hx : ∀ r ∈ rs, (scott DD).gT (skT DD s) (rslot r) = (scott DD).gT (skT DD s2) (rslot r) := by
    intro r hr
    obtain ⟨v, q1, q2⟩ := e3 _ (slots_mem hr)
    exact scott_gT q1 q2
  funext h' n tab k
  unfold rZ
  rw [e1]
  rw [resS_gen, resS_gen]
  have hv : ∀ r ∈ rs, ∃ v, sget DD s (rslot r) = some v ∧ sget DD s2 (rslot r) = some v := fun r hr => e3 _ (slots_mem hr)
  clear e3 h h1 h2 e1
  match rs, hx, hv with
  | [], hx, _ => rfl
  | [.tmp i], _, hv =>
    obtain ⟨v, q1, q2⟩ := hv (.tmp i) (List.mem_cons_self ..)
    exact (sget_path DD i s v q1 k).trans (sget_path DD i s2 v q2 k).symm
  | [.cell a ty], hx, _ => exact congrFun (congrFun (resultsCR_dep (scott DD) hx) _) _
  | .tmp i :: r' :: rs, hx, _ => exact congrFun (congrFun (resultsCR_dep (scott DD) hx) _) _
  | .cell a ty :: r' :: rs, hx, _ => exact congrFun (congrFun (resultsCR_dep (scott DD) hx) _) _
theorem rvT_ok (hn : nt < bnd DD) (hs : Fr nt ρ s) {rs : List ResultVar} (h : okRv nt rs (keys ρ) = true) : resXD P rs (skT DD s) = rvT P nt ρ rs := by
  have hm : ∀ i ∈ rslots rs, i ∈ keys ρ := subL_mem (andB_true h).1
  match rs with
  | [.tmp i] =>
    funext h' n tab k
    show (gT DD i).go (skT DD s) k = _
    rw [hs.gT (memN_iff.2 (hm i (List.mem_cons_self ..)))]
    rfl
  | [] => rfl
  | [.cell a ty] => exact resZ_ok hn hs h
  | r :: r' :: rs =>
    have e1 : resXD P (r :: r' :: rs) = match tmpsOf (r :: r' :: rs) with | some is => rT (rTl is) | none => (resS P (r :: r' :: rs)).go := by cases r <;> rfl
    have e2 : rvT P nt ρ (r :: r' :: rs) = match tmpsOf (r :: r' :: rs) with | some is => rW (rowN ρ is) | none => rZ nt (resS P (r :: r' :: rs)).go (restr (rslots (r :: r' :: rs)) ρ) := by cases r <;> rfl
    rw [e1, e2]
    cases hr : tmpsOf (r :: r' :: rs) with
    | none => exact resZ_ok hn hs h
    | some is =>
      funext h' n tab k
      show rTl is (skT DD s) _ = _
      rw [rowN_ok hs is (by rw [← tmpsOf_slots hr]; exact hm)]
      rfl
/-! Arguments -/
def upto (i : Nat) : Nat → List Nat
  | 0 => []
  | m + 1 => i :: upto (i + 1) m
noncomputable def argsA (L : List Nat) : NA L → SK → List V → SK := List.rec (motive := fun L => NA L → SK → List V → SK) (fun j fb vs => List.rec (motive := fun _ => SK) j (fun _ _ _ => fb) vs)
  (fun _ _ ih j fb vs => List.rec (motive := fun _ => SK) fb (fun v vs _ => ih (j v) fb vs) vs) L
theorem argsA_ok (c : Cx DD) (h : HS DD) (n : Nat) (F : TmS DD → Res) : ∀ (m i : Nat) (vs : List V) (s : Sk) (ρ : LE) (f : LE → SK) (fb : SK), i + m ≤ nt → Fr nt ρ s →
    (∀ ρ' s', keys ρ' = upto i m → (∀ j, i ≤ j → j < i + m → sget DD s' j = some (look ρ' j)) → (∀ j, ¬ (i ≤ j ∧ j < i + m) → sget DD s' j = sget DD s j) → F (skT DD s') = f ρ' c h n) →
    fb c h n = setArgsS vs i (skT DD s) F → setArgsS vs i (skT DD s) F = argsA (upto i m) (nab (upto i m) f) fb vs c h n := by
  intro m
  induction m with
  | zero =>
    intro i vs s ρ f fb hm hs hF hb
    cases vs with
    | nil => exact hF [] s rfl (fun j h1 h2 => by omega) (fun j _ => rfl)
    | cons v vs => exact hb.symm
  | succ m ih =>
    intro i vs s ρ f fb hm hs hF hb
    cases vs with
    | nil => exact hb.symm
    | cons v vs =>
      have hi : i < nt := by omega
      have e : setArgsS (v :: vs) i (skT DD s) F = setArgsS vs (i + 1) (skT DD (sset DD s i v)) F := by
        have e1 : setArgsS (v :: vs) i (skT DD s) F = (pT DD i).go (skT DD s) v fun t => setArgsS vs (i + 1) t F := rfl
        rw [e1, hs.pT hi]
      rw [e] at hb ⊢
      refine ih (i + 1) vs (sset DD s i v) ((i, v) :: ρ) (fun ρ => f ((i, v) :: ρ)) fb (by omega) (hs.set hi v) ?_ hb
      intro ρ' s' hk h1 h2
      refine hF ((i, v) :: ρ') s' (by show i :: keys ρ' = _; rw [hk]; rfl) ?_ ?_
      · intro j hj1 hj2
        rw [look_cons]
        by_cases e : i = j
        · rw [if_pos e, ← e, h2 i (by omega), sget_sset DD i i s v (hs.full i hi), if_pos rfl]
        · rw [if_neg e]; exact h1 j (by omega) (by omega)
      · intro j hj
        rw [h2 j (by omega), sget_sset DD i j s v (hs.full i hi), if_neg (by omega)]
theorem upto_mem : ∀ {m i j : Nat}, j ∈ upto i m → i ≤ j ∧ j < i + m
  | 0, i, j, h => by cases h
  | m + 1, i, j, h => by
    rcases List.mem_cons.1 h with h | h
    · subst h; omega
    · have := upto_mem h; omega
end
noncomputable def fT (L : List Nat) (B : KR → NA L) (fb : FnF DD) : FnF DD := fun call args tab h n k => argsA L (B k) (fun _ h n => fb call args tab h n k) args (.mk call [] tab) h n
section
variable (P : Program) (I : TypeId → Option TypeInfo) (F : FuncId → Option Func) (G : Nat → Bool) (Dr : FuncId → Bool) (fuel : Nat)
noncomputable def lowF (f : FuncId) (x : FnI) (np : Nat) (an : AN) : FnF DD :=
  fT (upto 0 np) (fun k => nab (upto 0 np) fun ρ => tCode P G x.nt fuel (fun ρ => lvT (rvT P x.nt ρ (fRes (F f))) k) x.body an (fBody (F f)) (fun ρ => lvT (rvT P x.nt ρ (fRes (F f))) k) (fun _ _ => badK) ρ) (fnS P I F G Dr fuel f).go
noncomputable def okFn (f : FuncId) (x : FnI) (np : Nat) (an : AN) : Bool := andB (Nat.ble np x.nt) (andB (Nat.ble (Nat.succ x.nt) (bnd DD))
  (okCode x.nt (okRv x.nt (fRes (F f))) x.body an (fBody (F f)) (okRv x.nt (fRes (F f))) (fun _ _ => false) (upto 0 np)))
noncomputable def lowO (f : FuncId) (np : Nat) (an : AN) : Option (FnF DD) := match compF G I P F Dr f with
  | some x => match okFn F f x np an with
    | true => some (lowF P I F G Dr fuel f x np an)
    | false => none
  | none => none
theorem lowO_eq {f np : Nat} {an : AN} {x : FnF DD} (h : lowO P I F G Dr fuel f np an = some x) : (fnS P I F G Dr fuel f).go = x := by
  unfold lowO at h
  cases hc : compF G I P F Dr f with
  | none => rw [hc] at h; cases h
  | some y =>
    rw [hc] at h
    dsimp only at h
    cases hok : okFn F f y np an with
    | false => rw [hok] at h; cases h
    | true =>
      rw [hok] at h
      obtain rfl := Option.some.inj h
      obtain ⟨h1, hok⟩ := andB_true hok
      obtain ⟨h2, h3⟩ := andB_true hok
      have hn : y.nt < bnd DD := Nat.le_of_ble_eq_true h2
      have hp : np ≤ y.nt := Nat.le_of_ble_eq_true h1
      have hd : (fnS P I F G Dr fuel f).go = dirF P I F G Dr fuel f y := by
        refine dirO_eq P I F G Dr fuel ?_
        unfold dirO
        rw [hc]
      obtain ⟨s0, b1, b2⟩ := BL_ok hn
      funext call args tab h n k
      have e1 : dirF P I F G Dr fuel f y call args tab h n k = setArgsS args 0 (skT DD s0) fun t => denCD P I G f (!Dr f) fuel y.body (fBody (F f)) (.mk call [] tab) t h n (leaveKD (resXD P (fRes (F f))) k) := by
        rw [← b1]; rfl
      have hfr : Fr y.nt [] s0 := ⟨fun i hi => (by cases hi), b2⟩
      rw [hd, e1]
      have key : ∀ ρ', okRv y.nt (fRes (F f)) (keys ρ') = true → ∀ x, x = .normal ∨ x = .ret → Sim y.nt ρ' (leaveKD (resXD P (fRes (F f))) k x) (lvT (rvT P y.nt ρ' (fRes (F f))) k) := by
        intro ρ' hr x hx s hs c h n
        have e2 : leaveKD (resXD P (fRes (F f))) k x c (skT DD s) h n = leaveCD (resXD P (fRes (F f))) k c (skT DD s) h n := by rcases hx with rfl | rfl <;> rfl
        rw [e2, lvT_eq, rvT_ok hn hs hr]
      refine argsA_ok (nt := y.nt) (.mk call [] tab) h n _ np 0 args s0 [] _ _ (by omega) hfr ?_ ?_
      · intro ρ' s' hk q1 q2
        have hs' : Fr y.nt ρ' s' := by
          constructor
          · intro i hi
            rw [hk] at hi
            have := upto_mem hi
            exact q1 i (by omega) (by omega)
          · intro i hi
            by_cases hin : 0 ≤ i ∧ i < 0 + np
            · rw [q1 i hin.1 hin.2]; rfl
            · rw [q2 i hin]; exact b2 i hi
        refine tCode_ok (rok := okRv y.nt (fRes (F f))) hn I f (!Dr f) y.body an (fBody (F f)) (okRv y.nt (fRes (F f))) (fun _ _ => false) _ _ (leaveKD (resXD P (fRes (F f))) k) ρ'
          (fun ρ h => key ρ h _ (.inl rfl)) (fun id ρ h => by cases h) (fun ρ h => key ρ h _ (.inr rfl)) (by rw [hk]; exact h3) s' hs' (.mk call [] tab) h n
      · rw [hd, e1]
end
end Go.Ev
