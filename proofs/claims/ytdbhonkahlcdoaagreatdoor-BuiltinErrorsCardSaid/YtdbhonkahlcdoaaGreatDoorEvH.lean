/- A verified evaluator for the model's code (part EvH): own work, of no program. -/
import Derived.Test.YtdbhonkahlcdoaaGreatDoorEvG
namespace Go.Ev

/-- what a dispatch answers -/
noncomputable def vcase (v : CV) (tt ff : Bool) (fi : IntKind → Nat → Bool) (fs fp : Nat → Nat → Bool) (fl : Nat → Nat → Nat → Nat → Bool) (fa : List CV → Bool) (fo : CV → Bool) : Bool := CV.rec (motive_1 := fun _ => Bool) (motive_2 := fun _ => PUnit.{1}) (fun b => Bool.rec (motive := fun _ => Bool) ff tt b) (fun k n => Int.rec (motive := fun _ => Bool) (fun m => fi k m) (fun m => fo (.int k (.negSucc m))) n) (fun l c => fs l c) (fo .ptr0) (fun b o => fp b o) (fo .sl0) (fun b o l c => fl b o l c) (fo .slE) (fo .map0) (fun x0 => fo (.map x0)) (fun x0 x1 x2 _ _ => fo (.fn x0 x1 x2)) (fun x0 => fo (.yld x0)) (fo .fn0) (fun x0 x1 _ => fo (.ifc x0 x1)) (fo .ifc0) (fun cs _ => fa cs) (fun x0 _ => fo (.tup x0)) (fun x0 x1 => fo (.sym x0 x1)) (fun x0 x1 => fo (.ssym x0 x1)) (fun x0 x1 x2 x3 x4 => fo (.symr x0 x1 x2 x3 x4)) (fun x0 x1 x2 => fo (.lin x0 x1 x2)) (fun x0 => fo (.lstr x0)) .unit (fun _ _ _ _ => .unit) v
theorem val_enc (v : CV) (tt ff : Res) (fi : IntKind → Nat → Res) (fs fp : Nat → Nat → Res) (fl : Nat → Nat → Nat → Nat → Res) (fa : List CV → Res) (fo : CV → Res) :
    (encV v tt ff fi fs fp fl fa fo).val = vcase v tt.val ff.val (fun k n => (fi k n).val) (fun a b => (fs a b).val) (fun a b => (fp a b).val) (fun a b c d => (fl a b c d).val) (fun l => (fa l).val) (fun c => (fo c).val) := by
  cases v <;> try rfl
  · rename_i b; cases b <;> rfl
  · rename_i kd a; cases a <;> rfl
theorem tupB_eq (v : CV) (y n : Res) : tupB v y n = (match v with | .tup _ => y | _ => n) := by cases v <;> rfl
theorem encK_eq (v : CV) (k : V → Res) : encK v k = k (encV v) := by
  cases v <;> try rfl
  · rename_i b; cases b <;> rfl
  · rename_i kd n; cases n <;> rfl
theorem encOne_eq (v : CV) (k : V → Res) : encOne v k = oneKR v (k (encV v)) := by
  cases v <;> try rfl
  · rename_i b; cases b <;> rfl
  · rename_i kd n; cases n <;> rfl
theorem getK_or {α : Type} (t : Tr α) (i : Nat) : (∃ c, ∀ k : α → Bool, getK t i k = k c) ∨ ∀ k : α → Bool, getK t i k = false := by
  cases hg : t.get? i with
  | none => exact .inr fun k => by rw [getK_eq, hg]
  | some v => exact .inl ⟨v, fun k => by rw [getK_eq, hg]⟩
theorem getO_or (G : Nat → Bool) (x : Operand) (t : Tm) : (∃ c, ∀ k : CV → Bool, getO G x t k = k c) ∨ ∀ k : CV → Bool, getO G x t k = false := by
  cases x with
  | tmp i => exact getK_or t i
  | const v =>
    simp only [getO]
    cases ofValue v with
    | none => exact .inr fun _ => rfl
    | some c => exact .inl ⟨c, fun _ => rfl⟩
  | global g =>
    simp only [getO]
    cases G g with
    | false => exact .inr fun _ => rfl
    | true => exact .inl ⟨_, fun _ => rfl⟩
  | func f => exact .inl ⟨_, fun _ => rfl⟩
theorem ikN_inj {a b : IntKind} : Nat.beq (ikN a) (ikN b) = decide (a = b) := by cases a <;> cases b <;> rfl
theorem wrapK_nat {kd : IntKind} {r : Nat} {k : Int → Bool} (h : r ≤ maxN kd) : wrapK kd (Int.ofNat r) k = k (Int.ofNat r) := by
  have h1 : (leI kd.min (Int.ofNat r) && leI (Int.ofNat r) kd.max) = true := by
    rw [leI_eq, leI_eq]
    cases kd <;> simp [maxN] at h <;> simp [IntKind.min, IntKind.max, IntKind.signed, IntKind.bits] <;> omega
  unfold wrapK
  rw [h1]
  exact forceI_eq _ _
theorem blt_ble (a b : Nat) : Nat.blt a b = !(Nat.ble b a) := by
  cases h : Nat.ble b a with
  | true =>
    have h1 := Nat.le_of_ble_eq_true h
    cases hb : Nat.blt a b with
    | false => rfl
    | true => have : a < b := by simpa [Nat.blt_eq] using hb
              omega
  | false =>
    have h1 : ¬ b ≤ a := fun hh => by rw [Nat.ble_eq_true_of_le hh] at h; cases h
    have h2 : a < b := by omega
    show Nat.blt a b = true
    simpa [Nat.blt_eq] using h2
theorem natOp_run {op : BinOp} {F : Bx NatF} (hF : natOp op = some F) (kd : IntKind) (a b : Nat) (k : V → Res) (s : Res) (hs : s.val = intOp op kd (Int.ofNat a) (Int.ofNat b) fun r => (k (encV r)).val) :
    (F.go kd a b k s).val = intOp op kd (Int.ofNat a) (Int.ofNat b) fun r => (k (encV r)).val := by
  have wrapped : ∀ (r : Nat) (s : Res), s.val = wrapK kd (Int.ofNat r) (fun r => (k (encV (.int kd r))).val) → (fN .bad r (wrapN kd k s) : Res).val = s.val := by
    intro r s hs
    show (bIf (Nat.ble r (maxN kd)) (k (vInt kd r)) s).val = s.val
    cases hb : Nat.ble r (maxN kd) with
    | false => rfl
    | true => rw [hs, wrapK_nat (Nat.le_of_ble_eq_true hb)]; rfl
  have e0 : eqI (Int.ofNat b) 0 = Nat.beq b 0 := rfl
  rw [← hs]
  cases op <;> simp only [natOp, Option.some.injEq, reduceCtorEq] at hF <;> subst hF
  · exact wrapped (a + b) s hs
  · show (bIf (Nat.ble b a) _ _).val = _
    cases hb : Nat.ble b a with
    | false => rfl
    | true =>
      refine wrapped (a - b) s (hs.trans ?_)
      have := Nat.le_of_ble_eq_true hb
      show wrapK kd (Int.ofNat a - Int.ofNat b) _ = wrapK kd (Int.ofNat (a - b)) _
      congr 1
      simp only [Int.ofNat_eq_natCast]
      omega
  · refine wrapped (a * b) s (hs.trans ?_)
    show wrapK kd (Int.ofNat a * Int.ofNat b) _ = wrapK kd (Int.ofNat (a * b)) _
    congr 1
  · show (bIf (Nat.ble 1 b) _ _).val = _
    cases hb : Nat.ble 1 b with
    | false => rfl
    | true =>
      have hb0 : Nat.beq b 0 = false := by have := Nat.le_of_ble_eq_true hb; cases b with | zero => omega | succ b => rfl
      refine wrapped (a / b) s (hs.trans ?_)
      show (match eqI (Int.ofNat b) 0 with | true => false | false => wrapK kd ((Int.ofNat a).tdiv (Int.ofNat b)) fun r => (k (encV (.int kd r))).val) = wrapK kd (Int.ofNat (a / b)) _
      rw [e0, hb0]
      rfl
  · show (bIf (Nat.ble 1 b) _ _).val = _
    cases hb : Nat.ble 1 b with
    | false => rfl
    | true =>
      have hb0 : Nat.beq b 0 = false := by have := Nat.le_of_ble_eq_true hb; cases b with | zero => omega | succ b => rfl
      rw [hs]
      show (k (vInt kd (a % b))).val = (match eqI (Int.ofNat b) 0 with | true => false | false => forceI ((Int.ofNat a).tmod (Int.ofNat b)) fun r => (k (encV (.int kd r))).val)
      rw [e0, hb0]
      rfl
  · rw [hs]; show (bIf (Nat.beq a b) (k vTrue) (k vFalse)).val = kB (Nat.beq a b) fun r => (k (encV r)).val
    cases Nat.beq a b <;> rfl
  · rw [hs]; show (bIf (Nat.beq a b) (k vFalse) (k vTrue)).val = kB (!Nat.beq a b) fun r => (k (encV r)).val
    cases Nat.beq a b <;> rfl
  · rw [hs]; show (bIf (Nat.ble b a) (k vFalse) (k vTrue)).val = kB (Nat.blt a b) fun r => (k (encV r)).val
    rw [blt_ble]; cases Nat.ble b a <;> rfl
  · rw [hs]; show (bIf (Nat.ble a b) (k vTrue) (k vFalse)).val = kB (leI (Int.ofNat a) (Int.ofNat b)) fun r => (k (encV r)).val
    have : leI (Int.ofNat a) (Int.ofNat b) = Nat.ble a b := by
      show (match Nat.blt b a with | true => false | false => true) = _
      rw [blt_ble]; cases Nat.ble a b <;> rfl
    rw [this]; cases Nat.ble a b <;> rfl
  · rw [hs]; show (bIf (Nat.ble a b) (k vFalse) (k vTrue)).val = kB (Nat.blt b a) fun r => (k (encV r)).val
    rw [blt_ble]; cases Nat.ble a b <;> rfl
  · rw [hs]; show (bIf (Nat.ble b a) (k vTrue) (k vFalse)).val = kB (leI (Int.ofNat b) (Int.ofNat a)) fun r => (k (encV r)).val
    have : leI (Int.ofNat b) (Int.ofNat a) = Nat.ble b a := by
      show (match Nat.blt a b with | true => false | false => true) = _
      rw [blt_ble]; cases Nat.ble b a <;> rfl
    rw [this]; cases Nat.ble b a <;> rfl
theorem strOpS_run {op : BinOp} {F : Bx StrF} (hF : strOpS op = some F) (l c l' c' : Nat) (k : V → Res) (s : Res) (hs : s.val = strOp op l c l' c' fun r => (k (encV r)).val) :
    (F.go l c l' c' k s).val = strOp op l c l' c' fun r => (k (encV r)).val := by
  cases op <;> simp only [strOpS, Option.some.injEq, reduceCtorEq] at hF <;> subst hF
  · show (bIf (Nat.ble (l + l') 1000000) (k (vStr (l + l') (c * 256 ^ l' + c'))) s).val = _
    cases hb : Nat.ble (l + l') 1000000 with
    | false =>
      show s.val = (match Nat.ble (l + l') 1000000 with | true => (k (encV (.str (l + l') (c * 256 ^ l' + c')))).val | false => false)
      rw [hs]; rfl
    | true =>
      show (k (vStr (l + l') (c * 256 ^ l' + c'))).val = (match Nat.ble (l + l') 1000000 with | true => (k (encV (.str (l + l') (c * 256 ^ l' + c')))).val | false => false)
      rw [hb]; rfl
  · show (bIf (Nat.beq l l') (bIf (Nat.beq c c') (k vTrue) (k vFalse)) (k vFalse)).val = kB (Nat.beq l l' && Nat.beq c c') fun r => (k (encV r)).val
    cases Nat.beq l l' <;> cases Nat.beq c c' <;> rfl
  · show (bIf (Nat.beq l l') (bIf (Nat.beq c c') (k vFalse) (k vTrue)) (k vTrue)).val = kB (!(Nat.beq l l' && Nat.beq c c')) fun r => (k (encV r)).val
    cases Nat.beq l l' <;> cases Nat.beq c c' <;> rfl
theorem nthK_eq (l : List CV) : ∀ (i : Nat) (k : CV → Res), nthK l i k = match l[i]? with | some c => k c | none => .bad := by
  induction l with
  | nil => intro i k; rfl
  | cons a l ih =>
    intro i k
    cases i with
    | zero => rfl
    | succ i => rw [List.getElem?_cons_succ, ← ih]; rfl

section
variable {D : Nat} {P : Program} {G : Nat → Bool} {rd : Bool} {ops : Array Oper}
theorem decVs_enc (l : List CV) : ∀ k : List CV → Res, decVs (encVs l) k = k l := by
  induction l with
  | nil => intro k; rfl
  | cons c l ih =>
    intro k
    show decV (encV c) (fun c => decVs (encVs l) fun cs => k (c :: cs)) = k (c :: l)
    rw [decV_enc, ih]
theorem getC_eq (c : CV) (t : TmS D) (k : V → Res) : (getC c).go t k = k (encV c) := by
  cases c <;> try rfl
  · rename_i b; cases b <;> rfl
  · rename_i kd n; cases n <;> rfl
theorem getS_eq (x : Operand) (t : Tm) (k : V → Res) : ((getS (D := D) G x).go (encM D t) k).val = getO G x t fun c => (k (encV c)).val := by
  cases x with
  | tmp i =>
    show ((gT D i).go (encM D t) k).val = _
    rw [gT_eq, getKR_val]; rfl
  | const v =>
    simp only [getS, getO]
    cases ofValue v with
    | none => rfl
    | some c => exact congrArg Res.val (getC_eq c _ k)
  | global g =>
    simp only [getS, getO]
    cases G g <;> rfl
  | func f => rfl
theorem putS_eq (d : Option Tmp) (v : CV) (t : Tm) (k : TmS D → Res) : ((putS d).go (encM D t) (encV v) k).val = putT d v t fun t => (k (encM D t)).val := by
  cases d with
  | none => rfl
  | some d =>
    show ((pT D d).go (encM D t) (encV v) k).val = _
    rw [pT_eq, setKR_val]; rfl
theorem putW_eq (d : Option Tmp) (c : Cx D) (t : Tm) (h : HS D) (n : Nat) (k : KO D) (v : CV) : ((putW d).go c (encM D t) h n k (encV v)).val = putT d v t fun t => (k c (encM D t) h n).val := by
  simp only [putW, opened_eq, go_mk]
  exact putS_eq d v t _
theorem getsS_eq (xs : List Operand) : ∀ (t : Tm) (k : List V → Res), ((getsS (D := D) G xs).go (encM D t) k).val = getOs G xs t fun cs => (k (encVs cs)).val := by
  induction xs with
  | nil => intro t k; rfl
  | cons x xs ih =>
    intro t k
    have e : (getsS (D := D) G (x :: xs)) = (getS G x).opened fun X => (getsS G xs).opened fun R => .mk fun t k => X t ((fun t k v => R t ((fun k v vs => k (v :: vs)) k v)) t k) := rfl
    rw [e]
    simp only [opened_eq, go_mk]
    rw [getS_eq]
    show (getO G x t fun c => ((getsS G xs).go (encM D t) fun vs => k (encV c :: vs)).val) = getO G x t fun c => getOs G xs t fun cs => (k (encVs (c :: cs))).val
    simp only [ih]
    all_goals rfl
theorem getCs_eq (xs : List Operand) : ∀ (t : Tm) (k : List CV → Res), ((getCs (D := D) G xs).go (encM D t) k).val = getOs G xs t fun cs => (k cs).val := by
  induction xs with
  | nil => intro t k; rfl
  | cons x xs ih =>
    intro t k
    have e : (getCs (D := D) G (x :: xs)) = (getS G x).opened fun X => (getCs G xs).opened fun R => .mk fun t k => X t ((fun t k v => decV v ((fun t k c => R t ((fun k c cs => k (c :: cs)) k c)) t k)) t k) := rfl
    rw [e]
    simp only [opened_eq, go_mk]
    rw [getS_eq]
    simp only [decV_enc]
    show (getO G x t fun c => ((getCs G xs).go (encM D t) fun cs => k (c :: cs)).val) = getO G x t fun c => getOs G xs t fun cs => (k (c :: cs)).val
    simp only [ih]

/-- calls that answer alike -/
def CallOK (cS : CallS D) (c : CallFn) : Prop := ∀ f args (m : M) (k : V → Tab → HS D → Nat → Res), (cS f (encVs args) m.tab (encH D m.h) m.n k).val = c f args m fun v m => (k (encV v) m.tab (encH D m.h) m.n).val
theorem CallOK.eq {cS : CallS D} {c : CallFn} (hc : CallOK cS c) : CallEq (encH D) (unS cS) c := by
  intro f args m k
  show (mM ⟨encH D m.h, m.n, m.tab⟩ fun tab h n => cS f (encVs args) tab h n (fun v tab h n => decV v fun c => k c ⟨h, n, tab⟩)).val = _
  rw [mM_enc, hc]
  simp only [decV_enc]
  all_goals rfl

noncomputable def onS (cS : CallS D) (k : KO D) : Tm → List DF → M → Bool := fun t d m => (k (.mk cS d m.tab) (encM D t) (encH D m.h) m.n).val
/-- what a staged operation must do -/
def Good (P : Program) (G : Nat → Bool) (rd : Bool) (ops : Array Oper) (o : Oper) (B : Bx (OpF D)) : Prop :=
  ∀ (cS : CallS D) (c : CallFn), CallOK cS c → ∀ (d : List DF) (tab : Tab) (t : Tm) (h : Hp) (n : Nat) (k : KO D), (B.go (.mk cS d tab) (encM D t) (encH D h) n k).val = operC P G rd c ops o t d ⟨h, n, tab⟩ (onS cS k)
theorem slowS_good (o : Oper) : Good P G rd ops o (slowS (D := D) P G rd ops o) := fun cS _ hc d tab t h n k => by
  refine (operCR_val (law D) hc.eq ops o t d ⟨h, n, tab⟩ (fun t d m => mM m fun tab h n => k (.mk cS d tab) t h n)).trans ?_
  refine congrArg _ (funext fun t => funext fun d => funext fun m => ?_)
  exact congrArg Res.val (mM_enc m.h m.n m.tab _)

theorem operC_fl {cl : CallFn} {dst : Option Tmp} {op : Op} {type : TypeId} {pos : String} {after : Array Edge} {t : Tm} {d : List DF} {h : Hp} {n : Nat} {tab : Tab} {K : Tm → List DF → M → Bool} (hf : isFloat op = true) :
    operC P G rd cl ops ⟨dst, op, type, pos, after, none⟩ t d ⟨h, n, tab⟩ K = floatC P G op t h tab n (fun v nb tab => putT dst v t fun t' => match nb with
        | none => K t' d ⟨h, n, tab⟩
        | some cb => newB cb ⟨h, n, tab⟩ fun _ m' => K t' d m') := by
  simp only [operC, guardC, hf]
  all_goals rfl
variable {dst : Option Tmp} {type : TypeId} {pos : String} {after : Array Edge} {S : Bx (OpF D)}
theorem move_good {x : Operand} : Good (D := D) P G rd ops ⟨dst, .move x, type, pos, after, none⟩ (valS (putW dst) (getS G x)) := by
  intro cS c hc d tab t h n k
  rw [operC_fl rfl]
  simp only [valS, opened_eq, go_mk, floatC, getS_eq, putW_eq, onS]
theorem assign_good {x : Operand} : Good (D := D) P G rd ops ⟨dst, .assign x, type, pos, after, none⟩ (valS (putW dst) (getS G x)) := by
  intro cS c hc d tab t h n k
  rw [operC_fl rfl]
  simp only [valS, opened_eq, go_mk, floatC, getS_eq, putW_eq, onS]
theorem pick_good {c a b : Operand} : Good (D := D) P G rd ops ⟨dst, .pick c a b, type, pos, after, none⟩ (pickS (putW dst) (getS G c) (getS G a) (getS G b)) := by
  intro cS cl hc d tab t h n k
  rw [operC_fl rfl]
  simp only [pickS, opened_eq, go_mk, floatC, getS_eq, val_enc, putW_eq, onS]
  refine congrArg (getO G c t) (funext fun v => ?_)
  cases v <;> try rfl
  · rename_i b; cases b <;> rfl
  · rename_i kd i; cases i <;> rfl
theorem not_good {ty : TypeId} {x : Operand} : Good (D := D) P G rd ops ⟨dst, .unOp .not ty x, type, pos, after, none⟩ (notS (putW dst) (getS G x)) := by
  intro cS cl hc d tab t h n k
  rw [operC_fl rfl]
  have e1 : ∀ (c : Cx D) (t : Tm) (h : HS D) n k, ((putW dst).go c (encM D t) h n k vTrue).val = putT dst (.bool true) t fun t => (k c (encM D t) h n).val := fun c t h n k => putW_eq dst c t h n k (.bool true)
  have e2 : ∀ (c : Cx D) (t : Tm) (h : HS D) n k, ((putW dst).go c (encM D t) h n k vFalse).val = putT dst (.bool false) t fun t => (k c (encM D t) h n).val := fun c t h n k => putW_eq dst c t h n k (.bool false)
  simp only [notS, opened_eq, go_mk, floatC, getS_eq, val_enc, e1, e2, onS]
  refine congrArg (getO G x t) (funext fun v => ?_)
  cases v <;> try rfl
  · rename_i b; cases b <;> rfl
  · rename_i kd i; cases i <;> rfl
/-- at a pointer, and at its block -/
theorem atPtr_eq {X : Operand} {F : Bx (PtrF D)} {c : Cx D} {t : Tm} {h : HS D} {n : Nat} {k : KO D} {K : CV → Bool} (hK : ∀ v, (∀ b o, v ≠ .ptr b o) → K v = false) (hp : ∀ b o, (F.go c (encM D t) h n k b o).val = K (.ptr b o)) :
    ((atPtr (getS G X) F).go c (encM D t) h n k).val = getO G X t K := by
  simp only [atPtr, opened_eq, go_mk, getS_eq]
  refine congrArg (getO G X t) (funext fun v => ?_)
  cases v
  case ptr b o => exact hp b o
  case bool b => rw [hK _ (by simp)]; cases b <;> rfl
  case int kd a => rw [hK _ (by simp)]; cases a <;> rfl
  all_goals (rw [hK _ (by simp)]; rfl)
theorem atBlk_eq {F : Bx (BlkF D)} {c : Cx D} {t : TmS D} {h : Hp} {n : Nat} {k : KO D} {b i : Nat} {K : CB → Bool} (hK : ∀ cb, (∀ te lo es sz cs, cb ≠ .cells te lo es sz cs) → K cb = false)
    (hp : ∀ te lo es sz cs, (F.go c t (encH D h) n k b i te lo es sz (encM D cs)).val = K (.cells te lo es sz cs)) :
    ((atBlk F).go c t (encH D h) n k b i).val = getK h b K := by
  simp only [atBlk, opened_eq, go_mk, gH_eq, getKR_val]
  refine congrArg (getK h b) (funext fun cb => ?_)
  cases cb
  case cells te lo es sz cs => exact hp te lo es sz cs
  all_goals (rw [hK _ (by simp)]; rfl)
theorem load_good {ty : TypeId} {x : Operand} (ha : aggT P ty = some false) : Good (D := D) P G rd ops ⟨dst, .load ty x, type, pos, after, none⟩ (loadS (putW dst) (getS G x)) := by
  intro cS cl hc d tab t h n k
  rw [operC_fl rfl]
  refine atPtr_eq (fun v hv => ?_) (fun b o => ?_)
  · cases v <;> first | rfl | exact absurd rfl (hv _ _)
  · simp only [asPtr, loadC, withCells, ha]
    refine atBlk_eq (fun cb hcb => ?_) (fun te lo es sz cs => ?_)
    · cases cb <;> first | rfl | exact absurd rfl (hcb _ _ _ _ _)
    · simp only [opened_eq, go_mk, gT_eq, getKR_val, putW_eq, onS]
theorem loadNB_eq (sz : Nat) : ∀ (cs : Tr CV) (i : Nat) (k : List CV → Res), ((loadNB (D := D) sz).go (encM D cs) i k).val = loadN cs sz i fun l => (k l).val := by
  induction sz with
  | zero => intros; rfl
  | succ sz ih =>
    intro cs i k
    have e : (loadNB (D := D) (sz + 1)) = (loadNB sz).opened fun R => .mk fun cs i k => (gT D i).go cs ((fun cs i k v => decV v ((fun cs i k c => fN .bad (Nat.succ i) ((fun cs k c i => R cs i ((fun k c l => k (c :: l)) k c)) cs k c)) cs i k)) cs i k) := rfl
    rw [e]
    simp only [opened_eq, go_mk, gT_eq, getKR_val, decV_enc, fN_eq, ih]
    all_goals rfl
theorem loads_good {ty : TypeId} {x : Operand} {i : TypeInfo} (ha : aggT P ty = some true) (hi : P.info? ty = some i) : Good (D := D) P G rd ops ⟨dst, .load ty x, type, pos, after, none⟩ (loadsS (putW dst) (getS G x) i.size) := by
  intro cS cl hc d tab t h n k
  rw [operC_fl rfl]
  refine atPtr_eq (fun v hv => ?_) (fun b o => ?_)
  · cases v <;> first | rfl | exact absurd rfl (hv _ _)
  · simp only [asPtr, loadC, withCells, ha, szK, hi]
    refine atBlk_eq (fun cb hcb => ?_) (fun te lo es sz cs => ?_)
    · cases cb <;> first | rfl | exact absurd rfl (hcb _ _ _ _ _)
    · have e1 : ∀ (c : Cx D) (t : Tm) (h : HS D) n k l, ((putW dst).go c (encM D t) h n k (vAgg l)).val = putT dst (.agg l) t fun t => (k c (encM D t) h n).val := fun c t h n k l => putW_eq dst c t h n k (.agg l)
      simp only [opened_eq, go_mk, loadNB_eq, e1, onS]
theorem faddr_good {s : TypeId} {x : Operand} {f : Nat} {fd : Field} {i : TypeInfo} (hf : fieldOf P s f = some fd) (hi : P.info? fd.type = some i) (h0 : Nat.beq i.size 0 = false) :
    Good (D := D) P G rd ops ⟨dst, .fieldAddr s x f, type, pos, after, none⟩ (faddrS (putW dst) (getS G x) fd.offset) := by
  intro cS cl hc d tab t h n k
  rw [operC_fl rfl]
  simp only [floatC, hf, szK, hi, h0]
  refine atPtr_eq (fun v hv => ?_) (fun b o => ?_)
  · cases v <;> first | rfl | exact absurd rfl (hv _ _)
  · simp only [opened_eq, go_mk, fN_eq, asPtr]
    exact putW_eq dst _ t _ n k (.ptr b (o + fd.offset))
end
end Go.Ev

namespace Go.Ev
section
variable {D : Nat} {P : Program} {G : Nat → Bool} {rd : Bool} {ops : Array Oper}
variable {dst : Option Tmp} {type : TypeId} {pos : String} {after : Array Edge} {S : Bx (OpF D)}
variable {tt ff : Bool} {fi : IntKind → Nat → Bool} {fs fp : Nat → Nat → Bool} {fl : Nat → Nat → Nat → Nat → Bool} {fa : List CV → Bool} {fo : CV → Bool}
theorem encV_int (kd : IntKind) (a : Nat) : vcase (.int kd (.ofNat a)) tt ff fi fs fp fl fa fo = fi kd a := rfl
theorem encV_str (l c : Nat) : vcase (.str l c) tt ff fi fs fp fl fa fo = fs l c := rfl
theorem encV_ptr (l c : Nat) : vcase (.ptr l c) tt ff fi fs fp fl fa fo = fp l c := rfl
theorem encV_sl (b o l c : Nat) : vcase (.sl b o l c) tt ff fi fs fp fl fa fo = fl b o l c := rfl
theorem encV_agg (l : List CV) : vcase (.agg l) tt ff fi fs fp fl fa fo = fa l := rfl

theorem val_bIf (b : Bool) (x y : Res) : (bIf b x y).val = (match b with | true => x.val | false => y.val) := by cases b <;> rfl
theorem val_nthK (l : List CV) (i : Nat) (k : CV → Res) : (nthK l i k).val = match l[i]? with | some c => (k c).val | none => false := by
  rw [nthK_eq]; cases l[i]? <;> rfl
theorem putW_v (d : Option Tmp) (c : Cx D) (t : Tm) (h : HS D) (n : Nat) (k : KO D) :
    ((putW d).go c (encM D t) h n k vTrue).val = putT d (.bool true) t (fun t => (k c (encM D t) h n).val) ∧
    ((putW d).go c (encM D t) h n k vFalse).val = putT d (.bool false) t (fun t => (k c (encM D t) h n).val) ∧
    (∀ kd a, ((putW d).go c (encM D t) h n k (vInt kd a)).val = putT d (.int kd (.ofNat a)) t fun t => (k c (encM D t) h n).val) ∧
    (∀ l x, ((putW d).go c (encM D t) h n k (vStr l x)).val = putT d (.str l x) t fun t => (k c (encM D t) h n).val) ∧
    (∀ l x, ((putW d).go c (encM D t) h n k (vPtr l x)).val = putT d (.ptr l x) t fun t => (k c (encM D t) h n).val) ∧
    (∀ b o l x, ((putW d).go c (encM D t) h n k (vSl b o l x)).val = putT d (.sl b o l x) t fun t => (k c (encM D t) h n).val) ∧
    (∀ l, ((putW d).go c (encM D t) h n k (vAgg l)).val = putT d (.agg l) t fun t => (k c (encM D t) h n).val) ∧
    ((putW d).go c (encM D t) h n k vUndef).val = putT d undefC t (fun t => (k c (encM D t) h n).val) ∧
    (∀ ty v, ((putW d).go c (encM D t) h n k (vOth (.ifc ty v))).val = putT d (.ifc ty v) t fun t => (k c (encM D t) h n).val) :=
  ⟨putW_eq d c t h n k (.bool true), putW_eq d c t h n k (.bool false), fun kd a => putW_eq d c t h n k (.int kd (.ofNat a)), fun l x => putW_eq d c t h n k (.str l x), fun l x => putW_eq d c t h n k (.ptr l x),
    fun b o l x => putW_eq d c t h n k (.sl b o l x), fun l => putW_eq d c t h n k (.agg l), putW_eq d c t h n k (.tup []), fun ty v => putW_eq d c t h n k (.ifc ty v)⟩

theorem nilc_good {x : Operand} (hS : Good P G rd ops ⟨dst, .nilCheck x, type, pos, after, none⟩ S) : Good P G rd ops ⟨dst, .nilCheck x, type, pos, after, none⟩ (nilcS S (putW dst) (getS G x)) := by
  intro cS cl hc d tab t h n k
  have hS' := hS cS cl hc d tab t h n k
  rw [operC_fl rfl] at hS' ⊢
  simp only [nilcS, opened_eq, go_mk, getS_eq, val_enc, putW_v]
  simp only [floatC, onS] at hS' ⊢
  rcases getO_or G x t with ⟨v, hv⟩ | hv <;> simp only [hv] at hS' ⊢
  cases v <;> try exact hS'
  · rename_i b; cases b <;> exact hS'
  · rename_i kd a; cases a <;> exact hS'
  · rfl
theorem binN_good {op : BinOp} {ty yt : TypeId} {x y : Operand} {F : Bx NatF} (hF : natOp op = some F) (hS : Good P G rd ops ⟨dst, .binOp op ty x y yt, type, pos, after, none⟩ S) :
    Good P G rd ops ⟨dst, .binOp op ty x y yt, type, pos, after, none⟩ (binNS S (putW dst) (getS G x) (getS G y) F) := by
  intro cS cl hc d tab t h n k
  have hS' := hS cS cl hc d tab t h n k
  rw [operC_fl rfl] at hS' ⊢
  simp only [binNS, opened_eq, go_mk, getS_eq, val_enc]
  simp only [floatC, onS] at hS' ⊢
  rcases getO_or G x t with ⟨v, hv⟩ | hv <;> simp only [hv] at hS' ⊢
  rcases getO_or G y t with ⟨w, hw⟩ | hw <;> simp only [hw] at hS' ⊢
  · cases v <;> try exact hS'
    · rename_i b; cases b <;> exact hS'
    rename_i kd a
    cases a <;> try exact hS'
    rename_i a
    cases w <;> try exact hS'
    · rename_i b; cases b <;> exact hS'
    rename_i kd' b
    cases b <;> try exact hS'
    rename_i b
    simp only [encV_int, val_bIf, ikN_inj]
    by_cases hk : kd = kd'
    · subst hk
      have h1 : ∀ K : CV → Tab → Bool, binC P op ty (isC x) (isC y) (.int kd (Int.ofNat a)) (.int kd (Int.ofNat b)) h tab K = intOp op kd (Int.ofNat a) (Int.ofNat b) fun r => K r tab := by
        intro K; simp [binC]
      rw [h1] at hS' ⊢
      simp only [decide_true]
      have := natOp_run hF kd a b ((putW dst).go (.mk cS d tab) (encM D t) (encH D h) n k) _ (by simp only [putW_eq]; exact hS')
      rw [this]
      simp only [putW_eq]
    · simp only [hk, decide_false]; exact hS'
  · cases v <;> try exact hS'
    · rename_i b; cases b <;> exact hS'
    rename_i kd a
    cases a <;> first | exact hS' | rfl
theorem binT_good {op : BinOp} {ty yt : TypeId} {x y : Operand} {F : Bx StrF} (hF : strOpS op = some F) (hS : Good P G rd ops ⟨dst, .binOp op ty x y yt, type, pos, after, none⟩ S) :
    Good P G rd ops ⟨dst, .binOp op ty x y yt, type, pos, after, none⟩ (binTS S (putW dst) (getS G x) (getS G y) F) := by
  intro cS cl hc d tab t h n k
  have hS' := hS cS cl hc d tab t h n k
  rw [operC_fl rfl] at hS' ⊢
  simp only [binTS, opened_eq, go_mk, getS_eq, val_enc]
  simp only [floatC, onS] at hS' ⊢
  rcases getO_or G x t with ⟨v, hv⟩ | hv <;> simp only [hv] at hS' ⊢
  rcases getO_or G y t with ⟨w, hw⟩ | hw <;> simp only [hw] at hS' ⊢
  · cases v <;> try exact hS'
    · rename_i b; cases b <;> exact hS'
    · rename_i kd a; cases a <;> exact hS'
    cases w <;> try exact hS'
    · rename_i b; cases b <;> exact hS'
    · rename_i kd a; cases a <;> exact hS'
    rename_i l c l' c'
    have h1 : ∀ K : CV → Tab → Bool, binC P op ty (isC x) (isC y) (.str l c) (.str l' c') h tab K = strOp op l c l' c' fun r => K r tab := fun K => rfl
    rw [h1] at hS' ⊢
    simp only [encV_str]
    have := strOpS_run hF l c l' c' ((putW dst).go (.mk cS d tab) (encM D t) (encH D h) n k) _ (by simp only [putW_eq]; exact hS')
    rw [this]
    simp only [putW_eq]
  · cases v <;> try exact hS'
    · rename_i b; cases b <;> exact hS'
    · rename_i kd a; cases a <;> exact hS'
    rfl
theorem nilB_eq (v : CV) (y n : Res) : nilB v y n = (match v with | .ptr0 => y | _ => n) := by cases v <;> rfl
theorem val_nilB (v : CV) (y n : Res) : (nilB v y n).val = (match v with | .ptr0 => y.val | _ => n.val) := by cases v <;> rfl
theorem binP_good {ty yt el : TypeId} {x y : Operand} (hp : P.underlying ty = some (.pointer el)) :
    (∀ {S}, Good (D := D) P G rd ops ⟨dst, .binOp .eql ty x y yt, type, pos, after, none⟩ S → Good P G rd ops ⟨dst, .binOp .eql ty x y yt, type, pos, after, none⟩ (binPS S (putW dst) (getS G x) (getS G y) vTrue vFalse)) ∧
    (∀ {S}, Good (D := D) P G rd ops ⟨dst, .binOp .neq ty x y yt, type, pos, after, none⟩ S → Good P G rd ops ⟨dst, .binOp .neq ty x y yt, type, pos, after, none⟩ (binPS S (putW dst) (getS G x) (getS G y) vFalse vTrue)) := by
  constructor
  all_goals
    intro S hS cS cl hc d tab t h n k
    have hS' := hS cS cl hc d tab t h n k
    rw [operC_fl rfl] at hS' ⊢
    simp only [binPS, opened_eq, go_mk, getS_eq, val_enc, val_nilB, putW_v]
    simp only [floatC, onS] at hS' ⊢
    rcases getO_or G x t with ⟨v, hv⟩ | hv <;> simp only [hv] at hS' ⊢
    rcases getO_or G y t with ⟨w, hw⟩ | hw <;> simp only [hw] at hS' ⊢
    · cases v <;> try exact hS'
      · rename_i b; cases b <;> exact hS'
      · rename_i kd a; cases a <;> exact hS'
      all_goals
        cases w <;> try exact hS'
        all_goals first
          | (rename_i b; cases b <;> exact hS')
          | (rename_i kd a; cases a <;> exact hS')
          | (simp only [binC, eqBin, eqC, hp, kB, Bool.not_true, Bool.not_false]; rfl)
    · cases v <;> try exact hS'
      · rename_i b; cases b <;> exact hS'
      · rename_i kd a; cases a <;> exact hS'
      all_goals rfl
theorem convN_good {s e : TypeId} {x : Operand} {u : TypeDesc} {kd : IntKind} (hs : P.underlying s = some u) (he : P.underlying e = some (.int kd)) (hS : Good P G rd ops ⟨dst, .convert s e x, type, pos, after, none⟩ S) :
    Good P G rd ops ⟨dst, .convert s e x, type, pos, after, none⟩ (convNS S (putW dst) (getS G x) kd) := by
  intro cS cl hc d tab t h n k
  have hS' := hS cS cl hc d tab t h n k
  rw [operC_fl rfl] at hS' ⊢
  simp only [convNS, opened_eq, go_mk, getS_eq, val_enc]
  simp only [floatC, onS] at hS' ⊢
  rcases getO_or G x t with ⟨v, hv⟩ | hv <;> simp only [hv] at hS' ⊢
  cases v <;> try exact hS'
  · rename_i b; cases b <;> exact hS'
  rename_i kd' a
  cases a <;> try exact hS'
  rename_i a
  simp only [encV_int, val_bIf]
  cases hb : Nat.ble a (maxN kd) with
  | false => exact hS'
  | true => simp only [convC, hs, he, wrapK_nat (Nat.le_of_ble_eq_true hb), putW_v]
theorem convT_good {s e : TypeId} {x : Operand} {u : TypeDesc} (hs : P.underlying s = some u) (he : P.underlying e = some .string) (hS : Good P G rd ops ⟨dst, .convert s e x, type, pos, after, none⟩ S) :
    Good P G rd ops ⟨dst, .convert s e x, type, pos, after, none⟩ (convTS S (putW dst) (getS G x)) := by
  intro cS cl hc d tab t h n k
  have hS' := hS cS cl hc d tab t h n k
  rw [operC_fl rfl] at hS' ⊢
  simp only [convTS, opened_eq, go_mk, getS_eq, val_enc, putW_v]
  simp only [floatC, onS] at hS' ⊢
  rcases getO_or G x t with ⟨v, hv⟩ | hv <;> simp only [hv] at hS' ⊢
  cases v <;> try exact hS'
  · rename_i b; cases b <;> exact hS'
  · rename_i kd a; cases a <;> exact hS'
  simp only [encV_str, convC, hs, he]
theorem ifc_good {ty : TypeId} {x : Operand} (hi : isIfc P ty = false) : Good (D := D) P G rd ops ⟨dst, .makeInterface ty x, type, pos, after, none⟩ (ifcS (putW dst) (getS G x) ty) := by
  intro cS cl hc d tab t h n k
  rw [operC_fl rfl]
  simp only [ifcS, opened_eq, go_mk, floatC, getS_eq, decV_enc, putW_v, onS, hi]
theorem field_good {s : TypeId} {x : Operand} {f : Nat} {fd : Field} (hf : fieldOf P s f = some fd) (ha : aggT P fd.type = some false) :
    Good (D := D) P G rd ops ⟨dst, .field s x f, type, pos, after, none⟩ (fieldS (putW dst) (getS G x) fd.offset) := by
  intro cS cl hc d tab t h n k
  rw [operC_fl rfl]
  simp only [fieldS, opened_eq, go_mk, floatC, getS_eq, val_enc, val_nthK, encK_eq, putW_eq, onS, hf]
  refine congrArg (getO G x t) (funext fun v => ?_)
  cases v <;> try rfl
  · rename_i b; cases b <;> rfl
  · rename_i kd a; cases a <;> rfl
  simp only [encV_agg, partC, ha]
  all_goals rfl
theorem val_tupL (v : CV) (k : List CV → Res) : (tupL v k).val = (match v with | .tup l => (k l).val | _ => false) := by cases v <;> rfl
theorem extr_good {x : Operand} {i : Nat} : Good (D := D) P G rd ops ⟨dst, .extract x i, type, pos, after, none⟩ (extrS (putW dst) (getS G x) i) := by
  intro cS cl hc d tab t h n k
  rw [operC_fl rfl]
  simp only [extrS, opened_eq, go_mk, floatC, getS_eq, val_enc, val_nthK, encK_eq, putW_eq, onS, val_tupL]
  refine congrArg (getO G x t) (funext fun v => ?_)
  cases v <;> try rfl
  · rename_i b; cases b <;> rfl
  · rename_i kd a; cases a <;> rfl
theorem index_good {ty : TypeId} {x y : Operand} (hu : P.underlying ty = some .string) (hS : Good P G rd ops ⟨dst, .index ty x y, type, pos, after, none⟩ S) :
    Good P G rd ops ⟨dst, .index ty x y, type, pos, after, none⟩ (indexS S (putW dst) (getS G x) (getS G y)) := by
  intro cS cl hc d tab t h n k
  have hS' := hS cS cl hc d tab t h n k
  rw [operC_fl rfl] at hS' ⊢
  simp only [indexS, opened_eq, go_mk, getS_eq, val_enc, fN_eq]
  simp only [floatC, onS] at hS' ⊢
  rcases getO_or G x t with ⟨v, hv⟩ | hv <;> simp only [hv] at hS' ⊢
  rcases getO_or G y t with ⟨w, hw⟩ | hw <;> simp only [hw] at hS' ⊢
  · cases v <;> try exact hS'
    · rename_i b; cases b <;> exact hS'
    · rename_i kd a; cases a <;> exact hS'
    cases w <;> try exact hS'
    · rename_i b; cases b <;> exact hS'
    rename_i kd a
    cases a <;> try exact hS'
    simp only [encV_str, encV_int, val_bIf, putW_v, val_bad, asNat, hu]
    all_goals rfl
  · cases v <;> try exact hS'
    · rename_i b; cases b <;> exact hS'
    · rename_i kd a; cases a <;> exact hS'
    rfl
theorem iaddr_good {ty e : TypeId} {x y : Operand} {j : TypeInfo} (he : elemOfSl P ty = some e) (hj : P.info? e = some j) (hS : Good P G rd ops ⟨dst, .indexAddr ty x y, type, pos, after, none⟩ S) :
    Good P G rd ops ⟨dst, .indexAddr ty x y, type, pos, after, none⟩ (iaddrS S (putW dst) (getS G x) (getS G y) j.size) := by
  intro cS cl hc d tab t h n k
  have hS' := hS cS cl hc d tab t h n k
  rw [operC_fl rfl] at hS' ⊢
  simp only [iaddrS, opened_eq, go_mk, getS_eq, val_enc, fN_eq]
  simp only [floatC, onS] at hS' ⊢
  rcases getO_or G x t with ⟨v, hv⟩ | hv <;> simp only [hv] at hS' ⊢
  rcases getO_or G y t with ⟨w, hw⟩ | hw <;> simp only [hw] at hS' ⊢
  · cases v <;> try exact hS'
    · rename_i b; cases b <;> exact hS'
    · rename_i kd a; cases a <;> exact hS'
    cases w <;> try exact hS'
    · rename_i b; cases b <;> exact hS'
    rename_i kd a
    cases a <;> try exact hS'
    simp only [encV_sl, encV_int, val_bIf, putW_v, val_bad, asNat, he, hj, szK]
    all_goals rfl
  · cases v <;> try exact hS'
    · rename_i b; cases b <;> exact hS'
    · rename_i kd a; cases a <;> exact hS'
    rfl
end
end Go.Ev

namespace Go.Ev
section
variable {D : Nat} {P : Program} {G : Nat → Bool} {rd : Bool} {ops : Array Oper}
variable {dst : Option Tmp} {type : TypeId} {pos : String} {after : Array Edge} {S : Bx (OpF D)}
theorem oneS_eq (w : CV) (K s : Res) : oneS (encV w) K s = (match w with | .agg _ => s | .tup _ => s | _ => K) := by
  cases w <;> try rfl
  · rename_i b; cases b <;> rfl
  · rename_i kd a; cases a <;> rfl
theorem store_good {ty : TypeId} {x y : Operand} {i : TypeInfo} (hi : P.info? ty = some i) (h1 : Nat.beq 1 i.size = true) (hS : Good P G rd ops ⟨dst, .store ty x y, type, pos, after, none⟩ S) :
    Good P G rd ops ⟨dst, .store ty x y, type, pos, after, none⟩ (storeS S (putW dst) (getS G x) (getS G y)) := by
  intro cS cl hc d tab t h n k
  have e : ∀ K, operC P G rd cl ops ⟨dst, .store ty x y, type, pos, after, none⟩ t d ⟨h, n, tab⟩ K =
    getO G x t fun v => asPtr v fun b off => getO G y t fun w => storeC P ty b off w h fun h' => putT dst undefC t fun t' => K t' d ⟨h', n, tab⟩ := fun _ => rfl
  have hS' := hS cS cl hc d tab t h n k
  rw [e] at hS' ⊢
  simp only [onS] at hS' ⊢
  simp only [storeS, atPtr, stB, opened_eq, go_mk, getS_eq, val_enc, oneS_eq]
  rcases getO_or G x t with ⟨v, hv⟩ | hv <;> simp only [hv] at hS' ⊢
  cases v
  case ptr b o =>
    simp only [encV_ptr, asPtr] at hS' ⊢
    rcases getO_or G y t with ⟨w, hw⟩ | hw <;> simp only [hw] at hS' ⊢
    have main : (∀ k, oneK w k = k) → cellsOfCV w = [w] → ((gH D b).go (encH D h) (fun bs => bs (fun te lo es sz cs => (pT D o).go cs (encV w) fun cs => (pH D b).go (encH D h) (bCells D te lo es sz cs) fun h => (putW dst).go (.mk cS d tab) (encM D t) h n k vUndef) fC)).val =
        storeC P ty b o w h fun h' => putT dst undefC t fun t' => (k (.mk cS d tab) (encM D t') (encH D h') n).val := by
      intro c2 c1
      rw [gH_eq, getKR_val]
      simp only [storeC, withCells, szK, hi, c1]
      refine congrArg (getK h b) (funext fun cb => ?_)
      cases cb <;> try rfl
      rename_i te lo es sz cs
      simp only [List.length_cons, List.length_nil, Nat.zero_add, h1]
      show ((pT D o).go (encM D cs) (encV w) _).val = oneK w (setK w cs o _)
      rw [pT_eq, setKR_val, c2]
      refine congrArg (setK w cs o) (funext fun cs => ?_)
      have := pH_eq D b (.cells te lo es sz cs) h fun h => (putW dst).go (.mk cS d tab) (encM D t) h n k vUndef
      rw [show bCells D te lo es sz (encM D cs) = encB D (.cells te lo es sz cs) from rfl, this, setKR_val]
      simp only [putW_v]
    cases w <;> first | exact hS' | exact main (fun _ => rfl) rfl
  case bool b => cases b <;> rfl
  case int kd a => cases a <;> rfl
  all_goals rfl
theorem storeNB_eq (sz : Nat) : ∀ (l : List CV) (cs : Tr CV) (i : Nat) (k : TmS D → Res), ((storeNB (D := D) sz).go l (encM D cs) i k).val = match Nat.beq l.length sz with | true => storeN l i cs fun cs => (k (encM D cs)).val | false => false := by
  induction sz with
  | zero => intro l cs i k; cases l <;> rfl
  | succ sz ih =>
    intro l cs i k
    have e : (storeNB (D := D) (sz + 1)) = (storeNB sz).opened fun R => .mk fun l cs i k => List.rec (motive := fun _ => TmS D → Nat → (TmS D → Res) → Res) (fun _ _ _ => .bad)
      (fun v l _ cs i k => encOne v ((fun l cs i k x => (pT D i).go cs x ((fun l i k cs => fN .bad (Nat.succ i) ((fun l k cs i => R l cs i k) l k cs)) l i k)) l cs i k)) l cs i k := rfl
    rw [e]
    simp only [opened_eq, go_mk, encOne_eq, fN_eq]
    cases l with
    | nil => rfl
    | cons v l =>
      show (oneKR v ((pT D i).go (encM D cs) (encV v) fun cs => (storeNB sz).go l cs (Nat.succ i) k)).val = match Nat.beq l.length sz with | true => oneK v (setK v cs i fun cs' => storeN l (Nat.succ i) cs' fun cs => (k (encM D cs)).val) | false => false
      rw [oneKR_val, pT_eq, setKR_val]
      simp only [ih]
      cases hb : Nat.beq l.length sz with
      | true => rfl
      | false =>
        simp only []
        have : setK v cs i (fun _ => false) = false := by
          have hk : ∀ (f : Nat) (t : Tr CV) (j : Nat) (k : Tr CV → Bool), (∀ x, k x = false) → setF f t v j k = false := by
            intro f
            induction f with
            | zero => intros; rfl
            | succ f ih =>
              intro t j k hk
              obtain ⟨nd⟩ := t
              cases nd with
              | nil => rfl
              | node x a b c e =>
                cases j with
                | zero => exact hk _
                | succ p =>
                  have e : setF (f + 1) (.mk (.node x a b c e)) v (p + 1) k = kid (fun a b c d x v i ih k => ih a v i (fun a => k (.mk (.node x a b c d)))) (fun a b c d x v i ih k => ih b v i (fun b => k (.mk (.node x a b c d))))
                    (fun a b c d x v i ih k => ih c v i (fun c => k (.mk (.node x a b c d)))) (fun a b c d x v i ih k => ih d v i (fun d => k (.mk (.node x a b c d)))) (p % 4) a b c e x v (p / 4) (setF f) k := rfl
                  rw [e]
                  rcases (by omega : p % 4 = 0 ∨ p % 4 = 1 ∨ p % 4 = 2 ∨ p % 4 = 3) with hp | hp | hp | hp <;> rw [hp] <;> exact ih _ _ _ fun x => hk _
          exact hk _ _ _ _ fun _ => rfl
        rw [this]
        cases v <;> rfl
theorem stores_good {ty : TypeId} {x y : Operand} {i : TypeInfo} (hi : P.info? ty = some i) (hS : Good P G rd ops ⟨dst, .store ty x y, type, pos, after, none⟩ S) :
    Good P G rd ops ⟨dst, .store ty x y, type, pos, after, none⟩ (storesS S (putW dst) (getS G x) (getS G y) i.size) := by
  intro cS cl hc d tab t h n k
  have e : ∀ K, operC P G rd cl ops ⟨dst, .store ty x y, type, pos, after, none⟩ t d ⟨h, n, tab⟩ K =
    getO G x t fun v => asPtr v fun b off => getO G y t fun w => storeC P ty b off w h fun h' => putT dst undefC t fun t' => K t' d ⟨h', n, tab⟩ := fun _ => rfl
  have hS' := hS cS cl hc d tab t h n k
  rw [e] at hS' ⊢
  simp only [onS] at hS' ⊢
  simp only [storesS, atPtr, stsB, opened_eq, go_mk, getS_eq, val_enc]
  rcases getO_or G x t with ⟨v, hv⟩ | hv <;> simp only [hv] at hS' ⊢
  cases v
  case ptr b o =>
    simp only [encV_ptr, asPtr] at hS' ⊢
    rcases getO_or G y t with ⟨w, hw⟩ | hw <;> simp only [hw] at hS' ⊢
    cases w
    case agg l =>
      simp only [encV_agg, gH_eq, getKR_val]
      simp only [storeC, withCells, szK, hi, cellsOfCV]
      refine congrArg (getK h b) (funext fun cb => ?_)
      cases cb <;> try rfl
      rename_i te lo es sz cs
      show ((storeNB i.size).go l (encM D cs) o _).val = _
      rw [storeNB_eq]
      cases Nat.beq l.length i.size with
      | false => rfl
      | true =>
        simp only []
        refine congrArg (storeN l o cs) (funext fun cs => ?_)
        have := pH_eq D b (.cells te lo es sz cs) h fun h => (putW dst).go (.mk cS d tab) (encM D t) h n k vUndef
        rw [show bCells D te lo es sz (encM D cs) = encB D (.cells te lo es sz cs) from rfl, this, setKR_val]
        simp only [putW_v]
    case bool b => cases b <;> exact hS'
    case int kd a => cases a <;> exact hS'
    all_goals exact hS'
  case bool b => cases b <;> rfl
  case int kd a => cases a <;> rfl
  all_goals rfl
theorem call_good {c : Call} {f : FuncId} (hc : c.callee = .value (.func f)) : Good (D := D) P G rd ops ⟨dst, .call c, type, pos, after, none⟩ (callS1 (putW dst) (getsS G c.args.toList) f) := by
  intro cS cl hcl d tab t h n k
  obtain ⟨callee, args, tys⟩ := c
  simp only at hc
  subst hc
  have e : operC P G rd cl ops ⟨dst, .call ⟨.value (.func f), args, tys⟩, type, pos, after, none⟩ t d ⟨h, n, tab⟩ (onS cS k) =
    getOs G args.toList t fun as => cl (.func f) ([] ++ as ++ []) ⟨h, n, tab⟩ fun v m' => putT dst v t fun t' => onS cS k t' d m' := by
    cases rd <;> rfl
  rw [e]
  simp only [callS1, opened_eq, go_mk, getsS_eq]
  refine congrArg (getOs G args.toList t) (funext fun as => ?_)
  simp only [List.nil_append, List.append_nil]
  have := hcl (.func f) as ⟨h, n, tab⟩ fun v tab h n => (putW dst).go (.mk cS d tab) (encM D t) h n k v
  refine this.trans ?_
  simp only [putW_eq]
  all_goals rfl
theorem lenT_good {c : Call} {x : Operand} {ty : TypeId} (hc : c.callee = .builtin .len) (hx : c.args.toList = [x]) (ht : c.argTypes[0]? = some ty) (hu : P.underlying ty = some .string) (hS : Good P G rd ops ⟨dst, .call c, type, pos, after, none⟩ S) :
    Good P G rd ops ⟨dst, .call c, type, pos, after, none⟩ (lenTS S (putW dst) (getS G x)) := by
  intro cS cl hcl d tab t h n k
  have hS' := hS cS cl hcl d tab t h n k
  rw [operC_fl (by simp only [isFloat, hc])] at hS' ⊢
  simp only [lenTS, opened_eq, go_mk, getS_eq, val_enc, putW_v]
  simp only [floatC, onS, hc, hx, ht] at hS' ⊢
  rcases getO_or G x t with ⟨v, hv⟩ | hv <;> simp only [hv] at hS' ⊢
  cases v <;> try exact hS'
  · rename_i b; cases b <;> exact hS'
  · rename_i kd a; cases a <;> exact hS'
  simp only [encV_str, lenC, hu]
theorem val_sl0B (v : CV) (y n : Res) : (sl0B v y n).val = (match v with | .sl0 => y.val | _ => n.val) := by cases v <;> rfl
theorem lenL_good {c : Call} {x : Operand} {ty e : TypeId} (hc : c.callee = .builtin .len) (hx : c.args.toList = [x]) (ht : c.argTypes[0]? = some ty) (hu : P.underlying ty = some (.slice e)) (hS : Good P G rd ops ⟨dst, .call c, type, pos, after, none⟩ S) :
    Good P G rd ops ⟨dst, .call c, type, pos, after, none⟩ (lenLS S (putW dst) (getS G x)) := by
  intro cS cl hcl d tab t h n k
  have hS' := hS cS cl hcl d tab t h n k
  rw [operC_fl (by simp only [isFloat, hc])] at hS' ⊢
  simp only [lenLS, opened_eq, go_mk, getS_eq, val_enc, putW_v, val_sl0B]
  simp only [floatC, onS, hc, hx, ht] at hS' ⊢
  rcases getO_or G x t with ⟨v, hv⟩ | hv <;> simp only [hv] at hS' ⊢
  cases v <;> try exact hS'
  · rename_i b; cases b <;> exact hS'
  · rename_i kd a; cases a <;> exact hS'
  · simp only [lenC, hu]; rfl
  · simp only [encV_sl, lenC, hu]
end
end Go.Ev

namespace Go.Ev
noncomputable section
/-! Rows and structs, built -/
theorem ofListF_two {α : Type} : ∀ (f g : Nat) (l : List α), l.length ≤ f → l.length ≤ g → ofListF f l = ofListF g l := by
  intro f
  induction f with
  | zero =>
    intro g l h _
    have : l = [] := List.length_eq_zero_iff.1 (Nat.le_zero.1 h)
    subst this
    cases g <;> rfl
  | succ f ih =>
    intro g l h hg
    cases l with
    | nil => cases g <;> rfl
    | cons a l =>
      obtain ⟨g, rfl⟩ : ∃ g', g = g' + 1 := ⟨g - 1, by simp at hg; omega⟩
      have h' : l.length ≤ f := Nat.le_of_succ_le_succ h
      have hg' : l.length ≤ g := Nat.le_of_succ_le_succ hg
      show Tr.mk (.node a (ofListF f (ev4 l 0)) (ofListF f (ev4 l 1)) (ofListF f (ev4 l 2)) (ofListF f (ev4 l 3))) = Tr.mk (.node a (ofListF g (ev4 l 0)) (ofListF g (ev4 l 1)) (ofListF g (ev4 l 2)) (ofListF g (ev4 l 3)))
      rw [ih g _ (Nat.le_trans (ev4_len l 0) h') (Nat.le_trans (ev4_len l 0) hg'), ih g _ (Nat.le_trans (ev4_len l 1) h') (Nat.le_trans (ev4_len l 1) hg'),
        ih g _ (Nat.le_trans (ev4_len l 2) h') (Nat.le_trans (ev4_len l 2) hg'), ih g _ (Nat.le_trans (ev4_len l 3) h') (Nat.le_trans (ev4_len l 3) hg')]
theorem ofList_cons {α : Type} (a : α) (l : List α) : ofList (a :: l) = .mk (.node a (ofList (ev4 l 0)) (ofList (ev4 l 1)) (ofList (ev4 l 2)) (ofList (ev4 l 3))) := by
  show Tr.mk (.node a (ofListF l.length (ev4 l 0)) (ofListF l.length (ev4 l 1)) (ofListF l.length (ev4 l 2)) (ofListF l.length (ev4 l 3))) = _
  unfold ofList
  rw [ofListF_two l.length _ _ (ev4_len l 0) (Nat.le_refl _), ofListF_two l.length _ _ (ev4_len l 1) (Nat.le_refl _), ofListF_two l.length _ _ (ev4_len l 2) (Nat.le_refl _), ofListF_two l.length _ _ (ev4_len l 3) (Nat.le_refl _)]
def valB (c : CV) : Bx V := match c with
  | .bool b => match b with | true => .mk vTrue | false => .mk vFalse
  | .int kd a => match a with
    | .ofNat n => fN (.mk (vInt kd n)) n fun n => .mk (vInt kd n)
    | .negSucc n => .mk (vOth (.int kd (.negSucc n)))
  | .str l x => fN (.mk (vStr l x)) l fun l => fN (.mk (vStr l x)) x fun x => .mk (vStr l x)
  | c => .mk (vOth c)
theorem valB_go (c : CV) (h1 : ∀ b o, c ≠ .ptr b o) (h2 : ∀ b o l k, c ≠ .sl b o l k) (h3 : ∀ l, c ≠ .agg l) : (valB c).go = encV c := by
  cases c <;> try rfl
  · rename_i b; cases b <;> rfl
  · rename_i kd n; cases n <;> rfl
  · exact absurd rfl (h1 _ _)
  · exact absurd rfl (h2 _ _ _ _)
  · exact absurd rfl (h3 _)
/-- a value that a zero may hold -/
def zeroish (c : CV) : Bool := match c with | .ptr _ _ => false | .sl .. => false | .agg _ => false | _ => true
theorem valB_zero {c : CV} (h : zeroish c = true) : (valB c).go = encV c :=
  valB_go c (fun b o e => by subst e; cases h) (fun b o l k e => by subst e; cases h) (fun l e => by subst e; cases h)
def ofListB (d : Nat) : List CV → Bx (TS CV V d) := Nat.rec (motive := fun d => List CV → Bx (TS CV V d)) (fun l => .mk (ofList l))
  (fun d ih l => List.rec (motive := fun _ => Bx (TS CV V (d + 1))) (.mk (nilS (d + 1))) (fun a l _ => (valB a).opened fun a => (ih (ev4 l 0)).opened fun x => (ih (ev4 l 1)).opened fun y => (ih (ev4 l 2)).opened fun z => (ih (ev4 l 3)).opened fun w => .mk fun _ s => s a x y z w) l) d
theorem ev4_all {α : Type} {p : α → Bool} (l : List α) : ∀ r, l.all p = true → (ev4 l r).all p = true := by
  induction l with
  | nil => intro r h; rfl
  | cons a l ih =>
    intro r h
    simp only [List.all_cons, Bool.and_eq_true] at h
    cases r with
    | zero => show ((a :: ev4 l 3).all p) = true; rw [List.all_cons, h.1, ih 3 h.2]; rfl
    | succ r => exact ih r h.2
theorem ofListB_go (d : Nat) : ∀ l : List CV, l.all zeroish = true → (ofListB d l).go = encT encV d (ofList l) := by
  induction d with
  | zero => intro l _; rfl
  | succ d ih =>
    intro l hl
    cases l with
    | nil => exact nilS_eq encV (d + 1)
    | cons a l =>
      simp only [List.all_cons, Bool.and_eq_true] at hl
      have e : ofListB (d + 1) (a :: l) = (valB a).opened fun a => (ofListB d (ev4 l 0)).opened fun x => (ofListB d (ev4 l 1)).opened fun y => (ofListB d (ev4 l 2)).opened fun z => (ofListB d (ev4 l 3)).opened fun w => .mk fun _ s => s a x y z w := rfl
      rw [e, ofList_cons]
      simp only [opened_eq]
      rw [valB_zero hl.1, ih _ (ev4_all l 0 hl.2), ih _ (ev4_all l 1 hl.2), ih _ (ev4_all l 2 hl.2), ih _ (ev4_all l 3 hl.2)]
      rfl

section
variable {D : Nat}
def allocS (W : Bx (VK D)) (te sz : Nat) (T : Bx (TmS D)) : Bx (OpF D) := W.opened fun W => T.opened fun T => .mk fun c t h n k =>
  W c t h n ((fun k c t h n => (iH D n).go h (bCells D te false 0 sz T) ((fun c t n k h => fN .bad (Nat.succ n) ((fun c t h k n => k c t h n) c t h k)) c t n k)) k) (vPtr n 0)
/-- where a cell of a struct comes from -/
inductive Src where
  | op (x : Operand)
  | cv (c : CV)
abbrev ListF (D : Nat) := TmS D → (List CV → Res) → Res → Res
def one1 (c : CV) (y n : Res) : Res := oneS (encV c) y n
def consO (X : Bx (GetV D)) (R : Bx (ListF D)) : Bx (ListF D) := X.opened fun X => R.opened fun R => .mk fun t k s => X t ((fun t k s v => oneS v (decV v ((fun t k s c => R t ((fun k c l => k (c :: l)) k c) s) t k s)) s) t k s)
def consC (c : CV) (R : Bx (ListF D)) : Bx (ListF D) := R.opened fun R => .mk fun t k s => R t ((fun k l => k (c :: l)) k) s
def forceS {α : Type} (z : Bx α) (c : CV) (k : CV → Bx α) : Bx α := match c with
  | .str l n => fN z l fun l => fN z n fun n => k (.str l n)
  | .int kd a => match a with
    | .ofNat m => fN z m fun m => k (.int kd (.ofNat m))
    | .negSucc m => fN z m fun m => k (.int kd (.negSucc m))
  | c => k c
def srcsS (G : Nat → Bool) (l : List Src) : Bx (ListF D) := List.rec (motive := fun _ => Bx (ListF D)) (.mk fun _ k _ => k []) (fun x _ ih => match x with
  | .op x => consO (getS G x) ih
  | .cv c => forceS (consC c ih) c fun c => consC c ih) l
def aggF (S : Bx (OpF D)) (W : Bx (VK D)) (R : Bx (ListF D)) : Bx (OpF D) := W.opened fun W => R.opened fun R => .mk fun c t h n k => R t ((fun c t h n k l => W c t h n k (vAgg l)) c t h n k) (S.go c t h n k)
/-- the parts of a struct, laid over its zero -/
def layS (place : Nat → Option (Nat × Nat)) : List (Nat × Operand) → List Src → Option (List Src)
  | [], l => some l
  | (i, x) :: rest, l => match place i with
    | some (off, size) => match Nat.beq size 1 && Nat.ble (off + 1) l.length with
      | true => match l[off]? with
        | some (.cv _) => layS place rest (l.set off (.op x))
        | _ => none
      | false => none
    | none => none
end
end
section
variable {D : Nat} {P : Program} {G : Nat → Bool} {rd : Bool} {ops : Array Oper}
variable {dst : Option Tmp} {type : TypeId} {pos : String} {after : Array Edge} {S : Bx (OpF D)}
theorem alloc_good {e : TypeId} {z : List CV} (hz : zeroOf P e = some z) (ha : z.all zeroish = true) : Good (D := D) P G rd ops ⟨dst, .alloc e, type, pos, after, none⟩ (allocS (putW dst) (e + 1) z.length (ofListB D z)) := by
  intro cS cl hc d tab t h n k
  rw [operC_fl rfl]
  simp only [allocS, opened_eq, go_mk, putW_v, fN_eq, ofListB_go D z ha]
  simp only [floatC, hz, onS]
  refine congrArg (putT dst (.ptr n 0) t) (funext fun t' => ?_)
  have := iH_eq D n (.cells (e + 1) false 0 z.length (ofList z)) h fun h => k (.mk cS d tab) (encM D t') h (n + 1)
  refine (congrArg Res.val this).trans ?_
  rw [insKR_val]
  rfl
theorem forceS_eq {α : Type} (z : Bx α) (c : CV) (k : CV → Bx α) : forceS z c k = k c := by
  unfold forceS
  split
  · rfl
  · split <;> rfl
  · rfl
theorem getOs_or (G : Nat → Bool) (t : Tm) : ∀ xs : List Operand, (∃ f : Operand → CV, ∀ x ∈ xs, ∀ k : CV → Bool, getO G x t k = k (f x)) ∨ (∃ x ∈ xs, ∀ k : CV → Bool, getO G x t k = false)
  | [] => .inl ⟨fun _ => undefC, fun x hx => by cases hx⟩
  | x :: xs => by
    rcases getOs_or G t xs with ⟨f, hf⟩ | ⟨y, hy, h⟩
    · rcases getO_or G x t with ⟨v, hv⟩ | hv
      · classical
        refine .inl ⟨fun y => if y = x then v else f y, fun y hy k => ?_⟩
        by_cases hyx : y = x
        · subst hyx; simp [hv]
        · simp only [hyx, if_false]
          rcases List.mem_cons.1 hy with h | h
          · exact absurd h hyx
          · exact hf y h k
      · exact .inr ⟨x, by simp, hv⟩
    · exact .inr ⟨y, List.mem_cons_of_mem _ hy, h⟩
theorem getOs_val {t : Tm} {f : Operand → CV} : ∀ {xs : List Operand}, (∀ x ∈ xs, ∀ k : CV → Bool, getO G x t k = k (f x)) → ∀ k : List CV → Bool, getOs G xs t k = k (xs.map f)
  | [], _, k => rfl
  | x :: xs, h, k => by
    show getO G x t (fun c => getOs G xs t fun cs => k (c :: cs)) = _
    rw [h x (by simp)]
    rw [getOs_val (fun y hy => h y (List.mem_cons_of_mem _ hy))]
    rfl
theorem getOs_none {t : Tm} : ∀ {xs : List Operand}, (∃ x ∈ xs, ∀ k : CV → Bool, getO G x t k = false) → ∀ k : List CV → Bool, getOs G xs t k = false
  | [], ⟨x, hx, _⟩, k => by cases hx
  | x :: xs, ⟨y, hy, h⟩, k => by
    show getO G x t (fun c => getOs G xs t fun cs => k (c :: cs)) = _
    rcases List.mem_cons.1 hy with e | e
    · subst e; exact h _
    · rcases getO_or G x t with ⟨v, hv⟩ | hv
      · rw [hv]; exact getOs_none ⟨y, e, h⟩ _
      · exact hv _

theorem setList_one (l : List CV) (off : Nat) (v : CV) : setList l off [v] = l.set off v := rfl
inductive OV1 where
  | one
  | other
def oneV (v : CV) : OV1 := match v with | .agg _ => .other | .tup _ => .other | _ => .one
theorem oneV_one {w : CV} (h : oneV w = .one) : cellsOfCV w = [w] ∧ ∀ k, oneK w k = k := by cases w <;> first | exact ⟨rfl, fun _ => rfl⟩ | cases h
def srcVal (fv : Operand → CV) : Src → CV
  | .op x => fv x
  | .cv c => c
def opsOf (l : List Src) : List Operand := l.filterMap fun s => match s with | .op x => some x | .cv _ => none
theorem srcs_cons_op (x : Operand) (l : List Src) {t : Tm} (k : List CV → Res) (s : Res) : ((srcsS (D := D) G (.op x :: l)).go (encM D t) k s).val = getO G x t fun v => OV1.rec (motive := fun _ => Bool) ((srcsS G l).go (encM D t) (fun l => k (v :: l)) s).val s.val (oneV v) := by
  have e : srcsS (D := D) G (.op x :: l) = consO (getS G x) (srcsS G l) := rfl
  rw [e]
  simp only [consO, opened_eq, go_mk, getS_eq, oneS_eq, decV_enc]
  refine congrArg (getO G x t) (funext fun v => ?_)
  cases v <;> rfl
theorem srcs_cons_cv (c : CV) (l : List Src) {t : TmS D} (k : List CV → Res) (s : Res) : (srcsS (D := D) G (.cv c :: l)).go t k s = (srcsS G l).go t (fun l => k (c :: l)) s := by
  show (forceS (consC c (srcsS G l)) c fun c => consC c (srcsS G l)).go t k s = _
  rw [forceS_eq]
  simp only [consC, opened_eq, go_mk]
theorem srcs_run {t : Tm} {fv : Operand → CV} {s : Res} : ∀ (l : List Src), (∀ x ∈ opsOf l, ∀ k : CV → Bool, getO G x t k = k (fv x)) →
    ((∀ x ∈ opsOf l, oneV (fv x) = .one) ∧ ∀ k : List CV → Res, ((srcsS (D := D) G l).go (encM D t) k s).val = (k (l.map (srcVal fv))).val) ∨ ∀ k : List CV → Res, ((srcsS (D := D) G l).go (encM D t) k s).val = s.val
  | [], _ => .inl ⟨fun x hx => (by cases hx), fun k => rfl⟩
  | .cv c :: l, h => by
    rcases srcs_run (s := s) l (fun x hx => h x (by simpa [opsOf] using hx)) with ⟨h1, h2⟩ | h2
    · exact .inl ⟨fun x hx => h1 x (by simpa [opsOf] using hx), fun k => by rw [srcs_cons_cv, h2]; rfl⟩
    · exact .inr fun k => by rw [srcs_cons_cv, h2]
  | .op x :: l, h => by
    have hx := h x (by simp [opsOf])
    cases ho : oneV (fv x) with
    | other => exact .inr fun k => by rw [srcs_cons_op, hx, ho]
    | one =>
      rcases srcs_run (s := s) l (fun y hy => h y (by simp [opsOf] at hy ⊢; exact .inr hy)) with ⟨h1, h2⟩ | h2
      · refine .inl ⟨fun y hy => ?_, fun k => by rw [srcs_cons_op, hx, ho]; simp only [h2]; rfl⟩
        have : y = x ∨ y ∈ opsOf l := by simpa [opsOf] using hy
        rcases this with e | e
        · exact e ▸ ho
        · exact h1 y e
      · exact .inr fun k => by rw [srcs_cons_op, hx, ho]; simp only [h2]
theorem srcs_const {t : Tm} {s : Res} (hs : s.val = false) : ∀ (l : List Src) (k : List CV → Res), (∀ a, (k a).val = false) → ((srcsS (D := D) G l).go (encM D t) k s).val = false
  | [], k, hk => hk _
  | .cv c :: l, k, hk => by rw [srcs_cons_cv]; exact srcs_const hs l _ fun a => hk _
  | .op x :: l, k, hk => by
    rw [srcs_cons_op]
    rcases getO_or G x t with ⟨v, hv⟩ | hv
    · rw [hv]
      cases oneV v with
      | other => exact hs
      | one => exact srcs_const hs l _ fun a => hk _
    · exact hv _
theorem srcs_none {t : Tm} {s : Res} (hs : s.val = false) : ∀ (l : List Src), (∃ x ∈ opsOf l, ∀ k : CV → Bool, getO G x t k = false) → ∀ k : List CV → Res, ((srcsS (D := D) G l).go (encM D t) k s).val = false
  | [], ⟨x, hx, _⟩, k => by cases hx
  | .cv c :: l, ⟨x, hx, h⟩, k => by rw [srcs_cons_cv]; exact srcs_none hs l ⟨x, by simpa [opsOf] using hx, h⟩ _
  | .op x :: l, ⟨y, hy, h⟩, k => by
    rw [srcs_cons_op]
    have : y = x ∨ y ∈ opsOf l := by simpa [opsOf] using hy
    rcases this with e | e
    · subst e; exact h _
    · rcases getO_or G x t with ⟨v, hv⟩ | hv
      · rw [hv]
        cases oneV v with
        | other => exact hs
        | one => exact srcs_none hs l ⟨y, e, h⟩ _
      · exact hv _
theorem mem_opsOf {x : Operand} {l : List Src} : x ∈ opsOf l ↔ Src.op x ∈ l := by
  simp only [opsOf, List.mem_filterMap]
  constructor
  · rintro ⟨s, hs, h⟩
    cases s with
    | op y => simp at h; exact h ▸ hs
    | cv c => cases h
  · intro h; exact ⟨_, h, rfl⟩
/-- what is laid, is: the operands of the parts stand in the row, and no others -/
theorem lay_inv {place : Nat → Option (Nat × Nat)} : ∀ (parts : List (Nat × Operand)) (l0 l : List Src), layS place parts l0 = some l →
    (∀ x, Src.op x ∈ l ↔ (Src.op x ∈ l0 ∨ x ∈ parts.map (·.2))) ∧
    ∀ fv : Operand → CV, (∀ x ∈ parts.map (·.2), oneV (fv x) = .one) → fillC place ((parts.map (·.1)).zip ((parts.map (·.2)).map fv)) (l0.map (srcVal fv)) = some (l.map (srcVal fv))
  | [], l0, l, h => by
    simp only [layS, Option.some.injEq] at h
    subst h
    exact ⟨fun x => by simp, fun fv _ => rfl⟩
  | (i, x) :: parts, l0, l, h => by
    simp only [layS] at h
    split at h
    · rename_i off size hp
      split at h
      · rename_i hc
        split at h
        · rename_i c hoff
          obtain ⟨h1, h2⟩ := lay_inv parts _ l h
          simp only [Bool.and_eq_true, Nat.beq_eq] at hc
          obtain ⟨hs1, hle⟩ := hc
          have hle' : off + 1 ≤ l0.length := Nat.le_of_ble_eq_true hle
          refine ⟨fun y => ?_, fun fv ho => ?_⟩
          · rw [h1]
            have hset : Src.op y ∈ l0.set off (.op x) ↔ (Src.op y ∈ l0 ∨ y = x) := by
              rw [List.mem_iff_getElem?, List.mem_iff_getElem?]
              constructor
              · rintro ⟨j, hj⟩
                rw [List.getElem?_set] at hj
                split at hj
                · split at hj
                  · right; simpa using hj.symm
                  · cases hj
                · exact .inl ⟨j, hj⟩
              · rintro (⟨j, hj⟩ | e)
                · refine ⟨j, ?_⟩
                  rw [List.getElem?_set]
                  split
                  · rename_i e; subst e; rw [hj] at hoff; cases hoff
                  · exact hj
                · subst e
                  refine ⟨off, ?_⟩
                  rw [List.getElem?_set]; simp; omega
            rw [hset]
            simp only [List.map_cons, List.mem_cons]
            constructor
            · rintro ((h | h) | h)
              · exact .inl h
              · exact .inr (.inl h)
              · exact .inr (.inr h)
            · rintro (h | h | h)
              · exact .inl (.inl h)
              · exact .inl (.inr h)
              · exact .inr h
          · have hx := oneV_one (ho x (by simp))
            simp only [List.map_cons, List.zip_cons_cons, fillC, hp, hx.1]
            have hcond : (Nat.beq [fv x].length size && Nat.ble (off + size) (l0.map (srcVal fv)).length) = true := by
              rw [hs1]; simp [hle']
            rw [hcond]
            simp only [setList_one]
            have := h2 fv (fun y hy => ho y (by simp at hy ⊢; exact .inr hy))
            rw [← this, List.map_set]
            rfl
        · cases h
      · cases h
    · cases h
theorem agg_good {ty : TypeId} {parts : Array (Nat × Operand)} {z : List CV} {fields : Array Field} {l : List Src} (hz : zeroOf P ty = some z) (hu : P.underlying ty = some (.struct fields))
    (hf : (fields.toList.all fun f => (P.info? f.type).isSome) = true) (hl : layS (fun i => (fields[i]?).map fun f => (f.offset, P.cellsOf f.type)) parts.toList (z.map .cv) = some l)
    (hS : Good P G rd ops ⟨dst, .build ty parts, type, pos, after, none⟩ S) : Good P G rd ops ⟨dst, .build ty parts, type, pos, after, none⟩ (aggF S (putW dst) (srcsS G l)) := by
  intro cS cl hc d tab t h n k
  have hS' := hS cS cl hc d tab t h n k
  rw [operC_fl rfl] at hS' ⊢
  simp only [floatC, hz, hu, hf, onS] at hS' ⊢
  simp only [aggF, opened_eq, go_mk]
  obtain ⟨l1, l2⟩ := lay_inv _ _ _ hl
  have hno0 : ∀ x, Src.op x ∉ z.map Src.cv := by intro x hx; simp at hx
  have hops : ∀ x, x ∈ opsOf l ↔ x ∈ parts.toList.map (·.2) := by
    intro x
    rw [mem_opsOf, l1]
    constructor
    · rintro (h | h)
      · exact absurd h (hno0 x)
      · exact h
    · exact .inr
  rcases getOs_or G t (parts.toList.map (·.2)) with ⟨fv, hfv⟩ | ⟨x, hx, hno⟩
  · rw [getOs_val hfv] at hS' ⊢
    rcases srcs_run (D := D) (s := S.go (.mk cS d tab) (encM D t) (encH D h) n k) l (fun x hx => hfv x ((hops x).1 hx)) with ⟨hone, ht⟩ | ht
    · rw [ht]
      have hfill := l2 fv (fun x hx => hone x ((hops x).2 hx))
      have hzm : (z.map Src.cv).map (srcVal fv) = z := by
        rw [List.map_map]
        have : (srcVal fv ∘ Src.cv) = id := rfl
        rw [this, List.map_id]
      rw [hzm] at hfill
      rw [hfill]
      simp only [forceL_eq, putW_v]
    · rw [ht]; exact hS'
  · rw [getOs_none ⟨x, hx, hno⟩] at hS' ⊢
    exact srcs_none hS' l ⟨x, (hops x).2 hx, hno⟩ _
end
end Go.Ev

namespace Go.Ev
/-! Lists that are laid as tries, one after the other -/
theorem ev4_snoc {α : Type} (x : α) (l : List α) : ∀ r, r < 4 → ev4 (l ++ [x]) r = if l.length % 4 = r then ev4 l r ++ [x] else ev4 l r := by
  induction l with
  | nil =>
    intro r hr
    cases r with
    | zero => rfl
    | succ r => rfl
  | cons a l ih =>
    intro r hr
    cases r with
    | zero =>
      show a :: ev4 (l ++ [x]) 3 = _
      rw [ih 3 (by omega)]
      by_cases h : l.length % 4 = 3
      · rw [if_pos h, if_pos (by simp only [List.length_cons]; omega)]; rfl
      · rw [if_neg h, if_neg (by simp only [List.length_cons]; omega)]; rfl
    | succ r =>
      show ev4 (l ++ [x]) r = _
      rw [ih r (by omega)]
      by_cases h : l.length % 4 = r
      · rw [if_pos h, if_pos (by simp only [List.length_cons]; omega)]; rfl
      · rw [if_neg h, if_neg (by simp only [List.length_cons]; omega)]; rfl
theorem ev4_size {α : Type} (l : List α) : ∀ r, r < 4 → (ev4 l r).length = (l.length + 3 - r) / 4 := by
  induction l with
  | nil => intro r hr; show 0 = _; simp only [List.length_nil]; omega
  | cons a l ih =>
    intro r hr
    cases r with
    | zero => show (ev4 l 3).length + 1 = _; rw [ih 3 (by omega)]; simp only [List.length_cons]; omega
    | succ r => show (ev4 l r).length = _; rw [ih r (by omega)]; simp only [List.length_cons]; omega
theorem ins_snoc {α : Type} (x : α) : ∀ (n : Nat) (l : List α), l.length = n → ∀ k : Tr α → Res, insKR x (ofList l) l.length k = k (ofList (l ++ [x])) := by
  intro n
  induction n using Nat.strongRecOn with
  | ind n ih =>
    intro l hl k
    cases l with
    | nil => rfl
    | cons a l =>
      rw [ofList_cons, List.cons_append, ofList_cons]
      show insKR x (.mk (.node a _ _ _ _)) (l.length + 1) k = _
      rw [insKR_node]
      have hn : l.length < n := by rw [← hl]; simp
      have key : ∀ r, r < 4 → l.length % 4 = r → ∀ k : Tr α → Res, insKR x (ofList (ev4 l r)) (l.length / 4) k = k (ofList (ev4 l r ++ [x])) := by
        intro r hr he k
        have hs := ev4_size l r hr
        have : l.length / 4 = (ev4 l r).length := by rw [hs]; omega
        rw [this]
        exact ih _ (by rw [hs]; omega) _ rfl k
      have other : ∀ r, r < 4 → l.length % 4 ≠ r → ev4 (l ++ [x]) r = ev4 l r := fun r hr h => by rw [ev4_snoc x l r hr, if_neg h]
      have same : ∀ r, r < 4 → l.length % 4 = r → ev4 (l ++ [x]) r = ev4 l r ++ [x] := fun r hr h => by rw [ev4_snoc x l r hr, if_pos h]
      rcases (by omega : l.length % 4 = 0 ∨ l.length % 4 = 1 ∨ l.length % 4 = 2 ∨ l.length % 4 = 3) with g | g | g | g
      · rw [g]
        show insKR x (ofList (ev4 l 0)) _ _ = _
        rw [key 0 (by omega) g, same 0 (by omega) g, other 1 (by omega) (by omega), other 2 (by omega) (by omega), other 3 (by omega) (by omega)]
      · rw [g]
        show insKR x (ofList (ev4 l 1)) _ _ = _
        rw [key 1 (by omega) g, same 1 (by omega) g, other 0 (by omega) (by omega), other 2 (by omega) (by omega), other 3 (by omega) (by omega)]
      · rw [g]
        show insKR x (ofList (ev4 l 2)) _ _ = _
        rw [key 2 (by omega) g, same 2 (by omega) g, other 0 (by omega) (by omega), other 1 (by omega) (by omega), other 3 (by omega) (by omega)]
      · rw [g]
        show insKR x (ofList (ev4 l 3)) _ _ = _
        rw [key 3 (by omega) g, same 3 (by omega) g, other 0 (by omega) (by omega), other 1 (by omega) (by omega), other 2 (by omega) (by omega)]

noncomputable section
variable {D : Nat}
def pushL (l : List CV) : Nat → TmS D → (TmS D → Res) → Res := List.rec (motive := fun _ => Nat → TmS D → (TmS D → Res) → Res) (fun _ cs k => k cs)
  (fun v _ ih i cs k => encK v fun x => (iT D i).go cs x fun cs => fN .bad (Nat.succ i) fun i => ih i cs k) l
theorem pushL_eq (l : List CV) : ∀ (l0 : List CV) (k : TmS D → Res), pushL l l0.length (encM D (ofList l0)) k = k (encM D (ofList (l0 ++ l))) := by
  induction l with
  | nil => intro l0 k; rw [List.append_nil]; rfl
  | cons v l ih =>
    intro l0 k
    show encK v (fun x => (iT D l0.length).go (encM D (ofList l0)) x fun cs => fN .bad (Nat.succ l0.length) fun i => pushL l i cs k) = _
    simp only [encK_eq, iT_eq, fN_eq]
    rw [ins_snoc v _ l0 rfl]
    have := ih (l0 ++ [v]) k
    simp only [List.length_append, List.length_cons, List.length_nil, List.append_assoc, List.cons_append, List.nil_append] at this
    exact this
/-- a list, laid as a trie -/
def ofListK (l : List CV) (k : TmS D → Res) : Res := pushL l 0 (nilS D) k
theorem ofListK_eq (l : List CV) (k : TmS D → Res) : ofListK l k = k (encM D (ofList l)) := by
  unfold ofListK
  rw [nilS_eq encV]
  exact pushL_eq l [] k
def withCellsS (h : HS D) (b : Nat) (k : Nat → Bool → Nat → Nat → TmS D → Res) : Res := (gH D b).go h ((fun k bs => bs k fC) k)
theorem withCellsS_eq (h : Hp) (b : Nat) (k : Nat → Bool → Nat → Nat → TmS D → Res) : (withCellsS (encH D h) b k).val = withCells h b fun te lo es sz cs => (k te lo es sz (encM D cs)).val := by
  unfold withCellsS withCells
  rw [gH_eq, getKR_val]
  refine congrArg (getK h b) (funext fun cb => ?_)
  cases cb <;> rfl
def loadL (n : Nat) : TmS D → Nat → (List CV → Res) → Res := Nat.rec (motive := fun _ => TmS D → Nat → (List CV → Res) → Res) (fun _ _ k => k [])
  (fun _ ih cs i k => (gT D i).go cs fun v => decV v fun c => fN .bad (Nat.succ i) fun i => ih cs i fun l => k (c :: l)) n
theorem loadL_eq (n : Nat) : ∀ (cs : Tr CV) (i : Nat) (k : List CV → Res), (loadL n (encM D cs) i k).val = loadN cs n i fun l => (k l).val := by
  induction n with
  | zero => intros; rfl
  | succ n ih =>
    intro cs i k
    show ((gT D i).go (encM D cs) fun v => decV v fun c => fN .bad (Nat.succ i) fun i => loadL n (encM D cs) i fun l => k (c :: l)).val = _
    simp only [gT_eq, getKR_val, decV_enc, fN_eq, ih]
    all_goals rfl
def storeL (l : List CV) : Nat → TmS D → (TmS D → Res) → Res := List.rec (motive := fun _ => Nat → TmS D → (TmS D → Res) → Res) (fun _ cs k => k cs)
  (fun v _ ih i cs k => encOne v fun x => (pT D i).go cs x fun cs => fN .bad (Nat.succ i) fun i => ih i cs k) l
theorem storeL_eq (l : List CV) : ∀ (i : Nat) (cs : Tr CV) (k : TmS D → Res), (storeL l i (encM D cs) k).val = storeN l i cs fun cs => (k (encM D cs)).val := by
  induction l with
  | nil => intros; rfl
  | cons v l ih =>
    intro i cs k
    show (encOne v (fun x => (pT D i).go (encM D cs) x fun cs => fN .bad (Nat.succ i) fun i => storeL l i cs k)).val = oneK v (setK v cs i fun cs' => storeN l (Nat.succ i) cs' fun cs => (k (encM D cs)).val)
    rw [encOne_eq, oneKR_val, pT_eq, setKR_val]
    simp only [fN_eq, ih]
def pushNL (l : List CV) : Nat → TmS D → (TmS D → Res) → Res := List.rec (motive := fun _ => Nat → TmS D → (TmS D → Res) → Res) (fun _ cs k => k cs)
  (fun v _ ih i cs k => encOne v fun x => (iT D i).go cs x fun cs => fN .bad (Nat.succ i) fun i => ih i cs k) l
theorem pushNL_eq (l : List CV) : ∀ (i : Nat) (cs : Tr CV) (k : TmS D → Res), (pushNL l i (encM D cs) k).val = pushN l i cs fun cs => (k (encM D cs)).val := by
  induction l with
  | nil => intros; rfl
  | cons v l ih =>
    intro i cs k
    show (encOne v (fun x => (iT D i).go (encM D cs) x fun cs => fN .bad (Nat.succ i) fun i => pushNL l i cs k)).val = oneK v (insK v cs i fun cs' => pushN l (Nat.succ i) cs' fun cs => (k (encM D cs)).val)
    rw [encOne_eq, oneKR_val, iT_eq, insKR_val]
    simp only [fN_eq, ih]
def setCS (te : Nat) (lo : Bool) (es sz : Nat) (cs : TmS D) (h : HS D) (b : Nat) (k : HS D → Res) : Res := (pH D b).go h (bCells D te lo es sz cs) k
theorem setCS_eq (te : Nat) (lo : Bool) (es sz : Nat) (cs : Tr CV) (h : Hp) (b : Nat) (k : HS D → Res) : (setCS te lo es sz (encM D cs) (encH D h) b k).val = setK (.cells te lo es sz cs) h b fun h => (k (encH D h)).val :=
  (congrArg Res.val (pH_eq D b (.cells te lo es sz cs) h k)).trans (setKR_val _ _ _ _)
def setNS (h : HS D) (b : Nat) (k : HS D → Res) : Res := (pH D b).go h (bOth D .none) k
theorem setNS_eq (h : Hp) (b : Nat) (k : HS D → Res) : (setNS (encH D h) b k).val = setK .none h b fun h => (k (encH D h)).val := (congrArg Res.val (pH_eq D b .none h k)).trans (setKR_val _ _ _ _)
def newCS (te : Nat) (lo : Bool) (es sz : Nat) (cs : TmS D) (h : HS D) (n : Nat) (k : HS D → Nat → Res) : Res := (iH D n).go h (bCells D te lo es sz cs) fun h => fN .bad (Nat.succ n) fun n => k h n
theorem newCS_eq (te : Nat) (lo : Bool) (es sz : Nat) (cs : Tr CV) (h : Hp) (n : Nat) (tab : Tab) (k : HS D → Nat → Res) : (newCS te lo es sz (encM D cs) (encH D h) n k).val = newB (.cells te lo es sz cs) ⟨h, n, tab⟩ fun _ m => (k (encH D m.h) m.n).val := by
  refine (congrArg Res.val (iH_eq D n (.cells te lo es sz cs) h fun h => fN .bad (Nat.succ n) fun n => k h n)).trans ?_
  rw [insKR_val]
  rfl
def newKS (te : Nat) (lo : Bool) (es sz : Nat) (l : List CV) (h : HS D) (n : Nat) (k : HS D → Nat → Res) : Res := ofListK l fun cs => newCS te lo es sz cs h n k
theorem newKS_eq (te : Nat) (lo : Bool) (es sz : Nat) (l : List CV) (h : Hp) (n : Nat) (tab : Tab) (k : HS D → Nat → Res) : (newKS te lo es sz l (encH D h) n k).val = newB (.cells te lo es sz (ofList l)) ⟨h, n, tab⟩ fun _ m => (k (encH D m.h) m.n).val := by
  unfold newKS
  rw [ofListK_eq, newCS_eq _ _ _ _ _ _ _ tab]

/-! Append -/
def appendedS (str : Bool) (n : Nat) (x : CV) (h : HS D) (k : List CV → Nat → Res) : Res := match str with
  | false => match x with
    | .sl0 => k [] 0
    | .slE => k [] 0
    | .sl b off len _ => withCellsS h b fun _ _ _ _ cs => forceNR (len * n) fun c => loadL c cs off fun l => allOneR l (k l len)
    | _ => .bad
  | true => match x with
    | .str l c => match Nat.beq n 1 with
      | true => k ((decBytes l c).map fun b => .int .u8 b.toNat) l
      | false => .bad
    | .lstr bs => match Nat.beq n 1 with
      | true => forceNR bs.length fun l => k (bs.map fun f => byteC f.1 f.2) l
      | false => .bad
    | _ => .bad
def appendS (P : Program) (et : TypeId) (str : Bool) (n : Nat) (s x : CV) (h : HS D) (nb : Nat) (k : V → HS D → Nat → Res) : Res :=
  appendedS str n x h fun new cnt => match s with
    | .sl0 => match Nat.beq cnt 0 with
      | true => k (vOth .sl0) h nb
      | false => isTrueR (Nat.ble (4 * cnt * P.bytesOf et) 281474976710656) <| forceNR (cnt * n) fun sz =>
        newKS (et + 1) true n sz new h nb fun h' n' => k (vSl nb 0 cnt cnt) h' n'
    | .sl b off len cap => withCellsS h b fun te lo es sz cs => forceNR (len + cnt) fun need => match Nat.ble need cap with
      | true => forceNR (off + len * n) fun at_ => storeL new at_ cs fun cs' => setCS te lo es sz cs' h b fun h' => k (vSl b off need cap) h' nb
      | false => isTrueR (Nat.ble (4 * need * P.bytesOf et) 281474976710656) <| forceNR (need * n) fun sz' => match lo with
        | true => isTrueR (Nat.beq es n) <| isTrueR (Nat.beq (off + cap * es) sz) <| setNS h b fun h1 =>
          match Nat.beq off 0 && Nat.beq (len * es) sz with
          | true => pushNL new sz cs fun cs' => newCS (sameTe te (et + 1)) true es sz' cs' h1 nb fun h' n' => k (vSl nb 0 need need) h' n'
          | false => forceNR (len * es) fun c => loadL c cs off fun old => newKS (sameTe te (et + 1)) true es sz' (old ++ new) h1 nb fun h' n' => k (vSl nb 0 need need) h' n'
        | false => forceNR (len * n) fun c => loadL c cs off fun old => newKS (et + 1) true n sz' (old ++ new) h nb fun h' n' => k (vSl nb 0 need need) h' n'
    | _ => .bad
/-- what is known of the elements beforehand -/
def appOk (P : Program) (et : TypeId) (n : Nat) : Bool := !Nat.beq n 0 && (!Nat.beq (P.bytesOf et) 0 && (match zeroOf P et with | some z => Nat.beq z.length n | none => false))
end
theorem appendedS_eq {D : Nat} (str : Bool) (n : Nat) (x : CV) (h : Hp) (k : List CV → Nat → Res) : (appendedS str n x (encH D h) k).val = appended str n x h fun l c => (k l c).val := by
  cases str
  · cases x <;> try rfl
    unfold appendedS appended
    simp only [withCellsS_eq, forceNR_val, forceN_eq, loadL_eq, allOneR_val]
  · cases x <;> try rfl
    · unfold appendedS appended
      simp only []
      cases Nat.beq n 1 <;> rfl
    · unfold appendedS appended
      simp only []
      cases Nat.beq n 1 <;> rfl
theorem appendS_eq {D : Nat} {P : Program} {et : TypeId} {n : Nat} {i : TypeInfo} (hi : P.info? et = some i) (hn : i.size = n) (hk : appOk P et n = true) (str : Bool) (s x : CV) (h : Hp) (nb : Nat) (tab : Tab) (k : V → HS D → Nat → Res) :
    (appendS P et str n s x (encH D h) nb k).val = appendC P et str s x ⟨h, nb, tab⟩ fun v m => (k (encV v) (encH D m.h) m.n).val := by
  simp only [appOk, Bool.and_eq_true] at hk
  obtain ⟨k1, k2, k3⟩ := hk
  obtain ⟨z, hz, hzl⟩ : ∃ z, zeroOf P et = some z ∧ Nat.beq z.length n = true := by
    cases hz : zeroOf P et with
    | none => rw [hz] at k3; cases k3
    | some z => rw [hz] at k3; exact ⟨z, rfl, k3⟩
  have hT : ∀ b : Bool, isTrue true b = b := fun _ => rfl
  unfold appendS appendC tailC
  simp only [szK, hi, hn, k1, k2, hz, hzl, hT]
  refine (appendedS_eq str n x h _).trans (congrArg (appended str n x h) (funext fun new => funext fun cnt => ?_))
  cases s <;> try rfl
  case sl0 =>
    simp only []
    cases Nat.beq cnt 0 with
    | true => rfl
    | false =>
      simp only [isTrueR_val, forceNR_val, forceN_eq, newKS_eq _ _ _ _ _ _ _ tab]
      rfl
  case sl b off len cap =>
    simp only []
    refine (withCellsS_eq h b _).trans (congrArg (withCells h b) (funext fun te => funext fun lo => funext fun es => funext fun sz => funext fun cs => ?_))
    simp only [forceNR_val, forceN_eq]
    cases Nat.ble (len + cnt) cap with
    | true =>
      simp only [forceNR_val, forceN_eq, storeL_eq, setCS_eq]
      rfl
    | false =>
      simp only [isTrueR_val, forceNR_val, forceN_eq]
      refine congrArg (isTrue _) ?_
      cases lo with
      | true =>
        simp only [isTrueR_val, setNS_eq]
        refine congrArg (isTrue _) (congrArg (isTrue _) (congrArg (setK _ h b) (funext fun h1 => ?_)))
        cases Nat.beq off 0 && Nat.beq (len * es) sz with
        | true =>
          simp only [pushNL_eq, newCS_eq _ _ _ _ _ _ _ tab]
          rfl
        | false =>
          simp only [forceNR_val, forceN_eq, loadL_eq, newKS_eq _ _ _ _ _ _ _ tab]
          rfl
      | false =>
        simp only [forceNR_val, forceN_eq, loadL_eq, newKS_eq _ _ _ _ _ _ _ tab]
        rfl
end Go.Ev

namespace Go.Ev
noncomputable section
variable {D : Nat}
def boxS (W : Bx (VK D)) (X : Bx (GetV D)) : Bx (OpF D) := W.opened fun W => X.opened fun X => .mk fun c t h n k => X t ((fun c t h n k v => oneS v
  (W c t h n ((fun v k c t h n => (iT D 0).go (nilS D) v ((fun k c t h n cs => newCS 0 false 0 1 cs h n ((fun k c t h n => k c t h n) k c t)) k c t h n)) v k) (vPtr n 0))
  (decV v ((fun c t h n k cv => forceNR (cellsOfCV cv).length fun l => W c t h n ((fun l cs k c t h n => newKS 0 false 0 l cs h n ((fun k c t h n => k c t h n) k c t)) l (cellsOfCV cv) k) (vPtr n 0)) c t h n k))) c t h n k)
def flatK (n : Nat) (vs : List CV) : (List CV → Res) → Res := List.rec (motive := fun _ => (List CV → Res) → Res) (fun k => k [])
  (fun v _ ih k => match Nat.beq (cellsOfCV v).length n with | true => ih fun r => k (cellsOfCV v ++ r) | false => .bad) vs
def rowsS (G : Nat → Bool) (W : Bx (VK D)) (xs : List Operand) (n len sz : Nat) : Bx (OpF D) := W.opened fun W => (getCs G xs).opened fun R => .mk fun c t h nb k => R t ((fun c t h nb k vs => flatK n vs ((fun c t h nb k cs =>
  W c t h nb ((fun cs k c t h nb => newKS 0 false 0 sz cs h nb ((fun k c t h n => k c t h n) k c t)) cs k) (vSl nb 0 len len)) c t h nb k)) c t h nb k)
def isRow : List (Nat × Operand) → Nat → Nat → Bool
  | [], i, n => Nat.beq i n
  | (j, _) :: l, i, n => match Nat.beq i j with | true => isRow l (i + 1) n | false => false
def appO (P : Program) (et : TypeId) (str : Bool) (n : Nat) (W : Bx (VK D)) (X Y : Bx (GetV D)) : Bx (OpF D) := W.opened fun W => X.opened fun X => Y.opened fun Y => .mk fun c t h nb k => X t ((fun c t h nb k v => Y t ((fun c t h nb k v w =>
  decV v ((fun c t h nb k w v => decV w ((fun c t h nb k v w => appendS P et str n v w h nb ((fun c t k v h n => W c t h n k v) c t k)) c t h nb k v)) c t h nb k w)) c t h nb k v)) c t h nb k)
end
section
variable {D : Nat} {P : Program} {G : Nat → Bool} {rd : Bool} {ops : Array Oper}
variable {dst : Option Tmp} {type : TypeId} {pos : String} {after : Array Edge} {S : Bx (OpF D)}
theorem one_nil (v : CV) (k : TmS D → Res) : (iT D 0).go (nilS D) (encV v) k = k (encM D (ofList [v])) := by
  rw [nilS_eq encV]
  exact iT_eq D 0 v (.mk .nil) k
theorem box_good {e : TypeId} {x : Operand} : Good (D := D) P G rd ops ⟨dst, .box e x, type, pos, after, none⟩ (boxS (putW dst) (getS G x)) := by
  intro cS cl hc d tab t h n k
  rw [operC_fl rfl]
  simp only [boxS, opened_eq, go_mk, getS_eq, oneS_eq, decV_enc]
  simp only [floatC, onS]
  refine congrArg (getO G x t) (funext fun v => ?_)
  cases v <;> simp only [putW_v, one_nil, forceNR_val, newCS_eq _ _ _ _ _ _ _ tab, newKS_eq _ _ _ _ _ _ _ tab] <;> rfl
theorem setList_app (dn : List CV) : ∀ (xs rest : List CV) (off : Nat), dn.length = off → xs.length ≤ rest.length → setList (dn ++ rest) off xs = dn ++ xs ++ rest.drop xs.length := by
  intro xs
  induction xs generalizing dn with
  | nil => intro rest off _ _; simp [setList]
  | cons x xs ih =>
    intro rest off hd hr
    obtain ⟨r, rest, rfl⟩ : ∃ r rest', rest = r :: rest' := by cases rest with | nil => simp at hr | cons r rest => exact ⟨_, _, rfl⟩
    show setList ((dn ++ r :: rest).set off x) (off + 1) xs = _
    have hset : (dn ++ r :: rest).set off x = (dn ++ [x]) ++ rest := by
      rw [List.set_append_right _ _ (by omega), ← hd]; simp
    rw [hset, ih (dn ++ [x]) rest (off + 1) (by simp [hd]) (by simpa using hr)]
    simp
theorem fill_rows (n : Nat) : ∀ (parts : List (Nat × Operand)) (vs : List CV) (i len : Nat), isRow parts i len = true → vs.length = parts.length → ∀ (dn rest : List CV), dn.length = i * n → rest.length = (len - i) * n →
    ∀ K : List CV → Res, (match fillC (fun i => some (i * n, n)) ((parts.map (·.1)).zip vs) (dn ++ rest) with | some cs => K cs | none => .bad) = flatK n vs (fun r => K (dn ++ r))
  | [], vs, i, len, h, hv, dn, rest, hd, hr, K => by
    have hn : i = len := by simpa [isRow] using h
    subst hn
    have : rest = [] := List.length_eq_zero_iff.1 (by rw [hr]; simp)
    subst this
    have : vs = [] := List.length_eq_zero_iff.1 hv
    subst this
    rfl
  | (j, x) :: parts, vs, i, len, h, hv, dn, rest, hd, hr, K => by
    simp only [isRow] at h
    split at h
    · rename_i hij
      have hij : i = j := by simpa using hij
      subst hij
      obtain ⟨v, vs, rfl⟩ : ∃ v vs', vs = v :: vs' := by cases vs with | nil => simp at hv | cons v vs => exact ⟨_, _, rfl⟩
      have hlen : ∀ (parts : List (Nat × Operand)) (i len : Nat), isRow parts i len = true → len = i + parts.length := by
        intro parts
        induction parts with
        | nil => intro i len h; have : i = len := by simpa [isRow] using h
                 simp [this]
        | cons p parts ih =>
          intro i len h
          obtain ⟨j, x⟩ := p
          simp only [isRow] at h
          split at h
          · have := ih _ _ h; simp only [List.length_cons]; omega
          · cases h
      have hl := hlen _ _ _ h
      have hrn : n ≤ rest.length := by rw [hr, hl]; have : i + 1 + parts.length - i = parts.length + 1 := by omega
                                       rw [this, Nat.add_mul]; omega
      simp only [List.map_cons, List.zip_cons_cons, fillC]
      show (match (match Nat.beq (cellsOfCV v).length n && Nat.ble (i * n + n) (dn ++ rest).length with | true => _ | false => _ : Option (List CV)) with | some cs => K cs | none => Res.bad) =
        (match Nat.beq (cellsOfCV v).length n with | true => flatK n vs fun r => K (dn ++ (cellsOfCV v ++ r)) | false => .bad)
      have hb : Nat.ble (i * n + n) (dn ++ rest).length = true := by
        rw [Nat.ble_eq, List.length_append]; omega
      rw [hb, Bool.and_true]
      cases hc : Nat.beq (cellsOfCV v).length n with
      | false => rfl
      | true =>
        have hc' : (cellsOfCV v).length = n := by simpa using hc
        simp only []
        rw [setList_app dn _ rest (i * n) hd (by omega)]
        have := fill_rows n parts vs (i + 1) len h (by simpa using hv) (dn ++ cellsOfCV v) (rest.drop (cellsOfCV v).length) (by simp [hd, hc', Nat.add_mul]) (by
          rw [List.length_drop, hr, hc', hl]
          have e1 : i + 1 + parts.length - i = parts.length + 1 := by omega
          have e2 : i + 1 + parts.length - (i + 1) = parts.length := by omega
          rw [e1, e2, Nat.add_mul]; omega) K
        rw [this]
        simp only [List.append_assoc]
    · cases h
theorem rows_good {ty e : TypeId} {len : Nat} {parts : Array (Nat × Operand)} {z : List CV} {i : TypeInfo} (he : elemOfSl P ty = some e) (hz : zeroOf P e = some z) (hi : P.info? e = some i)
    (hk : (Nat.ble (len * z.length) 65536 && (Nat.beq z.length i.size && isRow parts.toList 0 len)) = true) :
    Good (D := D) P G rd ops ⟨dst, .buildSlice ty len parts, type, pos, after, none⟩ (rowsS G (putW dst) (parts.toList.map (·.2)) i.size len (len * z.length)) := by
  intro cS cl hc d tab t h n k
  rw [operC_fl rfl]
  simp only [Bool.and_eq_true] at hk
  obtain ⟨k1, k2, k3⟩ := hk
  have hzl : z.length = i.size := by simpa using k2
  simp only [rowsS, opened_eq, go_mk, getCs_eq]
  simp only [floatC, he, hz, szK, hi, k1, k2, Bool.true_and, onS, forceN_eq]
  have hgl : ∀ (xs : List Operand) (K K' : List CV → Bool), (∀ vs, vs.length = xs.length → K vs = K' vs) → getOs G xs t K = getOs G xs t K' := by
    intro xs
    induction xs with
    | nil => intro K K' h; exact h [] rfl
    | cons x xs ih =>
      intro K K' h
      show getO G x t (fun c => getOs G xs t fun cs => K (c :: cs)) = getO G x t (fun c => getOs G xs t fun cs => K' (c :: cs))
      refine congrArg (getO G x t) (funext fun c => ih _ _ fun vs hv => h _ (by simp [hv]))
  refine hgl _ _ _ fun vs hv => ?_
  have := fill_rows i.size parts.toList vs 0 len k3 (by simpa using hv) [] (repl len z) (by simp) (by simp [repl, hzl]) fun cs => (putW dst).go (.mk cS d tab) (encM D t) (encH D h) n
    (fun c t h nb => newKS 0 false 0 (len * z.length) cs h nb fun h n => k c t h n) (vSl n 0 len len)
  simp only [List.nil_append] at this
  refine (congrArg Res.val this.symm).trans ?_
  cases fillC (fun i_1 => some (i_1 * i.size, i.size)) ((parts.toList.map (·.1)).zip vs) (repl len z) with
  | none => rfl
  | some cs =>
    simp only [putW_v, newKS_eq _ _ _ _ _ _ _ tab]
    rfl
theorem app_good {c : Call} {x y : Operand} {tx ty e : TypeId} {str : Bool} {i : TypeInfo} (hc : c.callee = .builtin .append) (hx : c.args.toList = [x, y]) (ht : c.argTypes.toList = [tx, ty]) (he : elemOfSl P tx = some e)
    (hi : P.info? e = some i) (hk : appOk P e i.size = true)
    (hu : (str = false ∧ ∃ a, P.underlying ty = some (.slice a)) ∨ (str = true ∧ P.underlying ty = some .string)) :
    Good (D := D) P G rd ops ⟨dst, .call c, type, pos, after, none⟩ (appO P e str i.size (putW dst) (getS G x) (getS G y)) := by
  intro cS cl hcl d tab t h n k
  obtain ⟨callee, args, tys⟩ := c
  simp only at hc hx ht
  subst hc
  have e1 : operC P G rd cl ops ⟨dst, .call ⟨.builtin .append, args, tys⟩, type, pos, after, none⟩ t d ⟨h, n, tab⟩ (onS cS k) =
    (actC P G cl (.call ⟨.builtin .append, args, tys⟩) t ⟨h, n, tab⟩ fun v m' => putT dst v t fun t' => onS cS k t' d m') := by
    cases rd <;> rfl
  rw [e1]
  simp only [appO, opened_eq, go_mk, getS_eq, decV_enc, appendS_eq hi rfl hk _ _ _ _ _ tab, putW_eq, actC, hx, ht, he]
  have htab : ∀ (s x : CV) (F : CV → M → Bool) (F' : CV → M → Bool), (∀ v m, m.tab = tab → F v m = F' v m) → appendC P e str s x ⟨h, n, tab⟩ F = appendC P e str s x ⟨h, n, tab⟩ F' := by
    intro s x F F' hF
    unfold appendC tailC
    simp only [szK, hi, newB]
    have hF' : ∀ v h' n', F v ⟨h', n', tab⟩ = F' v ⟨h', n', tab⟩ := fun v h' n' => hF v _ rfl
    simp only [hF']
  rcases hu with ⟨rfl, a, hu⟩ | ⟨rfl, hu⟩ <;> simp only [hu]
  all_goals
    refine congrArg (getO G x t) (funext fun v => congrArg (getO G y t) (funext fun w => ?_))
    refine htab _ _ _ _ fun v m hm => ?_
    simp only [onS, hm]
end
end Go.Ev
