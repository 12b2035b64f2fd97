/- A verified evaluator for the model's code (part EvO): own work, of no program. -/
import Derived.Test.YtdbhonkahlcdoaaGreatDoorEvK
import Derived.Below
namespace Go.Ev
noncomputable section
/-! The evaluator that knows panics, over any form of frames and heaps -/
abbrev QFnX (H : Type) := Fn → List CV → MX H → KAX H → (CV → MX H → Res) → Res
abbrev KPR (T H : Type) := CV → List Nat → T → List DF → MX H → Res
abbrev EvQX (T H : Type) := T → List DF → MX H → KXX T H → KPR T H → Res
section
variable {T H : Type} (S : Sig T H) (P : Program) (G : Nat → Bool)
def operQR (call : CallX H) (q : QFnX H) (PS : FuncId → Bool) (ops : Array Oper) (o : Oper) (t : T) (d : List DF) (m : MX H) (k : T → List DF → MX H → Res) (kp : CV → MX H → Res) : Res :=
  match o.guard with
  | some _ => operCR S P G false call ops o t d m k
  | none => match o.op with
    | .panic x => getOR S G x t fun v => match v with
      | .ifc .. => kp v m
      | _ => .bad
    | .call c => match c.callee with
      | .value f => getOR S G f t fun fv => match fv with
        | .fn f first cap => match f with
          | .func g => match PS g with
            | true => getOsR S G c.args.toList t fun args => q (.func g) (first ++ args ++ cap) m (fun v m => putTR S o.dst v t fun t => k t d m) kp
            | false => operCR S P G false call ops o t d m k
          | _ => operCR S P G false call ops o t d m k
        | _ => operCR S P G false call ops o t d m k
      | _ => operCR S P G false call ops o t d m k
    | _ => operCR S P G false call ops o t d m k
def opsQR (call : CallX H) (q : QFnX H) (PS : FuncId → Bool) (ops : Array Oper) (l : List Oper) : T → List DF → MX H → (T → List DF → MX H → Res) → KPR T H → Res :=
  lrec (fun t d m k _ => k t d m) (fun o _ ih t d m k kp => operQR S P G call q PS ops o t d m (fun t d m => ih t d m k kp) (fun v m => kp v [] t d m)) l
def planQR (call : CallX H) (q : QFnX H) (PS : FuncId → Bool) (ops : Array Oper) (l : List Go.Ev.PS) : T → List DF → MX H → (T → List DF → MX H → Res) → KPR T H → Res :=
  lrec (fun t d m k _ => k t d m) (fun s _ ih t d m k kp => match s with
    | .fl i => match ops[i]? with
      | some o => operCR S P G false call ops o t d m fun t d m => ih t d m k kp
      | none => .bad
    | .ch i again => match ops[i]? with
      | some o => operQR S P G call q PS ops o t d m (fun t d m => isTrueR (again.all fun j => (againCR S P G ops t m j).val) (ih t d m k kp)) (fun v m => kp v (dsts ops) t d m)
      | none => .bad) l
def opsXR (call : CallX H) (ops : Array Oper) (l : List Oper) : T → List DF → MX H → (T → List DF → MX H → Res) → Res :=
  lrec (fun t d m k => k t d m) (fun o _ ih t d m k => operCR S P G false call ops o t d m fun t d m => ih t d m k) l
def loopQR (body : EvQX T H) (fuel : Nat) : EvQX T H :=
  Nat.rec (motive := fun _ => EvQX T H) (fun _ _ _ _ _ => .bad)
    (fun _ ih t d m k kp => body t d m (fun x t d m => match x with
      | .normal => ih t d m k kp
      | .exit id => k (.exit id) t d m
      | .ret => k .ret t d m) kp) fuel
def codeQR (cd : Code → CodeX T H) (call : CallX H) (q : QFnX H) (PS : FuncId → Bool) (fuel : Nat) (c : Code) : EvQX T H :=
  Code.rec (motive := fun _ => EvQX T H)
    (fun t d m k _ => k .normal t d m)
    (fun _ ops draw t d m k kp => match draw with
      | false => opsQR S P G call q PS ops ops.toList t d m (fun t d m => k .normal t d m) kp
      | true => isTrueR (drawOk P ops) (planQR S P G call q PS ops (planOf P ops) t d m (fun t d m => k .normal t d m) kp))
    (fun _ _ a b t d m k kp => a t d m (fun x t d m => match x with
      | .normal => b t d m k kp
      | .exit id => k (.exit id) t d m
      | .ret => k .ret t d m) kp)
    (fun c _ _ a b t d m k kp => getOR S G c t fun v => asBoolR v fun b' => match b' with | true => a t d m k kp | false => b t d m k kp)
    (fun id _ a t d m k kp => a t d m (fun x t d m => match x with
      | .normal => k .normal t d m
      | .exit j => match Nat.beq j id with | true => k .normal t d m | false => k (.exit j) t d m
      | .ret => k .ret t d m) kp)
    (fun _ a => loopQR a fuel)
    (fun f ps a b _ _ t d m k _ => cd (.rangeFunc f ps a b) t d m k)
    (fun id t d m k _ => k (.exit id) t d m)
    (fun _ _ _ _ _ _ _ => .bad)
    (fun _ t d m k _ => k .normal t d m)
    (fun _ _ _ _ _ _ => .bad)
    (fun t d m k _ => k .ret t d m)
    (fun _ _ _ _ _ _ => .bad) c
def setAR (as : List CV) : Nat → T → (T → Res) → Res := lrec (fun _ t k => k t) (fun a _ ih i t k => S.sT a t i fun t' => ih (Nat.succ i) t' k) as
def callStepQR (cd : FuncId → Code → CodeX T H) (fuel : Nat) (call : CallX H) (q : QFnX H) (PS : FuncId → Bool) : QFnX H := fun f args m k kp => match f with
  | .func f => match P.funcs[f]? with
    | some fn => match fn.body with
      | some c => setAR S args 0 (S.nT (blank fn.ntmps)) fun t => codeQR S P G (cd f) call q PS fuel c t [] m (fun x t d m => match x with
          | .exit _ => .bad
          | _ => defersCR S call d m fun m => resultsCR S P fn.results.toList t m fun vs => match vs with
            | [v] => k v m
            | vs => k (.tup vs) m) (fun v _ _ d m => match d with | [] => kp v m | _ => .bad)
      | none => .bad
    | none => .bad
  | _ => .bad
def callQR (cd : FuncId → Code → CodeX T H) (fuel : Nat) (call : CallX H) (PS : FuncId → Bool) (depth : Nat) : QFnX H :=
  Nat.rec (motive := fun _ => QFnX H) (fun _ _ _ _ _ => .bad) (fun _ q => callStepQR S P G cd fuel call q PS) depth
def opsVR (call : CallX H) (ops : Array Oper) (l : List Oper) (v : CV) (t : T) (d : List DF) (m : MX H) (k : T → List DF → MX H → Res) : Res := match l with
  | [] => .bad
  | o :: l => match isRec o with
    | true => putTR S o.dst v t fun t => opsXR S P G call ops l t d m k
    | false => .bad
def codeVR (cd : Code → CodeX T H) (call : CallX H) (v : CV) (c : Code) : CodeX T H :=
  Code.rec (motive := fun _ => CodeX T H)
    (fun _ _ _ _ => .bad)
    (fun _ ops draw t d m k => match draw with
      | false => opsVR S P G call ops ops.toList v t d m (fun t d m => k .normal t d m)
      | true => .bad)
    (fun _ b a _ t d m k => a t d m (fun x t d m => match x with
      | .normal => cd b t d m k
      | .exit id => k (.exit id) t d m
      | .ret => k .ret t d m))
    (fun _ _ _ _ _ _ _ _ _ => .bad)
    (fun id _ a t d m k => a t d m (fun x t d m => match x with
      | .normal => k .normal t d m
      | .exit j => match Nat.beq j id with | true => k .normal t d m | false => k (.exit j) t d m
      | .ret => k .ret t d m))
    (fun _ _ _ _ _ _ => .bad)
    (fun _ _ _ _ _ _ _ _ _ _ => .bad)
    (fun _ _ _ _ _ => .bad)
    (fun _ _ _ _ _ _ => .bad)
    (fun _ _ _ _ _ => .bad)
    (fun _ _ _ _ _ => .bad)
    (fun _ _ _ _ => .bad)
    (fun _ _ _ _ _ => .bad) c
def recFR (cd : FuncId → Code → CodeX T H) (call : CallX H) (g : FuncId) (args : List CV) (v : CV) (m : MX H) (km : MX H → Res) : Res := match P.funcs[g]? with
  | some fn => match fn.body with
    | some c => setAR S args 0 (S.nT (blank fn.ntmps)) fun t => codeVR S P G (cd g) call v c t [] m fun x t d m => match x with
      | .exit _ => .bad
      | _ => match d with
        | [] => resultsCR S P fn.results.toList t m fun _ => km m
        | _ => .bad
    | none => .bad
  | none => .bad
def recCR (cd : FuncId → Code → CodeX T H) (fuel : Nat) (call : CallX H) (q : QFnX H) (PS : FuncId → Bool) (f : FuncId) (args : List CV) (m : MX H) (k : KAX H) : Res := match P.funcs[f]? with
  | some fn => match fn.body with
    | some c => setAR S args 0 (S.nT (blank fn.ntmps)) fun t => codeQR S P G (cd f) call q PS fuel c t [] m (fun x t d m => match x with
        | .exit _ => .bad
        | _ => defersCR S call d m fun m => resultsCR S P fn.results.toList t m fun vs => match vs with
          | [v] => k v m
          | vs => k (.tup vs) m)
        (fun v W t d m => match d with
          | [x] => match x with
            | .call g args cap => match g with
              | .func g => isTrueR (wOk W fn.results.toList) <| recFR S P G cd call g (args ++ cap) v m fun m => resultsCR S P fn.results.toList t m fun vs => match vs with
                | [v] => k v m
                | vs => k (.tup vs) m
              | _ => .bad
            | _ => .bad
          | _ => .bad)
    | none => .bad
  | none => .bad
def longCR (off n : Nat) (args : List CV) (h : H) (k : Bool → Res) : Res := match args with
  | x :: _ => match x with
    | .ptr b o => S.gH h b fun cb => match cb with
      | .cells _ _ _ _ cs => getKR cs (o + off) fun v => match v with
        | .sl _ _ len _ => match Nat.ble n len with | true => k true | false => k false
        | _ => k false
      | _ => k false
    | _ => k false
  | _ => k false
end
end
section
variable {T H : Type} {S : Sig T H} {eT : Tm → T} {eH : Hp → H} {P : Program} {G : Nat → Bool}
def QEq (eH : Hp → H) (qX : QFnX H) (q : QFn) : Prop := ∀ f args m k kp, (qX f args (eM eH m) k kp).val = q f args m (fun v m => (k v (eM eH m)).val) (fun v m => (kp v (eM eH m)).val)
def CQEq (eT : Tm → T) (eH : Hp → H) (cX : EvQX T H) (c : EvQ) : Prop := ∀ t d m k kp, (cX (eT t) d (eM eH m) k kp).val = c t d m (fun x t d m => (k x (eT t) d (eM eH m)).val) (fun v W t d m => (kp v W (eT t) d (eM eH m)).val)
theorem operQR_val (L : Law S eT eH) {cX : CallX H} {c : CallFn} (hc : CallEq eH cX c) {qX : QFnX H} {q : QFn} (hq : QEq eH qX q) (PS : FuncId → Bool) (ops : Array Oper) (o : Oper) (t : Tm) (d : List DF) (m : M) (k : T → List DF → MX H → Res) (kp : CV → MX H → Res) :
    (operQR S P G cX qX PS ops o (eT t) d (eM eH m) k kp).val = operQ P G c q PS ops o t d m (fun t d m => (k (eT t) d (eM eH m)).val) (fun v m => (kp v (eM eH m)).val) := by
  have plain := operCR_val (P := P) (G := G) L (rd := false) hc ops o t d m k
  unfold operQR operQ
  cases hg : o.guard with
  | some g => exact plain
  | none =>
    simp only []
    cases ho : o.op
    case panic x =>
      simp only [getOR_val L]
      refine congrArg (getO G x t) (funext fun v => ?_)
      cases v <;> rfl
    case call cc =>
      simp only []
      cases hcal : cc.callee
      case value f =>
        simp only [getOR_val L]
        refine congrArg (getO G f t) (funext fun fv => ?_)
        cases fv
        case fn fn first cap =>
          cases fn
          case func g =>
            simp only []
            cases PS g with
            | false => exact plain
            | true =>
              simp only [getOsR_val L]
              refine congrArg (getOs G cc.args.toList t) (funext fun args => ?_)
              refine (hq _ _ m _ _).trans ?_
              simp only [putTR_val L]
          all_goals exact plain
        all_goals exact plain
      all_goals exact plain
    all_goals exact plain
theorem opsQR_val (L : Law S eT eH) {cX : CallX H} {c : CallFn} (hc : CallEq eH cX c) {qX : QFnX H} {q : QFn} (hq : QEq eH qX q) (PS : FuncId → Bool) (ops : Array Oper) (l : List Oper) : ∀ (t : Tm) (d : List DF) (m : M) (k : T → List DF → MX H → Res) (kp : KPR T H),
    (opsQR S P G cX qX PS ops l (eT t) d (eM eH m) k kp).val = opsQ P G c q PS ops l t d m (fun t d m => (k (eT t) d (eM eH m)).val) (fun v W t d m => (kp v W (eT t) d (eM eH m)).val) := by
  induction l with
  | nil => intros; rfl
  | cons o l ih =>
    intro t d m k kp
    show (operQR S P G cX qX PS ops o (eT t) d (eM eH m) (fun t d m => opsQR S P G cX qX PS ops l t d m k kp) (fun v m => kp v [] (eT t) d m)).val =
      operQ P G c q PS ops o t d m (fun t d m => opsQ P G c q PS ops l t d m (fun t d m => (k (eT t) d (eM eH m)).val) (fun v W t d m => (kp v W (eT t) d (eM eH m)).val)) (fun v m => (kp v [] (eT t) d (eM eH m)).val)
    rw [operQR_val L hc hq]
    simp only [ih]
theorem planQR_val (L : Law S eT eH) {cX : CallX H} {c : CallFn} (hc : CallEq eH cX c) {qX : QFnX H} {q : QFn} (hq : QEq eH qX q) (PS : FuncId → Bool) (ops : Array Oper) (l : List Go.Ev.PS) : ∀ (t : Tm) (d : List DF) (m : M) (k : T → List DF → MX H → Res) (kp : KPR T H),
    (planQR S P G cX qX PS ops l (eT t) d (eM eH m) k kp).val = planQ P G c q PS ops l t d m (fun t d m => (k (eT t) d (eM eH m)).val) (fun v W t d m => (kp v W (eT t) d (eM eH m)).val) := by
  induction l with
  | nil => intros; rfl
  | cons s l ih =>
    intro t d m k kp
    cases s with
    | fl i =>
      show (match ops[i]? with | some o => operCR S P G false cX ops o (eT t) d (eM eH m) (fun t d m => planQR S P G cX qX PS ops l t d m k kp) | none => Res.bad).val =
        (match ops[i]? with | some o => operC P G false c ops o t d m (fun t d m => planQ P G c q PS ops l t d m (fun t d m => (k (eT t) d (eM eH m)).val) (fun v W t d m => (kp v W (eT t) d (eM eH m)).val)) | none => false)
      cases ops[i]? with
      | none => rfl
      | some o =>
        simp only []
        rw [operCR_val L hc]
        simp only [ih]
    | ch i again =>
      show (match ops[i]? with | some o => operQR S P G cX qX PS ops o (eT t) d (eM eH m) (fun t d m => isTrueR (again.all fun j => (againCR S P G ops t m j).val) (planQR S P G cX qX PS ops l t d m k kp)) (fun v m => kp v (dsts ops) (eT t) d m) | none => Res.bad).val =
        (match ops[i]? with | some o => operQ P G c q PS ops o t d m (fun t d m => isTrue (again.all fun j => againC P G ops t m j) (planQ P G c q PS ops l t d m (fun t d m => (k (eT t) d (eM eH m)).val) (fun v W t d m => (kp v W (eT t) d (eM eH m)).val))) (fun v m => (kp v (dsts ops) (eT t) d (eM eH m)).val) | none => false)
      cases ops[i]? with
      | none => rfl
      | some o =>
        simp only []
        rw [operQR_val L hc hq]
        simp only [isTrueR_val, againCR_val L, ih]
theorem opsXR_val (L : Law S eT eH) {cX : CallX H} {c : CallFn} (hc : CallEq eH cX c) (ops : Array Oper) (l : List Oper) : ∀ (t : Tm) (d : List DF) (m : M) (k : T → List DF → MX H → Res),
    (opsXR S P G cX ops l (eT t) d (eM eH m) k).val = opsC P G false c ops l t d m (fun t d m => (k (eT t) d (eM eH m)).val) := by
  induction l with
  | nil => intros; rfl
  | cons o l ih =>
    intro t d m k
    show (operCR S P G false cX ops o (eT t) d (eM eH m) (fun t d m => opsXR S P G cX ops l t d m k)).val = operC P G false c ops o t d m (fun t d m => opsC P G false c ops l t d m _)
    rw [operCR_val L hc]
    simp only [ih]
theorem loopQR_val {bX : EvQX T H} {b : EvQ} (h : CQEq eT eH bX b) (fuel : Nat) : CQEq eT eH (loopQR bX fuel) (loopQ b fuel) := by
  induction fuel with
  | zero => intro t d m k kp; rfl
  | succ n ih =>
    intro t d m k kp
    refine (h t d m _ _).trans (congrArg (fun K => b t d m K _) (funext fun x => funext fun t => funext fun d => funext fun m => ?_))
    cases x with
    | normal => exact ih t d m k kp
    | exit id => rfl
    | ret => rfl
theorem codeQR_val (L : Law S eT eH) {cX : CallX H} {c : CallFn} (hc : CallEq eH cX c) {qX : QFnX H} {q : QFn} (hq : QEq eH qX q) (PS : FuncId → Bool) {fn : FuncId} {fuel : Nat} {cd : Code → CodeX T H} (hcd : ∀ x, CodeEq eT eH (cd x) (codeC P G fn false c fuel x)) (x : Code) :
    CQEq eT eH (codeQR S P G cd cX qX PS fuel x) (codeQ P G fn c q PS fuel x) := by
  induction x with
  | skip => intro t d m k kp; rfl
  | region id ops draw =>
    intro t d m k kp
    cases draw with
    | false => exact opsQR_val L hc hq PS ops ops.toList t d m _ _
    | true =>
      refine (isTrueR_val _ _).trans (congrArg (isTrue _) ?_)
      exact planQR_val L hc hq PS ops (planOf P ops) t d m _ _
  | seq a b iha ihb =>
    intro t d m k kp
    refine (iha t d m _ _).trans (congrArg (fun K => codeQ P G fn c q PS fuel a t d m K _) (funext fun x => funext fun t => funext fun d => funext fun m => ?_))
    cases x with
    | normal => exact ihb t d m k kp
    | exit id => rfl
    | ret => rfl
  | cond o a b iha ihb =>
    intro t d m k kp
    show (getOR S G o (eT t) fun v => asBoolR v fun b' => match b' with | true => codeQR S P G cd cX qX PS fuel a (eT t) d (eM eH m) k kp | false => codeQR S P G cd cX qX PS fuel b (eT t) d (eM eH m) k kp).val = _
    simp only [getOR_val L, asBoolR_val]
    refine congrArg (getO G o t) (funext fun v => congrArg (asBool v) (funext fun b' => ?_))
    cases b' with
    | true => exact iha t d m k kp
    | false => exact ihb t d m k kp
  | block id a iha =>
    intro t d m k kp
    refine (iha t d m _ _).trans (congrArg (fun K => codeQ P G fn c q PS fuel a t d m K _) (funext fun x => funext fun t => funext fun d => funext fun m => ?_))
    cases x with
    | normal => rfl
    | exit j => simp only []; cases Nat.beq j id <;> rfl
    | ret => rfl
  | loop a iha => exact loopQR_val iha fuel
  | rangeFunc f ps a b _ _ => intro t d m k kp; exact hcd (.rangeFunc f ps a b) t d m k
  | exit id => intro t d m k kp; rfl
  | scope x _ => intro t d m k kp; rfl
  | label l => intro t d m k kp; rfl
  | goto l => intro t d m k kp; rfl
  | ret => intro t d m k kp; rfl
  | refuse s => intro t d m k kp; rfl
theorem setAR_val (L : Law S eT eH) (as : List CV) : ∀ (i : Nat) (t : Tm) (k : T → Res), (setAR S as i (eT t) k).val = setArgs as i t fun t => (k (eT t)).val := by
  induction as with
  | nil => intros; rfl
  | cons a as ih =>
    intro i t k
    show (S.sT a (eT t) i (fun t' => setAR S as (Nat.succ i) t' k)).val = setK a t i fun t' => setArgs as (Nat.succ i) t' fun t => (k (eT t)).val
    rw [L.sT]; simp only [ih]
theorem callStepQR_val (L : Law S eT eH) {cX : CallX H} {c : CallFn} (hc : CallEq eH cX c) {qX : QFnX H} {q : QFn} (hq : QEq eH qX q) (PS : FuncId → Bool) {fuel : Nat} {cd : FuncId → Code → CodeX T H} (hcd : ∀ fn x, CodeEq eT eH (cd fn x) (codeC P G fn false c fuel x)) :
    QEq eH (callStepQR S P G cd fuel cX qX PS) (callStepQ P G fuel c q PS) := by
  intro f args m k kp
  cases f <;> try rfl
  rename_i g
  unfold callStepQR callStepQ
  simp only []
  cases P.funcs[g]? with
  | none => rfl
  | some fn =>
    simp only []
    cases fn.body with
    | none => rfl
    | some x =>
      simp only [L.nT, setAR_val L]
      refine congrArg (setArgs args 0 (blank fn.ntmps)) (funext fun t => ?_)
      refine (codeQR_val L hc hq PS (hcd g) x t [] m _ _).trans ?_
      congr 1
      · funext x t d m
        cases x with
        | exit id => rfl
        | normal =>
          refine (defersCR_val L hc d m _).trans (congrArg (defersC c d m) (funext fun m => ?_))
          refine (resultsCR_val L fn.results.toList t m _).trans (congrArg (resultsC P fn.results.toList t m) (funext fun vs => ?_))
          match vs with
          | [] => rfl
          | [_] => rfl
          | _ :: _ :: _ => rfl
        | ret =>
          refine (defersCR_val L hc d m _).trans (congrArg (defersC c d m) (funext fun m => ?_))
          refine (resultsCR_val L fn.results.toList t m _).trans (congrArg (resultsC P fn.results.toList t m) (funext fun vs => ?_))
          match vs with
          | [] => rfl
          | [_] => rfl
          | _ :: _ :: _ => rfl
      · funext v W t d m
        cases d <;> rfl
theorem callQR_val (L : Law S eT eH) {cX : CallX H} {c : CallFn} (hc : CallEq eH cX c) (PS : FuncId → Bool) {fuel : Nat} {cd : FuncId → Code → CodeX T H} (hcd : ∀ fn x, CodeEq eT eH (cd fn x) (codeC P G fn false c fuel x)) : ∀ depth,
    QEq eH (callQR S P G cd fuel cX PS depth) (callQ P G fuel c PS depth)
  | 0 => fun _ _ _ _ _ => rfl
  | depth + 1 => callStepQR_val L hc (callQR_val L hc PS hcd depth) PS hcd
theorem codeVR_val (L : Law S eT eH) {cX : CallX H} {c : CallFn} (hc : CallEq eH cX c) {fn : FuncId} {fuel : Nat} {cd : Code → CodeX T H} (hcd : ∀ x, CodeEq eT eH (cd x) (codeC P G fn false c fuel x)) (v : CV) (x : Code) :
    CodeEq eT eH (codeVR S P G cd cX v x) (codeV P G fn c fuel v x) := by
  induction x with
  | region id ops draw =>
    intro t d m k
    cases draw with
    | true => rfl
    | false =>
      show (opsVR S P G cX ops ops.toList v (eT t) d (eM eH m) (fun t d m => k .normal t d m)).val = opsV P G c ops ops.toList v t d m _
      cases ops.toList with
      | nil => rfl
      | cons o l =>
        simp only [opsVR, opsV]
        cases isRec o with
        | false => rfl
        | true =>
          simp only [putTR_val L]
          refine congrArg (putT o.dst v t) (funext fun t => ?_)
          exact opsXR_val L hc ops l t d m _
  | seq a b iha ihb =>
    intro t d m k
    refine (iha t d m _).trans (congrArg (codeV P G fn c fuel v a t d m) (funext fun x => funext fun t => funext fun d => funext fun m => ?_))
    cases x with
    | normal => exact hcd b t d m k
    | exit id => rfl
    | ret => rfl
  | block id a iha =>
    intro t d m k
    refine (iha t d m _).trans (congrArg (codeV P G fn c fuel v a t d m) (funext fun x => funext fun t => funext fun d => funext fun m => ?_))
    cases x with
    | normal => rfl
    | exit j => simp only []; cases Nat.beq j id <;> rfl
    | ret => rfl
  | skip => intro t d m k; rfl
  | cond c a b _ _ => intro t d m k; rfl
  | loop a _ => intro t d m k; rfl
  | rangeFunc f ps a b _ _ => intro t d m k; rfl
  | exit id => intro t d m k; rfl
  | scope c _ => intro t d m k; rfl
  | label l => intro t d m k; rfl
  | goto l => intro t d m k; rfl
  | ret => intro t d m k; rfl
  | refuse s => intro t d m k; rfl
theorem recFR_val (L : Law S eT eH) {cX : CallX H} {c : CallFn} (hc : CallEq eH cX c) {fuel : Nat} {cd : FuncId → Code → CodeX T H} (hcd : ∀ fn x, CodeEq eT eH (cd fn x) (codeC P G fn false c fuel x)) (g : FuncId) (args : List CV) (v : CV) (m : M) (km : MX H → Res) :
    (recFR S P G cd cX g args v (eM eH m) km).val = recF P G fuel c g args v m fun m => (km (eM eH m)).val := by
  unfold recFR recF
  cases P.funcs[g]? with
  | none => rfl
  | some fn =>
    simp only []
    cases fn.body with
    | none => rfl
    | some x =>
      simp only [L.nT, setAR_val L]
      refine congrArg (setArgs args 0 (blank fn.ntmps)) (funext fun t => ?_)
      refine (codeVR_val L hc (hcd g) v x t [] m _).trans (congrArg (codeV P G g c fuel v x t [] m) (funext fun x => funext fun t => funext fun d => funext fun m => ?_))
      cases x with
      | exit id => rfl
      | normal =>
        cases d with
        | nil => exact resultsCR_val L fn.results.toList t m _
        | cons _ _ => rfl
      | ret =>
        cases d with
        | nil => exact resultsCR_val L fn.results.toList t m _
        | cons _ _ => rfl
theorem recCR_val (L : Law S eT eH) {cX : CallX H} {c : CallFn} (hc : CallEq eH cX c) {qX : QFnX H} {q : QFn} (hq : QEq eH qX q) (PS : FuncId → Bool) {fuel : Nat} {cd : FuncId → Code → CodeX T H} (hcd : ∀ fn x, CodeEq eT eH (cd fn x) (codeC P G fn false c fuel x))
    (f : FuncId) (args : List CV) (m : M) (k : KAX H) : (recCR S P G cd fuel cX qX PS f args (eM eH m) k).val = recC P G fuel c q PS f args m fun v m => (k v (eM eH m)).val := by
  unfold recCR recC
  cases P.funcs[f]? with
  | none => rfl
  | some fn =>
    simp only []
    cases fn.body with
    | none => rfl
    | some x =>
      have res : ∀ (t : Tm) (m : M), (resultsCR S P fn.results.toList (eT t) (eM eH m) fun vs => match vs with
          | [v] => k v (eM eH m)
          | vs => k (.tup vs) (eM eH m)).val = resultsC P fn.results.toList t m fun vs => match vs with
          | [v] => (k v (eM eH m)).val
          | vs => (k (.tup vs) (eM eH m)).val := by
        intro t m
        refine (resultsCR_val L fn.results.toList t m _).trans (congrArg (resultsC P fn.results.toList t m) (funext fun vs => ?_))
        match vs with
        | [] => rfl
        | [_] => rfl
        | _ :: _ :: _ => rfl
      simp only [L.nT, setAR_val L]
      refine congrArg (setArgs args 0 (blank fn.ntmps)) (funext fun t => ?_)
      refine (codeQR_val L hc hq PS (hcd f) x t [] m _ _).trans ?_
      congr 1
      · funext x t d m
        cases x with
        | exit id => rfl
        | normal => exact (defersCR_val L hc d m _).trans (congrArg (defersC c d m) (funext fun m => res t m))
        | ret => exact (defersCR_val L hc d m _).trans (congrArg (defersC c d m) (funext fun m => res t m))
      · funext v W t d m
        match d with
        | [] => rfl
        | _ :: _ :: _ => rfl
        | [x] =>
          cases x with
          | coll b => rfl
          | call g as cap =>
            cases g <;> try rfl
            rename_i g
            refine (isTrueR_val _ _).trans (congrArg (isTrue _) ?_)
            exact (recFR_val L hc hcd g (as ++ cap) v m _).trans (congrArg (recF P G fuel c g (as ++ cap) v m) (funext fun m => res t m))
theorem longCR_val (L : Law S eT eH) (off n : Nat) (args : List CV) (h : Hp) (k : Bool → Res) : (longCR S off n args (eH h) k).val = longC off n args h fun b => (k b).val := by
  cases args with
  | nil => rfl
  | cons x l =>
    cases x <;> try rfl
    rename_i b o
    refine (L.gH h b _).trans (congrArg (getK h b) (funext fun cb => ?_))
    cases cb <;> try rfl
    simp only [getKR_val]
    refine congrArg (getK _ _) (funext fun v => ?_)
    cases v <;> try rfl
    simp only []
    cases Nat.ble n _ <;> rfl
end
noncomputable section
/-! Set into the staged evaluator -/
variable {D : Nat}
/-- a code, staged, as the slow evaluator takes it -/
def cdS (P : Program) (I : TypeId → Option TypeInfo) (G : Nat → Bool) (fuel : Nat) (call : CallS D) (fn : FuncId) (c : Code) : CodeX (TmS D) (HS D) := fun t d m k =>
  mM m fun tab h n => (codeS P I G fn false true fuel c).go (.mk call d tab) t h n fun x c t h n => Cx.rec (motive := fun _ => Res) (fun _ d tab => k x t d ⟨h, n, tab⟩) c
def ovrQS (P : Program) (I : TypeId → Option TypeInfo) (G : Nat → Bool) (fuel : Nat) (PS : FuncId → Bool) (dq R off n : Nat) (call base : CallS D) : CallS D := fun f args tab h nn k =>
  Fn.rec (motive := fun _ => Res) (fun g => Bool.rec (motive := fun _ => Res) (base (.func g) args tab h nn k)
    (decVs args fun as => longCR (scott D) off n as h fun b => Bool.rec (motive := fun _ => Res) (base (.func g) args tab h nn k)
      (recCR (scott D) P G (cdS P I G fuel call) fuel (unS call) (callQR (scott D) P G (cdS P I G fuel call) fuel (unS call) PS dq) PS g as ⟨h, nn, tab⟩ fun v m => mM m fun tab h n => encK v fun v => k v tab h n) b) (Nat.beq g R))
    (fun s => base (.method s) args tab h nn k) (fun t s => base (.methodOf t s) args tab h nn k) (fun t p g b => base (.via t p g b) args tab h nn k) (fun l => base (.yield l) args tab h nn k) f
end
section
variable {D : Nat} {P : Program} {G : Nat → Bool}
theorem cdS_eq {cS : CallS D} {c : CallFn} (hc : CallOK cS c) (fuel : Nat) (fn : FuncId) (x : Code) : CodeEq (encM D) (encH D) (cdS P P.info? G fuel cS fn x) (codeC P G fn false c fuel x) := by
  intro t d m k
  show (mM ⟨encH D m.h, m.n, m.tab⟩ _).val = _
  rw [mM_enc]
  rw [code_good hc fn true fuel x (fun h => by cases h)]
  rfl
theorem ovrQS_ok {cS bS : CallS D} {c b : CallFn} (hc : CallOK cS c) (hb : CallOK bS b) (fuel : Nat) (PS : FuncId → Bool) (dq R off n : Nat) : CallOK (ovrQS P P.info? G fuel PS dq R off n cS bS) (ovrQ P G fuel PS dq R off n c b) := by
  intro f args m k
  cases f with
  | func g =>
    show (Bool.rec (motive := fun _ => Res) _ _ (Nat.beq g R) : Res).val = (match Nat.beq g R with | true => _ | false => _)
    cases Nat.beq g R with
    | false => exact hb _ args m k
    | true =>
      show (decVs (encVs args) _).val = _
      rw [decVs_enc]
      refine (longCR_val (law D) off n args m.h _).trans (congrArg (longC off n args m.h) (funext fun b => ?_))
      cases b with
      | false => exact hb _ args m k
      | true =>
        refine (recCR_val (law D) hc.eq (callQR_val (law D) hc.eq PS (cdS_eq hc fuel) dq) PS (cdS_eq hc fuel) g args m _).trans ?_
        congr 1
        funext v m
        show (mM ⟨encH D m.h, m.n, m.tab⟩ _).val = _
        rw [mM_enc, encK_eq]
  | method s => exact hb _ args m k
  | methodOf t s => exact hb _ args m k
  | via t p g b => exact hb _ args m k
  | yield l => exact hb _ args m k
/-- the evaluator with known answers, and one function that recovers -/
noncomputable def callKQ (P : Program) (G : Nat → Bool) (K : FuncId → Option KRows) (PS : FuncId → Bool) (dq R off n fuel depth : Nat) : CallFn :=
  Nat.rec (motive := fun _ => CallFn) (fun _ _ _ _ => false) (fun _ call => ovrQ P G fuel PS dq R off n call (ovrC K (callStep P G fuel call))) depth
noncomputable def callDKQ (P : Program) (I : TypeId → Option TypeInfo) (F : FuncId → Option Func) (G : Nat → Bool) (Dr : FuncId → Bool) (T : FuncId → Option (FnF DD)) (K : FuncId → Option KRows) (PS : FuncId → Bool) (dq R off n fuel depth : Nat) : CallS DD :=
  Nat.rec (motive := fun _ => CallS DD) (fun _ _ _ _ _ _ => .bad) (fun _ call => ovrQS P I G fuel PS dq R off n call (ovrCS K (stepD P I F G Dr fuel T call))) depth
theorem callKQ_sound {K : FuncId → Option KRows} (hng : NoCount P) (hx : ExtFact P) (hK : RowsOk P K) (PS : FuncId → Bool) (dq R off n fuel depth : Nat) (σ : Sg) : SoundCall P σ G (callKQ P G K PS dq R off n fuel depth) := by
  induction depth with
  | zero => intro f args m k hh _; cases hh
  | succ depth ih => exact ovrQ_ok hng ih (ovrC_ok (callStep_ok hng (ext_ok hng hx) ih (fun rd => draw_ok ih rd) fuel) hK) (fun rd => draw_ok ih rd) fuel PS dq R off n
variable {I : TypeId → Option TypeInfo} {F : FuncId → Option Func} {Dr : FuncId → Bool} {K : FuncId → Option KRows} {fuel : Nat} {T : FuncId → Option (FnF DD)} {PS : FuncId → Bool} {dq R off nq : Nat}
theorem callDKQ_ok (hD : DrawFact P Dr) (hT : DirOk P P.info? (fun f => P.funcs[f]?) G Dr fuel T) (depth : Nat) : CallOK (callDKQ P P.info? (fun f => P.funcs[f]?) G Dr T K PS dq R off nq fuel depth) (callKQ P G K PS dq R off nq fuel depth) := by
  induction depth with
  | zero => intro f args m k; rfl
  | succ depth ih =>
    have h := step_good (G := G) hD ih fuel
    rw [← stepD_eq hT] at h
    exact ovrQS_ok ih (ovrCS_ok K h) fuel PS dq R off nq
/-- a law's run -/
theorem runDQ_step (hI : ∀ t, I t = P.info? t) (hF : ∀ f, F f = P.funcs[f]?) (hD : DrawFact P Dr) (hT : DirOk P I F G Dr fuel T) {depth : Nat} {f : Fn} {args : List CV} {tab : Tab} {h : Hp} {n : Nat}
    (hh : (stepD P I F G Dr fuel T (callDKQ P I F G Dr T K PS dq R off nq fuel depth) f (encVs args) tab (encH DD h) n (isTS DD)).val = true) : callStep P G fuel (callKQ P G K PS dq R off nq fuel depth) f args ⟨h, n, tab⟩ isT = true := by
  have h1 : I = P.info? := funext hI
  have h2 : F = fun f => P.funcs[f]? := funext hF
  subst h1; subst h2
  rw [stepD_eq hT] at hh
  have := step_good (D := DD) (G := G) hD (callDKQ_ok (K := K) (PS := PS) (dq := dq) (R := R) (off := off) (nq := nq) hD hT depth) fuel f args ⟨h, n, tab⟩ (isTS DD)
  rw [this] at hh
  simpa only [isTS_eq] using hh
end
end Go.Ev

namespace Go.Ev
/-! Calls that are known by contract: plain values in, plain values out; the library's variables that a contract reads are among the blocks that stay as they are -/
abbrev AnsT := FuncId → Option (List CV → Option CV)
noncomputable section
def ovrA (A : AnsT) (call : CallFn) : CallFn := fun f args m k => match f with
  | .func g => match A g with
    | some ans => match ans args with
      | some v => k v m
      | none => call (.func g) args m k
    | none => call (.func g) args m k
  | f => call f args m k
end
section
variable {P : Program} {σ : Sg} {G : Nat → Bool}
def AnsOk (P : Program) (σ : Sg) (A : AnsT) : Prop := ∀ g ans args v, A g = some ans → ans args = some v → ∀ (e : Env) (w : World) (vs : Array Value) (kd : CallKind) (c : Frame) (cs : List Frame), LR σ e args vs.toList → (∀ r o, σ.fx r = some o → w.heap[r]? = some o) → KindOK (.func g) kd c →
  ∃ v' w', CallGoes P kd c cs (CallSem (.func g) vs) w v' w' ∧ VR σ e v v' ∧ RowKit.Below w.heap.size w w'
theorem ovrA_ok {call : CallFn} (hcall : SoundCall P σ G call) {A : AnsT} (hA : AnsOk P σ A) : SoundCall P σ G (ovrA A call) := by
  intro f args m k hh hs
  simp only [ovrA] at hh
  split at hh
  · rename_i g
    split at hh
    · rename_i ans hans
      split at hh
      · rename_i v hv
        refine ⟨v, m, hh, hs, fun e w f' us kd c cs hR hf hl hk => ?_⟩
        cases hf
        obtain ⟨v', w', h1, h2, hb⟩ := hA g ans args v hans hv e w us kd c cs hl (fun r o hr => (hR.fix r o hr).1) hk
        have hfr : ∀ r, r < w.heap.size → w'.heap[r]? = w.heap[r]? := fun r hr => hb.block r hr
        exact ⟨v', w', e, h1, h2, hR.frame hfr, ⟨.refl e, Nat.le_refl _, fun _ _ h => ⟨h, rfl⟩, hb.size, fun r hr _ => hfr r hr, fun b p h hl => .inl ⟨b, p, h, hl, rfl⟩, hb.tape, hb.os, hb.output⟩⟩
      · exact hcall _ _ _ _ hh hs
    · exact hcall _ _ _ _ hh hs
  · exact hcall _ _ _ _ hh hs
/-- a contract of the body, whatever frame it runs in -/
theorem goes_of_wp (hng : NoCount P) {g : FuncId} {fn : Func} {cb : Code} (hfn : P.funcs[g]? = some fn) (hbody : fn.body = some cb) {us : Array Value} {w : World} {Ψ : Ending → World → Prop} {Φ : Value → World → Prop} (hΨ : ∀ en w', Ψ en w' → ∃ v', en = .returned v' ∧ Φ v' w')
    (hwp : cb.wp P (bodyPost P fn Ψ) { tmps := us ++ Array.replicate (fn.ntmps - us.size) undef, defers := [] } w) (kd : CallKind) (c : Frame) (cs : List Frame) (hk : KindOK (.func g) kd c) :
    ∃ v' w', CallGoes P kd c cs (CallSem (.func g) us) w v' w' ∧ Φ v' w' := by
  have hkd : kd = .normal ∨ (kd = .deferred ∧ c.mode = .returning) := hk.imp id (fun h => ⟨h.1, h.2.1⟩)
  let b : Frame := { fn := g, tmps := #[], todo := [], defers := [], mode := .run, kind := kd }
  have henter : Frame.enter P g us kd = b.at { tmps := us ++ Array.replicate (fn.ntmps - us.size) undef, defers := [] } [.code cb] := by
    simp [Frame.enter, Frame.at, hfn, hbody, b]
  obtain ⟨en, a', w', hq, harr⟩ := hwp b [] (c :: cs)
  have fin : ∀ todo, a'.defers = [] → (∃ u, (results fn a'.tmps).run P w' = .ok u w' ∧ Ψ (.returned u) w') →
      Steps P (lone (b.at { tmps := us ++ Array.replicate (fn.ntmps - us.size) undef, defers := [] } [.code cb]) (c :: cs) w) (lone { b.at a' todo with mode := .returning } (c :: cs) w') →
      ∃ v' w', CallGoes P kd c cs (CallSem (.func g) us) w v' w' ∧ Φ v' w' := by
    intro todo hd hres hst
    obtain ⟨u, hr, hp⟩ := hres
    obtain ⟨v', hv', hp⟩ := hΨ _ _ hp
    injection hv' with hv'
    subst hv'
    refine ⟨u, w', ?_, hp⟩
    simp only [CallGoes, CallSem, callFunc_body hng hfn hbody]
    rw [henter]
    have e1 : ({ b.at a' todo with mode := .returning } : Frame) = rf b a'.tmps [] todo := by
      simp [Frame.at, Ev.rf, fr, hd, b]
    rw [e1] at hst
    exact hst.trans (.one (st_return (b := b) hfn hr hkd))
  cases en with
  | normal => exact fin [] hq.1 hq.2 (harr.trans (.one step_end))
  | ret => obtain ⟨todo, hst⟩ := harr; exact fin todo hq.1 hq.2 hst
  | panic chain => obtain ⟨_, q⟩ := hq; obtain ⟨v', h, _⟩ := hΨ _ _ q; cases h
  | exit id => exact hq.elim
  | goto l => exact hq.elim
  | outgrown => obtain ⟨v', h, _⟩ := hΨ _ _ hq; cases h
/-- a contract of closed arguments, seen by a run -/
theorem goes_of_run {call : CallFn} {g : FuncId} {args : List CV} {r : CV} {h0 : Hp} {n0 : Nat} {τ : Sg} (hsound : SoundCall P τ (fun _ => false) call) (hp : ∀ b, τ.pn b = none) (hrun : call (.func g) args ⟨h0, n0, ⟨[], []⟩⟩ (isV r) = true) (hc : constCV r = true) (ha : args.all plainCV = true)
    (e : Env) (w : World) (us : Array Value) (kd : CallKind) (c : Frame) (cs : List Frame) (hl : LR σ e args us.toList) (hx : ∀ r o, τ.fx r = some o → w.heap[r]? = some o) (hk : KindOK (.func g) kd c) :
    ∃ v' w', CallGoes P kd c cs (CallSem (.func g) us) w v' w' ∧ VR σ e r v' ∧ RowKit.Below w.heap.size w w' := by
  obtain ⟨v, m', h1, _, h2⟩ := hsound _ _ _ _ hrun ⟨fun s lo hi h => by simp at h, fun x hx => by cases hx⟩
  have hv := isV_inv h1 hc
  subst hv
  obtain ⟨v', w', e', q1, q2, q3, q4⟩ := h2 (fun _ => none) w (.func g) us kd c cs (RL.empty _ _ _ _ hx hp) (.func g) (hl.plain ha) hk
  exact ⟨v', w', q1, q2.const hc, ⟨q4.os, q4.tap, q4.out, q4.siz, fun r hr => q4.frm r hr (fun b p hb => by cases hb)⟩⟩
end
section
variable {D : Nat} {cS : CallS D} {cl : CallFn}
/-- the same, at the staged evaluator -/
noncomputable def ovrAS (A : AnsT) (call : CallS D) : CallS D := fun f args tab h n k =>
  Fn.rec (motive := fun _ => Res) (fun g => Option.rec (motive := fun _ => Res) (call (.func g) args tab h n k)
    (fun ans => decVs args fun cs => Option.rec (motive := fun _ => Res) (call (.func g) args tab h n k) (fun v => encK v fun v => k v tab h n) (ans cs)) (A g)) (fun s => call (.method s) args tab h n k)
    (fun t s => call (.methodOf t s) args tab h n k) (fun t p g b => call (.via t p g b) args tab h n k) (fun l => call (.yield l) args tab h n k) f
theorem ovrAS_ok (A : AnsT) (hc : CallOK cS cl) : CallOK (ovrAS A cS) (ovrA A cl) := by
  intro f args m k
  cases f with
  | func g =>
    show (Option.rec (motive := fun _ => Res) _ _ (A g) : Res).val = (match A g with | some rows => _ | none => _)
    cases A g with
    | none => exact hc _ args m k
    | some ans =>
      show (decVs (encVs args) fun cs => (Option.rec (motive := fun _ => Res) _ _ (ans cs) : Res)).val = (match ans args with | some v => _ | none => _)
      rw [decVs_enc]
      cases ans args with
      | none => exact hc _ args m k
      | some v =>
        show (encK v fun v => k v m.tab (encH D m.h) m.n).val = _
        rw [encK_eq]
  | method s => exact hc _ args m k
  | methodOf t s => exact hc _ args m k
  | via t p g b => exact hc _ args m k
  | yield l => exact hc _ args m k
end
noncomputable section
/-- one function that recovers, always run so -/
def ovrP (P : Program) (G : Nat → Bool) (fuel : Nat) (PS : FuncId → Bool) (dq R : Nat) (call base : CallFn) : CallFn := fun f args m k => match f with
  | .func g => match Nat.beq g R with
    | true => recC P G fuel call (callQ P G fuel call PS dq) PS g args m k
    | false => base (.func g) args m k
  | f => base f args m k
def ovrPS {D : Nat} (P : Program) (I : TypeId → Option TypeInfo) (G : Nat → Bool) (fuel : Nat) (PS : FuncId → Bool) (dq R : Nat) (call base : CallS D) : CallS D := fun f args tab h nn k =>
  Fn.rec (motive := fun _ => Res) (fun g => Bool.rec (motive := fun _ => Res) (base (.func g) args tab h nn k)
    (decVs args fun as => recCR (scott D) P G (cdS P I G fuel call) fuel (unS call) (callQR (scott D) P G (cdS P I G fuel call) fuel (unS call) PS dq) PS g as ⟨h, nn, tab⟩ fun v m => mM m fun tab h n => encK v fun v => k v tab h n) (Nat.beq g R))
    (fun s => base (.method s) args tab h nn k) (fun t s => base (.methodOf t s) args tab h nn k) (fun t p g b => base (.via t p g b) args tab h nn k) (fun l => base (.yield l) args tab h nn k) f
/-- the evaluator, with contracts at every depth -/
def callA (P : Program) (G : Nat → Bool) (A : AnsT) (fuel depth : Nat) : CallFn :=
  Nat.rec (motive := fun _ => CallFn) (fun _ _ _ _ => false) (fun _ call => ovrA A (callStep P G fuel call)) depth
def callAS (P : Program) (I : TypeId → Option TypeInfo) (F : FuncId → Option Func) (G : Nat → Bool) (Dr : FuncId → Bool) (T : FuncId → Option (FnF DD)) (A : AnsT) (fuel depth : Nat) : CallS DD :=
  Nat.rec (motive := fun _ => CallS DD) (fun _ _ _ _ _ _ => .bad) (fun _ call => ovrAS A (stepD P I F G Dr fuel T call)) depth
/-- the same, with one function that recovers -/
def callP (P : Program) (G : Nat → Bool) (A : AnsT) (PS : FuncId → Bool) (dq R fuel depth : Nat) : CallFn :=
  Nat.rec (motive := fun _ => CallFn) (fun _ _ _ _ => false) (fun _ call => ovrP P G fuel PS dq R call (ovrA A (callStep P G fuel call))) depth
def callPS (P : Program) (I : TypeId → Option TypeInfo) (F : FuncId → Option Func) (G : Nat → Bool) (Dr : FuncId → Bool) (T : FuncId → Option (FnF DD)) (A : AnsT) (PS : FuncId → Bool) (dq R fuel depth : Nat) : CallS DD :=
  Nat.rec (motive := fun _ => CallS DD) (fun _ _ _ _ _ _ => .bad) (fun _ call => ovrPS P I G fuel PS dq R call (ovrAS A (stepD P I F G Dr fuel T call))) depth
end
section
variable {P : Program} {G : Nat → Bool} {σ : Sg} {A : AnsT}
theorem ovrP_ok {call base : CallFn} (hng : NoCount P) (hcall : SoundCall P σ G call) (hbase : SoundCall P σ G base) (hdraw : ∀ rd, DrawOK P σ G rd call) (fuel : Nat) (PS : FuncId → Bool) (dq R : Nat) : SoundCall P σ G (ovrP P G fuel PS dq R call base) := by
  intro f args m k hh hs
  cases f with
  | func g =>
    simp only [ovrP] at hh
    split at hh
    · exact recC_inv hng hcall hdraw (callQ_ok hng hcall hdraw fuel dq) hh hs
    · exact hbase _ _ _ _ hh hs
  | method s => exact hbase _ _ _ _ hh hs
  | methodOf t s => exact hbase _ _ _ _ hh hs
  | via t p g b => exact hbase _ _ _ _ hh hs
  | yield l => exact hbase _ _ _ _ hh hs
theorem ovrPS_ok {D : Nat} {cS bS : CallS D} {c b : CallFn} (hc : CallOK cS c) (hb : CallOK bS b) (fuel : Nat) (PS : FuncId → Bool) (dq R : Nat) : CallOK (ovrPS P P.info? G fuel PS dq R cS bS) (ovrP P G fuel PS dq R c b) := by
  intro f args m k
  cases f with
  | func g =>
    show (Bool.rec (motive := fun _ => Res) _ _ (Nat.beq g R) : Res).val = (match Nat.beq g R with | true => _ | false => _)
    cases Nat.beq g R with
    | false => exact hb _ args m k
    | true =>
      show (decVs (encVs args) _).val = _
      rw [decVs_enc]
      refine (recCR_val (law D) hc.eq (callQR_val (law D) hc.eq PS (cdS_eq hc fuel) dq) PS (cdS_eq hc fuel) g args m _).trans ?_
      congr 1
      funext v m
      show (mM ⟨encH D m.h, m.n, m.tab⟩ _).val = _
      rw [mM_enc, encK_eq]
  | method s => exact hb _ args m k
  | methodOf t s => exact hb _ args m k
  | via t p g b => exact hb _ args m k
  | yield l => exact hb _ args m k
theorem callA_sound (hng : NoCount P) (hx : ExtFact P) (hA : AnsOk P σ A) (fuel depth : Nat) : SoundCall P σ G (callA P G A fuel depth) := by
  induction depth with
  | zero => intro f args m k hh _; cases hh
  | succ depth ih => exact ovrA_ok (callStep_ok hng (ext_ok hng hx) ih (fun rd => draw_ok ih rd) fuel) hA
theorem callP_sound (hng : NoCount P) (hx : ExtFact P) (hA : AnsOk P σ A) (PS : FuncId → Bool) (dq R fuel depth : Nat) : SoundCall P σ G (callP P G A PS dq R fuel depth) := by
  induction depth with
  | zero => intro f args m k hh _; cases hh
  | succ depth ih => exact ovrP_ok hng ih (ovrA_ok (callStep_ok hng (ext_ok hng hx) ih (fun rd => draw_ok ih rd) fuel) hA) (fun rd => draw_ok ih rd) fuel PS dq R
variable {I : TypeId → Option TypeInfo} {F : FuncId → Option Func} {Dr : FuncId → Bool} {fuel : Nat} {T : FuncId → Option (FnF DD)} {PS : FuncId → Bool} {dq R : Nat}
theorem callAS_ok (hD : DrawFact P Dr) (hT : DirOk P P.info? (fun f => P.funcs[f]?) G Dr fuel T) (depth : Nat) : CallOK (callAS P P.info? (fun f => P.funcs[f]?) G Dr T A fuel depth) (callA P G A fuel depth) := by
  induction depth with
  | zero => intro f args m k; rfl
  | succ depth ih =>
    have h := step_good (G := G) hD ih fuel
    rw [← stepD_eq hT] at h
    exact ovrAS_ok A h
theorem callPS_ok (hD : DrawFact P Dr) (hT : DirOk P P.info? (fun f => P.funcs[f]?) G Dr fuel T) (depth : Nat) : CallOK (callPS P P.info? (fun f => P.funcs[f]?) G Dr T A PS dq R fuel depth) (callP P G A PS dq R fuel depth) := by
  induction depth with
  | zero => intro f args m k; rfl
  | succ depth ih =>
    have h := step_good (G := G) hD ih fuel
    rw [← stepD_eq hT] at h
    exact ovrPS_ok ih (ovrAS_ok A h) fuel PS dq R
/-- an answer, seen by a run -/
theorem ansA_run (hI : ∀ t, I t = P.info? t) (hF : ∀ f, F f = P.funcs[f]?) (hD : DrawFact P Dr) (hT : DirOk P I F G Dr fuel T) {depth : Nat} {f : Fn} {args : List CV} {r : CV} {h : Hp} {n : Nat}
    (hh : (callAS P I F G Dr T A fuel depth f (encVs args) ⟨[], []⟩ (encH DD h) n (isVS DD r)).val = true) : callA P G A fuel depth f args ⟨h, n, ⟨[], []⟩⟩ (isV r) = true := by
  have h1 : I = P.info? := funext hI
  have h2 : F = fun f => P.funcs[f]? := funext hF
  subst h1; subst h2
  have := callAS_ok (A := A) hD hT depth f args ⟨h, n, ⟨[], []⟩⟩ (isVS DD r)
  rw [this] at hh
  simpa only [isVS_eq] using hh
/-- a law's run -/
theorem runA_step (hI : ∀ t, I t = P.info? t) (hF : ∀ f, F f = P.funcs[f]?) (hD : DrawFact P Dr) (hT : DirOk P I F G Dr fuel T) {depth : Nat} {f : Fn} {args : List CV} {tab : Tab} {h : Hp} {n : Nat}
    (hh : (stepD P I F G Dr fuel T (callAS P I F G Dr T A fuel depth) f (encVs args) tab (encH DD h) n (isTS DD)).val = true) : callStep P G fuel (callA P G A fuel depth) f args ⟨h, n, tab⟩ isT = true := by
  have h1 : I = P.info? := funext hI
  have h2 : F = fun f => P.funcs[f]? := funext hF
  subst h1; subst h2
  rw [stepD_eq hT] at hh
  have := step_good (D := DD) (G := G) hD (callAS_ok (A := A) hD hT depth) fuel f args ⟨h, n, tab⟩ (isTS DD)
  rw [this] at hh
  simpa only [isTS_eq] using hh
theorem runP_step (hI : ∀ t, I t = P.info? t) (hF : ∀ f, F f = P.funcs[f]?) (hD : DrawFact P Dr) (hT : DirOk P I F G Dr fuel T) {depth : Nat} {f : Fn} {args : List CV} {tab : Tab} {h : Hp} {n : Nat}
    (hh : (stepD P I F G Dr fuel T (callPS P I F G Dr T A PS dq R fuel depth) f (encVs args) tab (encH DD h) n (isTS DD)).val = true) : callStep P G fuel (callP P G A PS dq R fuel depth) f args ⟨h, n, tab⟩ isT = true := by
  have h1 : I = P.info? := funext hI
  have h2 : F = fun f => P.funcs[f]? := funext hF
  subst h1; subst h2
  rw [stepD_eq hT] at hh
  have := step_good (D := DD) (G := G) hD (callPS_ok (A := A) (PS := PS) (dq := dq) (R := R) hD hT depth) fuel f args ⟨h, n, tab⟩ (isTS DD)
  rw [this] at hh
  simpa only [isTS_eq] using hh
end
end Go.Ev
