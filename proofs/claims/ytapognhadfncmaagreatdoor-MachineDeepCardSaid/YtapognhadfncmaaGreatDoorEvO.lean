/- A verified evaluator for the model's code (part EvO): own work, of no program. -/
import Derived.Test.YtapognhadfncmaaGreatDoorEvK
namespace Go.Ev
noncomputable section
/-! The evaluator that knows panics, over any form of frames and heaps -/
abbrev QFnX (H : Type) := Fn → List CV → MX H → KAX H → (CV → MX H → Res) → Res
abbrev KPR (T H : Type) := CV → List Nat → T → List DF → MX H → Res
abbrev EvQX (T H : Type) := T → List DF → MX H → KXX T H → KPR T H → Res
section
variable {T H : Type} (S : Sig T H) (P : Program) (G : Nat → Bool)
def operQR (call : CallX H) (q : QFnX H) (PS : FuncId → Bool) (ops : Array Oper) (o : Oper) (t : T) (d : List DF) (m : MX H) (k : T → List DF → MX H → Res) (kp : CV → MX H → Res) : Res :=
  match o.guard with
  | some _ => operCR S P G false call ops o t d m k
  | none => match o.op with
    | .panic x => getOR S G x t fun v => match v with
      | .ifc .. => kp v m
      | _ => .bad
    | .call c => match c.callee with
      | .value f => getOR S G f t fun fv => match fv with
        | .fn f first cap => match f with
          | .func g => match PS g with
            | true => getOsR S G c.args.toList t fun args => q (.func g) (first ++ args ++ cap) m (fun v m => putTR S o.dst v t fun t => k t d m) kp
            | false => operCR S P G false call ops o t d m k
          | _ => operCR S P G false call ops o t d m k
        | _ => operCR S P G false call ops o t d m k
      | _ => operCR S P G false call ops o t d m k
    | _ => operCR S P G false call ops o t d m k
def opsQR (call : CallX H) (q : QFnX H) (PS : FuncId → Bool) (ops : Array Oper) (l : List Oper) : T → List DF → MX H → (T → List DF → MX H → Res) → KPR T H → Res :=
  lrec (fun t d m k _ => k t d m) (fun o _ ih t d m k kp => operQR S P G call q PS ops o t d m (fun t d m => ih t d m k kp) (fun v m => kp v [] t d m)) l
def planQR (call : CallX H) (q : QFnX H) (PS : FuncId → Bool) (ops : Array Oper) (l : List Go.Ev.PS) : T → List DF → MX H → (T → List DF → MX H → Res) → KPR T H → Res :=
  lrec (fun t d m k _ => k t d m) (fun s _ ih t d m k kp => match s with
    | .fl i => match ops[i]? with
      | some o => operCR S P G false call ops o t d m fun t d m => ih t d m k kp
      | none => .bad
    | .ch i again => match ops[i]? with
      | some o => operQR S P G call q PS ops o t d m (fun t d m => isTrueR (again.all fun j => (againCR S P G ops t m j).val) (ih t d m k kp)) (fun v m => kp v (dsts ops) t d m)
      | none => .bad) l
def opsXR (call : CallX H) (ops : Array Oper) (l : List Oper) : T → List DF → MX H → (T → List DF → MX H → Res) → Res :=
  lrec (fun t d m k => k t d m) (fun o _ ih t d m k => operCR S P G false call ops o t d m fun t d m => ih t d m k) l
def loopQR (body : EvQX T H) (fuel : Nat) : EvQX T H :=
  Nat.rec (motive := fun _ => EvQX T H) (fun _ _ _ _ _ => .bad)
    (fun _ ih t d m k kp => body t d m (fun x t d m => match x with
      | .normal => ih t d m k kp
      | .exit id => k (.exit id) t d m
      | .ret => k .ret t d m) kp) fuel
def codeQR (cd : Code → CodeX T H) (call : CallX H) (q : QFnX H) (PS : FuncId → Bool) (fuel : Nat) (c : Code) : EvQX T H :=
  Code.rec (motive := fun _ => EvQX T H)
    (fun t d m k _ => k .normal t d m)
    (fun _ ops draw t d m k kp => match draw with
      | false => opsQR S P G call q PS ops ops.toList t d m (fun t d m => k .normal t d m) kp
      | true => isTrueR (drawOk P ops) (planQR S P G call q PS ops (planOf P ops) t d m (fun t d m => k .normal t d m) kp))
    (fun _ _ a b t d m k kp => a t d m (fun x t d m => match x with
      | .normal => b t d m k kp
      | .exit id => k (.exit id) t d m
      | .ret => k .ret t d m) kp)
    (fun c _ _ a b t d m k kp => getOR S G c t fun v => asBoolR v fun b' => match b' with | true => a t d m k kp | false => b t d m k kp)
    (fun id _ a t d m k kp => a t d m (fun x t d m => match x with
      | .normal => k .normal t d m
      | .exit j => match Nat.beq j id with | true => k .normal t d m | false => k (.exit j) t d m
      | .ret => k .ret t d m) kp)
    (fun _ a => loopQR a fuel)
    (fun f ps a b _ _ t d m k _ => cd (.rangeFunc f ps a b) t d m k)
    (fun id t d m k _ => k (.exit id) t d m)
    (fun _ _ _ _ _ _ _ => .bad)
    (fun _ t d m k _ => k .normal t d m)
    (fun _ _ _ _ _ _ => .bad)
    (fun t d m k _ => k .ret t d m)
    (fun _ _ _ _ _ _ => .bad) c
def setAR (as : List CV) : Nat → T → (T → Res) → Res := lrec (fun _ t k => k t) (fun a _ ih i t k => S.sT a t i fun t' => ih (Nat.succ i) t' k) as
def callStepQR (cd : FuncId → Code → CodeX T H) (fuel : Nat) (call : CallX H) (q : QFnX H) (PS : FuncId → Bool) : QFnX H := fun f args m k kp => match f with
  | .func f => match P.funcs[f]? with
    | some fn => match fn.body with
      | some c => setAR S args 0 (S.nT (blank fn.ntmps)) fun t => codeQR S P G (cd f) call q PS fuel c t [] m (fun x t d m => match x with
          | .exit _ => .bad
          | _ => defersCR S call d m fun m => resultsCR S P fn.results.toList t m fun vs => match vs with
            | [v] => k v m
            | vs => k (.tup vs) m) (fun v _ _ d m => match d with | [] => kp v m | _ => .bad)
      | none => .bad
    | none => .bad
  | _ => .bad
def callQR (cd : FuncId → Code → CodeX T H) (fuel : Nat) (call : CallX H) (PS : FuncId → Bool) (depth : Nat) : QFnX H :=
  Nat.rec (motive := fun _ => QFnX H) (fun _ _ _ _ _ => .bad) (fun _ q => callStepQR S P G cd fuel call q PS) depth
def opsVR (call : CallX H) (ops : Array Oper) (l : List Oper) (v : CV) (t : T) (d : List DF) (m : MX H) (k : T → List DF → MX H → Res) : Res := match l with
  | [] => .bad
  | o :: l => match isRec o with
    | true => putTR S o.dst v t fun t => opsXR S P G call ops l t d m k
    | false => .bad
def codeVR (cd : Code → CodeX T H) (call : CallX H) (v : CV) (c : Code) : CodeX T H :=
  Code.rec (motive := fun _ => CodeX T H)
    (fun _ _ _ _ => .bad)
    (fun _ ops draw t d m k => match draw with
      | false => opsVR S P G call ops ops.toList v t d m (fun t d m => k .normal t d m)
      | true => .bad)
    (fun _ b a _ t d m k => a t d m (fun x t d m => match x with
      | .normal => cd b t d m k
      | .exit id => k (.exit id) t d m
      | .ret => k .ret t d m))
    (fun _ _ _ _ _ _ _ _ _ => .bad)
    (fun id _ a t d m k => a t d m (fun x t d m => match x with
      | .normal => k .normal t d m
      | .exit j => match Nat.beq j id with | true => k .normal t d m | false => k (.exit j) t d m
      | .ret => k .ret t d m))
    (fun _ _ _ _ _ _ => .bad)
    (fun _ _ _ _ _ _ _ _ _ _ => .bad)
    (fun _ _ _ _ _ => .bad)
    (fun _ _ _ _ _ _ => .bad)
    (fun _ _ _ _ _ => .bad)
    (fun _ _ _ _ _ => .bad)
    (fun _ _ _ _ => .bad)
    (fun _ _ _ _ _ => .bad) c
def recFR (cd : FuncId → Code → CodeX T H) (call : CallX H) (g : FuncId) (args : List CV) (v : CV) (m : MX H) (km : MX H → Res) : Res := match P.funcs[g]? with
  | some fn => match fn.body with
    | some c => setAR S args 0 (S.nT (blank fn.ntmps)) fun t => codeVR S P G (cd g) call v c t [] m fun x t d m => match x with
      | .exit _ => .bad
      | _ => match d with
        | [] => resultsCR S P fn.results.toList t m fun _ => km m
        | _ => .bad
    | none => .bad
  | none => .bad
def recCR (cd : FuncId → Code → CodeX T H) (fuel : Nat) (call : CallX H) (q : QFnX H) (PS : FuncId → Bool) (f : FuncId) (args : List CV) (m : MX H) (k : KAX H) : Res := match P.funcs[f]? with
  | some fn => match fn.body with
    | some c => setAR S args 0 (S.nT (blank fn.ntmps)) fun t => codeQR S P G (cd f) call q PS fuel c t [] m (fun x t d m => match x with
        | .exit _ => .bad
        | _ => defersCR S call d m fun m => resultsCR S P fn.results.toList t m fun vs => match vs with
          | [v] => k v m
          | vs => k (.tup vs) m)
        (fun v W t d m => match d with
          | [x] => match x with
            | .call g args cap => match g with
              | .func g => isTrueR (wOk W fn.results.toList) <| recFR S P G cd call g (args ++ cap) v m fun m => resultsCR S P fn.results.toList t m fun vs => match vs with
                | [v] => k v m
                | vs => k (.tup vs) m
              | _ => .bad
            | _ => .bad
          | _ => .bad)
    | none => .bad
  | none => .bad
def longCR (off n : Nat) (args : List CV) (h : H) (k : Bool → Res) : Res := match args with
  | x :: _ => match x with
    | .ptr b o => S.gH h b fun cb => match cb with
      | .cells _ _ _ _ cs => getKR cs (o + off) fun v => match v with
        | .sl _ _ len _ => match Nat.ble n len with | true => k true | false => k false
        | _ => k false
      | _ => k false
    | _ => k false
  | _ => k false
end
end
section
variable {T H : Type} {S : Sig T H} {eT : Tm → T} {eH : Hp → H} {P : Program} {G : Nat → Bool}
def QEq (eH : Hp → H) (qX : QFnX H) (q : QFn) : Prop := ∀ f args m k kp, (qX f args (eM eH m) k kp).val = q f args m (fun v m => (k v (eM eH m)).val) (fun v m => (kp v (eM eH m)).val)
def CQEq (eT : Tm → T) (eH : Hp → H) (cX : EvQX T H) (c : EvQ) : Prop := ∀ t d m k kp, (cX (eT t) d (eM eH m) k kp).val = c t d m (fun x t d m => (k x (eT t) d (eM eH m)).val) (fun v W t d m => (kp v W (eT t) d (eM eH m)).val)
theorem operQR_val (L : Law S eT eH) {cX : CallX H} {c : CallFn} (hc : CallEq eH cX c) {qX : QFnX H} {q : QFn} (hq : QEq eH qX q) (PS : FuncId → Bool) (ops : Array Oper) (o : Oper) (t : Tm) (d : List DF) (m : M) (k : T → List DF → MX H → Res) (kp : CV → MX H → Res) :
    (operQR S P G cX qX PS ops o (eT t) d (eM eH m) k kp).val = operQ P G c q PS ops o t d m (fun t d m => (k (eT t) d (eM eH m)).val) (fun v m => (kp v (eM eH m)).val) := by
  have plain := operCR_val (P := P) (G := G) L (rd := false) hc ops o t d m k
  unfold operQR operQ
  cases hg : o.guard with
  | some g => exact plain
  | none =>
    simp only []
    cases ho : o.op
    case panic x =>
      simp only [getOR_val L]
      refine congrArg (getO G x t) (funext fun v => ?_)
      cases v <;> rfl
    case call cc =>
      simp only []
      cases hcal : cc.callee
      case value f =>
        simp only [getOR_val L]
        refine congrArg (getO G f t) (funext fun fv => ?_)
        cases fv
        case fn fn first cap =>
          cases fn
          case func g =>
            simp only []
            cases PS g with
            | false => exact plain
            | true =>
              simp only [getOsR_val L]
              refine congrArg (getOs G cc.args.toList t) (funext fun args => ?_)
              refine (hq _ _ m _ _).trans ?_
              simp only [putTR_val L]
          all_goals exact plain
        all_goals exact plain
      all_goals exact plain
    all_goals exact plain
theorem opsQR_val (L : Law S eT eH) {cX : CallX H} {c : CallFn} (hc : CallEq eH cX c) {qX : QFnX H} {q : QFn} (hq : QEq eH qX q) (PS : FuncId → Bool) (ops : Array Oper) (l : List Oper) : ∀ (t : Tm) (d : List DF) (m : M) (k : T → List DF → MX H → Res) (kp : KPR T H),
    (opsQR S P G cX qX PS ops l (eT t) d (eM eH m) k kp).val = opsQ P G c q PS ops l t d m (fun t d m => (k (eT t) d (eM eH m)).val) (fun v W t d m => (kp v W (eT t) d (eM eH m)).val) := by
  induction l with
  | nil => intros; rfl
  | cons o l ih =>
    intro t d m k kp
    show (operQR S P G cX qX PS ops o (eT t) d (eM eH m) (fun t d m => opsQR S P G cX qX PS ops l t d m k kp) (fun v m => kp v [] (eT t) d m)).val =
      operQ P G c q PS ops o t d m (fun t d m => opsQ P G c q PS ops l t d m (fun t d m => (k (eT t) d (eM eH m)).val) (fun v W t d m => (kp v W (eT t) d (eM eH m)).val)) (fun v m => (kp v [] (eT t) d (eM eH m)).val)
    rw [operQR_val L hc hq]
    simp only [ih]
theorem planQR_val (L : Law S eT eH) {cX : CallX H} {c : CallFn} (hc : CallEq eH cX c) {qX : QFnX H} {q : QFn} (hq : QEq eH qX q) (PS : FuncId → Bool) (ops : Array Oper) (l : List Go.Ev.PS) : ∀ (t : Tm) (d : List DF) (m : M) (k : T → List DF → MX H → Res) (kp : KPR T H),
    (planQR S P G cX qX PS ops l (eT t) d (eM eH m) k kp).val = planQ P G c q PS ops l t d m (fun t d m => (k (eT t) d (eM eH m)).val) (fun v W t d m => (kp v W (eT t) d (eM eH m)).val) := by
  induction l with
  | nil => intros; rfl
  | cons s l ih =>
    intro t d m k kp
    cases s with
    | fl i =>
      show (match ops[i]? with | some o => operCR S P G false cX ops o (eT t) d (eM eH m) (fun t d m => planQR S P G cX qX PS ops l t d m k kp) | none => Res.bad).val =
        (match ops[i]? with | some o => operC P G false c ops o t d m (fun t d m => planQ P G c q PS ops l t d m (fun t d m => (k (eT t) d (eM eH m)).val) (fun v W t d m => (kp v W (eT t) d (eM eH m)).val)) | none => false)
      cases ops[i]? with
      | none => rfl
      | some o =>
        simp only []
        rw [operCR_val L hc]
        simp only [ih]
    | ch i again =>
      show (match ops[i]? with | some o => operQR S P G cX qX PS ops o (eT t) d (eM eH m) (fun t d m => isTrueR (again.all fun j => (againCR S P G ops t m j).val) (planQR S P G cX qX PS ops l t d m k kp)) (fun v m => kp v (dsts ops) (eT t) d m) | none => Res.bad).val =
        (match ops[i]? with | some o => operQ P G c q PS ops o t d m (fun t d m => isTrue (again.all fun j => againC P G ops t m j) (planQ P G c q PS ops l t d m (fun t d m => (k (eT t) d (eM eH m)).val) (fun v W t d m => (kp v W (eT t) d (eM eH m)).val))) (fun v m => (kp v (dsts ops) (eT t) d (eM eH m)).val) | none => false)
      cases ops[i]? with
      | none => rfl
      | some o =>
        simp only []
        rw [operQR_val L hc hq]
        simp only [isTrueR_val, againCR_val L, ih]
theorem opsXR_val (L : Law S eT eH) {cX : CallX H} {c : CallFn} (hc : CallEq eH cX c) (ops : Array Oper) (l : List Oper) : ∀ (t : Tm) (d : List DF) (m : M) (k : T → List DF → MX H → Res),
    (opsXR S P G cX ops l (eT t) d (eM eH m) k).val = opsC P G false c ops l t d m (fun t d m => (k (eT t) d (eM eH m)).val) := by
  induction l with
  | nil => intros; rfl
  | cons o l ih =>
    intro t d m k
    show (operCR S P G false cX ops o (eT t) d (eM eH m) (fun t d m => opsXR S P G cX ops l t d m k)).val = operC P G false c ops o t d m (fun t d m => opsC P G false c ops l t d m _)
    rw [operCR_val L hc]
    simp only [ih]
theorem loopQR_val {bX : EvQX T H} {b : EvQ} (h : CQEq eT eH bX b) (fuel : Nat) : CQEq eT eH (loopQR bX fuel) (loopQ b fuel) := by
  induction fuel with
  | zero => intro t d m k kp; rfl
  | succ n ih =>
    intro t d m k kp
    refine (h t d m _ _).trans (congrArg (fun K => b t d m K _) (funext fun x => funext fun t => funext fun d => funext fun m => ?_))
    cases x with
    | normal => exact ih t d m k kp
    | exit id => rfl
    | ret => rfl
theorem codeQR_val (L : Law S eT eH) {cX : CallX H} {c : CallFn} (hc : CallEq eH cX c) {qX : QFnX H} {q : QFn} (hq : QEq eH qX q) (PS : FuncId → Bool) {fn : FuncId} {fuel : Nat} {cd : Code → CodeX T H} (hcd : ∀ x, CodeEq eT eH (cd x) (codeC P G fn false c fuel x)) (x : Code) :
    CQEq eT eH (codeQR S P G cd cX qX PS fuel x) (codeQ P G fn c q PS fuel x) := by
  induction x with
  | skip => intro t d m k kp; rfl
  | region id ops draw =>
    intro t d m k kp
    cases draw with
    | false => exact opsQR_val L hc hq PS ops ops.toList t d m _ _
    | true =>
      refine (isTrueR_val _ _).trans (congrArg (isTrue _) ?_)
      exact planQR_val L hc hq PS ops (planOf P ops) t d m _ _
  | seq a b iha ihb =>
    intro t d m k kp
    refine (iha t d m _ _).trans (congrArg (fun K => codeQ P G fn c q PS fuel a t d m K _) (funext fun x => funext fun t => funext fun d => funext fun m => ?_))
    cases x with
    | normal => exact ihb t d m k kp
    | exit id => rfl
    | ret => rfl
  | cond o a b iha ihb =>
    intro t d m k kp
    show (getOR S G o (eT t) fun v => asBoolR v fun b' => match b' with | true => codeQR S P G cd cX qX PS fuel a (eT t) d (eM eH m) k kp | false => codeQR S P G cd cX qX PS fuel b (eT t) d (eM eH m) k kp).val = _
    simp only [getOR_val L, asBoolR_val]
    refine congrArg (getO G o t) (funext fun v => congrArg (asBool v) (funext fun b' => ?_))
    cases b' with
    | true => exact iha t d m k kp
    | false => exact ihb t d m k kp
  | block id a iha =>
    intro t d m k kp
    refine (iha t d m _ _).trans (congrArg (fun K => codeQ P G fn c q PS fuel a t d m K _) (funext fun x => funext fun t => funext fun d => funext fun m => ?_))
    cases x with
    | normal => rfl
    | exit j => simp only []; cases Nat.beq j id <;> rfl
    | ret => rfl
  | loop a iha => exact loopQR_val iha fuel
  | rangeFunc f ps a b _ _ => intro t d m k kp; exact hcd (.rangeFunc f ps a b) t d m k
  | exit id => intro t d m k kp; rfl
  | scope x _ => intro t d m k kp; rfl
  | label l => intro t d m k kp; rfl
  | goto l => intro t d m k kp; rfl
  | ret => intro t d m k kp; rfl
  | refuse s => intro t d m k kp; rfl
theorem setAR_val (L : Law S eT eH) (as : List CV) : ∀ (i : Nat) (t : Tm) (k : T → Res), (setAR S as i (eT t) k).val = setArgs as i t fun t => (k (eT t)).val := by
  induction as with
  | nil => intros; rfl
  | cons a as ih =>
    intro i t k
    show (S.sT a (eT t) i (fun t' => setAR S as (Nat.succ i) t' k)).val = setK a t i fun t' => setArgs as (Nat.succ i) t' fun t => (k (eT t)).val
    rw [L.sT]; simp only [ih]
theorem callStepQR_val (L : Law S eT eH) {cX : CallX H} {c : CallFn} (hc : CallEq eH cX c) {qX : QFnX H} {q : QFn} (hq : QEq eH qX q) (PS : FuncId → Bool) {fuel : Nat} {cd : FuncId → Code → CodeX T H} (hcd : ∀ fn x, CodeEq eT eH (cd fn x) (codeC P G fn false c fuel x)) :
    QEq eH (callStepQR S P G cd fuel cX qX PS) (callStepQ P G fuel c q PS) := by
  intro f args m k kp
  cases f <;> try rfl
  rename_i g
  unfold callStepQR callStepQ
  simp only []
  cases P.funcs[g]? with
  | none => rfl
  | some fn =>
    simp only []
    cases fn.body with
    | none => rfl
    | some x =>
      simp only [L.nT, setAR_val L]
      refine congrArg (setArgs args 0 (blank fn.ntmps)) (funext fun t => ?_)
      refine (codeQR_val L hc hq PS (hcd g) x t [] m _ _).trans ?_
      congr 1
      · funext x t d m
        cases x with
        | exit id => rfl
        | normal =>
          refine (defersCR_val L hc d m _).trans (congrArg (defersC c d m) (funext fun m => ?_))
          refine (resultsCR_val L fn.results.toList t m _).trans (congrArg (resultsC P fn.results.toList t m) (funext fun vs => ?_))
          match vs with
          | [] => rfl
          | [_] => rfl
          | _ :: _ :: _ => rfl
        | ret =>
          refine (defersCR_val L hc d m _).trans (congrArg (defersC c d m) (funext fun m => ?_))
          refine (resultsCR_val L fn.results.toList t m _).trans (congrArg (resultsC P fn.results.toList t m) (funext fun vs => ?_))
          match vs with
          | [] => rfl
          | [_] => rfl
          | _ :: _ :: _ => rfl
      · funext v W t d m
        cases d <;> rfl
theorem callQR_val (L : Law S eT eH) {cX : CallX H} {c : CallFn} (hc : CallEq eH cX c) (PS : FuncId → Bool) {fuel : Nat} {cd : FuncId → Code → CodeX T H} (hcd : ∀ fn x, CodeEq eT eH (cd fn x) (codeC P G fn false c fuel x)) : ∀ depth,
    QEq eH (callQR S P G cd fuel cX PS depth) (callQ P G fuel c PS depth)
  | 0 => fun _ _ _ _ _ => rfl
  | depth + 1 => callStepQR_val L hc (callQR_val L hc PS hcd depth) PS hcd
theorem codeVR_val (L : Law S eT eH) {cX : CallX H} {c : CallFn} (hc : CallEq eH cX c) {fn : FuncId} {fuel : Nat} {cd : Code → CodeX T H} (hcd : ∀ x, CodeEq eT eH (cd x) (codeC P G fn false c fuel x)) (v : CV) (x : Code) :
    CodeEq eT eH (codeVR S P G cd cX v x) (codeV P G fn c fuel v x) := by
  induction x with
  | region id ops draw =>
    intro t d m k
    cases draw with
    | true => rfl
    | false =>
      show (opsVR S P G cX ops ops.toList v (eT t) d (eM eH m) (fun t d m => k .normal t d m)).val = opsV P G c ops ops.toList v t d m _
      cases ops.toList with
      | nil => rfl
      | cons o l =>
        simp only [opsVR, opsV]
        cases isRec o with
        | false => rfl
        | true =>
          simp only [putTR_val L]
          refine congrArg (putT o.dst v t) (funext fun t => ?_)
          exact opsXR_val L hc ops l t d m _
  | seq a b iha ihb =>
    intro t d m k
    refine (iha t d m _).trans (congrArg (codeV P G fn c fuel v a t d m) (funext fun x => funext fun t => funext fun d => funext fun m => ?_))
    cases x with
    | normal => exact hcd b t d m k
    | exit id => rfl
    | ret => rfl
  | block id a iha =>
    intro t d m k
    refine (iha t d m _).trans (congrArg (codeV P G fn c fuel v a t d m) (funext fun x => funext fun t => funext fun d => funext fun m => ?_))
    cases x with
    | normal => rfl
    | exit j => simp only []; cases Nat.beq j id <;> rfl
    | ret => rfl
  | skip => intro t d m k; rfl
  | cond c a b _ _ => intro t d m k; rfl
  | loop a _ => intro t d m k; rfl
  | rangeFunc f ps a b _ _ => intro t d m k; rfl
  | exit id => intro t d m k; rfl
  | scope c _ => intro t d m k; rfl
  | label l => intro t d m k; rfl
  | goto l => intro t d m k; rfl
  | ret => intro t d m k; rfl
  | refuse s => intro t d m k; rfl
theorem recFR_val (L : Law S eT eH) {cX : CallX H} {c : CallFn} (hc : CallEq eH cX c) {fuel : Nat} {cd : FuncId → Code → CodeX T H} (hcd : ∀ fn x, CodeEq eT eH (cd fn x) (codeC P G fn false c fuel x)) (g : FuncId) (args : List CV) (v : CV) (m : M) (km : MX H → Res) :
    (recFR S P G cd cX g args v (eM eH m) km).val = recF P G fuel c g args v m fun m => (km (eM eH m)).val := by
  unfold recFR recF
  cases P.funcs[g]? with
  | none => rfl
  | some fn =>
    simp only []
    cases fn.body with
    | none => rfl
    | some x =>
      simp only [L.nT, setAR_val L]
      refine congrArg (setArgs args 0 (blank fn.ntmps)) (funext fun t => ?_)
      refine (codeVR_val L hc (hcd g) v x t [] m _).trans (congrArg (codeV P G g c fuel v x t [] m) (funext fun x => funext fun t => funext fun d => funext fun m => ?_))
      cases x with
      | exit id => rfl
      | normal =>
        cases d with
        | nil => exact resultsCR_val L fn.results.toList t m _
        | cons _ _ => rfl
      | ret =>
        cases d with
        | nil => exact resultsCR_val L fn.results.toList t m _
        | cons _ _ => rfl
theorem recCR_val (L : Law S eT eH) {cX : CallX H} {c : CallFn} (hc : CallEq eH cX c) {qX : QFnX H} {q : QFn} (hq : QEq eH qX q) (PS : FuncId → Bool) {fuel : Nat} {cd : FuncId → Code → CodeX T H} (hcd : ∀ fn x, CodeEq eT eH (cd fn x) (codeC P G fn false c fuel x))
    (f : FuncId) (args : List CV) (m : M) (k : KAX H) : (recCR S P G cd fuel cX qX PS f args (eM eH m) k).val = recC P G fuel c q PS f args m fun v m => (k v (eM eH m)).val := by
  unfold recCR recC
  cases P.funcs[f]? with
  | none => rfl
  | some fn =>
    simp only []
    cases fn.body with
    | none => rfl
    | some x =>
      have res : ∀ (t : Tm) (m : M), (resultsCR S P fn.results.toList (eT t) (eM eH m) fun vs => match vs with
          | [v] => k v (eM eH m)
          | vs => k (.tup vs) (eM eH m)).val = resultsC P fn.results.toList t m fun vs => match vs with
          | [v] => (k v (eM eH m)).val
          | vs => (k (.tup vs) (eM eH m)).val := by
        intro t m
        refine (resultsCR_val L fn.results.toList t m _).trans (congrArg (resultsC P fn.results.toList t m) (funext fun vs => ?_))
        match vs with
        | [] => rfl
        | [_] => rfl
        | _ :: _ :: _ => rfl
      simp only [L.nT, setAR_val L]
      refine congrArg (setArgs args 0 (blank fn.ntmps)) (funext fun t => ?_)
      refine (codeQR_val L hc hq PS (hcd f) x t [] m _ _).trans ?_
      congr 1
      · funext x t d m
        cases x with
        | exit id => rfl
        | normal => exact (defersCR_val L hc d m _).trans (congrArg (defersC c d m) (funext fun m => res t m))
        | ret => exact (defersCR_val L hc d m _).trans (congrArg (defersC c d m) (funext fun m => res t m))
      · funext v W t d m
        match d with
        | [] => rfl
        | _ :: _ :: _ => rfl
        | [x] =>
          cases x with
          | coll b => rfl
          | call g as cap =>
            cases g <;> try rfl
            rename_i g
            refine (isTrueR_val _ _).trans (congrArg (isTrue _) ?_)
            exact (recFR_val L hc hcd g (as ++ cap) v m _).trans (congrArg (recF P G fuel c g (as ++ cap) v m) (funext fun m => res t m))
theorem longCR_val (L : Law S eT eH) (off n : Nat) (args : List CV) (h : Hp) (k : Bool → Res) : (longCR S off n args (eH h) k).val = longC off n args h fun b => (k b).val := by
  cases args with
  | nil => rfl
  | cons x l =>
    cases x <;> try rfl
    rename_i b o
    refine (L.gH h b _).trans (congrArg (getK h b) (funext fun cb => ?_))
    cases cb <;> try rfl
    simp only [getKR_val]
    refine congrArg (getK _ _) (funext fun v => ?_)
    cases v <;> try rfl
    simp only []
    cases Nat.ble n _ <;> rfl
end
noncomputable section
/-! Set into the staged evaluator -/
variable {D : Nat}
/-- a code, staged, as the slow evaluator takes it -/
def cdS (P : Program) (I : TypeId → Option TypeInfo) (G : Nat → Bool) (fuel : Nat) (call : CallS D) (fn : FuncId) (c : Code) : CodeX (TmS D) (HS D) := fun t d m k =>
  mM m fun tab h n => (codeS P I G fn false true fuel c).go (.mk call d tab) t h n fun x c t h n => Cx.rec (motive := fun _ => Res) (fun _ d tab => k x t d ⟨h, n, tab⟩) c
def ovrQS (P : Program) (I : TypeId → Option TypeInfo) (G : Nat → Bool) (fuel : Nat) (PS : FuncId → Bool) (dq R off n : Nat) (call base : CallS D) : CallS D := fun f args tab h nn k =>
  Fn.rec (motive := fun _ => Res) (fun g => Bool.rec (motive := fun _ => Res) (base (.func g) args tab h nn k)
    (decVs args fun as => longCR (scott D) off n as h fun b => Bool.rec (motive := fun _ => Res) (base (.func g) args tab h nn k)
      (recCR (scott D) P G (cdS P I G fuel call) fuel (unS call) (callQR (scott D) P G (cdS P I G fuel call) fuel (unS call) PS dq) PS g as ⟨h, nn, tab⟩ fun v m => mM m fun tab h n => encK v fun v => k v tab h n) b) (Nat.beq g R))
    (fun s => base (.method s) args tab h nn k) (fun t s => base (.methodOf t s) args tab h nn k) (fun t p g b => base (.via t p g b) args tab h nn k) (fun l => base (.yield l) args tab h nn k) f
end
section
variable {D : Nat} {P : Program} {G : Nat → Bool}
theorem cdS_eq {cS : CallS D} {c : CallFn} (hc : CallOK cS c) (fuel : Nat) (fn : FuncId) (x : Code) : CodeEq (encM D) (encH D) (cdS P P.info? G fuel cS fn x) (codeC P G fn false c fuel x) := by
  intro t d m k
  show (mM ⟨encH D m.h, m.n, m.tab⟩ _).val = _
  rw [mM_enc]
  rw [code_good hc fn true fuel x (fun h => by cases h)]
  rfl
theorem ovrQS_ok {cS bS : CallS D} {c b : CallFn} (hc : CallOK cS c) (hb : CallOK bS b) (fuel : Nat) (PS : FuncId → Bool) (dq R off n : Nat) : CallOK (ovrQS P P.info? G fuel PS dq R off n cS bS) (ovrQ P G fuel PS dq R off n c b) := by
  intro f args m k
  cases f with
  | func g =>
    show (Bool.rec (motive := fun _ => Res) _ _ (Nat.beq g R) : Res).val = (match Nat.beq g R with | true => _ | false => _)
    cases Nat.beq g R with
    | false => exact hb _ args m k
    | true =>
      show (decVs (encVs args) _).val = _
      rw [decVs_enc]
      refine (longCR_val (law D) off n args m.h _).trans (congrArg (longC off n args m.h) (funext fun b => ?_))
      cases b with
      | false => exact hb _ args m k
      | true =>
        refine (recCR_val (law D) hc.eq (callQR_val (law D) hc.eq PS (cdS_eq hc fuel) dq) PS (cdS_eq hc fuel) g args m _).trans ?_
        congr 1
        funext v m
        show (mM ⟨encH D m.h, m.n, m.tab⟩ _).val = _
        rw [mM_enc, encK_eq]
  | method s => exact hb _ args m k
  | methodOf t s => exact hb _ args m k
  | via t p g b => exact hb _ args m k
  | yield l => exact hb _ args m k
/-- the evaluator with known answers, and one function that recovers -/
noncomputable def callKQ (P : Program) (G : Nat → Bool) (K : FuncId → Option KRows) (PS : FuncId → Bool) (dq R off n fuel depth : Nat) : CallFn :=
  Nat.rec (motive := fun _ => CallFn) (fun _ _ _ _ => false) (fun _ call => ovrQ P G fuel PS dq R off n call (ovrC K (callStep P G fuel call))) depth
noncomputable def callDKQ (P : Program) (I : TypeId → Option TypeInfo) (F : FuncId → Option Func) (G : Nat → Bool) (Dr : FuncId → Bool) (T : FuncId → Option (FnF DD)) (K : FuncId → Option KRows) (PS : FuncId → Bool) (dq R off n fuel depth : Nat) : CallS DD :=
  Nat.rec (motive := fun _ => CallS DD) (fun _ _ _ _ _ _ => .bad) (fun _ call => ovrQS P I G fuel PS dq R off n call (ovrCS K (stepD P I F G Dr fuel T call))) depth
theorem callKQ_sound {K : FuncId → Option KRows} (hng : NoCount P) (hx : ExtFact P) (hK : RowsOk P K) (PS : FuncId → Bool) (dq R off n fuel depth : Nat) (σ : Sg) : SoundCall P σ G (callKQ P G K PS dq R off n fuel depth) := by
  induction depth with
  | zero => intro f args m k hh _; cases hh
  | succ depth ih => exact ovrQ_ok hng ih (ovrC_ok (callStep_ok hng (ext_ok hng hx) ih (fun rd => draw_ok ih rd) fuel) hK) (fun rd => draw_ok ih rd) fuel PS dq R off n
variable {I : TypeId → Option TypeInfo} {F : FuncId → Option Func} {Dr : FuncId → Bool} {K : FuncId → Option KRows} {fuel : Nat} {T : FuncId → Option (FnF DD)} {PS : FuncId → Bool} {dq R off nq : Nat}
theorem callDKQ_ok (hD : DrawFact P Dr) (hT : DirOk P P.info? (fun f => P.funcs[f]?) G Dr fuel T) (depth : Nat) : CallOK (callDKQ P P.info? (fun f => P.funcs[f]?) G Dr T K PS dq R off nq fuel depth) (callKQ P G K PS dq R off nq fuel depth) := by
  induction depth with
  | zero => intro f args m k; rfl
  | succ depth ih =>
    have h := step_good (G := G) hD ih fuel
    rw [← stepD_eq hT] at h
    exact ovrQS_ok ih (ovrCS_ok K h) fuel PS dq R off nq
/-- a law's run -/
theorem runDQ_step (hI : ∀ t, I t = P.info? t) (hF : ∀ f, F f = P.funcs[f]?) (hD : DrawFact P Dr) (hT : DirOk P I F G Dr fuel T) {depth : Nat} {f : Fn} {args : List CV} {tab : Tab} {h : Hp} {n : Nat}
    (hh : (stepD P I F G Dr fuel T (callDKQ P I F G Dr T K PS dq R off nq fuel depth) f (encVs args) tab (encH DD h) n (isTS DD)).val = true) : callStep P G fuel (callKQ P G K PS dq R off nq fuel depth) f args ⟨h, n, tab⟩ isT = true := by
  have h1 : I = P.info? := funext hI
  have h2 : F = fun f => P.funcs[f]? := funext hF
  subst h1; subst h2
  rw [stepD_eq hT] at hh
  have := step_good (D := DD) (G := G) hD (callDKQ_ok (K := K) (PS := PS) (dq := dq) (R := R) (off := off) (nq := nq) hD hT depth) fuel f args ⟨h, n, tab⟩ (isTS DD)
  rw [this] at hh
  simpa only [isTS_eq] using hh
end
end Go.Ev

namespace Go.Ev
/-! Small memories, at the staged evaluator -/
noncomputable section
variable {D : Nat}
def memRS (D : Nat) (iv : Ivs) (kf : SFm) (ρ : Ren) (h : HS D) : Nat → List BC → Res → Res
  | _, [], k => k
  | b, f :: s, k => match ρ.get? b with
    | some q => (gH D q.1).go h fun bs => decB D bs fun cb => bIf (blkR iv kf ρ f q.2 cb) (memRS D iv kf ρ h (b + 1) s k) .bad
    | none => .bad
def setBR (l : List (Nat × CB)) : HS D → (HS D → Res) → Res := lrec (fun h k => k h) (fun p _ ih h k => (scott D).sH p.2 h p.1 fun h' => ih h' k) l
def ovrFS (kn : Know) (kf : SFm) (ρl : List (Nat × Nat)) (call : CallS D) : CallS D := fun f args tab h n k =>
  Fn.rec (motive := fun _ => Res) (fun g => bIf (Nat.beq g kn.g)
      (decVs args fun cs => bIf (argsR tab.iv kf (ofList ρl) kn.as0 cs) (bIf (ivOk tab.iv kf kn.iv0) (memRS D tab.iv kf (ofList ρl) h 0 kn.s0
        (match backs kf (ofList ρl) kn.f kn.sv kn.nw n kn.s9 ρl 0 with
          | some l => setBR l h fun h' => newBR (scott D) .none ⟨h', n, tab⟩ fun _ m => mM m fun tab h n => encK kn.r fun v => k v tab h n
          | none => .bad)) .bad) .bad)
      (call (.func g) args tab h n k))
    (fun s => call (.method s) args tab h n k) (fun t s => call (.methodOf t s) args tab h n k) (fun t p g b => call (.via t p g b) args tab h n k) (fun l => call (.yield l) args tab h n k) f
/-- a small memory, laid out quickly -/
def hpD (s : List BC) : Hp := ofListD (s.map fun f => .cells f.te f.lo f.es f.l.length (ofListD f.l))
def iterF (A : CodeF D) (p : Nat) : CodeF D := Nat.rec (motive := fun _ => CodeF D) (fun c t h n k => k .normal c t h n)
  (fun _ ih c t h n k => A c t h n fun x c t h n => CX.rec (motive := fun _ => Res) (ih c t h n k) (fun id => k (.exit id) c t h n) (k .ret c t h n) x) p
def isPtS (D f ns : Nat) (l : List (Nat × Nat)) (B : Pt) (t : TmS D) (tab : Tab) (h : HS D) : Res :=
  bIf (fixL f l 0 && (Nat.beq l.length B.s.length && ordR l 0 [])) ((scott D).dT t fun t => bIf (slotsR tab.iv (idF ns) (ofList l) B.t t) (memRS D tab.iv (idF ns) (ofList l) h 0 B.s .ok) .bad) .bad
def toPtS (D f ns : Nat) (l : List (Nat × Nat)) (B : Pt) : KXF D := fun x c t h _ => Cx.rec (motive := fun _ => Res) (fun _ d tab => CX.rec (motive := fun _ => Res) (List.rec (motive := fun _ => Res) (isPtS D f ns l B t tab h) (fun _ _ _ => .bad) d) (fun _ => .bad) .bad x) c
def retPtS (D f ns : Nat) (l : List (Nat × Nat)) (B : Pt) : KXF D := fun x c t h _ => Cx.rec (motive := fun _ => Res) (fun _ d tab => CX.rec (motive := fun _ => Res) .bad (fun _ => .bad) (List.rec (motive := fun _ => Res) (isPtS D f ns l B t tab h) (fun _ _ _ => .bad) d) x) c
end
section
variable {D : Nat} {P : Program} {G : Nat → Bool}
theorem hpD_eq (s : List BC) : hpD s = hpOf s := by
  have : (fun f : BC => CB.cells f.te f.lo f.es f.l.length (ofListD f.l)) = BC.cb := funext fun f => by rw [ofListD_eq]; rfl
  unfold hpD hpOf
  rw [ofListD_eq, this]
theorem memRS_eq (iv : Ivs) (kf : SFm) (ρ : Ren) (h : Hp) (k : Res) : ∀ (s : List BC) (b : Nat), (memRS D iv kf ρ (encH D h) b s k).val = (match memR iv kf ρ h b s with | true => k.val | false => false)
  | [], _ => rfl
  | f :: s, b => by
    simp only [memRS, memR]
    cases ρ.get? b with
    | none => rfl
    | some q =>
      simp only [gH_eq, getKR_val, getK_eq]
      cases h.get? q.1 with
      | none => rfl
      | some cb =>
        simp only [decB_enc, bIf_eq]
        cases blkR iv kf ρ f q.2 cb with
        | false => rfl
        | true => exact memRS_eq iv kf ρ h k s (b + 1)
theorem setBR_eq (l : List (Nat × CB)) : ∀ (h : Hp) (k : HS D → Res), (setBR l (encH D h) k).val = setBs l h fun h => (k (encH D h)).val := by
  induction l with
  | nil => intros; rfl
  | cons p l ih =>
    intro h k
    show ((scott D).sH p.2 (encH D h) p.1 (fun h' => setBR l h' k)).val = setK p.2 h p.1 fun h' => setBs l h' fun h => (k (encH D h)).val
    rw [(law D).sH]
    simp only [ih]
theorem ovrFS_ok {cS : CallS D} {c : CallFn} (hc : CallOK cS c) (kn : Know) (kf : SFm) (ρl : List (Nat × Nat)) : CallOK (ovrFS kn kf ρl cS) (ovrF kn kf ρl c) := by
  intro f args m k
  cases f with
  | func g =>
    show (bIf (Nat.beq g kn.g) _ _ : Res).val = (match Nat.beq g kn.g with | true => _ | false => _)
    rw [bIf_eq]
    cases Nat.beq g kn.g with
    | false => exact hc _ args m k
    | true =>
      simp only []
      rw [decVs_enc]
      simp only [bIf_eq]
      cases argsR m.tab.iv kf (ofList ρl) kn.as0 args with
      | false => rfl
      | true =>
        simp only []
        cases ivOk m.tab.iv kf kn.iv0 with
        | false => rfl
        | true =>
          simp only [memRS_eq, Bool.true_and]
          cases memR m.tab.iv kf (ofList ρl) m.h 0 kn.s0 with
          | false => rfl
          | true =>
            simp only []
            cases backs kf (ofList ρl) kn.f kn.sv kn.nw m.n kn.s9 ρl 0 with
            | none => rfl
            | some l =>
              simp only [setBR_eq]
              refine congrArg (setBs l m.h) (funext fun h' => ?_)
              refine (newBR_val (law D) .none ⟨h', m.n, m.tab⟩ _).trans (congrArg (newB .none ⟨h', m.n, m.tab⟩) (funext fun _ => funext fun m => ?_))
              show (mM ⟨encH D m.h, m.n, m.tab⟩ _).val = _
              rw [mM_enc, encK_eq]
  | method s => exact hc _ args m k
  | methodOf t s => exact hc _ args m k
  | via t p g b => exact hc _ args m k
  | yield l => exact hc _ args m k
theorem iterF_good {cS : CallS D} {cl : CallFn} (hc : CallOK cS cl) (fn : FuncId) (fuel : Nat) (a : Code) : ∀ (p : Nat) (d : List DF) (tab : Tab) (t : Tm) (h : Hp) (n : Nat) (k : KXF D),
    (iterF (codeS P P.info? G fn false true fuel a).go p (.mk cS d tab) (encM D t) (encH D h) n k).val = iterC (codeC P G fn false cl fuel a) p t d ⟨h, n, tab⟩ (onXS cS k)
  | 0, d, tab, t, h, n, k => rfl
  | p + 1, d, tab, t, h, n, k => by
    refine (code_good hc fn true fuel a (fun hx => by cases hx) d tab t h n _).trans ?_
    refine congrArg (codeC P G fn false cl fuel a t d ⟨h, n, tab⟩) (funext fun x => funext fun t => funext fun d => funext fun m => ?_)
    cases x with
    | normal => exact iterF_good hc fn fuel a p d m.tab t m.h m.n k
    | exit id => rfl
    | ret => rfl
theorem isPtS_eq (f ns : Nat) (l : List (Nat × Nat)) (B : Pt) (t : Tm) (m : M) : (isPtS D f ns l B (encM D t) m.tab (encH D m.h)).val = isPt f ns l B t m := by
  unfold isPtS isPt
  rw [bIf_eq]
  cases fixL f l 0 && (Nat.beq l.length B.s.length && ordR l 0 []) with
  | false => rfl
  | true =>
    simp only []
    rw [(law D).dT, bIf_eq]
    cases slotsR m.tab.iv (idF ns) (ofList l) B.t t with
    | false => rfl
    | true =>
      simp only []
      rw [memRS_eq]
      cases memR m.tab.iv (idF ns) (ofList l) m.h 0 B.s <;> rfl
theorem toPtS_eq (cS : CallS D) (f ns : Nat) (l : List (Nat × Nat)) (B : Pt) : onXS cS (toPtS D f ns l B) = toPt f ns l B := by
  funext x t d m
  cases x with
  | normal =>
    cases d with
    | nil => exact isPtS_eq f ns l B t m
    | cons _ _ => rfl
  | exit id => rfl
  | ret => rfl
theorem retPtS_eq (cS : CallS D) (f ns : Nat) (l : List (Nat × Nat)) (B : Pt) : onXS cS (retPtS D f ns l B) = retPt f ns l B := by
  funext x t d m
  cases x with
  | normal => rfl
  | exit id => rfl
  | ret =>
    cases d with
    | nil => exact isPtS_eq f ns l B t m
    | cons _ _ => rfl
end
noncomputable section
/-- some rounds of a loop (or one run of a code: p = 1), from one point to another -/
def runSeg (P : Program) (I : TypeId → Option TypeInfo) (G : Nat → Bool) (fuel : Nat) (fn : FuncId) (a : Code) (p : Nat) (call : CallS DD) (f ns : Nat) (tab : Tab) (A : Pt) (l : List (Nat × Nat)) (B : Pt) : Res :=
  iterF (codeS P I G fn false true fuel a).go p (.mk call [] tab) (encM DD (ofList A.t)) (encH DD (hpD A.s)) A.s.length (toPtS DD f ns l B)
def runSegR (P : Program) (I : TypeId → Option TypeInfo) (G : Nat → Bool) (fuel : Nat) (fn : FuncId) (a : Code) (p : Nat) (call : CallS DD) (f ns : Nat) (tab : Tab) (A : Pt) (l : List (Nat × Nat)) (B : Pt) : Res :=
  iterF (codeS P I G fn false true fuel a).go p (.mk call [] tab) (encM DD (ofList A.t)) (encH DD (hpD A.s)) A.s.length (retPtS DD f ns l B)
end
section
variable {P : Program} {I : TypeId → Option TypeInfo} {σ : Sg} {fuel : Nat} {fn : FuncId} {a : Code} {p f ns : Nat} {tab : Tab} {A B : Pt} {l : List (Nat × Nat)} {cS : CallS DD} {cl : CallFn}
theorem runSeg_seg (hI : ∀ t, I t = P.info? t) (hng : NoCount P) (hc : CallOK cS cl) (hcl : SoundCall P σ G0 cl) (hh : (runSeg P I G0 fuel fn a p cS f ns tab A l B).val = true) (hs : Sat σ tab) (hfA : f ≤ A.s.length) (hfB : f ≤ B.s.length) :
    SegI P σ fn f A [.code a, .inLoop a] B [.code a, .inLoop a] := by
  obtain rfl : I = P.info? := funext hI
  unfold runSeg at hh
  rw [hpD_eq] at hh
  rw [iterF_good hc, toPtS_eq] at hh
  exact seg_iter (codeC_ok hng hcl (fun rd => draw_ok hcl rd) fn false fuel a) hh hs hfA hfB
theorem runSegR_seg (hI : ∀ t, I t = P.info? t) (hng : NoCount P) (hc : CallOK cS cl) (hcl : SoundCall P σ G0 cl) (hh : (runSegR P I G0 fuel fn a p cS f ns tab A l B).val = true) (hs : Sat σ tab) (hfA : f ≤ A.s.length) (hfB : f ≤ B.s.length) :
    SegR P σ fn f A [.code a, .inLoop a] B := by
  obtain rfl : I = P.info? := funext hI
  unfold runSegR at hh
  rw [hpD_eq] at hh
  rw [iterF_good hc, retPtS_eq] at hh
  exact seg_iterR (codeC_ok hng hcl (fun rd => draw_ok hcl rd) fn false fuel a) hh hs hfA hfB
theorem runCode_seg (hI : ∀ t, I t = P.info? t) (hng : NoCount P) (hc : CallOK cS cl) (hcl : SoundCall P σ G0 cl) (hh : (runSeg P I G0 fuel fn a 1 cS f ns tab A l B).val = true) (hs : Sat σ tab) (hfA : f ≤ A.s.length) (hfB : f ≤ B.s.length) :
    SegI P σ fn f A [.code a] B [] := by
  obtain rfl : I = P.info? := funext hI
  unfold runSeg at hh
  rw [hpD_eq] at hh
  rw [iterF_good hc, toPtS_eq] at hh
  have e : iterC (codeC P G0 fn false cl fuel a) 1 (ofList A.t) [] ⟨hpOf A.s, A.s.length, tab⟩ (toPt f ns l B) = codeC P G0 fn false cl fuel a (ofList A.t) [] ⟨hpOf A.s, A.s.length, tab⟩ (toPt f ns l B) := by
    show codeC P G0 fn false cl fuel a (ofList A.t) [] ⟨hpOf A.s, A.s.length, tab⟩ _ = _
    congr 1
    funext x t d m
    cases x <;> rfl
  rw [e] at hh
  exact seg_code (codeC_ok hng hcl (fun rd => draw_ok hcl rd) fn false fuel a) hh hs hfA hfB
end
end Go.Ev
