/- A verified evaluator for the model's code (part EvO): own work, of no program. -/
import Derived.Test.YtbckjaoljeimgaaGreatDoorEvK
import Derived.Deep.RegionLaw
import Derived.Deep.AppendLies
import Derived.WalkKit
namespace Go.Ev
noncomputable section
/-! The evaluator that knows panics, over any form of frames and heaps -/
abbrev QFnX (H : Type) := Fn → List CV → MX H → KAX H → (CV → MX H → Res) → Res
abbrev KPR (T H : Type) := CV → List Nat → T → List DF → MX H → Res
abbrev EvQX (T H : Type) := T → List DF → MX H → KXX T H → KPR T H → Res
section
variable {T H : Type} (S : Sig T H) (P : Program) (G : Nat → Bool)
def operQR (call : CallX H) (q : QFnX H) (PS : FuncId → Bool) (ops : Array Oper) (o : Oper) (t : T) (d : List DF) (m : MX H) (k : T → List DF → MX H → Res) (kp : CV → MX H → Res) : Res :=
  match o.guard with
  | some _ => operCR S P G false call ops o t d m k
  | none => match o.op with
    | .panic x => getOR S G x t fun v => match v with
      | .ifc .. => kp v m
      | _ => .bad
    | .call c => match c.callee with
      | .value f => getOR S G f t fun fv => match fv with
        | .fn f first cap => match f with
          | .func g => match PS g with
            | true => getOsR S G c.args.toList t fun args => q (.func g) (first ++ args ++ cap) m (fun v m => putTR S o.dst v t fun t => k t d m) kp
            | false => operCR S P G false call ops o t d m k
          | _ => operCR S P G false call ops o t d m k
        | _ => operCR S P G false call ops o t d m k
      | _ => operCR S P G false call ops o t d m k
    | _ => operCR S P G false call ops o t d m k
def opsQR (call : CallX H) (q : QFnX H) (PS : FuncId → Bool) (ops : Array Oper) (l : List Oper) : T → List DF → MX H → (T → List DF → MX H → Res) → KPR T H → Res :=
  lrec (fun t d m k _ => k t d m) (fun o _ ih t d m k kp => operQR S P G call q PS ops o t d m (fun t d m => ih t d m k kp) (fun v m => kp v [] t d m)) l
def planQR (call : CallX H) (q : QFnX H) (PS : FuncId → Bool) (ops : Array Oper) (l : List Go.Ev.PS) : T → List DF → MX H → (T → List DF → MX H → Res) → KPR T H → Res :=
  lrec (fun t d m k _ => k t d m) (fun s _ ih t d m k kp => match s with
    | .fl i => match ops[i]? with
      | some o => operCR S P G false call ops o t d m fun t d m => ih t d m k kp
      | none => .bad
    | .ch i again => match ops[i]? with
      | some o => operQR S P G call q PS ops o t d m (fun t d m => isTrueR (again.all fun j => (againCR S P G ops t m j).val) (ih t d m k kp)) (fun v m => kp v (dsts ops) t d m)
      | none => .bad) l
def opsXR (call : CallX H) (ops : Array Oper) (l : List Oper) : T → List DF → MX H → (T → List DF → MX H → Res) → Res :=
  lrec (fun t d m k => k t d m) (fun o _ ih t d m k => operCR S P G false call ops o t d m fun t d m => ih t d m k) l
def loopQR (body : EvQX T H) (fuel : Nat) : EvQX T H :=
  Nat.rec (motive := fun _ => EvQX T H) (fun _ _ _ _ _ => .bad)
    (fun _ ih t d m k kp => body t d m (fun x t d m => match x with
      | .normal => ih t d m k kp
      | .exit id => k (.exit id) t d m
      | .ret => k .ret t d m) kp) fuel
def codeQR (cd : Code → CodeX T H) (call : CallX H) (q : QFnX H) (PS : FuncId → Bool) (fuel : Nat) (c : Code) : EvQX T H :=
  Code.rec (motive := fun _ => EvQX T H)
    (fun t d m k _ => k .normal t d m)
    (fun _ ops draw t d m k kp => match draw with
      | false => opsQR S P G call q PS ops ops.toList t d m (fun t d m => k .normal t d m) kp
      | true => isTrueR (drawOk P ops) (planQR S P G call q PS ops (planOf P ops) t d m (fun t d m => k .normal t d m) kp))
    (fun _ _ a b t d m k kp => a t d m (fun x t d m => match x with
      | .normal => b t d m k kp
      | .exit id => k (.exit id) t d m
      | .ret => k .ret t d m) kp)
    (fun c _ _ a b t d m k kp => getOR S G c t fun v => asBoolR v fun b' => match b' with | true => a t d m k kp | false => b t d m k kp)
    (fun id _ a t d m k kp => a t d m (fun x t d m => match x with
      | .normal => k .normal t d m
      | .exit j => match Nat.beq j id with | true => k .normal t d m | false => k (.exit j) t d m
      | .ret => k .ret t d m) kp)
    (fun _ a => loopQR a fuel)
    (fun f ps a b _ _ t d m k _ => cd (.rangeFunc f ps a b) t d m k)
    (fun id t d m k _ => k (.exit id) t d m)
    (fun _ _ _ _ _ _ _ => .bad)
    (fun _ t d m k _ => k .normal t d m)
    (fun _ _ _ _ _ _ => .bad)
    (fun t d m k _ => k .ret t d m)
    (fun _ _ _ _ _ _ => .bad) c
def setAR (as : List CV) : Nat → T → (T → Res) → Res := lrec (fun _ t k => k t) (fun a _ ih i t k => S.sT a t i fun t' => ih (Nat.succ i) t' k) as
def callStepQR (cd : FuncId → Code → CodeX T H) (fuel : Nat) (call : CallX H) (q : QFnX H) (PS : FuncId → Bool) : QFnX H := fun f args m k kp => match f with
  | .func f => match P.funcs[f]? with
    | some fn => match fn.body with
      | some c => setAR S args 0 (S.nT (blank fn.ntmps)) fun t => codeQR S P G (cd f) call q PS fuel c t [] m (fun x t d m => match x with
          | .exit _ => .bad
          | _ => defersCR S call d m fun m => resultsCR S P fn.results.toList t m fun vs => match vs with
            | [v] => k v m
            | vs => k (.tup vs) m) (fun v _ _ d m => match d with | [] => kp v m | _ => .bad)
      | none => .bad
    | none => .bad
  | _ => .bad
def callQR (cd : FuncId → Code → CodeX T H) (fuel : Nat) (call : CallX H) (PS : FuncId → Bool) (depth : Nat) : QFnX H :=
  Nat.rec (motive := fun _ => QFnX H) (fun _ _ _ _ _ => .bad) (fun _ q => callStepQR S P G cd fuel call q PS) depth
def opsVR (call : CallX H) (ops : Array Oper) (l : List Oper) (v : CV) (t : T) (d : List DF) (m : MX H) (k : T → List DF → MX H → Res) : Res := match l with
  | [] => .bad
  | o :: l => match isRec o with
    | true => putTR S o.dst v t fun t => opsXR S P G call ops l t d m k
    | false => .bad
def codeVR (cd : Code → CodeX T H) (call : CallX H) (v : CV) (c : Code) : CodeX T H :=
  Code.rec (motive := fun _ => CodeX T H)
    (fun _ _ _ _ => .bad)
    (fun _ ops draw t d m k => match draw with
      | false => opsVR S P G call ops ops.toList v t d m (fun t d m => k .normal t d m)
      | true => .bad)
    (fun _ b a _ t d m k => a t d m (fun x t d m => match x with
      | .normal => cd b t d m k
      | .exit id => k (.exit id) t d m
      | .ret => k .ret t d m))
    (fun _ _ _ _ _ _ _ _ _ => .bad)
    (fun id _ a t d m k => a t d m (fun x t d m => match x with
      | .normal => k .normal t d m
      | .exit j => match Nat.beq j id with | true => k .normal t d m | false => k (.exit j) t d m
      | .ret => k .ret t d m))
    (fun _ _ _ _ _ _ => .bad)
    (fun _ _ _ _ _ _ _ _ _ _ => .bad)
    (fun _ _ _ _ _ => .bad)
    (fun _ _ _ _ _ _ => .bad)
    (fun _ _ _ _ _ => .bad)
    (fun _ _ _ _ _ => .bad)
    (fun _ _ _ _ => .bad)
    (fun _ _ _ _ _ => .bad) c
def recFR (cd : FuncId → Code → CodeX T H) (call : CallX H) (g : FuncId) (args : List CV) (v : CV) (m : MX H) (km : MX H → Res) : Res := match P.funcs[g]? with
  | some fn => match fn.body with
    | some c => setAR S args 0 (S.nT (blank fn.ntmps)) fun t => codeVR S P G (cd g) call v c t [] m fun x t d m => match x with
      | .exit _ => .bad
      | _ => match d with
        | [] => resultsCR S P fn.results.toList t m fun _ => km m
        | _ => .bad
    | none => .bad
  | none => .bad
def recCR (cd : FuncId → Code → CodeX T H) (fuel : Nat) (call : CallX H) (q : QFnX H) (PS : FuncId → Bool) (f : FuncId) (args : List CV) (m : MX H) (k : KAX H) : Res := match P.funcs[f]? with
  | some fn => match fn.body with
    | some c => setAR S args 0 (S.nT (blank fn.ntmps)) fun t => codeQR S P G (cd f) call q PS fuel c t [] m (fun x t d m => match x with
        | .exit _ => .bad
        | _ => defersCR S call d m fun m => resultsCR S P fn.results.toList t m fun vs => match vs with
          | [v] => k v m
          | vs => k (.tup vs) m)
        (fun v W t d m => match d with
          | [x] => match x with
            | .call g args cap => match g with
              | .func g => isTrueR (wOk W fn.results.toList) <| recFR S P G cd call g (args ++ cap) v m fun m => resultsCR S P fn.results.toList t m fun vs => match vs with
                | [v] => k v m
                | vs => k (.tup vs) m
              | _ => .bad
            | _ => .bad
          | _ => .bad)
    | none => .bad
  | none => .bad
def longCR (off n : Nat) (args : List CV) (h : H) (k : Bool → Res) : Res := match args with
  | x :: _ => match x with
    | .ptr b o => S.gH h b fun cb => match cb with
      | .cells _ _ _ _ cs => getKR cs (o + off) fun v => match v with
        | .sl _ _ len _ => match Nat.ble n len with | true => k true | false => k false
        | _ => k false
      | _ => k false
    | _ => k false
  | _ => k false
end
end
section
variable {T H : Type} {S : Sig T H} {eT : Tm → T} {eH : Hp → H} {P : Program} {G : Nat → Bool}
def QEq (eH : Hp → H) (qX : QFnX H) (q : QFn) : Prop := ∀ f args m k kp, (qX f args (eM eH m) k kp).val = q f args m (fun v m => (k v (eM eH m)).val) (fun v m => (kp v (eM eH m)).val)
def CQEq (eT : Tm → T) (eH : Hp → H) (cX : EvQX T H) (c : EvQ) : Prop := ∀ t d m k kp, (cX (eT t) d (eM eH m) k kp).val = c t d m (fun x t d m => (k x (eT t) d (eM eH m)).val) (fun v W t d m => (kp v W (eT t) d (eM eH m)).val)
theorem operQR_val (L : Law S eT eH) {cX : CallX H} {c : CallFn} (hc : CallEq eH cX c) {qX : QFnX H} {q : QFn} (hq : QEq eH qX q) (PS : FuncId → Bool) (ops : Array Oper) (o : Oper) (t : Tm) (d : List DF) (m : M) (k : T → List DF → MX H → Res) (kp : CV → MX H → Res) :
    (operQR S P G cX qX PS ops o (eT t) d (eM eH m) k kp).val = operQ P G c q PS ops o t d m (fun t d m => (k (eT t) d (eM eH m)).val) (fun v m => (kp v (eM eH m)).val) := by
  have plain := operCR_val (P := P) (G := G) L (rd := false) hc ops o t d m k
  unfold operQR operQ
  cases hg : o.guard with
  | some g => exact plain
  | none =>
    simp only []
    cases ho : o.op
    case panic x =>
      simp only [getOR_val L]
      refine congrArg (getO G x t) (funext fun v => ?_)
      cases v <;> rfl
    case call cc =>
      simp only []
      cases hcal : cc.callee
      case value f =>
        simp only [getOR_val L]
        refine congrArg (getO G f t) (funext fun fv => ?_)
        cases fv
        case fn fn first cap =>
          cases fn
          case func g =>
            simp only []
            cases PS g with
            | false => exact plain
            | true =>
              simp only [getOsR_val L]
              refine congrArg (getOs G cc.args.toList t) (funext fun args => ?_)
              refine (hq _ _ m _ _).trans ?_
              simp only [putTR_val L]
          all_goals exact plain
        all_goals exact plain
      all_goals exact plain
    all_goals exact plain
theorem opsQR_val (L : Law S eT eH) {cX : CallX H} {c : CallFn} (hc : CallEq eH cX c) {qX : QFnX H} {q : QFn} (hq : QEq eH qX q) (PS : FuncId → Bool) (ops : Array Oper) (l : List Oper) : ∀ (t : Tm) (d : List DF) (m : M) (k : T → List DF → MX H → Res) (kp : KPR T H),
    (opsQR S P G cX qX PS ops l (eT t) d (eM eH m) k kp).val = opsQ P G c q PS ops l t d m (fun t d m => (k (eT t) d (eM eH m)).val) (fun v W t d m => (kp v W (eT t) d (eM eH m)).val) := by
  induction l with
  | nil => intros; rfl
  | cons o l ih =>
    intro t d m k kp
    show (operQR S P G cX qX PS ops o (eT t) d (eM eH m) (fun t d m => opsQR S P G cX qX PS ops l t d m k kp) (fun v m => kp v [] (eT t) d m)).val =
      operQ P G c q PS ops o t d m (fun t d m => opsQ P G c q PS ops l t d m (fun t d m => (k (eT t) d (eM eH m)).val) (fun v W t d m => (kp v W (eT t) d (eM eH m)).val)) (fun v m => (kp v [] (eT t) d (eM eH m)).val)
    rw [operQR_val L hc hq]
    simp only [ih]
theorem planQR_val (L : Law S eT eH) {cX : CallX H} {c : CallFn} (hc : CallEq eH cX c) {qX : QFnX H} {q : QFn} (hq : QEq eH qX q) (PS : FuncId → Bool) (ops : Array Oper) (l : List Go.Ev.PS) : ∀ (t : Tm) (d : List DF) (m : M) (k : T → List DF → MX H → Res) (kp : KPR T H),
    (planQR S P G cX qX PS ops l (eT t) d (eM eH m) k kp).val = planQ P G c q PS ops l t d m (fun t d m => (k (eT t) d (eM eH m)).val) (fun v W t d m => (kp v W (eT t) d (eM eH m)).val) := by
  induction l with
  | nil => intros; rfl
  | cons s l ih =>
    intro t d m k kp
    cases s with
    | fl i =>
      show (match ops[i]? with | some o => operCR S P G false cX ops o (eT t) d (eM eH m) (fun t d m => planQR S P G cX qX PS ops l t d m k kp) | none => Res.bad).val =
        (match ops[i]? with | some o => operC P G false c ops o t d m (fun t d m => planQ P G c q PS ops l t d m (fun t d m => (k (eT t) d (eM eH m)).val) (fun v W t d m => (kp v W (eT t) d (eM eH m)).val)) | none => false)
      cases ops[i]? with
      | none => rfl
      | some o =>
        simp only []
        rw [operCR_val L hc]
        simp only [ih]
    | ch i again =>
      show (match ops[i]? with | some o => operQR S P G cX qX PS ops o (eT t) d (eM eH m) (fun t d m => isTrueR (again.all fun j => (againCR S P G ops t m j).val) (planQR S P G cX qX PS ops l t d m k kp)) (fun v m => kp v (dsts ops) (eT t) d m) | none => Res.bad).val =
        (match ops[i]? with | some o => operQ P G c q PS ops o t d m (fun t d m => isTrue (again.all fun j => againC P G ops t m j) (planQ P G c q PS ops l t d m (fun t d m => (k (eT t) d (eM eH m)).val) (fun v W t d m => (kp v W (eT t) d (eM eH m)).val))) (fun v m => (kp v (dsts ops) (eT t) d (eM eH m)).val) | none => false)
      cases ops[i]? with
      | none => rfl
      | some o =>
        simp only []
        rw [operQR_val L hc hq]
        simp only [isTrueR_val, againCR_val L, ih]
theorem opsXR_val (L : Law S eT eH) {cX : CallX H} {c : CallFn} (hc : CallEq eH cX c) (ops : Array Oper) (l : List Oper) : ∀ (t : Tm) (d : List DF) (m : M) (k : T → List DF → MX H → Res),
    (opsXR S P G cX ops l (eT t) d (eM eH m) k).val = opsC P G false c ops l t d m (fun t d m => (k (eT t) d (eM eH m)).val) := by
  induction l with
  | nil => intros; rfl
  | cons o l ih =>
    intro t d m k
    show (operCR S P G false cX ops o (eT t) d (eM eH m) (fun t d m => opsXR S P G cX ops l t d m k)).val = operC P G false c ops o t d m (fun t d m => opsC P G false c ops l t d m _)
    rw [operCR_val L hc]
    simp only [ih]
theorem loopQR_val {bX : EvQX T H} {b : EvQ} (h : CQEq eT eH bX b) (fuel : Nat) : CQEq eT eH (loopQR bX fuel) (loopQ b fuel) := by
  induction fuel with
  | zero => intro t d m k kp; rfl
  | succ n ih =>
    intro t d m k kp
    refine (h t d m _ _).trans (congrArg (fun K => b t d m K _) (funext fun x => funext fun t => funext fun d => funext fun m => ?_))
    cases x with
    | normal => exact ih t d m k kp
    | exit id => rfl
    | ret => rfl
theorem codeQR_val (L : Law S eT eH) {cX : CallX H} {c : CallFn} (hc : CallEq eH cX c) {qX : QFnX H} {q : QFn} (hq : QEq eH qX q) (PS : FuncId → Bool) {fn : FuncId} {fuel : Nat} {cd : Code → CodeX T H} (hcd : ∀ x, CodeEq eT eH (cd x) (codeC P G fn false c fuel x)) (x : Code) :
    CQEq eT eH (codeQR S P G cd cX qX PS fuel x) (codeQ P G fn c q PS fuel x) := by
  induction x with
  | skip => intro t d m k kp; rfl
  | region id ops draw =>
    intro t d m k kp
    cases draw with
    | false => exact opsQR_val L hc hq PS ops ops.toList t d m _ _
    | true =>
      refine (isTrueR_val _ _).trans (congrArg (isTrue _) ?_)
      exact planQR_val L hc hq PS ops (planOf P ops) t d m _ _
  | seq a b iha ihb =>
    intro t d m k kp
    refine (iha t d m _ _).trans (congrArg (fun K => codeQ P G fn c q PS fuel a t d m K _) (funext fun x => funext fun t => funext fun d => funext fun m => ?_))
    cases x with
    | normal => exact ihb t d m k kp
    | exit id => rfl
    | ret => rfl
  | cond o a b iha ihb =>
    intro t d m k kp
    show (getOR S G o (eT t) fun v => asBoolR v fun b' => match b' with | true => codeQR S P G cd cX qX PS fuel a (eT t) d (eM eH m) k kp | false => codeQR S P G cd cX qX PS fuel b (eT t) d (eM eH m) k kp).val = _
    simp only [getOR_val L, asBoolR_val]
    refine congrArg (getO G o t) (funext fun v => congrArg (asBool v) (funext fun b' => ?_))
    cases b' with
    | true => exact iha t d m k kp
    | false => exact ihb t d m k kp
  | block id a iha =>
    intro t d m k kp
    refine (iha t d m _ _).trans (congrArg (fun K => codeQ P G fn c q PS fuel a t d m K _) (funext fun x => funext fun t => funext fun d => funext fun m => ?_))
    cases x with
    | normal => rfl
    | exit j => simp only []; cases Nat.beq j id <;> rfl
    | ret => rfl
  | loop a iha => exact loopQR_val iha fuel
  | rangeFunc f ps a b _ _ => intro t d m k kp; exact hcd (.rangeFunc f ps a b) t d m k
  | exit id => intro t d m k kp; rfl
  | scope x _ => intro t d m k kp; rfl
  | label l => intro t d m k kp; rfl
  | goto l => intro t d m k kp; rfl
  | ret => intro t d m k kp; rfl
  | refuse s => intro t d m k kp; rfl
theorem setAR_val (L : Law S eT eH) (as : List CV) : ∀ (i : Nat) (t : Tm) (k : T → Res), (setAR S as i (eT t) k).val = setArgs as i t fun t => (k (eT t)).val := by
  induction as with
  | nil => intros; rfl
  | cons a as ih =>
    intro i t k
    show (S.sT a (eT t) i (fun t' => setAR S as (Nat.succ i) t' k)).val = setK a t i fun t' => setArgs as (Nat.succ i) t' fun t => (k (eT t)).val
    rw [L.sT]; simp only [ih]
theorem callStepQR_val (L : Law S eT eH) {cX : CallX H} {c : CallFn} (hc : CallEq eH cX c) {qX : QFnX H} {q : QFn} (hq : QEq eH qX q) (PS : FuncId → Bool) {fuel : Nat} {cd : FuncId → Code → CodeX T H} (hcd : ∀ fn x, CodeEq eT eH (cd fn x) (codeC P G fn false c fuel x)) :
    QEq eH (callStepQR S P G cd fuel cX qX PS) (callStepQ P G fuel c q PS) := by
  intro f args m k kp
  cases f <;> try rfl
  rename_i g
  unfold callStepQR callStepQ
  simp only []
  cases P.funcs[g]? with
  | none => rfl
  | some fn =>
    simp only []
    cases fn.body with
    | none => rfl
    | some x =>
      simp only [L.nT, setAR_val L]
      refine congrArg (setArgs args 0 (blank fn.ntmps)) (funext fun t => ?_)
      refine (codeQR_val L hc hq PS (hcd g) x t [] m _ _).trans ?_
      congr 1
      · funext x t d m
        cases x with
        | exit id => rfl
        | normal =>
          refine (defersCR_val L hc d m _).trans (congrArg (defersC c d m) (funext fun m => ?_))
          refine (resultsCR_val L fn.results.toList t m _).trans (congrArg (resultsC P fn.results.toList t m) (funext fun vs => ?_))
          match vs with
          | [] => rfl
          | [_] => rfl
          | _ :: _ :: _ => rfl
        | ret =>
          refine (defersCR_val L hc d m _).trans (congrArg (defersC c d m) (funext fun m => ?_))
          refine (resultsCR_val L fn.results.toList t m _).trans (congrArg (resultsC P fn.results.toList t m) (funext fun vs => ?_))
          match vs with
          | [] => rfl
          | [_] => rfl
          | _ :: _ :: _ => rfl
      · funext v W t d m
        cases d <;> rfl
theorem callQR_val (L : Law S eT eH) {cX : CallX H} {c : CallFn} (hc : CallEq eH cX c) (PS : FuncId → Bool) {fuel : Nat} {cd : FuncId → Code → CodeX T H} (hcd : ∀ fn x, CodeEq eT eH (cd fn x) (codeC P G fn false c fuel x)) : ∀ depth,
    QEq eH (callQR S P G cd fuel cX PS depth) (callQ P G fuel c PS depth)
  | 0 => fun _ _ _ _ _ => rfl
  | depth + 1 => callStepQR_val L hc (callQR_val L hc PS hcd depth) PS hcd
theorem codeVR_val (L : Law S eT eH) {cX : CallX H} {c : CallFn} (hc : CallEq eH cX c) {fn : FuncId} {fuel : Nat} {cd : Code → CodeX T H} (hcd : ∀ x, CodeEq eT eH (cd x) (codeC P G fn false c fuel x)) (v : CV) (x : Code) :
    CodeEq eT eH (codeVR S P G cd cX v x) (codeV P G fn c fuel v x) := by
  induction x with
  | region id ops draw =>
    intro t d m k
    cases draw with
    | true => rfl
    | false =>
      show (opsVR S P G cX ops ops.toList v (eT t) d (eM eH m) (fun t d m => k .normal t d m)).val = opsV P G c ops ops.toList v t d m _
      cases ops.toList with
      | nil => rfl
      | cons o l =>
        simp only [opsVR, opsV]
        cases isRec o with
        | false => rfl
        | true =>
          simp only [putTR_val L]
          refine congrArg (putT o.dst v t) (funext fun t => ?_)
          exact opsXR_val L hc ops l t d m _
  | seq a b iha ihb =>
    intro t d m k
    refine (iha t d m _).trans (congrArg (codeV P G fn c fuel v a t d m) (funext fun x => funext fun t => funext fun d => funext fun m => ?_))
    cases x with
    | normal => exact hcd b t d m k
    | exit id => rfl
    | ret => rfl
  | block id a iha =>
    intro t d m k
    refine (iha t d m _).trans (congrArg (codeV P G fn c fuel v a t d m) (funext fun x => funext fun t => funext fun d => funext fun m => ?_))
    cases x with
    | normal => rfl
    | exit j => simp only []; cases Nat.beq j id <;> rfl
    | ret => rfl
  | skip => intro t d m k; rfl
  | cond c a b _ _ => intro t d m k; rfl
  | loop a _ => intro t d m k; rfl
  | rangeFunc f ps a b _ _ => intro t d m k; rfl
  | exit id => intro t d m k; rfl
  | scope c _ => intro t d m k; rfl
  | label l => intro t d m k; rfl
  | goto l => intro t d m k; rfl
  | ret => intro t d m k; rfl
  | refuse s => intro t d m k; rfl
theorem recFR_val (L : Law S eT eH) {cX : CallX H} {c : CallFn} (hc : CallEq eH cX c) {fuel : Nat} {cd : FuncId → Code → CodeX T H} (hcd : ∀ fn x, CodeEq eT eH (cd fn x) (codeC P G fn false c fuel x)) (g : FuncId) (args : List CV) (v : CV) (m : M) (km : MX H → Res) :
    (recFR S P G cd cX g args v (eM eH m) km).val = recF P G fuel c g args v m fun m => (km (eM eH m)).val := by
  unfold recFR recF
  cases P.funcs[g]? with
  | none => rfl
  | some fn =>
    simp only []
    cases fn.body with
    | none => rfl
    | some x =>
      simp only [L.nT, setAR_val L]
      refine congrArg (setArgs args 0 (blank fn.ntmps)) (funext fun t => ?_)
      refine (codeVR_val L hc (hcd g) v x t [] m _).trans (congrArg (codeV P G g c fuel v x t [] m) (funext fun x => funext fun t => funext fun d => funext fun m => ?_))
      cases x with
      | exit id => rfl
      | normal =>
        cases d with
        | nil => exact resultsCR_val L fn.results.toList t m _
        | cons _ _ => rfl
      | ret =>
        cases d with
        | nil => exact resultsCR_val L fn.results.toList t m _
        | cons _ _ => rfl
theorem recCR_val (L : Law S eT eH) {cX : CallX H} {c : CallFn} (hc : CallEq eH cX c) {qX : QFnX H} {q : QFn} (hq : QEq eH qX q) (PS : FuncId → Bool) {fuel : Nat} {cd : FuncId → Code → CodeX T H} (hcd : ∀ fn x, CodeEq eT eH (cd fn x) (codeC P G fn false c fuel x))
    (f : FuncId) (args : List CV) (m : M) (k : KAX H) : (recCR S P G cd fuel cX qX PS f args (eM eH m) k).val = recC P G fuel c q PS f args m fun v m => (k v (eM eH m)).val := by
  unfold recCR recC
  cases P.funcs[f]? with
  | none => rfl
  | some fn =>
    simp only []
    cases fn.body with
    | none => rfl
    | some x =>
      have res : ∀ (t : Tm) (m : M), (resultsCR S P fn.results.toList (eT t) (eM eH m) fun vs => match vs with
          | [v] => k v (eM eH m)
          | vs => k (.tup vs) (eM eH m)).val = resultsC P fn.results.toList t m fun vs => match vs with
          | [v] => (k v (eM eH m)).val
          | vs => (k (.tup vs) (eM eH m)).val := by
        intro t m
        refine (resultsCR_val L fn.results.toList t m _).trans (congrArg (resultsC P fn.results.toList t m) (funext fun vs => ?_))
        match vs with
        | [] => rfl
        | [_] => rfl
        | _ :: _ :: _ => rfl
      simp only [L.nT, setAR_val L]
      refine congrArg (setArgs args 0 (blank fn.ntmps)) (funext fun t => ?_)
      refine (codeQR_val L hc hq PS (hcd f) x t [] m _ _).trans ?_
      congr 1
      · funext x t d m
        cases x with
        | exit id => rfl
        | normal => exact (defersCR_val L hc d m _).trans (congrArg (defersC c d m) (funext fun m => res t m))
        | ret => exact (defersCR_val L hc d m _).trans (congrArg (defersC c d m) (funext fun m => res t m))
      · funext v W t d m
        match d with
        | [] => rfl
        | _ :: _ :: _ => rfl
        | [x] =>
          cases x with
          | coll b => rfl
          | call g as cap =>
            cases g <;> try rfl
            rename_i g
            refine (isTrueR_val _ _).trans (congrArg (isTrue _) ?_)
            exact (recFR_val L hc hcd g (as ++ cap) v m _).trans (congrArg (recF P G fuel c g (as ++ cap) v m) (funext fun m => res t m))
theorem longCR_val (L : Law S eT eH) (off n : Nat) (args : List CV) (h : Hp) (k : Bool → Res) : (longCR S off n args (eH h) k).val = longC off n args h fun b => (k b).val := by
  cases args with
  | nil => rfl
  | cons x l =>
    cases x <;> try rfl
    rename_i b o
    refine (L.gH h b _).trans (congrArg (getK h b) (funext fun cb => ?_))
    cases cb <;> try rfl
    simp only [getKR_val]
    refine congrArg (getK _ _) (funext fun v => ?_)
    cases v <;> try rfl
    simp only []
    cases Nat.ble n _ <;> rfl
end
noncomputable section
/-! Set into the staged evaluator -/
variable {D : Nat}
/-- a code, staged, as the slow evaluator takes it -/
def cdS (P : Program) (I : TypeId → Option TypeInfo) (G : Nat → Bool) (fuel : Nat) (call : CallS D) (fn : FuncId) (c : Code) : CodeX (TmS D) (HS D) := fun t d m k =>
  mM m fun tab h n => (codeS P I G fn false true fuel c).go (.mk call d tab) t h n fun x c t h n => Cx.rec (motive := fun _ => Res) (fun _ d tab => k x t d ⟨h, n, tab⟩) c
def ovrQS (P : Program) (I : TypeId → Option TypeInfo) (G : Nat → Bool) (fuel : Nat) (PS : FuncId → Bool) (dq R off n : Nat) (call base : CallS D) : CallS D := fun f args tab h nn k =>
  Fn.rec (motive := fun _ => Res) (fun g => Bool.rec (motive := fun _ => Res) (base (.func g) args tab h nn k)
    (decVs args fun as => longCR (scott D) off n as h fun b => Bool.rec (motive := fun _ => Res) (base (.func g) args tab h nn k)
      (recCR (scott D) P G (cdS P I G fuel call) fuel (unS call) (callQR (scott D) P G (cdS P I G fuel call) fuel (unS call) PS dq) PS g as ⟨h, nn, tab⟩ fun v m => mM m fun tab h n => encK v fun v => k v tab h n) b) (Nat.beq g R))
    (fun s => base (.method s) args tab h nn k) (fun t s => base (.methodOf t s) args tab h nn k) (fun t p g b => base (.via t p g b) args tab h nn k) (fun l => base (.yield l) args tab h nn k) f
end
section
variable {D : Nat} {P : Program} {G : Nat → Bool}
theorem cdS_eq {cS : CallS D} {c : CallFn} (hc : CallOK cS c) (fuel : Nat) (fn : FuncId) (x : Code) : CodeEq (encM D) (encH D) (cdS P P.info? G fuel cS fn x) (codeC P G fn false c fuel x) := by
  intro t d m k
  show (mM ⟨encH D m.h, m.n, m.tab⟩ _).val = _
  rw [mM_enc]
  rw [code_good hc fn true fuel x (fun h => by cases h)]
  rfl
theorem ovrQS_ok {cS bS : CallS D} {c b : CallFn} (hc : CallOK cS c) (hb : CallOK bS b) (fuel : Nat) (PS : FuncId → Bool) (dq R off n : Nat) : CallOK (ovrQS P P.info? G fuel PS dq R off n cS bS) (ovrQ P G fuel PS dq R off n c b) := by
  intro f args m k
  cases f with
  | func g =>
    show (Bool.rec (motive := fun _ => Res) _ _ (Nat.beq g R) : Res).val = (match Nat.beq g R with | true => _ | false => _)
    cases Nat.beq g R with
    | false => exact hb _ args m k
    | true =>
      show (decVs (encVs args) _).val = _
      rw [decVs_enc]
      refine (longCR_val (law D) off n args m.h _).trans (congrArg (longC off n args m.h) (funext fun b => ?_))
      cases b with
      | false => exact hb _ args m k
      | true =>
        refine (recCR_val (law D) hc.eq (callQR_val (law D) hc.eq PS (cdS_eq hc fuel) dq) PS (cdS_eq hc fuel) g args m _).trans ?_
        congr 1
        funext v m
        show (mM ⟨encH D m.h, m.n, m.tab⟩ _).val = _
        rw [mM_enc, encK_eq]
  | method s => exact hb _ args m k
  | methodOf t s => exact hb _ args m k
  | via t p g b => exact hb _ args m k
  | yield l => exact hb _ args m k
/-- the evaluator with known answers, and one function that recovers -/
noncomputable def callKQ (P : Program) (G : Nat → Bool) (K : FuncId → Option KRows) (PS : FuncId → Bool) (dq R off n fuel depth : Nat) : CallFn :=
  Nat.rec (motive := fun _ => CallFn) (fun _ _ _ _ => false) (fun _ call => ovrQ P G fuel PS dq R off n call (ovrC K (callStep P G fuel call))) depth
noncomputable def callDKQ (P : Program) (I : TypeId → Option TypeInfo) (F : FuncId → Option Func) (G : Nat → Bool) (Dr : FuncId → Bool) (T : FuncId → Option (FnF DD)) (K : FuncId → Option KRows) (PS : FuncId → Bool) (dq R off n fuel depth : Nat) : CallS DD :=
  Nat.rec (motive := fun _ => CallS DD) (fun _ _ _ _ _ _ => .bad) (fun _ call => ovrQS P I G fuel PS dq R off n call (ovrCS K (stepD P I F G Dr fuel T call))) depth
theorem callKQ_sound {K : FuncId → Option KRows} (hng : NoCount P) (hx : ExtFact P) (hK : RowsOk P K) (PS : FuncId → Bool) (dq R off n fuel depth : Nat) (σ : Sg) : SoundCall P σ G (callKQ P G K PS dq R off n fuel depth) := by
  induction depth with
  | zero => intro f args m k hh _; cases hh
  | succ depth ih => exact ovrQ_ok hng ih (ovrC_ok (callStep_ok hng (ext_ok hng hx) ih (fun rd => draw_ok ih rd) fuel) hK) (fun rd => draw_ok ih rd) fuel PS dq R off n
variable {I : TypeId → Option TypeInfo} {F : FuncId → Option Func} {Dr : FuncId → Bool} {K : FuncId → Option KRows} {fuel : Nat} {T : FuncId → Option (FnF DD)} {PS : FuncId → Bool} {dq R off nq : Nat}
theorem callDKQ_ok (hD : DrawFact P Dr) (hT : DirOk P P.info? (fun f => P.funcs[f]?) G Dr fuel T) (depth : Nat) : CallOK (callDKQ P P.info? (fun f => P.funcs[f]?) G Dr T K PS dq R off nq fuel depth) (callKQ P G K PS dq R off nq fuel depth) := by
  induction depth with
  | zero => intro f args m k; rfl
  | succ depth ih =>
    have h := step_good (G := G) hD ih fuel
    rw [← stepD_eq hT] at h
    exact ovrQS_ok ih (ovrCS_ok K h) fuel PS dq R off nq
/-- a law's run -/
theorem runDQ_step (hI : ∀ t, I t = P.info? t) (hF : ∀ f, F f = P.funcs[f]?) (hD : DrawFact P Dr) (hT : DirOk P I F G Dr fuel T) {depth : Nat} {f : Fn} {args : List CV} {tab : Tab} {h : Hp} {n : Nat}
    (hh : (stepD P I F G Dr fuel T (callDKQ P I F G Dr T K PS dq R off nq fuel depth) f (encVs args) tab (encH DD h) n (isTS DD)).val = true) : callStep P G fuel (callKQ P G K PS dq R off nq fuel depth) f args ⟨h, n, tab⟩ isT = true := by
  have h1 : I = P.info? := funext hI
  have h2 : F = fun f => P.funcs[f]? := funext hF
  subst h1; subst h2
  rw [stepD_eq hT] at hh
  have := step_good (D := DD) (G := G) hD (callDKQ_ok (K := K) (PS := PS) (dq := dq) (R := R) (off := off) (nq := nq) hD hT depth) fuel f args ⟨h, n, tab⟩ (isTS DD)
  rw [this] at hh
  simpa only [isTS_eq] using hh
end
end Go.Ev

namespace Go.Ev
/-! A function's run where one code, at a place in its body, is known by contract -/
inductive Dir where
  | l
  | r
noncomputable section
/-- checks and settings of slots -/
def chkL (l : List (Nat × CV)) (t : Tm) (k : Bool) : Bool := lrec k (fun p _ ih => getK t p.1 fun c => match cvBeq c p.2 with | true => ih | false => false) l
def slotL (l : List (Nat × CV)) : Tm → (Tm → Bool) → Bool := lrec (fun t k => k t) (fun p _ ih t k => setK p.2 t p.1 fun t => ih t k) l
/-- slots are checked, slots are set: at a frame of nt slots, where nothing is deferred -/
def evX (nt : Nat) (cs ss : List (Nat × CV)) : EvCode := fun t d m k => match d with
  | [] => getK t (nt - 1) fun _ => insK .ptr0 t nt fun _ => chkL cs t (slotL ss t fun t => k .normal t [] m)
  | _ :: _ => false
def codeP (P : Program) (G : Nat → Bool) (fn : FuncId) (call : CallFn) (fuel : Nat) (ev : EvCode) : List Dir → Code → EvCode
  | [], _ => ev
  | .l :: p, .seq a b => fun t d m k => codeP P G fn call fuel ev p a t d m fun x t d m => match x with
      | .normal => codeC P G fn false call fuel b t d m k
      | .exit id => k (.exit id) t d m
      | .ret => k .ret t d m
  | .r :: p, .seq a b => fun t d m k => codeC P G fn false call fuel a t d m fun x t d m => match x with
      | .normal => codeP P G fn call fuel ev p b t d m k
      | .exit id => k (.exit id) t d m
      | .ret => k .ret t d m
  | .l :: p, .cond c a b => fun t d m k => getO G c t fun v => asBool v fun b' => match b' with | true => codeP P G fn call fuel ev p a t d m k | false => codeC P G fn false call fuel b t d m k
  | .r :: p, .cond c a b => fun t d m k => getO G c t fun v => asBool v fun b' => match b' with | true => codeC P G fn false call fuel a t d m k | false => codeP P G fn call fuel ev p b t d m k
  | _ :: p, .block id a => fun t d m k => codeP P G fn call fuel ev p a t d m fun x t d m => match x with
      | .normal => k .normal t d m
      | .exit j => match Nat.beq j id with | true => k .normal t d m | false => k (.exit j) t d m
      | .ret => k .ret t d m
  | _, _ => fun _ _ _ _ => false
def subP : List Dir → Code → Code
  | [], c => c
  | .l :: p, .seq a _ => subP p a
  | .r :: p, .seq _ b => subP p b
  | .l :: p, .cond _ a _ => subP p a
  | .r :: p, .cond _ _ b => subP p b
  | _ :: p, .block _ a => subP p a
  | _, c => c
end
section
variable {P : Program} {σ : Sg} {G : Nat → Bool} {call : CallFn} {fuel : Nat} {fn : FuncId} {ev : EvCode}
theorem codeP_ok (hng : NoCount P) (hcall : SoundCall P σ G call) (hdraw : ∀ rd, DrawOK P σ G rd call) : ∀ (p : List Dir) (c : Code), CodeOK P σ G fn false (subP p c) ev → CodeOK P σ G fn false c (codeP P G fn call fuel ev p c) := by
  have no : ∀ c, CodeOK P σ G fn false c (fun _ _ _ _ => false) := fun c t d m K hh => by cases hh
  have one : ∀ c, CodeOK P σ G fn false c (codeC P G fn false call fuel c) := fun c => codeC_ok hng hcall hdraw fn false fuel c
  intro p
  induction p with
  | nil => intro c h; exact h
  | cons d p ih =>
    intro c h
    cases d <;> cases c <;> first
      | exact code_seq (ih _ h) (one _)
      | exact code_seq (one _) (ih _ h)
      | exact code_cond (ih _ h) (one _)
      | exact code_cond (one _) (ih _ h)
      | exact code_block (ih _ h)
      | exact no _
theorem chkL_inv : ∀ {l : List (Nat × CV)} {t : Tm} {k : Bool}, chkL l t k = true → k = true ∧ ∀ p ∈ l, t.get? p.1 = some p.2
  | [], _, _, h => ⟨h, fun p hp => by cases hp⟩
  | q :: l, t, k, h => by
    have e : chkL (q :: l) t k = getK t q.1 fun c => match cvBeq c q.2 with | true => chkL l t k | false => false := rfl
    rw [e] at h
    obtain ⟨v, h1, h2⟩ := getK_inv h
    split at h2
    · rename_i h3
      obtain ⟨h4, h5⟩ := chkL_inv h2
      refine ⟨h4, fun p hp => ?_⟩
      rcases List.mem_cons.1 hp with rfl | hp
      · rw [h1, cvBeq_eq _ _ h3]
      · exact h5 p hp
    · cases h2
/-- the slots after settings -/
def slotS : List (Nat × CV) → (Nat → Option CV) → Nat → Option CV
  | [], g => g
  | q :: l, g => slotS l fun j => if j = q.1 then some q.2 else g j
theorem slotL_inv : ∀ {l : List (Nat × CV)} {t : Tm} {k : Tm → Bool}, slotL l t k = true → ∃ t', k t' = true ∧ ∀ j, t'.get? j = slotS l t.get? j
  | [], t, _, h => ⟨t, h, fun _ => rfl⟩
  | q :: l, t, k, h => by
    have e : slotL (q :: l) t k = setK q.2 t q.1 fun t => slotL l t k := rfl
    rw [e] at h
    obtain ⟨t1, h1, _, h2⟩ := setK_inv _ _ _ _ h
    obtain ⟨t2, h3, h4⟩ := slotL_inv h1
    refine ⟨t2, h3, fun j => ?_⟩
    rw [h4]
    have : t1.get? = fun j => if j = q.1 then some q.2 else t.get? j := funext h2
    rw [this]
    rfl
def setA (vs : List (Nat × Value)) (T : Array Value) : Array Value := vs.foldl (fun T p => T.setIfInBounds p.1 p.2) T
theorem setA_size (vs : List (Nat × Value)) : ∀ T, (setA vs T).size = T.size := by
  induction vs with
  | nil => intro T; rfl
  | cons q vs ih => intro T; exact (ih _).trans (by simp)
def TRf (σ : Sg) (e : Env) (g : Nat → Option CV) (T : Array Value) : Prop := ∀ i, match g i with
    | some c => ∃ v, T[i]? = some v ∧ VR σ e c v
    | none => T[i]? = none
/-- settings, upon the canonical slots and the real ones -/
inductive Pairs (σ : Sg) (e : Env) (nt : Nat) : List (Nat × CV) → List (Nat × Value) → Prop
  | nil : Pairs σ e nt [] []
  | cons {i : Nat} {c : CV} {v : Value} {ss : List (Nat × CV)} {vs : List (Nat × Value)} (hi : i < nt) (h : VR σ e c v) (hs : Pairs σ e nt ss vs) : Pairs σ e nt ((i, c) :: ss) ((i, v) :: vs)
theorem TRf.sets {e : Env} {nt : Nat} : ∀ {ss : List (Nat × CV)} {vs : List (Nat × Value)}, Pairs σ e nt ss vs → ∀ {g : Nat → Option CV} {T : Array Value}, T.size = nt → TRf σ e g T → TRf σ e (slotS ss g) (setA vs T) := by
  intro ss vs h
  induction h with
  | nil => intro g T _ hT; exact hT
  | @cons i c v ss vs hi h hs ih =>
    intro g T hsz hT
    refine ih (T := T.setIfInBounds i v) (by simp [hsz]) fun j => ?_
    have := hT j
    by_cases hj : j = i
    · subst hj
      simp only [if_true]
      exact ⟨v, by simp [hsz, hi], h⟩
    · have hj' : i ≠ j := fun h => hj h.symm
      simp only [if_neg hj]
      rw [Array.getElem?_setIfInBounds_ne hj']
      exact this
/-- a code known by contract: it ends in its place, and sets slots -/
theorem evX_ok {c : Code} {nt : Nat} {cs ss : List (Nat × CV)} (hnt : 0 < nt)
    (hw : ∀ (e : Env) (T : Array Value) (w : World), T.size = nt → (∀ p ∈ cs, ∃ v, T[p.1]? = some v ∧ VR σ e p.2 v) → ∃ vs, Pairs σ e nt ss vs ∧ c.wp P (fun en a' w' => en = .normal ∧ w' = w ∧ a' = ⟨setA vs T, []⟩) ⟨T, []⟩ w) :
    CodeOK P σ G fn false c (evX nt cs ss) := by
  intro t d m K hh hs
  cases d with
  | cons x d => cases hh
  | nil =>
    have h0 : getK t (nt - 1) (fun _ => insK .ptr0 t nt fun _ => chkL cs t (slotL ss t fun t => K .normal t [] m)) = true := hh
    obtain ⟨v0, g0, h1⟩ := getK_inv h0
    obtain ⟨_, h2, gn, _⟩ := insF_inv _ _ _ _ _ (Nat.lt_succ_self nt) h1
    obtain ⟨h3, hc⟩ := chkL_inv h2
    obtain ⟨t', h4, ht⟩ := slotL_inv h3
    refine ⟨.normal, t', [], m, h4, hs, fun e w T D b fs k hR hT hD hf hfn => ?_⟩
    cases hD
    have hsz : T.size = nt := by
      have q1 := hT (nt - 1)
      rw [g0] at q1
      obtain ⟨v, q1, _⟩ := q1
      have q2 := hT nt
      rw [gn] at q2
      have l1 := (Array.getElem?_eq_some_iff.1 q1).1
      have l2 := Array.getElem?_eq_none_iff.1 q2
      omega
    obtain ⟨vs, hp, hwp⟩ := hw e T w hsz fun p hp => by
      have := hT p.1
      rw [hc p hp] at this
      exact this
    obtain ⟨en, a', w', ⟨rfl, rfl, rfl⟩, harr⟩ := hwp b k fs
    have e1 : ∀ (T : Array Value) (td : List Item), fr b T [] td = b.at ⟨T, []⟩ td := fun T td => by simp [fr, Frame.at, hf.1]
    have harr : Steps P (lone (fr b T [] (.code c :: k)) fs w') (lone (fr b (setA vs T) [] k) fs w') := by rw [e1, e1]; exact harr
    refine ⟨setA vs T, [], w', e, k, harr, rfl, hR, ?_, .nil, .refl _ _ _⟩
    have : TRf σ e (slotS ss t.get?) (setA vs T) := hp |> fun hp => TRf.sets hp hsz hT
    intro i
    have := this i
    rw [ht i]
    exact this
/-- a call with a body, one code of which is known by contract, up to its return -/
theorem calls_of_evalP {call : CallFn} (hng : NoCount P) (hcall : SoundCall P σ G call) {fuel : Nat} {f : FuncId} {fn : Func} {cb : Code} {args : List CV} {m : M} {k : KA} {p : List Dir} {ev : EvCode} (hfn : P.funcs[f]? = some fn) (hbody : fn.body = some cb)
    (hev : CodeOK P σ G f false (subP p cb) ev)
    (hh' : (setArgs args 0 (blank fn.ntmps) fun t => codeP P G f call fuel ev p cb t [] m fun x t d m => match x with
          | .exit _ => false
          | _ => defersC call d m fun m => resultsC P fn.results.toList t m fun vs => match vs with
            | [v] => k v m
            | vs => k (.tup vs) m) = true) (hs : Sat σ m.tab) :
    ∃ v m', k v m' = true ∧ Sat σ m'.tab ∧ ∀ (e : Env) (w : World) (vs : Array Value), RL σ G e m w → LR σ e args vs.toList →
      Calls P f vs w fun en w' => ∃ v' e', en = .returned v' ∧ VR σ e' v v' ∧ RL σ G e' m' w' ∧ Kept e m w e' m' w' := by
  obtain ⟨t, h1, hin, ht⟩ := setArgs_inv hh'
  obtain ⟨x, t1, d1, m1, h2, hs1, h3⟩ := codeP_ok hng hcall (fun rd => draw_ok hcall rd) p cb hev t [] m _ h1 hs
  have h2' : (defersC call d1 m1 fun m => resultsC P fn.results.toList t1 m fun vs => match vs with
        | [v] => k v m
        | vs => k (.tup vs) m) = true ∧ ∀ id, x ≠ .exit id := by
    cases x with
    | normal => exact ⟨h2, by simp⟩
    | exit id => cases h2
    | ret => exact ⟨h2, by simp⟩
  obtain ⟨m2, h4, hs2, h5⟩ := defersC_inv hcall h2'.1 hs1
  obtain ⟨vs, h6, h7⟩ := results_run (P := P) (σ := σ) (fn := fn) h4
  have h6' : k (oneOr vs) m2 = true := by
    match vs, h6 with
    | [], h6 => exact h6
    | [v], h6 => exact h6
    | v :: v' :: vs, h6 => exact h6
  refine ⟨oneOr vs, m2, h6', hs2, fun e w us hR hv cs => ?_⟩
  let b : Frame := { fn := f, tmps := #[], todo := [], defers := [], mode := .run, kind := .normal }
  have henter : Frame.enter P f us .normal = fr b (us ++ Array.replicate (fn.ntmps - us.size) undef) [] [.code cb] := by
    simp [Frame.enter, fr, hfn, hbody, b]
  have hfo : FrOK false b cs := ⟨rfl, .inl rfl⟩
  obtain ⟨T1, D1, w1, e1, todo, q1, q2, q3, q4, q5, q6⟩ := h3 e w _ [] b cs [] hR (entry_TR hv hin ht) .nil hfo rfl
  have hret : ∃ todo', Steps P (lone (fr b T1 D1 todo) cs w1) (lone (rf b T1 D1 todo') cs w1) := by
    cases x with
    | normal => rw [show todo = [] from q2]; exact ⟨_, .one (st_leave rfl)⟩
    | exit id => exact absurd rfl (h2'.2 id)
    | ret => obtain ⟨k'', rfl⟩ := q2; exact ⟨_, .one (st_ret' rfl)⟩
  obtain ⟨todo', hst⟩ := hret
  obtain ⟨w2, e2, r1, r2, r3⟩ := h5 e1 w1 D1 b T1 todo' cs q3 q5
  obtain ⟨v, s1, s2⟩ := h7 r2.hr (q4.mono r3.ext)
  refine ⟨.returned v, w2, rf b T1 [] todo', ⟨v, e2, rfl, s2, r2, q6.trans r3⟩, ?_, rfl, rfl, rfl, rfl, fn, hfn, s1⟩
  rw [henter]
  exact q1.trans (hst.trans r1)
end
/-! the same, staged -/
noncomputable section
variable {D : Nat}
def chkLS (l : List (Nat × CV)) (t : TmS D) (k : Res) : Res := lrec k (fun p _ ih => (gT D p.1).go t fun v => decV v fun c => bIf (cvBeq c p.2) ih .bad) l
def slotLS (l : List (Nat × CV)) : TmS D → (TmS D → Res) → Res := lrec (fun t k => k t) (fun p _ ih t k => (pT D p.1).go t (encV p.2) fun t => ih t k) l
def evXS (nt : Nat) (cs ss : List (Nat × CV)) : Bx (CodeF D) := .mk fun c t h n k => Cx.rec (motive := fun _ => Res) (fun call d tab => List.rec (motive := fun _ => Res)
  ((gT D (nt - 1)).go t fun _ => (iT D nt).go t (encV .ptr0) fun _ => chkLS cs t (slotLS ss t fun t => k .normal (.mk call [] tab) t h n)) (fun _ _ _ => .bad) d) c
def codeSP (P : Program) (I : TypeId → Option TypeInfo) (G : Nat → Bool) (fn : FuncId) (chk : Bool) (fuel : Nat) (ev : Bx (CodeF D)) : List Dir → Code → Bx (CodeF D)
  | [], _ => ev
  | .l :: p, .seq a b => seqC (codeSP P I G fn chk fuel ev p a) (codeS P I G fn false chk fuel b)
  | .r :: p, .seq a b => seqC (codeS P I G fn false chk fuel a) (codeSP P I G fn chk fuel ev p b)
  | .l :: p, .cond c a b => condC (getS G c) (codeSP P I G fn chk fuel ev p a) (codeS P I G fn false chk fuel b)
  | .r :: p, .cond c a b => condC (getS G c) (codeS P I G fn false chk fuel a) (codeSP P I G fn chk fuel ev p b)
  | _ :: p, .block id a => blockC id (codeSP P I G fn chk fuel ev p a)
  | _, _ => .mk fun _ _ _ _ _ => .bad
def runP (P : Program) (I : TypeId → Option TypeInfo) (G : Nat → Bool) (fuel : Nat) (f : FuncId) (fn : Func) (cb : Code) (p : List Dir) (ev : Bx (CodeF D)) : FnF D :=
  fun call args tab h n k => setArgsS args 0 (blankS fn.ntmps).go fun t => (codeSP P I G f true fuel ev p cb).go (.mk call [] tab) t h n (leaveK (resS P fn.results.toList) k)
end
section
variable {D : Nat} {P : Program} {G : Nat → Bool} {cS : CallS D} {cl : CallFn}
theorem chkLS_eq (t : Tm) (k : Res) : ∀ l : List (Nat × CV), (chkLS (D := D) l (encM D t) k).val = chkL l t k.val
  | [] => rfl
  | q :: l => by
    have e : chkLS (D := D) (q :: l) (encM D t) k = (gT D q.1).go (encM D t) fun v => decV v fun c => bIf (cvBeq c q.2) (chkLS l (encM D t) k) .bad := rfl
    have e' : chkL (q :: l) t k.val = getK t q.1 fun c => match cvBeq c q.2 with | true => chkL l t k.val | false => false := rfl
    rw [e, e', gT_eq, getKR_val]
    congr 1
    funext c
    rw [decV_enc, bIf_eq]
    cases cvBeq c q.2 with
    | false => rfl
    | true => exact chkLS_eq t k l
theorem slotLS_eq : ∀ (l : List (Nat × CV)) (t : Tm) (k : TmS D → Res), (slotLS (D := D) l (encM D t) k).val = slotL l t fun t => (k (encM D t)).val
  | [], _, _ => rfl
  | q :: l, t, k => by
    have e : slotLS (D := D) (q :: l) (encM D t) k = (pT D q.1).go (encM D t) (encV q.2) fun t => slotLS l t k := rfl
    have e' : slotL l = slotL l := rfl
    have e2 : ∀ K : Tm → Bool, slotL (q :: l) t K = setK q.2 t q.1 fun t => slotL l t K := fun _ => rfl
    rw [e, e2, pT_eq, setKR_val]
    congr 1
    funext t'
    exact slotLS_eq l t' k
theorem evXS_eq (nt : Nat) (cs ss : List (Nat × CV)) (d : List DF) (tab : Tab) (t : Tm) (h : Hp) (n : Nat) (k : KXF D) : ((evXS nt cs ss).go (.mk cS d tab) (encM D t) (encH D h) n k).val = evX nt cs ss t d ⟨h, n, tab⟩ (onXS cS k) := by
  cases d with
  | cons x d => rfl
  | nil =>
    show ((gT D (nt - 1)).go (encM D t) fun _ => (iT D nt).go (encM D t) (encV .ptr0) fun _ => chkLS cs (encM D t) (slotLS ss (encM D t) fun t => k .normal (.mk cS [] tab) t (encH D h) n)).val = getK t (nt - 1) fun _ => insK .ptr0 t nt fun _ => chkL cs t (slotL ss t fun t => onXS cS k .normal t [] ⟨h, n, tab⟩)
    rw [gT_eq, getKR_val]
    congr 1
    funext _
    rw [iT_eq, insKR_val]
    congr 1
    funext _
    rw [chkLS_eq, slotLS_eq]
    rfl
theorem codeSP_good (hc : CallOK cS cl) (fn : FuncId) (fuel : Nat) {evS : Bx (CodeF D)} {ev : EvCode}
    (hev : ∀ (d : List DF) (tab : Tab) (t : Tm) (h : Hp) (n : Nat) (k : KXF D), (evS.go (.mk cS d tab) (encM D t) (encH D h) n k).val = ev t d ⟨h, n, tab⟩ (onXS cS k)) :
    ∀ (p : List Dir) (c : Code) (d : List DF) (tab : Tab) (t : Tm) (h : Hp) (n : Nat) (k : KXF D),
    ((codeSP P P.info? G fn true fuel evS p c).go (.mk cS d tab) (encM D t) (encH D h) n k).val = codeP P G fn cl fuel ev p c t d ⟨h, n, tab⟩ (onXS cS k) := by
  have one : ∀ (c : Code) (d : List DF) (tab : Tab) (t : Tm) (h : Hp) (n : Nat) (k : KXF D), ((codeS P P.info? G fn false true fuel c).go (.mk cS d tab) (encM D t) (encH D h) n k).val = codeC P G fn false cl fuel c t d ⟨h, n, tab⟩ (onXS cS k) :=
    fun c => code_good hc fn true fuel c fun hx => by cases hx
  have seq : ∀ {A B : Bx (CodeF D)} {ea eb : EvCode}, (∀ (d : List DF) (tab : Tab) (t : Tm) (h : Hp) (n : Nat) (k : KXF D), (A.go (.mk cS d tab) (encM D t) (encH D h) n k).val = ea t d ⟨h, n, tab⟩ (onXS cS k)) →
      (∀ (d : List DF) (tab : Tab) (t : Tm) (h : Hp) (n : Nat) (k : KXF D), (B.go (.mk cS d tab) (encM D t) (encH D h) n k).val = eb t d ⟨h, n, tab⟩ (onXS cS k)) →
      ∀ (d : List DF) (tab : Tab) (t : Tm) (h : Hp) (n : Nat) (k : KXF D), ((seqC A B).go (.mk cS d tab) (encM D t) (encH D h) n k).val = ea t d ⟨h, n, tab⟩ fun x t d m => match x with
        | .normal => eb t d m (onXS cS k)
        | .exit id => onXS cS k (.exit id) t d m
        | .ret => onXS cS k .ret t d m := by
    intro A B ea eb ha hb d tab t h n k
    simp only [seqC, opened_eq, go_mk]
    rw [ha]
    congr 1
    funext x t d m
    cases x with
    | normal => exact hb d m.tab t m.h m.n k
    | exit id => rfl
    | ret => rfl
  have cond : ∀ {A B : Bx (CodeF D)} {ea eb : EvCode} (x : Operand), (∀ (d : List DF) (tab : Tab) (t : Tm) (h : Hp) (n : Nat) (k : KXF D), (A.go (.mk cS d tab) (encM D t) (encH D h) n k).val = ea t d ⟨h, n, tab⟩ (onXS cS k)) →
      (∀ (d : List DF) (tab : Tab) (t : Tm) (h : Hp) (n : Nat) (k : KXF D), (B.go (.mk cS d tab) (encM D t) (encH D h) n k).val = eb t d ⟨h, n, tab⟩ (onXS cS k)) →
      ∀ (d : List DF) (tab : Tab) (t : Tm) (h : Hp) (n : Nat) (k : KXF D), ((condC (getS G x) A B).go (.mk cS d tab) (encM D t) (encH D h) n k).val =
        getO G x t fun v => asBool v fun b' => match b' with | true => ea t d ⟨h, n, tab⟩ (onXS cS k) | false => eb t d ⟨h, n, tab⟩ (onXS cS k) := by
    intro A B ea eb x ha hb d tab t h n k
    simp only [condC, opened_eq, go_mk, getS_eq, val_enc, ha, hb]
    refine congrArg (getO G x t) (funext fun v => ?_)
    cases v <;> try rfl
    · rename_i b; cases b <;> rfl
    · rename_i kd a; cases a <;> rfl
  have block : ∀ {A : Bx (CodeF D)} {ea : EvCode} (id : Nat), (∀ (d : List DF) (tab : Tab) (t : Tm) (h : Hp) (n : Nat) (k : KXF D), (A.go (.mk cS d tab) (encM D t) (encH D h) n k).val = ea t d ⟨h, n, tab⟩ (onXS cS k)) →
      ∀ (d : List DF) (tab : Tab) (t : Tm) (h : Hp) (n : Nat) (k : KXF D), ((blockC id A).go (.mk cS d tab) (encM D t) (encH D h) n k).val = ea t d ⟨h, n, tab⟩ fun x t d m => match x with
        | .normal => onXS cS k .normal t d m
        | .exit j => match Nat.beq j id with | true => onXS cS k .normal t d m | false => onXS cS k (.exit j) t d m
        | .ret => onXS cS k .ret t d m := by
    intro A ea id ha d tab t h n k
    simp only [blockC, opened_eq, go_mk]
    rw [ha]
    congr 1
    funext x t d m
    cases x with
    | normal => rfl
    | exit j =>
      show (blockK id k (.exit j) (.mk cS d m.tab) (encM D t) (encH D m.h) m.n).val = _
      simp only [blockK]
      cases Nat.beq j id <;> rfl
    | ret => rfl
  intro p
  induction p with
  | nil => intro c; exact hev
  | cons dr p ih =>
    intro c
    cases dr <;> cases c <;> first
      | exact seq (ih _) (one _)
      | exact seq (one _) (ih _)
      | exact cond _ (ih _) (one _)
      | exact cond _ (one _) (ih _)
      | exact block _ (ih _)
      | (intros; rfl)
theorem runP_good (hc : CallOK cS cl) (fuel : Nat) (f : FuncId) {fn : Func} {cb : Code} {evS : Bx (CodeF D)} {ev : EvCode} (p : List Dir)
    (hev : ∀ (d : List DF) (tab : Tab) (t : Tm) (h : Hp) (n : Nat) (k : KXF D), (evS.go (.mk cS d tab) (encM D t) (encH D h) n k).val = ev t d ⟨h, n, tab⟩ (onXS cS k)) (args : List CV) (tab : Tab) (h : Hp) (n : Nat) (k : V → Tab → HS D → Nat → Res) :
    (runP P P.info? G fuel f fn cb p evS cS (encVs args) tab (encH D h) n k).val = (setArgs args 0 (blank fn.ntmps) fun t => codeP P G f cl fuel ev p cb t [] ⟨h, n, tab⟩ fun x t d m => match x with
          | .exit _ => false
          | _ => defersC cl d m fun m => resultsC P fn.results.toList t m fun vs => match vs with
            | [v] => (k (encV v) m.tab (encH D m.h) m.n).val
            | vs => (k (encV (.tup vs)) m.tab (encH D m.h) m.n).val) := by
  have hb : (blankS (D := D) fn.ntmps).go = encM D (blank fn.ntmps) := ofListB_go D _ (blank_all _)
  unfold runP
  rw [hb, setArgsS_eq]
  congr 1
  funext t
  rw [codeSP_good hc f fuel hev]
  congr 1
  funext x t d m
  cases x with
  | normal => exact leave_good hc _ k d m.tab t m.h m.n
  | exit id => rfl
  | ret => exact leave_good hc _ k d m.tab t m.h m.n
end
end Go.Ev

namespace Go.Ev
/-! Tries whose cells a function gives: only what is looked at is ever laid out -/
noncomputable section
def trG {α : Type} (N : Nat) (g : Nat → α) (f : Nat) : Nat → Nat → Tr α :=
  Nat.rec (motive := fun _ => Nat → Nat → Tr α) (fun _ _ => .mk .nil)
    (fun _ ih a s => Bool.rec (motive := fun _ => Tr α) (.mk .nil) (.mk (.node (g a) (ih (a + s) (4 * s)) (ih (a + 2 * s) (4 * s)) (ih (a + 3 * s) (4 * s)) (ih (a + 4 * s) (4 * s)))) (Nat.blt a N)) f
def ofFnT {α : Type} (N : Nat) (g : Nat → α) : Tr α := trG N g N 0 1
end
theorem trG_get {α : Type} (N : Nat) (g : Nat → α) : ∀ (f a s i : Nat), 0 < s → N ≤ a + f * s → (trG N g f a s).get? i = if a + s * i < N then some (g (a + s * i)) else none
  | 0, a, s, i, hs, h => by
    rw [if_neg (by have := Nat.le_mul_of_pos_left i hs; omega)]
    exact get_nil i
  | f + 1, a, s, i, hs, h => by
    show (Bool.rec (motive := fun _ => Tr α) (.mk .nil) (.mk (.node (g a) (trG N g f (a + s) (4 * s)) (trG N g f (a + 2 * s) (4 * s)) (trG N g f (a + 3 * s) (4 * s)) (trG N g f (a + 4 * s) (4 * s)))) (Nat.blt a N) : Tr α).get? i = _
    cases hb : Nat.blt a N with
    | false =>
      have : ¬ a < N := by rw [← Nat.blt_eq, hb]; simp
      rw [if_neg (by omega)]
      exact get_nil i
    | true =>
      have ha : a < N := by rw [← Nat.blt_eq]; exact hb
      cases i with
      | zero => rw [Nat.mul_zero, Nat.add_zero, if_pos ha]; rfl
      | succ p =>
        show (Tr.mk (.node _ _ _ _ _)).get? (p + 1) = _
        rw [get_node]
        have hf : (f + 1) * s = f * s + s := Nat.succ_mul f s
        have key : ∀ r, p % 4 = r → (trG N g f (a + (r + 1) * s) (4 * s)).get? (p / 4) = if a + s * (p + 1) < N then some (g (a + s * (p + 1))) else none := fun r hr => by
          have e : a + (r + 1) * s + 4 * s * (p / 4) = a + s * (p + 1) := by
            have e1 : p = 4 * (p / 4) + r := by omega
            have e2 : s * (p + 1) = s * (4 * (p / 4) + r + 1) := by rw [← e1]
            have e3 : s * (4 * (p / 4) + r + 1) = 4 * s * (p / 4) + (r + 1) * s := by
              rw [Nat.add_assoc, Nat.mul_add, Nat.mul_comm s (r + 1), ← Nat.mul_assoc, Nat.mul_comm s 4]
            omega
          have hN : N ≤ a + (r + 1) * s + f * (4 * s) := by
            have e4 : f * (4 * s) = 4 * (f * s) := by rw [Nat.mul_left_comm]
            have e5 : (r + 1) * s = r * s + s := Nat.succ_mul r s
            omega
          rw [trG_get N g f _ _ _ (by omega) hN, e]
        rcases (by omega : p % 4 = 0 ∨ p % 4 = 1 ∨ p % 4 = 2 ∨ p % 4 = 3) with h4 | h4 | h4 | h4
        · rw [h4]; have := key 0 h4; rw [Nat.zero_add, Nat.one_mul] at this; exact this
        · rw [h4]; exact key 1 h4
        · rw [h4]; exact key 2 h4
        · rw [h4]; exact key 3 h4
theorem ofFnT_get {α : Type} (N : Nat) (g : Nat → α) (i : Nat) : (ofFnT N g).get? i = if i < N then some (g i) else none := by
  have := trG_get N g N 0 1 i (by omega) (by omega)
  rw [Nat.zero_add, Nat.one_mul] at this
  exact this
end Go.Ev

namespace Go.Ev
/-! An append to a row that lies anywhere in its block -/
def RowAt (w : World) (e : TypeId) (size r d n cap : Nat) (xs : List Value) : Prop :=
  xs.length = n * size ∧ ∃ cur : Array Value, w.heap[r]? = some (.cells cur e (0, 0)) ∧ cur.size = d + cap * size ∧ n ≤ cap ∧ ∀ j u, xs[j]? = some u → cur[d + j]? = some u
theorem halloc (w : World) (o : Obj) (i : Nat) (h : i < w.heap.size) : (w.alloc o).heap[i]? = w.heap[i]? := by
  show (w.heap.push o)[i]? = w.heap[i]?
  rw [Array.getElem?_push, if_neg (Nat.ne_of_lt h)]
theorem hallocn (w : World) (o : Obj) : (w.alloc o).heap[w.heap.size]? = some o := by
  show (w.heap.push o)[w.heap.size]? = some o
  simp
theorem RowAt.lt {w : World} {e : TypeId} {size r d n cap : Nat} {xs : List Value} (h : RowAt w e size r d n cap xs) : r < w.heap.size := by
  obtain ⟨_, cur, h, _⟩ := h
  exact (Array.getElem?_eq_some_iff.1 h).1
theorem RowAt.same {w w' : World} {e : TypeId} {size r d n cap : Nat} {xs : List Value} (h : RowAt w e size r d n cap xs) (hr : w'.heap[r]? = w.heap[r]?) : RowAt w' e size r d n cap xs := by
  obtain ⟨h0, cur, h1, h2⟩ := h
  exact ⟨h0, cur, hr.trans h1, h2⟩
theorem RowAt.alloc {w : World} {e : TypeId} {size r d n cap : Nat} {xs : List Value} (h : RowAt w e size r d n cap xs) (o : Obj) : RowAt (w.alloc o) e size r d n cap xs :=
  h.same (halloc w o r h.lt)
section
variable {P : Program} (w : World)
theorem run_append_any (t ty : TypeId) (e : TypeId) (i : TypeInfo) (z : Value) (size bytes : Nat) (ht : P.underlying t = some (.slice e)) (hi : P.info? e = some i) (hz : i.zero = some z)
    (hsize : i.size = size) (hby : i.bytes = bytes) (hzs : z.cells.size = size)
    (r d n cap : Nat) (xs : List Value) (hown : RowAt w e size r d n cap xs)
    (ad : Addr) (m c : Nat) (news : List Value) (hl : news.length = m * size) (hnews : ∀ j u, news[j]? = some u → w.cell? (ad.add j) = some u) (h1 : ∀ u ∈ news, u.oneCell' = true)
    (h63 : n + m ≤ 1000000) (hbytes : bytes ≤ 1000) :
    ∃ g d' cap' w', (Builtin.append_ #[t, t] ty #[.slice (some ⟨r, d, none⟩) n cap, .slice (some ad) m c]).run P w = .ok (.slice (some ⟨g, d', none⟩) (n + m) cap') w' ∧
      RowAt w' e size g d' (n + m) cap' (xs ++ news) ∧ w.grownBy w' (some r) ∧ (g = r ∨ g = w.heap.size) := by
  subst hsize
  subst hby
  obtain ⟨hxl, cur, hcur, hcs, hnc, hcell⟩ := hown
  have hsrc := Src.ofSlice (P := P) (size := i.size) w ht ad m c news hl hnews h1
  have hlen : (xs ++ news).length = (n + m) * i.size := by rw [List.length_append, hxl, hl, Nat.add_mul]
  by_cases hroom : n + m ≤ cap
  · have hm1 : (n + m) * i.size ≤ cap * i.size := Nat.mul_le_mul_right _ hroom
    have hadd : (n + m) * i.size = n * i.size + m * i.size := Nat.add_mul _ _ _
    have a1 : ∀ j, j < news.length → (w.cell? ⟨r, d + n * i.size + j, none⟩).isSome = true := by
      intro j hj
      have : d + n * i.size + j < cur.size := by omega
      simp [World.cell?, hcur, this]
    have a2 : ∀ j, j < news.length → w.frozen? ⟨r, d + n * i.size + j, none⟩ = false := by
      intro j hj
      simp only [World.frozen?, hcur]
      simp
    have hrun := run_append_room_src (P := P) w t t ty e i ht hi r d n cap _ m news hsrc hroom a1 a2
    obtain ⟨c', g2, g3, g4, g5, g6, g7⟩ := setCells_heap r e (0, 0) news (d + n * i.size) w cur hcur
    refine ⟨r, d, cap, _, hrun, ⟨hlen, c', by rw [g2]; simp, by rw [g3, hcs], hroom, fun j u hj => ?_⟩, ⟨g6, g5, g7, ?_, fun k hk hne => ?_⟩, .inl rfl⟩
    · rw [g4]
      have hj2 : j < (xs ++ news).length := by
        rcases Nat.lt_or_ge j (xs ++ news).length with h | h
        · exact h
        · rw [List.getElem?_eq_none h] at hj; cases hj
      by_cases hjo : j < n * i.size
      · rw [if_neg (by omega)]
        rw [List.getElem?_append_left (by omega)] at hj
        exact hcell j u hj
      · rw [if_pos (by omega)]
        rw [List.getElem?_append_right (by omega)] at hj
        rw [show d + j - (d + n * i.size) = j - xs.length by omega]
        exact hj
    · rcases Nat.lt_or_ge (w.setCells r (d + n * i.size) news).heap.size w.heap.size with h | h
      · exfalso
        have := g2 (w.setCells r (d + n * i.size) news).heap.size
        rw [Array.getElem?_eq_none (Nat.le_refl _)] at this
        split at this
        · cases this
        · rw [Array.getElem?_eq_getElem h] at this; cases this
      · exact h
    · rw [g2, if_neg (fun he => hne (by rw [he]))]
  · have hold : (Builtin.firstCells i.size n (.slice (some ⟨r, d, none⟩) n cap)).run P w.drew = .ok xs.toArray w.drew := by
      have := run_loadRow (P := P) (w := w.drew) (r := r) (o := d) (by exact hcur) xs hcell
      rw [hxl] at this
      simpa [Builtin.firstCells] using this
    have hb2 : Builtin.nextslicecap (n + m) cap * i.bytes ≤ 281474976710656 := by
      have h2 := nextslicecap_le (need := n + m) (old := cap) (by omega)
      have h3 : Builtin.nextslicecap (n + m) cap * i.bytes ≤ (4 * (n + m)) * 1000 := Nat.mul_le_mul (by omega) hbytes
      omega
    have hrun := run_append_grow_src (P := P) w t t ty e i z ht hi hz (some ⟨r, d, none⟩) n cap xs hold _ m news hsrc (by omega) (by omega) hb2
    have hge := grownCap_ge w (n + m) cap e
    refine ⟨w.heap.size, 0, _, _, hrun, ⟨hlen, _, hallocn w.drew _, ?_, hge, fun j u hj => ?_⟩, ⟨rfl, rfl, rfl, by simp, fun k hk _ => halloc w.drew _ k hk⟩, .inr rfl⟩
    · simp only [Array.size_append, List.size_toArray, size_zeroCells, hzs, hlen, ← Nat.add_mul, Nat.zero_add]
      congr 1
      omega
    · have hj2 : j < (xs ++ news).length := by
        rcases Nat.lt_or_ge j (xs ++ news).length with h | h
        · exact h
        · rw [List.getElem?_eq_none h] at hj; cases hj
      rw [Nat.zero_add, Array.getElem?_append_left (by simpa using hj2)]
      simpa using hj
/-- at a step of a region that draws its order -/
theorem step_append_any {ops : Array Oper} {o : Oper} {a : Act} {K : Act → World → Prop} {Q : Exit → Act → World → Prop} {E : Prop} (hgd : o.guard = none) (s x : Operand) (t : TypeId)
    (ho : o.op = .call { callee := .builtin .append, args := #[s, x], argTypes := #[t, t] })
    (e : TypeId) (i : TypeInfo) (z : Value) (size bytes : Nat) (ht : P.underlying t = some (.slice e)) (hi : P.info? e = some i) (hz : i.zero = some z)
    (hsize : i.size = size) (hby : i.bytes = bytes) (hzs : z.cells.size = size)
    (r d n cap : Nat) (xs : List Value) (hs : a.eval s = .slice (some ⟨r, d, none⟩) n cap) (hown : RowAt w e size r d n cap xs)
    (ad : Addr) (m c : Nat) (news : List Value) (hx : a.eval x = .slice (some ad) m c) (hl : news.length = m * size) (hnews : ∀ j u, news[j]? = some u → w.cell? (ad.add j) = some u) (h1 : ∀ u ∈ news, u.oneCell' = true)
    (h63 : n + m ≤ 1000000) (hbytes : bytes ≤ 1000) (H : Nat) (hH : w.heap.size = H)
    (h : ∀ g d' cap' w', RowAt w' e size g d' (n + m) cap' (xs ++ news) → w.grownBy w' (some r) → (g = r ∨ g = H) → K (a.put o.dst (.slice (some ⟨g, d', none⟩) (n + m) cap')) w') :
    if Region.wanted o (yielded ops a.tmps) = true then Oper.wp P o a w K Q else E := by
  have hw : Region.wanted o (yielded ops a.tmps) = true := by simp [Region.wanted, hgd]
  rw [if_pos hw]
  obtain ⟨g, d', cap', w', hr, h2, h3, h5⟩ := run_append_any (P := P) w t o.type e i z size bytes ht hi hz hsize hby hzs r d n cap xs hown ad m c news hl hnews h1 h63 hbytes
  unfold Oper.wp execOp
  simp only [ho, resolve, invoke, builtin, Sem.run_bind, Sem.run_pure, Result.andThen_ok, List.map_toArray, List.map_cons, List.map_nil, hs, hx, hr]
  exact h g d' cap' w' h2 h3 (hH ▸ h5)
end
end Go.Ev

namespace Go.Ev
/-! Two blocks change: one is written, one gives way to a longer one -/
section
variable {P : Program} {σ : Sg} {G : Nat → Bool}
theorem RL.regrow {e : Env} {m : M} {w w' : World} (hR : RL σ G e m w) {bW bS : Nat} {pW pS pN : Place} (hW : e bW = some pW) (lW : pW.live = true) (hS : e bS = some pS) (lS : pS.live = true) (hne : bW ≠ bS)
    {cW cN : CB} {oW oN : Obj} (hN : pN.live = true) (hNr : pN.r = pS.r ∨ w.heap.size ≤ pN.r)
    (BW : BR σ ((e.kill bS).up m.n pN) cW pW oW) (BN : BR σ ((e.kill bS).up m.n pN) cN pN oN) (wW : w'.heap[pW.r]? = some oW) (wN : w'.heap[pN.r]? = some oN)
    (wx : ∀ x, x < w.heap.size → x ≠ pW.r → x ≠ pS.r → w'.heap[x]? = w.heap[x]?) (hsz : w.heap.size ≤ w'.heap.size) (ht : w'.tape = w.tape) (ho : w'.os = w.os) (hu : w'.output = w.output)
    {h' : Hp} (hh : ∀ j, h'.get? j = if j = m.n then some cN else if j = bS then some .none else if j = bW then some cW else m.h.get? j) :
    RL σ G ((e.kill bS).up m.n pN) ⟨h', m.n + 1, m.tab⟩ w' ∧ Kept e m w ((e.kill bS).up m.n pN) ⟨h', m.n + 1, m.tab⟩ w' := by
  have hnn : e m.n = none := hR.bnd _ (Nat.le_refl _)
  have hkn : (e.kill bS) m.n = none := by
    have : m.n ≠ bS := fun h => by rw [← h, hnn] at hS; cases hS
    simp [Env.kill, this, hnn]
  have hext : Ext e ((e.kill bS).up m.n pN) := (Ext.kill e bS).trans (Ext.up hkn)
  -- what lives afterwards
  have liv : ∀ {x : Nat} {q : Place}, ((e.kill bS).up m.n pN) x = some q → q.live = true → (x = m.n ∧ q = pN) ∨ (x ≠ m.n ∧ x ≠ bS ∧ e x = some q) := by
    intro x q hq hl
    by_cases hxn : x = m.n
    · subst hxn
      simp [Env.up] at hq
      exact .inl ⟨rfl, hq.symm⟩
    · have hq' : e.kill bS x = some q := by simpa [Env.up, hxn] using hq
      by_cases hxb : x = bS
      · subst hxb; simp [Env.kill, hS] at hq'; subst hq'; cases hl
      · exact .inr ⟨hxn, hxb, by simpa [Env.kill, hxb] using hq'⟩
  have apart : ∀ {x : Nat} {q : Place}, x ≠ bS → e x = some q → q.live = true → q.r ≠ pN.r := by
    intro x q hx hq hl he
    rcases hNr with h | h
    · exact hx (hR.inj _ _ _ _ hq hS hl lS (he.trans h))
    · have := hR.lt hq hl; omega
  refine ⟨⟨fun x q cb hq hcb => ?_, fun x q hq => ?_, fun x x' q q' h1 h2 l1 l2 he => ?_, fun x hx => ?_, fun g hg => ?_⟩, ⟨hext, Nat.le_succ _, fun x hx hn => ?_, hsz, fun r hr hn => ?_, fun x q hq hl => ?_, ht, ho, hu⟩⟩
  · replace hcb : h'.get? x = some cb := hcb
    rw [hh] at hcb
    by_cases hxn : x = m.n
    · subst hxn
      simp [Env.up] at hq
      subst hq
      rw [if_pos hN]
      rw [if_pos rfl] at hcb
      cases hcb
      exact ⟨oN, wN, BN⟩
    · rw [if_neg hxn] at hcb
      have hq' : e.kill bS x = some q := by simpa [Env.up, hxn] using hq
      by_cases hxb : x = bS
      · subst hxb
        rw [if_pos rfl] at hcb
        cases hcb
        simp [Env.kill, hS] at hq'
        subst hq'
        rfl
      · rw [if_neg hxb] at hcb
        have hq0 : e x = some q := by simpa [Env.kill, hxb] using hq'
        by_cases hxw : x = bW
        · subst hxw
          rw [hW] at hq0; cases hq0
          rw [if_pos rfl] at hcb
          cases hcb
          rw [if_pos lW]
          exact ⟨oW, wW, BW⟩
        · rw [if_neg hxw] at hcb
          have old := hR.hr x q cb hq0 hcb
          by_cases hl : q.live = true
          · rw [if_pos hl] at old
            rw [if_pos hl]
            obtain ⟨o, h2, h3⟩ := old
            refine ⟨o, ?_, h3.mono hext⟩
            rw [wx q.r (hR.lt hq0 hl) (fun he => hxw (hR.inj _ _ _ _ hq0 hW hl lW he)) (fun he => hxb (hR.inj _ _ _ _ hq0 hS hl lS he))]
            exact h2
          · rw [if_neg hl] at old
            rw [if_neg hl]
            exact old
  · show ∃ cb, h'.get? x = some cb
    rw [hh]
    split
    · exact ⟨_, rfl⟩
    · rename_i hxn
      split
      · exact ⟨_, rfl⟩
      · rename_i hxb
        split
        · exact ⟨_, rfl⟩
        · exact hR.dom x q (by simpa [Env.up, hxn, Env.kill, hxb] using hq)
  · rcases liv h1 l1 with ⟨rfl, rfl⟩ | ⟨a1, a2, a3⟩ <;> rcases liv h2 l2 with ⟨b1, b2⟩ | ⟨b1, b2, b3⟩
    · exact b1.symm
    · exact absurd he.symm (apart b2 b3 l2)
    · subst b1; subst b2
      exact absurd he (apart a2 a3 l1)
    · exact hR.inj _ _ _ _ a3 b3 l1 l2 he
  · have hx : m.n + 1 ≤ x := hx
    have hn := hR.bnd x (by omega)
    have : x ≠ bS := fun he => by rw [he, hS] at hn; cases hn
    simp [Env.up, show x ≠ m.n by omega, Env.kill, this, hn]
  · obtain ⟨q, hq, h1, h2⟩ := hR.glo g hg
    obtain ⟨q', g1, g2, g3, _⟩ := hext g q hq
    exact ⟨q', g1, g2.trans h1, g3.trans h2⟩
  · have hxn : x ≠ m.n := by omega
    have hxb : x ≠ bS := fun he => by rw [he, hS] at hn; cases hn
    have hxw : x ≠ bW := fun he => by rw [he, hW] at hn; cases hn
    refine ⟨by simp [Env.up, hxn, Env.kill, hxb, hn], ?_⟩
    show h'.get? x = _
    rw [hh, if_neg hxn, if_neg hxb, if_neg hxw]
  · exact wx r hr (fun he => hn bW pW hW lW he.symm) (fun he => hn bS pS hS lS he.symm)
  · rcases liv hq hl with ⟨rfl, rfl⟩ | ⟨_, _, h⟩
    · rcases hNr with h | h
      · exact .inl ⟨bS, pS, hS, lS, h.symm⟩
      · exact .inr h
    · exact .inl ⟨x, q, h, hl, rfl⟩
end
end Go.Ev

namespace Go.Ev
/-! A code known by contract, which makes a row of a block's cell longer: the row's block gives way to a new one -/
noncomputable section
def fillCV : List CV := [.bool true, .int .i64 0, .int .i64 1, .sl0, .sl0, .sl0, .int .i64 0, .int .i64 0, .int .i64 0, .int .i64 0, .sl0]
def fillV : List Value := [.bool true, .int .i64 0, .int .i64 1, .slice none 0 0, .slice none 0 0, .slice none 0 0, .int .i64 0, .int .i64 0, .int .i64 0, .int .i64 0, .slice none 0 0]
def fills (k : Nat) : List Value := (List.replicate k fillV).flatten
def nthC (l : List CV) (n : Nat) : CV := List.rec (motive := fun _ => Nat → CV) (fun _ => .ptr0) (fun x _ ih n => Nat.rec (motive := fun _ => CV) x (fun p _ => ih p) n) l n
def isI (o : Option CV) (n : Int) : Bool := match o with | some c => cvBeq c (.int .i64 n) | none => false
/-- what is read of the block: the row's block and its length, the table's block -/
def planY (cb : CB) : Option (Nat × Nat × Nat) := match cb with
  | .cells _ false _ _ cs => match cs.get? 4, cs.get? 9 with
    | some (.sl bS o n0 c0), some (.sl bP o' l _) => match Nat.beq o 0 && (Nat.beq c0 n0 && (Nat.beq o' 0 && (Nat.blt 0 l && (isI (cs.get? 2) 0 && (isI (cs.get? 3) 0 && (isI (cs.get? 6) n0 && (match cs.get? 5 with | some c => cvBeq c .sl0 | none => false))))))) with
      | true => some (bS, n0, bP)
      | false => none
    | _, _ => none
  | _ => none
def mkY (te N bW bS bP n0 n : Nat) (cW cS cP : CB) : Option (CB × CB) := match cW with
  | .cells t1 lo es sz cs => match cS with
    | .cells t2 lo2 es2 sz2 csS => match cP with
      | .cells _ _ _ _ csP => match Nat.beq t2 te && (lo2 && (Nat.beq es2 11 && (Nat.beq sz2 (Nat.mul 11 n0) && (isI (csP.get? 0) 1 && (Nat.blt n0 N && !(Nat.beq bW bS || (Nat.beq bW bP || Nat.beq bP bS))))))) with
        | true => some (.cells t1 lo es sz (ofFnT sz fun j => match Nat.beq j 4 with | true => .sl n 0 N N | false => (match Nat.beq j 6 with | true => .int .i64 N | false => (match cs.get? j with | some c => c | none => .ptr0))),
            .cells te true 11 (Nat.mul 11 N) (ofFnT (Nat.mul 11 N) fun j => match csS.get? j with | some c => c | none => nthC fillCV (Nat.mod j 11)))
        | false => none
      | _ => none
    | _ => none
  | _ => none
def ptr0K (c : CV) (k : Nat → Bool) : Bool := match c with | .ptr b o => (match Nat.beq o 0 with | true => k b | false => false) | _ => false
def evY (nt iW te N : Nat) (cs : List (Nat × CV)) (ss : Nat → List (Nat × CV)) : EvCode := fun t d m k => match d with
  | [] => getK t (nt - 1) fun _ => insK .ptr0 t nt fun _ => chkL cs t (getK t iW fun c => ptr0K c fun bW => getK m.h bW fun cW => match planY cW with
    | some q => getK m.h q.1 fun cS => getK m.h q.2.2 fun cP => (match mkY te N bW q.1 q.2.2 q.2.1 m.n cW cS cP with
      | some x => setK x.1 m.h bW fun h => setK .none h q.1 fun h => newB x.2 ⟨h, m.n, m.tab⟩ fun _ m => slotL (ss bW) t fun t => k .normal t [] m
      | none => false)
    | none => false)
  | _ :: _ => false
end
theorem fillV_get (r : Nat) (h : r < 11) {σ : Sg} {e : Env} : ∃ v, fillV[r]? = some v ∧ VR σ e (nthC fillCV r) v := by
  match r, h with
  | 0, _ => exact ⟨_, rfl, .bool _⟩
  | 1, _ => exact ⟨_, rfl, .int _ _⟩
  | 2, _ => exact ⟨_, rfl, .int _ _⟩
  | 3, _ => exact ⟨_, rfl, .sl0⟩
  | 4, _ => exact ⟨_, rfl, .sl0⟩
  | 5, _ => exact ⟨_, rfl, .sl0⟩
  | 6, _ => exact ⟨_, rfl, .int _ _⟩
  | 7, _ => exact ⟨_, rfl, .int _ _⟩
  | 8, _ => exact ⟨_, rfl, .int _ _⟩
  | 9, _ => exact ⟨_, rfl, .int _ _⟩
  | 10, _ => exact ⟨_, rfl, .sl0⟩
theorem fills_succ (k : Nat) : fills (k + 1) = fillV ++ fills k := by simp [fills, List.replicate_succ]
theorem fills_succ' (k : Nat) : fills (k + 1) = fills k ++ fillV := by simp [fills, List.replicate_succ']
theorem fills_get : ∀ (k j : Nat), j < 11 * k → (fills k)[j]? = fillV[j % 11]?
  | 0, j, h => by omega
  | k + 1, j, h => by
    rw [fills_succ]
    have hl : fillV.length = 11 := rfl
    by_cases hj : j < 11
    · rw [List.getElem?_append_left (by omega), Nat.mod_eq_of_lt hj]
    · rw [List.getElem?_append_right (by omega), fills_get k _ (by omega)]
      congr 1
      omega
theorem isI_inv {o : Option CV} {n : Int} (h : isI o n = true) : o = some (.int .i64 n) := by
  unfold isI at h
  split at h
  · rw [cvBeq_eq _ _ h]
  · cases h
theorem planY_inv {cb : CB} {q : Nat × Nat × Nat} (h : planY cb = some q) : ∃ te es sz cs l c, cb = .cells te false es sz cs ∧ cs.get? 4 = some (.sl q.1 0 q.2.1 q.2.1) ∧ cs.get? 9 = some (.sl q.2.2 0 l c) ∧
    cs.get? 2 = some (.int .i64 0) ∧ cs.get? 3 = some (.int .i64 0) ∧ cs.get? 6 = some (.int .i64 q.2.1) ∧ cs.get? 5 = some .sl0 ∧ 0 < l := by
  unfold planY at h
  split at h
  · rename_i te es sz cs
    split at h
    · rename_i bS o n0 c0 bP o' l c h4 h9
      split at h
      · rename_i hb
        simp only [Bool.and_eq_true, Nat.beq_eq, Nat.blt_eq] at hb
        obtain ⟨rfl, rfl, rfl, hl, h2, h3, h6, h5⟩ := hb
        cases h
        refine ⟨te, es, sz, cs, l, c, rfl, h4, h9, isI_inv h2, isI_inv h3, isI_inv h6, ?_, hl⟩
        split at h5
        · rename_i x hx
          rw [hx, cvBeq_eq _ _ h5]
        · cases h5
      · cases h
    · cases h
  · cases h
theorem mkY_inv {te N bW bS bP n0 n : Nat} {cW cS cP : CB} {x : CB × CB} (h : mkY te N bW bS bP n0 n cW cS cP = some x) :
    ∃ t1 lo es sz cs csS t3 lo3 es3 sz3 csP, cW = .cells t1 lo es sz cs ∧ cS = .cells te true 11 (11 * n0) csS ∧ cP = .cells t3 lo3 es3 sz3 csP ∧ csP.get? 0 = some (.int .i64 1) ∧ n0 < N ∧ bW ≠ bS ∧ bW ≠ bP ∧ bP ≠ bS ∧
      x = (.cells t1 lo es sz (ofFnT sz fun j => match Nat.beq j 4 with | true => .sl n 0 N N | false => (match Nat.beq j 6 with | true => .int .i64 N | false => (match cs.get? j with | some c => c | none => .ptr0))),
            .cells te true 11 (11 * N) (ofFnT (11 * N) fun j => match csS.get? j with | some c => c | none => nthC fillCV (Nat.mod j 11))) := by
  unfold mkY at h
  split at h
  · rename_i t1 lo es sz cs
    split at h
    · rename_i t2 lo2 es2 sz2 csS
      split at h
      · rename_i t3 lo3 es3 sz3 csP
        split at h
        · rename_i hb
          simp only [Bool.and_eq_true, Nat.beq_eq, Bool.not_eq_true', Bool.or_eq_false_iff, Nat.blt_eq] at hb
          obtain ⟨rfl, rfl, rfl, rfl, h1, h2, h3, h4, h5⟩ := hb
          cases h
          exact ⟨t1, lo, es, sz, cs, csS, t3, lo3, es3, sz3, csP, rfl, rfl, rfl, isI_inv h1, h2, Nat.ne_of_beq_eq_false h3, Nat.ne_of_beq_eq_false h4, Nat.ne_of_beq_eq_false h5, rfl⟩
        · cases h
      · cases h
    · cases h
  · cases h
/-- what the code does to the world -/
def Grows (el N n0 W r : Nat) (cw : Array Value) (tw : TypeId) (xs : List Value) (w w' : World) : Prop :=
  ∃ g d' cap', RowAt w' el 11 g d' N cap' (xs ++ fills (N - n0)) ∧ w'.heap[W]? = some (.cells ((cw.setIfInBounds 4 (.slice (some ⟨g, d', none⟩) N cap')).setIfInBounds 6 (.int .i64 N)) tw (0, 0)) ∧
    (g = r ∨ w.heap.size ≤ g) ∧ (∀ x, x < w.heap.size → x ≠ W → x ≠ r → w'.heap[x]? = w.heap[x]?) ∧ w.heap.size ≤ w'.heap.size ∧ w'.tape = w.tape ∧ w'.os = w.os ∧ w'.output = w.output
section
variable {P : Program} {σ : Sg} {G : Nat → Bool} {fn : FuncId}
theorem evY_ok {c : Code} {nt iW el N : Nat} {cs : List (Nat × CV)} {ss : Nat → List (Nat × CV)} {vsW : Nat → List (Nat × Value)} (hnt : 0 < nt)
    (hp : ∀ (bW : Nat) (e : Env) (p : Place), e bW = some p → p.d = 0 → Pairs σ e nt (ss bW) (vsW p.r))
    (hw : ∀ (e : Env) (T : Array Value) (w : World) (W : Nat) (cw : Array Value) (tw : TypeId) (r d n0 cap : Nat) (xs : List Value) (Pr pd l pc : Nat), T.size = nt → (∀ p ∈ cs, ∃ v, T[p.1]? = some v ∧ VR σ e p.2 v) →
      T[iW]? = some (.pointer (some ⟨W, 0, none⟩)) → w.heap[W]? = some (.cells cw tw (0, 0)) → cw[2]? = some (.int .i64 0) → cw[3]? = some (.int .i64 0) → cw[4]? = some (.slice (some ⟨r, d, none⟩) n0 cap) → cw[5]? = some (.slice none 0 0) → cw[6]? = some (.int .i64 n0) →
      cw[9]? = some (.slice (some ⟨Pr, pd, none⟩) l pc) → w.cell? ⟨Pr, pd, none⟩ = some (.int .i64 1) → RowAt w el 11 r d n0 cap xs → n0 < N → W ≠ r → W ≠ Pr → Pr ≠ r → 0 < l →
      c.wp P (fun en a' w' => en = .normal ∧ a' = ⟨setA (vsW W) T, []⟩ ∧ Grows el N n0 W r cw tw xs w w') ⟨T, []⟩ w) :
    CodeOK P σ G fn false c (evY nt iW (el + 1) N cs ss) := by
  intro t d m K hh hs
  cases d with
  | cons x d => cases hh
  | nil =>
    have h0 : getK t (nt - 1) (fun _ => insK .ptr0 t nt fun _ => chkL cs t (getK t iW fun c => ptr0K c fun bW => getK m.h bW fun cW => match planY cW with
      | some q => getK m.h q.1 fun cS => getK m.h q.2.2 fun cP => (match mkY (el + 1) N bW q.1 q.2.2 q.2.1 m.n cW cS cP with
        | some x => setK x.1 m.h bW fun h => setK .none h q.1 fun h => newB x.2 ⟨h, m.n, m.tab⟩ fun _ m => slotL (ss bW) t fun t => K .normal t [] m
        | none => false)
      | none => false)) = true := hh
    obtain ⟨v0, g0, h1⟩ := getK_inv h0
    obtain ⟨_, h2, gn, _⟩ := insF_inv _ _ _ _ _ (Nat.lt_succ_self nt) h1
    obtain ⟨h3, hc⟩ := chkL_inv h2
    obtain ⟨cp, gp, h4⟩ := getK_inv h3
    unfold ptr0K at h4
    split at h4
    case h_2 => cases h4
    rename_i bW o
    split at h4
    case h_2 => cases h4
    rename_i ho
    obtain rfl : o = 0 := by simpa using ho
    obtain ⟨cW, gW, h5⟩ := getK_inv h4
    split at h5
    case h_2 => cases h5
    rename_i q hq
    obtain ⟨bS, n0, bP⟩ := q
    obtain ⟨cS, gS, h6⟩ := getK_inv h5
    obtain ⟨cP, gP, h7⟩ := getK_inv h6
    split at h7
    case h_2 => cases h7
    rename_i x hx
    obtain ⟨hA, h8, _, hhA⟩ := setK_inv _ _ _ _ h7
    obtain ⟨hB, h9, _, hhB⟩ := setK_inv _ _ _ _ h8
    obtain ⟨hC, h10, hhC⟩ := newB_inv h9
    obtain ⟨t', h11, ht⟩ := slotL_inv h10
    refine ⟨.normal, t', [], ⟨hC, m.n + 1, m.tab⟩, h11, hs, fun e w T D b fs k hR hT hD hf hfn => ?_⟩
    cases hD
    have hsz : T.size = nt := by
      have q1 := hT (nt - 1)
      rw [g0] at q1
      obtain ⟨v, q1, _⟩ := q1
      have q2 := hT nt
      rw [gn] at q2
      have l1 := (Array.getElem?_eq_some_iff.1 q1).1
      have l2 := Array.getElem?_eq_none_iff.1 q2
      omega
    obtain ⟨te1, es1, sz1, cs1, l, pc, rfl, k4, k9, k2, k3, k6, k5, hl0⟩ := planY_inv hq
    obtain ⟨t1, lo, es, sz, csW, csS, t3, lo3, es3, sz3, csP, e1, rfl, rfl, kP, hn0, ne1, ne2, ne3, rfl⟩ := mkY_inv hx
    injection e1 with e11 e12 e13 e14 e15
    dsimp only at hn0 ne1 ne2 ne3
    subst e11; subst e12; subst e13; subst e14; subst e15
    -- the real blocks
    obtain ⟨vp, gp1, gp2⟩ := hT.get gp
    cases gp2 with
    | @ptr _ _ pW hW =>
    obtain ⟨lW, cw, tw, fzW, wW, szW, exW, outW, inW, fW, teW⟩ := hR.hr.cells hW gW
    obtain ⟨dW, sW⟩ := exW rfl
    have fW : fzW = (0, 0) := by
      rcases fW with h | ⟨h, _⟩
      · exact h
      · cases h
    subst fW
    have cell : ∀ {i : Nat} {cv : CV}, cs1.get? i = some cv → ∃ v, cw[i]? = some v ∧ VR σ e cv v := by
      intro i cv hi
      have hlt : i < sz1 := by
        rcases Nat.lt_or_ge i sz1 with h | h
        · exact h
        · rw [outW i h] at hi; cases hi
      obtain ⟨cv', v, a1, a2, a3⟩ := inW i hlt
      rw [hi] at a1
      cases a1
      rw [dW, Nat.zero_add] at a2
      exact ⟨v, a2, a3⟩
    obtain ⟨v2, r2, s2⟩ := cell k2
    obtain ⟨v3, r3, s3⟩ := cell k3
    obtain ⟨v4, r4, s4⟩ := cell k4
    obtain ⟨v5, r5, s5⟩ := cell k5
    obtain ⟨v6, r6, s6⟩ := cell k6
    obtain ⟨v9, r9, s9⟩ := cell k9
    cases s2; cases s3; cases s5; cases s6
    cases s4 with
    | @sl _ _ _ _ pS hS =>
    cases s9 with
    | @sl _ _ _ _ pP hP =>
    obtain ⟨lS, cS, tS, fzS, wS, szS, exS, outS, inS, fS, teS⟩ := hR.hr.cells hS gS
    obtain ⟨lP, cP, tP, fzP, wP, szP, exP, outP, inP, fP, teP⟩ := hR.hr.cells hP gP
    dsimp only at szS inS outS
    have fS : fzS = (0, 0) := by
      rcases fS with h | ⟨_, h, _⟩
      · exact h
      · cases h
    subst fS
    obtain rfl : tS = el := teS el rfl
    have hWS : pW.r ≠ pS.r := fun h => ne1 (hR.inj _ _ _ _ hW hS lW lS h)
    have hWP : pW.r ≠ pP.r := fun h => ne2 (hR.inj _ _ _ _ hW hP lW lP h)
    have hPS : pP.r ≠ pS.r := fun h => ne3 (hR.inj _ _ _ _ hP hS lP lS h)
    obtain ⟨xs, hxl, hxs⟩ : ∃ xs : List Value, xs.length = n0 * 11 ∧ ∀ j u, xs[j]? = some u → cS[pS.d + j]? = some u := by
      refine ⟨(cS.toList.drop pS.d).take (n0 * 11), ?_, fun j u hj => ?_⟩
      · simp only [List.length_take, List.length_drop, Array.length_toList]; omega
      · rw [List.getElem?_take] at hj
        split at hj
        · rw [List.getElem?_drop] at hj
          simpa using hj
        · cases hj
    have hrow : RowAt w tS 11 pS.r (0 + pS.d) n0 (n0 + pS.s) xs := by
      rw [Nat.zero_add]
      exact ⟨hxl, cS, wS, by rw [szS, Nat.add_mul]; omega, by omega, hxs⟩
    have hP0 : w.cell? ⟨pP.r, 0 + pP.d, none⟩ = some (.int .i64 1) := by
      have hlt : 0 < sz3 := by
        rcases Nat.lt_or_ge 0 sz3 with h | h
        · exact h
        · rw [outP 0 h] at kP; cases kP
      obtain ⟨cv', v, a1, a2, a3⟩ := inP 0 hlt
      rw [kP] at a1
      cases a1
      cases a3
      rw [Nat.add_zero] at a2
      simp [World.cell?, wP, a2]
    have gp1' : T[iW]? = some (.pointer (some ⟨pW.r, 0, none⟩)) := by rw [gp1, dW]
    have hwp := hw e T w pW.r cw tw pS.r (0 + pS.d) n0 (n0 + pS.s) xs pP.r (0 + pP.d) l (pc + pP.s) hsz (fun p hp => by
      have := hT p.1
      rw [hc p hp] at this
      exact this) gp1' wW r2 r3 r4 r5 r6 r9 hP0 hrow hn0 hWS hWP hPS hl0
    obtain ⟨en, a', w', ⟨rfl, rfl, g, d', cap', ⟨hlen, cur, wN, szN, hcap, hcell⟩, wW', hgr, hfr, hsiz, ht1, ht2, ht3⟩, harr⟩ := hwp b k fs
    have e1 : ∀ (T : Array Value) (td : List Item), fr b T [] td = b.at ⟨T, []⟩ td := fun T td => by simp [fr, Frame.at, hf.1]
    have harr : Steps P (lone (fr b T [] (.code c :: k)) fs w) (lone (fr b (setA (vsW pW.r) T) [] k) fs w') := by rw [e1, e1]; exact harr
    have hnn : e m.n = none := hR.bnd _ (Nat.le_refl _)
    have hnS : m.n ≠ bS := fun h => by rw [← h, hnn] at hS; cases hS
    have hnW : m.n ≠ bW := fun h => by rw [← h, hnn] at hW; cases hW
    have hkn : (e.kill bS) m.n = none := by simp [Env.kill, hnS, hnn]
    have hext : Ext e ((e.kill bS).up m.n ⟨g, d', cap' - N, true⟩) := (Ext.kill e bS).trans (Ext.up hkn)
    have hup : ((e.kill bS).up m.n ⟨g, d', cap' - N, true⟩) m.n = some ⟨g, d', cap' - N, true⟩ := Env.up_same _ _ _
    have hWn : ((e.kill bS).up m.n ⟨g, d', cap' - N, true⟩) bW = some pW := by simp [Env.up, Ne.symm hnW, Env.kill, ne1, hW]
    have BW : BR σ ((e.kill bS).up m.n ⟨g, d', cap' - N, true⟩) (.cells te1 false es1 sz1 (ofFnT sz1 fun j => match Nat.beq j 4 with | true => .sl m.n 0 N N | false => (match Nat.beq j 6 with | true => .int .i64 N | false => (match cs1.get? j with | some c => c | none => .ptr0)))) pW
        (.cells ((cw.setIfInBounds 4 (.slice (some ⟨g, d', none⟩) N cap')).setIfInBounds 6 (.int .i64 N)) tw (0, 0)) := by
      refine .cells (by simpa using szW) (fun _ => ⟨dW, sW⟩) (fun i hi => by rw [ofFnT_get, if_neg (by omega)]) (fun i hi => ?_) (.inl rfl) teW
      rw [ofFnT_get, if_pos hi, dW, Nat.zero_add]
      have hsw : sz1 = cw.size := by rw [szW, dW, sW]; omega
      by_cases h6 : i = 6
      · subst h6
        exact ⟨_, .int .i64 N, rfl, by simp [hsw ▸ hi], .int _ _⟩
      · by_cases h4 : i = 4
        · subst h4
          refine ⟨_, .slice (some ⟨g, d', none⟩) N cap', rfl, by simp [hsw ▸ hi], ?_⟩
          have := VR.sl (σ := σ) (o := 0) (len := N) (cap := N) hup
          simp only [Nat.zero_add] at this
          rw [show N + (cap' - N) = cap' by omega] at this
          exact this
        · obtain ⟨cv', v, a1, a2, a3⟩ := inW i hi
          rw [dW, Nat.zero_add] at a2
          refine ⟨_, v, rfl, ?_, ?_⟩
          · rw [Array.getElem?_setIfInBounds_ne (by omega), Array.getElem?_setIfInBounds_ne (by omega)]
            exact a2
          · have b4 : Nat.beq i 4 = false := by cases h : Nat.beq i 4 with | false => rfl | true => exact absurd (Nat.eq_of_beq_eq_true h) h4
            have b6 : Nat.beq i 6 = false := by cases h : Nat.beq i 6 with | false => rfl | true => exact absurd (Nat.eq_of_beq_eq_true h) h6
            simp only [b4, b6, a1]
            exact a3.mono hext
    have BN : BR σ ((e.kill bS).up m.n ⟨g, d', cap' - N, true⟩) (.cells (tS + 1) true 11 (11 * N) (ofFnT (11 * N) fun j => match csS.get? j with | some c => c | none => nthC fillCV (Nat.mod j 11))) ⟨g, d', cap' - N, true⟩ (.cells cur tS (0, 0)) := by
      refine .cells ?_ (fun h => by cases h) (fun i hi => by rw [ofFnT_get, if_neg (by omega)]) (fun i hi => ?_) (.inl rfl) (.succ _)
      · show cur.size = d' + 11 * N + (cap' - N) * 11
        rw [szN, Nat.sub_mul]
        have : N * 11 ≤ cap' * 11 := Nat.mul_le_mul_right _ hcap
        omega
      · rw [ofFnT_get, if_pos hi]
        by_cases hi0 : i < 11 * n0
        · obtain ⟨cv', v, a1, a2, a3⟩ := inS i hi0
          have hx : xs[i]? = some v := by
            have hi1 : i < xs.length := by omega
            have := hxs i xs[i] (List.getElem?_eq_getElem hi1)
            rw [a2] at this
            rw [List.getElem?_eq_getElem hi1, ← this]
          refine ⟨_, v, rfl, hcell i v (by rw [List.getElem?_append_left (by omega)]; exact hx), ?_⟩
          simp only [a1]
          exact a3.mono hext
        · obtain ⟨v, a1, a2⟩ := fillV_get (σ := σ) (e := (e.kill bS).up m.n ⟨g, d', cap' - N, true⟩) (i % 11) (by omega)
          refine ⟨_, v, rfl, hcell i v ?_, ?_⟩
          · rw [List.getElem?_append_right (by omega), fills_get _ _ (by omega), ← a1]
            congr 1
            omega
          · simp only [outS i (by omega)]
            exact a2
    have hreg := hR.regrow (w' := w') (h' := hC) hW lW hS lS ne1 (pN := ⟨g, d', cap' - N, true⟩) rfl hgr BW BN wW' wN hfr hsiz ht1 ht2 ht3 (fun j => by
      rw [hhC]
      by_cases j1 : j = m.n
      · rw [if_pos j1, if_pos j1]
      · rw [if_neg j1, if_neg j1]
        show hB.get? j = _
        rw [hhB]
        by_cases j2 : j = bS
        · rw [if_pos j2, if_pos j2]
        · rw [if_neg j2, if_neg j2, hhA])
    refine ⟨_, [], w', _, k, harr, rfl, hreg.1, ?_, .nil, hreg.2⟩
    have : TRf σ ((e.kill bS).up m.n ⟨g, d', cap' - N, true⟩) (slotS (ss bW) t.get?) (setA (vsW pW.r) T) := TRf.sets (hp bW _ pW hWn dW) hsz (hT.mono hext)
    intro i
    have := this i
    rw [ht i]
    exact this
end
end Go.Ev

namespace Go.Ev
/-! the same, staged -/
noncomputable section
variable {D : Nat}
def ptr0R (c : CV) (k : Nat → Res) : Res := match c with | .ptr b o => (match Nat.beq o 0 with | true => k b | false => .bad) | _ => .bad
def evYS (nt iW te N : Nat) (cs : List (Nat × CV)) (ss : Nat → List (Nat × CV)) : Bx (CodeF D) := .mk fun c t h n k => Cx.rec (motive := fun _ => Res) (fun call d tab => List.rec (motive := fun _ => Res)
  ((gT D (nt - 1)).go t fun _ => (iT D nt).go t (encV .ptr0) fun _ => chkLS cs t ((gT D iW).go t fun v => decV v fun c => ptr0R c fun bW => (gH D bW).go h fun bs => decB D bs fun cW => match planY cW with
    | some q => (gH D q.1).go h fun bs => decB D bs fun cS => (gH D q.2.2).go h fun bs => decB D bs fun cP => (match mkY te N bW q.1 q.2.2 q.2.1 n cW cS cP with
      | some x => (scott D).sH x.1 h bW fun h => (scott D).sH .none h q.1 fun h => newBR (scott D) x.2 ⟨h, n, tab⟩ fun _ m => mM m fun tab h n => slotLS (ss bW) t fun t => k .normal (.mk call [] tab) t h n
      | none => .bad)
    | none => .bad)) (fun _ _ _ => .bad) d) c
end
section
variable {D : Nat} {cX : CallS D}
theorem ptr0R_val (c : CV) (k : Nat → Res) : (ptr0R c k).val = ptr0K c fun b => (k b).val := by
  cases c with
  | ptr b o =>
    show (match Nat.beq o 0 with | true => k b | false => .bad : Res).val = (match Nat.beq o 0 with | true => (k b).val | false => false)
    cases Nat.beq o 0 <;> rfl
  | _ => rfl
theorem evYS_eq (nt iW te N : Nat) (cs : List (Nat × CV)) (ss : Nat → List (Nat × CV)) (d : List DF) (tab : Tab) (t : Tm) (h : Hp) (n : Nat) (k : KXF D) : ((evYS nt iW te N cs ss).go (.mk cX d tab) (encM D t) (encH D h) n k).val = evY nt iW te N cs ss t d ⟨h, n, tab⟩ (onXS cX k) := by
  cases d with
  | cons x d => rfl
  | nil =>
    show ((gT D (nt - 1)).go (encM D t) fun _ => (iT D nt).go (encM D t) (encV .ptr0) fun _ => chkLS cs (encM D t) ((gT D iW).go (encM D t) fun v => decV v fun c => ptr0R c fun bW => (gH D bW).go (encH D h) fun bs => decB D bs fun cW => match planY cW with
      | some q => (gH D q.1).go (encH D h) fun bs => decB D bs fun cS => (gH D q.2.2).go (encH D h) fun bs => decB D bs fun cP => (match mkY te N bW q.1 q.2.2 q.2.1 n cW cS cP with
        | some x => (scott D).sH x.1 (encH D h) bW fun h => (scott D).sH .none h q.1 fun h => newBR (scott D) x.2 ⟨h, n, tab⟩ fun _ m => mM m fun tab h n => slotLS (ss bW) (encM D t) fun t => k .normal (.mk cX [] tab) t h n
        | none => .bad)
      | none => .bad)).val = getK t (nt - 1) fun _ => insK .ptr0 t nt fun _ => chkL cs t (getK t iW fun c => ptr0K c fun bW => getK h bW fun cW => match planY cW with
      | some q => getK h q.1 fun cS => getK h q.2.2 fun cP => (match mkY te N bW q.1 q.2.2 q.2.1 n cW cS cP with
        | some x => setK x.1 h bW fun h => setK .none h q.1 fun h => newB x.2 ⟨h, n, tab⟩ fun _ m => slotL (ss bW) t fun t => onXS cX k .normal t [] m
        | none => false)
      | none => false)
    rw [gT_eq, getKR_val]
    congr 1
    funext _
    rw [iT_eq, insKR_val]
    congr 1
    funext _
    rw [chkLS_eq]
    congr 1
    rw [gT_eq, getKR_val]
    congr 1
    funext c
    rw [decV_enc, ptr0R_val]
    congr 1
    funext bW
    rw [gH_eq, getKR_val]
    congr 1
    funext cW
    rw [decB_enc]
    cases planY cW with
    | none => rfl
    | some q =>
      simp only []
      rw [gH_eq, getKR_val]
      congr 1
      funext cS'
      rw [decB_enc, gH_eq, getKR_val]
      congr 1
      funext cP
      rw [decB_enc]
      cases mkY te N bW q.1 q.2.2 q.2.1 n cW cS' cP with
      | none => rfl
      | some x =>
        simp only []
        rw [(law D).sH]
        congr 1
        funext h1
        rw [(law D).sH]
        congr 1
        funext h2
        refine (newBR_val (law D) x.2 ⟨h2, n, tab⟩ _).trans (congrArg (newB x.2 ⟨h2, n, tab⟩) (funext fun _ => funext fun m => ?_))
        show (mM ⟨encH D m.h, m.n, m.tab⟩ _).val = _
        rw [mM_enc, slotLS_eq]
        rfl
end
end Go.Ev
