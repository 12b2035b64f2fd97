/- A verified evaluator for the model's code (part EvC): own work, of no program. -/
import Derived.Test.YtegokcjfjopdoaaGreatDoorEvB
namespace Go.Ev
noncomputable section

/-! Operations that act -/
abbrev KA := CV → M → Bool
abbrev CallFn := Fn → List CV → M → KA → Bool

def newB (cb : CB) (m : M) (k : Nat → M → Bool) : Bool :=
  insK cb m.h m.n fun h' => forceN (Nat.succ m.n) fun n' => k m.n ⟨h', n', m.tab⟩
def isTrue (b : Bool) (k : Bool) : Bool := match b with | true => k | false => false

def allOne (l : List CV) (k : Bool) : Bool := lrec k (fun v _ ih => oneK v ih) l
/-- the cells of what is appended, and how many elements -/
def appended (str : Bool) (n : Nat) (x : CV) (h : Hp) (k : List CV → Nat → Bool) : Bool := match str with
  | false => match x with
    | .sl0 => k [] 0
    | .slE => k [] 0
    | .sl b off len _ => withCells h b fun _ _ _ cs => loadN cs (len * n) off fun l => allOne l (k l len)
    | _ => false
  | true => match x with
    | .str l c => match Nat.beq n 1 with
      | true => k ((decBytes l c).map fun b => .int .u8 b.toNat) l
      | false => false
    | _ => false

def appendC (P : Program) (et : TypeId) (str : Bool) (s x : CV) (m : M) (k : KA) : Bool :=
  szK P et fun n => isTrue (!Nat.beq n 0) <| isTrue (!Nat.beq (P.bytesOf et) 0) <| isTrue (match zeroOf P et with | some z => Nat.beq z.length n | none => false) <|
  appended str n x m.h fun new cnt => match s with
    | .sl0 => match Nat.beq cnt 0 with
      | true => k .sl0 m
      | false => isTrue (Nat.ble (4 * cnt * P.bytesOf et) 281474976710656) <| forceN (cnt * n) fun sz =>
        newB (.cells true (n) sz (ofList new)) m fun b m' => k (.sl b 0 cnt cnt) m'
    | .sl b off len cap => withCells m.h b fun lo es sz cs => forceN (len + cnt) fun need => match Nat.ble need cap with
      | true => storeN new (off + len * n) cs fun cs' => setK (.cells lo es sz cs') m.h b fun h' => k (.sl b off need cap) ⟨h', m.n, m.tab⟩
      | false => isTrue (Nat.ble (4 * need * P.bytesOf et) 281474976710656) <| forceN (need * n) fun sz' => match lo with
        | true => isTrue (Nat.beq es (n)) <| isTrue (Nat.beq (off + cap * es) sz) <| setK .none m.h b fun h1 =>
          match Nat.beq off 0 && Nat.beq (len * es) sz with
          | true => pushN new sz cs fun cs' => newB (.cells true es sz' cs') ⟨h1, m.n, m.tab⟩ fun b' m' => k (.sl b' 0 need need) m'
          | false => loadN cs (len * es) off fun old => newB (.cells true es sz' (ofList (old ++ new))) ⟨h1, m.n, m.tab⟩ fun b' m' => k (.sl b' 0 need need) m'
        | false => loadN cs (len * n) off fun old => newB (.cells true (n) sz' (ofList (old ++ new))) m fun b' m' => k (.sl b' 0 need need) m'
    | _ => false

def actC (P : Program) (G : Nat → Bool) (call : CallFn) (o : Op) (t : Tm) (m : M) (k : KA) : Bool := match o with
  | .store ty x y => getO G x t fun v => asPtr v fun b off => getO G y t fun w => storeC P ty b off w m.h fun h' => k undefC ⟨h', m.n, m.tab⟩
  | .mapUpdate ty x i y => match P.underlying ty with
    | some (.map kt _) => getO G x t fun v => getO G i t fun key => getO G y t fun val => match keyOk P kt key with
      | false => false
      | true => match v with
        | .map b => getK m.h b fun cb => match cb with
          | .map es clock => putM P kt m.h m.tab key val clock es fun es' new => forceN (match new with | true => clock + 1 | false => clock) fun clock' =>
            setK (.map es' clock') m.h b fun h' => k undefC ⟨h', m.n, m.tab⟩
          | _ => false
        | _ => false
    | _ => false
  | .call c => match c.callee with
    | .value f => getO G f t fun fv => getOs G c.args.toList t fun args => match fv with
      | .fn f first cap => match f with
        | .func f => call (.func f) (first ++ args ++ cap) m k
        | _ => false
      | .yld b => call (.yield b) args m k
      | _ => false
    | .builtin b => match b with
      | .append => match c.args.toList with
        | [x, y] => match c.argTypes.toList with
          | [tx, ty] => match elemOfSl P tx with
            | some e => match P.underlying ty with
              | some (.slice _) => getO G x t fun v => getO G y t fun w => appendC P e false v w m k
              | some .string => getO G x t fun v => getO G y t fun w => appendC P e true v w m k
              | _ => false
            | none => false
          | _ => false
        | _ => false
      | .recover => k .ifc0 m
      | _ => false
    | .invoke _ _ => false
  | _ => false

/-! Regions -/
def putT (dst : Option Tmp) (v : CV) (t : Tm) (k : Tm → Bool) : Bool := match dst with
  | none => k t
  | some d => setK v t d k
/-- is the operation wanted? -/
def guardC (ops : Array Oper) (o : Oper) (t : Tm) (k : Bool → Bool) : Bool := match o.guard with
  | none => k true
  | some (j, want) => match ops[j]? with
    | some oj => match oj.dst with
      | some d => getK t d fun v => match v with
        | .bool b => match want with
          | true => (match b with | true => k true | false => k false)
          | false => (match b with | true => k false | false => k true)
        | .tup [] => k false
        | _ => false
      | none => false
    | none => false

/-- one operation of an ordered region -/
def operC (P : Program) (G : Nat → Bool) (rd : Bool) (call : CallFn) (ops : Array Oper) (o : Oper) (t : Tm) (d : List DF) (m : M) (k : Tm → List DF → M → Bool) : Bool :=
  guardC ops o t fun b => match b with
    | false => putT o.dst undefC t fun t' => k t' d m
    | true => match isFloat o.op with
      | true => floatC P G o.op t m.h m.tab m.n fun v nb tab => putT o.dst v t fun t' => match nb with
        | none => k t' d ⟨m.h, m.n, tab⟩
        | some cb => newB cb ⟨m.h, m.n, tab⟩ fun _ m' => k t' d m'
      | false => match o.op with
        | .defer c => match rd with
          | true => false
          | false => match c.callee with
            | .value f => getO G f t fun fv => getOs G c.args.toList t fun args => match fv with
              | .fn f first cap => match f with
                | .func f => putT o.dst undefC t fun t' => k t' (.call (.func f) (first ++ args) cap :: d) m
                | _ => false
              | _ => false
            | _ => false
        | op => (match op, rd with
            | .call { callee := .builtin .recover, .. }, true => false
            | _, _ => true) && actC P G call op t m fun v m' => putT o.dst v t fun t' => k t' d m'

def opsC (P : Program) (G : Nat → Bool) (rd : Bool) (call : CallFn) (ops : Array Oper) (l : List Oper) : Tm → List DF → M → (Tm → List DF → M → Bool) → Bool :=
  lrec (fun t d m k => k t d m) (fun o _ ih t d m k => operC P G rd call ops o t d m fun t d m => ih t d m k) l

/-! Drawn regions -/
inductive PS where
  | fl (i : Nat)
  | ch (i : Nat) (again : List Nat)

def planOf (ops : Array Oper) : List PS :=
  let anc := Region.before ops
  let idx := List.range ops.size
  let flo := idx.filter fun i => isFloat (ops.getD i default).op
  let chs := idx.filter fun i => !isFloat (ops.getD i default).op
  let level (i : Nat) : Nat := (chs.filter fun c => (anc.getD i 0).testBit c).length
  let rec go : Nat → List Nat → List PS
    | L, [] => (flo.filter fun i => level i == L).map .fl
    | L, c :: cs => ((flo.filter fun i => level i == L).map .fl) ++
        .ch c (flo.filter fun j => looks (ops.getD j default).op && Nat.ble (level j) L && !(anc.getD c 0).testBit j) :: go (L + 1) cs
  go 0 chs

def PS.ix : PS → Nat
  | .fl i => i
  | .ch i _ => i
def PS.isCh : PS → Bool
  | .fl _ => false
  | .ch _ _ => true
/-- the slots that an operation looks at -/
def readsOf (ops : Array Oper) (o : Oper) : List Nat :=
  (o.op.operands.toList.filterMap fun x => match x with | .tmp i => some i | _ => none) ++
  (match o.guard with | some (j, _) => (match ops[j]? with | some oj => (match oj.dst with | some d => [d] | none => []) | none => []) | none => [])
/-- what a drawn region must show, so that any order does -/
def drawOk (ops : Array Oper) : Bool :=
  let anc := Region.before ops
  let plan := planOf ops
  let ixs := plan.map PS.ix
  let n := ops.size
  let op (i : Nat) : Oper := ops.getD i default
  let isA (i j : Nat) : Bool := (anc.getD j 0).testBit i
  let ps := plan.zipIdx
  Nat.beq plan.length n &&
  ((List.range n).all fun i => ixs.contains i) &&
  (ps.all fun (s, p) => Nat.beq (ixs.idxOf s.ix) p && Nat.blt s.ix n && (isFloat (op s.ix).op == !s.isCh)) &&
  (ps.all fun (s, p) => ps.all fun (s', p') => !(Nat.blt p' p && s'.isCh) || isA s'.ix s.ix) &&
  (ps.all fun (s, p) => (readsOf ops (op s.ix)).all fun x => ps.all fun (s', p') => !((op s'.ix).dst == some x) || (Nat.blt p' p && isA s'.ix s.ix)) &&
  (ps.all fun (s, p) => ps.all fun (s', p') => Nat.beq p p' || (match (op s.ix).dst with | some x => !((op s'.ix).dst == some x) | none => true)) &&
  (ps.all fun (s, p) => match s with
    | .fl _ => true
    | .ch i again => ps.all fun (s', p') => !(Nat.blt p' p && !s'.isCh && looks (op s'.ix).op) || again.contains s'.ix || isA s'.ix i) &&
  (ops.toList.zipIdx.all fun (o, i) => o.after.all fun e => !Region.binds .text e || Nat.blt e.on i) &&
  (match Region.departs ops with
    | false => true
    | true => let r := Region.linearise .gc ops 0
      ops.toList.zipIdx.all fun (o, i) => o.after.all fun e => !Region.binds .gc e || (Nat.blt e.on n && Nat.blt (r.idxOf e.on) (r.idxOf i)))

def cvBeq : CV → CV → Bool
  | .bool a, .bool b => a == b
  | .int k a, .int k' b => decide (k = k') && eqI a b
  | .str l c, .str l' c' => Nat.beq l l' && Nat.beq c c'
  | .ptr0, .ptr0 => true
  | .ptr b o, .ptr b' o' => Nat.beq b b' && Nat.beq o o'
  | .sl0, .sl0 => true
  | .slE, .slE => true
  | .sl b o l c, .sl b' o' l' c' => Nat.beq b b' && Nat.beq o o' && Nat.beq l l' && Nat.beq c c'
  | .map0, .map0 => true
  | .map b, .map b' => Nat.beq b b'
  | .ifc0, .ifc0 => true
  | .fn0, .fn0 => true
  | .sym k s, .sym k' s' => decide (k = k') && Nat.beq s s'
  | .ssym s l, .ssym s' l' => Nat.beq s s' && Nat.beq l l'
  | .agg xs, .agg ys => goL xs ys
  | .tup xs, .tup ys => goL xs ys
  | _, _ => false
where goL : List CV → List CV → Bool
  | [], [] => true
  | x :: xs, y :: ys => cvBeq x y && goL xs ys
  | _, _ => false

/-- the operation j once more, at another memory: it must give the value that its slot holds -/
def againC (P : Program) (G : Nat → Bool) (ops : Array Oper) (t : Tm) (m : M) (j : Nat) : Bool := match ops[j]? with
  | some o => guardC ops o t fun b => match b with
    | false => true
    | true => match o.dst with
      | some dd => getK t dd fun v => floatC P G o.op t m.h m.tab 0 fun v' nb _ => match nb with | none => cvBeq v v' | some _ => false
      | none => false
  | none => false

def planC (P : Program) (G : Nat → Bool) (rd : Bool) (call : CallFn) (ops : Array Oper) (l : List PS) : Tm → List DF → M → (Tm → List DF → M → Bool) → Bool :=
  lrec (fun t d m k => k t d m) (fun s _ ih t d m k => match s with
    | .fl i => match ops[i]? with
      | some o => operC P G rd call ops o t d m fun t d m => ih t d m k
      | none => false
    | .ch i again => match ops[i]? with
      | some o => operC P G rd call ops o t d m fun t d m => isTrue (again.all fun j => againC P G ops t m j) (ih t d m k)
      | none => false) l

/-! Code -/
abbrev KX := CX → Tm → List DF → M → Bool
abbrev EvCode := Tm → List DF → M → KX → Bool

def loopC (body : EvCode) (fuel : Nat) : Tm → List DF → M → KX → Bool :=
  Nat.rec (motive := fun _ => Tm → List DF → M → KX → Bool) (fun _ _ _ _ => false)
    (fun _ ih t d m k => body t d m fun x t d m => match x with
      | .normal => ih t d m k
      | .exit id => k (.exit id) t d m
      | .ret => k .ret t d m) fuel

def pendK (pend : Option Code) (K : CX → Bool) : Bool := match pend with
  | none => K .normal
  | some c => match c with
    | .exit id => K (.exit id)
    | .ret => K .ret
    | _ => false

def codeC (P : Program) (G : Nat → Bool) (fn : FuncId) (rd : Bool) (call : CallFn) (fuel : Nat) (c : Code) : EvCode :=
  crec (β := EvCode)
    (fun t d m k => k .normal t d m)
    (fun _ ops draw t d m k => match draw with
      | false => opsC P G rd call ops ops.toList t d m fun t d m => k .normal t d m
      | true => isTrue (drawOk ops) (planC P G rd call ops (planOf ops) t d m fun t d m => k .normal t d m))
    (fun a b t d m k => a t d m fun x t d m => match x with
      | .normal => b t d m k
      | .exit id => k (.exit id) t d m
      | .ret => k .ret t d m)
    (fun c a b t d m k => getO G c t fun v => asBool v fun b' => match b' with | true => a t d m k | false => b t d m k)
    (fun id a t d m k => a t d m fun x t d m => match x with
      | .normal => k .normal t d m
      | .exit j => match Nat.beq j id with | true => k .normal t d m | false => k (.exit j) t d m
      | .ret => k .ret t d m)
    (fun _ a => loopC a fuel)
    (fun f ps a b t d m k => match rd with
      | true => false
      | false => getO G f t fun fv => match fv with
        | .fn f first cap => match f with
          | .func f => isTrue (match P.funcs[f]? with | some fn => fn.body.isSome | none => false) <| newB (.dfd true) m fun db m => newB (.loop .ready none fn t ps a b db) m fun l m =>
            call (.func f) (first ++ [.yld l] ++ cap) m fun _ m => getK m.h l fun cb => match cb with
              | .loop st pend fn t' ps a b db' => match st with
                | .busy => false
                | _ => setK (.loop .exhausted pend fn t' ps a b db') m.h l fun h' => pendK pend fun x => k x t (.coll db :: d) ⟨h', m.n, m.tab⟩
              | _ => false
          | _ => false
        | _ => false)
    (fun id t d m k => k (.exit id) t d m)
    (fun t d m k => k .normal t d m)
    (fun t d m k => k .ret t d m)
    (fun _ _ _ _ => false) c

def resultsC (P : Program) (rs : List ResultVar) : Tm → M → (List CV → Bool) → Bool :=
  lrec (fun _ _ k => k []) (fun r _ ih t m k => match r with
    | .tmp i => getK t i fun v => ih t m fun vs => k (v :: vs)
    | .cell a ty => getK t a fun v => asPtr v fun b off => loadC P ty b off m.h fun v => ih t m fun vs => k (v :: vs)) rs

def defersC (call : CallFn) (ds : List DF) : M → (M → Bool) → Bool :=
  lrec (fun m k => k m) (fun d _ ih m k => match d with
    | .call f args cap => call f (args ++ cap) m fun _ m => ih m k
    | .coll b => getK m.h b fun cb => match cb with
      | .dfd true => setK (.dfd false) m.h b fun h' => ih ⟨h', m.n, m.tab⟩ k
      | _ => false) ds

def setArgs (as : List CV) : Nat → Tm → (Tm → Bool) → Bool :=
  lrec (fun _ t k => k t) (fun a _ ih i t k => setK a t i fun t' => ih (Nat.succ i) t' k) as
def setPs (ps : List Nat) : List CV → Tm → (Tm → Bool) → Bool :=
  lrec (fun as t k => match as with | [] => k t | _ => false)
    (fun p _ ih as t k => match as with
      | [] => false
      | a :: as => setK a t p fun t' => ih as t' k) ps

def idxByte (c : Nat) : List UInt8 → Nat → Int
  | [], _ => -1
  | b :: l, i => match Nat.beq b.toNat c with | true => .ofNat i | false => idxByte c l (i + 1)
def extC (name : String) (args : List CV) (m : M) (k : KA) : Bool :=
  match name == "internal/bytealg.IndexByteString" with
  | true => match args with
    | [.str l c, .int .u8 (.ofNat b)] => isTrue (Nat.blt b 256) (forceI (idxByte b (decBytes l c) 0) fun r => k (.int .i64 r) m)
    | _ => false
  | false => false

/-- a round ends -/
def endRd (l : Nat) (x : CX) (m : M) (k : KA) : Bool := getK m.h l fun cb => match cb with
  | .loop _ _ fn tm ps a b db => match x with
    | .normal => setK (.loop .ready none fn tm ps a b db) m.h l fun h' => k (.bool true) ⟨h', m.n, m.tab⟩
    | .exit id => setK (.loop .done (some (.exit id)) fn tm ps a b db) m.h l fun h' => k (.bool false) ⟨h', m.n, m.tab⟩
    | .ret => setK (.loop .done (some .ret) fn tm ps a b db) m.h l fun h' => k (.bool false) ⟨h', m.n, m.tab⟩
  | _ => false

def callStep (P : Program) (G : Nat → Bool) (fuel : Nat) (call : CallFn) : CallFn := fun f args m k => match f with
    | .func f => match P.funcs[f]? with
      | some fn => match fn.body with
        | some c => setArgs args 0 (blank fn.ntmps) fun t => codeC P G f false call fuel c t [] m fun x t d m => match x with
          | .exit _ => false
          | _ => defersC call d m fun m => resultsC P fn.results.toList t m fun vs => match vs with
            | [v] => k v m
            | vs => k (.tup vs) m
        | none => extC fn.name args m k
      | none => false
    | .yield l => getK m.h l fun cb => match cb with
      | .loop st _ fn tm ps assign body _ => match st with
        | .ready => setPs ps.toList args tm fun t => codeC P G fn true call fuel assign t [] m fun x t d m => match x with
          | .normal => getK m.h l fun cb => match cb with
            | .loop st pend fn' tm' ps' a' b' db' => match st with
              | .ready => setK (.loop .busy pend fn' tm' ps' a' b' db') m.h l fun h' => codeC P G fn true call fuel body t d ⟨h', m.n, m.tab⟩ fun x _ _ m => endRd l x m k
              | _ => false
            | _ => false
          | _ => false
        | _ => false
      | _ => false
    | _ => false


def callC (P : Program) (G : Nat → Bool) (fuel : Nat) (depth : Nat) : CallFn :=
  Nat.rec (motive := fun _ => CallFn) (fun _ _ _ _ => false) (fun _ call => callStep P G fuel call) depth

/-- a function whose answer is known: it hands back true, and leaves nothing that is seen -/
def ovr (aw : FuncId) (call : CallFn) : CallFn := fun f args m k => match f with
  | .func g => match Nat.beq g aw with
    | true => (match args with | [] => k (.bool true) m | _ => false)
    | false => call (.func g) args m k
  | f => call f args m k

end
end Go.Ev
