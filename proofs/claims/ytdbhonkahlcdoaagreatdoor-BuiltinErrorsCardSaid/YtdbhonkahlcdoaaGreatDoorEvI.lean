/- A verified evaluator for the model's code (part EvI): own work, of no program. -/
import Derived.Test.YtdbhonkahlcdoaaGreatDoorEvH
namespace Go.Ev
noncomputable section
/-- nothing? -/
def undB (v : CV) (y : Res) : Res := CV.rec (motive_1 := fun _ => Res) (motive_2 := fun _ => PUnit.{1}) (fun _ => .bad) (fun _ _ => .bad) (fun _ _ => .bad) .bad (fun _ _ => .bad) .bad (fun _ _ _ _ => .bad) .bad .bad (fun _ => .bad) (fun _ _ _ _ _ => .bad) (fun _ => .bad) .bad (fun _ _ _ => .bad) .bad (fun _ _ => .bad) (fun x0 _ => List.rec (motive := fun _ => Res) y (fun _ _ _ => .bad) x0) (fun _ _ => .bad) (fun _ _ => .bad) (fun _ _ _ _ _ => .bad) (fun _ _ _ => .bad) (fun _ => .bad) .unit (fun _ _ _ _ => .unit) v
/-! Types, by a table -/
def undI (I : TypeId → Option TypeInfo) (t : TypeId) : Option TypeDesc := match I t with
  | some { desc := .named _ u, .. } => (I u).map (·.desc)
  | some i => some i.desc
  | none => none
def aggI (I : TypeId → Option TypeInfo) (t : TypeId) : Option Bool := match undI I t with | some (.struct _) => some true | some (.array _ _) => some true | some _ => some false | none => none
def isIfcI (I : TypeId → Option TypeInfo) (t : TypeId) : Bool := match undI I t with | some (.interface _) | none => true | _ => false
def zeroI (I : TypeId → Option TypeInfo) (t : TypeId) : Option (List CV) := match I t with
  | some i => match i.zero with | some v => ofValues v.cells.toList | none => none
  | none => none
def elemI (I : TypeId → Option TypeInfo) (t : TypeId) : Option TypeId := match undI I t with | some (.slice e) => some e | _ => none
def fieldI (I : TypeId → Option TypeInfo) (t : TypeId) (f : Nat) : Option Field := match undI I t with | some (.struct fs) => fs[f]? | _ => none
def cellsI (I : TypeId → Option TypeInfo) (t : TypeId) : Nat := ((I t).map (·.size)).getD 0

section
variable {D : Nat} (P : Program) (G : Nat → Bool) (rd : Bool) (ops : Array Oper) (o : Oper)
/-- an operation without a guard -/
def specS (I : TypeId → Option TypeInfo) (S : Bx (OpF D)) : Bx (OpF D) := match o.op with
  | .move x => valS (putW o.dst) (getS G x)
  | .assign x => valS (putW o.dst) (getS G x)
  | .pick c a b => pickS (putW o.dst) (getS G c) (getS G a) (getS G b)
  | .alloc e => match zeroI I e with
    | some z => match z.all zeroish with
      | true => fN S z.length fun l => fN S (e + 1) fun te => allocS (putW o.dst) te l (ofListB D z)
      | false => S
    | none => S
  | .load ty x => match aggI I ty with
    | some true => match I ty with
      | some i => fN S i.size fun sz => loadsS (putW o.dst) (getS G x) sz
      | none => S
    | some false => loadS (putW o.dst) (getS G x)
    | none => S
  | .nilCheck x => nilcS S (putW o.dst) (getS G x)
  | .binOp op ty x y _ => match undI I ty with
    | some (.int _) => match natOp op with
      | some F => binNS S (putW o.dst) (getS G x) (getS G y) F
      | none => S
    | some .string => match strOpS op with
      | some F => binTS S (putW o.dst) (getS G x) (getS G y) F
      | none => S
    | some (.pointer _) => match op with
      | .eql => binPS S (putW o.dst) (getS G x) (getS G y) vTrue vFalse
      | .neq => binPS S (putW o.dst) (getS G x) (getS G y) vFalse vTrue
      | _ => S
    | _ => S
  | .unOp op _ x => match op with
    | .not => notS (putW o.dst) (getS G x)
    | _ => S
  | .convert s d x => match undI I s with
    | none => S
    | some _ => match undI I d with
      | some (.int kd) => convNS S (putW o.dst) (getS G x) kd
      | some .string => convTS S (putW o.dst) (getS G x)
      | _ => S
  | .box _ x => boxS (putW o.dst) (getS G x)
  | .buildSlice ty len parts => match elemI I ty with
    | some e => match zeroI I e with
      | some z => match I e with
        | some i => match Nat.ble (len * z.length) 65536 && (Nat.beq z.length i.size && isRow parts.toList 0 len) with
          | true => fN S (len * z.length) fun tot => fN S len fun len => fN S i.size fun sz => rowsS G (putW o.dst) (parts.toList.map (·.2)) sz len tot
          | false => S
        | none => S
      | none => S
    | none => S
  | .build ty parts => match zeroI I ty with
    | some z => match undI I ty with
      | some (.struct fields) => match fields.toList.all (fun f => (I f.type).isSome) with
        | true => match layS (fun i => (fields[i]?).map fun f => (f.offset, cellsI I f.type)) parts.toList (z.map .cv) with
          | some l => aggF S (putW o.dst) (srcsS G l)
          | none => S
        | false => S
      | _ => S
    | none => S
  | .makeInterface ty x => match isIfcI I ty with
    | true => S
    | false => ifcS (putW o.dst) (getS G x) ty
  | .fieldAddr s x f => match fieldI I s f with
    | some fd => match I fd.type with
      | some i => match Nat.beq i.size 0 with
        | true => S
        | false => fN S fd.offset fun off => faddrS (putW o.dst) (getS G x) off
      | none => S
    | none => S
  | .field s x f => match fieldI I s f with
    | some fd => match aggI I fd.type with
      | some false => fN S fd.offset fun off => fieldS (putW o.dst) (getS G x) off
      | _ => S
    | none => S
  | .indexAddr ty x i => match elemI I ty with
    | some e => match I e with
      | some j => fN S j.size fun sz => iaddrS S (putW o.dst) (getS G x) (getS G i) sz
      | none => S
    | none => S
  | .index ty x i => match undI I ty with
    | some .string => indexS S (putW o.dst) (getS G x) (getS G i)
    | _ => S
  | .extract x i => extrS (putW o.dst) (getS G x) i
  | .store ty x y => match I ty with
    | some i => match Nat.beq 1 i.size with
      | true => storeS S (putW o.dst) (getS G x) (getS G y)
      | false => fN S i.size fun sz => storesS S (putW o.dst) (getS G x) (getS G y) sz
    | none => S
  | .call c => match c.callee with
    | .value f => match f with
      | .func f => callS1 (putW o.dst) (getsS G c.args.toList) f
      | _ => S
    | .builtin b => match b with
      | .len => match c.args.toList with
        | [x] => match c.argTypes[0]? with
          | some ty => match undI I ty with
            | some .string => lenTS S (putW o.dst) (getS G x)
            | some (.slice _) => lenLS S (putW o.dst) (getS G x)
            | _ => S
          | none => S
        | _ => S
      | .append => match c.args.toList with
        | [x, y] => match c.argTypes.toList with
          | [tx, ty] => match elemI I tx with
            | some e => match I e with
              | some i => match appOk P e i.size with
                | true => match undI I ty with
                  | some (.slice _) => fN S i.size fun sz => appO P e false sz (putW o.dst) (getS G x) (getS G y)
                  | some .string => fN S i.size fun sz => appO P e true sz (putW o.dst) (getS G x) (getS G y)
                  | _ => S
                | false => S
              | none => S
            | none => S
          | _ => S
        | _ => S
      | _ => S
    | _ => S
  | _ => S
/-- under a guard -/
def guardS (X : Bx (GetV D)) (want : Bool) (W : Bx (VK D)) (B : Bx (OpF D)) : Bx (OpF D) := match want with
  | true => X.opened fun X => W.opened fun W => B.opened fun B => .mk fun c t h n k => X t ((fun c t h n k v => v (B c t h n k) (W c t h n k vUndef) fI fS fS fL fA ((fun c t h n k cv => undB cv (W c t h n k vUndef)) c t h n k)) c t h n k)
  | false => X.opened fun X => W.opened fun W => B.opened fun B => .mk fun c t h n k => X t ((fun c t h n k v => v (W c t h n k vUndef) (B c t h n k) fI fS fS fL fA ((fun c t h n k cv => undB cv (W c t h n k vUndef)) c t h n k)) c t h n k)
def opS (I : TypeId → Option TypeInfo) : Bx (OpF D) := match o.guard with
  | none => specS P G o I (slowS P G rd ops o)
  | some (j, want) => match ops[j]? with
    | some oj => match oj.dst with
      | some d => guardS (gT D d) want (putW o.dst) (specS P G ⟨o.dst, o.op, o.type, o.pos, o.after, none⟩ I (slowS P G rd ops ⟨o.dst, o.op, o.type, o.pos, o.after, none⟩))
      | none => slowS P G rd ops o
    | none => slowS P G rd ops o
end

/-! Regions -/
section
variable {D : Nat} (P : Program) (I : TypeId → Option TypeInfo) (G : Nat → Bool) (rd : Bool) (ops : Array Oper)
def nilO : Bx (OpF D) := .mk fun c t h n k => k c t h n
def seqO (A B : Bx (OpF D)) : Bx (OpF D) := A.opened fun A => B.opened fun B => .mk fun c t h n k => A c t h n ((fun k c t h n => B c t h n k) k)
def opsS (l : List Oper) : Bx (OpF D) := lrec nilO (fun o _ ih => seqO (opS P G rd ops o I) ih) l
abbrev AgF (D : Nat) := Cx D → TmS D → HS D → Nat → Res → Res
def slowA (j : Nat) : Bx (AgF D) := .mk fun c t h n k => Cx.rec (motive := fun _ => Res) (fun _ _ tab => bIf (againCR (scott D) P G ops t ⟨h, n, tab⟩ j).val k .bad) c
def eqV (v w : V) (k : Res) : Res := v (w k .bad fI fS fS fL fA fO) (w .bad k fI fS fS fL fA fO)
  ((fun w k kd a => w .bad .bad ((fun k kd a kd' b => bIf (Nat.beq (ikN kd) (ikN kd')) (bIf (Nat.beq a b) k .bad) .bad) k kd a) fS fS fL fA fO) w k)
  ((fun w k l x => w .bad .bad fI ((fun k l x l' x' => bIf (Nat.beq l l') (bIf (Nat.beq x x') k .bad) .bad) k l x) fS fL fA fO) w k)
  ((fun w k l x => w .bad .bad fI fS ((fun k l x l' x' => bIf (Nat.beq l l') (bIf (Nat.beq x x') k .bad) .bad) k l x) fL fA fO) w k)
  ((fun v w k _ _ _ _ => decV v fun v => decV w fun w => bIf (cvBeq v w) k .bad) v w k) ((fun v w k _ => decV v fun v => decV w fun w => bIf (cvBeq v w) k .bad) v w k) ((fun v w k _ => decV v fun v => decV w fun w => bIf (cvBeq v w) k .bad) v w k)
def loadA (d : Nat) (X : Bx (GetV D)) : Bx (AgF D) := (gT D d).opened fun Y => X.opened fun X => .mk fun _ t h _ k => Y t ((fun t h k v => X t ((fun h k v p => p .bad .bad fI fS
  ((fun h k v b i => (gH D b).go h ((fun k v i bs => bs ((fun k v i _ _ _ _ cs => (gT D i).go cs ((fun k v w => eqV v w k) k v)) k v i) fC) k v i)) h k v) fL fA fO) h k v)) t h k)
def againS (j : Nat) : Bx (AgF D) := match ops[j]? with
  | some o => match o.guard with
    | none => match o.dst with
      | some d => match o.op with
        | .load ty x => match aggI I ty with
          | some false => loadA d (getS G x)
          | _ => slowA P G ops j
        | _ => slowA P G ops j
      | none => slowA P G ops j
    | some _ => slowA P G ops j
  | none => slowA P G ops j
def agK (A : Bx (AgF D)) (R : Bx (OpF D)) : Bx (OpF D) := A.opened fun A => R.opened fun R => .mk fun c t h n k => A c t h n (R c t h n k)
def againsS (js : List Nat) (R : Bx (OpF D)) : Bx (OpF D) := lrec R (fun j _ ih => agK (againS P I G ops j) ih) js
def planS (l : List PS) : Bx (OpF D) := lrec nilO (fun s _ ih => match s with
  | .fl i => match ops[i]? with
    | some o => seqO (opS P G rd ops o I) ih
    | none => .mk fun _ _ _ _ _ => .bad
  | .ch i again => match ops[i]? with
    | some o => seqO (opS P G rd ops o I) (againsS P I G ops again ih)
    | none => .mk fun _ _ _ _ _ => .bad) l
end

/-! Code -/
section
variable {D : Nat}
abbrev KXF (D : Nat) := CX → Cx D → TmS D → HS D → Nat → Res
abbrev CodeF (D : Nat) := Cx D → TmS D → HS D → Nat → KXF D → Res
def regS (R : Bx (OpF D)) : Bx (CodeF D) := R.opened fun R => .mk fun c t h n k => R c t h n (k .normal)
def seqK (B : Bx (CodeF D)) (k : KXF D) (x : CX) : Cx D → TmS D → HS D → Nat → Res :=
  CX.rec (motive := fun _ => KXF D → Cx D → TmS D → HS D → Nat → Res) (fun k c t h n => B.go c t h n k) (fun id k => k (.exit id)) (fun k => k .ret) x k
def seqC (A B : Bx (CodeF D)) : Bx (CodeF D) := A.opened fun A => .mk fun c t h n k => A c t h n (seqK B k)
def condC (X : Bx (GetV D)) (A B : Bx (CodeF D)) : Bx (CodeF D) := X.opened fun X => .mk fun c t h n k => X t ((fun c t h n k v => v (A.go c t h n k) (B.go c t h n k) fI fS fS fL fA fO) c t h n k)
def blockK (id : Nat) (k : KXF D) (x : CX) : Cx D → TmS D → HS D → Nat → Res :=
  CX.rec (motive := fun _ => KXF D → Cx D → TmS D → HS D → Nat → Res) (fun k => k .normal) (fun j k => Bool.rec (motive := fun _ => Cx D → TmS D → HS D → Nat → Res) (k (.exit j)) (k .normal) (Nat.beq j id)) (fun k => k .ret) x k
def blockC (id : Nat) (A : Bx (CodeF D)) : Bx (CodeF D) := A.opened fun A => .mk fun c t h n k => A c t h n (blockK id k)
def loopF (A : Bx (CodeF D)) (fuel : Nat) : CodeF D := Nat.rec (motive := fun _ => CodeF D) (fun _ _ _ _ _ => .bad)
  (fun _ ih c t h n k => A.go c t h n ((fun (ih : CodeF D) k x => CX.rec (motive := fun _ => CodeF D → KXF D → Cx D → TmS D → HS D → Nat → Res) (fun ih k c t h n => ih c t h n k) (fun id _ k => k (.exit id)) (fun _ k => k .ret) x ih k) ih k)) fuel
def chkD (P : Program) (ops : Array Oper) (chk : Bool) : Bool := match chk with | true => drawOk P ops | false => true
def rngS (P : Program) (G : Nat → Bool) (fn : FuncId) (rd : Bool) (f : Operand) (ps : Array Tmp) (a b : Code) : Bx (CodeF D) := match rd with
  | true => .mk fun _ _ _ _ _ => .bad
  | false => .mk fun c t h n k => Cx.rec (motive := fun _ => TmS D → HS D → Nat → KXF D → Res)
    (fun call d tab t h n k => rangeR (scott D) P G fn (unS call) f ps a b t d ⟨h, n, tab⟩ fun x t d m => mM m fun tab h n => k x (.mk call d tab) t h n) c t h n k
def codeS (P : Program) (I : TypeId → Option TypeInfo) (G : Nat → Bool) (fn : FuncId) (rd chk : Bool) (fuel : Nat) (c : Code) : Bx (CodeF D) :=
  Code.rec (motive := fun _ => Bx (CodeF D))
    (regS nilO)
    (fun _ ops draw => match draw with
      | false => regS (opsS P I G rd ops ops.toList)
      | true => match chkD P ops chk with | true => regS (planS P I G rd ops (planOf P ops)) | false => .mk fun _ _ _ _ _ => .bad)
    (fun _ _ a b => seqC a b)
    (fun x _ _ a b => condC (getS G x) a b)
    (fun id _ a => blockC id a)
    (fun _ a => .mk (loopF a fuel))
    (fun f ps a b _ _ => rngS P G fn rd f ps a b)
    (fun id => .mk fun c t h n k => k (.exit id) c t h n)
    (fun _ _ => .mk fun _ _ _ _ _ => .bad)
    (fun _ => .mk fun c t h n k => k .normal c t h n)
    (fun _ => .mk fun _ _ _ _ _ => .bad)
    (.mk fun c t h n k => k .ret c t h n)
    (fun _ => .mk fun _ _ _ _ _ => .bad) c

def extCR (name : String) (args : List CV) (k : CV → Res) : Res :=
  match name == "internal/bytealg.IndexByteString" with
  | true => match args with
    | [.str l c, .int .u8 (.ofNat b)] => isTrueR (Nat.blt b 256) (forceIR (idxByte b (decBytes l c) 0) fun r => k (.int .i64 r))
    | _ => .bad
  | false => match name == "internal/abi.NoEscape" with
    | true => match args with
      | [v] => k v
      | _ => .bad
    | false => .bad
/-! Calls -/
abbrev RetF (D : Nat) := TmS D → HS D → Nat → Tab → (V → Res) → Res
def resS (P : Program) (rs : List ResultVar) : Bx (RetF D) := match rs with
  | [.tmp i] => (gT D i).opened fun X => .mk fun t _ _ _ k => X t k
  | rs => .mk fun t h n tab k => resultsCR (scott D) P rs t ⟨h, n, tab⟩ fun vs => match vs with | [v] => k (encV v) | vs => k (vOth (.tup vs))
abbrev FnF (D : Nat) := CallS D → List V → Tab → HS D → Nat → (V → Tab → HS D → Nat → Res) → Res
def leaveC (R : Bx (RetF D)) (k : V → Tab → HS D → Nat → Res) (c : Cx D) (t : TmS D) (h : HS D) (n : Nat) : Res := Cx.rec (motive := fun _ => (V → Tab → HS D → Nat → Res) → TmS D → HS D → Nat → Res)
  (fun call d tab k t h n => List.rec (motive := fun _ => CallS D → Tab → (V → Tab → HS D → Nat → Res) → TmS D → HS D → Nat → Res)
    (fun _ tab k t h n => R.go t h n tab ((fun k tab h n v => k v tab h n) k tab h n))
    (fun x d _ call tab k t h n => defersCR (scott D) (unS call) (x :: d) ⟨h, n, tab⟩ fun m => mM m fun tab h n => R.go t h n tab fun v => k v tab h n) d call tab k t h n) c k t h n
def leaveK (R : Bx (RetF D)) (k : V → Tab → HS D → Nat → Res) (x : CX) : Cx D → TmS D → HS D → Nat → Res :=
  CX.rec (motive := fun _ => (V → Tab → HS D → Nat → Res) → Cx D → TmS D → HS D → Nat → Res) (leaveC R) (fun _ _ _ _ _ _ => .bad) (leaveC R) x k
def setArgsS (as : List V) : Nat → TmS D → (TmS D → Res) → Res := List.rec (motive := fun _ => Nat → TmS D → (TmS D → Res) → Res) (fun _ t k => k t)
  (fun a _ ih i t k => (pT D i).go t a ((fun (ih : Nat → TmS D → (TmS D → Res) → Res) i k t => fN .bad (Nat.succ i) ((fun (ih : Nat → TmS D → (TmS D → Res) → Res) k t i => ih i t k) ih k t)) ih i k)) as
def blankS (n : Nat) : Bx (TmS D) := ofListB D (List.replicate n undefC)
def fnS (P : Program) (I : TypeId → Option TypeInfo) (F : FuncId → Option Func) (G : Nat → Bool) (Dr : FuncId → Bool) (fuel : Nat) (f : FuncId) : Bx (FnF D) := match F f with
  | some fn => match fn.body with
    | some c => (blankS fn.ntmps).opened fun B => .mk fun call args tab h n k => setArgsS args 0 B ((fun call tab h n k t => (codeS P I G f false (!Dr f) fuel c).go (.mk call [] tab) t h n (leaveK (resS P fn.results.toList) k)) call tab h n k)
    | none => .mk fun _ args tab h n k => decVs args fun args => extCR fn.name args fun v => k (encV v) tab h n
  | none => .mk fun _ _ _ _ _ _ => .bad
def yldF (P : Program) (I : TypeId → Option TypeInfo) (G : Nat → Bool) (fuel : Nat) (call : CallS D) (l : Nat) (args : List V) (tab : Tab) (h : HS D) (n : Nat) (k : V → Tab → HS D → Nat → Res) : Res :=
  decVs args fun args => yieldR (scott D) (fun fn c t d m k => (codeS P I G fn true true fuel c).go (.mk call d m.tab) t m.h m.n fun x c t h n => Cx.rec (motive := fun _ => Res) (fun _ d tab => k x t d ⟨h, n, tab⟩) c) l args ⟨h, n, tab⟩ fun v m => k (encV v) m.tab m.h m.n
def stepS (P : Program) (I : TypeId → Option TypeInfo) (F : FuncId → Option Func) (G : Nat → Bool) (Dr : FuncId → Bool) (fuel : Nat) (call : CallS D) : CallS D := fun f args tab h n k =>
  Fn.rec (motive := fun _ => CallS D → List V → Tab → HS D → Nat → (V → Tab → HS D → Nat → Res) → Res) (fun g call args tab h n k => (fnS P I F G Dr fuel g).go call args tab h n k) (fun _ _ _ _ _ _ _ => .bad)
    (fun _ _ _ _ _ _ _ _ => .bad) (fun _ _ _ _ _ _ _ _ _ _ => .bad) (fun l call args tab h n k => yldF P I G fuel call l args tab h n k) f call args tab h n k
def callS (P : Program) (I : TypeId → Option TypeInfo) (F : FuncId → Option Func) (G : Nat → Bool) (Dr : FuncId → Bool) (fuel depth : Nat) : CallS D :=
  Nat.rec (motive := fun _ => CallS D) (fun _ _ _ _ _ _ => .bad) (fun _ call => stepS P I F G Dr fuel call) depth
end
end
end Go.Ev

namespace Go.Ev
section
variable {D : Nat} {P : Program} {G : Nat → Bool} {rd : Bool} {ops : Array Oper}
noncomputable def specO (P : Program) (G : Nat → Bool) (o : Oper) (S : Bx (OpF D)) : Bx (OpF D) := match o.op with
  | .move x => valS (putW o.dst) (getS G x)
  | .assign x => valS (putW o.dst) (getS G x)
  | .pick c a b => pickS (putW o.dst) (getS G c) (getS G a) (getS G b)
  | .alloc e => match zeroOf P e with
    | some z => match z.all zeroish with
      | true => fN S z.length fun l => fN S (e + 1) fun te => allocS (putW o.dst) te l (ofListB D z)
      | false => S
    | none => S
  | .load ty x => match aggT P ty with
    | some true => match P.info? ty with
      | some i => fN S i.size fun sz => loadsS (putW o.dst) (getS G x) sz
      | none => S
    | some false => loadS (putW o.dst) (getS G x)
    | none => S
  | .nilCheck x => nilcS S (putW o.dst) (getS G x)
  | .binOp op ty x y _ => match P.underlying ty with
    | some (.int _) => match natOp op with
      | some F => binNS S (putW o.dst) (getS G x) (getS G y) F
      | none => S
    | some .string => match strOpS op with
      | some F => binTS S (putW o.dst) (getS G x) (getS G y) F
      | none => S
    | some (.pointer _) => match op with
      | .eql => binPS S (putW o.dst) (getS G x) (getS G y) vTrue vFalse
      | .neq => binPS S (putW o.dst) (getS G x) (getS G y) vFalse vTrue
      | _ => S
    | _ => S
  | .unOp op _ x => match op with
    | .not => notS (putW o.dst) (getS G x)
    | _ => S
  | .convert s d x => match P.underlying s with
    | none => S
    | some _ => match P.underlying d with
      | some (.int kd) => convNS S (putW o.dst) (getS G x) kd
      | some .string => convTS S (putW o.dst) (getS G x)
      | _ => S
  | .box _ x => boxS (putW o.dst) (getS G x)
  | .buildSlice ty len parts => match elemOfSl P ty with
    | some e => match zeroOf P e with
      | some z => match P.info? e with
        | some i => match Nat.ble (len * z.length) 65536 && (Nat.beq z.length i.size && isRow parts.toList 0 len) with
          | true => fN S (len * z.length) fun tot => fN S len fun len => fN S i.size fun sz => rowsS G (putW o.dst) (parts.toList.map (·.2)) sz len tot
          | false => S
        | none => S
      | none => S
    | none => S
  | .build ty parts => match zeroOf P ty with
    | some z => match P.underlying ty with
      | some (.struct fields) => match fields.toList.all (fun f => (P.info? f.type).isSome) with
        | true => match layS (fun i => (fields[i]?).map fun f => (f.offset, P.cellsOf f.type)) parts.toList (z.map .cv) with
          | some l => aggF S (putW o.dst) (srcsS G l)
          | none => S
        | false => S
      | _ => S
    | none => S
  | .makeInterface ty x => match isIfc P ty with
    | true => S
    | false => ifcS (putW o.dst) (getS G x) ty
  | .fieldAddr s x f => match fieldOf P s f with
    | some fd => match P.info? fd.type with
      | some i => match Nat.beq i.size 0 with
        | true => S
        | false => fN S fd.offset fun off => faddrS (putW o.dst) (getS G x) off
      | none => S
    | none => S
  | .field s x f => match fieldOf P s f with
    | some fd => match aggT P fd.type with
      | some false => fN S fd.offset fun off => fieldS (putW o.dst) (getS G x) off
      | _ => S
    | none => S
  | .indexAddr ty x i => match elemOfSl P ty with
    | some e => match P.info? e with
      | some j => fN S j.size fun sz => iaddrS S (putW o.dst) (getS G x) (getS G i) sz
      | none => S
    | none => S
  | .index ty x i => match P.underlying ty with
    | some .string => indexS S (putW o.dst) (getS G x) (getS G i)
    | _ => S
  | .extract x i => extrS (putW o.dst) (getS G x) i
  | .store ty x y => match P.info? ty with
    | some i => match Nat.beq 1 i.size with
      | true => storeS S (putW o.dst) (getS G x) (getS G y)
      | false => fN S i.size fun sz => storesS S (putW o.dst) (getS G x) (getS G y) sz
    | none => S
  | .call c => match c.callee with
    | .value f => match f with
      | .func f => callS1 (putW o.dst) (getsS G c.args.toList) f
      | _ => S
    | .builtin b => match b with
      | .len => match c.args.toList with
        | [x] => match c.argTypes[0]? with
          | some ty => match P.underlying ty with
            | some .string => lenTS S (putW o.dst) (getS G x)
            | some (.slice _) => lenLS S (putW o.dst) (getS G x)
            | _ => S
          | none => S
        | _ => S
      | .append => match c.args.toList with
        | [x, y] => match c.argTypes.toList with
          | [tx, ty] => match elemOfSl P tx with
            | some e => match P.info? e with
              | some i => match appOk P e i.size with
                | true => match P.underlying ty with
                  | some (.slice _) => fN S i.size fun sz => appO P e false sz (putW o.dst) (getS G x) (getS G y)
                  | some .string => fN S i.size fun sz => appO P e true sz (putW o.dst) (getS G x) (getS G y)
                  | _ => S
                | false => S
              | none => S
            | none => S
          | _ => S
        | _ => S
      | _ => S
    | _ => S
  | _ => S
theorem spec_eq (P : Program) (G : Nat → Bool) (o : Oper) (S : Bx (OpF D)) : specS P G o P.info? S = specO P G o S := rfl
theorem spec_good {o : Oper} {S : Bx (OpF D)} (hg : o.guard = none) (hS : Good P G rd ops o S) : Good P G rd ops o (specS P G o P.info? S) := by
  rw [spec_eq]
  obtain ⟨dst, op, type, pos, after, guard⟩ := o
  simp only at hg
  subst hg
  unfold specO
  split
  case h_1 => rename_i h; simp only at h; subst h; exact move_good
  case h_2 => rename_i h; simp only at h; subst h; exact assign_good
  case h_3 => rename_i h; simp only at h; subst h; exact pick_good
  case h_4 =>
    rename_i h; simp only at h; subst h
    split
    · split
      · rw [fN_eq, fN_eq]; exact alloc_good (by assumption) (by assumption)
      · exact hS
    · exact hS
  case h_5 =>
    rename_i h; simp only at h; subst h
    split
    · split
      · rw [fN_eq]; exact loads_good (by assumption) (by assumption)
      · exact hS
    · exact load_good (by assumption)
    · exact hS
  case h_6 => rename_i h; simp only at h; subst h; exact nilc_good hS
  case h_7 =>
    rename_i h; simp only at h; subst h
    split
    · split
      · exact binN_good (by assumption) hS
      · exact hS
    · split
      · exact binT_good (by assumption) hS
      · exact hS
    · split
      · exact (binP_good (by assumption)).1 hS
      · exact (binP_good (by assumption)).2 hS
      · exact hS
    · exact hS
  case h_8 =>
    rename_i h; simp only at h; subst h
    split
    · exact not_good
    · exact hS
  case h_9 =>
    rename_i h; simp only at h; subst h
    split
    · exact hS
    · split
      · exact convN_good (by assumption) (by assumption) hS
      · exact convT_good (by assumption) (by assumption) hS
      · exact hS
  case h_10 => rename_i h; simp only at h; subst h; exact box_good
  case h_11 =>
    rename_i h; simp only at h; subst h
    split
    · split
      · split
        · split
          · rw [fN_eq, fN_eq, fN_eq]; exact rows_good (by assumption) (by assumption) (by assumption) (by assumption)
          · exact hS
        · exact hS
      · exact hS
    · exact hS
  case h_12 =>
    rename_i h; simp only at h; subst h
    split
    · split
      · split
        · split
          · exact agg_good (by assumption) (by assumption) (by assumption) (by assumption) hS
          · exact hS
        · exact hS
      · exact hS
    · exact hS
  case h_13 =>
    rename_i h; simp only at h; subst h
    split
    · exact hS
    · exact ifc_good (by assumption)
  case h_14 =>
    rename_i h; simp only at h; subst h
    split
    · split
      · split
        · exact hS
        · rw [fN_eq]; exact faddr_good (by assumption) (by assumption) (by assumption)
      · exact hS
    · exact hS
  case h_15 =>
    rename_i h; simp only at h; subst h
    split
    · split
      · rw [fN_eq]; exact field_good (by assumption) (by assumption)
      · exact hS
    · exact hS
  case h_16 =>
    rename_i h; simp only at h; subst h
    split
    · split
      · rw [fN_eq]; exact iaddr_good (by assumption) (by assumption) hS
      · exact hS
    · exact hS
  case h_17 =>
    rename_i h; simp only at h; subst h
    split
    · exact index_good (by assumption) hS
    · exact hS
  case h_18 => rename_i h; simp only at h; subst h; exact extr_good
  case h_19 =>
    rename_i h; simp only at h; subst h
    split
    · split
      · exact store_good (by assumption) (by assumption) hS
      · rw [fN_eq]; exact stores_good (by assumption) hS
    · exact hS
  case h_20 =>
    rename_i h; simp only at h; subst h
    split
    · split
      · exact call_good (by assumption)
      · exact hS
    · split
      · split
        · split
          · split
            · exact lenT_good (by assumption) (by assumption) (by assumption) (by assumption) hS
            · exact lenL_good (by assumption) (by assumption) (by assumption) (by assumption) hS
            · exact hS
          · exact hS
        · exact hS
      · split
        · split
          · split
            · split
              · split
                · split
                  · rw [fN_eq]; exact app_good (by assumption) (by assumption) (by assumption) (by assumption) (by assumption) (by assumption) (.inl ⟨rfl, _, by assumption⟩)
                  · rw [fN_eq]; exact app_good (by assumption) (by assumption) (by assumption) (by assumption) (by assumption) (by assumption) (.inr ⟨rfl, by assumption⟩)
                  · exact hS
                · exact hS
              · exact hS
            · exact hS
          · exact hS
        · exact hS
      · exact hS
    · exact hS
  case h_21 => exact hS
end
end Go.Ev

namespace Go.Ev
section
variable {D : Nat} {P : Program} {G : Nat → Bool} {rd : Bool} {ops : Array Oper}
theorem val_undB (v : CV) (y : Res) : (undB v y).val = (match v with | .tup [] => y.val | _ => false) := by
  cases v <;> try rfl
  rename_i l; cases l <;> rfl
/-- what a guard says -/
def guardRes (want : Bool) (v : CV) (y n : Bool) : Bool := match v with
  | .bool b => match want with
    | true => (match b with | true => y | false => n)
    | false => (match b with | true => n | false => y)
  | .tup [] => n
  | _ => false
theorem guard_eq {cl : CallFn} {o : Oper} {j : Nat} {want : Bool} (hg : o.guard = some (j, want)) {oj : Oper} (hj : ops[j]? = some oj) {dd : Nat} (hd : oj.dst = some dd) {t : Tm} {d : List DF} {m : M} {K : Tm → List DF → M → Bool} :
    operC P G rd cl ops o t d m K = getK t dd fun v => guardRes want v (operC P G rd cl ops ⟨o.dst, o.op, o.type, o.pos, o.after, none⟩ t d m K) (putT o.dst undefC t fun t' => K t' d m) := by
  have e : ∀ o : Oper, operC P G rd cl ops o t d m K = guardC ops o t fun b => match b with
    | false => putT o.dst undefC t fun t' => K t' d m
    | true => operC P G rd cl ops ⟨o.dst, o.op, o.type, o.pos, o.after, none⟩ t d m K := by
    intro o
    unfold operC
    rfl
  rw [e]
  unfold guardC
  simp only [hg, hj, hd]
  refine congrArg (getK t dd) (funext fun v => ?_)
  cases v <;> try rfl
theorem op_good (o : Oper) : Good (D := D) P G rd ops o (opS P G rd ops o P.info?) := by
  unfold opS
  split
  · exact spec_good (by assumption) (slowS_good o)
  · rename_i j want hg
    split
    · rename_i oj hj
      split
      · rename_i dd hd
        intro cS cl hc d tab t h n k
        rw [guard_eq hg hj hd]
        have hB := spec_good (D := D) (P := P) (G := G) (rd := rd) (ops := ops) (o := ⟨o.dst, o.op, o.type, o.pos, o.after, none⟩) rfl (slowS_good _) cS cl hc d tab t h n k
        have hW : ((putW o.dst).go (.mk cS d tab) (encM D t) (encH D h) n k vUndef).val = putT o.dst undefC t fun t' => onS cS k t' d ⟨h, n, tab⟩ := putW_eq o.dst _ t _ n k (.tup [])
        cases want
        · simp only [guardS, opened_eq, go_mk, gT_eq, getKR_val, val_enc, val_undB]
          refine congrArg (getK t dd) (funext fun v => ?_)
          rw [hB, hW]
          cases v <;> try rfl
          · rename_i b
            cases b <;> rfl
          · rename_i kd a
            cases a <;> rfl
          · rename_i l
            cases l <;> rfl
        · simp only [guardS, opened_eq, go_mk, gT_eq, getKR_val, val_enc, val_undB]
          refine congrArg (getK t dd) (funext fun v => ?_)
          rw [hB, hW]
          cases v <;> try rfl
          · rename_i b
            cases b <;> rfl
          · rename_i kd a
            cases a <;> rfl
          · rename_i l
            cases l <;> rfl
      · exact slowS_good o
    · exact slowS_good o

/-! Regions -/
variable {cS : CallS D} {cl : CallFn}
theorem seqO_go (A B : Bx (OpF D)) (c : Cx D) (t : TmS D) (h : HS D) (n : Nat) (k : KO D) : (seqO A B).go c t h n k = A.go c t h n fun c t h n => B.go c t h n k := by
  simp only [seqO, opened_eq, go_mk]
theorem ops_good (hc : CallOK cS cl) (l : List Oper) : ∀ (d : List DF) (tab : Tab) (t : Tm) (h : Hp) (n : Nat) (k : KO D),
    ((opsS P P.info? G rd ops l).go (.mk cS d tab) (encM D t) (encH D h) n k).val = opsC P G rd cl ops l t d ⟨h, n, tab⟩ (onS cS k) := by
  induction l with
  | nil => intros; rfl
  | cons o l ih =>
    intro d tab t h n k
    have e : opsS (D := D) P P.info? G rd ops (o :: l) = seqO (opS P G rd ops o P.info?) (opsS P P.info? G rd ops l) := rfl
    rw [e, seqO_go, op_good o cS cl hc]
    show operC P G rd cl ops o t d ⟨h, n, tab⟩ _ = operC P G rd cl ops o t d ⟨h, n, tab⟩ fun t d m => opsC P G rd cl ops l t d m (onS cS k)
    congr 1
    funext t d m
    exact ih d m.tab t m.h m.n k
theorem eqV_eq (v w : CV) (k : Res) : eqV (encV v) (encV w) k = bIf (cvBeq v w) k .bad := by
  have hd : (decV (encV v) fun v => decV (encV w) fun w => bIf (cvBeq v w) k .bad) = bIf (cvBeq v w) k .bad := by simp only [decV_enc]
  cases v
  case bool b => cases b <;> cases w <;> first | rfl | (rename_i b; cases b <;> rfl) | (rename_i kd a; cases a <;> rfl)
  case int kd a =>
    cases a
    · cases w
      case bool b => cases b <;> rfl
      case int kd' b =>
        cases b
        · rename_i a b
          show bIf (Nat.beq (ikN kd) (ikN kd')) (bIf (Nat.beq a b) k .bad) .bad = bIf (decide (kd = kd') && Nat.beq a b) k .bad
          rw [ikN_inj]
          cases decide (kd = kd') <;> cases Nat.beq a b <;> rfl
        · show Res.bad = bIf (decide (kd = kd') && false) k .bad
          rw [Bool.and_false]; rfl
      all_goals rfl
    · exact hd
  case str l x =>
    cases w
    case bool b => cases b <;> rfl
    case int kd' b => cases b <;> rfl
    case str l' x' =>
      show bIf (Nat.beq l l') (bIf (Nat.beq x x') k .bad) .bad = bIf (Nat.beq l l' && Nat.beq x x') k .bad
      cases Nat.beq l l' <;> cases Nat.beq x x' <;> rfl
    all_goals rfl
  case ptr l x =>
    cases w
    case bool b => cases b <;> rfl
    case int kd' b => cases b <;> rfl
    case ptr l' x' =>
      show bIf (Nat.beq l l') (bIf (Nat.beq x x') k .bad) .bad = bIf (Nat.beq l l' && Nat.beq x x') k .bad
      cases Nat.beq l l' <;> cases Nat.beq x x' <;> rfl
    all_goals rfl
  all_goals exact hd
theorem slowA_good (j : Nat) (d : List DF) (tab : Tab) (t : Tm) (h : Hp) (n : Nat) (k : Res) : ((slowA P G ops j).go (.mk cS d tab) (encM D t) (encH D h) n k).val = isTrue (againC P G ops t ⟨h, n, tab⟩ j) k.val := by
  show (bIf (againCR (scott D) P G ops (encM D t) (eM (encH D) ⟨h, n, tab⟩) j).val k .bad).val = _
  rw [againCR_val (law D), val_bIf]
  cases againC P G ops t ⟨h, n, tab⟩ j <;> rfl
theorem again_good (j : Nat) (d : List DF) (tab : Tab) (t : Tm) (h : Hp) (n : Nat) (k : Res) : ((againS P P.info? G ops j).go (.mk cS d tab) (encM D t) (encH D h) n k).val = isTrue (againC P G ops t ⟨h, n, tab⟩ j) k.val := by
  unfold againS
  split
  · rename_i o ho
    split
    · rename_i hg
      split
      · rename_i dd hd
        split
        · rename_i ty x hop
          split
          · rename_i ha
            have ha : aggT P ty = some false := ha
            obtain ⟨dst, op, type, pos, after, guard⟩ := o
            simp only at hg hd hop
            subst hg; subst hd; subst hop
            have e : againC P G ops t ⟨h, n, tab⟩ j = getK t dd fun v => getO G x t fun p => asPtr p fun b off => loadC P ty b off h fun v' => cvBeq v v' := by
              simp only [againC, ho, guardC, floatC]
            rw [e]
            simp only [loadA, opened_eq, go_mk, gT_eq, getKR_val, getS_eq, val_enc, gH_eq]
            rcases getK_or t dd with ⟨v, hv⟩ | hv <;> simp only [hv] <;> try rfl
            rcases getO_or G x t with ⟨p, hp⟩ | hp <;> simp only [hp] <;> try rfl
            cases p <;> try rfl
            · rename_i b; cases b <;> rfl
            · rename_i kd a; cases a <;> rfl
            rename_i b i
            simp only [encV_ptr, asPtr, loadC, withCells, ha]
            rcases getK_or h b with ⟨cb, hcb⟩ | hcb <;> simp only [hcb] <;> try rfl
            cases cb <;> try rfl
            rename_i te lo es sz cs
            show ((gT D i).go (encM D cs) (fun w => eqV (encV v) w k)).val = _
            rw [gT_eq, getKR_val]
            simp only [eqV_eq, val_bIf]
            rcases getK_or cs i with ⟨w, hw⟩ | hw <;> simp only [hw] <;> rfl
          · exact slowA_good j d tab t h n k
        · exact slowA_good j d tab t h n k
      · exact slowA_good j d tab t h n k
    · exact slowA_good j d tab t h n k
  · exact slowA_good j d tab t h n k
theorem agains_good (js : List Nat) (R : Bx (OpF D)) (d : List DF) (tab : Tab) (t : Tm) (h : Hp) (n : Nat) (k : KO D) :
    ((againsS P P.info? G ops js R).go (.mk cS d tab) (encM D t) (encH D h) n k).val = isTrue (js.all fun j => againC P G ops t ⟨h, n, tab⟩ j) (R.go (.mk cS d tab) (encM D t) (encH D h) n k).val := by
  induction js with
  | nil => rfl
  | cons j js ih =>
    have e : againsS (D := D) P P.info? G ops (j :: js) R = agK (againS P P.info? G ops j) (againsS P P.info? G ops js R) := rfl
    rw [e]
    simp only [agK, opened_eq, go_mk]
    rw [again_good, ih, List.all_cons]
    cases againC P G ops t ⟨h, n, tab⟩ j <;> cases (js.all fun j => againC P G ops t ⟨h, n, tab⟩ j) <;> rfl
theorem plan_good (hc : CallOK cS cl) (l : List PS) : ∀ (d : List DF) (tab : Tab) (t : Tm) (h : Hp) (n : Nat) (k : KO D),
    ((planS P P.info? G rd ops l).go (.mk cS d tab) (encM D t) (encH D h) n k).val = planC P G rd cl ops l t d ⟨h, n, tab⟩ (onS cS k) := by
  induction l with
  | nil => intros; rfl
  | cons s l ih =>
    intro d tab t h n k
    cases s with
    | fl i =>
      show (Bx.go (match ops[i]? with | some o => seqO (opS P G rd ops o P.info?) (planS P P.info? G rd ops l) | none => .mk fun _ _ _ _ _ => .bad) (.mk cS d tab) (encM D t) (encH D h) n k).val =
        (match ops[i]? with | some o => operC P G rd cl ops o t d ⟨h, n, tab⟩ fun t d m => planC P G rd cl ops l t d m (onS cS k) | none => false)
      split
      · rename_i o ho
        rw [seqO_go, op_good o cS cl hc]
        congr 1
        funext t d m
        exact ih d m.tab t m.h m.n k
      · rfl
    | ch i again =>
      show (Bx.go (match ops[i]? with | some o => seqO (opS P G rd ops o P.info?) (againsS P P.info? G ops again (planS P P.info? G rd ops l)) | none => .mk fun _ _ _ _ _ => .bad) (.mk cS d tab) (encM D t) (encH D h) n k).val =
        (match ops[i]? with | some o => operC P G rd cl ops o t d ⟨h, n, tab⟩ fun t d m => isTrue (again.all fun j => againC P G ops t m j) (planC P G rd cl ops l t d m (onS cS k)) | none => false)
      split
      · rename_i o ho
        rw [seqO_go, op_good o cS cl hc]
        congr 1
        funext t d m
        show ((againsS P P.info? G ops again (planS P P.info? G rd ops l)).go (.mk cS d m.tab) (encM D t) (encH D m.h) m.n k).val = _
        rw [agains_good, ih]
      · rfl

/-! Code -/
noncomputable def onXS (cS : CallS D) (k : KXF D) : KX := fun x t d m => (k x (.mk cS d m.tab) (encM D t) (encH D m.h) m.n).val
theorem loopF_eq {fuel : Nat} {A : Bx (CodeF D)} {body : EvCode}
    (hA : ∀ (d : List DF) (tab : Tab) (t : Tm) (h : Hp) (n : Nat) (k : KXF D), (A.go (.mk cS d tab) (encM D t) (encH D h) n k).val = body t d ⟨h, n, tab⟩ (onXS cS k)) :
    ∀ (d : List DF) (tab : Tab) (t : Tm) (h : Hp) (n : Nat) (k : KXF D), (loopF A fuel (.mk cS d tab) (encM D t) (encH D h) n k).val = loopC body fuel t d ⟨h, n, tab⟩ (onXS cS k) := by
  induction fuel with
  | zero => intros; rfl
  | succ fuel ih =>
    intro d tab t h n k
    show (A.go (.mk cS d tab) (encM D t) (encH D h) n (fun x => CX.rec (motive := fun _ => CodeF D → KXF D → Cx D → TmS D → HS D → Nat → Res) (fun ih k c t h n => ih c t h n k) (fun id _ k => k (.exit id)) (fun _ k => k .ret) x (loopF A fuel) k)).val =
      body t d ⟨h, n, tab⟩ fun x t d m => match x with
      | .normal => loopC body fuel t d m (onXS cS k)
      | .exit id => onXS cS k (.exit id) t d m
      | .ret => onXS cS k .ret t d m
    rw [hA]
    congr 1
    funext x t d m
    cases x with
    | normal => exact ih d m.tab t m.h m.n k
    | exit id => rfl
    | ret => rfl
/-- the drawn regions of a code -/
noncomputable def regsD (c : Code) : List (Array Oper) := Code.rec (motive := fun _ => List (Array Oper)) [] (fun _ ops d => match d with | true => [ops] | false => []) (fun _ _ a b => a ++ b) (fun _ _ _ a b => a ++ b) (fun _ _ a => a) (fun _ a => a)
  (fun _ _ _ _ _ _ => []) (fun _ => []) (fun _ _ => []) (fun _ => []) (fun _ => []) [] (fun _ => []) c
theorem code_good (hc : CallOK cS cl) (fn : FuncId) (chk : Bool) (fuel : Nat) (c : Code) (hD : chk = false → ∀ ops ∈ regsD c, drawOk P ops = true) : ∀ (d : List DF) (tab : Tab) (t : Tm) (h : Hp) (n : Nat) (k : KXF D),
    ((codeS P P.info? G fn rd chk fuel c).go (.mk cS d tab) (encM D t) (encH D h) n k).val = codeC P G fn rd cl fuel c t d ⟨h, n, tab⟩ (onXS cS k) := by
  induction c with
  | skip =>
    intro d tab t h n k
    show ((regS nilO).go (.mk cS d tab) (encM D t) (encH D h) n k).val = _
    simp only [regS, nilO, opened_eq, go_mk]
    all_goals rfl
  | region id ops draw =>
    intro d tab t h n k
    cases draw with
    | false =>
      show ((regS (opsS P P.info? G rd ops ops.toList)).go (.mk cS d tab) (encM D t) (encH D h) n k).val = opsC P G rd cl ops ops.toList t d ⟨h, n, tab⟩ fun t d m => onXS cS k .normal t d m
      simp only [regS, opened_eq, go_mk]
      rw [ops_good hc]; rfl
    | true =>
      show ((match chkD P ops chk with | true => regS (planS P P.info? G rd ops (planOf P ops)) | false => (.mk fun _ _ _ _ _ => .bad) : Bx (CodeF D)).go (.mk cS d tab) (encM D t) (encH D h) n k).val =
        isTrue (drawOk P ops) (planC P G rd cl ops (planOf P ops) t d ⟨h, n, tab⟩ fun t d m => onXS cS k .normal t d m)
      have hc' : chkD P ops chk = drawOk P ops := by
        cases chk with
        | true => rfl
        | false => exact (hD rfl ops (List.mem_singleton.2 rfl)).symm
      rw [hc']
      cases drawOk P ops with
      | false => rfl
      | true =>
        simp only [regS, opened_eq, go_mk]
        rw [plan_good hc]; rfl
  | seq a b iha ihb =>
    have iha := iha fun hc ops ho => hD hc ops (List.mem_append_left _ ho)
    have ihb := ihb fun hc ops ho => hD hc ops (List.mem_append_right _ ho)
    intro d tab t h n k
    show ((seqC (codeS P P.info? G fn rd chk fuel a) (codeS P P.info? G fn rd chk fuel b)).go (.mk cS d tab) (encM D t) (encH D h) n k).val = codeC P G fn rd cl fuel a t d ⟨h, n, tab⟩ fun x t d m => match x with
      | .normal => codeC P G fn rd cl fuel b t d m (onXS cS k)
      | .exit id => onXS cS k (.exit id) t d m
      | .ret => onXS cS k .ret t d m
    simp only [seqC, opened_eq, go_mk]
    rw [iha]
    congr 1
    funext x t d m
    cases x with
    | normal => exact ihb d m.tab t m.h m.n k
    | exit id => rfl
    | ret => rfl
  | cond x a b iha ihb =>
    have iha := iha fun hc ops ho => hD hc ops (List.mem_append_left _ ho)
    have ihb := ihb fun hc ops ho => hD hc ops (List.mem_append_right _ ho)
    intro d tab t h n k
    show ((condC (getS G x) (codeS P P.info? G fn rd chk fuel a) (codeS P P.info? G fn rd chk fuel b)).go (.mk cS d tab) (encM D t) (encH D h) n k).val =
      getO G x t fun v => asBool v fun b' => match b' with | true => codeC P G fn rd cl fuel a t d ⟨h, n, tab⟩ (onXS cS k) | false => codeC P G fn rd cl fuel b t d ⟨h, n, tab⟩ (onXS cS k)
    simp only [condC, opened_eq, go_mk, getS_eq, val_enc, iha, ihb]
    refine congrArg (getO G x t) (funext fun v => ?_)
    cases v <;> try rfl
    · rename_i b; cases b <;> rfl
    · rename_i kd a; cases a <;> rfl
  | block id a iha =>
    have iha := iha fun hc ops ho => hD hc ops ho
    intro d tab t h n k
    show ((blockC id (codeS P P.info? G fn rd chk fuel a)).go (.mk cS d tab) (encM D t) (encH D h) n k).val = codeC P G fn rd cl fuel a t d ⟨h, n, tab⟩ fun x t d m => match x with
      | .normal => onXS cS k .normal t d m
      | .exit j => match Nat.beq j id with | true => onXS cS k .normal t d m | false => onXS cS k (.exit j) t d m
      | .ret => onXS cS k .ret t d m
    simp only [blockC, opened_eq, go_mk]
    rw [iha]
    congr 1
    funext x t d m
    cases x with
    | normal => rfl
    | exit j =>
      show (blockK id k (.exit j) (.mk cS d m.tab) (encM D t) (encH D m.h) m.n).val = _
      simp only [blockK]
      cases Nat.beq j id <;> rfl
    | ret => rfl
  | loop a iha =>
    have iha := iha fun hc ops ho => hD hc ops ho
    intro d tab t h n k
    exact loopF_eq (fun d tab t h n k => iha d tab t h n k) d tab t h n k
  | rangeFunc f ps a b _ _ =>
    intro d tab t h n k
    cases rd with
    | true => rfl
    | false =>
      show (rangeR (scott D) P G fn (unS cS) f ps a b (encM D t) d (eM (encH D) ⟨h, n, tab⟩) (fun x t d m => mM m fun tab h n => k x (.mk cS d tab) t h n)).val = _
      rw [rangeR_val (law D) fn hc.eq]
      refine congrArg _ (funext fun x => funext fun t => funext fun d => funext fun m => ?_)
      exact congrArg Res.val (mM_enc m.h m.n m.tab _)
  | exit id => intros; rfl
  | scope a _ => intros; rfl
  | label l => intros; rfl
  | goto l => intros; rfl
  | ret => intros; rfl
  | refuse w => intros; rfl
end
end Go.Ev

namespace Go.Ev
section
variable {D : Nat} {P : Program} {G : Nat → Bool} {cS : CallS D} {cl : CallFn}
/-- what is known of the drawn regions -/
def DrawFact (P : Program) (Dr : FuncId → Bool) : Prop := ∀ (f : FuncId) (fn : Func) (c : Code), P.funcs[f]? = some fn → fn.body = some c → Dr f = true → ∀ ops ∈ regsD c, drawOk P ops = true
theorem setArgsS_eq (as : List CV) : ∀ (i : Nat) (t : Tm) (k : TmS D → Res), (setArgsS (encVs as) i (encM D t) k).val = setArgs as i t fun t => (k (encM D t)).val := by
  induction as with
  | nil => intros; rfl
  | cons a as ih =>
    intro i t k
    show ((pT D i).go (encM D t) (encV a) (fun t => fN .bad (Nat.succ i) fun i => setArgsS (encVs as) i t k)).val = setK a t i fun t' => setArgs as (Nat.succ i) t' fun t => (k (encM D t)).val
    rw [pT_eq, setKR_val]
    simp only [fN_eq, ih]
theorem res_good (rs : List ResultVar) (t : Tm) (h : Hp) (n : Nat) (tab : Tab) (k : V → Res) : ((resS (D := D) P rs).go (encM D t) (encH D h) n tab k).val = resultsC P rs t ⟨h, n, tab⟩ fun vs => match vs with | [v] => (k (encV v)).val | vs => (k (encV (.tup vs))).val := by
  unfold resS
  split
  · simp only [opened_eq, go_mk, gT_eq, getKR_val]
    all_goals rfl
  · show (resultsCR (scott D) P rs (encM D t) (eM (encH D) ⟨h, n, tab⟩) _).val = _
    rw [resultsCR_val (law D)]
    congr 1
    funext vs
    match vs with
    | [] => rfl
    | [v] => rfl
    | _ :: _ :: _ => rfl
theorem leave_good (hc : CallOK cS cl) (rs : List ResultVar) (k : V → Tab → HS D → Nat → Res) (d : List DF) (tab : Tab) (t : Tm) (h : Hp) (n : Nat) :
    (leaveC (resS P rs) k (.mk cS d tab) (encM D t) (encH D h) n).val = defersC cl d ⟨h, n, tab⟩ fun m => resultsC P rs t m fun vs => match vs with
      | [v] => (k (encV v) m.tab (encH D m.h) m.n).val
      | vs => (k (encV (.tup vs)) m.tab (encH D m.h) m.n).val := by
  cases d with
  | nil => exact res_good rs t h n tab fun v => k v tab (encH D h) n
  | cons x d =>
    show (defersCR (scott D) (unS cS) (x :: d) (eM (encH D) ⟨h, n, tab⟩) (fun m => mM m fun tab h n => (resS P rs).go (encM D t) h n tab fun v => k v tab h n)).val = _
    rw [defersCR_val (law D) hc.eq]
    congr 1
    funext m
    refine (congrArg Res.val (mM_enc m.h m.n m.tab _)).trans ?_
    exact res_good rs t m.h m.n m.tab fun v => k v m.tab (encH D m.h) m.n
theorem extCR_val (name : String) (args : List CV) (m : M) (k : CV → Res) : (extCR name args k).val = extC name args m fun v _ => (k v).val := by
  unfold extCR extC
  cases name == "internal/bytealg.IndexByteString" with
  | true =>
    simp only []
    split
    · simp only [isTrueR_val, forceIR_val]
    · rename_i hno
      split
      · exact absurd rfl (hno _ _ _)
      · rfl
  | false =>
    simp only []
    cases name == "internal/abi.NoEscape" with
    | false => rfl
    | true => match args with
      | [] => rfl
      | [_] => rfl
      | _ :: _ :: _ => rfl
theorem extC_m (name : String) (args : List CV) (m : M) (K : CV → M → Bool) : extC name args m K = extC name args m fun v _ => K v m := by
  unfold extC
  rfl
theorem blank_all (n : Nat) : (List.replicate n undefC).all zeroish = true := by
  rw [List.all_eq_true]
  intro x hx
  rw [(List.mem_replicate.1 hx).2]
  rfl
theorem fn_good {Dr : FuncId → Bool} (hD : DrawFact P Dr) (hc : CallOK cS cl) (fuel : Nat) (f : FuncId) (args : List CV) (tab : Tab) (h : Hp) (n : Nat) (k : V → Tab → HS D → Nat → Res) :
    ((fnS P P.info? (fun f => P.funcs[f]?) G Dr fuel f).go cS (encVs args) tab (encH D h) n k).val = callStep P G fuel cl (.func f) args ⟨h, n, tab⟩ fun v m => (k (encV v) m.tab (encH D m.h) m.n).val := by
  have e : callStep P G fuel cl (.func f) args ⟨h, n, tab⟩ (fun v m => (k (encV v) m.tab (encH D m.h) m.n).val) = (match P.funcs[f]? with
      | some fn => match fn.body with
        | some c => setArgs args 0 (blank fn.ntmps) fun t => codeC P G f false cl fuel c t [] ⟨h, n, tab⟩ fun x t d m => match x with
          | .exit _ => false
          | _ => defersC cl d m fun m => resultsC P fn.results.toList t m fun vs => match vs with
            | [v] => (k (encV v) m.tab (encH D m.h) m.n).val
            | vs => (k (encV (.tup vs)) m.tab (encH D m.h) m.n).val
        | none => extC fn.name args ⟨h, n, tab⟩ fun v m => (k (encV v) m.tab (encH D m.h) m.n).val
      | none => false) := rfl
  rw [e]
  unfold fnS
  dsimp only
  cases hfn : P.funcs[f]? with
  | none => rfl
  | some fn =>
    cases hc' : fn.body with
    | none =>
      simp only [hc', go_mk, decVs_enc]
      rw [extCR_val _ _ ⟨h, n, tab⟩]
      exact (extC_m fn.name args ⟨h, n, tab⟩ fun v m => (k (encV v) m.tab (encH D m.h) m.n).val).symm
    | some c =>
      simp only [hc', opened_eq, go_mk]
      have hb : (blankS (D := D) fn.ntmps).go = encM D (blank fn.ntmps) := ofListB_go D _ (blank_all _)
      rw [hb, setArgsS_eq]
      congr 1
      funext t
      rw [code_good hc f _ fuel c (fun hx => hD f fn c hfn hc' (by simpa using hx))]
      congr 1
      funext x t d m
      cases x with
      | normal => exact leave_good hc _ k d m.tab t m.h m.n
      | exit id => rfl
      | ret => exact leave_good hc _ k d m.tab t m.h m.n
theorem yld_good (hc : CallOK cS cl) (fuel l : Nat) (args : List CV) (tab : Tab) (h : Hp) (n : Nat) (k : V → Tab → HS D → Nat → Res) :
    (yldF P P.info? G fuel cS l (encVs args) tab (encH D h) n k).val = callStep P G fuel cl (.yield l) args ⟨h, n, tab⟩ fun v m => (k (encV v) m.tab (encH D m.h) m.n).val := by
  have e : callStep P G fuel cl (.yield l) args ⟨h, n, tab⟩ (fun v m => (k (encV v) m.tab (encH D m.h) m.n).val) = yieldP (fun fn c => codeC P G fn true cl fuel c) l args ⟨h, n, tab⟩ fun v m => (k (encV v) m.tab (encH D m.h) m.n).val := rfl
  rw [e]
  unfold yldF
  rw [decVs_enc]
  have := yieldR_val (law D) (cdX := fun fn c t d m k => (codeS P P.info? G fn true true fuel c).go (.mk cS d m.tab) t m.h m.n fun x c t h n => Cx.rec (motive := fun _ => Res) (fun _ d tab => k x t d ⟨h, n, tab⟩) c)
    (cd := fun fn c => codeC P G fn true cl fuel c) (fun fn c t d m k => by
      show ((codeS P P.info? G fn true true fuel c).go (.mk cS d m.tab) (encM D t) (encH D m.h) m.n _).val = _
      rw [code_good hc fn true fuel c (fun hx => by cases hx)]
      rfl) l args ⟨h, n, tab⟩ fun v m => k (encV v) m.tab m.h m.n
  exact this
theorem step_good {Dr : FuncId → Bool} (hD : DrawFact P Dr) (hc : CallOK cS cl) (fuel : Nat) : CallOK (stepS P P.info? (fun f => P.funcs[f]?) G Dr fuel cS) (callStep P G fuel cl) := by
  intro f args m k
  cases f with
  | func g => exact fn_good hD hc fuel g args m.tab m.h m.n k
  | method s => rfl
  | methodOf t s => rfl
  | via t p g b => rfl
  | yield l => exact yld_good hc fuel l args m.tab m.h m.n k
theorem callS_ok {Dr : FuncId → Bool} (hD : DrawFact P Dr) (fuel depth : Nat) : CallOK (callS (D := D) P P.info? (fun f => P.funcs[f]?) G Dr fuel depth) (callC P G fuel depth) := by
  induction depth with
  | zero => intro f args m k; rfl
  | succ depth ih => exact step_good hD ih fuel

/-- a function whose answer is known -/
noncomputable def ovrS (aw : FuncId) (call : CallS D) : CallS D := fun f args tab h n k =>
  Fn.rec (motive := fun _ => Res) (fun g => Bool.rec (motive := fun _ => Res) (call (.func g) args tab h n k)
    (List.rec (motive := fun _ => Res) (k vTrue tab h n) (fun _ _ _ => .bad) args) (Nat.beq g aw)) (fun s => call (.method s) args tab h n k)
    (fun t s => call (.methodOf t s) args tab h n k) (fun t p g b => call (.via t p g b) args tab h n k) (fun l => call (.yield l) args tab h n k) f
theorem ovrS_ok (aw : FuncId) (hc : CallOK cS cl) : CallOK (ovrS aw cS) (ovr aw cl) := by
  intro f args m k
  cases f with
  | func g =>
    show (Bool.rec (motive := fun _ => Res) _ _ (Nat.beq g aw) : Res).val = (match Nat.beq g aw with | true => _ | false => _)
    cases Nat.beq g aw with
    | false => exact hc _ args m k
    | true => cases args <;> rfl
  | method s => exact hc _ args m k
  | methodOf t s => exact hc _ args m k
  | via t p g b => exact hc _ args m k
  | yield l => exact hc _ args m k
noncomputable def isTS (D : Nat) (v : V) (_ : Tab) (_ : HS D) (_ : Nat) : Res := v .ok .bad fI fS fS fL fA fO
theorem isTS_eq (v : CV) (m : M) : (isTS D (encV v) m.tab (encH D m.h) m.n).val = isT v m := by
  cases v <;> try rfl
  · rename_i b; cases b <;> rfl
  · rename_i kd a; cases a <;> rfl
end
/-- a table laid as a trie -/
noncomputable def infoT (P : Program) (T : Tr TypeInfo) (t : TypeId) : Option TypeInfo := match T.get? t with | some i => some i | none => P.info? t
theorem infoT_eq (P : Program) (t : TypeId) : infoT P (ofList P.types.toList) t = P.info? t := by
  unfold infoT
  rw [ofList_get]
  cases h : P.types.toList[t]? with
  | none => rfl
  | some i =>
    have ht : t < P.types.size := by
      rcases Nat.lt_or_ge t P.types.toList.length with h' | h'
      · simpa using h'
      · rw [List.getElem?_eq_none h'] at h; cases h
    have h' : P.types[t]? = some i := by simpa using h
    show some i = Tables.info? P.toTables t
    unfold Tables.info?
    rw [if_pos ht, h']
theorem funcT_eq (P : Program) (f : FuncId) : (ofList P.funcs.toList).get? f = P.funcs[f]? := by rw [ofList_get]; simp
/-- a run of the Scott evaluator is one of the plain one -/
theorem run_plain {D : Nat} {P : Program} {G : Nat → Bool} {Dr : FuncId → Bool} {I : TypeId → Option TypeInfo} {F : FuncId → Option Func} (hI : ∀ t, I t = P.info? t) (hF : ∀ f, F f = P.funcs[f]?) (hD : DrawFact P Dr) {fuel depth : Nat} {f : Fn} {args : List CV} {tab : Tab} {h : Hp} {n : Nat}
    (hh : (callS P I F G Dr fuel depth f (encVs args) tab (encH D h) n (isTS D)).val = true) : callC P G fuel depth f args ⟨h, n, tab⟩ isT = true := by
  have h1 : I = P.info? := funext hI
  have h2 : F = fun f => P.funcs[f]? := funext hF
  subst h1; subst h2
  have := callS_ok (D := D) (G := G) hD fuel depth f args ⟨h, n, tab⟩ (isTS D)
  rw [this] at hh
  simpa only [isTS_eq] using hh
theorem run_step {D : Nat} {P : Program} {G : Nat → Bool} {Dr : FuncId → Bool} {I : TypeId → Option TypeInfo} {F : FuncId → Option Func} (hI : ∀ t, I t = P.info? t) (hF : ∀ f, F f = P.funcs[f]?) (hD : DrawFact P Dr) {fuel depth aw : Nat} {f : Fn} {args : List CV} {tab : Tab} {h : Hp} {n : Nat}
    (hh : (stepS P I F G Dr fuel (ovrS aw (callS P I F G Dr fuel depth)) f (encVs args) tab (encH D h) n (isTS D)).val = true) : callStep P G fuel (ovr aw (callC P G fuel depth)) f args ⟨h, n, tab⟩ isT = true := by
  have h1 : I = P.info? := funext hI
  have h2 : F = fun f => P.funcs[f]? := funext hF
  subst h1; subst h2
  have := step_good (D := D) (G := G) hD (ovrS_ok aw (callS_ok (G := G) hD fuel depth)) fuel f args ⟨h, n, tab⟩ (isTS D)
  rw [this] at hh
  simpa only [isTS_eq] using hh
end Go.Ev
