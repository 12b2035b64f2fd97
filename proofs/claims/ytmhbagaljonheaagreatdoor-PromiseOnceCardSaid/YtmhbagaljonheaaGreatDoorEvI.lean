/- A verified evaluator for the model's code (part EvI): own work, of no program. -/
import Derived.Test.YtmhbagaljonheaaGreatDoorEvH
import Derived.Below
namespace Go.Ev
noncomputable section
/-- nothing? -/
def undB (v : CV) (y : Res) : Res := CV.rec (motive_1 := fun _ => Res) (motive_2 := fun _ => PUnit.{1}) (fun _ => .bad) (fun _ _ => .bad) (fun _ _ => .bad) .bad (fun _ _ => .bad) .bad (fun _ _ _ _ => .bad) .bad .bad (fun _ => .bad) (fun _ _ _ _ _ => .bad) (fun _ => .bad) .bad (fun _ _ _ => .bad) .bad (fun _ _ => .bad) (fun x0 _ => List.rec (motive := fun _ => Res) y (fun _ _ _ => .bad) x0) (fun _ _ => .bad) (fun _ _ => .bad) (fun _ _ _ _ _ => .bad) (fun _ _ _ => .bad) (fun _ => .bad) .unit (fun _ _ _ _ => .unit) v
/-! Types, by a table -/
def undI (I : TypeId → Option TypeInfo) (t : TypeId) : Option TypeDesc := match I t with
  | some { desc := .named _ u, .. } => (I u).map (·.desc)
  | some i => some i.desc
  | none => none
def aggI (I : TypeId → Option TypeInfo) (t : TypeId) : Option Bool := match undI I t with | some (.struct _) => some true | some (.array _ _) => some true | some _ => some false | none => none
def isIfcI (I : TypeId → Option TypeInfo) (t : TypeId) : Bool := match undI I t with | some (.interface _) | none => true | _ => false
def zeroI (I : TypeId → Option TypeInfo) (t : TypeId) : Option (List CV) := match I t with
  | some i => match i.zero with | some v => ofValues v.cells.toList | none => none
  | none => none
def elemI (I : TypeId → Option TypeInfo) (t : TypeId) : Option TypeId := match undI I t with | some (.slice e) => some e | _ => none
def fieldI (I : TypeId → Option TypeInfo) (t : TypeId) (f : Nat) : Option Field := match undI I t with | some (.struct fs) => fs[f]? | _ => none
def cellsI (I : TypeId → Option TypeInfo) (t : TypeId) : Nat := ((I t).map (·.size)).getD 0

section
variable {D : Nat} (P : Program) (G : Nat → Bool) (rd : Bool) (ops : Array Oper) (o : Oper)
/-- an operation without a guard -/
def specS (I : TypeId → Option TypeInfo) (S : Bx (OpF D)) : Bx (OpF D) := match o.op with
  | .move x => valS (putW o.dst) (getS G x)
  | .assign x => valS (putW o.dst) (getS G x)
  | .pick c a b => pickS (putW o.dst) (getS G c) (getS G a) (getS G b)
  | .alloc e => match zeroI I e with
    | some z => match z.all zeroish with
      | true => fN S z.length fun l => fN S (e + 1) fun te => allocS (putW o.dst) te l (ofListB D z)
      | false => S
    | none => S
  | .load ty x => match aggI I ty with
    | some true => match I ty with
      | some i => fN S i.size fun sz => loadsS (putW o.dst) (getS G x) sz
      | none => S
    | some false => loadS (putW o.dst) (getS G x)
    | none => S
  | .nilCheck x => nilcS S (putW o.dst) (getS G x)
  | .binOp op ty x y _ => match undI I ty with
    | some (.int _) => match natOp op with
      | some F => binNS S (putW o.dst) (getS G x) (getS G y) F
      | none => S
    | some .string => match strOpS op with
      | some F => binTS S (putW o.dst) (getS G x) (getS G y) F
      | none => S
    | some (.pointer _) => match op with
      | .eql => binPS S (putW o.dst) (getS G x) (getS G y) vTrue vFalse
      | .neq => binPS S (putW o.dst) (getS G x) (getS G y) vFalse vTrue
      | _ => S
    | _ => S
  | .unOp op _ x => match op with
    | .not => notS (putW o.dst) (getS G x)
    | _ => S
  | .convert s d x => match undI I s with
    | none => S
    | some _ => match undI I d with
      | some (.int kd) => convNS S (putW o.dst) (getS G x) kd
      | some .string => convTS S (putW o.dst) (getS G x)
      | _ => S
  | .box _ x => boxS (putW o.dst) (getS G x)
  | .buildSlice ty len parts => match elemI I ty with
    | some e => match zeroI I e with
      | some z => match I e with
        | some i => match Nat.ble (len * z.length) 65536 && (Nat.beq z.length i.size && isRow parts.toList 0 len) with
          | true => fN S (len * z.length) fun tot => fN S len fun len => fN S i.size fun sz => rowsS G (putW o.dst) (parts.toList.map (·.2)) sz len tot
          | false => S
        | none => S
      | none => S
    | none => S
  | .build ty parts => match zeroI I ty with
    | some z => match undI I ty with
      | some (.struct fields) => match fields.toList.all (fun f => (I f.type).isSome) with
        | true => match layS (fun i => (fields[i]?).map fun f => (f.offset, cellsI I f.type)) parts.toList (z.map .cv) with
          | some l => aggF S (putW o.dst) (srcsS G l)
          | none => S
        | false => S
      | _ => S
    | none => S
  | .makeInterface ty x => match isIfcI I ty with
    | true => S
    | false => ifcS (putW o.dst) (getS G x) ty
  | .fieldAddr s x f => match fieldI I s f with
    | some fd => match I fd.type with
      | some i => match Nat.beq i.size 0 with
        | true => S
        | false => fN S fd.offset fun off => faddrS (putW o.dst) (getS G x) off
      | none => S
    | none => S
  | .field s x f => match fieldI I s f with
    | some fd => match aggI I fd.type with
      | some false => fN S fd.offset fun off => fieldS (putW o.dst) (getS G x) off
      | _ => S
    | none => S
  | .indexAddr ty x i => match elemI I ty with
    | some e => match I e with
      | some j => fN S j.size fun sz => iaddrS S (putW o.dst) (getS G x) (getS G i) sz
      | none => S
    | none => S
  | .index ty x i => match undI I ty with
    | some .string => indexS S (putW o.dst) (getS G x) (getS G i)
    | _ => S
  | .extract x i => extrS (putW o.dst) (getS G x) i
  | .store ty x y => match I ty with
    | some i => match Nat.beq 1 i.size with
      | true => storeS S (putW o.dst) (getS G x) (getS G y)
      | false => fN S i.size fun sz => storesS S (putW o.dst) (getS G x) (getS G y) sz
    | none => S
  | .call c => match c.callee with
    | .value f => match f with
      | .func f => callS1 (putW o.dst) (getsS G c.args.toList) f
      | _ => S
    | .builtin b => match b with
      | .len => match c.args.toList with
        | [x] => match c.argTypes[0]? with
          | some ty => match undI I ty with
            | some .string => lenTS S (putW o.dst) (getS G x)
            | some (.slice _) => lenLS S (putW o.dst) (getS G x)
            | _ => S
          | none => S
        | _ => S
      | .append => match c.args.toList with
        | [x, y] => match c.argTypes.toList with
          | [tx, ty] => match elemI I tx with
            | some e => match I e with
              | some i => match appOk P e i.size with
                | true => match undI I ty with
                  | some (.slice _) => fN S i.size fun sz => appO P e false sz (putW o.dst) (getS G x) (getS G y)
                  | some .string => fN S i.size fun sz => appO P e true sz (putW o.dst) (getS G x) (getS G y)
                  | _ => S
                | false => S
              | none => S
            | none => S
          | _ => S
        | _ => S
      | _ => S
    | _ => S
  | _ => S
/-- under a guard -/
def guardS (X : Bx (GetV D)) (want : Bool) (W : Bx (VK D)) (B : Bx (OpF D)) : Bx (OpF D) := match want with
  | true => X.opened fun X => W.opened fun W => B.opened fun B => .mk fun c t h n k => X t ((fun c t h n k v => v (B c t h n k) (W c t h n k vUndef) fI fS fS fL fA ((fun c t h n k cv => undB cv (W c t h n k vUndef)) c t h n k)) c t h n k)
  | false => X.opened fun X => W.opened fun W => B.opened fun B => .mk fun c t h n k => X t ((fun c t h n k v => v (W c t h n k vUndef) (B c t h n k) fI fS fS fL fA ((fun c t h n k cv => undB cv (W c t h n k vUndef)) c t h n k)) c t h n k)
def opS (I : TypeId → Option TypeInfo) : Bx (OpF D) := match o.guard with
  | none => specS P G o I (slowS P G rd ops o)
  | some (j, want) => match ops[j]? with
    | some oj => match oj.dst with
      | some d => guardS (gT D d) want (putW o.dst) (specS P G ⟨o.dst, o.op, o.type, o.pos, o.after, none⟩ I (slowS P G rd ops ⟨o.dst, o.op, o.type, o.pos, o.after, none⟩))
      | none => slowS P G rd ops o
    | none => slowS P G rd ops o
end

/-! Regions -/
section
variable {D : Nat} (P : Program) (I : TypeId → Option TypeInfo) (G : Nat → Bool) (rd : Bool) (ops : Array Oper)
def nilO : Bx (OpF D) := .mk fun c t h n k => k c t h n
def seqO (A B : Bx (OpF D)) : Bx (OpF D) := A.opened fun A => B.opened fun B => .mk fun c t h n k => A c t h n ((fun k c t h n => B c t h n k) k)
def opsS (l : List Oper) : Bx (OpF D) := lrec nilO (fun o _ ih => seqO (opS P G rd ops o I) ih) l
abbrev AgF (D : Nat) := Cx D → TmS D → HS D → Nat → Res → Res
def slowA (j : Nat) : Bx (AgF D) := .mk fun c t h n k => Cx.rec (motive := fun _ => Res) (fun _ _ tab => bIf (againCR (scott D) P G ops t ⟨h, n, tab⟩ j).val k .bad) c
def eqV (v w : V) (k : Res) : Res := v (w k .bad fI fS fS fL fA fO) (w .bad k fI fS fS fL fA fO)
  ((fun w k kd a => w .bad .bad ((fun k kd a kd' b => bIf (Nat.beq (ikN kd) (ikN kd')) (bIf (Nat.beq a b) k .bad) .bad) k kd a) fS fS fL fA fO) w k)
  ((fun w k l x => w .bad .bad fI ((fun k l x l' x' => bIf (Nat.beq l l') (bIf (Nat.beq x x') k .bad) .bad) k l x) fS fL fA fO) w k)
  ((fun w k l x => w .bad .bad fI fS ((fun k l x l' x' => bIf (Nat.beq l l') (bIf (Nat.beq x x') k .bad) .bad) k l x) fL fA fO) w k)
  ((fun v w k _ _ _ _ => decV v fun v => decV w fun w => bIf (cvBeq v w) k .bad) v w k) ((fun v w k _ => decV v fun v => decV w fun w => bIf (cvBeq v w) k .bad) v w k) ((fun v w k _ => decV v fun v => decV w fun w => bIf (cvBeq v w) k .bad) v w k)
def loadA (d : Nat) (X : Bx (GetV D)) : Bx (AgF D) := (gT D d).opened fun Y => X.opened fun X => .mk fun _ t h _ k => Y t ((fun t h k v => X t ((fun h k v p => p .bad .bad fI fS
  ((fun h k v b i => (gH D b).go h ((fun k v i bs => bs ((fun k v i _ _ _ _ cs => (gT D i).go cs ((fun k v w => eqV v w k) k v)) k v i) fC) k v i)) h k v) fL fA fO) h k v)) t h k)
def againS (j : Nat) : Bx (AgF D) := match ops[j]? with
  | some o => match o.guard with
    | none => match o.dst with
      | some d => match o.op with
        | .load ty x => match aggI I ty with
          | some false => loadA d (getS G x)
          | _ => slowA P G ops j
        | _ => slowA P G ops j
      | none => slowA P G ops j
    | some _ => slowA P G ops j
  | none => slowA P G ops j
def agK (A : Bx (AgF D)) (R : Bx (OpF D)) : Bx (OpF D) := A.opened fun A => R.opened fun R => .mk fun c t h n k => A c t h n (R c t h n k)
def againsS (js : List Nat) (R : Bx (OpF D)) : Bx (OpF D) := lrec R (fun j _ ih => agK (againS P I G ops j) ih) js
def planS (l : List PS) : Bx (OpF D) := lrec nilO (fun s _ ih => match s with
  | .fl i => match ops[i]? with
    | some o => seqO (opS P G rd ops o I) ih
    | none => .mk fun _ _ _ _ _ => .bad
  | .ch i again => match ops[i]? with
    | some o => seqO (opS P G rd ops o I) (againsS P I G ops again ih)
    | none => .mk fun _ _ _ _ _ => .bad) l
end

/-! Code -/
section
variable {D : Nat}
abbrev KXF (D : Nat) := CX → Cx D → TmS D → HS D → Nat → Res
abbrev CodeF (D : Nat) := Cx D → TmS D → HS D → Nat → KXF D → Res
def regS (R : Bx (OpF D)) : Bx (CodeF D) := R.opened fun R => .mk fun c t h n k => R c t h n (k .normal)
def seqK (B : Bx (CodeF D)) (k : KXF D) (x : CX) : Cx D → TmS D → HS D → Nat → Res :=
  CX.rec (motive := fun _ => KXF D → Cx D → TmS D → HS D → Nat → Res) (fun k c t h n => B.go c t h n k) (fun id k => k (.exit id)) (fun k => k .ret) x k
def seqC (A B : Bx (CodeF D)) : Bx (CodeF D) := A.opened fun A => .mk fun c t h n k => A c t h n (seqK B k)
def condC (X : Bx (GetV D)) (A B : Bx (CodeF D)) : Bx (CodeF D) := X.opened fun X => .mk fun c t h n k => X t ((fun c t h n k v => v (A.go c t h n k) (B.go c t h n k) fI fS fS fL fA fO) c t h n k)
def blockK (id : Nat) (k : KXF D) (x : CX) : Cx D → TmS D → HS D → Nat → Res :=
  CX.rec (motive := fun _ => KXF D → Cx D → TmS D → HS D → Nat → Res) (fun k => k .normal) (fun j k => Bool.rec (motive := fun _ => Cx D → TmS D → HS D → Nat → Res) (k (.exit j)) (k .normal) (Nat.beq j id)) (fun k => k .ret) x k
def blockC (id : Nat) (A : Bx (CodeF D)) : Bx (CodeF D) := A.opened fun A => .mk fun c t h n k => A c t h n (blockK id k)
def loopF (A : Bx (CodeF D)) (fuel : Nat) : CodeF D := Nat.rec (motive := fun _ => CodeF D) (fun _ _ _ _ _ => .bad)
  (fun _ ih c t h n k => A.go c t h n ((fun (ih : CodeF D) k x => CX.rec (motive := fun _ => CodeF D → KXF D → Cx D → TmS D → HS D → Nat → Res) (fun ih k c t h n => ih c t h n k) (fun id _ k => k (.exit id)) (fun _ k => k .ret) x ih k) ih k)) fuel
def chkD (P : Program) (ops : Array Oper) (chk : Bool) : Bool := match chk with | true => drawOk P ops | false => true
def rngS (P : Program) (G : Nat → Bool) (fn : FuncId) (rd : Bool) (f : Operand) (ps : Array Tmp) (a b : Code) : Bx (CodeF D) := match rd with
  | true => .mk fun _ _ _ _ _ => .bad
  | false => .mk fun c t h n k => Cx.rec (motive := fun _ => TmS D → HS D → Nat → KXF D → Res)
    (fun call d tab t h n k => rangeR (scott D) P G fn (unS call) f ps a b t d ⟨h, n, tab⟩ fun x t d m => k x (.mk call d m.tab) t m.h m.n) c t h n k
def codeS (P : Program) (I : TypeId → Option TypeInfo) (G : Nat → Bool) (fn : FuncId) (rd chk : Bool) (fuel : Nat) (c : Code) : Bx (CodeF D) :=
  Code.rec (motive := fun _ => Bx (CodeF D))
    (regS nilO)
    (fun _ ops draw => match draw with
      | false => regS (opsS P I G rd ops ops.toList)
      | true => match chkD P ops chk with | true => regS (planS P I G rd ops (planOf P ops)) | false => .mk fun _ _ _ _ _ => .bad)
    (fun _ _ a b => seqC a b)
    (fun x _ _ a b => condC (getS G x) a b)
    (fun id _ a => blockC id a)
    (fun _ a => .mk (loopF a fuel))
    (fun f ps a b _ _ => rngS P G fn rd f ps a b)
    (fun id => .mk fun c t h n k => k (.exit id) c t h n)
    (fun _ _ => .mk fun _ _ _ _ _ => .bad)
    (fun _ => .mk fun c t h n k => k .normal c t h n)
    (fun _ => .mk fun _ _ _ _ _ => .bad)
    (.mk fun c t h n k => k .ret c t h n)
    (fun _ => .mk fun _ _ _ _ _ => .bad) c

def extCR (name : String) (args : List CV) (k : CV → Res) : Res :=
  match name == "internal/bytealg.IndexByteString" with
  | true => match args with
    | [.str l c, .int .u8 (.ofNat b)] => isTrueR (Nat.blt b 256) (forceIR (idxByte b (decBytes l c) 0) fun r => k (.int .i64 r))
    | _ => .bad
  | false => match name == "internal/abi.NoEscape" with
    | true => match args with
      | [v] => k v
      | _ => .bad
    | false => .bad
/-! Calls -/
abbrev RetF (D : Nat) := TmS D → HS D → Nat → Tab → (V → Res) → Res
def resS (P : Program) (rs : List ResultVar) : Bx (RetF D) := match rs with
  | [.tmp i] => (gT D i).opened fun X => .mk fun t _ _ _ k => X t k
  | rs => .mk fun t h n tab k => resultsCR (scott D) P rs t ⟨h, n, tab⟩ fun vs => match vs with | [v] => k (encV v) | vs => k (vOth (.tup vs))
abbrev FnF (D : Nat) := CallS D → List V → Tab → HS D → Nat → (V → Tab → HS D → Nat → Res) → Res
def leaveC (R : Bx (RetF D)) (k : V → Tab → HS D → Nat → Res) (c : Cx D) (t : TmS D) (h : HS D) (n : Nat) : Res := Cx.rec (motive := fun _ => (V → Tab → HS D → Nat → Res) → TmS D → HS D → Nat → Res)
  (fun call d tab k t h n => List.rec (motive := fun _ => CallS D → Tab → (V → Tab → HS D → Nat → Res) → TmS D → HS D → Nat → Res)
    (fun _ tab k t h n => R.go t h n tab ((fun k tab h n v => k v tab h n) k tab h n))
    (fun x d _ call tab k t h n => defersCR (scott D) (unS call) (x :: d) ⟨h, n, tab⟩ fun m => R.go t m.h m.n m.tab fun v => k v m.tab m.h m.n) d call tab k t h n) c k t h n
def leaveK (R : Bx (RetF D)) (k : V → Tab → HS D → Nat → Res) (x : CX) : Cx D → TmS D → HS D → Nat → Res :=
  CX.rec (motive := fun _ => (V → Tab → HS D → Nat → Res) → Cx D → TmS D → HS D → Nat → Res) (leaveC R) (fun _ _ _ _ _ _ => .bad) (leaveC R) x k
def setArgsS (as : List V) : Nat → TmS D → (TmS D → Res) → Res := List.rec (motive := fun _ => Nat → TmS D → (TmS D → Res) → Res) (fun _ t k => k t)
  (fun a _ ih i t k => (pT D i).go t a ((fun (ih : Nat → TmS D → (TmS D → Res) → Res) i k t => fN .bad (Nat.succ i) ((fun (ih : Nat → TmS D → (TmS D → Res) → Res) k t i => ih i t k) ih k t)) ih i k)) as
def blankS (n : Nat) : Bx (TmS D) := ofListB D (List.replicate n undefC)
def fnS (P : Program) (I : TypeId → Option TypeInfo) (F : FuncId → Option Func) (G : Nat → Bool) (Dr : FuncId → Bool) (fuel : Nat) (f : FuncId) : Bx (FnF D) := match F f with
  | some fn => match fn.body with
    | some c => (blankS fn.ntmps).opened fun B => .mk fun call args tab h n k => setArgsS args 0 B ((fun call tab h n k t => (codeS P I G f false (!Dr f) fuel c).go (.mk call [] tab) t h n (leaveK (resS P fn.results.toList) k)) call tab h n k)
    | none => .mk fun _ args tab h n k => decVs args fun args => extCR fn.name args fun v => k (encV v) tab h n
  | none => .mk fun _ _ _ _ _ _ => .bad
def yldF (P : Program) (I : TypeId → Option TypeInfo) (G : Nat → Bool) (fuel : Nat) (call : CallS D) (l : Nat) (args : List V) (tab : Tab) (h : HS D) (n : Nat) (k : V → Tab → HS D → Nat → Res) : Res :=
  decVs args fun args => yieldR (scott D) (fun fn c t d m k => (codeS P I G fn true true fuel c).go (.mk call d m.tab) t m.h m.n fun x c t h n => Cx.rec (motive := fun _ => Res) (fun _ d tab => k x t d ⟨h, n, tab⟩) c) l args ⟨h, n, tab⟩ fun v m => k (encV v) m.tab m.h m.n
def stepS (P : Program) (I : TypeId → Option TypeInfo) (F : FuncId → Option Func) (G : Nat → Bool) (Dr : FuncId → Bool) (fuel : Nat) (call : CallS D) : CallS D := fun f args tab h n k =>
  Fn.rec (motive := fun _ => CallS D → List V → Tab → HS D → Nat → (V → Tab → HS D → Nat → Res) → Res) (fun g call args tab h n k => (fnS P I F G Dr fuel g).go call args tab h n k) (fun _ _ _ _ _ _ _ => .bad)
    (fun _ _ _ _ _ _ _ _ => .bad) (fun _ _ _ _ _ _ _ _ _ _ => .bad) (fun l call args tab h n k => yldF P I G fuel call l args tab h n k) f call args tab h n k
def callS (P : Program) (I : TypeId → Option TypeInfo) (F : FuncId → Option Func) (G : Nat → Bool) (Dr : FuncId → Bool) (fuel depth : Nat) : CallS D :=
  Nat.rec (motive := fun _ => CallS D) (fun _ _ _ _ _ _ => .bad) (fun _ call => stepS P I F G Dr fuel call) depth
end
end
end Go.Ev

namespace Go.Ev
section
variable {D : Nat} {P : Program} {G : Nat → Bool} {rd : Bool} {ops : Array Oper}
noncomputable def specO (P : Program) (G : Nat → Bool) (o : Oper) (S : Bx (OpF D)) : Bx (OpF D) := match o.op with
  | .move x => valS (putW o.dst) (getS G x)
  | .assign x => valS (putW o.dst) (getS G x)
  | .pick c a b => pickS (putW o.dst) (getS G c) (getS G a) (getS G b)
  | .alloc e => match zeroOf P e with
    | some z => match z.all zeroish with
      | true => fN S z.length fun l => fN S (e + 1) fun te => allocS (putW o.dst) te l (ofListB D z)
      | false => S
    | none => S
  | .load ty x => match aggT P ty with
    | some true => match P.info? ty with
      | some i => fN S i.size fun sz => loadsS (putW o.dst) (getS G x) sz
      | none => S
    | some false => loadS (putW o.dst) (getS G x)
    | none => S
  | .nilCheck x => nilcS S (putW o.dst) (getS G x)
  | .binOp op ty x y _ => match P.underlying ty with
    | some (.int _) => match natOp op with
      | some F => binNS S (putW o.dst) (getS G x) (getS G y) F
      | none => S
    | some .string => match strOpS op with
      | some F => binTS S (putW o.dst) (getS G x) (getS G y) F
      | none => S
    | some (.pointer _) => match op with
      | .eql => binPS S (putW o.dst) (getS G x) (getS G y) vTrue vFalse
      | .neq => binPS S (putW o.dst) (getS G x) (getS G y) vFalse vTrue
      | _ => S
    | _ => S
  | .unOp op _ x => match op with
    | .not => notS (putW o.dst) (getS G x)
    | _ => S
  | .convert s d x => match P.underlying s with
    | none => S
    | some _ => match P.underlying d with
      | some (.int kd) => convNS S (putW o.dst) (getS G x) kd
      | some .string => convTS S (putW o.dst) (getS G x)
      | _ => S
  | .box _ x => boxS (putW o.dst) (getS G x)
  | .buildSlice ty len parts => match elemOfSl P ty with
    | some e => match zeroOf P e with
      | some z => match P.info? e with
        | some i => match Nat.ble (len * z.length) 65536 && (Nat.beq z.length i.size && isRow parts.toList 0 len) with
          | true => fN S (len * z.length) fun tot => fN S len fun len => fN S i.size fun sz => rowsS G (putW o.dst) (parts.toList.map (·.2)) sz len tot
          | false => S
        | none => S
      | none => S
    | none => S
  | .build ty parts => match zeroOf P ty with
    | some z => match P.underlying ty with
      | some (.struct fields) => match fields.toList.all (fun f => (P.info? f.type).isSome) with
        | true => match layS (fun i => (fields[i]?).map fun f => (f.offset, P.cellsOf f.type)) parts.toList (z.map .cv) with
          | some l => aggF S (putW o.dst) (srcsS G l)
          | none => S
        | false => S
      | _ => S
    | none => S
  | .makeInterface ty x => match isIfc P ty with
    | true => S
    | false => ifcS (putW o.dst) (getS G x) ty
  | .fieldAddr s x f => match fieldOf P s f with
    | some fd => match P.info? fd.type with
      | some i => match Nat.beq i.size 0 with
        | true => S
        | false => fN S fd.offset fun off => faddrS (putW o.dst) (getS G x) off
      | none => S
    | none => S
  | .field s x f => match fieldOf P s f with
    | some fd => match aggT P fd.type with
      | some false => fN S fd.offset fun off => fieldS (putW o.dst) (getS G x) off
      | _ => S
    | none => S
  | .indexAddr ty x i => match elemOfSl P ty with
    | some e => match P.info? e with
      | some j => fN S j.size fun sz => iaddrS S (putW o.dst) (getS G x) (getS G i) sz
      | none => S
    | none => S
  | .index ty x i => match P.underlying ty with
    | some .string => indexS S (putW o.dst) (getS G x) (getS G i)
    | _ => S
  | .extract x i => extrS (putW o.dst) (getS G x) i
  | .store ty x y => match P.info? ty with
    | some i => match Nat.beq 1 i.size with
      | true => storeS S (putW o.dst) (getS G x) (getS G y)
      | false => fN S i.size fun sz => storesS S (putW o.dst) (getS G x) (getS G y) sz
    | none => S
  | .call c => match c.callee with
    | .value f => match f with
      | .func f => callS1 (putW o.dst) (getsS G c.args.toList) f
      | _ => S
    | .builtin b => match b with
      | .len => match c.args.toList with
        | [x] => match c.argTypes[0]? with
          | some ty => match P.underlying ty with
            | some .string => lenTS S (putW o.dst) (getS G x)
            | some (.slice _) => lenLS S (putW o.dst) (getS G x)
            | _ => S
          | none => S
        | _ => S
      | .append => match c.args.toList with
        | [x, y] => match c.argTypes.toList with
          | [tx, ty] => match elemOfSl P tx with
            | some e => match P.info? e with
              | some i => match appOk P e i.size with
                | true => match P.underlying ty with
                  | some (.slice _) => fN S i.size fun sz => appO P e false sz (putW o.dst) (getS G x) (getS G y)
                  | some .string => fN S i.size fun sz => appO P e true sz (putW o.dst) (getS G x) (getS G y)
                  | _ => S
                | false => S
              | none => S
            | none => S
          | _ => S
        | _ => S
      | _ => S
    | _ => S
  | _ => S
theorem spec_eq (P : Program) (G : Nat → Bool) (o : Oper) (S : Bx (OpF D)) : specS P G o P.info? S = specO P G o S := rfl
theorem spec_good {o : Oper} {S : Bx (OpF D)} (hg : o.guard = none) (hS : Good P G rd ops o S) : Good P G rd ops o (specS P G o P.info? S) := by
  rw [spec_eq]
  obtain ⟨dst, op, type, pos, after, guard⟩ := o
  simp only at hg
  subst hg
  unfold specO
  split
  case h_1 => rename_i h; simp only at h; subst h; exact move_good
  case h_2 => rename_i h; simp only at h; subst h; exact assign_good
  case h_3 => rename_i h; simp only at h; subst h; exact pick_good
  case h_4 =>
    rename_i h; simp only at h; subst h
    split
    · split
      · rw [fN_eq, fN_eq]; exact alloc_good (by assumption) (by assumption)
      · exact hS
    · exact hS
  case h_5 =>
    rename_i h; simp only at h; subst h
    split
    · split
      · rw [fN_eq]; exact loads_good (by assumption) (by assumption)
      · exact hS
    · exact load_good (by assumption)
    · exact hS
  case h_6 => rename_i h; simp only at h; subst h; exact nilc_good hS
  case h_7 =>
    rename_i h; simp only at h; subst h
    split
    · split
      · exact binN_good (by assumption) hS
      · exact hS
    · split
      · exact binT_good (by assumption) hS
      · exact hS
    · split
      · exact (binP_good (by assumption)).1 hS
      · exact (binP_good (by assumption)).2 hS
      · exact hS
    · exact hS
  case h_8 =>
    rename_i h; simp only at h; subst h
    split
    · exact not_good
    · exact hS
  case h_9 =>
    rename_i h; simp only at h; subst h
    split
    · exact hS
    · split
      · exact convN_good (by assumption) (by assumption) hS
      · exact convT_good (by assumption) (by assumption) hS
      · exact hS
  case h_10 => rename_i h; simp only at h; subst h; exact box_good
  case h_11 =>
    rename_i h; simp only at h; subst h
    split
    · split
      · split
        · split
          · rw [fN_eq, fN_eq, fN_eq]; exact rows_good (by assumption) (by assumption) (by assumption) (by assumption)
          · exact hS
        · exact hS
      · exact hS
    · exact hS
  case h_12 =>
    rename_i h; simp only at h; subst h
    split
    · split
      · split
        · split
          · exact agg_good (by assumption) (by assumption) (by assumption) (by assumption) hS
          · exact hS
        · exact hS
      · exact hS
    · exact hS
  case h_13 =>
    rename_i h; simp only at h; subst h
    split
    · exact hS
    · exact ifc_good (by assumption)
  case h_14 =>
    rename_i h; simp only at h; subst h
    split
    · split
      · split
        · exact hS
        · rw [fN_eq]; exact faddr_good (by assumption) (by assumption) (by assumption)
      · exact hS
    · exact hS
  case h_15 =>
    rename_i h; simp only at h; subst h
    split
    · split
      · rw [fN_eq]; exact field_good (by assumption) (by assumption)
      · exact hS
    · exact hS
  case h_16 =>
    rename_i h; simp only at h; subst h
    split
    · split
      · rw [fN_eq]; exact iaddr_good (by assumption) (by assumption) hS
      · exact hS
    · exact hS
  case h_17 =>
    rename_i h; simp only at h; subst h
    split
    · exact index_good (by assumption) hS
    · exact hS
  case h_18 => rename_i h; simp only at h; subst h; exact extr_good
  case h_19 =>
    rename_i h; simp only at h; subst h
    split
    · split
      · exact store_good (by assumption) (by assumption) hS
      · rw [fN_eq]; exact stores_good (by assumption) hS
    · exact hS
  case h_20 =>
    rename_i h; simp only at h; subst h
    split
    · split
      · exact call_good (by assumption)
      · exact hS
    · split
      · split
        · split
          · split
            · exact lenT_good (by assumption) (by assumption) (by assumption) (by assumption) hS
            · exact lenL_good (by assumption) (by assumption) (by assumption) (by assumption) hS
            · exact hS
          · exact hS
        · exact hS
      · split
        · split
          · split
            · split
              · split
                · split
                  · rw [fN_eq]; exact app_good (by assumption) (by assumption) (by assumption) (by assumption) (by assumption) (by assumption) (.inl ⟨rfl, _, by assumption⟩)
                  · rw [fN_eq]; exact app_good (by assumption) (by assumption) (by assumption) (by assumption) (by assumption) (by assumption) (.inr ⟨rfl, by assumption⟩)
                  · exact hS
                · exact hS
              · exact hS
            · exact hS
          · exact hS
        · exact hS
      · exact hS
    · exact hS
  case h_21 => exact hS
end
end Go.Ev

namespace Go.Ev
section
variable {D : Nat} {P : Program} {G : Nat → Bool} {rd : Bool} {ops : Array Oper}
theorem val_undB (v : CV) (y : Res) : (undB v y).val = (match v with | .tup [] => y.val | _ => false) := by
  cases v <;> try rfl
  rename_i l; cases l <;> rfl
/-- what a guard says -/
def guardRes (want : Bool) (v : CV) (y n : Bool) : Bool := match v with
  | .bool b => match want with
    | true => (match b with | true => y | false => n)
    | false => (match b with | true => n | false => y)
  | .tup [] => n
  | _ => false
theorem guard_eq {cl : CallFn} {o : Oper} {j : Nat} {want : Bool} (hg : o.guard = some (j, want)) {oj : Oper} (hj : ops[j]? = some oj) {dd : Nat} (hd : oj.dst = some dd) {t : Tm} {d : List DF} {m : M} {K : Tm → List DF → M → Bool} :
    operC P G rd cl ops o t d m K = getK t dd fun v => guardRes want v (operC P G rd cl ops ⟨o.dst, o.op, o.type, o.pos, o.after, none⟩ t d m K) (putT o.dst undefC t fun t' => K t' d m) := by
  have e : ∀ o : Oper, operC P G rd cl ops o t d m K = guardC ops o t fun b => match b with
    | false => putT o.dst undefC t fun t' => K t' d m
    | true => operC P G rd cl ops ⟨o.dst, o.op, o.type, o.pos, o.after, none⟩ t d m K := by
    intro o
    unfold operC
    rfl
  rw [e]
  unfold guardC
  simp only [hg, hj, hd]
  refine congrArg (getK t dd) (funext fun v => ?_)
  cases v <;> try rfl
theorem op_good (o : Oper) : Good (D := D) P G rd ops o (opS P G rd ops o P.info?) := by
  unfold opS
  split
  · exact spec_good (by assumption) (slowS_good o)
  · rename_i j want hg
    split
    · rename_i oj hj
      split
      · rename_i dd hd
        intro cS cl hc d tab t h n k
        rw [guard_eq hg hj hd]
        have hB := spec_good (D := D) (P := P) (G := G) (rd := rd) (ops := ops) (o := ⟨o.dst, o.op, o.type, o.pos, o.after, none⟩) rfl (slowS_good _) cS cl hc d tab t h n k
        have hW : ((putW o.dst).go (.mk cS d tab) (encM D t) (encH D h) n k vUndef).val = putT o.dst undefC t fun t' => onS cS k t' d ⟨h, n, tab⟩ := putW_eq o.dst _ t _ n k (.tup [])
        cases want
        · simp only [guardS, opened_eq, go_mk, gT_eq, getKR_val, val_enc, val_undB]
          refine congrArg (getK t dd) (funext fun v => ?_)
          rw [hB, hW]
          cases v <;> try rfl
          · rename_i b
            cases b <;> rfl
          · rename_i kd a
            cases a <;> rfl
          · rename_i l
            cases l <;> rfl
        · simp only [guardS, opened_eq, go_mk, gT_eq, getKR_val, val_enc, val_undB]
          refine congrArg (getK t dd) (funext fun v => ?_)
          rw [hB, hW]
          cases v <;> try rfl
          · rename_i b
            cases b <;> rfl
          · rename_i kd a
            cases a <;> rfl
          · rename_i l
            cases l <;> rfl
      · exact slowS_good o
    · exact slowS_good o

/-! Regions -/
variable {cS : CallS D} {cl : CallFn}
theorem seqO_go (A B : Bx (OpF D)) (c : Cx D) (t : TmS D) (h : HS D) (n : Nat) (k : KO D) : (seqO A B).go c t h n k = A.go c t h n fun c t h n => B.go c t h n k := by
  simp only [seqO, opened_eq, go_mk]
theorem ops_good (hc : CallOK cS cl) (l : List Oper) : ∀ (d : List DF) (tab : Tab) (t : Tm) (h : Hp) (n : Nat) (k : KO D),
    ((opsS P P.info? G rd ops l).go (.mk cS d tab) (encM D t) (encH D h) n k).val = opsC P G rd cl ops l t d ⟨h, n, tab⟩ (onS cS k) := by
  induction l with
  | nil => intros; rfl
  | cons o l ih =>
    intro d tab t h n k
    have e : opsS (D := D) P P.info? G rd ops (o :: l) = seqO (opS P G rd ops o P.info?) (opsS P P.info? G rd ops l) := rfl
    rw [e, seqO_go, op_good o cS cl hc]
    show operC P G rd cl ops o t d ⟨h, n, tab⟩ _ = operC P G rd cl ops o t d ⟨h, n, tab⟩ fun t d m => opsC P G rd cl ops l t d m (onS cS k)
    congr 1
    funext t d m
    exact ih d m.tab t m.h m.n k
theorem eqV_eq (v w : CV) (k : Res) : eqV (encV v) (encV w) k = bIf (cvBeq v w) k .bad := by
  have hd : (decV (encV v) fun v => decV (encV w) fun w => bIf (cvBeq v w) k .bad) = bIf (cvBeq v w) k .bad := by simp only [decV_enc]
  cases v
  case bool b => cases b <;> cases w <;> first | rfl | (rename_i b; cases b <;> rfl) | (rename_i kd a; cases a <;> rfl)
  case int kd a =>
    cases a
    · cases w
      case bool b => cases b <;> rfl
      case int kd' b =>
        cases b
        · rename_i a b
          show bIf (Nat.beq (ikN kd) (ikN kd')) (bIf (Nat.beq a b) k .bad) .bad = bIf (decide (kd = kd') && Nat.beq a b) k .bad
          rw [ikN_inj]
          cases decide (kd = kd') <;> cases Nat.beq a b <;> rfl
        · show Res.bad = bIf (decide (kd = kd') && false) k .bad
          rw [Bool.and_false]; rfl
      all_goals rfl
    · exact hd
  case str l x =>
    cases w
    case bool b => cases b <;> rfl
    case int kd' b => cases b <;> rfl
    case str l' x' =>
      show bIf (Nat.beq l l') (bIf (Nat.beq x x') k .bad) .bad = bIf (Nat.beq l l' && Nat.beq x x') k .bad
      cases Nat.beq l l' <;> cases Nat.beq x x' <;> rfl
    all_goals rfl
  case ptr l x =>
    cases w
    case bool b => cases b <;> rfl
    case int kd' b => cases b <;> rfl
    case ptr l' x' =>
      show bIf (Nat.beq l l') (bIf (Nat.beq x x') k .bad) .bad = bIf (Nat.beq l l' && Nat.beq x x') k .bad
      cases Nat.beq l l' <;> cases Nat.beq x x' <;> rfl
    all_goals rfl
  all_goals exact hd
theorem slowA_good (j : Nat) (d : List DF) (tab : Tab) (t : Tm) (h : Hp) (n : Nat) (k : Res) : ((slowA P G ops j).go (.mk cS d tab) (encM D t) (encH D h) n k).val = isTrue (againC P G ops t ⟨h, n, tab⟩ j) k.val := by
  show (bIf (againCR (scott D) P G ops (encM D t) (eM (encH D) ⟨h, n, tab⟩) j).val k .bad).val = _
  rw [againCR_val (law D), val_bIf]
  cases againC P G ops t ⟨h, n, tab⟩ j <;> rfl
theorem again_good (j : Nat) (d : List DF) (tab : Tab) (t : Tm) (h : Hp) (n : Nat) (k : Res) : ((againS P P.info? G ops j).go (.mk cS d tab) (encM D t) (encH D h) n k).val = isTrue (againC P G ops t ⟨h, n, tab⟩ j) k.val := by
  unfold againS
  split
  · rename_i o ho
    split
    · rename_i hg
      split
      · rename_i dd hd
        split
        · rename_i ty x hop
          split
          · rename_i ha
            have ha : aggT P ty = some false := ha
            obtain ⟨dst, op, type, pos, after, guard⟩ := o
            simp only at hg hd hop
            subst hg; subst hd; subst hop
            have e : againC P G ops t ⟨h, n, tab⟩ j = getK t dd fun v => getO G x t fun p => asPtr p fun b off => loadC P ty b off h fun v' => cvBeq v v' := by
              simp only [againC, ho, guardC, floatC]
            rw [e]
            simp only [loadA, opened_eq, go_mk, gT_eq, getKR_val, getS_eq, val_enc, gH_eq]
            rcases getK_or t dd with ⟨v, hv⟩ | hv <;> simp only [hv] <;> try rfl
            rcases getO_or G x t with ⟨p, hp⟩ | hp <;> simp only [hp] <;> try rfl
            cases p <;> try rfl
            · rename_i b; cases b <;> rfl
            · rename_i kd a; cases a <;> rfl
            rename_i b i
            simp only [encV_ptr, asPtr, loadC, withCells, ha]
            rcases getK_or h b with ⟨cb, hcb⟩ | hcb <;> simp only [hcb] <;> try rfl
            cases cb <;> try rfl
            rename_i te lo es sz cs
            show ((gT D i).go (encM D cs) (fun w => eqV (encV v) w k)).val = _
            rw [gT_eq, getKR_val]
            simp only [eqV_eq, val_bIf]
            rcases getK_or cs i with ⟨w, hw⟩ | hw <;> simp only [hw] <;> rfl
          · exact slowA_good j d tab t h n k
        · exact slowA_good j d tab t h n k
      · exact slowA_good j d tab t h n k
    · exact slowA_good j d tab t h n k
  · exact slowA_good j d tab t h n k
theorem agains_good (js : List Nat) (R : Bx (OpF D)) (d : List DF) (tab : Tab) (t : Tm) (h : Hp) (n : Nat) (k : KO D) :
    ((againsS P P.info? G ops js R).go (.mk cS d tab) (encM D t) (encH D h) n k).val = isTrue (js.all fun j => againC P G ops t ⟨h, n, tab⟩ j) (R.go (.mk cS d tab) (encM D t) (encH D h) n k).val := by
  induction js with
  | nil => rfl
  | cons j js ih =>
    have e : againsS (D := D) P P.info? G ops (j :: js) R = agK (againS P P.info? G ops j) (againsS P P.info? G ops js R) := rfl
    rw [e]
    simp only [agK, opened_eq, go_mk]
    rw [again_good, ih, List.all_cons]
    cases againC P G ops t ⟨h, n, tab⟩ j <;> cases (js.all fun j => againC P G ops t ⟨h, n, tab⟩ j) <;> rfl
theorem plan_good (hc : CallOK cS cl) (l : List PS) : ∀ (d : List DF) (tab : Tab) (t : Tm) (h : Hp) (n : Nat) (k : KO D),
    ((planS P P.info? G rd ops l).go (.mk cS d tab) (encM D t) (encH D h) n k).val = planC P G rd cl ops l t d ⟨h, n, tab⟩ (onS cS k) := by
  induction l with
  | nil => intros; rfl
  | cons s l ih =>
    intro d tab t h n k
    cases s with
    | fl i =>
      show (Bx.go (match ops[i]? with | some o => seqO (opS P G rd ops o P.info?) (planS P P.info? G rd ops l) | none => .mk fun _ _ _ _ _ => .bad) (.mk cS d tab) (encM D t) (encH D h) n k).val =
        (match ops[i]? with | some o => operC P G rd cl ops o t d ⟨h, n, tab⟩ fun t d m => planC P G rd cl ops l t d m (onS cS k) | none => false)
      split
      · rename_i o ho
        rw [seqO_go, op_good o cS cl hc]
        congr 1
        funext t d m
        exact ih d m.tab t m.h m.n k
      · rfl
    | ch i again =>
      show (Bx.go (match ops[i]? with | some o => seqO (opS P G rd ops o P.info?) (againsS P P.info? G ops again (planS P P.info? G rd ops l)) | none => .mk fun _ _ _ _ _ => .bad) (.mk cS d tab) (encM D t) (encH D h) n k).val =
        (match ops[i]? with | some o => operC P G rd cl ops o t d ⟨h, n, tab⟩ fun t d m => isTrue (again.all fun j => againC P G ops t m j) (planC P G rd cl ops l t d m (onS cS k)) | none => false)
      split
      · rename_i o ho
        rw [seqO_go, op_good o cS cl hc]
        congr 1
        funext t d m
        show ((againsS P P.info? G ops again (planS P P.info? G rd ops l)).go (.mk cS d m.tab) (encM D t) (encH D m.h) m.n k).val = _
        rw [agains_good, ih]
      · rfl

/-! Code -/
noncomputable def onXS (cS : CallS D) (k : KXF D) : KX := fun x t d m => (k x (.mk cS d m.tab) (encM D t) (encH D m.h) m.n).val
theorem loopF_eq {fuel : Nat} {A : Bx (CodeF D)} {body : EvCode}
    (hA : ∀ (d : List DF) (tab : Tab) (t : Tm) (h : Hp) (n : Nat) (k : KXF D), (A.go (.mk cS d tab) (encM D t) (encH D h) n k).val = body t d ⟨h, n, tab⟩ (onXS cS k)) :
    ∀ (d : List DF) (tab : Tab) (t : Tm) (h : Hp) (n : Nat) (k : KXF D), (loopF A fuel (.mk cS d tab) (encM D t) (encH D h) n k).val = loopC body fuel t d ⟨h, n, tab⟩ (onXS cS k) := by
  induction fuel with
  | zero => intros; rfl
  | succ fuel ih =>
    intro d tab t h n k
    show (A.go (.mk cS d tab) (encM D t) (encH D h) n (fun x => CX.rec (motive := fun _ => CodeF D → KXF D → Cx D → TmS D → HS D → Nat → Res) (fun ih k c t h n => ih c t h n k) (fun id _ k => k (.exit id)) (fun _ k => k .ret) x (loopF A fuel) k)).val =
      body t d ⟨h, n, tab⟩ fun x t d m => match x with
      | .normal => loopC body fuel t d m (onXS cS k)
      | .exit id => onXS cS k (.exit id) t d m
      | .ret => onXS cS k .ret t d m
    rw [hA]
    congr 1
    funext x t d m
    cases x with
    | normal => exact ih d m.tab t m.h m.n k
    | exit id => rfl
    | ret => rfl
/-- the drawn regions of a code -/
noncomputable def regsD (c : Code) : List (Array Oper) := Code.rec (motive := fun _ => List (Array Oper)) [] (fun _ ops d => match d with | true => [ops] | false => []) (fun _ _ a b => a ++ b) (fun _ _ _ a b => a ++ b) (fun _ _ a => a) (fun _ a => a)
  (fun _ _ _ _ _ _ => []) (fun _ => []) (fun _ _ => []) (fun _ => []) (fun _ => []) [] (fun _ => []) c
theorem code_good (hc : CallOK cS cl) (fn : FuncId) (chk : Bool) (fuel : Nat) (c : Code) (hD : chk = false → ∀ ops ∈ regsD c, drawOk P ops = true) : ∀ (d : List DF) (tab : Tab) (t : Tm) (h : Hp) (n : Nat) (k : KXF D),
    ((codeS P P.info? G fn rd chk fuel c).go (.mk cS d tab) (encM D t) (encH D h) n k).val = codeC P G fn rd cl fuel c t d ⟨h, n, tab⟩ (onXS cS k) := by
  induction c with
  | skip =>
    intro d tab t h n k
    show ((regS nilO).go (.mk cS d tab) (encM D t) (encH D h) n k).val = _
    simp only [regS, nilO, opened_eq, go_mk]
    all_goals rfl
  | region id ops draw =>
    intro d tab t h n k
    cases draw with
    | false =>
      show ((regS (opsS P P.info? G rd ops ops.toList)).go (.mk cS d tab) (encM D t) (encH D h) n k).val = opsC P G rd cl ops ops.toList t d ⟨h, n, tab⟩ fun t d m => onXS cS k .normal t d m
      simp only [regS, opened_eq, go_mk]
      rw [ops_good hc]; rfl
    | true =>
      show ((match chkD P ops chk with | true => regS (planS P P.info? G rd ops (planOf P ops)) | false => (.mk fun _ _ _ _ _ => .bad) : Bx (CodeF D)).go (.mk cS d tab) (encM D t) (encH D h) n k).val =
        isTrue (drawOk P ops) (planC P G rd cl ops (planOf P ops) t d ⟨h, n, tab⟩ fun t d m => onXS cS k .normal t d m)
      have hc' : chkD P ops chk = drawOk P ops := by
        cases chk with
        | true => rfl
        | false => exact (hD rfl ops (List.mem_singleton.2 rfl)).symm
      rw [hc']
      cases drawOk P ops with
      | false => rfl
      | true =>
        simp only [regS, opened_eq, go_mk]
        rw [plan_good hc]; rfl
  | seq a b iha ihb =>
    have iha := iha fun hc ops ho => hD hc ops (List.mem_append_left _ ho)
    have ihb := ihb fun hc ops ho => hD hc ops (List.mem_append_right _ ho)
    intro d tab t h n k
    show ((seqC (codeS P P.info? G fn rd chk fuel a) (codeS P P.info? G fn rd chk fuel b)).go (.mk cS d tab) (encM D t) (encH D h) n k).val = codeC P G fn rd cl fuel a t d ⟨h, n, tab⟩ fun x t d m => match x with
      | .normal => codeC P G fn rd cl fuel b t d m (onXS cS k)
      | .exit id => onXS cS k (.exit id) t d m
      | .ret => onXS cS k .ret t d m
    simp only [seqC, opened_eq, go_mk]
    rw [iha]
    congr 1
    funext x t d m
    cases x with
    | normal => exact ihb d m.tab t m.h m.n k
    | exit id => rfl
    | ret => rfl
  | cond x a b iha ihb =>
    have iha := iha fun hc ops ho => hD hc ops (List.mem_append_left _ ho)
    have ihb := ihb fun hc ops ho => hD hc ops (List.mem_append_right _ ho)
    intro d tab t h n k
    show ((condC (getS G x) (codeS P P.info? G fn rd chk fuel a) (codeS P P.info? G fn rd chk fuel b)).go (.mk cS d tab) (encM D t) (encH D h) n k).val =
      getO G x t fun v => asBool v fun b' => match b' with | true => codeC P G fn rd cl fuel a t d ⟨h, n, tab⟩ (onXS cS k) | false => codeC P G fn rd cl fuel b t d ⟨h, n, tab⟩ (onXS cS k)
    simp only [condC, opened_eq, go_mk, getS_eq, val_enc, iha, ihb]
    refine congrArg (getO G x t) (funext fun v => ?_)
    cases v <;> try rfl
    · rename_i b; cases b <;> rfl
    · rename_i kd a; cases a <;> rfl
  | block id a iha =>
    have iha := iha fun hc ops ho => hD hc ops ho
    intro d tab t h n k
    show ((blockC id (codeS P P.info? G fn rd chk fuel a)).go (.mk cS d tab) (encM D t) (encH D h) n k).val = codeC P G fn rd cl fuel a t d ⟨h, n, tab⟩ fun x t d m => match x with
      | .normal => onXS cS k .normal t d m
      | .exit j => match Nat.beq j id with | true => onXS cS k .normal t d m | false => onXS cS k (.exit j) t d m
      | .ret => onXS cS k .ret t d m
    simp only [blockC, opened_eq, go_mk]
    rw [iha]
    congr 1
    funext x t d m
    cases x with
    | normal => rfl
    | exit j =>
      show (blockK id k (.exit j) (.mk cS d m.tab) (encM D t) (encH D m.h) m.n).val = _
      simp only [blockK]
      cases Nat.beq j id <;> rfl
    | ret => rfl
  | loop a iha =>
    have iha := iha fun hc ops ho => hD hc ops ho
    intro d tab t h n k
    exact loopF_eq (fun d tab t h n k => iha d tab t h n k) d tab t h n k
  | rangeFunc f ps a b _ _ =>
    intro d tab t h n k
    cases rd with
    | true => rfl
    | false =>
      show (rangeR (scott D) P G fn (unS cS) f ps a b (encM D t) d (eM (encH D) ⟨h, n, tab⟩) (fun x t d m => k x (.mk cS d m.tab) t m.h m.n)).val = _
      rw [rangeR_val (law D) fn hc.eq]
      rfl
  | exit id => intros; rfl
  | scope a _ => intros; rfl
  | label l => intros; rfl
  | goto l => intros; rfl
  | ret => intros; rfl
  | refuse w => intros; rfl
end
end Go.Ev

namespace Go.Ev
section
variable {D : Nat} {P : Program} {G : Nat → Bool} {cS : CallS D} {cl : CallFn}
/-- what is known of the drawn regions -/
def DrawFact (P : Program) (Dr : FuncId → Bool) : Prop := ∀ (f : FuncId) (fn : Func) (c : Code), P.funcs[f]? = some fn → fn.body = some c → Dr f = true → ∀ ops ∈ regsD c, drawOk P ops = true
theorem setArgsS_eq (as : List CV) : ∀ (i : Nat) (t : Tm) (k : TmS D → Res), (setArgsS (encVs as) i (encM D t) k).val = setArgs as i t fun t => (k (encM D t)).val := by
  induction as with
  | nil => intros; rfl
  | cons a as ih =>
    intro i t k
    show ((pT D i).go (encM D t) (encV a) (fun t => fN .bad (Nat.succ i) fun i => setArgsS (encVs as) i t k)).val = setK a t i fun t' => setArgs as (Nat.succ i) t' fun t => (k (encM D t)).val
    rw [pT_eq, setKR_val]
    simp only [fN_eq, ih]
theorem res_good (rs : List ResultVar) (t : Tm) (h : Hp) (n : Nat) (tab : Tab) (k : V → Res) : ((resS (D := D) P rs).go (encM D t) (encH D h) n tab k).val = resultsC P rs t ⟨h, n, tab⟩ fun vs => match vs with | [v] => (k (encV v)).val | vs => (k (encV (.tup vs))).val := by
  unfold resS
  split
  · simp only [opened_eq, go_mk, gT_eq, getKR_val]
    all_goals rfl
  · show (resultsCR (scott D) P rs (encM D t) (eM (encH D) ⟨h, n, tab⟩) _).val = _
    rw [resultsCR_val (law D)]
    congr 1
    funext vs
    match vs with
    | [] => rfl
    | [v] => rfl
    | _ :: _ :: _ => rfl
theorem leave_good (hc : CallOK cS cl) (rs : List ResultVar) (k : V → Tab → HS D → Nat → Res) (d : List DF) (tab : Tab) (t : Tm) (h : Hp) (n : Nat) :
    (leaveC (resS P rs) k (.mk cS d tab) (encM D t) (encH D h) n).val = defersC cl d ⟨h, n, tab⟩ fun m => resultsC P rs t m fun vs => match vs with
      | [v] => (k (encV v) m.tab (encH D m.h) m.n).val
      | vs => (k (encV (.tup vs)) m.tab (encH D m.h) m.n).val := by
  cases d with
  | nil => exact res_good rs t h n tab fun v => k v tab (encH D h) n
  | cons x d =>
    show (defersCR (scott D) (unS cS) (x :: d) (eM (encH D) ⟨h, n, tab⟩) (fun m => (resS P rs).go (encM D t) m.h m.n m.tab fun v => k v m.tab m.h m.n)).val = _
    rw [defersCR_val (law D) hc.eq]
    congr 1
    funext m
    exact res_good rs t m.h m.n m.tab fun v => k v m.tab (encH D m.h) m.n
theorem extCR_val (name : String) (args : List CV) (m : M) (k : CV → Res) : (extCR name args k).val = extC name args m fun v _ => (k v).val := by
  unfold extCR extC
  cases name == "internal/bytealg.IndexByteString" with
  | true =>
    simp only []
    split
    · simp only [isTrueR_val, forceIR_val]
    · rename_i hno
      split
      · exact absurd rfl (hno _ _ _)
      · rfl
  | false =>
    simp only []
    cases name == "internal/abi.NoEscape" with
    | false => rfl
    | true => match args with
      | [] => rfl
      | [_] => rfl
      | _ :: _ :: _ => rfl
theorem extC_m (name : String) (args : List CV) (m : M) (K : CV → M → Bool) : extC name args m K = extC name args m fun v _ => K v m := by
  unfold extC
  rfl
theorem blank_all (n : Nat) : (List.replicate n undefC).all zeroish = true := by
  rw [List.all_eq_true]
  intro x hx
  rw [(List.mem_replicate.1 hx).2]
  rfl
theorem fn_good {Dr : FuncId → Bool} (hD : DrawFact P Dr) (hc : CallOK cS cl) (fuel : Nat) (f : FuncId) (args : List CV) (tab : Tab) (h : Hp) (n : Nat) (k : V → Tab → HS D → Nat → Res) :
    ((fnS P P.info? (fun f => P.funcs[f]?) G Dr fuel f).go cS (encVs args) tab (encH D h) n k).val = callStep P G fuel cl (.func f) args ⟨h, n, tab⟩ fun v m => (k (encV v) m.tab (encH D m.h) m.n).val := by
  have e : callStep P G fuel cl (.func f) args ⟨h, n, tab⟩ (fun v m => (k (encV v) m.tab (encH D m.h) m.n).val) = (match P.funcs[f]? with
      | some fn => match fn.body with
        | some c => setArgs args 0 (blank fn.ntmps) fun t => codeC P G f false cl fuel c t [] ⟨h, n, tab⟩ fun x t d m => match x with
          | .exit _ => false
          | _ => defersC cl d m fun m => resultsC P fn.results.toList t m fun vs => match vs with
            | [v] => (k (encV v) m.tab (encH D m.h) m.n).val
            | vs => (k (encV (.tup vs)) m.tab (encH D m.h) m.n).val
        | none => extC fn.name args ⟨h, n, tab⟩ fun v m => (k (encV v) m.tab (encH D m.h) m.n).val
      | none => false) := rfl
  rw [e]
  unfold fnS
  dsimp only
  cases hfn : P.funcs[f]? with
  | none => rfl
  | some fn =>
    cases hc' : fn.body with
    | none =>
      simp only [hc', go_mk, decVs_enc]
      rw [extCR_val _ _ ⟨h, n, tab⟩]
      exact (extC_m fn.name args ⟨h, n, tab⟩ fun v m => (k (encV v) m.tab (encH D m.h) m.n).val).symm
    | some c =>
      simp only [hc', opened_eq, go_mk]
      have hb : (blankS (D := D) fn.ntmps).go = encM D (blank fn.ntmps) := ofListB_go D _ (blank_all _)
      rw [hb, setArgsS_eq]
      congr 1
      funext t
      rw [code_good hc f _ fuel c (fun hx => hD f fn c hfn hc' (by simpa using hx))]
      congr 1
      funext x t d m
      cases x with
      | normal => exact leave_good hc _ k d m.tab t m.h m.n
      | exit id => rfl
      | ret => exact leave_good hc _ k d m.tab t m.h m.n
theorem yld_good (hc : CallOK cS cl) (fuel l : Nat) (args : List CV) (tab : Tab) (h : Hp) (n : Nat) (k : V → Tab → HS D → Nat → Res) :
    (yldF P P.info? G fuel cS l (encVs args) tab (encH D h) n k).val = callStep P G fuel cl (.yield l) args ⟨h, n, tab⟩ fun v m => (k (encV v) m.tab (encH D m.h) m.n).val := by
  have e : callStep P G fuel cl (.yield l) args ⟨h, n, tab⟩ (fun v m => (k (encV v) m.tab (encH D m.h) m.n).val) = yieldP (fun fn c => codeC P G fn true cl fuel c) l args ⟨h, n, tab⟩ fun v m => (k (encV v) m.tab (encH D m.h) m.n).val := rfl
  rw [e]
  unfold yldF
  rw [decVs_enc]
  have := yieldR_val (law D) (cdX := fun fn c t d m k => (codeS P P.info? G fn true true fuel c).go (.mk cS d m.tab) t m.h m.n fun x c t h n => Cx.rec (motive := fun _ => Res) (fun _ d tab => k x t d ⟨h, n, tab⟩) c)
    (cd := fun fn c => codeC P G fn true cl fuel c) (fun fn c t d m k => by
      show ((codeS P P.info? G fn true true fuel c).go (.mk cS d m.tab) (encM D t) (encH D m.h) m.n _).val = _
      rw [code_good hc fn true fuel c (fun hx => by cases hx)]
      rfl) l args ⟨h, n, tab⟩ fun v m => k (encV v) m.tab m.h m.n
  exact this
theorem step_good {Dr : FuncId → Bool} (hD : DrawFact P Dr) (hc : CallOK cS cl) (fuel : Nat) : CallOK (stepS P P.info? (fun f => P.funcs[f]?) G Dr fuel cS) (callStep P G fuel cl) := by
  intro f args m k
  cases f with
  | func g => exact fn_good hD hc fuel g args m.tab m.h m.n k
  | method s => rfl
  | methodOf t s => rfl
  | via t p g b => rfl
  | yield l => exact yld_good hc fuel l args m.tab m.h m.n k
theorem callS_ok {Dr : FuncId → Bool} (hD : DrawFact P Dr) (fuel depth : Nat) : CallOK (callS (D := D) P P.info? (fun f => P.funcs[f]?) G Dr fuel depth) (callC P G fuel depth) := by
  induction depth with
  | zero => intro f args m k; rfl
  | succ depth ih => exact step_good hD ih fuel

/-- a function whose answer is known -/
noncomputable def ovrS (aw : FuncId) (call : CallS D) : CallS D := fun f args tab h n k =>
  Fn.rec (motive := fun _ => Res) (fun g => Bool.rec (motive := fun _ => Res) (call (.func g) args tab h n k)
    (List.rec (motive := fun _ => Res) (k vTrue tab h n) (fun _ _ _ => .bad) args) (Nat.beq g aw)) (fun s => call (.method s) args tab h n k)
    (fun t s => call (.methodOf t s) args tab h n k) (fun t p g b => call (.via t p g b) args tab h n k) (fun l => call (.yield l) args tab h n k) f
theorem ovrS_ok (aw : FuncId) (hc : CallOK cS cl) : CallOK (ovrS aw cS) (ovr aw cl) := by
  intro f args m k
  cases f with
  | func g =>
    show (Bool.rec (motive := fun _ => Res) _ _ (Nat.beq g aw) : Res).val = (match Nat.beq g aw with | true => _ | false => _)
    cases Nat.beq g aw with
    | false => exact hc _ args m k
    | true => cases args <;> rfl
  | method s => exact hc _ args m k
  | methodOf t s => exact hc _ args m k
  | via t p g b => exact hc _ args m k
  | yield l => exact hc _ args m k
noncomputable def isTS (D : Nat) (v : V) (_ : Tab) (_ : HS D) (_ : Nat) : Res := v .ok .bad fI fS fS fL fA fO
theorem isTS_eq (v : CV) (m : M) : (isTS D (encV v) m.tab (encH D m.h) m.n).val = isT v m := by
  cases v <;> try rfl
  · rename_i b; cases b <;> rfl
  · rename_i kd a; cases a <;> rfl
end
/-- a table laid as a trie -/
noncomputable def infoT (P : Program) (T : Tr TypeInfo) (t : TypeId) : Option TypeInfo := match T.get? t with | some i => some i | none => P.info? t
theorem infoT_eq (P : Program) (t : TypeId) : infoT P (ofList P.types.toList) t = P.info? t := by
  unfold infoT
  rw [ofList_get]
  cases h : P.types.toList[t]? with
  | none => rfl
  | some i =>
    have ht : t < P.types.size := by
      rcases Nat.lt_or_ge t P.types.toList.length with h' | h'
      · simpa using h'
      · rw [List.getElem?_eq_none h'] at h; cases h
    have h' : P.types[t]? = some i := by simpa using h
    show some i = Tables.info? P.toTables t
    unfold Tables.info?
    rw [if_pos ht, h']
theorem funcT_eq (P : Program) (f : FuncId) : (ofList P.funcs.toList).get? f = P.funcs[f]? := by rw [ofList_get]; simp
/-- a run of the Scott evaluator is one of the plain one -/
theorem run_plain {D : Nat} {P : Program} {G : Nat → Bool} {Dr : FuncId → Bool} {I : TypeId → Option TypeInfo} {F : FuncId → Option Func} (hI : ∀ t, I t = P.info? t) (hF : ∀ f, F f = P.funcs[f]?) (hD : DrawFact P Dr) {fuel depth : Nat} {f : Fn} {args : List CV} {tab : Tab} {h : Hp} {n : Nat}
    (hh : (callS P I F G Dr fuel depth f (encVs args) tab (encH D h) n (isTS D)).val = true) : callC P G fuel depth f args ⟨h, n, tab⟩ isT = true := by
  have h1 : I = P.info? := funext hI
  have h2 : F = fun f => P.funcs[f]? := funext hF
  subst h1; subst h2
  have := callS_ok (D := D) (G := G) hD fuel depth f args ⟨h, n, tab⟩ (isTS D)
  rw [this] at hh
  simpa only [isTS_eq] using hh
theorem run_step {D : Nat} {P : Program} {G : Nat → Bool} {Dr : FuncId → Bool} {I : TypeId → Option TypeInfo} {F : FuncId → Option Func} (hI : ∀ t, I t = P.info? t) (hF : ∀ f, F f = P.funcs[f]?) (hD : DrawFact P Dr) {fuel depth aw : Nat} {f : Fn} {args : List CV} {tab : Tab} {h : Hp} {n : Nat}
    (hh : (stepS P I F G Dr fuel (ovrS aw (callS P I F G Dr fuel depth)) f (encVs args) tab (encH D h) n (isTS D)).val = true) : callStep P G fuel (ovr aw (callC P G fuel depth)) f args ⟨h, n, tab⟩ isT = true := by
  have h1 : I = P.info? := funext hI
  have h2 : F = fun f => P.funcs[f]? := funext hF
  subst h1; subst h2
  have := step_good (D := D) (G := G) hD (ovrS_ok aw (callS_ok (G := G) hD fuel depth)) fuel f args ⟨h, n, tab⟩ (isTS D)
  rw [this] at hh
  simpa only [isTS_eq] using hh
end Go.Ev

namespace Go.Ev
/-! Calls whose answers are known: constants in, constants out -/
def plainCV : CV → Bool
  | .bool _ | .int .. | .str .. | .ptr0 | .sl0 | .map0 | .fn0 | .ifc0 => true
  | _ => false
def constCV : CV → Bool
  | .tup l => l.all plainCV
  | .agg l => l.all plainCV
  | c => plainCV c
theorem VR.plain {σ σ' : Sg} {e e' : Env} {c : CV} {v : Value} (h : VR σ e c v) (hc : plainCV c = true) : VR σ' e' c v := by
  cases h <;> first | (cases hc; done) | skip
  · exact .bool _
  · exact .int _ _
  · exact .str _ (by assumption) (by assumption)
  · exact .ptr0
  · exact .sl0
  · exact .map0
  · exact .fn0
  · exact .ifc0
theorem VR.const {σ σ' : Sg} {e e' : Env} {c : CV} {v : Value} (h : VR σ e c v) (hc : constCV c = true) : VR σ' e' c v := by
  cases h
  case agg hl hv => exact .agg hl fun i c v h1 h2 => (hv i c v h1 h2).plain (List.all_eq_true.1 hc c (List.mem_of_getElem? h1))
  case tup hl hv => exact .tup hl fun i c v h1 h2 => (hv i c v h1 h2).plain (List.all_eq_true.1 hc c (List.mem_of_getElem? h1))
  all_goals first | (cases hc; done) | skip
  · exact .bool _
  · exact .int _ _
  · exact .str _ (by assumption) (by assumption)
  · exact .ptr0
  · exact .sl0
  · exact .map0
  · exact .fn0
  · exact .ifc0
theorem LR.plain {σ σ' : Sg} {e e' : Env} {cs : List CV} {vs : List Value} (h : LR σ e cs vs) (hc : cs.all plainCV = true) : LR σ' e' cs vs :=
  ⟨h.1, fun i c v h1 h2 => (h.2 i c v h1 h2).plain (List.all_eq_true.1 hc c (List.mem_of_getElem? h1))⟩
/-- rows: what goes in, what comes out -/
abbrev KRows := List (List CV × CV)
def rowEq : List CV → List CV → Bool
  | [], [] => true
  | x :: xs, y :: ys => match cvBeq x y with | true => rowEq xs ys | false => false
  | _, _ => false
noncomputable def findR (rows : KRows) (args : List CV) : Option CV := lrec none (fun r _ ih => match rowEq r.1 args with | true => some r.2 | false => ih) rows
theorem cvBeq_plain {x y : CV} (h : cvBeq x y = true) (hx : plainCV x = true) : x = y := by
  cases x <;> first | (cases hx; done) | skip
  all_goals cases y <;> first | (cases h; done) | skip
  · have : (_ == _) = true := h
    simpa using this
  · rename_i k a k' b
    have : (decide (k = k') && eqI a b) = true := h
    simp only [Bool.and_eq_true, decide_eq_true_eq, eqI_eq] at this
    rw [this.1, this.2]
  · rename_i l c l' c'
    have : (Nat.beq l l' && Nat.beq c c') = true := h
    simp only [Bool.and_eq_true, Nat.beq_eq] at this
    rw [this.1, this.2]
  all_goals rfl
theorem rowEq_eq : ∀ {xs ys : List CV}, rowEq xs ys = true → xs.all plainCV = true → xs = ys
  | [], [], _, _ => rfl
  | [], _ :: _, h, _ => by cases h
  | _ :: _, [], h, _ => by cases h
  | x :: xs, y :: ys, h, hx => by
    simp only [rowEq] at h
    split at h
    · rename_i h1
      simp only [List.all_cons, Bool.and_eq_true] at hx
      rw [cvBeq_plain h1 hx.1, rowEq_eq h hx.2]
    · cases h
theorem findR_mem : ∀ {rows : KRows} {args : List CV} {v : CV}, findR rows args = some v → ∃ r ∈ rows, rowEq r.1 args = true ∧ r.2 = v
  | [], _, _, h => by cases h
  | r :: rows, args, v, h => by
    have e : findR (r :: rows) args = match rowEq r.1 args with | true => some r.2 | false => findR rows args := rfl
    rw [e] at h
    split at h
    · rename_i h1; exact ⟨r, by simp, h1, Option.some.inj h⟩
    · obtain ⟨r', h1, h2⟩ := findR_mem h; exact ⟨r', by simp [h1], h2⟩
noncomputable section
def ovrC (T : FuncId → Option KRows) (call : CallFn) : CallFn := fun f args m k => match f with
  | .func g => match T g with
    | some rows => match findR rows args with
      | some v => k v m
      | none => call (.func g) args m k
    | none => call (.func g) args m k
  | f => call f args m k
def isV (r : CV) : KA := fun v _ => cvBeq' r v
  where cvBeq' (r v : CV) : Bool := match r with
    | .tup l => match v with | .tup l' => rowEq l l' | _ => false
    | .agg l => match v with | .agg l' => rowEq l l' | _ => false
    | r => match plainCV r with | true => cvBeq r v | false => false
theorem isV_inv {r v : CV} {m : M} (h : isV r v m = true) (hc : constCV r = true) : r = v := by
  unfold isV isV.cvBeq' at h
  split at h
  · split at h
    · rw [rowEq_eq h hc]
    · cases h
  · split at h
    · rw [rowEq_eq h hc]
    · cases h
  · split at h
    · exact cvBeq_plain h (by assumption)
    · cases h
end
section
variable {P : Program} {σ : Sg} {G : Nat → Bool}
/-- what a table of known answers must show -/
def RowsOk (P : Program) (T : FuncId → Option KRows) : Prop :=
  ∀ (σ : Sg) g rows, T g = some rows → ∀ r ∈ rows, r.1.all plainCV = true ∧ constCV r.2 = true ∧ ∃ (call' : CallFn) (h0 : Hp) (n0 : Nat), SoundCall P σ (fun _ => false) call' ∧ call' (.func g) r.1 ⟨h0, n0, ⟨[], []⟩⟩ (isV r.2) = true
theorem ovrC_ok {call : CallFn} (hcall : SoundCall P σ G call) {T : FuncId → Option KRows} (hT : RowsOk P T) : SoundCall P σ G (ovrC T call) := by
  intro f args m k hh hs
  simp only [ovrC] at hh
  split at hh
  · rename_i g
    split at hh
    · rename_i rows hrows
      split at hh
      · rename_i v hv
        obtain ⟨r, hr, hre, rfl⟩ := findR_mem hv
        obtain ⟨hp, hc, call', h0, n0, hsound, hrun⟩ := hT sg0 g rows hrows r hr
        obtain rfl := rowEq_eq hre hp
        obtain ⟨v, m', h1, _, h2⟩ := hsound _ _ _ _ hrun ⟨fun s lo hi h => by simp at h, fun x hx => by cases hx⟩
        have hv := isV_inv h1 hc
        subst hv
        refine ⟨r.2, m, hh, hs, fun e w f' vs kd c cs hR hf hv hk => ?_⟩
        cases hf
        obtain ⟨v', w', e', q1, q2, q3, q4⟩ := h2 (fun _ => none) w (.func g) vs kd c cs (RL.empty _ _ _ _ (fun r o hr => by cases hr) fun _ => rfl) (.func g) (hv.plain hp) hk
        have hfr : ∀ r, r < w.heap.size → w'.heap[r]? = w.heap[r]? := fun r hr => q4.frm r hr (fun b p hb => by cases hb)
        exact ⟨v', w', e, q1, q2.const hc, hR.frame hfr, ⟨.refl e, Nat.le_refl _, fun _ _ h => ⟨h, rfl⟩, q4.siz, fun r hr _ => hfr r hr, fun b p h hl => .inl ⟨b, p, h, hl, rfl⟩, q4.tap, q4.os, q4.out⟩⟩
      · exact hcall _ _ _ _ hh hs
    · exact hcall _ _ _ _ hh hs
  · exact hcall _ _ _ _ hh hs
end
section
variable {D : Nat} {cS : CallS D} {cl : CallFn}
/-- the same, at the staged evaluator -/
noncomputable def ovrCS (T : FuncId → Option KRows) (call : CallS D) : CallS D := fun f args tab h n k =>
  Fn.rec (motive := fun _ => Res) (fun g => Option.rec (motive := fun _ => Res) (call (.func g) args tab h n k)
    (fun rows => decVs args fun cs => Option.rec (motive := fun _ => Res) (call (.func g) args tab h n k) (fun v => encK v fun v => k v tab h n) (findR rows cs)) (T g)) (fun s => call (.method s) args tab h n k)
    (fun t s => call (.methodOf t s) args tab h n k) (fun t p g b => call (.via t p g b) args tab h n k) (fun l => call (.yield l) args tab h n k) f
theorem ovrCS_ok (T : FuncId → Option KRows) (hc : CallOK cS cl) : CallOK (ovrCS T cS) (ovrC T cl) := by
  intro f args m k
  cases f with
  | func g =>
    show (Option.rec (motive := fun _ => Res) _ _ (T g) : Res).val = (match T g with | some rows => _ | none => _)
    cases T g with
    | none => exact hc _ args m k
    | some rows =>
      show (decVs (encVs args) fun cs => (Option.rec (motive := fun _ => Res) _ _ (findR rows cs) : Res)).val = (match findR rows args with | some v => _ | none => _)
      rw [decVs_enc]
      cases findR rows args with
      | none => exact hc _ args m k
      | some v =>
        show (encK v fun v => k v m.tab (encH D m.h) m.n).val = _
        rw [encK_eq]
  | method s => exact hc _ args m k
  | methodOf t s => exact hc _ args m k
  | via t p g b => exact hc _ args m k
  | yield l => exact hc _ args m k
end
end Go.Ev

namespace Go.Ev
/-! Calls whose answers are new symbols: a function that is known by its contract -/
noncomputable section
def ovrR (rf : FuncId) (ans : List CV → Option CV) (call : CallFn) : CallFn := fun f args m k => match f with
  | .func g => match Nat.beq g rf with
    | true => match ans args with
      | some v => k v m
      | none => call (.func g) args m k
    | false => call (.func g) args m k
  | f => call f args m k
end
section
variable {P : Program} {σ : Sg} {G : Nat → Bool}
/-- the contract: of the body, whatever frame it runs in -/
def RepOk (P : Program) (σ : Sg) (rf : FuncId) (ans : List CV → Option CV) : Prop := ∃ fn c, P.funcs[rf]? = some fn ∧ fn.body = some c ∧
  ∀ args v, ans args = some v → ∀ (e : Env) (vs : Array Value) (w : World), LR σ e args vs.toList → (∀ r o, σ.fx r = some o → w.heap[r]? = some o) →
    c.wp P (bodyPost P fn fun en w' => ∃ v', en = .returned v' ∧ VR σ e v v' ∧ RowKit.Below w.heap.size w w') { tmps := vs ++ Array.replicate (fn.ntmps - vs.size) undef, defers := [] } w
theorem ovrR_ok (hng : NoCount P) {call : CallFn} (hcall : SoundCall P σ G call) {rf : FuncId} {ans : List CV → Option CV} (hA : RepOk P σ rf ans) : SoundCall P σ G (ovrR rf ans call) := by
  intro f args m k hh hs
  simp only [ovrR] at hh
  split at hh
  · rename_i g
    split at hh
    · rename_i hg
      obtain rfl : g = rf := by simpa using hg
      split at hh
      · rename_i v hv
        refine ⟨v, m, hh, hs, fun e w f' us kd c cs hR hf hl hk => ?_⟩
        cases hf
        obtain ⟨fn, cb, hfn, hbody, hwp⟩ := hA
        have hkd : kd = .normal ∨ (kd = .deferred ∧ c.mode = .returning) := hk.imp id (fun h => ⟨h.1, h.2.1⟩)
        let b : Frame := { fn := g, tmps := #[], todo := [], defers := [], mode := .run, kind := kd }
        have henter : Frame.enter P g us kd = b.at { tmps := us ++ Array.replicate (fn.ntmps - us.size) undef, defers := [] } [.code cb] := by
          simp [Frame.enter, Frame.at, hfn, hbody, b]
        obtain ⟨en, a', w', hq, harr⟩ := hwp args v hv e us w hl (fun r o hr => (hR.fix r o hr).1) b [] (c :: cs)
        have fin : ∀ todo, a'.defers = [] → (∃ u, (results fn a'.tmps).run P w' = .ok u w' ∧ (∃ v', Ending.returned u = .returned v' ∧ VR σ e v v' ∧ RowKit.Below w.heap.size w w')) →
            Steps P (lone (b.at { tmps := us ++ Array.replicate (fn.ntmps - us.size) undef, defers := [] } [.code cb]) (c :: cs) w) (lone { b.at a' todo with mode := .returning } (c :: cs) w') →
            ∃ v' w' e', CallGoes P kd c cs (CallSem (.func g) us) w v' w' ∧ VR σ e' v v' ∧ RL σ G e' m w' ∧ Kept e m w e' m w' := by
          intro todo hd hres hst
          obtain ⟨u, hr, v', hv', hvr, hb⟩ := hres
          injection hv' with hv'
          subst hv'
          have hfr : ∀ r, r < w.heap.size → w'.heap[r]? = w.heap[r]? := fun r hr => hb.block r hr
          refine ⟨u, w', e, ?_, hvr, hR.frame hfr, ⟨.refl e, Nat.le_refl _, fun _ _ h => ⟨h, rfl⟩, hb.size, fun r hr _ => hfr r hr, fun b p h hl => .inl ⟨b, p, h, hl, rfl⟩, hb.tape, hb.os, hb.output⟩⟩
          simp only [CallGoes, CallSem, callFunc_body hng hfn hbody]
          rw [henter]
          have e1 : ({ b.at a' todo with mode := .returning } : Frame) = rf b a'.tmps [] todo := by
            simp [Frame.at, Ev.rf, fr, hd, b]
          rw [e1] at hst
          exact hst.trans (.one (st_return (b := b) hfn hr hkd))
        cases en with
        | normal => exact fin [] hq.1 hq.2 (harr.trans (.one step_end))
        | ret => obtain ⟨todo, hst⟩ := harr; exact fin todo hq.1 hq.2 hst
        | panic chain => obtain ⟨_, v', h, _⟩ := hq; cases h
        | exit id => exact hq.elim
        | goto l => exact hq.elim
        | outgrown => obtain ⟨v', h, _⟩ := hq; cases h
      · exact hcall _ _ _ _ hh hs
    · exact hcall _ _ _ _ hh hs
  · exact hcall _ _ _ _ hh hs
end
section
variable {D : Nat} {cS : CallS D} {cl : CallFn}
/-- the same, at the staged evaluator -/
noncomputable def ovrRS (rf : FuncId) (ans : List CV → Option CV) (call : CallS D) : CallS D := fun f args tab h n k =>
  Fn.rec (motive := fun _ => Res) (fun g => bIf (Nat.beq g rf) (decVs args fun cs => Option.rec (motive := fun _ => Res) (call (.func g) args tab h n k) (fun v => encK v fun v => k v tab h n) (ans cs)) (call (.func g) args tab h n k)) (fun s => call (.method s) args tab h n k)
    (fun t s => call (.methodOf t s) args tab h n k) (fun t p g b => call (.via t p g b) args tab h n k) (fun l => call (.yield l) args tab h n k) f
theorem ovrRS_ok (rf : FuncId) (ans : List CV → Option CV) (hc : CallOK cS cl) : CallOK (ovrRS rf ans cS) (ovrR rf ans cl) := by
  intro f args m k
  cases f with
  | func g =>
    show (bIf (Nat.beq g rf) (decVs (encVs args) fun cs => (Option.rec (motive := fun _ => Res) _ _ (ans cs) : Res)) _).val = (match Nat.beq g rf with | true => _ | false => _)
    cases hg : Nat.beq g rf with
    | false => exact hc _ args m k
    | true =>
      show (decVs (encVs args) fun cs => (Option.rec (motive := fun _ => Res) _ _ (ans cs) : Res)).val = (match ans args with | some v => _ | none => _)
      rw [decVs_enc]
      cases ans args with
      | none => exact hc _ args m k
      | some v =>
        show (encK v fun v => k v m.tab (encH D m.h) m.n).val = _
        rw [encK_eq]
  | method s => exact hc _ args m k
  | methodOf t s => exact hc _ args m k
  | via t p g b => exact hc _ args m k
  | yield l => exact hc _ args m k
end
noncomputable section
/-- the evaluator, with known answers and known contracts at every depth -/
def callR (P : Program) (G : Nat → Bool) (T : FuncId → Option KRows) (rf : FuncId) (ans : List CV → Option CV) (fuel depth : Nat) : CallFn :=
  Nat.rec (motive := fun _ => CallFn) (fun _ _ _ _ => false) (fun _ call => ovrR rf ans (ovrC T (callStep P G fuel call))) depth
def callRS {D : Nat} (P : Program) (I : TypeId → Option TypeInfo) (F : FuncId → Option Func) (G : Nat → Bool) (Dr : FuncId → Bool) (T : FuncId → Option KRows) (rf : FuncId) (ans : List CV → Option CV) (fuel depth : Nat) : CallS D :=
  Nat.rec (motive := fun _ => CallS D) (fun _ _ _ _ _ _ => .bad) (fun _ call => ovrRS rf ans (ovrCS T (stepS P I F G Dr fuel call))) depth
end
section
variable {P : Program} {G : Nat → Bool} {T : FuncId → Option KRows} {σ : Sg} {rf : FuncId} {ans : List CV → Option CV}
theorem callR_sound (hng : NoCount P) (hx : ExtFact P) (hT : RowsOk P T) (hA : RepOk P σ rf ans) (fuel depth : Nat) : SoundCall P σ G (callR P G T rf ans fuel depth) := by
  induction depth with
  | zero => intro f args m k hh _; cases hh
  | succ depth ih => exact ovrR_ok hng (ovrC_ok (callStep_ok hng (ext_ok hng hx) ih (fun rd => draw_ok ih rd) fuel) hT) hA
variable {D : Nat} {I : TypeId → Option TypeInfo} {F : FuncId → Option Func} {Dr : FuncId → Bool}
theorem callRS_ok (hD : DrawFact P Dr) (fuel depth : Nat) : CallOK (callRS (D := D) P P.info? (fun f => P.funcs[f]?) G Dr T rf ans fuel depth) (callR P G T rf ans fuel depth) := by
  induction depth with
  | zero => intro f args m k; rfl
  | succ depth ih => exact ovrRS_ok rf ans (ovrCS_ok T (step_good (G := G) hD ih fuel))
/-- a law's run -/
theorem runR_step (hI : ∀ t, I t = P.info? t) (hF : ∀ f, F f = P.funcs[f]?) (hD : DrawFact P Dr) {fuel depth : Nat} {f : Fn} {args : List CV} {tab : Tab} {h : Hp} {n : Nat}
    (hh : (stepS (D := D) P I F G Dr fuel (callRS P I F G Dr T rf ans fuel depth) f (encVs args) tab (encH D h) n (isTS D)).val = true) : callStep P G fuel (callR P G T rf ans fuel depth) f args ⟨h, n, tab⟩ isT = true := by
  have h1 : I = P.info? := funext hI
  have h2 : F = fun f => P.funcs[f]? := funext hF
  subst h1; subst h2
  have := step_good (D := D) (G := G) hD (callRS_ok (D := D) (G := G) (T := T) (rf := rf) (ans := ans) hD fuel depth) fuel f args ⟨h, n, tab⟩ (isTS D)
  rw [this] at hh
  simpa only [isTS_eq] using hh
theorem isT_isV : isT = isV (.bool true) := by
  funext v m
  cases v <;> first | rfl | skip
  rename_i b
  cases b <;> rfl
end
end Go.Ev

namespace Go.Ev
/-! Calls upon a few closed blocks: seen by runs at a small memory, used in a bigger one -/
/-- closed cells: constants, and addresses of the blocks of N -/
def clCV (N : Nat → Bool) : CV → Bool
  | .ptr b _ => N b
  | .sl b _ _ _ => N b
  | c => plainCV c
theorem VR.closed {σ σ' : Sg} {e e' : Env} {N : Nat → Bool} {c : CV} {v : Value} (h : VR σ e c v) (hc : clCV N c = true)
    (he : ∀ b p, N b = true → e b = some p → ∃ p', e' b = some p' ∧ p'.r = p.r ∧ p'.d = p.d ∧ p'.s = p.s) : VR σ' e' c v := by
  cases h <;> first | (cases hc; done) | skip
  · exact .bool _
  · exact .int _ _
  · exact .str _ (by assumption) (by assumption)
  · exact .ptr0
  · rename_i p h
    obtain ⟨p', h1, h2, h3, _⟩ := he _ _ hc h
    rw [← h2, ← h3]
    exact .ptr h1
  · exact .sl0
  · rename_i p h
    obtain ⟨p', h1, h2, h3, h4⟩ := he _ _ hc h
    rw [← h2, ← h3, ← h4]
    exact .sl h1
  · exact .map0
  · exact .fn0
  · exact .ifc0
/-- a block, written out -/
structure FB where
  b : Nat
  te : Nat
  lo : Bool
  es : Nat
  l : List CV
noncomputable def FB.cb (f : FB) : CB := .cells f.te f.lo f.es f.l.length (ofList f.l)
def IsB (f : FB) (cb : CB) : Prop := ∃ cs, cb = .cells f.te f.lo f.es f.l.length cs ∧ ∀ i, i < f.l.length → cs.get? i = f.l[i]?
def IsF (F : List FB) (h : Hp) : Prop := ∀ f, f ∈ F → ∃ cb, h.get? f.b = some cb ∧ IsB f cb
noncomputable def rowAll (cs : Tr CV) : Nat → List CV → Bool
  | _, [] => true
  | i, c :: l => match cs.get? i with
    | some x => (match cvBeq c x with | true => rowAll cs (i + 1) l | false => false)
    | none => false
noncomputable def chkB (f : FB) (cb : CB) : Bool := match cb with
  | .cells te lo es sz cs => Nat.beq te f.te && ((lo == f.lo) && (Nat.beq es f.es && (Nat.beq sz f.l.length && rowAll cs 0 f.l)))
  | _ => false
noncomputable def chkF (F : List FB) (h : Hp) : Bool := lrec true (fun f _ ih => match h.get? f.b with | some cb => (match chkB f cb with | true => ih | false => false) | none => false) F
theorem rowAll_get {cs : Tr CV} : ∀ {l : List CV} {i : Nat}, rowAll cs i l = true → ∀ j, j < l.length → cs.get? (i + j) = l[j]?
  | [], i, _, j, hj => by simp at hj
  | c :: l, i, h, j, hj => by
    simp only [rowAll] at h
    split at h
    · rename_i x hx
      split at h
      · rename_i hc
        cases j with
        | zero => simp only [Nat.add_zero, List.getElem?_cons_zero]; rw [hx, cvBeq_eq c x hc]
        | succ j =>
          have := rowAll_get h j (by simpa using hj)
          rw [List.getElem?_cons_succ, ← this]
          congr 1
          omega
      · cases h
    · cases h
theorem chkB_is {f : FB} {cb : CB} (h : chkB f cb = true) : IsB f cb := by
  cases cb with
  | cells te lo es sz cs =>
    simp only [chkB, Bool.and_eq_true, Nat.beq_eq, beq_iff_eq] at h
    obtain ⟨rfl, rfl, rfl, rfl, h⟩ := h
    exact ⟨cs, rfl, fun i hi => by have := rowAll_get h i hi; rwa [Nat.zero_add] at this⟩
  | _ => cases h
theorem chkF_is : ∀ {F : List FB} {h : Hp}, chkF F h = true → IsF F h
  | [], _, _ => fun f hf => by cases hf
  | f :: F, h, hh => by
    have e : chkF (f :: F) h = match h.get? f.b with | some cb => (match chkB f cb with | true => chkF F h | false => false) | none => false := rfl
    rw [e] at hh
    split at hh
    · rename_i cb hcb
      split at hh
      · rename_i hb
        intro g hg
        rcases List.mem_cons.1 hg with rfl | hg
        · exact ⟨cb, hcb, chkB_is hb⟩
        · exact chkF_is hh g hg
      · cases hh
    · cases hh
def Env.only (e : Env) (N : Nat → Bool) : Env := fun b => match N b with | true => e b | false => none
theorem Env.only_some {e : Env} {N : Nat → Bool} {b : Nat} {p : Place} (h : e.only N b = some p) : N b = true ∧ e b = some p := by
  unfold Env.only at h
  split at h
  · exact ⟨by assumption, h⟩
  · cases h
theorem Env.only_in {e : Env} {N : Nat → Bool} {b : Nat} (h : N b = true) : e.only N b = e b := by simp [Env.only, h]
theorem BR.isB {σ σ' : Sg} {e e' : Env} {N : Nat → Bool} {f : FB} {cb cb' : CB} {p p' : Place} {o : Obj} (h : BR σ e cb p o) (h1 : IsB f cb) (h2 : IsB f cb') (hcl : ∀ c, c ∈ f.l → clCV N c = true)
    (hout : ∀ te lo es sz cs, cb' = .cells te lo es sz cs → ∀ i, sz ≤ i → cs.get? i = none) (hd : p'.d = p.d) (hs : p'.s = p.s)
    (he : ∀ b p, N b = true → e b = some p → ∃ p', e' b = some p' ∧ p'.r = p.r ∧ p'.d = p.d ∧ p'.s = p.s) : BR σ' e' cb' p' o := by
  obtain ⟨cs, rfl, g1⟩ := h1
  obtain ⟨cs', rfl, g2⟩ := h2
  cases h with
  | cells hsz hex ho hin hfz hte =>
    refine .cells (by rw [hd, hs]; exact hsz) (by rw [hd, hs]; exact hex) (hout _ _ _ _ _ rfl) (fun i hi => ?_) hfz hte
    obtain ⟨cv, v, a, b, c⟩ := hin i hi
    refine ⟨cv, v, by rw [g2 i hi, ← g1 i hi]; exact a, by rw [hd]; exact b, c.closed (hcl cv ?_) he⟩
    rw [g1 i hi] at a
    exact List.mem_of_getElem? a
/-- the small memory -/
noncomputable def smallH (n : Nat) (F : List FB) : Hp := ofList ((List.range n).map fun b => lrec CB.none (fun f _ ih => match Nat.beq f.b b with | true => f.cb | false => ih) F)
structure FOk (F : List FB) (N : Nat → Bool) (n : Nat) (h : Hp) : Prop where
  nms : ∀ b, N b = true → ∃ f, f ∈ F ∧ f.b = b
  lt : ∀ f, f ∈ F → f.b < n
  inN : ∀ f, f ∈ F → N f.b = true
  cl : ∀ f, f ∈ F → ∀ c, c ∈ f.l → clCV N c = true
  hb : ∀ f, f ∈ F → h.get? f.b = some f.cb
section
variable {P : Program} {σ σ' : Sg} {F : List FB} {N : Nat → Bool} {n0 : Nat} {h0 : Hp}
abbrev G0 : Nat → Bool := fun _ => false
theorem FB.isB (f : FB) : IsB f f.cb := ⟨_, rfl, fun i _ => ofList_get _ _⟩
theorem FB.out (f : FB) : ∀ te lo es sz cs, f.cb = .cells te lo es sz cs → ∀ i, sz ≤ i → cs.get? i = none := by
  intro te lo es sz cs h i hi
  injection h with _ _ _ h4 h5
  subst h4; subst h5
  rw [ofList_get]
  exact List.getElem?_eq_none hi
theorem RL.small (hO : FOk F N n0 h0) {e : Env} {m : M} {w : World} (hR : RL σ G0 e m w) (hF : IsF F m.h) (tab : Tab) (hfx : ∀ r, σ'.fx r = none) (hpn : ∀ r, σ'.pn r = none) : RL σ' G0 (e.only N) ⟨h0, n0, tab⟩ w := by
  refine ⟨fun b p cb hb hcb => ?_, fun b p hb => ?_, fun b b' p p' hb hb' hl hl' he => ?_, fun b hb => ?_, (fun g hg => by cases hg), (fun r o hr => by rw [hfx] at hr; cases hr), (fun b q hq => by rw [hpn] at hq; cases hq)⟩
  · obtain ⟨hN, hb⟩ := Env.only_some hb
    obtain ⟨f, hf, rfl⟩ := hO.nms b hN
    replace hcb : h0.get? f.b = some cb := hcb
    rw [hO.hb f hf] at hcb
    obtain rfl := Option.some.inj hcb
    obtain ⟨cb, h1, h2⟩ := hF f hf
    have := hR.hr _ _ _ hb h1
    by_cases hl : p.live = true
    · rw [if_pos hl] at this
      rw [if_pos hl]
      obtain ⟨o, h3, h4⟩ := this
      exact ⟨o, h3, h4.isB h2 f.isB (hO.cl f hf) f.out rfl rfl fun b q hN hq => ⟨q, by rw [Env.only_in hN]; exact hq, rfl, rfl, rfl⟩⟩
    · rw [if_neg hl] at this
      obtain ⟨cs, h3, _⟩ := h2
      rw [h3] at this
      cases this
  · obtain ⟨hN, _⟩ := Env.only_some hb
    obtain ⟨f, hf, rfl⟩ := hO.nms b hN
    exact ⟨_, hO.hb f hf⟩
  · exact hR.inj _ _ _ _ (Env.only_some hb).2 (Env.only_some hb').2 hl hl' he
  · cases hN : N b with
    | false => simp [Env.only, hN]
    | true =>
      obtain ⟨f, hf, rfl⟩ := hO.nms b hN
      have h1 := hO.lt f hf
      have h2 : n0 ≤ f.b := hb
      omega
theorem RL.back (hO : FOk F N n0 h0) {e : Env} {m : M} {w : World} (hR : RL σ G0 e m w) (hF : IsF F m.h) {tab : Tab} {e' : Env} {m' : M} {w' : World} (hR' : RL σ' G0 e' m' w') (hF' : IsF F m'.h) (hK : Kept (e.only N) ⟨h0, n0, tab⟩ w e' m' w') :
    RL σ G0 e m w' ∧ Kept e m w e m w' := by
  have live : ∀ b p, N b = true → e b = some p → p.live = true := by
    intro b p hN hb
    obtain ⟨f, hf, rfl⟩ := hO.nms b hN
    obtain ⟨cb, h1, cs, h2, _⟩ := hF f hf
    have := hR.hr _ _ _ hb h1
    cases hl : p.live with
    | true => rfl
    | false => rw [if_neg (by simp [hl]), h2] at this; cases this
  have off : ∀ r, r < w.heap.size → (∀ b p, N b = true → e b = some p → p.r ≠ r) → w'.heap[r]? = w.heap[r]? := fun r hr hn => hK.frm r hr fun b p hb _ => hn b p (Env.only_some hb).1 (Env.only_some hb).2
  refine ⟨⟨fun b p cb hb hcb => ?_, hR.dom, hR.inj, hR.bnd, (fun g hg => by cases hg), fun r o hr => ?_, hR.pin⟩, ⟨.refl e, Nat.le_refl _, fun _ _ h => ⟨h, rfl⟩, hK.siz, fun r hr hn => off r hr fun b p hN hb => hn b p hb (live b p hN hb), fun b p h hl => .inl ⟨b, p, h, hl, rfl⟩, hK.tap, hK.os, hK.out⟩⟩
  · have old := hR.hr b p cb hb hcb
    by_cases hl : p.live = true
    · rw [if_pos hl] at old
      rw [if_pos hl]
      obtain ⟨o, h1, h2⟩ := old
      cases hN : N b with
      | true =>
        obtain ⟨f, hf, rfl⟩ := hO.nms b hN
        obtain ⟨p', q1, q2, q3, q4, q5⟩ := hK.ext f.b p (by rw [Env.only_in hN]; exact hb)
        obtain ⟨cb', g1, g2⟩ := hF' f hf
        have new := hR'.hr _ _ _ q1 g1
        have hl' : p'.live = true := by
          cases hl' : p'.live with
          | true => rfl
          | false => obtain ⟨cs, g3, _⟩ := g2; rw [if_neg (by simp [hl']), g3] at new; cases new
        rw [if_pos hl'] at new
        obtain ⟨o', n1, n2⟩ := new
        obtain ⟨cb1, k1, k2⟩ := hF f hf
        obtain rfl : cb1 = cb := Option.some.inj (k1.symm.trans hcb)
        refine ⟨o', by rw [← q2]; exact n1, n2.isB g2 k2 (hO.cl f hf) (fun te lo es sz cs hcs => ?_) q3.symm q4.symm fun x q hx hq => ?_⟩
        · subst hcs
          cases h2 with
          | cells _ _ ho _ _ _ => exact ho
        · cases hx' : e x with
          | some p1 =>
            obtain ⟨p1', r1, r2, r3, r4, _⟩ := hK.ext x p1 (by rw [Env.only_in hx]; exact hx')
            obtain rfl : p1' = q := Option.some.inj (r1.symm.trans hq)
            exact ⟨p1, rfl, r2.symm, r3.symm, r4.symm⟩
          | none =>
            obtain ⟨f', hf', rfl⟩ := hO.nms x hx
            have := (hK.unb f'.b (hO.lt f' hf') (by rw [Env.only_in hx]; exact hx')).1
            rw [this] at hq
            cases hq
      | false =>
        refine ⟨o, ?_, h2⟩
        rw [off p.r (hR.lt hb hl) fun x q hx hq he => ?_]
        · exact h1
        · obtain rfl := hR.inj _ _ _ _ hq hb (live x q hx hq) hl he
          rw [hx] at hN
          cases hN
    · rw [if_neg hl] at old
      rw [if_neg hl]
      exact old
  · obtain ⟨h1, h2⟩ := hR.fix r o hr
    refine ⟨?_, h2⟩
    rw [off r (Array.getElem?_eq_some_iff.1 h1).1 fun b p hN hb => h2 b p hb (live b p hN hb)]
    exact h1
end
/-- a body's contract, of a call whatever its kind -/
theorem goes_of_wp {P : Program} (hng : NoCount P) {g : FuncId} {fn : Func} {cb : Code} (hfn : P.funcs[g]? = some fn) (hbody : fn.body = some cb) {us : Array Value} {w : World} {Q : Value → World → Prop}
    (hwp : cb.wp P (bodyPost P fn fun en w' => ∃ v', en = .returned v' ∧ Q v' w') { tmps := us ++ Array.replicate (fn.ntmps - us.size) undef, defers := [] } w) {kd : CallKind} {c : Frame} {cs : List Frame} (hk : KindOK (.func g) kd c) :
    ∃ v' w', CallGoes P kd c cs (CallSem (.func g) us) w v' w' ∧ Q v' w' := by
  have hkd : kd = .normal ∨ (kd = .deferred ∧ c.mode = .returning) := hk.imp id (fun h => ⟨h.1, h.2.1⟩)
  let b : Frame := { fn := g, tmps := #[], todo := [], defers := [], mode := .run, kind := kd }
  have henter : Frame.enter P g us kd = b.at { tmps := us ++ Array.replicate (fn.ntmps - us.size) undef, defers := [] } [.code cb] := by
    simp [Frame.enter, Frame.at, hfn, hbody, b]
  obtain ⟨en, a', w', hq, harr⟩ := hwp b [] (c :: cs)
  have fin : ∀ todo, a'.defers = [] → (∃ u, (results fn a'.tmps).run P w' = .ok u w' ∧ (∃ v', Ending.returned u = .returned v' ∧ Q v' w')) →
      Steps P (lone (b.at { tmps := us ++ Array.replicate (fn.ntmps - us.size) undef, defers := [] } [.code cb]) (c :: cs) w) (lone { b.at a' todo with mode := .returning } (c :: cs) w') →
      ∃ v' w', CallGoes P kd c cs (CallSem (.func g) us) w v' w' ∧ Q v' w' := by
    intro todo hd hres hst
    obtain ⟨u, hr, v', hv', hQ⟩ := hres
    injection hv' with hv'
    subst hv'
    refine ⟨u, w', ?_, hQ⟩
    simp only [CallGoes, CallSem, callFunc_body hng hfn hbody]
    rw [henter]
    have e1 : ({ b.at a' todo with mode := .returning } : Frame) = rf b a'.tmps [] todo := by
      simp [Frame.at, Ev.rf, fr, hd, b]
    rw [e1] at hst
    exact hst.trans (.one (st_return (b := b) hfn hr hkd))
  cases en with
  | normal => exact fin [] hq.1 hq.2 (harr.trans (.one step_end))
  | ret => obtain ⟨todo, hst⟩ := harr; exact fin todo hq.1 hq.2 hst
  | panic chain => obtain ⟨_, v', h, _⟩ := hq; cases h
  | exit id => exact hq.elim
  | goto l => exact hq.elim
  | outgrown => obtain ⟨v', h, _⟩ := hq; cases h
theorem Kept.frame {e : Env} {m : M} {w w' : World} (hsz : w.heap.size ≤ w'.heap.size) (h : ∀ r, r < w.heap.size → w'.heap[r]? = w.heap[r]?) (ht : w'.tape = w.tape) (ho : w'.os = w.os) (hu : w'.output = w.output) : Kept e m w e m w' :=
  ⟨.refl e, Nat.le_refl _, fun _ _ h => ⟨h, rfl⟩, hsz, fun r hr _ => h r hr, fun b p h hl => .inl ⟨b, p, h, hl, rfl⟩, ht, ho, hu⟩
/-! a contract upon such blocks, within the evaluator -/
noncomputable section
def ovrM (f0 : FuncId) (exp : List CV) (r : CV) (F : List FB) (call : CallFn) : CallFn := fun f args m k => match f with
  | .func g => match Nat.beq g f0 with
    | true => match cvBeq.goL args exp with
      | true => match chkF F m.h with | true => k r m | false => false
      | false => call (.func g) args m k
    | false => call (.func g) args m k
  | f => call f args m k
/-- what is handed back, and the blocks as they were -/
noncomputable def isRP (r : CV) (F : List FB) : KA := fun v m => match cvBeq r v with | true => chkF F m.h | false => false
end
def SumOk (P : Program) (σ : Sg) (f0 : FuncId) (exp : List CV) (r : CV) (F : List FB) : Prop := ∀ (e : Env) (w : World) (vs : Array Value) (kd : CallKind) (c : Frame) (cs : List Frame) (m : M), RL σ G0 e m w → IsF F m.h → LR σ e exp vs.toList → KindOK (.func f0) kd c →
  ∃ v' w', CallGoes P kd c cs (CallSem (.func f0) vs) w v' w' ∧ VR σ e r v' ∧ RL σ G0 e m w' ∧ Kept e m w e m w'
theorem goL_eq : ∀ {l l' : List CV}, cvBeq.goL l l' = true → l = l' := by
  intro l l' h
  have : cvBeq (.tup l) (.tup l') = true := h
  have := cvBeq_eq _ _ this
  injection this
section
variable {P : Program} {σ : Sg}
theorem ovrM_ok {call : CallFn} (hcall : SoundCall P σ G0 call) {f0 : FuncId} {exp : List CV} {r : CV} {F : List FB} (hS : SumOk P σ f0 exp r F) : SoundCall P σ G0 (ovrM f0 exp r F call) := by
  intro f args m k hh hs
  simp only [ovrM] at hh
  split at hh
  · rename_i g
    split at hh
    · rename_i hg
      obtain rfl : g = f0 := by simpa using hg
      split at hh
      · rename_i ha
        split at hh
        · rename_i hF
          refine ⟨r, m, hh, hs, fun e w f' us kd c cs hR hf hl hk => ?_⟩
          cases hf
          obtain ⟨v', w', h1, h2, h3, h4⟩ := hS e w us kd c cs m hR (chkF_is hF) (by rw [← goL_eq ha]; exact hl) hk
          exact ⟨v', w', e, h1, h2, h3, h4⟩
        · cases hh
      · exact hcall _ _ _ _ hh hs
    · exact hcall _ _ _ _ hh hs
  · exact hcall _ _ _ _ hh hs
end
section
variable {D : Nat} {cS : CallS D} {cl : CallFn}
noncomputable def chkFS (D : Nat) (F : List FB) (h : HS D) (k : Res) : Res := lrec k (fun f _ ih => (gH D f.b).go h fun bs => decB D bs fun cb => bIf (chkB f cb) ih .bad) F
theorem chkFS_eq (h : Hp) (k : Res) : ∀ (F : List FB), (chkFS D F (encH D h) k).val = (match chkF F h with | true => k.val | false => false)
  | [] => rfl
  | f :: F => by
    have e : chkFS D (f :: F) (encH D h) k = (gH D f.b).go (encH D h) fun bs => decB D bs fun cb => bIf (chkB f cb) (chkFS D F (encH D h) k) .bad := rfl
    have e' : chkF (f :: F) h = match h.get? f.b with | some cb => (match chkB f cb with | true => chkF F h | false => false) | none => false := rfl
    rw [e, e', gH_eq, getKR_val, getK_eq]
    cases h.get? f.b with
    | none => rfl
    | some cb =>
      simp only [decB_enc]
      rw [bIf_eq]
      cases chkB f cb with
      | false => rfl
      | true => exact chkFS_eq h k F
noncomputable def ovrMS (f0 : FuncId) (exp : List CV) (r : CV) (F : List FB) (call : CallS D) : CallS D := fun f args tab h n k =>
  Fn.rec (motive := fun _ => Res) (fun g => bIf (Nat.beq g f0) (decVs args fun cs => bIf (cvBeq.goL cs exp) (chkFS D F h (encK r fun v => k v tab h n)) (call (.func g) args tab h n k)) (call (.func g) args tab h n k)) (fun s => call (.method s) args tab h n k)
    (fun t s => call (.methodOf t s) args tab h n k) (fun t p g b => call (.via t p g b) args tab h n k) (fun l => call (.yield l) args tab h n k) f
theorem ovrMS_ok (f0 : FuncId) (exp : List CV) (r : CV) (F : List FB) (hc : CallOK cS cl) : CallOK (ovrMS f0 exp r F cS) (ovrM f0 exp r F cl) := by
  intro f args m k
  cases f with
  | func g =>
    show (bIf (Nat.beq g f0) (decVs (encVs args) fun cs => bIf (cvBeq.goL cs exp) (chkFS D F (encH D m.h) (encK r fun v => k v m.tab (encH D m.h) m.n)) (cS (.func g) (encVs args) m.tab (encH D m.h) m.n k)) (cS (.func g) (encVs args) m.tab (encH D m.h) m.n k)).val = (match Nat.beq g f0 with | true => _ | false => _)
    cases hg : Nat.beq g f0 with
    | false => exact hc _ args m k
    | true =>
      show (decVs (encVs args) fun cs => bIf (cvBeq.goL cs exp) (chkFS D F (encH D m.h) (encK r fun v => k v m.tab (encH D m.h) m.n)) (cS (.func g) (encVs args) m.tab (encH D m.h) m.n k)).val = (match cvBeq.goL args exp with | true => _ | false => _)
      rw [decVs_enc, bIf_eq]
      cases cvBeq.goL args exp with
      | false => exact hc _ args m k
      | true =>
        show (chkFS D F (encH D m.h) (encK r fun v => k v m.tab (encH D m.h) m.n)).val = (match chkF F m.h with | true => _ | false => _)
        rw [chkFS_eq]
        cases chkF F m.h with
        | false => rfl
        | true =>
          show (encK r fun v => k v m.tab (encH D m.h) m.n).val = _
          rw [encK_eq]
  | method s => exact hc _ args m k
  | methodOf t s => exact hc _ args m k
  | via t p g b => exact hc _ args m k
  | yield l => exact hc _ args m k
noncomputable def isRS (D : Nat) (r : CV) (F : List FB) (v : V) (_ : Tab) (h : HS D) (_ : Nat) : Res := decV v fun c => bIf (cvBeq r c) (chkFS D F h .ok) .bad
theorem isRS_eq (r : CV) (F : List FB) (v : CV) (m : M) : (isRS D r F (encV v) m.tab (encH D m.h) m.n).val = isRP r F v m := by
  unfold isRS isRP
  rw [decV_enc, bIf_eq]
  cases cvBeq r v with
  | false => rfl
  | true =>
    show (chkFS D F (encH D m.h) .ok).val = chkF F m.h
    rw [chkFS_eq]
    cases chkF F m.h <;> rfl
end
section
variable {P : Program} {D : Nat} {I : TypeId → Option TypeInfo} {Fu : FuncId → Option Func} {Dr : FuncId → Bool}
/-- a small run -/
theorem runV_step (hI : ∀ t, I t = P.info? t) (hF : ∀ f, Fu f = P.funcs[f]?) (hD : DrawFact P Dr) {fuel depth : Nat} {f : Fn} {args : List CV} {tab : Tab} {h : Hp} {n : Nat} {r : CV} {F : List FB}
    (hh : (stepS (D := D) P I Fu G0 Dr fuel (callS P I Fu G0 Dr fuel depth) f (encVs args) tab (encH D h) n (isRS D r F)).val = true) : callStep P G0 fuel (callC P G0 fuel depth) f args ⟨h, n, tab⟩ (isRP r F) = true := by
  have h1 : I = P.info? := funext hI
  have h2 : Fu = fun f => P.funcs[f]? := funext hF
  subst h1; subst h2
  have := step_good (D := D) (G := G0) hD (callS_ok (G := G0) hD fuel depth) fuel f args ⟨h, n, tab⟩ (isRS D r F)
  rw [this] at hh
  simpa only [isRS_eq] using hh
/-- what a small run says of every real call -/
theorem sum_calls {N : Nat → Bool} {F : List FB} {n0 : Nat} {h0 : Hp} (hO : FOk F N n0 h0) (hng : NoCount P) (hx : ExtFact P) {fuel depth : Nat} {f : FuncId} {fn : Func} {cb : Code} (hfn : P.funcs[f]? = some fn) (hbody : fn.body = some cb) {args : List CV} {tab : Tab} {r : CV}
    (hh : callStep P G0 fuel (callC P G0 fuel depth) (.func f) args ⟨h0, n0, tab⟩ (isRP r F) = true) (hr : plainCV r = true) {σ σ' : Sg} (hs : Sat σ' tab) (hfx : ∀ x, σ'.fx x = none) (hpn : ∀ x, σ'.pn x = none) {e : Env} {m : M} {w : World} (hR : RL σ G0 e m w) (hF : IsF F m.h)
    {vs : Array Value} (hv : LR σ' (e.only N) args vs.toList) : Calls P f vs w fun en w' => ∃ v', en = .returned v' ∧ VR σ e r v' ∧ RL σ G0 e m w' ∧ Kept e m w e m w' := by
  obtain ⟨v, m', h1, h2⟩ := calls_of_eval hng (eval_sound (σ := σ') (G := G0) hng hx fuel depth) hfn hbody hh hs
  unfold isRP at h1
  split at h1
  · rename_i hc
    have hc := cvBeq_eq _ _ hc
    subst hc
    refine (h2 (e.only N) w vs (hR.small hO hF tab hfx hpn) hv).mono fun en w' ⟨v', e', he, hvr, hR', hk⟩ => ?_
    obtain ⟨q1, q2⟩ := hR.back hO hF hR' (chkF_is h1) hk
    exact ⟨v', he, hvr.plain hr, q1, q2⟩
  · cases h1
end
noncomputable section
/-- the evaluator, with known answers, a contract, and a contract upon closed blocks, at every depth -/
def callM (P : Program) (T : FuncId → Option KRows) (rf : FuncId) (ans : List CV → Option CV) (f0 : FuncId) (exp : List CV) (r : CV) (F : List FB) (fuel depth : Nat) : CallFn :=
  Nat.rec (motive := fun _ => CallFn) (fun _ _ _ _ => false) (fun _ call => ovrM f0 exp r F (ovrR rf ans (ovrC T (callStep P G0 fuel call)))) depth
def callMS {D : Nat} (P : Program) (I : TypeId → Option TypeInfo) (Fu : FuncId → Option Func) (Dr : FuncId → Bool) (T : FuncId → Option KRows) (rf : FuncId) (ans : List CV → Option CV) (f0 : FuncId) (exp : List CV) (r : CV) (F : List FB) (fuel depth : Nat) : CallS D :=
  Nat.rec (motive := fun _ => CallS D) (fun _ _ _ _ _ _ => .bad) (fun _ call => ovrMS f0 exp r F (ovrRS rf ans (ovrCS T (stepS P I Fu G0 Dr fuel call)))) depth
end
section
variable {P : Program} {T : FuncId → Option KRows} {σ : Sg} {rf : FuncId} {ans : List CV → Option CV} {f0 : FuncId} {exp : List CV} {r : CV} {F : List FB}
theorem callM_sound (hng : NoCount P) (hx : ExtFact P) (hT : RowsOk P T) (hA : RepOk P σ rf ans) (hS : SumOk P σ f0 exp r F) (fuel depth : Nat) : SoundCall P σ G0 (callM P T rf ans f0 exp r F fuel depth) := by
  induction depth with
  | zero => intro f args m k hh _; cases hh
  | succ depth ih => exact ovrM_ok (ovrR_ok hng (ovrC_ok (callStep_ok hng (ext_ok hng hx) ih (fun rd => draw_ok ih rd) fuel) hT) hA) hS
variable {D : Nat} {I : TypeId → Option TypeInfo} {Fu : FuncId → Option Func} {Dr : FuncId → Bool}
theorem callMS_ok (hD : DrawFact P Dr) (fuel depth : Nat) : CallOK (callMS (D := D) P P.info? (fun f => P.funcs[f]?) Dr T rf ans f0 exp r F fuel depth) (callM P T rf ans f0 exp r F fuel depth) := by
  induction depth with
  | zero => intro f args m k; rfl
  | succ depth ih => exact ovrMS_ok f0 exp r F (ovrRS_ok rf ans (ovrCS_ok T (step_good (G := G0) hD ih fuel)))
theorem runM_step (hI : ∀ t, I t = P.info? t) (hF : ∀ f, Fu f = P.funcs[f]?) (hD : DrawFact P Dr) {fuel depth : Nat} {f : Fn} {args : List CV} {tab : Tab} {h : Hp} {n : Nat}
    (hh : (stepS (D := D) P I Fu G0 Dr fuel (callMS P I Fu Dr T rf ans f0 exp r F fuel depth) f (encVs args) tab (encH D h) n (isTS D)).val = true) : callStep P G0 fuel (callM P T rf ans f0 exp r F fuel depth) f args ⟨h, n, tab⟩ isT = true := by
  have h1 : I = P.info? := funext hI
  have h2 : Fu = fun f => P.funcs[f]? := funext hF
  subst h1; subst h2
  have := step_good (D := D) (G := G0) hD (callMS_ok (D := D) (T := T) (rf := rf) (ans := ans) (f0 := f0) (exp := exp) (r := r) (F := F) hD fuel depth) fuel f args ⟨h, n, tab⟩ (isTS D)
  rw [this] at hh
  simpa only [isTS_eq] using hh
end
section
variable {P : Program} {σ : Sg}
/-- a call that is seen to hand back true, where what the arguments name is left alone -/
theorem calls_below {call : CallFn} (hng : NoCount P) (hcall : SoundCall P σ G0 call) {fuel : Nat} {f : FuncId} {fn : Func} {cb : Code} {args : List CV} {m : M} (hfn : P.funcs[f]? = some fn) (hbody : fn.body = some cb)
    (hh : callStep P G0 fuel call (.func f) args m isT = true) (hs : Sat σ m.tab) {e : Env} {w : World} (hR : RL σ G0 e m w) (hdead : ∀ b p, e b = some p → p.live = false) (vs : Array Value) (hv : LR σ e args vs.toList) :
    Calls P f vs w fun en w' => en = .returned (.bool true) ∧ RowKit.Below w.heap.size w w' := by
  obtain ⟨v, m', h1, h2⟩ := calls_of_eval hng hcall hfn hbody hh hs
  have := isT_inv h1
  subst this
  refine (h2 e w vs hR hv).mono fun en w' ⟨v', e', he, hvr, _, hk⟩ => ?_
  cases hvr
  exact ⟨he, hk.os, hk.tap, hk.out, hk.siz, fun r hr => hk.frm r hr (fun b p hb hl => by rw [hdead b p hb] at hl; cases hl)⟩
theorem kept_of_below {w w' : World} (h : RowKit.Below w.heap.size w w') : w.keptBut w' (fun _ => False) := by
  refine ⟨h.os, h.output, fun i hi => ?_⟩
  rw [h.block i hi]
  split
  · rename_i h1 h2
    rw [h1] at h2
    cases h2
    exact ⟨rfl, rfl, rfl, fun _ _ => rfl⟩
  · rename_i h1 h2
    rw [h1] at h2
    cases h2
    exact .inr ⟨rfl, rfl⟩
  · rfl
end
end Go.Ev

namespace Go.Ev
/-! Calls that take one small memory to another -/
def clS (N A B : Nat → Bool) : CV → Bool
  | .sym _ s => A s
  | .ssym s l => B s && A l
  | c => clCV N c
theorem VR.closedS {σ σ' : Sg} {e e' : Env} {N A B : Nat → Bool} {c : CV} {v : Value} (h : VR σ e c v) (hc : clS N A B c = true) (hi : ∀ s, A s = true → σ.i s = σ'.i s) (hs : ∀ s, B s = true → σ.s s = σ'.s s)
    (he : ∀ b p, N b = true → e b = some p → ∃ p', e' b = some p' ∧ p'.r = p.r ∧ p'.d = p.d ∧ p'.s = p.s) : VR σ' e' c v := by
  cases h with
  | sym k s => rw [hi s hc]; exact .sym k s
  | ssym s l h =>
    simp only [clS, Bool.and_eq_true] at hc
    have := VR.ssym (σ := σ') (e := e') s l (by rw [← hs s hc.1, ← hi l hc.2]; exact h)
    rw [hs s hc.1]
    exact this
  | bool b => exact .bool b
  | int k n => exact .int k n
  | str s h1 h2 => exact .str s h1 h2
  | ptr0 => exact .ptr0
  | ptr h => exact VR.closed (σ := σ) (.ptr h) hc he
  | sl0 => exact .sl0
  | sl h => exact VR.closed (σ := σ) (.sl h) hc he
  | map0 => exact .map0
  | fn0 => exact .fn0
  | ifc0 => exact .ifc0
  | slE r o c => cases hc
  | map h => cases hc
  | fn f ha hb va vb => cases hc
  | yld h => cases hc
  | ifc t h => cases hc
  | agg hl hv => cases hc
  | tup hl hv => cases hc
  | symr k s c lo cnt i n h hi hr => cases hc
  | lin k c ts => cases hc
  | lstr bs s h => cases hc
/-- results: a cell, a row of cells, or a tuple of these -/
def clR (N A B : Nat → Bool) : CV → Bool
  | .agg l => l.all (clS N A B)
  | c => clS N A B c
def clV (N A B : Nat → Bool) : CV → Bool
  | .tup l => l.all (clR N A B)
  | c => clR N A B c
section
variable {σ σ' : Sg} {e e' : Env} {N A B : Nat → Bool} (hi : ∀ s, A s = true → σ.i s = σ'.i s) (hs : ∀ s, B s = true → σ.s s = σ'.s s)
    (he : ∀ b p, N b = true → e b = some p → ∃ p', e' b = some p' ∧ p'.r = p.r ∧ p'.d = p.d ∧ p'.s = p.s)
include hi hs he
theorem VR.closedR {c : CV} {v : Value} (h : VR σ e c v) (hc : clR N A B c = true) : VR σ' e' c v := by
  cases h with
  | agg hl hv => exact .agg hl fun i c v h1 h2 => (hv i c v h1 h2).closedS (List.all_eq_true.1 hc c (List.mem_of_getElem? h1)) hi hs he
  | sym k s => exact VR.closedS (.sym k s) hc hi hs he
  | ssym s l h => exact VR.closedS (.ssym s l h) hc hi hs he
  | bool b => exact .bool b
  | int k n => exact .int k n
  | str s h1 h2 => exact .str s h1 h2
  | ptr0 => exact .ptr0
  | ptr h => exact VR.closed (σ := σ) (.ptr h) hc he
  | sl0 => exact .sl0
  | sl h => exact VR.closed (σ := σ) (.sl h) hc he
  | map0 => exact .map0
  | fn0 => exact .fn0
  | ifc0 => exact .ifc0
  | slE r o c => cases hc
  | map h => cases hc
  | fn f ha hb va vb => cases hc
  | yld h => cases hc
  | ifc t h => cases hc
  | tup hl hv => cases hc
  | symr k s c lo cnt i n h hi hr => cases hc
  | lin k c ts => cases hc
  | lstr bs s h => cases hc
theorem VR.closedV {c : CV} {v : Value} (h : VR σ e c v) (hc : clV N A B c = true) : VR σ' e' c v := by
  cases h with
  | tup hl hv => exact .tup hl fun i c v h1 h2 => (hv i c v h1 h2).closedR hi hs he (List.all_eq_true.1 hc c (List.mem_of_getElem? h1))
  | agg hl hv => exact VR.closedR hi hs he (.agg hl hv) hc
  | sym k s => exact VR.closedS (.sym k s) hc hi hs he
  | ssym s l h => exact VR.closedS (.ssym s l h) hc hi hs he
  | bool b => exact .bool b
  | int k n => exact .int k n
  | str s h1 h2 => exact .str s h1 h2
  | ptr0 => exact .ptr0
  | ptr h => exact VR.closed (σ := σ) (.ptr h) hc he
  | sl0 => exact .sl0
  | sl h => exact VR.closed (σ := σ) (.sl h) hc he
  | map0 => exact .map0
  | fn0 => exact .fn0
  | ifc0 => exact .ifc0
  | slE r o c => cases hc
  | map h => cases hc
  | fn f ha hb va vb => cases hc
  | yld h => cases hc
  | ifc t h => cases hc
  | symr k s c lo cnt i n h hi hr => cases hc
  | lin k c ts => cases hc
  | lstr bs s h => cases hc
end
theorem BR.isBS {σ σ' : Sg} {e e' : Env} {N A B : Nat → Bool} {f : FB} {cb cb' : CB} {p p' : Place} {o : Obj} (h : BR σ e cb p o) (h1 : IsB f cb) (h2 : IsB f cb') (hcl : ∀ c, c ∈ f.l → clS N A B c = true)
    (hout : ∀ te lo es sz cs, cb' = .cells te lo es sz cs → ∀ i, sz ≤ i → cs.get? i = none) (hd : p'.d = p.d) (hs : p'.s = p.s) (hi : ∀ s, A s = true → σ.i s = σ'.i s) (hss : ∀ s, B s = true → σ.s s = σ'.s s)
    (he : ∀ b p, N b = true → e b = some p → ∃ p', e' b = some p' ∧ p'.r = p.r ∧ p'.d = p.d ∧ p'.s = p.s) : BR σ' e' cb' p' o := by
  obtain ⟨cs, rfl, g1⟩ := h1
  obtain ⟨cs', rfl, g2⟩ := h2
  cases h with
  | cells hsz hex ho hin hfz hte =>
    refine .cells (by rw [hd, hs]; exact hsz) (by rw [hd, hs]; exact hex) (hout _ _ _ _ _ rfl) (fun i hi' => ?_) hfz hte
    obtain ⟨cv, v, a, b, c⟩ := hin i hi'
    refine ⟨cv, v, by rw [g2 i hi', ← g1 i hi']; exact a, by rw [hd]; exact b, c.closedS (hcl cv ?_) hi hss he⟩
    rw [g1 i hi'] at a
    exact List.mem_of_getElem? a
structure FOkS (F : List FB) (N A B : Nat → Bool) (n : Nat) (h : Hp) : Prop where
  nms : ∀ b, N b = true → ∃ f, f ∈ F ∧ f.b = b
  lt : ∀ f, f ∈ F → f.b < n
  inN : ∀ f, f ∈ F → N f.b = true
  cl : ∀ f, f ∈ F → ∀ c, c ∈ f.l → clS N A B c = true
  hb : ∀ f, f ∈ F → h.get? f.b = some f.cb
section
variable {P : Program} {σ σ' : Sg} {F : List FB} {N A B : Nat → Bool} {n1 : Nat} {h1 : Hp}
/-- what is looked at through a small memory -/
theorem RL.view (hO : FOkS F N A B n1 h1) {e : Env} {m : M} {w : World} (hR : RL σ G0 e m w) (hF : IsF F m.h) (tab : Tab) (hi : ∀ s, A s = true → σ.i s = σ'.i s) (hs : ∀ s, B s = true → σ.s s = σ'.s s) (hfx : σ'.fx = σ.fx) (hpn : ∀ r, σ'.pn r = none) : RL σ' G0 (e.only N) ⟨h1, n1, tab⟩ w := by
  refine ⟨fun b p cb hb hcb => ?_, fun b p hb => ?_, fun b b' p p' hb hb' hl hl' he => ?_, fun b hb => ?_, (fun g hg => by cases hg), (fun r o hr => ?_), (fun b q hq => by rw [hpn] at hq; cases hq)⟩
  · obtain ⟨hN, hb⟩ := Env.only_some hb
    obtain ⟨f, hf, rfl⟩ := hO.nms b hN
    replace hcb : h1.get? f.b = some cb := hcb
    rw [hO.hb f hf] at hcb
    obtain rfl := Option.some.inj hcb
    obtain ⟨cb, g1, g2⟩ := hF f hf
    have := hR.hr _ _ _ hb g1
    by_cases hl : p.live = true
    · rw [if_pos hl] at this
      rw [if_pos hl]
      obtain ⟨o, h3, h4⟩ := this
      exact ⟨o, h3, h4.isBS g2 f.isB (hO.cl f hf) f.out rfl rfl hi hs fun b q hN hq => ⟨q, by rw [Env.only_in hN]; exact hq, rfl, rfl, rfl⟩⟩
    · rw [if_neg hl] at this
      obtain ⟨cs, h3, _⟩ := g2
      rw [h3] at this
      cases this
  · obtain ⟨hN, _⟩ := Env.only_some hb
    obtain ⟨f, hf, rfl⟩ := hO.nms b hN
    exact ⟨_, hO.hb f hf⟩
  · exact hR.inj _ _ _ _ (Env.only_some hb).2 (Env.only_some hb').2 hl hl' he
  · cases hN : N b with
    | false => simp [Env.only, hN]
    | true =>
      obtain ⟨f, hf, rfl⟩ := hO.nms b hN
      have h3 := hO.lt f hf
      have h2 : n1 ≤ f.b := hb
      omega
  · rw [hfx] at hr
    exact ⟨(hR.fix r o hr).1, fun b p hb hl => (hR.fix r o hr).2 b p (Env.only_some hb).2 hl⟩
/-- what a call keeps of the real memory -/
structure KeptW (e : Env) (w : World) (e' : Env) (w' : World) : Prop where
  siz : w.heap.size ≤ w'.heap.size
  frm : ∀ r, r < w.heap.size → (∀ b p, e b = some p → p.live = true → p.r ≠ r) → w'.heap[r]? = w.heap[r]?
  rng : ∀ b p, e' b = some p → p.live = true → (∃ b₀ p₀, e b₀ = some p₀ ∧ p₀.live = true ∧ p₀.r = p.r) ∨ w.heap.size ≤ p.r
  tap : w'.tape = w.tape
  os : w'.os = w.os
  out : w'.output = w.output
theorem KeptW.refl (e : Env) (w : World) : KeptW e w e w := ⟨Nat.le_refl _, fun _ _ _ => rfl, fun b p h hl => .inl ⟨b, p, h, hl, rfl⟩, rfl, rfl, rfl⟩
theorem KeptW.trans {e e₁ e₂ : Env} {w w₁ w₂ : World} (h : KeptW e w e₁ w₁) (h' : KeptW e₁ w₁ e₂ w₂) : KeptW e w e₂ w₂ := by
  refine ⟨Nat.le_trans h.siz h'.siz, fun r hr hn => ?_, fun b p hb hl => ?_, h'.tap.trans h.tap, h'.os.trans h.os, h'.out.trans h.out⟩
  · rw [h'.frm r (Nat.lt_of_lt_of_le hr h.siz) ?_, h.frm r hr hn]
    intro b p hb hl he
    rcases h.rng b p hb hl with ⟨b₀, p₀, hb₀, hl₀, hr₀⟩ | hge
    · exact hn b₀ p₀ hb₀ hl₀ (hr₀.trans he)
    · omega
  · rcases h'.rng b p hb hl with ⟨b₀, p₀, hb₀, hl₀, hr₀⟩ | hge
    · rcases h.rng b₀ p₀ hb₀ hl₀ with ⟨b₁, p₁, hb₁, hl₁, hr₁⟩ | hge
      · exact .inl ⟨b₁, p₁, hb₁, hl₁, hr₁.trans hr₀⟩
      · exact .inr (hr₀ ▸ hge)
    · exact .inr (Nat.le_trans h.siz hge)
/-- what a small run says of every real call, from one small memory to another -/
theorem sum_to {F' : List FB} {N' : Nat → Bool} {n2 : Nat} {h2 : Hp} (hO : FOkS F N A B n1 h1) (hO' : FOkS F' N' A B n2 h2) {call : CallFn} (hng : NoCount P) (hcall : SoundCall P σ' G0 call) {fuel : Nat} {f : FuncId} {fn : Func} {cb : Code} (hfn : P.funcs[f]? = some fn) (hbody : fn.body = some cb) {args : List CV} {tab tab0 tab1 : Tab} {r : CV}
    (hh : callStep P G0 fuel call (.func f) args ⟨h1, n1, tab⟩ (isRP r F') = true) (hr : clV N' A B r = true) (hsat : Sat σ' tab) (hi : ∀ s, A s = true → σ.i s = σ'.i s) (hs : ∀ s, B s = true → σ.s s = σ'.s s) (hfx : σ'.fx = σ.fx) (hpn : ∀ x, σ'.pn x = none) (hpn0 : ∀ x, σ.pn x = none)
    {e : Env} {w : World} (hR : RL σ G0 e ⟨h1, n1, tab0⟩ w) {vs : Array Value} (hv : LR σ' (e.only N) args vs.toList) :
    Calls P f vs w fun en w' => ∃ v' e', en = .returned v' ∧ VR σ e' r v' ∧ RL σ G0 e' ⟨h2, n2, tab1⟩ w' ∧ KeptW e w e' w' ∧ ∀ b p, N b = true → N' b = true → e b = some p → ∃ p', e' b = some p' ∧ p'.r = p.r ∧ p'.d = p.d ∧ p'.s = p.s := by
  have hF1 : IsF F h1 := fun f hf => ⟨_, hO.hb f hf, f.isB⟩
  obtain ⟨v, m', k1, k2⟩ := calls_of_eval hng hcall hfn hbody hh hsat
  unfold isRP at k1
  split at k1
  · rename_i hc
    have hc := cvBeq_eq _ _ hc
    subst hc
    refine (k2 (e.only N) w vs (hR.view hO hF1 tab hi hs hfx hpn) hv).mono fun en w' ⟨v', e1, he, hvr, hR', hk⟩ => ?_
    refine ⟨v', e1.only N', he, ?_, hR'.view hO' (chkF_is k1) tab1 (fun s h => (hi s h).symm) (fun s h => (hs s h).symm) hfx.symm hpn0, ⟨hk.siz, fun q hq hn => hk.frm q hq fun b p hb hl => hn b p (Env.only_some hb).2 hl, fun b p hb hl => ?_, hk.tap, hk.os, hk.out⟩, fun b p hN hN' hb => ?_⟩
    · exact VR.closedV (fun s h => (hi s h).symm) (fun s h => (hs s h).symm) (fun b p hN hp => ⟨p, by rw [Env.only_in hN]; exact hp, rfl, rfl, rfl⟩) hvr hr
    · rcases hk.rng b p (Env.only_some hb).2 hl with ⟨b0, p0, q1, q2, q3⟩ | h
      · exact .inl ⟨b0, p0, (Env.only_some q1).2, q2, q3⟩
      · exact .inr h
    · obtain ⟨p', q1, q2, q3, q4, _⟩ := hk.ext b p (by rw [Env.only_in hN]; exact hb)
      exact ⟨p', by rw [Env.only_in hN']; exact q1, q2, q3, q4⟩
  · cases k1
end
end Go.Ev

namespace Go.Ev
/-! The evaluator with any sound change of its calls -/
noncomputable section
def callG (P : Program) (ov : CallFn → CallFn) (fuel depth : Nat) : CallFn := Nat.rec (motive := fun _ => CallFn) (fun _ _ _ _ => false) (fun _ call => ov (callStep P G0 fuel call)) depth
def callGS {D : Nat} (P : Program) (I : TypeId → Option TypeInfo) (Fu : FuncId → Option Func) (Dr : FuncId → Bool) (ov : CallS D → CallS D) (fuel depth : Nat) : CallS D :=
  Nat.rec (motive := fun _ => CallS D) (fun _ _ _ _ _ _ => .bad) (fun _ call => ov (stepS P I Fu G0 Dr fuel call)) depth
end
section
variable {P : Program} {σ : Sg} {ov : CallFn → CallFn}
theorem callG_sound (hng : NoCount P) (hx : ExtFact P) (hov : ∀ call, SoundCall P σ G0 call → SoundCall P σ G0 (ov call)) (fuel depth : Nat) : SoundCall P σ G0 (callG P ov fuel depth) := by
  induction depth with
  | zero => intro f args m k hh _; cases hh
  | succ depth ih => exact hov _ (callStep_ok hng (ext_ok hng hx) ih (fun rd => draw_ok ih rd) fuel)
theorem stepG_sound (hng : NoCount P) (hx : ExtFact P) {call : CallFn} (hcall : SoundCall P σ G0 call) (fuel : Nat) : SoundCall P σ G0 (callStep P G0 fuel call) :=
  callStep_ok hng (ext_ok hng hx) hcall (fun rd => draw_ok hcall rd) fuel
variable {D : Nat} {ovS : CallS D → CallS D} {I : TypeId → Option TypeInfo} {Fu : FuncId → Option Func} {Dr : FuncId → Bool}
theorem callGS_ok (hD : DrawFact P Dr) (hok : ∀ cS cl, CallOK cS cl → CallOK (ovS cS) (ov cl)) (fuel depth : Nat) : CallOK (callGS (D := D) P P.info? (fun f => P.funcs[f]?) Dr ovS fuel depth) (callG P ov fuel depth) := by
  induction depth with
  | zero => intro f args m k; rfl
  | succ depth ih => exact hok _ _ (step_good (G := G0) hD ih fuel)
/-- a small run -/
theorem runG_step (hI : ∀ t, I t = P.info? t) (hF : ∀ f, Fu f = P.funcs[f]?) (hD : DrawFact P Dr) (hok : ∀ cS cl, CallOK cS cl → CallOK (ovS cS) (ov cl)) {fuel depth : Nat} {f : Fn} {args : List CV} {tab : Tab} {h : Hp} {n : Nat} {r : CV} {F : List FB}
    (hh : (stepS (D := D) P I Fu G0 Dr fuel (callGS P I Fu Dr ovS fuel depth) f (encVs args) tab (encH D h) n (isRS D r F)).val = true) : callStep P G0 fuel (callG P ov fuel depth) f args ⟨h, n, tab⟩ (isRP r F) = true := by
  have h1 : I = P.info? := funext hI
  have h2 : Fu = fun f => P.funcs[f]? := funext hF
  subst h1; subst h2
  have := step_good (D := D) (G := G0) hD (callGS_ok (D := D) hD hok fuel depth) fuel f args ⟨h, n, tab⟩ (isRS D r F)
  rw [this] at hh
  simpa only [isRS_eq] using hh
end
end Go.Ev
