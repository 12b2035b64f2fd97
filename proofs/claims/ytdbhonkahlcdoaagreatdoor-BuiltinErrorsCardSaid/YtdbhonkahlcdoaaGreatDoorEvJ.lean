/- A verified evaluator for the model's code (part EvJ): own work, of no program. -/
import Derived.Test.YtdbhonkahlcdoaaGreatDoorEvI
namespace Go.Ev

/-! Code in a short form: what each operation is specialised to, worked out beforehand -/
inductive XI where
  | t (i : Nat)
  | c (v : CV)
  | g (n : Nat)
  | f (n : Nat)
  | bad
inductive SrcI where
  | x (x : XI)
  | v (c : CV)
inductive SI where
  | slow
  | val (x : XI)
  | pick (c a b : XI)
  | alloc (te l : Nat) (z : List CV)
  | loads (x : XI) (sz : Nat)
  | load (x : XI)
  | nilc (x : XI)
  | binN (o : BinOp) (x y : XI)
  | binT (o : BinOp) (x y : XI)
  | binP (ne : Bool) (x y : XI)
  | not (x : XI)
  | convN (x : XI) (kd : IntKind)
  | convT (x : XI)
  | box (x : XI)
  | rows (xs : List XI) (sz len tot : Nat)
  | agg (l : List SrcI)
  | ifc (x : XI) (ty : Nat)
  | faddr (x : XI) (off : Nat)
  | field (x : XI) (off : Nat)
  | iaddr (x y : XI) (sz : Nat)
  | index (x y : XI)
  | extr (x : XI) (i : Nat)
  | store (x y : XI)
  | stores (x y : XI) (sz : Nat)
  | call (xs : List XI) (f : Nat)
  | lenT (x : XI)
  | lenL (x : XI)
  | app (e : Nat) (str : Bool) (sz : Nat) (x y : XI)
inductive OI where
  | p (d : Option Nat) (s : SI)
  | g (j : Nat) (want : Bool) (d : Option Nat) (s : SI)
  | slow
inductive AI where
  | load (d : Nat) (x : XI)
  | slow (j : Nat)
inductive PI where
  | op (i : Nat) (it : OI) (ag : List AI)
  | bad
inductive CI where
  | skip
  | reg (l : List OI)
  | plan (l : List PI)
  | bad
  | seq (a b : CI)
  | cond (x : XI) (a b : CI)
  | block (id : Nat) (a : CI)
  | loop (a : CI)
  | exit (id : Nat)
  | label
  | ret
  | slow
structure FnI where
  nt : Nat
  one : Option Nat
  body : CI

section
variable (G : Nat → Bool) (I : TypeId → Option TypeInfo) (P : Program)
def xi : Operand → XI
  | .tmp i => .t i
  | .const v => match ofValue v with | some c => .c c | none => .bad
  | .global g => match G g with | true => .g g | false => .bad
  | .func f => .f f
def srcI : Src → SrcI
  | .op x => .x (xi G x)
  | .cv c => .v c
def isNatOp : BinOp → Bool
  | .add | .sub | .mul | .quo | .rem | .eql | .neq | .lss | .leq | .gtr | .geq => true
  | _ => false
def isStrOp : BinOp → Bool
  | .add | .eql | .neq => true
  | _ => false
def compO (o : Op) : SI := match o with
  | .move x => .val (xi G x)
  | .assign x => .val (xi G x)
  | .pick c a b => .pick (xi G c) (xi G a) (xi G b)
  | .alloc e => match zeroI I e with
    | some z => match z.all zeroish with
      | true => .alloc (e + 1) z.length z
      | false => .slow
    | none => .slow
  | .load ty x => match aggI I ty with
    | some true => match I ty with
      | some i => .loads (xi G x) i.size
      | none => .slow
    | some false => .load (xi G x)
    | none => .slow
  | .nilCheck x => .nilc (xi G x)
  | .binOp op ty x y _ => match undI I ty with
    | some (.int _) => match isNatOp op with
      | true => .binN op (xi G x) (xi G y)
      | false => .slow
    | some .string => match isStrOp op with
      | true => .binT op (xi G x) (xi G y)
      | false => .slow
    | some (.pointer _) => match op with
      | .eql => .binP false (xi G x) (xi G y)
      | .neq => .binP true (xi G x) (xi G y)
      | _ => .slow
    | _ => .slow
  | .unOp op _ x => match op with
    | .not => .not (xi G x)
    | _ => .slow
  | .convert s d x => match undI I s with
    | none => .slow
    | some _ => match undI I d with
      | some (.int kd) => .convN (xi G x) kd
      | some .string => .convT (xi G x)
      | _ => .slow
  | .box _ x => .box (xi G x)
  | .buildSlice ty len parts => match elemI I ty with
    | some e => match zeroI I e with
      | some z => match I e with
        | some i => match Nat.ble (len * z.length) 65536 && (Nat.beq z.length i.size && isRow parts.toList 0 len) with
          | true => .rows (parts.toList.map fun p => xi G p.2) i.size len (len * z.length)
          | false => .slow
        | none => .slow
      | none => .slow
    | none => .slow
  | .build ty parts => match zeroI I ty with
    | some z => match undI I ty with
      | some (.struct fields) => match fields.toList.all (fun f => (I f.type).isSome) with
        | true => match layS (fun i => (fields[i]?).map fun f => (f.offset, cellsI I f.type)) parts.toList (z.map .cv) with
          | some l => .agg (l.map (srcI G))
          | none => .slow
        | false => .slow
      | _ => .slow
    | none => .slow
  | .makeInterface ty x => match isIfcI I ty with
    | true => .slow
    | false => .ifc (xi G x) ty
  | .fieldAddr s x f => match fieldI I s f with
    | some fd => match I fd.type with
      | some i => match Nat.beq i.size 0 with
        | true => .slow
        | false => .faddr (xi G x) fd.offset
      | none => .slow
    | none => .slow
  | .field s x f => match fieldI I s f with
    | some fd => match aggI I fd.type with
      | some false => .field (xi G x) fd.offset
      | _ => .slow
    | none => .slow
  | .indexAddr ty x i => match elemI I ty with
    | some e => match I e with
      | some j => .iaddr (xi G x) (xi G i) j.size
      | none => .slow
    | none => .slow
  | .index ty x i => match undI I ty with
    | some .string => .index (xi G x) (xi G i)
    | _ => .slow
  | .extract x i => .extr (xi G x) i
  | .store ty x y => match I ty with
    | some i => match Nat.beq 1 i.size with
      | true => .store (xi G x) (xi G y)
      | false => .stores (xi G x) (xi G y) i.size
    | none => .slow
  | .call c => match c.callee with
    | .value f => match f with
      | .func f => .call (c.args.toList.map (xi G)) f
      | _ => .slow
    | .builtin b => match b with
      | .len => match c.args.toList with
        | [x] => match c.argTypes[0]? with
          | some ty => match undI I ty with
            | some .string => .lenT (xi G x)
            | some (.slice _) => .lenL (xi G x)
            | _ => .slow
          | none => .slow
        | _ => .slow
      | .append => match c.args.toList with
        | [x, y] => match c.argTypes.toList with
          | [tx, ty] => match elemI I tx with
            | some e => match I e with
              | some i => match appOk P e i.size with
                | true => match undI I ty with
                  | some (.slice _) => .app e false i.size (xi G x) (xi G y)
                  | some .string => .app e true i.size (xi G x) (xi G y)
                  | _ => .slow
                | false => .slow
              | none => .slow
            | none => .slow
          | _ => .slow
        | _ => .slow
      | _ => .slow
    | _ => .slow
  | _ => .slow
def compI (ops : Array Oper) (o : Oper) : OI := match o.guard with
  | none => .p o.dst (compO G I P o.op)
  | some (j, want) => match ops[j]? with
    | some oj => match oj.dst with
      | some d => .g d want o.dst (compO G I P o.op)
      | none => .slow
    | none => .slow
def compA (ops : Array Oper) (j : Nat) : AI := match ops[j]? with
  | some o => match o.guard with
    | none => match o.dst with
      | some d => match o.op with
        | .load ty x => match aggI I ty with
          | some false => .load d (xi G x)
          | _ => .slow j
        | _ => .slow j
      | none => .slow j
    | some _ => .slow j
  | none => .slow j
def compP (ops : Array Oper) : PS → PI
  | .fl i => match ops[i]? with
    | some o => .op i (compI G I P ops o) []
    | none => .bad
  | .ch i again => match ops[i]? with
    | some o => .op i (compI G I P ops o) (again.map (compA G I ops))
    | none => .bad
def chkC (ops : Array Oper) (chk : Bool) : Bool := match chk with | true => drawOk P ops | false => true
def compC (chk : Bool) : Code → CI
  | .skip => .skip
  | .region _ ops draw => match draw with
    | false => .reg (ops.toList.map (compI G I P ops))
    | true => match chkC P ops chk with | true => .plan ((planOf P ops).map (compP G I P ops)) | false => .bad
  | .seq a b => .seq (compC chk a) (compC chk b)
  | .cond x a b => .cond (xi G x) (compC chk a) (compC chk b)
  | .block id a => .block id (compC chk a)
  | .loop a => .loop (compC chk a)
  | .rangeFunc .. => .slow
  | .exit id => .exit id
  | .scope _ => .bad
  | .label _ => .label
  | .goto _ => .bad
  | .ret => .ret
  | .refuse _ => .bad
def oneI : List ResultVar → Option Nat
  | [.tmp i] => some i
  | _ => none
def compF (F : FuncId → Option Func) (Dr : FuncId → Bool) (f : FuncId) : Option FnI := match F f with
  | some fn => match fn.body with
    | some c => some ⟨fn.ntmps, oneI fn.results.toList, compC G I P (!Dr f) c⟩
    | none => none
  | none => none
end
end Go.Ev

namespace Go.Ev
noncomputable section
variable {D : Nat}
def getI (x : XI) : Bx (GetV D) := XI.rec (motive := fun _ => Bx (GetV D)) (fun i => gT D i) (fun c => getC c) (fun g => .mk fun _ k => k (vPtr g 0)) (fun f => .mk fun _ k => k (vOth (.fn (.func f) [] []))) (.mk fun _ _ => .bad) x
theorem getI_eq (G : Nat → Bool) (x : Operand) : (getI (xi G x) : Bx (GetV D)) = getS G x := by
  cases x with
  | tmp i => rfl
  | const v =>
    unfold xi getS
    cases h : ofValue v with
    | none => simp only [h]; rfl
    | some c => simp only [h]; rfl
  | «global» g =>
    unfold xi getS
    cases h : G g <;> simp only [h] <;> rfl
  | func f => rfl
def getsI (xs : List XI) : Bx (TmS D → (List V → Res) → Res) :=
  lrec (.mk fun _ k => k []) (fun x _ ih => (getI x).opened fun X => ih.opened fun R => .mk fun t k => X t ((fun t k v => R t ((fun k v vs => k (v :: vs)) k v)) t k)) xs
theorem getsI_eq (G : Nat → Bool) (xs : List Operand) : (getsI (xs.map (xi G)) : Bx (TmS D → (List V → Res) → Res)) = getsS G xs := by
  induction xs with
  | nil => rfl
  | cons x xs ih =>
    have e1 : ∀ (x : XI) (xs : List XI), (getsI (x :: xs) : Bx (TmS D → (List V → Res) → Res)) = (getI x).opened fun X => (getsI xs).opened fun R => .mk fun t k => X t ((fun t k v => R t ((fun k v vs => k (v :: vs)) k v)) t k) := fun _ _ => rfl
    have e2 : (getsS G (x :: xs) : Bx (TmS D → (List V → Res) → Res)) = (getS G x).opened fun X => (getsS G xs).opened fun R => .mk fun t k => X t ((fun t k v => R t ((fun k v vs => k (v :: vs)) k v)) t k) := rfl
    rw [List.map_cons, e1, e2, getI_eq, ih]
def getCsI (xs : List XI) : Bx (TmS D → (List CV → Res) → Res) :=
  lrec (.mk fun _ k => k []) (fun x _ ih => (getI x).opened fun X => ih.opened fun R => .mk fun t k => X t ((fun t k v => decV v ((fun t k c => R t ((fun k c cs => k (c :: cs)) k c)) t k)) t k)) xs
theorem getCsI_eq (G : Nat → Bool) (xs : List Operand) : (getCsI (xs.map (xi G)) : Bx (TmS D → (List CV → Res) → Res)) = getCs G xs := by
  induction xs with
  | nil => rfl
  | cons x xs ih =>
    have e1 : ∀ (x : XI) (xs : List XI), (getCsI (x :: xs) : Bx (TmS D → (List CV → Res) → Res)) = (getI x).opened fun X => (getCsI xs).opened fun R => .mk fun t k => X t ((fun t k v => decV v ((fun t k c => R t ((fun k c cs => k (c :: cs)) k c)) t k)) t k) := fun _ _ => rfl
    have e2 : (getCs G (x :: xs) : Bx (TmS D → (List CV → Res) → Res)) = (getS G x).opened fun X => (getCs G xs).opened fun R => .mk fun t k => X t ((fun t k v => decV v ((fun t k c => R t ((fun k c cs => k (c :: cs)) k c)) t k)) t k) := rfl
    rw [List.map_cons, e1, e2, getI_eq, ih]
def rowsI (W : Bx (VK D)) (xs : List XI) (n len sz : Nat) : Bx (OpF D) := W.opened fun W => (getCsI xs).opened fun R => .mk fun c t h nb k => R t ((fun c t h nb k vs => flatK n vs ((fun c t h nb k cs =>
  W c t h nb ((fun cs k c t h nb => newKS 0 false 0 sz cs h nb ((fun k c t h n => k c t h n) k c t)) cs k) (vSl nb 0 len len)) c t h nb k)) c t h nb k)
theorem rowsI_eq (G : Nat → Bool) (W : Bx (VK D)) (xs : List Operand) (n len sz : Nat) : rowsI W (xs.map (xi G)) n len sz = rowsS G W xs n len sz := by
  unfold rowsI rowsS; rw [getCsI_eq]
def srcsI (l : List SrcI) : Bx (ListF D) := List.rec (motive := fun _ => Bx (ListF D)) (.mk fun _ k _ => k []) (fun x _ ih => SrcI.rec (motive := fun _ => Bx (ListF D) → Bx (ListF D)) (fun x ih => consO (getI x) ih) (fun c ih => consC c ih) x ih) l
theorem srcsI_eq (G : Nat → Bool) (l : List Src) : (srcsI (l.map (srcI G)) : Bx (ListF D)) = srcsS G l := by
  induction l with
  | nil => rfl
  | cons s l ih =>
    cases s with
    | op x =>
      have e1 : (srcsI ((Src.op x :: l).map (srcI G)) : Bx (ListF D)) = consO (getI (xi G x)) (srcsI (l.map (srcI G))) := rfl
      have e2 : (srcsS G (Src.op x :: l) : Bx (ListF D)) = consO (getS G x) (srcsS G l) := rfl
      rw [e1, e2, getI_eq, ih]
    | cv c =>
      have e1 : (srcsI ((Src.cv c :: l).map (srcI G)) : Bx (ListF D)) = consC c (srcsI (l.map (srcI G))) := rfl
      have e2 : (srcsS G (Src.cv c :: l) : Bx (ListF D)) = forceS (consC c (srcsS G l)) c fun c => consC c (srcsS G l) := rfl
      rw [e1, e2, forceS_eq, ih]

def denO (P : Program) (S : Bx (OpF D)) (d : Option Nat) (s : SI) : Bx (OpF D) := match s with
  | .slow => S
  | .val x => valS (putW d) (getI x)
  | .pick c a b => pickS (putW d) (getI c) (getI a) (getI b)
  | .alloc te l z => allocS (putW d) te l (ofListB D z)
  | .loads x sz => loadsS (putW d) (getI x) sz
  | .load x => loadS (putW d) (getI x)
  | .nilc x => nilcS S (putW d) (getI x)
  | .binN o x y => match natOp o with | some F => binNS S (putW d) (getI x) (getI y) F | none => S
  | .binT o x y => match strOpS o with | some F => binTS S (putW d) (getI x) (getI y) F | none => S
  | .binP ne x y => match ne with | false => binPS S (putW d) (getI x) (getI y) vTrue vFalse | true => binPS S (putW d) (getI x) (getI y) vFalse vTrue
  | .not x => notS (putW d) (getI x)
  | .convN x kd => convNS S (putW d) (getI x) kd
  | .convT x => convTS S (putW d) (getI x)
  | .box x => boxS (putW d) (getI x)
  | .rows xs sz len tot => rowsI (putW d) xs sz len tot
  | .agg l => aggF S (putW d) (srcsI l)
  | .ifc x ty => ifcS (putW d) (getI x) ty
  | .faddr x off => faddrS (putW d) (getI x) off
  | .field x off => fieldS (putW d) (getI x) off
  | .iaddr x y sz => iaddrS S (putW d) (getI x) (getI y) sz
  | .index x y => indexS S (putW d) (getI x) (getI y)
  | .extr x i => extrS (putW d) (getI x) i
  | .store x y => storeS S (putW d) (getI x) (getI y)
  | .stores x y sz => storesS S (putW d) (getI x) (getI y) sz
  | .call xs f => callS1 (putW d) (getsI xs) f
  | .lenT x => lenTS S (putW d) (getI x)
  | .lenL x => lenLS S (putW d) (getI x)
  | .app e str sz x y => appO P e str sz (putW d) (getI x) (getI y)
theorem isNat_ok (op : BinOp) : (isNatOp op = true ∧ ∃ F, natOp op = some F) ∨ (isNatOp op = false ∧ natOp op = none) := by
  cases op <;> first | exact .inl ⟨rfl, _, rfl⟩ | exact .inr ⟨rfl, rfl⟩
theorem isStr_ok (op : BinOp) : (isStrOp op = true ∧ ∃ F, strOpS op = some F) ∨ (isStrOp op = false ∧ strOpS op = none) := by
  cases op <;> first | exact .inl ⟨rfl, _, rfl⟩ | exact .inr ⟨rfl, rfl⟩
end
section
variable {D : Nat} {G : Nat → Bool} {I : TypeId → Option TypeInfo} {P : Program}
theorem spec_den (o : Oper) (S : Bx (OpF D)) : denO P S o.dst (compO G I P o.op) = specS P G o I S := by
  obtain ⟨dst, op, type, pos, after, guard⟩ := o
  unfold compO specS
  cases op <;> try rfl
  case move x => simp only [denO, getI_eq]
  case assign x => simp only [denO, getI_eq]
  case pick c a b => simp only [denO, getI_eq]
  case alloc e =>
    dsimp only
    cases zeroI I e with
    | none => rfl
    | some z => dsimp only; cases z.all zeroish <;> rfl
  case load ty x =>
    dsimp only
    cases aggI I ty with
    | none => rfl
    | some b =>
      cases b with
      | false => simp only [denO, getI_eq]
      | true => dsimp only; cases I ty with
        | none => rfl
        | some i => simp only [denO, getI_eq, fN_eq]
  case nilCheck x => simp only [denO, getI_eq]
  case binOp op ty x y u =>
    dsimp only
    cases undI I ty with
    | none => rfl
    | some td =>
      cases td <;> try rfl
      case int k =>
        dsimp only
        rcases isNat_ok op with ⟨h1, F, h2⟩ | ⟨h1, h2⟩ <;> simp only [h1, h2, denO, getI_eq]
      case string =>
        dsimp only
        rcases isStr_ok op with ⟨h1, F, h2⟩ | ⟨h1, h2⟩ <;> simp only [h1, h2, denO, getI_eq]
      case pointer e =>
        dsimp only
        cases op <;> simp only [denO, getI_eq]
  case unOp op ty x =>
    dsimp only
    cases op <;> simp only [denO, getI_eq]
  case convert s d x =>
    dsimp only
    cases undI I s with
    | none => rfl
    | some us =>
      dsimp only
      cases undI I d with
      | none => rfl
      | some ud => cases ud <;> simp only [denO, getI_eq]
  case box ty x => simp only [denO, getI_eq]
  case buildSlice ty len parts =>
    dsimp only
    cases elemI I ty with
    | none => rfl
    | some e =>
      dsimp only
      cases zeroI I e with
      | none => rfl
      | some z =>
        dsimp only
        cases I e with
        | none => rfl
        | some i =>
          dsimp only
          cases Nat.ble (len * z.length) 65536 && (Nat.beq z.length i.size && isRow parts.toList 0 len) with
          | false => rfl
          | true =>
            simp only [denO, fN_eq]
            rw [← rowsI_eq, List.map_map]
            rfl
  case build ty parts =>
    dsimp only
    cases zeroI I ty with
    | none => rfl
    | some z =>
      dsimp only
      cases undI I ty with
      | none => rfl
      | some td =>
        cases td <;> try rfl
        case struct fields =>
          dsimp only
          cases fields.toList.all (fun f => (I f.type).isSome) with
          | false => rfl
          | true =>
            dsimp only
            cases layS (fun i => (fields[i]?).map fun f => (f.offset, cellsI I f.type)) parts.toList (z.map .cv) with
            | none => rfl
            | some l => simp only [denO, srcsI_eq]
  case makeInterface ty x =>
    dsimp only
    cases isIfcI I ty <;> simp only [denO, getI_eq]
  case fieldAddr s x f =>
    dsimp only
    cases fieldI I s f with
    | none => rfl
    | some fd =>
      dsimp only
      cases I fd.type with
      | none => rfl
      | some i =>
        dsimp only
        cases Nat.beq i.size 0 <;> simp only [denO, getI_eq, fN_eq]
  case field s x f =>
    dsimp only
    cases fieldI I s f with
    | none => rfl
    | some fd =>
      dsimp only
      cases aggI I fd.type with
      | none => rfl
      | some b => cases b <;> simp only [denO, getI_eq, fN_eq]
  case indexAddr ty x i =>
    dsimp only
    cases elemI I ty with
    | none => rfl
    | some e =>
      dsimp only
      cases I e with
      | none => rfl
      | some j => simp only [denO, getI_eq, fN_eq]
  case index ty x i =>
    dsimp only
    cases undI I ty with
    | none => rfl
    | some td => cases td <;> simp only [denO, getI_eq]
  case extract x i => simp only [denO, getI_eq]
  case store ty x y =>
    dsimp only
    cases I ty with
    | none => rfl
    | some i =>
      dsimp only
      cases Nat.beq 1 i.size <;> simp only [denO, getI_eq, fN_eq]
  case call c =>
    obtain ⟨callee, args, tys⟩ := c
    dsimp only
    cases callee <;> try rfl
    case value f =>
      dsimp only
      cases f <;> try rfl
      case func f => simp only [denO, getsI_eq]
    case builtin b =>
      dsimp only
      cases b <;> try rfl
      case len =>
        dsimp only
        generalize args.toList = al
        rcases al with _ | ⟨x, _ | ⟨y, l⟩⟩ <;> try rfl
        dsimp only
        cases tys[0]? with
        | none => rfl
        | some ty =>
          dsimp only
          cases undI I ty with
          | none => rfl
          | some td => cases td <;> simp only [denO, getI_eq]
      case append =>
        dsimp only
        generalize args.toList = al
        generalize tys.toList = tl
        rcases al with _ | ⟨x, _ | ⟨y, _ | ⟨z, l⟩⟩⟩ <;> try rfl
        rcases tl with _ | ⟨tx, _ | ⟨ty, _ | ⟨z, l⟩⟩⟩ <;> try rfl
        dsimp only
        cases elemI I tx with
        | none => rfl
        | some e =>
          dsimp only
          cases I e with
          | none => rfl
          | some i =>
            dsimp only
            cases appOk P e i.size with
            | false => rfl
            | true =>
              dsimp only
              cases undI I ty with
              | none => rfl
              | some td => cases td <;> simp only [denO, getI_eq, fN_eq]
end
end Go.Ev

namespace Go.Ev
noncomputable section
variable {D : Nat}
def headO (l : List Oper) : Oper := match l with | o :: _ => o | [] => default
def tailO (l : List Oper) : List Oper := match l with | _ :: l => l | [] => []
def opAt (ops : Array Oper) (i : Nat) : Oper := match ops[i]? with | some o => o | none => default
def bare (o : Oper) : Oper := ⟨o.dst, o.op, o.type, o.pos, o.after, none⟩
def denI (P : Program) (G : Nat → Bool) (rd : Bool) (ops : Array Oper) (o : Oper) (it : OI) : Bx (OpF D) := match it with
  | .p d s => denO P (slowS P G rd ops o) d s
  | .g j want d s => guardS (gT D j) want (putW d) (denO P (slowS P G rd ops (bare o)) d s)
  | .slow => slowS P G rd ops o
def opsI (P : Program) (G : Nat → Bool) (rd : Bool) (ops : Array Oper) (its : List OI) : List Oper → Bx (OpF D) :=
  List.rec (motive := fun _ => List Oper → Bx (OpF D)) (fun _ => nilO) (fun it _ ih l => seqO (denI P G rd ops (headO l) it) (ih (tailO l))) its
def denA (P : Program) (G : Nat → Bool) (ops : Array Oper) (a : AI) : Bx (AgF D) := match a with
  | .load d x => loadA d (getI x)
  | .slow j => slowA P G ops j
def agsI (P : Program) (G : Nat → Bool) (ops : Array Oper) (l : List AI) (R : Bx (OpF D)) : Bx (OpF D) := lrec R (fun a _ ih => agK (denA P G ops a) ih) l
def planI (P : Program) (G : Nat → Bool) (rd : Bool) (ops : Array Oper) (l : List PI) : Bx (OpF D) := lrec nilO (fun s _ ih => match s with
  | .op i it ag => seqO (denI P G rd ops (opAt ops i) it) (agsI P G ops ag ih)
  | .bad => .mk fun _ _ _ _ _ => .bad) l
def cOps (c : Code) : Array Oper := match c with | .region _ ops _ => ops | _ => #[]
def cA (c : Code) : Code := match c with | .seq a _ => a | .cond _ a _ => a | .block _ a => a | .loop a => a | c => c
def cB (c : Code) : Code := match c with | .seq _ b => b | .cond _ _ b => b | c => c
def denC (P : Program) (I : TypeId → Option TypeInfo) (G : Nat → Bool) (fn : FuncId) (rd chk : Bool) (fuel : Nat) (ci : CI) : Code → Bx (CodeF D) :=
  CI.rec (motive := fun _ => Code → Bx (CodeF D))
    (fun _ => regS nilO)
    (fun l c => regS (opsI P G rd (cOps c) l (cOps c).toList))
    (fun l c => regS (planI P G rd (cOps c) l))
    (fun _ => .mk fun _ _ _ _ _ => .bad)
    (fun _ _ a b c => seqC (a (cA c)) (b (cB c)))
    (fun x _ _ a b c => condC (getI x) (a (cA c)) (b (cB c)))
    (fun id _ a c => blockC id (a (cA c)))
    (fun _ a c => .mk (loopF (a (cA c)) fuel))
    (fun id _ => .mk fun c t h n k => k (.exit id) c t h n)
    (fun _ => .mk fun c t h n k => k .normal c t h n)
    (fun _ => .mk fun c t h n k => k .ret c t h n)
    (fun c => codeS P I G fn rd chk fuel c) ci
def fBody (o : Option Func) : Code := match o with | some fn => (match fn.body with | some c => c | none => .skip) | none => .skip
def fRes (o : Option Func) : List ResultVar := match o with | some fn => fn.results.toList | none => []
def resI (P : Program) (one : Option Nat) (rs : List ResultVar) : Bx (RetF D) := match one with
  | some i => (gT D i).opened fun X => .mk fun t _ _ _ k => X t k
  | none => resS P rs
def fnI (P : Program) (I : TypeId → Option TypeInfo) (F : FuncId → Option Func) (G : Nat → Bool) (Dr : FuncId → Bool) (T : FuncId → Option FnI) (fuel : Nat) (f : FuncId) : Bx (FnF D) := match T f with
  | some x => (blankS x.nt).opened fun B => .mk fun call args tab h n k => setArgsS args 0 B ((fun call tab h n k t => (denC P I G f false (!Dr f) fuel x.body (fBody (F f))).go (.mk call [] tab) t h n (leaveK (resI P x.one (fRes (F f))) k)) call tab h n k)
  | none => fnS P I F G Dr fuel f
def stepI (P : Program) (I : TypeId → Option TypeInfo) (F : FuncId → Option Func) (G : Nat → Bool) (Dr : FuncId → Bool) (T : FuncId → Option FnI) (fuel : Nat) (call : CallS D) : CallS D := fun f args tab h n k =>
  Fn.rec (motive := fun _ => CallS D → List V → Tab → HS D → Nat → (V → Tab → HS D → Nat → Res) → Res) (fun g call args tab h n k => (fnI P I F G Dr T fuel g).go call args tab h n k) (fun _ _ _ _ _ _ _ => .bad)
    (fun _ _ _ _ _ _ _ _ => .bad) (fun _ _ _ _ _ _ _ _ _ _ => .bad) (fun l call args tab h n k => yldF P I G fuel call l args tab h n k) f call args tab h n k
def callI (P : Program) (I : TypeId → Option TypeInfo) (F : FuncId → Option Func) (G : Nat → Bool) (Dr : FuncId → Bool) (T : FuncId → Option FnI) (fuel depth : Nat) : CallS D :=
  Nat.rec (motive := fun _ => CallS D) (fun _ _ _ _ _ _ => .bad) (fun _ call => stepI P I F G Dr T fuel call) depth
end
section
variable {D : Nat} {G : Nat → Bool} {I : TypeId → Option TypeInfo} {P : Program} {rd : Bool}
theorem denI_eq (ops : Array Oper) (o : Oper) : (denI P G rd ops o (compI G I P ops o) : Bx (OpF D)) = opS P G rd ops o I := by
  unfold compI opS
  cases hg : o.guard with
  | none => dsimp only; exact spec_den o _
  | some jw =>
    obtain ⟨j, want⟩ := jw
    dsimp only
    cases hj : ops[j]? with
    | none => rfl
    | some oj =>
      dsimp only
      cases hd : oj.dst with
      | none => rfl
      | some d =>
        dsimp only
        show guardS (gT D d) want (putW o.dst) (denO P (slowS P G rd ops (bare o)) (bare o).dst (compO G I P (bare o).op)) = _
        rw [spec_den]
        rfl
theorem opsI_eq (ops : Array Oper) (l : List Oper) : (opsI P G rd ops (l.map (compI G I P ops)) l : Bx (OpF D)) = opsS P I G rd ops l := by
  induction l with
  | nil => rfl
  | cons o l ih =>
    have e1 : (opsI P G rd ops ((o :: l).map (compI G I P ops)) (o :: l) : Bx (OpF D)) = seqO (denI P G rd ops o (compI G I P ops o)) (opsI P G rd ops (l.map (compI G I P ops)) l) := rfl
    have e2 : (opsS P I G rd ops (o :: l) : Bx (OpF D)) = seqO (opS P G rd ops o I) (opsS P I G rd ops l) := rfl
    rw [e1, e2, denI_eq, ih]
theorem denA_eq (ops : Array Oper) (j : Nat) : (denA P G ops (compA G I ops j) : Bx (AgF D)) = againS P I G ops j := by
  unfold compA againS
  cases ops[j]? with
  | none => rfl
  | some o =>
    dsimp only
    cases o.guard with
    | some _ => rfl
    | none =>
      dsimp only
      cases o.dst with
      | none => rfl
      | some d =>
        dsimp only
        cases o.op <;> try rfl
        case load ty x =>
          dsimp only
          cases aggI I ty with
          | none => rfl
          | some b => cases b <;> simp only [denA, getI_eq]
theorem agsI_eq (ops : Array Oper) (js : List Nat) (R : Bx (OpF D)) : agsI P G ops (js.map (compA G I ops)) R = againsS P I G ops js R := by
  induction js with
  | nil => rfl
  | cons j js ih =>
    have e1 : agsI P G ops ((j :: js).map (compA G I ops)) R = agK (denA P G ops (compA G I ops j)) (agsI P G ops (js.map (compA G I ops)) R) := rfl
    have e2 : againsS P I G ops (j :: js) R = agK (againS P I G ops j) (againsS P I G ops js R) := rfl
    rw [e1, e2, denA_eq, ih]
theorem planI_eq (ops : Array Oper) (l : List PS) : (planI P G rd ops (l.map (compP G I P ops)) : Bx (OpF D)) = planS P I G rd ops l := by
  induction l with
  | nil => rfl
  | cons s l ih =>
    have e1 : ∀ (s : PI) (l : List PI), (planI P G rd ops (s :: l) : Bx (OpF D)) = match s with
      | .op i it ag => seqO (denI P G rd ops (opAt ops i) it) (agsI P G ops ag (planI P G rd ops l))
      | .bad => .mk fun _ _ _ _ _ => .bad := fun _ _ => rfl
    have e2 : (planS P I G rd ops (s :: l) : Bx (OpF D)) = match s with
      | .fl i => match ops[i]? with
        | some o => seqO (opS P G rd ops o I) (planS P I G rd ops l)
        | none => .mk fun _ _ _ _ _ => .bad
      | .ch i again => match ops[i]? with
        | some o => seqO (opS P G rd ops o I) (againsS P I G ops again (planS P I G rd ops l))
        | none => .mk fun _ _ _ _ _ => .bad := rfl
    rw [List.map_cons, e1, e2, ← ih]
    cases s with
    | fl i =>
      simp only [compP]
      cases hi : ops[i]? with
      | none => rfl
      | some o =>
        have : opAt ops i = o := by unfold opAt; rw [hi]
        simp only [this, denI_eq]
        rfl
    | ch i again =>
      simp only [compP]
      cases hi : ops[i]? with
      | none => rfl
      | some o =>
        have : opAt ops i = o := by unfold opAt; rw [hi]
        simp only [this, denI_eq, agsI_eq]
theorem denC_eq (fn : FuncId) (chk : Bool) (fuel : Nat) (c : Code) : (denC P I G fn rd chk fuel (compC G I P chk c) c : Bx (CodeF D)) = codeS P I G fn rd chk fuel c := by
  induction c with
  | skip => rfl
  | region id ops draw =>
    cases draw with
    | false =>
      show regS (opsI P G rd ops (ops.toList.map (compI G I P ops)) ops.toList) = regS (opsS P I G rd ops ops.toList)
      rw [opsI_eq]
    | true =>
      have e1 : (codeS P I G fn rd chk fuel (.region id ops true) : Bx (CodeF D)) = match chkC P ops chk with | true => regS (planS P I G rd ops (planOf P ops)) | false => .mk fun _ _ _ _ _ => .bad := rfl
      have e2 : compC G I P chk (.region id ops true) = match chkC P ops chk with | true => .plan ((planOf P ops).map (compP G I P ops)) | false => .bad := rfl
      rw [e1, e2]
      cases chkC P ops chk with
      | false => rfl
      | true =>
        show regS (planI P G rd ops ((planOf P ops).map (compP G I P ops))) = regS (planS P I G rd ops (planOf P ops))
        rw [planI_eq]
  | seq a b iha ihb =>
    show seqC (denC P I G fn rd chk fuel (compC G I P chk a) a) (denC P I G fn rd chk fuel (compC G I P chk b) b) = seqC (codeS P I G fn rd chk fuel a) (codeS P I G fn rd chk fuel b)
    rw [iha, ihb]
  | cond x a b iha ihb =>
    show condC (getI (xi G x)) (denC P I G fn rd chk fuel (compC G I P chk a) a) (denC P I G fn rd chk fuel (compC G I P chk b) b) = condC (getS G x) (codeS P I G fn rd chk fuel a) (codeS P I G fn rd chk fuel b)
    rw [iha, ihb, getI_eq]
  | block id a iha =>
    show blockC id (denC P I G fn rd chk fuel (compC G I P chk a) a) = blockC id (codeS P I G fn rd chk fuel a)
    rw [iha]
  | loop a iha =>
    show Bx.mk (loopF (denC P I G fn rd chk fuel (compC G I P chk a) a) fuel) = Bx.mk (loopF (codeS P I G fn rd chk fuel a) fuel)
    rw [iha]
  | rangeFunc f ps a b _ _ => rfl
  | exit id => rfl
  | scope a _ => rfl
  | label l => rfl
  | goto l => rfl
  | ret => rfl
  | refuse w => rfl
theorem resI_eq (rs : List ResultVar) : (resI P (oneI rs) rs : Bx (RetF D)) = resS P rs := by
  match rs with
  | [] => rfl
  | [.tmp i] => rfl
  | [.cell a ty] => rfl
  | .tmp _ :: _ :: _ => rfl
  | .cell _ _ :: _ :: _ => rfl
/-- a table of short forms -/
def TabOk (G : Nat → Bool) (I : TypeId → Option TypeInfo) (P : Program) (F : FuncId → Option Func) (Dr : FuncId → Bool) (T : FuncId → Option FnI) : Prop := ∀ f x, T f = some x → compF G I P F Dr f = some x
variable {F : FuncId → Option Func} {Dr : FuncId → Bool} {T : FuncId → Option FnI}
theorem fnI_eq (hT : TabOk G I P F Dr T) (fuel : Nat) (f : FuncId) : (fnI P I F G Dr T fuel f : Bx (FnF D)) = fnS P I F G Dr fuel f := by
  unfold fnI
  cases ht : T f with
  | none => rfl
  | some x =>
    have h := hT f x ht
    unfold compF at h
    unfold fnS
    cases hf : F f with
    | none => rw [hf] at h; cases h
    | some fn =>
      rw [hf] at h
      dsimp only at h ⊢
      cases hb : fn.body with
      | none => rw [hb] at h; cases h
      | some c =>
        rw [hb] at h
        dsimp only at h ⊢
        have h := Option.some.inj h
        subst h
        have e1 : fBody (some fn) = c := by unfold fBody; simp only [hb]
        have e2 : fRes (some fn) = fn.results.toList := rfl
        simp only [e1, e2, denC_eq, resI_eq]
theorem stepI_eq (hT : TabOk G I P F Dr T) (fuel : Nat) (call : CallS D) : stepI P I F G Dr T fuel call = stepS P I F G Dr fuel call := by
  funext f args tab h n k
  cases f with
  | func g =>
    show (fnI P I F G Dr T fuel g).go call args tab h n k = (fnS P I F G Dr fuel g).go call args tab h n k
    rw [fnI_eq hT]
  | method s => rfl
  | methodOf t s => rfl
  | via t p g b => rfl
  | yield l => rfl
theorem callI_eq (hT : TabOk G I P F Dr T) (fuel depth : Nat) : (callI P I F G Dr T fuel depth : CallS D) = callS P I F G Dr fuel depth := by
  induction depth with
  | zero => rfl
  | succ depth ih =>
    show stepI P I F G Dr T fuel (callI P I F G Dr T fuel depth) = stepS P I F G Dr fuel (callS P I F G Dr fuel depth)
    rw [ih, stepI_eq hT]
/-- the runs over the short forms are runs of the plain evaluator -/
theorem runI_plain (hI : ∀ t, I t = P.info? t) (hF : ∀ f, F f = P.funcs[f]?) (hD : DrawFact P Dr) (hT : TabOk G I P F Dr T) {fuel depth : Nat} {f : Fn} {args : List CV} {tab : Tab} {h : Hp} {n : Nat}
    (hh : (callI (D := D) P I F G Dr T fuel depth f (encVs args) tab (encH D h) n (isTS D)).val = true) : callC P G fuel depth f args ⟨h, n, tab⟩ isT = true := by
  rw [callI_eq hT] at hh
  exact run_plain hI hF hD hh
theorem runI_step (hI : ∀ t, I t = P.info? t) (hF : ∀ f, F f = P.funcs[f]?) (hD : DrawFact P Dr) (hT : TabOk G I P F Dr T) {fuel depth : Nat} {aw : FuncId} {f : Fn} {args : List CV} {tab : Tab} {h : Hp} {n : Nat}
    (hh : (stepI (D := D) P I F G Dr T fuel (ovrS aw (callI P I F G Dr T fuel depth)) f (encVs args) tab (encH D h) n (isTS D)).val = true) : callStep P G fuel (ovr aw (callC P G fuel depth)) f args ⟨h, n, tab⟩ isT = true := by
  rw [callI_eq hT, stepI_eq hT] at hh
  exact run_step hI hF hD hh
end
end Go.Ev

namespace Go.Ev
/-! Calls whose answers are known: constants in, constants out -/
def plainCV : CV → Bool
  | .bool _ | .int .. | .str .. | .ptr0 | .sl0 | .map0 | .fn0 | .ifc0 => true
  | _ => false
def constCV : CV → Bool
  | .tup l => l.all plainCV
  | .agg l => l.all plainCV
  | c => plainCV c
theorem VR.plain {σ σ' : Sg} {e e' : Env} {c : CV} {v : Value} (h : VR σ e c v) (hc : plainCV c = true) : VR σ' e' c v := by
  cases h <;> first | (cases hc; done) | skip
  · exact .bool _
  · exact .int _ _
  · exact .str _ (by assumption) (by assumption)
  · exact .ptr0
  · exact .sl0
  · exact .map0
  · exact .fn0
  · exact .ifc0
theorem VR.const {σ σ' : Sg} {e e' : Env} {c : CV} {v : Value} (h : VR σ e c v) (hc : constCV c = true) : VR σ' e' c v := by
  cases h
  case agg hl hv => exact .agg hl fun i c v h1 h2 => (hv i c v h1 h2).plain (List.all_eq_true.1 hc c (List.mem_of_getElem? h1))
  case tup hl hv => exact .tup hl fun i c v h1 h2 => (hv i c v h1 h2).plain (List.all_eq_true.1 hc c (List.mem_of_getElem? h1))
  all_goals first | (cases hc; done) | skip
  · exact .bool _
  · exact .int _ _
  · exact .str _ (by assumption) (by assumption)
  · exact .ptr0
  · exact .sl0
  · exact .map0
  · exact .fn0
  · exact .ifc0
theorem LR.plain {σ σ' : Sg} {e e' : Env} {cs : List CV} {vs : List Value} (h : LR σ e cs vs) (hc : cs.all plainCV = true) : LR σ' e' cs vs :=
  ⟨h.1, fun i c v h1 h2 => (h.2 i c v h1 h2).plain (List.all_eq_true.1 hc c (List.mem_of_getElem? h1))⟩
/-- rows: what goes in, what comes out -/
abbrev KRows := List (List CV × CV)
def rowEq : List CV → List CV → Bool
  | [], [] => true
  | x :: xs, y :: ys => match cvBeq x y with | true => rowEq xs ys | false => false
  | _, _ => false
noncomputable def findR (rows : KRows) (args : List CV) : Option CV := lrec none (fun r _ ih => match rowEq r.1 args with | true => some r.2 | false => ih) rows
theorem cvBeq_plain {x y : CV} (h : cvBeq x y = true) (hx : plainCV x = true) : x = y := by
  cases x <;> first | (cases hx; done) | skip
  all_goals cases y <;> first | (cases h; done) | skip
  · have : (_ == _) = true := h
    simpa using this
  · rename_i k a k' b
    have : (decide (k = k') && eqI a b) = true := h
    simp only [Bool.and_eq_true, decide_eq_true_eq, eqI_eq] at this
    rw [this.1, this.2]
  · rename_i l c l' c'
    have : (Nat.beq l l' && Nat.beq c c') = true := h
    simp only [Bool.and_eq_true, Nat.beq_eq] at this
    rw [this.1, this.2]
  all_goals rfl
theorem rowEq_eq : ∀ {xs ys : List CV}, rowEq xs ys = true → xs.all plainCV = true → xs = ys
  | [], [], _, _ => rfl
  | [], _ :: _, h, _ => by cases h
  | _ :: _, [], h, _ => by cases h
  | x :: xs, y :: ys, h, hx => by
    simp only [rowEq] at h
    split at h
    · rename_i h1
      simp only [List.all_cons, Bool.and_eq_true] at hx
      rw [cvBeq_plain h1 hx.1, rowEq_eq h hx.2]
    · cases h
theorem findR_mem : ∀ {rows : KRows} {args : List CV} {v : CV}, findR rows args = some v → ∃ r ∈ rows, rowEq r.1 args = true ∧ r.2 = v
  | [], _, _, h => by cases h
  | r :: rows, args, v, h => by
    have e : findR (r :: rows) args = match rowEq r.1 args with | true => some r.2 | false => findR rows args := rfl
    rw [e] at h
    split at h
    · rename_i h1; exact ⟨r, by simp, h1, Option.some.inj h⟩
    · obtain ⟨r', h1, h2⟩ := findR_mem h; exact ⟨r', by simp [h1], h2⟩
noncomputable section
def ovrC (T : FuncId → Option KRows) (call : CallFn) : CallFn := fun f args m k => match f with
  | .func g => match T g with
    | some rows => match findR rows args with
      | some v => k v m
      | none => call (.func g) args m k
    | none => call (.func g) args m k
  | f => call f args m k
def isV (r : CV) : KA := fun v _ => cvBeq' r v
  where cvBeq' (r v : CV) : Bool := match r with
    | .tup l => match v with | .tup l' => rowEq l l' | _ => false
    | .agg l => match v with | .agg l' => rowEq l l' | _ => false
    | r => match plainCV r with | true => cvBeq r v | false => false
theorem isV_inv {r v : CV} {m : M} (h : isV r v m = true) (hc : constCV r = true) : r = v := by
  unfold isV isV.cvBeq' at h
  split at h
  · split at h
    · rw [rowEq_eq h hc]
    · cases h
  · split at h
    · rw [rowEq_eq h hc]
    · cases h
  · split at h
    · exact cvBeq_plain h (by assumption)
    · cases h
end
section
variable {P : Program} {σ : Sg} {G : Nat → Bool}
/-- what a table of known answers must show -/
def RowsOk (P : Program) (T : FuncId → Option KRows) : Prop :=
  ∀ (σ : Sg) g rows, T g = some rows → ∀ r ∈ rows, r.1.all plainCV = true ∧ constCV r.2 = true ∧ ∃ (call' : CallFn) (h0 : Hp) (n0 : Nat), SoundCall P σ (fun _ => false) call' ∧ call' (.func g) r.1 ⟨h0, n0, ⟨[], []⟩⟩ (isV r.2) = true
theorem ovrC_ok {call : CallFn} (hcall : SoundCall P σ G call) {T : FuncId → Option KRows} (hT : RowsOk P T) : SoundCall P σ G (ovrC T call) := by
  intro f args m k hh hs
  simp only [ovrC] at hh
  split at hh
  · rename_i g
    split at hh
    · rename_i rows hrows
      split at hh
      · rename_i v hv
        obtain ⟨r, hr, hre, rfl⟩ := findR_mem hv
        obtain ⟨hp, hc, call', h0, n0, hsound, hrun⟩ := hT sg0 g rows hrows r hr
        obtain rfl := rowEq_eq hre hp
        obtain ⟨v, m', h1, _, h2⟩ := hsound _ _ _ _ hrun ⟨fun s lo hi h => by simp at h, fun x hx => by cases hx⟩
        have hv := isV_inv h1 hc
        subst hv
        refine ⟨r.2, m, hh, hs, fun e w f' vs kd c cs hR hf hv hk => ?_⟩
        cases hf
        obtain ⟨v', w', e', q1, q2, q3, q4⟩ := h2 (fun _ => none) w (.func g) vs kd c cs (RL.empty _ _ _ _ (fun r o hr => by cases hr) fun _ => rfl) (.func g) (hv.plain hp) hk
        have hfr : ∀ r, r < w.heap.size → w'.heap[r]? = w.heap[r]? := fun r hr => q4.frm r hr (fun b p hb => by cases hb)
        exact ⟨v', w', e, q1, q2.const hc, hR.frame hfr, ⟨.refl e, Nat.le_refl _, fun _ _ h => ⟨h, rfl⟩, q4.siz, fun r hr _ => hfr r hr, fun b p h hl => .inl ⟨b, p, h, hl, rfl⟩, q4.tap, q4.os, q4.out⟩⟩
      · exact hcall _ _ _ _ hh hs
    · exact hcall _ _ _ _ hh hs
  · exact hcall _ _ _ _ hh hs
end
section
variable {D : Nat} {cS : CallS D} {cl : CallFn}
/-- the same, at the staged evaluator -/
noncomputable def ovrCS (T : FuncId → Option KRows) (call : CallS D) : CallS D := fun f args tab h n k =>
  Fn.rec (motive := fun _ => Res) (fun g => Option.rec (motive := fun _ => Res) (call (.func g) args tab h n k)
    (fun rows => decVs args fun cs => Option.rec (motive := fun _ => Res) (call (.func g) args tab h n k) (fun v => encK v fun v => k v tab h n) (findR rows cs)) (T g)) (fun s => call (.method s) args tab h n k)
    (fun t s => call (.methodOf t s) args tab h n k) (fun t p g b => call (.via t p g b) args tab h n k) (fun l => call (.yield l) args tab h n k) f
theorem ovrCS_ok (T : FuncId → Option KRows) (hc : CallOK cS cl) : CallOK (ovrCS T cS) (ovrC T cl) := by
  intro f args m k
  cases f with
  | func g =>
    show (Option.rec (motive := fun _ => Res) _ _ (T g) : Res).val = (match T g with | some rows => _ | none => _)
    cases T g with
    | none => exact hc _ args m k
    | some rows =>
      show (decVs (encVs args) fun cs => (Option.rec (motive := fun _ => Res) _ _ (findR rows cs) : Res)).val = (match findR rows args with | some v => _ | none => _)
      rw [decVs_enc]
      cases findR rows args with
      | none => exact hc _ args m k
      | some v =>
        show (encK v fun v => k v m.tab (encH D m.h) m.n).val = _
        rw [encK_eq]
  | method s => exact hc _ args m k
  | methodOf t s => exact hc _ args m k
  | via t p g b => exact hc _ args m k
  | yield l => exact hc _ args m k
end
end Go.Ev

namespace Go.Ev
noncomputable section
/-- the evaluator, with known answers at every depth -/
def callK (P : Program) (G : Nat → Bool) (T : FuncId → Option KRows) (fuel depth : Nat) : CallFn :=
  Nat.rec (motive := fun _ => CallFn) (fun _ _ _ _ => false) (fun _ call => ovrC T (callStep P G fuel call)) depth
def callIK {D : Nat} (P : Program) (I : TypeId → Option TypeInfo) (F : FuncId → Option Func) (G : Nat → Bool) (Dr : FuncId → Bool) (T : FuncId → Option FnI) (K : FuncId → Option KRows) (fuel depth : Nat) : CallS D :=
  Nat.rec (motive := fun _ => CallS D) (fun _ _ _ _ _ _ => .bad) (fun _ call => ovrCS K (stepI P I F G Dr T fuel call)) depth
/-- a run that hands back a known value -/
def isVS (D : Nat) (r : CV) (v : V) (tab : Tab) (_ : HS D) (n : Nat) : Res := decV v fun c => bIf (isV r c ⟨.mk .nil, n, tab⟩) .ok .bad
end
section
variable {P : Program} {G : Nat → Bool} {K : FuncId → Option KRows}
theorem callK_sound (hng : NoCount P) (hx : ExtFact P) (hK : RowsOk P K) (fuel depth : Nat) (σ : Sg) : SoundCall P σ G (callK P G K fuel depth) := by
  induction depth with
  | zero => intro f args m k hh _; cases hh
  | succ depth ih => exact ovrC_ok (callStep_ok hng (ext_ok hng hx) ih (fun rd => draw_ok ih rd) fuel) hK
variable {D : Nat} {I : TypeId → Option TypeInfo} {F : FuncId → Option Func} {Dr : FuncId → Bool} {T : FuncId → Option FnI}
theorem callIK_ok (hD : DrawFact P Dr) (hT : TabOk G P.info? P (fun f => P.funcs[f]?) Dr T) (fuel depth : Nat) : CallOK (callIK (D := D) P P.info? (fun f => P.funcs[f]?) G Dr T K fuel depth) (callK P G K fuel depth) := by
  induction depth with
  | zero => intro f args m k; rfl
  | succ depth ih =>
    have h := step_good (G := G) hD ih fuel
    rw [← stepI_eq hT] at h
    exact ovrCS_ok K h
theorem isVS_eq (r v : CV) (m : M) : (isVS D r (encV v) m.tab (encH D m.h) m.n).val = isV r v m := by
  unfold isVS
  rw [decV_enc]
  show (bIf (isV r v m) .ok .bad).val = _
  cases isV r v m <;> rfl
/-- a row of the table, seen by a run -/
theorem row_run (hI : ∀ t, I t = P.info? t) (hF : ∀ f, F f = P.funcs[f]?) (hD : DrawFact P Dr) (hT : TabOk G I P F Dr T) {fuel depth : Nat} {f : Fn} {args : List CV} {r : CV} {h : Hp} {n : Nat}
    (hh : (callIK (D := D) P I F G Dr T K fuel depth f (encVs args) ⟨[], []⟩ (encH D h) n (isVS D r)).val = true) : callK P G K fuel depth f args ⟨h, n, ⟨[], []⟩⟩ (isV r) = true := by
  have h1 : I = P.info? := funext hI
  have h2 : F = fun f => P.funcs[f]? := funext hF
  subst h1; subst h2
  have := callIK_ok (D := D) (K := K) hD hT fuel depth f args ⟨h, n, ⟨[], []⟩⟩ (isVS D r)
  rw [this] at hh
  simpa only [isVS_eq] using hh
/-- a law's run -/
theorem runK_step (hI : ∀ t, I t = P.info? t) (hF : ∀ f, F f = P.funcs[f]?) (hD : DrawFact P Dr) (hT : TabOk G I P F Dr T) {fuel depth : Nat} {f : Fn} {args : List CV} {tab : Tab} {h : Hp} {n : Nat}
    (hh : (stepI (D := D) P I F G Dr T fuel (callIK P I F G Dr T K fuel depth) f (encVs args) tab (encH D h) n (isTS D)).val = true) : callStep P G fuel (callK P G K fuel depth) f args ⟨h, n, tab⟩ isT = true := by
  have h1 : I = P.info? := funext hI
  have h2 : F = fun f => P.funcs[f]? := funext hF
  subst h1; subst h2
  rw [stepI_eq hT] at hh
  have := step_good (D := D) (G := G) hD (callIK_ok (K := K) hD hT fuel depth) fuel f args ⟨h, n, tab⟩ (isTS D)
  rw [this] at hh
  simpa only [isTS_eq] using hh
end
end Go.Ev

namespace Go.Ev
/-! The direct forms: what the staged combinators come to, as constants -/
def DD : Nat := 10
abbrev NF := NatF
abbrev SF := StrF
noncomputable def oV (X : GetV DD) (W : VK DD) (K : OpF DD) : OpF DD := fun (c : Cx DD) (t : TmS DD) (h : HS DD) (n : Nat) (k : KO DD) => X t (W c t h n ((fun (k : KO DD) (K : OpF DD) (c : Cx DD) (t : TmS DD) (h : HS DD) (n : Nat) => K c t h n k) k K))
theorem oV_go (X : Bx (GetV DD)) (W : Bx (VK DD)) (K : Bx (OpF DD)) : (seqO (valS W X) K).go = oV X.go W.go K.go := by cases X; cases W; cases K; rfl
noncomputable def oK (X : GetV DD) (A : GetV DD) (B : GetV DD) (W : VK DD) (K : OpF DD) : OpF DD := fun (c : Cx DD) (t : TmS DD) (h : HS DD) (n : Nat) (k : KO DD) => X t ((fun (c : Cx DD) (t : TmS DD) (h : HS DD) (n : Nat) (k : KO DD) (A B : GetV DD) (W : VK DD) (v : V) => v (A t (W c t h n k)) (B t (W c t h n k)) fI fS fS fL fA fO) c t h n ((fun (k : KO DD) (K : OpF DD) (c : Cx DD) (t : TmS DD) (h : HS DD) (n : Nat) => K c t h n k) k K) A B W)
theorem oK_go (X : Bx (GetV DD)) (A : Bx (GetV DD)) (B : Bx (GetV DD)) (W : Bx (VK DD)) (K : Bx (OpF DD)) : (seqO (pickS W X A B) K).go = oK X.go A.go B.go W.go K.go := by cases X; cases A; cases B; cases W; cases K; rfl
noncomputable def oNot (X : GetV DD) (W : VK DD) (K : OpF DD) : OpF DD := fun (c : Cx DD) (t : TmS DD) (h : HS DD) (n : Nat) (k : KO DD) => X t ((fun (c : Cx DD) (t : TmS DD) (h : HS DD) (n : Nat) (k : KO DD) (W : VK DD) (v : V) => v (W c t h n k vFalse) (W c t h n k vTrue) fI fS fS fL fA fO) c t h n ((fun (k : KO DD) (K : OpF DD) (c : Cx DD) (t : TmS DD) (h : HS DD) (n : Nat) => K c t h n k) k K) W)
theorem oNot_go (X : Bx (GetV DD)) (W : Bx (VK DD)) (K : Bx (OpF DD)) : (seqO (notS W X) K).go = oNot X.go W.go K.go := by cases X; cases W; cases K; rfl
noncomputable def oL (X : GetV DD) (W : VK DD) (K : OpF DD) : OpF DD := fun (c : Cx DD) (t : TmS DD) (h : HS DD) (n : Nat) (k : KO DD) => X t ((fun (c : Cx DD) (t : TmS DD) (h : HS DD) (n : Nat) (k : KO DD) (W : VK DD) (v : V) => v .bad .bad fI fS ((fun (c : Cx DD) (t : TmS DD) (h : HS DD) (n : Nat) (k : KO DD) (W : VK DD) (b i : Nat) => (gH DD b).go h ((fun (c : Cx DD) (t : TmS DD) (h : HS DD) (n i : Nat) (k : KO DD) (W : VK DD) (bs : BS DD) => bs ((fun (c : Cx DD) (t : TmS DD) (h : HS DD) (n i : Nat) (k : KO DD) (W : VK DD) (_ : Nat) (_ : Bool) (_ _ : Nat) (cs : TmS DD) => (gT DD i).go cs (W c t h n k)) c t h n i k W) fC) c t h n i k W)) c t h n k W) fL fA fO) c t h n ((fun (k : KO DD) (K : OpF DD) (c : Cx DD) (t : TmS DD) (h : HS DD) (n : Nat) => K c t h n k) k K) W)
theorem oL_go (X : Bx (GetV DD)) (W : Bx (VK DD)) (K : Bx (OpF DD)) : (seqO (loadS W X) K).go = oL X.go W.go K.go := by cases X; cases W; cases K; rfl
noncomputable def oLs (RL : TmS DD → Nat → (List CV → Res) → Res) (X : GetV DD) (W : VK DD) (K : OpF DD) : OpF DD := fun (c : Cx DD) (t : TmS DD) (h : HS DD) (n : Nat) (k : KO DD) => X t ((fun (c : Cx DD) (t : TmS DD) (h : HS DD) (n : Nat) (k : KO DD) (W : VK DD) (RL : TmS DD → Nat → (List CV → Res) → Res) (v : V) => v .bad .bad fI fS ((fun (c : Cx DD) (t : TmS DD) (h : HS DD) (n : Nat) (k : KO DD) (W : VK DD) (RL : TmS DD → Nat → (List CV → Res) → Res) (b i : Nat) => (gH DD b).go h ((fun (c : Cx DD) (t : TmS DD) (h : HS DD) (n i : Nat) (k : KO DD) (W : VK DD) (RL : TmS DD → Nat → (List CV → Res) → Res) (bs : BS DD) => bs ((fun (c : Cx DD) (t : TmS DD) (h : HS DD) (n i : Nat) (k : KO DD) (W : VK DD) (RL : TmS DD → Nat → (List CV → Res) → Res) (_ : Nat) (_ : Bool) (_ _ : Nat) (cs : TmS DD) => RL cs i ((fun (c : Cx DD) (t : TmS DD) (h : HS DD) (n : Nat) (k : KO DD) (W : VK DD) (cl : List CV) => W c t h n k (vAgg cl)) c t h n k W)) c t h n i k W RL) fC) c t h n i k W RL)) c t h n k W RL) fL fA fO) c t h n ((fun (k : KO DD) (K : OpF DD) (c : Cx DD) (t : TmS DD) (h : HS DD) (n : Nat) => K c t h n k) k K) W RL)
noncomputable def oS (S : OpF DD) (X : GetV DD) (Y : GetV DD) (W : VK DD) (K : OpF DD) : OpF DD := fun (c : Cx DD) (t : TmS DD) (h : HS DD) (n : Nat) (k : KO DD) => X t ((fun (c : Cx DD) (t : TmS DD) (h : HS DD) (n : Nat) (k : KO DD) (Y : GetV DD) (W : VK DD) (S : OpF DD) (v : V) => v .bad .bad fI fS ((fun (c : Cx DD) (t : TmS DD) (h : HS DD) (n : Nat) (k : KO DD) (Y : GetV DD) (W : VK DD) (S : OpF DD) (b i : Nat) => Y t ((fun (c : Cx DD) (t : TmS DD) (h : HS DD) (n b i : Nat) (k : KO DD) (W : VK DD) (S : OpF DD) (w : V) => oneS w ((gH DD b).go h ((fun (c : Cx DD) (t : TmS DD) (h : HS DD) (n b i : Nat) (k : KO DD) (w : V) (W : VK DD) (bs : BS DD) => bs ((fun (c : Cx DD) (t : TmS DD) (h : HS DD) (n b i : Nat) (k : KO DD) (w : V) (W : VK DD) (te : Nat) (lo : Bool) (es sz : Nat) (cs : TmS DD) => (pT DD i).go cs w ((fun (c : Cx DD) (t : TmS DD) (h : HS DD) (n b te es sz : Nat) (k : KO DD) (W : VK DD) (lo : Bool) (q : TmS DD) => (pH DD b).go h (bCells DD te lo es sz q) ((fun (c : Cx DD) (t : TmS DD) (n : Nat) (k : KO DD) (W : VK DD) (h : HS DD) => W c t h n k vUndef) c t n k W)) c t h n b te es sz k W lo)) c t h n b i k w W) fC) c t h n b i k w W)) (S c t h n k)) c t h n b i k W S)) c t h n k Y W S) fL fA fO) c t h n ((fun (k : KO DD) (K : OpF DD) (c : Cx DD) (t : TmS DD) (h : HS DD) (n : Nat) => K c t h n k) k K) Y W S)
theorem oS_go (S : Bx (OpF DD)) (X : Bx (GetV DD)) (Y : Bx (GetV DD)) (W : Bx (VK DD)) (K : Bx (OpF DD)) : (seqO (storeS S W X Y) K).go = oS S.go X.go Y.go W.go K.go := by cases S; cases X; cases Y; cases W; cases K; rfl
noncomputable def oSs (RS : List CV → TmS DD → Nat → (TmS DD → Res) → Res) (S : OpF DD) (X : GetV DD) (Y : GetV DD) (W : VK DD) (K : OpF DD) : OpF DD := fun (c : Cx DD) (t : TmS DD) (h : HS DD) (n : Nat) (k : KO DD) => X t ((fun (c : Cx DD) (t : TmS DD) (h : HS DD) (n : Nat) (k : KO DD) (Y : GetV DD) (W : VK DD) (S : OpF DD) (RS : List CV → TmS DD → Nat → (TmS DD → Res) → Res) (v : V) => v .bad .bad fI fS ((fun (c : Cx DD) (t : TmS DD) (h : HS DD) (n : Nat) (k : KO DD) (Y : GetV DD) (W : VK DD) (S : OpF DD) (RS : List CV → TmS DD → Nat → (TmS DD → Res) → Res) (b i : Nat) => Y t (((fun (c : Cx DD) (t : TmS DD) (h : HS DD) (n b i : Nat) (k : KO DD) (W : VK DD) (RS : List CV → TmS DD → Nat → (TmS DD → Res) → Res) (s : Res) (w : V) => w s s (fun _ _ => s) (fun _ _ => s) (fun _ _ => s) (fun _ _ _ _ => s) ((fun (c : Cx DD) (t : TmS DD) (h : HS DD) (n b i : Nat) (k : KO DD) (W : VK DD) (RS : List CV → TmS DD → Nat → (TmS DD → Res) → Res) (cl : List CV) => (gH DD b).go h ((fun (c : Cx DD) (t : TmS DD) (h : HS DD) (n b i : Nat) (k : KO DD) (W : VK DD) (cl : List CV) (RS : List CV → TmS DD → Nat → (TmS DD → Res) → Res) (bs : BS DD) => bs ((fun (c : Cx DD) (t : TmS DD) (h : HS DD) (n b i : Nat) (k : KO DD) (W : VK DD) (cl : List CV) (RS : List CV → TmS DD → Nat → (TmS DD → Res) → Res) (te : Nat) (lo : Bool) (es sz : Nat) (cs : TmS DD) => RS cl cs i ((fun (c : Cx DD) (t : TmS DD) (h : HS DD) (n b te es sz : Nat) (k : KO DD) (W : VK DD) (lo : Bool) (q : TmS DD) => (pH DD b).go h (bCells DD te lo es sz q) ((fun (c : Cx DD) (t : TmS DD) (n : Nat) (k : KO DD) (W : VK DD) (h : HS DD) => W c t h n k vUndef) c t n k W)) c t h n b te es sz k W lo)) c t h n b i k W cl RS) fC) c t h n b i k W cl RS)) c t h n b i k W RS) (fun _ => s)) c t h n b i k W RS) (S c t h n k))) c t h n k Y W S RS) fL fA fO) c t h n ((fun (k : KO DD) (K : OpF DD) (c : Cx DD) (t : TmS DD) (h : HS DD) (n : Nat) => K c t h n k) k K) Y W S RS)
noncomputable def oB (F : NF) (S : OpF DD) (X : GetV DD) (Y : GetV DD) (W : VK DD) (K : OpF DD) : OpF DD := fun (c : Cx DD) (t : TmS DD) (h : HS DD) (n : Nat) (k : KO DD) => X t (((fun (c : Cx DD) (t : TmS DD) (h : HS DD) (n : Nat) (k : KO DD) (Y : GetV DD) (W : VK DD) (F : NF) (s : Res) (v : V) => v s s ((fun (c : Cx DD) (t : TmS DD) (h : HS DD) (n : Nat) (k : KO DD) (Y : GetV DD) (W : VK DD) (F : NF) (s : Res) (kd : IntKind) (a : Nat) => Y t ((fun (c : Cx DD) (t : TmS DD) (h : HS DD) (n a : Nat) (k : KO DD) (W : VK DD) (F : NF) (kd : IntKind) (s : Res) (w : V) => w s s ((fun (c : Cx DD) (t : TmS DD) (h : HS DD) (n a : Nat) (k : KO DD) (W : VK DD) (F : NF) (kd : IntKind) (s : Res) (kd1 : IntKind) (a1 : Nat) => bIf (Nat.beq (ikN kd) (ikN kd1)) (F kd a a1 (W c t h n k) s) s) c t h n a k W F kd s) (fun _ _ => s) (fun _ _ => s) (fun _ _ _ _ => s) (fun _ => s) (fun _ => s)) c t h n a k W F kd s)) c t h n k Y W F s) (fun _ _ => s) (fun _ _ => s) (fun _ _ _ _ => s) (fun _ => s) (fun _ => s)) c t h n ((fun (k : KO DD) (K : OpF DD) (c : Cx DD) (t : TmS DD) (h : HS DD) (n : Nat) => K c t h n k) k K) Y W F) (S c t h n ((fun (k : KO DD) (K : OpF DD) (c : Cx DD) (t : TmS DD) (h : HS DD) (n : Nat) => K c t h n k) k K)))
theorem oB_go (F : Bx (NF)) (S : Bx (OpF DD)) (X : Bx (GetV DD)) (Y : Bx (GetV DD)) (W : Bx (VK DD)) (K : Bx (OpF DD)) : (seqO (binNS S W X Y F) K).go = oB F.go S.go X.go Y.go W.go K.go := by cases F; cases S; cases X; cases Y; cases W; cases K; rfl
noncomputable def oT (F2 : SF) (S : OpF DD) (X : GetV DD) (Y : GetV DD) (W : VK DD) (K : OpF DD) : OpF DD := fun (c : Cx DD) (t : TmS DD) (h : HS DD) (n : Nat) (k : KO DD) => X t (((fun (c : Cx DD) (t : TmS DD) (h : HS DD) (n : Nat) (k : KO DD) (Y : GetV DD) (W : VK DD) (F2 : SF) (s : Res) (v : V) => v s s (fun _ _ => s) ((fun (c : Cx DD) (t : TmS DD) (h : HS DD) (n : Nat) (k : KO DD) (Y : GetV DD) (W : VK DD) (F2 : SF) (s : Res) (l x1 : Nat) => Y t ((fun (c : Cx DD) (t : TmS DD) (h : HS DD) (n l x1 : Nat) (k : KO DD) (W : VK DD) (F2 : SF) (s : Res) (w : V) => w s s (fun _ _ => s) ((fun (c : Cx DD) (t : TmS DD) (h : HS DD) (n l x1 : Nat) (k : KO DD) (W : VK DD) (F2 : SF) (s : Res) (l1 y1 : Nat) => F2 l x1 l1 y1 (W c t h n k) s) c t h n l x1 k W F2 s) (fun _ _ => s) (fun _ _ _ _ => s) (fun _ => s) (fun _ => s)) c t h n l x1 k W F2 s)) c t h n k Y W F2 s) (fun _ _ => s) (fun _ _ _ _ => s) (fun _ => s) (fun _ => s)) c t h n ((fun (k : KO DD) (K : OpF DD) (c : Cx DD) (t : TmS DD) (h : HS DD) (n : Nat) => K c t h n k) k K) Y W F2) (S c t h n ((fun (k : KO DD) (K : OpF DD) (c : Cx DD) (t : TmS DD) (h : HS DD) (n : Nat) => K c t h n k) k K)))
theorem oT_go (F2 : Bx (SF)) (S : Bx (OpF DD)) (X : Bx (GetV DD)) (Y : Bx (GetV DD)) (W : Bx (VK DD)) (K : Bx (OpF DD)) : (seqO (binTS S W X Y F2) K).go = oT F2.go S.go X.go Y.go W.go K.go := by cases F2; cases S; cases X; cases Y; cases W; cases K; rfl
noncomputable def oP (S : OpF DD) (X : GetV DD) (Y : GetV DD) (W : VK DD) (same : V) (other : V) (K : OpF DD) : OpF DD := fun (c : Cx DD) (t : TmS DD) (h : HS DD) (n : Nat) (k : KO DD) => X t (((fun (c : Cx DD) (t : TmS DD) (h : HS DD) (n : Nat) (k : KO DD) (Y : GetV DD) (W : VK DD) (same other : V) (s : Res) (v : V) => v s s (fun _ _ => s) (fun _ _ => s) ((fun (c : Cx DD) (t : TmS DD) (h : HS DD) (n : Nat) (k : KO DD) (Y : GetV DD) (W : VK DD) (s : Res) (other : V) _ _ => Y t ((fun (c : Cx DD) (t : TmS DD) (h : HS DD) (n : Nat) (k : KO DD) (W : VK DD) (s : Res) (other : V) (w : V) => w s s (fun _ _ => s) (fun _ _ => s) (fun _ _ => s) (fun _ _ _ _ => s) (fun _ => s) ((fun (c : Cx DD) (t : TmS DD) (h : HS DD) (n : Nat) (k : KO DD) (W : VK DD) (s : Res) (other : V) (cv : CV) => nilB cv (W c t h n k other) s) c t h n k W s other)) c t h n k W s other)) c t h n k Y W s other) (fun _ _ _ _ => s) (fun _ => s) ((fun (c : Cx DD) (t : TmS DD) (h : HS DD) (n : Nat) (k : KO DD) (Y : GetV DD) (W : VK DD) (s : Res) (same other : V) (cv : CV) => nilB cv (Y t ((fun (c : Cx DD) (t : TmS DD) (h : HS DD) (n : Nat) (k : KO DD) (W : VK DD) (s : Res) (same other : V) (w : V) => w s s (fun _ _ => s) (fun _ _ => s) ((fun (c : Cx DD) (t : TmS DD) (h : HS DD) (n : Nat) (k : KO DD) (W : VK DD) (other : V) _ _ => W c t h n k other) c t h n k W other) (fun _ _ _ _ => s) (fun _ => s) ((fun (c : Cx DD) (t : TmS DD) (h : HS DD) (n : Nat) (k : KO DD) (W : VK DD) (s : Res) (same : V) (cv : CV) => nilB cv (W c t h n k same) s) c t h n k W s same)) c t h n k W s same other)) s) c t h n k Y W s same other)) c t h n ((fun (k : KO DD) (K : OpF DD) (c : Cx DD) (t : TmS DD) (h : HS DD) (n : Nat) => K c t h n k) k K) Y W same other) (S c t h n ((fun (k : KO DD) (K : OpF DD) (c : Cx DD) (t : TmS DD) (h : HS DD) (n : Nat) => K c t h n k) k K)))
theorem oP_go (S : Bx (OpF DD)) (X : Bx (GetV DD)) (Y : Bx (GetV DD)) (W : Bx (VK DD)) (same : V) (other : V) (K : Bx (OpF DD)) : (seqO (binPS S W X Y same other) K).go = oP S.go X.go Y.go W.go same other K.go := by cases S; cases X; cases Y; cases W; cases K; rfl
noncomputable def oFa (X : GetV DD) (ov : Nat) (W : VK DD) (K : OpF DD) : OpF DD := fun (c : Cx DD) (t : TmS DD) (h : HS DD) (n : Nat) (k : KO DD) => X t ((fun (c : Cx DD) (t : TmS DD) (h : HS DD) (n : Nat) (k : KO DD) (W : VK DD) (ov : Nat) (v : V) => v .bad .bad fI fS ((fun (c : Cx DD) (t : TmS DD) (h : HS DD) (n : Nat) (k : KO DD) (W : VK DD) (ov : Nat) (b i : Nat) => fN .bad (Nat.add i ov) ((fun (c : Cx DD) (t : TmS DD) (h : HS DD) (n b : Nat) (k : KO DD) (W : VK DD) (i : Nat) => W c t h n k (vPtr b i)) c t h n b k W)) c t h n k W ov) fL fA fO) c t h n ((fun (k : KO DD) (K : OpF DD) (c : Cx DD) (t : TmS DD) (h : HS DD) (n : Nat) => K c t h n k) k K) W ov)
theorem oFa_go (X : Bx (GetV DD)) (ov : Nat) (W : Bx (VK DD)) (K : Bx (OpF DD)) : (seqO (faddrS W X ov) K).go = oFa X.go ov W.go K.go := by cases X; cases W; cases K; rfl
noncomputable def oF (X : GetV DD) (ov : Nat) (W : VK DD) (K : OpF DD) : OpF DD := fun (c : Cx DD) (t : TmS DD) (h : HS DD) (n : Nat) (k : KO DD) => X t ((fun (c : Cx DD) (t : TmS DD) (h : HS DD) (n : Nat) (k : KO DD) (W : VK DD) (ov : Nat) (v : V) => v .bad .bad fI fS fS fL ((fun (c : Cx DD) (t : TmS DD) (h : HS DD) (n : Nat) (k : KO DD) (W : VK DD) (ov : Nat) (cl : List CV) => nthK cl ov ((fun (c : Cx DD) (t : TmS DD) (h : HS DD) (n : Nat) (k : KO DD) (W : VK DD) (cv : CV) => encK cv (W c t h n k)) c t h n k W)) c t h n k W ov) fO) c t h n ((fun (k : KO DD) (K : OpF DD) (c : Cx DD) (t : TmS DD) (h : HS DD) (n : Nat) => K c t h n k) k K) W ov)
theorem oF_go (X : Bx (GetV DD)) (ov : Nat) (W : Bx (VK DD)) (K : Bx (OpF DD)) : (seqO (fieldS W X ov) K).go = oF X.go ov W.go K.go := by cases X; cases W; cases K; rfl
noncomputable def oX (X : GetV DD) (ov : Nat) (W : VK DD) (K : OpF DD) : OpF DD := fun (c : Cx DD) (t : TmS DD) (h : HS DD) (n : Nat) (k : KO DD) => X t ((fun (c : Cx DD) (t : TmS DD) (h : HS DD) (n : Nat) (k : KO DD) (W : VK DD) (ov : Nat) (v : V) => v .bad .bad fI fS fS fL fA ((fun (c : Cx DD) (t : TmS DD) (h : HS DD) (n : Nat) (k : KO DD) (W : VK DD) (ov : Nat) (cv : CV) => tupL cv ((fun (c : Cx DD) (t : TmS DD) (h : HS DD) (n : Nat) (k : KO DD) (W : VK DD) (ov : Nat) (cl : List CV) => nthK cl ov ((fun (c : Cx DD) (t : TmS DD) (h : HS DD) (n : Nat) (k : KO DD) (W : VK DD) (cv : CV) => encK cv (W c t h n k)) c t h n k W)) c t h n k W ov)) c t h n k W ov)) c t h n ((fun (k : KO DD) (K : OpF DD) (c : Cx DD) (t : TmS DD) (h : HS DD) (n : Nat) => K c t h n k) k K) W ov)
theorem oX_go (X : Bx (GetV DD)) (ov : Nat) (W : Bx (VK DD)) (K : Bx (OpF DD)) : (seqO (extrS W X ov) K).go = oX X.go ov W.go K.go := by cases X; cases W; cases K; rfl
noncomputable def oI (S : OpF DD) (X : GetV DD) (Y : GetV DD) (W : VK DD) (K : OpF DD) : OpF DD := fun (c : Cx DD) (t : TmS DD) (h : HS DD) (n : Nat) (k : KO DD) => X t (((fun (c : Cx DD) (t : TmS DD) (h : HS DD) (n : Nat) (k : KO DD) (Y : GetV DD) (W : VK DD) (s : Res) (v : V) => v s s (fun _ _ => s) ((fun (c : Cx DD) (t : TmS DD) (h : HS DD) (n : Nat) (k : KO DD) (Y : GetV DD) (W : VK DD) (s : Res) (l x1 : Nat) => Y t ((fun (c : Cx DD) (t : TmS DD) (h : HS DD) (n l x1 : Nat) (k : KO DD) (W : VK DD) (s : Res) (w : V) => w s s ((fun (c : Cx DD) (t : TmS DD) (h : HS DD) (n l x1 : Nat) (k : KO DD) (W : VK DD) _ (i : Nat) => bIf (Nat.ble (Nat.succ i) l) (fN .bad (Nat.mod (Nat.div x1 (Nat.pow 256 (Nat.sub (Nat.sub l 1) i))) 256) ((fun (c : Cx DD) (t : TmS DD) (h : HS DD) (n : Nat) (k : KO DD) (W : VK DD) (b : Nat) => W c t h n k (vInt .u8 b)) c t h n k W)) .bad) c t h n l x1 k W) (fun _ _ => s) (fun _ _ => s) (fun _ _ _ _ => s) (fun _ => s) (fun _ => s)) c t h n l x1 k W s)) c t h n k Y W s) (fun _ _ => s) (fun _ _ _ _ => s) (fun _ => s) (fun _ => s)) c t h n ((fun (k : KO DD) (K : OpF DD) (c : Cx DD) (t : TmS DD) (h : HS DD) (n : Nat) => K c t h n k) k K) Y W) (S c t h n ((fun (k : KO DD) (K : OpF DD) (c : Cx DD) (t : TmS DD) (h : HS DD) (n : Nat) => K c t h n k) k K)))
theorem oI_go (S : Bx (OpF DD)) (X : Bx (GetV DD)) (Y : Bx (GetV DD)) (W : Bx (VK DD)) (K : Bx (OpF DD)) : (seqO (indexS S W X Y) K).go = oI S.go X.go Y.go W.go K.go := by cases S; cases X; cases Y; cases W; cases K; rfl
noncomputable def oIa (S : OpF DD) (X : GetV DD) (Y : GetV DD) (sz : Nat) (W : VK DD) (K : OpF DD) : OpF DD := fun (c : Cx DD) (t : TmS DD) (h : HS DD) (n : Nat) (k : KO DD) => X t (((fun (c : Cx DD) (t : TmS DD) (h : HS DD) (n sz : Nat) (k : KO DD) (Y : GetV DD) (W : VK DD) (s : Res) (v : V) => v s s (fun _ _ => s) (fun _ _ => s) (fun _ _ => s) ((fun (c : Cx DD) (t : TmS DD) (h : HS DD) (n sz : Nat) (k : KO DD) (Y : GetV DD) (W : VK DD) (s : Res) (b off l : Nat) _ => Y t ((fun (c : Cx DD) (t : TmS DD) (h : HS DD) (n b l sz off : Nat) (k : KO DD) (W : VK DD) (s : Res) (w : V) => w s s ((fun (c : Cx DD) (t : TmS DD) (h : HS DD) (n b l sz off : Nat) (k : KO DD) (W : VK DD) _ (i : Nat) => bIf (Nat.ble (Nat.succ i) l) (fN .bad (Nat.add off (Nat.mul i sz)) ((fun (c : Cx DD) (t : TmS DD) (h : HS DD) (n b : Nat) (k : KO DD) (W : VK DD) (i : Nat) => W c t h n k (vPtr b i)) c t h n b k W)) .bad) c t h n b l sz off k W) (fun _ _ => s) (fun _ _ => s) (fun _ _ _ _ => s) (fun _ => s) (fun _ => s)) c t h n b l sz off k W s)) c t h n sz k Y W s) (fun _ => s) (fun _ => s)) c t h n sz ((fun (k : KO DD) (K : OpF DD) (c : Cx DD) (t : TmS DD) (h : HS DD) (n : Nat) => K c t h n k) k K) Y W) (S c t h n ((fun (k : KO DD) (K : OpF DD) (c : Cx DD) (t : TmS DD) (h : HS DD) (n : Nat) => K c t h n k) k K)))
theorem oIa_go (S : Bx (OpF DD)) (X : Bx (GetV DD)) (Y : Bx (GetV DD)) (sz : Nat) (W : Bx (VK DD)) (K : Bx (OpF DD)) : (seqO (iaddrS S W X Y sz) K).go = oIa S.go X.go Y.go sz W.go K.go := by cases S; cases X; cases Y; cases W; cases K; rfl
noncomputable def oLt (S : OpF DD) (X : GetV DD) (W : VK DD) (K : OpF DD) : OpF DD := fun (c : Cx DD) (t : TmS DD) (h : HS DD) (n : Nat) (k : KO DD) => X t (((fun (c : Cx DD) (t : TmS DD) (h : HS DD) (n : Nat) (k : KO DD) (W : VK DD) (s : Res) (v : V) => v s s (fun _ _ => s) ((fun (c : Cx DD) (t : TmS DD) (h : HS DD) (n : Nat) (k : KO DD) (W : VK DD) (l : Nat) _ => W c t h n k (vInt .i64 l)) c t h n k W) (fun _ _ => s) (fun _ _ _ _ => s) (fun _ => s) (fun _ => s)) c t h n ((fun (k : KO DD) (K : OpF DD) (c : Cx DD) (t : TmS DD) (h : HS DD) (n : Nat) => K c t h n k) k K) W) (S c t h n ((fun (k : KO DD) (K : OpF DD) (c : Cx DD) (t : TmS DD) (h : HS DD) (n : Nat) => K c t h n k) k K)))
theorem oLt_go (S : Bx (OpF DD)) (X : Bx (GetV DD)) (W : Bx (VK DD)) (K : Bx (OpF DD)) : (seqO (lenTS S W X) K).go = oLt S.go X.go W.go K.go := by cases S; cases X; cases W; cases K; rfl
noncomputable def oLl (S : OpF DD) (X : GetV DD) (W : VK DD) (K : OpF DD) : OpF DD := fun (c : Cx DD) (t : TmS DD) (h : HS DD) (n : Nat) (k : KO DD) => X t (((fun (c : Cx DD) (t : TmS DD) (h : HS DD) (n : Nat) (k : KO DD) (W : VK DD) (s : Res) (v : V) => v s s (fun _ _ => s) (fun _ _ => s) (fun _ _ => s) ((fun (c : Cx DD) (t : TmS DD) (h : HS DD) (n : Nat) (k : KO DD) (W : VK DD) _ _ (l : Nat) _ => W c t h n k (vInt .i64 l)) c t h n k W) (fun _ => s) ((fun (c : Cx DD) (t : TmS DD) (h : HS DD) (n : Nat) (k : KO DD) (W : VK DD) (s : Res) (cv : CV) => sl0B cv (W c t h n k (vInt .i64 0)) s) c t h n k W s)) c t h n ((fun (k : KO DD) (K : OpF DD) (c : Cx DD) (t : TmS DD) (h : HS DD) (n : Nat) => K c t h n k) k K) W) (S c t h n ((fun (k : KO DD) (K : OpF DD) (c : Cx DD) (t : TmS DD) (h : HS DD) (n : Nat) => K c t h n k) k K)))
theorem oLl_go (S : Bx (OpF DD)) (X : Bx (GetV DD)) (W : Bx (VK DD)) (K : Bx (OpF DD)) : (seqO (lenLS S W X) K).go = oLl S.go X.go W.go K.go := by cases S; cases X; cases W; cases K; rfl
noncomputable def oCn (S : OpF DD) (X : GetV DD) (kd : IntKind) (W : VK DD) (K : OpF DD) : OpF DD := fun (c : Cx DD) (t : TmS DD) (h : HS DD) (n : Nat) (k : KO DD) => X t (((fun (c : Cx DD) (t : TmS DD) (h : HS DD) (n : Nat) (k : KO DD) (W : VK DD) (kd : IntKind) (s : Res) (v : V) => v s s ((fun (c : Cx DD) (t : TmS DD) (h : HS DD) (n : Nat) (k : KO DD) (W : VK DD) (kd : IntKind) (s : Res) _ (a : Nat) => bIf (Nat.ble a (maxN kd)) (W c t h n k (vInt kd a)) s) c t h n k W kd s) (fun _ _ => s) (fun _ _ => s) (fun _ _ _ _ => s) (fun _ => s) (fun _ => s)) c t h n ((fun (k : KO DD) (K : OpF DD) (c : Cx DD) (t : TmS DD) (h : HS DD) (n : Nat) => K c t h n k) k K) W kd) (S c t h n ((fun (k : KO DD) (K : OpF DD) (c : Cx DD) (t : TmS DD) (h : HS DD) (n : Nat) => K c t h n k) k K)))
theorem oCn_go (S : Bx (OpF DD)) (X : Bx (GetV DD)) (kd : IntKind) (W : Bx (VK DD)) (K : Bx (OpF DD)) : (seqO (convNS S W X kd) K).go = oCn S.go X.go kd W.go K.go := by cases S; cases X; cases W; cases K; rfl
noncomputable def oCt (S : OpF DD) (X : GetV DD) (W : VK DD) (K : OpF DD) : OpF DD := fun (c : Cx DD) (t : TmS DD) (h : HS DD) (n : Nat) (k : KO DD) => X t (((fun (c : Cx DD) (t : TmS DD) (h : HS DD) (n : Nat) (k : KO DD) (W : VK DD) (s : Res) (v : V) => v s s (fun _ _ => s) ((fun (c : Cx DD) (t : TmS DD) (h : HS DD) (n : Nat) (k : KO DD) (W : VK DD) (l x1 : Nat) => W c t h n k (vStr l x1)) c t h n k W) (fun _ _ => s) (fun _ _ _ _ => s) (fun _ => s) (fun _ => s)) c t h n ((fun (k : KO DD) (K : OpF DD) (c : Cx DD) (t : TmS DD) (h : HS DD) (n : Nat) => K c t h n k) k K) W) (S c t h n ((fun (k : KO DD) (K : OpF DD) (c : Cx DD) (t : TmS DD) (h : HS DD) (n : Nat) => K c t h n k) k K)))
theorem oCt_go (S : Bx (OpF DD)) (X : Bx (GetV DD)) (W : Bx (VK DD)) (K : Bx (OpF DD)) : (seqO (convTS S W X) K).go = oCt S.go X.go W.go K.go := by cases S; cases X; cases W; cases K; rfl
noncomputable def oIf (X : GetV DD) (ov : Nat) (W : VK DD) (K : OpF DD) : OpF DD := fun (c : Cx DD) (t : TmS DD) (h : HS DD) (n : Nat) (k : KO DD) => X t ((fun (c : Cx DD) (t : TmS DD) (h : HS DD) (n : Nat) (k : KO DD) (W : VK DD) (ov : Nat) (v : V) => decV v ((fun (c : Cx DD) (t : TmS DD) (h : HS DD) (n : Nat) (k : KO DD) (W : VK DD) (ov : Nat) (cv : CV) => W c t h n k (vOth (.ifc ov cv))) c t h n k W ov)) c t h n ((fun (k : KO DD) (K : OpF DD) (c : Cx DD) (t : TmS DD) (h : HS DD) (n : Nat) => K c t h n k) k K) W ov)
theorem oIf_go (X : Bx (GetV DD)) (ov : Nat) (W : Bx (VK DD)) (K : Bx (OpF DD)) : (seqO (ifcS W X ov) K).go = oIf X.go ov W.go K.go := by cases X; cases W; cases K; rfl
noncomputable def oN (S : OpF DD) (X : GetV DD) (W : VK DD) (K : OpF DD) : OpF DD := fun (c : Cx DD) (t : TmS DD) (h : HS DD) (n : Nat) (k : KO DD) => X t (((fun (c : Cx DD) (t : TmS DD) (h : HS DD) (n : Nat) (k : KO DD) (W : VK DD) (s : Res) (v : V) => v s s (fun _ _ => s) (fun _ _ => s) ((fun (c : Cx DD) (t : TmS DD) (h : HS DD) (n : Nat) (k : KO DD) (W : VK DD) (b i : Nat) => W c t h n k (vPtr b i)) c t h n k W) (fun _ _ _ _ => s) (fun _ => s) (fun _ => s)) c t h n ((fun (k : KO DD) (K : OpF DD) (c : Cx DD) (t : TmS DD) (h : HS DD) (n : Nat) => K c t h n k) k K) W) (S c t h n ((fun (k : KO DD) (K : OpF DD) (c : Cx DD) (t : TmS DD) (h : HS DD) (n : Nat) => K c t h n k) k K)))
theorem oN_go (S : Bx (OpF DD)) (X : Bx (GetV DD)) (W : Bx (VK DD)) (K : Bx (OpF DD)) : (seqO (nilcS S W X) K).go = oN S.go X.go W.go K.go := by cases S; cases X; cases W; cases K; rfl
noncomputable def oC (XS : TmS DD → (List V → Res) → Res) (f : Nat) (W : VK DD) (K : OpF DD) : OpF DD := fun (c : Cx DD) (t : TmS DD) (h : HS DD) (n : Nat) (k : KO DD) => XS t ((fun (c : Cx DD) (t : TmS DD) (h : HS DD) (n f : Nat) (k : KO DD) (W : VK DD) (vs : List V) => Cx.rec (motive := fun _ => List V → TmS DD → HS DD → Nat → KO DD → Nat → VK DD → Res) (fun (call : CallS DD) (d : List DF) (tab : Tab) (vs : List V) (t : TmS DD) (h : HS DD) (n : Nat) (k : KO DD) (f : Nat) (W : VK DD) => call (.func f) vs tab h n ((fun (t : TmS DD) (k : KO DD) (W : VK DD) (v : V) (tab : Tab) (h : HS DD) (n : Nat) => W (.mk call d tab) t h n k v) t k W)) c vs t h n k f W) c t h n f ((fun (k : KO DD) (K : OpF DD) (c : Cx DD) (t : TmS DD) (h : HS DD) (n : Nat) => K c t h n k) k K) W)
theorem oC_go (XS : Bx (TmS DD → (List V → Res) → Res)) (f : Nat) (W : Bx (VK DD)) (K : Bx (OpF DD)) : (seqO (callS1 W XS f) K).go = oC XS.go f W.go K.go := by cases XS; cases W; cases K; rfl
noncomputable def oA (LF : ListF DD) (S : OpF DD) (W : VK DD) (K : OpF DD) : OpF DD := fun (c : Cx DD) (t : TmS DD) (h : HS DD) (n : Nat) (k : KO DD) => LF t ((fun (c : Cx DD) (t : TmS DD) (h : HS DD) (n : Nat) (k : KO DD) (W : VK DD) (cl : List CV) => W c t h n k (vAgg cl)) c t h n ((fun (k : KO DD) (K : OpF DD) (c : Cx DD) (t : TmS DD) (h : HS DD) (n : Nat) => K c t h n k) k K) W) (S c t h n ((fun (k : KO DD) (K : OpF DD) (c : Cx DD) (t : TmS DD) (h : HS DD) (n : Nat) => K c t h n k) k K))
theorem oA_go (LF : Bx (ListF DD)) (S : Bx (OpF DD)) (W : Bx (VK DD)) (K : Bx (OpF DD)) : (seqO (aggF S W LF) K).go = oA LF.go S.go W.go K.go := by cases LF; cases S; cases W; cases K; rfl
noncomputable def oAl (te : Nat) (sz : Nat) (T : TmS DD) (W : VK DD) (K : OpF DD) : OpF DD := fun (c : Cx DD) (t : TmS DD) (h : HS DD) (n : Nat) (k : KO DD) => W c t h n ((fun (te sz : Nat) (k : KO DD) (T : TmS DD) (c : Cx DD) (t : TmS DD) (h : HS DD) (n : Nat) => (iH DD n).go h (bCells DD te false 0 sz T) ((fun (c : Cx DD) (t : TmS DD) (n : Nat) (k : KO DD) (h : HS DD) => fN .bad (Nat.succ n) ((fun (c : Cx DD) (t : TmS DD) (h : HS DD) (k : KO DD) (n : Nat) => k c t h n) c t h k)) c t n k)) te sz ((fun (k : KO DD) (K : OpF DD) (c : Cx DD) (t : TmS DD) (h : HS DD) (n : Nat) => K c t h n k) k K) T) (vPtr n 0)
theorem oAl_go (te : Nat) (sz : Nat) (T : Bx (TmS DD)) (W : Bx (VK DD)) (K : Bx (OpF DD)) : (seqO (allocS W te sz T) K).go = oAl te sz T.go W.go K.go := by cases T; cases W; cases K; rfl
noncomputable def oBx (X : GetV DD) (W : VK DD) (K : OpF DD) : OpF DD := fun (c : Cx DD) (t : TmS DD) (h : HS DD) (n : Nat) (k : KO DD) => X t ((fun (c : Cx DD) (t : TmS DD) (h : HS DD) (n : Nat) (k : KO DD) (W : VK DD) (v : V) => oneS v (W c t h n ((fun (k : KO DD) (v : V) (c : Cx DD) (t : TmS DD) (h : HS DD) (n : Nat) => (iT DD 0).go (nilS DD) v ((fun (c : Cx DD) (t : TmS DD) (h : HS DD) (n : Nat) (k : KO DD) (cs : TmS DD) => newCS 0 false 0 1 cs h n ((fun (c : Cx DD) (t : TmS DD) (k : KO DD) (h : HS DD) (n : Nat) => k c t h n) c t k)) c t h n k)) k v) (vPtr n 0)) (decV v ((fun (c : Cx DD) (t : TmS DD) (h : HS DD) (n : Nat) (k : KO DD) (W : VK DD) (cv : CV) => forceNR (cellsOfCV cv).length ((fun (c : Cx DD) (t : TmS DD) (h : HS DD) (n : Nat) (k : KO DD) (W : VK DD) (cv : CV) (l : Nat) => W c t h n ((fun (l : Nat) (k : KO DD) (cv : CV) (c : Cx DD) (t : TmS DD) (h : HS DD) (n : Nat) => newKS 0 false 0 l (cellsOfCV cv) h n ((fun (c : Cx DD) (t : TmS DD) (k : KO DD) (h : HS DD) (n : Nat) => k c t h n) c t k)) l k cv) (vPtr n 0)) c t h n k W cv)) c t h n k W))) c t h n ((fun (k : KO DD) (K : OpF DD) (c : Cx DD) (t : TmS DD) (h : HS DD) (n : Nat) => K c t h n k) k K) W)
theorem oBx_go (X : Bx (GetV DD)) (W : Bx (VK DD)) (K : Bx (OpF DD)) : (seqO (boxS W X) K).go = oBx X.go W.go K.go := by cases X; cases W; cases K; rfl
noncomputable def oR (XC : TmS DD → (List CV → Res) → Res) (sz : Nat) (len : Nat) (tot : Nat) (W : VK DD) (K : OpF DD) : OpF DD := fun (c : Cx DD) (t : TmS DD) (h : HS DD) (n : Nat) (k : KO DD) => XC t ((fun (c : Cx DD) (t : TmS DD) (h : HS DD) (n sz len tot : Nat) (k : KO DD) (W : VK DD) (cl : List CV) => flatK sz cl ((fun (c : Cx DD) (t : TmS DD) (h : HS DD) (n len tot : Nat) (k : KO DD) (W : VK DD) (cl : List CV) => W c t h n ((fun (tot : Nat) (k : KO DD) (cl : List CV) (c : Cx DD) (t : TmS DD) (h : HS DD) (n : Nat) => newKS 0 false 0 tot cl h n ((fun (c : Cx DD) (t : TmS DD) (k : KO DD) (h : HS DD) (n : Nat) => k c t h n) c t k)) tot k cl) (vSl n 0 len len)) c t h n len tot k W)) c t h n sz len tot ((fun (k : KO DD) (K : OpF DD) (c : Cx DD) (t : TmS DD) (h : HS DD) (n : Nat) => K c t h n k) k K) W)
noncomputable def oAp (P : Program) (et : Nat) (str : Bool) (sz : Nat) (X : GetV DD) (Y : GetV DD) (W : VK DD) (K : OpF DD) : OpF DD := fun (c : Cx DD) (t : TmS DD) (h : HS DD) (n : Nat) (k : KO DD) => X t ((fun (c : Cx DD) (t : TmS DD) (h : HS DD) (n sz : Nat) (k : KO DD) (Y : GetV DD) (W : VK DD) (str : Bool) (P : Program) (et : Nat) (v : V) => Y t ((fun (c : Cx DD) (t : TmS DD) (h : HS DD) (n sz : Nat) (k : KO DD) (v : V) (W : VK DD) (str : Bool) (P : Program) (et : Nat) (w : V) => decV v ((fun (c : Cx DD) (t : TmS DD) (h : HS DD) (n sz : Nat) (k : KO DD) (w : V) (W : VK DD) (str : Bool) (P : Program) (et : Nat) (cv : CV) => decV w ((fun (c : Cx DD) (t : TmS DD) (h : HS DD) (n sz : Nat) (k : KO DD) (W : VK DD) (str : Bool) (cv : CV) (P : Program) (et : Nat) (xc : CV) => appendS P et str sz cv xc h n ((fun (c : Cx DD) (t : TmS DD) (k : KO DD) (W : VK DD) (v : V) (h : HS DD) (n : Nat) => W c t h n k v) c t k W)) c t h n sz k W str cv P et)) c t h n sz k w W str P et)) c t h n sz k v W str P et)) c t h n sz ((fun (k : KO DD) (K : OpF DD) (c : Cx DD) (t : TmS DD) (h : HS DD) (n : Nat) => K c t h n k) k K) Y W str P et)
theorem oAp_go (P : Program) (et : Nat) (str : Bool) (sz : Nat) (X : Bx (GetV DD)) (Y : Bx (GetV DD)) (W : Bx (VK DD)) (K : Bx (OpF DD)) : (seqO (appO P et str sz W X Y) K).go = oAp P et str sz X.go Y.go W.go K.go := by cases X; cases Y; cases W; cases K; rfl
noncomputable def oG1 (X : GetV DD) (W : VK DD) (O : OpF DD) (K : OpF DD) : OpF DD := fun (c : Cx DD) (t : TmS DD) (h : HS DD) (n : Nat) (k : KO DD) => X t ((fun (c : Cx DD) (t : TmS DD) (h : HS DD) (n : Nat) (k : KO DD) (W : VK DD) (O : OpF DD) (v : V) => v (O c t h n k) (W c t h n k vUndef) fI fS fS fL fA ((fun (c : Cx DD) (t : TmS DD) (h : HS DD) (n : Nat) (k : KO DD) (W : VK DD) (cv : CV) => undB cv (W c t h n k vUndef)) c t h n k W)) c t h n ((fun (k : KO DD) (K : OpF DD) (c : Cx DD) (t : TmS DD) (h : HS DD) (n : Nat) => K c t h n k) k K) W O)
theorem oG1_go (X : Bx (GetV DD)) (W : Bx (VK DD)) (O : Bx (OpF DD)) (K : Bx (OpF DD)) : (seqO (guardS X true W O) K).go = oG1 X.go W.go O.go K.go := by cases X; cases W; cases O; cases K; rfl
noncomputable def oG0 (X : GetV DD) (W : VK DD) (O : OpF DD) (K : OpF DD) : OpF DD := fun (c : Cx DD) (t : TmS DD) (h : HS DD) (n : Nat) (k : KO DD) => X t ((fun (c : Cx DD) (t : TmS DD) (h : HS DD) (n : Nat) (k : KO DD) (W : VK DD) (O : OpF DD) (v : V) => v (W c t h n k vUndef) (O c t h n k) fI fS fS fL fA ((fun (c : Cx DD) (t : TmS DD) (h : HS DD) (n : Nat) (k : KO DD) (W : VK DD) (cv : CV) => undB cv (W c t h n k vUndef)) c t h n k W)) c t h n ((fun (k : KO DD) (K : OpF DD) (c : Cx DD) (t : TmS DD) (h : HS DD) (n : Nat) => K c t h n k) k K) W O)
theorem oG0_go (X : Bx (GetV DD)) (W : Bx (VK DD)) (O : Bx (OpF DD)) (K : Bx (OpF DD)) : (seqO (guardS X false W O) K).go = oG0 X.go W.go O.go K.go := by cases X; cases W; cases O; cases K; rfl
noncomputable def oSl (S : OpF DD) (K : OpF DD) : OpF DD := fun (c : Cx DD) (t : TmS DD) (h : HS DD) (n : Nat) (k : KO DD) => S c t h n ((fun (k : KO DD) (K : OpF DD) (c : Cx DD) (t : TmS DD) (h : HS DD) (n : Nat) => K c t h n k) k K)
end Go.Ev

namespace Go.Ev
/-! Operands, lists of operands -/
noncomputable def kT : GetV DD := fun _ k => k vTrue
noncomputable def kF : GetV DD := fun _ k => k vFalse
noncomputable def kI (kd : IntKind) (m : Nat) : GetV DD := fun _ k => k (vInt kd m)
noncomputable def kM (kd : IntKind) (m : Nat) : GetV DD := fun _ k => k (vOth (.int kd (.negSucc m)))
noncomputable def kS (l x : Nat) : GetV DD := fun _ k => k (vStr l x)
noncomputable def kV (c : CV) : GetV DD := fun _ k => k (encV c)
noncomputable def kG (g : Nat) : GetV DD := fun _ k => k (vPtr g 0)
noncomputable def kFn (f : Nat) : GetV DD := fun _ k => k (vOth (.fn (.func f) [] []))
noncomputable def kNo : GetV DD := fun _ _ => .bad
noncomputable def getCD (c : CV) : GetV DD := match c with
  | .bool b => match b with | true => kT | false => kF
  | .int kd a => match a with
    | .ofNat m => kI kd m
    | .negSucc m => kM kd m
  | .str l x => kS l x
  | c => kV c
noncomputable def getXD (x : XI) : GetV DD := match x with
  | .t i => (gT DD i).go
  | .c c => getCD c
  | .g g => kG g
  | .f f => kFn f
  | .bad => kNo
theorem getC_go (c : CV) : (getC c : Bx (GetV DD)).go = getCD c := by
  cases c <;> try rfl
  · rename_i b; cases b <;> rfl
  · rename_i kd a; cases a <;> rfl
theorem getI_go (x : XI) : (getI x : Bx (GetV DD)).go = getXD x := by
  cases x <;> try rfl
  exact getC_go _
noncomputable def putWD (d : Option Nat) : VK DD := (putW d).go
theorem putW_go (d : Option Nat) : (putW d : Bx (VK DD)).go = putWD d := rfl
noncomputable def aN : TmS DD → (List V → Res) → Res := fun _ k => k []
noncomputable def aC (X : GetV DD) (R : TmS DD → (List V → Res) → Res) : TmS DD → (List V → Res) → Res := fun t k => X t ((fun (R : TmS DD → (List V → Res) → Res) (t : TmS DD) (k : List V → Res) (v : V) => R t ((fun (k : List V → Res) (v : V) (vs : List V) => k (v :: vs)) k v)) R t k)
noncomputable def a1 (X : GetV DD) : TmS DD → (List V → Res) → Res := fun t k => X t ((fun (k : List V → Res) (v : V) => k [v]) k)
noncomputable def a2 (X Y : GetV DD) : TmS DD → (List V → Res) → Res := fun t k => X t ((fun (Y : GetV DD) (t : TmS DD) (k : List V → Res) (v : V) => Y t ((fun (k : List V → Res) (v w : V) => k [v, w]) k v)) Y t k)
noncomputable def a3 (X Y Z : GetV DD) : TmS DD → (List V → Res) → Res := fun t k => X t ((fun (Y Z : GetV DD) (t : TmS DD) (k : List V → Res) (v : V) => Y t ((fun (Z : GetV DD) (t : TmS DD) (k : List V → Res) (v w : V) => Z t ((fun (k : List V → Res) (v w z : V) => k [v, w, z]) k v w)) Z t k v)) Y Z t k)
noncomputable def getsXD (xs : List XI) : TmS DD → (List V → Res) → Res := List.rec (motive := fun _ => TmS DD → (List V → Res) → Res) aN (fun x _ ih => aC (getXD x) ih) xs
theorem getsI_go (xs : List XI) : (getsI xs : Bx (TmS DD → (List V → Res) → Res)).go = getsXD xs := by
  induction xs with
  | nil => rfl
  | cons x xs ih =>
    have e1 : (getsI (x :: xs) : Bx (TmS DD → (List V → Res) → Res)) = (getI x).opened fun X => (getsI xs).opened fun R => .mk fun t k => X t ((fun t k v => R t ((fun k v vs => k (v :: vs)) k v)) t k) := rfl
    have e2 : getsXD (x :: xs) = aC (getXD x) (getsXD xs) := rfl
    rw [e1, e2]
    simp only [opened_eq, go_mk, getI_go, ih]
    rfl
noncomputable def cN : TmS DD → (List CV → Res) → Res := fun _ k => k []
noncomputable def cC (X : GetV DD) (R : TmS DD → (List CV → Res) → Res) : TmS DD → (List CV → Res) → Res := fun t k => X t ((fun (R : TmS DD → (List CV → Res) → Res) (t : TmS DD) (k : List CV → Res) (v : V) => decV v ((fun (R : TmS DD → (List CV → Res) → Res) (t : TmS DD) (k : List CV → Res) (c : CV) => R t ((fun (k : List CV → Res) (c : CV) (cs : List CV) => k (c :: cs)) k c)) R t k)) R t k)
noncomputable def getCsD (xs : List XI) : TmS DD → (List CV → Res) → Res := List.rec (motive := fun _ => TmS DD → (List CV → Res) → Res) cN (fun x _ ih => cC (getXD x) ih) xs
theorem getCsI_go (xs : List XI) : (getCsI xs : Bx (TmS DD → (List CV → Res) → Res)).go = getCsD xs := by
  induction xs with
  | nil => rfl
  | cons x xs ih =>
    have e1 : (getCsI (x :: xs) : Bx (TmS DD → (List CV → Res) → Res)) = (getI x).opened fun X => (getCsI xs).opened fun R => .mk fun t k => X t ((fun t k v => decV v ((fun t k c => R t ((fun k c cs => k (c :: cs)) k c)) t k)) t k) := rfl
    have e2 : getCsD (x :: xs) = cC (getXD x) (getCsD xs) := rfl
    rw [e1, e2]
    simp only [opened_eq, go_mk, getI_go, ih]
    rfl
noncomputable def xN : ListF DD := fun _ k _ => k []
noncomputable def xO (X : GetV DD) (R : ListF DD) : ListF DD := fun t k s => X t ((fun (R : ListF DD) (t : TmS DD) (k : List CV → Res) (s : Res) (v : V) => oneS v (decV v ((fun (R : ListF DD) (t : TmS DD) (k : List CV → Res) (s : Res) (c : CV) => R t ((fun (k : List CV → Res) (c : CV) (l : List CV) => k (c :: l)) k c) s) R t k s)) s) R t k s)
noncomputable def xC (c : CV) (R : ListF DD) : ListF DD := fun t k s => R t ((fun (c : CV) (k : List CV → Res) (l : List CV) => k (c :: l)) c k) s
noncomputable def srcsD (l : List SrcI) : ListF DD := List.rec (motive := fun _ => ListF DD) xN (fun x _ ih => SrcI.rec (motive := fun _ => ListF DD → ListF DD) (fun x ih => xO (getXD x) ih) (fun c ih => xC c ih) x ih) l
theorem srcsI_go (l : List SrcI) : (srcsI l : Bx (ListF DD)).go = srcsD l := by
  induction l with
  | nil => rfl
  | cons s l ih =>
    cases s with
    | x x =>
      have e1 : (srcsI (SrcI.x x :: l) : Bx (ListF DD)) = consO (getI x) (srcsI l) := rfl
      have e2 : srcsD (SrcI.x x :: l) = xO (getXD x) (srcsD l) := rfl
      rw [e1, e2]
      simp only [consO, opened_eq, go_mk, getI_go, ih]
      rfl
    | v c =>
      have e1 : (srcsI (SrcI.v c :: l) : Bx (ListF DD)) = consC c (srcsI l) := rfl
      have e2 : srcsD (SrcI.v c :: l) = xC c (srcsD l) := rfl
      rw [e1, e2]
      simp only [consC, opened_eq, go_mk, ih]
      rfl
abbrev LdF := TmS DD → Nat → (List CV → Res) → Res
noncomputable def lN : LdF := fun _ _ k => k []
noncomputable def lC (R : LdF) : LdF := fun cs i k => (gT DD i).go cs ((fun (R : LdF) (cs : TmS DD) (i : Nat) (k : List CV → Res) (v : V) => decV v ((fun (R : LdF) (cs : TmS DD) (i : Nat) (k : List CV → Res) (c : CV) => fN .bad (Nat.succ i) ((fun (R : LdF) (cs : TmS DD) (k : List CV → Res) (c : CV) (i : Nat) => R cs i ((fun (k : List CV → Res) (c : CV) (l : List CV) => k (c :: l)) k c)) R cs k c)) R cs i k)) R cs i k)
noncomputable def ldD (n : Nat) : LdF := Nat.rec (motive := fun _ => LdF) lN (fun _ ih => lC ih) n
theorem loadNB_go (n : Nat) : (loadNB n : Bx LdF).go = ldD n := by
  induction n with
  | zero => rfl
  | succ n ih =>
    have e1 : (loadNB (n + 1) : Bx LdF) = (loadNB n).opened fun R => .mk fun cs i k => (gT DD i).go cs ((fun cs i k v => decV v ((fun cs i k c => fN .bad (Nat.succ i) ((fun cs k c i => R cs i ((fun k c l => k (c :: l)) k c)) cs k c)) cs i k)) cs i k) := rfl
    have e2 : ldD (n + 1) = lC (ldD n) := rfl
    rw [e1, e2, ← ih]
    cases (loadNB n : Bx LdF); rfl
abbrev StF := List CV → TmS DD → Nat → (TmS DD → Res) → Res
noncomputable def sN : StF := fun l cs _ k => List.rec (motive := fun _ => Res) (k cs) (fun _ _ _ => .bad) l
noncomputable def sC (R : StF) : StF := fun l cs i k => List.rec (motive := fun _ => StF → TmS DD → Nat → (TmS DD → Res) → Res) (fun _ _ _ _ => .bad)
    (fun v l _ R cs i k => encOne v ((fun (R : StF) (l : List CV) (cs : TmS DD) (i : Nat) (k : TmS DD → Res) (x : V) => (pT DD i).go cs x ((fun (R : StF) (l : List CV) (i : Nat) (k : TmS DD → Res) (cs : TmS DD) => fN .bad (Nat.succ i) ((fun (R : StF) (l : List CV) (k : TmS DD → Res) (cs : TmS DD) (i : Nat) => R l cs i k) R l k cs)) R l i k)) R l cs i k)) l R cs i k
noncomputable def stD (n : Nat) : StF := Nat.rec (motive := fun _ => StF) sN (fun _ ih => sC ih) n
theorem storeNB_go (n : Nat) : (storeNB n : Bx StF).go = stD n := by
  induction n with
  | zero => rfl
  | succ n ih =>
    have e1 : (storeNB (n + 1) : Bx StF) = (storeNB n).opened fun R => .mk fun l cs i k => List.rec (motive := fun _ => TmS DD → Nat → (TmS DD → Res) → Res) (fun _ _ _ => .bad)
      (fun v l _ cs i k => encOne v ((fun l cs i k x => (pT DD i).go cs x ((fun l i k cs => fN .bad (Nat.succ i) ((fun l k cs i => R l cs i k) l k cs)) l i k)) l cs i k)) l cs i k := rfl
    have e2 : stD (n + 1) = sC (stD n) := rfl
    rw [e1, e2, ← ih]
    cases (storeNB n : Bx StF)
    funext l cs i k
    cases l <;> rfl
theorem oLs_go (sz : Nat) (X : Bx (GetV DD)) (W : Bx (VK DD)) (K : Bx (OpF DD)) : (seqO (loadsS W X sz) K).go = oLs (ldD sz) X.go W.go K.go := by
  rw [← loadNB_go]; unfold loadsS; generalize (loadNB sz : Bx LdF) = R; cases R; cases X; cases W; cases K; rfl
theorem oSs_go (sz : Nat) (S : Bx (OpF DD)) (X Y : Bx (GetV DD)) (W : Bx (VK DD)) (K : Bx (OpF DD)) : (seqO (storesS S W X Y sz) K).go = oSs (stD sz) S.go X.go Y.go W.go K.go := by
  rw [← storeNB_go]; unfold storesS stsB; generalize (storeNB sz : Bx StF) = R; cases R; cases S; cases X; cases Y; cases W; cases K; rfl
theorem oR_go (xs : List XI) (n len sz : Nat) (W : Bx (VK DD)) (K : Bx (OpF DD)) : (seqO (rowsI W xs n len sz) K).go = oR (getCsD xs) n len sz W.go K.go := by
  rw [← getCsI_go]; unfold rowsI; generalize (getCsI xs : Bx (TmS DD → (List CV → Res) → Res)) = R; cases R; cases W; cases K; rfl
noncomputable def nilD : OpF DD := fun c t h n k => k c t h n
theorem nilO_go : (nilO : Bx (OpF DD)).go = nilD := rfl
theorem seqO_nil (A : Bx (OpF DD)) : (seqO A nilO).go = A.go := by cases A; rfl

/-! Operations -/
theorem oSl_go (S K : Bx (OpF DD)) : (seqO S K).go = oSl S.go K.go := by cases S; cases K; rfl
noncomputable def addD : NF := addN.go
noncomputable def subD : NF := subN.go
noncomputable def mulD : NF := mulN.go
noncomputable def quoD : NF := quoN.go
noncomputable def remD : NF := remN.go
noncomputable def eqlD : NF := eqlN.go
noncomputable def neqD : NF := neqN.go
noncomputable def lssD : NF := lssN.go
noncomputable def leqD : NF := leqN.go
noncomputable def gtrD : NF := gtrN.go
noncomputable def geqD : NF := geqN.go
noncomputable def denOD (P : Program) (S : OpF DD) (d : Option Nat) (s : SI) (K : OpF DD) : OpF DD := match s with
  | .slow => oSl S K
  | .val x => oV (getXD x) (putWD d) K
  | .pick c a b => oK (getXD c) (getXD a) (getXD b) (putWD d) K
  | .alloc te l z => oAl te l (ofListB DD z).go (putWD d) K
  | .loads x sz => oLs (ldD sz) (getXD x) (putWD d) K
  | .load x => oL (getXD x) (putWD d) K
  | .nilc x => oN S (getXD x) (putWD d) K
  | .binN o x y => match natOp o with | some F => oB F.go S (getXD x) (getXD y) (putWD d) K | none => oSl S K
  | .binT o x y => match strOpS o with | some F => oT F.go S (getXD x) (getXD y) (putWD d) K | none => oSl S K
  | .binP ne x y => match ne with | false => oP S (getXD x) (getXD y) (putWD d) vTrue vFalse K | true => oP S (getXD x) (getXD y) (putWD d) vFalse vTrue K
  | .not x => oNot (getXD x) (putWD d) K
  | .convN x kd => oCn S (getXD x) kd (putWD d) K
  | .convT x => oCt S (getXD x) (putWD d) K
  | .box x => oBx (getXD x) (putWD d) K
  | .rows xs sz len tot => oR (getCsD xs) sz len tot (putWD d) K
  | .agg l => oA (srcsD l) S (putWD d) K
  | .ifc x ty => oIf (getXD x) ty (putWD d) K
  | .faddr x off => oFa (getXD x) off (putWD d) K
  | .field x off => oF (getXD x) off (putWD d) K
  | .iaddr x y sz => oIa S (getXD x) (getXD y) sz (putWD d) K
  | .index x y => oI S (getXD x) (getXD y) (putWD d) K
  | .extr x i => oX (getXD x) i (putWD d) K
  | .store x y => oS S (getXD x) (getXD y) (putWD d) K
  | .stores x y sz => oSs (stD sz) S (getXD x) (getXD y) (putWD d) K
  | .call xs f => oC (getsXD xs) f (putWD d) K
  | .lenT x => oLt S (getXD x) (putWD d) K
  | .lenL x => oLl S (getXD x) (putWD d) K
  | .app e str sz x y => oAp P e str sz (getXD x) (getXD y) (putWD d) K
theorem denO_go (P : Program) (S : Bx (OpF DD)) (d : Option Nat) (s : SI) (K : Bx (OpF DD)) : (seqO (denO P S d s) K).go = denOD P S.go d s K.go := by
  cases s
  case slow => exact oSl_go S K
  case binN o x y =>
    simp only [denO, denOD]
    cases natOp o
    · exact oSl_go S K
    · simp only [oB_go, getI_go, putW_go]
  case binT o x y =>
    simp only [denO, denOD]
    cases strOpS o
    · exact oSl_go S K
    · simp only [oT_go, getI_go, putW_go]
  case binP ne x y => cases ne <;> simp only [denO, denOD, oP_go, getI_go, putW_go]
  all_goals simp only [denO, denOD, oV_go, oK_go, oAl_go, oLs_go, oL_go, oN_go, oNot_go, oCn_go, oCt_go, oBx_go, oR_go, oA_go, oIf_go, oFa_go, oF_go, oIa_go, oI_go, oX_go, oS_go, oSs_go, oC_go, oLt_go, oLl_go, oAp_go, getI_go, getsI_go, srcsI_go, putW_go]
noncomputable def slD (P : Program) (G : Nat → Bool) (ops : Array Oper) (o : Oper) : OpF DD := (slowS P G false ops o).go
noncomputable def denID (P : Program) (G : Nat → Bool) (ops : Array Oper) (o : Oper) (it : OI) (K : OpF DD) : OpF DD := match it with
  | .p d s => denOD P (slD P G ops o) d s K
  | .g j want d s => match want with
    | true => oG1 (gT DD j).go (putWD d) (denOD P (slD P G ops (bare o)) d s nilD) K
    | false => oG0 (gT DD j).go (putWD d) (denOD P (slD P G ops (bare o)) d s nilD) K
  | .slow => oSl (slD P G ops o) K
theorem denI_go (P : Program) (G : Nat → Bool) (ops : Array Oper) (o : Oper) (it : OI) (K : Bx (OpF DD)) : (seqO (denI P G false ops o it) K).go = denID P G ops o it K.go := by
  cases it with
  | p d s => exact denO_go P _ d s K
  | slow => exact oSl_go _ K
  | g j want d s =>
    have e : ∀ B : Bx (OpF DD), B.go = (seqO B nilO).go := fun B => (seqO_nil B).symm
    cases want
    · simp only [denI, denID, oG0_go, putW_go]
      rw [e, denO_go]; rfl
    · simp only [denI, denID, oG1_go, putW_go]
      rw [e, denO_go]; rfl
noncomputable def opsID (P : Program) (G : Nat → Bool) (ops : Array Oper) (its : List OI) : List Oper → OpF DD :=
  List.rec (motive := fun _ => List Oper → OpF DD) (fun _ => nilD) (fun it _ ih l => denID P G ops (headO l) it (ih (tailO l))) its
theorem opsI_go (P : Program) (G : Nat → Bool) (ops : Array Oper) (its : List OI) : ∀ l : List Oper, (opsI P G false ops its l : Bx (OpF DD)).go = opsID P G ops its l := by
  induction its with
  | nil => intro l; rfl
  | cons it its ih =>
    intro l
    have e1 : (opsI P G false ops (it :: its) l : Bx (OpF DD)) = seqO (denI P G false ops (headO l) it) (opsI P G false ops its (tailO l)) := rfl
    have e2 : opsID P G ops (it :: its) l = denID P G ops (headO l) it (opsID P G ops its (tailO l)) := rfl
    rw [e1, e2, denI_go, ih]
noncomputable def oQ (Y X : GetV DD) (K : OpF DD) : OpF DD := fun c t h n k => Y t ((fun (X : GetV DD) (K : OpF DD) (c : Cx DD) (t : TmS DD) (h : HS DD) (n : Nat) (k : KO DD) (v : V) => X t ((fun (K : OpF DD) (c : Cx DD) (t : TmS DD) (h : HS DD) (n : Nat) (k : KO DD) (v p : V) => p .bad .bad fI fS
  ((fun (K : OpF DD) (c : Cx DD) (t : TmS DD) (h : HS DD) (n : Nat) (k : KO DD) (v : V) (b i : Nat) => (gH DD b).go h ((fun (K : OpF DD) (c : Cx DD) (t : TmS DD) (h : HS DD) (n : Nat) (k : KO DD) (v : V) (i : Nat) (bs : BS DD) => bs ((fun (K : OpF DD) (c : Cx DD) (t : TmS DD) (h : HS DD) (n : Nat) (k : KO DD) (v : V) (i : Nat) (_ : Nat) (_ : Bool) (_ _ : Nat) (cs : TmS DD) => (gT DD i).go cs ((fun (K : OpF DD) (c : Cx DD) (t : TmS DD) (h : HS DD) (n : Nat) (k : KO DD) (v w : V) => eqV v w (K c t h n k)) K c t h n k v)) K c t h n k v i) fC) K c t h n k v i)) K c t h n k v) fL fA fO) K c t h n k v)) X K c t h n k)
noncomputable def oQs (A : AgF DD) (K : OpF DD) : OpF DD := fun c t h n k => A c t h n (K c t h n k)
noncomputable def denAD (P : Program) (G : Nat → Bool) (ops : Array Oper) (a : AI) (K : OpF DD) : OpF DD := match a with
  | .load d x => oQ (gT DD d).go (getXD x) K
  | .slow j => oQs (slowA P G ops j).go K
theorem denA_go (P : Program) (G : Nat → Bool) (ops : Array Oper) (a : AI) (K : Bx (OpF DD)) : (agK (denA P G ops a) K).go = denAD P G ops a K.go := by
  cases a with
  | slow j => cases K; rfl
  | load d x =>
    simp only [denA, denAD, ← getI_go]
    generalize getI x = X
    unfold loadA agK
    simp only [opened_eq, go_mk]
    rfl
noncomputable def agsID (P : Program) (G : Nat → Bool) (ops : Array Oper) (l : List AI) (K : OpF DD) : OpF DD := List.rec (motive := fun _ => OpF DD) K (fun a _ ih => denAD P G ops a ih) l
theorem agsI_go (P : Program) (G : Nat → Bool) (ops : Array Oper) (l : List AI) (K : Bx (OpF DD)) : (agsI P G ops l K).go = agsID P G ops l K.go := by
  induction l with
  | nil => rfl
  | cons a l ih =>
    have e1 : agsI P G ops (a :: l) K = agK (denA P G ops a) (agsI P G ops l K) := rfl
    have e2 : agsID P G ops (a :: l) K.go = denAD P G ops a (agsID P G ops l K.go) := rfl
    rw [e1, e2, denA_go, ih]
noncomputable def badD : OpF DD := fun _ _ _ _ _ => .bad
noncomputable def planID (P : Program) (G : Nat → Bool) (ops : Array Oper) (l : List PI) : OpF DD := List.rec (motive := fun _ => OpF DD) nilD (fun s _ ih => match s with
  | .op i it ag => denID P G ops (opAt ops i) it (agsID P G ops ag ih)
  | .bad => badD) l
theorem planI_go (P : Program) (G : Nat → Bool) (ops : Array Oper) (l : List PI) : (planI P G false ops l : Bx (OpF DD)).go = planID P G ops l := by
  induction l with
  | nil => rfl
  | cons s l ih =>
    cases s with
    | bad => rfl
    | op i it ag =>
      have e1 : (planI P G false ops (.op i it ag :: l) : Bx (OpF DD)) = seqO (denI P G false ops (opAt ops i) it) (agsI P G ops ag (planI P G false ops l)) := rfl
      have e2 : planID P G ops (.op i it ag :: l) = denID P G ops (opAt ops i) it (agsID P G ops ag (planID P G ops l)) := rfl
      rw [e1, e2, denI_go, agsI_go, ih]

/-! Code -/
noncomputable def uR (R : OpF DD) : CodeF DD := fun c t h n k => R c t h n (k .normal)
noncomputable def seqKD (B : CodeF DD) (k : KXF DD) (x : CX) : Cx DD → TmS DD → HS DD → Nat → Res :=
  CX.rec (motive := fun _ => CodeF DD → KXF DD → Cx DD → TmS DD → HS DD → Nat → Res) (fun B k c t h n => B c t h n k) (fun id _ k => k (.exit id)) (fun _ k => k .ret) x B k
noncomputable def uS (A B : CodeF DD) : CodeF DD := fun c t h n k => A c t h n (seqKD B k)
noncomputable def uQ (R : OpF DD) (B : CodeF DD) : CodeF DD := fun c t h n k => R c t h n ((fun (B : CodeF DD) (k : KXF DD) (c : Cx DD) (t : TmS DD) (h : HS DD) (n : Nat) => B c t h n k) B k)
noncomputable def uC (X : GetV DD) (A B : CodeF DD) : CodeF DD := fun c t h n k => X t ((fun (A B : CodeF DD) (c : Cx DD) (t : TmS DD) (h : HS DD) (n : Nat) (k : KXF DD) (v : V) => v (A c t h n k) (B c t h n k) fI fS fS fL fA fO) A B c t h n k)
noncomputable def uB (id : Nat) (A : CodeF DD) : CodeF DD := fun c t h n k => A c t h n (blockK id k)
noncomputable def loopD (A : CodeF DD) (fuel : Nat) : CodeF DD := Nat.rec (motive := fun _ => CodeF DD → CodeF DD) (fun _ _ _ _ _ _ => .bad)
  (fun _ ih A c t h n k => A c t h n ((fun (ih : CodeF DD → CodeF DD) (A : CodeF DD) (k : KXF DD) (x : CX) => CX.rec (motive := fun _ => (CodeF DD → CodeF DD) → CodeF DD → KXF DD → Cx DD → TmS DD → HS DD → Nat → Res) (fun ih A k c t h n => ih A c t h n k) (fun id _ _ k => k (.exit id)) (fun _ _ k => k .ret) x ih A k) ih A k)) fuel A
noncomputable def uX (id : Nat) : CodeF DD := fun c t h n k => k (.exit id) c t h n
noncomputable def uLb : CodeF DD := fun c t h n k => k .normal c t h n
noncomputable def uRet : CodeF DD := fun c t h n k => k .ret c t h n
noncomputable def uBad : CodeF DD := fun _ _ _ _ _ => .bad
theorem seqK_go (B : Bx (CodeF DD)) : seqK B = seqKD B.go := by
  funext k x; cases x <;> rfl
theorem seqC_go (A B : Bx (CodeF DD)) : (seqC A B).go = uS A.go B.go := by
  simp only [seqC, opened_eq, go_mk, seqK_go]; rfl
theorem regC_go (R : Bx (OpF DD)) (B : Bx (CodeF DD)) : (seqC (regS R) B).go = uQ R.go B.go := by
  rw [seqC_go]; cases R; rfl
theorem regS_go (R : Bx (OpF DD)) : (regS R).go = uR R.go := by cases R; rfl
theorem condC_go (X : Bx (GetV DD)) (A B : Bx (CodeF DD)) : (condC X A B).go = uC X.go A.go B.go := by cases X; rfl
theorem blockC_go (id : Nat) (A : Bx (CodeF DD)) : (blockC id A).go = uB id A.go := by cases A; rfl
theorem loopF_go (A : Bx (CodeF DD)) (fuel : Nat) : loopF A fuel = loopD A.go fuel := by
  induction fuel with
  | zero => rfl
  | succ n ih =>
    have e1 : loopF A (n + 1) = fun c t h n' k => A.go c t h n' ((fun (ih : CodeF DD) k x => CX.rec (motive := fun _ => CodeF DD → KXF DD → Cx DD → TmS DD → HS DD → Nat → Res) (fun ih k c t h n => ih c t h n k) (fun id _ k => k (.exit id)) (fun _ k => k .ret) x ih k) (loopF A n) k) := rfl
    rw [e1, ih]
    funext c t h n' k
    have e3 : ∀ (f g : KXF DD), (∀ x, f x = g x) → A.go c t h n' f = A.go c t h n' g := fun f g e => congrArg _ (funext e)
    refine e3 _ _ fun x => ?_
    cases x <;> rfl
noncomputable def seqX (a : CI) (P : Program) (G : Nat → Bool) (co : Code) (A B : CodeF DD) : CodeF DD := match a with
  | .reg l => uQ (opsID P G (cOps co) l (cOps co).toList) B
  | .plan l => uQ (planID P G (cOps co) l) B
  | _ => uS A B
noncomputable def denCD (P : Program) (I : TypeId → Option TypeInfo) (G : Nat → Bool) (fn : FuncId) (chk : Bool) (fuel : Nat) (ci : CI) : Code → CodeF DD :=
  CI.rec (motive := fun _ => Code → CodeF DD)
    (fun _ => uR nilD)
    (fun l c => uR (opsID P G (cOps c) l (cOps c).toList))
    (fun l c => uR (planID P G (cOps c) l))
    (fun _ => uBad)
    (fun a _ ia ib c => seqX a P G (cA c) (ia (cA c)) (ib (cB c)))
    (fun x _ _ a b c => uC (getXD x) (a (cA c)) (b (cB c)))
    (fun id _ a c => uB id (a (cA c)))
    (fun _ a c => loopD (a (cA c)) fuel)
    (fun id _ => uX id)
    (fun _ => uLb)
    (fun _ => uRet)
    (fun c => (codeS P I G fn false chk fuel c).go) ci
theorem denC_go (P : Program) (I : TypeId → Option TypeInfo) (G : Nat → Bool) (fn : FuncId) (chk : Bool) (fuel : Nat) (ci : CI) : ∀ c : Code, (denC P I G fn false chk fuel ci c : Bx (CodeF DD)).go = denCD P I G fn chk fuel ci c := by
  induction ci with
  | skip => intro c; exact regS_go nilO
  | reg l => intro c; exact (regS_go _).trans (congrArg uR (opsI_go P G (cOps c) l _))
  | plan l => intro c; exact (regS_go _).trans (congrArg uR (planI_go P G (cOps c) l))
  | bad => intro c; rfl
  | seq a b ia ib =>
    intro c
    have e1 : (denC P I G fn false chk fuel (.seq a b) c : Bx (CodeF DD)) = seqC (denC P I G fn false chk fuel a (cA c)) (denC P I G fn false chk fuel b (cB c)) := rfl
    have e2 : denCD P I G fn chk fuel (.seq a b) c = seqX a P G (cA c) (denCD P I G fn chk fuel a (cA c)) (denCD P I G fn chk fuel b (cB c)) := rfl
    rw [e1, e2, ← ib]
    cases a <;> try (simp only [seqX, seqC_go, ia]; done)
    · simp only [seqX, ← opsI_go]; exact regC_go _ _
    · simp only [seqX, ← planI_go]; exact regC_go _ _
  | cond x a b ia ib =>
    intro c
    have e1 : (denC P I G fn false chk fuel (.cond x a b) c : Bx (CodeF DD)) = condC (getI x) (denC P I G fn false chk fuel a (cA c)) (denC P I G fn false chk fuel b (cB c)) := rfl
    rw [e1, condC_go, ia, ib, getI_go]; rfl
  | block id a ia =>
    intro c
    have e1 : (denC P I G fn false chk fuel (.block id a) c : Bx (CodeF DD)) = blockC id (denC P I G fn false chk fuel a (cA c)) := rfl
    rw [e1, blockC_go, ia]; rfl
  | loop a ia =>
    intro c
    have e1 : (denC P I G fn false chk fuel (.loop a) c : Bx (CodeF DD)) = .mk (loopF (denC P I G fn false chk fuel a (cA c)) fuel) := rfl
    rw [e1, go_mk, loopF_go, ia]; rfl
  | exit id => intro c; rfl
  | label => intro c; rfl
  | ret => intro c; rfl
  | slow => intro c; rfl
end Go.Ev

namespace Go.Ev
/-! Functions -/
noncomputable def tmpsOf : List ResultVar → Option (List Nat)
  | [] => some []
  | .tmp i :: l => match tmpsOf l with | some is => some (i :: is) | none => none
  | _ :: _ => none
noncomputable def rTl (is : List Nat) : TmS DD → (List CV → Res) → Res := List.rec (motive := fun _ => TmS DD → (List CV → Res) → Res) cN (fun i _ ih => cC (gT DD i).go ih) is
noncomputable def rG (X : GetV DD) : RetF DD := fun t _ _ _ k => X t k
noncomputable def rT (R : TmS DD → (List CV → Res) → Res) : RetF DD := fun t _ _ _ k => R t ((fun (k : V → Res) (l : List CV) => k (vOth (.tup l))) k)
noncomputable def resXD (P : Program) (rs : List ResultVar) : RetF DD := match rs with
  | [.tmp i] => rG (gT DD i).go
  | rs => match tmpsOf rs with
    | some is => rT (rTl is)
    | none => (resS P rs).go
theorem rTl_eq (P : Program) (t : TmS DD) (m : MX (HS DD)) : ∀ (rs : List ResultVar) (is : List Nat), tmpsOf rs = some is → ∀ k : List CV → Res, resultsCR (scott DD) P rs t m k = rTl is t k
  | [], is, h, k => by simp only [tmpsOf, Option.some.injEq] at h; subst h; rfl
  | .cell a ty :: rs, is, h, k => by simp [tmpsOf] at h
  | .tmp i :: rs, is, h, k => by
    simp only [tmpsOf] at h
    cases hr : tmpsOf rs with
    | none => rw [hr] at h; cases h
    | some js =>
      rw [hr] at h
      simp only [Option.some.injEq] at h
      subst h
      show (gT DD i).go t (fun v => decV v fun v => resultsCR (scott DD) P rs t m fun vs => k (v :: vs)) = (gT DD i).go t fun v => decV v fun c => rTl js t fun cs => k (c :: cs)
      simp only [rTl_eq P t m rs js hr]
theorem resS_go (P : Program) (rs : List ResultVar) : (resS P rs : Bx (RetF DD)).go = resXD P rs := by
  match rs with
  | [] =>
    funext t h n tab k; rfl
  | [.tmp i] => simp only [resS, resXD, opened_eq, go_mk]; rfl
  | [.cell a ty] => rfl
  | r :: r' :: rs =>
    have e : resXD P (r :: r' :: rs) = match tmpsOf (r :: r' :: rs) with | some is => rT (rTl is) | none => (resS P (r :: r' :: rs)).go := by
      cases r <;> rfl
    rw [e]
    cases hs : tmpsOf (r :: r' :: rs) with
    | none => rfl
    | some is =>
      dsimp only
      have e2 : (resS P (r :: r' :: rs) : Bx (RetF DD)) = .mk fun t h n tab k => resultsCR (scott DD) P (r :: r' :: rs) t ⟨h, n, tab⟩ fun vs => match vs with | [v] => k (encV v) | vs => k (vOth (.tup vs)) := by
        cases r <;> rfl
      rw [e2]
      funext t h n tab k
      rw [go_mk]
      simp only [rTl_eq P t ⟨h, n, tab⟩ _ is hs]
      cases r with
      | cell a ty => simp [tmpsOf] at hs
      | tmp i =>
        cases r' with
        | cell a ty => simp [tmpsOf] at hs
        | tmp j =>
          simp only [tmpsOf] at hs
          cases hr : tmpsOf rs with
          | none => rw [hr] at hs; cases hs
          | some js =>
            rw [hr] at hs
            simp only [Option.some.injEq] at hs
            subst hs
            rfl
noncomputable def leaveCD (R : RetF DD) (k : V → Tab → HS DD → Nat → Res) (c : Cx DD) (t : TmS DD) (h : HS DD) (n : Nat) : Res := Cx.rec (motive := fun _ => RetF DD → (V → Tab → HS DD → Nat → Res) → TmS DD → HS DD → Nat → Res)
  (fun call d tab R k t h n => List.rec (motive := fun _ => CallS DD → Tab → RetF DD → (V → Tab → HS DD → Nat → Res) → TmS DD → HS DD → Nat → Res)
    (fun _ tab R k t h n => R t h n tab ((fun (k : V → Tab → HS DD → Nat → Res) (tab : Tab) (h : HS DD) (n : Nat) (v : V) => k v tab h n) k tab h n))
    (fun x d _ call tab R k t h n => defersCR (scott DD) (unS call) (x :: d) ⟨h, n, tab⟩ fun m => mM m fun tab h n => R t h n tab fun v => k v tab h n) d call tab R k t h n) c R k t h n
noncomputable def leaveKD (R : RetF DD) (k : V → Tab → HS DD → Nat → Res) (x : CX) : Cx DD → TmS DD → HS DD → Nat → Res :=
  CX.rec (motive := fun _ => RetF DD → (V → Tab → HS DD → Nat → Res) → Cx DD → TmS DD → HS DD → Nat → Res) leaveCD (fun _ _ _ _ _ _ _ => .bad) leaveCD x R k
theorem leaveC_go (R : Bx (RetF DD)) : leaveC R = leaveCD R.go := by
  funext k c t h n
  obtain ⟨call, d, tab⟩ := c
  cases d <;> rfl
theorem leaveK_go (R : Bx (RetF DD)) (k : V → Tab → HS DD → Nat → Res) : leaveK R k = leaveKD R.go k := by
  funext x
  cases x
  · show leaveC R k = leaveCD R.go k; rw [leaveC_go]
  · rfl
  · show leaveC R k = leaveCD R.go k; rw [leaveC_go]
noncomputable def fX (nt : Nat) (R : RetF DD) (body : CodeF DD) : FnF DD := fun call args tab h n k => setArgsS args 0 (blankS nt).go ((fun (R : RetF DD) (body : CodeF DD) (call : CallS DD) (tab : Tab) (h : HS DD) (n : Nat) (k : V → Tab → HS DD → Nat → Res) (t : TmS DD) => body (.mk call [] tab) t h n (leaveKD R k)) R body call tab h n k)
section
variable (P : Program) (I : TypeId → Option TypeInfo) (F : FuncId → Option Func) (G : Nat → Bool) (Dr : FuncId → Bool) (fuel : Nat)
noncomputable def dirF (f : FuncId) (x : FnI) : FnF DD := fX x.nt (resXD P (fRes (F f))) (denCD P I G f (!Dr f) fuel x.body (fBody (F f)))
noncomputable def dirO (f : FuncId) : Option (FnF DD) := match compF G I P F Dr f with | some x => some (dirF P I F G Dr fuel f x) | none => none
theorem dirO_eq {f : FuncId} {x : FnF DD} (h : dirO P I F G Dr fuel f = some x) : (fnS P I F G Dr fuel f).go = x := by
  unfold dirO at h
  cases hc : compF G I P F Dr f with
  | none => rw [hc] at h; cases h
  | some y =>
    rw [hc] at h
    obtain rfl := Option.some.inj h
    unfold compF at hc
    unfold fnS dirF
    cases hf : F f with
    | none => rw [hf] at hc; cases hc
    | some fn =>
      rw [hf] at hc
      dsimp only at hc ⊢
      cases hb : fn.body with
      | none => rw [hb] at hc; cases hc
      | some c =>
        rw [hb] at hc
        dsimp only at hc ⊢
        obtain rfl := Option.some.inj hc
        have e1 : fBody (some fn) = c := by unfold fBody; simp only [hb]
        have e2 : fRes (some fn) = fn.results.toList := rfl
        simp only [opened_eq, go_mk, e1, e2, ← denC_go, denC_eq, ← resS_go]
        funext call args tab h n k
        simp only [leaveK_go]
        rfl
/-- a table of direct forms -/
noncomputable def DirOk (T : FuncId → Option (FnF DD)) : Prop := ∀ f x, T f = some x → (fnS P I F G Dr fuel f).go = x
variable (T : FuncId → Option (FnF DD))
noncomputable def stepD (call : CallS DD) : CallS DD := fun f args tab h n k =>
  Fn.rec (motive := fun _ => CallS DD → List V → Tab → HS DD → Nat → (V → Tab → HS DD → Nat → Res) → Res) (fun g call args tab h n k => Option.rec (motive := fun _ => CallS DD → List V → Tab → HS DD → Nat → (V → Tab → HS DD → Nat → Res) → Res)
      ((fnS P I F G Dr fuel g).go) (fun F => F) (T g) call args tab h n k) (fun _ _ _ _ _ _ _ => .bad)
    (fun _ _ _ _ _ _ _ _ => .bad) (fun _ _ _ _ _ _ _ _ _ _ => .bad) (fun l call args tab h n k => yldF P I G fuel call l args tab h n k) f call args tab h n k
variable {P I F G Dr fuel T}
theorem stepD_eq (hT : DirOk P I F G Dr fuel T) (call : CallS DD) : stepD P I F G Dr fuel T call = stepS P I F G Dr fuel call := by
  funext f args tab h n k
  cases f with
  | func g =>
    show (Option.rec (motive := fun _ => CallS DD → List V → Tab → HS DD → Nat → (V → Tab → HS DD → Nat → Res) → Res) ((fnS P I F G Dr fuel g).go) (fun F => F) (T g) : CallS DD → List V → Tab → HS DD → Nat → (V → Tab → HS DD → Nat → Res) → Res) call args tab h n k = (fnS P I F G Dr fuel g).go call args tab h n k
    cases ht : T g with
    | none => rfl
    | some x => rw [hT g x ht]
  | method s => rfl
  | methodOf t s => rfl
  | via t p g b => rfl
  | yield l => rfl
end
noncomputable def callDK (P : Program) (I : TypeId → Option TypeInfo) (F : FuncId → Option Func) (G : Nat → Bool) (Dr : FuncId → Bool) (T : FuncId → Option (FnF DD)) (K : FuncId → Option KRows) (fuel depth : Nat) : CallS DD :=
  Nat.rec (motive := fun _ => CallS DD) (fun _ _ _ _ _ _ => .bad) (fun _ call => ovrCS K (stepD P I F G Dr fuel T call)) depth
section
variable {P : Program} {I : TypeId → Option TypeInfo} {F : FuncId → Option Func} {G : Nat → Bool} {Dr : FuncId → Bool} {K : FuncId → Option KRows} {fuel : Nat} {T : FuncId → Option (FnF DD)}
theorem callDK_ok (hD : DrawFact P Dr) (hT : DirOk P P.info? (fun f => P.funcs[f]?) G Dr fuel T) (depth : Nat) : CallOK (callDK P P.info? (fun f => P.funcs[f]?) G Dr T K fuel depth) (callK P G K fuel depth) := by
  induction depth with
  | zero => intro f args m k; rfl
  | succ depth ih =>
    have h := step_good (G := G) hD ih fuel
    rw [← stepD_eq hT] at h
    exact ovrCS_ok K h
/-- a row of the table, seen by a run -/
theorem rowD_run (hI : ∀ t, I t = P.info? t) (hF : ∀ f, F f = P.funcs[f]?) (hD : DrawFact P Dr) (hT : DirOk P I F G Dr fuel T) {depth : Nat} {f : Fn} {args : List CV} {r : CV} {h : Hp} {n : Nat}
    (hh : (callDK P I F G Dr T K fuel depth f (encVs args) ⟨[], []⟩ (encH DD h) n (isVS DD r)).val = true) : callK P G K fuel depth f args ⟨h, n, ⟨[], []⟩⟩ (isV r) = true := by
  have h1 : I = P.info? := funext hI
  have h2 : F = fun f => P.funcs[f]? := funext hF
  subst h1; subst h2
  have := callDK_ok (K := K) hD hT depth f args ⟨h, n, ⟨[], []⟩⟩ (isVS DD r)
  rw [this] at hh
  simpa only [isVS_eq] using hh
/-- a law's run -/
theorem runD_step (hI : ∀ t, I t = P.info? t) (hF : ∀ f, F f = P.funcs[f]?) (hD : DrawFact P Dr) (hT : DirOk P I F G Dr fuel T) {depth : Nat} {f : Fn} {args : List CV} {tab : Tab} {h : Hp} {n : Nat}
    (hh : (stepD P I F G Dr fuel T (callDK P I F G Dr T K fuel depth) f (encVs args) tab (encH DD h) n (isTS DD)).val = true) : callStep P G fuel (callK P G K fuel depth) f args ⟨h, n, tab⟩ isT = true := by
  have h1 : I = P.info? := funext hI
  have h2 : F = fun f => P.funcs[f]? := funext hF
  subst h1; subst h2
  rw [stepD_eq hT] at hh
  have := step_good (D := DD) (G := G) hD (callDK_ok (K := K) hD hT depth) fuel f args ⟨h, n, tab⟩ (isTS DD)
  rw [this] at hh
  simpa only [isTS_eq] using hh
end
end Go.Ev
