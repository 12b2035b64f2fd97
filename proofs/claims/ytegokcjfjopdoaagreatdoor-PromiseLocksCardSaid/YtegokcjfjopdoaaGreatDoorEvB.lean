/- A verified evaluator for the model's code (part EvB): own work, of no program. -/
import Derived.Calls
namespace Go.Ev

/-! Tries -/
inductive Tr (α : Type) where
  | nil
  | node (v : α) (l r : Tr α)

def Tr.get? {α : Type} : Tr α → Nat → Option α
  | .nil, _ => none
  | .node v l r, n => match n with
    | 0 => some v
    | p + 1 => if p % 2 = 0 then l.get? (p / 2) else r.get? (p / 2)

noncomputable def getK {α : Type} (t : Tr α) : Nat → (α → Bool) → Bool :=
  Tr.rec (motive := fun _ => Nat → (α → Bool) → Bool) (fun _ _ => false)
    (fun v _ _ gl gr n k => Nat.rec (motive := fun _ => Bool) (k v)
      (fun p _ => Nat.rec (motive := fun _ => Bool) (gl (Nat.div p 2) k) (fun _ _ => gr (Nat.div p 2) k) (Nat.mod p 2)) n) t

noncomputable def setK {α : Type} (x : α) (t : Tr α) : Nat → (Tr α → Bool) → Bool :=
  Tr.rec (motive := fun _ => Nat → (Tr α → Bool) → Bool) (fun _ _ => false)
    (fun v l r gl gr n k => Nat.rec (motive := fun _ => Bool) (k (.node x l r))
      (fun p _ => Nat.rec (motive := fun _ => Bool) (gl (Nat.div p 2) fun l' => k (.node v l' r)) (fun _ _ => gr (Nat.div p 2) fun r' => k (.node v l r')) (Nat.mod p 2)) n) t

noncomputable def insK {α : Type} (x : α) (t : Tr α) : Nat → (Tr α → Bool) → Bool :=
  Tr.rec (motive := fun _ => Nat → (Tr α → Bool) → Bool)
    (fun n k => Nat.rec (motive := fun _ => Bool) (k (.node x .nil .nil)) (fun _ _ => false) n)
    (fun v l r gl gr n k => Nat.rec (motive := fun _ => Bool) false
      (fun p _ => Nat.rec (motive := fun _ => Bool) (gl (Nat.div p 2) fun l' => k (.node v l' r)) (fun _ _ => gr (Nat.div p 2) fun r' => k (.node v l r')) (Nat.mod p 2)) n) t

noncomputable def lrec {α β : Type} (z : β) (f : α → List α → β → β) (l : List α) : β := List.rec (motive := fun _ => β) z f l

noncomputable def crec {β : Type} (skip : β) (region : Nat → Array Oper → Bool → β) (seq : β → β → β) (cond : Operand → β → β → β) (block : Nat → β → β) (loop : Code → β → β)
    (rangeFunc : Operand → Array Tmp → Code → Code → β) (exit : Nat → β) (label : β) (ret : β) (other : β) (c : Code) : β :=
  Code.rec (motive := fun _ => β) skip region (fun _ _ a b => seq a b) (fun c _ _ a b => cond c a b) (fun id _ a => block id a) (fun c a => loop c a)
    (fun f ps a b _ _ => rangeFunc f ps a b) exit (fun _ _ => other) (fun _ => label) (fun _ => other) ret (fun _ => other) c

theorem getK_eq {α : Type} (t : Tr α) : ∀ (n : Nat) (k : α → Bool), getK t n k = match t.get? n with | some v => k v | none => false := by
  induction t with
  | nil => intro n k; rfl
  | node v l r ihl ihr =>
    intro n k
    cases n with
    | zero => rfl
    | succ p =>
      simp only [Tr.get?]
      rcases Nat.mod_two_eq_zero_or_one p with h | h
      · rw [if_pos h, ← ihl]
        show Nat.rec (motive := fun _ => Bool) (getK l (Nat.div p 2) k) (fun _ _ => getK r (Nat.div p 2) k) (p % 2) = _
        rw [h]; rfl
      · rw [if_neg (by omega), ← ihr]
        show Nat.rec (motive := fun _ => Bool) (getK l (Nat.div p 2) k) (fun _ _ => getK r (Nat.div p 2) k) (p % 2) = _
        rw [h]; rfl


noncomputable section
/-! Values and blocks of the canonical state -/
inductive CV where
  | bool (b : Bool)
  | int (k : IntKind) (n : Int)
  | str (len code : Nat)
  | ptr0
  | ptr (b off : Nat)
  | sl0
  | sl (b off len cap : Nat)
  | slE
  | map0
  | map (b : Nat)
  | fn (f : Fn) (first captured : List CV)
  | yld (b : Nat)
  | fn0
  | ifc (t : Nat) (v : CV)
  | ifc0
  | agg (cs : List CV)
  | tup (vs : List CV)
  | sym (k : IntKind) (s : Nat)
  | ssym (s l : Nat)
  | symr (k : IntKind) (s c r : Nat)
  deriving Inhabited

inductive CX where
  | normal
  | exit (id : Nat)
  | ret

inductive CB where
  | none
  | cells (lo : Bool) (es sz : Nat) (cs : Tr CV)
  | map (es : List (CV × CV × Nat)) (clock : Nat)
  | loop (st : LoopState) (pending : Option Code) (fn : FuncId) (tm : Tr CV) (params : Array Tmp) (assign body : Code) (dfb : Nat)
  | dfd (calls : Bool)

abbrev Tm := Tr CV
abbrev Hp := Tr CB
abbrev Tab := List (Int × Int)

structure M where
  h : Hp
  n : Nat
  tab : Tab

inductive DF where
  | call (f : Fn) (args captured : List CV)
  | coll (b : Nat)

def undefC : CV := .tup []

/-! Lists and tries -/
def odds {α : Type} : List α → List α
  | [] => []
  | [a] => [a]
  | a :: _ :: l => a :: odds l
def evens {α : Type} : List α → List α
  | [] => []
  | [_] => []
  | _ :: b :: l => b :: evens l
def ofListF {α : Type} : Nat → List α → Tr α
  | 0, _ => .nil
  | _ + 1, [] => .nil
  | f + 1, a :: l => .node a (ofListF f (odds l)) (ofListF f (evens l))
def ofList {α : Type} (l : List α) : Tr α := ofListF l.length l
def blank (n : Nat) : Tm := ofList (List.replicate n undefC)

/-! Numbers, forced -/
def forceN (n : Nat) (k : Nat → Bool) : Bool := Nat.rec (motive := fun _ => Bool) false (fun p _ => k p) (Nat.succ n)
def forceI (n : Int) (k : Int → Bool) : Bool := match n with
  | .ofNat m => forceN m fun m => k (.ofNat m)
  | .negSucc m => forceN m fun m => k (.negSucc m)
def ifb (b : Bool) (x y : Bool) : Bool := match b with | true => x | false => y
def kB (b : Bool) (k : CV → Bool) : Bool := match b with | true => k (.bool true) | false => k (.bool false)
def ltI : Int → Int → Bool
  | .ofNat a, .ofNat b => Nat.blt a b
  | .ofNat _, .negSucc _ => false
  | .negSucc _, .ofNat _ => true
  | .negSucc a, .negSucc b => Nat.blt b a
def eqI : Int → Int → Bool
  | .ofNat a, .ofNat b => Nat.beq a b
  | .negSucc a, .negSucc b => Nat.beq a b
  | _, _ => false
def leI (a b : Int) : Bool := match ltI b a with | true => false | false => true

/-! Strings -/
def encBytes (l : List UInt8) : Nat := l.foldl (fun a b => a * 256 + b.toNat) 0
def decBytes : Nat → Nat → List UInt8
  | 0, _ => []
  | n + 1, c => UInt8.ofNat (c / 256 ^ n % 256) :: decBytes n c

/-! Constants -/
def ofValue : Value → Option CV
  | .bool b => some (.bool b)
  | .int k n => some (.int k n)
  | .string s => some (.str s.size (encBytes s.data.toList))
  | .pointer none => some .ptr0
  | .slice none 0 0 => some .sl0
  | .map none => some .map0
  | .nilFunc => some .fn0
  | .nilIface => some .ifc0
  | .tuple a => match a.toList with | [] => some (.tup []) | _ => none
  | _ => none
def ofValues : List Value → Option (List CV)
  | [] => some []
  | v :: l => match ofValue v with
    | none => none
    | some c => match ofValues l with | none => none | some cs => some (c :: cs)

/-! Operands -/
def getO (G : Nat → Bool) (x : Operand) (t : Tm) (k : CV → Bool) : Bool := match x with
  | .tmp i => getK t i k
  | .const v => match ofValue v with | some c => k c | none => false
  | .global g => match G g with | true => k (.ptr g 0) | false => false
  | .func f => k (.fn (.func f) [] [])
def getOs (G : Nat → Bool) (xs : List Operand) (t : Tm) : (List CV → Bool) → Bool :=
  lrec (fun k => k []) (fun x _ ih k => getO G x t fun c => ih fun cs => k (c :: cs)) xs

/-! Types -/
def aggT (P : Program) (t : TypeId) : Option Bool := match P.underlying t with | some (.struct _) => some true | some (.array _ _) => some true | some _ => some false | none => none
def szK (P : Program) (t : TypeId) (k : Nat → Bool) : Bool := match P.info? t with | some i => k i.size | none => false
def isIfc (P : Program) (t : TypeId) : Bool := match P.underlying t with | some (.interface _) | none => true | _ => false
def zeroOf (P : Program) (t : TypeId) : Option (List CV) := match P.info? t with
  | some i => match i.zero with | some v => ofValues v.cells.toList | none => none
  | none => none
def zeroVal (P : Program) (t : TypeId) : Option CV := match P.info? t with
  | some i => match i.zero with
    | some (.agg cs) => match ofValues cs.toList with | some z => some (.agg z) | none => none
    | some v => ofValue v
    | none => none
  | none => none
def elemOfSl (P : Program) (t : TypeId) : Option TypeId := match P.underlying t with | some (.slice e) => some e | _ => none
def fieldOf (P : Program) (t : TypeId) (f : Nat) : Option Field := match P.underlying t with | some (.struct fs) => fs[f]? | _ => none
/-- a struct of plain fields, one cell each, in their order -/
inductive PK where
  | b | i | s
def pkOf (P : Program) (t : TypeId) : Option PK := match P.underlying t with | some .bool => some .b | some (.int _) => some .i | some .string => some .s | _ => none
def plainFrom (P : Program) : Nat → List Field → Option (List PK)
  | _, [] => some []
  | i, f :: fs => match f.name != "_" && Nat.beq f.offset i with
    | true => match pkOf P f.type with
      | some p => match plainFrom P (i + 1) fs with | some ps => some (p :: ps) | none => none
      | none => none
    | false => none
def plainStruct (P : Program) (t : TypeId) : Option (List PK) := match P.underlying t with
  | some (.struct fs) => match !P.stoodInHeld t && !P.eqGuardType P.depth t with | true => plainFrom P 0 fs.toList | false => none
  | _ => none
def fitP (p : PK) (c : CV) : Bool := match p with
  | .b => match c with | .bool _ => true | _ => false
  | .i => match c with | .int .. => true | .sym .. => true | _ => false
  | .s => match c with | .str .. => true | .ssym .. => true | _ => false

def cellsOfCV : CV → List CV
  | .agg cs => cs
  | c => [c]

/-! Memory -/
def loadN (cs : Tr CV) (n : Nat) : Nat → (List CV → Bool) → Bool :=
  Nat.rec (motive := fun _ => Nat → (List CV → Bool) → Bool) (fun _ k => k []) (fun _ ih off k => getK cs off fun c => ih (Nat.succ off) fun l => k (c :: l)) n
def oneK (v : CV) (k : Bool) : Bool := match v with | .agg _ => false | .tup _ => false | _ => k
def storeN (l : List CV) : Nat → Tr CV → (Tr CV → Bool) → Bool :=
  lrec (fun _ cs k => k cs) (fun v _ ih off cs k => oneK v (setK v cs off fun cs' => ih (Nat.succ off) cs' k)) l
/-- cells laid behind the last one -/
def pushN (l : List CV) : Nat → Tr CV → (Tr CV → Bool) → Bool :=
  lrec (fun _ cs k => k cs) (fun v _ ih off cs k => oneK v (insK v cs off fun cs' => ih (Nat.succ off) cs' k)) l
def withCells (h : Hp) (b : Nat) (k : Bool → Nat → Nat → Tr CV → Bool) : Bool :=
  getK h b fun cb => match cb with
    | .cells lo es sz cs => k lo es sz cs
    | _ => false
def asPtr (v : CV) (k : Nat → Nat → Bool) : Bool := match v with | .ptr b o => k b o | _ => false
def asBool (v : CV) (k : Bool → Bool) : Bool := match v with | .bool b => k b | _ => false
/-- f at 0 .. n - 1 -/
def allB (n : Nat) (f : Nat → Bool) : Bool := Nat.rec (motive := fun _ => Bool) true (fun p ih => match f p with | true => ih | false => false) n
def setTab : Tab → Nat → Int × Int → Tab
  | [], _, _ => []
  | _ :: l, 0, x => x :: l
  | a :: l, s + 1, x => a :: setTab l s x
/-- a number that is needed itself: a symbol is split -/
def asNat (v : CV) (tab : Tab) (k : Nat → Tab → Bool) : Bool := match v with
  | .int _ n => match n with | .ofNat m => k m tab | .negSucc _ => false
  | .sym _ s => match tab[s]? with
    | some (.ofNat lo, .ofNat hi) => match Nat.ble (hi - lo) 300 with
      | true => allB (hi + 1 - lo) fun i => forceN (lo + i) fun c => k c (setTab tab s (.ofNat c, .ofNat c))
      | false => false
    | _ => false
  | _ => false
def loadC (P : Program) (t : TypeId) (b off : Nat) (h : Hp) (k : CV → Bool) : Bool :=
  withCells h b fun _ _ _ cs => match aggT P t with
    | some true => szK P t fun n => loadN cs n off fun l => k (.agg l)
    | some false => getK cs off k
    | none => false
def storeC (P : Program) (t : TypeId) (b off : Nat) (v : CV) (h : Hp) (k : Hp → Bool) : Bool :=
  withCells h b fun lo es sz cs => szK P t fun n => match Nat.beq (cellsOfCV v).length n with
    | true => storeN (cellsOfCV v) off cs fun cs' => setK (.cells lo es sz cs') h b k
    | false => false

/-! Integers -/
def rangeOf (kd : IntKind) : Int × Int := (kd.min, kd.max)
def wrapK (kd : IntKind) (x : Int) (k : Int → Bool) : Bool :=
  match leI kd.min x && leI x kd.max with
  | true => forceI x k
  | false => forceI (kd.wrap x) k
def intOp (op : BinOp) (kd : IntKind) (a b : Int) (k : CV → Bool) : Bool :=
  match op with
  | .add => wrapK kd (a + b) fun r => k (.int kd r)
  | .sub => wrapK kd (a - b) fun r => k (.int kd r)
  | .mul => wrapK kd (a * b) fun r => k (.int kd r)
  | .quo => match eqI b 0 with | true => false | false => wrapK kd (a.tdiv b) fun r => k (.int kd r)
  | .rem => match eqI b 0 with | true => false | false => forceI (a.tmod b) fun r => k (.int kd r)
  | .and => forceI (kd.wrap (BitVec.ofInt kd.bits a &&& BitVec.ofInt kd.bits b).toNat) fun r => k (.int kd r)
  | .or => forceI (kd.wrap (BitVec.ofInt kd.bits a ||| BitVec.ofInt kd.bits b).toNat) fun r => k (.int kd r)
  | .eql => kB (eqI a b) k
  | .neq => kB (!eqI a b) k
  | .lss => kB (ltI a b) k
  | .leq => kB (leI a b) k
  | .gtr => kB (ltI b a) k
  | .geq => kB (leI b a) k
  | .shl => match ltI b 0 with | true => false | false => wrapK kd (a * 2 ^ (min b.toNat kd.bits)) fun r => k (.int kd r)
  | .shr => match ltI b 0 with | true => false | false => forceI (a.fdiv (2 ^ (min b.toNat kd.bits))) fun r => k (.int kd r)
  | _ => false

/-- a symbol against a number -/
def symLt (s : Nat) (c : Int) (tab : Tab) (k : Bool → Tab → Bool) : Bool := match tab[s]? with
  | some (lo, hi) => match ltI hi c with
    | true => k true tab
    | false => match ltI lo c with
      | false => k false tab
      | true => k true (setTab tab s (lo, c - 1)) && k false (setTab tab s (c, hi))
  | none => false
def symEq (s : Nat) (c : Int) (tab : Tab) (k : Bool → Tab → Bool) : Bool := match tab[s]? with
  | some (lo, hi) => match ltI c lo || ltI hi c with
    | true => k false tab
    | false => k true (setTab tab s (c, c)) && ((match ltI lo c with | true => k false (setTab tab s (lo, c - 1)) | false => true) &&
        (match ltI c hi with | true => k false (setTab tab s (c + 1, hi)) | false => true))
  | none => false
def symCmp (op : BinOp) (s : Nat) (c : Int) (tab : Tab) (k : Bool → Tab → Bool) : Bool := match op with
  | .eql => symEq s c tab k
  | .neq => symEq s c tab fun b => k (!b)
  | .lss => symLt s c tab k
  | .geq => symLt s c tab fun b => k (!b)
  | .leq => symLt s (c + 1) tab k
  | .gtr => symLt s (c + 1) tab fun b => k (!b)
  | _ => false
def flip : BinOp → BinOp
  | .lss => .gtr | .gtr => .lss | .leq => .geq | .geq => .leq | op => op
/-- the remainder of a symbol: every one -/
def symRem (kd : IntKind) (s : Nat) (c : Int) (tab : Tab) (k : CV → Tab → Bool) : Bool := match tab[s]?, c with
  | some (.ofNat _, _), .ofNat (m + 1) => match Nat.ble m 300 with
    | true => allB (m + 1) fun r => forceN r fun r => k (.int kd (.ofNat r)) tab
    | false => false
  | _, _ => false

def strOp (op : BinOp) (l1 c1 l2 c2 : Nat) (k : CV → Bool) : Bool :=
  match op with
  | .add => forceN (l1 + l2) fun l => match Nat.ble l 1000000 with | true => forceN (c1 * 256 ^ l2 + c2) fun c => k (.str l c) | false => false
  | .eql => kB (Nat.beq l1 l2 && Nat.beq c1 c2) k
  | .neq => kB (!(Nat.beq l1 l2 && Nat.beq c1 c2)) k
  | .lss => kB (Op.bytesLess (decBytes l1 c1) (decBytes l2 c2)) k
  | .geq => kB (!Op.bytesLess (decBytes l1 c1) (decBytes l2 c2)) k
  | .leq => kB (Op.bytesLess (decBytes l1 c1) (decBytes l2 c2) || (Nat.beq l1 l2 && Nat.beq c1 c2)) k
  | .gtr => kB (!(Op.bytesLess (decBytes l1 c1) (decBytes l2 c2) || (Nat.beq l1 l2 && Nat.beq c1 c2))) k
  | _ => false

/-- equality of two plain values (one cell each) -/
def eqP (x y : CV) (tab : Tab) (k : Bool → Tab → Bool) : Bool := match x with
  | .bool a => match y with | .bool b => k (a == b) tab | _ => false
  | .int kd a => match y with
    | .int kd' b => match decide (kd = kd') with | true => k (eqI a b) tab | false => false
    | .sym kd' s => match decide (kd = kd') with | true => symEq s a tab k | false => false
    | _ => false
  | .sym kd s => match y with
    | .int kd' b => match decide (kd = kd') with | true => symEq s b tab k | false => false
    | .sym kd' s' => match decide (kd = kd') && Nat.beq s s' with | true => k true tab | false => false
    | _ => false
  | .str l1 c1 => match y with | .str l2 c2 => k (Nat.beq l1 l2 && Nat.beq c1 c2) tab | _ => false
  | .ssym s _ => match y with | .ssym s' _ => (match Nat.beq s s' with | true => k true tab | false => false) | _ => false
  | _ => false
/-- equality of rows of plain cells -/
def eqL (ps : List PK) : List CV → List CV → Tab → (Bool → Tab → Bool) → Bool :=
  lrec (fun _ _ tab k => k true tab)
    (fun p _ ih xs ys tab k => match xs with
      | [] => false
      | x :: xs => match ys with
        | [] => false
        | y :: ys => match fitP p x with
          | true => eqP x y tab fun b tab => match b with | true => ih xs ys tab k | false => k false tab
          | false => false) ps
def liveB (h : Hp) (b : Nat) (k : Bool) : Bool := getK h b fun cb => match cb with
  | .cells lo es _ _ => match lo with
    | true => match Nat.beq es 1 with | true => false | false => k
    | false => k
  | _ => false
/-- the type that a comparison goes by; k gets the answer -/
def eqC (P : Program) (ty : TypeId) (cx cy : Bool) (x y : CV) (h : Hp) (tab : Tab) (k : Bool → Tab → Bool) : Bool := match x with
  | .agg xs => match y with
    | .agg ys => match plainStruct P ty with
      | some ps => eqL ps xs ys tab k
      | none => false
    | _ => false
  | .ptr0 => match P.underlying ty with
    | some (.pointer _) => match y with | .ptr0 => k true tab | .ptr _ _ => k false tab | _ => false
    | _ => false
  | .ptr b o => match P.underlying ty with
    | some (.pointer el) => match y with
      | .ptr0 => k false tab
      | .ptr b' o' => szK P el fun n => match Nat.beq n 0 with
        | true => false
        | false => match Nat.beq b b' with
          | true => k (Nat.beq o o') tab
          | false => liveB h b (liveB h b' (k false tab))
      | _ => false
    | _ => false
  | .sl0 => match P.underlying ty with
    | some (.slice _) => match y with | .sl0 => k true tab | .sl .. => k false tab | .slE => k false tab | _ => false
    | _ => false
  | .slE => match P.underlying ty with
    | some (.slice _) => match y with | .sl0 => k false tab | _ => false
    | _ => false
  | .sl .. => match P.underlying ty with
    | some (.slice _) => match y with | .sl0 => k false tab | _ => false
    | _ => false
  | .map0 => match P.underlying ty with
    | some (.map _ _) => match y with | .map0 => k true tab | .map _ => k false tab | _ => false
    | _ => false
  | .map _ => match P.underlying ty with
    | some (.map _ _) => match y with | .map0 => k false tab | _ => false
    | _ => false
  | .fn0 => match P.underlying ty with
    | some (.func ..) => match y with | .fn0 => k true tab | .fn .. => k false tab | _ => false
    | _ => false
  | .fn .. => match P.underlying ty with
    | some (.func ..) => match y with | .fn0 => k false tab | _ => false
    | _ => false
  | .ifc0 => match P.underlying ty with
    | some (.interface _) => match y with
      | .ifc0 => match cx || cy with | true => k true tab | false => false
      | .ifc .. => k false tab
      | _ => false
    | _ => false
  | .ifc .. => match P.underlying ty with
    | some (.interface _) => match y with | .ifc0 => k false tab | _ => false
    | _ => false
  | .bool _ => match P.underlying ty with
    | some .bool => eqP x y tab k
    | _ => false
  | _ => false

def isC : Operand → Bool
  | .const _ => true
  | _ => false

def eqBin (P : Program) (op : BinOp) (ty : TypeId) (cx cy : Bool) (x y : CV) (h : Hp) (tab : Tab) (k : CV → Tab → Bool) : Bool := match op with
  | .eql => eqC P ty cx cy x y h tab fun b tab => kB b fun c => k c tab
  | .neq => eqC P ty cx cy x y h tab fun b tab => kB (!b) fun c => k c tab
  | _ => false
def binC (P : Program) (op : BinOp) (ty : TypeId) (cx cy : Bool) (x y : CV) (h : Hp) (tab : Tab) (k : CV → Tab → Bool) : Bool := match x with
  | .int kd a => match y with
    | .int kd' b => match decide (kd = kd') || (match op with | .shl | .shr => true | _ => false) with
      | true => intOp op kd a b fun r => k r tab
      | false => false
    | .sym kd' s => match decide (kd = kd') with
      | true => symCmp (flip op) s a tab fun b tab => k (.bool b) tab
      | false => false
    | _ => false
  | .sym kd s => match y with
    | .int kd' b => match decide (kd = kd') with
      | true => match op with
        | .rem => symRem kd s b tab k
        | op => symCmp op s b tab fun b tab => k (.bool b) tab
      | false => false
    | .sym kd' s' => match decide (kd = kd') && Nat.beq s s' with
      | true => match op with | .eql => k (.bool true) tab | .neq => k (.bool false) tab | _ => false
      | false => false
    | _ => false
  | .str l1 c1 => match y with | .str l2 c2 => strOp op l1 c1 l2 c2 fun r => k r tab | _ => false
  | .ssym s _ => match y with
    | .ssym s' _ => match Nat.beq s s' with
      | true => match op with | .eql => k (.bool true) tab | .neq => k (.bool false) tab | _ => false
      | false => false
    | _ => false
  | .symr kd _ c r => match op with
    | .rem => match y with
      | .int kd' b => match b with
        | .ofNat n => (match decide (kd = kd') && (Nat.beq n c && !Nat.beq c 0) with | true => k (.int kd (.ofNat r)) tab | false => false)
        | .negSucc _ => false
      | _ => false
    | _ => false
  | x => eqBin P op ty cx cy x y h tab k

/-! Rows of cells, built -/
def setList (l : List CV) : Nat → List CV → List CV
  | _, [] => l
  | off, x :: xs => setList (l.set off x) (off + 1) xs
def fillC (place : Nat → Option (Nat × Nat)) : List (Nat × CV) → List CV → Option (List CV)
  | [], cells => some cells
  | (i, v) :: rest, cells => match place i with
    | none => none
    | some (off, size) => match Nat.beq (cellsOfCV v).length size && Nat.ble (off + size) cells.length with
      | true => fillC place rest (setList cells off (cellsOfCV v))
      | false => none
def repl (n : Nat) (z : List CV) : List CV := (List.range (n * z.length)).map fun i => z.getD (i % z.length) undefC
def forceL (l : List CV) (k : List CV → Bool) : Bool := lrec (β := (List CV → Bool) → Bool) (fun k => k []) (fun x _ ih k => ih fun l => k (x :: l)) l k
def partC (P : Program) (t : TypeId) (cs : List CV) (off : Nat) (k : CV → Bool) : Bool :=
  match aggT P t with
  | some true => szK P t fun n => forceL ((cs.drop off).take n) fun l => k (.agg l)
  | some false => match cs[off]? with | some c => k c | none => false
  | none => false

/-! Slices -/
def loBd (lo : Option CV) (h : Nat) (tab : Tab) (k : Nat → Tab → Bool) : Bool := match lo with
  | none => k 0 tab
  | some v => asNat v tab fun l tab => match Nat.ble l h with | true => k l tab | false => false
def sliceBd (len cap : Nat) (lo hi : Option CV) (tab : Tab) (k : Nat → Nat → Tab → Bool) : Bool :=
  match hi with
  | none => loBd lo len tab fun l tab => k l len tab
  | some v => asNat v tab fun h tab => match Nat.ble h cap with
    | true => loBd lo h tab fun l tab => k l h tab
    | false => false
def optO (G : Nat → Bool) (x : Option Operand) (t : Tm) (k : Option CV → Bool) : Bool := match x with | none => k none | some x => getO G x t fun v => k (some v)

/-! Maps: keys that are plain, or pointers -/
def keyEq (P : Program) (kt : TypeId) (x y : CV) (h : Hp) (tab : Tab) (k : Bool → Bool) : Bool := match x with
  | .int kd a => match y with | .int kd' b => (match decide (kd = kd') with | true => k (eqI a b) | false => false) | _ => false
  | .str l1 c1 => match y with | .str l2 c2 => k (Nat.beq l1 l2 && Nat.beq c1 c2) | _ => false
  | .ptr .. => eqC P kt false false x y h tab fun b _ => k b
  | _ => false
def keyOk (P : Program) (kt : TypeId) (x : CV) : Bool := match P.underlying kt with
  | some (.int kd) => match x with | .int kd' _ => decide (kd = kd') | _ => false
  | some .string => match x with | .str .. => true | _ => false
  | some (.pointer _) => match x with | .ptr .. => true | _ => false
  | _ => false
def findM (P : Program) (kt : TypeId) (h : Hp) (tab : Tab) (key : CV) (es : List (CV × CV × Nat)) (k : Option CV → Bool) : Bool :=
  lrec (β := (Option CV → Bool) → Bool) (fun k => k none) (fun e _ ih k => keyEq P kt key e.1 h tab fun b => match b with | true => k (some e.2.1) | false => ih k) es k
def putM (P : Program) (kt : TypeId) (h : Hp) (tab : Tab) (key v : CV) (clock : Nat) (es : List (CV × CV × Nat)) (k : List (CV × CV × Nat) → Bool → Bool) : Bool :=
  lrec (β := (List (CV × CV × Nat) → Bool → Bool) → Bool) (fun k => k [(key, v, clock)] true)
    (fun e es ih k => keyEq P kt key e.1 h tab fun b => match b with
      | true => k ((key, v, e.2.2) :: es) false
      | false => ih fun es' new => k (e :: es') new) es k

/-! Operations that act on nothing: their value, and the block that they make -/
abbrev KF := CV → Option CB → Tab → Bool

def convC (P : Program) (src dst : TypeId) (x : CV) (tab : Tab) (nb : Nat) (k : KF) : Bool := match P.underlying src with
  | none => false
  | some _ => match P.underlying dst with
    | some (.slice e) => match x with
      | .str l c => match P.underlying e with
        | some (.int .u8) => k (.sl nb 0 l l) (some (.cells true 1 l (ofList ((decBytes l c).map fun b => .int .u8 b.toNat)))) tab
        | _ => false
      | _ => false
    | some (.int kd) => match x with
      | .int _ a => wrapK kd a fun r => k (.int kd r) none tab
      | .sym _ s => match tab[s]? with
        | some (lo, hi) => match leI kd.min lo && leI hi kd.max with | true => k (.sym kd s) none tab | false => false
        | none => false
      | _ => false
    | some .string => match x with
      | .str l c => k (.str l c) none tab
      | .ssym s l => k (.ssym s l) none tab
      | .int _ a => forceN (encBytes (Utf8.encode a).data.toList) fun c => forceN (Utf8.encode a).size fun l => k (.str l c) none tab
      | _ => false
    | _ => false

def lenC (P : Program) (ty : TypeId) (v : CV) (h : Hp) (tab : Tab) (k : CV → Tab → Bool) : Bool := match v with
  | .str l _ => match P.underlying ty with | some .string => k (.int .i64 (.ofNat l)) tab | _ => false
  | .ssym _ l => match P.underlying ty with | some .string => k (.sym .i64 l) tab | _ => false
  | .sl0 => match P.underlying ty with | some (.slice _) => k (.int .i64 0) tab | _ => false
  | .slE => match P.underlying ty with | some (.slice _) => k (.int .i64 0) tab | _ => false
  | .sl _ _ l _ => match P.underlying ty with | some (.slice _) => k (.int .i64 (.ofNat l)) tab | _ => false
  | .map0 => match P.underlying ty with | some (.map ..) => k (.int .i64 0) tab | _ => false
  | .map b => match P.underlying ty with
    | some (.map ..) => getK h b fun cb => match cb with | .map es _ => forceN es.length fun l => k (.int .i64 (.ofNat l)) tab | _ => false
    | _ => false
  | _ => match P.underlying ty with
    | some (.array m _) => k (.int .i64 (.ofNat m)) tab
    | some (.pointer a) => match P.underlying a with | some (.array m _) => k (.int .i64 (.ofNat m)) tab | _ => false
    | _ => false

def lkB (ok : Bool) (z : CV) (tab : Tab) (k : KF) (r : Option CV) : Bool := match r with
  | some v => match ok with | true => k (.tup [v, .bool true]) none tab | false => k v none tab
  | none => match ok with | true => k (.tup [z, .bool false]) none tab | false => k z none tab
def floatC (P : Program) (G : Nat → Bool) (o : Op) (t : Tm) (h : Hp) (tab : Tab) (nb : Nat) (k : KF) : Bool := match o with
  | .move x => getO G x t fun v => k v none tab
  | .assign x => getO G x t fun v => k v none tab
  | .pick c a b => getO G c t fun v => asBool v fun c => match c with
    | true => getO G a t fun v => k v none tab
    | false => getO G b t fun v => k v none tab
  | .alloc e => match zeroOf P e with
    | some z => k (.ptr nb 0) (some (.cells false 0 z.length (ofList z))) tab
    | none => false
  | .box _ x => getO G x t fun v => forceN (cellsOfCV v).length fun l => k (.ptr nb 0) (some (.cells false 0 l (ofList (cellsOfCV v)))) tab
  | .build ty parts => match zeroOf P ty with
    | some z => match P.underlying ty with
      | some (.struct fields) => match fields.toList.all (fun f => (P.info? f.type).isSome) with
       | false => false
       | true => getOs G (parts.toList.map (·.2)) t fun vs =>
        match fillC (fun i => (fields[i]?).map fun f => (f.offset, P.cellsOf f.type)) ((parts.toList.map (·.1)).zip vs) z with
        | some cs => forceL cs fun cs => k (.agg cs) none tab
        | none => false
      | some (.array _ e) => szK P e fun n => getOs G (parts.toList.map (·.2)) t fun vs =>
        match fillC (fun i => some (i * n, n)) ((parts.toList.map (·.1)).zip vs) z with
        | some cs => forceL cs fun cs => k (.agg cs) none tab
        | none => false
      | _ => false
    | none => false
  | .buildSlice ty len parts => match elemOfSl P ty with
    | some e => match zeroOf P e with
      | some z => szK P e fun n => match Nat.ble (len * z.length) 65536 && Nat.beq z.length n with
        | true => getOs G (parts.toList.map (·.2)) t fun vs =>
          match fillC (fun i => some (i * n, n)) ((parts.toList.map (·.1)).zip vs) (repl len z) with
          | some cs => forceN (len * z.length) fun sz => k (.sl nb 0 len len) (some (.cells false 0 sz (ofList cs))) tab
          | none => false
        | false => false
      | none => false
    | none => false
  | .load ty x => getO G x t fun v => asPtr v fun b off => loadC P ty b off h fun v => k v none tab
  | .nilCheck x => getO G x t fun v => match v with
    | .ptr b o => k (.ptr b o) none tab
    | .fn (.func f) a c => k (.fn (.func f) a c) none tab
    | .yld b => k (.yld b) none tab
    | .ifc ty v => k (.ifc ty v) none tab
    | _ => false
  | .binOp op ty x y _ => getO G x t fun v => getO G y t fun w => binC P op ty (isC x) (isC y) v w h tab fun r tab => k r none tab
  | .unOp op _ x => getO G x t fun v => match op with
    | .not => asBool v fun b => match b with | true => k (.bool false) none tab | false => k (.bool true) none tab
    | .neg => match v with | .int kd a => wrapK kd (0 - a) fun r => k (.int kd r) none tab | _ => false
    | _ => false
  | .convert s d x => getO G x t fun v => convC P s d v tab nb k
  | .makeInterface ty x => getO G x t fun v => match isIfc P ty with | true => false | false => k (.ifc ty v) none tab
  | .makeFunc f first cap => match f with
    | .func f => getOs G first.toList t fun a => getOs G cap.toList t fun c => k (.fn (.func f) a c) none tab
    | _ => false
  | .makeMap _ r => match r with
    | none => k (.map nb) (some (.map [] 0)) tab
    | some _ => false
  | .makeSlice ty l c => match elemOfSl P ty with
    | some e => match zeroOf P e with
      | some z => getO G l t fun l => asNat l tab fun l tab => getO G c t fun c => asNat c tab fun c tab =>
        szK P e fun n => match Nat.ble l c && (Nat.ble (c * z.length) 65536 && (Nat.ble (c * P.bytesOf e) 1000000000 && (Nat.ble c 65536 && Nat.beq z.length n))) with
        | true => forceN (c * z.length) fun sz => k (.sl nb 0 l c) (some (.cells false 0 sz (ofList (repl c z)))) tab
        | false => false
      | none => false
    | none => false
  | .slice ty x lo hi mx => match mx with
    | some _ => false
    | none => getO G x t fun v => optO G lo t fun lo => optO G hi t fun hi => match v with
      | .str len c => match P.underlying ty with
        | some .string => sliceBd len len lo hi tab fun l h' tab => forceN (h' - l) fun m => forceN (c / 256 ^ (len - h') % 256 ^ m) fun c' => k (.str m c') none tab
        | _ => false
      | .sl b off len cap => match elemOfSl P ty with
        | some e => szK P e fun n => match Nat.ble len cap with
          | false => false
          | true => sliceBd len cap lo hi tab fun l h' tab => match Nat.blt l cap with
            | true => forceN (off + l * n) fun o' => forceN (h' - l) fun l' => forceN (cap - l) fun c' => k (.sl b o' l' c') none tab
            | false => k .slE none tab
        | none => false
      | .slE => match elemOfSl P ty with
        | some e => szK P e fun _ => sliceBd 0 0 lo hi tab fun _ _ tab => k .slE none tab
        | none => false
      | .sl0 => match elemOfSl P ty with
        | some e => szK P e fun _ => sliceBd 0 0 lo hi tab fun _ _ tab => k .sl0 none tab
        | none => false
      | _ => false
  | .fieldAddr s x f => match fieldOf P s f with
    | some fd => szK P fd.type fun n => match Nat.beq n 0 with
      | true => false
      | false => getO G x t fun v => asPtr v fun b off => forceN (off + fd.offset) fun o' => k (.ptr b o') none tab
    | none => false
  | .field s x f => match fieldOf P s f with
    | some fd => getO G x t fun v => match v with | .agg cs => partC P fd.type cs fd.offset fun r => k r none tab | _ => false
    | none => false
  | .indexAddr ty x i => getO G x t fun v => getO G i t fun w => asNat w tab fun i tab => match v with
    | .sl b off len _ => match elemOfSl P ty with
      | some e => match Nat.blt i len with
        | true => szK P e fun n => forceN (off + i * n) fun o' => k (.ptr b o') none tab
        | false => false
      | none => false
    | .ptr b off => match P.underlying ty with
      | some (.array len e) => match Nat.blt i len with
        | true => szK P e fun n => forceN (off + i * n) fun o' => k (.ptr b o') none tab
        | false => false
      | _ => false
    | _ => false
  | .index ty x i => getO G x t fun v => getO G i t fun w => asNat w tab fun i tab => match v with
    | .str len c => match P.underlying ty with
      | some .string => match Nat.blt i len with
        | true => forceN (c / 256 ^ (len - 1 - i) % 256) fun b => k (.int .u8 (.ofNat b)) none tab
        | false => false
      | _ => false
    | .agg cs => match P.underlying ty with
      | some (.array len e) => match Nat.blt i len with
        | true => szK P e fun n => partC P e cs (i * n) fun r => k r none tab
        | false => false
      | _ => false
    | _ => false
  | .lookup ty x i ok => match P.underlying ty with
    | some (.map kt e) => getO G x t fun v => getO G i t fun w => match keyOk P kt w with
      | false => false
      | true => match zeroVal P e with
        | some z => (match v with
          | .map0 => fun (k : Option CV → Bool) => k none
          | .map b => fun k => getK h b fun cb => match cb with | .map es _ => findM P kt h tab w es k | _ => false
          | _ => fun _ => false) fun r => lkB ok z tab k r
        | none => false
    | _ => false
  | .extract x i => getO G x t fun v => match v with
    | .tup vs => match vs[i]? with | some c => k c none tab | none => false
    | _ => false
  | .call c => match c.callee with
    | .builtin .len => match c.args.toList with
      | [x] => match c.argTypes[0]? with
        | some ty => getO G x t fun v => lenC P ty v h tab fun r tab => k r none tab
        | none => false
      | _ => false
    | .builtin .min => match c.args.toList with
      | [x, y] => getO G x t fun v => getO G y t fun w => match v with
        | .int kd a => match w with | .int _ b => (match ltI b a with | true => k (.int kd b) none tab | false => k (.int kd a) none tab) | _ => false
        | _ => false
      | _ => false
    | .builtin .max => match c.args.toList with
      | [x, y] => getO G x t fun v => getO G y t fun w => match v with
        | .int kd a => match w with | .int _ b => (match ltI a b with | true => k (.int kd b) none tab | false => k (.int kd a) none tab) | _ => false
        | _ => false
      | _ => false
    | _ => false
  | _ => false

/-- does the operation look at memory? -/
def looks : Op → Bool
  | .load .. | .lookup .. | .call _ => true
  | .binOp op .. => match op with | .eql | .neq => true | _ => false
  | _ => false
def isFloat : Op → Bool
  | .store .. | .mapUpdate .. | .insert .. | .mapEntry .. | .entryStore .. | .go _ | .defer _ | .panic _ | .send .. | .recv .. | .select .. | .next .. | .range .. | .ready _ | .waits _ | .entry _ => false
  | .call c => match c.callee with | .builtin .len | .builtin .min | .builtin .max => true | _ => false
  | _ => true

end
end Go.Ev
