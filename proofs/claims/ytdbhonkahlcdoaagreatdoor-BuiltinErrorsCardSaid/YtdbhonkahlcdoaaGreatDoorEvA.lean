/- A verified evaluator for the model's code (part EvA): own work, of no program. -/
import Derived.Calls
import Derived.Laws.IdiomCopy
import Derived.Laws.StructEq
namespace Go.Ev

/-! Tries -/
inductive Nd (α β : Type) where
  | nil
  | node (v : α) (a b c d : β)
inductive Tr (α : Type) where
  | mk (n : Nd α (Tr α))
def Tr.n {α : Type} : Tr α → Nd α (Tr α)
  | .mk n => n
def Tr.nil {α : Type} : Tr α := .mk .nil
def Tr.node {α : Type} (v : α) (a b c d : Tr α) : Tr α := .mk (.node v a b c d)

noncomputable def kid {β : Type} (a b c d : β) (r : Nat) : β :=
  Nat.rec (motive := fun _ => β) a (fun r _ => Nat.rec (motive := fun _ => β) b (fun r _ => Nat.rec (motive := fun _ => β) c (fun _ _ => d) r) r) r

noncomputable def getF {α : Type} (f : Nat) : Tr α → Nat → (α → Bool) → Bool :=
  Nat.rec (motive := fun _ => Tr α → Nat → (α → Bool) → Bool) (fun _ _ _ => false)
    (fun _ ih t n k => Nd.rec (motive := fun _ => (Tr α → Nat → (α → Bool) → Bool) → Nat → (α → Bool) → Bool) (fun _ _ _ => false)
      (fun v a b c d ih n k => Nat.rec (motive := fun _ => Bool) (k v) (fun p _ => ih (kid a b c d (Nat.mod p 4)) (Nat.div p 4) k) n) t.1 ih n k) f
noncomputable def getK {α : Type} (t : Tr α) (n : Nat) (k : α → Bool) : Bool := getF (Nat.succ n) t n k

noncomputable def setF {α : Type} (f : Nat) : Tr α → α → Nat → (Tr α → Bool) → Bool :=
  Nat.rec (motive := fun _ => Tr α → α → Nat → (Tr α → Bool) → Bool) (fun _ _ _ _ => false)
    (fun _ ih t x n k => Nd.rec (motive := fun _ => (Tr α → α → Nat → (Tr α → Bool) → Bool) → α → Nat → (Tr α → Bool) → Bool) (fun _ _ _ _ => false)
      (fun v a b c d ih x n k => Nat.rec (motive := fun _ => Bool) (k (.mk (.node x a b c d)))
        (fun p _ => kid (fun a b c d v x i ih k => ih a x i ((fun v b c d k a => k (.mk (.node v a b c d))) v b c d k)) (fun a b c d v x i ih k => ih b x i ((fun v a c d k b => k (.mk (.node v a b c d))) v a c d k))
          (fun a b c d v x i ih k => ih c x i ((fun v a b d k c => k (.mk (.node v a b c d))) v a b d k)) (fun a b c d v x i ih k => ih d x i ((fun v a b c k d => k (.mk (.node v a b c d))) v a b c k))
          (Nat.mod p 4) a b c d v x (Nat.div p 4) ih k) n) t.1 ih x n k) f
noncomputable def setK {α : Type} (x : α) (t : Tr α) (n : Nat) (k : Tr α → Bool) : Bool := setF (Nat.succ n) t x n k

noncomputable def insF {α : Type} (f : Nat) : Tr α → α → Nat → (Tr α → Bool) → Bool :=
  Nat.rec (motive := fun _ => Tr α → α → Nat → (Tr α → Bool) → Bool) (fun _ _ _ _ => false)
    (fun _ ih t x n k => Nd.rec (motive := fun _ => (Tr α → α → Nat → (Tr α → Bool) → Bool) → α → Nat → (Tr α → Bool) → Bool)
      (fun _ x n k => Nat.rec (motive := fun _ => Bool) (k (.mk (.node x (.mk .nil) (.mk .nil) (.mk .nil) (.mk .nil)))) (fun _ _ => false) n)
      (fun v a b c d ih x n k => Nat.rec (motive := fun _ => Bool) false
        (fun p _ => kid (fun a b c d v x i ih k => ih a x i ((fun v b c d k a => k (.mk (.node v a b c d))) v b c d k)) (fun a b c d v x i ih k => ih b x i ((fun v a c d k b => k (.mk (.node v a b c d))) v a c d k))
          (fun a b c d v x i ih k => ih c x i ((fun v a b d k c => k (.mk (.node v a b c d))) v a b d k)) (fun a b c d v x i ih k => ih d x i ((fun v a b c k d => k (.mk (.node v a b c d))) v a b c k))
          (Nat.mod p 4) a b c d v x (Nat.div p 4) ih k) n) t.1 ih x n k) f
noncomputable def insK {α : Type} (x : α) (t : Tr α) (n : Nat) (k : Tr α → Bool) : Bool := insF (Nat.succ n) t x n k

/-- the same, of all depths -/
noncomputable def getD? {α : Type} (f : Nat) : Tr α → Nat → Option α :=
  Nat.rec (motive := fun _ => Tr α → Nat → Option α) (fun _ _ => none)
    (fun _ ih t n => Nd.rec (motive := fun _ => Option α) none (fun v a b c d => Nat.rec (motive := fun _ => Option α) (some v) (fun p _ => ih (kid a b c d (p % 4)) (p / 4)) n) t.1) f
noncomputable def Tr.get? {α : Type} (t : Tr α) (n : Nat) : Option α := getD? (n + 1) t n

/-- every fourth element, from the r-th on -/
noncomputable def ev4 {α : Type} (l : List α) : Nat → List α :=
  List.rec (motive := fun _ => Nat → List α) (fun _ => []) (fun a _ ih r => Nat.rec (motive := fun _ => List α) (a :: ih 3) (fun r _ => ih r) r) l
noncomputable def ofListF {α : Type} (f : Nat) : List α → Tr α :=
  Nat.rec (motive := fun _ => List α → Tr α) (fun _ => .mk .nil)
    (fun _ ih l => List.rec (motive := fun _ => Tr α) (.mk .nil) (fun a l _ => .mk (.node a (ih (ev4 l 0)) (ih (ev4 l 1)) (ih (ev4 l 2)) (ih (ev4 l 3)))) l) f

noncomputable def lrec {α β : Type} (z : β) (f : α → List α → β → β) (l : List α) : β := List.rec (motive := fun _ => β) z f l

noncomputable def crec {β : Type} (skip : β) (region : Nat → Array Oper → Bool → β) (seq : β → β → β) (cond : Operand → β → β → β) (block : Nat → β → β) (loop : Code → β → β)
    (rangeFunc : Operand → Array Tmp → Code → Code → β) (exit : Nat → β) (label : β) (ret : β) (other : β) (c : Code) : β :=
  Code.rec (motive := fun _ => β) skip region (fun _ _ a b => seq a b) (fun c _ _ a b => cond c a b) (fun id _ a => block id a) (fun c a => loop c a)
    (fun f ps a b _ _ => rangeFunc f ps a b) exit (fun _ _ => other) (fun _ => label) (fun _ => other) ret (fun _ => other) c

theorem kid_cases {β : Type} {a b c d : β} {r : Nat} (h : r < 4) : (r = 0 ∧ kid a b c d r = a) ∨ (r = 1 ∧ kid a b c d r = b) ∨ (r = 2 ∧ kid a b c d r = c) ∨ (r = 3 ∧ kid a b c d r = d) := by
  rcases (by omega : r = 0 ∨ r = 1 ∨ r = 2 ∨ r = 3) with e | e | e | e <;> subst e
  · exact .inl ⟨rfl, rfl⟩
  · exact .inr (.inl ⟨rfl, rfl⟩)
  · exact .inr (.inr (.inl ⟨rfl, rfl⟩))
  · exact .inr (.inr (.inr ⟨rfl, rfl⟩))
theorem getF_eq {α : Type} (f : Nat) : ∀ (t : Tr α) (n : Nat) (k : α → Bool), getF f t n k = match getD? f t n with | some v => k v | none => false := by
  induction f with
  | zero => intros; rfl
  | succ f ih =>
    intro t n k
    obtain ⟨nd⟩ := t
    cases nd with
    | nil => rfl
    | node v a b c d =>
      cases n with
      | zero => rfl
      | succ p => exact ih (kid a b c d (p % 4)) (p / 4) k
theorem getK_eq {α : Type} (t : Tr α) : ∀ (n : Nat) (k : α → Bool), getK t n k = match t.get? n with | some v => k v | none => false := fun n => getF_eq (n + 1) t n


noncomputable section
/-! Values and blocks of the canonical state -/
inductive CV where
  | bool (b : Bool)
  | int (k : IntKind) (n : Int)
  | str (len code : Nat)
  | ptr0
  | ptr (b off : Nat)
  | sl0
  | sl (b off len cap : Nat)
  | slE
  | map0
  | map (b : Nat)
  | fn (f : Fn) (first captured : List CV)
  | yld (b : Nat)
  | fn0
  | ifc (t : Nat) (v : CV)
  | ifc0
  | agg (cs : List CV)
  | tup (vs : List CV)
  | sym (k : IntKind) (s : Nat)
  | ssym (s l : Nat)
  | symr (k : IntKind) (s c lo cnt : Nat)
  | lin (k : IntKind) (c : Int) (ts : List (Int × Nat))
  | lstr (bs : List (Int × List (Int × Nat)))
  deriving Inhabited

inductive CX where
  | normal
  | exit (id : Nat)
  | ret

inductive CB where
  | none
  | cells (te : Nat) (lo : Bool) (es sz : Nat) (cs : Tr CV)
  | map (es : List (CV × CV × Nat)) (clock : Nat)
  | loop (st : LoopState) (pending : Option Code) (fn : FuncId) (tm : Tr CV) (params : Array Tmp) (assign body : Code) (dfb : Nat)
  | dfd (calls : Bool)

abbrev Tm := Tr CV
abbrev Hp := Tr CB
/-- linear terms: factors and symbols -/
abbrev Ts := List (Int × Nat)
abbrev Ivs := List (Int × Int)
/-- what is known: where each symbol lies; which forms are not zero -/
structure Tab where
  iv : Ivs
  ne : List (Int × Ts)

structure MX (H : Type) where
  h : H
  n : Nat
  tab : Tab
abbrev M := MX Hp

inductive DF where
  | call (f : Fn) (args captured : List CV)
  | coll (b : Nat)

def undefC : CV := .tup []

/-! Lists and tries -/
def ofList {α : Type} (l : List α) : Tr α := ofListF l.length l
def blank (n : Nat) : Tm := ofList (List.replicate n undefC)

/-! Numbers, forced -/
def forceN (n : Nat) (k : Nat → Bool) : Bool := Nat.rec (motive := fun _ => Bool) false (fun p _ => k p) (Nat.succ n)
def forceI (n : Int) (k : Int → Bool) : Bool := match n with
  | .ofNat m => forceN m fun m => k (.ofNat m)
  | .negSucc m => forceN m fun m => k (.negSucc m)
def ifb (b : Bool) (x y : Bool) : Bool := match b with | true => x | false => y
def kB (b : Bool) (k : CV → Bool) : Bool := match b with | true => k (.bool true) | false => k (.bool false)
def ltI : Int → Int → Bool
  | .ofNat a, .ofNat b => Nat.blt a b
  | .ofNat _, .negSucc _ => false
  | .negSucc _, .ofNat _ => true
  | .negSucc a, .negSucc b => Nat.blt b a
def eqI : Int → Int → Bool
  | .ofNat a, .ofNat b => Nat.beq a b
  | .negSucc a, .negSucc b => Nat.beq a b
  | _, _ => false
def leI (a b : Int) : Bool := match ltI b a with | true => false | false => true

/-! Strings -/
def encBytes (l : List UInt8) : Nat := l.foldl (fun a b => a * 256 + b.toNat) 0
def decBytes : Nat → Nat → List UInt8
  | 0, _ => []
  | n + 1, c => UInt8.ofNat (c / 256 ^ n % 256) :: decBytes n c

/-! Constants -/
def ofValue : Value → Option CV
  | .bool b => some (.bool b)
  | .int k n => some (.int k n)
  | .string s => some (.str s.size (encBytes s.data.toList))
  | .pointer none => some .ptr0
  | .slice none 0 0 => some .sl0
  | .map none => some .map0
  | .nilFunc => some .fn0
  | .nilIface => some .ifc0
  | .tuple a => match a.toList with | [] => some (.tup []) | _ => none
  | _ => none
def ofValues : List Value → Option (List CV)
  | [] => some []
  | v :: l => match ofValue v with
    | none => none
    | some c => match ofValues l with | none => none | some cs => some (c :: cs)

/-! Operands -/
def getO (G : Nat → Bool) (x : Operand) (t : Tm) (k : CV → Bool) : Bool := match x with
  | .tmp i => getK t i k
  | .const v => match ofValue v with | some c => k c | none => false
  | .global g => match G g with | true => k (.ptr g 0) | false => false
  | .func f => k (.fn (.func f) [] [])
def getOs (G : Nat → Bool) (xs : List Operand) (t : Tm) : (List CV → Bool) → Bool :=
  lrec (fun k => k []) (fun x _ ih k => getO G x t fun c => ih fun cs => k (c :: cs)) xs

/-! Types -/
def aggT (P : Program) (t : TypeId) : Option Bool := match P.underlying t with | some (.struct _) => some true | some (.array _ _) => some true | some _ => some false | none => none
def szK (P : Program) (t : TypeId) (k : Nat → Bool) : Bool := match P.info? t with | some i => k i.size | none => false
def isIfc (P : Program) (t : TypeId) : Bool := match P.underlying t with | some (.interface _) | none => true | _ => false
def zeroOf (P : Program) (t : TypeId) : Option (List CV) := match P.info? t with
  | some i => match i.zero with | some v => ofValues v.cells.toList | none => none
  | none => none
def zeroVal (P : Program) (t : TypeId) : Option CV := match P.info? t with
  | some i => match i.zero with
    | some (.agg cs) => match ofValues cs.toList with | some z => some (.agg z) | none => none
    | some v => ofValue v
    | none => none
  | none => none
def elemOfSl (P : Program) (t : TypeId) : Option TypeId := match P.underlying t with | some (.slice e) => some e | _ => none
def fieldOf (P : Program) (t : TypeId) (f : Nat) : Option Field := match P.underlying t with | some (.struct fs) => fs[f]? | _ => none
/-- a struct of plain fields, one cell each, in their order -/
inductive PK where
  | b | i | s
def pkOf (P : Program) (t : TypeId) : Option PK := match P.underlying t with | some .bool => some .b | some (.int _) => some .i | some .string => some .s | _ => none
def plainFrom (P : Program) : Nat → List Field → Option (List PK)
  | _, [] => some []
  | i, f :: fs => match f.name != "_" && Nat.beq f.offset i with
    | true => match pkOf P f.type with
      | some p => match plainFrom P (i + 1) fs with | some ps => some (p :: ps) | none => none
      | none => none
    | false => none
def plainStruct (P : Program) (t : TypeId) : Option (List PK) := match P.underlying t with
  | some (.struct fs) => match !P.stoodInHeld t && !P.eqGuardType P.depth t with | true => plainFrom P 0 fs.toList | false => none
  | _ => none
def fitP (p : PK) (c : CV) : Bool := match p with
  | .b => match c with | .bool _ => true | _ => false
  | .i => match c with | .int .. => true | .sym .. => true | .lin .. => true | _ => false
  | .s => match c with | .str .. => true | .ssym .. => true | .lstr .. => true | _ => false

def cellsOfCV : CV → List CV
  | .agg cs => cs
  | c => [c]

/-! Memory -/
def loadN (cs : Tr CV) (n : Nat) : Nat → (List CV → Bool) → Bool :=
  Nat.rec (motive := fun _ => Nat → (List CV → Bool) → Bool) (fun _ k => k []) (fun _ ih off k => getK cs off fun c => ih (Nat.succ off) fun l => k (c :: l)) n
def oneK (v : CV) (k : Bool) : Bool := match v with | .agg _ => false | .tup _ => false | _ => k
def storeN (l : List CV) : Nat → Tr CV → (Tr CV → Bool) → Bool :=
  lrec (fun _ cs k => k cs) (fun v _ ih off cs k => oneK v (setK v cs off fun cs' => ih (Nat.succ off) cs' k)) l
/-- cells laid behind the last one -/
def pushN (l : List CV) : Nat → Tr CV → (Tr CV → Bool) → Bool :=
  lrec (fun _ cs k => k cs) (fun v _ ih off cs k => oneK v (insK v cs off fun cs' => ih (Nat.succ off) cs' k)) l
def withCells (h : Hp) (b : Nat) (k : Nat → Bool → Nat → Nat → Tr CV → Bool) : Bool :=
  getK h b fun cb => match cb with
    | .cells te lo es sz cs => k te lo es sz cs
    | _ => false
def asPtr (v : CV) (k : Nat → Nat → Bool) : Bool := match v with | .ptr b o => k b o | _ => false
def asBool (v : CV) (k : Bool → Bool) : Bool := match v with | .bool b => k b | _ => false
/-- f at 0 .. n - 1 -/
def allB (n : Nat) (f : Nat → Bool) : Bool := Nat.rec (motive := fun _ => Bool) true (fun p ih => Nat.rec (motive := fun _ => Bool) (f p) (fun _ _ => match f p with | true => ih | false => false) p) n
def setIv : Ivs → Nat → Int × Int → Ivs
  | [], _, _ => []
  | _ :: l, 0, x => x :: l
  | a :: l, s + 1, x => a :: setIv l s x
def setTab (tab : Tab) (s : Nat) (x : Int × Int) : Tab := ⟨setIv tab.iv s x, tab.ne⟩
/-- a number that is needed itself: a symbol is split -/
def asNat (v : CV) (tab : Tab) (k : Nat → Tab → Bool) : Bool := match v with
  | .int _ n => match n with | .ofNat m => k m tab | .negSucc _ => false
  | .sym _ s => match tab.iv[s]? with
    | some (.ofNat lo, .ofNat hi) => match Nat.ble (hi - lo) 300 with
      | true => allB (hi + 1 - lo) fun i => forceN (lo + i) fun c => k c (setTab tab s (.ofNat c, .ofNat c))
      | false => false
    | _ => false
  | _ => false
def loadC (P : Program) (t : TypeId) (b off : Nat) (h : Hp) (k : CV → Bool) : Bool :=
  withCells h b fun _ _ _ _ cs => match aggT P t with
    | some true => szK P t fun n => loadN cs n off fun l => k (.agg l)
    | some false => getK cs off k
    | none => false
def storeC (P : Program) (t : TypeId) (b off : Nat) (v : CV) (h : Hp) (k : Hp → Bool) : Bool :=
  withCells h b fun te lo es sz cs => szK P t fun n => match Nat.beq (cellsOfCV v).length n with
    | true => storeN (cellsOfCV v) off cs fun cs' => setK (.cells te lo es sz cs') h b k
    | false => false

/-! Integers -/
def rangeOf (kd : IntKind) : Int × Int := (kd.min, kd.max)
def wrapK (kd : IntKind) (x : Int) (k : Int → Bool) : Bool :=
  match leI kd.min x && leI x kd.max with
  | true => forceI x k
  | false => forceI (kd.wrap x) k
def intOp (op : BinOp) (kd : IntKind) (a b : Int) (k : CV → Bool) : Bool :=
  match op with
  | .add => wrapK kd (a + b) fun r => k (.int kd r)
  | .sub => wrapK kd (a - b) fun r => k (.int kd r)
  | .mul => wrapK kd (a * b) fun r => k (.int kd r)
  | .quo => match eqI b 0 with | true => false | false => wrapK kd (a.tdiv b) fun r => k (.int kd r)
  | .rem => match eqI b 0 with | true => false | false => forceI (a.tmod b) fun r => k (.int kd r)
  | .and => forceI (kd.wrap (BitVec.ofInt kd.bits a &&& BitVec.ofInt kd.bits b).toNat) fun r => k (.int kd r)
  | .or => forceI (kd.wrap (BitVec.ofInt kd.bits a ||| BitVec.ofInt kd.bits b).toNat) fun r => k (.int kd r)
  | .eql => kB (eqI a b) k
  | .neq => kB (!eqI a b) k
  | .lss => kB (ltI a b) k
  | .leq => kB (leI a b) k
  | .gtr => kB (ltI b a) k
  | .geq => kB (leI b a) k
  | .shl => match ltI b 0 with | true => false | false => wrapK kd (a * 2 ^ (min b.toNat kd.bits)) fun r => k (.int kd r)
  | .shr => match ltI b 0 with | true => false | false => forceI (a.fdiv (2 ^ (min b.toNat kd.bits))) fun r => k (.int kd r)
  | _ => false

/-- a symbol against a number -/
def symLt (s : Nat) (c : Int) (tab : Tab) (k : Bool → Tab → Bool) : Bool := match tab.iv[s]? with
  | some (lo, hi) => match ltI hi c with
    | true => k true tab
    | false => match ltI lo c with
      | false => k false tab
      | true => k true (setTab tab s (lo, c - 1)) && k false (setTab tab s (c, hi))
  | none => false
def symEq (s : Nat) (c : Int) (tab : Tab) (k : Bool → Tab → Bool) : Bool := match tab.iv[s]? with
  | some (lo, hi) => match ltI c lo || ltI hi c with
    | true => k false tab
    | false => k true (setTab tab s (c, c)) && ((match ltI lo c with | true => k false (setTab tab s (lo, c - 1)) | false => true) &&
        (match ltI c hi with | true => k false (setTab tab s (c + 1, hi)) | false => true))
  | none => false
def symCmp (op : BinOp) (s : Nat) (c : Int) (tab : Tab) (k : Bool → Tab → Bool) : Bool := match op with
  | .eql => symEq s c tab k
  | .neq => symEq s c tab fun b => k (!b)
  | .lss => symLt s c tab k
  | .geq => symLt s c tab fun b => k (!b)
  | .leq => symLt s (c + 1) tab k
  | .gtr => symLt s (c + 1) tab fun b => k (!b)
  | _ => false
def isCmp : BinOp → Bool
  | .eql | .neq | .lss | .leq | .gtr | .geq => true
  | _ => false
def flip : BinOp → BinOp
  | .lss => .gtr | .gtr => .lss | .leq => .geq | .geq => .leq | op => op
/-- the remainder of a symbol: every one -/
def symRem (kd : IntKind) (s : Nat) (c : Int) (tab : Tab) (k : CV → Tab → Bool) : Bool := match tab.iv[s]?, c with
  | some (.ofNat _, _), .ofNat (m + 1) => match Nat.ble m 300 with
    | true => allB (m + 1) fun r => forceN r fun r => k (.int kd (.ofNat r)) tab
    | false => false
  | _, _ => false

/-! Linear forms -/
def insT (a : Int) (s : Nat) : Ts → Ts
  | [] => [(a, s)]
  | (b, t) :: l => match Nat.beq s t with
    | true => match eqI (a + b) 0 with | true => l | false => (a + b, t) :: l
    | false => match Nat.ble s t with
      | true => (a, s) :: (b, t) :: l
      | false => (b, t) :: insT a s l
def addTs : Ts → Ts → Ts
  | [], ys => ys
  | (a, s) :: xs, ys => insT a s (addTs xs ys)
def scaleTs (c : Int) : Ts → Ts
  | [] => []
  | (a, s) :: l => (c * a, s) :: scaleTs c l
def mulTs (c : Int) (ts : Ts) : Ts := match eqI c 0 with | true => [] | false => scaleTs c ts
def divTs (c : Int) : Ts → Ts
  | [] => []
  | (a, s) :: l => (a / c, s) :: divTs c l
def subTs (xs ys : Ts) : Ts := addTs xs (scaleTs (-1) ys)
/-- bounds -/
def bndT (iv : Ivs) : Ts → Option (Int × Int)
  | [] => some (0, 0)
  | (a, s) :: l => match iv[s]? with
    | some (lo, hi) => match bndT iv l with
      | some (x, y) => match leI 0 a with
        | true => some (a * lo + x, a * hi + y)
        | false => some (a * hi + x, a * lo + y)
      | none => none
    | none => none
def bndL (iv : Ivs) (c : Int) (ts : Ts) : Option (Int × Int) := match bndT iv ts with
  | some (lo, hi) => some (c + lo, c + hi)
  | none => none
def dvdI (c a : Int) : Bool := eqI (a % c) 0
def quoRem (iv : Ivs) (c : Int) (ts : Ts) (d : Int) : Option ((Int × Ts) × (Int × Ts)) := match ltI 0 d with
  | false => none
  | true => match bndL iv c ts with
    | none => none
    | some (lo, _) => match bndL iv (c % d) (ts.filter fun x => !dvdI d x.1) with
      | none => none
      | some (lo', hi') => match leI 0 lo && (leI 0 lo' && ltI hi' d) with
        | true => some ((c / d, divTs d (ts.filter fun x => dvdI d x.1)), (c % d, ts.filter fun x => !dvdI d x.1))
        | false => none
def eqTs : Ts → Ts → Bool
  | [], [] => true
  | (a, s) :: l, (b, t) :: l' => Nat.beq s t && (eqI a b && eqTs l l')
  | _, _ => false
def isNe (c : Int) (ts : Ts) : List (Int × Ts) → Bool
  | [] => false
  | (c', ts') :: l => match (eqI c c' && eqTs ts ts') || (eqI (-c) c' && eqTs (scaleTs (-1) ts) ts') with | true => true | false => isNe c ts l
def forceTs (ts : Ts) (k : Ts → Bool) : Bool := lrec (β := (Ts → Bool) → Bool) (fun k => k []) (fun x _ ih k => forceI x.1 fun a => forceN x.2 fun s => ih fun l => k ((a, s) :: l)) ts k
def linK (kd : IntKind) (c : Int) (ts : Ts) (k : CV → Bool) : Bool := forceI c fun c => forceTs ts fun ts => match ts with
  | [] => k (.int kd c)
  | t :: ts => k (.lin kd c (t :: ts))
def linRes (kd : IntKind) (c : Int) (ts : Ts) (tab : Tab) (k : CV → Bool) : Bool := match bndL tab.iv c ts with
  | some (lo, hi) => match leI kd.min lo && leI hi kd.max with | true => linK kd c ts k | false => false
  | none => false
/-- symbols that have one value only -/
def pinL (iv : Ivs) : Int → Ts → Int × Ts
  | c, [] => (c, [])
  | c, (a, s) :: l => match iv[s]? with
    | some (lo, hi) => match eqI lo hi with
      | true => pinL iv (c + a * lo) l
      | false => match pinL iv c l with | (c', ts') => (c', (a, s) :: ts')
    | none => match pinL iv c l with | (c', ts') => (c', (a, s) :: ts')
/-- is the form below zero? -/
def linLt0 (c : Int) (ts : Ts) (tab : Tab) (k : Bool → Tab → Bool) : Bool := match bndL tab.iv c ts with
  | none => false
  | some (lo, hi) => match ltI hi 0 with
    | true => k true tab
    | false => match leI 0 lo with
      | true => k false tab
      | false => match ts with
        | [(a, s)] => match tab.iv[s]? with
          | some (l, h) => match ltI 0 a with
            | true => forceI (-(c / a)) fun q => k true (setTab tab s (l, q - 1)) && k false (setTab tab s (q, h))
            | false => match ltI a 0 with
              | true => forceI (c / (-a)) fun q => k true (setTab tab s (q + 1, h)) && k false (setTab tab s (l, q))
              | false => false
          | none => false
        | _ => k true tab && k false tab
def linLt (c : Int) (ts : Ts) (tab : Tab) (k : Bool → Tab → Bool) : Bool := linLt0 (pinL tab.iv c ts).1 (pinL tab.iv c ts).2 tab k
/-- is a form zero that is known not to be? -/
def neBad (tab : Tab) : Bool := tab.ne.any fun x => match bndL tab.iv x.1 x.2 with | some (lo, hi) => eqI lo 0 && eqI hi 0 | none => false
/-- a symbol that is not q -/
def neSplit (q l h : Int) (s : Nat) (tab : Tab) (k : Tab → Bool) : Bool := match eqI l q with
  | true => match ltI q h with | true => k (setTab tab s (q + 1, h)) | false => true
  | false => match eqI q h with
    | true => k (setTab tab s (l, q - 1))
    | false => forceI (-q) fun c => forceN s fun s => k ⟨tab.iv, (c, [(1, s)]) :: tab.ne⟩
/-- is the form zero? -/
def linEq0 (c : Int) (ts : Ts) (tab : Tab) (k : Bool → Tab → Bool) : Bool := match ts with
  | [] => k (eqI c 0) tab
  | t :: r => match bndL tab.iv c (t :: r) with
    | none => false
    | some (lo, hi) => match ltI hi 0 || (ltI 0 lo || isNe c (t :: r) tab.ne) with
      | true => k false tab
      | false => match r with
        | [] => match eqI t.1 0 with
          | true => false
          | false => match dvdI t.1 c with
            | false => k false tab
            | true => match tab.iv[t.2]? with
              | some (l, h) => forceI (-(c / t.1)) fun q => match leI l q && leI q h with
                | true => match isNe (-q) [(1, t.2)] tab.ne with
                  | true => k false tab
                  | false => (match neBad (setTab tab t.2 (q, q)) with | true => true | false => k true (setTab tab t.2 (q, q))) && neSplit q l h t.2 tab (k false)
                | false => k false tab
              | none => false
        | _ :: _ => k true tab && forceI c fun c => forceTs (t :: r) fun ts => k false ⟨tab.iv, (c, ts) :: tab.ne⟩
def linEq (c : Int) (ts : Ts) (tab : Tab) (k : Bool → Tab → Bool) : Bool := linEq0 (pinL tab.iv c ts).1 (pinL tab.iv c ts).2 tab k
def linOf (v : CV) : Option (IntKind × Int × Ts) := match v with
  | .int kd n => some (kd, n, [])
  | .sym kd s => some (kd, 0, [(1, s)])
  | .lin kd c ts => some (kd, c, ts)
  | _ => none
/-- how often one form goes into another -/
def headQ (ts ts' : Ts) : Int := match ts with | [] => 0 | t :: _ => match ts' with | [] => 0 | t' :: _ => t.1 / t'.1
def timesOf (iv : Ivs) (c : Int) (ts : Ts) (c' : Int) (ts' : Ts) : Option Int := match bndL iv c' ts' with
  | none => none
  | some (lo, _) => match ltI 0 lo && (eqI c (headQ ts ts' * c') && eqTs ts (mulTs (headQ ts ts') ts')) with
    | true => some (headQ ts ts')
    | false => none
def linBin (op : BinOp) (kd : IntKind) (c : Int) (ts : Ts) (c' : Int) (ts' : Ts) (tab : Tab) (k : CV → Tab → Bool) : Bool := match op with
  | .add => linRes kd (c + c') (addTs ts ts') tab fun v => k v tab
  | .sub => linRes kd (c - c') (subTs ts ts') tab fun v => k v tab
  | .mul => match ts with
    | [] => linRes kd (c * c') (mulTs c ts') tab fun v => k v tab
    | _ => match ts' with
      | [] => linRes kd (c' * c) (mulTs c' ts) tab fun v => k v tab
      | _ => false
  | .quo => match ts' with
    | [] => match quoRem tab.iv c ts c' with
      | some (q, _) => linRes kd q.1 q.2 tab fun v => k v tab
      | none => false
    | t :: r => match timesOf tab.iv c ts c' (t :: r) with
      | some q => linRes kd q [] tab fun v => k v tab
      | none => false
  | .rem => match ts' with
    | [] => match quoRem tab.iv c ts c' with
      | some (_, r) => linRes kd r.1 r.2 tab fun v => k v tab
      | none => false
    | t :: r => match timesOf tab.iv c ts c' (t :: r) with
      | some _ => linRes kd 0 [] tab fun v => k v tab
      | none => false
  | .eql => linEq (c - c') (subTs ts ts') tab fun b tab => k (.bool b) tab
  | .neq => linEq (c - c') (subTs ts ts') tab fun b tab => k (.bool (!b)) tab
  | .lss => linLt (c - c') (subTs ts ts') tab fun b tab => k (.bool b) tab
  | .geq => linLt (c - c') (subTs ts ts') tab fun b tab => k (.bool (!b)) tab
  | .gtr => linLt (c' - c) (subTs ts' ts) tab fun b tab => k (.bool b) tab
  | .leq => linLt (c' - c) (subTs ts' ts) tab fun b tab => k (.bool (!b)) tab
  | _ => false
def linBinV (op : BinOp) (x y : CV) (tab : Tab) (k : CV → Tab → Bool) : Bool := match linOf x with
  | none => false
  | some (kd, c, ts) => match linOf y with
    | none => false
    | some (kd', c', ts') => match decide (kd = kd') with | true => linBin op kd (pinL tab.iv c ts).1 (pinL tab.iv c ts).2 (pinL tab.iv c' ts').1 (pinL tab.iv c' ts').2 tab k | false => false
def linEqV (x y : CV) (tab : Tab) (k : Bool → Tab → Bool) : Bool := match linOf x with
  | none => false
  | some (kd, c, ts) => match linOf y with
    | none => false
    | some (kd', c', ts') => match decide (kd = kd') with | true => linEq (c - c') (subTs ts ts') tab k | false => false
def selCV (b : Bool) (x y : CV) : CV := match b with | true => y | false => x
/-- the smaller, or the greater, of two forms -/
def linMM (mx : Bool) (x y : CV) (tab : Tab) (k : CV → Tab → Bool) : Bool := match linOf x with
  | none => false
  | some (kd, c, ts) => match linOf y with
    | none => false
    | some (kd', c', ts') => match decide (kd = kd') with
      | true => linLt (c - c') (subTs ts ts') tab fun b tab => k (selCV (b == mx) x y) tab
      | false => false
def linNeg (v : CV) (tab : Tab) (k : CV → Bool) : Bool := match linOf v with
  | some (kd, c, ts) => linRes kd (-c) (scaleTs (-1) ts) tab k
  | none => false
/-- the bytes of a string, as forms -/
def lsOf (v : CV) : Option (List (Int × Ts)) := match v with
  | .str l c => some ((decBytes l c).map fun b => (.ofNat b.toNat, []))
  | .lstr bs => some bs
  | _ => none
def constBs : List (Int × Ts) → Option (List UInt8)
  | [] => some []
  | (c, ts) :: l => match ts with
    | [] => match c with
      | .ofNat n => match Nat.blt n 256 with
        | true => match constBs l with | some bs => some (UInt8.ofNat n :: bs) | none => none
        | false => none
      | .negSucc _ => none
    | _ => none
def forceBs (bs : List (Int × Ts)) (k : List (Int × Ts) → Bool) : Bool :=
  lrec (β := (List (Int × Ts) → Bool) → Bool) (fun k => k []) (fun x _ ih k => forceI x.1 fun c => forceTs x.2 fun ts => ih fun l => k ((c, ts) :: l)) bs k
/-- a string of such bytes -/
def lstrK (bs : List (Int × Ts)) (k : CV → Bool) : Bool := match constBs bs with
  | some l => forceN l.length fun n => forceN (encBytes l) fun c => k (.str n c)
  | none => forceBs bs fun bs => k (.lstr bs)
def lsEq : List (Int × Ts) → List (Int × Ts) → Tab → (Bool → Tab → Bool) → Bool
  | [], [], tab, k => k true tab
  | (c, ts) :: l, (c', ts') :: l', tab, k => linEq (c - c') (subTs ts ts') tab fun b tab => match b with | true => lsEq l l' tab k | false => k false tab
  | _, _, tab, k => k false tab
def lsEqV (x y : CV) (tab : Tab) (k : Bool → Tab → Bool) : Bool := match lsOf x with
  | none => false
  | some xs => match lsOf y with
    | none => false
    | some ys => lsEq xs ys tab k
def lsBin (op : BinOp) (x y : CV) (tab : Tab) (k : CV → Tab → Bool) : Bool := match op with
  | .add => match lsOf x with
    | none => false
    | some xs => match lsOf y with
      | none => false
      | some ys => match Nat.ble (xs.length + ys.length) 1000000 with | true => lstrK (xs ++ ys) fun v => k v tab | false => false
  | .eql => lsEqV x y tab fun b tab => k (.bool b) tab
  | .neq => lsEqV x y tab fun b tab => k (.bool (!b)) tab
  | _ => false
/-- bytes that follow one another -/
def runB : List UInt8 → Nat → Bool
  | [], _ => true
  | b :: l, n => Nat.beq b.toNat n && runB l (n + 1)
/-- a byte, as a cell has it -/
def byteC (c : Int) (ts : Ts) : CV := match ts with | [] => .int .u8 c | _ => .lin .u8 c ts
/-- the piece of a string of following bytes at a form, m bytes long -/
def linPiece (l c : Nat) (lc : Int) (ts : Ts) (m : Nat) (tab : Tab) (k : List (Int × Ts) → Bool) : Bool := match bndL tab.iv lc ts with
  | some (.ofNat lo, .ofNat hi) => match Nat.ble lo hi && Nat.ble (hi + m) l with
    | true => match ((decBytes l c).drop lo).take (hi + m - lo) with
      | [] => k []
      | b :: r => match runB (b :: r) b.toNat with
        | true => k ((List.range m).map fun j => (.ofNat b.toNat - .ofNat lo + lc + .ofNat j, ts))
        | false => false
    | false => false
  | _ => false

def strOp (op : BinOp) (l1 c1 l2 c2 : Nat) (k : CV → Bool) : Bool :=
  match op with
  | .add => forceN (l1 + l2) fun l => match Nat.ble l 1000000 with | true => forceN (c1 * 256 ^ l2 + c2) fun c => k (.str l c) | false => false
  | .eql => kB (Nat.beq l1 l2 && Nat.beq c1 c2) k
  | .neq => kB (!(Nat.beq l1 l2 && Nat.beq c1 c2)) k
  | .lss => kB (Op.bytesLess (decBytes l1 c1) (decBytes l2 c2)) k
  | .geq => kB (!Op.bytesLess (decBytes l1 c1) (decBytes l2 c2)) k
  | .leq => kB (Op.bytesLess (decBytes l1 c1) (decBytes l2 c2) || (Nat.beq l1 l2 && Nat.beq c1 c2)) k
  | .gtr => kB (!(Op.bytesLess (decBytes l1 c1) (decBytes l2 c2) || (Nat.beq l1 l2 && Nat.beq c1 c2))) k
  | _ => false

/-- equality of two plain values (one cell each) -/
def eqP (x y : CV) (tab : Tab) (k : Bool → Tab → Bool) : Bool := match x with
  | .bool a => match y with | .bool b => k (a == b) tab | _ => false
  | .int kd a => match y with
    | .int kd' b => match decide (kd = kd') with | true => k (eqI a b) tab | false => false
    | .sym kd' s => match decide (kd = kd') with | true => symEq s a tab k | false => false
    | .lin kd' c' ts' => linEqV (.int kd a) (.lin kd' c' ts') tab k
    | _ => false
  | .sym kd s => match y with
    | .int kd' b => match decide (kd = kd') with | true => symEq s b tab k | false => false
    | .sym kd' s' => match decide (kd = kd') && Nat.beq s s' with | true => k true tab | false => linEqV (.sym kd s) (.sym kd' s') tab k
    | .lin kd' c' ts' => linEqV (.sym kd s) (.lin kd' c' ts') tab k
    | _ => false
  | .lin kd c ts => linEqV (.lin kd c ts) y tab k
  | .str l1 c1 => match y with
    | .str l2 c2 => k (Nat.beq l1 l2 && Nat.beq c1 c2) tab
    | .lstr bs => lsEqV (.str l1 c1) (.lstr bs) tab k
    | _ => false
  | .lstr bs => lsEqV (.lstr bs) y tab k
  | .ssym s _ => match y with | .ssym s' _ => (match Nat.beq s s' with | true => k true tab | false => false) | _ => false
  | _ => false
/-- equality of rows of plain cells -/
def eqL (ps : List PK) : List CV → List CV → Tab → (Bool → Tab → Bool) → Bool :=
  lrec (fun _ _ tab k => k true tab)
    (fun p _ ih xs ys tab k => match xs with
      | [] => false
      | x :: xs => match ys with
        | [] => false
        | y :: ys => match fitP p x with
          | true => eqP x y tab fun b tab => match b with | true => ih xs ys tab k | false => k false tab
          | false => false) ps
def liveB (h : Hp) (b : Nat) (k : Bool) : Bool := getK h b fun cb => match cb with
  | .cells _ lo es _ _ => match lo with
    | true => match Nat.beq es 1 with | true => false | false => k
    | false => k
  | _ => false
/-- the type that a comparison goes by; k gets the answer -/
def eqC (P : Program) (ty : TypeId) (cx cy : Bool) (x y : CV) (h : Hp) (tab : Tab) (k : Bool → Tab → Bool) : Bool := match x with
  | .agg xs => match y with
    | .agg ys => match plainStruct P ty with
      | some ps => eqL ps xs ys tab k
      | none => false
    | _ => false
  | .ptr0 => match P.underlying ty with
    | some (.pointer _) => match y with | .ptr0 => k true tab | .ptr _ _ => k false tab | _ => false
    | _ => false
  | .ptr b o => match P.underlying ty with
    | some (.pointer el) => match y with
      | .ptr0 => k false tab
      | .ptr b' o' => szK P el fun n => match Nat.beq n 0 with
        | true => false
        | false => match Nat.beq b b' with
          | true => k (Nat.beq o o') tab
          | false => liveB h b (liveB h b' (k false tab))
      | _ => false
    | _ => false
  | .sl0 => match P.underlying ty with
    | some (.slice _) => match y with | .sl0 => k true tab | .sl .. => k false tab | .slE => k false tab | _ => false
    | _ => false
  | .slE => match P.underlying ty with
    | some (.slice _) => match y with | .sl0 => k false tab | _ => false
    | _ => false
  | .sl .. => match P.underlying ty with
    | some (.slice _) => match y with | .sl0 => k false tab | _ => false
    | _ => false
  | .map0 => match P.underlying ty with
    | some (.map _ _) => match y with | .map0 => k true tab | .map _ => k false tab | _ => false
    | _ => false
  | .map _ => match P.underlying ty with
    | some (.map _ _) => match y with | .map0 => k false tab | _ => false
    | _ => false
  | .fn0 => match P.underlying ty with
    | some (.func ..) => match y with | .fn0 => k true tab | .fn .. => k false tab | _ => false
    | _ => false
  | .fn .. => match P.underlying ty with
    | some (.func ..) => match y with | .fn0 => k false tab | _ => false
    | _ => false
  | .ifc0 => match P.underlying ty with
    | some (.interface _) => match y with
      | .ifc0 => match cx || cy with | true => k true tab | false => false
      | .ifc .. => k false tab
      | _ => false
    | _ => false
  | .ifc .. => match P.underlying ty with
    | some (.interface _) => match y with | .ifc0 => k false tab | _ => false
    | _ => false
  | .bool _ => match P.underlying ty with
    | some .bool => eqP x y tab k
    | _ => false
  | _ => false

def isC : Operand → Bool
  | .const _ => true
  | _ => false

def eqBin (P : Program) (op : BinOp) (ty : TypeId) (cx cy : Bool) (x y : CV) (h : Hp) (tab : Tab) (k : CV → Tab → Bool) : Bool := match op with
  | .eql => eqC P ty cx cy x y h tab fun b tab => kB b fun c => k c tab
  | .neq => eqC P ty cx cy x y h tab fun b tab => kB (!b) fun c => k c tab
  | _ => false
/-- a symbol that is small -/
def smallS (iv : Ivs) (l : Nat) : Bool := match iv[l]? with
  | some (_, hi) => leI hi 1000000
  | none => false
def binC (P : Program) (op : BinOp) (ty : TypeId) (cx cy : Bool) (x y : CV) (h : Hp) (tab : Tab) (k : CV → Tab → Bool) : Bool := match x with
  | .int kd a => match y with
    | .int kd' b => match decide (kd = kd') || (match op with | .shl | .shr => true | _ => false) with
      | true => intOp op kd a b fun r => k r tab
      | false => false
    | .sym kd' s => match isCmp op with
      | true => match decide (kd = kd') with
        | true => symCmp (flip op) s a tab fun b tab => k (.bool b) tab
        | false => false
      | false => linBinV op (.int kd a) (.sym kd' s) tab k
    | .lin kd' c' ts' => linBinV op (.int kd a) (.lin kd' c' ts') tab k
    | _ => false
  | .sym kd s => match y with
    | .int kd' b => match isCmp op with
      | true => match decide (kd = kd') with
        | true => symCmp op s b tab fun b tab => k (.bool b) tab
        | false => false
      | false => match op with
        | .rem => match decide (kd = kd') with
          | true => symRem kd s b tab k
          | false => false
        | op => linBinV op (.sym kd s) (.int kd' b) tab k
    | .sym kd' s' => linBinV op (.sym kd s) (.sym kd' s') tab k
    | .lin kd' c' ts' => linBinV op (.sym kd s) (.lin kd' c' ts') tab k
    | _ => false
  | .lin kd c ts => linBinV op (.lin kd c ts) y tab k
  | .str l1 c1 => match y with
    | .str l2 c2 => strOp op l1 c1 l2 c2 fun r => k r tab
    | .lstr bs => lsBin op (.str l1 c1) (.lstr bs) tab k
    | .ssym s l => match op with
      | .add => match Nat.beq l1 0 && smallS tab.iv l with | true => k (.ssym s l) tab | false => false
      | _ => false
    | _ => false
  | .lstr bs => lsBin op (.lstr bs) y tab k
  | .ssym s _ => match y with
    | .ssym s' _ => match Nat.beq s s' with
      | true => match op with | .eql => k (.bool true) tab | .neq => k (.bool false) tab | _ => false
      | false => false
    | _ => false
  | .symr kd _ c lo cnt => match op with
    | .rem => match y with
      | .int kd' b => match b with
        | .ofNat n => (match decide (kd = kd') && (Nat.beq n c && (!Nat.beq c 0 && !Nat.beq cnt 0)) with | true => allB cnt (fun i => forceN (lo + i) fun r => k (.int kd (.ofNat r)) tab) | false => false)
        | .negSucc _ => false
      | _ => false
    | _ => false
  | x => eqBin P op ty cx cy x y h tab k

/-! Rows of cells, built -/
def setList (l : List CV) : Nat → List CV → List CV
  | _, [] => l
  | off, x :: xs => setList (l.set off x) (off + 1) xs
def fillC (place : Nat → Option (Nat × Nat)) : List (Nat × CV) → List CV → Option (List CV)
  | [], cells => some cells
  | (i, v) :: rest, cells => match place i with
    | none => none
    | some (off, size) => match Nat.beq (cellsOfCV v).length size && Nat.ble (off + size) cells.length with
      | true => fillC place rest (setList cells off (cellsOfCV v))
      | false => none
def repl (n : Nat) (z : List CV) : List CV := (List.range (n * z.length)).map fun i => z.getD (i % z.length) undefC
def forceL (l : List CV) (k : List CV → Bool) : Bool := lrec (β := (List CV → Bool) → Bool) (fun k => k []) (fun x _ ih k => ih fun l => k (x :: l)) l k
def partC (P : Program) (t : TypeId) (cs : List CV) (off : Nat) (k : CV → Bool) : Bool :=
  match aggT P t with
  | some true => szK P t fun n => forceL ((cs.drop off).take n) fun l => k (.agg l)
  | some false => match cs[off]? with | some c => k c | none => false
  | none => false

/-! Slices -/
def loBd (lo : Option CV) (h : Nat) (tab : Tab) (k : Nat → Tab → Bool) : Bool := match lo with
  | none => k 0 tab
  | some v => asNat v tab fun l tab => match Nat.ble l h with | true => k l tab | false => false
def sliceBd (len cap : Nat) (lo hi : Option CV) (tab : Tab) (k : Nat → Nat → Tab → Bool) : Bool :=
  match hi with
  | none => loBd lo len tab fun l tab => k l len tab
  | some v => asNat v tab fun h tab => match Nat.ble h cap with
    | true => loBd lo h tab fun l tab => k l h tab
    | false => false
def optO (G : Nat → Bool) (x : Option Operand) (t : Tm) (k : Option CV → Bool) : Bool := match x with | none => k none | some x => getO G x t fun v => k (some v)

/-! Maps: keys that are plain, or pointers -/
def keyEq (P : Program) (kt : TypeId) (x y : CV) (h : Hp) (tab : Tab) (k : Bool → Bool) : Bool := match x with
  | .int kd a => match y with | .int kd' b => (match decide (kd = kd') with | true => k (eqI a b) | false => false) | _ => false
  | .str l1 c1 => match y with | .str l2 c2 => k (Nat.beq l1 l2 && Nat.beq c1 c2) | _ => false
  | .ptr .. => eqC P kt false false x y h tab fun b _ => k b
  | _ => false
def keyOk (P : Program) (kt : TypeId) (x : CV) : Bool := match P.underlying kt with
  | some (.int kd) => match x with | .int kd' _ => decide (kd = kd') | _ => false
  | some .string => match x with | .str .. => true | _ => false
  | some (.pointer _) => match x with | .ptr .. => true | _ => false
  | _ => false
def findM (P : Program) (kt : TypeId) (h : Hp) (tab : Tab) (key : CV) (es : List (CV × CV × Nat)) (k : Option CV → Bool) : Bool :=
  lrec (β := (Option CV → Bool) → Bool) (fun k => k none) (fun e _ ih k => keyEq P kt key e.1 h tab fun b => match b with | true => k (some e.2.1) | false => ih k) es k
def putM (P : Program) (kt : TypeId) (h : Hp) (tab : Tab) (key v : CV) (clock : Nat) (es : List (CV × CV × Nat)) (k : List (CV × CV × Nat) → Bool → Bool) : Bool :=
  lrec (β := (List (CV × CV × Nat) → Bool → Bool) → Bool) (fun k => k [(key, v, clock)] true)
    (fun e es ih k => keyEq P kt key e.1 h tab fun b => match b with
      | true => k ((key, v, e.2.2) :: es) false
      | false => ih fun es' new => k (e :: es') new) es k

/-! Operations that act on nothing: their value, and the block that they make -/
abbrev KF := CV → Option CB → Tab → Bool

def asciiB (bs : List UInt8) : Bool := bs.all fun b => Nat.blt b.toNat 128
def convC (P : Program) (src dst : TypeId) (x : CV) (h : Hp) (tab : Tab) (nb : Nat) (k : KF) : Bool := match P.underlying src with
  | none => false
  | some us => match P.underlying dst with
    | some (.slice e) => match x with
      | .str l c => match P.underlying e with
        | some (.int .u8) => k (.sl nb 0 l l) (some (.cells 0 true 1 l (ofList ((decBytes l c).map fun b => .int .u8 b.toNat)))) tab
        | some (.int .i32) => match Nat.ble l 1000000 && asciiB (decBytes l c) with
          | true => k (.sl nb 0 l l) (some (.cells 0 true 1 l (ofList ((decBytes l c).map fun b => .int .i32 b.toNat)))) tab
          | false => false
        | _ => false
      | .lstr bs => match P.underlying e with
        | some (.int .u8) => forceN bs.length fun l => k (.sl nb 0 l l) (some (.cells 0 true 1 l (ofList (bs.map fun f => byteC f.1 f.2)))) tab
        | _ => false
      | _ => false
    | some (.int kd) => match x with
      | .int _ a => wrapK kd a fun r => k (.int kd r) none tab
      | .sym _ s => match tab.iv[s]? with
        | some (lo, hi) => match leI kd.min lo && leI hi kd.max with | true => k (.sym kd s) none tab | false => false
        | none => false
      | .lin _ c ts => linRes kd c ts tab fun v => k v none tab
      | _ => false
    | some .string => match x with
      | .str l c => k (.str l c) none tab
      | .lstr bs => k (.lstr bs) none tab
      | .ssym s l => k (.ssym s l) none tab
      | .int _ a => forceN (encBytes (Utf8.encode a).data.toList) fun c => forceN (Utf8.encode a).size fun l => k (.str l c) none tab
      | _ => false
    | some .unsafePointer => match us with
      | .pointer t => match x with
        | .ptr b o => withCells h b fun _ _ _ sz _ => szK P t fun n => match Nat.blt o sz && !Nat.beq n 0 with
          | true => k (.ptr b o) none tab
          | false => false
        | _ => false
      | _ => false
    | some (.pointer u) => match us with
      | .unsafePointer => match x with
        | .ptr b o => withCells h b fun te lo _ sz _ => match te with
          | 0 => false
          | T + 1 => match lo with
            | true => false
            | false => szK P u fun _ => match liesAt P P.depth T (sz / P.cellsOf T) o u 1 with
              | true => k (.ptr b o) none tab
              | false => false
        | _ => false
      | _ => false
    | _ => false

def lenC (P : Program) (ty : TypeId) (v : CV) (h : Hp) (tab : Tab) (k : CV → Tab → Bool) : Bool := match v with
  | .str l _ => match P.underlying ty with | some .string => k (.int .i64 (.ofNat l)) tab | _ => false
  | .ssym _ l => match P.underlying ty with | some .string => k (.sym .i64 l) tab | _ => false
  | .lstr bs => match P.underlying ty with | some .string => forceN bs.length fun l => k (.int .i64 (.ofNat l)) tab | _ => false
  | .sl0 => match P.underlying ty with | some (.slice _) => k (.int .i64 0) tab | _ => false
  | .slE => match P.underlying ty with | some (.slice _) => k (.int .i64 0) tab | _ => false
  | .sl _ _ l _ => match P.underlying ty with | some (.slice _) => k (.int .i64 (.ofNat l)) tab | _ => false
  | .map0 => match P.underlying ty with | some (.map ..) => k (.int .i64 0) tab | _ => false
  | .map b => match P.underlying ty with
    | some (.map ..) => getK h b fun cb => match cb with | .map es _ => forceN es.length fun l => k (.int .i64 (.ofNat l)) tab | _ => false
    | _ => false
  | _ => match P.underlying ty with
    | some (.array m _) => k (.int .i64 (.ofNat m)) tab
    | some (.pointer a) => match P.underlying a with | some (.array m _) => k (.int .i64 (.ofNat m)) tab | _ => false
    | _ => false

def lkB (ok : Bool) (z : CV) (tab : Tab) (k : KF) (r : Option CV) : Bool := match r with
  | some v => match ok with | true => k (.tup [v, .bool true]) none tab | false => k v none tab
  | none => match ok with | true => k (.tup [z, .bool false]) none tab | false => k z none tab
def floatC (P : Program) (G : Nat → Bool) (o : Op) (t : Tm) (h : Hp) (tab : Tab) (nb : Nat) (k : KF) : Bool := match o with
  | .move x => getO G x t fun v => k v none tab
  | .assign x => getO G x t fun v => k v none tab
  | .pick c a b => getO G c t fun v => asBool v fun c => match c with
    | true => getO G a t fun v => k v none tab
    | false => getO G b t fun v => k v none tab
  | .alloc e => match zeroOf P e with
    | some z => k (.ptr nb 0) (some (.cells (e + 1) false 0 z.length (ofList z))) tab
    | none => false
  | .box _ x => getO G x t fun v => forceN (cellsOfCV v).length fun l => k (.ptr nb 0) (some (.cells 0 false 0 l (ofList (cellsOfCV v)))) tab
  | .build ty parts => match zeroOf P ty with
    | some z => match P.underlying ty with
      | some (.struct fields) => match fields.toList.all (fun f => (P.info? f.type).isSome) with
       | false => false
       | true => getOs G (parts.toList.map (·.2)) t fun vs =>
        match fillC (fun i => (fields[i]?).map fun f => (f.offset, P.cellsOf f.type)) ((parts.toList.map (·.1)).zip vs) z with
        | some cs => forceL cs fun cs => k (.agg cs) none tab
        | none => false
      | some (.array _ e) => szK P e fun n => getOs G (parts.toList.map (·.2)) t fun vs =>
        match fillC (fun i => some (i * n, n)) ((parts.toList.map (·.1)).zip vs) z with
        | some cs => forceL cs fun cs => k (.agg cs) none tab
        | none => false
      | _ => false
    | none => false
  | .buildSlice ty len parts => match elemOfSl P ty with
    | some e => match zeroOf P e with
      | some z => szK P e fun n => match Nat.ble (len * z.length) 65536 && Nat.beq z.length n with
        | true => getOs G (parts.toList.map (·.2)) t fun vs =>
          match fillC (fun i => some (i * n, n)) ((parts.toList.map (·.1)).zip vs) (repl len z) with
          | some cs => forceN (len * z.length) fun sz => k (.sl nb 0 len len) (some (.cells 0 false 0 sz (ofList cs))) tab
          | none => false
        | false => false
      | none => false
    | none => false
  | .load ty x => getO G x t fun v => asPtr v fun b off => loadC P ty b off h fun v => k v none tab
  | .nilCheck x => getO G x t fun v => match v with
    | .ptr b o => k (.ptr b o) none tab
    | .fn (.func f) a c => k (.fn (.func f) a c) none tab
    | .yld b => k (.yld b) none tab
    | .ifc ty v => k (.ifc ty v) none tab
    | _ => false
  | .binOp op ty x y _ => getO G x t fun v => getO G y t fun w => binC P op ty (isC x) (isC y) v w h tab fun r tab => k r none tab
  | .unOp op _ x => getO G x t fun v => match op with
    | .not => asBool v fun b => match b with | true => k (.bool false) none tab | false => k (.bool true) none tab
    | .neg => match v with
      | .int kd a => wrapK kd (0 - a) fun r => k (.int kd r) none tab
      | v => linNeg v tab fun r => k r none tab
    | _ => false
  | .convert s d x => getO G x t fun v => convC P s d v h tab nb k
  | .makeInterface ty x => getO G x t fun v => match isIfc P ty with | true => false | false => k (.ifc ty v) none tab
  | .typeAssert x _ ty ok => getO G x t fun v => match isIfc P ty with
    | true => false
    | false => match v with
      | .ifc t' u => match Nat.beq t' ty with
        | true => match ok with
          | true => k (.tup [u, .bool true]) none tab
          | false => k u none tab
        | false => false
      | _ => false
  | .makeFunc f first cap => match f with
    | .func f => getOs G first.toList t fun a => getOs G cap.toList t fun c => k (.fn (.func f) a c) none tab
    | _ => false
  | .makeMap _ r => match r with
    | none => k (.map nb) (some (.map [] 0)) tab
    | some _ => false
  | .makeSlice ty l c => match elemOfSl P ty with
    | some e => match zeroOf P e with
      | some z => getO G l t fun l => asNat l tab fun l tab => getO G c t fun c => asNat c tab fun c tab =>
        szK P e fun n => match Nat.ble l c && (Nat.ble (c * z.length) 65536 && (Nat.ble (c * P.bytesOf e) 1000000000 && (Nat.ble c 65536 && Nat.beq z.length n))) with
        | true => forceN (c * z.length) fun sz => k (.sl nb 0 l c) (some (.cells 0 false 0 sz (ofList (repl c z)))) tab
        | false => false
      | none => false
    | none => false
  | .slice ty x lo hi mx => match mx with
    | some _ => false
    | none => getO G x t fun v => optO G lo t fun lo => optO G hi t fun hi => match v with
      | .str len c => match P.underlying ty with
        | some .string => match lo with
          | some (.lin _ lc ts) => match hi with
            | some h => match linOf h with
              | some (_, hc, ts') => match subTs ts' ts with
                | [] => match hc - lc with
                  | .ofNat m => linPiece len c lc ts m tab fun bs => lstrK bs fun v => k v none tab
                  | .negSucc _ => false
                | _ => false
              | none => false
            | none => false
          | _ => sliceBd len len lo hi tab fun l h' tab => forceN (h' - l) fun m => forceN (c / 256 ^ (len - h') % 256 ^ m) fun c' => k (.str m c') none tab
        | _ => false
      | .lstr bs => match P.underlying ty with
        | some .string => sliceBd bs.length bs.length lo hi tab fun l h' tab => lstrK ((bs.take h').drop l) fun v => k v none tab
        | _ => false
      | .sl b off len cap => match elemOfSl P ty with
        | some e => szK P e fun n => match Nat.ble len cap with
          | false => false
          | true => sliceBd len cap lo hi tab fun l h' tab => match Nat.blt l cap with
            | true => forceN (off + l * n) fun o' => forceN (h' - l) fun l' => forceN (cap - l) fun c' => k (.sl b o' l' c') none tab
            | false => k .slE none tab
        | none => false
      | .slE => match elemOfSl P ty with
        | some e => szK P e fun _ => sliceBd 0 0 lo hi tab fun _ _ tab => k .slE none tab
        | none => false
      | .sl0 => match elemOfSl P ty with
        | some e => szK P e fun _ => sliceBd 0 0 lo hi tab fun _ _ tab => k .sl0 none tab
        | none => false
      | _ => false
  | .fieldAddr s x f => match fieldOf P s f with
    | some fd => szK P fd.type fun n => match Nat.beq n 0 with
      | true => false
      | false => getO G x t fun v => asPtr v fun b off => forceN (off + fd.offset) fun o' => k (.ptr b o') none tab
    | none => false
  | .field s x f => match fieldOf P s f with
    | some fd => getO G x t fun v => match v with | .agg cs => partC P fd.type cs fd.offset fun r => k r none tab | _ => false
    | none => false
  | .indexAddr ty x i => getO G x t fun v => getO G i t fun w => asNat w tab fun i tab => match v with
    | .sl b off len _ => match elemOfSl P ty with
      | some e => match Nat.blt i len with
        | true => szK P e fun n => forceN (off + i * n) fun o' => k (.ptr b o') none tab
        | false => false
      | none => false
    | .ptr b off => match P.underlying ty with
      | some (.array len e) => match Nat.blt i len with
        | true => szK P e fun n => forceN (off + i * n) fun o' => k (.ptr b o') none tab
        | false => false
      | _ => false
    | _ => false
  | .index ty x i => getO G x t fun v => getO G i t fun w => asNat w tab fun i tab => match v with
    | .lstr bs => match P.underlying ty with
      | some .string => match bs[i]? with
        | some f => k (byteC f.1 f.2) none tab
        | none => false
      | _ => false
    | .str len c => match P.underlying ty with
      | some .string => match Nat.blt i len with
        | true => forceN (c / 256 ^ (len - 1 - i) % 256) fun b => k (.int .u8 (.ofNat b)) none tab
        | false => false
      | _ => false
    | .agg cs => match P.underlying ty with
      | some (.array len e) => match Nat.blt i len with
        | true => szK P e fun n => partC P e cs (i * n) fun r => k r none tab
        | false => false
      | _ => false
    | _ => false
  | .lookup ty x i ok => match P.underlying ty with
    | some (.map kt e) => getO G x t fun v => getO G i t fun w => match keyOk P kt w with
      | false => false
      | true => match zeroVal P e with
        | some z => (match v with
          | .map0 => fun (k : Option CV → Bool) => k none
          | .map b => fun k => getK h b fun cb => match cb with | .map es _ => findM P kt h tab w es k | _ => false
          | _ => fun _ => false) fun r => lkB ok z tab k r
        | none => false
    | _ => false
  | .extract x i => getO G x t fun v => match v with
    | .tup vs => match vs[i]? with | some c => k c none tab | none => false
    | _ => false
  | .call c => match c.callee with
    | .builtin .len => match c.args.toList with
      | [x] => match c.argTypes[0]? with
        | some ty => getO G x t fun v => lenC P ty v h tab fun r tab => k r none tab
        | none => false
      | _ => false
    | .builtin .min => match c.args.toList with
      | [x, y] => getO G x t fun v => getO G y t fun w => match v with
        | .int kd a => match w with
          | .int _ b => (match ltI b a with | true => k (.int kd b) none tab | false => k (.int kd a) none tab)
          | w => linMM false (.int kd a) w tab fun r tab => k r none tab
        | v => linMM false v w tab fun r tab => k r none tab
      | _ => false
    | .builtin .max => match c.args.toList with
      | [x, y] => getO G x t fun v => getO G y t fun w => match v with
        | .int kd a => match w with
          | .int _ b => (match ltI a b with | true => k (.int kd b) none tab | false => k (.int kd a) none tab)
          | w => linMM true (.int kd a) w tab fun r tab => k r none tab
        | v => linMM true v w tab fun r tab => k r none tab
      | _ => false
    | _ => false
  | _ => false

/-- does the operation look at memory? -/
def isUns (P : Program) (t : TypeId) : Bool := match P.underlying t with | some .unsafePointer => true | _ => false
def looks (P : Program) : Op → Bool
  | .load .. | .lookup .. | .call _ => true
  | .convert s d _ => isUns P s || isUns P d
  | .binOp op .. => match op with | .eql | .neq => true | _ => false
  | _ => false
def isFloat : Op → Bool
  | .store .. | .mapUpdate .. | .insert .. | .mapEntry .. | .entryStore .. | .go _ | .defer _ | .panic _ | .send .. | .recv .. | .select .. | .next .. | .range .. | .ready _ | .waits _ | .entry _ => false
  | .call c => match c.callee with | .builtin .len | .builtin .min | .builtin .max => true | _ => false
  | _ => true

end
end Go.Ev

namespace Go.Ev
noncomputable section

/-! Operations that act -/
abbrev KA := CV → M → Bool
abbrev CallFn := Fn → List CV → M → KA → Bool

def newB (cb : CB) (m : M) (k : Nat → M → Bool) : Bool :=
  insK cb m.h m.n fun h' => forceN (Nat.succ m.n) fun n' => k m.n ⟨h', n', m.tab⟩
def isTrue (b : Bool) (k : Bool) : Bool := match b with | true => k | false => false

def allOne (l : List CV) (k : Bool) : Bool := lrec k (fun v _ ih => oneK v ih) l
/-- the cells of what is appended, and how many elements -/
def appended (str : Bool) (n : Nat) (x : CV) (h : Hp) (k : List CV → Nat → Bool) : Bool := match str with
  | false => match x with
    | .sl0 => k [] 0
    | .slE => k [] 0
    | .sl b off len _ => withCells h b fun _ _ _ _ cs => loadN cs (len * n) off fun l => allOne l (k l len)
    | _ => false
  | true => match x with
    | .str l c => match Nat.beq n 1 with
      | true => k ((decBytes l c).map fun b => .int .u8 b.toNat) l
      | false => false
    | .lstr bs => match Nat.beq n 1 with
      | true => forceN bs.length fun l => k (bs.map fun f => byteC f.1 f.2) l
      | false => false
    | _ => false

/-- what two rows agree on -/
def sameTe (a b : Nat) : Nat := match Nat.beq a b with | true => b | false => 0
def tailC (P : Program) (et : TypeId) (n : Nat) (new : List CV) (cnt : Nat) (s : CV) (m : M) (k : KA) : Bool := match s with
    | .sl0 => match Nat.beq cnt 0 with
      | true => k .sl0 m
      | false => isTrue (Nat.ble (4 * cnt * P.bytesOf et) 281474976710656) <| forceN (cnt * n) fun sz =>
        newB (.cells (et + 1) true (n) sz (ofList new)) m fun b m' => k (.sl b 0 cnt cnt) m'
    | .sl b off len cap => withCells m.h b fun te lo es sz cs => forceN (len + cnt) fun need => match Nat.ble need cap with
      | true => storeN new (off + len * n) cs fun cs' => setK (.cells te lo es sz cs') m.h b fun h' => k (.sl b off need cap) ⟨h', m.n, m.tab⟩
      | false => isTrue (Nat.ble (4 * need * P.bytesOf et) 281474976710656) <| forceN (need * n) fun sz' => match lo with
        | true => isTrue (Nat.beq es (n)) <| isTrue (Nat.beq (off + cap * es) sz) <| setK .none m.h b fun h1 =>
          match Nat.beq off 0 && Nat.beq (len * es) sz with
          | true => pushN new sz cs fun cs' => newB (.cells (sameTe te (et + 1)) true es sz' cs') ⟨h1, m.n, m.tab⟩ fun b' m' => k (.sl b' 0 need need) m'
          | false => loadN cs (len * es) off fun old => newB (.cells (sameTe te (et + 1)) true es sz' (ofList (old ++ new))) ⟨h1, m.n, m.tab⟩ fun b' m' => k (.sl b' 0 need need) m'
        | false => loadN cs (len * n) off fun old => newB (.cells (et + 1) true (n) sz' (ofList (old ++ new))) m fun b' m' => k (.sl b' 0 need need) m'
    | _ => false
def appendC (P : Program) (et : TypeId) (str : Bool) (s x : CV) (m : M) (k : KA) : Bool :=
  szK P et fun n => isTrue (!Nat.beq n 0) <| isTrue (!Nat.beq (P.bytesOf et) 0) <| isTrue (match zeroOf P et with | some z => Nat.beq z.length n | none => false) <|
  appended str n x m.h fun new cnt => tailC P et n new cnt s m k
/-- zeros behind a slice -/
def appendZ (P : Program) (et : TypeId) (s x : CV) (m : M) (k : KA) : Bool :=
  szK P et fun n => isTrue (!Nat.beq n 0) <| isTrue (!Nat.beq (P.bytesOf et) 0) <| match zeroOf P et with
    | some z => isTrue (Nat.beq z.length n) <| match x with
      | .int kd a => match kd with
        | .i64 => match a with
          | .ofNat cnt => isTrue (Nat.ble (cnt * P.bytesOf et) 281474976710656) <| isTrue (Nat.ble cnt 65536) <| allOne (repl cnt z) <| tailC P et n (repl cnt z) cnt s m k
          | .negSucc _ => false
        | _ => false
      | _ => false
    | none => false

/-- the bytes of a row -/
def bytesOf? : List CV → Option (List UInt8)
  | [] => some []
  | .int .u8 (.ofNat x) :: l => match Nat.blt x 256 with
    | true => match bytesOf? l with | some bs => some (UInt8.ofNat x :: bs) | none => none
    | false => none
  | _ => none
/-- the bytes of a row, as forms -/
def byteForm (iv : Ivs) (v : CV) : Option (Int × Ts) := match linOf v with
  | some (kd, c, ts) => match kd with
    | .u8 => match bndL iv c ts with
      | some (lo, hi) => match leI 0 lo && leI hi 255 with
        | true => some (c, ts)
        | false => none
      | none => none
    | _ => none
  | none => none
def byteForms (iv : Ivs) : List CV → Option (List (Int × Ts))
  | [] => some []
  | v :: l => match byteForm iv v with
    | some f => match byteForms iv l with
      | some fs => some (f :: fs)
      | none => none
    | none => none
/-- a string over a row of bytes: the row is given up -/
def ustrC (e : TypeId) (v : CV) (n : Nat) (m : M) (k : KA) : Bool := match v with
  | .ptr0 => match Nat.beq n 0 with | true => k (.str 0 0) m | false => false
  | .ptr b off => match Nat.beq n 0 with
    | true => k (.str 0 0) m
    | false => withCells m.h b fun te _ _ sz cs => match Nat.beq te (e + 1) && (Nat.ble (off + n) sz && Nat.ble n 1000000) with
      | true => loadN cs n off fun l => match bytesOf? l with
        | some bs => forceN (encBytes bs) fun c => setK .none m.h b fun h' => k (.str n c) ⟨h', m.n, m.tab⟩
        | none => match byteForms m.tab.iv l with
          | some fs => setK .none m.h b fun h' => k (.lstr fs) ⟨h', m.n, m.tab⟩
          | none => false
      | false => false
  | _ => false

def actC (P : Program) (G : Nat → Bool) (call : CallFn) (o : Op) (t : Tm) (m : M) (k : KA) : Bool := match o with
  | .store ty x y => getO G x t fun v => asPtr v fun b off => getO G y t fun w => storeC P ty b off w m.h fun h' => k undefC ⟨h', m.n, m.tab⟩
  | .mapUpdate ty x i y => match P.underlying ty with
    | some (.map kt _) => getO G x t fun v => getO G i t fun key => getO G y t fun val => match keyOk P kt key with
      | false => false
      | true => match v with
        | .map b => getK m.h b fun cb => match cb with
          | .map es clock => putM P kt m.h m.tab key val clock es fun es' new => forceN (match new with | true => clock + 1 | false => clock) fun clock' =>
            setK (.map es' clock') m.h b fun h' => k undefC ⟨h', m.n, m.tab⟩
          | _ => false
        | _ => false
    | _ => false
  | .call c => match c.callee with
    | .value f => getO G f t fun fv => getOs G c.args.toList t fun args => match fv with
      | .fn f first cap => match f with
        | .func f => call (.func f) (first ++ args ++ cap) m k
        | _ => false
      | .yld b => call (.yield b) args m k
      | _ => false
    | .builtin b => match b with
      | .append => match c.args.toList with
        | [x, y] => match c.argTypes.toList with
          | [tx, ty] => match elemOfSl P tx with
            | some e => match P.underlying ty with
              | some (.slice _) => getO G x t fun v => getO G y t fun w => appendC P e false v w m k
              | some .string => getO G x t fun v => getO G y t fun w => appendC P e true v w m k
              | some (.int _) => getO G x t fun v => getO G y t fun w => appendZ P e v w m k
              | _ => false
            | none => false
          | _ => false
        | _ => false
      | .recover => k .ifc0 m
      | .unsafeSliceData => match c.args.toList with
        | [x] => getO G x t fun v => match v with
          | .sl0 => k .ptr0 m
          | .sl b off _ cap => match Nat.blt 0 cap with | true => k (.ptr b off) m | false => false
          | _ => false
        | _ => false
      | .unsafeString => match c.args.toList with
        | [x, y] => match c.argTypes.toList with
          | [pt, _] => match P.underlying pt with
            | some (.pointer e) => match Nat.beq (P.cellsOf e) 1 with
              | true => getO G x t fun v => getO G y t fun w => match w with
                | .int .i64 (.ofNat n) => ustrC e v n m k
                | _ => false
              | false => false
            | _ => false
          | _ => false
        | _ => false
      | _ => false
    | .invoke _ _ => false
  | _ => false

/-! Regions -/
def putT (dst : Option Tmp) (v : CV) (t : Tm) (k : Tm → Bool) : Bool := match dst with
  | none => k t
  | some d => setK v t d k
/-- is the operation wanted? -/
def guardC (ops : Array Oper) (o : Oper) (t : Tm) (k : Bool → Bool) : Bool := match o.guard with
  | none => k true
  | some (j, want) => match ops[j]? with
    | some oj => match oj.dst with
      | some d => getK t d fun v => match v with
        | .bool b => match want with
          | true => (match b with | true => k true | false => k false)
          | false => (match b with | true => k false | false => k true)
        | .tup [] => k false
        | _ => false
      | none => false
    | none => false

/-- one operation of an ordered region -/
def operC (P : Program) (G : Nat → Bool) (rd : Bool) (call : CallFn) (ops : Array Oper) (o : Oper) (t : Tm) (d : List DF) (m : M) (k : Tm → List DF → M → Bool) : Bool :=
  guardC ops o t fun b => match b with
    | false => putT o.dst undefC t fun t' => k t' d m
    | true => match isFloat o.op with
      | true => floatC P G o.op t m.h m.tab m.n fun v nb tab => putT o.dst v t fun t' => match nb with
        | none => k t' d ⟨m.h, m.n, tab⟩
        | some cb => newB cb ⟨m.h, m.n, tab⟩ fun _ m' => k t' d m'
      | false => match o.op with
        | .defer c => match rd with
          | true => false
          | false => match c.callee with
            | .value f => getO G f t fun fv => getOs G c.args.toList t fun args => match fv with
              | .fn f first cap => match f with
                | .func f => putT o.dst undefC t fun t' => k t' (.call (.func f) (first ++ args) cap :: d) m
                | _ => false
              | _ => false
            | _ => false
        | op => (match op, rd with
            | .call { callee := .builtin .recover, .. }, true => false
            | _, _ => true) && actC P G call op t m fun v m' => putT o.dst v t fun t' => k t' d m'

def opsC (P : Program) (G : Nat → Bool) (rd : Bool) (call : CallFn) (ops : Array Oper) (l : List Oper) : Tm → List DF → M → (Tm → List DF → M → Bool) → Bool :=
  lrec (fun t d m k => k t d m) (fun o _ ih t d m k => operC P G rd call ops o t d m fun t d m => ih t d m k) l

/-! Drawn regions -/
inductive PS where
  | fl (i : Nat)
  | ch (i : Nat) (again : List Nat)

def planOf (P : Program) (ops : Array Oper) : List PS :=
  let anc := Region.before ops
  let idx := List.range ops.size
  let flo := idx.filter fun i => isFloat (ops.getD i default).op
  let chs := idx.filter fun i => !isFloat (ops.getD i default).op
  let level (i : Nat) : Nat := (chs.filter fun c => (anc.getD i 0).testBit c).length
  let rec go : Nat → List Nat → List PS
    | L, [] => (flo.filter fun i => level i == L).map .fl
    | L, c :: cs => ((flo.filter fun i => level i == L).map .fl) ++
        .ch c (flo.filter fun j => looks P (ops.getD j default).op && Nat.ble (level j) L && !(anc.getD c 0).testBit j) :: go (L + 1) cs
  go 0 chs

def PS.ix : PS → Nat
  | .fl i => i
  | .ch i _ => i
def PS.isCh : PS → Bool
  | .fl _ => false
  | .ch _ _ => true
/-- the slots that an operation looks at -/
def readsOf (ops : Array Oper) (o : Oper) : List Nat :=
  (o.op.operands.toList.filterMap fun x => match x with | .tmp i => some i | _ => none) ++
  (match o.guard with | some (j, _) => (match ops[j]? with | some oj => (match oj.dst with | some d => [d] | none => []) | none => []) | none => [])
/-- what a drawn region must show, so that any order does -/
def drawOk (P : Program) (ops : Array Oper) : Bool :=
  let anc := Region.before ops
  let plan := planOf P ops
  let ixs := plan.map PS.ix
  let n := ops.size
  let op (i : Nat) : Oper := ops.getD i default
  let isA (i j : Nat) : Bool := (anc.getD j 0).testBit i
  let ps := plan.zipIdx
  Nat.beq plan.length n &&
  ((List.range n).all fun i => ixs.contains i) &&
  (ps.all fun (s, p) => Nat.beq (ixs.idxOf s.ix) p && Nat.blt s.ix n && (isFloat (op s.ix).op == !s.isCh)) &&
  (ps.all fun (s, p) => ps.all fun (s', p') => !(Nat.blt p' p && s'.isCh) || isA s'.ix s.ix) &&
  (ps.all fun (s, p) => (readsOf ops (op s.ix)).all fun x => ps.all fun (s', p') => !((op s'.ix).dst == some x) || (Nat.blt p' p && isA s'.ix s.ix)) &&
  (ps.all fun (s, p) => ps.all fun (s', p') => Nat.beq p p' || (match (op s.ix).dst with | some x => !((op s'.ix).dst == some x) | none => true)) &&
  (ps.all fun (s, p) => match s with
    | .fl _ => true
    | .ch i again => ps.all fun (s', p') => !(Nat.blt p' p && !s'.isCh && looks P (op s'.ix).op) || again.contains s'.ix || isA s'.ix i) &&
  (ops.toList.zipIdx.all fun (o, i) => o.after.all fun e => !Region.binds .text e || Nat.blt e.on i) &&
  (match Region.departs ops with
    | false => true
    | true => let r := Region.linearise .gc ops 0
      ops.toList.zipIdx.all fun (o, i) => o.after.all fun e => !Region.binds .gc e || (Nat.blt e.on n && Nat.blt (r.idxOf e.on) (r.idxOf i)))

def eqBs : List (Int × Ts) → List (Int × Ts) → Bool
  | [], [] => true
  | (c, ts) :: l, (c', ts') :: l' => eqI c c' && (eqTs ts ts' && eqBs l l')
  | _, _ => false
def cvBeq : CV → CV → Bool
  | .bool a, .bool b => a == b
  | .int k a, .int k' b => decide (k = k') && eqI a b
  | .str l c, .str l' c' => Nat.beq l l' && Nat.beq c c'
  | .ptr0, .ptr0 => true
  | .ptr b o, .ptr b' o' => Nat.beq b b' && Nat.beq o o'
  | .sl0, .sl0 => true
  | .slE, .slE => true
  | .sl b o l c, .sl b' o' l' c' => Nat.beq b b' && Nat.beq o o' && Nat.beq l l' && Nat.beq c c'
  | .map0, .map0 => true
  | .map b, .map b' => Nat.beq b b'
  | .ifc0, .ifc0 => true
  | .fn0, .fn0 => true
  | .sym k s, .sym k' s' => decide (k = k') && Nat.beq s s'
  | .ssym s l, .ssym s' l' => Nat.beq s s' && Nat.beq l l'
  | .lin k c ts, .lin k' c' ts' => decide (k = k') && (eqI c c' && eqTs ts ts')
  | .lstr a, .lstr b => eqBs a b
  | .ifc t v, .ifc t' v' => Nat.beq t t' && cvBeq v v'
  | .agg xs, .agg ys => goL xs ys
  | .tup xs, .tup ys => goL xs ys
  | _, _ => false
  where goL : List CV → List CV → Bool
  | [], [] => true
  | x :: xs, y :: ys => cvBeq x y && goL xs ys
  | _, _ => false

/-- the operation j once more, at another memory: it must give the value that its slot holds -/
def againC (P : Program) (G : Nat → Bool) (ops : Array Oper) (t : Tm) (m : M) (j : Nat) : Bool := match ops[j]? with
  | some o => guardC ops o t fun b => match b with
    | false => true
    | true => match o.dst with
      | some dd => getK t dd fun v => floatC P G o.op t m.h m.tab 0 fun v' nb _ => match nb with | none => cvBeq v v' | some _ => false
      | none => false
  | none => false

def planC (P : Program) (G : Nat → Bool) (rd : Bool) (call : CallFn) (ops : Array Oper) (l : List PS) : Tm → List DF → M → (Tm → List DF → M → Bool) → Bool :=
  lrec (fun t d m k => k t d m) (fun s _ ih t d m k => match s with
    | .fl i => match ops[i]? with
      | some o => operC P G rd call ops o t d m fun t d m => ih t d m k
      | none => false
    | .ch i again => match ops[i]? with
      | some o => operC P G rd call ops o t d m fun t d m => isTrue (again.all fun j => againC P G ops t m j) (ih t d m k)
      | none => false) l

/-! Code -/
abbrev KX := CX → Tm → List DF → M → Bool
abbrev EvCode := Tm → List DF → M → KX → Bool

def loopC (body : EvCode) (fuel : Nat) : Tm → List DF → M → KX → Bool :=
  Nat.rec (motive := fun _ => Tm → List DF → M → KX → Bool) (fun _ _ _ _ => false)
    (fun _ ih t d m k => body t d m fun x t d m => match x with
      | .normal => ih t d m k
      | .exit id => k (.exit id) t d m
      | .ret => k .ret t d m) fuel

def pendK (pend : Option Code) (K : CX → Bool) : Bool := match pend with
  | none => K .normal
  | some c => match c with
    | .exit id => K (.exit id)
    | .ret => K .ret
    | _ => false

def codeC (P : Program) (G : Nat → Bool) (fn : FuncId) (rd : Bool) (call : CallFn) (fuel : Nat) (c : Code) : EvCode :=
  crec (β := EvCode)
    (fun t d m k => k .normal t d m)
    (fun _ ops draw t d m k => match draw with
      | false => opsC P G rd call ops ops.toList t d m fun t d m => k .normal t d m
      | true => isTrue (drawOk P ops) (planC P G rd call ops (planOf P ops) t d m fun t d m => k .normal t d m))
    (fun a b t d m k => a t d m fun x t d m => match x with
      | .normal => b t d m k
      | .exit id => k (.exit id) t d m
      | .ret => k .ret t d m)
    (fun c a b t d m k => getO G c t fun v => asBool v fun b' => match b' with | true => a t d m k | false => b t d m k)
    (fun id a t d m k => a t d m fun x t d m => match x with
      | .normal => k .normal t d m
      | .exit j => match Nat.beq j id with | true => k .normal t d m | false => k (.exit j) t d m
      | .ret => k .ret t d m)
    (fun _ a => loopC a fuel)
    (fun f ps a b t d m k => match rd with
      | true => false
      | false => getO G f t fun fv => match fv with
        | .fn f first cap => match f with
          | .func f => isTrue (match P.funcs[f]? with | some fn => fn.body.isSome | none => false) <| newB (.dfd true) m fun db m => newB (.loop .ready none fn t ps a b db) m fun l m =>
            call (.func f) (first ++ [.yld l] ++ cap) m fun _ m => getK m.h l fun cb => match cb with
              | .loop st pend fn t' ps a b db' => match st with
                | .busy => false
                | _ => setK (.loop .exhausted pend fn t' ps a b db') m.h l fun h' => pendK pend fun x => k x t (.coll db :: d) ⟨h', m.n, m.tab⟩
              | _ => false
          | _ => false
        | _ => false)
    (fun id t d m k => k (.exit id) t d m)
    (fun t d m k => k .normal t d m)
    (fun t d m k => k .ret t d m)
    (fun _ _ _ _ => false) c

def resultsC (P : Program) (rs : List ResultVar) : Tm → M → (List CV → Bool) → Bool :=
  lrec (fun _ _ k => k []) (fun r _ ih t m k => match r with
    | .tmp i => getK t i fun v => ih t m fun vs => k (v :: vs)
    | .cell a ty => getK t a fun v => asPtr v fun b off => loadC P ty b off m.h fun v => ih t m fun vs => k (v :: vs)) rs

def defersC (call : CallFn) (ds : List DF) : M → (M → Bool) → Bool :=
  lrec (fun m k => k m) (fun d _ ih m k => match d with
    | .call f args cap => call f (args ++ cap) m fun _ m => ih m k
    | .coll b => getK m.h b fun cb => match cb with
      | .dfd true => setK (.dfd false) m.h b fun h' => ih ⟨h', m.n, m.tab⟩ k
      | _ => false) ds

def setArgs (as : List CV) : Nat → Tm → (Tm → Bool) → Bool :=
  lrec (fun _ t k => k t) (fun a _ ih i t k => setK a t i fun t' => ih (Nat.succ i) t' k) as
def setPs (ps : List Nat) : List CV → Tm → (Tm → Bool) → Bool :=
  lrec (fun as t k => match as with | [] => k t | _ => false)
    (fun p _ ih as t k => match as with
      | [] => false
      | a :: as => setK a t p fun t' => ih as t' k) ps

def idxByte (c : Nat) : List UInt8 → Nat → Int
  | [], _ => -1
  | b :: l, i => match Nat.beq b.toNat c with | true => .ofNat i | false => idxByte c l (i + 1)
def extC (name : String) (args : List CV) (m : M) (k : KA) : Bool :=
  match name == "internal/bytealg.IndexByteString" with
  | true => match args with
    | [.str l c, .int .u8 (.ofNat b)] => isTrue (Nat.blt b 256) (forceI (idxByte b (decBytes l c) 0) fun r => k (.int .i64 r) m)
    | _ => false
  | false => match name == "internal/abi.NoEscape" with
    | true => match args with
      | [v] => k v m
      | _ => false
    | false => false

/-- a round ends -/
def endRd (l : Nat) (x : CX) (m : M) (k : KA) : Bool := getK m.h l fun cb => match cb with
  | .loop _ _ fn tm ps a b db => match x with
    | .normal => setK (.loop .ready none fn tm ps a b db) m.h l fun h' => k (.bool true) ⟨h', m.n, m.tab⟩
    | .exit id => setK (.loop .done (some (.exit id)) fn tm ps a b db) m.h l fun h' => k (.bool false) ⟨h', m.n, m.tab⟩
    | .ret => setK (.loop .done (some .ret) fn tm ps a b db) m.h l fun h' => k (.bool false) ⟨h', m.n, m.tab⟩
  | _ => false

def callStep (P : Program) (G : Nat → Bool) (fuel : Nat) (call : CallFn) : CallFn := fun f args m k => match f with
    | .func f => match P.funcs[f]? with
      | some fn => match fn.body with
        | some c => setArgs args 0 (blank fn.ntmps) fun t => codeC P G f false call fuel c t [] m fun x t d m => match x with
          | .exit _ => false
          | _ => defersC call d m fun m => resultsC P fn.results.toList t m fun vs => match vs with
            | [v] => k v m
            | vs => k (.tup vs) m
        | none => extC fn.name args m k
      | none => false
    | .yield l => getK m.h l fun cb => match cb with
      | .loop st _ fn tm ps assign body _ => match st with
        | .ready => setPs ps.toList args tm fun t => codeC P G fn true call fuel assign t [] m fun x t d m => match x with
          | .normal => getK m.h l fun cb => match cb with
            | .loop st pend fn' tm' ps' a' b' db' => match st with
              | .ready => setK (.loop .busy pend fn' tm' ps' a' b' db') m.h l fun h' => codeC P G fn true call fuel body t d ⟨h', m.n, m.tab⟩ fun x _ _ m => endRd l x m k
              | _ => false
            | _ => false
          | _ => false
        | _ => false
      | _ => false
    | _ => false


def callC (P : Program) (G : Nat → Bool) (fuel : Nat) (depth : Nat) : CallFn :=
  Nat.rec (motive := fun _ => CallFn) (fun _ _ _ _ => false) (fun _ call => callStep P G fuel call) depth

/-- a function whose answer is known: it hands back true, and leaves nothing that is seen -/
def ovr (aw : FuncId) (call : CallFn) : CallFn := fun f args m k => match f with
  | .func g => match Nat.beq g aw with
    | true => (match args with | [] => k (.bool true) m | _ => false)
    | false => call (.func g) args m k
  | f => call f args m k

end
end Go.Ev

namespace Go.Ev

/-! Tries: what the fast functions do -/
theorem getD_two {α : Type} : ∀ (f g n : Nat) (t : Tr α), n < f → n < g → getD? f t n = getD? g t n := by
  intro f
  induction f with
  | zero => intro g n t h; omega
  | succ f ih =>
    intro g n t h hg
    obtain ⟨g, rfl⟩ : ∃ g', g = g' + 1 := ⟨g - 1, by omega⟩
    obtain ⟨nd⟩ := t
    cases nd with
    | nil => rfl
    | node v a b c d =>
      cases n with
      | zero => rfl
      | succ p => exact ih g (p / 4) (kid a b c d (p % 4)) (by omega) (by omega)
theorem get_nil {α : Type} (n : Nat) : (.mk .nil : Tr α).get? n = none := rfl
theorem get_zero {α : Type} (v : α) (a b c d : Tr α) : (Tr.mk (.node v a b c d)).get? 0 = some v := rfl
theorem get_node {α : Type} (v : α) (a b c d : Tr α) (p : Nat) : (Tr.mk (.node v a b c d)).get? (p + 1) = (kid a b c d (p % 4)).get? (p / 4) :=
  getD_two (p + 1) (p / 4 + 1) (p / 4) (kid a b c d (p % 4)) (by omega) (by omega)
theorem kid_get {α : Type} {x v : α} {a b c d a' b' c' d' : Tr α} {p : Nat} {t' : Tr α}
    (hs : ∀ r, r < 4 → kid a' b' c' d' r = if r = p % 4 then t' else kid a b c d r)
    (hj : ∀ j, t'.get? j = if j = p / 4 then some x else (kid a b c d (p % 4)).get? j) (j : Nat) :
    (Tr.mk (.node v a' b' c' d')).get? j = if j = p + 1 then some x else (Tr.mk (.node v a b c d)).get? j := by
  cases j with
  | zero => rfl
  | succ q =>
    have hq : q % 4 < 4 := Nat.mod_lt _ (by decide)
    rw [get_node, get_node, hs _ hq]
    by_cases h : q % 4 = p % 4
    · rw [if_pos h, hj, h]
      by_cases h2 : q / 4 = p / 4
      · rw [if_pos h2, if_pos (by omega)]
      · rw [if_neg h2, if_neg (by omega)]
    · rw [if_neg h, if_neg (by omega)]
theorem kid_put {α : Type} (t' a b c d : Tr α) (p : Nat) :
    ∃ a' b' c' d', (∀ r, r < 4 → kid a' b' c' d' r = if r = p % 4 then t' else kid a b c d r) ∧
      ((p % 4 = 0 ∧ a' = t' ∧ b' = b ∧ c' = c ∧ d' = d) ∨ (p % 4 = 1 ∧ a' = a ∧ b' = t' ∧ c' = c ∧ d' = d) ∨ (p % 4 = 2 ∧ a' = a ∧ b' = b ∧ c' = t' ∧ d' = d) ∨ (p % 4 = 3 ∧ a' = a ∧ b' = b ∧ c' = c ∧ d' = t')) := by
  rcases (by omega : p % 4 = 0 ∨ p % 4 = 1 ∨ p % 4 = 2 ∨ p % 4 = 3) with h | h | h | h
  · refine ⟨t', b, c, d, fun r hr => ?_, .inl ⟨h, rfl, rfl, rfl, rfl⟩⟩
    rcases (by omega : r = 0 ∨ r = 1 ∨ r = 2 ∨ r = 3) with e | e | e | e <;> subst e <;> rw [h] <;> rfl
  · refine ⟨a, t', c, d, fun r hr => ?_, .inr (.inl ⟨h, rfl, rfl, rfl, rfl⟩)⟩
    rcases (by omega : r = 0 ∨ r = 1 ∨ r = 2 ∨ r = 3) with e | e | e | e <;> subst e <;> rw [h] <;> rfl
  · refine ⟨a, b, t', d, fun r hr => ?_, .inr (.inr (.inl ⟨h, rfl, rfl, rfl, rfl⟩))⟩
    rcases (by omega : r = 0 ∨ r = 1 ∨ r = 2 ∨ r = 3) with e | e | e | e <;> subst e <;> rw [h] <;> rfl
  · refine ⟨a, b, c, t', fun r hr => ?_, .inr (.inr (.inr ⟨h, rfl, rfl, rfl, rfl⟩))⟩
    rcases (by omega : r = 0 ∨ r = 1 ∨ r = 2 ∨ r = 3) with e | e | e | e <;> subst e <;> rw [h] <;> rfl
theorem setF_inv {α : Type} (x : α) (f : Nat) : ∀ (t : Tr α) (n : Nat) (k : Tr α → Bool), n < f → setF f t x n k = true →
    ∃ t', k t' = true ∧ (∃ y, t.get? n = some y) ∧ ∀ j, t'.get? j = if j = n then some x else t.get? j := by
  induction f with
  | zero => intro t n k hn; omega
  | succ f ih =>
    intro t n k hn h
    obtain ⟨nd⟩ := t
    cases nd with
    | nil => cases h
    | node v a b c d =>
      cases n with
      | zero =>
        refine ⟨.mk (.node x a b c d), h, ⟨v, rfl⟩, fun j => ?_⟩
        cases j <;> rfl
      | succ p =>
        have h' : kid (setF f a x (p / 4) fun a => k (.mk (.node v a b c d))) (setF f b x (p / 4) fun b => k (.mk (.node v a b c d))) (setF f c x (p / 4) fun c => k (.mk (.node v a b c d))) (setF f d x (p / 4) fun d => k (.mk (.node v a b c d))) (p % 4) = true := by
          have e : setF (f + 1) (.mk (.node v a b c d)) x (p + 1) k = kid (fun a b c d v x i ih k => ih a x i (fun a => k (.mk (.node v a b c d)))) (fun a b c d v x i ih k => ih b x i (fun b => k (.mk (.node v a b c d))))
            (fun a b c d v x i ih k => ih c x i (fun c => k (.mk (.node v a b c d)))) (fun a b c d v x i ih k => ih d x i (fun d => k (.mk (.node v a b c d)))) (p % 4) a b c d v x (p / 4) (setF f) k := rfl
          rw [e] at h
          rcases (by omega : p % 4 = 0 ∨ p % 4 = 1 ∨ p % 4 = 2 ∨ p % 4 = 3) with hp | hp | hp | hp <;> rw [hp] at h ⊢ <;> exact h
        have fin : ∀ t' : Tr α, ∀ a' b' c' d', (∀ r, r < 4 → kid a' b' c' d' r = if r = p % 4 then t' else kid a b c d r) → (∃ y, (kid a b c d (p % 4)).get? (p / 4) = some y) →
            (∀ j, t'.get? j = if j = p / 4 then some x else (kid a b c d (p % 4)).get? j) → k (.mk (.node v a' b' c' d')) = true →
            ∃ t', k t' = true ∧ (∃ y, (Tr.mk (.node v a b c d)).get? (p + 1) = some y) ∧ ∀ j, t'.get? j = if j = p + 1 then some x else (Tr.mk (.node v a b c d)).get? j :=
          fun t' a' b' c' d' h1 h2 h3 h4 => ⟨_, h4, by rw [get_node]; exact h2, kid_get h1 h3⟩
        rcases (by omega : p % 4 = 0 ∨ p % 4 = 1 ∨ p % 4 = 2 ∨ p % 4 = 3) with hp | hp | hp | hp
        all_goals
          have hp0 := hp
          rw [hp] at h'
          obtain ⟨t', hk, hy, hj⟩ := ih _ _ _ (by omega) h'
          obtain ⟨a', b', c', d', e1, e2⟩ := kid_put t' a b c d p
          rcases e2 with ⟨q, r1, r2, r3, r4⟩ | ⟨q, r1, r2, r3, r4⟩ | ⟨q, r1, r2, r3, r4⟩ | ⟨q, r1, r2, r3, r4⟩ <;> first | omega | skip
          subst r1; subst r2; subst r3; subst r4
          exact fin _ _ _ _ _ e1 (by rw [hp0]; exact hy) (by rw [hp0]; exact hj) hk
theorem setK_inv {α : Type} (x : α) (t : Tr α) (n : Nat) (k : Tr α → Bool) (h : setK x t n k = true) :
    ∃ t', k t' = true ∧ (∃ y, t.get? n = some y) ∧ ∀ j, t'.get? j = if j = n then some x else t.get? j := setF_inv x (n + 1) t n k (by omega) h
theorem insF_inv {α : Type} (x : α) (f : Nat) : ∀ (t : Tr α) (n : Nat) (k : Tr α → Bool), n < f → insF f t x n k = true →
    ∃ t', k t' = true ∧ t.get? n = none ∧ ∀ j, t'.get? j = if j = n then some x else t.get? j := by
  induction f with
  | zero => intro t n k hn; omega
  | succ f ih =>
    intro t n k hn h
    obtain ⟨nd⟩ := t
    cases nd with
    | nil =>
      cases n with
      | zero =>
        refine ⟨_, h, rfl, fun j => ?_⟩
        cases j with
        | zero => rfl
        | succ j =>
          rw [if_neg (by omega), get_node]
          have : kid (.mk .nil) (.mk .nil) (.mk .nil) (.mk .nil) (j % 4) = (.mk .nil : Tr α) := by
            rcases kid_cases (a := (.mk .nil : Tr α)) (b := .mk .nil) (c := .mk .nil) (d := .mk .nil) (Nat.mod_lt j (by decide : 0 < 4)) with ⟨_, h⟩ | ⟨_, h⟩ | ⟨_, h⟩ | ⟨_, h⟩ <;> exact h
          rw [this]; rfl
      | succ p => cases h
    | node v a b c d =>
      cases n with
      | zero => cases h
      | succ p =>
        have h' : kid (insF f a x (p / 4) fun a => k (.mk (.node v a b c d))) (insF f b x (p / 4) fun b => k (.mk (.node v a b c d))) (insF f c x (p / 4) fun c => k (.mk (.node v a b c d))) (insF f d x (p / 4) fun d => k (.mk (.node v a b c d))) (p % 4) = true := by
          have e : insF (f + 1) (.mk (.node v a b c d)) x (p + 1) k = kid (fun a b c d v x i ih k => ih a x i (fun a => k (.mk (.node v a b c d)))) (fun a b c d v x i ih k => ih b x i (fun b => k (.mk (.node v a b c d))))
            (fun a b c d v x i ih k => ih c x i (fun c => k (.mk (.node v a b c d)))) (fun a b c d v x i ih k => ih d x i (fun d => k (.mk (.node v a b c d)))) (p % 4) a b c d v x (p / 4) (insF f) k := rfl
          rw [e] at h
          rcases (by omega : p % 4 = 0 ∨ p % 4 = 1 ∨ p % 4 = 2 ∨ p % 4 = 3) with hp | hp | hp | hp <;> rw [hp] at h ⊢ <;> exact h
        rcases (by omega : p % 4 = 0 ∨ p % 4 = 1 ∨ p % 4 = 2 ∨ p % 4 = 3) with hp | hp | hp | hp
        all_goals
          have hp0 := hp
          rw [hp] at h'
          obtain ⟨t', hk, hy, hj⟩ := ih _ _ _ (by omega) h'
          obtain ⟨a', b', c', d', e1, e2⟩ := kid_put t' a b c d p
          rcases e2 with ⟨q, r1, r2, r3, r4⟩ | ⟨q, r1, r2, r3, r4⟩ | ⟨q, r1, r2, r3, r4⟩ | ⟨q, r1, r2, r3, r4⟩ <;> first | omega | skip
          subst r1; subst r2; subst r3; subst r4
          exact ⟨_, hk, by rw [get_node, hp0]; exact hy, kid_get e1 (by rw [hp0]; exact hj)⟩
theorem insK_inv {α : Type} (x : α) (t : Tr α) (n : Nat) (k : Tr α → Bool) (h : insK x t n k = true) :
    ∃ t', k t' = true ∧ t.get? n = none ∧ ∀ j, t'.get? j = if j = n then some x else t.get? j := insF_inv x (n + 1) t n k (by omega) h

theorem getK_inv {α : Type} {t : Tr α} {n : Nat} {k : α → Bool} (h : getK t n k = true) : ∃ v, t.get? n = some v ∧ k v = true := by
  rw [getK_eq] at h
  cases hg : t.get? n with
  | none => rw [hg] at h; cases h
  | some v => rw [hg] at h; exact ⟨v, rfl, h⟩

theorem ev4_get {α : Type} (l : List α) : ∀ (r i : Nat), (ev4 l r)[i]? = l[r + 4 * i]? := by
  induction l with
  | nil => intro r i; simp [ev4]
  | cons a l ih =>
    intro r i
    cases r with
    | zero =>
      have : ev4 (a :: l) 0 = a :: ev4 l 3 := rfl
      rw [this]
      cases i with
      | zero => simp
      | succ i =>
        rw [List.getElem?_cons_succ, ih]
        have : 0 + 4 * (i + 1) = (3 + 4 * i) + 1 := by omega
        rw [this, List.getElem?_cons_succ]
    | succ r =>
      have : ev4 (a :: l) (r + 1) = ev4 l r := rfl
      rw [this, ih]
      have : r + 1 + 4 * i = (r + 4 * i) + 1 := by omega
      rw [this, List.getElem?_cons_succ]
theorem ev4_len {α : Type} (l : List α) : ∀ (r : Nat), (ev4 l r).length ≤ l.length := by
  induction l with
  | nil => intro r; simp [ev4]
  | cons a l ih =>
    intro r
    cases r with
    | zero =>
      have : ev4 (a :: l) 0 = a :: ev4 l 3 := rfl
      rw [this]; have := ih 3; simp; omega
    | succ r =>
      have : ev4 (a :: l) (r + 1) = ev4 l r := rfl
      rw [this]; have := ih r; simp; omega
theorem ofListF_get {α : Type} : ∀ (f : Nat) (l : List α), l.length ≤ f → ∀ i, (ofListF f l).get? i = l[i]?
  | 0, l, h, i => by
    have : l = [] := by cases l <;> simp at h ⊢
    subst this; exact get_nil i
  | f + 1, [], h, i => get_nil i
  | f + 1, a :: l, h, 0 => rfl
  | f + 1, a :: l, h, p + 1 => by
    have hl : l.length ≤ f := by simpa using h
    have key : ofListF (f + 1) (a :: l) = .mk (.node a (ofListF f (ev4 l 0)) (ofListF f (ev4 l 1)) (ofListF f (ev4 l 2)) (ofListF f (ev4 l 3))) := rfl
    rw [key, get_node]
    simp only [List.getElem?_cons_succ]
    rcases (by omega : p % 4 = 0 ∨ p % 4 = 1 ∨ p % 4 = 2 ∨ p % 4 = 3) with g | g | g | g <;> rw [g] <;> refine (ofListF_get f _ (Nat.le_trans (ev4_len l _) hl) _).trans ?_ <;> rw [ev4_get] <;> congr 1 <;> omega
theorem ofList_get {α : Type} (l : List α) (i : Nat) : (ofList l).get? i = l[i]? := ofListF_get _ l (Nat.le_refl _) i

theorem forceN_eq (n : Nat) (k : Nat → Bool) : forceN n k = k n := rfl
theorem forceI_eq (n : Int) (k : Int → Bool) : forceI n k = k n := by cases n <;> rfl

/-! Relations -/
structure Place where
  r : Nat
  d : Nat
  s : Nat
  live : Bool
abbrev Env := Nat → Option Place
structure Sg where
  i : Nat → Int
  s : Nat → ByteArray
  fx : Nat → Option Obj := fun _ => none
  pn : Nat → Option Place := fun _ => none

/-- what a linear form stands for -/
def tsVal (f : Nat → Int) : Ts → Int
  | [] => 0
  | (a, s) :: l => a * f s + tsVal f l
def lfVal (f : Nat → Int) (c : Int) (ts : Ts) : Int := c + tsVal f ts

inductive VR (σ : Sg) (e : Env) : CV → Value → Prop
  | bool (b : Bool) : VR σ e (.bool b) (.bool b)
  | int (k : IntKind) (n : Int) : VR σ e (.int k n) (.int k n)
  | str {len code : Nat} (s : ByteArray) (hl : s.size = len) (hc : encBytes s.data.toList = code) : VR σ e (.str len code) (.string s)
  | ptr0 : VR σ e .ptr0 (.pointer none)
  | ptr {b o : Nat} {p : Place} (h : e b = some p) : VR σ e (.ptr b o) (.pointer (some ⟨p.r, o + p.d, none⟩))
  | sl0 : VR σ e .sl0 (.slice none 0 0)
  | sl {b o len cap : Nat} {p : Place} (h : e b = some p) : VR σ e (.sl b o len cap) (.slice (some ⟨p.r, o + p.d, none⟩) len (cap + p.s))
  | slE (r o c : Nat) : VR σ e .slE (.slice (some ⟨r, o, none⟩) 0 c)
  | map0 : VR σ e .map0 (.map none)
  | map {b : Nat} {p : Place} (h : e b = some p) : VR σ e (.map b) (.map (some p.r))
  | fn (f : FuncId) {as bs : List CV} {first cap : Array Value} (ha : as.length = first.toList.length) (hb : bs.length = cap.toList.length)
      (va : ∀ (i : Nat) c v, as[i]? = some c → first.toList[i]? = some v → VR σ e c v) (vb : ∀ (i : Nat) c v, bs[i]? = some c → cap.toList[i]? = some v → VR σ e c v) :
      VR σ e (.fn (.func f) as bs) (.func (.func f) first cap)
  | yld {b : Nat} {p : Place} (h : e b = some p) : VR σ e (.yld b) (.func (.yield p.r) #[] #[])
  | fn0 : VR σ e .fn0 .nilFunc
  | ifc (t : TypeId) {c : CV} {v : Value} (h : VR σ e c v) : VR σ e (.ifc t c) (.iface t v)
  | ifc0 : VR σ e .ifc0 .nilIface
  | agg {cs : List CV} {vs : Array Value} (hl : cs.length = vs.toList.length) (hv : ∀ (i : Nat) c v, cs[i]? = some c → vs.toList[i]? = some v → VR σ e c v) : VR σ e (.agg cs) (.agg vs)
  | tup {cs : List CV} {vs : Array Value} (hl : cs.length = vs.toList.length) (hv : ∀ (i : Nat) c v, cs[i]? = some c → vs.toList[i]? = some v → VR σ e c v) : VR σ e (.tup cs) (.tuple vs)
  | sym (k : IntKind) (s : Nat) : VR σ e (.sym k s) (.int k (σ.i s))
  | ssym (s l : Nat) (h : ((σ.s s).size : Int) = σ.i l) : VR σ e (.ssym s l) (.string (σ.s s))
  | symr (k : IntKind) (s c lo cnt i n : Nat) (h : σ.i s = Int.ofNat n) (hi : i < cnt) (hr : n % c = lo + i) : VR σ e (.symr k s c lo cnt) (.int k (σ.i s))
  | lin (k : IntKind) (c : Int) (ts : Ts) : VR σ e (.lin k c ts) (.int k (lfVal σ.i c ts))
  | lstr (bs : List (Int × Ts)) (s : ByteArray) (h : s.data.toList.map (fun b => (b.toNat : Int)) = bs.map fun f => lfVal σ.i f.1 f.2) : VR σ e (.lstr bs) (.string s)

def LR (σ : Sg) (e : Env) (cs : List CV) (vs : List Value) : Prop :=
  cs.length = vs.length ∧ ∀ (i : Nat) c v, cs[i]? = some c → vs[i]? = some v → VR σ e c v

/-- what is known of a place stays known; what lives may die -/
def Ext (e e' : Env) : Prop := ∀ b p, e b = some p → ∃ p', e' b = some p' ∧ p'.r = p.r ∧ p'.d = p.d ∧ p'.s = p.s ∧ (p'.live = true → p.live = true)

theorem Ext.refl (e : Env) : Ext e e := fun _ p h => ⟨p, h, rfl, rfl, rfl, id⟩
theorem Ext.trans {e e₁ e₂ : Env} (h : Ext e e₁) (h' : Ext e₁ e₂) : Ext e e₂ := by
  intro b p hb
  obtain ⟨p₁, h1, a, b', c, d⟩ := h b p hb
  obtain ⟨p₂, h2, a', b'', c', d'⟩ := h' b p₁ h1
  exact ⟨p₂, h2, a'.trans a, b''.trans b', c'.trans c, fun x => d (d' x)⟩

theorem VR.mono {σ : Sg} {e e' : Env} (he : Ext e e') {c : CV} {v : Value} (h : VR σ e c v) : VR σ e' c v := by
  induction h with
  | bool b => exact .bool b
  | int k n => exact .int k n
  | str s hl hc => exact .str s hl hc
  | ptr0 => exact .ptr0
  | ptr h => obtain ⟨p', h', hr, hd, _, _⟩ := he _ _ h; rw [← hr, ← hd]; exact .ptr h'
  | sl0 => exact .sl0
  | sl h => obtain ⟨p', h', hr, hd, hs, _⟩ := he _ _ h; rw [← hr, ← hd, ← hs]; exact .sl h'
  | slE r o c => exact .slE r o c
  | map0 => exact .map0
  | map h => obtain ⟨p', h', hr, _⟩ := he _ _ h; rw [← hr]; exact .map h'
  | fn f ha hb _ _ iha ihb => exact .fn f ha hb iha ihb
  | yld h => obtain ⟨p', h', hr, _⟩ := he _ _ h; rw [← hr]; exact .yld h'
  | fn0 => exact .fn0
  | ifc t _ ih => exact .ifc t ih
  | ifc0 => exact .ifc0
  | agg hl _ ih => exact .agg hl ih
  | tup hl _ ih => exact .tup hl ih
  | sym k s => exact .sym k s
  | ssym s l h => exact .ssym s l h
  | symr k s c lo cnt i n h hi hr => exact .symr k s c lo cnt i n h hi hr
  | lin k c ts => exact .lin k c ts
  | lstr bs s h => exact .lstr bs s h

theorem LR.mono {σ : Sg} {e e' : Env} (he : Ext e e') {cs : List CV} {vs : List Value} (h : LR σ e cs vs) : LR σ e' cs vs :=
  ⟨h.1, fun i c v hc hv => (h.2 i c v hc hv).mono he⟩
theorem LR.nil {σ : Sg} {e : Env} : LR σ e [] [] := ⟨rfl, fun i c v h => by simp at h⟩
theorem LR.cons {σ : Sg} {e : Env} {c : CV} {v : Value} {cs : List CV} {vs : List Value} (h : VR σ e c v) (hs : LR σ e cs vs) : LR σ e (c :: cs) (v :: vs) := by
  refine ⟨by simp [hs.1], fun i c' v' hc hv => ?_⟩
  cases i with
  | zero => simp at hc hv; subst hc; subst hv; exact h
  | succ i => simp at hc hv; exact hs.2 i c' v' hc hv
theorem LR.append {σ : Sg} {e : Env} {cs cs' : List CV} {vs vs' : List Value} (h : LR σ e cs vs) (h' : LR σ e cs' vs') : LR σ e (cs ++ cs') (vs ++ vs') := by
  refine ⟨by simp [h.1, h'.1], fun i c v hc hv => ?_⟩
  rcases Nat.lt_or_ge i cs.length with hi | hi
  · rw [List.getElem?_append_left hi] at hc
    rw [List.getElem?_append_left (h.1 ▸ hi)] at hv
    exact h.2 i c v hc hv
  · rw [List.getElem?_append_right hi] at hc
    rw [List.getElem?_append_right (h.1 ▸ hi), ← h.1] at hv
    exact h'.2 _ c v hc hv
theorem LR.get {σ : Sg} {e : Env} {cs : List CV} {vs : List Value} (h : LR σ e cs vs) {i : Nat} {c : CV} (hc : cs[i]? = some c) : ∃ v, vs[i]? = some v ∧ VR σ e c v := by
  have hi : i < cs.length := by
    rcases Nat.lt_or_ge i cs.length with h | h
    · exact h
    · rw [List.getElem?_eq_none h] at hc; cases hc
  have hv : vs[i]? = some (vs[i]'(h.1 ▸ hi)) := List.getElem?_eq_getElem _
  exact ⟨_, hv, h.2 i c _ hc hv⟩
theorem LR.cons_inv {σ : Sg} {e : Env} {c : CV} {cs : List CV} {vs : List Value} (h : LR σ e (c :: cs) vs) : ∃ v vs', vs = v :: vs' ∧ VR σ e c v ∧ LR σ e cs vs' := by
  cases vs with
  | nil => simp [LR] at h
  | cons v vs =>
    refine ⟨v, vs, rfl, h.2 0 c v (by simp) (by simp), by simpa using h.1, fun i c' v' hc hv => h.2 (i + 1) c' v' (by simpa using hc) (by simpa using hv)⟩
theorem LR.nil_inv {σ : Sg} {e : Env} {vs : List Value} (h : LR σ e [] vs) : vs = [] := by
  cases vs with
  | nil => rfl
  | cons v vs => simp [LR] at h
theorem LR.drop {σ : Sg} {e : Env} {cs : List CV} {vs : List Value} (h : LR σ e cs vs) (n : Nat) : LR σ e (cs.drop n) (vs.drop n) := by
  refine ⟨by simp [h.1], fun i c v hc hv => h.2 (n + i) c v (by simpa using hc) (by simpa using hv)⟩
theorem LR.take {σ : Sg} {e : Env} {cs : List CV} {vs : List Value} (h : LR σ e cs vs) (n : Nat) : LR σ e (cs.take n) (vs.take n) := by
  refine ⟨by simp [h.1], fun i c v hc hv => ?_⟩
  simp only [List.getElem?_take] at hc hv
  split at hc
  · rw [if_pos (by assumption)] at hv; exact h.2 i c v hc hv
  · cases hc

/-- slots -/
def TR (σ : Sg) (e : Env) (t : Tm) (T : Array Value) : Prop :=
  ∀ i, match t.get? i with
    | some c => ∃ v, T[i]? = some v ∧ VR σ e c v
    | none => T[i]? = none
theorem TR.mono {σ : Sg} {e e' : Env} (he : Ext e e') {t : Tm} {T : Array Value} (h : TR σ e t T) : TR σ e' t T := by
  intro i
  have := h i
  split at this
  · obtain ⟨v, hv, r⟩ := this; exact ⟨v, hv, r.mono he⟩
  · exact this
theorem TR.get {σ : Sg} {e : Env} {t : Tm} {T : Array Value} (h : TR σ e t T) {i : Nat} {c : CV} (hc : t.get? i = some c) : ∃ v, T[i]? = some v ∧ VR σ e c v := by
  have := h i; rw [hc] at this; exact this
theorem TR.set {σ : Sg} {e : Env} {t t' : Tm} {T : Array Value} (h : TR σ e t T) {d : Nat} {x : CV} {v : Value} (hx : VR σ e x v)
    (hy : ∃ y, t.get? d = some y) (hj : ∀ j, t'.get? j = if j = d then some x else t.get? j) : TR σ e t' (T.setIfInBounds d v) := by
  intro i
  rw [hj]
  obtain ⟨y, hy⟩ := hy
  obtain ⟨u, hu, _⟩ := h.get hy
  have hd : d < T.size := by
    rcases Nat.lt_or_ge d T.size with h | h
    · exact h
    · rw [Array.getElem?_eq_none h] at hu; cases hu
  by_cases hi : i = d
  · subst hi
    simp only [if_true]
    exact ⟨v, by simp [hd], hx⟩
  · simp only [hi, if_false]
    have := h i
    rw [Array.getElem?_setIfInBounds_ne (by omega)]
    exact this

/-- what a block's mark says of its cells' type -/
def TE (te : Nat) (el : TypeId) : Prop := ∀ T, te = T + 1 → el = T
theorem TE.zero (el : TypeId) : TE 0 el := fun _ h => by cases h
theorem TE.succ (el : TypeId) : TE (el + 1) el := fun _ h => by injection h
inductive BR (σ : Sg) (e : Env) : CB → Place → Obj → Prop
  | cells {te : Nat} {lo : Bool} {es sz : Nat} {cs : Tr CV} {p : Place} {c : Array Value} {el : TypeId} {fz : Nat × Nat} (hsz : c.size = p.d + sz + p.s * es)
      (hex : lo = false → p.d = 0 ∧ p.s = 0) (hout : ∀ i, sz ≤ i → cs.get? i = none)
      (hin : ∀ i, i < sz → ∃ cv v, cs.get? i = some cv ∧ c[p.d + i]? = some v ∧ VR σ e cv v)
      (hfz : fz = (0, 0) ∨ (lo = true ∧ es = 1 ∧ fz = (c.size, c.size + 1))) (hte : TE te el) : BR σ e (.cells te lo es sz cs) p (.cells c el fz)
  | map {es : List (CV × CV × Nat)} {clock : Nat} {p : Place} {entries : Array MapEntry} (hl : es.length = entries.toList.length)
      (hv : ∀ (i : Nat) x y, es[i]? = some x → entries.toList[i]? = some y → VR σ e x.1 y.key ∧ VR σ e x.2.1 y.val ∧ x.2.2 = y.born) : BR σ e (.map es clock) p (.map entries clock)
  | loop {st : LoopState} {pend : Option Code} {fn : FuncId} {tm : Tr CV} {params : Array Tmp} {assign body : Code} {dfb : Nat} {p pl : Place} {tmps : Array Value}
      (ht : TR σ e tm tmps) (hd : e dfb = some pl) : BR σ e (.loop st pend fn tm params assign body dfb) p (.loop { state := st, pending := pend, fn, tmps, params, assign, body, defers := pl.r })
  | dfdT {p : Place} : BR σ e (.dfd true) p (.deferred (some []))
  | dfdF {p : Place} : BR σ e (.dfd false) p (.deferred none)

theorem BR.mono {σ : Sg} {e e' : Env} (he : Ext e e') {cb : CB} {p : Place} {o : Obj} (h : BR σ e cb p o) : BR σ e' cb p o := by
  cases h with
  | cells hsz hex hout hin hfz hte => exact .cells hsz hex hout (fun i hi => by obtain ⟨cv, v, a, b, c⟩ := hin i hi; exact ⟨cv, v, a, b, c.mono he⟩) hfz hte
  | map hl hv => exact .map hl (fun i x y hx hy => by obtain ⟨a, b, c⟩ := hv i x y hx hy; exact ⟨a.mono he, b.mono he, c⟩)
  | loop ht hd => obtain ⟨p', h', hr, _⟩ := he _ _ hd; rw [← hr]; exact .loop (ht.mono he) h'
  | dfdT => exact .dfdT
  | dfdF => exact .dfdF

/-- a place is looked at by its three numbers alone -/
theorem BR.place {σ : Sg} {e : Env} {cb : CB} {p p' : Place} {o : Obj} (h : BR σ e cb p o) (hd : p'.d = p.d) (hs : p'.s = p.s) : BR σ e cb p' o := by
  cases h with
  | cells hsz hex hout hin hfz hte => exact .cells (by rw [hd, hs]; exact hsz) (by rw [hd, hs]; exact hex) hout (by rw [hd]; exact hin) hfz hte
  | map hl hv => exact .map hl hv
  | loop ht hd => exact .loop ht hd
  | dfdT => exact .dfdT
  | dfdF => exact .dfdF

def SatI (f : Nat → Int) (iv : Ivs) : Prop := ∀ s lo hi, iv[s]? = some (lo, hi) → lo ≤ f s ∧ f s ≤ hi
structure Sat (σ : Sg) (tab : Tab) : Prop where
  iv : SatI σ.i tab.iv
  ne : ∀ x, x ∈ tab.ne → lfVal σ.i x.1 x.2 ≠ 0

structure Rel (σ : Sg) (G : Nat → Bool) (e : Env) (m : M) (w : World) : Prop where
  sat : Sat σ m.tab
  blk : ∀ b p, e b = some p → p.live = true → ∃ cb o, m.h.get? b = some cb ∧ w.heap[p.r]? = some o ∧ BR σ e cb p o
  inj : ∀ b b' p p', e b = some p → e b' = some p' → p.live = true → p'.live = true → p.r = p'.r → b = b'
  bnd : ∀ b, m.n ≤ b → e b = none
  glo : ∀ g, G g = true → ∃ p, e g = some p ∧ p.r = g ∧ p.d = 0

/-- what a run keeps -/
structure Kept (e : Env) (m : M) (w : World) (e' : Env) (m' : M) (w' : World) : Prop where
  ext : Ext e e'
  nle : m.n ≤ m'.n
  unb : ∀ b, b < m.n → e b = none → e' b = none ∧ m'.h.get? b = m.h.get? b
  siz : w.heap.size ≤ w'.heap.size
  frm : ∀ r, r < w.heap.size → (∀ b p, e b = some p → p.live = true → p.r ≠ r) → w'.heap[r]? = w.heap[r]?
  rng : ∀ b p, e' b = some p → p.live = true → (∃ b₀ p₀, e b₀ = some p₀ ∧ p₀.live = true ∧ p₀.r = p.r) ∨ w.heap.size ≤ p.r
  tap : w'.tape = w.tape
  os : w'.os = w.os
  out : w'.output = w.output

theorem Kept.refl (e : Env) (m : M) (w : World) : Kept e m w e m w :=
  ⟨.refl e, Nat.le_refl _, fun _ _ h => ⟨h, rfl⟩, Nat.le_refl _, fun _ _ _ => rfl, fun b p h hl => .inl ⟨b, p, h, hl, rfl⟩, rfl, rfl, rfl⟩

theorem Kept.trans {e e₁ e₂ : Env} {m m₁ m₂ : M} {w w₁ w₂ : World} (h : Kept e m w e₁ m₁ w₁) (h' : Kept e₁ m₁ w₁ e₂ m₂ w₂) : Kept e m w e₂ m₂ w₂ := by
  refine ⟨h.ext.trans h'.ext, Nat.le_trans h.nle h'.nle, fun b hb hn => ?_, Nat.le_trans h.siz h'.siz, fun r hr hn => ?_, fun b p hb hl => ?_, h'.tap.trans h.tap, h'.os.trans h.os, h'.out.trans h.out⟩
  · obtain ⟨a, b'⟩ := h.unb b hb hn
    obtain ⟨a', b''⟩ := h'.unb b (Nat.lt_of_lt_of_le hb h.nle) a
    exact ⟨a', b''.trans b'⟩
  · rw [h'.frm r (Nat.lt_of_lt_of_le hr h.siz) ?_, h.frm r hr hn]
    intro b p hb hl he
    rcases h.rng b p hb hl with ⟨b₀, p₀, hb₀, hl₀, hr₀⟩ | hge
    · exact hn b₀ p₀ hb₀ hl₀ (hr₀.trans he)
    · omega
  · rcases h'.rng b p hb hl with ⟨b₀, p₀, hb₀, hl₀, hr₀⟩ | hge
    · rcases h.rng b₀ p₀ hb₀ hl₀ with ⟨b₁, p₁, hb₁, hl₁, hr₁⟩ | hge
      · exact .inl ⟨b₁, p₁, hb₁, hl₁, hr₁.trans hr₀⟩
      · exact .inr (hr₀ ▸ hge)
    · exact .inr (Nat.le_trans h.siz hge)

end Go.Ev

namespace Go.Ev

/-! Operands -/
def OV (G : Nat → Bool) (t : Tm) : Operand → CV → Prop
  | .tmp i, c => t.get? i = some c
  | .const v, c => ofValue v = some c
  | .global g, c => G g = true ∧ c = .ptr g 0
  | .func f, c => c = .fn (.func f) [] []

theorem getO_inv {G : Nat → Bool} {x : Operand} {t : Tm} {k : CV → Bool} (h : getO G x t k = true) : ∃ c, OV G t x c ∧ k c = true := by
  cases x with
  | tmp i => exact getK_inv h
  | const v =>
    simp only [getO] at h
    split at h
    · exact ⟨_, by assumption, h⟩
    · cases h
  | global g =>
    simp only [getO] at h
    split at h
    · exact ⟨_, ⟨by assumption, rfl⟩, h⟩
    · cases h
  | func f => exact ⟨_, rfl, h⟩

theorem getOs_inv {G : Nat → Bool} {t : Tm} : ∀ {xs : List Operand} {k : List CV → Bool}, getOs G xs t k = true →
    ∃ cs, cs.length = xs.length ∧ (∀ (i : Nat) x c, xs[i]? = some x → cs[i]? = some c → OV G t x c) ∧ k cs = true
  | [], k, h => ⟨[], rfl, fun i x c hx => by simp at hx, h⟩
  | x :: xs, k, h => by
    have h' : getO G x t (fun c => getOs G xs t fun cs => k (c :: cs)) = true := h
    obtain ⟨c, hc, h1⟩ := getO_inv h'
    obtain ⟨cs, hl, hv, hk⟩ := getOs_inv h1
    refine ⟨c :: cs, by simp [hl], fun i x' c' hx hc' => ?_, hk⟩
    cases i with
    | zero => simp at hx hc'; subst hx; subst hc'; exact hc
    | succ i => simp at hx hc'; exact hv i x' c' hx hc'

theorem ofValue_VR {σ : Sg} {e : Env} {v : Value} {c : CV} (h : ofValue v = some c) : VR σ e c v := by
  cases v with
  | bool b => simp [ofValue] at h; subst h; exact .bool b
  | int k n => simp [ofValue] at h; subst h; exact .int k n
  | string s => simp [ofValue] at h; subst h; exact .str s rfl rfl
  | pointer a => cases a <;> simp [ofValue] at h; subst h; exact .ptr0
  | slice a l c =>
    cases a with
    | none =>
      cases l with
      | zero => cases c <;> simp [ofValue] at h; subst h; exact .sl0
      | succ l => simp [ofValue] at h
    | some a => simp [ofValue] at h
  | map r => cases r <;> simp [ofValue] at h; subst h; exact .map0
  | nilFunc => simp [ofValue] at h; subst h; exact .fn0
  | nilIface => simp [ofValue] at h; subst h; exact .ifc0
  | tuple a =>
    obtain ⟨l⟩ := a
    cases l with
    | nil => simp [ofValue] at h; subst h; exact .tup rfl (fun i c v hc => by simp at hc)
    | cons x l => simp [ofValue] at h
  | _ => simp [ofValue] at h

theorem ofValues_LR {σ : Sg} {e : Env} : ∀ {vs : List Value} {cs : List CV}, ofValues vs = some cs → LR σ e cs vs
  | [], cs, h => by simp [ofValues] at h; subst h; exact .nil
  | v :: vs, cs, h => by
    simp only [ofValues] at h
    split at h
    · cases h
    · rename_i c hc
      split at h
      · cases h
      · rename_i cs' hcs
        simp at h; subst h
        exact .cons (ofValue_VR hc) (ofValues_LR hcs)

/-- what an operation may lean on: memory -/
def HR (σ : Sg) (e : Env) (h : Hp) (w : World) : Prop :=
  ∀ b p cb, e b = some p → h.get? b = some cb → if p.live then ∃ o, w.heap[p.r]? = some o ∧ BR σ e cb p o else cb = .none
def InjE (e : Env) : Prop := ∀ b b' p p', e b = some p → e b' = some p' → p.live = true → p'.live = true → p.r = p'.r → b = b'
def Env.up (e : Env) (b : Nat) (p : Place) : Env := fun x => if x = b then some p else e x
theorem Ext.up {e : Env} {b : Nat} {p : Place} (h : e b = none) : Ext e (e.up b p) := by
  intro x q hq
  have : x ≠ b := fun he => by rw [he, h] at hq; cases hq
  exact ⟨q, by simp [Env.up, this, hq], rfl, rfl, rfl, id⟩
theorem Env.up_same (e : Env) (b : Nat) (p : Place) : e.up b p b = some p := by simp [Env.up]

/-- the operation's meaning, whenever it is carried out: a value, or a value and a new block -/
def FlRes (σ : Sg) (e : Env) (w : World) (nb : Nat) (v : CV) (ncb : Option CB) (r : Result Next) : Prop := match ncb with
  | none => ∃ v', r = .ok (.value v') w ∧ VR σ e v v'
  | some cb => ∃ v' obj s dr, r = .ok (.value v') { w with heap := w.heap.push obj, drawn := dr } ∧ BR σ e cb ⟨w.heap.size, 0, s, true⟩ obj ∧ VR σ (e.up nb ⟨w.heap.size, 0, s, true⟩) v v'

def FlSem (P : Program) (σ : Sg) (G : Nat → Bool) (o : Oper) (t : Tm) (h : Hp) (nb : Nat) (v : CV) (ncb : Option CB) : Prop :=
  ∀ (e : Env) (w : World) (ρ : Operand → Value), HR σ e h w → InjE e → (∀ x, x ∈ o.op.operands → ∀ c, OV G t x c → VR σ e c (ρ x)) →
    FlRes σ e w nb v ncb ((execOp ρ o).run P w)

theorem FlSem.mono {P : Program} {σ : Sg} {G : Nat → Bool} {o : Oper} {t : Tm} {h h' : Hp} {nb : Nat} {v : CV} {ncb : Option CB} (hs : FlSem P σ G o t h nb v ncb)
    (hh : ∀ e w, HR σ e h' w → HR σ e h w) : FlSem P σ G o t h' nb v ncb := fun e w ρ hr hi ho => hs e w ρ (hh e w hr) hi ho

/-! Inversions -/
theorem asPtr_inv {v : CV} {k : Nat → Nat → Bool} (h : asPtr v k = true) : ∃ b o, v = .ptr b o ∧ k b o = true := by
  cases v <;> simp [asPtr] at h; exact ⟨_, _, rfl, h⟩
theorem asBool_inv {v : CV} {k : Bool → Bool} (h : asBool v k = true) : ∃ b, v = .bool b ∧ k b = true := by
  cases v <;> simp [asBool] at h; exact ⟨_, rfl, h⟩
theorem szK_inv {P : Program} {t : TypeId} {k : Nat → Bool} (h : szK P t k = true) : ∃ i, P.info? t = some i ∧ k i.size = true := by
  simp only [szK] at h; split at h
  · exact ⟨_, by assumption, h⟩
  · cases h
theorem withCells_inv {h : Hp} {b : Nat} {k : Nat → Bool → Nat → Nat → Tr CV → Bool} (hh : withCells h b k = true) : ∃ te lo es sz cs, h.get? b = some (.cells te lo es sz cs) ∧ k te lo es sz cs = true := by
  obtain ⟨cb, hc, hk⟩ := getK_inv hh
  cases cb <;> simp at hk
  exact ⟨_, _, _, _, _, hc, hk⟩
theorem kB_inv {b : Bool} {k : CV → Bool} (h : kB b k = true) : k (.bool b) = true := by cases b <;> exact h
theorem isTrue_inv {b k : Bool} (h : isTrue b k = true) : b = true ∧ k = true := by cases b <;> simp_all [isTrue]
theorem allB_inv {n : Nat} {f : Nat → Bool} (h : allB n f = true) : ∀ i, i < n → f i = true := by
  induction n with
  | zero => intro i hi; omega
  | succ p ih =>
    intro i hi
    cases p with
    | zero =>
      have : i = 0 := by omega
      rw [this]; exact h
    | succ p =>
      have h' : (match f (p + 1) with | true => allB (p + 1) f | false => false) = true := h
      cases hf : f (p + 1) with
      | false => rw [hf] at h'; cases h'
      | true =>
        rw [hf] at h'
        rcases Nat.lt_or_ge i (p + 1) with hlt | hge
        · exact ih h' i hlt
        · have : i = p + 1 := by omega
          rw [this, hf]

theorem satI_set {g : Nat → Int} : ∀ {iv : Ivs} {s : Nat} {lo hi : Int}, SatI g iv → lo ≤ g s → g s ≤ hi → SatI g (setIv iv s (lo, hi)) := by
  intro iv s lo hi h h1 h2
  have key : ∀ (iv : Ivs) (s j : Nat), (setIv iv s (lo, hi))[j]? = if j = s then (iv[j]?).map fun _ => (lo, hi) else iv[j]? := by
    intro iv
    induction iv with
    | nil => intro s j; simp [setIv]
    | cons a l ih =>
      intro s j
      cases s with
      | zero => cases j <;> simp [setIv]
      | succ s =>
        cases j with
        | zero => simp [setIv]
        | succ j => simp only [setIv, List.getElem?_cons_succ, ih]; simp
  intro j lo' hi' hj
  rw [key] at hj
  split at hj
  · rename_i he
    subst he
    cases ht : iv[j]? with
    | none => rw [ht] at hj; cases hj
    | some x => rw [ht] at hj; simp at hj; rw [← hj.1, ← hj.2]; exact ⟨h1, h2⟩
  · exact h j lo' hi' hj
theorem sat_set {σ : Sg} {tab : Tab} {s : Nat} {lo hi : Int} (h : Sat σ tab) (h1 : lo ≤ σ.i s) (h2 : σ.i s ≤ hi) : Sat σ (setTab tab s (lo, hi)) :=
  ⟨satI_set h.iv h1 h2, h.ne⟩

/-- a number as the real value has it -/
theorem asNat_inv {σ : Sg} {v : CV} {tab : Tab} {k : Nat → Tab → Bool} (h : asNat v tab k = true) (hs : Sat σ tab) :
    ∃ n tab', k n tab' = true ∧ Sat σ tab' ∧ ∃ kd, ∀ e v', VR σ e v v' → v' = .int kd (n : Int) := by
  cases v with
  | int kd n =>
    cases n with
    | ofNat m => exact ⟨m, tab, h, hs, kd, fun e v' hv => by cases hv; rfl⟩
    | negSucc m => cases h
  | sym kd s =>
    simp only [asNat] at h
    split at h
    · rename_i lo hi ht
      split at h
      · rename_i hle
        have hb := hs.iv s _ _ ht
        have h0 : (0 : Int) ≤ σ.i s := Int.le_trans (Int.natCast_nonneg lo) hb.1
        obtain ⟨n, hn⟩ := Int.eq_ofNat_of_zero_le h0
        have h1 : lo ≤ n := by have := hb.1; rw [hn] at this; exact Int.ofNat_le.1 this
        have h2 : n ≤ hi := by have := hb.2; rw [hn] at this; exact Int.ofNat_le.1 this
        have hk := allB_inv h (n - lo) (by omega)
        rw [forceN_eq] at hk
        have he : lo + (n - lo) = n := by omega
        rw [he] at hk
        exact ⟨n, _, hk, sat_set hs (by rw [hn]; exact Int.le_refl _) (by rw [hn]; exact Int.le_refl _), kd, fun e v' hv => by cases hv; rw [hn]⟩
      · cases h
    · cases h
  | _ => cases h

theorem szRun {P : Program} {t : TypeId} {i : TypeInfo} (h : P.info? t = some i) (w : World) : (sizeOf t).run P w = .ok i.size w := by
  simp [sizeOf, typeInfo, h]
theorem undRun {P : Program} {t : TypeId} {d : TypeDesc} (h : P.underlying t = some d) (w : World) : (underlying t).run P w = .ok d w := by
  simp [underlying, h]
theorem addr_add (r o n : Nat) : (⟨r, o, none⟩ : Addr).add n = ⟨r, o + n, none⟩ := by
  unfold Addr.add; split
  · rename_i h; simp [h]
  · rfl

theorem zeroOf_inv {P : Program} {t : TypeId} {z : List CV} (h : zeroOf P t = some z) : ∃ i v, P.info? t = some i ∧ i.zero = some v ∧ ofValues v.cells.toList = some z := by
  simp only [zeroOf] at h
  split at h
  · rename_i i hi
    split at h
    · rename_i v hv; exact ⟨i, v, hi, hv, h⟩
    · cases h
  · cases h
theorem zeroVal_inv {P : Program} {t : TypeId} {c : CV} (h : zeroVal P t = some c) : ∃ i v, P.info? t = some i ∧ i.zero = some v ∧ ∀ σ e, VR σ e c v := by
  simp only [zeroVal] at h
  split at h
  · rename_i i hi
    split at h
    · rename_i cs hv
      split at h
      · rename_i z hz
        simp at h; subst h
        exact ⟨i, _, hi, hv, fun σ e => .agg (ofValues_LR (σ := σ) (e := e) hz).1 (ofValues_LR hz).2⟩
      · cases h
    · rename_i v _ hv; exact ⟨i, _, hi, hv, fun σ e => ofValue_VR h⟩
    · cases h
  · cases h
theorem zeroRun {P : Program} {t : TypeId} {i : TypeInfo} {v : Value} (h : P.info? t = some i) (hz : i.zero = some v) (w : World) : (zeroValue t).run P w = .ok v w := by
  simp [zeroValue, typeInfo, h, hz]

theorem cells_LR {σ : Sg} {e : Env} {c : CV} {v : Value} (h : VR σ e c v) : LR σ e (cellsOfCV c) v.cells.toList := by
  have one : ∀ {c v}, VR σ e c v → cellsOfCV c = [c] → v.cells = #[v] → LR σ e (cellsOfCV c) v.cells.toList := by
    intro c v h h1 h2; rw [h1, h2]; exact .cons h .nil
  cases h with
  | agg hl hv => exact ⟨hl, hv⟩
  | _ => exact one (by constructor <;> assumption) rfl rfl

/-! Memory -/
theorem HR.cells {σ : Sg} {e : Env} {h : Hp} {w : World} (hr : HR σ e h w) {b : Nat} {p : Place} (hb : e b = some p) {te : Nat} {lo : Bool} {es sz : Nat} {cs : Tr CV} (hc : h.get? b = some (.cells te lo es sz cs)) :
    p.live = true ∧ ∃ c el fz, w.heap[p.r]? = some (.cells c el fz) ∧ c.size = p.d + sz + p.s * es ∧ (lo = false → p.d = 0 ∧ p.s = 0) ∧ (∀ i, sz ≤ i → cs.get? i = none) ∧
      (∀ i, i < sz → ∃ cv v, cs.get? i = some cv ∧ c[p.d + i]? = some v ∧ VR σ e cv v) ∧ (fz = (0, 0) ∨ (lo = true ∧ es = 1 ∧ fz = (c.size, c.size + 1))) ∧ TE te el := by
  have := hr b p _ hb hc
  split at this
  · rename_i hl
    obtain ⟨o, h2, h3⟩ := this
    cases h3 with
    | cells hsz hex hout hin hfz hte => exact ⟨hl, _, _, _, h2, hsz, hex, hout, hin, hfz, hte⟩
  · cases this

/-- the cells that a trie holds from a place on -/
def Row (cs : Tr CV) : Nat → List CV → Prop
  | _, [] => True
  | off, c :: l => cs.get? off = some c ∧ Row cs (off + 1) l
theorem loadN_inv {cs : Tr CV} : ∀ {n off : Nat} {k : List CV → Bool}, loadN cs n off k = true → ∃ l, l.length = n ∧ Row cs off l ∧ k l = true
  | 0, off, k, h => ⟨[], rfl, trivial, h⟩
  | n + 1, off, k, h => by
    have h' : getK cs off (fun c => loadN cs n (off + 1) fun l => k (c :: l)) = true := h
    obtain ⟨c, hc, h1⟩ := getK_inv h'
    obtain ⟨l, hl, hr, hk⟩ := loadN_inv h1
    exact ⟨c :: l, by simp [hl], ⟨hc, hr⟩, hk⟩
theorem Row.get {cs : Tr CV} : ∀ {l : List CV} {off i : Nat} {c : CV}, Row cs off l → l[i]? = some c → cs.get? (off + i) = some c
  | [], _, _, _, _, h => by simp at h
  | x :: l, off, 0, c, hr, h => by simp at h; subst h; exact hr.1
  | x :: l, off, i + 1, c, hr, h => by
    have := Row.get (off := off + 1) hr.2 (by simpa using h)
    rwa [show off + 1 + i = off + (i + 1) by omega] at this

/-- the real cells of a row -/
theorem row_real {σ : Sg} {e : Env} {cs : Tr CV} {c : Array Value} {d sz off : Nat} (hout : ∀ i, sz ≤ i → cs.get? i = none)
    (hin : ∀ i, i < sz → ∃ cv v, cs.get? i = some cv ∧ c[d + i]? = some v ∧ VR σ e cv v) {l : List CV} (hr : Row cs off l) :
    ∃ vs : List Value, LR σ e l vs ∧ ∀ (i : Nat) v, vs[i]? = some v → c[off + d + i]? = some v := by
  induction l generalizing off with
  | nil => exact ⟨[], .nil, fun i v h => by simp at h⟩
  | cons x l ih =>
    obtain ⟨h0, hr'⟩ := hr
    have hlt : off < sz := by
      rcases Nat.lt_or_ge off sz with h | h
      · exact h
      · rw [hout off h] at h0; cases h0
    obtain ⟨cv, v, h1, h2, h3⟩ := hin off hlt
    rw [h0] at h1; cases h1
    obtain ⟨vs, hvs, hv⟩ := ih hr'
    refine ⟨v :: vs, .cons h3 hvs, fun i u hu => ?_⟩
    cases i with
    | zero => simp at hu; subst hu; rw [show off + d + 0 = d + off by omega]; exact h2
    | succ i => simp at hu; have := hv i u hu; rwa [show off + 1 + d + i = off + d + (i + 1) by omega] at this

theorem run_loadRow {P : Program} {w : World} {r o : Nat} {c : Array Value} {el : TypeId} {fz : Nat × Nat} (hw : w.heap[r]? = some (.cells c el fz)) (vs : List Value)
    (hv : ∀ (i : Nat) v, vs[i]? = some v → c[o + i]? = some v) : (loadCells ⟨r, o, none⟩ vs.length).run P w = .ok vs.toArray w :=
  run_loadCells_list w _ vs fun j v hj => by rw [addr_add]; simp [World.cell?, hw, hv j v hj]

theorem loadC_inv {P : Program} {h : Hp} {ty : TypeId} {b off : Nat} {k : CV → Bool} (hl : loadC P ty b off h k = true) :
    ∃ c, k c = true ∧ ∀ {σ : Sg} {e : Env} {w : World}, HR σ e h w → ∀ p, e b = some p → ∃ v, (loadVar ty ⟨p.r, off + p.d, none⟩).run P w = .ok v w ∧ VR σ e c v := by
  obtain ⟨te, lo, es, sz, cs, hc, hk⟩ := withCells_inv hl
  split at hk
  · rename_i ha
    obtain ⟨i, hi, hk⟩ := szK_inv hk
    obtain ⟨l, hlen, hrow, hk⟩ := loadN_inv hk
    refine ⟨_, hk, fun {σ e w} hr p hb => ?_⟩
    obtain ⟨_, c, el, fz, hw, _, _, hout, hin, _⟩ := hr.cells hb hc
    obtain ⟨vs, hvs, hv⟩ := row_real hout hin hrow
    have hrun := run_loadRow (P := P) hw vs hv
    have hlv : vs.length = i.size := hvs.1.symm.trans hlen
    have hagg : ∃ d, P.underlying ty = some d ∧ ((∃ fs, d = .struct fs) ∨ ∃ n el, d = .array n el) := by
      simp only [aggT] at ha
      split at ha <;> first | exact ⟨_, by assumption, .inl ⟨_, rfl⟩⟩ | exact ⟨_, by assumption, .inr ⟨_, _, rfl⟩⟩ | cases ha
    refine ⟨.agg vs.toArray, ?_, .agg hvs.1 hvs.2⟩
    obtain ⟨d, hd, hd'⟩ := hagg
    rw [hlv] at hrun
    rcases hd' with ⟨fs, rfl⟩ | ⟨n, el', rfl⟩ <;> simp [loadVar, isAgg, undRun hd, szRun hi, hrun]
  · rename_i ha
    obtain ⟨c, hg, hk⟩ := getK_inv hk
    refine ⟨c, hk, fun {σ e w} hr p hb => ?_⟩
    obtain ⟨_, cc, el, fz, hw, _, _, hout, hin, _⟩ := hr.cells hb hc
    have hlt : off < sz := by
      rcases Nat.lt_or_ge off sz with h | h
      · exact h
      · rw [hout off h] at hg; cases hg
    obtain ⟨cv, v, h1, h2, h3⟩ := hin off hlt
    rw [hg] at h1; cases h1
    have hcell : w.cell? ⟨p.r, off + p.d, none⟩ = some v := by simp [World.cell?, hw, Nat.add_comm off p.d, h2]
    refine ⟨v, ?_, h3⟩
    simp only [aggT] at ha
    split at ha
    · cases ha
    · cases ha
    · rename_i d hn1 hn2 hd
      have : (isAgg ty).run P w = .ok false w := by
        simp only [isAgg, Sem.run_bind, undRun hd, Result.andThen_ok]
        cases d <;> first | rfl | (exact absurd rfl (hn1 _)) | (exact absurd rfl (hn2 _ _))
      simp [loadVar, this, hcell]
    · cases ha
  · cases hk

end Go.Ev

namespace Go.Ev

/-! Integers -/
theorem ltI_eq (a b : Int) : ltI a b = decide (a < b) := by
  cases a with
  | ofNat a =>
    cases b with
    | ofNat b => simp only [ltI]; rw [Bool.eq_iff_iff]; simp [Nat.blt_eq]
    | negSucc b => simp only [ltI]; symm; simp; omega
  | negSucc a =>
    cases b with
    | ofNat b => simp only [ltI]; symm; simp; omega
    | negSucc b => simp only [ltI]; rw [Bool.eq_iff_iff]; simp [Nat.blt_eq]; omega
theorem eqI_eq (a b : Int) : eqI a b = decide (a = b) := by
  cases a with
  | ofNat a =>
    cases b with
    | ofNat b => simp only [eqI]; rw [Bool.eq_iff_iff]; simp [Nat.beq_eq]; exact Int.ofNat_inj.symm
    | negSucc b => simp [eqI]
  | negSucc a =>
    cases b with
    | ofNat b => simp [eqI]
    | negSucc b => simp only [eqI]; rw [Bool.eq_iff_iff]; simp [Nat.beq_eq]
theorem leI_eq (a b : Int) : leI a b = decide (a ≤ b) := by
  simp only [leI, ltI_eq]
  by_cases h : b < a
  · simp [h, Int.not_le.2 h]
  · simp [h, Int.not_lt.1 h]

theorem wrap_in {kd : IntKind} {x : Int} (h1 : kd.min ≤ x) (h2 : x ≤ kd.max) : kd.wrap x = x := by
  cases kd <;> simp [IntKind.min, IntKind.max, IntKind.signed, IntKind.bits] at h1 h2 <;> simp [IntKind.wrap, IntKind.signed, IntKind.bits] <;> omega

theorem wrapK_inv {kd : IntKind} {x : Int} {k : Int → Bool} (h : wrapK kd x k = true) : k (kd.wrap x) = true := by
  simp only [wrapK] at h
  split at h
  · rename_i hb
    simp only [leI_eq, Bool.and_eq_true, decide_eq_true_eq] at hb
    rw [forceI_eq] at h
    rw [wrap_in hb.1 hb.2]; exact h
  · rw [forceI_eq] at h; exact h

theorem intOp_inv {op : BinOp} {kd kd' : IntKind} {a b : Int} {k : CV → Bool} (h : intOp op kd a b k = true) (hk : kd = kd' ∨ op = .shl ∨ op = .shr) :
    ∃ c v, k c = true ∧ (∀ σ e, VR σ e c v) ∧ ∀ (P : Program) (ty : TypeId) (w : World), (binOp op ty (.int kd a) (.int kd' b)).run P w = .ok v w := by
  have same : op ≠ .shl → op ≠ .shr → kd = kd' := fun h1 h2 => by rcases hk with h | h | h <;> simp_all
  cases op with
  | add => obtain rfl := same (by simp) (by simp); exact ⟨_, _, wrapK_inv h, fun _ _ => .int _ _, fun P ty w => by simp [binOp, Op.intArith]⟩
  | sub => obtain rfl := same (by simp) (by simp); exact ⟨_, _, wrapK_inv h, fun _ _ => .int _ _, fun P ty w => by simp [binOp, Op.intArith]⟩
  | mul => obtain rfl := same (by simp) (by simp); exact ⟨_, _, wrapK_inv h, fun _ _ => .int _ _, fun P ty w => by simp [binOp, Op.intArith]⟩
  | quo =>
    obtain rfl := same (by simp) (by simp)
    simp only [intOp, eqI_eq] at h
    split at h
    · cases h
    · rename_i hb
      have hb' : b ≠ 0 := by simpa using hb
      exact ⟨_, _, wrapK_inv h, fun _ _ => .int _ _, fun P ty w => by simp [binOp, Op.intDiv, hb']⟩
  | rem =>
    obtain rfl := same (by simp) (by simp)
    simp only [intOp, eqI_eq] at h
    split at h
    · cases h
    · rename_i hb
      have hb' : b ≠ 0 := by simpa using hb
      rw [forceI_eq] at h
      exact ⟨_, _, h, fun _ _ => .int _ _, fun P ty w => by simp [binOp, Op.intDiv, hb']⟩
  | and => obtain rfl := same (by simp) (by simp); simp only [intOp, forceI_eq] at h; exact ⟨_, _, h, fun _ _ => .int _ _, fun P ty w => by simp [binOp, Op.intBits]⟩
  | or => obtain rfl := same (by simp) (by simp); simp only [intOp, forceI_eq] at h; exact ⟨_, _, h, fun _ _ => .int _ _, fun P ty w => by simp [binOp, Op.intBits]⟩
  | xor => cases h
  | andNot => cases h
  | shl =>
    simp only [intOp, ltI_eq] at h
    split at h
    · cases h
    · rename_i hb
      have hb' : ¬ b < 0 := by simpa using hb
      exact ⟨_, _, wrapK_inv h, fun _ _ => .int _ _, fun P ty w => by simp [binOp, Op.shift, hb']⟩
  | shr =>
    simp only [intOp, ltI_eq] at h
    split at h
    · cases h
    · rename_i hb
      have hb' : ¬ b < 0 := by simpa using hb
      rw [forceI_eq] at h
      exact ⟨_, _, h, fun _ _ => .int _ _, fun P ty w => by simp [binOp, Op.shift, hb']⟩
  | eql => obtain rfl := same (by simp) (by simp); exact ⟨_, _, kB_inv h, fun _ _ => .bool _, fun P ty w => by simp [binOp, Op.intCmp, eqI_eq]; rfl⟩
  | neq => obtain rfl := same (by simp) (by simp); exact ⟨_, _, kB_inv h, fun _ _ => .bool _, fun P ty w => by simp [binOp, Op.intCmp, eqI_eq]; rfl⟩
  | lss => obtain rfl := same (by simp) (by simp); exact ⟨_, _, kB_inv h, fun _ _ => .bool _, fun P ty w => by simp [binOp, Op.intCmp, ltI_eq]⟩
  | leq => obtain rfl := same (by simp) (by simp); exact ⟨_, _, kB_inv h, fun _ _ => .bool _, fun P ty w => by simp [binOp, Op.intCmp, leI_eq]⟩
  | gtr => obtain rfl := same (by simp) (by simp); exact ⟨_, _, kB_inv h, fun _ _ => .bool _, fun P ty w => by simp [binOp, Op.intCmp, ltI_eq]⟩
  | geq => obtain rfl := same (by simp) (by simp); exact ⟨_, _, kB_inv h, fun _ _ => .bool _, fun P ty w => by simp [binOp, Op.intCmp, leI_eq]⟩

/-! Symbols -/
theorem symLt_inv {σ : Sg} {s : Nat} {c : Int} {tab : Tab} {k : Bool → Tab → Bool} (h : symLt s c tab k = true) (hs : Sat σ tab) :
    ∃ tab', k (decide (σ.i s < c)) tab' = true ∧ Sat σ tab' := by
  simp only [symLt] at h
  split at h
  · rename_i lo hi ht
    have hb := hs.iv s lo hi ht
    simp only [ltI_eq] at h
    split at h
    · rename_i h1
      have h1 : hi < c := by simpa using h1
      have : σ.i s < c := by omega
      exact ⟨tab, by simpa [this] using h, hs⟩
    · split at h
      · rename_i h1
        have h1 : ¬ lo < c := by simpa using h1
        have : ¬ σ.i s < c := by omega
        exact ⟨tab, by simpa [this] using h, hs⟩
      · rw [Bool.and_eq_true] at h
        by_cases hc : σ.i s < c
        · exact ⟨_, by simpa [hc] using h.1, sat_set hs hb.1 (by omega)⟩
        · exact ⟨_, by simpa [hc] using h.2, sat_set hs (by omega) hb.2⟩
  · cases h
theorem symEq_inv {σ : Sg} {s : Nat} {c : Int} {tab : Tab} {k : Bool → Tab → Bool} (h : symEq s c tab k = true) (hs : Sat σ tab) :
    ∃ tab', k (decide (σ.i s = c)) tab' = true ∧ Sat σ tab' := by
  simp only [symEq] at h
  split at h
  · rename_i lo hi ht
    have hb := hs.iv s lo hi ht
    simp only [ltI_eq] at h
    split at h
    · rename_i h1
      simp only [Bool.or_eq_true, decide_eq_true_eq] at h1
      have : ¬ σ.i s = c := by omega
      exact ⟨tab, by simpa [this] using h, hs⟩
    · rw [Bool.and_eq_true, Bool.and_eq_true] at h
      obtain ⟨h1, h2, h3⟩ := h
      by_cases hc : σ.i s = c
      · exact ⟨_, by simpa [hc] using h1, sat_set hs (by omega) (by omega)⟩
      · rcases Int.lt_or_gt_of_ne hc with hlt | hgt
        · have : lo < c := by omega
          simp only [this, decide_true] at h2
          exact ⟨_, by simpa [hc] using h2, sat_set hs hb.1 (by omega)⟩
        · have : c < hi := by omega
          simp only [this, decide_true] at h3
          exact ⟨_, by simpa [hc] using h3, sat_set hs (by omega) hb.2⟩
  · cases h
/-- a comparison, as integers have it -/
def cmpB : BinOp → Int → Int → Bool
  | .eql, a, b => decide (a = b)
  | .neq, a, b => !decide (a = b)
  | .lss, a, b => decide (a < b)
  | .leq, a, b => decide (a ≤ b)
  | .gtr, a, b => decide (b < a)
  | .geq, a, b => decide (b ≤ a)
  | _, _, _ => false
theorem cmp_run {op : BinOp} (h : isCmp op = true) (kd : IntKind) (a b : Int) (P : Program) (ty : TypeId) (w : World) :
    (binOp op ty (.int kd a) (.int kd b)).run P w = .ok (.bool (cmpB op a b)) w := by
  cases op <;> first | (cases h; done) | (simp [binOp, Op.intCmp, cmpB]; try rfl)
theorem symCmp_inv {σ : Sg} {op : BinOp} {s : Nat} {c : Int} {tab : Tab} {k : Bool → Tab → Bool} (h : symCmp op s c tab k = true) (hs : Sat σ tab) :
    isCmp op = true ∧ ∃ tab', k (cmpB op (σ.i s) c) tab' = true ∧ Sat σ tab' := by
  cases op <;> first | (cases h; done) | skip
  · exact ⟨rfl, symEq_inv (k := k) h hs⟩
  · exact ⟨rfl, symEq_inv (k := fun b => k (!b)) h hs⟩
  · exact ⟨rfl, symLt_inv (k := k) h hs⟩
  · obtain ⟨tab', h1, h2⟩ := symLt_inv (k := k) h hs
    exact ⟨rfl, tab', by simpa [cmpB, Int.lt_add_one_iff] using h1, h2⟩
  · obtain ⟨tab', h1, h2⟩ := symLt_inv (k := fun b => k (!b)) h hs
    refine ⟨rfl, tab', ?_, h2⟩
    have : cmpB .gtr (σ.i s) c = (!decide (σ.i s < c + 1)) := by
      simp only [cmpB]
      by_cases hh : c < σ.i s
      · simp [hh]; omega
      · simp [hh]; omega
    rw [this]; exact h1
  · obtain ⟨tab', h1, h2⟩ := symLt_inv (k := fun b => k (!b)) h hs
    refine ⟨rfl, tab', ?_, h2⟩
    have : cmpB .geq (σ.i s) c = (!decide (σ.i s < c)) := by
      simp only [cmpB]
      by_cases hh : c ≤ σ.i s
      · simp [hh]
      · simp [hh]; omega
    rw [this]; exact h1
theorem flip_cmp {op : BinOp} (h : isCmp (flip op) = true) (a b : Int) : isCmp op = true ∧ cmpB (flip op) a b = cmpB op b a := by
  cases op <;> first | (cases h; done) | (refine ⟨rfl, ?_⟩; simp [flip, cmpB]) <;> (try (by_cases hh : a = b <;> simp [hh, eq_comm]))
theorem symRem_inv {σ : Sg} {kd : IntKind} {s : Nat} {c : Int} {tab : Tab} {k : CV → Tab → Bool} (h : symRem kd s c tab k = true) (hs : Sat σ tab) :
    ∃ v, k (.int kd v) tab = true ∧ ∀ (P : Program) (ty : TypeId) (w : World), (binOp .rem ty (.int kd (σ.i s)) (.int kd c)).run P w = .ok (.int kd v) w := by
  simp only [symRem] at h
  split at h
  · rename_i lo hi m ht
    split at h
    · have hb := hs.iv s _ _ ht
      have h0 : (0 : Int) ≤ σ.i s := Int.le_trans (Int.natCast_nonneg lo) hb.1
      obtain ⟨n, hn⟩ := Int.eq_ofNat_of_zero_le h0
      have hlt : n % (m + 1) < m + 1 := Nat.mod_lt _ (by omega)
      have := allB_inv h (n % (m + 1)) hlt
      rw [forceN_eq] at this
      refine ⟨_, this, fun P ty w => ?_⟩
      have hm : (Int.ofNat (m + 1)) ≠ 0 := by intro hh; cases hh
      have e1 : (n : Int).tmod (Int.ofNat (m + 1)) = Int.ofNat (n % (m + 1)) := rfl
      have hm' : Int.ofNat m.succ ≠ 0 := hm
      rw [hn]
      simp only [binOp, ne_eq, not_true_eq_false, if_false, Op.intDiv, hm', Sem.run_pure]
      rfl
    · cases h
  · cases h

end Go.Ev

namespace Go.Ev

/-! Linear forms: what they stand for -/
theorem insT_val (f : Nat → Int) (a : Int) (s : Nat) : ∀ ts : Ts, tsVal f (insT a s ts) = a * f s + tsVal f ts
  | [] => rfl
  | (b, t) :: l => by
    simp only [insT]
    split
    · rename_i h
      have h : s = t := by simpa using h
      subst h
      rw [eqI_eq]
      split
      · rename_i h0
        have h0 : a + b = 0 := by simpa using h0
        simp only [tsVal, ← Int.add_assoc, ← Int.add_mul, h0]
        omega
      · simp only [tsVal, Int.add_mul]; omega
    · split
      · rfl
      · simp only [tsVal, insT_val f a s l]; omega
theorem addTs_val (f : Nat → Int) : ∀ xs ys : Ts, tsVal f (addTs xs ys) = tsVal f xs + tsVal f ys
  | [], ys => by simp [addTs, tsVal]
  | (a, s) :: xs, ys => by simp only [addTs, insT_val, addTs_val f xs ys, tsVal]; omega
theorem scaleTs_val (f : Nat → Int) (c : Int) : ∀ ts : Ts, tsVal f (scaleTs c ts) = c * tsVal f ts
  | [] => by simp [scaleTs, tsVal]
  | (a, s) :: l => by simp only [scaleTs, tsVal, scaleTs_val f c l, Int.mul_add, Int.mul_assoc]
theorem mulTs_val (f : Nat → Int) (c : Int) (ts : Ts) : tsVal f (mulTs c ts) = c * tsVal f ts := by
  simp only [mulTs, eqI_eq]
  split
  · rename_i h
    have h : c = 0 := by simpa using h
    rw [h]; simp [tsVal]
  · exact scaleTs_val f c ts
theorem subTs_val (f : Nat → Int) (xs ys : Ts) : tsVal f (subTs xs ys) = tsVal f xs - tsVal f ys := by
  rw [subTs, addTs_val, scaleTs_val]; omega
theorem divTs_val (f : Nat → Int) (c : Int) : ∀ ts : Ts, (∀ x ∈ ts, c ∣ x.1) → c * tsVal f (divTs c ts) = tsVal f ts
  | [], _ => by simp [divTs, tsVal]
  | (a, s) :: l, h => by
    simp only [divTs, tsVal, Int.mul_add, divTs_val f c l (fun x hx => h x (List.mem_cons_of_mem _ hx)), ← Int.mul_assoc]
    rw [Int.mul_ediv_cancel' (h (a, s) (by simp))]
theorem bndT_val {g : Nat → Int} {iv : Ivs} (hs : SatI g iv) : ∀ {ts : Ts} {lo hi : Int}, bndT iv ts = some (lo, hi) → lo ≤ tsVal g ts ∧ tsVal g ts ≤ hi
  | [], lo, hi, h => by
    simp only [bndT, Option.some.injEq, Prod.mk.injEq] at h
    obtain ⟨rfl, rfl⟩ := h
    simp [tsVal]
  | (a, s) :: l, lo, hi, h => by
    simp only [bndT, leI_eq] at h
    split at h
    · rename_i l1 h1 hs1
      split at h
      · rename_i x y hxy
        have ih := bndT_val hs hxy
        have hb := hs s _ _ hs1
        split at h
        · rename_i ha
          have ha : 0 ≤ a := by simpa using ha
          simp only [Option.some.injEq, Prod.mk.injEq] at h
          obtain ⟨rfl, rfl⟩ := h
          have e1 := Int.mul_le_mul_of_nonneg_left hb.1 ha
          have e2 := Int.mul_le_mul_of_nonneg_left hb.2 ha
          simp only [tsVal]; omega
        · rename_i ha
          have ha : a ≤ 0 := by have : ¬ 0 ≤ a := by simpa using ha
                                omega
          simp only [Option.some.injEq, Prod.mk.injEq] at h
          obtain ⟨rfl, rfl⟩ := h
          have e1 := Int.mul_le_mul_of_nonpos_left ha hb.1
          have e2 := Int.mul_le_mul_of_nonpos_left ha hb.2
          simp only [tsVal]; omega
      · cases h
    · cases h
theorem bndL_val {g : Nat → Int} {iv : Ivs} (hs : SatI g iv) {c : Int} {ts : Ts} {lo hi : Int} (h : bndL iv c ts = some (lo, hi)) : lo ≤ lfVal g c ts ∧ lfVal g c ts ≤ hi := by
  simp only [bndL] at h
  split at h
  · rename_i l1 h1 hb
    have := bndT_val hs hb
    simp only [Option.some.injEq, Prod.mk.injEq] at h
    obtain ⟨rfl, rfl⟩ := h
    simp only [lfVal]; omega
  · cases h
theorem filter_val (g : Nat → Int) (p : Int × Nat → Bool) : ∀ ts : Ts, tsVal g ts = tsVal g (ts.filter p) + tsVal g (ts.filter fun x => !p x)
  | [] => by simp [tsVal]
  | x :: l => by
    have ih := filter_val g p l
    obtain ⟨a, s⟩ := x
    cases hp : p (a, s) <;> simp [hp, tsVal] <;> omega
theorem quoRem_val {g : Nat → Int} {iv : Ivs} (hs : SatI g iv) {c : Int} {ts : Ts} {d : Int} {q r : Int × Ts} (h : quoRem iv c ts d = some (q, r)) :
    0 < d ∧ 0 ≤ lfVal g c ts ∧ lfVal g q.1 q.2 = lfVal g c ts / d ∧ lfVal g r.1 r.2 = lfVal g c ts % d := by
  simp only [quoRem, ltI_eq, leI_eq] at h
  split at h
  · cases h
  · rename_i hd
    have hd : 0 < d := by simpa using hd
    split at h
    · cases h
    · rename_i lo hi hb
      split at h
      · cases h
      · rename_i lo' hi' hb'
        split at h
        · rename_i hc
          simp only [Bool.and_eq_true, decide_eq_true_eq] at hc
          simp only [Option.some.injEq, Prod.mk.injEq] at h
          obtain ⟨rfl, rfl⟩ := h
          have b1 := bndL_val hs hb
          have b2 := bndL_val hs hb'
          have hf := filter_val g (fun x => dvdI d x.1) ts
          have hdv := divTs_val g d (ts.filter fun x => dvdI d x.1) (fun x hx => by
            have := (List.mem_filter.1 hx).2
            exact Int.dvd_of_emod_eq_zero (by simpa [dvdI, eqI_eq] using this))
          have hcm := Int.emod_add_mul_ediv c d
          have key : lfVal g c ts = lfVal g (c % d) (ts.filter fun x => !dvdI d x.1) + d * lfVal g (c / d) (divTs d (ts.filter fun x => dvdI d x.1)) := by
            simp only [lfVal, Int.mul_add]
            rw [hdv]
            omega
          have huniq := (Int.ediv_emod_unique hd (a := lfVal g c ts) (r := lfVal g (c % d) (ts.filter fun x => !dvdI d x.1)) (q := lfVal g (c / d) (divTs d (ts.filter fun x => dvdI d x.1)))).2 ⟨key.symm, by omega, by omega⟩
          exact ⟨hd, by omega, huniq.1.symm, huniq.2.symm⟩
        · cases h
theorem eqTs_eq : ∀ {xs ys : Ts}, eqTs xs ys = true → xs = ys
  | [], [], _ => rfl
  | (a, s) :: l, (b, t) :: l', h => by
    simp only [eqTs, eqI_eq, Bool.and_eq_true, Nat.beq_eq, decide_eq_true_eq] at h
    obtain ⟨rfl, rfl, h⟩ := h
    rw [eqTs_eq h]
  | [], _ :: _, h => by cases h
  | _ :: _, [], h => by cases h
theorem timesOf_val {g : Nat → Int} {iv : Ivs} (hs : SatI g iv) {c c' : Int} {ts ts' : Ts} {q : Int} (h : timesOf iv c ts c' ts' = some q) :
    0 < lfVal g c' ts' ∧ lfVal g c ts = q * lfVal g c' ts' := by
  simp only [timesOf, ltI_eq, eqI_eq] at h
  split at h
  · cases h
  · rename_i lo hi hb
    have b1 := bndL_val hs hb
    split at h
    · rename_i hc
      simp only [Bool.and_eq_true, decide_eq_true_eq] at hc
      obtain ⟨h1, h2, h3⟩ := hc
      obtain rfl : headQ ts ts' = q := Option.some.inj h
      refine ⟨by omega, ?_⟩
      have h3 := eqTs_eq h3
      have h4 : tsVal g ts = headQ ts ts' * tsVal g ts' := by
        have := congrArg (tsVal g) h3
        rwa [mulTs_val] at this
      simp only [lfVal, Int.mul_add]
      rw [← h2, ← h4]
    · cases h
theorem isNe_inv {g : Nat → Int} {c : Int} {ts : Ts} : ∀ {l : List (Int × Ts)}, isNe c ts l = true → (∀ x, x ∈ l → lfVal g x.1 x.2 ≠ 0) → lfVal g c ts ≠ 0
  | [], h, _ => by cases h
  | (c', ts') :: l, h, hl => by
    simp only [isNe] at h
    split at h
    · rename_i hc
      have h1 := hl (c', ts') (by simp)
      simp only [Bool.or_eq_true, Bool.and_eq_true, eqI_eq, decide_eq_true_eq] at hc
      rcases hc with ⟨rfl, h2⟩ | ⟨rfl, h2⟩
      · rw [eqTs_eq h2]; exact h1
      · rw [← eqTs_eq h2] at h1
        intro h0
        apply h1
        simp only [lfVal, scaleTs_val] at h0 ⊢
        omega
    · exact isNe_inv h fun x hx => hl x (by simp [hx])
theorem pinL_val {g : Nat → Int} {iv : Ivs} (hs : SatI g iv) : ∀ (c : Int) (ts : Ts), lfVal g (pinL iv c ts).1 (pinL iv c ts).2 = lfVal g c ts
  | c, [] => rfl
  | c, (a, s) :: l => by
    have key : lfVal g (match pinL iv c l with | (c', ts') => (c', (a, s) :: ts')).1 (match pinL iv c l with | (c', ts') => (c', (a, s) :: ts')).2 = lfVal g c ((a, s) :: l) := by
      have ih := pinL_val hs c l
      simp only [lfVal, tsVal] at ih ⊢
      omega
    simp only [pinL]
    cases hq : iv[s]? with
    | none => exact key
    | some x =>
      obtain ⟨lo, hi⟩ := x
      simp only []
      rw [eqI_eq]
      cases hd : decide (lo = hi) with
      | false => exact key
      | true =>
        have h : lo = hi := by simpa using hd
        have b := hs s lo hi hq
        have ih := pinL_val hs (c + a * lo) l
        have e : g s = lo := by omega
        simp only [lfVal, tsVal] at ih ⊢
        rw [e]
        omega
theorem neBad_false {σ : Sg} {tab : Tab} (hs : Sat σ tab) : neBad tab = false := by
  cases h : neBad tab with
  | false => rfl
  | true =>
    obtain ⟨x, hx, hb⟩ := List.any_eq_true.1 h
    split at hb
    · rename_i lo hi hbd
      have b1 := bndL_val hs.iv hbd
      simp only [eqI_eq, Bool.and_eq_true, decide_eq_true_eq] at hb
      exact absurd (by omega : lfVal σ.i x.1 x.2 = 0) (hs.ne x hx)
    · cases hb
theorem forceTs_eq : ∀ (ts : Ts) (k : Ts → Bool), forceTs ts k = k ts
  | [], _ => rfl
  | (a, s) :: l, k => by
    show forceI a (fun a => forceN s fun s => forceTs l fun l => k ((a, s) :: l)) = _
    rw [forceI_eq, forceN_eq, forceTs_eq l]

section
variable {σ : Sg}
theorem linK_inv {kd : IntKind} {c : Int} {ts : Ts} {k : CV → Bool} (h : linK kd c ts k = true) : ∃ cv, k cv = true ∧ ∀ e, VR σ e cv (.int kd (lfVal σ.i c ts)) := by
  rw [linK, forceI_eq, forceTs_eq] at h
  cases ts with
  | nil => exact ⟨_, h, fun e => by simpa [lfVal, tsVal] using VR.int (σ := σ) (e := e) kd c⟩
  | cons t ts => exact ⟨_, h, fun e => .lin kd c _⟩
theorem linRes_inv {kd : IntKind} {c : Int} {ts : Ts} {tab : Tab} {k : CV → Bool} (h : linRes kd c ts tab k = true) (hs : Sat σ tab) :
    kd.min ≤ lfVal σ.i c ts ∧ lfVal σ.i c ts ≤ kd.max ∧ ∃ cv, k cv = true ∧ ∀ e, VR σ e cv (.int kd (lfVal σ.i c ts)) := by
  simp only [linRes, leI_eq] at h
  split at h
  · rename_i lo hi hb
    split at h
    · rename_i hc
      simp only [Bool.and_eq_true, decide_eq_true_eq] at hc
      have := bndL_val hs.iv hb
      exact ⟨by omega, by omega, linK_inv h⟩
    · cases h
  · cases h
theorem linLt0_inv {c : Int} {ts : Ts} {tab : Tab} {k : Bool → Tab → Bool} (h : linLt0 c ts tab k = true) (hs : Sat σ tab) :
    ∃ tab', k (decide (lfVal σ.i c ts < 0)) tab' = true ∧ Sat σ tab' := by
  simp only [linLt0, leI_eq, ltI_eq] at h
  split at h
  · cases h
  · rename_i lo hi hb
    have hv := bndL_val hs.iv hb
    split at h
    · rename_i h1
      have h1 : hi < 0 := by simpa using h1
      exact ⟨tab, by rw [decide_eq_true (by omega)]; exact h, hs⟩
    · split at h
      · rename_i h1
        have h1 : 0 ≤ lo := by simpa using h1
        exact ⟨tab, by rw [decide_eq_false (by omega)]; exact h, hs⟩
      · split at h
        · rename_i a s
          split at h
          · rename_i l hh ht
            have hi := hs.iv s l hh ht
            have hval : lfVal σ.i c [(a, s)] = c + a * σ.i s := by simp [lfVal, tsVal]
            rw [hval]
            split at h
            · rename_i ha
              have ha : 0 < a := by simpa using ha
              rw [forceI_eq, Bool.and_eq_true] at h
              -- c + a x < 0 ↔ x < -(c / a)
              have e : (c + a * σ.i s < 0) ↔ σ.i s < -(c / a) := by
                have h1 := Int.emod_add_mul_ediv c a
                have h2 := Int.emod_nonneg c (by omega : a ≠ 0)
                have h3 := Int.emod_lt_of_pos c ha
                constructor
                · intro hlt
                  by_cases hx : σ.i s < -(c / a)
                  · exact hx
                  · have hx : -(c / a) ≤ σ.i s := by omega
                    have := Int.mul_le_mul_of_nonneg_left hx (Int.le_of_lt ha)
                    rw [Int.mul_neg] at this
                    omega
                · intro hx
                  have hx : σ.i s ≤ -(c / a) - 1 := by omega
                  have := Int.mul_le_mul_of_nonneg_left hx (Int.le_of_lt ha)
                  rw [Int.mul_sub, Int.mul_neg] at this
                  omega
              by_cases hlt : c + a * σ.i s < 0
              · exact ⟨_, by rw [decide_eq_true hlt]; exact h.1, sat_set hs hi.1 (by have := e.1 hlt; omega)⟩
              · exact ⟨_, by rw [decide_eq_false hlt]; exact h.2, sat_set hs (by have : ¬ σ.i s < -(c / a) := fun hx => hlt (e.2 hx); omega) hi.2⟩
            · split at h
              · rename_i ha
                have ha : a < 0 := by simpa using ha
                rw [forceI_eq, Bool.and_eq_true] at h
                have e : (c + a * σ.i s < 0) ↔ c / (-a) < σ.i s := by
                  have h1 := Int.emod_add_mul_ediv c (-a)
                  have h2 := Int.emod_nonneg c (by omega : -a ≠ 0)
                  have h3 := Int.emod_lt_of_pos c (by omega : 0 < -a)
                  have hn : a * σ.i s = -(-a * σ.i s) := by rw [Int.neg_mul, Int.neg_neg]
                  rw [hn]
                  constructor
                  · intro hlt
                    by_cases hx : c / (-a) < σ.i s
                    · exact hx
                    · have hx : σ.i s ≤ c / (-a) := by omega
                      have := Int.mul_le_mul_of_nonneg_left hx (by omega : 0 ≤ -a)
                      omega
                  · intro hx
                    have hx : c / (-a) + 1 ≤ σ.i s := by omega
                    have := Int.mul_le_mul_of_nonneg_left hx (by omega : 0 ≤ -a)
                    rw [Int.mul_add] at this
                    omega
                by_cases hlt : c + a * σ.i s < 0
                · exact ⟨_, by rw [decide_eq_true hlt]; exact h.1, sat_set hs (by have := e.1 hlt; omega) hi.2⟩
                · exact ⟨_, by rw [decide_eq_false hlt]; exact h.2, sat_set hs hi.1 (by have : ¬ c / (-a) < σ.i s := fun hx => hlt (e.2 hx); omega)⟩
              · cases h
          · cases h
        · rw [Bool.and_eq_true] at h
          by_cases hlt : lfVal σ.i c ts < 0
          · exact ⟨tab, by rw [decide_eq_true hlt]; exact h.1, hs⟩
          · exact ⟨tab, by rw [decide_eq_false hlt]; exact h.2, hs⟩
theorem linLt_inv {c : Int} {ts : Ts} {tab : Tab} {k : Bool → Tab → Bool} (h : linLt c ts tab k = true) (hs : Sat σ tab) :
    ∃ tab', k (decide (lfVal σ.i c ts < 0)) tab' = true ∧ Sat σ tab' := by
  have := linLt0_inv (c := (pinL tab.iv c ts).1) (ts := (pinL tab.iv c ts).2) h hs
  rwa [pinL_val hs.iv] at this
theorem neSplit_inv {q l h : Int} {s : Nat} {tab : Tab} {k : Tab → Bool} (hk : neSplit q l h s tab k = true) (hs : Sat σ tab) (hi : l ≤ σ.i s ∧ σ.i s ≤ h) (hq : σ.i s ≠ q) :
    ∃ tab', k tab' = true ∧ Sat σ tab' := by
  unfold neSplit at hk
  simp only [eqI_eq, ltI_eq] at hk
  split at hk
  · rename_i h1
    have h1 : l = q := by simpa using h1
    split at hk
    · exact ⟨_, hk, sat_set hs (by omega) hi.2⟩
    · rename_i h2
      have h2 : ¬ q < h := by simpa using h2
      omega
  · split at hk
    · rename_i h2
      have h2 : q = h := by simpa using h2
      exact ⟨_, hk, sat_set hs hi.1 (by omega)⟩
    · rw [forceI_eq, forceN_eq] at hk
      refine ⟨_, hk, ⟨hs.iv, fun x hx => ?_⟩⟩
      rcases List.mem_cons.1 hx with rfl | hx
      · simp only [lfVal, tsVal]; omega
      · exact hs.ne x hx
theorem linEq0_inv {c : Int} {ts : Ts} {tab : Tab} {k : Bool → Tab → Bool} (h : linEq0 c ts tab k = true) (hs : Sat σ tab) :
    ∃ tab', k (decide (lfVal σ.i c ts = 0)) tab' = true ∧ Sat σ tab' := by
  cases ts with
  | nil =>
    simp only [linEq0, eqI_eq] at h
    exact ⟨tab, by simpa [lfVal, tsVal] using h, hs⟩
  | cons t r =>
    simp only [linEq0, leI_eq, ltI_eq, eqI_eq] at h
    split at h
    · cases h
    · rename_i lo hi hb
      have hv := bndL_val hs.iv hb
      split at h
      · rename_i h1
        simp only [Bool.or_eq_true, decide_eq_true_eq] at h1
        have : lfVal σ.i c (t :: r) ≠ 0 := by
          rcases h1 with h1 | h1 | h1
          · omega
          · omega
          · exact isNe_inv h1 hs.ne
        exact ⟨tab, by rw [decide_eq_false this]; exact h, hs⟩
      · split at h
        · obtain ⟨a, s⟩ := t
          simp only [] at h
          have hval : lfVal σ.i c [(a, s)] = c + a * σ.i s := by simp [lfVal, tsVal]
          rw [hval]
          split at h
          · cases h
          · rename_i ha
            have ha : a ≠ 0 := by simpa using ha
            split at h
            · rename_i hd
              simp only [dvdI, eqI_eq, decide_eq_false_iff_not] at hd
              have : ¬ (c + a * σ.i s = 0) := fun h0 => hd (by
                have : c = a * (-σ.i s) := by rw [Int.mul_neg]; omega
                rw [this]; exact Int.mul_emod_right _ _)
              exact ⟨tab, by rw [decide_eq_false this]; exact h, hs⟩
            · rename_i hd
              simp only [dvdI, eqI_eq, decide_eq_true_eq] at hd
              have hq : c = a * (c / a) := (Int.mul_ediv_cancel' (Int.dvd_of_emod_eq_zero hd)).symm
              have e : c + a * σ.i s = 0 ↔ σ.i s = -(c / a) := by
                constructor
                · intro h0
                  have h0 : a * (σ.i s) = a * (-(c / a)) := by rw [Int.mul_neg]; omega
                  exact Int.eq_of_mul_eq_mul_left ha h0
                · intro h0
                  rw [h0, Int.mul_neg]; omega
              split at h
              · rename_i l hh ht
                have hi := hs.iv s l hh ht
                rw [forceI_eq] at h
                split at h
                · rename_i hin
                  simp only [Bool.and_eq_true, decide_eq_true_eq] at hin
                  have hlf : lfVal σ.i (-(-(c / a))) [(1, s)] = σ.i s - -(c / a) := by simp only [lfVal, tsVal]; omega
                  split at h
                  · rename_i hne
                    have hz := isNe_inv hne hs.ne
                    have hn : ¬ (c + a * σ.i s = 0) := fun h0 => hz (by rw [hlf, e.1 h0]; omega)
                    exact ⟨tab, by rw [decide_eq_false hn]; exact h, hs⟩
                  · rw [Bool.and_eq_true] at h
                    obtain ⟨g1, g2⟩ := h
                    by_cases hc : σ.i s = -(c / a)
                    · have hst : Sat σ (setTab tab s (-(c / a), -(c / a))) := sat_set hs (by omega) (by omega)
                      rw [neBad_false hst] at g1
                      exact ⟨_, by rw [decide_eq_true (e.2 hc)]; exact g1, hst⟩
                    · have hn : ¬ (c + a * σ.i s = 0) := fun h0 => hc (e.1 h0)
                      obtain ⟨tab', k1, k2⟩ := neSplit_inv g2 hs hi hc
                      exact ⟨tab', by rw [decide_eq_false hn]; exact k1, k2⟩
                · rename_i hout
                  simp only [Bool.and_eq_false_iff, decide_eq_false_iff_not] at hout
                  have hn : ¬ (c + a * σ.i s = 0) := fun h0 => by
                    have := e.1 h0
                    rcases hout with h1 | h1 <;> omega
                  exact ⟨tab, by rw [decide_eq_false hn]; exact h, hs⟩
              · cases h
        · rename_i y r _
          rw [Bool.and_eq_true, forceI_eq, forceTs_eq] at h
          by_cases h0 : lfVal σ.i c (t :: y :: r) = 0
          · exact ⟨tab, by rw [decide_eq_true h0]; exact h.1, hs⟩
          · exact ⟨⟨tab.iv, (c, t :: y :: r) :: tab.ne⟩, by rw [decide_eq_false h0]; exact h.2, ⟨hs.iv, fun x hx => by
              rcases List.mem_cons.1 hx with rfl | hx
              · exact h0
              · exact hs.ne x hx⟩⟩
theorem linEq_inv {c : Int} {ts : Ts} {tab : Tab} {k : Bool → Tab → Bool} (h : linEq c ts tab k = true) (hs : Sat σ tab) :
    ∃ tab', k (decide (lfVal σ.i c ts = 0)) tab' = true ∧ Sat σ tab' := by
  have := linEq0_inv (c := (pinL tab.iv c ts).1) (ts := (pinL tab.iv c ts).2) h hs
  rwa [pinL_val hs.iv] at this
end
end Go.Ev

namespace Go.Ev

/-! Strings -/
theorem enc_from (l : List UInt8) : ∀ a, l.foldl (fun a b => a * 256 + b.toNat) a = a * 256 ^ l.length + encBytes l := by
  induction l with
  | nil => intro a; simp [encBytes]
  | cons b l ih =>
    intro a
    simp only [List.foldl_cons, encBytes, List.length_cons]
    rw [ih, ih (0 * 256 + b.toNat)]
    rw [Nat.pow_succ]
    generalize 256 ^ l.length = q
    generalize encBytes l = z
    simp only [Nat.add_mul, Nat.zero_mul, Nat.zero_add, Nat.add_assoc]
    rw [Nat.mul_assoc a 256 q, Nat.mul_comm 256 q]
theorem enc_cons (b : UInt8) (l : List UInt8) : encBytes (b :: l) = b.toNat * 256 ^ l.length + encBytes l := by
  have := enc_from l (0 * 256 + b.toNat)
  simp only [Nat.zero_mul, Nat.zero_add] at this
  simpa [encBytes] using this
theorem enc_append (x y : List UInt8) : encBytes (x ++ y) = encBytes x * 256 ^ y.length + encBytes y := by
  rw [show encBytes (x ++ y) = y.foldl (fun a b => a * 256 + b.toNat) (encBytes x) by simp [encBytes, List.foldl_append]]
  exact enc_from y _
theorem enc_lt (l : List UInt8) : encBytes l < 256 ^ l.length := by
  induction l with
  | nil => simp [encBytes]
  | cons b l ih =>
    rw [enc_cons, List.length_cons, Nat.pow_succ]
    have hb : b.toNat < 256 := b.toNat_lt
    have : (b.toNat + 1) * 256 ^ l.length ≤ 256 * 256 ^ l.length := Nat.mul_le_mul_right _ (by omega)
    rw [Nat.add_mul] at this
    omega
theorem dec_enc (l : List UInt8) : decBytes l.length (encBytes l) = l := by
  have key : ∀ (l : List UInt8) (q : Nat), decBytes l.length (q * 256 ^ l.length + encBytes l) = l := by
    intro l
    induction l with
    | nil => intro q; rfl
    | cons b l ih =>
      intro q
      simp only [List.length_cons, decBytes]
      have hp : 0 < 256 ^ l.length := Nat.pow_pos (by omega)
      have e : q * 256 ^ (l.length + 1) + encBytes (b :: l) = (q * 256 + b.toNat) * 256 ^ l.length + encBytes l := by
        rw [enc_cons, Nat.pow_succ, Nat.add_mul, Nat.mul_comm (256 ^ l.length) 256, ← Nat.mul_assoc]; omega
      rw [e, ih]
      congr 1
      have h1 : ((q * 256 + b.toNat) * 256 ^ l.length + encBytes l) / 256 ^ l.length = q * 256 + b.toNat := by
        rw [Nat.mul_comm, Nat.mul_add_div hp, Nat.div_eq_of_lt (enc_lt l)]; omega
      rw [h1]
      have h2 : (q * 256 + b.toNat) % 256 = b.toNat := by have := b.toNat_lt; omega
      rw [h2]
      exact UInt8.ofNat_toNat
  have := key l 0
  simpa using this
theorem enc_inj {a b : List UInt8} (hl : a.length = b.length) (h : encBytes a = encBytes b) : a = b := by
  rw [← dec_enc a, ← dec_enc b, hl, h]
theorem enc_mid (x y z : List UInt8) : encBytes (x ++ y ++ z) / 256 ^ z.length % 256 ^ y.length = encBytes y := by
  rw [enc_append, enc_append]
  have hz : 0 < 256 ^ z.length := Nat.pow_pos (by omega)
  rw [Nat.mul_comm, Nat.mul_add_div hz, Nat.div_eq_of_lt (enc_lt z), Nat.add_zero, Nat.mul_comm, Nat.mul_add_mod, Nat.mod_eq_of_lt (enc_lt y)]
theorem enc_slice (a : List UInt8) {l h : Nat} (hlh : l ≤ h) (hh : h ≤ a.length) : encBytes a / 256 ^ (a.length - h) % 256 ^ (h - l) = encBytes ((a.take h).drop l) := by
  have e : a = (a.take h).take l ++ (a.take h).drop l ++ a.drop h := by simp
  have h1 : ((a.take h).drop l).length = h - l := by simp; omega
  have h2 : (a.drop h).length = a.length - h := by simp
  have := enc_mid ((a.take h).take l) ((a.take h).drop l) (a.drop h)
  rw [← e, h1, h2] at this
  exact this
theorem enc_index (a : List UInt8) {i : Nat} (hi : i < a.length) : encBytes a / 256 ^ (a.length - 1 - i) % 256 = a[i].toNat := by
  have := enc_slice a (l := i) (h := i + 1) (by omega) (by omega)
  rw [show i + 1 - i = 1 by omega, Nat.pow_one, show a.length - (i + 1) = a.length - 1 - i by omega] at this
  rw [this]
  have : (a.take (i + 1)).drop i = [a[i]] := by
    rw [List.drop_take, show i + 1 - i = 1 by omega, List.drop_eq_getElem_cons hi]; rfl
  rw [this]; simp [encBytes]

theorem strLen (s : ByteArray) : s.data.toList.length = s.size := rfl

theorem beq_bytes {l1 l2 : List UInt8} : (Nat.beq l1.length l2.length && Nat.beq (encBytes l1) (encBytes l2)) = (l1 == l2) := by
  rw [Bool.eq_iff_iff]
  simp only [Bool.and_eq_true, Nat.beq_eq, beq_iff_eq]
  exact ⟨fun h => enc_inj h.1 h.2, fun h => by rw [h]; exact ⟨rfl, rfl⟩⟩

theorem strOp_inv {op : BinOp} {x y : ByteArray} {k : CV → Bool} (h : strOp op x.size (encBytes x.data.toList) y.size (encBytes y.data.toList) k = true) :
    ∃ c v, k c = true ∧ (∀ σ e, VR σ e c v) ∧ ∀ (P : Program) (ty : TypeId) (w : World), (binOp op ty (.string x) (.string y)).run P w = .ok v w := by
  have d1 : decBytes x.size (encBytes x.data.toList) = x.data.toList := by rw [← strLen, dec_enc]
  have d2 : decBytes y.size (encBytes y.data.toList) = y.data.toList := by rw [← strLen, dec_enc]
  have he : (Nat.beq x.size y.size && Nat.beq (encBytes x.data.toList) (encBytes y.data.toList)) = (x.data.toList == y.data.toList) := by
    rw [← strLen x, ← strLen y]; exact beq_bytes
  cases op with
  | add =>
    simp only [strOp, forceN_eq] at h
    split at h
    · rename_i hle
      have hle : x.size + y.size ≤ 1000000 := Nat.le_of_ble_eq_true hle
      refine ⟨_, .string (x ++ y), h, fun σ e => .str _ (by simp) ?_, fun P ty w => ?_⟩
      · rw [ByteArray.data_append, Array.toList_append, enc_append, strLen y]
      · have : ¬ ((x.size + y.size : Nat) : Int) > IntKind.i64.max := by simp only [IntKind.max, IntKind.signed, IntKind.bits]; omega
        simp only [binOp, Op.stringOp, this, if_false, Sem.run_pure]
    · cases h
  | eql => exact ⟨_, _, kB_inv h, fun _ _ => .bool _, fun P ty w => by simp [binOp, Op.stringOp, he, ByteArray.toList_eq]⟩
  | neq => exact ⟨_, _, kB_inv h, fun _ _ => .bool _, fun P ty w => by simp [binOp, Op.stringOp, he, ByteArray.toList_eq]⟩
  | lss => exact ⟨_, _, kB_inv h, fun _ _ => .bool _, fun P ty w => by simp [binOp, Op.stringOp, d1, d2, ByteArray.toList_eq]⟩
  | geq => exact ⟨_, _, kB_inv h, fun _ _ => .bool _, fun P ty w => by simp [binOp, Op.stringOp, d1, d2, ByteArray.toList_eq]⟩
  | leq => exact ⟨_, _, kB_inv h, fun _ _ => .bool _, fun P ty w => by simp [binOp, Op.stringOp, d1, d2, he, ByteArray.toList_eq]⟩
  | gtr => exact ⟨_, _, kB_inv h, fun _ _ => .bool _, fun P ty w => by simp [binOp, Op.stringOp, d1, d2, he, ByteArray.toList_eq]⟩
  | _ => cases h

end Go.Ev

namespace Go.Ev

/-! Values that are forms -/
section
variable {σ : Sg}
theorem linOf_inv {v : CV} {kd : IntKind} {c : Int} {ts : Ts} (h : linOf v = some (kd, c, ts)) {e : Env} {u : Value} (hv : VR σ e v u) : u = .int kd (lfVal σ.i c ts) := by
  cases hv <;> simp only [linOf, Option.some.injEq, Prod.mk.injEq, reduceCtorEq] at h
  · obtain ⟨rfl, rfl, rfl⟩ := h; simp [lfVal, tsVal]
  · obtain ⟨rfl, rfl, rfl⟩ := h; simp [lfVal, tsVal]
  · obtain ⟨rfl, rfl, rfl⟩ := h; rfl
theorem lf_add (f : Nat → Int) (c c' : Int) (ts ts' : Ts) : lfVal f (c + c') (addTs ts ts') = lfVal f c ts + lfVal f c' ts' := by
  simp only [lfVal, addTs_val]; omega
theorem lf_sub (f : Nat → Int) (c c' : Int) (ts ts' : Ts) : lfVal f (c - c') (subTs ts ts') = lfVal f c ts - lfVal f c' ts' := by
  simp only [lfVal, subTs_val]; omega
theorem lf_mul (f : Nat → Int) (c c' : Int) (ts' : Ts) : lfVal f (c * c') (mulTs c ts') = c * lfVal f c' ts' := by
  simp only [lfVal, mulTs_val, Int.mul_add]
theorem linBin_inv {op : BinOp} {kd : IntKind} {c c' : Int} {ts ts' : Ts} {tab : Tab} {k : CV → Tab → Bool} (h : linBin op kd c ts c' ts' tab k = true) (hs : Sat σ tab) :
    ∃ cv tab' v, k cv tab' = true ∧ Sat σ tab' ∧ (∀ e, VR σ e cv v) ∧
      ∀ (P : Program) (ty : TypeId) (w : World), (binOp op ty (.int kd (lfVal σ.i c ts)) (.int kd (lfVal σ.i c' ts'))).run P w = .ok v w := by
  obtain ⟨a, ha⟩ : ∃ a, lfVal σ.i c ts = a := ⟨_, rfl⟩
  obtain ⟨b, hb⟩ : ∃ b, lfVal σ.i c' ts' = b := ⟨_, rfl⟩
  have cmp : ∀ (r : Bool) (op' : BinOp), isCmp op' = true → r = cmpB op' a b → ∀ (P : Program) (ty : TypeId) (w : World), (binOp op' ty (.int kd a) (.int kd b)).run P w = .ok (.bool r) w :=
    fun r op' h1 h2 P ty w => by rw [cmp_run h1, h2]
  rw [ha, hb]
  have hsub : lfVal σ.i (c - c') (subTs ts ts') = a - b := by rw [lf_sub, ha, hb]
  have hsub' : lfVal σ.i (c' - c) (subTs ts' ts) = b - a := by rw [lf_sub, ha, hb]
  cases op with
  | add =>
    obtain ⟨h1, h2, cv, h3, h4⟩ := linRes_inv h hs
    rw [lf_add, ha, hb] at h1 h2 h4
    exact ⟨cv, tab, _, h3, hs, h4, fun P ty w => by simp [binOp, Op.intArith, wrap_in h1 h2]⟩
  | sub =>
    obtain ⟨h1, h2, cv, h3, h4⟩ := linRes_inv h hs
    rw [hsub] at h1 h2 h4
    exact ⟨cv, tab, _, h3, hs, h4, fun P ty w => by simp [binOp, Op.intArith, wrap_in h1 h2]⟩
  | mul =>
    have key : ∀ {x y : Int} {xs : Ts}, linRes kd (x * y) (mulTs x xs) tab (fun v => k v tab) = true → x * lfVal σ.i y xs = a * b →
        ∃ cv tab' v, k cv tab' = true ∧ Sat σ tab' ∧ (∀ e, VR σ e cv v) ∧ ∀ (P : Program) (ty : TypeId) (w : World), (binOp .mul ty (.int kd a) (.int kd b)).run P w = .ok v w := by
      intro x y xs hh he
      obtain ⟨h1, h2, cv, h3, h4⟩ := linRes_inv hh hs
      rw [lf_mul, he] at h1 h2 h4
      exact ⟨cv, tab, _, h3, hs, h4, fun P ty w => by simp [binOp, Op.intArith, wrap_in h1 h2]⟩
    simp only [linBin] at h
    split at h
    · exact key h (by have : c = a := by simpa [lfVal, tsVal] using ha
                      rw [this, hb])
    · split at h
      · exact key h (by have : c' = b := by simpa [lfVal, tsVal] using hb
                        rw [this, ha, Int.mul_comm])
      · cases h
  | quo =>
    simp only [linBin] at h
    split at h
    · split at h
      · rename_i q r hq
        obtain ⟨q1, q2, q3, _⟩ := quoRem_val hs.iv hq
        obtain ⟨h1, h2, cv, h3, h4⟩ := linRes_inv h hs
        have hc : c' = b := by simpa [lfVal, tsVal] using hb
        rw [q3, ha, hc] at h1 h2 h4
        rw [hc] at q1
        rw [ha] at q2
        refine ⟨cv, tab, _, h3, hs, h4, fun P ty w => ?_⟩
        have hb0 : b ≠ 0 := by omega
        simp [binOp, Op.intDiv, hb0, Int.tdiv_eq_ediv_of_nonneg q2, wrap_in h1 h2]
      · cases h
    · split at h
      · rename_i q hq
        obtain ⟨q1, q2⟩ := timesOf_val hs.iv hq
        obtain ⟨h1, h2, cv, h3, h4⟩ := linRes_inv h hs
        have e0 : lfVal σ.i q [] = q := by simp [lfVal, tsVal]
        rw [e0] at h1 h2 h4
        rw [ha, hb] at q2
        rw [hb] at q1
        refine ⟨cv, tab, _, h3, hs, h4, fun P ty w => ?_⟩
        have hb0 : b ≠ 0 := by omega
        have hd : a.tdiv b = q := by rw [q2]; exact Int.mul_tdiv_cancel q hb0
        simp [binOp, Op.intDiv, hb0, hd, wrap_in h1 h2]
      · cases h
  | rem =>
    simp only [linBin] at h
    split at h
    · split at h
      · rename_i q r hq
        obtain ⟨q1, q2, _, q3⟩ := quoRem_val hs.iv hq
        obtain ⟨h1, h2, cv, h3, h4⟩ := linRes_inv h hs
        have hc : c' = b := by simpa [lfVal, tsVal] using hb
        rw [q3, ha, hc] at h4
        rw [hc] at q1
        rw [ha] at q2
        refine ⟨cv, tab, _, h3, hs, h4, fun P ty w => ?_⟩
        have hb0 : b ≠ 0 := by omega
        simp [binOp, Op.intDiv, hb0, Int.tmod_eq_emod_of_nonneg q2]
      · cases h
    · split at h
      · rename_i q hq
        obtain ⟨q1, q2⟩ := timesOf_val hs.iv hq
        obtain ⟨h1, h2, cv, h3, h4⟩ := linRes_inv h hs
        have e0 : lfVal σ.i 0 [] = 0 := by simp [lfVal, tsVal]
        rw [e0] at h4
        rw [ha, hb] at q2
        rw [hb] at q1
        refine ⟨cv, tab, _, h3, hs, h4, fun P ty w => ?_⟩
        have hb0 : b ≠ 0 := by omega
        have hd : a.tmod b = 0 := by rw [q2]; exact Int.mul_tmod_left q b
        simp [binOp, Op.intDiv, hb0, hd]
      · cases h
  | eql =>
    obtain ⟨tab', h1, h2⟩ := linEq_inv (k := fun b tab => k (.bool b) tab) h hs
    rw [hsub] at h1
    exact ⟨_, tab', _, h1, h2, fun _ => .bool _, cmp _ .eql rfl (by simp only [cmpB]; rw [decide_eq_decide]; omega)⟩
  | neq =>
    obtain ⟨tab', h1, h2⟩ := linEq_inv (k := fun b tab => k (.bool (!b)) tab) h hs
    rw [hsub] at h1
    exact ⟨_, tab', _, h1, h2, fun _ => .bool _, cmp _ .neq rfl (by simp only [cmpB]; congr 1; rw [decide_eq_decide]; omega)⟩
  | lss =>
    obtain ⟨tab', h1, h2⟩ := linLt_inv (k := fun b tab => k (.bool b) tab) h hs
    rw [hsub] at h1
    exact ⟨_, tab', _, h1, h2, fun _ => .bool _, cmp _ .lss rfl (by simp only [cmpB]; rw [decide_eq_decide]; omega)⟩
  | geq =>
    obtain ⟨tab', h1, h2⟩ := linLt_inv (k := fun b tab => k (.bool (!b)) tab) h hs
    rw [hsub] at h1
    exact ⟨_, tab', _, h1, h2, fun _ => .bool _, cmp _ .geq rfl (by simp only [cmpB]; rw [← decide_not, decide_eq_decide]; omega)⟩
  | gtr =>
    obtain ⟨tab', h1, h2⟩ := linLt_inv (k := fun b tab => k (.bool b) tab) h hs
    rw [hsub'] at h1
    exact ⟨_, tab', _, h1, h2, fun _ => .bool _, cmp _ .gtr rfl (by simp only [cmpB]; rw [decide_eq_decide]; omega)⟩
  | leq =>
    obtain ⟨tab', h1, h2⟩ := linLt_inv (k := fun b tab => k (.bool (!b)) tab) h hs
    rw [hsub'] at h1
    exact ⟨_, tab', _, h1, h2, fun _ => .bool _, cmp _ .leq rfl (by simp only [cmpB]; rw [← decide_not, decide_eq_decide]; omega)⟩
  | _ => cases h
theorem linBinV_inv {op : BinOp} {x y : CV} {tab : Tab} {k : CV → Tab → Bool} (h : linBinV op x y tab k = true) (hs : Sat σ tab) :
    ∃ cv tab' v, k cv tab' = true ∧ Sat σ tab' ∧ (∀ e, VR σ e cv v) ∧
      ∀ {e e' : Env} {u u' : Value}, VR σ e x u → VR σ e' y u' → ∃ kd a b, u = .int kd a ∧ u' = .int kd b ∧ ∀ (P : Program) (ty : TypeId) (w : World), (binOp op ty u u').run P w = .ok v w := by
  simp only [linBinV] at h
  split at h
  · cases h
  · rename_i kd c ts hx
    split at h
    · cases h
    · rename_i kd' c' ts' hy
      split at h
      · rename_i hk
        obtain rfl : kd = kd' := by simpa using hk
        obtain ⟨cv, tab', v, h1, h2, h3, h4⟩ := linBin_inv h hs
        simp only [pinL_val hs.iv] at h4
        refine ⟨cv, tab', v, h1, h2, h3, fun {e e' u u'} hu hu' => ?_⟩
        have e1 := linOf_inv hx hu
        have e2 := linOf_inv hy hu'
        subst e1; subst e2
        exact ⟨kd, _, _, rfl, rfl, h4⟩
      · cases h
theorem linMM_inv {mx : Bool} {x y : CV} {tab : Tab} {k : CV → Tab → Bool} (h : linMM mx x y tab k = true) (hs : Sat σ tab) :
    ∃ kd cv tab', k cv tab' = true ∧ Sat σ tab' ∧ ∀ {e : Env} {u u' : Value}, VR σ e x u → VR σ e y u' →
      ∃ p q, u = .int kd p ∧ u' = .int kd q ∧ VR σ e cv (.int kd (if mx = true then (if p < q then q else p) else (if q < p then q else p))) := by
  simp only [linMM] at h
  split at h
  · cases h
  · rename_i kd c ts hx
    split at h
    · cases h
    · rename_i kd' c' ts' hy
      split at h
      · rename_i hk
        obtain rfl : kd = kd' := by simpa using hk
        obtain ⟨tab', h1, h2⟩ := linLt_inv (k := fun b tab => k (selCV (b == mx) x y) tab) h hs
        rw [lf_sub] at h1
        refine ⟨kd, _, tab', h1, h2, fun {e u u'} hu hu' => ⟨_, _, linOf_inv hx hu, linOf_inv hy hu', ?_⟩⟩
        have e1 := linOf_inv hx hu
        have e2 := linOf_inv hy hu'
        subst e1; subst e2
        by_cases hlt : lfVal σ.i c ts - lfVal σ.i c' ts' < 0
        · rw [decide_eq_true hlt]
          cases mx with
          | true => rw [if_pos rfl, if_pos (by omega)]; exact hu'
          | false => rw [if_neg (by decide), if_neg (by omega)]; exact hu
        · rw [decide_eq_false hlt]
          cases mx with
          | true => rw [if_pos rfl, if_neg (by omega)]; exact hu
          | false =>
            rw [if_neg (by decide)]
            split
            · exact hu'
            · have hq : lfVal σ.i c ts = lfVal σ.i c' ts' := by omega
              rw [hq]; exact hu'
      · cases h
theorem linEqV_inv {x y : CV} {tab : Tab} {k : Bool → Tab → Bool} (h : linEqV x y tab k = true) (hs : Sat σ tab) :
    ∃ b tab', k b tab' = true ∧ Sat σ tab' ∧ ∀ {e e' : Env} {u u' : Value}, VR σ e x u → VR σ e' y u' → ∃ kd p q, u = .int kd p ∧ u' = .int kd q ∧ b = decide (p = q) := by
  simp only [linEqV] at h
  split at h
  · cases h
  · rename_i kd c ts hx
    split at h
    · cases h
    · rename_i kd' c' ts' hy
      split at h
      · rename_i hk
        obtain rfl : kd = kd' := by simpa using hk
        obtain ⟨tab', h1, h2⟩ := linEq_inv h hs
        rw [lf_sub] at h1
        refine ⟨_, tab', h1, h2, fun {e e' u u'} hu hu' => ⟨kd, _, _, linOf_inv hx hu, linOf_inv hy hu', ?_⟩⟩
        rw [Bool.eq_iff_iff]; simp; omega
      · cases h

/-! Strings of forms -/
def bsVal (f : Nat → Int) (bs : List (Int × Ts)) : List Int := bs.map fun x => lfVal f x.1 x.2
def byteVal (s : ByteArray) : List Int := s.data.toList.map fun b => (b.toNat : Int)
theorem byteVal_inj {l l' : List UInt8} (h : l.map (fun b => (b.toNat : Int)) = l'.map fun b => (b.toNat : Int)) : l = l' := by
  induction l generalizing l' with
  | nil => cases l' with | nil => rfl | cons => cases h
  | cons a l ih => cases l' with
    | nil => cases h
    | cons b l' =>
      simp only [List.map_cons, List.cons.injEq] at h
      rw [ih h.2, UInt8.toNat.inj (Int.ofNat_inj.1 h.1)]
theorem lsOf_inv {v : CV} {bs : List (Int × Ts)} (h : lsOf v = some bs) {e : Env} {u : Value} (hv : VR σ e v u) : ∃ s, u = .string s ∧ byteVal s = bsVal σ.i bs := by
  cases hv <;> simp only [lsOf, Option.some.injEq, reduceCtorEq] at h
  · rename_i s hl hc
    subst hl; subst hc; subst h
    have d1 : decBytes s.size (encBytes s.data.toList) = s.data.toList := by rw [← strLen, dec_enc]
    refine ⟨s, rfl, ?_⟩
    rw [d1]
    simp only [byteVal, bsVal, List.map_map]
    apply List.map_congr_left
    intro b _
    simp [lfVal, tsVal]
  · subst h
    rename_i s hh
    exact ⟨s, rfl, hh⟩
theorem constBs_inv : ∀ {bs : List (Int × Ts)} {l : List UInt8}, constBs bs = some l → bsVal σ.i bs = l.map fun b => (b.toNat : Int)
  | [], l, h => by
    simp only [constBs, Option.some.injEq] at h; subst h; rfl
  | (c, ts) :: r, l, h => by
    simp only [constBs] at h
    split at h
    · split at h
      · rename_i n
        split at h
        · rename_i hn
          split at h
          · rename_i bs hbs
            simp only [Option.some.injEq] at h
            subst h
            have hn : n < 256 := by simpa [Nat.blt_eq] using hn
            have ih := constBs_inv hbs
            simp only [bsVal, List.map_cons] at ih ⊢
            rw [ih]
            congr 1
            simp [lfVal, tsVal, UInt8.toNat_ofNat']
            omega
          · cases h
        · cases h
      · cases h
    · cases h
theorem forceBs_eq : ∀ (bs : List (Int × Ts)) (k : List (Int × Ts) → Bool), forceBs bs k = k bs
  | [], _ => rfl
  | (c, ts) :: l, k => by
    show forceI c (fun c => forceTs ts fun ts => forceBs l fun l => k ((c, ts) :: l)) = _
    rw [forceI_eq, forceTs_eq, forceBs_eq l]
theorem lstrK_inv {bs : List (Int × Ts)} {k : CV → Bool} (h : lstrK bs k = true) : ∃ cv, k cv = true ∧ ∀ (e : Env) (s : ByteArray), byteVal s = bsVal σ.i bs → VR σ e cv (.string s) := by
  simp only [lstrK] at h
  split at h
  · rename_i l hl
    rw [forceN_eq, forceN_eq] at h
    refine ⟨_, h, fun e s hsv => ?_⟩
    rw [constBs_inv hl] at hsv
    have := byteVal_inj hsv
    exact .str s (by rw [← this]; rfl) (by rw [this])
  · rw [forceBs_eq] at h
    exact ⟨_, h, fun e s hsv => .lstr _ s hsv⟩
theorem byteC_vr (e : Env) (c : Int) (ts : Ts) : VR σ e (byteC c ts) (.int .u8 (lfVal σ.i c ts)) := by
  cases ts with
  | nil => simpa [byteC, lfVal, tsVal] using VR.int (σ := σ) (e := e) .u8 c
  | cons t ts => exact .lin .u8 c _
theorem byteVal_size {s : ByteArray} {bs : List (Int × Ts)} (h : byteVal s = bsVal σ.i bs) : s.size = bs.length := by
  have := congrArg List.length h; simpa [byteVal, bsVal] using this
theorem byteVal_get {s : ByteArray} {bs : List (Int × Ts)} (h : byteVal s = bsVal σ.i bs) {i : Nat} {f : Int × Ts} (hf : bs[i]? = some f) (hi : i < s.data.toList.length) :
    ((s.data.toList[i].toNat : Nat) : Int) = lfVal σ.i f.1 f.2 := by
  have h1 := congrArg (·[i]?) h
  simp only [byteVal, bsVal, List.getElem?_map, hf, Option.map_some, List.getElem?_eq_getElem hi, Option.some.injEq] at h1
  exact h1
theorem runB_inv : ∀ {l : List UInt8} {n : Nat}, runB l n = true → ∀ (i : Nat) (b : UInt8), l[i]? = some b → b.toNat = n + i
  | [], _, _, i, b, h => by simp at h
  | a :: l, n, hr, i, b, h => by
    simp only [runB, Bool.and_eq_true, Nat.beq_eq] at hr
    cases i with
    | zero => simp at h; rw [← h]; exact hr.1
    | succ i =>
      have := runB_inv hr.2 i b (by simpa using h)
      omega
theorem linPiece_inv {l c m : Nat} {lc : Int} {ts : Ts} {tab : Tab} {k : List (Int × Ts) → Bool} (h : linPiece l c lc ts m tab k = true) (hs : Sat σ tab) :
    ∃ bs, k bs = true ∧ ∀ s : ByteArray, s.size = l → encBytes s.data.toList = c → ∃ n : Nat, lfVal σ.i lc ts = (n : Int) ∧ n + m ≤ s.size ∧ byteVal (s.extract n (n + m)) = bsVal σ.i bs := by
  simp only [linPiece] at h
  split at h
  · rename_i lo hi hb
    have hv := bndL_val hs.iv hb
    have hv1 : (lo : Int) ≤ lfVal σ.i lc ts := hv.1
    have hv2 : lfVal σ.i lc ts ≤ (hi : Int) := hv.2
    obtain ⟨n, hn⟩ := Int.eq_ofNat_of_zero_le (show 0 ≤ lfVal σ.i lc ts by omega)
    split at h
    · rename_i hc
      simp only [Bool.and_eq_true] at hc
      have c1 : lo ≤ hi := Nat.le_of_ble_eq_true hc.1
      have c2 : hi + m ≤ l := Nat.le_of_ble_eq_true hc.2
      have n1 : lo ≤ n := by omega
      have n2 : n ≤ hi := by omega
      split at h
      · rename_i hnil
        refine ⟨_, h, fun s h1 h2 => ⟨n, hn, by omega, ?_⟩⟩
        subst h1; subst h2
        have d1 : decBytes s.size (encBytes s.data.toList) = s.data.toList := by rw [← strLen, dec_enc]
        have hlen := congrArg List.length hnil
        rw [d1] at hlen
        have hz : s.data.toList.length = s.size := rfl
        simp only [List.length_take, List.length_drop, hz, List.length_nil] at hlen
        have : m = 0 := by omega
        subst this
        simp [byteVal, bsVal]
      · rename_i b r hbr
        split at h
        · rename_i hrun
          refine ⟨_, h, fun s h1 h2 => ⟨n, hn, by omega, ?_⟩⟩
          subst h1; subst h2
          have d1 : decBytes s.size (encBytes s.data.toList) = s.data.toList := by rw [← strLen, dec_enc]
          rw [d1] at hbr
          have hz : s.data.toList.length = s.size := rfl
          have at_ : ∀ j, lo ≤ j → j < hi + m → ∃ x, s.data.toList[j]? = some x ∧ x.toNat = b.toNat + (j - lo) := by
            intro j j1 j2
            have hj : j < s.data.toList.length := by omega
            refine ⟨s.data.toList[j], List.getElem?_eq_getElem hj, ?_⟩
            apply runB_inv hrun (j - lo)
            rw [← hbr, List.getElem?_take, if_pos (by omega), List.getElem?_drop, List.getElem?_eq_getElem (by omega)]
            congr 2; omega
          apply List.ext_getElem?
          intro j
          simp only [byteVal, bsVal, List.map_map, List.getElem?_map, ByteArray.data_extract, Array.toList_extract, List.extract_eq_take_drop]
          by_cases hj : j < m
          · obtain ⟨x, x1, x2⟩ := at_ (n + j) (by omega) (by omega)
            rw [List.getElem?_take, if_pos (by omega), List.getElem?_drop, x1, List.getElem?_range hj]
            simp only [Option.map_some, Function.comp, Option.some.injEq]
            have hl : lfVal σ.i (Int.ofNat b.toNat - Int.ofNat lo + lc + Int.ofNat j) ts = (b.toNat : Int) - lo + lfVal σ.i lc ts + j := by
              simp only [lfVal, Int.ofNat_eq_natCast]; omega
            rw [hl, hn, x2]
            omega
          · rw [List.getElem?_eq_none (by simp; omega), List.getElem?_eq_none (by simp; omega)]
            rfl
        · cases h
    · cases h
  · cases h
theorem lsEq_inv : ∀ {xs ys : List (Int × Ts)} {tab : Tab} {k : Bool → Tab → Bool}, lsEq xs ys tab k = true → Sat σ tab →
    ∃ tab', k (decide (bsVal σ.i xs = bsVal σ.i ys)) tab' = true ∧ Sat σ tab'
  | [], [], tab, k, h, hs => ⟨tab, h, hs⟩
  | (c, ts) :: l, (c', ts') :: l', tab, k, h, hs => by
    simp only [lsEq] at h
    obtain ⟨tab', h1, h2⟩ := linEq_inv h hs
    rw [lf_sub] at h1
    by_cases h0 : lfVal σ.i c ts = lfVal σ.i c' ts'
    · rw [decide_eq_true (by omega)] at h1
      obtain ⟨tab2, h3, h4⟩ := lsEq_inv h1 h2
      refine ⟨tab2, ?_, h4⟩
      have : decide (bsVal σ.i ((c, ts) :: l) = bsVal σ.i ((c', ts') :: l')) = decide (bsVal σ.i l = bsVal σ.i l') := by
        rw [decide_eq_decide]; simp [bsVal, h0]
      rw [this]; exact h3
    · rw [decide_eq_false (by omega)] at h1
      refine ⟨tab', ?_, h2⟩
      have : decide (bsVal σ.i ((c, ts) :: l) = bsVal σ.i ((c', ts') :: l')) = false := by
        rw [decide_eq_false_iff_not]; simp [bsVal, h0]
      rw [this]; exact h1
  | [], _ :: _, tab, k, h, hs => ⟨tab, by simpa [bsVal, lsEq] using h, hs⟩
  | _ :: _, [], tab, k, h, hs => ⟨tab, by simpa [bsVal, lsEq] using h, hs⟩
theorem lsEqV_inv {x y : CV} {tab : Tab} {k : Bool → Tab → Bool} (h : lsEqV x y tab k = true) (hs : Sat σ tab) :
    ∃ b tab', k b tab' = true ∧ Sat σ tab' ∧ ∀ {e e' : Env} {u u' : Value}, VR σ e x u → VR σ e' y u' → ∃ s s', u = .string s ∧ u' = .string s' ∧ b = decide (s.data.toList = s'.data.toList) := by
  simp only [lsEqV] at h
  split at h
  · cases h
  · rename_i xs hx
    split at h
    · cases h
    · rename_i ys hy
      obtain ⟨tab', h1, h2⟩ := lsEq_inv h hs
      refine ⟨_, tab', h1, h2, fun {e e' u u'} hu hu' => ?_⟩
      obtain ⟨s, rfl, e1⟩ := lsOf_inv hx hu
      obtain ⟨s', rfl, e2⟩ := lsOf_inv hy hu'
      refine ⟨s, s', rfl, rfl, ?_⟩
      rw [← e1, ← e2, Bool.eq_iff_iff]
      simp only [decide_eq_true_eq]
      exact ⟨fun h => byteVal_inj h, fun h => by simp only [byteVal, h]⟩
theorem lsBin_inv {op : BinOp} {x y : CV} {tab : Tab} {k : CV → Tab → Bool} (h : lsBin op x y tab k = true) (hs : Sat σ tab) :
    ∃ cv tab', k cv tab' = true ∧ Sat σ tab' ∧
      ∀ {e e' : Env} {u u' : Value}, VR σ e x u → VR σ e' y u' → ∃ s s' v, u = .string s ∧ u' = .string s' ∧ (∀ e, VR σ e cv v) ∧ ∀ (P : Program) (ty : TypeId) (w : World), (binOp op ty u u').run P w = .ok v w := by
  have beqs : ∀ s s' : ByteArray, (s.data.toList == s'.data.toList) = decide (s.data.toList = s'.data.toList) := fun s s' => by
    rw [Bool.eq_iff_iff]; simp
  cases op with
  | add =>
    simp only [lsBin] at h
    split at h
    · cases h
    · rename_i xs hx
      split at h
      · cases h
      · rename_i ys hy
        split at h
        · rename_i hle
          have hle : xs.length + ys.length ≤ 1000000 := Nat.le_of_ble_eq_true hle
          obtain ⟨cv, h1, h2⟩ := lstrK_inv (σ := σ) h
          refine ⟨cv, tab, h1, hs, fun {e e' u u'} hu hu' => ?_⟩
          obtain ⟨s, rfl, e1⟩ := lsOf_inv hx hu
          obtain ⟨s', rfl, e2⟩ := lsOf_inv hy hu'
          have l1 : s.size = xs.length := by have := congrArg List.length e1; simpa [byteVal, bsVal] using this
          have l2 : s'.size = ys.length := by have := congrArg List.length e2; simpa [byteVal, bsVal] using this
          refine ⟨s, s', .string (s ++ s'), rfl, rfl, fun e => h2 e _ ?_, fun P ty w => ?_⟩
          · simp only [byteVal, bsVal, ByteArray.data_append, Array.toList_append, List.map_append] at e1 e2 ⊢
            rw [e1, e2]
          · have : ¬ ((s.size + s'.size : Nat) : Int) > IntKind.i64.max := by simp only [IntKind.max, IntKind.signed, IntKind.bits]; omega
            simp only [binOp, Op.stringOp, this, if_false, Sem.run_pure]
        · cases h
  | eql =>
    obtain ⟨b, tab', h1, h2, h3⟩ := lsEqV_inv (k := fun b tab => k (.bool b) tab) h hs
    refine ⟨_, tab', h1, h2, fun {e e' u u'} hu hu' => ?_⟩
    obtain ⟨s, s', rfl, rfl, rfl⟩ := h3 hu hu'
    refine ⟨s, s', _, rfl, rfl, fun _ => .bool _, fun P ty w => ?_⟩
    simp [binOp, Op.stringOp, ByteArray.toList_eq, beqs]
  | neq =>
    obtain ⟨b, tab', h1, h2, h3⟩ := lsEqV_inv (k := fun b tab => k (.bool (!b)) tab) h hs
    refine ⟨_, tab', h1, h2, fun {e e' u u'} hu hu' => ?_⟩
    obtain ⟨s, s', rfl, rfl, rfl⟩ := h3 hu hu'
    refine ⟨s, s', _, rfl, rfl, fun _ => .bool _, fun P ty w => ?_⟩
    simp [binOp, Op.stringOp, ByteArray.toList_eq, beqs]
  | _ => cases h
end
end Go.Ev

namespace Go.Ev

/-! Equality -/
def fitV : TypeDesc → Value → Prop
  | .bool, .bool _ => True
  | .int _, .int _ _ => True
  | .string, .string _ => True
  | _, _ => False
theorem linEqV_eq {σ : Sg} {x y : CV} {tab : Tab} {k : Bool → Tab → Bool} (h : linEqV x y tab k = true) (hs : Sat σ tab) :
    ∃ b tab', k b tab' = true ∧ Sat σ tab' ∧ ∀ {P : Program} {e : Env} {u v : Value}, VR σ e x u → VR σ e y v → ∀ {t : TypeId} {d : TypeDesc}, P.underlying t = some d →
      (d = .bool ∨ (∃ kd, d = .int kd) ∨ d = .string) → fitV d u →
      ∀ (n : Nat) (w : World), (Op.equalIn (n + 1) t u v).run P w = .ok b w := by
  obtain ⟨b, tab', h1, h2, h3⟩ := linEqV_inv h hs
  refine ⟨b, tab', h1, h2, fun {P e u v} hu hv t d ht hd hm n w => ?_⟩
  obtain ⟨kd, p, q, rfl, rfl, rfl⟩ := h3 hu hv
  rcases hd with rfl | ⟨kd, rfl⟩ | rfl <;> simp [fitV] at hm
  simp only [Op.equalIn, Sem.run_bind, undRun ht, Result.andThen_ok, if_true, Sem.run_pure]
  rfl
theorem lsEqV_eq {σ : Sg} {x y : CV} {tab : Tab} {k : Bool → Tab → Bool} (h : lsEqV x y tab k = true) (hs : Sat σ tab) :
    ∃ b tab', k b tab' = true ∧ Sat σ tab' ∧ ∀ {P : Program} {e : Env} {u v : Value}, VR σ e x u → VR σ e y v → ∀ {t : TypeId} {d : TypeDesc}, P.underlying t = some d →
      (d = .bool ∨ (∃ kd, d = .int kd) ∨ d = .string) → fitV d u →
      ∀ (n : Nat) (w : World), (Op.equalIn (n + 1) t u v).run P w = .ok b w := by
  obtain ⟨b, tab', h1, h2, h3⟩ := lsEqV_inv h hs
  refine ⟨b, tab', h1, h2, fun {P e u v} hu hv t d ht hd hm n w => ?_⟩
  obtain ⟨s, s', rfl, rfl, rfl⟩ := h3 hu hv
  rcases hd with rfl | ⟨kd, rfl⟩ | rfl <;> simp [fitV] at hm
  simp only [Op.equalIn, Sem.run_bind, undRun ht, Result.andThen_ok, Sem.run_pure]
  rw [beq_toListBytes, ByteArray.toList_eq, ByteArray.toList_eq]
  congr 1
  rw [Bool.eq_iff_iff]; simp
/-- the answer of the plain comparison is the real one -/
theorem eqP_inv {σ : Sg} {x y : CV} {tab : Tab} {k : Bool → Tab → Bool} (h : eqP x y tab k = true) (hs : Sat σ tab) :
    ∃ b tab', k b tab' = true ∧ Sat σ tab' ∧ ∀ {P : Program} {e : Env} {u v : Value}, VR σ e x u → VR σ e y v → ∀ {t : TypeId} {d : TypeDesc}, P.underlying t = some d →
      (d = .bool ∨ (∃ kd, d = .int kd) ∨ d = .string) → fitV d u →
      ∀ (n : Nat) (w : World), (Op.equalIn (n + 1) t u v).run P w = .ok b w := by
  cases x with
  | bool a =>
    cases y <;> simp only [eqP] at h <;> first | (cases h; done) | skip
    rename_i b
    refine ⟨_, tab, h, hs, fun {P e u v} hu hv t d ht hd hm n w => ?_⟩
    cases hu; cases hv
    rcases hd with rfl | ⟨kd, rfl⟩ | rfl <;> simp [fitV] at hm
    simp [Op.equalIn, undRun ht]
  | int kd a =>
    cases y <;> simp only [eqP] at h <;> first | (cases h; done) | skip
    · rename_i kd' b
      split at h
      · rename_i hk
        obtain rfl : kd = kd' := by simpa using hk
        refine ⟨_, tab, h, hs, fun {P e u v} hu hv t d ht hd hm n w => ?_⟩
        cases hu; cases hv
        rcases hd with rfl | ⟨kd, rfl⟩ | rfl <;> simp [fitV] at hm
        simp only [Op.equalIn, Sem.run_bind, undRun ht, Result.andThen_ok, if_true, Sem.run_pure, eqI_eq]
        rfl
      · cases h
    · rename_i kd' s
      split at h
      · rename_i hk
        obtain rfl : kd = kd' := by simpa using hk
        obtain ⟨tab', h1, h2⟩ := symEq_inv h hs
        refine ⟨_, tab', h1, h2, fun {P e u v} hu hv t d ht hd hm n w => ?_⟩
        cases hu; cases hv
        rcases hd with rfl | ⟨kd, rfl⟩ | rfl <;> simp [fitV] at hm
        simp only [Op.equalIn, Sem.run_bind, undRun ht, Result.andThen_ok, if_true, Sem.run_pure]
        congr 1
        rw [Bool.eq_iff_iff, beq_iff_eq, decide_eq_true_eq]; exact eq_comm
      · cases h
    · exact linEqV_eq h hs
  | sym kd s =>
    cases y <;> simp only [eqP] at h <;> first | (cases h; done) | skip
    · rename_i kd' b
      split at h
      · rename_i hk
        obtain rfl : kd = kd' := by simpa using hk
        obtain ⟨tab', h1, h2⟩ := symEq_inv h hs
        refine ⟨_, tab', h1, h2, fun {P e u v} hu hv t d ht hd hm n w => ?_⟩
        cases hu; cases hv
        rcases hd with rfl | ⟨kd, rfl⟩ | rfl <;> simp [fitV] at hm
        simp only [Op.equalIn, Sem.run_bind, undRun ht, Result.andThen_ok, if_true, Sem.run_pure]
        rfl
      · cases h
    · rename_i kd' s'
      split at h
      · rename_i hk
        simp only [Bool.and_eq_true, decide_eq_true_eq, Nat.beq_eq] at hk
        obtain ⟨rfl, rfl⟩ := hk
        refine ⟨_, tab, h, hs, fun {P e u v} hu hv t d ht hd hm n w => ?_⟩
        cases hu; cases hv
        rcases hd with rfl | ⟨kd, rfl⟩ | rfl <;> simp [fitV] at hm
        simp [Op.equalIn, undRun ht]
      · exact linEqV_eq h hs
    · exact linEqV_eq h hs
  | lin kd c ts => exact linEqV_eq h hs
  | lstr bs => exact lsEqV_eq h hs
  | str l1 c1 =>
    cases y <;> simp only [eqP] at h <;> first | (cases h; done) | skip
    rotate_left
    · exact lsEqV_eq h hs
    rename_i l2 c2
    refine ⟨_, tab, h, hs, fun {P e u v} hu hv t d ht hd hm n w => ?_⟩
    cases hu with
    | str s hl hc =>
      cases hv with
      | str s' hl' hc' =>
        rcases hd with rfl | ⟨kd, rfl⟩ | rfl <;> simp [fitV] at hm
        subst hl; subst hc; subst hl'; subst hc'
        simp only [Op.equalIn, Sem.run_bind, undRun ht, Result.andThen_ok, Sem.run_pure]
        rw [← strLen s, ← strLen s', beq_bytes, beq_toListBytes, ByteArray.toList_eq, ByteArray.toList_eq]
  | ssym s l =>
    cases y <;> simp only [eqP] at h <;> first | (cases h; done) | skip
    rename_i s' l'
    split at h
    · rename_i hk
      have hk : s = s' := by simpa using hk
      subst hk
      refine ⟨_, tab, h, hs, fun {P e u v} hu hv t d ht hd hm n w => ?_⟩
      cases hu; cases hv
      rcases hd with rfl | ⟨kd, rfl⟩ | rfl <;> simp [fitV] at hm
      simp only [Op.equalIn, Sem.run_bind, undRun ht, Result.andThen_ok, Sem.run_pure, beq_toListBytes]
      simp
    · cases h
  | _ => cases h

end Go.Ev
