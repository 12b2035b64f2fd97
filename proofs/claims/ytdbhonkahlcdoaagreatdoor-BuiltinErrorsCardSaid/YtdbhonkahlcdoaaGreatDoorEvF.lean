/- A verified evaluator for the model's code (part EvF): own work, of no program. -/
import Derived.Test.YtdbhonkahlcdoaaGreatDoorEvM
namespace Go.Ev
noncomputable section

/-! Answers -/
inductive Res where
  | ok
  | bad
  | both (a b : Res)
def Res.val (r : Res) : Bool := Res.rec (motive := fun _ => Bool) true false (fun _ _ a b => a && b) r
abbrev KRF := CV → Option CB → Tab → Res
def getFR {α : Type} (f : Nat) : Tr α → Nat → (α → Res) → Res :=
  Nat.rec (motive := fun _ => Tr α → Nat → (α → Res) → Res) (fun _ _ _ => .bad)
    (fun _ ih t n k => Nd.rec (motive := fun _ => (Tr α → Nat → (α → Res) → Res) → Nat → (α → Res) → Res) (fun _ _ _ => .bad)
      (fun v a b c d ih n k => Nat.rec (motive := fun _ => Res) (k v) (fun p _ => ih (kid a b c d (Nat.mod p 4)) (Nat.div p 4) k) n) t.1 ih n k) f
def getKR {α : Type} (t : Tr α) (n : Nat) (k : α → Res) : Res := getFR (Nat.succ n) t n k
def setFR {α : Type} (f : Nat) : Tr α → α → Nat → (Tr α → Res) → Res :=
  Nat.rec (motive := fun _ => Tr α → α → Nat → (Tr α → Res) → Res) (fun _ _ _ _ => .bad)
    (fun _ ih t x n k => Nd.rec (motive := fun _ => (Tr α → α → Nat → (Tr α → Res) → Res) → α → Nat → (Tr α → Res) → Res) (fun _ _ _ _ => .bad)
      (fun v a b c d ih x n k => Nat.rec (motive := fun _ => Res) (k (.mk (.node x a b c d)))
        (fun p _ => kid (fun a b c d v x i ih k => ih a x i ((fun v b c d k a => k (.mk (.node v a b c d))) v b c d k)) (fun a b c d v x i ih k => ih b x i ((fun v a c d k b => k (.mk (.node v a b c d))) v a c d k))
          (fun a b c d v x i ih k => ih c x i ((fun v a b d k c => k (.mk (.node v a b c d))) v a b d k)) (fun a b c d v x i ih k => ih d x i ((fun v a b c k d => k (.mk (.node v a b c d))) v a b c k))
          (Nat.mod p 4) a b c d v x (Nat.div p 4) ih k) n) t.1 ih x n k) f
def setKR {α : Type} (x : α) (t : Tr α) (n : Nat) (k : Tr α → Res) : Res := setFR (Nat.succ n) t x n k
def insFR {α : Type} (f : Nat) : Tr α → α → Nat → (Tr α → Res) → Res :=
  Nat.rec (motive := fun _ => Tr α → α → Nat → (Tr α → Res) → Res) (fun _ _ _ _ => .bad)
    (fun _ ih t x n k => Nd.rec (motive := fun _ => (Tr α → α → Nat → (Tr α → Res) → Res) → α → Nat → (Tr α → Res) → Res)
      (fun _ x n k => Nat.rec (motive := fun _ => Res) (k (.mk (.node x (.mk .nil) (.mk .nil) (.mk .nil) (.mk .nil)))) (fun _ _ => .bad) n)
      (fun v a b c d ih x n k => Nat.rec (motive := fun _ => Res) .bad
        (fun p _ => kid (fun a b c d v x i ih k => ih a x i ((fun v b c d k a => k (.mk (.node v a b c d))) v b c d k)) (fun a b c d v x i ih k => ih b x i ((fun v a c d k b => k (.mk (.node v a b c d))) v a c d k))
          (fun a b c d v x i ih k => ih c x i ((fun v a b d k c => k (.mk (.node v a b c d))) v a b d k)) (fun a b c d v x i ih k => ih d x i ((fun v a b c k d => k (.mk (.node v a b c d))) v a b c k))
          (Nat.mod p 4) a b c d v x (Nat.div p 4) ih k) n) t.1 ih x n k) f
def insKR {α : Type} (x : α) (t : Tr α) (n : Nat) (k : Tr α → Res) : Res := insFR (Nat.succ n) t x n k
def isTrueR (b : Bool) (k : Res) : Res := match b with | true => k | false => .bad
def kBR (b : Bool) (k : CV → Res) : Res := match b with | true => k (.bool true) | false => k (.bool false)
def forceNR (n : Nat) (k : Nat → Res) : Res := Nat.rec (motive := fun _ => Res) .bad (fun p _ => k p) (Nat.succ n)
def forceIR (n : Int) (k : Int → Res) : Res := match n with
  | .ofNat m => forceNR m fun m => k (.ofNat m)
  | .negSucc m => forceNR m fun m => k (.negSucc m)
def szKR (P : Program) (t : TypeId) (k : Nat → Res) : Res := match P.info? t with | some i => k i.size | none => .bad
def oneKR (v : CV) (k : Res) : Res := match v with | .agg _ => .bad | .tup _ => .bad | _ => k
def loadNR (cs : Tr CV) (n : Nat) : Nat → (List CV → Res) → Res :=
  Nat.rec (motive := fun _ => Nat → (List CV → Res) → Res) (fun _ k => k []) (fun _ ih off k => getKR cs off fun c => ih (Nat.succ off) fun l => k (c :: l)) n
def storeNR (l : List CV) : Nat → Tr CV → (Tr CV → Res) → Res :=
  lrec (fun _ cs k => k cs) (fun v _ ih off cs k => oneKR v (setKR v cs off fun cs' => ih (Nat.succ off) cs' k)) l
def pushNR (l : List CV) : Nat → Tr CV → (Tr CV → Res) → Res :=
  lrec (fun _ cs k => k cs) (fun v _ ih off cs k => oneKR v (insKR v cs off fun cs' => ih (Nat.succ off) cs' k)) l
def asPtrR (v : CV) (k : Nat → Nat → Res) : Res := match v with | .ptr b o => k b o | _ => .bad
def asBoolR (v : CV) (k : Bool → Res) : Res := match v with | .bool b => k b | _ => .bad
def allBR (n : Nat) (f : Nat → Res) : Res := Nat.rec (motive := fun _ => Res) .ok (fun p ih => Nat.rec (motive := fun _ => Res) (f p) (fun _ _ => .both (f p) ih) p) n
def asNatR (v : CV) (tab : Tab) (k : Nat → Tab → Res) : Res := match v with
  | .int _ n => match n with | .ofNat m => k m tab | .negSucc _ => .bad
  | .sym _ s => match tab.iv[s]? with
    | some (.ofNat lo, .ofNat hi) => match Nat.ble (hi - lo) 300 with
      | true => allBR (hi + 1 - lo) fun i => forceNR (lo + i) fun c => k c (setTab tab s (.ofNat c, .ofNat c))
      | false => .bad
    | _ => .bad
  | _ => .bad
def wrapKR (kd : IntKind) (x : Int) (k : Int → Res) : Res :=
  match leI kd.min x && leI x kd.max with
  | true => forceIR x k
  | false => forceIR (kd.wrap x) k
def intOpR (op : BinOp) (kd : IntKind) (a b : Int) (k : CV → Res) : Res :=
  match op with
  | .add => wrapKR kd (a + b) fun r => k (.int kd r)
  | .sub => wrapKR kd (a - b) fun r => k (.int kd r)
  | .mul => wrapKR kd (a * b) fun r => k (.int kd r)
  | .quo => match eqI b 0 with | true => .bad | false => wrapKR kd (a.tdiv b) fun r => k (.int kd r)
  | .rem => match eqI b 0 with | true => .bad | false => forceIR (a.tmod b) fun r => k (.int kd r)
  | .and => forceIR (kd.wrap (BitVec.ofInt kd.bits a &&& BitVec.ofInt kd.bits b).toNat) fun r => k (.int kd r)
  | .or => forceIR (kd.wrap (BitVec.ofInt kd.bits a ||| BitVec.ofInt kd.bits b).toNat) fun r => k (.int kd r)
  | .eql => kBR (eqI a b) k
  | .neq => kBR (!eqI a b) k
  | .lss => kBR (ltI a b) k
  | .leq => kBR (leI a b) k
  | .gtr => kBR (ltI b a) k
  | .geq => kBR (leI b a) k
  | .shl => match ltI b 0 with | true => .bad | false => wrapKR kd (a * 2 ^ (min b.toNat kd.bits)) fun r => k (.int kd r)
  | .shr => match ltI b 0 with | true => .bad | false => forceIR (a.fdiv (2 ^ (min b.toNat kd.bits))) fun r => k (.int kd r)
  | _ => .bad
def symLtR (s : Nat) (c : Int) (tab : Tab) (k : Bool → Tab → Res) : Res := match tab.iv[s]? with
  | some (lo, hi) => match ltI hi c with
    | true => k true tab
    | false => match ltI lo c with
      | false => k false tab
      | true => .both (k true (setTab tab s (lo, c - 1))) (k false (setTab tab s (c, hi)))
  | none => .bad
def symEqR (s : Nat) (c : Int) (tab : Tab) (k : Bool → Tab → Res) : Res := match tab.iv[s]? with
  | some (lo, hi) => match ltI c lo || ltI hi c with
    | true => k false tab
    | false => .both (k true (setTab tab s (c, c))) (.both (match ltI lo c with | true => k false (setTab tab s (lo, c - 1)) | false => .ok)
        (match ltI c hi with | true => k false (setTab tab s (c + 1, hi)) | false => .ok))
  | none => .bad
def symCmpR (op : BinOp) (s : Nat) (c : Int) (tab : Tab) (k : Bool → Tab → Res) : Res := match op with
  | .eql => symEqR s c tab k
  | .neq => symEqR s c tab fun b => k (!b)
  | .lss => symLtR s c tab k
  | .geq => symLtR s c tab fun b => k (!b)
  | .leq => symLtR s (c + 1) tab k
  | .gtr => symLtR s (c + 1) tab fun b => k (!b)
  | _ => .bad
def symRemR (kd : IntKind) (s : Nat) (c : Int) (tab : Tab) (k : CV → Tab → Res) : Res := match tab.iv[s]?, c with
  | some (.ofNat _, _), .ofNat (m + 1) => match Nat.ble m 300 with
    | true => allBR (m + 1) fun r => forceNR r fun r => k (.int kd (.ofNat r)) tab
    | false => .bad
  | _, _ => .bad
def forceTsR (ts : Ts) (k : Ts → Res) : Res := lrec (β := (Ts → Res) → Res) (fun k => k []) (fun x _ ih k => forceIR x.1 fun a => forceNR x.2 fun s => ih fun l => k ((a, s) :: l)) ts k
def linKR (kd : IntKind) (c : Int) (ts : Ts) (k : CV → Res) : Res := forceIR c fun c => forceTsR ts fun ts => match ts with
  | [] => k (.int kd c)
  | t :: ts => k (.lin kd c (t :: ts))
def linResR (kd : IntKind) (c : Int) (ts : Ts) (tab : Tab) (k : CV → Res) : Res := match bndL tab.iv c ts with
  | some (lo, hi) => match leI kd.min lo && leI hi kd.max with | true => linKR kd c ts k | false => .bad
  | none => .bad
def linLt0R (c : Int) (ts : Ts) (tab : Tab) (k : Bool → Tab → Res) : Res := match bndL tab.iv c ts with
  | none => .bad
  | some (lo, hi) => match ltI hi 0 with
    | true => k true tab
    | false => match leI 0 lo with
      | true => k false tab
      | false => match ts with
        | [(a, s)] => match tab.iv[s]? with
          | some (l, h) => match ltI 0 a with
            | true => forceIR (-(c / a)) fun q => .both (k true (setTab tab s (l, q - 1))) (k false (setTab tab s (q, h)))
            | false => match ltI a 0 with
              | true => forceIR (c / (-a)) fun q => .both (k true (setTab tab s (q + 1, h))) (k false (setTab tab s (l, q)))
              | false => .bad
          | none => .bad
        | _ => .both (k true tab) (k false tab)
def linLtR (c : Int) (ts : Ts) (tab : Tab) (k : Bool → Tab → Res) : Res := linLt0R (pinL tab.iv c ts).1 (pinL tab.iv c ts).2 tab k
def neSplitR (q l h : Int) (s : Nat) (tab : Tab) (k : Tab → Res) : Res := match eqI l q with
  | true => match ltI q h with | true => k (setTab tab s (q + 1, h)) | false => .ok
  | false => match eqI q h with
    | true => k (setTab tab s (l, q - 1))
    | false => forceIR (-q) fun c => forceNR s fun s => k ⟨tab.iv, (c, [(1, s)]) :: tab.ne⟩
def linEq0R (c : Int) (ts : Ts) (tab : Tab) (k : Bool → Tab → Res) : Res := match ts with
  | [] => k (eqI c 0) tab
  | t :: r => match bndL tab.iv c (t :: r) with
    | none => .bad
    | some (lo, hi) => match ltI hi 0 || (ltI 0 lo || isNe c (t :: r) tab.ne) with
      | true => k false tab
      | false => match r with
        | [] => match eqI t.1 0 with
          | true => .bad
          | false => match dvdI t.1 c with
            | false => k false tab
            | true => match tab.iv[t.2]? with
              | some (l, h) => forceIR (-(c / t.1)) fun q => match leI l q && leI q h with
                | true => match isNe (-q) [(1, t.2)] tab.ne with
                  | true => k false tab
                  | false => Res.both (match neBad (setTab tab t.2 (q, q)) with | true => .ok | false => k true (setTab tab t.2 (q, q))) (neSplitR q l h t.2 tab (k false))
                | false => k false tab
              | none => .bad
        | _ :: _ => .both (k true tab) (forceIR c fun c => forceTsR (t :: r) fun ts => k false ⟨tab.iv, (c, ts) :: tab.ne⟩)
def linEqR (c : Int) (ts : Ts) (tab : Tab) (k : Bool → Tab → Res) : Res := linEq0R (pinL tab.iv c ts).1 (pinL tab.iv c ts).2 tab k
def linBinR (op : BinOp) (kd : IntKind) (c : Int) (ts : Ts) (c' : Int) (ts' : Ts) (tab : Tab) (k : CV → Tab → Res) : Res := match op with
  | .add => linResR kd (c + c') (addTs ts ts') tab fun v => k v tab
  | .sub => linResR kd (c - c') (subTs ts ts') tab fun v => k v tab
  | .mul => match ts with
    | [] => linResR kd (c * c') (mulTs c ts') tab fun v => k v tab
    | _ => match ts' with
      | [] => linResR kd (c' * c) (mulTs c' ts) tab fun v => k v tab
      | _ => .bad
  | .quo => match ts' with
    | [] => match quoRem tab.iv c ts c' with
      | some (q, _) => linResR kd q.1 q.2 tab fun v => k v tab
      | none => .bad
    | t :: r => match timesOf tab.iv c ts c' (t :: r) with
      | some q => linResR kd q [] tab fun v => k v tab
      | none => .bad
  | .rem => match ts' with
    | [] => match quoRem tab.iv c ts c' with
      | some (_, r) => linResR kd r.1 r.2 tab fun v => k v tab
      | none => .bad
    | t :: r => match timesOf tab.iv c ts c' (t :: r) with
      | some _ => linResR kd 0 [] tab fun v => k v tab
      | none => .bad
  | .eql => linEqR (c - c') (subTs ts ts') tab fun b tab => k (.bool b) tab
  | .neq => linEqR (c - c') (subTs ts ts') tab fun b tab => k (.bool (!b)) tab
  | .lss => linLtR (c - c') (subTs ts ts') tab fun b tab => k (.bool b) tab
  | .geq => linLtR (c - c') (subTs ts ts') tab fun b tab => k (.bool (!b)) tab
  | .gtr => linLtR (c' - c) (subTs ts' ts) tab fun b tab => k (.bool b) tab
  | .leq => linLtR (c' - c) (subTs ts' ts) tab fun b tab => k (.bool (!b)) tab
  | _ => .bad
def linBinVR (op : BinOp) (x y : CV) (tab : Tab) (k : CV → Tab → Res) : Res := match linOf x with
  | none => .bad
  | some (kd, c, ts) => match linOf y with
    | none => .bad
    | some (kd', c', ts') => match decide (kd = kd') with | true => linBinR op kd (pinL tab.iv c ts).1 (pinL tab.iv c ts).2 (pinL tab.iv c' ts').1 (pinL tab.iv c' ts').2 tab k | false => .bad
def linEqVR (x y : CV) (tab : Tab) (k : Bool → Tab → Res) : Res := match linOf x with
  | none => .bad
  | some (kd, c, ts) => match linOf y with
    | none => .bad
    | some (kd', c', ts') => match decide (kd = kd') with | true => linEqR (c - c') (subTs ts ts') tab k | false => .bad
def linMMR (mx : Bool) (x y : CV) (tab : Tab) (k : CV → Tab → Res) : Res := match linOf x with
  | none => .bad
  | some (kd, c, ts) => match linOf y with
    | none => .bad
    | some (kd', c', ts') => match decide (kd = kd') with
      | true => linLtR (c - c') (subTs ts ts') tab fun b tab => k (selCV (b == mx) x y) tab
      | false => .bad
def linNegR (v : CV) (tab : Tab) (k : CV → Res) : Res := match linOf v with
  | some (kd, c, ts) => linResR kd (-c) (scaleTs (-1) ts) tab k
  | none => .bad
def forceBsR (bs : List (Int × Ts)) (k : List (Int × Ts) → Res) : Res :=
  lrec (β := (List (Int × Ts) → Res) → Res) (fun k => k []) (fun x _ ih k => forceIR x.1 fun c => forceTsR x.2 fun ts => ih fun l => k ((c, ts) :: l)) bs k
def lstrKR (bs : List (Int × Ts)) (k : CV → Res) : Res := match constBs bs with
  | some l => forceNR l.length fun n => forceNR (encBytes l) fun c => k (.str n c)
  | none => forceBsR bs fun bs => k (.lstr bs)
def lsEqR : List (Int × Ts) → List (Int × Ts) → Tab → (Bool → Tab → Res) → Res
  | [], [], tab, k => k true tab
  | (c, ts) :: l, (c', ts') :: l', tab, k => linEqR (c - c') (subTs ts ts') tab fun b tab => match b with | true => lsEqR l l' tab k | false => k false tab
  | _, _, tab, k => k false tab
def lsEqVR (x y : CV) (tab : Tab) (k : Bool → Tab → Res) : Res := match lsOf x with
  | none => .bad
  | some xs => match lsOf y with
    | none => .bad
    | some ys => lsEqR xs ys tab k
def lsBinR (op : BinOp) (x y : CV) (tab : Tab) (k : CV → Tab → Res) : Res := match op with
  | .add => match lsOf x with
    | none => .bad
    | some xs => match lsOf y with
      | none => .bad
      | some ys => match Nat.ble (xs.length + ys.length) 1000000 with | true => lstrKR (xs ++ ys) fun v => k v tab | false => .bad
  | .eql => lsEqVR x y tab fun b tab => k (.bool b) tab
  | .neq => lsEqVR x y tab fun b tab => k (.bool (!b)) tab
  | _ => .bad
def linPieceR (l c : Nat) (lc : Int) (ts : Ts) (m : Nat) (tab : Tab) (k : List (Int × Ts) → Res) : Res := match bndL tab.iv lc ts with
  | some (.ofNat lo, .ofNat hi) => match Nat.ble lo hi && Nat.ble (hi + m) l with
    | true => match ((decBytes l c).drop lo).take (hi + m - lo) with
      | [] => k []
      | b :: r => match runB (b :: r) b.toNat with
        | true => k ((List.range m).map fun j => (.ofNat b.toNat - .ofNat lo + lc + .ofNat j, ts))
        | false => .bad
    | false => .bad
  | _ => .bad
def strOpR (op : BinOp) (l1 c1 l2 c2 : Nat) (k : CV → Res) : Res :=
  match op with
  | .add => forceNR (l1 + l2) fun l => match Nat.ble l 1000000 with | true => forceNR (c1 * 256 ^ l2 + c2) fun c => k (.str l c) | false => .bad
  | .eql => kBR (Nat.beq l1 l2 && Nat.beq c1 c2) k
  | .neq => kBR (!(Nat.beq l1 l2 && Nat.beq c1 c2)) k
  | .lss => kBR (Op.bytesLess (decBytes l1 c1) (decBytes l2 c2)) k
  | .geq => kBR (!Op.bytesLess (decBytes l1 c1) (decBytes l2 c2)) k
  | .leq => kBR (Op.bytesLess (decBytes l1 c1) (decBytes l2 c2) || (Nat.beq l1 l2 && Nat.beq c1 c2)) k
  | .gtr => kBR (!(Op.bytesLess (decBytes l1 c1) (decBytes l2 c2) || (Nat.beq l1 l2 && Nat.beq c1 c2))) k
  | _ => .bad
def eqPR (x y : CV) (tab : Tab) (k : Bool → Tab → Res) : Res := match x with
  | .bool a => match y with | .bool b => k (a == b) tab | _ => .bad
  | .int kd a => match y with
    | .int kd' b => match decide (kd = kd') with | true => k (eqI a b) tab | false => .bad
    | .sym kd' s => match decide (kd = kd') with | true => symEqR s a tab k | false => .bad
    | .lin kd' c' ts' => linEqVR (.int kd a) (.lin kd' c' ts') tab k
    | _ => .bad
  | .sym kd s => match y with
    | .int kd' b => match decide (kd = kd') with | true => symEqR s b tab k | false => .bad
    | .sym kd' s' => match decide (kd = kd') && Nat.beq s s' with | true => k true tab | false => linEqVR (.sym kd s) (.sym kd' s') tab k
    | .lin kd' c' ts' => linEqVR (.sym kd s) (.lin kd' c' ts') tab k
    | _ => .bad
  | .lin kd c ts => linEqVR (.lin kd c ts) y tab k
  | .str l1 c1 => match y with
    | .str l2 c2 => k (Nat.beq l1 l2 && Nat.beq c1 c2) tab
    | .lstr bs => lsEqVR (.str l1 c1) (.lstr bs) tab k
    | _ => .bad
  | .lstr bs => lsEqVR (.lstr bs) y tab k
  | .ssym s _ => match y with | .ssym s' _ => (match Nat.beq s s' with | true => k true tab | false => .bad) | _ => .bad
  | _ => .bad
def eqLR (ps : List PK) : List CV → List CV → Tab → (Bool → Tab → Res) → Res :=
  lrec (fun _ _ tab k => k true tab)
    (fun p _ ih xs ys tab k => match xs with
      | [] => .bad
      | x :: xs => match ys with
        | [] => .bad
        | y :: ys => match fitP p x with
          | true => eqPR x y tab fun b tab => match b with | true => ih xs ys tab k | false => k false tab
          | false => .bad) ps
def forceLR (l : List CV) (k : List CV → Res) : Res := lrec (β := (List CV → Res) → Res) (fun k => k []) (fun x _ ih k => ih fun l => k (x :: l)) l k
def partCR (P : Program) (t : TypeId) (cs : List CV) (off : Nat) (k : CV → Res) : Res :=
  match aggT P t with
  | some true => szKR P t fun n => forceLR ((cs.drop off).take n) fun l => k (.agg l)
  | some false => match cs[off]? with | some c => k c | none => .bad
  | none => .bad
def loBdR (lo : Option CV) (h : Nat) (tab : Tab) (k : Nat → Tab → Res) : Res := match lo with
  | none => k 0 tab
  | some v => asNatR v tab fun l tab => match Nat.ble l h with | true => k l tab | false => .bad
def sliceBdR (len cap : Nat) (lo hi : Option CV) (tab : Tab) (k : Nat → Nat → Tab → Res) : Res :=
  match hi with
  | none => loBdR lo len tab fun l tab => k l len tab
  | some v => asNatR v tab fun h tab => match Nat.ble h cap with
    | true => loBdR lo h tab fun l tab => k l h tab
    | false => .bad
def lkBR (ok : Bool) (z : CV) (tab : Tab) (k : KRF) (r : Option CV) : Res := match r with
  | some v => match ok with | true => k (.tup [v, .bool true]) none tab | false => k v none tab
  | none => match ok with | true => k (.tup [z, .bool false]) none tab | false => k z none tab
def allOneR (l : List CV) (k : Res) : Res := lrec k (fun v _ ih => oneKR v ih) l
/-! Over any form of frames and heaps -/
structure Sig (T H : Type) where
  gT : T → Nat → (CV → Res) → Res
  sT : CV → T → Nat → (T → Res) → Res
  gH : H → Nat → (CB → Res) → Res
  sH : CB → H → Nat → (H → Res) → Res
  iH : CB → H → Nat → (H → Res) → Res
  dT : T → (Tm → Res) → Res
  nT : Tm → T
section
variable {T H : Type} (S : Sig T H)
abbrev KAX (H : Type) := CV → MX H → Res
abbrev CallX (H : Type) := Fn → List CV → MX H → KAX H → Res
abbrev KXX (T H : Type) := CX → T → List DF → MX H → Res
abbrev CodeX (T H : Type) := T → List DF → MX H → KXX T H → Res
def getOR (G : Nat → Bool) (x : Operand) (t : T) (k : CV → Res) : Res := match x with
  | .tmp i => S.gT t i k
  | .const v => match ofValue v with | some c => k c | none => .bad
  | .global g => match G g with | true => k (.ptr g 0) | false => .bad
  | .func f => k (.fn (.func f) [] [])
def getOsR (G : Nat → Bool) (xs : List Operand) (t : T) : (List CV → Res) → Res :=
  lrec (fun k => k []) (fun x _ ih k => getOR S G x t fun c => ih fun cs => k (c :: cs)) xs
def withCellsR (h : H) (b : Nat) (k : Nat → Bool → Nat → Nat → Tr CV → Res) : Res :=
  S.gH h b fun cb => match cb with
    | .cells te lo es sz cs => k te lo es sz cs
    | _ => .bad
def loadCR (P : Program) (t : TypeId) (b off : Nat) (h : H) (k : CV → Res) : Res :=
  withCellsR S h b fun _ _ _ _ cs => match aggT P t with
    | some true => szKR P t fun n => loadNR cs n off fun l => k (.agg l)
    | some false => getKR cs off k
    | none => .bad
def storeCR (P : Program) (t : TypeId) (b off : Nat) (v : CV) (h : H) (k : H → Res) : Res :=
  withCellsR S h b fun te lo es sz cs => szKR P t fun n => match Nat.beq (cellsOfCV v).length n with
    | true => storeNR (cellsOfCV v) off cs fun cs' => S.sH (.cells te lo es sz cs') h b k
    | false => .bad
def liveBR (h : H) (b : Nat) (k : Res) : Res := S.gH h b fun cb => match cb with
  | .cells _ lo es _ _ => match lo with
    | true => match Nat.beq es 1 with | true => .bad | false => k
    | false => k
  | _ => .bad
def eqCR (P : Program) (ty : TypeId) (cx cy : Bool) (x y : CV) (h : H) (tab : Tab) (k : Bool → Tab → Res) : Res := match x with
  | .agg xs => match y with
    | .agg ys => match plainStruct P ty with
      | some ps => eqLR ps xs ys tab k
      | none => .bad
    | _ => .bad
  | .ptr0 => match P.underlying ty with
    | some (.pointer _) => match y with | .ptr0 => k true tab | .ptr _ _ => k false tab | _ => .bad
    | _ => .bad
  | .ptr b o => match P.underlying ty with
    | some (.pointer el) => match y with
      | .ptr0 => k false tab
      | .ptr b' o' => szKR P el fun n => match Nat.beq n 0 with
        | true => .bad
        | false => match Nat.beq b b' with
          | true => k (Nat.beq o o') tab
          | false => liveBR S h b (liveBR S h b' (k false tab))
      | _ => .bad
    | _ => .bad
  | .sl0 => match P.underlying ty with
    | some (.slice _) => match y with | .sl0 => k true tab | .sl .. => k false tab | .slE => k false tab | _ => .bad
    | _ => .bad
  | .slE => match P.underlying ty with
    | some (.slice _) => match y with | .sl0 => k false tab | _ => .bad
    | _ => .bad
  | .sl .. => match P.underlying ty with
    | some (.slice _) => match y with | .sl0 => k false tab | _ => .bad
    | _ => .bad
  | .map0 => match P.underlying ty with
    | some (.map _ _) => match y with | .map0 => k true tab | .map _ => k false tab | _ => .bad
    | _ => .bad
  | .map _ => match P.underlying ty with
    | some (.map _ _) => match y with | .map0 => k false tab | _ => .bad
    | _ => .bad
  | .fn0 => match P.underlying ty with
    | some (.func ..) => match y with | .fn0 => k true tab | .fn .. => k false tab | _ => .bad
    | _ => .bad
  | .fn .. => match P.underlying ty with
    | some (.func ..) => match y with | .fn0 => k false tab | _ => .bad
    | _ => .bad
  | .ifc0 => match P.underlying ty with
    | some (.interface _) => match y with
      | .ifc0 => match cx || cy with | true => k true tab | false => .bad
      | .ifc .. => k false tab
      | _ => .bad
    | _ => .bad
  | .ifc .. => match P.underlying ty with
    | some (.interface _) => match y with | .ifc0 => k false tab | _ => .bad
    | _ => .bad
  | .bool _ => match P.underlying ty with
    | some .bool => eqPR x y tab k
    | _ => .bad
  | _ => .bad
def eqBinR (P : Program) (op : BinOp) (ty : TypeId) (cx cy : Bool) (x y : CV) (h : H) (tab : Tab) (k : CV → Tab → Res) : Res := match op with
  | .eql => eqCR S P ty cx cy x y h tab fun b tab => kBR b fun c => k c tab
  | .neq => eqCR S P ty cx cy x y h tab fun b tab => kBR (!b) fun c => k c tab
  | _ => .bad
def binCR (P : Program) (op : BinOp) (ty : TypeId) (cx cy : Bool) (x y : CV) (h : H) (tab : Tab) (k : CV → Tab → Res) : Res := match x with
  | .int kd a => match y with
    | .int kd' b => match decide (kd = kd') || (match op with | .shl | .shr => true | _ => false) with
      | true => intOpR op kd a b fun r => k r tab
      | false => .bad
    | .sym kd' s => match isCmp op with
      | true => match decide (kd = kd') with
        | true => symCmpR (flip op) s a tab fun b tab => k (.bool b) tab
        | false => .bad
      | false => linBinVR op (.int kd a) (.sym kd' s) tab k
    | .lin kd' c' ts' => linBinVR op (.int kd a) (.lin kd' c' ts') tab k
    | _ => .bad
  | .sym kd s => match y with
    | .int kd' b => match isCmp op with
      | true => match decide (kd = kd') with
        | true => symCmpR op s b tab fun b tab => k (.bool b) tab
        | false => .bad
      | false => match op with
        | .rem => match decide (kd = kd') with
          | true => symRemR kd s b tab k
          | false => .bad
        | op => linBinVR op (.sym kd s) (.int kd' b) tab k
    | .sym kd' s' => linBinVR op (.sym kd s) (.sym kd' s') tab k
    | .lin kd' c' ts' => linBinVR op (.sym kd s) (.lin kd' c' ts') tab k
    | _ => .bad
  | .lin kd c ts => linBinVR op (.lin kd c ts) y tab k
  | .str l1 c1 => match y with
    | .str l2 c2 => strOpR op l1 c1 l2 c2 fun r => k r tab
    | .lstr bs => lsBinR op (.str l1 c1) (.lstr bs) tab k
    | .ssym s l => match op with
      | .add => match Nat.beq l1 0 && smallS tab.iv l with | true => k (.ssym s l) tab | false => .bad
      | _ => .bad
    | _ => .bad
  | .lstr bs => lsBinR op (.lstr bs) y tab k
  | .ssym s _ => match y with
    | .ssym s' _ => match Nat.beq s s' with
      | true => match op with | .eql => k (.bool true) tab | .neq => k (.bool false) tab | _ => .bad
      | false => .bad
    | _ => .bad
  | .symr kd _ c lo cnt => match op with
    | .rem => match y with
      | .int kd' b => match b with
        | .ofNat n => (match decide (kd = kd') && (Nat.beq n c && (!Nat.beq c 0 && !Nat.beq cnt 0)) with | true => allBR cnt (fun i => forceNR (lo + i) fun r => k (.int kd (.ofNat r)) tab) | false => .bad)
        | .negSucc _ => .bad
      | _ => .bad
    | _ => .bad
  | x => eqBinR S P op ty cx cy x y h tab k
def optOR (G : Nat → Bool) (x : Option Operand) (t : T) (k : Option CV → Res) : Res := match x with | none => k none | some x => getOR S G x t fun v => k (some v)
def keyEqR (P : Program) (kt : TypeId) (x y : CV) (h : H) (tab : Tab) (k : Bool → Res) : Res := match x with
  | .int kd a => match y with | .int kd' b => (match decide (kd = kd') with | true => k (eqI a b) | false => .bad) | _ => .bad
  | .str l1 c1 => match y with | .str l2 c2 => k (Nat.beq l1 l2 && Nat.beq c1 c2) | _ => .bad
  | .ptr .. => eqCR S P kt false false x y h tab fun b _ => k b
  | _ => .bad
def findMR (P : Program) (kt : TypeId) (h : H) (tab : Tab) (key : CV) (es : List (CV × CV × Nat)) (k : Option CV → Res) : Res :=
  lrec (β := (Option CV → Res) → Res) (fun k => k none) (fun e _ ih k => keyEqR S P kt key e.1 h tab fun b => match b with | true => k (some e.2.1) | false => ih k) es k
def putMR (P : Program) (kt : TypeId) (h : H) (tab : Tab) (key v : CV) (clock : Nat) (es : List (CV × CV × Nat)) (k : List (CV × CV × Nat) → Bool → Res) : Res :=
  lrec (β := (List (CV × CV × Nat) → Bool → Res) → Res) (fun k => k [(key, v, clock)] true)
    (fun e es ih k => keyEqR S P kt key e.1 h tab fun b => match b with
      | true => k ((key, v, e.2.2) :: es) false
      | false => ih fun es' new => k (e :: es') new) es k
def convCR (P : Program) (src dst : TypeId) (x : CV) (h : H) (tab : Tab) (nb : Nat) (k : KRF) : Res := match P.underlying src with
  | none => .bad
  | some us => match P.underlying dst with
    | some (.slice e) => match x with
      | .str l c => match P.underlying e with
        | some (.int .u8) => k (.sl nb 0 l l) (some (.cells 0 true 1 l (ofList ((decBytes l c).map fun b => .int .u8 b.toNat)))) tab
        | some (.int .i32) => match Nat.ble l 1000000 && asciiB (decBytes l c) with
          | true => k (.sl nb 0 l l) (some (.cells 0 true 1 l (ofList ((decBytes l c).map fun b => .int .i32 b.toNat)))) tab
          | false => .bad
        | _ => .bad
      | .lstr bs => match P.underlying e with
        | some (.int .u8) => forceNR bs.length fun l => k (.sl nb 0 l l) (some (.cells 0 true 1 l (ofList (bs.map fun f => byteC f.1 f.2)))) tab
        | _ => .bad
      | _ => .bad
    | some (.int kd) => match x with
      | .int _ a => wrapKR kd a fun r => k (.int kd r) none tab
      | .sym _ s => match tab.iv[s]? with
        | some (lo, hi) => match leI kd.min lo && leI hi kd.max with | true => k (.sym kd s) none tab | false => .bad
        | none => .bad
      | .lin _ c ts => linResR kd c ts tab fun v => k v none tab
      | _ => .bad
    | some .string => match x with
      | .str l c => k (.str l c) none tab
      | .lstr bs => k (.lstr bs) none tab
      | .ssym s l => k (.ssym s l) none tab
      | .int _ a => forceNR (encBytes (Utf8.encode a).data.toList) fun c => forceNR (Utf8.encode a).size fun l => k (.str l c) none tab
      | _ => .bad
    | some .unsafePointer => match us with
      | .pointer t => match x with
        | .ptr b o => withCellsR S h b fun _ _ _ sz _ => szKR P t fun n => match Nat.blt o sz && !Nat.beq n 0 with
          | true => k (.ptr b o) none tab
          | false => .bad
        | _ => .bad
      | _ => .bad
    | some (.pointer u) => match us with
      | .unsafePointer => match x with
        | .ptr b o => withCellsR S h b fun te lo _ sz _ => match te with
          | 0 => .bad
          | T + 1 => match lo with
            | true => .bad
            | false => szKR P u fun _ => match liesAt P P.depth T (sz / P.cellsOf T) o u 1 with
              | true => k (.ptr b o) none tab
              | false => .bad
        | _ => .bad
      | _ => .bad
    | _ => .bad
def lenCR (P : Program) (ty : TypeId) (v : CV) (h : H) (tab : Tab) (k : CV → Tab → Res) : Res := match v with
  | .str l _ => match P.underlying ty with | some .string => k (.int .i64 (.ofNat l)) tab | _ => .bad
  | .ssym _ l => match P.underlying ty with | some .string => k (.sym .i64 l) tab | _ => .bad
  | .lstr bs => match P.underlying ty with | some .string => forceNR bs.length fun l => k (.int .i64 (.ofNat l)) tab | _ => .bad
  | .sl0 => match P.underlying ty with | some (.slice _) => k (.int .i64 0) tab | _ => .bad
  | .slE => match P.underlying ty with | some (.slice _) => k (.int .i64 0) tab | _ => .bad
  | .sl _ _ l _ => match P.underlying ty with | some (.slice _) => k (.int .i64 (.ofNat l)) tab | _ => .bad
  | .map0 => match P.underlying ty with | some (.map ..) => k (.int .i64 0) tab | _ => .bad
  | .map b => match P.underlying ty with
    | some (.map ..) => S.gH h b fun cb => match cb with | .map es _ => forceNR es.length fun l => k (.int .i64 (.ofNat l)) tab | _ => .bad
    | _ => .bad
  | _ => match P.underlying ty with
    | some (.array m _) => k (.int .i64 (.ofNat m)) tab
    | some (.pointer a) => match P.underlying a with | some (.array m _) => k (.int .i64 (.ofNat m)) tab | _ => .bad
    | _ => .bad
def floatCR (P : Program) (G : Nat → Bool) (o : Op) (t : T) (h : H) (tab : Tab) (nb : Nat) (k : KRF) : Res := match o with
  | .move x => getOR S G x t fun v => k v none tab
  | .assign x => getOR S G x t fun v => k v none tab
  | .pick c a b => getOR S G c t fun v => asBoolR v fun c => match c with
    | true => getOR S G a t fun v => k v none tab
    | false => getOR S G b t fun v => k v none tab
  | .alloc e => match zeroOf P e with
    | some z => k (.ptr nb 0) (some (.cells (e + 1) false 0 z.length (ofList z))) tab
    | none => .bad
  | .box _ x => getOR S G x t fun v => forceNR (cellsOfCV v).length fun l => k (.ptr nb 0) (some (.cells 0 false 0 l (ofList (cellsOfCV v)))) tab
  | .build ty parts => match zeroOf P ty with
    | some z => match P.underlying ty with
      | some (.struct fields) => match fields.toList.all (fun f => (P.info? f.type).isSome) with
       | false => .bad
       | true => getOsR S G (parts.toList.map (·.2)) t fun vs =>
        match fillC (fun i => (fields[i]?).map fun f => (f.offset, P.cellsOf f.type)) ((parts.toList.map (·.1)).zip vs) z with
        | some cs => forceLR cs fun cs => k (.agg cs) none tab
        | none => .bad
      | some (.array _ e) => szKR P e fun n => getOsR S G (parts.toList.map (·.2)) t fun vs =>
        match fillC (fun i => some (i * n, n)) ((parts.toList.map (·.1)).zip vs) z with
        | some cs => forceLR cs fun cs => k (.agg cs) none tab
        | none => .bad
      | _ => .bad
    | none => .bad
  | .buildSlice ty len parts => match elemOfSl P ty with
    | some e => match zeroOf P e with
      | some z => szKR P e fun n => match Nat.ble (len * z.length) 65536 && Nat.beq z.length n with
        | true => getOsR S G (parts.toList.map (·.2)) t fun vs =>
          match fillC (fun i => some (i * n, n)) ((parts.toList.map (·.1)).zip vs) (repl len z) with
          | some cs => forceNR (len * z.length) fun sz => k (.sl nb 0 len len) (some (.cells 0 false 0 sz (ofList cs))) tab
          | none => .bad
        | false => .bad
      | none => .bad
    | none => .bad
  | .load ty x => getOR S G x t fun v => asPtrR v fun b off => loadCR S P ty b off h fun v => k v none tab
  | .nilCheck x => getOR S G x t fun v => match v with
    | .ptr b o => k (.ptr b o) none tab
    | .fn (.func f) a c => k (.fn (.func f) a c) none tab
    | .yld b => k (.yld b) none tab
    | .ifc ty v => k (.ifc ty v) none tab
    | _ => .bad
  | .binOp op ty x y _ => getOR S G x t fun v => getOR S G y t fun w => binCR S P op ty (isC x) (isC y) v w h tab fun r tab => k r none tab
  | .unOp op _ x => getOR S G x t fun v => match op with
    | .not => asBoolR v fun b => match b with | true => k (.bool false) none tab | false => k (.bool true) none tab
    | .neg => match v with
      | .int kd a => wrapKR kd (0 - a) fun r => k (.int kd r) none tab
      | v => linNegR v tab fun r => k r none tab
    | _ => .bad
  | .convert s d x => getOR S G x t fun v => convCR S P s d v h tab nb k
  | .makeInterface ty x => getOR S G x t fun v => match isIfc P ty with | true => .bad | false => k (.ifc ty v) none tab
  | .typeAssert x _ ty ok => getOR S G x t fun v => match isIfc P ty with
    | true => .bad
    | false => match v with
      | .ifc t' u => match Nat.beq t' ty with
        | true => match ok with
          | true => k (.tup [u, .bool true]) none tab
          | false => k u none tab
        | false => .bad
      | _ => .bad
  | .makeFunc f first cap => match f with
    | .func f => getOsR S G first.toList t fun a => getOsR S G cap.toList t fun c => k (.fn (.func f) a c) none tab
    | _ => .bad
  | .makeMap _ r => match r with
    | none => k (.map nb) (some (.map [] 0)) tab
    | some _ => .bad
  | .makeSlice ty l c => match elemOfSl P ty with
    | some e => match zeroOf P e with
      | some z => getOR S G l t fun l => asNatR l tab fun l tab => getOR S G c t fun c => asNatR c tab fun c tab =>
        szKR P e fun n => match Nat.ble l c && (Nat.ble (c * z.length) 65536 && (Nat.ble (c * P.bytesOf e) 1000000000 && (Nat.ble c 65536 && Nat.beq z.length n))) with
        | true => forceNR (c * z.length) fun sz => k (.sl nb 0 l c) (some (.cells 0 false 0 sz (ofList (repl c z)))) tab
        | false => .bad
      | none => .bad
    | none => .bad
  | .slice ty x lo hi mx => match mx with
    | some _ => .bad
    | none => getOR S G x t fun v => optOR S G lo t fun lo => optOR S G hi t fun hi => match v with
      | .str len c => match P.underlying ty with
        | some .string => match lo with
          | some (.lin _ lc ts) => match hi with
            | some h => match linOf h with
              | some (_, hc, ts') => match subTs ts' ts with
                | [] => match hc - lc with
                  | .ofNat m => linPieceR len c lc ts m tab fun bs => lstrKR bs fun v => k v none tab
                  | .negSucc _ => .bad
                | _ => .bad
              | none => .bad
            | none => .bad
          | _ => sliceBdR len len lo hi tab fun l h' tab => forceNR (h' - l) fun m => forceNR (c / 256 ^ (len - h') % 256 ^ m) fun c' => k (.str m c') none tab
        | _ => .bad
      | .lstr bs => match P.underlying ty with
        | some .string => sliceBdR bs.length bs.length lo hi tab fun l h' tab => lstrKR ((bs.take h').drop l) fun v => k v none tab
        | _ => .bad
      | .sl b off len cap => match elemOfSl P ty with
        | some e => szKR P e fun n => match Nat.ble len cap with
          | false => .bad
          | true => sliceBdR len cap lo hi tab fun l h' tab => match Nat.blt l cap with
            | true => forceNR (off + l * n) fun o' => forceNR (h' - l) fun l' => forceNR (cap - l) fun c' => k (.sl b o' l' c') none tab
            | false => k .slE none tab
        | none => .bad
      | .slE => match elemOfSl P ty with
        | some e => szKR P e fun _ => sliceBdR 0 0 lo hi tab fun _ _ tab => k .slE none tab
        | none => .bad
      | .sl0 => match elemOfSl P ty with
        | some e => szKR P e fun _ => sliceBdR 0 0 lo hi tab fun _ _ tab => k .sl0 none tab
        | none => .bad
      | _ => .bad
  | .fieldAddr s x f => match fieldOf P s f with
    | some fd => szKR P fd.type fun n => match Nat.beq n 0 with
      | true => .bad
      | false => getOR S G x t fun v => asPtrR v fun b off => forceNR (off + fd.offset) fun o' => k (.ptr b o') none tab
    | none => .bad
  | .field s x f => match fieldOf P s f with
    | some fd => getOR S G x t fun v => match v with | .agg cs => partCR P fd.type cs fd.offset fun r => k r none tab | _ => .bad
    | none => .bad
  | .indexAddr ty x i => getOR S G x t fun v => getOR S G i t fun w => asNatR w tab fun i tab => match v with
    | .sl b off len _ => match elemOfSl P ty with
      | some e => match Nat.blt i len with
        | true => szKR P e fun n => forceNR (off + i * n) fun o' => k (.ptr b o') none tab
        | false => .bad
      | none => .bad
    | .ptr b off => match P.underlying ty with
      | some (.array len e) => match Nat.blt i len with
        | true => szKR P e fun n => forceNR (off + i * n) fun o' => k (.ptr b o') none tab
        | false => .bad
      | _ => .bad
    | _ => .bad
  | .index ty x i => getOR S G x t fun v => getOR S G i t fun w => asNatR w tab fun i tab => match v with
    | .lstr bs => match P.underlying ty with
      | some .string => match bs[i]? with
        | some f => k (byteC f.1 f.2) none tab
        | none => .bad
      | _ => .bad
    | .str len c => match P.underlying ty with
      | some .string => match Nat.blt i len with
        | true => forceNR (c / 256 ^ (len - 1 - i) % 256) fun b => k (.int .u8 (.ofNat b)) none tab
        | false => .bad
      | _ => .bad
    | .agg cs => match P.underlying ty with
      | some (.array len e) => match Nat.blt i len with
        | true => szKR P e fun n => partCR P e cs (i * n) fun r => k r none tab
        | false => .bad
      | _ => .bad
    | _ => .bad
  | .lookup ty x i ok => match P.underlying ty with
    | some (.map kt e) => getOR S G x t fun v => getOR S G i t fun w => match keyOk P kt w with
      | false => .bad
      | true => match zeroVal P e with
        | some z => (match v with
          | .map0 => fun (k : Option CV → Res) => k none
          | .map b => fun k => S.gH h b fun cb => match cb with | .map es _ => findMR S P kt h tab w es k | _ => .bad
          | _ => fun _ => .bad) fun r => lkBR ok z tab k r
        | none => .bad
    | _ => .bad
  | .extract x i => getOR S G x t fun v => match v with
    | .tup vs => match vs[i]? with | some c => k c none tab | none => .bad
    | _ => .bad
  | .call c => match c.callee with
    | .builtin .len => match c.args.toList with
      | [x] => match c.argTypes[0]? with
        | some ty => getOR S G x t fun v => lenCR S P ty v h tab fun r tab => k r none tab
        | none => .bad
      | _ => .bad
    | .builtin .min => match c.args.toList with
      | [x, y] => getOR S G x t fun v => getOR S G y t fun w => match v with
        | .int kd a => match w with
          | .int _ b => (match ltI b a with | true => k (.int kd b) none tab | false => k (.int kd a) none tab)
          | w => linMMR false (.int kd a) w tab fun r tab => k r none tab
        | v => linMMR false v w tab fun r tab => k r none tab
      | _ => .bad
    | .builtin .max => match c.args.toList with
      | [x, y] => getOR S G x t fun v => getOR S G y t fun w => match v with
        | .int kd a => match w with
          | .int _ b => (match ltI a b with | true => k (.int kd b) none tab | false => k (.int kd a) none tab)
          | w => linMMR true (.int kd a) w tab fun r tab => k r none tab
        | v => linMMR true v w tab fun r tab => k r none tab
      | _ => .bad
    | _ => .bad
  | _ => .bad
def newBR (cb : CB) (m : MX H) (k : Nat → MX H → Res) : Res :=
  S.iH cb m.h m.n fun h' => forceNR (Nat.succ m.n) fun n' => k m.n ⟨h', n', m.tab⟩
def appendedR (str : Bool) (n : Nat) (x : CV) (h : H) (k : List CV → Nat → Res) : Res := match str with
  | false => match x with
    | .sl0 => k [] 0
    | .slE => k [] 0
    | .sl b off len _ => withCellsR S h b fun _ _ _ _ cs => loadNR cs (len * n) off fun l => allOneR l (k l len)
    | _ => .bad
  | true => match x with
    | .str l c => match Nat.beq n 1 with
      | true => k ((decBytes l c).map fun b => .int .u8 b.toNat) l
      | false => .bad
    | .lstr bs => match Nat.beq n 1 with
      | true => forceNR bs.length fun l => k (bs.map fun f => byteC f.1 f.2) l
      | false => .bad
    | _ => .bad
def tailCR (P : Program) (et : TypeId) (n : Nat) (new : List CV) (cnt : Nat) (s : CV) (m : MX H) (k : KAX H) : Res := match s with
    | .sl0 => match Nat.beq cnt 0 with
      | true => k .sl0 m
      | false => isTrueR (Nat.ble (4 * cnt * P.bytesOf et) 281474976710656) <| forceNR (cnt * n) fun sz =>
        newBR S (.cells (et + 1) true (n) sz (ofList new)) m fun b m' => k (.sl b 0 cnt cnt) m'
    | .sl b off len cap => withCellsR S m.h b fun te lo es sz cs => forceNR (len + cnt) fun need => match Nat.ble need cap with
      | true => storeNR new (off + len * n) cs fun cs' => S.sH (.cells te lo es sz cs') m.h b fun h' => k (.sl b off need cap) ⟨h', m.n, m.tab⟩
      | false => isTrueR (Nat.ble (4 * need * P.bytesOf et) 281474976710656) <| forceNR (need * n) fun sz' => match lo with
        | true => isTrueR (Nat.beq es (n)) <| isTrueR (Nat.beq (off + cap * es) sz) <| S.sH .none m.h b fun h1 =>
          match Nat.beq off 0 && Nat.beq (len * es) sz with
          | true => pushNR new sz cs fun cs' => newBR S (.cells (sameTe te (et + 1)) true es sz' cs') ⟨h1, m.n, m.tab⟩ fun b' m' => k (.sl b' 0 need need) m'
          | false => loadNR cs (len * es) off fun old => newBR S (.cells (sameTe te (et + 1)) true es sz' (ofList (old ++ new))) ⟨h1, m.n, m.tab⟩ fun b' m' => k (.sl b' 0 need need) m'
        | false => loadNR cs (len * n) off fun old => newBR S (.cells (et + 1) true (n) sz' (ofList (old ++ new))) m fun b' m' => k (.sl b' 0 need need) m'
    | _ => .bad
def appendCR (P : Program) (et : TypeId) (str : Bool) (s x : CV) (m : MX H) (k : KAX H) : Res :=
  szKR P et fun n => isTrueR (!Nat.beq n 0) <| isTrueR (!Nat.beq (P.bytesOf et) 0) <| isTrueR (match zeroOf P et with | some z => Nat.beq z.length n | none => false) <|
  appendedR S str n x m.h fun new cnt => tailCR S P et n new cnt s m k
def appendZR (P : Program) (et : TypeId) (s x : CV) (m : MX H) (k : KAX H) : Res :=
  szKR P et fun n => isTrueR (!Nat.beq n 0) <| isTrueR (!Nat.beq (P.bytesOf et) 0) <| match zeroOf P et with
    | some z => isTrueR (Nat.beq z.length n) <| match x with
      | .int kd a => match kd with
        | .i64 => match a with
          | .ofNat cnt => isTrueR (Nat.ble (cnt * P.bytesOf et) 281474976710656) <| isTrueR (Nat.ble cnt 65536) <| allOneR (repl cnt z) <| tailCR S P et n (repl cnt z) cnt s m k
          | .negSucc _ => .bad
        | _ => .bad
      | _ => .bad
    | none => .bad
def ustrCR (e : TypeId) (v : CV) (n : Nat) (m : MX H) (k : KAX H) : Res := match v with
  | .ptr0 => match Nat.beq n 0 with | true => k (.str 0 0) m | false => .bad
  | .ptr b off => match Nat.beq n 0 with
    | true => k (.str 0 0) m
    | false => withCellsR S m.h b fun te _ _ sz cs => match Nat.beq te (e + 1) && (Nat.ble (off + n) sz && Nat.ble n 1000000) with
      | true => loadNR cs n off fun l => match bytesOf? l with
        | some bs => forceNR (encBytes bs) fun c => S.sH .none m.h b fun h' => k (.str n c) ⟨h', m.n, m.tab⟩
        | none => match byteForms m.tab.iv l with
          | some fs => S.sH .none m.h b fun h' => k (.lstr fs) ⟨h', m.n, m.tab⟩
          | none => .bad
      | false => .bad
  | _ => .bad
def actCR (P : Program) (G : Nat → Bool) (call : CallX H) (o : Op) (t : T) (m : MX H) (k : KAX H) : Res := match o with
  | .store ty x y => getOR S G x t fun v => asPtrR v fun b off => getOR S G y t fun w => storeCR S P ty b off w m.h fun h' => k undefC ⟨h', m.n, m.tab⟩
  | .mapUpdate ty x i y => match P.underlying ty with
    | some (.map kt _) => getOR S G x t fun v => getOR S G i t fun key => getOR S G y t fun val => match keyOk P kt key with
      | false => .bad
      | true => match v with
        | .map b => S.gH m.h b fun cb => match cb with
          | .map es clock => putMR S P kt m.h m.tab key val clock es fun es' new => forceNR (match new with | true => clock + 1 | false => clock) fun clock' =>
            S.sH (.map es' clock') m.h b fun h' => k undefC ⟨h', m.n, m.tab⟩
          | _ => .bad
        | _ => .bad
    | _ => .bad
  | .call c => match c.callee with
    | .value f => getOR S G f t fun fv => getOsR S G c.args.toList t fun args => match fv with
      | .fn f first cap => match f with
        | .func f => call (.func f) (first ++ args ++ cap) m k
        | _ => .bad
      | .yld b => call (.yield b) args m k
      | _ => .bad
    | .builtin b => match b with
      | .append => match c.args.toList with
        | [x, y] => match c.argTypes.toList with
          | [tx, ty] => match elemOfSl P tx with
            | some e => match P.underlying ty with
              | some (.slice _) => getOR S G x t fun v => getOR S G y t fun w => appendCR S P e false v w m k
              | some .string => getOR S G x t fun v => getOR S G y t fun w => appendCR S P e true v w m k
              | some (.int _) => getOR S G x t fun v => getOR S G y t fun w => appendZR S P e v w m k
              | _ => .bad
            | none => .bad
          | _ => .bad
        | _ => .bad
      | .recover => k .ifc0 m
      | .unsafeSliceData => match c.args.toList with
        | [x] => getOR S G x t fun v => match v with
          | .sl0 => k .ptr0 m
          | .sl b off _ cap => match Nat.blt 0 cap with | true => k (.ptr b off) m | false => .bad
          | _ => .bad
        | _ => .bad
      | .unsafeString => match c.args.toList with
        | [x, y] => match c.argTypes.toList with
          | [pt, _] => match P.underlying pt with
            | some (.pointer e) => match Nat.beq (P.cellsOf e) 1 with
              | true => getOR S G x t fun v => getOR S G y t fun w => match w with
                | .int .i64 (.ofNat n) => ustrCR S e v n m k
                | _ => .bad
              | false => .bad
            | _ => .bad
          | _ => .bad
        | _ => .bad
      | _ => .bad
    | .invoke _ _ => .bad
  | _ => .bad
def putTR (dst : Option Tmp) (v : CV) (t : T) (k : T → Res) : Res := match dst with
  | none => k t
  | some d => S.sT v t d k
def guardCR (ops : Array Oper) (o : Oper) (t : T) (k : Bool → Res) : Res := match o.guard with
  | none => k true
  | some (j, want) => match ops[j]? with
    | some oj => match oj.dst with
      | some d => S.gT t d fun v => match v with
        | .bool b => match want with
          | true => (match b with | true => k true | false => k false)
          | false => (match b with | true => k false | false => k true)
        | .tup [] => k false
        | _ => .bad
      | none => .bad
    | none => .bad
def operCR (P : Program) (G : Nat → Bool) (rd : Bool) (call : CallX H) (ops : Array Oper) (o : Oper) (t : T) (d : List DF) (m : MX H) (k : T → List DF → MX H → Res) : Res :=
  guardCR S ops o t fun b => match b with
    | false => putTR S o.dst undefC t fun t' => k t' d m
    | true => match isFloat o.op with
      | true => floatCR S P G o.op t m.h m.tab m.n fun v nb tab => putTR S o.dst v t fun t' => match nb with
        | none => k t' d ⟨m.h, m.n, tab⟩
        | some cb => newBR S cb ⟨m.h, m.n, tab⟩ fun _ m' => k t' d m'
      | false => match o.op with
        | .defer c => match rd with
          | true => .bad
          | false => match c.callee with
            | .value f => getOR S G f t fun fv => getOsR S G c.args.toList t fun args => match fv with
              | .fn f first cap => match f with
                | .func f => putTR S o.dst undefC t fun t' => k t' (.call (.func f) (first ++ args) cap :: d) m
                | _ => .bad
              | _ => .bad
            | _ => .bad
        | op => isTrueR (match op, rd with
            | .call { callee := .builtin .recover, .. }, true => false
            | _, _ => true) <| actCR S P G call op t m fun v m' => putTR S o.dst v t fun t' => k t' d m'
def againCR (P : Program) (G : Nat → Bool) (ops : Array Oper) (t : T) (m : MX H) (j : Nat) : Res := match ops[j]? with
  | some o => guardCR S ops o t fun b => match b with
    | false => .ok
    | true => match o.dst with
      | some dd => S.gT t dd fun v => floatCR S P G o.op t m.h m.tab 0 fun v' nb _ => match nb with | none => isTrueR (cvBeq v v') .ok | some _ => .bad
      | none => .bad
  | none => .bad
def resultsCR (P : Program) (rs : List ResultVar) : T → MX H → (List CV → Res) → Res :=
  lrec (fun _ _ k => k []) (fun r _ ih t m k => match r with
    | .tmp i => S.gT t i fun v => ih t m fun vs => k (v :: vs)
    | .cell a ty => S.gT t a fun v => asPtrR v fun b off => loadCR S P ty b off m.h fun v => ih t m fun vs => k (v :: vs)) rs
def defersCR (call : CallX H) (ds : List DF) : MX H → (MX H → Res) → Res :=
  lrec (fun m k => k m) (fun d _ ih m k => match d with
    | .call f args cap => call f (args ++ cap) m fun _ m => ih m k
    | .coll b => S.gH m.h b fun cb => match cb with
      | .dfd true => S.sH (.dfd false) m.h b fun h' => ih ⟨h', m.n, m.tab⟩ k
      | _ => .bad) ds
def setPsR (ps : List Nat) : List CV → T → (T → Res) → Res :=
  lrec (fun as t k => match as with | [] => k t | _ => .bad)
    (fun p _ ih as t k => match as with
      | [] => .bad
      | a :: as => S.sT a t p fun t' => ih as t' k) ps
def endRdR (l : Nat) (x : CX) (m : MX H) (k : KAX H) : Res := S.gH m.h l fun cb => match cb with
  | .loop _ _ fn tm ps a b db => match x with
    | .normal => S.sH (.loop .ready none fn tm ps a b db) m.h l fun h' => k (.bool true) ⟨h', m.n, m.tab⟩
    | .exit id => S.sH (.loop .done (some (.exit id)) fn tm ps a b db) m.h l fun h' => k (.bool false) ⟨h', m.n, m.tab⟩
    | .ret => S.sH (.loop .done (some .ret) fn tm ps a b db) m.h l fun h' => k (.bool false) ⟨h', m.n, m.tab⟩
  | _ => .bad
end
end
end Go.Ev

namespace Go.Ev
theorem val_bad : Res.val .bad = false := rfl
theorem val_ok : Res.val .ok = true := rfl
theorem val_both (a b : Res) : (Res.both a b).val = (a.val && b.val) := rfl
theorem isTrueR_val (b : Bool) (k : Res) : (isTrueR b k).val = isTrue b k.val := by cases b <;> rfl
theorem kBR_val (b : Bool) (k : CV → Res) : (kBR b k).val = kB b fun c => (k c).val := by cases b <;> rfl
theorem forceNR_val (n : Nat) (k : Nat → Res) : (forceNR n k).val = forceN n fun n => (k n).val := rfl
theorem forceIR_val (n : Int) (k : Int → Res) : (forceIR n k).val = forceI n fun n => (k n).val := by cases n <;> rfl
theorem szKR_val (P : Program) (t : TypeId) (k : Nat → Res) : (szKR P t k).val = szK P t fun n => (k n).val := by
  unfold szKR szK
  cases P.info? t <;> rfl
theorem oneKR_val (v : CV) (k : Res) : (oneKR v k).val = oneK v k.val := by cases v <;> rfl
theorem getFR_val {α : Type} (f : Nat) : ∀ (t : Tr α) (n : Nat) (k : α → Res), (getFR f t n k).val = getF f t n fun x => (k x).val := by
  induction f with
  | zero => intros; rfl
  | succ f ih =>
    intro t n k
    obtain ⟨nd⟩ := t
    cases nd with
    | nil => rfl
    | node v a b c d =>
      cases n with
      | zero => rfl
      | succ p => exact ih (kid a b c d (p % 4)) (p / 4) k
theorem getKR_val {α : Type} (t : Tr α) (n : Nat) (k : α → Res) : (getKR t n k).val = getK t n fun x => (k x).val := getFR_val _ t n k
theorem setFR_val {α : Type} (x : α) (f : Nat) : ∀ (t : Tr α) (n : Nat) (k : Tr α → Res), (setFR f t x n k).val = setF f t x n fun t => (k t).val := by
  induction f with
  | zero => intros; rfl
  | succ f ih =>
    intro t n k
    obtain ⟨nd⟩ := t
    cases nd with
    | nil => rfl
    | node v a b c d =>
      cases n with
      | zero => rfl
      | succ p =>
        have e : setFR (f + 1) (.mk (.node v a b c d)) x (p + 1) k = kid (fun a b c d v x i ih k => ih a x i (fun a => k (.mk (.node v a b c d)))) (fun a b c d v x i ih k => ih b x i (fun b => k (.mk (.node v a b c d))))
            (fun a b c d v x i ih k => ih c x i (fun c => k (.mk (.node v a b c d)))) (fun a b c d v x i ih k => ih d x i (fun d => k (.mk (.node v a b c d)))) (p % 4) a b c d v x (p / 4) (setFR f) k := rfl
        have e' : setF (f + 1) (.mk (.node v a b c d)) x (p + 1) (fun t => (k t).val) = kid (fun a b c d v x i ih k => ih a x i (fun a => k (.mk (.node v a b c d)))) (fun a b c d v x i ih k => ih b x i (fun b => k (.mk (.node v a b c d))))
            (fun a b c d v x i ih k => ih c x i (fun c => k (.mk (.node v a b c d)))) (fun a b c d v x i ih k => ih d x i (fun d => k (.mk (.node v a b c d)))) (p % 4) a b c d v x (p / 4) (setF f) (fun t => (k t).val) := rfl
        rw [e, e']
        rcases (by omega : p % 4 = 0 ∨ p % 4 = 1 ∨ p % 4 = 2 ∨ p % 4 = 3) with hp | hp | hp | hp <;> rw [hp] <;> exact ih _ (p / 4) _
theorem setKR_val {α : Type} (x : α) (t : Tr α) (n : Nat) (k : Tr α → Res) : (setKR x t n k).val = setK x t n fun t => (k t).val := setFR_val x _ t n k
theorem insFR_val {α : Type} (x : α) (f : Nat) : ∀ (t : Tr α) (n : Nat) (k : Tr α → Res), (insFR f t x n k).val = insF f t x n fun t => (k t).val := by
  induction f with
  | zero => intros; rfl
  | succ f ih =>
    intro t n k
    obtain ⟨nd⟩ := t
    cases nd with
    | nil => cases n <;> rfl
    | node v a b c d =>
      cases n with
      | zero => rfl
      | succ p =>
        have e : insFR (f + 1) (.mk (.node v a b c d)) x (p + 1) k = kid (fun a b c d v x i ih k => ih a x i (fun a => k (.mk (.node v a b c d)))) (fun a b c d v x i ih k => ih b x i (fun b => k (.mk (.node v a b c d))))
            (fun a b c d v x i ih k => ih c x i (fun c => k (.mk (.node v a b c d)))) (fun a b c d v x i ih k => ih d x i (fun d => k (.mk (.node v a b c d)))) (p % 4) a b c d v x (p / 4) (insFR f) k := rfl
        have e' : insF (f + 1) (.mk (.node v a b c d)) x (p + 1) (fun t => (k t).val) = kid (fun a b c d v x i ih k => ih a x i (fun a => k (.mk (.node v a b c d)))) (fun a b c d v x i ih k => ih b x i (fun b => k (.mk (.node v a b c d))))
            (fun a b c d v x i ih k => ih c x i (fun c => k (.mk (.node v a b c d)))) (fun a b c d v x i ih k => ih d x i (fun d => k (.mk (.node v a b c d)))) (p % 4) a b c d v x (p / 4) (insF f) (fun t => (k t).val) := rfl
        rw [e, e']
        rcases (by omega : p % 4 = 0 ∨ p % 4 = 1 ∨ p % 4 = 2 ∨ p % 4 = 3) with hp | hp | hp | hp <;> rw [hp] <;> exact ih _ (p / 4) _
theorem insKR_val {α : Type} (x : α) (t : Tr α) (n : Nat) (k : Tr α → Res) : (insKR x t n k).val = insK x t n fun t => (k t).val := insFR_val x _ t n k
theorem loadNR_val (n : Nat) : ∀ (cs : Tr CV) (i : Nat) (k : List CV → Res), (loadNR cs n i k).val = loadN cs n i fun l => (k l).val := by
  induction n with
  | zero => intros; rfl
  | succ n ih =>
    intro cs i k
    show (getKR cs i fun c => loadNR cs n (Nat.succ i) fun l => k (c :: l)).val = getK cs i fun c => loadN cs n (Nat.succ i) fun l => (k (c :: l)).val
    rw [getKR_val]
    simp only [ih]
theorem storeNR_val (l : List CV) : ∀ (i : Nat) (cs : Tr CV) (k : Tr CV → Res), (storeNR l i cs k).val = storeN l i cs fun t => (k t).val := by
  induction l with
  | nil => intros; rfl
  | cons v l ih =>
    intro i cs k
    show (oneKR v (setKR v cs i fun cs' => storeNR l (Nat.succ i) cs' k)).val = oneK v (setK v cs i fun cs' => storeN l (Nat.succ i) cs' fun t => (k t).val)
    rw [oneKR_val, setKR_val]
    simp only [ih]
theorem pushNR_val (l : List CV) : ∀ (i : Nat) (cs : Tr CV) (k : Tr CV → Res), (pushNR l i cs k).val = pushN l i cs fun t => (k t).val := by
  induction l with
  | nil => intros; rfl
  | cons v l ih =>
    intro i cs k
    show (oneKR v (insKR v cs i fun cs' => pushNR l (Nat.succ i) cs' k)).val = oneK v (insK v cs i fun cs' => pushN l (Nat.succ i) cs' fun t => (k t).val)
    rw [oneKR_val, insKR_val]
    simp only [ih]
theorem asPtrR_val (v : CV) (k : Nat → Nat → Res) : (asPtrR v k).val = asPtr v fun b o => (k b o).val := by cases v <;> rfl
theorem asBoolR_val (v : CV) (k : Bool → Res) : (asBoolR v k).val = asBool v fun b => (k b).val := by cases v <;> rfl
theorem allBR_val (n : Nat) (f : Nat → Res) : (allBR n f).val = allB n fun i => (f i).val := by
  induction n with
  | zero => rfl
  | succ n ih =>
    cases n with
    | zero => rfl
    | succ n =>
      show ((f (n + 1)).val && (allBR (n + 1) f).val) = match (f (n + 1)).val with | true => allB (n + 1) (fun i => (f i).val) | false => false
      rw [ih]
      cases (f (n + 1)).val <;> rfl
theorem asNatR_val (v : CV) (tab : Tab) (k : Nat → Tab → Res) : (asNatR v tab k).val = asNat v tab fun n t => (k n t).val := by
  cases v <;> try rfl
  · rename_i kd n; cases n <;> rfl
  · unfold asNatR asNat
    simp only []
    split
    · rename_i h
      simp only [h]
      split
      · rename_i h
        rw [h, allBR_val]; rfl
      · rename_i h
        rw [h]; rfl
    · rename_i h
      split
      · rename_i h'
        exact absurd h' (h _ _)
      · rfl
theorem wrapKR_val (kd : IntKind) (x : Int) (k : Int → Res) : (wrapKR kd x k).val = wrapK kd x fun x => (k x).val := by
  unfold wrapKR wrapK
  cases leI kd.min x && leI x kd.max <;> exact forceIR_val _ _
theorem intOpR_val (op : BinOp) (kd : IntKind) (a b : Int) (k : CV → Res) : (intOpR op kd a b k).val = intOp op kd a b fun c => (k c).val := by
  cases op <;> first | exact wrapKR_val _ _ _ | exact forceIR_val _ _ | exact kBR_val _ _ | rfl | skip
  all_goals
    unfold intOpR intOp
    simp only []
    first
      | (cases eqI b 0 <;> first | rfl | exact wrapKR_val _ _ _ | exact forceIR_val _ _)
      | (cases ltI b 0 <;> first | rfl | exact wrapKR_val _ _ _ | exact forceIR_val _ _)
theorem symLtR_val (s : Nat) (c : Int) (tab : Tab) (k : Bool → Tab → Res) : (symLtR s c tab k).val = symLt s c tab fun b t => (k b t).val := by
  unfold symLtR symLt
  cases tab.iv[s]? with
  | none => rfl
  | some x =>
    obtain ⟨lo, hi⟩ := x
    simp only []
    cases ltI hi c <;> cases ltI lo c <;> rfl
theorem symEqR_val (s : Nat) (c : Int) (tab : Tab) (k : Bool → Tab → Res) : (symEqR s c tab k).val = symEq s c tab fun b t => (k b t).val := by
  unfold symEqR symEq
  cases tab.iv[s]? with
  | none => rfl
  | some x =>
    obtain ⟨lo, hi⟩ := x
    simp only []
    cases ltI c lo <;> cases ltI hi c <;> cases ltI lo c <;> cases ltI c hi <;> rfl
theorem symCmpR_val (op : BinOp) (s : Nat) (c : Int) (tab : Tab) (k : Bool → Tab → Res) : (symCmpR op s c tab k).val = symCmp op s c tab fun b t => (k b t).val := by
  cases op <;> first | rfl | (simp only [symCmpR, symCmp, symEqR_val, symLtR_val])
theorem symRemR_val (kd : IntKind) (s : Nat) (c : Int) (tab : Tab) (k : CV → Tab → Res) : (symRemR kd s c tab k).val = symRem kd s c tab fun b t => (k b t).val := by
  unfold symRemR symRem
  cases tab.iv[s]? with
  | none => rfl
  | some x =>
    obtain ⟨lo, hi⟩ := x
    cases lo <;> cases c <;> try rfl
    rename_i lo m
    cases m with
    | zero => rfl
    | succ m =>
      simp only []
      cases Nat.ble m 300 with
      | false => rfl
      | true => exact allBR_val _ _
theorem forceTsR_val : ∀ (ts : Ts) (k : Ts → Res), (forceTsR ts k).val = forceTs ts fun t => (k t).val
  | [], _ => rfl
  | (a, s) :: l, k => by
    show (forceIR a fun a => forceNR s fun s => forceTsR l fun l => k ((a, s) :: l)).val = forceI a fun a => forceN s fun s => forceTs l fun l => (k ((a, s) :: l)).val
    rw [forceIR_val]
    simp only [forceNR_val, forceTsR_val l]
theorem linKR_val (kd : IntKind) (c : Int) (ts : Ts) (k : CV → Res) : (linKR kd c ts k).val = linK kd c ts fun v => (k v).val := by
  unfold linKR linK
  rw [forceIR_val]
  simp only [forceTsR_val]
  refine congrArg (forceI c) (funext fun c => congrArg (forceTs ts) (funext fun ts => ?_))
  cases ts <;> rfl
theorem linResR_val (kd : IntKind) (c : Int) (ts : Ts) (tab : Tab) (k : CV → Res) : (linResR kd c ts tab k).val = linRes kd c ts tab fun v => (k v).val := by
  unfold linResR linRes
  cases bndL tab.iv c ts with
  | none => rfl
  | some x =>
    obtain ⟨lo, hi⟩ := x
    simp only []
    cases leI kd.min lo && leI hi kd.max with
    | true => exact linKR_val _ _ _ _
    | false => rfl
theorem linLt0R_val (c : Int) (ts : Ts) (tab : Tab) (k : Bool → Tab → Res) : (linLt0R c ts tab k).val = linLt0 c ts tab fun b t => (k b t).val := by
  unfold linLt0R linLt0
  cases bndL tab.iv c ts with
  | none => rfl
  | some x =>
    obtain ⟨lo, hi⟩ := x
    simp only []
    cases ltI hi 0 with
    | true => rfl
    | false =>
      cases leI 0 lo with
      | true => rfl
      | false =>
        match ts with
        | [] => rfl
        | _ :: _ :: _ => rfl
        | [(a, s)] =>
          simp only []
          cases tab.iv[s]? with
          | none => rfl
          | some y =>
            obtain ⟨l, h⟩ := y
            simp only []
            cases ltI 0 a with
            | true => exact forceIR_val _ _
            | false =>
              cases ltI a 0 with
              | true => exact forceIR_val _ _
              | false => rfl
theorem linLtR_val (c : Int) (ts : Ts) (tab : Tab) (k : Bool → Tab → Res) : (linLtR c ts tab k).val = linLt c ts tab fun b t => (k b t).val := linLt0R_val _ _ _ _
theorem neSplitR_val (q l h : Int) (s : Nat) (tab : Tab) (k : Tab → Res) : (neSplitR q l h s tab k).val = neSplit q l h s tab fun t => (k t).val := by
  unfold neSplitR neSplit
  cases eqI l q with
  | true => simp only []; cases ltI q h <;> rfl
  | false =>
    simp only []
    cases eqI q h with
    | true => rfl
    | false => simp only [forceIR_val, forceNR_val]
theorem linEq0R_val (c : Int) (ts : Ts) (tab : Tab) (k : Bool → Tab → Res) : (linEq0R c ts tab k).val = linEq0 c ts tab fun b t => (k b t).val := by
  unfold linEq0R linEq0
  match ts with
  | [] => rfl
  | t :: r =>
    simp only []
    cases bndL tab.iv c (t :: r) with
    | none => rfl
    | some x =>
      obtain ⟨lo, hi⟩ := x
      simp only []
      cases ltI hi 0 || (ltI 0 lo || isNe c (t :: r) tab.ne) with
      | true => rfl
      | false =>
        match r with
        | _ :: _ => simp only [val_both, forceIR_val, forceTsR_val]
        | [] =>
          simp only []
          cases eqI t.1 0 with
          | true => rfl
          | false =>
            cases dvdI t.1 c with
            | false => rfl
            | true =>
              simp only []
              cases tab.iv[t.2]? with
              | none => rfl
              | some y =>
                obtain ⟨l, h⟩ := y
                simp only []
                refine (forceIR_val _ _).trans (congrArg (forceI _) (funext fun q => ?_))
                cases leI l q && leI q h with
                | false => rfl
                | true =>
                  simp only []
                  cases isNe (-q) [(1, t.2)] tab.ne with
                  | true => rfl
                  | false =>
                    simp only [val_both, neSplitR_val]
                    cases neBad (setTab tab t.2 (q, q)) <;> rfl
theorem linEqR_val (c : Int) (ts : Ts) (tab : Tab) (k : Bool → Tab → Res) : (linEqR c ts tab k).val = linEq c ts tab fun b t => (k b t).val := linEq0R_val _ _ _ _
theorem linBinR_val (op : BinOp) (kd : IntKind) (c : Int) (ts : Ts) (c' : Int) (ts' : Ts) (tab : Tab) (k : CV → Tab → Res) : (linBinR op kd c ts c' ts' tab k).val = linBin op kd c ts c' ts' tab fun v t => (k v t).val := by
  cases op <;> first | rfl | (simp only [linBinR, linBin, linResR_val, linEqR_val, linLtR_val]; done) | skip
  · unfold linBinR linBin
    simp only []
    cases ts with
    | nil => exact linResR_val _ _ _ _ _
    | cons t ts => cases ts' with
      | nil => exact linResR_val _ _ _ _ _
      | cons t' ts' => rfl
  all_goals
    unfold linBinR linBin
    simp only []
    cases ts' with
    | cons t' ts' =>
      simp only []
      cases timesOf tab.iv c ts c' (t' :: ts') with
      | none => rfl
      | some x => exact linResR_val _ _ _ _ _
    | nil =>
      simp only []
      cases quoRem tab.iv c ts c' with
      | none => rfl
      | some x => obtain ⟨q, r⟩ := x; exact linResR_val _ _ _ _ _
theorem linBinVR_val (op : BinOp) (x y : CV) (tab : Tab) (k : CV → Tab → Res) : (linBinVR op x y tab k).val = linBinV op x y tab fun v t => (k v t).val := by
  unfold linBinVR linBinV
  cases linOf x with
  | none => rfl
  | some a =>
    obtain ⟨kd, c, ts⟩ := a
    simp only []
    cases linOf y with
    | none => rfl
    | some b =>
      obtain ⟨kd', c', ts'⟩ := b
      simp only []
      cases decide (kd = kd') with
      | true => exact linBinR_val _ _ _ _ _ _ _ _
      | false => rfl
theorem linEqVR_val (x y : CV) (tab : Tab) (k : Bool → Tab → Res) : (linEqVR x y tab k).val = linEqV x y tab fun v t => (k v t).val := by
  unfold linEqVR linEqV
  cases linOf x with
  | none => rfl
  | some a =>
    obtain ⟨kd, c, ts⟩ := a
    simp only []
    cases linOf y with
    | none => rfl
    | some b =>
      obtain ⟨kd', c', ts'⟩ := b
      simp only []
      cases decide (kd = kd') with
      | true => exact linEqR_val _ _ _ _
      | false => rfl
theorem linMMR_val (mx : Bool) (x y : CV) (tab : Tab) (k : CV → Tab → Res) : (linMMR mx x y tab k).val = linMM mx x y tab fun v t => (k v t).val := by
  unfold linMMR linMM
  cases linOf x with
  | none => rfl
  | some a =>
    obtain ⟨kd, c, ts⟩ := a
    simp only []
    cases linOf y with
    | none => rfl
    | some b =>
      obtain ⟨kd', c', ts'⟩ := b
      simp only []
      cases decide (kd = kd') with
      | true =>
        exact linLtR_val _ _ _ _
      | false => rfl
theorem linNegR_val (v : CV) (tab : Tab) (k : CV → Res) : (linNegR v tab k).val = linNeg v tab fun v => (k v).val := by
  unfold linNegR linNeg
  cases linOf v with
  | none => rfl
  | some a =>
    obtain ⟨kd, c, ts⟩ := a
    exact linResR_val _ _ _ _ _
theorem forceBsR_val : ∀ (bs : List (Int × Ts)) (k : List (Int × Ts) → Res), (forceBsR bs k).val = forceBs bs fun l => (k l).val
  | [], _ => rfl
  | (c, ts) :: l, k => by
    show (forceIR c fun c => forceTsR ts fun ts => forceBsR l fun l => k ((c, ts) :: l)).val = forceI c fun c => forceTs ts fun ts => forceBs l fun l => (k ((c, ts) :: l)).val
    rw [forceIR_val]
    simp only [forceTsR_val, forceBsR_val l]
theorem lstrKR_val (bs : List (Int × Ts)) (k : CV → Res) : (lstrKR bs k).val = lstrK bs fun c => (k c).val := by
  unfold lstrKR lstrK
  cases constBs bs with
  | some l => rfl
  | none => exact forceBsR_val _ _
theorem lsEqR_val : ∀ (xs ys : List (Int × Ts)) (tab : Tab) (k : Bool → Tab → Res), (lsEqR xs ys tab k).val = lsEq xs ys tab fun b t => (k b t).val
  | [], [], tab, k => rfl
  | [], _ :: _, tab, k => by simp only [lsEqR, lsEq]
  | _ :: _, [], tab, k => by simp only [lsEqR, lsEq]
  | (c, ts) :: l, (c', ts') :: l', tab, k => by
    simp only [lsEqR, lsEq, linEqR_val]
    refine congrArg (linEq _ _ tab) (funext fun b => funext fun tab => ?_)
    cases b with
    | true => exact lsEqR_val l l' tab k
    | false => rfl
theorem lsEqVR_val (x y : CV) (tab : Tab) (k : Bool → Tab → Res) : (lsEqVR x y tab k).val = lsEqV x y tab fun v t => (k v t).val := by
  unfold lsEqVR lsEqV
  cases lsOf x with
  | none => rfl
  | some a =>
    simp only []
    cases lsOf y with
    | none => rfl
    | some b => exact lsEqR_val _ _ _ _
theorem lsBinR_val (op : BinOp) (x y : CV) (tab : Tab) (k : CV → Tab → Res) : (lsBinR op x y tab k).val = lsBin op x y tab fun v t => (k v t).val := by
  cases op <;> first | rfl | (simp only [lsBinR, lsBin, lsEqVR_val]; done) | skip
  unfold lsBinR lsBin
  simp only []
  cases lsOf x with
  | none => rfl
  | some a =>
    simp only []
    cases lsOf y with
    | none => rfl
    | some b =>
      simp only []
      cases Nat.ble (a.length + b.length) 1000000 with
      | true => exact lstrKR_val _ _
      | false => rfl
theorem linPieceR_val (l c : Nat) (lc : Int) (ts : Ts) (m : Nat) (tab : Tab) (k : List (Int × Ts) → Res) : (linPieceR l c lc ts m tab k).val = linPiece l c lc ts m tab fun x => (k x).val := by
  unfold linPieceR linPiece
  cases bndL tab.iv lc ts with
  | none => rfl
  | some x =>
    obtain ⟨lo, hi⟩ := x
    cases lo <;> cases hi <;> try rfl
    rename_i lo hi
    simp only []
    cases Nat.ble lo hi && Nat.ble (hi + m) l with
    | false => rfl
    | true =>
      simp only []
      cases ((decBytes l c).drop lo).take (hi + m - lo) with
      | nil => rfl
      | cons b r =>
        simp only []
        cases runB (b :: r) b.toNat <;> rfl
theorem strOpR_val (op : BinOp) (l c l' c' : Nat) (k : CV → Res) : (strOpR op l c l' c' k).val = strOp op l c l' c' fun v => (k v).val := by
  cases op <;> first | rfl | exact kBR_val _ _ | skip
  show (forceNR (l + l') fun l => match Nat.ble l 1000000 with | true => forceNR (c * 256 ^ l' + c') fun c => k (.str l c) | false => .bad).val = forceN (l + l') fun l => match Nat.ble l 1000000 with | true => forceN (c * 256 ^ l' + c') fun c => (k (.str l c)).val | false => false
  rw [forceNR_val]
  refine congrArg (forceN _) (funext fun m => ?_)
  cases Nat.ble m 1000000 <;> rfl
theorem eqPR_val (x y : CV) (tab : Tab) (k : Bool → Tab → Res) : (eqPR x y tab k).val = eqP x y tab fun v t => (k v t).val := by
  cases x <;> try rfl
  case bool a => cases y <;> rfl
  case int kd a =>
    cases y <;> try rfl
    · rename_i kd' b
      show (match decide (kd = kd') with | true => k (eqI a b) tab | false => Res.bad).val = match decide (kd = kd') with | true => (k (eqI a b) tab).val | false => false
      cases decide (kd = kd') <;> rfl
    · rename_i kd' s
      show (match decide (kd = kd') with | true => symEqR s a tab k | false => Res.bad).val = match decide (kd = kd') with | true => symEq s a tab (fun v t => (k v t).val) | false => false
      cases decide (kd = kd')
      · rfl
      · exact symEqR_val _ _ _ _
    · exact linEqVR_val (.int kd a) (.lin _ _ _) tab k
  case sym kd s =>
    cases y <;> try rfl
    · rename_i kd' b
      show (match decide (kd = kd') with | true => symEqR s b tab k | false => Res.bad).val = match decide (kd = kd') with | true => symEq s b tab (fun v t => (k v t).val) | false => false
      cases decide (kd = kd')
      · rfl
      · exact symEqR_val _ _ _ _
    · rename_i kd' s'
      show (match decide (kd = kd') && Nat.beq s s' with | true => k true tab | false => linEqVR (.sym kd s) (.sym kd' s') tab k).val = match decide (kd = kd') && Nat.beq s s' with | true => (k true tab).val | false => linEqV (.sym kd s) (.sym kd' s') tab (fun v t => (k v t).val)
      cases decide (kd = kd') && Nat.beq s s'
      · exact linEqVR_val _ _ _ _
      · rfl
    · exact linEqVR_val (.sym kd s) (.lin _ _ _) tab k
  case lin kd c ts => exact linEqVR_val (.lin kd c ts) y tab k
  case str l c => cases y <;> first | rfl | exact lsEqVR_val (.str l c) (.lstr _) tab k
  case lstr bs => exact lsEqVR_val (.lstr bs) y tab k
  case ssym s l =>
    cases y <;> try rfl
    rename_i s' l'
    show (match Nat.beq s s' with | true => k true tab | false => Res.bad).val = match Nat.beq s s' with | true => (k true tab).val | false => false
    cases Nat.beq s s' <;> rfl
theorem eqLR_val (ps : List PK) : ∀ (xs ys : List CV) (tab : Tab) (k : Bool → Tab → Res), (eqLR ps xs ys tab k).val = eqL ps xs ys tab fun v t => (k v t).val := by
  induction ps with
  | nil => intros; rfl
  | cons p ps ih =>
    intro xs ys tab k
    cases xs with
    | nil => rfl
    | cons x xs => cases ys with
      | nil => rfl
      | cons y ys =>
        show (match fitP p x with | true => eqPR x y tab (fun b tab => match b with | true => eqLR ps xs ys tab k | false => k false tab) | false => Res.bad).val =
          match fitP p x with | true => eqP x y tab (fun b tab => match b with | true => eqL ps xs ys tab (fun v t => (k v t).val) | false => (k false tab).val) | false => false
        cases fitP p x with
        | false => rfl
        | true =>
          simp only []
          rw [eqPR_val]
          refine congrArg (eqP x y tab) (funext fun b => funext fun tab => ?_)
          cases b with
          | true => exact ih xs ys tab k
          | false => rfl
theorem forceLR_val (l : List CV) : ∀ (k : List CV → Res), (forceLR l k).val = forceL l fun l => (k l).val := by
  induction l with
  | nil => intro k; rfl
  | cons x l ih => intro k; exact ih fun l => k (x :: l)
theorem partCR_val (P : Program) (t : TypeId) (cs : List CV) (off : Nat) (k : CV → Res) : (partCR P t cs off k).val = partC P t cs off fun c => (k c).val := by
  unfold partCR partC
  cases aggT P t with
  | none => rfl
  | some b =>
    cases b with
    | true =>
      simp only []
      rw [szKR_val]
      simp only [forceLR_val]
    | false =>
      simp only []
      cases cs[off]? <;> rfl
theorem loBdR_val (lo : Option CV) (h : Nat) (tab : Tab) (k : Nat → Tab → Res) : (loBdR lo h tab k).val = loBd lo h tab fun l t => (k l t).val := by
  cases lo with
  | none => rfl
  | some v =>
    show (asNatR v tab fun l tab => match Nat.ble l h with | true => k l tab | false => Res.bad).val = asNat v tab fun l tab => match Nat.ble l h with | true => (k l tab).val | false => false
    rw [asNatR_val]
    refine congrArg (asNat v tab) (funext fun l => funext fun tab => ?_)
    cases Nat.ble l h <;> rfl
theorem sliceBdR_val (len cap : Nat) (lo hi : Option CV) (tab : Tab) (k : Nat → Nat → Tab → Res) : (sliceBdR len cap lo hi tab k).val = sliceBd len cap lo hi tab fun l h t => (k l h t).val := by
  cases hi with
  | none => exact loBdR_val lo len tab fun l t => k l len t
  | some v =>
    show (asNatR v tab fun h tab => match Nat.ble h cap with | true => loBdR lo h tab fun l tab => k l h tab | false => Res.bad).val = asNat v tab fun h tab => match Nat.ble h cap with | true => loBd lo h tab fun l tab => (k l h tab).val | false => false
    rw [asNatR_val]
    refine congrArg (asNat v tab) (funext fun h => funext fun tab => ?_)
    cases Nat.ble h cap with
    | true => exact loBdR_val lo h tab fun l t => k l h t
    | false => rfl
theorem allOneR_val (l : List CV) (k : Res) : (allOneR l k).val = allOne l k.val := by
  induction l with
  | nil => rfl
  | cons v l ih =>
    show (oneKR v (allOneR l k)).val = oneK v (allOne l k.val)
    rw [oneKR_val, ih]
end Go.Ev

namespace Go.Ev
structure Law {T H : Type} (S : Sig T H) (eT : Tm → T) (eH : Hp → H) : Prop where
  gT : ∀ t i k, (S.gT (eT t) i k).val = getK t i fun c => (k c).val
  sT : ∀ c t i k, (S.sT c (eT t) i k).val = setK c t i fun t' => (k (eT t')).val
  gH : ∀ h b k, (S.gH (eH h) b k).val = getK h b fun c => (k c).val
  sH : ∀ cb h b k, (S.sH cb (eH h) b k).val = setK cb h b fun h' => (k (eH h')).val
  iH : ∀ cb h b k, (S.iH cb (eH h) b k).val = insK cb h b fun h' => (k (eH h')).val
  dT : ∀ t k, (S.dT (eT t) k).val = (k t).val
  nT : ∀ t, S.nT t = eT t
def eM {H : Type} (eH : Hp → H) (m : M) : MX H := ⟨eH m.h, m.n, m.tab⟩

section
variable {T H : Type} {S : Sig T H} {eT : Tm → T} {eH : Hp → H} {P : Program} {G : Nat → Bool}
theorem getOR_val (L : Law S eT eH) (x : Operand) (t : Tm) (k : CV → Res) : (getOR S G x (eT t) k).val = getO G x t fun c => (k c).val := by
  cases x with
  | tmp i => exact L.gT t i k
  | const v =>
    show (match ofValue v with | some c => k c | none => Res.bad).val = match ofValue v with | some c => (k c).val | none => false
    cases ofValue v <;> rfl
  | global g =>
    show (match G g with | true => k (.ptr g 0) | false => Res.bad).val = match G g with | true => (k (.ptr g 0)).val | false => false
    cases G g <;> rfl
  | func f => rfl
theorem getOsR_val (L : Law S eT eH) (xs : List Operand) (t : Tm) : ∀ (k : List CV → Res), (getOsR S G xs (eT t) k).val = getOs G xs t fun cs => (k cs).val := by
  induction xs with
  | nil => intro k; rfl
  | cons x xs ih =>
    intro k
    show (getOR S G x (eT t) fun c => getOsR S G xs (eT t) fun cs => k (c :: cs)).val = getO G x t fun c => getOs G xs t fun cs => (k (c :: cs)).val
    rw [getOR_val L]
    simp only [ih]
theorem optOR_val (L : Law S eT eH) (x : Option Operand) (t : Tm) (k : Option CV → Res) : (optOR S G x (eT t) k).val = optO G x t fun c => (k c).val := by
  cases x with
  | none => rfl
  | some x => exact getOR_val L x t fun v => k (some v)
theorem withCellsR_val (L : Law S eT eH) (h : Hp) (b : Nat) (k : Nat → Bool → Nat → Nat → Tr CV → Res) : (withCellsR S (eH h) b k).val = withCells h b fun te lo es sz cs => (k te lo es sz cs).val := by
  unfold withCellsR withCells
  rw [L.gH]
  refine congrArg (getK h b) (funext fun cb => ?_)
  cases cb <;> rfl
theorem loadCR_val (L : Law S eT eH) (t : TypeId) (b off : Nat) (h : Hp) (k : CV → Res) : (loadCR S P t b off (eH h) k).val = loadC P t b off h fun c => (k c).val := by
  unfold loadCR loadC
  rw [withCellsR_val L]
  cases aggT P t with
  | none => rfl
  | some a =>
    cases a with
    | true => simp only [szKR_val, loadNR_val]
    | false => simp only [getKR_val]
theorem storeCR_val (L : Law S eT eH) (t : TypeId) (b off : Nat) (v : CV) (h : Hp) (k : H → Res) : (storeCR S P t b off v (eH h) k).val = storeC P t b off v h fun h' => (k (eH h')).val := by
  unfold storeCR storeC
  rw [withCellsR_val L]
  refine congrArg (withCells h b) (funext fun te => funext fun lo => funext fun es => funext fun sz => funext fun cs => ?_)
  rw [szKR_val]
  refine congrArg (szK P t) (funext fun n => ?_)
  cases Nat.beq (cellsOfCV v).length n with
  | true => simp only [storeNR_val, L.sH]
  | false => rfl
theorem liveBR_val (L : Law S eT eH) (h : Hp) (b : Nat) (k : Res) : (liveBR S (eH h) b k).val = liveB h b k.val := by
  unfold liveBR liveB
  rw [L.gH]
  refine congrArg (getK h b) (funext fun cb => ?_)
  cases cb <;> try rfl
  rename_i te lo es sz cs
  cases lo with
  | false => rfl
  | true =>
    simp only []
    cases Nat.beq es 1 <;> rfl
theorem eqCR_val (L : Law S eT eH) (ty : TypeId) (cx cy : Bool) (x y : CV) (h : Hp) (tab : Tab) (k : Bool → Tab → Res) : (eqCR S P ty cx cy x y (eH h) tab k).val = eqC P ty cx cy x y h tab fun b t => (k b t).val := by
  cases x
  case agg xs =>
    cases y <;> try rfl
    rename_i ys
    show (match plainStruct P ty with | some ps => eqLR ps xs ys tab k | none => Res.bad).val = match plainStruct P ty with | some ps => eqL ps xs ys tab (fun b t => (k b t).val) | none => false
    cases plainStruct P ty with
    | none => rfl
    | some ps => exact eqLR_val _ _ _ _ _
  case ptr b o =>
    unfold eqCR eqC
    simp only []
    cases P.underlying ty with
    | none => rfl
    | some d =>
      cases d <;> try rfl
      rename_i el
      cases y <;> try rfl
      rename_i b' o'
      simp only [szKR_val]
      refine congrArg (szK P el) (funext fun n => ?_)
      cases Nat.beq n 0 with
      | true => rfl
      | false =>
        cases Nat.beq b b' with
        | true => rfl
        | false => simp only [liveBR_val L]
  case bool a =>
    unfold eqCR eqC
    simp only []
    cases P.underlying ty with
    | none => rfl
    | some d =>
      cases d <;> try rfl
      exact eqPR_val _ _ _ _
  all_goals
    unfold eqCR eqC
    simp only []
    first
      | rfl
      | (cases P.underlying ty with
        | none => rfl
        | some d => cases d <;> first | rfl | (cases y <;> first | rfl | (cases cx <;> cases cy <;> rfl)))
theorem eqBinR_val (L : Law S eT eH) (op : BinOp) (ty : TypeId) (cx cy : Bool) (x y : CV) (h : Hp) (tab : Tab) (k : CV → Tab → Res) : (eqBinR S P op ty cx cy x y (eH h) tab k).val = eqBin P op ty cx cy x y h tab fun b t => (k b t).val := by
  cases op <;> first | rfl | (simp only [eqBinR, eqBin, eqCR_val L, kBR_val])
end
end Go.Ev

namespace Go.Ev
section
variable {T H : Type} {S : Sig T H} {eT : Tm → T} {eH : Hp → H} {P : Program} {G : Nat → Bool}
theorem binCR_val (L : Law S eT eH) (op : BinOp) (ty : TypeId) (cx cy : Bool) (x y : CV) (h : Hp) (tab : Tab) (k : CV → Tab → Res) : (binCR S P op ty cx cy x y (eH h) tab k).val = binC P op ty cx cy x y h tab fun b t => (k b t).val := by
  cases x
  case int kd a =>
    cases y <;> try rfl
    · rename_i kd' b
      show (match decide (kd = kd') || (match op with | .shl | .shr => true | _ => false) with | true => intOpR op kd a b (fun r => k r tab) | false => Res.bad).val =
        match decide (kd = kd') || (match op with | .shl | .shr => true | _ => false) with | true => intOp op kd a b (fun r => (k r tab).val) | false => false
      cases decide (kd = kd') || (match op with | .shl | .shr => true | _ => false)
      · rfl
      · exact intOpR_val _ _ _ _ _
    · rename_i kd' s
      unfold binCR binC
      simp only []
      cases isCmp op with
      | true =>
        cases decide (kd = kd') with
        | true => exact symCmpR_val _ _ _ _ _
        | false => rfl
      | false => exact linBinVR_val _ _ _ _ _
    · exact linBinVR_val op (.int kd a) (.lin _ _ _) tab k
  case sym kd s =>
    cases y <;> try rfl
    · rename_i kd' b
      unfold binCR binC
      simp only []
      cases isCmp op with
      | true =>
        cases decide (kd = kd') with
        | true => exact symCmpR_val _ _ _ _ _
        | false => rfl
      | false =>
        cases op <;> first
          | exact linBinVR_val _ _ _ _ _
          | (cases decide (kd = kd') with
             | true => exact symRemR_val _ _ _ _ _
             | false => rfl)
    · exact linBinVR_val op (.sym kd s) (.sym _ _) tab k
    · exact linBinVR_val op (.sym kd s) (.lin _ _ _) tab k
  case lin kd c ts => exact linBinVR_val op (.lin kd c ts) y tab k
  case str l c =>
    cases y <;> try rfl
    · exact strOpR_val op l c _ _ fun r => k r tab
    · unfold binCR binC
      simp only []
      cases op <;> first | rfl | (cases Nat.beq l 0 && smallS tab.iv _ <;> rfl)
    · exact lsBinR_val op (.str l c) (.lstr _) tab k
  case lstr bs => exact lsBinR_val op (.lstr bs) y tab k
  case ssym s l =>
    cases y <;> try rfl
    rename_i s' l'
    unfold binCR binC
    simp only []
    cases Nat.beq s s' with
    | true => cases op <;> rfl
    | false => rfl
  case symr kd s c lo cnt =>
    cases op <;> try rfl
    cases y <;> try rfl
    rename_i kd' b
    cases b <;> try rfl
    rename_i n
    show (match decide (kd = kd') && (Nat.beq n c && (!Nat.beq c 0 && !Nat.beq cnt 0)) with | true => allBR cnt (fun i => forceNR (lo + i) fun r => k (.int kd (.ofNat r)) tab) | false => Res.bad).val =
      match decide (kd = kd') && (Nat.beq n c && (!Nat.beq c 0 && !Nat.beq cnt 0)) with | true => allB cnt (fun i => forceN (lo + i) fun r => (k (.int kd (.ofNat r)) tab).val) | false => false
    cases decide (kd = kd') && (Nat.beq n c && (!Nat.beq c 0 && !Nat.beq cnt 0))
    · rfl
    · exact allBR_val _ _
  all_goals exact eqBinR_val L _ _ _ _ _ _ _ _ _
theorem keyEqR_val (L : Law S eT eH) (kt : TypeId) (x y : CV) (h : Hp) (tab : Tab) (k : Bool → Res) : (keyEqR S P kt x y (eH h) tab k).val = keyEq P kt x y h tab fun b => (k b).val := by
  cases x <;> try rfl
  case int kd a =>
    cases y <;> try rfl
    rename_i kd' b
    show (match decide (kd = kd') with | true => k (eqI a b) | false => Res.bad).val = match decide (kd = kd') with | true => (k (eqI a b)).val | false => false
    cases decide (kd = kd') <;> rfl
  case str l c => cases y <;> rfl
  case ptr b o => exact eqCR_val L kt false false (.ptr b o) y h tab fun b _ => k b
theorem findMR_val (L : Law S eT eH) (kt : TypeId) (h : Hp) (tab : Tab) (key : CV) (es : List (CV × CV × Nat)) : ∀ (k : Option CV → Res), (findMR S P kt (eH h) tab key es k).val = findM P kt h tab key es fun b => (k b).val := by
  induction es with
  | nil => intro k; rfl
  | cons e es ih =>
    intro k
    show (keyEqR S P kt key e.1 (eH h) tab (fun b => match b with | true => k (some e.2.1) | false => findMR S P kt (eH h) tab key es k)).val =
      keyEq P kt key e.1 h tab fun b => match b with | true => (k (some e.2.1)).val | false => findM P kt h tab key es fun b => (k b).val
    rw [keyEqR_val L]
    refine congrArg (keyEq P kt key e.1 h tab) (funext fun b => ?_)
    cases b with
    | true => rfl
    | false => exact ih k
theorem putMR_val (L : Law S eT eH) (kt : TypeId) (h : Hp) (tab : Tab) (key v : CV) (clock : Nat) (es : List (CV × CV × Nat)) : ∀ (k : List (CV × CV × Nat) → Bool → Res), (putMR S P kt (eH h) tab key v clock es k).val = putM P kt h tab key v clock es fun l b => (k l b).val := by
  induction es with
  | nil => intro k; rfl
  | cons e es ih =>
    intro k
    show (keyEqR S P kt key e.1 (eH h) tab (fun b => match b with | true => k ((key, v, e.2.2) :: es) false | false => putMR S P kt (eH h) tab key v clock es fun es' new => k (e :: es') new)).val =
      keyEq P kt key e.1 h tab fun b => match b with | true => (k ((key, v, e.2.2) :: es) false).val | false => putM P kt h tab key v clock es fun es' new => (k (e :: es') new).val
    rw [keyEqR_val L]
    refine congrArg (keyEq P kt key e.1 h tab) (funext fun b => ?_)
    cases b with
    | true => rfl
    | false => exact ih fun es' new => k (e :: es') new
theorem lkBR_val (ok : Bool) (z : CV) (tab : Tab) (k : KRF) (r : Option CV) : (lkBR ok z tab k r).val = lkB ok z tab (fun v b t => (k v b t).val) r := by
  cases r <;> cases ok <;> rfl
theorem convCR_val (L : Law S eT eH) (s d : TypeId) (x : CV) (h : Hp) (tab : Tab) (nb : Nat) (k : KRF) : (convCR S P s d x (eH h) tab nb k).val = convC P s d x h tab nb fun v b t => (k v b t).val := by
  unfold convCR convC
  cases P.underlying s with
  | none => rfl
  | some us =>
    simp only []
    cases P.underlying d with
    | none => rfl
    | some ud =>
      cases ud <;> try rfl
      case slice e =>
        cases x <;> try rfl
        · simp only []
          cases P.underlying e with
          | none => rfl
          | some ue =>
            cases ue <;> try rfl
            rename_i l c kd
            cases kd <;> try rfl
            simp only []
            cases Nat.ble l 1000000 && asciiB (decBytes l c) <;> rfl
        · simp only []
          cases P.underlying e with
          | none => rfl
          | some ue =>
            cases ue <;> try rfl
            rename_i kd; cases kd <;> rfl
      case int kd =>
        cases x <;> try rfl
        · exact wrapKR_val _ _ _
        · rename_i kd' sy
          simp only []
          cases tab.iv[sy]? with
          | none => rfl
          | some b =>
            obtain ⟨lo, hi⟩ := b
            simp only []
            cases leI kd.min lo && leI hi kd.max <;> rfl
        · exact linResR_val _ _ _ _ _
      case string => cases x <;> rfl
      case unsafePointer =>
        cases us <;> try rfl
        rename_i t
        cases x <;> try rfl
        rename_i b o
        simp only [withCellsR_val L, szKR_val]
        refine congrArg (withCells h b) (funext fun te => funext fun lo => funext fun es => funext fun sz => funext fun cs => congrArg (szK P t) (funext fun n => ?_))
        cases Nat.blt o sz && !Nat.beq n 0 <;> rfl
      case pointer u =>
        cases us <;> try rfl
        cases x <;> try rfl
        rename_i b o
        simp only [withCellsR_val L]
        refine congrArg (withCells h b) (funext fun te => funext fun lo => funext fun es => funext fun sz => funext fun cs => ?_)
        cases te with
        | zero => rfl
        | succ T =>
          cases lo with
          | true => rfl
          | false =>
            simp only [szKR_val]
            refine congrArg (szK P u) (funext fun n => ?_)
            cases liesAt P P.depth T (sz / P.cellsOf T) o u 1 <;> rfl
theorem lenCR_val (L : Law S eT eH) (ty : TypeId) (v : CV) (h : Hp) (tab : Tab) (k : CV → Tab → Res) : (lenCR S P ty v (eH h) tab k).val = lenC P ty v h tab fun c t => (k c t).val := by
  have hz : ∀ (F : TypeDesc → Res) (F' : TypeDesc → Bool), (∀ d, (F d).val = F' d) → (match P.underlying ty with | some d => F d | none => Res.bad).val = match P.underlying ty with | some d => F' d | none => false := by
    intro F F' hF
    cases P.underlying ty with
    | none => rfl
    | some d => exact hF d
  unfold lenCR lenC
  cases v <;> simp only []
  all_goals
    cases P.underlying ty with
    | none => rfl
    | some d =>
      cases d <;> try rfl
      all_goals first
        | (rename_i a; simp only []; cases P.underlying a with
          | none => rfl
          | some d => cases d <;> rfl)
        | (simp only [L.gH]
           refine congrArg (getK h _) (funext fun cb => ?_)
           cases cb <;> rfl)
        | skip
end
end Go.Ev
