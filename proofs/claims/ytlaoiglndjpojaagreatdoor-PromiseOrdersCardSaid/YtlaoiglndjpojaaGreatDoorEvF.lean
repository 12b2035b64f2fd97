/- A verified evaluator for the model's code (part EvF): own work, of no program. -/
import Derived.Test.YtlaoiglndjpojaaGreatDoorEvE
namespace Go.Ev
noncomputable section

/-! The evaluator over any form of frames and heaps -/
structure Sig (T H : Type) where
  gT : T → Nat → (CV → Bool) → Bool
  sT : CV → T → Nat → (T → Bool) → Bool
  gH : H → Nat → (CB → Bool) → Bool
  sH : CB → H → Nat → (H → Bool) → Bool
  iH : CB → H → Nat → (H → Bool) → Bool
  dT : T → (Tm → Bool) → Bool
  nT : Tm → T
section
variable {T H : Type} (S : Sig T H)
abbrev KAX (H : Type) := CV → MX H → Bool
abbrev CallX (H : Type) := Fn → List CV → MX H → KAX H → Bool
abbrev KXX (T H : Type) := CX → T → List DF → MX H → Bool
abbrev CodeX (T H : Type) := T → List DF → MX H → KXX T H → Bool
def getOX (G : Nat → Bool) (x : Operand) (t : T) (k : CV → Bool) : Bool := match x with
  | .tmp i => S.gT t i k
  | .const v => match ofValue v with | some c => k c | none => false
  | .global g => match G g with | true => k (.ptr g 0) | false => false
  | .func f => k (.fn (.func f) [] [])
def getOsX (G : Nat → Bool) (xs : List Operand) (t : T) : (List CV → Bool) → Bool :=
  lrec (fun k => k []) (fun x _ ih k => getOX S G x t fun c => ih fun cs => k (c :: cs)) xs
def withCellsX (h : H) (b : Nat) (k : Nat → Bool → Nat → Nat → Tr CV → Bool) : Bool :=
  S.gH h b fun cb => match cb with
    | .cells te lo es sz cs => k te lo es sz cs
    | _ => false
def loadCX (P : Program) (t : TypeId) (b off : Nat) (h : H) (k : CV → Bool) : Bool :=
  withCellsX S h b fun _ _ _ _ cs => match aggT P t with
    | some true => szK P t fun n => loadN cs n off fun l => k (.agg l)
    | some false => getK cs off k
    | none => false
def storeCX (P : Program) (t : TypeId) (b off : Nat) (v : CV) (h : H) (k : H → Bool) : Bool :=
  withCellsX S h b fun te lo es sz cs => szK P t fun n => match Nat.beq (cellsOfCV v).length n with
    | true => storeN (cellsOfCV v) off cs fun cs' => S.sH (.cells te lo es sz cs') h b k
    | false => false
def liveBX (h : H) (b : Nat) (k : Bool) : Bool := S.gH h b fun cb => match cb with
  | .cells _ lo es _ _ => match lo with
    | true => match Nat.beq es 1 with | true => false | false => k
    | false => k
  | _ => false
def eqCX (P : Program) (ty : TypeId) (cx cy : Bool) (x y : CV) (h : H) (tab : Tab) (k : Bool → Tab → Bool) : Bool := match x with
  | .agg xs => match y with
    | .agg ys => match plainStruct P ty with
      | some ps => eqL ps xs ys tab k
      | none => false
    | _ => false
  | .ptr0 => match P.underlying ty with
    | some (.pointer _) => match y with | .ptr0 => k true tab | .ptr _ _ => k false tab | _ => false
    | _ => false
  | .ptr b o => match P.underlying ty with
    | some (.pointer el) => match y with
      | .ptr0 => k false tab
      | .ptr b' o' => szK P el fun n => match Nat.beq n 0 with
        | true => false
        | false => match Nat.beq b b' with
          | true => k (Nat.beq o o') tab
          | false => liveBX S h b (liveBX S h b' (k false tab))
      | _ => false
    | _ => false
  | .sl0 => match P.underlying ty with
    | some (.slice _) => match y with | .sl0 => k true tab | .sl .. => k false tab | .slE => k false tab | _ => false
    | _ => false
  | .slE => match P.underlying ty with
    | some (.slice _) => match y with | .sl0 => k false tab | _ => false
    | _ => false
  | .sl .. => match P.underlying ty with
    | some (.slice _) => match y with | .sl0 => k false tab | _ => false
    | _ => false
  | .map0 => match P.underlying ty with
    | some (.map _ _) => match y with | .map0 => k true tab | .map _ => k false tab | _ => false
    | _ => false
  | .map _ => match P.underlying ty with
    | some (.map _ _) => match y with | .map0 => k false tab | _ => false
    | _ => false
  | .fn0 => match P.underlying ty with
    | some (.func ..) => match y with | .fn0 => k true tab | .fn .. => k false tab | _ => false
    | _ => false
  | .fn .. => match P.underlying ty with
    | some (.func ..) => match y with | .fn0 => k false tab | _ => false
    | _ => false
  | .ifc0 => match P.underlying ty with
    | some (.interface _) => match y with
      | .ifc0 => match cx || cy with | true => k true tab | false => false
      | .ifc .. => k false tab
      | _ => false
    | _ => false
  | .ifc .. => match P.underlying ty with
    | some (.interface _) => match y with | .ifc0 => k false tab | _ => false
    | _ => false
  | .bool _ => match P.underlying ty with
    | some .bool => eqP x y tab k
    | _ => false
  | _ => false
def eqBinX (P : Program) (op : BinOp) (ty : TypeId) (cx cy : Bool) (x y : CV) (h : H) (tab : Tab) (k : CV → Tab → Bool) : Bool := match op with
  | .eql => eqCX S P ty cx cy x y h tab fun b tab => kB b fun c => k c tab
  | .neq => eqCX S P ty cx cy x y h tab fun b tab => kB (!b) fun c => k c tab
  | _ => false
def binCX (P : Program) (op : BinOp) (ty : TypeId) (cx cy : Bool) (x y : CV) (h : H) (tab : Tab) (k : CV → Tab → Bool) : Bool := match x with
  | .int kd a => match y with
    | .int kd' b => match decide (kd = kd') || (match op with | .shl | .shr => true | _ => false) with
      | true => intOp op kd a b fun r => k r tab
      | false => false
    | .sym kd' s => match isCmp op with
      | true => match decide (kd = kd') with
        | true => symCmp (flip op) s a tab fun b tab => k (.bool b) tab
        | false => false
      | false => linBinV op (.int kd a) (.sym kd' s) tab k
    | .lin kd' c' ts' => linBinV op (.int kd a) (.lin kd' c' ts') tab k
    | _ => false
  | .sym kd s => match y with
    | .int kd' b => match isCmp op with
      | true => match decide (kd = kd') with
        | true => symCmp op s b tab fun b tab => k (.bool b) tab
        | false => false
      | false => match op with
        | .rem => match decide (kd = kd') with
          | true => symRem kd s b tab k
          | false => false
        | op => linBinV op (.sym kd s) (.int kd' b) tab k
    | .sym kd' s' => linBinV op (.sym kd s) (.sym kd' s') tab k
    | .lin kd' c' ts' => linBinV op (.sym kd s) (.lin kd' c' ts') tab k
    | _ => false
  | .lin kd c ts => linBinV op (.lin kd c ts) y tab k
  | .str l1 c1 => match y with
    | .str l2 c2 => strOp op l1 c1 l2 c2 fun r => k r tab
    | .lstr bs => lsBin op (.str l1 c1) (.lstr bs) tab k
    | _ => false
  | .lstr bs => lsBin op (.lstr bs) y tab k
  | .ssym s _ => match y with
    | .ssym s' _ => match Nat.beq s s' with
      | true => match op with | .eql => k (.bool true) tab | .neq => k (.bool false) tab | _ => false
      | false => false
    | _ => false
  | .symr kd _ c lo cnt => match op with
    | .rem => match y with
      | .int kd' b => match b with
        | .ofNat n => (match decide (kd = kd') && (Nat.beq n c && (!Nat.beq c 0 && !Nat.beq cnt 0)) with | true => allB cnt (fun i => forceN (lo + i) fun r => k (.int kd (.ofNat r)) tab) | false => false)
        | .negSucc _ => false
      | _ => false
    | _ => false
  | x => eqBinX S P op ty cx cy x y h tab k
def optOX (G : Nat → Bool) (x : Option Operand) (t : T) (k : Option CV → Bool) : Bool := match x with | none => k none | some x => getOX S G x t fun v => k (some v)
def keyEqX (P : Program) (kt : TypeId) (x y : CV) (h : H) (tab : Tab) (k : Bool → Bool) : Bool := match x with
  | .int kd a => match y with | .int kd' b => (match decide (kd = kd') with | true => k (eqI a b) | false => false) | _ => false
  | .str l1 c1 => match y with | .str l2 c2 => k (Nat.beq l1 l2 && Nat.beq c1 c2) | _ => false
  | .ptr .. => eqCX S P kt false false x y h tab fun b _ => k b
  | _ => false
def findMX (P : Program) (kt : TypeId) (h : H) (tab : Tab) (key : CV) (es : List (CV × CV × Nat)) (k : Option CV → Bool) : Bool :=
  lrec (β := (Option CV → Bool) → Bool) (fun k => k none) (fun e _ ih k => keyEqX S P kt key e.1 h tab fun b => match b with | true => k (some e.2.1) | false => ih k) es k
def putMX (P : Program) (kt : TypeId) (h : H) (tab : Tab) (key v : CV) (clock : Nat) (es : List (CV × CV × Nat)) (k : List (CV × CV × Nat) → Bool → Bool) : Bool :=
  lrec (β := (List (CV × CV × Nat) → Bool → Bool) → Bool) (fun k => k [(key, v, clock)] true)
    (fun e es ih k => keyEqX S P kt key e.1 h tab fun b => match b with
      | true => k ((key, v, e.2.2) :: es) false
      | false => ih fun es' new => k (e :: es') new) es k
def convCX (P : Program) (src dst : TypeId) (x : CV) (h : H) (tab : Tab) (nb : Nat) (k : KF) : Bool := match P.underlying src with
  | none => false
  | some us => match P.underlying dst with
    | some (.slice e) => match x with
      | .str l c => match P.underlying e with
        | some (.int .u8) => k (.sl nb 0 l l) (some (.cells 0 true 1 l (ofList ((decBytes l c).map fun b => .int .u8 b.toNat)))) tab
        | _ => false
      | .lstr bs => match P.underlying e with
        | some (.int .u8) => forceN bs.length fun l => k (.sl nb 0 l l) (some (.cells 0 true 1 l (ofList (bs.map fun f => byteC f.1 f.2)))) tab
        | _ => false
      | _ => false
    | some (.int kd) => match x with
      | .int _ a => wrapK kd a fun r => k (.int kd r) none tab
      | .sym _ s => match tab.iv[s]? with
        | some (lo, hi) => match leI kd.min lo && leI hi kd.max with | true => k (.sym kd s) none tab | false => false
        | none => false
      | .lin _ c ts => linRes kd c ts tab fun v => k v none tab
      | _ => false
    | some .string => match x with
      | .str l c => k (.str l c) none tab
      | .lstr bs => k (.lstr bs) none tab
      | .ssym s l => k (.ssym s l) none tab
      | .int _ a => forceN (encBytes (Utf8.encode a).data.toList) fun c => forceN (Utf8.encode a).size fun l => k (.str l c) none tab
      | _ => false
    | some .unsafePointer => match us with
      | .pointer t => match x with
        | .ptr b o => withCellsX S h b fun _ _ _ sz _ => szK P t fun n => match Nat.blt o sz && !Nat.beq n 0 with
          | true => k (.ptr b o) none tab
          | false => false
        | _ => false
      | _ => false
    | some (.pointer u) => match us with
      | .unsafePointer => match x with
        | .ptr b o => withCellsX S h b fun te lo _ sz _ => match te with
          | 0 => false
          | T + 1 => match lo with
            | true => false
            | false => szK P u fun _ => match liesAt P P.depth T (sz / P.cellsOf T) o u 1 with
              | true => k (.ptr b o) none tab
              | false => false
        | _ => false
      | _ => false
    | _ => false
def lenCX (P : Program) (ty : TypeId) (v : CV) (h : H) (tab : Tab) (k : CV → Tab → Bool) : Bool := match v with
  | .str l _ => match P.underlying ty with | some .string => k (.int .i64 (.ofNat l)) tab | _ => false
  | .ssym _ l => match P.underlying ty with | some .string => k (.sym .i64 l) tab | _ => false
  | .lstr bs => match P.underlying ty with | some .string => forceN bs.length fun l => k (.int .i64 (.ofNat l)) tab | _ => false
  | .sl0 => match P.underlying ty with | some (.slice _) => k (.int .i64 0) tab | _ => false
  | .slE => match P.underlying ty with | some (.slice _) => k (.int .i64 0) tab | _ => false
  | .sl _ _ l _ => match P.underlying ty with | some (.slice _) => k (.int .i64 (.ofNat l)) tab | _ => false
  | .map0 => match P.underlying ty with | some (.map ..) => k (.int .i64 0) tab | _ => false
  | .map b => match P.underlying ty with
    | some (.map ..) => S.gH h b fun cb => match cb with | .map es _ => forceN es.length fun l => k (.int .i64 (.ofNat l)) tab | _ => false
    | _ => false
  | _ => match P.underlying ty with
    | some (.array m _) => k (.int .i64 (.ofNat m)) tab
    | some (.pointer a) => match P.underlying a with | some (.array m _) => k (.int .i64 (.ofNat m)) tab | _ => false
    | _ => false
def floatCX (P : Program) (G : Nat → Bool) (o : Op) (t : T) (h : H) (tab : Tab) (nb : Nat) (k : KF) : Bool := match o with
  | .move x => getOX S G x t fun v => k v none tab
  | .assign x => getOX S G x t fun v => k v none tab
  | .pick c a b => getOX S G c t fun v => asBool v fun c => match c with
    | true => getOX S G a t fun v => k v none tab
    | false => getOX S G b t fun v => k v none tab
  | .alloc e => match zeroOf P e with
    | some z => k (.ptr nb 0) (some (.cells (e + 1) false 0 z.length (ofList z))) tab
    | none => false
  | .box _ x => getOX S G x t fun v => forceN (cellsOfCV v).length fun l => k (.ptr nb 0) (some (.cells 0 false 0 l (ofList (cellsOfCV v)))) tab
  | .build ty parts => match zeroOf P ty with
    | some z => match P.underlying ty with
      | some (.struct fields) => match fields.toList.all (fun f => (P.info? f.type).isSome) with
       | false => false
       | true => getOsX S G (parts.toList.map (·.2)) t fun vs =>
        match fillC (fun i => (fields[i]?).map fun f => (f.offset, P.cellsOf f.type)) ((parts.toList.map (·.1)).zip vs) z with
        | some cs => forceL cs fun cs => k (.agg cs) none tab
        | none => false
      | some (.array _ e) => szK P e fun n => getOsX S G (parts.toList.map (·.2)) t fun vs =>
        match fillC (fun i => some (i * n, n)) ((parts.toList.map (·.1)).zip vs) z with
        | some cs => forceL cs fun cs => k (.agg cs) none tab
        | none => false
      | _ => false
    | none => false
  | .buildSlice ty len parts => match elemOfSl P ty with
    | some e => match zeroOf P e with
      | some z => szK P e fun n => match Nat.ble (len * z.length) 65536 && Nat.beq z.length n with
        | true => getOsX S G (parts.toList.map (·.2)) t fun vs =>
          match fillC (fun i => some (i * n, n)) ((parts.toList.map (·.1)).zip vs) (repl len z) with
          | some cs => forceN (len * z.length) fun sz => k (.sl nb 0 len len) (some (.cells 0 false 0 sz (ofList cs))) tab
          | none => false
        | false => false
      | none => false
    | none => false
  | .load ty x => getOX S G x t fun v => asPtr v fun b off => loadCX S P ty b off h fun v => k v none tab
  | .nilCheck x => getOX S G x t fun v => match v with
    | .ptr b o => k (.ptr b o) none tab
    | .fn (.func f) a c => k (.fn (.func f) a c) none tab
    | .yld b => k (.yld b) none tab
    | .ifc ty v => k (.ifc ty v) none tab
    | _ => false
  | .binOp op ty x y _ => getOX S G x t fun v => getOX S G y t fun w => binCX S P op ty (isC x) (isC y) v w h tab fun r tab => k r none tab
  | .unOp op _ x => getOX S G x t fun v => match op with
    | .not => asBool v fun b => match b with | true => k (.bool false) none tab | false => k (.bool true) none tab
    | .neg => match v with | .int kd a => wrapK kd (0 - a) fun r => k (.int kd r) none tab | _ => false
    | _ => false
  | .convert s d x => getOX S G x t fun v => convCX S P s d v h tab nb k
  | .makeInterface ty x => getOX S G x t fun v => match isIfc P ty with | true => false | false => k (.ifc ty v) none tab
  | .makeFunc f first cap => match f with
    | .func f => getOsX S G first.toList t fun a => getOsX S G cap.toList t fun c => k (.fn (.func f) a c) none tab
    | _ => false
  | .makeMap _ r => match r with
    | none => k (.map nb) (some (.map [] 0)) tab
    | some _ => false
  | .makeSlice ty l c => match elemOfSl P ty with
    | some e => match zeroOf P e with
      | some z => getOX S G l t fun l => asNat l tab fun l tab => getOX S G c t fun c => asNat c tab fun c tab =>
        szK P e fun n => match Nat.ble l c && (Nat.ble (c * z.length) 65536 && (Nat.ble (c * P.bytesOf e) 1000000000 && (Nat.ble c 65536 && Nat.beq z.length n))) with
        | true => forceN (c * z.length) fun sz => k (.sl nb 0 l c) (some (.cells 0 false 0 sz (ofList (repl c z)))) tab
        | false => false
      | none => false
    | none => false
  | .slice ty x lo hi mx => match mx with
    | some _ => false
    | none => getOX S G x t fun v => optOX S G lo t fun lo => optOX S G hi t fun hi => match v with
      | .str len c => match P.underlying ty with
        | some .string => match lo with
          | some (.lin kd lc ts) => match hi with
            | some h => match linOf h with
              | some (_, hc, ts') => match subTs ts' ts with
                | [] => match hc - lc with
                  | .ofNat m => linPiece len c lc ts m tab fun bs => lstrK bs fun v => k v none tab
                  | .negSucc _ => false
                | _ => false
              | none => false
            | none => false
          | _ => sliceBd len len lo hi tab fun l h' tab => forceN (h' - l) fun m => forceN (c / 256 ^ (len - h') % 256 ^ m) fun c' => k (.str m c') none tab
        | _ => false
      | .lstr bs => match P.underlying ty with
        | some .string => sliceBd bs.length bs.length lo hi tab fun l h' tab => lstrK ((bs.take h').drop l) fun v => k v none tab
        | _ => false
      | .sl b off len cap => match elemOfSl P ty with
        | some e => szK P e fun n => match Nat.ble len cap with
          | false => false
          | true => sliceBd len cap lo hi tab fun l h' tab => match Nat.blt l cap with
            | true => forceN (off + l * n) fun o' => forceN (h' - l) fun l' => forceN (cap - l) fun c' => k (.sl b o' l' c') none tab
            | false => k .slE none tab
        | none => false
      | .slE => match elemOfSl P ty with
        | some e => szK P e fun _ => sliceBd 0 0 lo hi tab fun _ _ tab => k .slE none tab
        | none => false
      | .sl0 => match elemOfSl P ty with
        | some e => szK P e fun _ => sliceBd 0 0 lo hi tab fun _ _ tab => k .sl0 none tab
        | none => false
      | _ => false
  | .fieldAddr s x f => match fieldOf P s f with
    | some fd => szK P fd.type fun n => match Nat.beq n 0 with
      | true => false
      | false => getOX S G x t fun v => asPtr v fun b off => forceN (off + fd.offset) fun o' => k (.ptr b o') none tab
    | none => false
  | .field s x f => match fieldOf P s f with
    | some fd => getOX S G x t fun v => match v with | .agg cs => partC P fd.type cs fd.offset fun r => k r none tab | _ => false
    | none => false
  | .indexAddr ty x i => getOX S G x t fun v => getOX S G i t fun w => asNat w tab fun i tab => match v with
    | .sl b off len _ => match elemOfSl P ty with
      | some e => match Nat.blt i len with
        | true => szK P e fun n => forceN (off + i * n) fun o' => k (.ptr b o') none tab
        | false => false
      | none => false
    | .ptr b off => match P.underlying ty with
      | some (.array len e) => match Nat.blt i len with
        | true => szK P e fun n => forceN (off + i * n) fun o' => k (.ptr b o') none tab
        | false => false
      | _ => false
    | _ => false
  | .index ty x i => getOX S G x t fun v => getOX S G i t fun w => asNat w tab fun i tab => match v with
    | .lstr bs => match P.underlying ty with
      | some .string => match bs[i]? with
        | some f => k (byteC f.1 f.2) none tab
        | none => false
      | _ => false
    | .str len c => match P.underlying ty with
      | some .string => match Nat.blt i len with
        | true => forceN (c / 256 ^ (len - 1 - i) % 256) fun b => k (.int .u8 (.ofNat b)) none tab
        | false => false
      | _ => false
    | .agg cs => match P.underlying ty with
      | some (.array len e) => match Nat.blt i len with
        | true => szK P e fun n => partC P e cs (i * n) fun r => k r none tab
        | false => false
      | _ => false
    | _ => false
  | .lookup ty x i ok => match P.underlying ty with
    | some (.map kt e) => getOX S G x t fun v => getOX S G i t fun w => match keyOk P kt w with
      | false => false
      | true => match zeroVal P e with
        | some z => (match v with
          | .map0 => fun (k : Option CV → Bool) => k none
          | .map b => fun k => S.gH h b fun cb => match cb with | .map es _ => findMX S P kt h tab w es k | _ => false
          | _ => fun _ => false) fun r => lkB ok z tab k r
        | none => false
    | _ => false
  | .extract x i => getOX S G x t fun v => match v with
    | .tup vs => match vs[i]? with | some c => k c none tab | none => false
    | _ => false
  | .call c => match c.callee with
    | .builtin .len => match c.args.toList with
      | [x] => match c.argTypes[0]? with
        | some ty => getOX S G x t fun v => lenCX S P ty v h tab fun r tab => k r none tab
        | none => false
      | _ => false
    | .builtin .min => match c.args.toList with
      | [x, y] => getOX S G x t fun v => getOX S G y t fun w => match v with
        | .int kd a => match w with | .int _ b => (match ltI b a with | true => k (.int kd b) none tab | false => k (.int kd a) none tab) | _ => false
        | _ => false
      | _ => false
    | .builtin .max => match c.args.toList with
      | [x, y] => getOX S G x t fun v => getOX S G y t fun w => match v with
        | .int kd a => match w with | .int _ b => (match ltI a b with | true => k (.int kd b) none tab | false => k (.int kd a) none tab) | _ => false
        | _ => false
      | _ => false
    | _ => false
  | _ => false
def newBX (cb : CB) (m : MX H) (k : Nat → MX H → Bool) : Bool :=
  S.iH cb m.h m.n fun h' => forceN (Nat.succ m.n) fun n' => k m.n ⟨h', n', m.tab⟩
def appendedX (str : Bool) (n : Nat) (x : CV) (h : H) (k : List CV → Nat → Bool) : Bool := match str with
  | false => match x with
    | .sl0 => k [] 0
    | .slE => k [] 0
    | .sl b off len _ => withCellsX S h b fun _ _ _ _ cs => loadN cs (len * n) off fun l => allOne l (k l len)
    | _ => false
  | true => match x with
    | .str l c => match Nat.beq n 1 with
      | true => k ((decBytes l c).map fun b => .int .u8 b.toNat) l
      | false => false
    | .lstr bs => match Nat.beq n 1 with
      | true => forceN bs.length fun l => k (bs.map fun f => byteC f.1 f.2) l
      | false => false
    | _ => false
def appendCX (P : Program) (et : TypeId) (str : Bool) (s x : CV) (m : MX H) (k : KAX H) : Bool :=
  szK P et fun n => isTrue (!Nat.beq n 0) <| isTrue (!Nat.beq (P.bytesOf et) 0) <| isTrue (match zeroOf P et with | some z => Nat.beq z.length n | none => false) <|
  appendedX S str n x m.h fun new cnt => match s with
    | .sl0 => match Nat.beq cnt 0 with
      | true => k .sl0 m
      | false => isTrue (Nat.ble (4 * cnt * P.bytesOf et) 281474976710656) <| forceN (cnt * n) fun sz =>
        newBX S (.cells (et + 1) true (n) sz (ofList new)) m fun b m' => k (.sl b 0 cnt cnt) m'
    | .sl b off len cap => withCellsX S m.h b fun te lo es sz cs => forceN (len + cnt) fun need => match Nat.ble need cap with
      | true => storeN new (off + len * n) cs fun cs' => S.sH (.cells te lo es sz cs') m.h b fun h' => k (.sl b off need cap) ⟨h', m.n, m.tab⟩
      | false => isTrue (Nat.ble (4 * need * P.bytesOf et) 281474976710656) <| forceN (need * n) fun sz' => match lo with
        | true => isTrue (Nat.beq es (n)) <| isTrue (Nat.beq (off + cap * es) sz) <| S.sH .none m.h b fun h1 =>
          match Nat.beq off 0 && Nat.beq (len * es) sz with
          | true => pushN new sz cs fun cs' => newBX S (.cells (sameTe te (et + 1)) true es sz' cs') ⟨h1, m.n, m.tab⟩ fun b' m' => k (.sl b' 0 need need) m'
          | false => loadN cs (len * es) off fun old => newBX S (.cells (sameTe te (et + 1)) true es sz' (ofList (old ++ new))) ⟨h1, m.n, m.tab⟩ fun b' m' => k (.sl b' 0 need need) m'
        | false => loadN cs (len * n) off fun old => newBX S (.cells (et + 1) true (n) sz' (ofList (old ++ new))) m fun b' m' => k (.sl b' 0 need need) m'
    | _ => false
def ustrCX (e : TypeId) (v : CV) (n : Nat) (m : MX H) (k : KAX H) : Bool := match v with
  | .ptr0 => match Nat.beq n 0 with | true => k (.str 0 0) m | false => false
  | .ptr b off => match Nat.beq n 0 with
    | true => k (.str 0 0) m
    | false => withCellsX S m.h b fun te _ _ sz cs => match Nat.beq te (e + 1) && (Nat.ble (off + n) sz && Nat.ble n 1000000) with
      | true => loadN cs n off fun l => match bytesOf? l with
        | some bs => forceN (encBytes bs) fun c => S.sH .none m.h b fun h' => k (.str n c) ⟨h', m.n, m.tab⟩
        | none => false
      | false => false
  | _ => false
def actCX (P : Program) (G : Nat → Bool) (call : CallX H) (o : Op) (t : T) (m : MX H) (k : KAX H) : Bool := match o with
  | .store ty x y => getOX S G x t fun v => asPtr v fun b off => getOX S G y t fun w => storeCX S P ty b off w m.h fun h' => k undefC ⟨h', m.n, m.tab⟩
  | .mapUpdate ty x i y => match P.underlying ty with
    | some (.map kt _) => getOX S G x t fun v => getOX S G i t fun key => getOX S G y t fun val => match keyOk P kt key with
      | false => false
      | true => match v with
        | .map b => S.gH m.h b fun cb => match cb with
          | .map es clock => putMX S P kt m.h m.tab key val clock es fun es' new => forceN (match new with | true => clock + 1 | false => clock) fun clock' =>
            S.sH (.map es' clock') m.h b fun h' => k undefC ⟨h', m.n, m.tab⟩
          | _ => false
        | _ => false
    | _ => false
  | .call c => match c.callee with
    | .value f => getOX S G f t fun fv => getOsX S G c.args.toList t fun args => match fv with
      | .fn f first cap => match f with
        | .func f => call (.func f) (first ++ args ++ cap) m k
        | _ => false
      | .yld b => call (.yield b) args m k
      | _ => false
    | .builtin b => match b with
      | .append => match c.args.toList with
        | [x, y] => match c.argTypes.toList with
          | [tx, ty] => match elemOfSl P tx with
            | some e => match P.underlying ty with
              | some (.slice _) => getOX S G x t fun v => getOX S G y t fun w => appendCX S P e false v w m k
              | some .string => getOX S G x t fun v => getOX S G y t fun w => appendCX S P e true v w m k
              | _ => false
            | none => false
          | _ => false
        | _ => false
      | .recover => k .ifc0 m
      | .unsafeSliceData => match c.args.toList with
        | [x] => getOX S G x t fun v => match v with
          | .sl0 => k .ptr0 m
          | .sl b off _ cap => match Nat.blt 0 cap with | true => k (.ptr b off) m | false => false
          | _ => false
        | _ => false
      | .unsafeString => match c.args.toList with
        | [x, y] => match c.argTypes.toList with
          | [pt, _] => match P.underlying pt with
            | some (.pointer e) => match Nat.beq (P.cellsOf e) 1 with
              | true => getOX S G x t fun v => getOX S G y t fun w => match w with
                | .int .i64 (.ofNat n) => ustrCX S e v n m k
                | _ => false
              | false => false
            | _ => false
          | _ => false
        | _ => false
      | _ => false
    | .invoke _ _ => false
  | _ => false
def putTX (dst : Option Tmp) (v : CV) (t : T) (k : T → Bool) : Bool := match dst with
  | none => k t
  | some d => S.sT v t d k
def guardCX (ops : Array Oper) (o : Oper) (t : T) (k : Bool → Bool) : Bool := match o.guard with
  | none => k true
  | some (j, want) => match ops[j]? with
    | some oj => match oj.dst with
      | some d => S.gT t d fun v => match v with
        | .bool b => match want with
          | true => (match b with | true => k true | false => k false)
          | false => (match b with | true => k false | false => k true)
        | .tup [] => k false
        | _ => false
      | none => false
    | none => false
def operCX (P : Program) (G : Nat → Bool) (rd : Bool) (call : CallX H) (ops : Array Oper) (o : Oper) (t : T) (d : List DF) (m : MX H) (k : T → List DF → MX H → Bool) : Bool :=
  guardCX S ops o t fun b => match b with
    | false => putTX S o.dst undefC t fun t' => k t' d m
    | true => match isFloat o.op with
      | true => floatCX S P G o.op t m.h m.tab m.n fun v nb tab => putTX S o.dst v t fun t' => match nb with
        | none => k t' d ⟨m.h, m.n, tab⟩
        | some cb => newBX S cb ⟨m.h, m.n, tab⟩ fun _ m' => k t' d m'
      | false => match o.op with
        | .defer c => match rd with
          | true => false
          | false => match c.callee with
            | .value f => getOX S G f t fun fv => getOsX S G c.args.toList t fun args => match fv with
              | .fn f first cap => match f with
                | .func f => putTX S o.dst undefC t fun t' => k t' (.call (.func f) (first ++ args) cap :: d) m
                | _ => false
              | _ => false
            | _ => false
        | op => (match op, rd with
            | .call { callee := .builtin .recover, .. }, true => false
            | _, _ => true) && actCX S P G call op t m fun v m' => putTX S o.dst v t fun t' => k t' d m'
def againCX (P : Program) (G : Nat → Bool) (ops : Array Oper) (t : T) (m : MX H) (j : Nat) : Bool := match ops[j]? with
  | some o => guardCX S ops o t fun b => match b with
    | false => true
    | true => match o.dst with
      | some dd => S.gT t dd fun v => floatCX S P G o.op t m.h m.tab 0 fun v' nb _ => match nb with | none => cvBeq v v' | some _ => false
      | none => false
  | none => false
def resultsCX (P : Program) (rs : List ResultVar) : T → MX H → (List CV → Bool) → Bool :=
  lrec (fun _ _ k => k []) (fun r _ ih t m k => match r with
    | .tmp i => S.gT t i fun v => ih t m fun vs => k (v :: vs)
    | .cell a ty => S.gT t a fun v => asPtr v fun b off => loadCX S P ty b off m.h fun v => ih t m fun vs => k (v :: vs)) rs
def defersCX (call : CallX H) (ds : List DF) : MX H → (MX H → Bool) → Bool :=
  lrec (fun m k => k m) (fun d _ ih m k => match d with
    | .call f args cap => call f (args ++ cap) m fun _ m => ih m k
    | .coll b => S.gH m.h b fun cb => match cb with
      | .dfd true => S.sH (.dfd false) m.h b fun h' => ih ⟨h', m.n, m.tab⟩ k
      | _ => false) ds
def setPsX (ps : List Nat) : List CV → T → (T → Bool) → Bool :=
  lrec (fun as t k => match as with | [] => k t | _ => false)
    (fun p _ ih as t k => match as with
      | [] => false
      | a :: as => S.sT a t p fun t' => ih as t' k) ps
def endRdX (l : Nat) (x : CX) (m : MX H) (k : KAX H) : Bool := S.gH m.h l fun cb => match cb with
  | .loop _ _ fn tm ps a b db => match x with
    | .normal => S.sH (.loop .ready none fn tm ps a b db) m.h l fun h' => k (.bool true) ⟨h', m.n, m.tab⟩
    | .exit id => S.sH (.loop .done (some (.exit id)) fn tm ps a b db) m.h l fun h' => k (.bool false) ⟨h', m.n, m.tab⟩
    | .ret => S.sH (.loop .done (some .ret) fn tm ps a b db) m.h l fun h' => k (.bool false) ⟨h', m.n, m.tab⟩
  | _ => false

def rangeX (P : Program) (G : Nat → Bool) (fn : FuncId) (call : CallX H) (f : Operand) (ps : Array Tmp) (a b : Code) (t : T) (d : List DF) (m : MX H) (k : KXX T H) : Bool := getOX S G f t fun fv => match fv with
  | .fn f first cap => match f with
    | .func f => isTrue (match P.funcs[f]? with | some fn => fn.body.isSome | none => false) <| newBX S (.dfd true) m fun db m => S.dT t fun tm => newBX S (.loop .ready none fn tm ps a b db) m fun l m =>
      call (.func f) (first ++ [.yld l] ++ cap) m fun _ m => S.gH m.h l fun cb => match cb with
        | .loop st pend fn t' ps a b db' => match st with
          | .busy => false
          | _ => S.sH (.loop .exhausted pend fn t' ps a b db') m.h l fun h' => pendK pend fun x => k x t (.coll db :: d) ⟨h', m.n, m.tab⟩
        | _ => false
    | _ => false
  | _ => false
def yieldX (cd : FuncId → Code → CodeX T H) (l : Nat) (args : List CV) (m : MX H) (k : KAX H) : Bool := S.gH m.h l fun cb => match cb with
  | .loop st _ fn tm ps assign body _ => match st with
    | .ready => setPsX S ps.toList args (S.nT tm) fun t => cd fn assign t [] m fun x t d m => match x with
      | .normal => S.gH m.h l fun cb => match cb with
        | .loop st pend fn' tm' ps' a' b' db' => match st with
          | .ready => S.sH (.loop .busy pend fn' tm' ps' a' b' db') m.h l fun h' => cd fn body t d ⟨h', m.n, m.tab⟩ fun x _ _ m => endRdX S l x m k
          | _ => false
        | _ => false
      | _ => false
    | _ => false
  | _ => false
end
end
end Go.Ev

namespace Go.Ev

structure Law {T H : Type} (S : Sig T H) (eT : Tm → T) (eH : Hp → H) : Prop where
  gT : ∀ t i k, S.gT (eT t) i k = getK t i k
  sT : ∀ c t i k, S.sT c (eT t) i k = setK c t i fun t' => k (eT t')
  gH : ∀ h b k, S.gH (eH h) b k = getK h b k
  sH : ∀ cb h b k, S.sH cb (eH h) b k = setK cb h b fun h' => k (eH h')
  iH : ∀ cb h b k, S.iH cb (eH h) b k = insK cb h b fun h' => k (eH h')
  dT : ∀ t k, S.dT (eT t) k = k t
  nT : ∀ t, S.nT t = eT t
def eM {H : Type} (eH : Hp → H) (m : M) : MX H := ⟨eH m.h, m.n, m.tab⟩

section
variable {T H : Type} {S : Sig T H} {eT : Tm → T} {eH : Hp → H} {P : Program} {G : Nat → Bool}
theorem getOX_eq (L : Law S eT eH) (x : Operand) (t : Tm) (k : CV → Bool) : getOX S G x (eT t) k = getO G x t k := by
  cases x <;> simp only [getOX, getO, L.gT] <;> rfl
theorem getOsX_eq (L : Law S eT eH) (xs : List Operand) (t : Tm) : ∀ (k : List CV → Bool), getOsX S G xs (eT t) k = getOs G xs t k := by
  induction xs with
  | nil => intro k; rfl
  | cons x xs ih =>
    intro k
    show getOX S G x (eT t) (fun c => getOsX S G xs (eT t) fun cs => k (c :: cs)) = getO G x t fun c => getOs G xs t fun cs => k (c :: cs)
    rw [getOX_eq L]
    simp only [ih]
theorem optOX_eq (L : Law S eT eH) (x : Option Operand) (t : Tm) (k : Option CV → Bool) : optOX S G x (eT t) k = optO G x t k := by
  cases x <;> simp only [optOX, optO, getOX_eq L]
theorem withCellsX_eq (L : Law S eT eH) (h : Hp) (b : Nat) (k : Nat → Bool → Nat → Nat → Tr CV → Bool) : withCellsX S (eH h) b k = withCells h b k := by
  simp only [withCellsX, withCells, L.gH]
  all_goals rfl
theorem loadCX_eq (L : Law S eT eH) (t : TypeId) (b off : Nat) (h : Hp) (k : CV → Bool) : loadCX S P t b off (eH h) k = loadC P t b off h k := by
  simp only [loadCX, loadC, withCellsX_eq L]
  all_goals rfl
theorem storeCX_eq (L : Law S eT eH) (t : TypeId) (b off : Nat) (v : CV) (h : Hp) (k : H → Bool) : storeCX S P t b off v (eH h) k = storeC P t b off v h fun h' => k (eH h') := by
  simp only [storeCX, storeC, withCellsX_eq L, L.sH]
  all_goals rfl
theorem liveBX_eq (L : Law S eT eH) (h : Hp) (b : Nat) (k : Bool) : liveBX S (eH h) b k = liveB h b k := by
  simp only [liveBX, liveB, L.gH]
  all_goals rfl
theorem eqCX_eq (L : Law S eT eH) (ty : TypeId) (cx cy : Bool) (x y : CV) (h : Hp) (tab : Tab) (k : Bool → Tab → Bool) : eqCX S P ty cx cy x y (eH h) tab k = eqC P ty cx cy x y h tab k := by
  unfold eqCX eqC
  simp only [liveBX_eq L]
  all_goals rfl
theorem eqBinX_eq (L : Law S eT eH) (op : BinOp) (ty : TypeId) (cx cy : Bool) (x y : CV) (h : Hp) (tab : Tab) (k : CV → Tab → Bool) : eqBinX S P op ty cx cy x y (eH h) tab k = eqBin P op ty cx cy x y h tab k := by
  unfold eqBinX eqBin
  simp only [eqCX_eq L]
  all_goals rfl
theorem binCX_eq (L : Law S eT eH) (op : BinOp) (ty : TypeId) (cx cy : Bool) (x y : CV) (h : Hp) (tab : Tab) (k : CV → Tab → Bool) : binCX S P op ty cx cy x y (eH h) tab k = binC P op ty cx cy x y h tab k := by
  unfold binCX binC
  simp only [eqBinX_eq L]
  all_goals rfl
theorem keyEqX_eq (L : Law S eT eH) (kt : TypeId) (x y : CV) (h : Hp) (tab : Tab) (k : Bool → Bool) : keyEqX S P kt x y (eH h) tab k = keyEq P kt x y h tab k := by
  unfold keyEqX keyEq
  simp only [eqCX_eq L]
  all_goals rfl
theorem findMX_eq (L : Law S eT eH) (kt : TypeId) (h : Hp) (tab : Tab) (key : CV) (es : List (CV × CV × Nat)) : ∀ (k : Option CV → Bool), findMX S P kt (eH h) tab key es k = findM P kt h tab key es k := by
  induction es with
  | nil => intro k; rfl
  | cons e es ih =>
    intro k
    show keyEqX S P kt key e.1 (eH h) tab (fun b => match b with | true => k (some e.2.1) | false => findMX S P kt (eH h) tab key es k) =
      keyEq P kt key e.1 h tab fun b => match b with | true => k (some e.2.1) | false => findM P kt h tab key es k
    rw [keyEqX_eq L, ih]
theorem putMX_eq (L : Law S eT eH) (kt : TypeId) (h : Hp) (tab : Tab) (key v : CV) (clock : Nat) (es : List (CV × CV × Nat)) : ∀ (k : List (CV × CV × Nat) → Bool → Bool), putMX S P kt (eH h) tab key v clock es k = putM P kt h tab key v clock es k := by
  induction es with
  | nil => intro k; rfl
  | cons e es ih =>
    intro k
    show keyEqX S P kt key e.1 (eH h) tab (fun b => match b with | true => k ((key, v, e.2.2) :: es) false | false => putMX S P kt (eH h) tab key v clock es fun es' new => k (e :: es') new) =
      keyEq P kt key e.1 h tab fun b => match b with | true => k ((key, v, e.2.2) :: es) false | false => putM P kt h tab key v clock es fun es' new => k (e :: es') new
    rw [keyEqX_eq L, ih]
theorem convCX_eq (L : Law S eT eH) (s d : TypeId) (x : CV) (h : Hp) (tab : Tab) (nb : Nat) (k : KF) : convCX S P s d x (eH h) tab nb k = convC P s d x h tab nb k := by
  unfold convCX convC
  simp only [withCellsX_eq L]
  all_goals rfl
theorem lenCX_eq (L : Law S eT eH) (ty : TypeId) (v : CV) (h : Hp) (tab : Tab) (k : CV → Tab → Bool) : lenCX S P ty v (eH h) tab k = lenC P ty v h tab k := by
  unfold lenCX lenC
  simp only [L.gH]
  all_goals rfl
theorem floatCX_eq (L : Law S eT eH) (o : Op) (t : Tm) (h : Hp) (tab : Tab) (nb : Nat) (k : KF) : floatCX S P G o (eT t) (eH h) tab nb k = floatC P G o t h tab nb k := by
  unfold floatCX floatC
  simp only [getOX_eq L, getOsX_eq L, optOX_eq L, loadCX_eq L, binCX_eq L, convCX_eq L, lenCX_eq L, L.gH, findMX_eq L]
  all_goals rfl
end
end Go.Ev

namespace Go.Ev
section
variable {T H : Type} {S : Sig T H} {eT : Tm → T} {eH : Hp → H} {P : Program} {G : Nat → Bool}
theorem newBX_eq (L : Law S eT eH) (cb : CB) (m : M) (k : Nat → MX H → Bool) : newBX S cb (eM eH m) k = newB cb m fun b m => k b (eM eH m) := by
  show S.iH cb (eH m.h) m.n (fun h' => forceN (Nat.succ m.n) fun n' => k m.n ⟨h', n', m.tab⟩) = _
  rw [L.iH]; rfl
theorem appendedX_eq (L : Law S eT eH) (str : Bool) (n : Nat) (x : CV) (h : Hp) (k : List CV → Nat → Bool) : appendedX S str n x (eH h) k = appended str n x h k := by
  unfold appendedX appended
  simp only [withCellsX_eq L]
  all_goals rfl
theorem appendCX_eq (L : Law S eT eH) (et : TypeId) (str : Bool) (s x : CV) (m : M) (k : KAX H) : appendCX S P et str s x (eM eH m) k = appendC P et str s x m fun v m => k v (eM eH m) := by
  unfold appendCX appendC
  have e1 : (eM eH m).h = eH m.h := rfl
  have e2 : (eM eH m).n = m.n := rfl
  have e3 : (eM eH m).tab = m.tab := rfl
  have e4 : ∀ h' : Hp, (⟨eH h', m.n, m.tab⟩ : MX H) = eM eH ⟨h', m.n, m.tab⟩ := fun _ => rfl
  simp only [e1, e2, e3, appendedX_eq L, withCellsX_eq L, L.sH, e4, newBX_eq L]
  all_goals rfl
theorem ustrCX_eq (L : Law S eT eH) (e : TypeId) (v : CV) (n : Nat) (m : M) (k : KAX H) : ustrCX S e v n (eM eH m) k = ustrC e v n m fun v m => k v (eM eH m) := by
  unfold ustrCX ustrC
  have e1 : (eM eH m).h = eH m.h := rfl
  have e2 : (eM eH m).n = m.n := rfl
  have e3 : (eM eH m).tab = m.tab := rfl
  simp only [e1, e2, e3, withCellsX_eq L, L.sH]
  all_goals rfl
/-- calls that answer alike -/
def CallEq (eH : Hp → H) (cX : CallX H) (c : CallFn) : Prop := ∀ f args m k, cX f args (eM eH m) k = c f args m fun v m => k v (eM eH m)
theorem actCX_eq (L : Law S eT eH) {cX : CallX H} {c : CallFn} (hc : CallEq eH cX c) (o : Op) (t : Tm) (m : M) (k : KAX H) : actCX S P G cX o (eT t) (eM eH m) k = actC P G c o t m fun v m => k v (eM eH m) := by
  have e1 : (eM eH m).h = eH m.h := rfl
  have e2 : (eM eH m).n = m.n := rfl
  have e3 : (eM eH m).tab = m.tab := rfl
  have hc' : ∀ f args k, cX f args (eM eH m) k = c f args m fun v m => k v (eM eH m) := fun f args k => hc f args m k
  unfold actCX actC
  simp only [getOX_eq L, getOsX_eq L, e1, e2, e3, storeCX_eq L, L.gH, putMX_eq L, L.sH, appendCX_eq L, ustrCX_eq L, hc']
  all_goals rfl
theorem putTX_eq (L : Law S eT eH) (dst : Option Tmp) (v : CV) (t : Tm) (k : T → Bool) : putTX S dst v (eT t) k = putT dst v t fun t => k (eT t) := by
  cases dst with
  | none => rfl
  | some d => exact L.sT v t d k
theorem guardCX_eq (L : Law S eT eH) (ops : Array Oper) (o : Oper) (t : Tm) (k : Bool → Bool) : guardCX S ops o (eT t) k = guardC ops o t k := by
  unfold guardCX guardC
  simp only [L.gT]
  all_goals rfl
theorem operCX_eq (L : Law S eT eH) {rd : Bool} {cX : CallX H} {c : CallFn} (hc : CallEq eH cX c) (ops : Array Oper) (o : Oper) (t : Tm) (d : List DF) (m : M) (k : T → List DF → MX H → Bool) :
    operCX S P G rd cX ops o (eT t) d (eM eH m) k = operC P G rd c ops o t d m fun t d m => k (eT t) d (eM eH m) := by
  have e1 : (eM eH m).h = eH m.h := rfl
  have e2 : (eM eH m).n = m.n := rfl
  have e3 : (eM eH m).tab = m.tab := rfl
  have e4 : ∀ tab : Tab, (⟨eH m.h, m.n, tab⟩ : MX H) = eM eH ⟨m.h, m.n, tab⟩ := fun _ => rfl
  unfold operCX operC
  simp only [guardCX_eq L, e1, e2, e3, floatCX_eq L, putTX_eq L, e4, newBX_eq L, getOX_eq L, getOsX_eq L, actCX_eq L hc]
  all_goals rfl
theorem againCX_eq (L : Law S eT eH) (ops : Array Oper) (t : Tm) (m : M) (j : Nat) : againCX S P G ops (eT t) (eM eH m) j = againC P G ops t m j := by
  have e1 : (eM eH m).h = eH m.h := rfl
  have e3 : (eM eH m).tab = m.tab := rfl
  unfold againCX againC
  simp only [guardCX_eq L, L.gT, e1, e3, floatCX_eq L]
  all_goals rfl
theorem resultsCX_eq (L : Law S eT eH) (rs : List ResultVar) (t : Tm) (m : M) : ∀ (k : List CV → Bool), resultsCX S P rs (eT t) (eM eH m) k = resultsC P rs t m k := by
  induction rs with
  | nil => intro k; rfl
  | cons r rs ih =>
    intro k
    cases r with
    | tmp i =>
      show S.gT (eT t) i (fun v => resultsCX S P rs (eT t) (eM eH m) fun vs => k (v :: vs)) = getK t i fun v => resultsC P rs t m fun vs => k (v :: vs)
      rw [L.gT]; simp only [ih]
    | cell a ty =>
      show S.gT (eT t) a (fun v => asPtr v fun b off => loadCX S P ty b off (eH m.h) fun v => resultsCX S P rs (eT t) (eM eH m) fun vs => k (v :: vs)) =
        getK t a fun v => asPtr v fun b off => loadC P ty b off m.h fun v => resultsC P rs t m fun vs => k (v :: vs)
      rw [L.gT]; simp only [ih, loadCX_eq L]
theorem defersCX_eq (L : Law S eT eH) {cX : CallX H} {c : CallFn} (hc : CallEq eH cX c) (ds : List DF) : ∀ (m : M) (k : MX H → Bool), defersCX S cX ds (eM eH m) k = defersC c ds m fun m => k (eM eH m) := by
  induction ds with
  | nil => intro m k; rfl
  | cons d ds ih =>
    intro m k
    cases d with
    | call f args cap =>
      show cX f (args ++ cap) (eM eH m) (fun _ m => defersCX S cX ds m k) = c f (args ++ cap) m fun _ m => defersC c ds m fun m => k (eM eH m)
      rw [hc]; simp only [ih]
    | coll b =>
      show S.gH (eH m.h) b (fun cb => match cb with
        | .dfd true => S.sH (.dfd false) (eH m.h) b fun h' => defersCX S cX ds ⟨h', m.n, m.tab⟩ k
        | _ => false) = getK m.h b fun cb => match cb with
        | .dfd true => setK (.dfd false) m.h b fun h' => defersC c ds ⟨h', m.n, m.tab⟩ fun m => k (eM eH m)
        | _ => false
      have ih' : ∀ h', defersCX S cX ds ⟨eH h', m.n, m.tab⟩ k = defersC c ds ⟨h', m.n, m.tab⟩ fun m => k (eM eH m) := fun h' => ih ⟨h', m.n, m.tab⟩ k
      rw [L.gH]; simp only [L.sH, ih']
theorem setPsX_eq (L : Law S eT eH) (ps : List Nat) : ∀ (as : List CV) (t : Tm) (k : T → Bool), setPsX S ps as (eT t) k = setPs ps as t fun t => k (eT t) := by
  induction ps with
  | nil => intro as t k; cases as <;> rfl
  | cons p ps ih =>
    intro as t k
    cases as with
    | nil => rfl
    | cons a as =>
      show S.sT a (eT t) p (fun t' => setPsX S ps as t' k) = setK a t p fun t' => setPs ps as t' fun t => k (eT t)
      rw [L.sT]; simp only [ih]
theorem endRdX_eq (L : Law S eT eH) (l : Nat) (x : CX) (m : M) (k : KAX H) : endRdX S l x (eM eH m) k = endRd l x m fun v m => k v (eM eH m) := by
  have e1 : (eM eH m).h = eH m.h := rfl
  have e2 : (eM eH m).n = m.n := rfl
  have e3 : (eM eH m).tab = m.tab := rfl
  unfold endRdX endRd
  simp only [e1, e2, e3, L.gH, L.sH]
  all_goals rfl
/-- the plain form of rangeX -/
noncomputable def rangeP (P : Program) (G : Nat → Bool) (fn : FuncId) (call : CallFn) (f : Operand) (ps : Array Tmp) (a b : Code) (t : Tm) (d : List DF) (m : M) (k : KX) : Bool := getO G f t fun fv => match fv with
  | .fn f first cap => match f with
    | .func f => isTrue (match P.funcs[f]? with | some fn => fn.body.isSome | none => false) <| newB (.dfd true) m fun db m => newB (.loop .ready none fn t ps a b db) m fun l m =>
      call (.func f) (first ++ [.yld l] ++ cap) m fun _ m => getK m.h l fun cb => match cb with
        | .loop st pend fn t' ps a b db' => match st with
          | .busy => false
          | _ => setK (.loop .exhausted pend fn t' ps a b db') m.h l fun h' => pendK pend fun x => k x t (.coll db :: d) ⟨h', m.n, m.tab⟩
        | _ => false
    | _ => false
  | _ => false
noncomputable def yieldP (cd : FuncId → Code → EvCode) (l : Nat) (args : List CV) (m : M) (k : KA) : Bool := getK m.h l fun cb => match cb with
  | .loop st _ fn tm ps assign body _ => match st with
    | .ready => setPs ps.toList args tm fun t => cd fn assign t [] m fun x t d m => match x with
      | .normal => getK m.h l fun cb => match cb with
        | .loop st pend fn' tm' ps' a' b' db' => match st with
          | .ready => setK (.loop .busy pend fn' tm' ps' a' b' db') m.h l fun h' => cd fn body t d ⟨h', m.n, m.tab⟩ fun x _ _ m => endRd l x m k
          | _ => false
        | _ => false
      | _ => false
    | _ => false
  | _ => false
theorem rangeX_eq (L : Law S eT eH) (fn : FuncId) {cX : CallX H} {c : CallFn} (hc : CallEq eH cX c) (f : Operand) (ps : Array Tmp) (a b : Code) (t : Tm) (d : List DF) (m : M) (k : KXX T H) :
    rangeX S P G fn cX f ps a b (eT t) d (eM eH m) k = rangeP P G fn c f ps a b t d m fun x t d m => k x (eT t) d (eM eH m) := by
  have hc' : ∀ f args m k, cX f args (eM eH m) k = c f args m fun v m => k v (eM eH m) := hc
  have e1 : ∀ m, (eM eH m).h = eH m.h := fun _ => rfl
  have e2 : ∀ m, (eM eH m).n = m.n := fun _ => rfl
  have e3 : ∀ m, (eM eH m).tab = m.tab := fun _ => rfl
  unfold rangeX rangeP
  simp only [getOX_eq L, newBX_eq L, L.dT, hc', e1, e2, e3, L.gH, L.sH]
  all_goals rfl
/-- codes that go alike -/
def CodeEq (eT : Tm → T) (eH : Hp → H) (cdX : CodeX T H) (cd : EvCode) : Prop := ∀ t d m k, cdX (eT t) d (eM eH m) k = cd t d m fun x t d m => k x (eT t) d (eM eH m)
theorem yieldX_eq (L : Law S eT eH) {cdX : FuncId → Code → CodeX T H} {cd : FuncId → Code → EvCode} (hc : ∀ f c, CodeEq eT eH (cdX f c) (cd f c)) (l : Nat) (args : List CV) (m : M) (k : KAX H) :
    yieldX S cdX l args (eM eH m) k = yieldP cd l args m fun v m => k v (eM eH m) := by
  have hc' : ∀ f c t d m k, cdX f c (eT t) d (eM eH m) k = cd f c t d m fun x t d m => k x (eT t) d (eM eH m) := fun f c => hc f c
  have e1 : ∀ m, (eM eH m).h = eH m.h := fun _ => rfl
  have e2 : ∀ m, (eM eH m).n = m.n := fun _ => rfl
  have e3 : ∀ m, (eM eH m).tab = m.tab := fun _ => rfl
  have e4 : ∀ (m : M) (h' : Hp), (⟨eH h', m.n, m.tab⟩ : MX H) = eM eH ⟨h', m.n, m.tab⟩ := fun _ _ => rfl
  unfold yieldX yieldP
  simp only [L.nT, setPsX_eq L, hc', e1, e2, e3, L.gH, L.sH, e4, endRdX_eq L]
  all_goals rfl
end
end Go.Ev

namespace Go.Ev
noncomputable section

/-! Staging -/
inductive Bx (α : Type) where
  | mk (f : α)
def Bx.go {α : Type} (b : Bx α) : α := Bx.rec (motive := fun _ => α) (fun f => f) b
/-- worked out at once -/
def Bx.opened {α β : Type} (B : Bx α) (f : α → Bx β) : Bx β := Bx.rec (motive := fun _ => Bx β) f B
theorem go_mk {α : Type} (f : α) : (Bx.mk f).go = f := rfl
theorem opened_eq {α β : Type} (B : Bx α) (f : α → Bx β) : B.opened f = f B.go := by cases B; rfl
def fN {β : Type} (z : β) (n : Nat) (k : Nat → β) : β := Nat.rec (motive := fun _ => β) z (fun p _ => k p) (Nat.succ n)
theorem fN_eq {β : Type} (z : β) (n : Nat) (k : Nat → β) : fN z n k = k n := rfl
def bIf (b : Bool) (x y : Bool) : Bool := Bool.rec (motive := fun _ => Bool) y x b
theorem bIf_eq (b x y : Bool) : bIf b x y = (match b with | true => x | false => y) := by cases b <;> rfl

/-! Values, as functions -/
def V : Type := Bool → Bool → (IntKind → Nat → Bool) → (Nat → Nat → Bool) → (Nat → Nat → Bool) → (Nat → Nat → Nat → Nat → Bool) → (List CV → Bool) → (CV → Bool) → Bool
def vTrue : V := fun tt _ _ _ _ _ _ _ => tt
def vFalse : V := fun _ ff _ _ _ _ _ _ => ff
def vInt (k : IntKind) (n : Nat) : V := fun _ _ fi _ _ _ _ _ => fi k n
def vStr (l c : Nat) : V := fun _ _ _ fs _ _ _ _ => fs l c
def vPtr (b o : Nat) : V := fun _ _ _ _ fp _ _ _ => fp b o
def vSl (b o l c : Nat) : V := fun _ _ _ _ _ fl _ _ => fl b o l c
def vAgg (l : List CV) : V := fun _ _ _ _ _ _ fa _ => fa l
def vOth (c : CV) : V := fun _ _ _ _ _ _ _ fo => fo c
def encV (v : CV) : V := fun tt ff fi fs fp fl fa fo => CV.rec (motive_1 := fun _ => Bool) (motive_2 := fun _ => PUnit.{1}) (fun b => Bool.rec (motive := fun _ => Bool) ff tt b) (fun k n => Int.rec (motive := fun _ => Bool) (fun m => fi k m) (fun m => fo (.int k (.negSucc m))) n) (fun l c => fs l c) (fo .ptr0) (fun b o => fp b o) (fo .sl0) (fun b o l c => fl b o l c) (fo .slE) (fo .map0) (fun x0 => fo (.map x0)) (fun x0 x1 x2 _ _ => fo (.fn x0 x1 x2)) (fun x0 => fo (.yld x0)) (fo .fn0) (fun x0 x1 _ => fo (.ifc x0 x1)) (fo .ifc0) (fun cs _ => fa cs) (fun x0 _ => fo (.tup x0)) (fun x0 x1 => fo (.sym x0 x1)) (fun x0 x1 => fo (.ssym x0 x1)) (fun x0 x1 x2 x3 x4 => fo (.symr x0 x1 x2 x3 x4)) (fun x0 x1 x2 => fo (.lin x0 x1 x2)) (fun x0 => fo (.lstr x0)) .unit (fun _ _ _ _ => .unit) v
def decV (v : V) (k : CV → Bool) : Bool := v (k (.bool true)) (k (.bool false)) (fun kd n => k (.int kd (.ofNat n))) (fun l c => k (.str l c)) (fun b o => k (.ptr b o)) (fun b o l c => k (.sl b o l c)) (fun l => k (.agg l)) k
theorem decV_enc (c : CV) (k : CV → Bool) : decV (encV c) k = k c := by
  cases c <;> try rfl
  · rename_i b; cases b <;> rfl
  · rename_i k n; cases n <;> rfl

/-! Tries, as functions -/
def TS (α β : Type) (d : Nat) : Type := Nat.rec (motive := fun _ => Type) (Tr α) (fun _ T => Bool → (β → T → T → T → T → Bool) → Bool) d
section
variable {α β : Type}
def nodeS {d : Nat} (v : β) (a b c e : TS α β d) : TS α β (d + 1) := fun _ s => s v a b c e
def nilS (d : Nat) : TS α β d := Nat.rec (motive := fun d => TS α β d) (.mk .nil) (fun _ _ => fun n _ => n) d
/-- an empty trie, worked out -/
def nilX (d : Nat) : Bx (TS α β d) := Nat.rec (motive := fun d => Bx (TS α β d)) (.mk (.mk .nil)) (fun _ _ => .mk fun n _ => n) d
theorem nilX_go (d : Nat) : (nilX d : Bx (TS α β d)).go = nilS d := by cases d <;> rfl
variable (f : α → β)
def encT (d : Nat) : Tr α → TS α β d := Nat.rec (motive := fun d => Tr α → TS α β d) (fun t => t)
  (fun _ ih t => fun n s => Nd.rec (motive := fun _ => Bool) n (fun v a b c e => s (f v) (ih a) (ih b) (ih c) (ih e)) t.1) d
theorem nilS_eq (d : Nat) : (nilS d : TS α β d) = encT f d (.mk .nil) := by cases d <;> rfl
theorem nodeS_eq (d : Nat) (v : α) (a b c e : Tr α) : nodeS (f v) (encT f d a) (encT f d b) (encT f d c) (encT f d e) = encT f (d + 1) (.mk (.node v a b c e)) := rfl
abbrev GetS (α β : Type) (d : Nat) := TS α β d → (β → Bool) → Bool
abbrev PutS (α β : Type) (d : Nat) := TS α β d → β → (TS α β d → Bool) → Bool
def leafG {d : Nat} : Bx (GetS α β (d + 1)) := .mk fun t k => t false ((fun k v _ _ _ _ => k v) k)
def downG0 {d : Nat} (B : Bx (GetS α β d)) : Bx (GetS α β (d + 1)) := B.opened fun B => .mk fun t k => t false ((fun k _ a _ _ _ => B a k) k)
def downG1 {d : Nat} (B : Bx (GetS α β d)) : Bx (GetS α β (d + 1)) := B.opened fun B => .mk fun t k => t false ((fun k _ _ a _ _ => B a k) k)
def downG2 {d : Nat} (B : Bx (GetS α β d)) : Bx (GetS α β (d + 1)) := B.opened fun B => .mk fun t k => t false ((fun k _ _ _ a _ => B a k) k)
def downG3 {d : Nat} (B : Bx (GetS α β d)) : Bx (GetS α β (d + 1)) := B.opened fun B => .mk fun t k => t false ((fun k _ _ _ _ a => B a k) k)
def pathG (d : Nat) : Nat → Bx (GetS α β d) := Nat.rec (motive := fun d => Nat → Bx (GetS α β d)) (fun i => .mk fun t k => getK t i fun x => k (f x))
  (fun _ ih i => Nat.rec (motive := fun _ => Bx (GetS α β _)) leafG (fun p _ => fN leafG (Nat.div p 4) fun q => kid (downG0 (ih q)) (downG1 (ih q)) (downG2 (ih q)) (downG3 (ih q)) (Nat.mod p 4)) i) d
def leafP {d : Nat} : Bx (PutS α β (d + 1)) := .mk fun t x k => t false ((fun x k _ a b c e => k fun _ s => s x a b c e) x k)
def downP0 {d : Nat} (B : Bx (PutS α β d)) : Bx (PutS α β (d + 1)) := B.opened fun B => .mk fun t x k => t false ((fun x k v a b c e => B a x ((fun k v b c e a => k fun _ s => s v a b c e) k v b c e)) x k)
def downP1 {d : Nat} (B : Bx (PutS α β d)) : Bx (PutS α β (d + 1)) := B.opened fun B => .mk fun t x k => t false ((fun x k v a b c e => B b x ((fun k v a c e b => k fun _ s => s v a b c e) k v a c e)) x k)
def downP2 {d : Nat} (B : Bx (PutS α β d)) : Bx (PutS α β (d + 1)) := B.opened fun B => .mk fun t x k => t false ((fun x k v a b c e => B c x ((fun k v a b e c => k fun _ s => s v a b c e) k v a b e)) x k)
def downP3 {d : Nat} (B : Bx (PutS α β d)) : Bx (PutS α β (d + 1)) := B.opened fun B => .mk fun t x k => t false ((fun x k v a b c e => B e x ((fun k v a b c e => k fun _ s => s v a b c e) k v a b c)) x k)
variable (g : β → (α → Bool) → Bool)
def pathP (d : Nat) : Nat → Bx (PutS α β d) := Nat.rec (motive := fun d => Nat → Bx (PutS α β d)) (fun i => .mk fun t y k => g y fun x => setK x t i k)
  (fun _ ih i => Nat.rec (motive := fun _ => Bx (PutS α β _)) leafP (fun p _ => fN leafP (Nat.div p 4) fun q => kid (downP0 (ih q)) (downP1 (ih q)) (downP2 (ih q)) (downP3 (ih q)) (Nat.mod p 4)) i) d
def leafI {d : Nat} : Bx (PutS α β (d + 1)) := (nilX d).opened fun z => .mk fun t x k => t (k fun _ s => s x z z z z) (fun _ _ _ _ _ => false)
def pathI (d : Nat) : Nat → Bx (PutS α β d) := Nat.rec (motive := fun d => Nat → Bx (PutS α β d)) (fun i => .mk fun t y k => g y fun x => insK x t i k)
  (fun _ ih i => Nat.rec (motive := fun _ => Bx (PutS α β _)) leafI (fun p _ => fN leafI (Nat.div p 4) fun q => kid (downP0 (ih q)) (downP1 (ih q)) (downP2 (ih q)) (downP3 (ih q)) (Nat.mod p 4)) i) d
def decT (d : Nat) : TS α β d → (Tr α → Bool) → Bool := Nat.rec (motive := fun d => TS α β d → (Tr α → Bool) → Bool) (fun t k => k t)
  (fun _ ih t k => t (k (.mk .nil)) fun v a b c e => g v fun v => ih a fun a => ih b fun b => ih c fun c => ih e fun e => k (.mk (.node v a b c e))) d

theorem pathG_eq (d : Nat) : ∀ (i : Nat) (t : Tr α) (k : β → Bool), (pathG f d i).go (encT f d t) k = getK t i fun x => k (f x) := by
  induction d with
  | zero => intro i t k; rfl
  | succ d ih =>
    intro i t k
    obtain ⟨nd⟩ := t
    cases i with
    | zero => cases nd <;> rfl
    | succ p =>
      have key : pathG (β := β) f (d + 1) (p + 1) = kid (downG0 (pathG f d (p / 4))) (downG1 (pathG f d (p / 4))) (downG2 (pathG f d (p / 4))) (downG3 (pathG f d (p / 4))) (p % 4) := rfl
      rw [key]
      cases nd with
      | nil =>
        rcases (by omega : p % 4 = 0 ∨ p % 4 = 1 ∨ p % 4 = 2 ∨ p % 4 = 3) with g | g | g | g <;> rw [g] <;> simp only [kid, downG0, downG1, downG2, downG3, opened_eq] <;> rfl
      | node v a b c e =>
        have k2 : ∀ k : α → Bool, getK (.mk (.node v a b c e)) (p + 1) k = getK (kid a b c e (p % 4)) (p / 4) k := by
          intro k
          rw [getK_eq, getK_eq, get_node]
        rw [k2]
        rcases (by omega : p % 4 = 0 ∨ p % 4 = 1 ∨ p % 4 = 2 ∨ p % 4 = 3) with g | g | g | g <;> rw [g] <;> simp only [kid, downG0, downG1, downG2, downG3, opened_eq]
        · exact ih _ a k
        · exact ih _ b k
        · exact ih _ c k
        · exact ih _ e k
end
section
variable {α β : Type}
theorem setF_two (x : α) : ∀ (f g n : Nat) (t : Tr α) (k : Tr α → Bool), n < f → n < g → setF f t x n k = setF g t x n k := by
  intro f
  induction f with
  | zero => intro g n t k h; omega
  | succ f ih =>
    intro g n t k h hg
    obtain ⟨g, rfl⟩ : ∃ g', g = g' + 1 := ⟨g - 1, by omega⟩
    obtain ⟨nd⟩ := t
    cases nd with
    | nil => rfl
    | node v a b c d =>
      cases n with
      | zero => rfl
      | succ p =>
        have e : ∀ f, setF (f + 1) (.mk (.node v a b c d)) x (p + 1) k = kid (fun a b c d v x i ih k => ih a x i (fun a => k (.mk (.node v a b c d)))) (fun a b c d v x i ih k => ih b x i (fun b => k (.mk (.node v a b c d))))
            (fun a b c d v x i ih k => ih c x i (fun c => k (.mk (.node v a b c d)))) (fun a b c d v x i ih k => ih d x i (fun d => k (.mk (.node v a b c d)))) (p % 4) a b c d v x (p / 4) (setF f) k := fun _ => rfl
        rw [e, e]
        rcases (by omega : p % 4 = 0 ∨ p % 4 = 1 ∨ p % 4 = 2 ∨ p % 4 = 3) with hp | hp | hp | hp <;> rw [hp] <;> exact ih g (p / 4) _ _ (by omega) (by omega)
theorem setK_node (x v : α) (a b c d : Tr α) (p : Nat) (k : Tr α → Bool) : setK x (.mk (.node v a b c d)) (p + 1) k =
    kid (setK x a (p / 4) fun a => k (.mk (.node v a b c d))) (setK x b (p / 4) fun b => k (.mk (.node v a b c d))) (setK x c (p / 4) fun c => k (.mk (.node v a b c d))) (setK x d (p / 4) fun d => k (.mk (.node v a b c d))) (p % 4) := by
  have e : setK x (.mk (.node v a b c d)) (p + 1) k = kid (fun a b c d v x i ih k => ih a x i (fun a => k (.mk (.node v a b c d)))) (fun a b c d v x i ih k => ih b x i (fun b => k (.mk (.node v a b c d))))
      (fun a b c d v x i ih k => ih c x i (fun c => k (.mk (.node v a b c d)))) (fun a b c d v x i ih k => ih d x i (fun d => k (.mk (.node v a b c d)))) (p % 4) a b c d v x (p / 4) (setF (p + 1)) k := rfl
  rw [e]
  rcases (by omega : p % 4 = 0 ∨ p % 4 = 1 ∨ p % 4 = 2 ∨ p % 4 = 3) with g | g | g | g <;> rw [g] <;> exact setF_two x (p + 1) (p / 4 + 1) (p / 4) _ _ (by omega) (by omega)
theorem insF_two (x : α) : ∀ (f g n : Nat) (t : Tr α) (k : Tr α → Bool), n < f → n < g → insF f t x n k = insF g t x n k := by
  intro f
  induction f with
  | zero => intro g n t k h; omega
  | succ f ih =>
    intro g n t k h hg
    obtain ⟨g, rfl⟩ : ∃ g', g = g' + 1 := ⟨g - 1, by omega⟩
    obtain ⟨nd⟩ := t
    cases nd with
    | nil => cases n <;> rfl
    | node v a b c d =>
      cases n with
      | zero => rfl
      | succ p =>
        have e : ∀ f, insF (f + 1) (.mk (.node v a b c d)) x (p + 1) k = kid (fun a b c d v x i ih k => ih a x i (fun a => k (.mk (.node v a b c d)))) (fun a b c d v x i ih k => ih b x i (fun b => k (.mk (.node v a b c d))))
            (fun a b c d v x i ih k => ih c x i (fun c => k (.mk (.node v a b c d)))) (fun a b c d v x i ih k => ih d x i (fun d => k (.mk (.node v a b c d)))) (p % 4) a b c d v x (p / 4) (insF f) k := fun _ => rfl
        rw [e, e]
        rcases (by omega : p % 4 = 0 ∨ p % 4 = 1 ∨ p % 4 = 2 ∨ p % 4 = 3) with hp | hp | hp | hp <;> rw [hp] <;> exact ih g (p / 4) _ _ (by omega) (by omega)
theorem insK_node (x v : α) (a b c d : Tr α) (p : Nat) (k : Tr α → Bool) : insK x (.mk (.node v a b c d)) (p + 1) k =
    kid (insK x a (p / 4) fun a => k (.mk (.node v a b c d))) (insK x b (p / 4) fun b => k (.mk (.node v a b c d))) (insK x c (p / 4) fun c => k (.mk (.node v a b c d))) (insK x d (p / 4) fun d => k (.mk (.node v a b c d))) (p % 4) := by
  have e : insK x (.mk (.node v a b c d)) (p + 1) k = kid (fun a b c d v x i ih k => ih a x i (fun a => k (.mk (.node v a b c d)))) (fun a b c d v x i ih k => ih b x i (fun b => k (.mk (.node v a b c d))))
      (fun a b c d v x i ih k => ih c x i (fun c => k (.mk (.node v a b c d)))) (fun a b c d v x i ih k => ih d x i (fun d => k (.mk (.node v a b c d)))) (p % 4) a b c d v x (p / 4) (insF (p + 1)) k := rfl
  rw [e]
  rcases (by omega : p % 4 = 0 ∨ p % 4 = 1 ∨ p % 4 = 2 ∨ p % 4 = 3) with g | g | g | g <;> rw [g] <;> exact insF_two x (p + 1) (p / 4 + 1) (p / 4) _ _ (by omega) (by omega)

variable {f : α → β} {g : β → (α → Bool) → Bool}
theorem pathP_eq (hg : ∀ x k, g (f x) k = k x) (d : Nat) : ∀ (i : Nat) (x : α) (t : Tr α) (k : TS α β d → Bool), (pathP g d i).go (encT f d t) (f x) k = setK x t i fun t' => k (encT f d t') := by
  induction d with
  | zero => intro i x t k; exact hg x _
  | succ d ih =>
    intro i x t k
    obtain ⟨nd⟩ := t
    cases i with
    | zero => cases nd <;> rfl
    | succ p =>
      have key : pathP g (d + 1) (p + 1) = kid (downP0 (pathP g d (p / 4))) (downP1 (pathP g d (p / 4))) (downP2 (pathP g d (p / 4))) (downP3 (pathP g d (p / 4))) (p % 4) := rfl
      rw [key]
      cases nd with
      | nil =>
        rcases (by omega : p % 4 = 0 ∨ p % 4 = 1 ∨ p % 4 = 2 ∨ p % 4 = 3) with g | g | g | g <;> rw [g] <;> simp only [kid, downP0, downP1, downP2, downP3, opened_eq] <;> rfl
      | node v a b c e =>
        rw [setK_node]
        rcases (by omega : p % 4 = 0 ∨ p % 4 = 1 ∨ p % 4 = 2 ∨ p % 4 = 3) with g | g | g | g <;> rw [g] <;> simp only [kid, downP0, downP1, downP2, downP3, opened_eq]
        · exact ih _ x a _
        · exact ih _ x b _
        · exact ih _ x c _
        · exact ih _ x e _
theorem pathI_eq (hg : ∀ x k, g (f x) k = k x) (d : Nat) : ∀ (i : Nat) (x : α) (t : Tr α) (k : TS α β d → Bool), (pathI g d i).go (encT f d t) (f x) k = insK x t i fun t' => k (encT f d t') := by
  induction d with
  | zero => intro i x t k; exact hg x _
  | succ d ih =>
    intro i x t k
    obtain ⟨nd⟩ := t
    cases i with
    | zero =>
      cases nd with
      | node => rfl
      | nil =>
        have e : pathI g (d + 1) 0 = leafI := rfl
        rw [e]
        simp only [leafI, opened_eq, go_mk, nilX_go, nilS_eq f]
        rfl
    | succ p =>
      have key : pathI g (d + 1) (p + 1) = kid (downP0 (pathI g d (p / 4))) (downP1 (pathI g d (p / 4))) (downP2 (pathI g d (p / 4))) (downP3 (pathI g d (p / 4))) (p % 4) := rfl
      rw [key]
      cases nd with
      | nil =>
        rcases (by omega : p % 4 = 0 ∨ p % 4 = 1 ∨ p % 4 = 2 ∨ p % 4 = 3) with g | g | g | g <;> rw [g] <;> simp only [kid, downP0, downP1, downP2, downP3, opened_eq] <;> rfl
      | node v a b c e =>
        rw [insK_node]
        rcases (by omega : p % 4 = 0 ∨ p % 4 = 1 ∨ p % 4 = 2 ∨ p % 4 = 3) with g | g | g | g <;> rw [g] <;> simp only [kid, downP0, downP1, downP2, downP3, opened_eq]
        · exact ih _ x a _
        · exact ih _ x b _
        · exact ih _ x c _
        · exact ih _ x e _
theorem decT_eq (hg : ∀ x k, g (f x) k = k x) (d : Nat) : ∀ (t : Tr α) (k : Tr α → Bool), decT g d (encT f d t) k = k t := by
  induction d with
  | zero => intros; rfl
  | succ d ih =>
    intro t k
    obtain ⟨nd⟩ := t
    cases nd with
    | nil => rfl
    | node v a b c e =>
      show g (f v) (fun v => decT g d (encT f d a) fun a => decT g d (encT f d b) fun b => decT g d (encT f d c) fun c => decT g d (encT f d e) fun e => k (.mk (.node v a b c e))) = _
      simp only [hg, ih]
end

/-! Frames and heaps, as functions -/
section
variable (D : Nat)
abbrev TmS := TS CV V D
abbrev encM (t : Tm) : TmS D := encT encV D t
def BS : Type := (Nat → Bool → Nat → Nat → TmS D → Bool) → (CB → Bool) → Bool
def bCells (te : Nat) (lo : Bool) (es sz : Nat) (cs : TmS D) : BS D := fun f _ => f te lo es sz cs
def bOth (cb : CB) : BS D := fun _ o => o cb
def encB (cb : CB) : BS D := CB.rec (motive := fun _ => BS D) (bOth D .none) (fun te lo es sz cs => bCells D te lo es sz (encM D cs)) (fun es c => bOth D (.map es c)) (fun a b c d e f g h => bOth D (.loop a b c d e f g h)) (fun b => bOth D (.dfd b)) cb
def decB (b : BS D) (k : CB → Bool) : Bool := b (fun te lo es sz cs => decT decV D cs fun cs => k (.cells te lo es sz cs)) k
theorem decB_enc (cb : CB) (k : CB → Bool) : decB D (encB D cb) k = k cb := by
  cases cb with
  | cells te lo es sz cs =>
    show decT decV D (encT encV D cs) (fun cs => k (.cells te lo es sz cs)) = _
    rw [decT_eq decV_enc]
  | none => rfl
  | map es c => rfl
  | loop a b c d e f g h => rfl
  | dfd b => rfl
abbrev HS := TS CB (BS D) D
abbrev encH (h : Hp) : HS D := encT (encB D) D h
def gT (i : Nat) : Bx (GetS CV V D) := pathG encV D i
def pT (i : Nat) : Bx (PutS CV V D) := pathP decV D i
def iT (i : Nat) : Bx (PutS CV V D) := pathI decV D i
def gH (i : Nat) : Bx (GetS CB (BS D) D) := pathG (encB D) D i
def pH (i : Nat) : Bx (PutS CB (BS D) D) := pathP (decB D) D i
def iH (i : Nat) : Bx (PutS CB (BS D) D) := pathI (decB D) D i
theorem gT_eq (i : Nat) (t : Tm) (k : V → Bool) : (gT D i).go (encM D t) k = getK t i fun x => k (encV x) := pathG_eq encV D i t k
theorem pT_eq (i : Nat) (c : CV) (t : Tm) (k : TmS D → Bool) : (pT D i).go (encM D t) (encV c) k = setK c t i fun t' => k (encM D t') := pathP_eq decV_enc D i c t k
theorem iT_eq (i : Nat) (c : CV) (t : Tm) (k : TmS D → Bool) : (iT D i).go (encM D t) (encV c) k = insK c t i fun t' => k (encM D t') := pathI_eq decV_enc D i c t k
theorem gH_eq (i : Nat) (h : Hp) (k : BS D → Bool) : (gH D i).go (encH D h) k = getK h i fun x => k (encB D x) := pathG_eq (encB D) D i h k
theorem pH_eq (i : Nat) (c : CB) (h : Hp) (k : HS D → Bool) : (pH D i).go (encH D h) (encB D c) k = setK c h i fun t' => k (encH D t') := pathP_eq (decB_enc D) D i c h k
theorem iH_eq (i : Nat) (c : CB) (h : Hp) (k : HS D → Bool) : (iH D i).go (encH D h) (encB D c) k = insK c h i fun t' => k (encH D t') := pathI_eq (decB_enc D) D i c h k
def scott : Sig (TmS D) (HS D) where
  gT := fun t i k => (gT D i).go t fun v => decV v k
  sT := fun c t i k => (pT D i).go t (encV c) k
  gH := fun h i k => (gH D i).go h fun b => decB D b k
  sH := fun cb h i k => (pH D i).go h (encB D cb) k
  iH := fun cb h i k => (iH D i).go h (encB D cb) k
  dT := fun t k => decT decV D t k
  nT := encM D
theorem law : Law (scott D) (encM D) (encH D) where
  gT := fun t i k => by show (gT D i).go (encM D t) (fun v => decV v k) = _; rw [gT_eq]; simp only [decV_enc]
  sT := fun c t i k => pT_eq D i c t k
  gH := fun h b k => by show (gH D b).go (encH D h) (fun v => decB D v k) = _; rw [gH_eq]; simp only [decB_enc D]
  sH := fun cb h b k => pH_eq D b cb h k
  iH := fun cb h b k => iH_eq D b cb h k
  dT := fun t k => decT_eq decV_enc D t k
  nT := fun _ => rfl
end
end
end Go.Ev

namespace Go.Ev
noncomputable section

abbrev CallS (D : Nat) := Fn → List V → Tab → HS D → Nat → (V → Tab → HS D → Nat → Bool) → Bool
inductive Cx (D : Nat) where
  | mk (call : CallS D) (d : List DF) (tab : Tab)
abbrev KO (D : Nat) := Cx D → TmS D → HS D → Nat → Bool
abbrev OpF (D : Nat) := Cx D → TmS D → HS D → Nat → KO D → Bool
abbrev VK (D : Nat) := Cx D → TmS D → HS D → Nat → KO D → V → Bool
abbrev GetV (D : Nat) := TmS D → (V → Bool) → Bool
abbrev PutV (D : Nat) := TmS D → V → (TmS D → Bool) → Bool
def encVs (l : List CV) : List V := List.rec (motive := fun _ => List V) [] (fun c _ ih => encV c :: ih) l
def decVs (l : List V) : (List CV → Bool) → Bool := List.rec (motive := fun _ => (List CV → Bool) → Bool) (fun k => k []) (fun v _ ih k => decV v fun c => ih fun cs => k (c :: cs)) l

/-! Handlers that fail -/
def fI : IntKind → Nat → Bool := fun _ _ => false
def fS : Nat → Nat → Bool := fun _ _ => false
def fL : Nat → Nat → Nat → Nat → Bool := fun _ _ _ _ => false
def fA : List CV → Bool := fun _ => false
def fO : CV → Bool := fun _ => false
def fC : CB → Bool := fun _ => false
def vUndef : V := vOth (.tup [])

/-! Views of the rarer values -/
/-- a tuple? -/
def tupB (v : CV) (y n : Bool) : Bool := CV.rec (motive_1 := fun _ => Bool) (motive_2 := fun _ => PUnit.{1}) (fun _ => n) (fun _ _ => n) (fun _ _ => n) n (fun _ _ => n) n (fun _ _ _ _ => n) n n (fun _ => n) (fun _ _ _ _ _ => n) (fun _ => n) n (fun _ _ _ => n) n (fun _ _ => n) (fun _ _ => y) (fun _ _ => n) (fun _ _ => n) (fun _ _ _ _ _ => n) (fun _ _ _ => n) (fun _ => n) .unit (fun _ _ _ _ => .unit) v
def tupL (v : CV) (k : List CV → Bool) : Bool := CV.rec (motive_1 := fun _ => Bool) (motive_2 := fun _ => PUnit.{1}) (fun _ => false) (fun _ _ => false) (fun _ _ => false) false (fun _ _ => false) false (fun _ _ _ _ => false) false false (fun _ => false) (fun _ _ _ _ _ => false) (fun _ => false) false (fun _ _ _ => false) false (fun _ _ => false) (fun x0 _ => k x0) (fun _ _ => false) (fun _ _ => false) (fun _ _ _ _ _ => false) (fun _ _ _ => false) (fun _ => false) .unit (fun _ _ _ _ => .unit) v
/-- no pointer? -/
def nilB (v : CV) (y n : Bool) : Bool := CV.rec (motive_1 := fun _ => Bool) (motive_2 := fun _ => PUnit.{1}) (fun _ => n) (fun _ _ => n) (fun _ _ => n) y (fun _ _ => n) n (fun _ _ _ _ => n) n n (fun _ => n) (fun _ _ _ _ _ => n) (fun _ => n) n (fun _ _ _ => n) n (fun _ _ => n) (fun _ _ => n) (fun _ _ => n) (fun _ _ => n) (fun _ _ _ _ _ => n) (fun _ _ _ => n) (fun _ => n) .unit (fun _ _ _ _ => .unit) v
def sl0B (v : CV) (y n : Bool) : Bool := CV.rec (motive_1 := fun _ => Bool) (motive_2 := fun _ => PUnit.{1}) (fun _ => n) (fun _ _ => n) (fun _ _ => n) n (fun _ _ => n) y (fun _ _ _ _ => n) n n (fun _ => n) (fun _ _ _ _ _ => n) (fun _ => n) n (fun _ _ _ => n) n (fun _ _ => n) (fun _ _ => n) (fun _ _ => n) (fun _ _ => n) (fun _ _ _ _ _ => n) (fun _ _ _ => n) (fun _ => n) .unit (fun _ _ _ _ => .unit) v
/-- a value, laid as a function -/
def encK (v : CV) (k : V → Bool) : Bool := CV.rec (motive_1 := fun _ => Bool) (motive_2 := fun _ => PUnit.{1}) (fun x0 => Bool.rec (motive := fun _ => Bool) (k vFalse) (k vTrue) x0) (fun x0 x1 => Int.rec (motive := fun _ => Bool) (fun m => k (vInt x0 m)) (fun m => k (vOth (.int x0 (.negSucc m)))) x1) (fun x0 x1 => k (vStr x0 x1)) (k (vOth .ptr0)) (fun x0 x1 => k (vPtr x0 x1)) (k (vOth .sl0)) (fun x0 x1 x2 x3 => k (vSl x0 x1 x2 x3)) (k (vOth .slE)) (k (vOth .map0)) (fun x0 => k (vOth (.map x0))) (fun x0 x1 x2 _ _ => k (vOth (.fn x0 x1 x2))) (fun x0 => k (vOth (.yld x0))) (k (vOth .fn0)) (fun x0 x1 _ => k (vOth (.ifc x0 x1))) (k (vOth .ifc0)) (fun x0 _ => k (vAgg x0)) (fun x0 _ => k (vOth (.tup x0))) (fun x0 x1 => k (vOth (.sym x0 x1))) (fun x0 x1 => k (vOth (.ssym x0 x1))) (fun x0 x1 x2 x3 x4 => k (vOth (.symr x0 x1 x2 x3 x4))) (fun x0 x1 x2 => k (vOth (.lin x0 x1 x2))) (fun x0 => k (vOth (.lstr x0))) .unit (fun _ _ _ _ => .unit) v
/-- the same, of one cell -/
def encOne (v : CV) (k : V → Bool) : Bool := CV.rec (motive_1 := fun _ => Bool) (motive_2 := fun _ => PUnit.{1}) (fun x0 => Bool.rec (motive := fun _ => Bool) (k vFalse) (k vTrue) x0) (fun x0 x1 => Int.rec (motive := fun _ => Bool) (fun m => k (vInt x0 m)) (fun m => k (vOth (.int x0 (.negSucc m)))) x1) (fun x0 x1 => k (vStr x0 x1)) (k (vOth .ptr0)) (fun x0 x1 => k (vPtr x0 x1)) (k (vOth .sl0)) (fun x0 x1 x2 x3 => k (vSl x0 x1 x2 x3)) (k (vOth .slE)) (k (vOth .map0)) (fun x0 => k (vOth (.map x0))) (fun x0 x1 x2 _ _ => k (vOth (.fn x0 x1 x2))) (fun x0 => k (vOth (.yld x0))) (k (vOth .fn0)) (fun x0 x1 _ => k (vOth (.ifc x0 x1))) (k (vOth .ifc0)) (fun _ _ => false) (fun _ _ => false) (fun x0 x1 => k (vOth (.sym x0 x1))) (fun x0 x1 => k (vOth (.ssym x0 x1))) (fun x0 x1 x2 x3 x4 => k (vOth (.symr x0 x1 x2 x3 x4))) (fun x0 x1 x2 => k (vOth (.lin x0 x1 x2))) (fun x0 => k (vOth (.lstr x0))) .unit (fun _ _ _ _ => .unit) v
def ikN (k : IntKind) : Nat := IntKind.rec (motive := fun _ => Nat) 0 1 2 3 4 5 6 7 k
def maxN (k : IntKind) : Nat := IntKind.rec (motive := fun _ => Nat) 127 32767 2147483647 9223372036854775807 255 65535 4294967295 18446744073709551615 k
section
variable {D : Nat}
def unS (call : CallS D) : CallX (HS D) := fun f args m k => call f (encVs args) m.tab m.h m.n fun v tab h n => decV v fun c => k c ⟨h, n, tab⟩

/-! Operands -/
def getC (c : CV) : Bx (GetV D) := match c with
  | .bool b => match b with | true => .mk fun _ k => k vTrue | false => .mk fun _ k => k vFalse
  | .int kd a => match a with
    | .ofNat n => fN (.mk fun _ k => k (vInt kd n)) n fun n => .mk fun _ k => k (vInt kd n)
    | .negSucc n => fN (.mk fun _ k => k (vOth (.int kd (.negSucc n)))) n fun n => .mk fun _ k => k (vOth (.int kd (.negSucc n)))
  | .str l x => fN (.mk fun _ k => k (vStr l x)) l fun l => fN (.mk fun _ k => k (vStr l x)) x fun x => .mk fun _ k => k (vStr l x)
  | c => .mk fun _ k => k (encV c)
def getS (G : Nat → Bool) (x : Operand) : Bx (GetV D) := match x with
  | .tmp i => gT D i
  | .const v => match ofValue v with | some c => getC c | none => .mk fun _ _ => false
  | .global g => match G g with | true => .mk fun _ k => k (vPtr g 0) | false => .mk fun _ _ => false
  | .func f => .mk fun _ k => k (vOth (.fn (.func f) [] []))
def putS (d : Option Tmp) : Bx (PutV D) := match d with
  | none => .mk fun t _ k => k t
  | some d => pT D d
def putW (d : Option Tmp) : Bx (VK D) := (putS d).opened fun W => .mk fun c t h n k v => W t v ((fun c h n k t => k c t h n) c h n k)
def getsS (G : Nat → Bool) (xs : List Operand) : Bx (TmS D → (List V → Bool) → Bool) :=
  lrec (.mk fun _ k => k []) (fun x _ ih => (getS G x).opened fun X => ih.opened fun R => .mk fun t k => X t ((fun t k v => R t ((fun k v vs => k (v :: vs)) k v)) t k)) xs
/-- the values as they are laid in an aggregate -/
def getCs (G : Nat → Bool) (xs : List Operand) : Bx (TmS D → (List CV → Bool) → Bool) :=
  lrec (.mk fun _ k => k []) (fun x _ ih => (getS G x).opened fun X => ih.opened fun R => .mk fun t k => X t ((fun t k v => decV v ((fun t k c => R t ((fun k c cs => k (c :: cs)) k c)) t k)) t k)) xs

/-! Operations -/
def slowS (P : Program) (G : Nat → Bool) (rd : Bool) (ops : Array Oper) (o : Oper) : Bx (OpF D) :=
  .mk fun c t h n k => Cx.rec (motive := fun _ => TmS D → HS D → Nat → KO D → Bool) (fun call d tab t h n k => operCX (scott D) P G rd (unS call) ops o t d ⟨h, n, tab⟩ fun t d m => k (.mk call d m.tab) t m.h m.n) c t h n k
def valS (W : Bx (VK D)) (X : Bx (GetV D)) : Bx (OpF D) := W.opened fun W => X.opened fun X => .mk fun c t h n k => X t (W c t h n k)
def pickS (W : Bx (VK D)) (X A B : Bx (GetV D)) : Bx (OpF D) := W.opened fun W => X.opened fun X => A.opened fun A => B.opened fun B => .mk fun c t h n k =>
  X t ((fun c t h n k v => v (A t (W c t h n k)) (B t (W c t h n k)) fI fS fS fL fA fO) c t h n k)
def notS (W : Bx (VK D)) (X : Bx (GetV D)) : Bx (OpF D) := W.opened fun W => X.opened fun X => .mk fun c t h n k =>
  X t ((fun c t h n k v => v (W c t h n k vFalse) (W c t h n k vTrue) fI fS fS fL fA fO) c t h n k)
/-- what comes at a pointer -/
abbrev PtrF (D : Nat) := Cx D → TmS D → HS D → Nat → KO D → Nat → Nat → Bool
def atPtr (X : Bx (GetV D)) (F : Bx (PtrF D)) : Bx (OpF D) := X.opened fun X => F.opened fun F => .mk fun c t h n k =>
  X t ((fun c t h n k v => v false false fI fS (F c t h n k) fL fA fO) c t h n k)
abbrev BlkF (D : Nat) := Cx D → TmS D → HS D → Nat → KO D → Nat → Nat → Nat → Bool → Nat → Nat → TmS D → Bool
/-- what comes at a block of cells -/
def atBlk (F : Bx (BlkF D)) : Bx (PtrF D) := F.opened fun F => .mk fun c t h n k b i => (gH D b).go h ((fun c t h n k b i bs => bs (F c t h n k b i) fC) c t h n k b i)
def loadS (W : Bx (VK D)) (X : Bx (GetV D)) : Bx (OpF D) := atPtr X (atBlk (W.opened fun W => .mk fun c t h n k _ i _ _ _ _ cs => (gT D i).go cs (W c t h n k)))
def loadNB (n : Nat) : Bx (TmS D → Nat → (List CV → Bool) → Bool) := Nat.rec (motive := fun _ => Bx (TmS D → Nat → (List CV → Bool) → Bool)) (.mk fun _ _ k => k [])
  (fun _ ih => ih.opened fun R => .mk fun cs i k => (gT D i).go cs ((fun cs i k v => decV v ((fun cs i k c => fN false (Nat.succ i) ((fun cs k c i => R cs i ((fun k c l => k (c :: l)) k c)) cs k c)) cs i k)) cs i k)) n
def loadsS (W : Bx (VK D)) (X : Bx (GetV D)) (sz : Nat) : Bx (OpF D) := atPtr X (atBlk (W.opened fun W => (loadNB sz).opened fun R => .mk fun c t h n k _ i _ _ _ _ cs => R cs i ((fun c t h n k l => W c t h n k (vAgg l)) c t h n k)))
def oneS (w : V) (K s : Bool) : Bool := w K K (fun _ _ => K) (fun _ _ => K) (fun _ _ => K) (fun _ _ _ _ => K) (fun _ => s) (fun c => tupB c s K)
/-- a store into one cell -/
def stB (W : Bx (VK D)) (Y : Bx (GetV D)) (S : Bx (OpF D)) : Bx (PtrF D) := W.opened fun W => Y.opened fun Y => .mk fun c t h n k b i =>
  Y t ((fun c t h n k b i w => oneS w ((gH D b).go h ((fun c t h n k b i w bs => bs ((fun c t h n k b i w te lo es sz cs => (pT D i).go cs w
    ((fun c t h n k b te lo es sz cs => (pH D b).go h (bCells D te lo es sz cs) ((fun c t n k h => W c t h n k vUndef) c t n k)) c t h n k b te lo es sz)) c t h n k b i w) fC) c t h n k b i w)) (S.go c t h n k)) c t h n k b i)
def storeS (S : Bx (OpF D)) (W : Bx (VK D)) (X Y : Bx (GetV D)) : Bx (OpF D) := atPtr X (stB W Y S)
def storeNB (n : Nat) : Bx (List CV → TmS D → Nat → (TmS D → Bool) → Bool) := Nat.rec (motive := fun _ => Bx (List CV → TmS D → Nat → (TmS D → Bool) → Bool))
  (.mk fun l cs _ k => List.rec (motive := fun _ => Bool) (k cs) (fun _ _ _ => false) l)
  (fun _ ih => ih.opened fun R => .mk fun l cs i k => List.rec (motive := fun _ => TmS D → Nat → (TmS D → Bool) → Bool) (fun _ _ _ => false)
    (fun v l _ cs i k => encOne v ((fun l cs i k x => (pT D i).go cs x ((fun l i k cs => fN false (Nat.succ i) ((fun l k cs i => R l cs i k) l k cs)) l i k)) l cs i k)) l cs i k) n
def stsB (W : Bx (VK D)) (Y : Bx (GetV D)) (S : Bx (OpF D)) (sz : Nat) : Bx (PtrF D) := W.opened fun W => Y.opened fun Y => (storeNB sz).opened fun R => .mk fun c t h n k b i =>
  Y t ((fun c t h n k b i w => w (S.go c t h n k) (S.go c t h n k) (fun _ _ => S.go c t h n k) (fun _ _ => S.go c t h n k) (fun _ _ => S.go c t h n k) (fun _ _ _ _ => S.go c t h n k)
    ((fun c t h n k b i l => (gH D b).go h ((fun c t h n k b i l bs => bs ((fun c t h n k b i l te lo es sz cs => R l cs i
      ((fun c t h n k b te lo es sz cs => (pH D b).go h (bCells D te lo es sz cs) ((fun c t n k h => W c t h n k vUndef) c t n k)) c t h n k b te lo es sz)) c t h n k b i l) fC) c t h n k b i l)) c t h n k b i)
    (fun _ => S.go c t h n k)) c t h n k b i)
def storesS (S : Bx (OpF D)) (W : Bx (VK D)) (X Y : Bx (GetV D)) (sz : Nat) : Bx (OpF D) := atPtr X (stsB W Y S sz)
/-- numbers -/
abbrev NatF := IntKind → Nat → Nat → (V → Bool) → Bool → Bool
def wrapN (kd : IntKind) (k : V → Bool) (s : Bool) (r : Nat) : Bool := bIf (Nat.ble r (maxN kd)) (k (vInt kd r)) s
def addN : Bx NatF := .mk fun kd a b k s => fN false (Nat.add a b) (wrapN kd k s)
def subN : Bx NatF := .mk fun kd a b k s => bIf (Nat.ble b a) (fN false (Nat.sub a b) (wrapN kd k s)) s
def mulN : Bx NatF := .mk fun kd a b k s => fN false (Nat.mul a b) (wrapN kd k s)
def quoN : Bx NatF := .mk fun kd a b k s => bIf (Nat.ble 1 b) (fN false (Nat.div a b) (wrapN kd k s)) s
def remN : Bx NatF := .mk fun kd a b k s => bIf (Nat.ble 1 b) (fN false (Nat.mod a b) ((fun kd k r => k (vInt kd r)) kd k)) s
def eqlN : Bx NatF := .mk fun _ a b k _ => bIf (Nat.beq a b) (k vTrue) (k vFalse)
def neqN : Bx NatF := .mk fun _ a b k _ => bIf (Nat.beq a b) (k vFalse) (k vTrue)
def lssN : Bx NatF := .mk fun _ a b k _ => bIf (Nat.ble b a) (k vFalse) (k vTrue)
def leqN : Bx NatF := .mk fun _ a b k _ => bIf (Nat.ble a b) (k vTrue) (k vFalse)
def gtrN : Bx NatF := .mk fun _ a b k _ => bIf (Nat.ble a b) (k vFalse) (k vTrue)
def geqN : Bx NatF := .mk fun _ a b k _ => bIf (Nat.ble b a) (k vTrue) (k vFalse)
def natOp (op : BinOp) : Option (Bx NatF) := match op with
  | .add => some addN | .sub => some subN | .mul => some mulN | .quo => some quoN | .rem => some remN
  | .eql => some eqlN | .neq => some neqN | .lss => some lssN | .leq => some leqN | .gtr => some gtrN | .geq => some geqN
  | _ => none
abbrev StrF := Nat → Nat → Nat → Nat → (V → Bool) → Bool → Bool
def addT : Bx StrF := .mk fun l c l' c' k s => fN false (Nat.add l l') ((fun c l' c' k s m => bIf (Nat.ble m 1000000) (fN false (Nat.add (Nat.mul c (Nat.pow 256 l')) c') ((fun m k x => k (vStr m x)) m k)) s) c l' c' k s)
def eqlT : Bx StrF := .mk fun l c l' c' k _ => bIf (Nat.beq l l') (bIf (Nat.beq c c') (k vTrue) (k vFalse)) (k vFalse)
def neqT : Bx StrF := .mk fun l c l' c' k _ => bIf (Nat.beq l l') (bIf (Nat.beq c c') (k vFalse) (k vTrue)) (k vTrue)
def strOpS (op : BinOp) : Option (Bx StrF) := match op with
  | .add => some addT | .eql => some eqlT | .neq => some neqT
  | _ => none
def binNS (S : Bx (OpF D)) (W : Bx (VK D)) (X Y : Bx (GetV D)) (F : Bx NatF) : Bx (OpF D) := W.opened fun W => X.opened fun X => Y.opened fun Y => F.opened fun F => .mk fun c t h n k =>
  X t ((fun c t h n k v => v (S.go c t h n k) (S.go c t h n k)
    ((fun c t h n k kd a => Y t ((fun c t h n k kd a w => w (S.go c t h n k) (S.go c t h n k)
      ((fun c t h n k kd a kd' b => bIf (Nat.beq (ikN kd) (ikN kd')) (F kd a b (W c t h n k) (S.go c t h n k)) (S.go c t h n k)) c t h n k kd a)
      (fun _ _ => S.go c t h n k) (fun _ _ => S.go c t h n k) (fun _ _ _ _ => S.go c t h n k) (fun _ => S.go c t h n k) (fun _ => S.go c t h n k)) c t h n k kd a)) c t h n k)
    (fun _ _ => S.go c t h n k) (fun _ _ => S.go c t h n k) (fun _ _ _ _ => S.go c t h n k) (fun _ => S.go c t h n k) (fun _ => S.go c t h n k)) c t h n k)
def binTS (S : Bx (OpF D)) (W : Bx (VK D)) (X Y : Bx (GetV D)) (F : Bx StrF) : Bx (OpF D) := W.opened fun W => X.opened fun X => Y.opened fun Y => F.opened fun F => .mk fun c t h n k =>
  X t ((fun c t h n k v => v (S.go c t h n k) (S.go c t h n k) (fun _ _ => S.go c t h n k)
    ((fun c t h n k l x => Y t ((fun c t h n k l x w => w (S.go c t h n k) (S.go c t h n k) (fun _ _ => S.go c t h n k)
      ((fun c t h n k l x l' x' => F l x l' x' (W c t h n k) (S.go c t h n k)) c t h n k l x)
      (fun _ _ => S.go c t h n k) (fun _ _ _ _ => S.go c t h n k) (fun _ => S.go c t h n k) (fun _ => S.go c t h n k)) c t h n k l x)) c t h n k)
    (fun _ _ => S.go c t h n k) (fun _ _ _ _ => S.go c t h n k) (fun _ => S.go c t h n k) (fun _ => S.go c t h n k)) c t h n k)
/-- a pointer against none -/
def binPS (S : Bx (OpF D)) (W : Bx (VK D)) (X Y : Bx (GetV D)) (same other : V) : Bx (OpF D) := W.opened fun W => X.opened fun X => Y.opened fun Y => .mk fun c t h n k =>
  X t ((fun c t h n k v => v (S.go c t h n k) (S.go c t h n k) (fun _ _ => S.go c t h n k) (fun _ _ => S.go c t h n k)
    ((fun c t h n k _ _ => Y t ((fun c t h n k w => w (S.go c t h n k) (S.go c t h n k) (fun _ _ => S.go c t h n k) (fun _ _ => S.go c t h n k) (fun _ _ => S.go c t h n k) (fun _ _ _ _ => S.go c t h n k) (fun _ => S.go c t h n k)
      ((fun c t h n k cv => nilB cv (W c t h n k other) (S.go c t h n k)) c t h n k)) c t h n k)) c t h n k)
    (fun _ _ _ _ => S.go c t h n k) (fun _ => S.go c t h n k)
    ((fun c t h n k cv => nilB cv (Y t ((fun c t h n k w => w (S.go c t h n k) (S.go c t h n k) (fun _ _ => S.go c t h n k) (fun _ _ => S.go c t h n k) (fun _ _ => W c t h n k other) (fun _ _ _ _ => S.go c t h n k) (fun _ => S.go c t h n k)
      ((fun c t h n k cv => nilB cv (W c t h n k same) (S.go c t h n k)) c t h n k)) c t h n k)) (S.go c t h n k)) c t h n k)) c t h n k)
def faddrS (W : Bx (VK D)) (X : Bx (GetV D)) (off : Nat) : Bx (OpF D) := atPtr X (W.opened fun W => .mk fun c t h n k b i => fN false (Nat.add i off) ((fun c t h n k b i => W c t h n k (vPtr b i)) c t h n k b))
def nthK (l : List CV) : Nat → (CV → Bool) → Bool :=
  List.rec (motive := fun _ => Nat → (CV → Bool) → Bool) (fun _ _ => false) (fun a _ ih i k => Nat.rec (motive := fun _ => Bool) (k a) (fun j _ => ih j k) i) l
def fieldS (W : Bx (VK D)) (X : Bx (GetV D)) (off : Nat) : Bx (OpF D) := W.opened fun W => X.opened fun X => .mk fun c t h n k => X t ((fun c t h n k v => v false false fI fS fS fL
  ((fun c t h n k l => nthK l off ((fun c t h n k cv => encK cv (W c t h n k)) c t h n k)) c t h n k) fO) c t h n k)
def extrS (W : Bx (VK D)) (X : Bx (GetV D)) (i : Nat) : Bx (OpF D) := W.opened fun W => X.opened fun X => .mk fun c t h n k => X t ((fun c t h n k v => v false false fI fS fS fL fA
  ((fun c t h n k cv => tupL cv ((fun c t h n k l => nthK l i ((fun c t h n k cv => encK cv (W c t h n k)) c t h n k)) c t h n k)) c t h n k)) c t h n k)
/-- two operands, of which the second is a number -/
def nat2 (S : Bx (OpF D)) (Y : Bx (GetV D)) (F : Bx (Cx D → TmS D → HS D → Nat → KO D → Nat → Bool)) : Bx (OpF D) := Y.opened fun Y => F.opened fun F => .mk fun c t h n k =>
  Y t ((fun c t h n k w => w (S.go c t h n k) (S.go c t h n k) ((fun c t h n k _ i => F c t h n k i) c t h n k) (fun _ _ => S.go c t h n k) (fun _ _ => S.go c t h n k) (fun _ _ _ _ => S.go c t h n k) (fun _ => S.go c t h n k) (fun _ => S.go c t h n k)) c t h n k)
def indexS (S : Bx (OpF D)) (W : Bx (VK D)) (X Y : Bx (GetV D)) : Bx (OpF D) := W.opened fun W => X.opened fun X => Y.opened fun Y => .mk fun c t h n k =>
  X t ((fun c t h n k v => v (S.go c t h n k) (S.go c t h n k) (fun _ _ => S.go c t h n k)
    ((fun c t h n k l x => Y t ((fun c t h n k l x w => w (S.go c t h n k) (S.go c t h n k)
      ((fun c t h n k l x _ i => bIf (Nat.ble (Nat.succ i) l) (fN false (Nat.mod (Nat.div x (Nat.pow 256 (Nat.sub (Nat.sub l 1) i))) 256) ((fun c t h n k b => W c t h n k (vInt .u8 b)) c t h n k)) false) c t h n k l x)
      (fun _ _ => S.go c t h n k) (fun _ _ => S.go c t h n k) (fun _ _ _ _ => S.go c t h n k) (fun _ => S.go c t h n k) (fun _ => S.go c t h n k)) c t h n k l x)) c t h n k)
    (fun _ _ => S.go c t h n k) (fun _ _ _ _ => S.go c t h n k) (fun _ => S.go c t h n k) (fun _ => S.go c t h n k)) c t h n k)
def iaddrS (S : Bx (OpF D)) (W : Bx (VK D)) (X Y : Bx (GetV D)) (sz : Nat) : Bx (OpF D) := W.opened fun W => X.opened fun X => Y.opened fun Y => .mk fun c t h n k =>
  X t ((fun c t h n k v => v (S.go c t h n k) (S.go c t h n k) (fun _ _ => S.go c t h n k) (fun _ _ => S.go c t h n k) (fun _ _ => S.go c t h n k)
    ((fun c t h n k b off l _ => Y t ((fun c t h n k b off l w => w (S.go c t h n k) (S.go c t h n k)
      ((fun c t h n k b off l _ i => bIf (Nat.ble (Nat.succ i) l) (fN false (Nat.add off (Nat.mul i sz)) ((fun c t h n k b i => W c t h n k (vPtr b i)) c t h n k b)) false) c t h n k b off l)
      (fun _ _ => S.go c t h n k) (fun _ _ => S.go c t h n k) (fun _ _ _ _ => S.go c t h n k) (fun _ => S.go c t h n k) (fun _ => S.go c t h n k)) c t h n k b off l)) c t h n k)
    (fun _ => S.go c t h n k) (fun _ => S.go c t h n k)) c t h n k)
def lenTS (S : Bx (OpF D)) (W : Bx (VK D)) (X : Bx (GetV D)) : Bx (OpF D) := W.opened fun W => X.opened fun X => .mk fun c t h n k => X t ((fun c t h n k v => v (S.go c t h n k) (S.go c t h n k) (fun _ _ => S.go c t h n k)
  ((fun c t h n k l _ => W c t h n k (vInt .i64 l)) c t h n k) (fun _ _ => S.go c t h n k) (fun _ _ _ _ => S.go c t h n k) (fun _ => S.go c t h n k) (fun _ => S.go c t h n k)) c t h n k)
def lenLS (S : Bx (OpF D)) (W : Bx (VK D)) (X : Bx (GetV D)) : Bx (OpF D) := W.opened fun W => X.opened fun X => .mk fun c t h n k => X t ((fun c t h n k v => v (S.go c t h n k) (S.go c t h n k) (fun _ _ => S.go c t h n k) (fun _ _ => S.go c t h n k) (fun _ _ => S.go c t h n k)
  ((fun c t h n k _ _ l _ => W c t h n k (vInt .i64 l)) c t h n k) (fun _ => S.go c t h n k) ((fun c t h n k cv => sl0B cv (W c t h n k (vInt .i64 0)) (S.go c t h n k)) c t h n k)) c t h n k)
def convNS (S : Bx (OpF D)) (W : Bx (VK D)) (X : Bx (GetV D)) (kd : IntKind) : Bx (OpF D) := W.opened fun W => X.opened fun X => .mk fun c t h n k => X t ((fun c t h n k v => v (S.go c t h n k) (S.go c t h n k)
  ((fun c t h n k _ a => bIf (Nat.ble a (maxN kd)) (W c t h n k (vInt kd a)) (S.go c t h n k)) c t h n k) (fun _ _ => S.go c t h n k) (fun _ _ => S.go c t h n k) (fun _ _ _ _ => S.go c t h n k) (fun _ => S.go c t h n k) (fun _ => S.go c t h n k)) c t h n k)
def convTS (S : Bx (OpF D)) (W : Bx (VK D)) (X : Bx (GetV D)) : Bx (OpF D) := W.opened fun W => X.opened fun X => .mk fun c t h n k => X t ((fun c t h n k v => v (S.go c t h n k) (S.go c t h n k) (fun _ _ => S.go c t h n k)
  ((fun c t h n k l x => W c t h n k (vStr l x)) c t h n k) (fun _ _ => S.go c t h n k) (fun _ _ _ _ => S.go c t h n k) (fun _ => S.go c t h n k) (fun _ => S.go c t h n k)) c t h n k)
def ifcS (W : Bx (VK D)) (X : Bx (GetV D)) (ty : TypeId) : Bx (OpF D) := W.opened fun W => X.opened fun X => .mk fun c t h n k => X t ((fun c t h n k v => decV v ((fun c t h n k cv => W c t h n k (vOth (.ifc ty cv))) c t h n k)) c t h n k)
def nilcS (S : Bx (OpF D)) (W : Bx (VK D)) (X : Bx (GetV D)) : Bx (OpF D) := W.opened fun W => X.opened fun X => .mk fun c t h n k => X t ((fun c t h n k v => v (S.go c t h n k) (S.go c t h n k) (fun _ _ => S.go c t h n k) (fun _ _ => S.go c t h n k)
  ((fun c t h n k b i => W c t h n k (vPtr b i)) c t h n k) (fun _ _ _ _ => S.go c t h n k) (fun _ => S.go c t h n k) (fun _ => S.go c t h n k)) c t h n k)
def callS1 (W : Bx (VK D)) (X : Bx (TmS D → (List V → Bool) → Bool)) (f : FuncId) : Bx (OpF D) := W.opened fun W => X.opened fun X => .mk fun c t h n k => X t ((fun c t h n k as => Cx.rec (motive := fun _ => List V → TmS D → HS D → Nat → KO D → Bool)
  (fun call d tab as t h n k => call (.func f) as tab h n ((fun call d t k v tab h n => W (.mk call d tab) t h n k v) call d t k)) c as t h n k) c t h n k)
def aggS (W : Bx (VK D)) (R : Bx (TmS D → (List CV → Bool) → Bool)) : Bx (OpF D) := W.opened fun W => R.opened fun R => .mk fun c t h n k => R t ((fun c t h n k l => W c t h n k (vAgg l)) c t h n k)
end
end
end Go.Ev
