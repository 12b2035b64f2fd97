/- A verified evaluator for the model's code (part EvG): own work, of no program. -/
import Derived.Test.YtdbhonkahlcdoaaGreatDoorEvF
namespace Go.Ev
section
variable {T H : Type} {S : Sig T H} {eT : Tm → T} {eH : Hp → H} {P : Program} {G : Nat → Bool}
theorem floatCR_val (L : Law S eT eH) (o : Op) (t : Tm) (h : Hp) (tab : Tab) (nb : Nat) (k : KRF) : (floatCR S P G o (eT t) (eH h) tab nb k).val = floatC P G o t h tab nb fun v b t => (k v b t).val := by
  cases o
  case move x => exact getOR_val L x t _
  case assign x => exact getOR_val L x t _
  case pick c a b =>
    unfold floatCR floatC
    simp only [getOR_val L, asBoolR_val]
    refine congrArg (getO G c t) (funext fun v => congrArg (asBool v) (funext fun c => ?_))
    cases c <;> exact getOR_val L _ t _
  case alloc e =>
    unfold floatCR floatC
    simp only []
    cases zeroOf P e <;> rfl
  case box ty x =>
    unfold floatCR floatC
    simp only [getOR_val L, forceNR_val]
  case load ty x =>
    unfold floatCR floatC
    simp only [getOR_val L, asPtrR_val, loadCR_val L]
  case nilCheck x =>
    unfold floatCR floatC
    simp only [getOR_val L]
    refine congrArg (getO G x t) (funext fun v => ?_)
    cases v <;> try rfl
    rename_i f a c; cases f <;> rfl
  case binOp op ty x y yt =>
    unfold floatCR floatC
    simp only [getOR_val L, binCR_val L]
  case unOp op ty x =>
    unfold floatCR floatC
    simp only [getOR_val L]
    refine congrArg (getO G x t) (funext fun v => ?_)
    cases op <;> try rfl
    · cases v <;> first | exact wrapKR_val _ _ _ | exact linNegR_val _ _ _
    · simp only [asBoolR_val]
      refine congrArg (asBool v) (funext fun b => ?_)
      cases b <;> rfl
  case convert s d x =>
    unfold floatCR floatC
    simp only [getOR_val L, convCR_val L]
  case makeInterface ty x =>
    unfold floatCR floatC
    simp only [getOR_val L]
    refine congrArg (getO G x t) (funext fun v => ?_)
    cases isIfc P ty <;> rfl
  case typeAssert x xt ty ok =>
    unfold floatCR floatC
    simp only [getOR_val L]
    refine congrArg (getO G x t) (funext fun v => ?_)
    cases isIfc P ty <;> try rfl
    cases v <;> try rfl
    rename_i t' u
    simp only []
    cases Nat.beq t' ty <;> try rfl
    cases ok <;> rfl
  case makeFunc f first cap =>
    cases f <;> try rfl
    unfold floatCR floatC
    simp only [getOsR_val L]
  case makeMap ty r =>
    cases r <;> rfl
  case makeSlice ty l c =>
    unfold floatCR floatC
    simp only []
    cases elemOfSl P ty with
    | none => rfl
    | some e =>
      simp only []
      cases zeroOf P e with
      | none => rfl
      | some z =>
        simp only [getOR_val L, asNatR_val, szKR_val]
        refine congrArg (getO G l t) (funext fun l => congrArg (asNat l tab) (funext fun l => funext fun tab => congrArg (getO G c t) (funext fun c => congrArg (asNat c tab) (funext fun c => funext fun tab => congrArg (szK P e) (funext fun n => ?_)))))
        cases Nat.ble l c && (Nat.ble (c * z.length) 65536 && (Nat.ble (c * P.bytesOf e) 1000000000 && (Nat.ble c 65536 && Nat.beq z.length n))) <;> rfl
  case build ty parts =>
    unfold floatCR floatC
    simp only []
    cases zeroOf P ty with
    | none => rfl
    | some z =>
      simp only []
      cases P.underlying ty with
      | none => rfl
      | some d =>
        cases d <;> try rfl
        case struct fields =>
          simp only []
          cases fields.toList.all (fun f => (P.info? f.type).isSome) with
          | false => rfl
          | true =>
            simp only [getOsR_val L]
            refine congrArg (getOs G (parts.toList.map (·.2)) t) (funext fun vs => ?_)
            cases fillC (fun i => (fields[i]?).map fun f => (f.offset, P.cellsOf f.type)) ((parts.toList.map (·.1)).zip vs) z with
            | none => rfl
            | some cs => exact forceLR_val _ _
        case array m e =>
          simp only [szKR_val, getOsR_val L]
          refine congrArg (szK P e) (funext fun n => congrArg (getOs G (parts.toList.map (·.2)) t) (funext fun vs => ?_))
          cases fillC (fun i => some (i * n, n)) ((parts.toList.map (·.1)).zip vs) z with
          | none => rfl
          | some cs => exact forceLR_val _ _
  case buildSlice ty len parts =>
    unfold floatCR floatC
    simp only []
    cases elemOfSl P ty with
    | none => rfl
    | some e =>
      simp only []
      cases zeroOf P e with
      | none => rfl
      | some z =>
        simp only [szKR_val]
        refine congrArg (szK P e) (funext fun n => ?_)
        cases Nat.ble (len * z.length) 65536 && Nat.beq z.length n with
        | false => rfl
        | true =>
          simp only [getOsR_val L]
          refine congrArg (getOs G (parts.toList.map (·.2)) t) (funext fun vs => ?_)
          cases fillC (fun i => some (i * n, n)) ((parts.toList.map (·.1)).zip vs) (repl len z) with
          | none => rfl
          | some cs => rfl
  case slice ty x lo hi mx =>
    cases mx with
    | some _ => rfl
    | none =>
      unfold floatCR floatC
      simp only [getOR_val L, optOR_val L]
      refine congrArg (getO G x t) (funext fun v => congrArg (optO G lo t) (funext fun lo => congrArg (optO G hi t) (funext fun hi => ?_)))
      cases v <;> try rfl
      case str len c =>
        simp only []
        cases P.underlying ty with
        | none => rfl
        | some d =>
          cases d <;> try rfl
          simp only []
          split
          · rename_i kd lc ts
            cases hi with
            | none => rfl
            | some hv =>
              simp only []
              cases linOf hv with
              | none => rfl
              | some a =>
                obtain ⟨kd', hc, ts'⟩ := a
                simp only []
                cases subTs ts' ts with
                | cons _ _ => rfl
                | nil =>
                  simp only []
                  cases hc - lc with
                  | negSucc _ => rfl
                  | ofNat m => simp only [linPieceR_val, lstrKR_val]
          · rename_i hno
            rw [sliceBdR_val]
            split
            · exact absurd rfl (hno _ _ _)
            · rfl
      case lstr bs =>
        simp only []
        cases P.underlying ty with
        | none => rfl
        | some d =>
          cases d <;> try rfl
          simp only [sliceBdR_val, lstrKR_val]
      case sl b off len cap =>
        simp only []
        cases elemOfSl P ty with
        | none => rfl
        | some e =>
          simp only [szKR_val]
          refine congrArg (szK P e) (funext fun n => ?_)
          cases Nat.ble len cap with
          | false => rfl
          | true =>
            simp only [sliceBdR_val]
            refine congrArg (sliceBd len cap lo hi tab) (funext fun l => funext fun h' => funext fun tab => ?_)
            cases Nat.blt l cap <;> rfl
      case slE =>
        simp only []
        cases elemOfSl P ty with
        | none => rfl
        | some e => simp only [szKR_val, sliceBdR_val]
      case sl0 =>
        simp only []
        cases elemOfSl P ty with
        | none => rfl
        | some e => simp only [szKR_val, sliceBdR_val]
  case fieldAddr s x f =>
    unfold floatCR floatC
    simp only []
    cases fieldOf P s f with
    | none => rfl
    | some fd =>
      simp only [szKR_val]
      refine congrArg (szK P fd.type) (funext fun n => ?_)
      cases Nat.beq n 0 with
      | true => rfl
      | false => simp only [getOR_val L, asPtrR_val, forceNR_val]
  case field s x f =>
    unfold floatCR floatC
    simp only []
    cases fieldOf P s f with
    | none => rfl
    | some fd =>
      simp only [getOR_val L]
      refine congrArg (getO G x t) (funext fun v => ?_)
      cases v <;> try rfl
      exact partCR_val _ _ _ _ _
  case indexAddr ty x i =>
    unfold floatCR floatC
    simp only [getOR_val L, asNatR_val]
    refine congrArg (getO G x t) (funext fun v => congrArg (getO G i t) (funext fun w => congrArg (asNat w tab) (funext fun i => funext fun tab => ?_)))
    cases v <;> try rfl
    case ptr b off =>
      simp only []
      cases P.underlying ty with
      | none => rfl
      | some d =>
        cases d <;> try rfl
        rename_i len e
        simp only []
        cases Nat.blt i len with
        | false => rfl
        | true => simp only [szKR_val, forceNR_val]
    case sl b off len cap =>
      simp only []
      cases elemOfSl P ty with
      | none => rfl
      | some e =>
        simp only []
        cases Nat.blt i len with
        | false => rfl
        | true => simp only [szKR_val, forceNR_val]
  case index ty x i =>
    unfold floatCR floatC
    simp only [getOR_val L, asNatR_val]
    refine congrArg (getO G x t) (funext fun v => congrArg (getO G i t) (funext fun w => congrArg (asNat w tab) (funext fun i => funext fun tab => ?_)))
    cases v <;> try rfl
    case str len c =>
      simp only []
      cases P.underlying ty with
      | none => rfl
      | some d =>
        cases d <;> try rfl
        simp only []
        cases Nat.blt i len <;> rfl
    case lstr bs =>
      simp only []
      cases P.underlying ty with
      | none => rfl
      | some d =>
        cases d <;> try rfl
        simp only []
        cases bs[i]? <;> rfl
    case agg cs =>
      simp only []
      cases P.underlying ty with
      | none => rfl
      | some d =>
        cases d <;> try rfl
        rename_i len e
        simp only []
        cases Nat.blt i len with
        | false => rfl
        | true => simp only [szKR_val, partCR_val]
  case lookup ty x i ok =>
    unfold floatCR floatC
    simp only []
    cases P.underlying ty with
    | none => rfl
    | some d =>
      cases d <;> try rfl
      rename_i kt e
      simp only [getOR_val L]
      refine congrArg (getO G x t) (funext fun v => congrArg (getO G i t) (funext fun w => ?_))
      cases keyOk P kt w with
      | false => rfl
      | true =>
        simp only []
        cases zeroVal P e with
        | none => rfl
        | some z =>
          cases v <;> try rfl
          · exact lkBR_val _ _ _ _ _
          · simp only [L.gH]
            refine congrArg (getK h _) (funext fun cb => ?_)
            cases cb <;> try rfl
            simp only [findMR_val L, lkBR_val]
  case extract x i =>
    unfold floatCR floatC
    simp only [getOR_val L]
    refine congrArg (getO G x t) (funext fun v => ?_)
    cases v <;> try rfl
    rename_i vs
    simp only []
    cases vs[i]? <;> rfl
  case call c =>
    obtain ⟨callee, args, tys⟩ := c
    cases callee <;> try rfl
    rename_i b
    cases b <;> try rfl
    case len =>
      unfold floatCR floatC
      simp only []
      match args.toList with
      | [] => rfl
      | _ :: _ :: _ => rfl
      | [x] =>
        simp only []
        cases tys[0]? with
        | none => rfl
        | some ty => simp only [getOR_val L, lenCR_val L]
    case min =>
      unfold floatCR floatC
      simp only []
      match args.toList with
      | [] => rfl
      | [_] => rfl
      | _ :: _ :: _ :: _ => rfl
      | [x, y] =>
        simp only [getOR_val L]
        refine congrArg (getO G x t) (funext fun v => congrArg (getO G y t) (funext fun w => ?_))
        cases v <;> try exact linMMR_val false _ _ _ _
        cases w <;> try exact linMMR_val false _ _ _ _
        rename_i kd a kd' b
        simp only []
        cases ltI b a <;> rfl
    case max =>
      unfold floatCR floatC
      simp only []
      match args.toList with
      | [] => rfl
      | [_] => rfl
      | _ :: _ :: _ :: _ => rfl
      | [x, y] =>
        simp only [getOR_val L]
        refine congrArg (getO G x t) (funext fun v => congrArg (getO G y t) (funext fun w => ?_))
        cases v <;> try exact linMMR_val true _ _ _ _
        cases w <;> try exact linMMR_val true _ _ _ _
        rename_i kd a kd' b
        simp only []
        cases ltI a b <;> rfl
  all_goals rfl
end
end Go.Ev

namespace Go.Ev
section
variable {T H : Type} {S : Sig T H} {eT : Tm → T} {eH : Hp → H} {P : Program} {G : Nat → Bool}
theorem newBR_val (L : Law S eT eH) (cb : CB) (m : M) (k : Nat → MX H → Res) : (newBR S cb (eM eH m) k).val = newB cb m fun b m => (k b (eM eH m)).val := by
  show (S.iH cb (eH m.h) m.n (fun h' => forceNR (Nat.succ m.n) fun n' => k m.n ⟨h', n', m.tab⟩)).val = _
  rw [L.iH]; rfl
theorem appendedR_val (L : Law S eT eH) (str : Bool) (n : Nat) (x : CV) (h : Hp) (k : List CV → Nat → Res) : (appendedR S str n x (eH h) k).val = appended str n x h fun l c => (k l c).val := by
  cases str
  · cases x <;> try rfl
    unfold appendedR appended
    simp only [withCellsR_val L, loadNR_val, allOneR_val]
  · cases x <;> try rfl
    · unfold appendedR appended
      simp only []
      cases Nat.beq n 1 <;> rfl
    · unfold appendedR appended
      simp only []
      cases Nat.beq n 1 <;> rfl
theorem tailCR_val (L : Law S eT eH) (et : TypeId) (n : Nat) (new : List CV) (cnt : Nat) (s : CV) (m : M) (k : KAX H) : (tailCR S P et n new cnt s (eM eH m) k).val = tailC P et n new cnt s m fun v m => (k v (eM eH m)).val := by
  unfold tailCR tailC
  cases s <;> try rfl
  case sl0 =>
    simp only []
    cases Nat.beq cnt 0 with
    | true => rfl
    | false => simp only [isTrueR_val, forceNR_val, newBR_val L]
  case sl b off len cap =>
    simp only []
    refine (withCellsR_val L m.h b _).trans (congrArg (withCells m.h b) (funext fun te => funext fun lo => funext fun es => funext fun sz => funext fun cs => ?_))
    simp only [forceNR_val]
    refine congrArg (forceN (len + cnt)) (funext fun need => ?_)
    cases Nat.ble need cap with
    | true =>
      simp only [storeNR_val]
      refine congrArg (storeN new _ cs) (funext fun cs' => ?_)
      exact L.sH _ m.h b _
    | false =>
      simp only [isTrueR_val, forceNR_val]
      refine congrArg (isTrue _) (congrArg (forceN _) (funext fun sz' => ?_))
      cases lo with
      | true =>
        simp only [isTrueR_val]
        refine congrArg (isTrue _) (congrArg (isTrue _) ?_)
        refine (L.sH _ m.h b _).trans (congrArg (setK _ m.h b) (funext fun h1 => ?_))
        have e5 : ∀ cb F, (newBR S cb ⟨eH h1, (eM eH m).n, (eM eH m).tab⟩ F).val = newB cb ⟨h1, m.n, m.tab⟩ fun b m => (F b (eM eH m)).val := fun cb F => newBR_val L cb ⟨h1, m.n, m.tab⟩ F
        cases Nat.beq off 0 && Nat.beq (len * es) sz with
        | true => simp only [pushNR_val, e5]
        | false => simp only [loadNR_val, e5]
      | false => simp only [loadNR_val, newBR_val L]
theorem appendCR_val (L : Law S eT eH) (et : TypeId) (str : Bool) (s x : CV) (m : M) (k : KAX H) : (appendCR S P et str s x (eM eH m) k).val = appendC P et str s x m fun v m => (k v (eM eH m)).val := by
  unfold appendCR appendC
  simp only [szKR_val, isTrueR_val]
  refine congrArg (szK P et) (funext fun n => congrArg (isTrue _) (congrArg (isTrue _) (congrArg (isTrue _) ?_)))
  refine (appendedR_val L str n x m.h _).trans (congrArg (appended str n x m.h) (funext fun new => funext fun cnt => ?_))
  exact tailCR_val L et n new cnt s m k
theorem appendZR_val (L : Law S eT eH) (et : TypeId) (s x : CV) (m : M) (k : KAX H) : (appendZR S P et s x (eM eH m) k).val = appendZ P et s x m fun v m => (k v (eM eH m)).val := by
  unfold appendZR appendZ
  simp only [szKR_val, isTrueR_val]
  refine congrArg (szK P et) (funext fun n => congrArg (isTrue _) (congrArg (isTrue _) ?_))
  cases zeroOf P et with
  | none => rfl
  | some z =>
    simp only [isTrueR_val]
    refine congrArg (isTrue _) ?_
    cases x <;> try rfl
    rename_i kd a
    cases kd <;> try rfl
    cases a <;> try rfl
    simp only [isTrueR_val, allOneR_val]
    refine congrArg (isTrue _) (congrArg (isTrue _) (congrArg (allOne _) ?_))
    exact tailCR_val L et n _ _ s m k
theorem ustrCR_val (L : Law S eT eH) (e : TypeId) (v : CV) (n : Nat) (m : M) (k : KAX H) : (ustrCR S e v n (eM eH m) k).val = ustrC e v n m fun v m => (k v (eM eH m)).val := by
  cases v <;> try rfl
  · unfold ustrCR ustrC
    simp only []
    cases Nat.beq n 0 <;> rfl
  · rename_i b off
    unfold ustrCR ustrC
    simp only []
    cases Nat.beq n 0 with
    | true => rfl
    | false =>
      simp only []
      refine (withCellsR_val L m.h b _).trans (congrArg (withCells m.h b) (funext fun te => funext fun lo => funext fun es => funext fun sz => funext fun cs => ?_))
      cases Nat.beq te (e + 1) && (Nat.ble (off + n) sz && Nat.ble n 1000000) with
      | false => rfl
      | true =>
        simp only [loadNR_val]
        refine congrArg (loadN cs n off) (funext fun l => ?_)
        cases bytesOf? l with
        | none =>
          show (match byteForms m.tab.iv l with | some fs => S.sH .none (eH m.h) b fun h' => k (.lstr fs) ⟨h', m.n, m.tab⟩ | none => Res.bad).val = (match byteForms m.tab.iv l with | some fs => setK .none m.h b fun h' => (k (.lstr fs) (eM eH ⟨h', m.n, m.tab⟩)).val | none => false)
          cases byteForms m.tab.iv l with
          | none => rfl
          | some fs => exact L.sH _ m.h b _
        | some bs =>
          simp only [forceNR_val]
          refine congrArg (forceN _) (funext fun c => ?_)
          exact L.sH _ m.h b _
/-- calls that answer alike -/
def CallEq (eH : Hp → H) (cX : CallX H) (c : CallFn) : Prop := ∀ f args m k, (cX f args (eM eH m) k).val = c f args m fun v m => (k v (eM eH m)).val
theorem actCR_val (L : Law S eT eH) {cX : CallX H} {c : CallFn} (hc : CallEq eH cX c) (o : Op) (t : Tm) (m : M) (k : KAX H) : (actCR S P G cX o (eT t) (eM eH m) k).val = actC P G c o t m fun v m => (k v (eM eH m)).val := by
  cases o <;> try rfl
  case store ty x y =>
    unfold actCR actC
    simp only [getOR_val L, asPtrR_val]
    refine congrArg (getO G x t) (funext fun v => congrArg (asPtr v) (funext fun b => funext fun off => congrArg (getO G y t) (funext fun w => ?_)))
    exact storeCR_val L ty b off w m.h _
  case mapUpdate ty x i y =>
    unfold actCR actC
    simp only []
    cases P.underlying ty with
    | none => rfl
    | some d =>
      cases d <;> try rfl
      rename_i kt e
      simp only [getOR_val L]
      refine congrArg (getO G x t) (funext fun v => congrArg (getO G i t) (funext fun key => congrArg (getO G y t) (funext fun val => ?_)))
      cases keyOk P kt key with
      | false => rfl
      | true =>
        cases v <;> try rfl
        rename_i b
        simp only []
        refine (L.gH m.h b _).trans (congrArg (getK m.h b) (funext fun cb => ?_))
        cases cb <;> try rfl
        rename_i es clock
        simp only []
        refine (putMR_val L kt m.h m.tab key val clock es _).trans (congrArg (putM P kt m.h m.tab key val clock es) (funext fun es' => funext fun new => ?_))
        simp only [forceNR_val]
        refine congrArg (forceN _) (funext fun clock' => ?_)
        exact L.sH _ m.h b _
  case call c0 =>
    obtain ⟨callee, args, tys⟩ := c0
    cases callee with
    | invoke a b => rfl
    | value f =>
      unfold actCR actC
      simp only [getOR_val L, getOsR_val L]
      refine congrArg (getO G f t) (funext fun fv => congrArg (getOs G args.toList t) (funext fun as => ?_))
      cases fv <;> try rfl
      · rename_i f first cap
        cases f <;> try rfl
        exact hc _ _ m k
      · exact hc _ _ m k
    | builtin b =>
      cases b <;> try rfl
      case append =>
        unfold actCR actC
        simp only []
        match args.toList with
        | [] => rfl
        | [_] => rfl
        | _ :: _ :: _ :: _ => rfl
        | [x, y] =>
          simp only []
          match tys.toList with
          | [] => rfl
          | [_] => rfl
          | _ :: _ :: _ :: _ => rfl
          | [tx, ty] =>
            simp only []
            cases elemOfSl P tx with
            | none => rfl
            | some e =>
              simp only []
              cases P.underlying ty with
              | none => rfl
              | some d => cases d <;> first | rfl | simp only [getOR_val L, appendCR_val L, appendZR_val L]
      case unsafeSliceData =>
        unfold actCR actC
        simp only []
        match args.toList with
        | [] => rfl
        | _ :: _ :: _ => rfl
        | [x] =>
          simp only [getOR_val L]
          refine congrArg (getO G x t) (funext fun v => ?_)
          cases v <;> try rfl
          rename_i b off len cap
          simp only []
          cases Nat.blt 0 cap <;> rfl
      case unsafeString =>
        unfold actCR actC
        simp only []
        match args.toList with
        | [] => rfl
        | [_] => rfl
        | _ :: _ :: _ :: _ => rfl
        | [x, y] =>
          simp only []
          match tys.toList with
          | [] => rfl
          | [_] => rfl
          | _ :: _ :: _ :: _ => rfl
          | [pt, _] =>
            simp only []
            cases P.underlying pt with
            | none => rfl
            | some d =>
              cases d <;> try rfl
              rename_i e
              simp only []
              cases Nat.beq (P.cellsOf e) 1 with
              | false => rfl
              | true =>
                simp only [getOR_val L]
                refine congrArg (getO G x t) (funext fun v => congrArg (getO G y t) (funext fun w => ?_))
                cases w <;> try rfl
                rename_i kd n
                cases kd <;> try rfl
                cases n <;> try rfl
                exact ustrCR_val L _ _ _ m k
theorem putTR_val (L : Law S eT eH) (dst : Option Tmp) (v : CV) (t : Tm) (k : T → Res) : (putTR S dst v (eT t) k).val = putT dst v t fun t => (k (eT t)).val := by
  cases dst with
  | none => rfl
  | some d => exact L.sT v t d k
theorem guardCR_val (L : Law S eT eH) (ops : Array Oper) (o : Oper) (t : Tm) (k : Bool → Res) : (guardCR S ops o (eT t) k).val = guardC ops o t fun b => (k b).val := by
  unfold guardCR guardC
  cases o.guard with
  | none => rfl
  | some g =>
    obtain ⟨j, want⟩ := g
    simp only []
    cases ops[j]? with
    | none => rfl
    | some oj =>
      simp only []
      cases oj.dst with
      | none => rfl
      | some d =>
        simp only [L.gT]
        refine congrArg (getK t d) (funext fun v => ?_)
        cases v <;> try rfl
        · rename_i b; cases want <;> cases b <;> rfl
        · rename_i l; cases l <;> rfl
end
end Go.Ev

namespace Go.Ev
noncomputable section
section
variable {T H : Type} (S : Sig T H)
def pendKR (pend : Option Code) (K : CX → Res) : Res := match pend with
  | none => K .normal
  | some c => match c with
    | .exit id => K (.exit id)
    | .ret => K .ret
    | _ => .bad
def rangeR (P : Program) (G : Nat → Bool) (fn : FuncId) (call : CallX H) (f : Operand) (ps : Array Tmp) (a b : Code) (t : T) (d : List DF) (m : MX H) (k : KXX T H) : Res := getOR S G f t fun fv => match fv with
  | .fn f first cap => match f with
    | .func f => isTrueR (match P.funcs[f]? with | some fn => fn.body.isSome | none => false) <| newBR S (.dfd true) m fun db m => S.dT t fun tm => newBR S (.loop .ready none fn tm ps a b db) m fun l m =>
      call (.func f) (first ++ [.yld l] ++ cap) m fun _ m => S.gH m.h l fun cb => match cb with
        | .loop st pend fn t' ps a b db' => match st with
          | .busy => .bad
          | _ => S.sH (.loop .exhausted pend fn t' ps a b db') m.h l fun h' => pendKR pend fun x => k x t (.coll db :: d) ⟨h', m.n, m.tab⟩
        | _ => .bad
    | _ => .bad
  | _ => .bad
def yieldR (cd : FuncId → Code → CodeX T H) (l : Nat) (args : List CV) (m : MX H) (k : KAX H) : Res := S.gH m.h l fun cb => match cb with
  | .loop st _ fn tm ps assign body _ => match st with
    | .ready => setPsR S ps.toList args (S.nT tm) fun t => cd fn assign t [] m fun x t d m => match x with
      | .normal => S.gH m.h l fun cb => match cb with
        | .loop st pend fn' tm' ps' a' b' db' => match st with
          | .ready => S.sH (.loop .busy pend fn' tm' ps' a' b' db') m.h l fun h' => cd fn body t d ⟨h', m.n, m.tab⟩ fun x _ _ m => endRdR S l x m k
          | _ => .bad
        | _ => .bad
      | _ => .bad
    | _ => .bad
  | _ => .bad
/-- their plain forms -/
def rangeP (P : Program) (G : Nat → Bool) (fn : FuncId) (call : CallFn) (f : Operand) (ps : Array Tmp) (a b : Code) (t : Tm) (d : List DF) (m : M) (k : KX) : Bool := getO G f t fun fv => match fv with
  | .fn f first cap => match f with
    | .func f => isTrue (match P.funcs[f]? with | some fn => fn.body.isSome | none => false) <| newB (.dfd true) m fun db m => newB (.loop .ready none fn t ps a b db) m fun l m =>
      call (.func f) (first ++ [.yld l] ++ cap) m fun _ m => getK m.h l fun cb => match cb with
        | .loop st pend fn t' ps a b db' => match st with
          | .busy => false
          | _ => setK (.loop .exhausted pend fn t' ps a b db') m.h l fun h' => pendK pend fun x => k x t (.coll db :: d) ⟨h', m.n, m.tab⟩
        | _ => false
    | _ => false
  | _ => false
def yieldP (cd : FuncId → Code → EvCode) (l : Nat) (args : List CV) (m : M) (k : KA) : Bool := getK m.h l fun cb => match cb with
  | .loop st _ fn tm ps assign body _ => match st with
    | .ready => setPs ps.toList args tm fun t => cd fn assign t [] m fun x t d m => match x with
      | .normal => getK m.h l fun cb => match cb with
        | .loop st pend fn' tm' ps' a' b' db' => match st with
          | .ready => setK (.loop .busy pend fn' tm' ps' a' b' db') m.h l fun h' => cd fn body t d ⟨h', m.n, m.tab⟩ fun x _ _ m => endRd l x m k
          | _ => false
        | _ => false
      | _ => false
    | _ => false
  | _ => false
end
end
section
variable {T H : Type} {S : Sig T H} {eT : Tm → T} {eH : Hp → H} {P : Program} {G : Nat → Bool}
theorem operCR_val (L : Law S eT eH) {rd : Bool} {cX : CallX H} {c : CallFn} (hc : CallEq eH cX c) (ops : Array Oper) (o : Oper) (t : Tm) (d : List DF) (m : M) (k : T → List DF → MX H → Res) :
    (operCR S P G rd cX ops o (eT t) d (eM eH m) k).val = operC P G rd c ops o t d m fun t d m => (k (eT t) d (eM eH m)).val := by
  obtain ⟨dst, op, type, pos, after, guard⟩ := o
  unfold operCR operC
  simp only [guardCR_val L]
  refine congrArg (guardC ops _ t) (funext fun b => ?_)
  cases b with
  | false => exact putTR_val L dst undefC t _
  | true =>
    simp only []
    cases hf : isFloat op with
    | true =>
      simp only []
      refine (floatCR_val L op t m.h m.tab m.n _).trans (congrArg (floatC P G op t m.h m.tab m.n) (funext fun v => funext fun nb => funext fun tab => ?_))
      refine (putTR_val L dst v t _).trans (congrArg (putT dst v t) (funext fun t' => ?_))
      cases nb with
      | none => rfl
      | some cb => exact newBR_val L cb ⟨m.h, m.n, tab⟩ _
    | false =>
      simp only []
      have act : ∀ op : Op, (isTrueR (match op, rd with
          | .call { callee := .builtin .recover, .. }, true => false
          | _, _ => true) (actCR S P G cX op (eT t) (eM eH m) fun v m' => putTR S dst v (eT t) fun t' => k t' d m')).val =
          ((match op, rd with
          | .call { callee := .builtin .recover, .. }, true => false
          | _, _ => true) && actC P G c op t m fun v m' => putT dst v t fun t' => (k (eT t') d (eM eH m')).val) := by
        intro op
        refine (isTrueR_val _ _).trans ?_
        have e : ∀ b k : Bool, isTrue b k = (b && k) := fun b k => by cases b <;> rfl
        rw [e]
        refine congrArg (_ && ·) ?_
        refine (actCR_val L hc op t m _).trans ?_
        simp only [putTR_val L]
      have ha := act op
      cases op
      case defer c0 =>
        cases rd with
        | true => rfl
        | false =>
          obtain ⟨callee, args, tys⟩ := c0
          cases callee <;> try rfl
          rename_i f
          simp only [getOR_val L, getOsR_val L]
          refine congrArg (getO G f t) (funext fun fv => congrArg (getOs G args.toList t) (funext fun as => ?_))
          cases fv <;> try rfl
          rename_i f first cap
          cases f <;> try rfl
          exact putTR_val L dst undefC t _
      all_goals exact ha
theorem againCR_val (L : Law S eT eH) (ops : Array Oper) (t : Tm) (m : M) (j : Nat) : (againCR S P G ops (eT t) (eM eH m) j).val = againC P G ops t m j := by
  unfold againCR againC
  cases ops[j]? with
  | none => rfl
  | some o =>
    simp only [guardCR_val L]
    refine congrArg (guardC ops o t) (funext fun b => ?_)
    cases b with
    | false => rfl
    | true =>
      simp only []
      cases o.dst with
      | none => rfl
      | some dd =>
        simp only [L.gT]
        refine congrArg (getK t dd) (funext fun v => ?_)
        refine (floatCR_val L o.op t m.h m.tab 0 _).trans (congrArg (floatC P G o.op t m.h m.tab 0) (funext fun v' => funext fun nb => funext fun tab => ?_))
        cases nb with
        | some _ => rfl
        | none =>
          show (isTrueR (cvBeq v v') .ok).val = cvBeq v v'
          cases cvBeq v v' <;> rfl
theorem resultsCR_val (L : Law S eT eH) (rs : List ResultVar) (t : Tm) (m : M) : ∀ (k : List CV → Res), (resultsCR S P rs (eT t) (eM eH m) k).val = resultsC P rs t m fun vs => (k vs).val := by
  induction rs with
  | nil => intro k; rfl
  | cons r rs ih =>
    intro k
    cases r with
    | tmp i =>
      show (S.gT (eT t) i (fun v => resultsCR S P rs (eT t) (eM eH m) fun vs => k (v :: vs))).val = getK t i fun v => resultsC P rs t m fun vs => (k (v :: vs)).val
      rw [L.gT]; simp only [ih]
    | cell a ty =>
      show (S.gT (eT t) a (fun v => asPtrR v fun b off => loadCR S P ty b off (eH m.h) fun v => resultsCR S P rs (eT t) (eM eH m) fun vs => k (v :: vs))).val =
        getK t a fun v => asPtr v fun b off => loadC P ty b off m.h fun v => resultsC P rs t m fun vs => (k (v :: vs)).val
      rw [L.gT]; simp only [asPtrR_val, loadCR_val L, ih]
theorem defersCR_val (L : Law S eT eH) {cX : CallX H} {c : CallFn} (hc : CallEq eH cX c) (ds : List DF) : ∀ (m : M) (k : MX H → Res), (defersCR S cX ds (eM eH m) k).val = defersC c ds m fun m => (k (eM eH m)).val := by
  induction ds with
  | nil => intro m k; rfl
  | cons d ds ih =>
    intro m k
    cases d with
    | call f args cap =>
      show (cX f (args ++ cap) (eM eH m) (fun _ m => defersCR S cX ds m k)).val = c f (args ++ cap) m fun _ m => defersC c ds m fun m => (k (eM eH m)).val
      rw [hc]; simp only [ih]
    | coll b =>
      show (S.gH (eH m.h) b (fun cb => match cb with
        | .dfd true => S.sH (.dfd false) (eH m.h) b fun h' => defersCR S cX ds ⟨h', m.n, m.tab⟩ k
        | _ => Res.bad)).val = getK m.h b fun cb => match cb with
        | .dfd true => setK (.dfd false) m.h b fun h' => defersC c ds ⟨h', m.n, m.tab⟩ fun m => (k (eM eH m)).val
        | _ => false
      rw [L.gH]
      refine congrArg (getK m.h b) (funext fun cb => ?_)
      cases cb <;> try rfl
      rename_i x
      cases x with
      | false => rfl
      | true =>
        refine (L.sH _ m.h b _).trans (congrArg (setK _ m.h b) (funext fun h' => ?_))
        exact ih ⟨h', m.n, m.tab⟩ k
theorem setPsR_val (L : Law S eT eH) (ps : List Nat) : ∀ (as : List CV) (t : Tm) (k : T → Res), (setPsR S ps as (eT t) k).val = setPs ps as t fun t => (k (eT t)).val := by
  induction ps with
  | nil => intro as t k; cases as <;> rfl
  | cons p ps ih =>
    intro as t k
    cases as with
    | nil => rfl
    | cons a as =>
      show (S.sT a (eT t) p (fun t' => setPsR S ps as t' k)).val = setK a t p fun t' => setPs ps as t' fun t => (k (eT t)).val
      rw [L.sT]; simp only [ih]
theorem endRdR_val (L : Law S eT eH) (l : Nat) (x : CX) (m : M) (k : KAX H) : (endRdR S l x (eM eH m) k).val = endRd l x m fun v m => (k v (eM eH m)).val := by
  unfold endRdR endRd
  refine (L.gH m.h l _).trans (congrArg (getK m.h l) (funext fun cb => ?_))
  cases cb <;> try rfl
  cases x <;> exact L.sH _ m.h l _
theorem pendKR_val (pend : Option Code) (K : CX → Res) : (pendKR pend K).val = pendK pend fun x => (K x).val := by
  cases pend with
  | none => rfl
  | some c => cases c <;> rfl
theorem rangeR_val (L : Law S eT eH) (fn : FuncId) {cX : CallX H} {c : CallFn} (hc : CallEq eH cX c) (f : Operand) (ps : Array Tmp) (a b : Code) (t : Tm) (d : List DF) (m : M) (k : KXX T H) :
    (rangeR S P G fn cX f ps a b (eT t) d (eM eH m) k).val = rangeP P G fn c f ps a b t d m fun x t d m => (k x (eT t) d (eM eH m)).val := by
  unfold rangeR rangeP
  simp only [getOR_val L]
  refine congrArg (getO G f t) (funext fun fv => ?_)
  cases fv <;> try rfl
  rename_i f first cap
  cases f <;> try rfl
  rename_i f
  simp only [isTrueR_val, newBR_val L, L.dT]
  refine congrArg (isTrue _) (congrArg (newB _ m) (funext fun db => funext fun m => congrArg (newB _ m) (funext fun l => funext fun m => ?_)))
  refine (hc _ _ m _).trans (congrArg (c _ _ m) (funext fun _ => funext fun m => ?_))
  refine (L.gH m.h l _).trans (congrArg (getK m.h l) (funext fun cb => ?_))
  cases cb <;> try rfl
  rename_i st pend fn t' ps a b db'
  cases st <;> try rfl
  all_goals
    refine (L.sH _ m.h l _).trans (congrArg (setK _ m.h l) (funext fun h' => ?_))
    exact pendKR_val _ _
/-- codes that go alike -/
def CodeEq (eT : Tm → T) (eH : Hp → H) (cdX : CodeX T H) (cd : EvCode) : Prop := ∀ t d m k, (cdX (eT t) d (eM eH m) k).val = cd t d m fun x t d m => (k x (eT t) d (eM eH m)).val
theorem yieldR_val (L : Law S eT eH) {cdX : FuncId → Code → CodeX T H} {cd : FuncId → Code → EvCode} (hc : ∀ f c, CodeEq eT eH (cdX f c) (cd f c)) (l : Nat) (args : List CV) (m : M) (k : KAX H) :
    (yieldR S cdX l args (eM eH m) k).val = yieldP cd l args m fun v m => (k v (eM eH m)).val := by
  unfold yieldR yieldP
  refine (L.gH m.h l _).trans (congrArg (getK m.h l) (funext fun cb => ?_))
  cases cb <;> try rfl
  rename_i st pend fn tm ps assign body db
  cases st <;> try rfl
  simp only [L.nT]
  refine (setPsR_val L ps.toList args tm _).trans (congrArg (setPs ps.toList args tm) (funext fun t => ?_))
  refine (hc fn assign t [] m _).trans (congrArg (cd fn assign t [] m) (funext fun x => funext fun t => funext fun d => funext fun m => ?_))
  cases x <;> try rfl
  refine (L.gH m.h l _).trans (congrArg (getK m.h l) (funext fun cb => ?_))
  cases cb <;> try rfl
  rename_i st pend fn' tm' ps' a' b' db'
  cases st <;> try rfl
  refine (L.sH _ m.h l _).trans (congrArg (setK _ m.h l) (funext fun h' => ?_))
  refine (hc fn body t d ⟨h', m.n, m.tab⟩ _).trans (congrArg (cd fn body t d ⟨h', m.n, m.tab⟩) (funext fun x => funext fun _ => funext fun _ => funext fun m => ?_))
  exact endRdR_val L l x m k
end
end Go.Ev

namespace Go.Ev
noncomputable section

/-! Staging -/
inductive Bx (α : Type) where
  | mk (f : α)
def Bx.go {α : Type} (b : Bx α) : α := Bx.rec (motive := fun _ => α) (fun f => f) b
/-- worked out at once -/
def Bx.opened {α β : Type} (B : Bx α) (f : α → Bx β) : Bx β := Bx.rec (motive := fun _ => Bx β) f B
theorem go_mk {α : Type} (f : α) : (Bx.mk f).go = f := rfl
theorem opened_eq {α β : Type} (B : Bx α) (f : α → Bx β) : B.opened f = f B.go := by cases B; rfl
def fN {β : Type} (z : β) (n : Nat) (k : Nat → β) : β := Nat.rec (motive := fun _ => β) z (fun p _ => k p) (Nat.succ n)
theorem fN_eq {β : Type} (z : β) (n : Nat) (k : Nat → β) : fN z n k = k n := rfl
def bIf (b : Bool) (x y : Res) : Res := Bool.rec (motive := fun _ => Res) y x b
theorem bIf_eq (b : Bool) (x y : Res) : bIf b x y = (match b with | true => x | false => y) := by cases b <;> rfl

/-! Values, as functions -/
def V : Type := Res → Res → (IntKind → Nat → Res) → (Nat → Nat → Res) → (Nat → Nat → Res) → (Nat → Nat → Nat → Nat → Res) → (List CV → Res) → (CV → Res) → Res
def vTrue : V := fun tt _ _ _ _ _ _ _ => tt
def vFalse : V := fun _ ff _ _ _ _ _ _ => ff
def vInt (k : IntKind) (n : Nat) : V := fun _ _ fi _ _ _ _ _ => fi k n
def vStr (l c : Nat) : V := fun _ _ _ fs _ _ _ _ => fs l c
def vPtr (b o : Nat) : V := fun _ _ _ _ fp _ _ _ => fp b o
def vSl (b o l c : Nat) : V := fun _ _ _ _ _ fl _ _ => fl b o l c
def vAgg (l : List CV) : V := fun _ _ _ _ _ _ fa _ => fa l
def vOth (c : CV) : V := fun _ _ _ _ _ _ _ fo => fo c
def encV (v : CV) : V := fun tt ff fi fs fp fl fa fo => CV.rec (motive_1 := fun _ => Res) (motive_2 := fun _ => PUnit.{1}) (fun b => Bool.rec (motive := fun _ => Res) ff tt b) (fun k n => Int.rec (motive := fun _ => Res) (fun m => fi k m) (fun m => fo (.int k (.negSucc m))) n) (fun l c => fs l c) (fo .ptr0) (fun b o => fp b o) (fo .sl0) (fun b o l c => fl b o l c) (fo .slE) (fo .map0) (fun x0 => fo (.map x0)) (fun x0 x1 x2 _ _ => fo (.fn x0 x1 x2)) (fun x0 => fo (.yld x0)) (fo .fn0) (fun x0 x1 _ => fo (.ifc x0 x1)) (fo .ifc0) (fun cs _ => fa cs) (fun x0 _ => fo (.tup x0)) (fun x0 x1 => fo (.sym x0 x1)) (fun x0 x1 => fo (.ssym x0 x1)) (fun x0 x1 x2 x3 x4 => fo (.symr x0 x1 x2 x3 x4)) (fun x0 x1 x2 => fo (.lin x0 x1 x2)) (fun x0 => fo (.lstr x0)) .unit (fun _ _ _ _ => .unit) v
def decV (v : V) (k : CV → Res) : Res := v (k (.bool true)) (k (.bool false)) (fun kd n => k (.int kd (.ofNat n))) (fun l c => k (.str l c)) (fun b o => k (.ptr b o)) (fun b o l c => k (.sl b o l c)) (fun l => k (.agg l)) k
theorem decV_enc (c : CV) (k : CV → Res) : decV (encV c) k = k c := by
  cases c <;> try rfl
  · rename_i b; cases b <;> rfl
  · rename_i k n; cases n <;> rfl

/-! Tries, as functions -/
def TS (α β : Type) (d : Nat) : Type := Nat.rec (motive := fun _ => Type) (Tr α) (fun _ T => Res → (β → T → T → T → T → Res) → Res) d
theorem getFR_two {α : Type} : ∀ (f g n : Nat) (t : Tr α) (k : α → Res), n < f → n < g → getFR f t n k = getFR g t n k := by
  intro f
  induction f with
  | zero => intro g n t k h; omega
  | succ f ih =>
    intro g n t k h hg
    obtain ⟨g, rfl⟩ : ∃ g', g = g' + 1 := ⟨g - 1, by omega⟩
    obtain ⟨nd⟩ := t
    cases nd with
    | nil => rfl
    | node v a b c d =>
      cases n with
      | zero => rfl
      | succ p => exact ih g (p / 4) _ _ (by omega) (by omega)
theorem getKR_node {α : Type} (v : α) (a b c e : Tr α) (p : Nat) (k : α → Res) : getKR (.mk (.node v a b c e)) (p + 1) k = getKR (kid a b c e (p % 4)) (p / 4) k :=
  getFR_two (p + 1) (p / 4 + 1) (p / 4) _ _ (by omega) (by omega)
section
variable {α β : Type}
def nodeS {d : Nat} (v : β) (a b c e : TS α β d) : TS α β (d + 1) := fun _ s => s v a b c e
def nilS (d : Nat) : TS α β d := Nat.rec (motive := fun d => TS α β d) (.mk .nil) (fun _ _ => fun n _ => n) d
/-- an empty trie, worked out -/
def nilX (d : Nat) : Bx (TS α β d) := Nat.rec (motive := fun d => Bx (TS α β d)) (.mk (.mk .nil)) (fun _ _ => .mk fun n _ => n) d
theorem nilX_go (d : Nat) : (nilX d : Bx (TS α β d)).go = nilS d := by cases d <;> rfl
variable (f : α → β)
def encT (d : Nat) : Tr α → TS α β d := Nat.rec (motive := fun d => Tr α → TS α β d) (fun t => t)
  (fun _ ih t => fun n s => Nd.rec (motive := fun _ => Res) n (fun v a b c e => s (f v) (ih a) (ih b) (ih c) (ih e)) t.1) d
theorem nilS_eq (d : Nat) : (nilS d : TS α β d) = encT f d (.mk .nil) := by cases d <;> rfl
theorem nodeS_eq (d : Nat) (v : α) (a b c e : Tr α) : nodeS (f v) (encT f d a) (encT f d b) (encT f d c) (encT f d e) = encT f (d + 1) (.mk (.node v a b c e)) := rfl
abbrev GetS (α β : Type) (d : Nat) := TS α β d → (β → Res) → Res
abbrev PutS (α β : Type) (d : Nat) := TS α β d → β → (TS α β d → Res) → Res
def leafG {d : Nat} : Bx (GetS α β (d + 1)) := .mk fun t k => t .bad ((fun k v _ _ _ _ => k v) k)
def downG0 {d : Nat} (B : Bx (GetS α β d)) : Bx (GetS α β (d + 1)) := B.opened fun B => .mk fun t k => t .bad ((fun k _ a _ _ _ => B a k) k)
def downG1 {d : Nat} (B : Bx (GetS α β d)) : Bx (GetS α β (d + 1)) := B.opened fun B => .mk fun t k => t .bad ((fun k _ _ a _ _ => B a k) k)
def downG2 {d : Nat} (B : Bx (GetS α β d)) : Bx (GetS α β (d + 1)) := B.opened fun B => .mk fun t k => t .bad ((fun k _ _ _ a _ => B a k) k)
def downG3 {d : Nat} (B : Bx (GetS α β d)) : Bx (GetS α β (d + 1)) := B.opened fun B => .mk fun t k => t .bad ((fun k _ _ _ _ a => B a k) k)
def pathG (d : Nat) : Nat → Bx (GetS α β d) := Nat.rec (motive := fun d => Nat → Bx (GetS α β d)) (fun i => .mk fun t k => getKR t i fun x => k (f x))
  (fun _ ih i => Nat.rec (motive := fun _ => Bx (GetS α β _)) leafG (fun p _ => fN leafG (Nat.div p 4) fun q => kid (downG0 (ih q)) (downG1 (ih q)) (downG2 (ih q)) (downG3 (ih q)) (Nat.mod p 4)) i) d
def leafP {d : Nat} : Bx (PutS α β (d + 1)) := .mk fun t x k => t .bad ((fun x k _ a b c e => k fun _ s => s x a b c e) x k)
def downP0 {d : Nat} (B : Bx (PutS α β d)) : Bx (PutS α β (d + 1)) := B.opened fun B => .mk fun t x k => t .bad ((fun x k v a b c e => B a x ((fun k v b c e a => k fun _ s => s v a b c e) k v b c e)) x k)
def downP1 {d : Nat} (B : Bx (PutS α β d)) : Bx (PutS α β (d + 1)) := B.opened fun B => .mk fun t x k => t .bad ((fun x k v a b c e => B b x ((fun k v a c e b => k fun _ s => s v a b c e) k v a c e)) x k)
def downP2 {d : Nat} (B : Bx (PutS α β d)) : Bx (PutS α β (d + 1)) := B.opened fun B => .mk fun t x k => t .bad ((fun x k v a b c e => B c x ((fun k v a b e c => k fun _ s => s v a b c e) k v a b e)) x k)
def downP3 {d : Nat} (B : Bx (PutS α β d)) : Bx (PutS α β (d + 1)) := B.opened fun B => .mk fun t x k => t .bad ((fun x k v a b c e => B e x ((fun k v a b c e => k fun _ s => s v a b c e) k v a b c)) x k)
variable (g : β → (α → Res) → Res)
def pathP (d : Nat) : Nat → Bx (PutS α β d) := Nat.rec (motive := fun d => Nat → Bx (PutS α β d)) (fun i => .mk fun t y k => g y fun x => setKR x t i k)
  (fun _ ih i => Nat.rec (motive := fun _ => Bx (PutS α β _)) leafP (fun p _ => fN leafP (Nat.div p 4) fun q => kid (downP0 (ih q)) (downP1 (ih q)) (downP2 (ih q)) (downP3 (ih q)) (Nat.mod p 4)) i) d
def leafI {d : Nat} : Bx (PutS α β (d + 1)) := (nilX d).opened fun z => .mk fun t x k => t (k fun _ s => s x z z z z) (fun _ _ _ _ _ => .bad)
def pathI (d : Nat) : Nat → Bx (PutS α β d) := Nat.rec (motive := fun d => Nat → Bx (PutS α β d)) (fun i => .mk fun t y k => g y fun x => insKR x t i k)
  (fun _ ih i => Nat.rec (motive := fun _ => Bx (PutS α β _)) leafI (fun p _ => fN leafI (Nat.div p 4) fun q => kid (downP0 (ih q)) (downP1 (ih q)) (downP2 (ih q)) (downP3 (ih q)) (Nat.mod p 4)) i) d
def decT (d : Nat) : TS α β d → (Tr α → Res) → Res := Nat.rec (motive := fun d => TS α β d → (Tr α → Res) → Res) (fun t k => k t)
  (fun _ ih t k => t (k (.mk .nil)) fun v a b c e => g v fun v => ih a fun a => ih b fun b => ih c fun c => ih e fun e => k (.mk (.node v a b c e))) d

theorem pathG_eq (d : Nat) : ∀ (i : Nat) (t : Tr α) (k : β → Res), (pathG f d i).go (encT f d t) k = getKR t i fun x => k (f x) := by
  induction d with
  | zero => intro i t k; rfl
  | succ d ih =>
    intro i t k
    obtain ⟨nd⟩ := t
    cases i with
    | zero => cases nd <;> rfl
    | succ p =>
      have key : pathG (β := β) f (d + 1) (p + 1) = kid (downG0 (pathG f d (p / 4))) (downG1 (pathG f d (p / 4))) (downG2 (pathG f d (p / 4))) (downG3 (pathG f d (p / 4))) (p % 4) := rfl
      rw [key]
      cases nd with
      | nil =>
        rcases (by omega : p % 4 = 0 ∨ p % 4 = 1 ∨ p % 4 = 2 ∨ p % 4 = 3) with g | g | g | g <;> rw [g] <;> simp only [kid, downG0, downG1, downG2, downG3, opened_eq] <;> rfl
      | node v a b c e =>
        have k2 : ∀ k : α → Res, getKR (.mk (.node v a b c e)) (p + 1) k = getKR (kid a b c e (p % 4)) (p / 4) k := by
          intro k
          exact getKR_node v a b c e p k
        rw [k2]
        rcases (by omega : p % 4 = 0 ∨ p % 4 = 1 ∨ p % 4 = 2 ∨ p % 4 = 3) with g | g | g | g <;> rw [g] <;> simp only [kid, downG0, downG1, downG2, downG3, opened_eq]
        · exact ih _ a k
        · exact ih _ b k
        · exact ih _ c k
        · exact ih _ e k
end
section
variable {α β : Type}
theorem setFR_two (x : α) : ∀ (f g n : Nat) (t : Tr α) (k : Tr α → Res), n < f → n < g → setFR f t x n k = setFR g t x n k := by
  intro f
  induction f with
  | zero => intro g n t k h; omega
  | succ f ih =>
    intro g n t k h hg
    obtain ⟨g, rfl⟩ : ∃ g', g = g' + 1 := ⟨g - 1, by omega⟩
    obtain ⟨nd⟩ := t
    cases nd with
    | nil => rfl
    | node v a b c d =>
      cases n with
      | zero => rfl
      | succ p =>
        have e : ∀ f, setFR (f + 1) (.mk (.node v a b c d)) x (p + 1) k = kid (fun a b c d v x i ih k => ih a x i (fun a => k (.mk (.node v a b c d)))) (fun a b c d v x i ih k => ih b x i (fun b => k (.mk (.node v a b c d))))
            (fun a b c d v x i ih k => ih c x i (fun c => k (.mk (.node v a b c d)))) (fun a b c d v x i ih k => ih d x i (fun d => k (.mk (.node v a b c d)))) (p % 4) a b c d v x (p / 4) (setFR f) k := fun _ => rfl
        rw [e, e]
        rcases (by omega : p % 4 = 0 ∨ p % 4 = 1 ∨ p % 4 = 2 ∨ p % 4 = 3) with hp | hp | hp | hp <;> rw [hp] <;> exact ih g (p / 4) _ _ (by omega) (by omega)
theorem setKR_node (x v : α) (a b c d : Tr α) (p : Nat) (k : Tr α → Res) : setKR x (.mk (.node v a b c d)) (p + 1) k =
    kid (setKR x a (p / 4) fun a => k (.mk (.node v a b c d))) (setKR x b (p / 4) fun b => k (.mk (.node v a b c d))) (setKR x c (p / 4) fun c => k (.mk (.node v a b c d))) (setKR x d (p / 4) fun d => k (.mk (.node v a b c d))) (p % 4) := by
  have e : setKR x (.mk (.node v a b c d)) (p + 1) k = kid (fun a b c d v x i ih k => ih a x i (fun a => k (.mk (.node v a b c d)))) (fun a b c d v x i ih k => ih b x i (fun b => k (.mk (.node v a b c d))))
      (fun a b c d v x i ih k => ih c x i (fun c => k (.mk (.node v a b c d)))) (fun a b c d v x i ih k => ih d x i (fun d => k (.mk (.node v a b c d)))) (p % 4) a b c d v x (p / 4) (setFR (p + 1)) k := rfl
  rw [e]
  rcases (by omega : p % 4 = 0 ∨ p % 4 = 1 ∨ p % 4 = 2 ∨ p % 4 = 3) with g | g | g | g <;> rw [g] <;> exact setFR_two x (p + 1) (p / 4 + 1) (p / 4) _ _ (by omega) (by omega)
theorem insFR_two (x : α) : ∀ (f g n : Nat) (t : Tr α) (k : Tr α → Res), n < f → n < g → insFR f t x n k = insFR g t x n k := by
  intro f
  induction f with
  | zero => intro g n t k h; omega
  | succ f ih =>
    intro g n t k h hg
    obtain ⟨g, rfl⟩ : ∃ g', g = g' + 1 := ⟨g - 1, by omega⟩
    obtain ⟨nd⟩ := t
    cases nd with
    | nil => cases n <;> rfl
    | node v a b c d =>
      cases n with
      | zero => rfl
      | succ p =>
        have e : ∀ f, insFR (f + 1) (.mk (.node v a b c d)) x (p + 1) k = kid (fun a b c d v x i ih k => ih a x i (fun a => k (.mk (.node v a b c d)))) (fun a b c d v x i ih k => ih b x i (fun b => k (.mk (.node v a b c d))))
            (fun a b c d v x i ih k => ih c x i (fun c => k (.mk (.node v a b c d)))) (fun a b c d v x i ih k => ih d x i (fun d => k (.mk (.node v a b c d)))) (p % 4) a b c d v x (p / 4) (insFR f) k := fun _ => rfl
        rw [e, e]
        rcases (by omega : p % 4 = 0 ∨ p % 4 = 1 ∨ p % 4 = 2 ∨ p % 4 = 3) with hp | hp | hp | hp <;> rw [hp] <;> exact ih g (p / 4) _ _ (by omega) (by omega)
theorem insKR_node (x v : α) (a b c d : Tr α) (p : Nat) (k : Tr α → Res) : insKR x (.mk (.node v a b c d)) (p + 1) k =
    kid (insKR x a (p / 4) fun a => k (.mk (.node v a b c d))) (insKR x b (p / 4) fun b => k (.mk (.node v a b c d))) (insKR x c (p / 4) fun c => k (.mk (.node v a b c d))) (insKR x d (p / 4) fun d => k (.mk (.node v a b c d))) (p % 4) := by
  have e : insKR x (.mk (.node v a b c d)) (p + 1) k = kid (fun a b c d v x i ih k => ih a x i (fun a => k (.mk (.node v a b c d)))) (fun a b c d v x i ih k => ih b x i (fun b => k (.mk (.node v a b c d))))
      (fun a b c d v x i ih k => ih c x i (fun c => k (.mk (.node v a b c d)))) (fun a b c d v x i ih k => ih d x i (fun d => k (.mk (.node v a b c d)))) (p % 4) a b c d v x (p / 4) (insFR (p + 1)) k := rfl
  rw [e]
  rcases (by omega : p % 4 = 0 ∨ p % 4 = 1 ∨ p % 4 = 2 ∨ p % 4 = 3) with g | g | g | g <;> rw [g] <;> exact insFR_two x (p + 1) (p / 4 + 1) (p / 4) _ _ (by omega) (by omega)

variable {f : α → β} {g : β → (α → Res) → Res}
theorem pathP_eq (hg : ∀ x k, g (f x) k = k x) (d : Nat) : ∀ (i : Nat) (x : α) (t : Tr α) (k : TS α β d → Res), (pathP g d i).go (encT f d t) (f x) k = setKR x t i fun t' => k (encT f d t') := by
  induction d with
  | zero => intro i x t k; exact hg x _
  | succ d ih =>
    intro i x t k
    obtain ⟨nd⟩ := t
    cases i with
    | zero => cases nd <;> rfl
    | succ p =>
      have key : pathP g (d + 1) (p + 1) = kid (downP0 (pathP g d (p / 4))) (downP1 (pathP g d (p / 4))) (downP2 (pathP g d (p / 4))) (downP3 (pathP g d (p / 4))) (p % 4) := rfl
      rw [key]
      cases nd with
      | nil =>
        rcases (by omega : p % 4 = 0 ∨ p % 4 = 1 ∨ p % 4 = 2 ∨ p % 4 = 3) with g | g | g | g <;> rw [g] <;> simp only [kid, downP0, downP1, downP2, downP3, opened_eq] <;> rfl
      | node v a b c e =>
        rw [setKR_node]
        rcases (by omega : p % 4 = 0 ∨ p % 4 = 1 ∨ p % 4 = 2 ∨ p % 4 = 3) with g | g | g | g <;> rw [g] <;> simp only [kid, downP0, downP1, downP2, downP3, opened_eq]
        · exact ih _ x a _
        · exact ih _ x b _
        · exact ih _ x c _
        · exact ih _ x e _
theorem pathI_eq (hg : ∀ x k, g (f x) k = k x) (d : Nat) : ∀ (i : Nat) (x : α) (t : Tr α) (k : TS α β d → Res), (pathI g d i).go (encT f d t) (f x) k = insKR x t i fun t' => k (encT f d t') := by
  induction d with
  | zero => intro i x t k; exact hg x _
  | succ d ih =>
    intro i x t k
    obtain ⟨nd⟩ := t
    cases i with
    | zero =>
      cases nd with
      | node => rfl
      | nil =>
        have e : pathI g (d + 1) 0 = leafI := rfl
        rw [e]
        simp only [leafI, opened_eq, go_mk, nilX_go, nilS_eq f]
        rfl
    | succ p =>
      have key : pathI g (d + 1) (p + 1) = kid (downP0 (pathI g d (p / 4))) (downP1 (pathI g d (p / 4))) (downP2 (pathI g d (p / 4))) (downP3 (pathI g d (p / 4))) (p % 4) := rfl
      rw [key]
      cases nd with
      | nil =>
        rcases (by omega : p % 4 = 0 ∨ p % 4 = 1 ∨ p % 4 = 2 ∨ p % 4 = 3) with g | g | g | g <;> rw [g] <;> simp only [kid, downP0, downP1, downP2, downP3, opened_eq] <;> rfl
      | node v a b c e =>
        rw [insKR_node]
        rcases (by omega : p % 4 = 0 ∨ p % 4 = 1 ∨ p % 4 = 2 ∨ p % 4 = 3) with g | g | g | g <;> rw [g] <;> simp only [kid, downP0, downP1, downP2, downP3, opened_eq]
        · exact ih _ x a _
        · exact ih _ x b _
        · exact ih _ x c _
        · exact ih _ x e _
theorem decT_eq (hg : ∀ x k, g (f x) k = k x) (d : Nat) : ∀ (t : Tr α) (k : Tr α → Res), decT g d (encT f d t) k = k t := by
  induction d with
  | zero => intros; rfl
  | succ d ih =>
    intro t k
    obtain ⟨nd⟩ := t
    cases nd with
    | nil => rfl
    | node v a b c e =>
      show g (f v) (fun v => decT g d (encT f d a) fun a => decT g d (encT f d b) fun b => decT g d (encT f d c) fun c => decT g d (encT f d e) fun e => k (.mk (.node v a b c e))) = _
      simp only [hg, ih]
end

/-! Frames and heaps, as functions -/
section
variable (D : Nat)
abbrev TmS := TS CV V D
abbrev encM (t : Tm) : TmS D := encT encV D t
def BS : Type := (Nat → Bool → Nat → Nat → TmS D → Res) → (CB → Res) → Res
def bCells (te : Nat) (lo : Bool) (es sz : Nat) (cs : TmS D) : BS D := fun f _ => f te lo es sz cs
def bOth (cb : CB) : BS D := fun _ o => o cb
def encB (cb : CB) : BS D := CB.rec (motive := fun _ => BS D) (bOth D .none) (fun te lo es sz cs => bCells D te lo es sz (encM D cs)) (fun es c => bOth D (.map es c)) (fun a b c d e f g h => bOth D (.loop a b c d e f g h)) (fun b => bOth D (.dfd b)) cb
def decB (b : BS D) (k : CB → Res) : Res := b (fun te lo es sz cs => decT decV D cs fun cs => k (.cells te lo es sz cs)) k
theorem decB_enc (cb : CB) (k : CB → Res) : decB D (encB D cb) k = k cb := by
  cases cb with
  | cells te lo es sz cs =>
    show decT decV D (encT encV D cs) (fun cs => k (.cells te lo es sz cs)) = _
    rw [decT_eq decV_enc]
  | none => rfl
  | map es c => rfl
  | loop a b c d e f g h => rfl
  | dfd b => rfl
abbrev HS := TS CB (BS D) D
abbrev encH (h : Hp) : HS D := encT (encB D) D h
def gT (i : Nat) : Bx (GetS CV V D) := pathG encV D i
def pT (i : Nat) : Bx (PutS CV V D) := pathP decV D i
def iT (i : Nat) : Bx (PutS CV V D) := pathI decV D i
def gH (i : Nat) : Bx (GetS CB (BS D) D) := pathG (encB D) D i
def pH (i : Nat) : Bx (PutS CB (BS D) D) := pathP (decB D) D i
def iH (i : Nat) : Bx (PutS CB (BS D) D) := pathI (decB D) D i
theorem gT_eq (i : Nat) (t : Tm) (k : V → Res) : (gT D i).go (encM D t) k = getKR t i fun x => k (encV x) := pathG_eq encV D i t k
theorem pT_eq (i : Nat) (c : CV) (t : Tm) (k : TmS D → Res) : (pT D i).go (encM D t) (encV c) k = setKR c t i fun t' => k (encM D t') := pathP_eq decV_enc D i c t k
theorem iT_eq (i : Nat) (c : CV) (t : Tm) (k : TmS D → Res) : (iT D i).go (encM D t) (encV c) k = insKR c t i fun t' => k (encM D t') := pathI_eq decV_enc D i c t k
theorem gH_eq (i : Nat) (h : Hp) (k : BS D → Res) : (gH D i).go (encH D h) k = getKR h i fun x => k (encB D x) := pathG_eq (encB D) D i h k
theorem pH_eq (i : Nat) (c : CB) (h : Hp) (k : HS D → Res) : (pH D i).go (encH D h) (encB D c) k = setKR c h i fun t' => k (encH D t') := pathP_eq (decB_enc D) D i c h k
theorem iH_eq (i : Nat) (c : CB) (h : Hp) (k : HS D → Res) : (iH D i).go (encH D h) (encB D c) k = insKR c h i fun t' => k (encH D t') := pathI_eq (decB_enc D) D i c h k
def scott : Sig (TmS D) (HS D) where
  gT := fun t i k => (gT D i).go t fun v => decV v k
  sT := fun c t i k => (pT D i).go t (encV c) k
  gH := fun h i k => (gH D i).go h fun b => decB D b k
  sH := fun cb h i k => (pH D i).go h (encB D cb) k
  iH := fun cb h i k => (iH D i).go h (encB D cb) k
  dT := fun t k => decT decV D t k
  nT := encM D
theorem law : Law (scott D) (encM D) (encH D) where
  gT := fun t i k => by show ((gT D i).go (encM D t) (fun v => decV v k)).val = _; rw [gT_eq]; simp only [decV_enc, getKR_val]
  sT := fun c t i k => by show ((pT D i).go (encM D t) (encV c) k).val = _; rw [pT_eq, setKR_val]
  gH := fun h b k => by show ((gH D b).go (encH D h) (fun v => decB D v k)).val = _; rw [gH_eq]; simp only [decB_enc D, getKR_val]
  sH := fun cb h b k => by show ((pH D b).go (encH D h) (encB D cb) k).val = _; rw [pH_eq, setKR_val]
  iH := fun cb h b k => by show ((iH D b).go (encH D h) (encB D cb) k).val = _; rw [iH_eq, insKR_val]
  dT := fun t k => by show (decT decV D (encT encV D t) k).val = _; rw [decT_eq decV_enc]
  nT := fun _ => rfl
end
end
end Go.Ev

namespace Go.Ev
noncomputable section

abbrev CallS (D : Nat) := Fn → List V → Tab → HS D → Nat → (V → Tab → HS D → Nat → Res) → Res
inductive Cx (D : Nat) where
  | mk (call : CallS D) (d : List DF) (tab : Tab)
abbrev KO (D : Nat) := Cx D → TmS D → HS D → Nat → Res
abbrev OpF (D : Nat) := Cx D → TmS D → HS D → Nat → KO D → Res
abbrev VK (D : Nat) := Cx D → TmS D → HS D → Nat → KO D → V → Res
abbrev GetV (D : Nat) := TmS D → (V → Res) → Res
abbrev PutV (D : Nat) := TmS D → V → (TmS D → Res) → Res
def encVs (l : List CV) : List V := List.rec (motive := fun _ => List V) [] (fun c _ ih => encV c :: ih) l
def decVs (l : List V) : (List CV → Res) → Res := List.rec (motive := fun _ => (List CV → Res) → Res) (fun k => k []) (fun v _ ih k => decV v fun c => ih fun cs => k (c :: cs)) l

/-! Handlers that fail -/
def fI : IntKind → Nat → Res := fun _ _ => .bad
def fS : Nat → Nat → Res := fun _ _ => .bad
def fL : Nat → Nat → Nat → Nat → Res := fun _ _ _ _ => .bad
def fA : List CV → Res := fun _ => .bad
def fO : CV → Res := fun _ => .bad
def fC : CB → Res := fun _ => .bad
def vUndef : V := vOth (.tup [])

/-! Views of the rarer values -/
/-- a tuple? -/
def tupB (v : CV) (y n : Res) : Res := CV.rec (motive_1 := fun _ => Res) (motive_2 := fun _ => PUnit.{1}) (fun _ => n) (fun _ _ => n) (fun _ _ => n) n (fun _ _ => n) n (fun _ _ _ _ => n) n n (fun _ => n) (fun _ _ _ _ _ => n) (fun _ => n) n (fun _ _ _ => n) n (fun _ _ => n) (fun _ _ => y) (fun _ _ => n) (fun _ _ => n) (fun _ _ _ _ _ => n) (fun _ _ _ => n) (fun _ => n) .unit (fun _ _ _ _ => .unit) v
def tupL (v : CV) (k : List CV → Res) : Res := CV.rec (motive_1 := fun _ => Res) (motive_2 := fun _ => PUnit.{1}) (fun _ => .bad) (fun _ _ => .bad) (fun _ _ => .bad) .bad (fun _ _ => .bad) .bad (fun _ _ _ _ => .bad) .bad .bad (fun _ => .bad) (fun _ _ _ _ _ => .bad) (fun _ => .bad) .bad (fun _ _ _ => .bad) .bad (fun _ _ => .bad) (fun x0 _ => k x0) (fun _ _ => .bad) (fun _ _ => .bad) (fun _ _ _ _ _ => .bad) (fun _ _ _ => .bad) (fun _ => .bad) .unit (fun _ _ _ _ => .unit) v
/-- no pointer? -/
def nilB (v : CV) (y n : Res) : Res := CV.rec (motive_1 := fun _ => Res) (motive_2 := fun _ => PUnit.{1}) (fun _ => n) (fun _ _ => n) (fun _ _ => n) y (fun _ _ => n) n (fun _ _ _ _ => n) n n (fun _ => n) (fun _ _ _ _ _ => n) (fun _ => n) n (fun _ _ _ => n) n (fun _ _ => n) (fun _ _ => n) (fun _ _ => n) (fun _ _ => n) (fun _ _ _ _ _ => n) (fun _ _ _ => n) (fun _ => n) .unit (fun _ _ _ _ => .unit) v
def sl0B (v : CV) (y n : Res) : Res := CV.rec (motive_1 := fun _ => Res) (motive_2 := fun _ => PUnit.{1}) (fun _ => n) (fun _ _ => n) (fun _ _ => n) n (fun _ _ => n) y (fun _ _ _ _ => n) n n (fun _ => n) (fun _ _ _ _ _ => n) (fun _ => n) n (fun _ _ _ => n) n (fun _ _ => n) (fun _ _ => n) (fun _ _ => n) (fun _ _ => n) (fun _ _ _ _ _ => n) (fun _ _ _ => n) (fun _ => n) .unit (fun _ _ _ _ => .unit) v
/-- a value, laid as a function -/
def encK (v : CV) (k : V → Res) : Res := CV.rec (motive_1 := fun _ => Res) (motive_2 := fun _ => PUnit.{1}) (fun x0 => Bool.rec (motive := fun _ => Res) (k vFalse) (k vTrue) x0) (fun x0 x1 => Int.rec (motive := fun _ => Res) (fun m => k (vInt x0 m)) (fun m => k (vOth (.int x0 (.negSucc m)))) x1) (fun x0 x1 => k (vStr x0 x1)) (k (vOth .ptr0)) (fun x0 x1 => k (vPtr x0 x1)) (k (vOth .sl0)) (fun x0 x1 x2 x3 => k (vSl x0 x1 x2 x3)) (k (vOth .slE)) (k (vOth .map0)) (fun x0 => k (vOth (.map x0))) (fun x0 x1 x2 _ _ => k (vOth (.fn x0 x1 x2))) (fun x0 => k (vOth (.yld x0))) (k (vOth .fn0)) (fun x0 x1 _ => k (vOth (.ifc x0 x1))) (k (vOth .ifc0)) (fun x0 _ => k (vAgg x0)) (fun x0 _ => k (vOth (.tup x0))) (fun x0 x1 => k (vOth (.sym x0 x1))) (fun x0 x1 => k (vOth (.ssym x0 x1))) (fun x0 x1 x2 x3 x4 => k (vOth (.symr x0 x1 x2 x3 x4))) (fun x0 x1 x2 => k (vOth (.lin x0 x1 x2))) (fun x0 => k (vOth (.lstr x0))) .unit (fun _ _ _ _ => .unit) v
/-- the same, of one cell -/
def encOne (v : CV) (k : V → Res) : Res := CV.rec (motive_1 := fun _ => Res) (motive_2 := fun _ => PUnit.{1}) (fun x0 => Bool.rec (motive := fun _ => Res) (k vFalse) (k vTrue) x0) (fun x0 x1 => Int.rec (motive := fun _ => Res) (fun m => k (vInt x0 m)) (fun m => k (vOth (.int x0 (.negSucc m)))) x1) (fun x0 x1 => k (vStr x0 x1)) (k (vOth .ptr0)) (fun x0 x1 => k (vPtr x0 x1)) (k (vOth .sl0)) (fun x0 x1 x2 x3 => k (vSl x0 x1 x2 x3)) (k (vOth .slE)) (k (vOth .map0)) (fun x0 => k (vOth (.map x0))) (fun x0 x1 x2 _ _ => k (vOth (.fn x0 x1 x2))) (fun x0 => k (vOth (.yld x0))) (k (vOth .fn0)) (fun x0 x1 _ => k (vOth (.ifc x0 x1))) (k (vOth .ifc0)) (fun _ _ => .bad) (fun _ _ => .bad) (fun x0 x1 => k (vOth (.sym x0 x1))) (fun x0 x1 => k (vOth (.ssym x0 x1))) (fun x0 x1 x2 x3 x4 => k (vOth (.symr x0 x1 x2 x3 x4))) (fun x0 x1 x2 => k (vOth (.lin x0 x1 x2))) (fun x0 => k (vOth (.lstr x0))) .unit (fun _ _ _ _ => .unit) v
def ikN (k : IntKind) : Nat := IntKind.rec (motive := fun _ => Nat) 0 1 2 3 4 5 6 7 k
def maxN (k : IntKind) : Nat := IntKind.rec (motive := fun _ => Nat) 127 32767 2147483647 9223372036854775807 255 65535 4294967295 18446744073709551615 k
section
variable {D : Nat}
/-- a trie whose first node is worked out -/
def forceT {α β : Type} (d : Nat) : TS α β d → (TS α β d → Res) → Res := Nat.rec (motive := fun d => TS α β d → (TS α β d → Res) → Res) (fun t k => k t) (fun d _ t k => t (k (nilS (d + 1))) ((fun k v a b c e => k (nodeS v a b c e)) k)) d
theorem forceT_eq {α β : Type} (f : α → β) (d : Nat) (t : Tr α) (k : TS α β d → Res) : forceT d (encT f d t) k = k (encT f d t) := by
  cases d with
  | zero => rfl
  | succ d =>
    obtain ⟨nd⟩ := t
    cases nd with
    | nil => rw [← nilS_eq f (d + 1)]; rfl
    | node v a b c e => rfl
/-- a machine whose parts are worked out -/
def mM (m : MX (HS D)) (k : Tab → HS D → Nat → Res) : Res := forceT D m.h fun h => fN .bad m.n fun n => Tab.rec (motive := fun _ => Res) (fun iv ne => k ⟨iv, ne⟩ h n) m.tab
theorem mM_enc (h : Hp) (n : Nat) (tab : Tab) (k : Tab → HS D → Nat → Res) : mM ⟨encH D h, n, tab⟩ k = k tab (encH D h) n := by
  unfold mM
  show forceT D (encT (encB D) D h) _ = _
  rw [forceT_eq]
  rfl
def unS (call : CallS D) : CallX (HS D) := fun f args m k => mM m fun tab h n => call f (encVs args) tab h n fun v tab h n => decV v fun c => k c ⟨h, n, tab⟩

/-! Operands -/
def getC (c : CV) : Bx (GetV D) := match c with
  | .bool b => match b with | true => .mk fun _ k => k vTrue | false => .mk fun _ k => k vFalse
  | .int kd a => match a with
    | .ofNat n => fN (.mk fun _ k => k (vInt kd n)) n fun n => .mk fun _ k => k (vInt kd n)
    | .negSucc n => fN (.mk fun _ k => k (vOth (.int kd (.negSucc n)))) n fun n => .mk fun _ k => k (vOth (.int kd (.negSucc n)))
  | .str l x => fN (.mk fun _ k => k (vStr l x)) l fun l => fN (.mk fun _ k => k (vStr l x)) x fun x => .mk fun _ k => k (vStr l x)
  | c => .mk fun _ k => k (encV c)
def getS (G : Nat → Bool) (x : Operand) : Bx (GetV D) := match x with
  | .tmp i => gT D i
  | .const v => match ofValue v with | some c => getC c | none => .mk fun _ _ => .bad
  | .global g => match G g with | true => .mk fun _ k => k (vPtr g 0) | false => .mk fun _ _ => .bad
  | .func f => .mk fun _ k => k (vOth (.fn (.func f) [] []))
def putS (d : Option Tmp) : Bx (PutV D) := match d with
  | none => .mk fun t _ k => k t
  | some d => pT D d
def putW (d : Option Tmp) : Bx (VK D) := (putS d).opened fun W => .mk fun c t h n k v => W t v ((fun c h n k t => k c t h n) c h n k)
def getsS (G : Nat → Bool) (xs : List Operand) : Bx (TmS D → (List V → Res) → Res) :=
  lrec (.mk fun _ k => k []) (fun x _ ih => (getS G x).opened fun X => ih.opened fun R => .mk fun t k => X t ((fun t k v => R t ((fun k v vs => k (v :: vs)) k v)) t k)) xs
/-- the values as they are laid in an aggregate -/
def getCs (G : Nat → Bool) (xs : List Operand) : Bx (TmS D → (List CV → Res) → Res) :=
  lrec (.mk fun _ k => k []) (fun x _ ih => (getS G x).opened fun X => ih.opened fun R => .mk fun t k => X t ((fun t k v => decV v ((fun t k c => R t ((fun k c cs => k (c :: cs)) k c)) t k)) t k)) xs

/-! Operations -/
def slowS (P : Program) (G : Nat → Bool) (rd : Bool) (ops : Array Oper) (o : Oper) : Bx (OpF D) :=
  .mk fun c t h n k => Cx.rec (motive := fun _ => TmS D → HS D → Nat → KO D → Res) (fun call d tab t h n k => operCR (scott D) P G rd (unS call) ops o t d ⟨h, n, tab⟩ fun t d m => mM m fun tab h n => k (.mk call d tab) t h n) c t h n k
def valS (W : Bx (VK D)) (X : Bx (GetV D)) : Bx (OpF D) := W.opened fun W => X.opened fun X => .mk fun c t h n k => X t (W c t h n k)
def pickS (W : Bx (VK D)) (X A B : Bx (GetV D)) : Bx (OpF D) := W.opened fun W => X.opened fun X => A.opened fun A => B.opened fun B => .mk fun c t h n k =>
  X t ((fun c t h n k v => v (A t (W c t h n k)) (B t (W c t h n k)) fI fS fS fL fA fO) c t h n k)
def notS (W : Bx (VK D)) (X : Bx (GetV D)) : Bx (OpF D) := W.opened fun W => X.opened fun X => .mk fun c t h n k =>
  X t ((fun c t h n k v => v (W c t h n k vFalse) (W c t h n k vTrue) fI fS fS fL fA fO) c t h n k)
/-- what comes at a pointer -/
abbrev PtrF (D : Nat) := Cx D → TmS D → HS D → Nat → KO D → Nat → Nat → Res
def atPtr (X : Bx (GetV D)) (F : Bx (PtrF D)) : Bx (OpF D) := X.opened fun X => F.opened fun F => .mk fun c t h n k =>
  X t ((fun c t h n k v => v .bad .bad fI fS (F c t h n k) fL fA fO) c t h n k)
abbrev BlkF (D : Nat) := Cx D → TmS D → HS D → Nat → KO D → Nat → Nat → Nat → Bool → Nat → Nat → TmS D → Res
/-- what comes at a block of cells -/
def atBlk (F : Bx (BlkF D)) : Bx (PtrF D) := F.opened fun F => .mk fun c t h n k b i => (gH D b).go h ((fun c t h n k b i bs => bs (F c t h n k b i) fC) c t h n k b i)
def loadS (W : Bx (VK D)) (X : Bx (GetV D)) : Bx (OpF D) := atPtr X (atBlk (W.opened fun W => .mk fun c t h n k _ i _ _ _ _ cs => (gT D i).go cs (W c t h n k)))
def loadNB (n : Nat) : Bx (TmS D → Nat → (List CV → Res) → Res) := Nat.rec (motive := fun _ => Bx (TmS D → Nat → (List CV → Res) → Res)) (.mk fun _ _ k => k [])
  (fun _ ih => ih.opened fun R => .mk fun cs i k => (gT D i).go cs ((fun cs i k v => decV v ((fun cs i k c => fN .bad (Nat.succ i) ((fun cs k c i => R cs i ((fun k c l => k (c :: l)) k c)) cs k c)) cs i k)) cs i k)) n
def loadsS (W : Bx (VK D)) (X : Bx (GetV D)) (sz : Nat) : Bx (OpF D) := atPtr X (atBlk (W.opened fun W => (loadNB sz).opened fun R => .mk fun c t h n k _ i _ _ _ _ cs => R cs i ((fun c t h n k l => W c t h n k (vAgg l)) c t h n k)))
def oneS (w : V) (K s : Res) : Res := w K K (fun _ _ => K) (fun _ _ => K) (fun _ _ => K) (fun _ _ _ _ => K) (fun _ => s) (fun c => tupB c s K)
/-- a store into one cell -/
def stB (W : Bx (VK D)) (Y : Bx (GetV D)) (S : Bx (OpF D)) : Bx (PtrF D) := W.opened fun W => Y.opened fun Y => .mk fun c t h n k b i =>
  Y t ((fun c t h n k b i w => oneS w ((gH D b).go h ((fun c t h n k b i w bs => bs ((fun c t h n k b i w te lo es sz cs => (pT D i).go cs w
    ((fun c t h n k b te lo es sz cs => (pH D b).go h (bCells D te lo es sz cs) ((fun c t n k h => W c t h n k vUndef) c t n k)) c t h n k b te lo es sz)) c t h n k b i w) fC) c t h n k b i w)) (S.go c t h n k)) c t h n k b i)
def storeS (S : Bx (OpF D)) (W : Bx (VK D)) (X Y : Bx (GetV D)) : Bx (OpF D) := atPtr X (stB W Y S)
def storeNB (n : Nat) : Bx (List CV → TmS D → Nat → (TmS D → Res) → Res) := Nat.rec (motive := fun _ => Bx (List CV → TmS D → Nat → (TmS D → Res) → Res))
  (.mk fun l cs _ k => List.rec (motive := fun _ => Res) (k cs) (fun _ _ _ => .bad) l)
  (fun _ ih => ih.opened fun R => .mk fun l cs i k => List.rec (motive := fun _ => TmS D → Nat → (TmS D → Res) → Res) (fun _ _ _ => .bad)
    (fun v l _ cs i k => encOne v ((fun l cs i k x => (pT D i).go cs x ((fun l i k cs => fN .bad (Nat.succ i) ((fun l k cs i => R l cs i k) l k cs)) l i k)) l cs i k)) l cs i k) n
def stsB (W : Bx (VK D)) (Y : Bx (GetV D)) (S : Bx (OpF D)) (sz : Nat) : Bx (PtrF D) := W.opened fun W => Y.opened fun Y => (storeNB sz).opened fun R => .mk fun c t h n k b i =>
  Y t ((fun c t h n k b i w => w (S.go c t h n k) (S.go c t h n k) (fun _ _ => S.go c t h n k) (fun _ _ => S.go c t h n k) (fun _ _ => S.go c t h n k) (fun _ _ _ _ => S.go c t h n k)
    ((fun c t h n k b i l => (gH D b).go h ((fun c t h n k b i l bs => bs ((fun c t h n k b i l te lo es sz cs => R l cs i
      ((fun c t h n k b te lo es sz cs => (pH D b).go h (bCells D te lo es sz cs) ((fun c t n k h => W c t h n k vUndef) c t n k)) c t h n k b te lo es sz)) c t h n k b i l) fC) c t h n k b i l)) c t h n k b i)
    (fun _ => S.go c t h n k)) c t h n k b i)
def storesS (S : Bx (OpF D)) (W : Bx (VK D)) (X Y : Bx (GetV D)) (sz : Nat) : Bx (OpF D) := atPtr X (stsB W Y S sz)
/-- numbers -/
abbrev NatF := IntKind → Nat → Nat → (V → Res) → Res → Res
def wrapN (kd : IntKind) (k : V → Res) (s : Res) (r : Nat) : Res := bIf (Nat.ble r (maxN kd)) (k (vInt kd r)) s
def addN : Bx NatF := .mk fun kd a b k s => fN .bad (Nat.add a b) (wrapN kd k s)
def subN : Bx NatF := .mk fun kd a b k s => bIf (Nat.ble b a) (fN .bad (Nat.sub a b) (wrapN kd k s)) s
def mulN : Bx NatF := .mk fun kd a b k s => fN .bad (Nat.mul a b) (wrapN kd k s)
def quoN : Bx NatF := .mk fun kd a b k s => bIf (Nat.ble 1 b) (fN .bad (Nat.div a b) (wrapN kd k s)) s
def remN : Bx NatF := .mk fun kd a b k s => bIf (Nat.ble 1 b) (fN .bad (Nat.mod a b) ((fun kd k r => k (vInt kd r)) kd k)) s
def eqlN : Bx NatF := .mk fun _ a b k _ => bIf (Nat.beq a b) (k vTrue) (k vFalse)
def neqN : Bx NatF := .mk fun _ a b k _ => bIf (Nat.beq a b) (k vFalse) (k vTrue)
def lssN : Bx NatF := .mk fun _ a b k _ => bIf (Nat.ble b a) (k vFalse) (k vTrue)
def leqN : Bx NatF := .mk fun _ a b k _ => bIf (Nat.ble a b) (k vTrue) (k vFalse)
def gtrN : Bx NatF := .mk fun _ a b k _ => bIf (Nat.ble a b) (k vFalse) (k vTrue)
def geqN : Bx NatF := .mk fun _ a b k _ => bIf (Nat.ble b a) (k vTrue) (k vFalse)
def natOp (op : BinOp) : Option (Bx NatF) := match op with
  | .add => some addN | .sub => some subN | .mul => some mulN | .quo => some quoN | .rem => some remN
  | .eql => some eqlN | .neq => some neqN | .lss => some lssN | .leq => some leqN | .gtr => some gtrN | .geq => some geqN
  | _ => none
abbrev StrF := Nat → Nat → Nat → Nat → (V → Res) → Res → Res
def addT : Bx StrF := .mk fun l c l' c' k s => fN .bad (Nat.add l l') ((fun c l' c' k s m => bIf (Nat.ble m 1000000) (fN .bad (Nat.add (Nat.mul c (Nat.pow 256 l')) c') ((fun m k x => k (vStr m x)) m k)) s) c l' c' k s)
def eqlT : Bx StrF := .mk fun l c l' c' k _ => bIf (Nat.beq l l') (bIf (Nat.beq c c') (k vTrue) (k vFalse)) (k vFalse)
def neqT : Bx StrF := .mk fun l c l' c' k _ => bIf (Nat.beq l l') (bIf (Nat.beq c c') (k vFalse) (k vTrue)) (k vTrue)
def strOpS (op : BinOp) : Option (Bx StrF) := match op with
  | .add => some addT | .eql => some eqlT | .neq => some neqT
  | _ => none
def binNS (S : Bx (OpF D)) (W : Bx (VK D)) (X Y : Bx (GetV D)) (F : Bx NatF) : Bx (OpF D) := W.opened fun W => X.opened fun X => Y.opened fun Y => F.opened fun F => .mk fun c t h n k =>
  X t ((fun s c t h n k v => v s s
    ((fun s c t h n k kd a => Y t ((fun s c t h n k kd a w => w s s
      ((fun s c t h n k kd a kd' b => bIf (Nat.beq (ikN kd) (ikN kd')) (F kd a b (W c t h n k) s) s) s c t h n k kd a)
      (fun _ _ => s) (fun _ _ => s) (fun _ _ _ _ => s) (fun _ => s) (fun _ => s)) s c t h n k kd a)) s c t h n k)
    (fun _ _ => s) (fun _ _ => s) (fun _ _ _ _ => s) (fun _ => s) (fun _ => s)) (S.go c t h n k) c t h n k)
def binTS (S : Bx (OpF D)) (W : Bx (VK D)) (X Y : Bx (GetV D)) (F : Bx StrF) : Bx (OpF D) := W.opened fun W => X.opened fun X => Y.opened fun Y => F.opened fun F => .mk fun c t h n k =>
  X t ((fun s c t h n k v => v s s (fun _ _ => s)
    ((fun s c t h n k l x => Y t ((fun s c t h n k l x w => w s s (fun _ _ => s)
      ((fun s c t h n k l x l' x' => F l x l' x' (W c t h n k) s) s c t h n k l x)
      (fun _ _ => s) (fun _ _ _ _ => s) (fun _ => s) (fun _ => s)) s c t h n k l x)) s c t h n k)
    (fun _ _ => s) (fun _ _ _ _ => s) (fun _ => s) (fun _ => s)) (S.go c t h n k) c t h n k)
/-- a pointer against none -/
def binPS (S : Bx (OpF D)) (W : Bx (VK D)) (X Y : Bx (GetV D)) (same other : V) : Bx (OpF D) := W.opened fun W => X.opened fun X => Y.opened fun Y => .mk fun c t h n k =>
  X t ((fun s c t h n k v => v s s (fun _ _ => s) (fun _ _ => s)
    ((fun s c t h n k _ _ => Y t ((fun s c t h n k w => w s s (fun _ _ => s) (fun _ _ => s) (fun _ _ => s) (fun _ _ _ _ => s) (fun _ => s)
      ((fun s c t h n k cv => nilB cv (W c t h n k other) s) s c t h n k)) s c t h n k)) s c t h n k)
    (fun _ _ _ _ => s) (fun _ => s)
    ((fun s c t h n k cv => nilB cv (Y t ((fun s c t h n k w => w s s (fun _ _ => s) (fun _ _ => s) (fun _ _ => W c t h n k other) (fun _ _ _ _ => s) (fun _ => s)
      ((fun s c t h n k cv => nilB cv (W c t h n k same) s) s c t h n k)) s c t h n k)) s) s c t h n k)) (S.go c t h n k) c t h n k)
def faddrS (W : Bx (VK D)) (X : Bx (GetV D)) (off : Nat) : Bx (OpF D) := atPtr X (W.opened fun W => .mk fun c t h n k b i => fN .bad (Nat.add i off) ((fun c t h n k b i => W c t h n k (vPtr b i)) c t h n k b))
def nthK (l : List CV) : Nat → (CV → Res) → Res :=
  List.rec (motive := fun _ => Nat → (CV → Res) → Res) (fun _ _ => .bad) (fun a _ ih i k => Nat.rec (motive := fun _ => Res) (k a) (fun j _ => ih j k) i) l
def fieldS (W : Bx (VK D)) (X : Bx (GetV D)) (off : Nat) : Bx (OpF D) := W.opened fun W => X.opened fun X => .mk fun c t h n k => X t ((fun c t h n k v => v .bad .bad fI fS fS fL
  ((fun c t h n k l => nthK l off ((fun c t h n k cv => encK cv (W c t h n k)) c t h n k)) c t h n k) fO) c t h n k)
def extrS (W : Bx (VK D)) (X : Bx (GetV D)) (i : Nat) : Bx (OpF D) := W.opened fun W => X.opened fun X => .mk fun c t h n k => X t ((fun c t h n k v => v .bad .bad fI fS fS fL fA
  ((fun c t h n k cv => tupL cv ((fun c t h n k l => nthK l i ((fun c t h n k cv => encK cv (W c t h n k)) c t h n k)) c t h n k)) c t h n k)) c t h n k)
/-- two operands, of which the second is a number -/
def nat2 (S : Bx (OpF D)) (Y : Bx (GetV D)) (F : Bx (Cx D → TmS D → HS D → Nat → KO D → Nat → Res)) : Bx (OpF D) := Y.opened fun Y => F.opened fun F => .mk fun c t h n k =>
  Y t ((fun s c t h n k w => w s s ((fun c t h n k _ i => F c t h n k i) c t h n k) (fun _ _ => s) (fun _ _ => s) (fun _ _ _ _ => s) (fun _ => s) (fun _ => s)) (S.go c t h n k) c t h n k)
def indexS (S : Bx (OpF D)) (W : Bx (VK D)) (X Y : Bx (GetV D)) : Bx (OpF D) := W.opened fun W => X.opened fun X => Y.opened fun Y => .mk fun c t h n k =>
  X t ((fun s c t h n k v => v s s (fun _ _ => s)
    ((fun s c t h n k l x => Y t ((fun s c t h n k l x w => w s s
      ((fun c t h n k l x _ i => bIf (Nat.ble (Nat.succ i) l) (fN .bad (Nat.mod (Nat.div x (Nat.pow 256 (Nat.sub (Nat.sub l 1) i))) 256) ((fun c t h n k b => W c t h n k (vInt .u8 b)) c t h n k)) .bad) c t h n k l x)
      (fun _ _ => s) (fun _ _ => s) (fun _ _ _ _ => s) (fun _ => s) (fun _ => s)) s c t h n k l x)) s c t h n k)
    (fun _ _ => s) (fun _ _ _ _ => s) (fun _ => s) (fun _ => s)) (S.go c t h n k) c t h n k)
def iaddrS (S : Bx (OpF D)) (W : Bx (VK D)) (X Y : Bx (GetV D)) (sz : Nat) : Bx (OpF D) := W.opened fun W => X.opened fun X => Y.opened fun Y => .mk fun c t h n k =>
  X t ((fun s c t h n k v => v s s (fun _ _ => s) (fun _ _ => s) (fun _ _ => s)
    ((fun s c t h n k b off l _ => Y t ((fun s c t h n k b off l w => w s s
      ((fun c t h n k b off l _ i => bIf (Nat.ble (Nat.succ i) l) (fN .bad (Nat.add off (Nat.mul i sz)) ((fun c t h n k b i => W c t h n k (vPtr b i)) c t h n k b)) .bad) c t h n k b off l)
      (fun _ _ => s) (fun _ _ => s) (fun _ _ _ _ => s) (fun _ => s) (fun _ => s)) s c t h n k b off l)) s c t h n k)
    (fun _ => s) (fun _ => s)) (S.go c t h n k) c t h n k)
def lenTS (S : Bx (OpF D)) (W : Bx (VK D)) (X : Bx (GetV D)) : Bx (OpF D) := W.opened fun W => X.opened fun X => .mk fun c t h n k => X t ((fun s c t h n k v => v s s (fun _ _ => s)
  ((fun c t h n k l _ => W c t h n k (vInt .i64 l)) c t h n k) (fun _ _ => s) (fun _ _ _ _ => s) (fun _ => s) (fun _ => s)) (S.go c t h n k) c t h n k)
def lenLS (S : Bx (OpF D)) (W : Bx (VK D)) (X : Bx (GetV D)) : Bx (OpF D) := W.opened fun W => X.opened fun X => .mk fun c t h n k => X t ((fun s c t h n k v => v s s (fun _ _ => s) (fun _ _ => s) (fun _ _ => s)
  ((fun c t h n k _ _ l _ => W c t h n k (vInt .i64 l)) c t h n k) (fun _ => s) ((fun s c t h n k cv => sl0B cv (W c t h n k (vInt .i64 0)) s) s c t h n k)) (S.go c t h n k) c t h n k)
def convNS (S : Bx (OpF D)) (W : Bx (VK D)) (X : Bx (GetV D)) (kd : IntKind) : Bx (OpF D) := W.opened fun W => X.opened fun X => .mk fun c t h n k => X t ((fun s c t h n k v => v s s
  ((fun s c t h n k _ a => bIf (Nat.ble a (maxN kd)) (W c t h n k (vInt kd a)) s) s c t h n k) (fun _ _ => s) (fun _ _ => s) (fun _ _ _ _ => s) (fun _ => s) (fun _ => s)) (S.go c t h n k) c t h n k)
def convTS (S : Bx (OpF D)) (W : Bx (VK D)) (X : Bx (GetV D)) : Bx (OpF D) := W.opened fun W => X.opened fun X => .mk fun c t h n k => X t ((fun s c t h n k v => v s s (fun _ _ => s)
  ((fun c t h n k l x => W c t h n k (vStr l x)) c t h n k) (fun _ _ => s) (fun _ _ _ _ => s) (fun _ => s) (fun _ => s)) (S.go c t h n k) c t h n k)
def ifcS (W : Bx (VK D)) (X : Bx (GetV D)) (ty : TypeId) : Bx (OpF D) := W.opened fun W => X.opened fun X => .mk fun c t h n k => X t ((fun c t h n k v => decV v ((fun c t h n k cv => W c t h n k (vOth (.ifc ty cv))) c t h n k)) c t h n k)
def nilcS (S : Bx (OpF D)) (W : Bx (VK D)) (X : Bx (GetV D)) : Bx (OpF D) := W.opened fun W => X.opened fun X => .mk fun c t h n k => X t ((fun s c t h n k v => v s s (fun _ _ => s) (fun _ _ => s)
  ((fun c t h n k b i => W c t h n k (vPtr b i)) c t h n k) (fun _ _ _ _ => s) (fun _ => s) (fun _ => s)) (S.go c t h n k) c t h n k)
def callS1 (W : Bx (VK D)) (X : Bx (TmS D → (List V → Res) → Res)) (f : FuncId) : Bx (OpF D) := W.opened fun W => X.opened fun X => .mk fun c t h n k => X t ((fun c t h n k as => Cx.rec (motive := fun _ => List V → TmS D → HS D → Nat → KO D → Res)
  (fun call d tab as t h n k => call (.func f) as tab h n ((fun call d t k v tab h n => W (.mk call d tab) t h n k v) call d t k)) c as t h n k) c t h n k)
def aggS (W : Bx (VK D)) (R : Bx (TmS D → (List CV → Res) → Res)) : Bx (OpF D) := W.opened fun W => R.opened fun R => .mk fun c t h n k => R t ((fun c t h n k l => W c t h n k (vAgg l)) c t h n k)
end
end
end Go.Ev
