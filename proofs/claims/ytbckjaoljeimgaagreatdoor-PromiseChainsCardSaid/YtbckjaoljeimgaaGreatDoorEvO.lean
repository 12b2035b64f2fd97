/- A verified evaluator for the model's code (part EvO): own work, of no program. -/
import Derived.Test.YtbckjaoljeimgaaGreatDoorEvK
namespace Go.Ev
/-! Small memories, at the staged evaluator -/
noncomputable section
variable {D : Nat}
def memRS (D : Nat) (iv : Ivs) (kf : SFm) (ρ : Ren) (h : HS D) : Nat → List BC → Res → Res
  | _, [], k => k
  | b, f :: s, k => match ρ.get? b with
    | some q => (gH D q.1).go h fun bs => decB D bs fun cb => bIf (blkR iv kf ρ f q.2 cb) (memRS D iv kf ρ h (b + 1) s k) .bad
    | none => .bad
/-- a small memory, laid out quickly -/
def hpD (s : List BC) : Hp := ofListD (s.map fun f => .cells f.te f.lo f.es f.l.length (ofListD f.l))
def iterF (A : CodeF D) (p : Nat) : CodeF D := Nat.rec (motive := fun _ => CodeF D) (fun c t h n k => k .normal c t h n)
  (fun _ ih c t h n k => A c t h n fun x c t h n => CX.rec (motive := fun _ => Res) (ih c t h n k) (fun id => k (.exit id) c t h n) (k .ret c t h n) x) p
def isPtS (D f ns : Nat) (l : List (Nat × Nat)) (B : Pt) (t : TmS D) (tab : Tab) (h : HS D) : Res :=
  bIf (fixL f l 0 && (Nat.beq l.length B.s.length && ordR l 0 [])) ((scott D).dT t fun t => bIf (slotsR tab.iv (idF ns) (ofList l) B.t t) (memRS D tab.iv (idF ns) (ofList l) h 0 B.s .ok) .bad) .bad
def toPtS (D f ns : Nat) (l : List (Nat × Nat)) (B : Pt) : KXF D := fun x c t h _ => Cx.rec (motive := fun _ => Res) (fun _ d tab => CX.rec (motive := fun _ => Res) (List.rec (motive := fun _ => Res) (isPtS D f ns l B t tab h) (fun _ _ _ => .bad) d) (fun _ => .bad) .bad x) c
def retPtS (D f ns : Nat) (l : List (Nat × Nat)) (B : Pt) : KXF D := fun x c t h _ => Cx.rec (motive := fun _ => Res) (fun _ d tab => CX.rec (motive := fun _ => Res) .bad (fun _ => .bad) (List.rec (motive := fun _ => Res) (isPtS D f ns l B t tab h) (fun _ _ _ => .bad) d) x) c
end
section
variable {D : Nat} {P : Program} {G : Nat → Bool}
theorem hpD_eq (s : List BC) : hpD s = hpOf s := by
  have : (fun f : BC => CB.cells f.te f.lo f.es f.l.length (ofListD f.l)) = BC.cb := funext fun f => by rw [ofListD_eq]; rfl
  unfold hpD hpOf
  rw [ofListD_eq, this]
theorem memRS_eq (iv : Ivs) (kf : SFm) (ρ : Ren) (h : Hp) (k : Res) : ∀ (s : List BC) (b : Nat), (memRS D iv kf ρ (encH D h) b s k).val = (match memR iv kf ρ h b s with | true => k.val | false => false)
  | [], _ => rfl
  | f :: s, b => by
    simp only [memRS, memR]
    cases ρ.get? b with
    | none => rfl
    | some q =>
      simp only [gH_eq, getKR_val, getK_eq]
      cases h.get? q.1 with
      | none => rfl
      | some cb =>
        simp only [decB_enc, bIf_eq]
        cases blkR iv kf ρ f q.2 cb with
        | false => rfl
        | true => exact memRS_eq iv kf ρ h k s (b + 1)
theorem iterF_good {cS : CallS D} {cl : CallFn} (hc : CallOK cS cl) (fn : FuncId) (fuel : Nat) (a : Code) : ∀ (p : Nat) (d : List DF) (tab : Tab) (t : Tm) (h : Hp) (n : Nat) (k : KXF D),
    (iterF (codeS P P.info? G fn false true fuel a).go p (.mk cS d tab) (encM D t) (encH D h) n k).val = iterC (codeC P G fn false cl fuel a) p t d ⟨h, n, tab⟩ (onXS cS k)
  | 0, d, tab, t, h, n, k => rfl
  | p + 1, d, tab, t, h, n, k => by
    refine (code_good hc fn true fuel a (fun hx => by cases hx) d tab t h n _).trans ?_
    refine congrArg (codeC P G fn false cl fuel a t d ⟨h, n, tab⟩) (funext fun x => funext fun t => funext fun d => funext fun m => ?_)
    cases x with
    | normal => exact iterF_good hc fn fuel a p d m.tab t m.h m.n k
    | exit id => rfl
    | ret => rfl
theorem isPtS_eq (f ns : Nat) (l : List (Nat × Nat)) (B : Pt) (t : Tm) (m : M) : (isPtS D f ns l B (encM D t) m.tab (encH D m.h)).val = isPt f ns l B t m := by
  unfold isPtS isPt
  rw [bIf_eq]
  cases fixL f l 0 && (Nat.beq l.length B.s.length && ordR l 0 []) with
  | false => rfl
  | true =>
    simp only []
    rw [(law D).dT, bIf_eq]
    cases slotsR m.tab.iv (idF ns) (ofList l) B.t t with
    | false => rfl
    | true =>
      simp only []
      rw [memRS_eq]
      cases memR m.tab.iv (idF ns) (ofList l) m.h 0 B.s <;> rfl
theorem toPtS_eq (cS : CallS D) (f ns : Nat) (l : List (Nat × Nat)) (B : Pt) : onXS cS (toPtS D f ns l B) = toPt f ns l B := by
  funext x t d m
  cases x with
  | normal =>
    cases d with
    | nil => exact isPtS_eq f ns l B t m
    | cons _ _ => rfl
  | exit id => rfl
  | ret => rfl
theorem retPtS_eq (cS : CallS D) (f ns : Nat) (l : List (Nat × Nat)) (B : Pt) : onXS cS (retPtS D f ns l B) = retPt f ns l B := by
  funext x t d m
  cases x with
  | normal => rfl
  | exit id => rfl
  | ret =>
    cases d with
    | nil => exact isPtS_eq f ns l B t m
    | cons _ _ => rfl
end
noncomputable section
/-- some rounds of a loop (or one run of a code: p = 1), from one point to another -/
def runSeg (P : Program) (I : TypeId → Option TypeInfo) (G : Nat → Bool) (fuel : Nat) (fn : FuncId) (a : Code) (p : Nat) (call : CallS DD) (f ns : Nat) (tab : Tab) (A : Pt) (l : List (Nat × Nat)) (B : Pt) : Res :=
  iterF (codeS P I G fn false true fuel a).go p (.mk call [] tab) (encM DD (ofList A.t)) (encH DD (hpD A.s)) A.s.length (toPtS DD f ns l B)
def runSegR (P : Program) (I : TypeId → Option TypeInfo) (G : Nat → Bool) (fuel : Nat) (fn : FuncId) (a : Code) (p : Nat) (call : CallS DD) (f ns : Nat) (tab : Tab) (A : Pt) (l : List (Nat × Nat)) (B : Pt) : Res :=
  iterF (codeS P I G fn false true fuel a).go p (.mk call [] tab) (encM DD (ofList A.t)) (encH DD (hpD A.s)) A.s.length (retPtS DD f ns l B)
end
section
variable {P : Program} {I : TypeId → Option TypeInfo} {σ : Sg} {fuel : Nat} {fn : FuncId} {a : Code} {p f ns : Nat} {tab : Tab} {A B : Pt} {l : List (Nat × Nat)} {cS : CallS DD} {cl : CallFn}
theorem runSeg_seg (hI : ∀ t, I t = P.info? t) (hng : NoCount P) (hc : CallOK cS cl) (hcl : SoundCall P σ G0 cl) (hh : (runSeg P I G0 fuel fn a p cS f ns tab A l B).val = true) (hs : Sat σ tab) (hfA : f ≤ A.s.length) (hfB : f ≤ B.s.length) :
    SegI P σ fn f A [.code a, .inLoop a] B [.code a, .inLoop a] := by
  obtain rfl : I = P.info? := funext hI
  unfold runSeg at hh
  rw [hpD_eq] at hh
  rw [iterF_good hc, toPtS_eq] at hh
  exact seg_iter (codeC_ok hng hcl (fun rd => draw_ok hcl rd) fn false fuel a) hh hs hfA hfB
theorem runSegR_seg (hI : ∀ t, I t = P.info? t) (hng : NoCount P) (hc : CallOK cS cl) (hcl : SoundCall P σ G0 cl) (hh : (runSegR P I G0 fuel fn a p cS f ns tab A l B).val = true) (hs : Sat σ tab) (hfA : f ≤ A.s.length) (hfB : f ≤ B.s.length) :
    SegR P σ fn f A [.code a, .inLoop a] B := by
  obtain rfl : I = P.info? := funext hI
  unfold runSegR at hh
  rw [hpD_eq] at hh
  rw [iterF_good hc, retPtS_eq] at hh
  exact seg_iterR (codeC_ok hng hcl (fun rd => draw_ok hcl rd) fn false fuel a) hh hs hfA hfB
theorem runCode_seg (hI : ∀ t, I t = P.info? t) (hng : NoCount P) (hc : CallOK cS cl) (hcl : SoundCall P σ G0 cl) (hh : (runSeg P I G0 fuel fn a 1 cS f ns tab A l B).val = true) (hs : Sat σ tab) (hfA : f ≤ A.s.length) (hfB : f ≤ B.s.length) :
    SegI P σ fn f A [.code a] B [] := by
  obtain rfl : I = P.info? := funext hI
  unfold runSeg at hh
  rw [hpD_eq] at hh
  rw [iterF_good hc, toPtS_eq] at hh
  have e : iterC (codeC P G0 fn false cl fuel a) 1 (ofList A.t) [] ⟨hpOf A.s, A.s.length, tab⟩ (toPt f ns l B) = codeC P G0 fn false cl fuel a (ofList A.t) [] ⟨hpOf A.s, A.s.length, tab⟩ (toPt f ns l B) := by
    show codeC P G0 fn false cl fuel a (ofList A.t) [] ⟨hpOf A.s, A.s.length, tab⟩ _ = _
    congr 1
    funext x t d m
    cases x <;> rfl
  rw [e] at hh
  exact seg_code (codeC_ok hng hcl (fun rd => draw_ok hcl rd) fn false fuel a) hh hs hfA hfB
end
end Go.Ev

namespace Go.Ev
/-! A call known from small memory to small memory, by one run of it -/
noncomputable section
def eqRs (iv : Ivs) (kf : SFm) (ρ : Ren) : List CV → List CV → Bool
  | [], [] => true
  | x :: l, y :: l' => (match eqR iv kf ρ x y with | true => eqRs iv kf ρ l l' | false => false)
  | _, _ => false
def eqR1 (iv : Ivs) (kf : SFm) (ρ : Ren) (x y : CV) : Bool := match x with
  | .agg l => (match y with | .agg l' => eqRs iv kf ρ l l' | _ => false)
  | x => eqR iv kf ρ x y
def eqR1s (iv : Ivs) (kf : SFm) (ρ : Ren) : List CV → List CV → Bool
  | [], [] => true
  | x :: l, y :: l' => (match eqR1 iv kf ρ x y with | true => eqR1s iv kf ρ l l' | false => false)
  | _, _ => false
def eqR2 (iv : Ivs) (kf : SFm) (ρ : Ren) (x y : CV) : Bool := match x with
  | .tup l => (match y with | .tup l' => eqR1s iv kf ρ l l' | _ => false)
  | x => eqR1 iv kf ρ x y
def endK (f ns : Nat) (l : List (Nat × Nat)) (r : CV) (s9 : List BC) : KA := fun v m => match fixL f l 0 && (Nat.beq l.length s9.length && ordR l 0 []) with
  | true => (match eqR2 m.tab.iv (idF ns) (ofList l) r v with
    | true => memR m.tab.iv (idF ns) (ofList l) m.h 0 s9
    | false => false)
  | false => false
def endKS (D f ns : Nat) (l : List (Nat × Nat)) (r : CV) (s9 : List BC) : V → Tab → HS D → Nat → Res := fun v tab h _ =>
  bIf (fixL f l 0 && (Nat.beq l.length s9.length && ordR l 0 [])) (decV v fun v => bIf (eqR2 tab.iv (idF ns) (ofList l) r v) (memRS D tab.iv (idF ns) (ofList l) h 0 s9 .ok) .bad) .bad
end
section
variable {P : Program} {σ σ' : Sg} {iv : Ivs} {kf : SFm} {ρ : Ren} {e : Env} {n : Nat}
theorem VR.rens (hs : SatI σ.i iv) (hk : KfOk σ σ' kf) (hn : ∀ b, ρ.get? b ≠ none → b < n) : ∀ {l l' : List CV} {vs : List Value}, eqRs iv kf ρ l l' = true → LR σ e l' vs → LR σ' (e.ren ρ n) l vs
  | [], [], vs, _, h => by rw [h.nil_inv]; exact .nil
  | [], _ :: _, _, h, _ => by cases h
  | _ :: _, [], _, h, _ => by cases h
  | x :: l, y :: l', vs, h, hl => by
    simp only [eqRs] at h
    split at h
    · rename_i hx
      obtain ⟨v, vs', rfl, h1, h2⟩ := hl.cons_inv
      exact LR.cons (h1.ren hs hk hx hn) (VR.rens hs hk hn h h2)
    · cases h
theorem VR.ren1 (hs : SatI σ.i iv) (hk : KfOk σ σ' kf) (hn : ∀ b, ρ.get? b ≠ none → b < n) {x y : CV} {v : Value} (h : VR σ e y v) (hx : eqR1 iv kf ρ x y = true) : VR σ' (e.ren ρ n) x v := by
  cases x <;> first | exact h.ren hs hk hx hn | skip
  cases y <;> first | (cases hx; done) | skip
  cases h with
  | agg hl hv =>
    have := VR.rens (e := e) hs hk hn (show eqRs iv kf ρ _ _ = true from hx) ⟨hl, hv⟩
    exact .agg this.1 this.2
theorem VR.ren1s (hs : SatI σ.i iv) (hk : KfOk σ σ' kf) (hn : ∀ b, ρ.get? b ≠ none → b < n) : ∀ {l l' : List CV} {vs : List Value}, eqR1s iv kf ρ l l' = true → LR σ e l' vs → LR σ' (e.ren ρ n) l vs
  | [], [], vs, _, h => by rw [h.nil_inv]; exact .nil
  | [], _ :: _, _, h, _ => by cases h
  | _ :: _, [], _, h, _ => by cases h
  | x :: l, y :: l', vs, h, hl => by
    simp only [eqR1s] at h
    split at h
    · rename_i hx
      obtain ⟨v, vs', rfl, h1, h2⟩ := hl.cons_inv
      exact LR.cons (h1.ren1 hs hk hn hx) (VR.ren1s hs hk hn h h2)
    · cases h
theorem VR.ren2 (hs : SatI σ.i iv) (hk : KfOk σ σ' kf) (hn : ∀ b, ρ.get? b ≠ none → b < n) {x y : CV} {v : Value} (h : VR σ e y v) (hx : eqR2 iv kf ρ x y = true) : VR σ' (e.ren ρ n) x v := by
  cases x <;> first | exact h.ren1 hs hk hn hx | skip
  cases y <;> first | (cases hx; done) | skip
  cases h with
  | tup hl hv =>
    have := VR.ren1s (e := e) hs hk hn (show eqR1s iv kf ρ _ _ = true from hx) ⟨hl, hv⟩
    exact .tup this.1 this.2
theorem callTo_of_run {cl : CallFn} (hcl : SoundCall P σ G0 cl) {g : FuncId} {f ns : Nat} {l : List (Nat × Nat)} {as0 : List CV} {s0 : List BC} {r : CV} {s9 : List BC} {tab : Tab}
    (hh : cl (.func g) as0 ⟨hpOf s0, s0.length, tab⟩ (endK f ns l r s9) = true) (hs : Sat σ tab) (hfA : f ≤ s0.length) (hfB : f ≤ s9.length) : CallTo P σ g f as0 s0 r s9 := by
  obtain ⟨v, m', h1, hs1, h2⟩ := hcl _ _ _ _ hh hs
  intro e w vs kd c cs hR hv hk
  obtain ⟨v', w', e', q1, q2, q3, q4⟩ := h2 e w (.func g) vs kd c cs (hR.tab tab) (.func g) hv hk
  unfold endK at h1
  split at h1
  · rename_i hc
    rw [Bool.and_eq_true, Bool.and_eq_true] at hc
    obtain ⟨g1, g2, hord⟩ := hc
    have g2 : l.length = s9.length := by simpa using g2
    have hij : ∀ b b' q q', (ofList l).get? b = some q → (ofList l).get? b' = some q' → q.1 = q'.1 → b = b' := fun b b' q q' hq hq' => by
      rw [ofList_get] at hq hq'
      exact ordR_inj hord b b' q q' hq hq'
    split at h1
    · rename_i h3
      have hn := ofList_lt g2
      exact ⟨v', w', e'.ren (ofList l) s9.length, q1, q2.ren2 hs1.iv (idF_ok σ ns) hn h3, q3.ren hs1.iv (idF_ok σ ns) hn hij h1 _, q4.toW.trans (.ren _ _ _ _), (q4.fix hfA).trans (fix_ren g1 hfB e')⟩
    · cases h1
  · cases h1
end
section
variable {D : Nat} {P : Program}
theorem endKS_eq (f ns : Nat) (l : List (Nat × Nat)) (r : CV) (s9 : List BC) (v : CV) (m : M) : (endKS D f ns l r s9 (encV v) m.tab (encH D m.h) m.n).val = endK f ns l r s9 v m := by
  unfold endKS endK
  rw [bIf_eq]
  cases fixL f l 0 && (Nat.beq l.length s9.length && ordR l 0 []) with
  | false => rfl
  | true =>
    simp only []
    rw [decV_enc, bIf_eq]
    cases eqR2 m.tab.iv (idF ns) (ofList l) r v with
    | false => rfl
    | true =>
      simp only []
      rw [memRS_eq]
      cases memR m.tab.iv (idF ns) (ofList l) m.h 0 s9 <;> rfl
/-- one run of a call, from one small memory to another -/
noncomputable def runTo (cS : CallS D) (g : FuncId) (f ns : Nat) (tab : Tab) (as0 : List CV) (s0 : List BC) (l : List (Nat × Nat)) (r : CV) (s9 : List BC) : Res :=
  cS (.func g) (encVs as0) tab (encH D (hpD s0)) s0.length (endKS D f ns l r s9)
theorem runTo_callTo {cS : CallS D} {cl : CallFn} (hc : CallOK cS cl) {σ : Sg} (hcl : SoundCall P σ G0 cl) {g : FuncId} {f ns : Nat} {tab : Tab} {as0 : List CV} {s0 : List BC} {l : List (Nat × Nat)} {r : CV} {s9 : List BC}
    (hh : (runTo cS g f ns tab as0 s0 l r s9).val = true) (hs : Sat σ tab) (hfA : f ≤ s0.length) (hfB : f ≤ s9.length) : CallTo P σ g f as0 s0 r s9 := by
  unfold runTo at hh
  rw [hpD_eq] at hh
  have := hc (.func g) as0 ⟨hpOf s0, s0.length, tab⟩ (endKS D f ns l r s9)
  rw [this] at hh
  simp only [endKS_eq] at hh
  exact callTo_of_run hcl hh hs hfA hfB
end
end Go.Ev
