/- A verified evaluator for the model's code (part EvJ): own work, of no program. -/
import Derived.Test.YtegokcjfjopdoaaGreatDoorEvI
namespace Go.Ev

section
variable {P : Program} {σ : Sg} {G : Nat → Bool} {t : Tm} {h : Hp} {tab : Tab} {nb : Nat} {k : KF}
variable {dst : Option Tmp} {type : TypeId} {pos : String} {after : Array Edge} {guard : Option (Nat × Bool)}

/-- what the lemma says of one operation -/
def FlOK (P : Program) (σ : Sg) (G : Nat → Bool) (o : Oper) (t : Tm) (h : Hp) (nb : Nat) (k : KF) : Prop :=
  ∃ v ncb tab', k v ncb tab' = true ∧ Sat σ tab' ∧ FlSem P σ G o t h nb v ncb

theorem fl_move {x : Operand} (hh : getO G x t (fun v => k v none tab) = true) (hs : Sat σ tab) : FlOK P σ G ⟨dst, .move x, type, pos, after, guard⟩ t h nb k := by
  obtain ⟨c, hc, hk⟩ := getO_inv hh
  exact ⟨c, none, tab, hk, hs, fun e w ρ hr hi ho => ⟨ρ x, rfl, ho x (by simp [Op.operands]) c hc⟩⟩
theorem fl_assign {x : Operand} (hh : getO G x t (fun v => k v none tab) = true) (hs : Sat σ tab) : FlOK P σ G ⟨dst, .assign x, type, pos, after, guard⟩ t h nb k := by
  obtain ⟨c, hc, hk⟩ := getO_inv hh
  exact ⟨c, none, tab, hk, hs, fun e w ρ hr hi ho => ⟨ρ x, rfl, ho x (by simp [Op.operands]) c hc⟩⟩
theorem fl_pick {c a b : Operand} (hh : floatC P G (.pick c a b) t h tab nb k = true) (hs : Sat σ tab) : FlOK P σ G ⟨dst, .pick c a b, type, pos, after, guard⟩ t h nb k := by
  obtain ⟨cv, hc, h1⟩ := getO_inv hh
  obtain ⟨bb, rfl, h2⟩ := asBool_inv h1
  cases bb with
  | true =>
    obtain ⟨v, hv, hk⟩ := getO_inv (show getO G a t (fun v => k v none tab) = true from h2)
    refine ⟨v, none, tab, hk, hs, fun e w ρ hr hi ho => ⟨ρ a, ?_, ho a (by simp [Op.operands]) v hv⟩⟩
    have := ho c (by simp [Op.operands]) _ hc
    generalize hx : ρ c = x at this
    cases this
    simp [execOp, hx, Go.asBool]
  | false =>
    obtain ⟨v, hv, hk⟩ := getO_inv (show getO G b t (fun v => k v none tab) = true from h2)
    refine ⟨v, none, tab, hk, hs, fun e w ρ hr hi ho => ⟨ρ b, ?_, ho b (by simp [Op.operands]) v hv⟩⟩
    have := ho c (by simp [Op.operands]) _ hc
    generalize hx : ρ c = x at this
    cases this
    simp [execOp, hx, Go.asBool]

/-- a new block of given cells -/
theorem BR.fresh {e : Env} {cs : List CV} {vs : Array Value} (hv : LR σ e cs vs.toList) (r el : Nat) (es : Nat) : BR σ e (.cells false es cs.length (ofList cs)) ⟨r, 0, 0, true⟩ (.cells vs el (0, 0)) := by
  refine .cells ?_ (fun _ => ⟨rfl, rfl⟩) (fun i hi => ?_) (fun i hi => ?_) (.inl rfl)
  · have := hv.1; simp at this; simp [this]
  · rw [ofList_get]; exact List.getElem?_eq_none hi
  · have hc : cs[i]? = some cs[i] := List.getElem?_eq_getElem hi
    obtain ⟨v, hv', hr⟩ := hv.get hc
    exact ⟨_, v, by rw [ofList_get]; exact hc, by simpa using hv', hr⟩

theorem fl_alloc {el : TypeId} (hh : floatC P G (.alloc el) t h tab nb k = true) (hs : Sat σ tab) : FlOK P σ G ⟨dst, .alloc el, type, pos, after, guard⟩ t h nb k := by
  simp only [floatC] at hh
  split at hh
  · rename_i z hz
    obtain ⟨i, v, hi, hv, hz'⟩ := zeroOf_inv hz
    refine ⟨_, _, tab, hh, hs, fun e w ρ hr hij ho => ⟨.pointer (some ⟨w.heap.size, 0, none⟩), .cells v.cells el, 0, w.drawn, ?_, ?_, ?_⟩⟩
    · simp [execOp, Instr.alloc, zeroRun hi hv, newVar, newRow]
    · have hl := ofValues_LR (σ := σ) (e := e) hz'
      exact BR.fresh hl _ _ 0
    · exact .ptr (o := 0) (p := ⟨w.heap.size, 0, 0, true⟩) (Env.up_same _ _ _)
  · cases hh
theorem fl_box {el : TypeId} {x : Operand} (hh : floatC P G (.box el x) t h tab nb k = true) (hs : Sat σ tab) : FlOK P σ G ⟨dst, .box el x, type, pos, after, guard⟩ t h nb k := by
  obtain ⟨c, hc, hk⟩ := getO_inv hh
  rw [forceN_eq] at hk
  refine ⟨_, _, tab, hk, hs, fun e w ρ hr hij ho => ⟨.pointer (some ⟨w.heap.size, 0, none⟩), .cells (ρ x).cells el, 0, w.drawn, ?_, ?_, ?_⟩⟩
  · simp [execOp, Instr.box, newVar, newRow]
  · exact BR.fresh (cells_LR (ho x (by simp [Op.operands]) c hc)) _ _ 0
  · exact .ptr (o := 0) (p := ⟨w.heap.size, 0, 0, true⟩) (Env.up_same _ _ _)

theorem fl_load {ty : TypeId} {x : Operand} (hh : floatC P G (.load ty x) t h tab nb k = true) (hs : Sat σ tab) : FlOK P σ G ⟨dst, .load ty x, type, pos, after, guard⟩ t h nb k := by
  obtain ⟨c, hc, h1⟩ := getO_inv hh
  obtain ⟨b, o, rfl, h2⟩ := asPtr_inv h1
  obtain ⟨v, hk, hv⟩ := loadC_inv h2
  refine ⟨v, none, tab, hk, hs, fun e w ρ hr hi ho => ?_⟩
  have hx := ho x (by simp [Op.operands]) _ hc
  generalize hy : ρ x = y at hx
  cases hx with
  | ptr hb =>
    obtain ⟨u, hu, hr'⟩ := hv hr _ hb
    refine ⟨u, ?_, hr'⟩
    simp [execOp, Instr.loadAt, Instr.sureAddr, hy, hu]

theorem fl_nilCheck {x : Operand} (hh : floatC P G (.nilCheck x) t h tab nb k = true) (hs : Sat σ tab) : FlOK P σ G ⟨dst, .nilCheck x, type, pos, after, guard⟩ t h nb k := by
  obtain ⟨c, hc, h1⟩ := getO_inv hh
  have fin : k c none tab = true → (∀ e y, VR σ e c y → ∀ (w : World) (ρ : Operand → Value), ρ x = y → (execOp ρ ⟨dst, .nilCheck x, type, pos, after, guard⟩).run P w = .ok (.value y) w) →
      FlOK P σ G ⟨dst, .nilCheck x, type, pos, after, guard⟩ t h nb k := fun hk hf =>
    ⟨c, none, tab, hk, hs, fun e w ρ hr hi ho => ⟨ρ x, hf e _ (ho x (by simp [Op.operands]) c hc) w ρ rfl, ho x (by simp [Op.operands]) c hc⟩⟩
  split at h1
  · exact fin h1 fun e y hy w ρ hx => by cases hy; simp [execOp, hx]
  · exact fin h1 fun e y hy w ρ hx => by cases hy; simp [execOp, hx]
  · exact fin h1 fun e y hy w ρ hx => by cases hy; simp [execOp, hx]
  · exact fin h1 fun e y hy w ρ hx => by cases hy; simp [execOp, hx]
  · cases h1

theorem fl_binOp {op : BinOp} {ty ty' : TypeId} {x y : Operand} (hh : floatC P G (.binOp op ty x y ty') t h tab nb k = true) (hs : Sat σ tab) :
    FlOK P σ G ⟨dst, .binOp op ty x y ty', type, pos, after, guard⟩ t h nb k := by
  obtain ⟨cx, hcx, h1⟩ := getO_inv hh
  obtain ⟨cy, hcy, h2⟩ := getO_inv h1
  obtain ⟨c, tab', hk, hs', hv⟩ := binC_inv h2 hs
  refine ⟨c, none, tab', hk, hs', fun e w ρ hr hi ho => ?_⟩
  obtain ⟨r, a1, a2, a3⟩ := hv hr hi (ho x (by simp [Op.operands]) _ hcx) (ho y (by simp [Op.operands]) _ hcy)
  exact ⟨r, by simp [execOp, a1, a2], a3⟩

theorem fl_unOp {op : UnOp} {ty : TypeId} {x : Operand} (hh : floatC P G (.unOp op ty x) t h tab nb k = true) (hs : Sat σ tab) :
    FlOK P σ G ⟨dst, .unOp op ty x, type, pos, after, guard⟩ t h nb k := by
  obtain ⟨c, hc, h1⟩ := getO_inv hh
  split at h1
  · obtain ⟨b, rfl, h2⟩ := asBool_inv h1
    cases b
    · refine ⟨_, none, tab, h2, hs, fun e w ρ hr hi ho => ?_⟩
      have hx := ho x (by simp [Op.operands]) _ hc
      generalize hy : ρ x = y at hx
      cases hx
      exact ⟨_, by simp [execOp, hy, Op.unary], .bool _⟩
    · refine ⟨_, none, tab, h2, hs, fun e w ρ hr hi ho => ?_⟩
      have hx := ho x (by simp [Op.operands]) _ hc
      generalize hy : ρ x = y at hx
      cases hx
      exact ⟨_, by simp [execOp, hy, Op.unary], .bool _⟩
  · cases c <;> simp only [] at h1 <;> first | (cases h1; done) | skip
    rename_i kd a
    have h2 := wrapK_inv h1
    refine ⟨_, none, tab, h2, hs, fun e w ρ hr hi ho => ?_⟩
    have hx := ho x (by simp [Op.operands]) _ hc
    generalize hy : ρ x = y at hx
    cases hx
    exact ⟨_, by simp [execOp, hy, Op.unary, Op.intArith], .int _ _⟩
  · cases h1

theorem fl_makeInterface {ty : TypeId} {x : Operand} (hh : floatC P G (.makeInterface ty x) t h tab nb k = true) (hs : Sat σ tab) :
    FlOK P σ G ⟨dst, .makeInterface ty x, type, pos, after, guard⟩ t h nb k := by
  obtain ⟨c, hc, h1⟩ := getO_inv hh
  split at h1
  · cases h1
  · rename_i hi
    refine ⟨_, none, tab, h1, hs, fun e w ρ hr hij ho => ⟨.iface ty (ρ x), ?_, .ifc ty (ho x (by simp [Op.operands]) c hc)⟩⟩
    simp only [isIfc] at hi
    split at hi
    · cases hi
    · cases hi
    · rename_i d hn1 hn2
      cases hd : P.underlying ty with
      | none => exact absurd hd hn2
      | some d' =>
        simp only [execOp, Instr.makeInterface, Sem.run_bind, undRun hd, Result.andThen_ok]
        cases d' <;> first | (exact absurd hd (hn1 _)) | simp

theorem getOs_LR {xs : List Operand} {cs : List CV} {e : Env} {ρ : Operand → Value} (hl : cs.length = xs.length) (hv : ∀ (i : Nat) x c, xs[i]? = some x → cs[i]? = some c → OV G t x c)
    (ho : ∀ x, x ∈ xs → ∀ c, OV G t x c → VR σ e c (ρ x)) : LR σ e cs (xs.map ρ) := by
  refine ⟨by simp [hl], fun i c v hc hv' => ?_⟩
  simp only [List.getElem?_map, Option.map_eq_some_iff] at hv'
  obtain ⟨x, hx, rfl⟩ := hv'
  exact ho x (List.mem_of_getElem? hx) c (hv i x c hx hc)

theorem fl_makeFunc {f : Fn} {first cap : Array Operand} (hh : floatC P G (.makeFunc f first cap) t h tab nb k = true) (hs : Sat σ tab) :
    FlOK P σ G ⟨dst, .makeFunc f first cap, type, pos, after, guard⟩ t h nb k := by
  cases f <;> simp only [floatC] at hh <;> first | (cases hh; done) | skip
  rename_i f
  obtain ⟨a, hl, hv, h1⟩ := getOs_inv hh
  obtain ⟨b, hl', hv', h2⟩ := getOs_inv h1
  refine ⟨_, none, tab, h2, hs, fun e w ρ hr hi ho => ⟨.func (.func f) (first.map ρ) (cap.map ρ), rfl, ?_⟩⟩
  have r1 := getOs_LR (σ := σ) (e := e) (ρ := ρ) hl hv (fun x hx c hc => ho x (by simp [Op.operands]; exact .inl (by simpa using hx)) c hc)
  have r2 := getOs_LR (σ := σ) (e := e) (ρ := ρ) hl' hv' (fun x hx c hc => ho x (by simp [Op.operands]; exact .inr (by simpa using hx)) c hc)
  exact .fn f (by simpa using r1.1) (by simpa using r2.1) (by simpa using r1.2) (by simpa using r2.2)

theorem fl_makeMap {ty : TypeId} {r : Option Operand} (hh : floatC P G (.makeMap ty r) t h tab nb k = true) (hs : Sat σ tab) :
    FlOK P σ G ⟨dst, .makeMap ty r, type, pos, after, guard⟩ t h nb k := by
  cases r with
  | some r => cases hh
  | none =>
    refine ⟨_, _, tab, hh, hs, fun e w ρ hr hij ho => ⟨.map (some w.heap.size), .map #[] 0, 0, w.drawn, ?_, .map rfl (fun i x y hx => by simp at hx), .map (p := ⟨w.heap.size, 0, 0, true⟩) (Env.up_same _ _ _)⟩⟩
    simp [execOp, Instr.makeMap]

theorem fieldOf_inv {s : TypeId} {f : Nat} {fd : Field} (hf : fieldOf P s f = some fd) : ∃ fs, P.underlying s = some (.struct fs) ∧ fs[f]? = some fd := by
  simp only [fieldOf] at hf
  split at hf
  · exact ⟨_, by assumption, hf⟩
  · cases hf

theorem fl_fieldAddr {s : TypeId} {x : Operand} {f : Nat} (hh : floatC P G (.fieldAddr s x f) t h tab nb k = true) (hs : Sat σ tab) :
    FlOK P σ G ⟨dst, .fieldAddr s x f, type, pos, after, guard⟩ t h nb k := by
  simp only [floatC] at hh
  split at hh
  · rename_i fd hf
    obtain ⟨i, hi, h1⟩ := szK_inv hh
    split at h1
    · cases h1
    · rename_i hz
      have hz' : i.size ≠ 0 := fun h => by rw [h] at hz; cases hz
      obtain ⟨c, hc, h2⟩ := getO_inv h1
      obtain ⟨b, o, rfl, h3⟩ := asPtr_inv h2
      rw [forceN_eq] at h3
      refine ⟨_, none, tab, h3, hs, fun e w ρ hr hij ho => ?_⟩
      have hx := ho x (by simp [Op.operands]) _ hc
      generalize hy : ρ x = y at hx
      obtain ⟨fs, hu, hfd⟩ := fieldOf_inv hf
      cases hx with
      | @ptr _ _ p hb =>
        refine ⟨.pointer (some ⟨p.r, o + fd.offset + p.d, none⟩), ?_, .ptr hb⟩
        simp [execOp, Instr.fieldAt, undRun hu, hfd, hy, Instr.sureAddr, fieldPlace, szRun hi, hz', addr_add]
        omega
  · cases hh

theorem partC_inv {ty : TypeId} {cs : List CV} {off : Nat} {k : CV → Bool} (hh : partC P ty cs off k = true) :
    ∃ c, k c = true ∧ ∀ {e : Env} {vs : Array Value} (w : World), LR σ e cs vs.toList → ∃ v, (part ty vs off).run P w = .ok v w ∧ VR σ e c v := by
  simp only [partC] at hh
  have fL : ∀ (l : List CV) (k : List CV → Bool), forceL l k = k l := by
    intro l
    induction l with
    | nil => intro k; rfl
    | cons x l ih => intro k; show forceL l (fun l => k (x :: l)) = _; rw [ih]
  split at hh
  · rename_i ha
    obtain ⟨i, hi, h1⟩ := szK_inv hh
    rw [fL] at h1
    refine ⟨_, h1, fun {e vs} w hv => ?_⟩
    have hagg : (isAgg ty).run P w = .ok true w := by
      simp only [aggT] at ha
      split at ha <;> first | (simp [isAgg, undRun (by assumption)]; done) | cases ha
    refine ⟨.agg (vs.extract off (off + i.size)), by simp [part, hagg, szRun hi], ?_⟩
    have := (hv.drop off).take i.size
    refine .agg ?_ ?_
    · rw [this.1]; simp
    · intro j c v hc hv'
      refine this.2 j c v hc ?_
      simpa [List.drop_take] using hv'
  · rename_i ha
    split at hh
    · rename_i c hc
      refine ⟨c, hh, fun {e vs} w hv => ?_⟩
      obtain ⟨v, hv', hr⟩ := hv.get hc
      have hagg : (isAgg ty).run P w = .ok false w := by
        simp only [aggT] at ha
        split at ha
        · cases ha
        · cases ha
        · rename_i d hn1 hn2 hd
          simp only [isAgg, Sem.run_bind, undRun hd, Result.andThen_ok]
          cases d <;> first | rfl | (exact absurd rfl (hn1 _)) | (exact absurd rfl (hn2 _ _))
        · cases ha
      have : vs[off]? = some v := by simpa using hv'
      exact ⟨v, by simp [part, hagg, this], hr⟩
    · cases hh
  · cases hh

theorem fl_field {s : TypeId} {x : Operand} {f : Nat} (hh : floatC P G (.field s x f) t h tab nb k = true) (hs : Sat σ tab) :
    FlOK P σ G ⟨dst, .field s x f, type, pos, after, guard⟩ t h nb k := by
  simp only [floatC] at hh
  split at hh
  · rename_i fd hf
    obtain ⟨c, hc, h2⟩ := getO_inv hh
    cases c <;> simp only [] at h2 <;> first | (cases h2; done) | skip
    obtain ⟨v, h3, hv⟩ := partC_inv (σ := σ) h2
    refine ⟨_, none, tab, h3, hs, fun e w ρ hr hij ho => ?_⟩
    have hx := ho x (by simp [Op.operands]) _ hc
    generalize hy : ρ x = y at hx
    obtain ⟨fs, hu, hfd⟩ := fieldOf_inv hf
    cases hx with
    | agg hl hvs =>
      obtain ⟨u, h4, h5⟩ := hv w ⟨hl, hvs⟩
      exact ⟨u, by simp [execOp, Instr.field, undRun hu, hfd, hy, asAgg, h4], h5⟩
  · cases hh

theorem fl_extract {x : Operand} {i : Nat} (hh : floatC P G (.extract x i) t h tab nb k = true) (hs : Sat σ tab) :
    FlOK P σ G ⟨dst, .extract x i, type, pos, after, guard⟩ t h nb k := by
  obtain ⟨c, hc, h2⟩ := getO_inv hh
  cases c <;> simp only [] at h2 <;> first | (cases h2; done) | skip
  rename_i vs
  split at h2
  · rename_i c hci
    refine ⟨_, none, tab, h2, hs, fun e w ρ hr hij ho => ?_⟩
    have hx := ho x (by simp [Op.operands]) _ hc
    generalize hy : ρ x = y at hx
    cases hx with
    | tup hl hv =>
      obtain ⟨v, h3, h4⟩ := LR.get ⟨hl, hv⟩ hci
      rename_i us
      have : us[i]? = some v := by simpa using h3
      exact ⟨v, by simp [execOp, Instr.extract, hy, this], h4⟩
  · cases h2

end
end Go.Ev
