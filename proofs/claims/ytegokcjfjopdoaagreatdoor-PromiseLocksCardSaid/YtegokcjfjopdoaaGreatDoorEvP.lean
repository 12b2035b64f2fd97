/- A verified evaluator for the model's code (part EvP): own work, of no program. -/
import Derived.Test.YtegokcjfjopdoaaGreatDoorEvO
namespace Go.Ev

section
variable {P : Program} {σ : Sg} {G : Nat → Bool} {t : Tm} {m : M} {k : KA}
variable {dst : Option Tmp} {type : TypeId} {pos : String} {after : Array Edge} {guard : Option (Nat × Bool)}

def ActOK (P : Program) (σ : Sg) (G : Nat → Bool) (o : Oper) (t : Tm) (m : M) (k : KA) : Prop :=
  ∃ v m', k v m' = true ∧ Sat σ m'.tab ∧ ∀ (e : Env) (w : World) (ρ : Operand → Value), RL σ G e m w → (∀ x, x ∈ o.op.operands → ∀ c, OV G t x c → VR σ e c (ρ x)) →
    ∃ n w' e', (execOp ρ o).run P w = .ok n w' ∧ ((∃ v', n = .value v' ∧ VR σ e' v v') ∨ (n = .skip ∧ v = undefC)) ∧ RL σ G e' m' w' ∧ Kept e m w e' m' w'

def oneC : CV → Bool
  | .agg _ => false
  | .tup _ => false
  | _ => true
theorem oneK_inv {v : CV} {k : Bool} (h : oneK v k = true) : oneC v = true ∧ k = true := by
  cases v <;> simp_all [oneK, oneC]
theorem one_VR {e : Env} {c : CV} {v : Value} (h : VR σ e c v) (ho : oneC c = true) : v.oneCell' = true := by
  cases h <;> first | rfl | (cases ho; done)
theorem allOne_inv {l : List CV} {k : Bool} (h : allOne l k = true) : (∀ c ∈ l, oneC c = true) ∧ k = true := by
  induction l with
  | nil => exact ⟨(fun c hc => by cases hc), h⟩
  | cons x l ih =>
    obtain ⟨h1, h2⟩ := oneK_inv (show oneK x (allOne l k) = true from h)
    obtain ⟨h3, h4⟩ := ih h2
    exact ⟨List.forall_mem_cons.2 ⟨h1, h3⟩, h4⟩
theorem LR.one {e : Env} {cs : List CV} {vs : List Value} (h : LR σ e cs vs) (ho : ∀ c ∈ cs, oneC c = true) : ∀ u ∈ vs, u.oneCell' = true := by
  intro u hu
  obtain ⟨i, hi, rfl⟩ := List.mem_iff_getElem.1 hu
  have hc : i < cs.length := h.1 ▸ hi
  exact one_VR (h.2 i cs[i] vs[i] (List.getElem?_eq_getElem hc) (List.getElem?_eq_getElem hi)) (ho _ (List.getElem_mem hc))

theorem storeN_inv : ∀ {l : List CV} {off : Nat} {cs : Tr CV} {k : Tr CV → Bool}, storeN l off cs k = true → ∃ cs', k cs' = true ∧ (∀ c ∈ l, oneC c = true) ∧ (∀ i, i < l.length → ∃ y, cs.get? (off + i) = some y) ∧
    ∀ j, cs'.get? j = if off ≤ j ∧ j < off + l.length then l[j - off]? else cs.get? j
  | [], off, cs, k, h => ⟨cs, h, (fun c hc => by cases hc), (fun i hi => by simp at hi), (fun j => by rw [if_neg (by simp)])⟩
  | x :: l, off, cs, k, h => by
    obtain ⟨h1, h2⟩ := oneK_inv (show oneK x (setK x cs off fun cs' => storeN l (off + 1) cs' k) = true from h)
    obtain ⟨cs1, h3, ⟨y, hy⟩, h4⟩ := setK_inv _ _ _ _ h2
    obtain ⟨cs', h5, h6, h7, h8⟩ := storeN_inv h3
    refine ⟨cs', h5, List.forall_mem_cons.2 ⟨h1, h6⟩, fun i hi => ?_, fun j => ?_⟩
    · cases i with
      | zero => exact ⟨y, hy⟩
      | succ i =>
        obtain ⟨z, hz⟩ := h7 i (by simpa using hi)
        rw [h4] at hz
        rw [if_neg (by omega)] at hz
        exact ⟨z, by rwa [show off + (i + 1) = off + 1 + i by omega]⟩
    · rw [h8, h4]
      by_cases hj : off ≤ j ∧ j < off + (x :: l).length
      · rw [if_pos hj]
        simp only [List.length_cons] at hj
        by_cases h0 : j = off
        · subst h0
          rw [if_neg (by omega)]; simp
        · rw [if_pos (by omega)]
          have : j - off = (j - (off + 1)) + 1 := by omega
          rw [this]; simp
      · rw [if_neg hj]
        simp only [List.length_cons] at hj
        rw [if_neg (by omega), if_neg (by omega)]

/-- the real cells are written -/
theorem setCells_heap (r : Nat) (el : TypeId) (fz : Nat × Nat) : ∀ (vs : List Value) (o : Nat) (w : World) (c : Array Value), w.heap[r]? = some (.cells c el fz) →
    ∃ c' : Array Value, (∀ x, (w.setCells r o vs).heap[x]? = if x = r then some (.cells c' el fz) else w.heap[x]?) ∧ c'.size = c.size ∧
      (∀ j, c'[j]? = if o ≤ j ∧ j < o + vs.length ∧ j < c.size then vs[j - o]? else c[j]?) ∧ (w.setCells r o vs).tape = w.tape ∧ (w.setCells r o vs).os = w.os ∧ (w.setCells r o vs).output = w.output
  | [], o, w, c, hw => by
    refine ⟨c, fun x => ?_, rfl, fun j => ?_, rfl, rfl, rfl⟩
    · show w.heap[x]? = _
      split
      · rename_i h; rw [h, hw]
      · rfl
    · rw [if_neg (by simp; omega)]
  | v :: vs, o, w, c, hw => by
    have h1 : ∀ x, (w.setCell ⟨r, o, none⟩ v).heap[x]? = if x = r then some (.cells (c.setIfInBounds o v) el fz) else w.heap[x]? := by
      intro x
      simp only [World.setCell, Array.getElem?_modify]
      by_cases hx : r = x
      · subst hx; simp [hw]
      · have : ¬ x = r := fun h => hx h.symm
        simp [hx, this]
    obtain ⟨c', h2, h3, h4, h5, h6, h7⟩ := setCells_heap r el fz vs (o + 1) (w.setCell ⟨r, o, none⟩ v) (c.setIfInBounds o v) (by rw [h1]; simp)
    refine ⟨c', fun x => ?_, by simpa using h3, fun j => ?_, h5, h6, h7⟩
    · show ((w.setCell ⟨r, o, none⟩ v).setCells r (o + 1) vs).heap[x]? = _
      rw [h2]
      split
      · rfl
      · rename_i hx; rw [h1, if_neg hx]
    · rw [h4]
      simp only [Array.size_setIfInBounds, List.length_cons]
      by_cases hj : o ≤ j ∧ j < o + (vs.length + 1) ∧ j < c.size
      · rw [if_pos hj]
        by_cases h0 : j = o
        · subst h0
          rw [if_neg (by omega)]; simp [hj.2.2]
        · rw [if_pos (by omega)]
          have : j - o = (j - (o + 1)) + 1 := by omega
          rw [this]; simp
      · rw [if_neg hj, if_neg (by omega)]
        by_cases h0 : o = j
        · subst h0
          have : ¬ o < c.size := by omega
          rw [Array.getElem?_setIfInBounds]
          simp [this]
        · exact Array.getElem?_setIfInBounds_ne h0

/-- cells of a block are written, on both sides -/
theorem RL.store {e : Env} {w : World} (hR : RL σ G e m w) {b : Nat} {p : Place} (hb : e b = some p) {lo : Bool} {es sz : Nat} {cs cs' : Tr CV} (hc : m.h.get? b = some (.cells lo es sz cs)) {l : List CV} {off : Nat}
    (hone : ∀ c ∈ l, oneC c = true) (hin : ∀ i, i < l.length → ∃ y, cs.get? (off + i) = some y) (hcs : ∀ j, cs'.get? j = if off ≤ j ∧ j < off + l.length then l[j - off]? else cs.get? j)
    {h' : Hp} (hh : ∀ j, h'.get? j = if j = b then some (.cells lo es sz cs') else m.h.get? j) {vs : List Value} (hv : LR σ e l vs) :
    (∀ j, j < vs.length → (w.cell? ⟨p.r, off + p.d + j, none⟩).isSome = true) ∧ (∀ j, j < vs.length → w.frozen? ⟨p.r, off + p.d + j, none⟩ = false) ∧ (∀ u ∈ vs, u.oneCell' = true) ∧
    RL σ G e ⟨h', m.n, m.tab⟩ (w.setCells p.r (off + p.d) vs) ∧ Kept e m w e ⟨h', m.n, m.tab⟩ (w.setCells p.r (off + p.d) vs) := by
  obtain ⟨hl, c, el, fz, hw, hsz, hex, hout, hinn, hfz⟩ := hR.hr.cells hb hc
  have hlt : ∀ i, i < l.length → off + i < sz := by
    intro i hi
    obtain ⟨y, hy⟩ := hin i hi
    rcases Nat.lt_or_ge (off + i) sz with h | h
    · exact h
    · rw [hout _ h] at hy; cases hy
  have hcell : ∀ i, i < vs.length → off + p.d + i < c.size := by
    intro i hi
    have := hlt i (hv.1 ▸ hi)
    rw [hsz]; omega
  obtain ⟨c', h2, h3, h4, h5, h6, h7⟩ := setCells_heap p.r el fz vs (off + p.d) w c hw
  refine ⟨fun j hj => ?_, fun j hj => ?_, hv.one hone, ?_⟩
  · simp [World.cell?, hw, hcell j hj]
  · have := hcell j hj
    simp only [World.frozen?, hw]
    rcases hfz with rfl | ⟨_, _, rfl⟩
    · simp
    · simp; omega
  · refine hR.put hb hl (cb := .cells lo es sz cs') (obj := .cells c' el fz) ?_ hh h2 h5 h6 h7
    refine .cells (by rw [h3, hsz]) hex (fun i hi => ?_) (fun i hi => ?_) (by rw [h3]; exact hfz)
    · rw [hcs]
      split
      · rename_i hc2
        have := hlt (i - off) (by omega)
        omega
      · exact hout i hi
    · rw [hcs]
      by_cases hc2 : off ≤ i ∧ i < off + l.length
      · rw [if_pos hc2]
        have hil : i - off < l.length := by omega
        obtain ⟨v, hv1, hv2⟩ := hv.get (List.getElem?_eq_getElem hil)
        refine ⟨l[i - off], v, List.getElem?_eq_getElem hil, ?_, hv2⟩
        rw [h4, if_pos ⟨by omega, by have := hv.1; omega, by rw [hsz]; omega⟩]
        rw [show p.d + i - (off + p.d) = i - off by omega]
        exact hv1
      · rw [if_neg hc2]
        obtain ⟨cv, v, a1, a2, a3⟩ := hinn i hi
        refine ⟨cv, v, a1, ?_, a3⟩
        rw [h4, if_neg (by have := hv.1; omega)]
        exact a2

theorem act_store {ty : TypeId} {x y : Operand} {call : CallFn} (hh : actC P G call (.store ty x y) t m k = true) (hs : Sat σ m.tab) : ActOK P σ G ⟨dst, .store ty x y, type, pos, after, guard⟩ t m k := by
  obtain ⟨cx, hcx, h1⟩ := getO_inv hh
  obtain ⟨b, off, rfl, h2⟩ := asPtr_inv h1
  obtain ⟨cy, hcy, h3⟩ := getO_inv h2
  obtain ⟨lo, es, sz, cs, hc, h4⟩ := withCells_inv h3
  obtain ⟨i, hi, h5⟩ := szK_inv h4
  split at h5
  · rename_i hlen
    have hlen : (cellsOfCV cy).length = i.size := by simpa using hlen
    obtain ⟨cs', h6, hone, hin, hcs⟩ := storeN_inv h5
    obtain ⟨h', h7, ⟨_, _⟩, hh'⟩ := setK_inv _ _ _ _ h6
    refine ⟨undefC, _, h7, hs, fun e w ρ hR ho => ?_⟩
    have v1 := ho x (by simp [Op.operands]) _ hcx
    have v2 := ho y (by simp [Op.operands]) _ hcy
    generalize hy : ρ x = u at v1
    cases v1 with
    | @ptr _ _ p hb =>
      have hv := cells_LR v2
      obtain ⟨a1, a2, a3, a4, a5⟩ := hR.store hb hc hone hin hcs hh' hv
      refine ⟨.skip, _, e, ?_, .inr ⟨rfl, rfl⟩, a4, a5⟩
      have hst := run_storeCells_cells (P := P) p.r (off + p.d) (ρ y).cells.toList 0 w (by simpa using a1) (by simpa using a2) a3
      simp only [Nat.add_zero] at hst
      have hsize : (ρ y).cells.size = i.size := by have := hv.1; rw [hlen] at this; simpa using this.symm
      simp [execOp, Instr.storeAt, Instr.sureAddr, hy, storeVar, szRun hi, hsize, hst]
  · cases h5

theorem putM_inv {h : Hp} {tab : Tab} {kt : TypeId} {key val : CV} {clock : Nat} (hs : Sat σ tab) (hok : keyOk P kt key = true) {d : TypeDesc} (hd : P.underlying kt = some d) :
    ∀ {es : List (CV × CV × Nat)} {k : List (CV × CV × Nat) → Bool → Bool}, putM P kt h tab key val clock es k = true →
    ∃ es' new, k es' new = true ∧ ∀ {e : Env} {w : World} {u uv : Value} {L : List MapEntry}, HR σ e h w → InjE e → VR σ e key u → VR σ e val uv → ER σ e es L → ∀ i, ∃ r', FindOK P kt d u L i w r' ∧
      (match new with
       | true => r' = none ∧ ER σ e es' (L ++ [{ key := u, val := uv, born := clock }])
       | false => ∃ j y, L[j]? = some y ∧ r' = some (i + j, y.val) ∧ Instr.sameBits 10000 y.key u = true ∧ ER σ e es' (L.modify j fun e => { e with key := u, val := uv }))
  | [], k, hh => by
    refine ⟨_, true, hh, fun {e w u uv L} _ _ hu huv hL i => ⟨none, ?_, rfl, ?_⟩⟩
    · rw [hL.nil_inv]
      simp only [FindOK]
      split
      · exact ⟨by simp [Instr.findAsking], fun h => absurd rfl h⟩
      · rfl
    · rw [hL.nil_inv]
      exact .cons hu huv rfl ⟨rfl, fun i x y hx => by simp at hx⟩
  | x :: es, k, hh => by
    have hh' : keyEq P kt key x.1 h tab (fun b => match b with
      | true => k ((key, val, x.2.2) :: es) false
      | false => putM P kt h tab key val clock es fun es' new => k (x :: es') new) = true := hh
    obtain ⟨b, h1, h2⟩ := keyEq_inv hh' hs hok hd
    cases b with
    | true =>
      refine ⟨_, false, h1, fun {e w u uv L} hr hi hu huv hL i => ?_⟩
      obtain ⟨y, L', rfl, a1, a2, a3, a4⟩ := hL.cons_inv
      have hkr := h2 hr hi hu a1
      refine ⟨some (i, y.val), ?_, 0, y, by simp, by simp, hkr.2 rfl, ?_⟩
      · have := hkr.1
        simp only [KeyRun] at this
        simp only [FindOK]
        split
        · exact ⟨by simp [Instr.findAsking, this.2], fun _ => by simp [Instr.findNow, this.1]⟩
        · rename_i hne
          split at this
          · exact absurd rfl (hne _)
          · simp [Instr.findNow, this]
      · exact .cons hu huv a3 a4
    | false =>
      obtain ⟨es', new, k1, k2⟩ := putM_inv hs hok hd h1
      refine ⟨_, new, k1, fun {e w u uv L} hr hi hu huv hL i => ?_⟩
      obtain ⟨y, L', rfl, a1, a2, a3, a4⟩ := hL.cons_inv
      have hkr := (h2 hr hi hu a1).1
      obtain ⟨r', g1, g2⟩ := k2 hr hi hu huv a4 (i + 1)
      refine ⟨r', ?_, ?_⟩
      · simp only [KeyRun] at hkr
        simp only [FindOK] at g1 ⊢
        split
        · exact ⟨by simp [Instr.findAsking, hkr.2, g1.1], fun _ => by simp [Instr.findNow, hkr.1]⟩
        · rename_i hne
          split at hkr
          · exact absurd rfl (hne _)
          · split at g1
            · exact absurd rfl (hne _)
            · simp [Instr.findNow, hkr, g1]
      · cases new with
        | true => exact ⟨g2.1, .cons a1 a2 a3 g2.2⟩
        | false =>
          obtain ⟨j, z, b1, b2, b3, b4⟩ := g2
          exact ⟨j + 1, z, by simpa using b1, by rw [b2]; congr 2; omega, b3, .cons a1 a2 a3 b4⟩

theorem act_mapUpdate {ty : TypeId} {x i y : Operand} {call : CallFn} (hh : actC P G call (.mapUpdate ty x i y) t m k = true) (hs : Sat σ m.tab) :
    ActOK P σ G ⟨dst, .mapUpdate ty x i y, type, pos, after, guard⟩ t m k := by
  simp only [actC] at hh
  split at hh
  · rename_i kt el hu
    obtain ⟨cx, hcx, h1⟩ := getO_inv hh
    obtain ⟨ci, hci, h2⟩ := getO_inv h1
    obtain ⟨cy, hcy, h3⟩ := getO_inv h2
    clear h1 h2 hh
    split at h3
    · cases h3
    · rename_i hok
      have hd0 : ∃ d, P.underlying kt = some d := by
        cases hd : P.underlying kt with
        | none => simp [keyOk, hd] at hok
        | some d => exact ⟨d, rfl⟩
      obtain ⟨d, hd⟩ := hd0
      cases cx <;> simp only [] at h3 <;> first | (cases h3; done) | skip
      rename_i b
      obtain ⟨cb, hcb, h4⟩ := getK_inv h3
      cases cb <;> simp only [] at h4 <;> first | (cases h4; done) | skip
      rename_i es clock
      obtain ⟨es', new, h5, h6⟩ := putM_inv hs hok hd h4
      rw [forceN_eq] at h5
      obtain ⟨h', h7, _, hh'⟩ := setK_inv _ _ _ _ h5
      refine ⟨undefC, _, h7, hs, fun e w ρ hR ho => ?_⟩
      have v1 := ho x (by simp [Op.operands]) _ hcx
      have v2 := ho i (by simp [Op.operands]) _ hci
      have v3 := ho y (by simp [Op.operands]) _ hcy
      generalize hx : ρ x = ux at v1
      cases v1 with
      | @map _ p hb =>
        have := hR.hr _ _ _ hb hcb
        split at this
        · rename_i hl
          obtain ⟨o, g2, g3⟩ := this
          cases g3 with
          | map hln hv =>
            rename_i entries
            obtain ⟨r', q1, q2⟩ := h6 hR.hr hR.inj v2 v3 ⟨hln, hv⟩ 0
            have hfk := findKey_run hd q1
            have hck := checkKey_run (P := P) hok false (ρ i) w 9999
            have hlt : p.r < w.heap.size := hR.lt hb hl
            have hset : ∀ (obj : Obj) (z : Nat), ({ w with heap := w.heap.setIfInBounds p.r obj } : World).heap[z]? = if z = p.r then some obj else w.heap[z]? := by
              intro obj z
              show (w.heap.setIfInBounds p.r obj)[z]? = _
              by_cases hz : z = p.r
              · subst hz; simp [hlt]
              · rw [Array.getElem?_setIfInBounds_ne (fun h => hz h.symm), if_neg hz]
            cases new with
            | true =>
              obtain ⟨rfl, hER⟩ := q2
              have hp := hR.put hb hl (cb := .map es' (clock + 1)) (obj := .map (entries.push { key := ρ i, val := ρ y, born := clock }) (clock + 1)) (.map (by simpa using hER.1) (by simpa using hER.2)) hh' (hset _) rfl rfl rfl
              refine ⟨.skip, _, e, ?_, .inr ⟨rfl, rfl⟩, hp.1, hp.2⟩
              simp [execOp, Instr.mapUpdate, undRun hu, hx, getObj, setObj, Sem.run, g2, hck, hfk]
            | false =>
              obtain ⟨j, z, b1, rfl, b3, b4⟩ := q2
              have b1' : entries[j]? = some z := by simpa using b1
              have hp := hR.put hb hl (cb := .map es' clock) (obj := .map (entries.modify j fun e => { e with key := ρ i, val := ρ y }) clock) (.map (by simpa [Array.toList_modify] using b4.1) (by simpa [Array.toList_modify] using b4.2)) hh' (hset _) rfl rfl rfl
              refine ⟨.skip, _, e, ?_, .inr ⟨rfl, rfl⟩, hp.1, hp.2⟩
              have hks : (Instr.keyThatStays z.key (ρ i)).run P w = .ok (ρ i) w := by simp [Instr.keyThatStays, b3]
              simp [execOp, Instr.mapUpdate, undRun hu, hx, getObj, setObj, Sem.run, g2, hck, hfk, b1', hks]
        · cases this
  · cases hh

end
end Go.Ev
