/- A verified evaluator for the model's code (part EvL): own work, of no program. -/
import Derived.Test.YtegokcjfjopdoaaGreatDoorEvK
import Derived.Laws.Tables
import Derived.Laws.MakeOwn
import Derived.Great.BuildSlice
namespace Go.Ev

section
variable {P : Program} {σ : Sg} {G : Nat → Bool} {t : Tm} {h : Hp} {tab : Tab} {nb : Nat} {k : KF}
variable {dst : Option Tmp} {type : TypeId} {pos : String} {after : Array Edge} {guard : Option (Nat × Bool)}

def setL {α : Type} (l : List α) : Nat → List α → List α
  | _, [] => l
  | off, x :: xs => setL (l.set off x) (off + 1) xs
theorem setList_eq (l : List CV) (off : Nat) (xs : List CV) : setList l off xs = setL l off xs := by
  induction xs generalizing l off with
  | nil => rfl
  | cons x xs ih => exact ih _ _
theorem LR.set {e : Env} {cs : List CV} {vs : List Value} (hl : LR σ e cs vs) {c : CV} {v : Value} (hv : VR σ e c v) (off : Nat) : LR σ e (cs.set off c) (vs.set off v) := by
  refine ⟨by simp [hl.1], fun i c' v' hc hv' => ?_⟩
  rw [List.getElem?_set] at hc hv'
  rw [hl.1] at hc
  split at hc
  · rename_i he
    rw [if_pos he] at hv'
    split at hc
    · rename_i hlt
      rw [if_pos hlt] at hv'
      cases hc; cases hv'; exact hv
    · cases hc
  · rename_i he
    rw [if_neg he] at hv'
    exact hl.2 i c' v' hc hv'
theorem LR.setL {e : Env} {cs : List CV} {vs : List Value} (hl : LR σ e cs vs) : ∀ {xs : List CV} {ys : List Value}, LR σ e xs ys → ∀ off, LR σ e (setL cs off xs) (Ev.setL vs off ys) := by
  intro xs
  induction xs generalizing cs vs with
  | nil => intro ys hx off; rw [hx.nil_inv]; exact hl
  | cons x xs ih =>
    intro ys hx off
    obtain ⟨y, ys', rfl, hy, hx'⟩ := hx.cons_inv
    exact ih (hl.set hy off) hx' (off + 1)
theorem foldl_setL (off : Nat) : ∀ (xs : List Value) (s : Nat) (cells : Array Value),
    ((xs.zipIdx s).foldl (fun cs (x : Value × Nat) => cs.setIfInBounds (off + x.2) x.1) cells).toList = setL cells.toList (off + s) xs
  | [], s, cells => rfl
  | x :: xs, s, cells => by
    simp only [List.zipIdx_cons, List.foldl_cons]
    rw [foldl_setL off xs (s + 1), show off + (s + 1) = off + s + 1 by omega]
    simp [setL]

theorem fillC_inv {place : Nat → Option (Nat × Nat)} {e : Env} {ρ : Operand → Value} : ∀ {is : List Nat} {vs : List CV} {us : List Value} {cells cs : List CV} {arr : Array Value},
    is.length = vs.length → LR σ e vs us → LR σ e cells arr.toList → fillC place (is.zip vs) cells = some cs → ∃ arr', Instr.fill place arr (is.zip us) = some arr' ∧ LR σ e cs arr'.toList
  | [], vs, us, cells, cs, arr, hl, hv, hc, hf => by
    simp [fillC] at hf; subst hf
    exact ⟨arr, by simp [Instr.fill], hc⟩
  | i :: is, [], us, cells, cs, arr, hl, hv, hc, hf => by simp at hl
  | i :: is, v :: vs, us, cells, cs, arr, hl, hv, hc, hf => by
    obtain ⟨u, us', rfl, hu, hus⟩ := hv.cons_inv
    simp only [List.zip_cons_cons, fillC] at hf
    split at hf
    · cases hf
    · rename_i off size hp
      split at hf
      · rename_i hb
        simp only [Bool.and_eq_true, Nat.beq_eq] at hb
        have hle : off + size ≤ cells.length := Nat.le_of_ble_eq_true hb.2
        have hcu := cells_LR hu
        have hlen : u.cells.size = size := by have := hcu.1; rw [hb.1] at this; simpa using this.symm
        have hca : cells.length = arr.size := by simpa using hc.1
        have hz : (u.cells.zipIdx.foldl (fun cs (x : Value × Nat) => cs.setIfInBounds (off + x.2) x.1) arr).toList = setL arr.toList off u.cells.toList := by
          rw [← Array.foldl_toList, Array.toList_zipIdx]
          exact foldl_setL off _ 0 arr
        have hnew := hc.setL hcu off
        rw [← hz, ← setList_eq] at hnew
        obtain ⟨arr', h1, h2⟩ := fillC_inv (place := place) (ρ := ρ) (by simpa using hl) hus hnew hf
        refine ⟨arr', ?_, h2⟩
        have n1 : ¬ (u.cells.size ≠ size || off + u.cells.size > arr.size) = true := by
          simp only [hlen, Bool.or_eq_true, decide_eq_true_eq, ne_eq, not_true_eq_false, false_or, gt_iff_lt, Nat.not_lt]; omega
        simp only [List.zip_cons_cons, Instr.fill, hp, n1]
        exact h1
      · cases hf

theorem forceL_eq (l : List CV) (k : List CV → Bool) : forceL l k = k l := by
  induction l generalizing k with
  | nil => rfl
  | cons x l ih => show forceL l (fun l => k (x :: l)) = _; rw [ih]

theorem parts_zip (parts : Array (Nat × Operand)) (ρ : Operand → Value) :
    (parts.map fun (x : Nat × Operand) => (x.1, ρ x.2)).toList = (parts.toList.map (·.1)).zip ((parts.toList.map (·.2)).map ρ) := by
  rw [Array.toList_map]
  induction parts.toList with
  | nil => rfl
  | cons x l ih => simp [ih]

theorem fl_build {ty : TypeId} {parts : Array (Nat × Operand)} (hh : floatC P G (.build ty parts) t h tab nb k = true) (hs : Sat σ tab) :
    FlOK P σ G ⟨dst, .build ty parts, type, pos, after, guard⟩ t h nb k := by
  simp only [floatC] at hh
  split at hh
  · rename_i z hz
    obtain ⟨i, zv, hi, hzv, hzz⟩ := zeroOf_inv hz
    have fin : ∀ (place : Nat → Option (Nat × Nat)), (∀ ps : List (Nat × Value), P.built ty ps = Instr.fill place zv.cells ps) →
        (getOs G (parts.toList.map (·.2)) t fun vs => match fillC place ((parts.toList.map (·.1)).zip vs) z with
          | some cs => forceL cs fun cs => k (.agg cs) none tab
          | none => false) = true → FlOK P σ G ⟨dst, .build ty parts, type, pos, after, guard⟩ t h nb k := by
      intro place hbuilt hg
      obtain ⟨vs, hl, hv, h1⟩ := getOs_inv hg
      split at h1
      · rename_i cs hcs
        rw [forceL_eq] at h1
        refine ⟨_, none, tab, h1, hs, fun e w ρ hr hij ho => ?_⟩
        have hvs := getOs_LR (σ := σ) (e := e) (ρ := ρ) hl hv (fun x hx c hc => ho x (by simpa [Op.operands] using hx) c hc)
        obtain ⟨arr', h2, h3⟩ := fillC_inv (ρ := ρ) (by simpa using hl.symm) hvs (ofValues_LR (σ := σ) (e := e) hzz) hcs
        refine ⟨.agg arr', ?_, .agg h3.1 h3.2⟩
        have := run_build (P := P) w ty (parts.map fun (i, x) => (i, ρ x)) arr' (by rw [hbuilt, parts_zip]; exact h2)
        simp only [execOp, Sem.run_bind, this, Result.andThen_ok, Sem.run_pure]
      · cases h1
    split at hh
    · rename_i fields hu
      split at hh
      · cases hh
      · rename_i hall
        refine fin _ (fun ps => ?_) hh
        have hpl : fields.toList.mapM (fun f => (P.info? f.type).map fun i => (f.offset, i.size)) = some (fields.toList.map fun f => (f.offset, P.cellsOf f.type)) := by
          have hall' : ∀ f ∈ fields.toList, (P.info? f.type).isSome = true := List.all_eq_true.1 hall
          generalize fields.toList = fs at hall'
          induction fs with
          | nil => simp
          | cons f fs ih =>
            obtain ⟨j, hj⟩ := Option.isSome_iff_exists.1 (hall' f (by simp))
            rw [List.mapM_cons, ih (fun g hg => hall' g (by simp [hg]))]
            simp [hj, Program.cellsOf]
        simp only [Program.built, hi, hu, hzv, hpl]
        congr 1
        funext j
        simp
    · rename_i n el hu
      obtain ⟨ie, hie, h1⟩ := szK_inv hh
      refine fin _ (fun ps => ?_) h1
      simp only [Program.built, hi, hu, hzv, hie]
    · cases hh
  · cases hh

theorem repl_LR {e : Env} {z : List CV} {zs : Array Value} (hz : LR σ e z zs.toList) (n : Nat) : LR σ e (repl n z) ((Array.range (n * z.length)).map (zs[· % zs.size]!)).toList := by
  have hsz : z.length = zs.size := by simpa using hz.1
  refine ⟨by simp [repl], fun i c v hc hv => ?_⟩
  simp only [repl, List.getElem?_map, Option.map_eq_some_iff] at hc
  obtain ⟨j, hj, rfl⟩ := hc
  simp only [Array.toList_map, Array.toList_range, List.getElem?_map, Option.map_eq_some_iff] at hv
  obtain ⟨j', hj', rfl⟩ := hv
  rw [hj] at hj'
  cases hj'
  have hlt : j < n * z.length := by
    have := List.mem_of_getElem? hj
    simpa using this
  have hpos : 0 < z.length := by
    rcases Nat.eq_zero_or_pos z.length with h | h
    · rw [h] at hlt; omega
    · exact h
  have hm : j % z.length < z.length := Nat.mod_lt _ hpos
  have g1 : z[j % z.length]? = some (z.getD (j % z.length) undefC) := by simp [List.getD, List.getElem?_eq_getElem hm]
  obtain ⟨v, hv, hr⟩ := hz.get g1
  have : zs[j % zs.size]! = v := by
    rw [← hsz]
    have hv' : zs[j % z.length]? = some v := by simpa using hv
    rw [getElem!_def, hv']
  rw [this]; exact hr

theorem fl_buildSlice {ty : TypeId} {len : Nat} {parts : Array (Nat × Operand)} (hh : floatC P G (.buildSlice ty len parts) t h tab nb k = true) (hs : Sat σ tab) :
    FlOK P σ G ⟨dst, .buildSlice ty len parts, type, pos, after, guard⟩ t h nb k := by
  simp only [floatC] at hh
  split at hh
  · rename_i el he
    have hu := elemOfSl_inv he
    split at hh
    · rename_i z hz
      obtain ⟨i, zv, hi, hzv, hzz⟩ := zeroOf_inv hz
      obtain ⟨i', hi', h1⟩ := szK_inv hh
      rw [hi] at hi'; cases hi'
      split at h1
      · rename_i hb
        simp only [Bool.and_eq_true, Nat.beq_eq] at hb
        have hle : len * z.length ≤ 65536 := Nat.le_of_ble_eq_true hb.1
        obtain ⟨vs, hl, hv, h2⟩ := getOs_inv h1
        split at h2
        · rename_i cs hcs
          rw [forceN_eq] at h2
          refine ⟨_, _, tab, h2, hs, fun e w ρ hr hij ho => ?_⟩
          have hvs := getOs_LR (σ := σ) (e := e) (ρ := ρ) hl hv (fun x hx c hc => ho x (by simpa [Op.operands] using hx) c hc)
          have hzl := ofValues_LR (σ := σ) (e := e) hzz
          obtain ⟨arr', h3, h4⟩ := fillC_inv (ρ := ρ) (by simpa using hl.symm) hvs (repl_LR hzl len) hcs
          have hsize : z.length = i.size := hb.2
          have hcl : cs.length = len * z.length := by
            have aux : ∀ (place : Nat → Option (Nat × Nat)) (ps : List (Nat × CV)) (c0 c1 : List CV), fillC place ps c0 = some c1 → c1.length = c0.length := by
              intro place ps
              induction ps with
              | nil => intro c0 c1 h; simp [fillC] at h; rw [h]
              | cons p ps ih =>
                intro c0 c1 h
                obtain ⟨a, b⟩ := p
                simp only [fillC] at h
                split at h
                · cases h
                · split at h
                  · rw [ih _ _ h, setList_eq]
                    have sl : ∀ (xs l : List CV) (o : Nat), (setL l o xs).length = l.length := by
                      intro xs
                      induction xs with
                      | nil => intro l o; rfl
                      | cons x xs ih => intro l o; simp [setL, ih]
                    exact sl _ _ _
                  · cases h
            rw [aux _ _ _ _ hcs]; simp [repl]
          refine ⟨.slice (some ⟨w.heap.size, 0, none⟩) len len, .cells arr' el, 0, w.drawn, ?_, ?_, .sl (o := 0) (cap := len) (p := ⟨w.heap.size, 0, 0, true⟩) (Env.up_same _ _ _)⟩
          · by_cases hpos : len * i.size = 0
            · have h3' : Instr.fill (fun j => some (j * i.size, i.size)) #[] ((parts.toList.map (·.1)).zip ((parts.toList.map (·.2)).map ρ)) = some arr' := by
                rw [hsize, hpos, Array.range_zero', Array.map_empty] at h3; exact h3
              have hp : parts.toList.map (fun x => (x.1, ρ x.2)) = (parts.toList.map (·.1)).zip ((parts.toList.map (·.2)).map ρ) := by
                have := parts_zip parts ρ
                rwa [Array.toList_map] at this
              rw [← hp] at h3'
              simp [execOp, Instr.buildSlice, undRun hu, szRun hi, hpos, newRow, Array.range_zero', h3']
            · have := run_buildSlice (P := P) w ty el len (parts.map fun (i, x) => (i, ρ x)) arr' i zv hu hi hzv (by rw [← hsize]; omega) hpos (by
                rw [parts_zip]
                rw [hsize] at h3
                exact h3)
              simp only [execOp, Sem.run_bind, this, Result.andThen_ok, Sem.run_pure, World.alloc]
          · rw [← hcl]; exact BR.fresh h4 _ _ 0
        · cases h2
      · cases h1
    · cases hh
  · cases hh

theorem fl_makeSlice {ty : TypeId} {lo co : Operand} (hh : floatC P G (.makeSlice ty lo co) t h tab nb k = true) (hs : Sat σ tab) :
    FlOK P σ G ⟨dst, .makeSlice ty lo co, type, pos, after, guard⟩ t h nb k := by
  simp only [floatC] at hh
  split at hh
  · rename_i el he
    have hu := elemOfSl_inv he
    split at hh
    · rename_i z hz
      obtain ⟨i, zv, hi, hzv, hzz⟩ := zeroOf_inv hz
      obtain ⟨cl, hcl, h1⟩ := getO_inv hh
      obtain ⟨l, tab1, h2, hs1, kd1, hn1⟩ := asNat_inv h1 hs
      obtain ⟨cc, hcc, h3⟩ := getO_inv h2
      obtain ⟨c, tab2, h4, hs2, kd2, hn2⟩ := asNat_inv h3 hs1
      obtain ⟨i', hi', h5⟩ := szK_inv h4
      rw [hi] at hi'; cases hi'
      split at h5
      · rename_i hb
        simp only [Bool.and_eq_true, Nat.beq_eq] at hb
        obtain ⟨b1, b2, b3, b4, b5⟩ := hb
        have b1 := Nat.le_of_ble_eq_true b1
        have b2 := Nat.le_of_ble_eq_true b2
        have b3 := Nat.le_of_ble_eq_true b3
        have b4 := Nat.le_of_ble_eq_true b4
        have hby : P.bytesOf el = i.bytes := by simp [Program.bytesOf, hi]
        rw [forceN_eq] at h5
        refine ⟨_, _, tab2, h5, hs2, fun e w ρ hr hij ho => ?_⟩
        have e1 := hn1 e _ (ho lo (by simp [Op.operands]) _ hcl)
        have e2 := hn2 e _ (ho co (by simp [Op.operands]) _ hcc)
        have hzl := ofValues_LR (σ := σ) (e := e) hzz
        have hrep := repl_LR hzl c
        refine ⟨.slice (some ⟨w.heap.size, 0, none⟩) l c, .cells (madeCells zv.cells (c * i.size)) el, 0, w.drawn, ?_, ?_, .sl (o := 0) (cap := c) (p := ⟨w.heap.size, 0, 0, true⟩) (Env.up_same _ _ _)⟩
        · have hbc : ((i.bytes : Int)) * (c : Int) ≤ 281474976710656 := by
            have h1 : c * i.bytes ≤ 1000000000 := hby ▸ b3
            have h2 : ((i.bytes : Int)) * (c : Int) = ((c * i.bytes : Nat) : Int) := by rw [Nat.mul_comm]; simp
            rw [h2]; omega
          have := run_make (P := P) w ty el i zv hu hi hzv kd1 kd2 l c (by omega) (by omega) hbc (by omega)
          simp only [execOp, Sem.run_bind, e1, e2, this, Result.andThen_ok, Sem.run_pure, World.alloc, Int.toNat_natCast]
        · have hlen : c * z.length = (repl c z).length := by simp [repl]
          rw [hlen]
          rw [b5] at hrep
          exact BR.fresh hrep _ _ 0
      · cases h5
    · cases hh
  · cases hh

end
end Go.Ev
