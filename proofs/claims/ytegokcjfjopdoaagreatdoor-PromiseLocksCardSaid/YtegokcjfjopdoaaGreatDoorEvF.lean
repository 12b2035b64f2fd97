/- A verified evaluator for the model's code (part EvF): own work, of no program. -/
import Derived.Test.YtegokcjfjopdoaaGreatDoorEvE
import Derived.Laws.StructEq
namespace Go.Ev

/-! Integers -/
theorem ltI_eq (a b : Int) : ltI a b = decide (a < b) := by
  cases a with
  | ofNat a =>
    cases b with
    | ofNat b => simp only [ltI]; rw [Bool.eq_iff_iff]; simp [Nat.blt_eq]
    | negSucc b => simp only [ltI]; symm; simp; omega
  | negSucc a =>
    cases b with
    | ofNat b => simp only [ltI]; symm; simp; omega
    | negSucc b => simp only [ltI]; rw [Bool.eq_iff_iff]; simp [Nat.blt_eq]; omega
theorem eqI_eq (a b : Int) : eqI a b = decide (a = b) := by
  cases a with
  | ofNat a =>
    cases b with
    | ofNat b => simp only [eqI]; rw [Bool.eq_iff_iff]; simp [Nat.beq_eq]; exact Int.ofNat_inj.symm
    | negSucc b => simp [eqI]
  | negSucc a =>
    cases b with
    | ofNat b => simp [eqI]
    | negSucc b => simp only [eqI]; rw [Bool.eq_iff_iff]; simp [Nat.beq_eq]
theorem leI_eq (a b : Int) : leI a b = decide (a ≤ b) := by
  simp only [leI, ltI_eq]
  by_cases h : b < a
  · simp [h, Int.not_le.2 h]
  · simp [h, Int.not_lt.1 h]

theorem wrap_in {kd : IntKind} {x : Int} (h1 : kd.min ≤ x) (h2 : x ≤ kd.max) : kd.wrap x = x := by
  cases kd <;> simp [IntKind.min, IntKind.max, IntKind.signed, IntKind.bits] at h1 h2 <;> simp [IntKind.wrap, IntKind.signed, IntKind.bits] <;> omega

theorem wrapK_inv {kd : IntKind} {x : Int} {k : Int → Bool} (h : wrapK kd x k = true) : k (kd.wrap x) = true := by
  simp only [wrapK] at h
  split at h
  · rename_i hb
    simp only [leI_eq, Bool.and_eq_true, decide_eq_true_eq] at hb
    rw [forceI_eq] at h
    rw [wrap_in hb.1 hb.2]; exact h
  · rw [forceI_eq] at h; exact h

theorem intOp_inv {op : BinOp} {kd kd' : IntKind} {a b : Int} {k : CV → Bool} (h : intOp op kd a b k = true) (hk : kd = kd' ∨ op = .shl ∨ op = .shr) :
    ∃ c v, k c = true ∧ (∀ σ e, VR σ e c v) ∧ ∀ (P : Program) (ty : TypeId) (w : World), (binOp op ty (.int kd a) (.int kd' b)).run P w = .ok v w := by
  have same : op ≠ .shl → op ≠ .shr → kd = kd' := fun h1 h2 => by rcases hk with h | h | h <;> simp_all
  cases op with
  | add => obtain rfl := same (by simp) (by simp); exact ⟨_, _, wrapK_inv h, fun _ _ => .int _ _, fun P ty w => by simp [binOp, Op.intArith]⟩
  | sub => obtain rfl := same (by simp) (by simp); exact ⟨_, _, wrapK_inv h, fun _ _ => .int _ _, fun P ty w => by simp [binOp, Op.intArith]⟩
  | mul => obtain rfl := same (by simp) (by simp); exact ⟨_, _, wrapK_inv h, fun _ _ => .int _ _, fun P ty w => by simp [binOp, Op.intArith]⟩
  | quo =>
    obtain rfl := same (by simp) (by simp)
    simp only [intOp, eqI_eq] at h
    split at h
    · cases h
    · rename_i hb
      have hb' : b ≠ 0 := by simpa using hb
      exact ⟨_, _, wrapK_inv h, fun _ _ => .int _ _, fun P ty w => by simp [binOp, Op.intDiv, hb']⟩
  | rem =>
    obtain rfl := same (by simp) (by simp)
    simp only [intOp, eqI_eq] at h
    split at h
    · cases h
    · rename_i hb
      have hb' : b ≠ 0 := by simpa using hb
      rw [forceI_eq] at h
      exact ⟨_, _, h, fun _ _ => .int _ _, fun P ty w => by simp [binOp, Op.intDiv, hb']⟩
  | and => obtain rfl := same (by simp) (by simp); simp only [intOp, forceI_eq] at h; exact ⟨_, _, h, fun _ _ => .int _ _, fun P ty w => by simp [binOp, Op.intBits]⟩
  | or => obtain rfl := same (by simp) (by simp); simp only [intOp, forceI_eq] at h; exact ⟨_, _, h, fun _ _ => .int _ _, fun P ty w => by simp [binOp, Op.intBits]⟩
  | xor => cases h
  | andNot => cases h
  | shl =>
    simp only [intOp, ltI_eq] at h
    split at h
    · cases h
    · rename_i hb
      have hb' : ¬ b < 0 := by simpa using hb
      exact ⟨_, _, wrapK_inv h, fun _ _ => .int _ _, fun P ty w => by simp [binOp, Op.shift, hb']⟩
  | shr =>
    simp only [intOp, ltI_eq] at h
    split at h
    · cases h
    · rename_i hb
      have hb' : ¬ b < 0 := by simpa using hb
      rw [forceI_eq] at h
      exact ⟨_, _, h, fun _ _ => .int _ _, fun P ty w => by simp [binOp, Op.shift, hb']⟩
  | eql => obtain rfl := same (by simp) (by simp); exact ⟨_, _, kB_inv h, fun _ _ => .bool _, fun P ty w => by simp [binOp, Op.intCmp, eqI_eq]; rfl⟩
  | neq => obtain rfl := same (by simp) (by simp); exact ⟨_, _, kB_inv h, fun _ _ => .bool _, fun P ty w => by simp [binOp, Op.intCmp, eqI_eq]; rfl⟩
  | lss => obtain rfl := same (by simp) (by simp); exact ⟨_, _, kB_inv h, fun _ _ => .bool _, fun P ty w => by simp [binOp, Op.intCmp, ltI_eq]⟩
  | leq => obtain rfl := same (by simp) (by simp); exact ⟨_, _, kB_inv h, fun _ _ => .bool _, fun P ty w => by simp [binOp, Op.intCmp, leI_eq]⟩
  | gtr => obtain rfl := same (by simp) (by simp); exact ⟨_, _, kB_inv h, fun _ _ => .bool _, fun P ty w => by simp [binOp, Op.intCmp, ltI_eq]⟩
  | geq => obtain rfl := same (by simp) (by simp); exact ⟨_, _, kB_inv h, fun _ _ => .bool _, fun P ty w => by simp [binOp, Op.intCmp, leI_eq]⟩

/-! Symbols -/
theorem symLt_inv {σ : Sg} {s : Nat} {c : Int} {tab : Tab} {k : Bool → Tab → Bool} (h : symLt s c tab k = true) (hs : Sat σ tab) :
    ∃ tab', k (decide (σ.i s < c)) tab' = true ∧ Sat σ tab' := by
  simp only [symLt] at h
  split at h
  · rename_i lo hi ht
    have hb := hs s lo hi ht
    simp only [ltI_eq] at h
    split at h
    · rename_i h1
      have h1 : hi < c := by simpa using h1
      have : σ.i s < c := by omega
      exact ⟨tab, by simpa [this] using h, hs⟩
    · split at h
      · rename_i h1
        have h1 : ¬ lo < c := by simpa using h1
        have : ¬ σ.i s < c := by omega
        exact ⟨tab, by simpa [this] using h, hs⟩
      · rw [Bool.and_eq_true] at h
        by_cases hc : σ.i s < c
        · exact ⟨_, by simpa [hc] using h.1, sat_set hs hb.1 (by omega)⟩
        · exact ⟨_, by simpa [hc] using h.2, sat_set hs (by omega) hb.2⟩
  · cases h
theorem symEq_inv {σ : Sg} {s : Nat} {c : Int} {tab : Tab} {k : Bool → Tab → Bool} (h : symEq s c tab k = true) (hs : Sat σ tab) :
    ∃ tab', k (decide (σ.i s = c)) tab' = true ∧ Sat σ tab' := by
  simp only [symEq] at h
  split at h
  · rename_i lo hi ht
    have hb := hs s lo hi ht
    simp only [ltI_eq] at h
    split at h
    · rename_i h1
      simp only [Bool.or_eq_true, decide_eq_true_eq] at h1
      have : ¬ σ.i s = c := by omega
      exact ⟨tab, by simpa [this] using h, hs⟩
    · rw [Bool.and_eq_true, Bool.and_eq_true] at h
      obtain ⟨h1, h2, h3⟩ := h
      by_cases hc : σ.i s = c
      · exact ⟨_, by simpa [hc] using h1, sat_set hs (by omega) (by omega)⟩
      · rcases Int.lt_or_gt_of_ne hc with hlt | hgt
        · have : lo < c := by omega
          simp only [this, decide_true] at h2
          exact ⟨_, by simpa [hc] using h2, sat_set hs hb.1 (by omega)⟩
        · have : c < hi := by omega
          simp only [this, decide_true] at h3
          exact ⟨_, by simpa [hc] using h3, sat_set hs (by omega) hb.2⟩
  · cases h
/-- a comparison, as integers have it -/
def cmpB : BinOp → Int → Int → Bool
  | .eql, a, b => decide (a = b)
  | .neq, a, b => !decide (a = b)
  | .lss, a, b => decide (a < b)
  | .leq, a, b => decide (a ≤ b)
  | .gtr, a, b => decide (b < a)
  | .geq, a, b => decide (b ≤ a)
  | _, _, _ => false
def isCmp : BinOp → Bool
  | .eql | .neq | .lss | .leq | .gtr | .geq => true
  | _ => false
theorem cmp_run {op : BinOp} (h : isCmp op = true) (kd : IntKind) (a b : Int) (P : Program) (ty : TypeId) (w : World) :
    (binOp op ty (.int kd a) (.int kd b)).run P w = .ok (.bool (cmpB op a b)) w := by
  cases op <;> first | (cases h; done) | (simp [binOp, Op.intCmp, cmpB]; try rfl)
theorem symCmp_inv {σ : Sg} {op : BinOp} {s : Nat} {c : Int} {tab : Tab} {k : Bool → Tab → Bool} (h : symCmp op s c tab k = true) (hs : Sat σ tab) :
    isCmp op = true ∧ ∃ tab', k (cmpB op (σ.i s) c) tab' = true ∧ Sat σ tab' := by
  cases op <;> first | (cases h; done) | skip
  · exact ⟨rfl, symEq_inv (k := k) h hs⟩
  · exact ⟨rfl, symEq_inv (k := fun b => k (!b)) h hs⟩
  · exact ⟨rfl, symLt_inv (k := k) h hs⟩
  · obtain ⟨tab', h1, h2⟩ := symLt_inv (k := k) h hs
    exact ⟨rfl, tab', by simpa [cmpB, Int.lt_add_one_iff] using h1, h2⟩
  · obtain ⟨tab', h1, h2⟩ := symLt_inv (k := fun b => k (!b)) h hs
    refine ⟨rfl, tab', ?_, h2⟩
    have : cmpB .gtr (σ.i s) c = (!decide (σ.i s < c + 1)) := by
      simp only [cmpB]
      by_cases hh : c < σ.i s
      · simp [hh]; omega
      · simp [hh]; omega
    rw [this]; exact h1
  · obtain ⟨tab', h1, h2⟩ := symLt_inv (k := fun b => k (!b)) h hs
    refine ⟨rfl, tab', ?_, h2⟩
    have : cmpB .geq (σ.i s) c = (!decide (σ.i s < c)) := by
      simp only [cmpB]
      by_cases hh : c ≤ σ.i s
      · simp [hh]
      · simp [hh]; omega
    rw [this]; exact h1
theorem flip_cmp {op : BinOp} (h : isCmp (flip op) = true) (a b : Int) : isCmp op = true ∧ cmpB (flip op) a b = cmpB op b a := by
  cases op <;> first | (cases h; done) | (refine ⟨rfl, ?_⟩; simp [flip, cmpB]) <;> (try (by_cases hh : a = b <;> simp [hh, eq_comm]))
theorem symRem_inv {σ : Sg} {kd : IntKind} {s : Nat} {c : Int} {tab : Tab} {k : CV → Tab → Bool} (h : symRem kd s c tab k = true) (hs : Sat σ tab) :
    ∃ v, k (.int kd v) tab = true ∧ ∀ (P : Program) (ty : TypeId) (w : World), (binOp .rem ty (.int kd (σ.i s)) (.int kd c)).run P w = .ok (.int kd v) w := by
  simp only [symRem] at h
  split at h
  · rename_i lo hi m ht
    split at h
    · have hb := hs s _ _ ht
      have h0 : (0 : Int) ≤ σ.i s := Int.le_trans (Int.natCast_nonneg lo) hb.1
      obtain ⟨n, hn⟩ := Int.eq_ofNat_of_zero_le h0
      have hlt : n % (m + 1) < m + 1 := Nat.mod_lt _ (by omega)
      have := allB_inv h (n % (m + 1)) hlt
      rw [forceN_eq] at this
      refine ⟨_, this, fun P ty w => ?_⟩
      have hm : (Int.ofNat (m + 1)) ≠ 0 := by intro hh; cases hh
      have e1 : (n : Int).tmod (Int.ofNat (m + 1)) = Int.ofNat (n % (m + 1)) := rfl
      have hm' : Int.ofNat m.succ ≠ 0 := hm
      rw [hn]
      simp only [binOp, ne_eq, not_true_eq_false, if_false, Op.intDiv, hm', Sem.run_pure]
      rfl
    · cases h
  · cases h

end Go.Ev
