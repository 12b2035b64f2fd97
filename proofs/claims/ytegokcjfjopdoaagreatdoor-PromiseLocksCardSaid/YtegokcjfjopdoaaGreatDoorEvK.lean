/- A verified evaluator for the model's code (part EvK): own work, of no program. -/
import Derived.Test.YtegokcjfjopdoaaGreatDoorEvJ
namespace Go.Ev

section
variable {P : Program} {σ : Sg} {G : Nat → Bool} {t : Tm} {h : Hp} {tab : Tab} {nb : Nat} {k : KF}
variable {dst : Option Tmp} {type : TypeId} {pos : String} {after : Array Edge} {guard : Option (Nat × Bool)}

theorem elemOfSl_inv {ty e : TypeId} (he : elemOfSl P ty = some e) : P.underlying ty = some (.slice e) := by
  simp only [elemOfSl] at he
  split at he
  · rename_i d hd; simp at he; rw [← he]; exact hd
  · cases he

theorem asIntOf_int (kd : IntKind) (n : Int) (w : World) : (asIntOf (.int kd n)).run P w = .ok (kd, n) w := rfl

theorem fl_indexAddr {ty : TypeId} {x i : Operand} (hh : floatC P G (.indexAddr ty x i) t h tab nb k = true) (hs : Sat σ tab) :
    FlOK P σ G ⟨dst, .indexAddr ty x i, type, pos, after, guard⟩ t h nb k := by
  obtain ⟨cx, hcx, h1⟩ := getO_inv hh
  obtain ⟨ci, hci, h2⟩ := getO_inv h1
  obtain ⟨n, tab', h3, hs', kd, hn⟩ := asNat_inv h2 hs
  cases cx <;> simp only [] at h3 <;> first | (cases h3; done) | skip
  · rename_i b off
    split at h3
    · rename_i len el hu
      split at h3
      · rename_i hlt
        have hlt' : n < len := by simpa [Nat.blt_eq] using hlt
        obtain ⟨i', hi', h4⟩ := szK_inv h3
        rw [forceN_eq] at h4
        refine ⟨_, none, tab', h4, hs', fun e w ρ hr hij ho => ?_⟩
        have hx := ho x (by simp [Op.operands]) _ hcx
        have hii := hn e _ (ho i (by simp [Op.operands]) _ hci)
        generalize hy : ρ x = y at hx
        cases hx with
        | @ptr _ _ p hb =>
          refine ⟨.pointer (some ⟨p.r, off + n * i'.size + p.d, none⟩), ?_, .ptr hb⟩
          have c1 : (0 : Int) ≤ (n : Int) ∧ (n : Int) < (len : Int) := by omega
          simp [execOp, Instr.indexAt, hii, asIntOf_int, undRun hu, hy, Instr.sureAddr, c1, szRun hi', addr_add]
          omega
      · cases h3
    · cases h3
  · rename_i b off len cap
    split at h3
    · rename_i el he
      have hu := elemOfSl_inv he
      split at h3
      · rename_i hlt
        have hlt' : n < len := by simpa [Nat.blt_eq] using hlt
        obtain ⟨i', hi', h4⟩ := szK_inv h3
        rw [forceN_eq] at h4
        refine ⟨_, none, tab', h4, hs', fun e w ρ hr hij ho => ?_⟩
        have hx := ho x (by simp [Op.operands]) _ hcx
        have hii := hn e _ (ho i (by simp [Op.operands]) _ hci)
        generalize hy : ρ x = y at hx
        cases hx with
        | @sl _ _ _ _ p hb =>
          refine ⟨.pointer (some ⟨p.r, off + n * i'.size + p.d, none⟩), ?_, .ptr hb⟩
          have c1 : (0 : Int) ≤ (n : Int) ∧ (n : Int) < (len : Int) := by omega
          simp [execOp, Instr.indexAt, hii, asIntOf_int, undRun hu, hy, c1, szRun hi', addr_add]
          omega
      · cases h3
    · cases h3

theorem fl_index {ty : TypeId} {x i : Operand} (hh : floatC P G (.index ty x i) t h tab nb k = true) (hs : Sat σ tab) :
    FlOK P σ G ⟨dst, .index ty x i, type, pos, after, guard⟩ t h nb k := by
  obtain ⟨cx, hcx, h1⟩ := getO_inv hh
  obtain ⟨ci, hci, h2⟩ := getO_inv h1
  obtain ⟨n, tab', h3, hs', kd, hn⟩ := asNat_inv h2 hs
  cases cx <;> simp only [] at h3 <;> first | (cases h3; done) | skip
  · rename_i len code
    split at h3
    · rename_i hu
      split at h3
      · rename_i hlt
        have hlt' : n < len := by simpa [Nat.blt_eq] using hlt
        rw [forceN_eq] at h3
        refine ⟨_, none, tab', h3, hs', fun e w ρ hr hij ho => ?_⟩
        have hx := ho x (by simp [Op.operands]) _ hcx
        have hii := hn e _ (ho i (by simp [Op.operands]) _ hci)
        generalize hy : ρ x = y at hx
        cases hx with
        | str s hl hc =>
          subst hl; subst hc
          have hlt2 : n < s.data.toList.length := hlt'
          have hidx := enc_index s.data.toList hlt2
          rw [strLen] at hidx
          rw [hidx]
          have hget : s[n]? = some (s.data.toList[n]) := by
            rw [getElem?_pos s n hlt']
            congr 1
          refine ⟨.int .u8 (s.data.toList[n].toNat : Int), ?_, .int _ _⟩
          simp [execOp, Instr.index, hii, asIntOf_int, undRun hu, hy, hget]
      · cases h3
    · cases h3
  · rename_i cs
    split at h3
    · rename_i len el hu
      split at h3
      · rename_i hlt
        have hlt' : n < len := by simpa [Nat.blt_eq] using hlt
        obtain ⟨i', hi', h4⟩ := szK_inv h3
        obtain ⟨c, h5, hc⟩ := partC_inv (σ := σ) h4
        refine ⟨_, none, tab', h5, hs', fun e w ρ hr hij ho => ?_⟩
        have hx := ho x (by simp [Op.operands]) _ hcx
        have hii := hn e _ (ho i (by simp [Op.operands]) _ hci)
        generalize hy : ρ x = y at hx
        cases hx with
        | agg hl hv =>
          obtain ⟨v, h6, h7⟩ := hc w ⟨hl, hv⟩
          refine ⟨v, ?_, h7⟩
          have c1 : (0 : Int) ≤ (n : Int) ∧ (n : Int) < (len : Int) := by omega
          simp [execOp, Instr.index, hii, asIntOf_int, undRun hu, hy, c1, szRun hi', h6]
      · cases h3
    · cases h3

/-- the two bounds of a slice expression, as the real values have them -/
def BdOK (σ : Sg) (lo hi : Option CV) (isSlice : Bool) (P : Program) (l hh : Nat) (len cap : Nat) : Prop :=
  ∀ (e : Env) (w : World) (lo' hi' : Option Value) (s : Nat), (∀ c v, lo = some c → lo' = some v → VR σ e c v) → (∀ c v, hi = some c → hi' = some v → VR σ e c v) → lo.isSome = lo'.isSome → hi.isSome = hi'.isSome →
    (Instr.sliceBounds isSlice len (cap + s) lo' hi' none).run P w = .ok (l, hh, cap + s) w

theorem sliceBd_inv {len cap : Nat} {lo hi : Option CV} {k : Nat → Nat → Tab → Bool} (h : sliceBd len cap lo hi tab k = true) (hs : Sat σ tab) (hlc : len ≤ cap) (isSlice : Bool) :
    ∃ l h' tab', k l h' tab' = true ∧ Sat σ tab' ∧ l ≤ h' ∧ h' ≤ cap ∧ BdOK σ lo hi isSlice P l h' len cap := by
  have bnd : ∀ {v : CV} {n y : Nat} {code : BoundsCode} {kd : IntKind} {e : Env} {v' : Value} {w : World}, (∀ e v', VR σ e v v' → v' = .int kd (n : Int)) → VR σ e v v' → n ≤ y →
      (Instr.sliceBound v' y code).run P w = .ok n w := by
    intro v n y code kd e v' w hn hv hle
    rw [hn e v' hv]
    have c1 : (0 : Int) ≤ (n : Int) ∧ (n : Int) ≤ (y : Int) := by omega
    simp [Instr.sliceBound, asIntOf_int, c1]
  have low : ∀ {lo : Option CV} {h : Nat} {tab : Tab} {k : Nat → Tab → Bool}, loBd lo h tab k = true → Sat σ tab → ∃ l tab', k l tab' = true ∧ Sat σ tab' ∧ l ≤ h ∧
      ∀ (e : Env) (w : World) (lo' : Option Value), (∀ c v, lo = some c → lo' = some v → VR σ e c v) → lo.isSome = lo'.isSome →
        (lo' = none → l = 0) ∧ ∀ v, lo' = some v → ∀ code, (Instr.sliceBound v h code).run P w = .ok l w := by
    intro lo h tab k hh hs
    cases lo with
    | none =>
      refine ⟨0, tab, hh, hs, Nat.zero_le _, fun e w lo' _ h1 => ?_⟩
      cases lo' <;> simp at h1
      exact ⟨(fun _ => rfl), (fun v h => by cases h)⟩
    | some v =>
      obtain ⟨n, tab', h1, hs', kd, hn⟩ := asNat_inv (show asNat v tab (fun l tab => match Nat.ble l h with | true => k l tab | false => false) = true from hh) hs
      split at h1
      · rename_i hle
        have hle' : n ≤ h := Nat.le_of_ble_eq_true hle
        refine ⟨n, tab', h1, hs', hle', fun e w lo' hv g1 => ?_⟩
        cases lo' with
        | none => simp at g1
        | some u => exact ⟨(fun h => by cases h), (fun v' h' code => by cases h'; exact bnd hn (hv v u rfl rfl) hle')⟩
      · cases h1
  cases hi with
  | none =>
    obtain ⟨l, tab', h1, hs', hle, hrun⟩ := low (show loBd lo len tab (fun l tab => k l len tab) = true from h) hs
    refine ⟨l, len, tab', h1, hs', hle, hlc, fun e w lo' hi' s hv _ g1 g2 => ?_⟩
    cases hi' with
    | some _ => simp at g2
    | none =>
      obtain ⟨r1, r2⟩ := hrun e w lo' hv g1
      cases lo' with
      | none => obtain rfl := r1 rfl; simp [Instr.sliceBounds]
      | some u => simp [Instr.sliceBounds, r2 u rfl]
  | some v =>
    obtain ⟨n, tab', h1, hs', kd, hn⟩ := asNat_inv (show asNat v tab (fun h tab => match Nat.ble h cap with
      | true => loBd lo h tab fun l tab => k l h tab
      | false => false) = true from h) hs
    split at h1
    · rename_i hle
      have hle' : n ≤ cap := Nat.le_of_ble_eq_true hle
      obtain ⟨l, tab'', h2, hs'', hle2, hrun⟩ := low h1 hs'
      refine ⟨l, n, tab'', h2, hs'', hle2, hle', fun e w lo' hi' s hv hvh g1 g2 => ?_⟩
      cases hi' with
      | none => simp at g2
      | some u =>
        have b1 : ∀ code, (Instr.sliceBound u (cap + s) code).run P w = .ok n w := fun code => bnd hn (hvh v u rfl rfl) (by omega)
        obtain ⟨r1, r2⟩ := hrun e w lo' hv g1
        cases lo' with
        | none => obtain rfl := r1 rfl; simp [Instr.sliceBounds, b1]
        | some u' => simp [Instr.sliceBounds, b1, r2 u' rfl]
    · cases h1

theorem optO_inv {x : Option Operand} {k : Option CV → Bool} (h : optO G x t k = true) : ∃ c, k c = true ∧ c.isSome = x.isSome ∧ ∀ y cv, x = some y → c = some cv → OV G t y cv := by
  cases x with
  | none => exact ⟨none, h, rfl, fun _ _ h => by cases h⟩
  | some y =>
    obtain ⟨c, hc, hk⟩ := getO_inv (show getO G y t (fun v => k (some v)) = true from h)
    exact ⟨some c, hk, rfl, fun y' cv h1 h2 => by cases h1; cases h2; exact hc⟩

theorem fl_slice {ty : TypeId} {x : Operand} {lo hi mx : Option Operand} (hh : floatC P G (.slice ty x lo hi mx) t h tab nb k = true) (hs : Sat σ tab) :
    FlOK P σ G ⟨dst, .slice ty x lo hi mx, type, pos, after, guard⟩ t h nb k := by
  cases mx with
  | some _ => cases hh
  | none =>
  obtain ⟨cx, hcx, h1⟩ := getO_inv (show getO G x t _ = true from hh)
  obtain ⟨cl, h2, hl1, hl2⟩ := optO_inv h1
  obtain ⟨ch, h3, hh1, hh2⟩ := optO_inv h2
  have bds : ∀ (e : Env) (ρ : Operand → Value), (∀ y, y ∈ (Op.slice ty x lo hi none).operands → ∀ c, OV G t y c → VR σ e c (ρ y)) →
      (∀ c v, cl = some c → lo.map ρ = some v → VR σ e c v) ∧ (∀ c v, ch = some c → hi.map ρ = some v → VR σ e c v) ∧ cl.isSome = (lo.map ρ).isSome ∧ ch.isSome = (hi.map ρ).isSome := by
    intro e ρ ho
    refine ⟨fun c v hc hv => ?_, fun c v hc hv => ?_, by simp [hl1], by simp [hh1]⟩
    · cases lo with
      | none => simp at hv
      | some y => simp at hv; subst hv; exact ho y (by simp [Op.operands]) c (hl2 y c rfl hc)
    · cases hi with
      | none => simp at hv
      | some y => simp at hv; subst hv; exact ho y (by simp [Op.operands]) c (hh2 y c rfl hc)
  cases cx <;> simp only [] at h3 <;> first | (cases h3; done) | skip
  · -- a string
    rename_i len code
    split at h3
    · rename_i hu
      obtain ⟨l, hi', tab', h4, hs', hle, hle2, hbd⟩ := sliceBd_inv (P := P) h3 hs (Nat.le_refl _) false
      rw [forceN_eq, forceN_eq] at h4
      refine ⟨_, none, tab', h4, hs', fun e w ρ hr hij ho => ?_⟩
      have hx := ho x (by simp [Op.operands]) _ hcx
      generalize hy : ρ x = y at hx
      obtain ⟨b1, b2, b3, b4⟩ := bds e ρ ho
      have hb := hbd e w _ _ 0 b1 b2 b3 b4
      cases hx with
      | str s hl hc =>
        subst hl; subst hc
        refine ⟨.string (s.extract l hi'), ?_, .str _ ?_ ?_⟩
        · simp only [Nat.add_zero] at hb
          simp [execOp, Instr.sliceAt, Instr.slice, undRun hu, hy, hb]
        · simp; omega
        · rw [← strLen, enc_slice s.data.toList hle (by rw [strLen]; exact hle2)]
          simp [ByteArray.data_extract, List.drop_take]
    · cases h3
  · -- nil
    split at h3
    · rename_i el he
      have hu := elemOfSl_inv he
      obtain ⟨i, hi0, h4⟩ := szK_inv h3
      obtain ⟨l, hi', tab', h5, hs', hle, hle2, hbd⟩ := sliceBd_inv (P := P) h4 hs (Nat.le_refl _) true
      refine ⟨_, none, tab', h5, hs', fun e w ρ hr hij ho => ?_⟩
      have hx := ho x (by simp [Op.operands]) _ hcx
      generalize hy : ρ x = y at hx
      obtain ⟨b1, b2, b3, b4⟩ := bds e ρ ho
      have hb := hbd e w _ _ 0 b1 b2 b3 b4
      have e1 : l = 0 := by omega
      have e2 : hi' = 0 := by omega
      subst e1; subst e2
      cases hx
      refine ⟨.slice none 0 0, ?_, .sl0⟩
      simp [execOp, Instr.sliceAt, Instr.slice, undRun hu, hy, hb, szRun hi0]
    · cases h3
  · -- a slice
    rename_i b off len cap
    split at h3
    · rename_i el he
      have hu := elemOfSl_inv he
      obtain ⟨i, hi0, h4⟩ := szK_inv h3
      split at h4
      · cases h4
      · rename_i hlc0
        have hlc : len ≤ cap := Nat.le_of_ble_eq_true hlc0
        obtain ⟨l, hi', tab', h5, hs', hle, hle2, hbd⟩ := sliceBd_inv (P := P) h4 hs hlc true
        split at h5
        · rename_i hlt
          have hlt' : l < cap := by simpa [Nat.blt_eq] using hlt
          rw [forceN_eq, forceN_eq, forceN_eq] at h5
          refine ⟨_, none, tab', h5, hs', fun e w ρ hr hij ho => ?_⟩
          have hx := ho x (by simp [Op.operands]) _ hcx
          generalize hy : ρ x = y at hx
          obtain ⟨b1, b2, b3, b4⟩ := bds e ρ ho
          cases hx with
          | @sl _ _ _ _ p hb0 =>
            have hb := hbd e w _ _ p.s b1 b2 b3 b4
            refine ⟨.slice (some ⟨p.r, off + l * i.size + p.d, none⟩) (hi' - l) (cap - l + p.s), ?_, .sl hb0⟩
            have hne : ¬ (cap + p.s = l) := by omega
            simp [execOp, Instr.sliceAt, Instr.slice, undRun hu, hy, hb, szRun hi0, hne, addr_add]
            omega
        · rename_i hlt
          refine ⟨_, none, tab', h5, hs', fun e w ρ hr hij ho => ?_⟩
          have hx := ho x (by simp [Op.operands]) _ hcx
          generalize hy : ρ x = y at hx
          obtain ⟨b1, b2, b3, b4⟩ := bds e ρ ho
          cases hx with
          | @sl _ _ _ _ p hb0 =>
            have hb := hbd e w _ _ p.s b1 b2 b3 b4
            have hge : ¬ l < cap := by intro hh; rw [← Nat.blt_eq, hlt] at hh; cases hh
            have e1 : hi' - l = 0 := by omega
            by_cases hm : cap + p.s = l
            · refine ⟨.slice (some ⟨p.r, off + p.d, none⟩) 0 (cap + p.s - l), ?_, .slE _ _ _⟩
              rw [hm] at hb
              simp [execOp, Instr.sliceAt, Instr.slice, undRun hu, hy, hb, szRun hi0, hm, e1]
            · refine ⟨.slice (some ⟨p.r, off + p.d + l * i.size, none⟩) 0 (cap + p.s - l), ?_, .slE _ _ _⟩
              simp [execOp, Instr.sliceAt, Instr.slice, undRun hu, hy, hb, szRun hi0, hm, e1, addr_add]
    · cases h3
  · -- an empty one
    split at h3
    · rename_i el he
      have hu := elemOfSl_inv he
      obtain ⟨i, hi0, h4⟩ := szK_inv h3
      obtain ⟨l, hi', tab', h5, hs', hle, hle2, hbd⟩ := sliceBd_inv (P := P) h4 hs (Nat.le_refl _) true
      refine ⟨_, none, tab', h5, hs', fun e w ρ hr hij ho => ?_⟩
      have hx := ho x (by simp [Op.operands]) _ hcx
      generalize hy : ρ x = y at hx
      obtain ⟨b1, b2, b3, b4⟩ := bds e ρ ho
      have e1 : l = 0 := by omega
      have e2 : hi' = 0 := by omega
      subst e1; subst e2
      cases hx with
      | slE r o c =>
        have hb := hbd e w _ _ c b1 b2 b3 b4
        simp only [Nat.zero_add] at hb
        refine ⟨.slice (some ⟨r, o, none⟩) 0 c, ?_, .slE _ _ _⟩
        by_cases hm : c = 0
        · subst hm
          simp [execOp, Instr.sliceAt, Instr.slice, undRun hu, hy, hb, szRun hi0]
        · simp [execOp, Instr.sliceAt, Instr.slice, undRun hu, hy, hb, szRun hi0, hm, addr_add]
    · cases h3

end
end Go.Ev
