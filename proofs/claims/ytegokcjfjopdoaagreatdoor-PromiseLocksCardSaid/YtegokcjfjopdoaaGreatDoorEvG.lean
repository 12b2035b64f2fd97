/- A verified evaluator for the model's code (part EvG): own work, of no program. -/
import Derived.Test.YtegokcjfjopdoaaGreatDoorEvF
namespace Go.Ev

/-! Strings -/
theorem enc_from (l : List UInt8) : ∀ a, l.foldl (fun a b => a * 256 + b.toNat) a = a * 256 ^ l.length + encBytes l := by
  induction l with
  | nil => intro a; simp [encBytes]
  | cons b l ih =>
    intro a
    simp only [List.foldl_cons, encBytes, List.length_cons]
    rw [ih, ih (0 * 256 + b.toNat)]
    rw [Nat.pow_succ]
    generalize 256 ^ l.length = q
    generalize encBytes l = z
    simp only [Nat.add_mul, Nat.zero_mul, Nat.zero_add, Nat.add_assoc]
    rw [Nat.mul_assoc a 256 q, Nat.mul_comm 256 q]
theorem enc_cons (b : UInt8) (l : List UInt8) : encBytes (b :: l) = b.toNat * 256 ^ l.length + encBytes l := by
  have := enc_from l (0 * 256 + b.toNat)
  simp only [Nat.zero_mul, Nat.zero_add] at this
  simpa [encBytes] using this
theorem enc_append (x y : List UInt8) : encBytes (x ++ y) = encBytes x * 256 ^ y.length + encBytes y := by
  rw [show encBytes (x ++ y) = y.foldl (fun a b => a * 256 + b.toNat) (encBytes x) by simp [encBytes, List.foldl_append]]
  exact enc_from y _
theorem enc_lt (l : List UInt8) : encBytes l < 256 ^ l.length := by
  induction l with
  | nil => simp [encBytes]
  | cons b l ih =>
    rw [enc_cons, List.length_cons, Nat.pow_succ]
    have hb : b.toNat < 256 := b.toNat_lt
    have : (b.toNat + 1) * 256 ^ l.length ≤ 256 * 256 ^ l.length := Nat.mul_le_mul_right _ (by omega)
    rw [Nat.add_mul] at this
    omega
theorem dec_enc (l : List UInt8) : decBytes l.length (encBytes l) = l := by
  have key : ∀ (l : List UInt8) (q : Nat), decBytes l.length (q * 256 ^ l.length + encBytes l) = l := by
    intro l
    induction l with
    | nil => intro q; rfl
    | cons b l ih =>
      intro q
      simp only [List.length_cons, decBytes]
      have hp : 0 < 256 ^ l.length := Nat.pow_pos (by omega)
      have e : q * 256 ^ (l.length + 1) + encBytes (b :: l) = (q * 256 + b.toNat) * 256 ^ l.length + encBytes l := by
        rw [enc_cons, Nat.pow_succ, Nat.add_mul, Nat.mul_comm (256 ^ l.length) 256, ← Nat.mul_assoc]; omega
      rw [e, ih]
      congr 1
      have h1 : ((q * 256 + b.toNat) * 256 ^ l.length + encBytes l) / 256 ^ l.length = q * 256 + b.toNat := by
        rw [Nat.mul_comm, Nat.mul_add_div hp, Nat.div_eq_of_lt (enc_lt l)]; omega
      rw [h1]
      have h2 : (q * 256 + b.toNat) % 256 = b.toNat := by have := b.toNat_lt; omega
      rw [h2]
      exact UInt8.ofNat_toNat
  have := key l 0
  simpa using this
theorem enc_inj {a b : List UInt8} (hl : a.length = b.length) (h : encBytes a = encBytes b) : a = b := by
  rw [← dec_enc a, ← dec_enc b, hl, h]
theorem enc_mid (x y z : List UInt8) : encBytes (x ++ y ++ z) / 256 ^ z.length % 256 ^ y.length = encBytes y := by
  rw [enc_append, enc_append]
  have hz : 0 < 256 ^ z.length := Nat.pow_pos (by omega)
  rw [Nat.mul_comm, Nat.mul_add_div hz, Nat.div_eq_of_lt (enc_lt z), Nat.add_zero, Nat.mul_comm, Nat.mul_add_mod, Nat.mod_eq_of_lt (enc_lt y)]
theorem enc_slice (a : List UInt8) {l h : Nat} (hlh : l ≤ h) (hh : h ≤ a.length) : encBytes a / 256 ^ (a.length - h) % 256 ^ (h - l) = encBytes ((a.take h).drop l) := by
  have e : a = (a.take h).take l ++ (a.take h).drop l ++ a.drop h := by simp
  have h1 : ((a.take h).drop l).length = h - l := by simp; omega
  have h2 : (a.drop h).length = a.length - h := by simp
  have := enc_mid ((a.take h).take l) ((a.take h).drop l) (a.drop h)
  rw [← e, h1, h2] at this
  exact this
theorem enc_index (a : List UInt8) {i : Nat} (hi : i < a.length) : encBytes a / 256 ^ (a.length - 1 - i) % 256 = a[i].toNat := by
  have := enc_slice a (l := i) (h := i + 1) (by omega) (by omega)
  rw [show i + 1 - i = 1 by omega, Nat.pow_one, show a.length - (i + 1) = a.length - 1 - i by omega] at this
  rw [this]
  have : (a.take (i + 1)).drop i = [a[i]] := by
    rw [List.drop_take, show i + 1 - i = 1 by omega, List.drop_eq_getElem_cons hi]; rfl
  rw [this]; simp [encBytes]

theorem strLen (s : ByteArray) : s.data.toList.length = s.size := rfl

theorem beq_bytes {l1 l2 : List UInt8} : (Nat.beq l1.length l2.length && Nat.beq (encBytes l1) (encBytes l2)) = (l1 == l2) := by
  rw [Bool.eq_iff_iff]
  simp only [Bool.and_eq_true, Nat.beq_eq, beq_iff_eq]
  exact ⟨fun h => enc_inj h.1 h.2, fun h => by rw [h]; exact ⟨rfl, rfl⟩⟩

theorem strOp_inv {op : BinOp} {x y : ByteArray} {k : CV → Bool} (h : strOp op x.size (encBytes x.data.toList) y.size (encBytes y.data.toList) k = true) :
    ∃ c v, k c = true ∧ (∀ σ e, VR σ e c v) ∧ ∀ (P : Program) (ty : TypeId) (w : World), (binOp op ty (.string x) (.string y)).run P w = .ok v w := by
  have d1 : decBytes x.size (encBytes x.data.toList) = x.data.toList := by rw [← strLen, dec_enc]
  have d2 : decBytes y.size (encBytes y.data.toList) = y.data.toList := by rw [← strLen, dec_enc]
  have he : (Nat.beq x.size y.size && Nat.beq (encBytes x.data.toList) (encBytes y.data.toList)) = (x.data.toList == y.data.toList) := by
    rw [← strLen x, ← strLen y]; exact beq_bytes
  cases op with
  | add =>
    simp only [strOp, forceN_eq] at h
    split at h
    · rename_i hle
      have hle : x.size + y.size ≤ 1000000 := Nat.le_of_ble_eq_true hle
      refine ⟨_, .string (x ++ y), h, fun σ e => .str _ (by simp) ?_, fun P ty w => ?_⟩
      · rw [ByteArray.data_append, Array.toList_append, enc_append, strLen y]
      · have : ¬ ((x.size + y.size : Nat) : Int) > IntKind.i64.max := by simp only [IntKind.max, IntKind.signed, IntKind.bits]; omega
        simp only [binOp, Op.stringOp, this, if_false, Sem.run_pure]
    · cases h
  | eql => exact ⟨_, _, kB_inv h, fun _ _ => .bool _, fun P ty w => by simp [binOp, Op.stringOp, he, ByteArray.toList_eq]⟩
  | neq => exact ⟨_, _, kB_inv h, fun _ _ => .bool _, fun P ty w => by simp [binOp, Op.stringOp, he, ByteArray.toList_eq]⟩
  | lss => exact ⟨_, _, kB_inv h, fun _ _ => .bool _, fun P ty w => by simp [binOp, Op.stringOp, d1, d2, ByteArray.toList_eq]⟩
  | geq => exact ⟨_, _, kB_inv h, fun _ _ => .bool _, fun P ty w => by simp [binOp, Op.stringOp, d1, d2, ByteArray.toList_eq]⟩
  | leq => exact ⟨_, _, kB_inv h, fun _ _ => .bool _, fun P ty w => by simp [binOp, Op.stringOp, d1, d2, he, ByteArray.toList_eq]⟩
  | gtr => exact ⟨_, _, kB_inv h, fun _ _ => .bool _, fun P ty w => by simp [binOp, Op.stringOp, d1, d2, he, ByteArray.toList_eq]⟩
  | _ => cases h

/-! Equality -/
def fitV : TypeDesc → Value → Prop
  | .bool, .bool _ => True
  | .int _, .int _ _ => True
  | .string, .string _ => True
  | _, _ => False
/-- the answer of the plain comparison is the real one -/
theorem eqP_inv {σ : Sg} {x y : CV} {tab : Tab} {k : Bool → Tab → Bool} (h : eqP x y tab k = true) (hs : Sat σ tab) :
    ∃ b tab', k b tab' = true ∧ Sat σ tab' ∧ ∀ {P : Program} {e : Env} {u v : Value}, VR σ e x u → VR σ e y v → ∀ {t : TypeId} {d : TypeDesc}, P.underlying t = some d →
      (d = .bool ∨ (∃ kd, d = .int kd) ∨ d = .string) → fitV d u →
      ∀ (n : Nat) (w : World), (Op.equalIn (n + 1) t u v).run P w = .ok b w := by
  cases x with
  | bool a =>
    cases y <;> simp only [eqP] at h <;> first | (cases h; done) | skip
    rename_i b
    refine ⟨_, tab, h, hs, fun {P e u v} hu hv t d ht hd hm n w => ?_⟩
    cases hu; cases hv
    rcases hd with rfl | ⟨kd, rfl⟩ | rfl <;> simp [fitV] at hm
    simp [Op.equalIn, undRun ht]
  | int kd a =>
    cases y <;> simp only [eqP] at h <;> first | (cases h; done) | skip
    · rename_i kd' b
      split at h
      · rename_i hk
        obtain rfl : kd = kd' := by simpa using hk
        refine ⟨_, tab, h, hs, fun {P e u v} hu hv t d ht hd hm n w => ?_⟩
        cases hu; cases hv
        rcases hd with rfl | ⟨kd, rfl⟩ | rfl <;> simp [fitV] at hm
        simp only [Op.equalIn, Sem.run_bind, undRun ht, Result.andThen_ok, if_true, Sem.run_pure, eqI_eq]
        rfl
      · cases h
    · rename_i kd' s
      split at h
      · rename_i hk
        obtain rfl : kd = kd' := by simpa using hk
        obtain ⟨tab', h1, h2⟩ := symEq_inv h hs
        refine ⟨_, tab', h1, h2, fun {P e u v} hu hv t d ht hd hm n w => ?_⟩
        cases hu; cases hv
        rcases hd with rfl | ⟨kd, rfl⟩ | rfl <;> simp [fitV] at hm
        simp only [Op.equalIn, Sem.run_bind, undRun ht, Result.andThen_ok, if_true, Sem.run_pure]
        congr 1
        rw [Bool.eq_iff_iff, beq_iff_eq, decide_eq_true_eq]; exact eq_comm
      · cases h
  | sym kd s =>
    cases y <;> simp only [eqP] at h <;> first | (cases h; done) | skip
    · rename_i kd' b
      split at h
      · rename_i hk
        obtain rfl : kd = kd' := by simpa using hk
        obtain ⟨tab', h1, h2⟩ := symEq_inv h hs
        refine ⟨_, tab', h1, h2, fun {P e u v} hu hv t d ht hd hm n w => ?_⟩
        cases hu; cases hv
        rcases hd with rfl | ⟨kd, rfl⟩ | rfl <;> simp [fitV] at hm
        simp only [Op.equalIn, Sem.run_bind, undRun ht, Result.andThen_ok, if_true, Sem.run_pure]
        rfl
      · cases h
    · rename_i kd' s'
      split at h
      · rename_i hk
        simp only [Bool.and_eq_true, decide_eq_true_eq, Nat.beq_eq] at hk
        obtain ⟨rfl, rfl⟩ := hk
        refine ⟨_, tab, h, hs, fun {P e u v} hu hv t d ht hd hm n w => ?_⟩
        cases hu; cases hv
        rcases hd with rfl | ⟨kd, rfl⟩ | rfl <;> simp [fitV] at hm
        simp [Op.equalIn, undRun ht]
      · cases h
  | str l1 c1 =>
    cases y <;> simp only [eqP] at h <;> first | (cases h; done) | skip
    rename_i l2 c2
    refine ⟨_, tab, h, hs, fun {P e u v} hu hv t d ht hd hm n w => ?_⟩
    cases hu with
    | str s hl hc =>
      cases hv with
      | str s' hl' hc' =>
        rcases hd with rfl | ⟨kd, rfl⟩ | rfl <;> simp [fitV] at hm
        subst hl; subst hc; subst hl'; subst hc'
        simp only [Op.equalIn, Sem.run_bind, undRun ht, Result.andThen_ok, Sem.run_pure]
        rw [← strLen s, ← strLen s', beq_bytes, beq_toListBytes, ByteArray.toList_eq, ByteArray.toList_eq]
  | ssym s l =>
    cases y <;> simp only [eqP] at h <;> first | (cases h; done) | skip
    rename_i s' l'
    split at h
    · rename_i hk
      have hk : s = s' := by simpa using hk
      subst hk
      refine ⟨_, tab, h, hs, fun {P e u v} hu hv t d ht hd hm n w => ?_⟩
      cases hu; cases hv
      rcases hd with rfl | ⟨kd, rfl⟩ | rfl <;> simp [fitV] at hm
      simp only [Op.equalIn, Sem.run_bind, undRun ht, Result.andThen_ok, Sem.run_pure, beq_toListBytes]
      simp
    · cases h
  | _ => cases h

end Go.Ev
