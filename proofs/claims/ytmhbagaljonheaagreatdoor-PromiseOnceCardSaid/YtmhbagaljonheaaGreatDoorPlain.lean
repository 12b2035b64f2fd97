/- Plain laws of UTF-8: what a range over a string writes rune by rune is valid, and is the string itself if that is valid. -/
import Derived.Lib.MapLaws
import Derived.Lib.ValidLaws
import Derived.Lib.RuneBytes
namespace Go.Proofs.YtmhbagaljonheaaGreatDoor
open Go
theorem byte_toNat (k : Nat) (h : k < 256) : (Nat.toUInt8 k).toNat = k := by
  simp; omega
theorem decode_encode (r : Nat) (hr : r < 55296 ∨ (57344 ≤ r ∧ r ≤ 1114111)) (t : List UInt8) : Lib.decodeL (Lib.encodeRune (r : Int) ++ t) = (r, (Lib.encodeRune (r : Int)).length) ∧ ¬ (r = 65533 ∧ (Lib.encodeRune (r : Int)).length = 1) := by
  rw [Lib.decodeL_N]
  unfold Lib.encodeRune
  rcases (by omega : r ≤ 127 ∨ (128 ≤ r ∧ r ≤ 2047) ∨ (2048 ≤ r ∧ r ≤ 65535) ∨ 65536 ≤ r) with h | h | h | h
  · rw [Lib.encodeRuneZ_one (by omega) (by omega)]
    have b0 := byte_toNat r (by omega)
    simp only [List.map_cons, List.map_nil, List.cons_append, List.nil_append, List.length_cons, List.length_nil, List.getD_cons_zero, Int.toNat_natCast, b0]
    refine ⟨?_, by omega⟩
    unfold Lib.decodeN
    rw [if_pos (by omega)]
  · rw [Lib.encodeRuneZ_two (by omega) (by omega)]
    have e0 : (192 + (r : Int) / 64).toNat = 192 + r / 64 := by omega
    have e1 : (128 + (r : Int) % 64).toNat = 128 + r % 64 := by omega
    have b0 := byte_toNat (192 + r / 64) (by omega)
    have b1 := byte_toNat (128 + r % 64) (by omega)
    simp only [List.map_cons, List.map_nil, List.cons_append, List.nil_append, List.length_cons, List.length_nil, List.getD_cons_zero, List.getD_cons_succ, e0, e1, b0, b1]
    refine ⟨?_, by omega⟩
    unfold Lib.decodeN
    rw [if_neg (by omega), if_pos (by omega), if_pos (by omega)]
    congr 1
    omega
  · rw [Lib.encodeRuneZ_three (by omega)]
    have e0 : (224 + (r : Int) / 4096).toNat = 224 + r / 4096 := by omega
    have e1 : (128 + (r : Int) / 64 % 64).toNat = 128 + r / 64 % 64 := by omega
    have e2 : (128 + (r : Int) % 64).toNat = 128 + r % 64 := by omega
    have b0 := byte_toNat (224 + r / 4096) (by omega)
    have b1 := byte_toNat (128 + r / 64 % 64) (by omega)
    have b2 := byte_toNat (128 + r % 64) (by omega)
    simp only [List.map_cons, List.map_nil, List.cons_append, List.nil_append, List.length_cons, List.length_nil, List.getD_cons_zero, List.getD_cons_succ, e0, e1, e2, b0, b1, b2]
    refine ⟨?_, by omega⟩
    unfold Lib.decodeN
    have hv : (224 + r / 4096) % 16 * 4096 + (128 + r / 64 % 64) % 64 * 64 + (128 + r % 64) % 64 = r := by omega
    rw [if_neg (by omega), if_neg (by omega), if_pos (by omega), hv, if_pos (by omega)]
  · rw [Lib.encodeRuneZ_four (by omega) (by omega)]
    have e0 : (240 + (r : Int) / 262144).toNat = 240 + r / 262144 := by omega
    have e1 : (128 + (r : Int) / 4096 % 64).toNat = 128 + r / 4096 % 64 := by omega
    have e2 : (128 + (r : Int) / 64 % 64).toNat = 128 + r / 64 % 64 := by omega
    have e3 : (128 + (r : Int) % 64).toNat = 128 + r % 64 := by omega
    have b0 := byte_toNat (240 + r / 262144) (by omega)
    have b1 := byte_toNat (128 + r / 4096 % 64) (by omega)
    have b2 := byte_toNat (128 + r / 64 % 64) (by omega)
    have b3 := byte_toNat (128 + r % 64) (by omega)
    simp only [List.map_cons, List.map_nil, List.cons_append, List.nil_append, List.length_cons, List.length_nil, List.getD_cons_zero, List.getD_cons_succ, e0, e1, e2, e3, b0, b1, b2, b3]
    refine ⟨?_, by omega⟩
    unfold Lib.decodeN
    have hv : (240 + r / 262144) % 8 * 262144 + (128 + r / 4096 % 64) % 64 * 4096 + (128 + r / 64 % 64) % 64 * 64 + (128 + r % 64) % 64 = r := by omega
    rw [if_neg (by omega), if_neg (by omega), if_neg (by omega), if_pos (by omega), hv, if_pos (by omega)]
theorem encode_ne (r : Nat) : Lib.encodeRune (r : Int) ≠ [] := by
  intro h
  have := Lib.encodeRuneZ_length (r : Int)
  have h1 := congrArg List.length h
  simp only [Lib.encodeRune, List.length_map, List.length_nil] at h1
  omega
theorem valid_encode (r : Nat) (hr : r < 55296 ∨ (57344 ≤ r ∧ r ≤ 1114111)) (t : List UInt8) : Lib.validD (Lib.encodeRune (r : Int) ++ t) = Lib.validD t := by
  obtain ⟨h1, h2⟩ := decode_encode r hr t
  rw [Lib.validD_step _ (by simp [encode_ne]), h1, if_neg h2]
  simp
/-- a rune that was decoded is one that may be written -/
theorem decoded (l : List UInt8) : (Lib.decodeL l).1 < 55296 ∨ (57344 ≤ (Lib.decodeL l).1 ∧ (Lib.decodeL l).1 ≤ 1114111) := by
  rw [Lib.decodeL_N]
  have k0 := (l.getD 0 0).toNat_lt
  have k1 := (l.getD 1 0).toNat_lt
  have k2 := (l.getD 2 0).toNat_lt
  have k3 := (l.getD 3 0).toNat_lt
  rcases Lib.decodeN_shape l.length (l.getD 0 0).toNat (l.getD 1 0).toNat (l.getD 2 0).toNat (l.getD 3 0).toNat with ⟨c, e⟩ | ⟨c1, c2, c3, cv, e⟩ | ⟨c1, c2, c3, c4, cv, cs, e⟩ | ⟨c1, c2, c3, c4, c5, cv, cw, e⟩ | e
  all_goals (rw [e]; dsimp only; omega)
/-- what a range over s writes, from place pos on, by at most 'fuel' runes -/
def runesFrom (s : ByteArray) : Nat → Nat → List UInt8
  | 0, _ => []
  | fuel + 1, pos => if pos < s.size then Lib.encodeRune (Utf8.decode s pos).1 ++ runesFrom s fuel (pos + (Utf8.decode s pos).2) else []
def runesOf (s : ByteArray) : List UInt8 := runesFrom s s.size 0
/-- what Repair hands back -/
def repairOf (s : ByteArray) : ByteArray := if Lib.validD s.data.toList = true then s else ⟨(runesOf s).toArray⟩
theorem runesFrom_end (s : ByteArray) (fuel pos : Nat) (h : ¬ pos < s.size) : runesFrom s fuel pos = [] := by
  cases fuel with
  | zero => rfl
  | succ f => simp [runesFrom, h]
theorem valid_runes (s : ByteArray) : ∀ (fuel pos : Nat), Lib.validD (runesFrom s fuel pos) = true
  | 0, pos => rfl
  | fuel + 1, pos => by
    unfold runesFrom
    split
    · have h := decoded (s.data.toList.drop pos)
      rw [Lib.decodeL_drop] at h
      rw [valid_encode _ h]
      exact valid_runes s fuel _
    · rfl
theorem runes_valid (s : ByteArray) : ∀ (fuel pos : Nat), s.size ≤ pos + fuel → Lib.validD (s.data.toList.drop pos) = true → runesFrom s fuel pos = s.data.toList.drop pos
  | 0, pos, h, _ => by
    have hl : s.data.toList.length = s.size := Lib.size_eq s
    rw [List.drop_eq_nil_of_le (by omega)]
    rfl
  | fuel + 1, pos, h, hv => by
    have hl : s.data.toList.length = s.size := Lib.size_eq s
    unfold runesFrom
    split
    · rename_i hp
      have hne : s.data.toList.drop pos ≠ [] := by
        intro h0
        have := congrArg List.length h0
        simp only [List.length_drop, List.length_nil] at this
        omega
      have hd := Lib.decodeL_drop s pos
      rw [Lib.validD_step _ hne] at hv
      split at hv
      · cases hv
      · rename_i hg
        have he := Lib.encode_decode _ hne hg
        have hw := Lib.decodeL_width (s.data.toList.drop pos)
        rw [hd] at he hv hw
        rw [List.drop_drop] at hv
        rw [he, runes_valid s fuel _ (by omega) hv, ← List.drop_drop, List.take_append_drop]
    · rename_i hp
      rw [List.drop_eq_nil_of_le (by omega)]
theorem repairOf_eq (s : ByteArray) : repairOf s = ⟨(runesOf s).toArray⟩ := by
  unfold repairOf
  split
  · rename_i h
    have := runes_valid s s.size 0 (by omega) (by simpa using h)
    unfold runesOf
    rw [this]
    cases s
    simp
  · rfl
theorem repairOf_valid (s : ByteArray) : Lib.validD (repairOf s).data.toList = true := by
  rw [repairOf_eq]
  exact valid_runes s _ _
theorem repairOf_idem (s : ByteArray) : repairOf (repairOf s) = repairOf s := by
  rw [repairOf, if_pos (repairOf_valid s)]
theorem runesFrom_length (s : ByteArray) : ∀ (fuel pos : Nat), (runesFrom s fuel pos).length ≤ 4 * fuel
  | 0, _ => Nat.le_refl _
  | fuel + 1, pos => by
    unfold runesFrom
    split
    · have h1 := Lib.encodeRuneZ_length ((Utf8.decode s pos).1 : Int)
      have h2 := runesFrom_length s fuel (pos + (Utf8.decode s pos).2)
      simp only [List.length_append, Lib.encodeRune, List.length_map]
      omega
    · simp
theorem repairOf_size (s : ByteArray) : (repairOf s).size ≤ 4 * s.size := by
  have := runesFrom_length s s.size 0
  rw [repairOf_eq]
  exact this
end Go.Proofs.YtmhbagaljonheaaGreatDoor
