/- PromisePlays: rows of records in memory, the plain laws of UTF-8, the abstract state of the promises, and what memory says of it. -/
import Derived.Lib.MapLaws
import Derived.Lib.ValidLaws
import Derived.Lib.RuneBytes
import Derived.Deep.RegionLaw
import Derived.Deep.AppendLies
import Derived.Deep.AppendSrc
import Derived.WalkKit
import Derived.Laws.Rows
import Derived.Below
import Derived.Test.YtcceopgaiffkmaaGreatDoorEvC
/- Plain laws of UTF-8: what a range over a string writes rune by rune is valid, and is the string itself if that is valid. -/
namespace Go.Proofs.YtcceopgaiffkmaaGreatDoor
open Go
theorem byte_toNat (k : Nat) (h : k < 256) : (Nat.toUInt8 k).toNat = k := by
  simp; omega
theorem decode_encode (r : Nat) (hr : r < 55296 ∨ (57344 ≤ r ∧ r ≤ 1114111)) (t : List UInt8) : Lib.decodeL (Lib.encodeRune (r : Int) ++ t) = (r, (Lib.encodeRune (r : Int)).length) ∧ ¬ (r = 65533 ∧ (Lib.encodeRune (r : Int)).length = 1) := by
  rw [Lib.decodeL_N]
  unfold Lib.encodeRune
  rcases (by omega : r ≤ 127 ∨ (128 ≤ r ∧ r ≤ 2047) ∨ (2048 ≤ r ∧ r ≤ 65535) ∨ 65536 ≤ r) with h | h | h | h
  · rw [Lib.encodeRuneZ_one (by omega) (by omega)]
    have b0 := byte_toNat r (by omega)
    simp only [List.map_cons, List.map_nil, List.cons_append, List.nil_append, List.length_cons, List.length_nil, List.getD_cons_zero, Int.toNat_natCast, b0]
    refine ⟨?_, by omega⟩
    unfold Lib.decodeN
    rw [if_pos (by omega)]
  · rw [Lib.encodeRuneZ_two (by omega) (by omega)]
    have e0 : (192 + (r : Int) / 64).toNat = 192 + r / 64 := by omega
    have e1 : (128 + (r : Int) % 64).toNat = 128 + r % 64 := by omega
    have b0 := byte_toNat (192 + r / 64) (by omega)
    have b1 := byte_toNat (128 + r % 64) (by omega)
    simp only [List.map_cons, List.map_nil, List.cons_append, List.nil_append, List.length_cons, List.length_nil, List.getD_cons_zero, List.getD_cons_succ, e0, e1, b0, b1]
    refine ⟨?_, by omega⟩
    unfold Lib.decodeN
    rw [if_neg (by omega), if_pos (by omega), if_pos (by omega)]
    congr 1
    omega
  · rw [Lib.encodeRuneZ_three (by omega)]
    have e0 : (224 + (r : Int) / 4096).toNat = 224 + r / 4096 := by omega
    have e1 : (128 + (r : Int) / 64 % 64).toNat = 128 + r / 64 % 64 := by omega
    have e2 : (128 + (r : Int) % 64).toNat = 128 + r % 64 := by omega
    have b0 := byte_toNat (224 + r / 4096) (by omega)
    have b1 := byte_toNat (128 + r / 64 % 64) (by omega)
    have b2 := byte_toNat (128 + r % 64) (by omega)
    simp only [List.map_cons, List.map_nil, List.cons_append, List.nil_append, List.length_cons, List.length_nil, List.getD_cons_zero, List.getD_cons_succ, e0, e1, e2, b0, b1, b2]
    refine ⟨?_, by omega⟩
    unfold Lib.decodeN
    have hv : (224 + r / 4096) % 16 * 4096 + (128 + r / 64 % 64) % 64 * 64 + (128 + r % 64) % 64 = r := by omega
    rw [if_neg (by omega), if_neg (by omega), if_pos (by omega), hv, if_pos (by omega)]
  · rw [Lib.encodeRuneZ_four (by omega) (by omega)]
    have e0 : (240 + (r : Int) / 262144).toNat = 240 + r / 262144 := by omega
    have e1 : (128 + (r : Int) / 4096 % 64).toNat = 128 + r / 4096 % 64 := by omega
    have e2 : (128 + (r : Int) / 64 % 64).toNat = 128 + r / 64 % 64 := by omega
    have e3 : (128 + (r : Int) % 64).toNat = 128 + r % 64 := by omega
    have b0 := byte_toNat (240 + r / 262144) (by omega)
    have b1 := byte_toNat (128 + r / 4096 % 64) (by omega)
    have b2 := byte_toNat (128 + r / 64 % 64) (by omega)
    have b3 := byte_toNat (128 + r % 64) (by omega)
    simp only [List.map_cons, List.map_nil, List.cons_append, List.nil_append, List.length_cons, List.length_nil, List.getD_cons_zero, List.getD_cons_succ, e0, e1, e2, e3, b0, b1, b2, b3]
    refine ⟨?_, by omega⟩
    unfold Lib.decodeN
    have hv : (240 + r / 262144) % 8 * 262144 + (128 + r / 4096 % 64) % 64 * 4096 + (128 + r / 64 % 64) % 64 * 64 + (128 + r % 64) % 64 = r := by omega
    rw [if_neg (by omega), if_neg (by omega), if_neg (by omega), if_pos (by omega), hv, if_pos (by omega)]
theorem encode_ne (r : Nat) : Lib.encodeRune (r : Int) ≠ [] := by
  intro h
  have := Lib.encodeRuneZ_length (r : Int)
  have h1 := congrArg List.length h
  simp only [Lib.encodeRune, List.length_map, List.length_nil] at h1
  omega
theorem valid_encode (r : Nat) (hr : r < 55296 ∨ (57344 ≤ r ∧ r ≤ 1114111)) (t : List UInt8) : Lib.validD (Lib.encodeRune (r : Int) ++ t) = Lib.validD t := by
  obtain ⟨h1, h2⟩ := decode_encode r hr t
  rw [Lib.validD_step _ (by simp [encode_ne]), h1, if_neg h2]
  simp
/-- a rune that was decoded is one that may be written -/
theorem decoded (l : List UInt8) : (Lib.decodeL l).1 < 55296 ∨ (57344 ≤ (Lib.decodeL l).1 ∧ (Lib.decodeL l).1 ≤ 1114111) := by
  rw [Lib.decodeL_N]
  have k0 := (l.getD 0 0).toNat_lt
  have k1 := (l.getD 1 0).toNat_lt
  have k2 := (l.getD 2 0).toNat_lt
  have k3 := (l.getD 3 0).toNat_lt
  rcases Lib.decodeN_shape l.length (l.getD 0 0).toNat (l.getD 1 0).toNat (l.getD 2 0).toNat (l.getD 3 0).toNat with ⟨c, e⟩ | ⟨c1, c2, c3, cv, e⟩ | ⟨c1, c2, c3, c4, cv, cs, e⟩ | ⟨c1, c2, c3, c4, c5, cv, cw, e⟩ | e
  all_goals (rw [e]; dsimp only; omega)
/-- what a range over s writes, from place pos on, by at most 'fuel' runes -/
def runesFrom (s : ByteArray) : Nat → Nat → List UInt8
  | 0, _ => []
  | fuel + 1, pos => if pos < s.size then Lib.encodeRune (Utf8.decode s pos).1 ++ runesFrom s fuel (pos + (Utf8.decode s pos).2) else []
def runesOf (s : ByteArray) : List UInt8 := runesFrom s s.size 0
/-- what Repair hands back -/
def repairOf (s : ByteArray) : ByteArray := if Lib.validD s.data.toList = true then s else ⟨(runesOf s).toArray⟩
theorem runesFrom_end (s : ByteArray) (fuel pos : Nat) (h : ¬ pos < s.size) : runesFrom s fuel pos = [] := by
  cases fuel with
  | zero => rfl
  | succ f => simp [runesFrom, h]
theorem valid_runes (s : ByteArray) : ∀ (fuel pos : Nat), Lib.validD (runesFrom s fuel pos) = true
  | 0, pos => rfl
  | fuel + 1, pos => by
    unfold runesFrom
    split
    · have h := decoded (s.data.toList.drop pos)
      rw [Lib.decodeL_drop] at h
      rw [valid_encode _ h]
      exact valid_runes s fuel _
    · rfl
theorem runes_valid (s : ByteArray) : ∀ (fuel pos : Nat), s.size ≤ pos + fuel → Lib.validD (s.data.toList.drop pos) = true → runesFrom s fuel pos = s.data.toList.drop pos
  | 0, pos, h, _ => by
    have hl : s.data.toList.length = s.size := Lib.size_eq s
    rw [List.drop_eq_nil_of_le (by omega)]
    rfl
  | fuel + 1, pos, h, hv => by
    have hl : s.data.toList.length = s.size := Lib.size_eq s
    unfold runesFrom
    split
    · rename_i hp
      have hne : s.data.toList.drop pos ≠ [] := by
        intro h0
        have := congrArg List.length h0
        simp only [List.length_drop, List.length_nil] at this
        omega
      have hd := Lib.decodeL_drop s pos
      rw [Lib.validD_step _ hne] at hv
      split at hv
      · cases hv
      · rename_i hg
        have he := Lib.encode_decode _ hne hg
        have hw := Lib.decodeL_width (s.data.toList.drop pos)
        rw [hd] at he hv hw
        rw [List.drop_drop] at hv
        rw [he, runes_valid s fuel _ (by omega) hv, ← List.drop_drop, List.take_append_drop]
    · rename_i hp
      rw [List.drop_eq_nil_of_le (by omega)]
theorem repairOf_eq (s : ByteArray) : repairOf s = ⟨(runesOf s).toArray⟩ := by
  unfold repairOf
  split
  · rename_i h
    have := runes_valid s s.size 0 (by omega) (by simpa using h)
    unfold runesOf
    rw [this]
    cases s
    simp
  · rfl
theorem repairOf_valid (s : ByteArray) : Lib.validD (repairOf s).data.toList = true := by
  rw [repairOf_eq]
  exact valid_runes s _ _
theorem repairOf_idem (s : ByteArray) : repairOf (repairOf s) = repairOf s := by
  rw [repairOf, if_pos (repairOf_valid s)]
theorem runesFrom_length (s : ByteArray) : ∀ (fuel pos : Nat), (runesFrom s fuel pos).length ≤ 4 * fuel
  | 0, _ => Nat.le_refl _
  | fuel + 1, pos => by
    unfold runesFrom
    split
    · have h1 := Lib.encodeRuneZ_length ((Utf8.decode s pos).1 : Int)
      have h2 := runesFrom_length s fuel (pos + (Utf8.decode s pos).2)
      simp only [List.length_append, Lib.encodeRune, List.length_map]
      omega
    · simp
theorem repairOf_size (s : ByteArray) : (repairOf s).size ≤ 4 * s.size := by
  have := runesFrom_length s s.size 0
  rw [repairOf_eq]
  exact this
end Go.Proofs.YtcceopgaiffkmaaGreatDoor

/- Rows of records in memory, appends to them, and what a call leaves as it was. -/
namespace Go.Pl
open Go.RowKit
/-- a row of records: the first n read as f says -/
def Row (w : World) (e : TypeId) (size r d n cap : Nat) (f : Nat → Nat → Value) : Prop :=
  n ≤ cap ∧ ∃ cur : Array Value, w.heap[r]? = some (.cells cur e (0, 0)) ∧ d + cap * size ≤ cur.size ∧ ∀ i c, i < n → c < size → cur[d + i * size + c]? = some (f i c)
/-- a slice value: nil, or a row in a block that L allows -/
def Sl (w : World) (L : Nat → Prop) (e : TypeId) (size : Nat) (v : Value) (n : Nat) (f : Nat → Nat → Value) : Prop :=
  (v = .slice none 0 0 ∧ n = 0) ∨ ∃ r d cap, v = .slice (some ⟨r, d, none⟩) n cap ∧ L r ∧ Row w e size r d n cap f
theorem halloc (w : World) (o : Obj) (i : Nat) (h : i < w.heap.size) : (w.alloc o).heap[i]? = w.heap[i]? := by
  show (w.heap.push o)[i]? = w.heap[i]?
  rw [Array.getElem?_push, if_neg (Nat.ne_of_lt h)]
theorem hallocn (w : World) (o : Obj) : (w.alloc o).heap[w.heap.size]? = some o := by
  show (w.heap.push o)[w.heap.size]? = some o
  simp
theorem blk_lt {w : World} {r : Nat} {o : Obj} (h : w.heap[r]? = some o) : r < w.heap.size := (Array.getElem?_eq_some_iff.1 h).1
theorem cell_blk {w : World} {W : Nat} {cw : Array Value} {tw : TypeId} {fr : Nat × Nat} (h : w.heap[W]? = some (.cells cw tw fr)) (k : Nat) : w.cell? ⟨W, k, none⟩ = cw[k]? := by
  simp [World.cell?, h]
theorem frz_blk {w : World} {W : Nat} {cw : Array Value} {tw : TypeId} (h : w.heap[W]? = some (.cells cw tw (0, 0))) (k : Nat) : w.frozen? ⟨W, k, none⟩ = false := by
  simp [World.frozen?, h]
section
variable {w w' : World} {e : TypeId} {size r d n cap : Nat} {f : Nat → Nat → Value}
theorem Row.lt (h : Row w e size r d n cap f) : r < w.heap.size := by
  obtain ⟨_, cur, h, _⟩ := h
  exact blk_lt h
theorem Row.same (h : Row w e size r d n cap f) (hr : w'.heap[r]? = w.heap[r]?) : Row w' e size r d n cap f := by
  obtain ⟨h0, cur, h1, h2⟩ := h
  exact ⟨h0, cur, hr.trans h1, h2⟩
theorem Row.cell (h : Row w e size r d n cap f) {i c : Nat} (hi : i < n) (hc : c < size) : w.cell? ⟨r, d + i * size + c, none⟩ = some (f i c) := by
  obtain ⟨h0, cur, h1, h2, h3⟩ := h
  rw [cell_blk h1]
  exact h3 i c hi hc
theorem Row.cell0 (h : Row w e size r d n cap f) {i : Nat} (hi : i < n) (hc : 0 < size) : w.cell? ⟨r, d + i * size, none⟩ = some (f i 0) := h.cell hi hc
theorem Row.frz (h : Row w e size r d n cap f) (k : Nat) : w.frozen? ⟨r, k, none⟩ = false := by
  obtain ⟨h0, cur, h1, h2, h3⟩ := h
  exact frz_blk h1 k
theorem Row.eqf {g : Nat → Nat → Value} (h : Row w e size r d n cap f) (hg : ∀ i c, i < n → c < size → g i c = f i c) : Row w e size r d n cap g := by
  obtain ⟨h0, cur, h1, h2, h3⟩ := h
  exact ⟨h0, cur, h1, h2, fun i c hi hc => by rw [hg i c hi hc]; exact h3 i c hi hc⟩
/-- one cell written -/
theorem Row.set (h : Row w e size r d n cap f) {i c : Nat} (hi : i < n) (hc : c < size) (v : Value) : Row (w.setCell ⟨r, d + i * size + c, none⟩ v) e size r d n cap (fun i' c' => if i' = i ∧ c' = c then v else f i' c') := by
  obtain ⟨h0, cur, h1, h2, h3⟩ := h
  refine ⟨h0, _, heap_setCell_same w r _ cur e v h1, by simpa using h2, fun i' c' hi' hc' => ?_⟩
  have key : i' ≠ i ∨ c' ≠ c → d + i' * size + c' ≠ d + i * size + c := by
    intro hne heq
    have heq : i' * size + c' = i * size + c := by omega
    have e1 : i' = (i' * size + c') / size := by rw [Nat.mul_comm, Nat.mul_add_div (by omega), Nat.div_eq_of_lt hc']; omega
    have e2 : i = (i * size + c) / size := by rw [Nat.mul_comm, Nat.mul_add_div (by omega), Nat.div_eq_of_lt hc]; omega
    have e3 : i' = i := by rw [e1, heq, ← e2]
    subst e3
    omega
  show _ = some (if i' = i ∧ c' = c then v else f i' c')
  by_cases hh : i' = i ∧ c' = c
  · obtain ⟨rfl, rfl⟩ := hh
    have := h3 i' c' hi hc
    have hl : d + i' * size + c' < cur.size := (Array.getElem?_eq_some_iff.1 this).1
    simp [hl]
  · rw [if_neg hh, Array.getElem?_setIfInBounds_ne (fun h => key (by omega) h.symm)]
    exact h3 i' c' hi' hc'
theorem Row.far (h : Row w e size r d n cap f) (a : Addr) (v : Value) (hr : r ≠ a.block) : Row (w.setCell a v) e size r d n cap f :=
  h.same (heap_setCell_other _ _ _ _ hr)
theorem Row.alloc (h : Row w e size r d n cap f) (o : Obj) : Row (w.alloc o) e size r d n cap f := h.same (halloc w o r h.lt)
theorem Row.less {n' : Nat} (h : Row w e size r d n cap f) (hn : n' ≤ n) : Row w e size r d n' cap f := by
  obtain ⟨h0, cur, h1, h2, h3⟩ := h
  exact ⟨by omega, cur, h1, h2, fun i c hi hc => h3 i c (by omega) hc⟩
theorem Row.drop {k : Nat} (h : Row w e size r d n cap f) (hk : k ≤ n) : Row w e size r (d + k * size) (n - k) (cap - k) (fun i c => f (i + k) c) := by
  obtain ⟨h0, cur, h1, h2, h3⟩ := h
  have e1 : cap * size = k * size + (cap - k) * size := by rw [← Nat.add_mul]; congr 1; omega
  refine ⟨by omega, cur, h1, by omega, fun i c hi hc => ?_⟩
  have e2 : (i + k) * size = i * size + k * size := Nat.add_mul ..
  rw [show d + k * size + i * size + c = d + (i + k) * size + c by omega]
  exact h3 (i + k) c (by omega) hc
end
section
variable {w w' : World} {L L' : Nat → Prop} {e : TypeId} {size n : Nat} {v : Value} {f : Nat → Nat → Value}
theorem Sl.same (h : Sl w L e size v n f) (hr : ∀ r, r < w.heap.size → L r → w'.heap[r]? = w.heap[r]?) (hL : ∀ r, r < w.heap.size → L r → L' r) : Sl w' L' e size v n f := by
  rcases h with h | ⟨r, d, cap, h1, h2, h3⟩
  · exact .inl h
  · exact .inr ⟨r, d, cap, h1, hL r h3.lt h2, h3.same (hr r h3.lt h2)⟩
theorem Sl.eqf {g : Nat → Nat → Value} (h : Sl w L e size v n f) (hg : ∀ i c, i < n → c < size → g i c = f i c) : Sl w L e size v n g := by
  rcases h with h | ⟨r, d, cap, h1, h2, h3⟩
  · exact .inl h
  · exact .inr ⟨r, d, cap, h1, h2, h3.eqf hg⟩
theorem Sl.pos (h : Sl w L e size v n f) (hn : 0 < n) : ∃ r d cap, v = .slice (some ⟨r, d, none⟩) n cap ∧ L r ∧ Row w e size r d n cap f := by
  rcases h with ⟨_, h⟩ | h
  · omega
  · exact h
theorem Sl.form (h : Sl w L e size v n f) : ∃ a cap, v = .slice a n cap := by
  rcases h with ⟨h, rfl⟩ | ⟨r, d, cap, h1, _⟩
  · exact ⟨_, _, h⟩
  · exact ⟨_, _, h1⟩
theorem Sl.own (h : Sl w L e size v n f) {r : Nat} (hr : v.ownBlock = some r) : L r ∧ r < w.heap.size := by
  rcases h with ⟨rfl, _⟩ | ⟨r', d, cap, rfl, h2, h3⟩
  · cases hr
  · cases hr
    exact ⟨h2, h3.lt⟩
end
/-- the row f, and behind its first n records the cells of a list -/
def app (size n : Nat) (f : Nat → Nat → Value) (news : List Value) : Nat → Nat → Value := fun i c => if i < n then f i c else (news[(i - n) * size + c]?).getD (.bool false)
/-- the cells of a row, as a list -/
def flat (size n : Nat) (f : Nat → Nat → Value) : List Value := (List.range (n * size)).map fun j => f (j / size) (j % size)
theorem flat_length (size n : Nat) (f : Nat → Nat → Value) : (flat size n f).length = n * size := by simp [flat]
theorem flat_get (size n : Nat) (f : Nat → Nat → Value) (j : Nat) (hj : j < n * size) : (flat size n f)[j]? = some (f (j / size) (j % size)) := by
  simp [flat, hj]
theorem flat_at (size n : Nat) (f : Nat → Nat → Value) (i c : Nat) (hi : i < n) (hc : c < size) : (flat size n f)[i * size + c]? = some (f i c) := by
  have h1 : i * size + size ≤ n * size := by rw [← Nat.succ_mul]; exact Nat.mul_le_mul_right _ hi
  rw [flat_get _ _ _ _ (by omega)]
  have e1 : (i * size + c) / size = i := by rw [Nat.mul_comm, Nat.mul_add_div (by omega), Nat.div_eq_of_lt hc]; omega
  have e2 : (i * size + c) % size = c := by rw [Nat.mul_comm, Nat.mul_add_mod, Nat.mod_eq_of_lt hc]
  rw [e1, e2]
theorem split_le {size i c n : Nat} (hi : i < n) (hc : c < size) : i * size + c < n * size := by
  have h1 : i * size + size ≤ n * size := by rw [← Nat.succ_mul]; exact Nat.mul_le_mul_right _ hi
  omega
theorem row_src {w : World} {P : Program} {tx e : TypeId} {size r d n cap : Nat} {f : Nat → Nat → Value} (hk : P.underlying tx = some (.slice e)) (h : Row w e size r d n cap f) (h1 : ∀ i c, i < n → c < size → (f i c).oneCell' = true) :
    Src P size tx (.slice (some ⟨r, d, none⟩) n cap) n (flat size n f) w := by
  refine Src.ofSlice (e' := e) w hk ⟨r, d, none⟩ n cap _ (flat_length _ _ _) (fun j u hj => ?_) (fun u hu => ?_)
  · have hj2 : j < n * size := by rw [← flat_length size n f]; exact (List.getElem?_eq_some_iff.1 hj).1
    have hs : 0 < size := Nat.pos_of_ne_zero fun h => by rw [h] at hj2; omega
    rw [flat_get _ _ _ _ hj2] at hj
    cases hj
    have e0 : (⟨r, d, none⟩ : Addr).add j = ⟨r, d + j, none⟩ := by unfold Addr.add; split <;> simp_all
    rw [e0, show d + j = d + (j / size) * size + j % size by have := Nat.div_add_mod j size; rw [Nat.mul_comm] at this; omega]
    exact h.cell (Nat.div_lt_of_lt_mul (by rw [Nat.mul_comm]; exact hj2)) (Nat.mod_lt _ hs)
  · obtain ⟨j, hj, rfl⟩ := List.mem_map.1 hu
    have hj2 : j < n * size := by simpa using hj
    have hs : 0 < size := Nat.pos_of_ne_zero fun h => by rw [h] at hj2; omega
    exact h1 _ _ (Nat.div_lt_of_lt_mul (by rw [Nat.mul_comm]; exact hj2)) (Nat.mod_lt _ hs)
theorem sl_src {w : World} {L : Nat → Prop} {P : Program} {tx e : TypeId} {size n : Nat} {v : Value} {f : Nat → Nat → Value} (hk : P.underlying tx = some (.slice e)) (h : Sl w L e size v n f) (h1 : ∀ i c, i < n → c < size → (f i c).oneCell' = true) :
    Src P size tx v n (flat size n f) w := by
  rcases h with ⟨rfl, rfl⟩ | ⟨r, d, cap, rfl, _, h3⟩
  · have : flat size 0 f = [] := by simp [flat]
    rw [this]
    exact Src.ofNil w hk 0
  · exact row_src hk h3 h1
section
variable {P : Program} (w : World)
theorem run_append_sl (t tx ty e : TypeId) (i : TypeInfo) (z : Value) (size bytes : Nat) (ht : P.underlying t = some (.slice e)) (hi : P.info? e = some i) (hz : i.zero = some z)
    (hsize : i.size = size) (hby : i.bytes = bytes) (hzs : z.cells.size = size)
    (L : Nat → Prop) (v : Value) (n : Nat) (f : Nat → Nat → Value) (hown : Sl w L e size v n f)
    (x : Value) (m : Nat) (news : List Value) (hs : Src P size tx x m news w) (hm : 0 < m) (h63 : n + m ≤ 1000000) (hbytes : bytes ≤ 1000) :
    ∃ g d' cap' w', (Builtin.append_ #[t, tx] ty #[v, x]).run P w = .ok (.slice (some ⟨g, d', none⟩) (n + m) cap') w' ∧
      Row w' e size g d' (n + m) cap' (app size n f news) ∧ w.grownBy w' v.ownBlock ∧ ((v.ownBlock = some g ∧ L g) ∨ g = w.heap.size) := by
  subst hsize
  subst hby
  have hl := hs.newsLen
  have hadd : (n + m) * i.size = n * i.size + m * i.size := Nat.add_mul _ _ _
  have getapp : ∀ (k c : Nat), k < n + m → c < i.size → ¬ k < n → news[(k - n) * i.size + c]? = some (app i.size n f news k c) := by
    intro k c hk hc hkn
    have : (k - n) * i.size + c < news.length := by rw [hl]; exact split_le (by omega) hc
    simp [app, hkn, List.getElem?_eq_getElem this]
  rcases hown with ⟨rfl, rfl⟩ | ⟨r, d, cap, rfl, hLr, hnc, cur, hcur, hcs, hcell⟩
  · have hb2 : Builtin.nextslicecap (0 + m) 0 * i.bytes ≤ 281474976710656 := by
      have h2 := nextslicecap_le (need := 0 + m) (old := 0) (by omega)
      have h3 : Builtin.nextslicecap (0 + m) 0 * i.bytes ≤ (4 * (0 + m)) * 1000 := Nat.mul_le_mul (by omega) hbytes
      omega
    have hold : (Builtin.firstCells i.size 0 (.slice none 0 0)).run P w.drew = .ok ([] : List Value).toArray w.drew := run_firstCells_none w.drew i.size 0 0 0
    have hrun := run_append_grow_src (P := P) w t tx ty e i z ht hi hz none 0 0 [] hold x m news hs (by omega) (by omega) hb2
    have hge := grownCap_ge w (0 + m) 0 e
    refine ⟨w.heap.size, 0, _, _, hrun, ⟨hge, _, hallocn w.drew _, ?_, fun k c hk hc => ?_⟩, ⟨rfl, rfl, rfl, by simp, fun k hk _ => halloc w.drew _ k hk⟩, .inr rfl⟩
    · simp only [List.nil_append, Array.size_append, List.size_toArray, size_zeroCells, hzs, hl, Nat.zero_add]
      rw [← Nat.add_mul]
      exact Nat.mul_le_mul_right _ (by omega)
    · have := getapp k c hk hc (by omega)
      rw [Nat.sub_zero] at this
      rw [Nat.zero_add, Array.getElem?_append_left (by simp [hl]; exact split_le (by omega) hc)]
      simpa using this
  · by_cases hroom : n + m ≤ cap
    · have hm1 : (n + m) * i.size ≤ cap * i.size := Nat.mul_le_mul_right _ hroom
      have a1 : ∀ j, j < news.length → (w.cell? ⟨r, d + n * i.size + j, none⟩).isSome = true := by
        intro j hj
        have : d + n * i.size + j < cur.size := by omega
        simp [World.cell?, hcur, this]
      have a2 : ∀ j, j < news.length → w.frozen? ⟨r, d + n * i.size + j, none⟩ = false := by
        intro j hj
        simp only [World.frozen?, hcur]
        simp
      have hrun := run_append_room_src (P := P) w t tx ty e i ht hi r d n cap x m news hs hroom a1 a2
      obtain ⟨c', g2, g3, g4, g5, g6, g7⟩ := Go.Ev.setCells_heap r e (0, 0) news (d + n * i.size) w cur hcur
      refine ⟨r, d, cap, _, hrun, ⟨hroom, c', by rw [g2]; simp, by rw [g3]; exact hcs, fun k c hk hc => ?_⟩, ⟨g6, g5, g7, ?_, fun k hk hne => ?_⟩, .inl ⟨rfl, hLr⟩⟩
      · rw [g4]
        have hkc : k * i.size + c < (n + m) * i.size := split_le hk hc
        by_cases hkn : k < n
        · have : k * i.size + c < n * i.size := split_le hkn hc
          rw [if_neg (by omega), show app i.size n f news k c = f k c by simp [app, hkn]]
          exact hcell k c hkn hc
        · have e1 : k * i.size = n * i.size + (k - n) * i.size := by rw [← Nat.add_mul]; congr 1; omega
          rw [if_pos (by omega), show d + k * i.size + c - (d + n * i.size) = (k - n) * i.size + c by omega]
          exact getapp k c hk hc hkn
      · rcases Nat.lt_or_ge (w.setCells r (d + n * i.size) news).heap.size w.heap.size with h | h
        · exfalso
          have := g2 (w.setCells r (d + n * i.size) news).heap.size
          rw [Array.getElem?_eq_none (Nat.le_refl _)] at this
          split at this
          · cases this
          · rw [Array.getElem?_eq_getElem h] at this; cases this
        · exact h
      · rw [g2, if_neg (fun he => hne (by rw [he]; rfl))]
    · have hold : (Builtin.firstCells i.size n (.slice (some ⟨r, d, none⟩) n cap)).run P w.drew = .ok (flat i.size n f).toArray w.drew := by
        refine run_firstCells_some (P := P) w.drew i.size n ⟨r, d, none⟩ n cap (flat i.size n f) (flat_length _ _ _) fun j u hj => ?_
        have hj2 : j < n * i.size := by rw [← flat_length i.size n f]; exact (List.getElem?_eq_some_iff.1 hj).1
        have hs0 : 0 < i.size := Nat.pos_of_ne_zero fun h => by rw [h] at hj2; omega
        rw [flat_get _ _ _ _ hj2] at hj
        cases hj
        have e0 : (⟨r, d, none⟩ : Addr).add j = ⟨r, d + j, none⟩ := by unfold Addr.add; split <;> simp_all
        rw [e0, show d + j = d + (j / i.size) * i.size + j % i.size by have := Nat.div_add_mod j i.size; rw [Nat.mul_comm] at this; omega]
        show w.cell? _ = _
        rw [cell_blk hcur]
        exact hcell _ _ (Nat.div_lt_of_lt_mul (by rw [Nat.mul_comm]; exact hj2)) (Nat.mod_lt _ hs0)
      have hb2 : Builtin.nextslicecap (n + m) cap * i.bytes ≤ 281474976710656 := by
        have h2 := nextslicecap_le (need := n + m) (old := cap) (by omega)
        have h3 : Builtin.nextslicecap (n + m) cap * i.bytes ≤ (4 * (n + m)) * 1000 := Nat.mul_le_mul (by omega) hbytes
        omega
      have hrun := run_append_grow_src (P := P) w t tx ty e i z ht hi hz (some ⟨r, d, none⟩) n cap (flat i.size n f) hold x m news hs (by omega) (by omega) hb2
      have hge := grownCap_ge w (n + m) cap e
      refine ⟨w.heap.size, 0, _, _, hrun, ⟨hge, _, hallocn w.drew _, ?_, fun k c hk hc => ?_⟩, ⟨rfl, rfl, rfl, by simp, fun k hk _ => halloc w.drew _ k hk⟩, .inr rfl⟩
      · simp only [Array.size_append, List.size_toArray, size_zeroCells, hzs, List.length_append, flat_length, hl, Nat.zero_add]
        rw [← Nat.add_mul, ← Nat.add_mul]
        exact Nat.mul_le_mul_right _ (by omega)
      · have hkc : k * i.size + c < (n + m) * i.size := split_le hk hc
        rw [Nat.zero_add, Array.getElem?_append_left (by simp [hl, flat_length]; omega), List.getElem?_toArray]
        by_cases hkn : k < n
        · have : k * i.size + c < n * i.size := split_le hkn hc
          rw [List.getElem?_append_left (by rw [flat_length]; omega), show app i.size n f news k c = f k c by simp [app, hkn]]
          exact flat_at _ _ _ _ _ hkn hc
        · have e1 : k * i.size = n * i.size + (k - n) * i.size := by rw [← Nat.add_mul]; congr 1; omega
          rw [List.getElem?_append_right (by rw [flat_length]; omega), flat_length, show k * i.size + c - n * i.size = (k - n) * i.size + c by omega]
          exact getapp k c hk hc hkn
/-- at the operation -/
theorem wp_append_sl {o : Oper} {a : Act} {K : Act → World → Prop} {Q : Exit → Act → World → Prop} (s y : Operand) (t tx : TypeId)
    (ho : o.op = .call { callee := .builtin .append, args := #[s, y], argTypes := #[t, tx] })
    (e : TypeId) (i : TypeInfo) (z : Value) (size bytes : Nat) (ht : P.underlying t = some (.slice e)) (hi : P.info? e = some i) (hz : i.zero = some z)
    (hsize : i.size = size) (hby : i.bytes = bytes) (hzs : z.cells.size = size)
    (L : Nat → Prop) (v : Value) (n : Nat) (f : Nat → Nat → Value) (hv : a.eval s = v) (hown : Sl w L e size v n f)
    (x : Value) (m : Nat) (news : List Value) (hx : a.eval y = x) (hs : Src P size tx x m news w) (hm : 0 < m) (h63 : n + m ≤ 1000000) (hbytes : bytes ≤ 1000) (H : Nat) (hH : w.heap.size = H)
    (h : ∀ g d' cap' w', Row w' e size g d' (n + m) cap' (app size n f news) → w.grownBy w' v.ownBlock → ((v.ownBlock = some g ∧ L g) ∨ g = H) → K (a.put o.dst (.slice (some ⟨g, d', none⟩) (n + m) cap')) w') : o.wp P a w K Q := by
  obtain ⟨g, d', cap', w', hr, h2, h3, h5⟩ := run_append_sl (P := P) w t tx o.type e i z size bytes ht hi hz hsize hby hzs L v n f hown x m news hs hm h63 hbytes
  unfold Oper.wp execOp
  simp only [ho, resolve, invoke, builtin, Sem.run_bind, Sem.run_pure, Result.andThen_ok, List.map_toArray, List.map_cons, List.map_nil, hv, hx, hr]
  exact h g d' cap' w' h2 h3 (hH ▸ h5)
/-- at the list of a plain region's operations -/
theorem wpList_append_sl {ops : Array Oper} {rest : List Oper} {o : Oper} {a : Act} {Q : Exit → Act → World → Prop} (hgd : o.guard = none) (s y : Operand) (t tx : TypeId)
    (ho : o.op = .call { callee := .builtin .append, args := #[s, y], argTypes := #[t, tx] })
    (e : TypeId) (i : TypeInfo) (z : Value) (size bytes : Nat) (ht : P.underlying t = some (.slice e)) (hi : P.info? e = some i) (hz : i.zero = some z)
    (hsize : i.size = size) (hby : i.bytes = bytes) (hzs : z.cells.size = size)
    (L : Nat → Prop) (v : Value) (n : Nat) (f : Nat → Nat → Value) (hv : a.eval s = v) (hown : Sl w L e size v n f)
    (x : Value) (m : Nat) (news : List Value) (hx : a.eval y = x) (hs : Src P size tx x m news w) (hm : 0 < m) (h63 : n + m ≤ 1000000) (hbytes : bytes ≤ 1000) (H : Nat) (hH : w.heap.size = H)
    (h : ∀ g d' cap' w', Row w' e size g d' (n + m) cap' (app size n f news) → w.grownBy w' v.ownBlock → ((v.ownBlock = some g ∧ L g) ∨ g = H) → wpList P ops Q rest (a.put o.dst (.slice (some ⟨g, d', none⟩) (n + m) cap')) w') : wpList P ops Q (o :: rest) a w :=
  wpList_plain hgd fun _ hK => wp_append_sl w s y t tx ho e i z size bytes ht hi hz hsize hby hzs L v n f hv hown x m news hx hs hm h63 hbytes H hH fun g d' cap' w' h2 h3 h4 => hK _ _ (h g d' cap' w' h2 h3 h4)
/-- at a step of a region that draws its order -/
theorem step_append_sl {ops : Array Oper} {o : Oper} {a : Act} {K : Act → World → Prop} {Q : Exit → Act → World → Prop} {E : Prop} (hgd : o.guard = none) (s y : Operand) (t tx : TypeId)
    (ho : o.op = .call { callee := .builtin .append, args := #[s, y], argTypes := #[t, tx] })
    (e : TypeId) (i : TypeInfo) (z : Value) (size bytes : Nat) (ht : P.underlying t = some (.slice e)) (hi : P.info? e = some i) (hz : i.zero = some z)
    (hsize : i.size = size) (hby : i.bytes = bytes) (hzs : z.cells.size = size)
    (L : Nat → Prop) (v : Value) (n : Nat) (f : Nat → Nat → Value) (hv : a.eval s = v) (hown : Sl w L e size v n f)
    (x : Value) (m : Nat) (news : List Value) (hx : a.eval y = x) (hs : Src P size tx x m news w) (hm : 0 < m) (h63 : n + m ≤ 1000000) (hbytes : bytes ≤ 1000) (H : Nat) (hH : w.heap.size = H)
    (h : ∀ g d' cap' w', Row w' e size g d' (n + m) cap' (app size n f news) → w.grownBy w' v.ownBlock → ((v.ownBlock = some g ∧ L g) ∨ g = H) → K (a.put o.dst (.slice (some ⟨g, d', none⟩) (n + m) cap')) w') :
    if Region.wanted o (yielded ops a.tmps) = true then Oper.wp P o a w K Q else E := by
  have hw : Region.wanted o (yielded ops a.tmps) = true := by simp [Region.wanted, hgd]
  rw [if_pos hw]
  exact wp_append_sl w s y t tx ho e i z size bytes ht hi hz hsize hby hzs L v n f hv hown x m news hx hs hm h63 hbytes H hH h
end
/-- all blocks but those of M are as they were -/
structure Only (M : Nat → Prop) (w w' : World) : Prop where
  os : w'.os = w.os
  tape : w'.tape = w.tape
  output : w'.output = w.output
  size : w.heap.size ≤ w'.heap.size
  block : ∀ k, k < w.heap.size → ¬ M k → w'.heap[k]? = w.heap[k]?
section
variable {M M' : Nat → Prop} {w w1 w2 : World}
theorem Only.refl (M : Nat → Prop) (w : World) : Only M w w := ⟨rfl, rfl, rfl, Nat.le_refl _, fun _ _ _ => rfl⟩
theorem Only.trans (h : Only M w w1) (k : Only M' w1 w2) (hM : ∀ r, r < w.heap.size → M' r → M r) : Only M w w2 :=
  ⟨k.os.trans h.os, k.tape.trans h.tape, k.output.trans h.output, Nat.le_trans h.size k.size, fun i hi hn => (k.block i (Nat.lt_of_lt_of_le hi h.size) fun hm => hn (hM i hi hm)).trans (h.block i hi hn)⟩
theorem Only.mono (h : Only M w w1) (hM : ∀ r, r < w.heap.size → M r → M' r) : Only M' w w1 :=
  ⟨h.os, h.tape, h.output, h.size, fun i hi hn => h.block i hi fun hm => hn (hM i hi hm)⟩
theorem Only.of_below (h : Below w.heap.size w w1) : Only M w w1 := ⟨h.os, h.tape, h.output, h.size, fun k hk _ => h.block k hk⟩
theorem Only.below (h : Only M w w1) (hM : ∀ r, r < w.heap.size → ¬ M r) : Below w.heap.size w w1 := ⟨h.os, h.tape, h.output, h.size, fun k hk => h.block k hk (hM k hk)⟩
theorem Only.alloc (M : Nat → Prop) (w : World) (o : Obj) : Only M w (w.alloc o) := ⟨rfl, rfl, rfl, by simp, fun k hk _ => halloc w o k hk⟩
theorem Only.drew (M : Nat → Prop) (w : World) : Only M w w.drew := ⟨rfl, rfl, rfl, Nat.le_refl _, fun _ _ _ => rfl⟩
theorem Only.set (w : World) (a : Addr) (v : Value) (h : M a.block) : Only M w (w.setCell a v) :=
  ⟨rfl, rfl, rfl, by simp, fun k _ hn => heap_setCell_other _ _ _ _ fun he => hn (he ▸ h)⟩
theorem Only.grown {row : Option Nat} (h : w.grownBy w1 row) (hM : ∀ r, row = some r → M r) : Only M w w1 :=
  ⟨h.os, h.tape, h.output, h.size, fun k hk hn => h.block k hk fun he => hn (hM k he.symm)⟩
end
end Go.Pl

/- Numbers of types and texts of this program. -/
namespace Go.Pl
abbrev tSlot : TypeId := 108
abbrev tHeap : TypeId := 31
abbrev tJobs : TypeId := 35
abbrev tVal : TypeId := 38
abbrev tJob : TypeId := 53
abbrev tProp : TypeId := 128
abbrev tWorld : TypeId := 42
abbrev tPm : TypeId := 58
abbrev tRJ : TypeId := 93
abbrev tInt : TypeId := 3
abbrev sName : ByteArray := ⟨#[110, 97, 109, 101]⟩
abbrev sMsg : ByteArray := ⟨#[109, 101, 115, 115, 97, 103, 101]⟩
abbrev sType : ByteArray := ⟨#[84, 121, 112, 101, 69, 114, 114, 111, 114]⟩
abbrev sSelf : ByteArray := ⟨#[97, 32, 112, 114, 111, 109, 105, 115, 101, 32, 111, 102, 32, 105, 116, 115, 101, 108, 102]⟩
end Go.Pl

/- The promises' plays: the abstract state, and what memory says of it. -/
namespace Go.Pl
open Go.RowKit Go.Proofs.YtcceopgaiffkmaaGreatDoor
/-- a result: a normal value, or the error of a promise of itself, which lies in a slot -/
inductive VV where
  | nv (k n : Int) (s : ByteArray)
  | flt (e : Nat)
structure Pm where
  st : Nat
  lk : Bool
  v : VV
  ws : List Nat
structure Jb where
  who : Nat
  v : VV
  th : Bool
structure Ab where
  N : Nat
  pr : Nat → Pm
  jobs : List Jb
  ob : Nat
def und : VV := .nv 0 0 ⟨#[]⟩
namespace Ab
def put (A : Ab) (p : Nat) (x : Pm) : Ab := { A with pr := fun i => if i = p then x else A.pr i }
def push (A : Ab) (j : Jb) : Ab := { A with jobs := A.jobs ++ [j] }
def settle (A : Ab) (p st : Nat) (v : VV) : Ab := { A.put p ⟨st, false, v, []⟩ with jobs := A.jobs ++ (A.pr p).ws.map fun who => ⟨who, v, st == 2⟩ }
def wait (A : Ab) (p who : Nat) : Ab := if (A.pr p).st = 0 then A.put p { A.pr p with ws := (A.pr p).ws ++ [who] } else A.push ⟨who, (A.pr p).v, (A.pr p).st == 2⟩
def grow (A : Ab) : Ab := { A with ob := A.ob + 1 }
def addp (A : Ab) : Ab := { A.put A.N ⟨0, false, und, []⟩ with N := A.N + 1 }
def new (A : Ab) : Ab := A.grow.addp
def busy (A : Ab) (p : Nat) : Prop := (A.pr p).st ≠ 0 ∨ (A.pr p).lk = true
instance (A : Ab) (p : Nat) : Decidable (A.busy p) := by unfold busy; infer_instance
def resolve (A : Ab) (p : Nat) (x : VV) : Ab := if A.busy p then A else A.settle p 1 x
def resolveP (A : Ab) (p q e : Nat) : Ab := if A.busy p then A else if q = p then A.grow.settle p 2 (.flt e) else (A.put p { A.pr p with lk := true }).wait q p
def reject (A : Ab) (p : Nat) (x : VV) : Ab := if A.busy p then A else A.settle p 2 x
def next (A : Ab) : Ab := match A.jobs with
  | [] => A
  | j :: r => if (A.pr j.who).st = 0 then { A with jobs := r }.settle j.who (if j.th then 2 else 1) j.v else { A with jobs := r }
end Ab
/-- what a block is for -/
inductive Lab where
  | imm | hh | jj | slots | items | dat (p : Nat) | rw | rl | rj
/-- the cells of a value -/
def pv : VV → Nat → Value
  | .nv k n s, c => match c with | 0 => .int .i64 k | 1 => .int .i64 n | 2 => .string s | _ => .int .i64 0
  | .flt e, c => match c with | 0 => .int .i64 5 | 1 => .int .i64 0 | 2 => .string ⟨#[]⟩ | _ => .int .i64 (4 + 6 * (e : Int))
def rv : VV → Nat → Value
  | .nv k n s, c => match c with | 0 => .int .i64 k | 1 => .int .i64 n | 2 => .string s | _ => .int .i64 0
  | .flt _, c => match c with | 0 => .int .i64 6 | 1 => .int .i64 0 | 2 => .string ⟨#[]⟩ | _ => .int .i64 0
def ref (s : Nat) : Nat → Value := fun c => match c with | 0 => .int .i64 5 | 1 => .int .i64 0 | 2 => .string ⟨#[]⟩ | _ => .int .i64 (4 + 6 * (s : Int))
def truth (b : Bool) : Nat → Value := fun c => match c with | 0 => .int .i64 2 | 1 => .int .i64 (if b then 1 else 0) | 2 => .string ⟨#[]⟩ | _ => .int .i64 0
/-- a value's four cells lie at (r, d) -/
def At4 (w : World) (r d : Nat) (f : Nat → Value) : Prop := ∀ c, c < 4 → w.cell? ⟨r, d + c, none⟩ = some (f c)
theorem At4.same {w w' : World} {r d : Nat} {f : Nat → Value} (h : At4 w r d f) (hr : w'.heap[r]? = w.heap[r]?) : At4 w' r d f := fun c hc => by
  rw [World.cell?_of_block (w := w) hr]
  exact h c hc
theorem At4.lt {w : World} {r d : Nat} {f : Nat → Value} (h : At4 w r d f) : r < w.heap.size := World.block_lt_of_cell? w _ (h 0 (by decide))
/-- what a handler is: undefined, or a number -/
def handler (b : Bool) : Nat → Value := pv (if b then .nv 3 1 ⟨#[]⟩ else und)
/-- the cells of a normal value that is no object -/
def Nrm (k n : Int) (s : ByteArray) : Prop := ((k = 0 ∨ k = 1) ∧ n = 0 ∧ s = ⟨#[]⟩) ∨ (k = 2 ∧ (n = 0 ∨ n = 1) ∧ s = ⟨#[]⟩) ∨ (k = 3 ∧ s = ⟨#[]⟩) ∨ (k = 4 ∧ n = 0 ∧ repairOf s = s ∧ s.size ≤ 240)
/-- where the program's state lies -/
structure PK where
  H : Nat
  J : Nat
  g : Nat
  d : Nat
  n : Nat
  cap : Nat
  S : Nat → Nat → Value
  gl : Int
  tx : Int
  Pr : Nat
  pd : Nat
  p6 : Int
  p11 : Int
  sl : Nat → Nat
  vI : Value
  I : Nat → Nat → Value
  w0 : World
section
variable (lab : Nat → Lab) (K : PK) (w : World)
/-- the error of a promise of itself -/
def ErrOk (e : Nat) : Prop := e < K.n ∧ K.S e 0 = .bool true ∧ K.S e 1 = .int .i64 11 ∧ ∃ r d c, K.S e 3 = .slice (some ⟨r, d, none⟩) 2 c ∧ lab r = .imm ∧
  w.cell? ⟨r, d, none⟩ = some (.string sName) ∧ At4 w r (d + 1) (pv (.nv 4 0 sType)) ∧ w.cell? ⟨r, d + 5, none⟩ = some (.string sMsg) ∧ At4 w r (d + 6) (pv (.nv 4 0 sSelf))
def VOk : VV → Prop
  | .nv k n s => Nrm k n s
  | .flt e => ErrOk lab K w e
/-- what a promise's slot says -/
def PmOk (s : Nat → Value) (p p1 : Nat) (x : Pm) : Prop := s 0 = .bool true ∧ s 1 = .int .i64 6 ∧ s 6 = .int .i64 (if x.lk then 1 else 0) ∧ s 8 = .int .i64 x.st ∧ x.st ≤ 2 ∧
  (x.st = 0 → x.v = und ∧ ∃ D, Sl w (fun r => lab r = .dat p) tVal 4 (s 5) (3 * x.ws.length) D ∧ ∀ (k q : Nat), x.ws[k]? = some q → q < p1 ∧ (∀ c, c < 4 → D (3 * k) c = pv und c) ∧ (∃ b : Bool, ∀ c, c < 4 → D (3 * k + 1) c = handler b c) ∧ ∀ c, c < 4 → D (3 * k + 2) c = ref (K.sl q) c) ∧
  (x.st ≠ 0 → x.ws = [] ∧ x.lk = false ∧ VOk lab K w x.v ∧ ∃ r d c, s 5 = .slice (some ⟨r, d, none⟩) 1 c ∧ lab r = .imm ∧ At4 w r d (pv x.v))
/-- what a job says -/
def JbOk (s : Nat → Value) (p1 : Nat) (j : Jb) : Prop := s 0 = .int .i64 2 ∧ j.who < p1 ∧ VOk lab K w j.v ∧
  ∃ r d c, s 1 = .slice (some ⟨r, d, none⟩) 3 c ∧ lab r = .imm ∧ At4 w r d (ref (K.sl j.who)) ∧ At4 w r (d + 4) (pv j.v) ∧ At4 w r (d + 8) (truth j.th)
/-- the program's part of memory -/
structure PS (A : Ab) : Prop where
  hH : w.heap[K.H]? = some (.cells #[.int .i64 4, .int .i64 6, .slice (some ⟨K.g, K.d, none⟩) K.n K.cap, .slice none 0 0, .int .i64 K.n, .int .i64 K.gl, .int .i64 K.tx, .slice (some ⟨K.Pr, K.pd, none⟩) 12 12] tHeap (0, 0))
  c6 : w.cell? ⟨K.Pr, K.pd + 6, none⟩ = some (.int .i64 K.p6)
  c11 : w.cell? ⟨K.Pr, K.pd + 11, none⟩ = some (.int .i64 K.p11)
  hJ : w.heap[K.J]? = some (.cells #[K.vI] tJobs (0, 0))
  row : Row w tSlot 11 K.g K.d K.n K.cap K.S
  lH : lab K.H = .hh
  lJ : lab K.J = .jj
  lg : lab K.g = .slots
  lP : lab K.Pr = .imm
  new : ∀ r, w.heap.size ≤ r → lab r = .imm
  bas : ∀ r, r < K.w0.heap.size → lab r = .imm
  bel : Below K.w0.heap.size K.w0 w
  slt : ∀ p, p < A.N → K.sl p < K.n
  inj : ∀ p q, p < A.N → q < A.N → K.sl p = K.sl q → p = q
  pm : ∀ p, p < A.N → PmOk lab K w (K.S (K.sl p)) p A.N (A.pr p)
  it : Sl w (fun r => lab r = .items) tJob 2 K.vI A.jobs.length K.I
  jb : ∀ (k : Nat) (j : Jb), A.jobs[k]? = some j → JbOk lab K w (K.I k) A.N j
  eob : K.n = A.ob
end
/-- what only grows from one state to the next -/
structure Lt (lab : Nat → Lab) (K : PK) (w : World) (lab' : Nat → Lab) (K' : PK) (w' : World) (N : Nat) : Prop where
  size : w.heap.size ≤ w'.heap.size
  labs : ∀ r, r < w.heap.size → lab' r = lab r
  imm : ∀ r, r < w.heap.size → lab r = .imm → w'.heap[r]? = w.heap[r]?
  n : K.n ≤ K'.n
  err : ∀ e, e < K.n → K.S e 1 = .int .i64 11 → ∀ c, K'.S e c = K.S e c
  sl : ∀ p, p < N → K'.sl p = K.sl p
section
variable {lab lab' : Nat → Lab} {K K' : PK} {w w' : World} {N : Nat}
theorem Lt.refl : Lt lab K w lab K w N := ⟨Nat.le_refl _, fun _ _ => rfl, fun _ _ _ => rfl, Nat.le_refl _, fun _ _ _ _ => rfl, fun _ _ => rfl⟩
theorem Lt.cell (h : Lt lab K w lab' K' w' N) {r o : Nat} {v : Value} (hl : lab r = .imm) (hc : w.cell? ⟨r, o, none⟩ = some v) : w'.cell? ⟨r, o, none⟩ = some v := by
  rw [World.cell?_of_block (w := w) (h.imm r (World.block_lt_of_cell? w _ hc) hl)]
  exact hc
theorem Lt.at4 (h : Lt lab K w lab' K' w' N) {r o : Nat} {f : Nat → Value} (hl : lab r = .imm) (hc : At4 w r o f) : At4 w' r o f := fun c hc' => h.cell hl (hc c hc')
theorem Lt.lab_imm (h : Lt lab K w lab' K' w' N) {r o : Nat} {v : Value} (hl : lab r = .imm) (hc : w.cell? ⟨r, o, none⟩ = some v) : lab' r = .imm := (h.labs r (World.block_lt_of_cell? w _ hc)).trans hl
theorem Lt.errOk (h : Lt lab K w lab' K' w' N) {e : Nat} (he : ErrOk lab K w e) : ErrOk lab' K' w' e := by
  obtain ⟨h1, h2, h3, r, d, c, h4, h5, h6, h7, h8, h9⟩ := he
  have g := h.err e h1 h3
  exact ⟨Nat.lt_of_lt_of_le h1 h.n, by rw [g]; exact h2, by rw [g]; exact h3, r, d, c, by rw [g]; exact h4, h.lab_imm h5 h6, h.cell h5 h6, h.at4 h5 h7, h.cell h5 h8, h.at4 h5 h9⟩
theorem Lt.vok (h : Lt lab K w lab' K' w' N) {v : VV} (hv : VOk lab K w v) : VOk lab' K' w' v := by
  cases v with
  | nv k n s => exact hv
  | flt e => exact h.errOk hv
theorem Lt.jb (h : Lt lab K w lab' K' w' N) {s : Nat → Value} {j : Jb} {N' : Nat} (hN : N ≤ N') (hj : JbOk lab K w s N j) : JbOk lab' K' w' s N' j := by
  obtain ⟨h1, h2, h3, r, d, c, h4, h5, h6, h7, h8⟩ := hj
  exact ⟨h1, by omega, h.vok h3, r, d, c, h4, h.lab_imm h5 (h6 0 (by decide)), by rw [h.sl _ h2]; exact h.at4 h5 h6, h.at4 h5 h7, h.at4 h5 h8⟩
theorem Lt.pm (h : Lt lab K w lab' K' w' N) {s : Nat → Value} {p : Nat} {x : Pm} {N' : Nat} (hN : N ≤ N') (hd : ∀ r, r < w.heap.size → lab r = .dat p → w'.heap[r]? = w.heap[r]?) (hj : PmOk lab K w s p N x) : PmOk lab' K' w' s p N' x := by
  obtain ⟨h1, h2, h3, h4, h5, h6, h7⟩ := hj
  refine ⟨h1, h2, h3, h4, h5, fun h0 => ?_, fun h0 => ?_⟩
  · obtain ⟨a, D, b, c⟩ := h6 h0
    refine ⟨a, D, b.same (fun r hr hl => hd r hr hl) (fun r hr hl => (h.labs r hr).trans hl), fun k q hk => ?_⟩
    obtain ⟨c1, c2, c3, c4⟩ := c k q hk
    exact ⟨by omega, c2, c3, fun i hi => by rw [h.sl _ c1]; exact c4 i hi⟩
  · obtain ⟨a, b, c, r, d, e, g1, g2, g3⟩ := h7 h0
    exact ⟨a, b, h.vok c, r, d, e, g1, h.lab_imm g2 (g3 0 (by decide)), h.at4 g2 g3⟩
end
/-- what a step of the program leaves -/
structure Ext (lab : Nat → Lab) (K : PK) (w : World) (lab' : Nat → Lab) (K' : PK) (w' : World) (N : Nat) : Prop where
  lt : Lt lab K w lab' K' w' N
  eH : K'.H = K.H
  eJ : K'.J = K.J
  e0 : K'.w0 = K.w0
  oth : ∀ r, r < w.heap.size → lab r = .rw ∨ lab r = .rl ∨ lab r = .rj → w'.heap[r]? = w.heap[r]?
section
variable {lab lab' lab2 : Nat → Lab} {K K' K2 : PK} {w w' w2 : World} {N N' : Nat}
theorem Lt.trans (h : Lt lab K w lab' K' w' N) (h2 : Lt lab' K' w' lab2 K2 w2 N') (hN : N ≤ N') : Lt lab K w lab2 K2 w2 N :=
  ⟨Nat.le_trans h.size h2.size, fun r hr => (h2.labs r (Nat.lt_of_lt_of_le hr h.size)).trans (h.labs r hr), fun r hr hl => (h2.imm r (Nat.lt_of_lt_of_le hr h.size) ((h.labs r hr).trans hl)).trans (h.imm r hr hl), Nat.le_trans h.n h2.n,
    fun e he h1 c => (h2.err e (Nat.lt_of_lt_of_le he h.n) ((h.err e he h1 1).trans h1) c).trans (h.err e he h1 c), fun p hp => (h2.sl p (by omega)).trans (h.sl p hp)⟩
theorem Ext.refl : Ext lab K w lab K w N := ⟨Lt.refl, rfl, rfl, rfl, fun _ _ _ => rfl⟩
theorem Ext.trans (h : Ext lab K w lab' K' w' N) (h2 : Ext lab' K' w' lab2 K2 w2 N') (hN : N ≤ N') : Ext lab K w lab2 K2 w2 N :=
  ⟨h.lt.trans h2.lt hN, h2.eH.trans h.eH, h2.eJ.trans h.eJ, h2.e0.trans h.e0, fun r hr hl => (h2.oth r (Nat.lt_of_lt_of_le hr h.lt.size) (by rw [h.lt.labs r hr]; exact hl)).trans (h.oth r hr hl)⟩
/-- memory that is only longer -/
theorem Lt.below (h : Below w.heap.size w w') : Lt lab K w lab K w' N := ⟨h.size, fun _ _ => rfl, fun r hr _ => h.block r hr, Nat.le_refl _, fun _ _ _ _ => rfl, fun _ _ => rfl⟩
theorem Ext.below (h : Below w.heap.size w w') : Ext lab K w lab K w' N := ⟨Lt.below h, rfl, rfl, rfl, fun r hr _ => h.block r hr⟩
theorem PS.below {A : Ab} (h : PS lab K w A) (hb : Below w.heap.size w w') : PS lab K w' A := by
  have hl : Lt lab K w lab K w' A.N := Lt.below hb
  have hc : ∀ {r o : Nat} {v : Value}, w.cell? ⟨r, o, none⟩ = some v → w'.cell? ⟨r, o, none⟩ = some v := fun {r o v} hv => by
    rw [World.cell?_of_block (w := w) (hb.block r (World.block_lt_of_cell? w _ hv))]
    exact hv
  exact ⟨(hb.block _ (blk_lt h.hH)).trans h.hH, hc h.c6, hc h.c11, (hb.block _ (blk_lt h.hJ)).trans h.hJ, h.row.same (hb.block _ h.row.lt), h.lH, h.lJ, h.lg, h.lP, fun r hr => h.new r (Nat.le_trans hb.size hr), h.bas,
    ⟨hb.os.trans h.bel.os, hb.tape.trans h.bel.tape, hb.output.trans h.bel.output, Nat.le_trans h.bel.size hb.size, fun k hk => (hb.block k (Nat.lt_of_lt_of_le hk h.bel.size)).trans (h.bel.block k hk)⟩,
    h.slt, h.inj, fun p hp => hl.pm (Nat.le_refl _) (fun r hr _ => hb.block r hr) (h.pm p hp), h.it.same (fun r hr _ => hb.block r hr) fun _ _ h => h, fun k j hk => hl.jb (Nat.le_refl _) (h.jb k j hk), h.eob⟩
end
end Go.Pl

/- Boxes just made, behind a call that leaves older memory as it was. -/
namespace Go.Pl
open Go.RowKit
theorem keep {w w2 : World} (h : Below w.heap.size w w2) {k : Nat} {o : Obj} (hk : w.heap[k]? = some o) : w2.heap[k]? = some o := (h.block k (blk_lt hk)).trans hk
theorem keepc {w w2 : World} (h : Below w.heap.size w w2) {r k : Nat} {v : Value} (hk : w.cell? ⟨r, k, none⟩ = some v) : w2.cell? ⟨r, k, none⟩ = some v := by
  rw [World.cell?_of_block (w := w) (h.block r (World.block_lt_of_cell? w _ hk))]
  exact hk
theorem cells4 {w : World} {r : Nat} {a b c d : Value} {t : TypeId} (h : w.heap[r]? = some (.cells #[a, b, c, d] t (0, 0))) : w.cell? ⟨r, 0, none⟩ = some a ∧ w.cell? ⟨r, 1, none⟩ = some b ∧ w.cell? ⟨r, 2, none⟩ = some c ∧ w.cell? ⟨r, 3, none⟩ = some d := ⟨cell_blk h 0, cell_blk h 1, cell_blk h 2, cell_blk h 3⟩
theorem free4 {w : World} {r : Nat} {a b c d : Value} {t : TypeId} (h : w.heap[r]? = some (.cells #[a, b, c, d] t (0, 0))) : w.frozen? ⟨r, 0, none⟩ = false ∧ w.frozen? ⟨r, 1, none⟩ = false ∧ w.frozen? ⟨r, 2, none⟩ = false ∧ w.frozen? ⟨r, 3, none⟩ = false := ⟨frz_blk h 0, frz_blk h 1, frz_blk h 2, frz_blk h 3⟩
theorem set4 {w : World} {r : Nat} {a b c d : Value} (a' b' c' d' : Value) {t : TypeId} (h : w.heap[r]? = some (.cells #[a, b, c, d] t (0, 0))) : ((((w.setCell ⟨r, 0, none⟩ a').setCell ⟨r, 1, none⟩ b').setCell ⟨r, 2, none⟩ c').setCell ⟨r, 3, none⟩ d').heap[r]? = some (.cells #[a', b', c', d'] t (0, 0)) :=
  heap_setCell_same _ r 3 _ t d' (heap_setCell_same _ r 2 _ t c' (heap_setCell_same _ r 1 _ t b' (heap_setCell_same _ r 0 _ t a' h)))
theorem below_set4 {w w1 : World} (h : Below w.heap.size w w1) {r : Nat} (hr : w.heap.size ≤ r) (a' b' c' d' : Value) : Below w.heap.size w ((((w1.setCell ⟨r, 0, none⟩ a').setCell ⟨r, 1, none⟩ b').setCell ⟨r, 2, none⟩ c').setCell ⟨r, 3, none⟩ d') := (((h.setCell hr a').setCell hr b').setCell hr c').setCell hr d'
theorem below_set {w w1 : World} (h : Below w.heap.size w w1) {r : Nat} (hr : w.heap.size ≤ r) (k : Nat) (v : Value) : Below w.heap.size w (w1.setCell ⟨r, k, none⟩ v) := h.setCell hr v
theorem alloc_at {w : World} {o : Obj} {k : Nat} (h : k = w.heap.size) : (w.alloc o).heap[k]? = some o := by
  subst h
  exact hallocn w o
theorem agetx (w : World) (o : Obj) (r : Nat) : (w.alloc o).heap[r]? = if r = w.heap.size then some o else w.heap[r]? := by
  show (w.heap.push o)[r]? = _
  rw [Array.getElem?_push]
theorem below_alloc {w w1 : World} (h : Below w.heap.size w w1) (o : Obj) : Below w.heap.size w (w1.alloc o) := h.alloc h.size o
theorem below_then {w w1 w2 : World} (h : Below w.heap.size w w1) (h2 : Below w1.heap.size w1 w2) : Below w.heap.size w w2 := h.trans (h2.mono h.size)
theorem boxes1 {w w2 : World} {o0 : Obj} (h : Below (w.alloc o0).heap.size (w.alloc o0) w2) : w2.heap[w.heap.size]? = some o0 ∧ Below w.heap.size w w2 ∧ w.heap.size + 1 ≤ w2.heap.size := by
  have hz := h.size
  simp only [World.size_alloc] at hz
  have g : ∀ k x, (w.alloc o0).heap[k]? = some x → w2.heap[k]? = some x := fun k x hk => keep h hk
  refine ⟨g _ _ (by simp only [agetx]; rw [if_pos trivial]), ⟨h.os, h.tape, h.output, by omega, fun k hk => ?_⟩, hz⟩
  rw [h.block k (by simp only [World.size_alloc]; omega)]
  simp only [agetx]
  rw [if_neg (by omega)]
theorem boxes2 {w w2 : World} {o0 o1 : Obj} (h : Below ((w.alloc o0).alloc o1).heap.size ((w.alloc o0).alloc o1) w2) : w2.heap[w.heap.size]? = some o0 ∧ w2.heap[w.heap.size + 1]? = some o1 ∧ Below w.heap.size w w2 ∧ w.heap.size + 1 + 1 ≤ w2.heap.size := by
  have hz := h.size
  simp only [World.size_alloc] at hz
  have g : ∀ k x, ((w.alloc o0).alloc o1).heap[k]? = some x → w2.heap[k]? = some x := fun k x hk => keep h hk
  refine ⟨g _ _ (by simp only [agetx, World.size_alloc]; rw [if_neg (by omega)]; rw [if_pos trivial]), g _ _ (by simp only [agetx, World.size_alloc]; rw [if_pos trivial]), ⟨h.os, h.tape, h.output, by omega, fun k hk => ?_⟩, hz⟩
  rw [h.block k (by simp only [World.size_alloc]; omega)]
  simp only [agetx, World.size_alloc]
  rw [if_neg (by omega)]
  rw [if_neg (by omega)]
theorem boxes3 {w w2 : World} {o0 o1 o2 : Obj} (h : Below (((w.alloc o0).alloc o1).alloc o2).heap.size (((w.alloc o0).alloc o1).alloc o2) w2) : w2.heap[w.heap.size]? = some o0 ∧ w2.heap[w.heap.size + 1]? = some o1 ∧ w2.heap[w.heap.size + 1 + 1]? = some o2 ∧ Below w.heap.size w w2 ∧ w.heap.size + 1 + 1 + 1 ≤ w2.heap.size := by
  have hz := h.size
  simp only [World.size_alloc] at hz
  have g : ∀ k x, (((w.alloc o0).alloc o1).alloc o2).heap[k]? = some x → w2.heap[k]? = some x := fun k x hk => keep h hk
  refine ⟨g _ _ (by simp only [agetx, World.size_alloc]; rw [if_neg (by omega)]; rw [if_neg (by omega)]; rw [if_pos trivial]), g _ _ (by simp only [agetx, World.size_alloc]; rw [if_neg (by omega)]; rw [if_pos trivial]), g _ _ (by simp only [agetx, World.size_alloc]; rw [if_pos trivial]), ⟨h.os, h.tape, h.output, by omega, fun k hk => ?_⟩, hz⟩
  rw [h.block k (by simp only [World.size_alloc]; omega)]
  simp only [agetx, World.size_alloc]
  rw [if_neg (by omega)]
  rw [if_neg (by omega)]
  rw [if_neg (by omega)]
theorem boxes4 {w w2 : World} {o0 o1 o2 o3 : Obj} (h : Below ((((w.alloc o0).alloc o1).alloc o2).alloc o3).heap.size ((((w.alloc o0).alloc o1).alloc o2).alloc o3) w2) : w2.heap[w.heap.size]? = some o0 ∧ w2.heap[w.heap.size + 1]? = some o1 ∧ w2.heap[w.heap.size + 1 + 1]? = some o2 ∧ w2.heap[w.heap.size + 1 + 1 + 1]? = some o3 ∧ Below w.heap.size w w2 ∧ w.heap.size + 1 + 1 + 1 + 1 ≤ w2.heap.size := by
  have hz := h.size
  simp only [World.size_alloc] at hz
  have g : ∀ k x, ((((w.alloc o0).alloc o1).alloc o2).alloc o3).heap[k]? = some x → w2.heap[k]? = some x := fun k x hk => keep h hk
  refine ⟨g _ _ (by simp only [agetx, World.size_alloc]; rw [if_neg (by omega)]; rw [if_neg (by omega)]; rw [if_neg (by omega)]; rw [if_pos trivial]), g _ _ (by simp only [agetx, World.size_alloc]; rw [if_neg (by omega)]; rw [if_neg (by omega)]; rw [if_pos trivial]), g _ _ (by simp only [agetx, World.size_alloc]; rw [if_neg (by omega)]; rw [if_pos trivial]), g _ _ (by simp only [agetx, World.size_alloc]; rw [if_pos trivial]), ⟨h.os, h.tape, h.output, by omega, fun k hk => ?_⟩, hz⟩
  rw [h.block k (by simp only [World.size_alloc]; omega)]
  simp only [agetx, World.size_alloc]
  rw [if_neg (by omega)]
  rw [if_neg (by omega)]
  rw [if_neg (by omega)]
  rw [if_neg (by omega)]
theorem boxes5 {w w2 : World} {o0 o1 o2 o3 o4 : Obj} (h : Below (((((w.alloc o0).alloc o1).alloc o2).alloc o3).alloc o4).heap.size (((((w.alloc o0).alloc o1).alloc o2).alloc o3).alloc o4) w2) : w2.heap[w.heap.size]? = some o0 ∧ w2.heap[w.heap.size + 1]? = some o1 ∧ w2.heap[w.heap.size + 1 + 1]? = some o2 ∧ w2.heap[w.heap.size + 1 + 1 + 1]? = some o3 ∧ w2.heap[w.heap.size + 1 + 1 + 1 + 1]? = some o4 ∧ Below w.heap.size w w2 ∧ w.heap.size + 1 + 1 + 1 + 1 + 1 ≤ w2.heap.size := by
  have hz := h.size
  simp only [World.size_alloc] at hz
  have g : ∀ k x, (((((w.alloc o0).alloc o1).alloc o2).alloc o3).alloc o4).heap[k]? = some x → w2.heap[k]? = some x := fun k x hk => keep h hk
  refine ⟨g _ _ (by simp only [agetx, World.size_alloc]; rw [if_neg (by omega)]; rw [if_neg (by omega)]; rw [if_neg (by omega)]; rw [if_neg (by omega)]; rw [if_pos trivial]), g _ _ (by simp only [agetx, World.size_alloc]; rw [if_neg (by omega)]; rw [if_neg (by omega)]; rw [if_neg (by omega)]; rw [if_pos trivial]), g _ _ (by simp only [agetx, World.size_alloc]; rw [if_neg (by omega)]; rw [if_neg (by omega)]; rw [if_pos trivial]), g _ _ (by simp only [agetx, World.size_alloc]; rw [if_neg (by omega)]; rw [if_pos trivial]), g _ _ (by simp only [agetx, World.size_alloc]; rw [if_pos trivial]), ⟨h.os, h.tape, h.output, by omega, fun k hk => ?_⟩, hz⟩
  rw [h.block k (by simp only [World.size_alloc]; omega)]
  simp only [agetx, World.size_alloc]
  rw [if_neg (by omega)]
  rw [if_neg (by omega)]
  rw [if_neg (by omega)]
  rw [if_neg (by omega)]
  rw [if_neg (by omega)]
theorem boxes6 {w w2 : World} {o0 o1 o2 o3 o4 o5 : Obj} (h : Below ((((((w.alloc o0).alloc o1).alloc o2).alloc o3).alloc o4).alloc o5).heap.size ((((((w.alloc o0).alloc o1).alloc o2).alloc o3).alloc o4).alloc o5) w2) : w2.heap[w.heap.size]? = some o0 ∧ w2.heap[w.heap.size + 1]? = some o1 ∧ w2.heap[w.heap.size + 1 + 1]? = some o2 ∧ w2.heap[w.heap.size + 1 + 1 + 1]? = some o3 ∧ w2.heap[w.heap.size + 1 + 1 + 1 + 1]? = some o4 ∧ w2.heap[w.heap.size + 1 + 1 + 1 + 1 + 1]? = some o5 ∧ Below w.heap.size w w2 ∧ w.heap.size + 1 + 1 + 1 + 1 + 1 + 1 ≤ w2.heap.size := by
  have hz := h.size
  simp only [World.size_alloc] at hz
  have g : ∀ k x, ((((((w.alloc o0).alloc o1).alloc o2).alloc o3).alloc o4).alloc o5).heap[k]? = some x → w2.heap[k]? = some x := fun k x hk => keep h hk
  refine ⟨g _ _ (by simp only [agetx, World.size_alloc]; rw [if_neg (by omega)]; rw [if_neg (by omega)]; rw [if_neg (by omega)]; rw [if_neg (by omega)]; rw [if_neg (by omega)]; rw [if_pos trivial]), g _ _ (by simp only [agetx, World.size_alloc]; rw [if_neg (by omega)]; rw [if_neg (by omega)]; rw [if_neg (by omega)]; rw [if_neg (by omega)]; rw [if_pos trivial]), g _ _ (by simp only [agetx, World.size_alloc]; rw [if_neg (by omega)]; rw [if_neg (by omega)]; rw [if_neg (by omega)]; rw [if_pos trivial]), g _ _ (by simp only [agetx, World.size_alloc]; rw [if_neg (by omega)]; rw [if_neg (by omega)]; rw [if_pos trivial]), g _ _ (by simp only [agetx, World.size_alloc]; rw [if_neg (by omega)]; rw [if_pos trivial]), g _ _ (by simp only [agetx, World.size_alloc]; rw [if_pos trivial]), ⟨h.os, h.tape, h.output, by omega, fun k hk => ?_⟩, hz⟩
  rw [h.block k (by simp only [World.size_alloc]; omega)]
  simp only [agetx, World.size_alloc]
  rw [if_neg (by omega)]
  rw [if_neg (by omega)]
  rw [if_neg (by omega)]
  rw [if_neg (by omega)]
  rw [if_neg (by omega)]
  rw [if_neg (by omega)]
theorem boxes7 {w w2 : World} {o0 o1 o2 o3 o4 o5 o6 : Obj} (h : Below (((((((w.alloc o0).alloc o1).alloc o2).alloc o3).alloc o4).alloc o5).alloc o6).heap.size (((((((w.alloc o0).alloc o1).alloc o2).alloc o3).alloc o4).alloc o5).alloc o6) w2) : w2.heap[w.heap.size]? = some o0 ∧ w2.heap[w.heap.size + 1]? = some o1 ∧ w2.heap[w.heap.size + 1 + 1]? = some o2 ∧ w2.heap[w.heap.size + 1 + 1 + 1]? = some o3 ∧ w2.heap[w.heap.size + 1 + 1 + 1 + 1]? = some o4 ∧ w2.heap[w.heap.size + 1 + 1 + 1 + 1 + 1]? = some o5 ∧ w2.heap[w.heap.size + 1 + 1 + 1 + 1 + 1 + 1]? = some o6 ∧ Below w.heap.size w w2 ∧ w.heap.size + 1 + 1 + 1 + 1 + 1 + 1 + 1 ≤ w2.heap.size := by
  have hz := h.size
  simp only [World.size_alloc] at hz
  have g : ∀ k x, (((((((w.alloc o0).alloc o1).alloc o2).alloc o3).alloc o4).alloc o5).alloc o6).heap[k]? = some x → w2.heap[k]? = some x := fun k x hk => keep h hk
  refine ⟨g _ _ (by simp only [agetx, World.size_alloc]; rw [if_neg (by omega)]; rw [if_neg (by omega)]; rw [if_neg (by omega)]; rw [if_neg (by omega)]; rw [if_neg (by omega)]; rw [if_neg (by omega)]; rw [if_pos trivial]), g _ _ (by simp only [agetx, World.size_alloc]; rw [if_neg (by omega)]; rw [if_neg (by omega)]; rw [if_neg (by omega)]; rw [if_neg (by omega)]; rw [if_neg (by omega)]; rw [if_pos trivial]), g _ _ (by simp only [agetx, World.size_alloc]; rw [if_neg (by omega)]; rw [if_neg (by omega)]; rw [if_neg (by omega)]; rw [if_neg (by omega)]; rw [if_pos trivial]), g _ _ (by simp only [agetx, World.size_alloc]; rw [if_neg (by omega)]; rw [if_neg (by omega)]; rw [if_neg (by omega)]; rw [if_pos trivial]), g _ _ (by simp only [agetx, World.size_alloc]; rw [if_neg (by omega)]; rw [if_neg (by omega)]; rw [if_pos trivial]), g _ _ (by simp only [agetx, World.size_alloc]; rw [if_neg (by omega)]; rw [if_pos trivial]), g _ _ (by simp only [agetx, World.size_alloc]; rw [if_pos trivial]), ⟨h.os, h.tape, h.output, by omega, fun k hk => ?_⟩, hz⟩
  rw [h.block k (by simp only [World.size_alloc]; omega)]
  simp only [agetx, World.size_alloc]
  rw [if_neg (by omega)]
  rw [if_neg (by omega)]
  rw [if_neg (by omega)]
  rw [if_neg (by omega)]
  rw [if_neg (by omega)]
  rw [if_neg (by omega)]
  rw [if_neg (by omega)]
theorem boxes8 {w w2 : World} {o0 o1 o2 o3 o4 o5 o6 o7 : Obj} (h : Below ((((((((w.alloc o0).alloc o1).alloc o2).alloc o3).alloc o4).alloc o5).alloc o6).alloc o7).heap.size ((((((((w.alloc o0).alloc o1).alloc o2).alloc o3).alloc o4).alloc o5).alloc o6).alloc o7) w2) : w2.heap[w.heap.size]? = some o0 ∧ w2.heap[w.heap.size + 1]? = some o1 ∧ w2.heap[w.heap.size + 1 + 1]? = some o2 ∧ w2.heap[w.heap.size + 1 + 1 + 1]? = some o3 ∧ w2.heap[w.heap.size + 1 + 1 + 1 + 1]? = some o4 ∧ w2.heap[w.heap.size + 1 + 1 + 1 + 1 + 1]? = some o5 ∧ w2.heap[w.heap.size + 1 + 1 + 1 + 1 + 1 + 1]? = some o6 ∧ w2.heap[w.heap.size + 1 + 1 + 1 + 1 + 1 + 1 + 1]? = some o7 ∧ Below w.heap.size w w2 ∧ w.heap.size + 1 + 1 + 1 + 1 + 1 + 1 + 1 + 1 ≤ w2.heap.size := by
  have hz := h.size
  simp only [World.size_alloc] at hz
  have g : ∀ k x, ((((((((w.alloc o0).alloc o1).alloc o2).alloc o3).alloc o4).alloc o5).alloc o6).alloc o7).heap[k]? = some x → w2.heap[k]? = some x := fun k x hk => keep h hk
  refine ⟨g _ _ (by simp only [agetx, World.size_alloc]; rw [if_neg (by omega)]; rw [if_neg (by omega)]; rw [if_neg (by omega)]; rw [if_neg (by omega)]; rw [if_neg (by omega)]; rw [if_neg (by omega)]; rw [if_neg (by omega)]; rw [if_pos trivial]), g _ _ (by simp only [agetx, World.size_alloc]; rw [if_neg (by omega)]; rw [if_neg (by omega)]; rw [if_neg (by omega)]; rw [if_neg (by omega)]; rw [if_neg (by omega)]; rw [if_neg (by omega)]; rw [if_pos trivial]), g _ _ (by simp only [agetx, World.size_alloc]; rw [if_neg (by omega)]; rw [if_neg (by omega)]; rw [if_neg (by omega)]; rw [if_neg (by omega)]; rw [if_neg (by omega)]; rw [if_pos trivial]), g _ _ (by simp only [agetx, World.size_alloc]; rw [if_neg (by omega)]; rw [if_neg (by omega)]; rw [if_neg (by omega)]; rw [if_neg (by omega)]; rw [if_pos trivial]), g _ _ (by simp only [agetx, World.size_alloc]; rw [if_neg (by omega)]; rw [if_neg (by omega)]; rw [if_neg (by omega)]; rw [if_pos trivial]), g _ _ (by simp only [agetx, World.size_alloc]; rw [if_neg (by omega)]; rw [if_neg (by omega)]; rw [if_pos trivial]), g _ _ (by simp only [agetx, World.size_alloc]; rw [if_neg (by omega)]; rw [if_pos trivial]), g _ _ (by simp only [agetx, World.size_alloc]; rw [if_pos trivial]), ⟨h.os, h.tape, h.output, by omega, fun k hk => ?_⟩, hz⟩
  rw [h.block k (by simp only [World.size_alloc]; omega)]
  simp only [agetx, World.size_alloc]
  rw [if_neg (by omega)]
  rw [if_neg (by omega)]
  rw [if_neg (by omega)]
  rw [if_neg (by omega)]
  rw [if_neg (by omega)]
  rw [if_neg (by omega)]
  rw [if_neg (by omega)]
  rw [if_neg (by omega)]
end Go.Pl
