/- PromisePlays: text.Repair and value.Normal, walked. Condition: at most 1000 bytes; the tables of unicode/utf8 read as they are laid. -/
import Derived.Test.YtcceopgaiffkmaaGreatDoorTryzShelf
import Derived.Test.YtcceopgaiffkmaaGreatDoorPlA
import Derived.WalkKit
import Derived.WalkMore
import Derived.BigCall
import Derived.Below
import Derived.Lib.OthersKept
import Derived.Lib.SmallJoins
import Derived.Test.YtcceopgaiffkmaaGreatDoorProg
import Derived.Test.YtcceopgaiffkmaaGreatDoorPlB
/- text.Repair, walked: a string that is valid comes back; any other comes back rune by rune, each in its UTF-8 form. Condition: the two tables of unicode/utf8 read as they are laid; at most 60 bytes. -/
namespace Go.Proofs.YtcceopgaiffkmaaGreatDoor
open Go Go.RowKit

theorem width_pos (s : ByteArray) (pos : Nat) (h : pos < s.size) : 1 ≤ (Utf8.decode s pos).2 := by
  by_cases ha : (s[pos]'h).toNat < 128
  · rw [decode_ascii s pos h ha]
    exact Nat.le_refl _
  · exact (decode_high s pos h (by omega)).2

def Tabs (w : World) : Prop := Lib.Utf8Tabs (Tryz.lays196_ren.g 3) (Tryz.lays196_ren.g 4) w

set_option maxHeartbeats 8000000 in
set_option maxRecDepth 1000000 in
theorem repair_wp (c : Code) (hc : Tryz.f55.body = some c) (s : ByteArray) (w : World) (hs : s.size ≤ 1000) (hT : Tabs w) :
    c.wp Tryz.prog (bodyPost Tryz.prog Tryz.f55 fun e w' => e = .returned (.string (repairOf s)) ∧ Below w.heap.size w w')
      { tmps := #[.string s] ++ Array.replicate (Tryz.f55.ntmps - (#[.string s] : Array Value).size) undef, defers := [] } w := by
  have cV := Tryz.utf8_ValidString s w (by omega) hT
  obtain rfl : _ = c := Option.some.inj hc
  clear hc
  unfold repairOf
  generalize Lib.validD s.data.toList = V at cV ⊢
  simp only [Tryz.ntmps55, List.size_toArray, List.length_cons, List.length_nil, Nat.reduceAdd, Nat.reduceSub, Array.replicate_succ,
     Array.replicate_zero, List.push_toArray, List.append_toArray, List.nil_append, List.cons_append]
  cases V with
  | true =>
    go_wp2_with (go_at_call 79; refine cV.mono ?_; rintro e W0 ⟨rfl, hb0⟩)
    go_ret
    exact ⟨rfl, hb0⟩
  | false =>
    go_wp2_with (go_at_call 79; refine cV.mono ?_; rintro e W0 ⟨rfl, hb0⟩)
    go_loopw [] (fun wr => ∃ (pos fuel : Nat) (acc : List UInt8), Lib.IsBuilderF 164 5 W0.heap.size W0.heap.size (Lib.byteCells acc) wr ∧ wr.heap[W0.heap.size + 1]? = some (.stringIter s pos) ∧ Below W0.heap.size W0 wr ∧ acc ++ runesFrom s fuel pos = runesOf s ∧ s.size ≤ pos + fuel ∧ acc.length ≤ 4 * pos) (fun wr => s.size - wr.iterPos (W0.heap.size + 1))
    case atStart =>
      refine ⟨0, s.size, [], (Lib.IsBuilderF.of (Lib.fresh_isBuilder 164 5 W0)).alloc _, ?_, ((Below.refl _ W0).alloc (Nat.le_refl _) _).alloc (by simp) _, rfl, by omega, by simp⟩
      have := World.iter_heap (W0.alloc (.cells #[.pointer none, .slice none 0 0] 164)) s 0
      simpa using this
    case round =>
      obtain ⟨pos, fuel, acc, hI, hit, hbw, hacc, hfu, hal⟩ := hrel
      have hsz : W0.heap.size + 1 < wr.heap.size := (Array.getElem?_eq_some_iff.1 hit).1
      by_cases hp : pos < s.size
      · have hnx : ∀ ty, (Instr.next (.pointer (some ⟨W0.heap.size + 1, 0, none⟩)) true ty).run Tryz.prog wr = _ := fun ty => Lib.run_next_any_at wr (W0.heap.size + 1) s pos ty hit hp
        have hwd := width_pos s pos hp
        have hd1 := decode_le s pos
        have hI2 := hI.iterAt hit (pos + (Utf8.decode s pos).2)
        have hit2 := Lib.iterAt_heap wr (W0.heap.size + 1) s pos (pos + (Utf8.decode s pos).2) hit
        have hbw2 := Lib.below_iterAt hbw (k := W0.heap.size + 1) (by omega) s (pos + (Utf8.decode s pos).2)
        have hsz2 : W0.heap.size ≤ (wr.iterAt (W0.heap.size + 1) s (pos + (Utf8.decode s pos).2)).heap.size := by rw [Lib.iterAt_size]; omega
        obtain ⟨f, rfl⟩ : ∃ f, fuel = f + 1 := ⟨fuel - 1, by omega⟩
        go_wp2_with (go_at_call 80; refine (Tryz.Builder_WriteRune_k W0.heap.size W0.heap.size _ _ (by omega) (by omega) _ hI2 (by rw [Lib.byteCells_length]; omega) hsz2).mono ?_)
        rintro e W1 ⟨rfl, h1, b1, k1⟩
        go_wp2
        go_roundw
        case rel =>
          have hl4 := Lib.runeCells_le ((Utf8.decode s pos).1 : Int)
          rw [Lib.runeCells_length] at hl4
          refine ⟨pos + (Utf8.decode s pos).2, f, acc ++ Lib.encodeRune (Utf8.decode s pos).1, ?_, k1.iter hit2 (by omega), hbw2.trans b1, ?_, by omega, by simp; omega⟩
          · rw [Lib.byteCells_append, Lib.byteCells_encodeRune]; exact Or.inr h1
          · rw [← hacc]; simp [runesFrom, hp]
        case measure =>
          simp only [World.iterPos, k1.iter hit2 (by omega), hit]
          omega
      · have hnx : ∀ ty, (Instr.next (.pointer (some ⟨W0.heap.size + 1, 0, none⟩)) true ty).run Tryz.prog wr = _ := fun ty => Lib.run_next_end_at wr (W0.heap.size + 1) s pos ty hit hp
        go_wp2_with (go_at_call 81; refine (Tryz.Builder_String_any_k W0.heap.size W0.heap.size acc _ hI (by omega)).mono ?_)
        rintro e W1 ⟨rfl, _, b1, _⟩
        go_wp2
        go_ret
        rw [runesFrom_end s fuel pos hp, List.append_nil] at hacc
        subst hacc
        have hb1 : Below W0.heap.size W0 W1 := hbw.trans b1
        exact ⟨rfl, ⟨hb1.os.trans hb0.os, hb1.tape.trans hb0.tape, hb1.output.trans hb0.output, Nat.le_trans hb0.size hb1.size, fun k hk => (hb1.block k (Nat.lt_of_lt_of_le hk hb0.size)).trans (hb0.block k hk)⟩⟩
end Go.Proofs.YtcceopgaiffkmaaGreatDoor

/- knapsackref25.Repair, walked: a string comes back rune by rune, each in its UTF-8 form. -/
namespace Go.Proofs.YtcceopgaiffkmaaGreatDoor
open Go Go.RowKit
theorem width_pos' (s : ByteArray) (pos : Nat) (h : pos < s.size) : 1 ≤ (Utf8.decode s pos).2 := by
  by_cases ha : (s[pos]'h).toNat < 128
  · rw [decode_ascii s pos h ha]
    exact Nat.le_refl _
  · exact (decode_high s pos h (by omega)).2
theorem enc_eq (r : Nat) (hr : r < 55296 ∨ (57344 ≤ r ∧ r ≤ 1114111)) : (Utf8.encode (r : Int)).data.toList = Lib.encodeRune (r : Int) := by
  have v : Utf8.valid (r : Int) = true := by simp [Utf8.valid]; omega
  unfold Lib.encodeRune
  rcases (by omega : r ≤ 127 ∨ (128 ≤ r ∧ r ≤ 2047) ∨ (2048 ≤ r ∧ r ≤ 65535) ∨ 65536 ≤ r) with h | h | h | h
  · rw [Lib.encodeRuneZ_one (by omega) (by omega)]
    have c1 : r < 128 := by omega
    simp [Utf8.encode, v, c1]
  · rw [Lib.encodeRuneZ_two (by omega) (by omega)]
    have e0 : (192 + (r : Int) / 64).toNat = 192 + r / 64 := by omega
    have e1 : (128 + (r : Int) % 64).toNat = 128 + r % 64 := by omega
    have c1 : ¬ r < 128 := by omega
    have c2 : r < 2048 := by omega
    simp [Utf8.encode, v, c1, c2, e0, e1]
  · rw [Lib.encodeRuneZ_three (by omega)]
    have e0 : (224 + (r : Int) / 4096).toNat = 224 + r / 4096 := by omega
    have e1 : (128 + (r : Int) / 64 % 64).toNat = 128 + r / 64 % 64 := by omega
    have e2 : (128 + (r : Int) % 64).toNat = 128 + r % 64 := by omega
    have c1 : ¬ r < 128 := by omega
    have c2 : ¬ r < 2048 := by omega
    have c3 : r < 65536 := by omega
    simp [Utf8.encode, v, c1, c2, c3, e0, e1, e2]
  · rw [Lib.encodeRuneZ_four (by omega) (by omega)]
    have e0 : (240 + (r : Int) / 262144).toNat = 240 + r / 262144 := by omega
    have e1 : (128 + (r : Int) / 4096 % 64).toNat = 128 + r / 4096 % 64 := by omega
    have e2 : (128 + (r : Int) / 64 % 64).toNat = 128 + r / 64 % 64 := by omega
    have e3 : (128 + (r : Int) % 64).toNat = 128 + r % 64 := by omega
    have c1 : ¬ r < 128 := by omega
    have c2 : ¬ r < 2048 := by omega
    have c3 : ¬ r < 65536 := by omega
    simp [Utf8.encode, v, c1, c2, c3, e0, e1, e2, e3]
set_option maxHeartbeats 8000000 in
set_option maxRecDepth 1000000 in
theorem repair2_wp (c : Code) (hc : Tryz.f33.body = some c) (s : ByteArray) (w : World) (hs : s.size ≤ 1000) :
    c.wp Tryz.prog (bodyPost Tryz.prog Tryz.f33 fun e w' => e = .returned (.string (repairOf s)) ∧ Below w.heap.size w w')
      { tmps := #[.string s] ++ Array.replicate (Tryz.f33.ntmps - (#[.string s] : Array Value).size) undef, defers := [] } w := by
  obtain rfl : _ = c := Option.some.inj hc
  clear hc
  rw [repairOf_eq]
  simp only [Tryz.ntmps33, List.size_toArray, List.length_cons, List.length_nil, Nat.reduceAdd, Nat.reduceSub, Array.replicate_succ,
     Array.replicate_zero, List.push_toArray, List.append_toArray, List.nil_append, List.cons_append]
  go_wp2
  go_loopw [3] (fun s0 wr => ∃ (pos fuel : Nat) (acc : List UInt8), (∃ S : ByteArray, s0 = .string S ∧ S.data.toList = acc) ∧ wr.heap[w.heap.size]? = some (.stringIter s pos) ∧ Below w.heap.size w wr ∧ acc ++ runesFrom s fuel pos = runesOf s ∧ s.size ≤ pos + fuel ∧ acc.length ≤ 4 * pos) (fun _ wr => s.size - wr.iterPos w.heap.size)
  case atStart =>
    refine ⟨0, s.size, [], ⟨_, rfl, rfl⟩, ?_, (Below.refl _ w).alloc (Nat.le_refl _) _, rfl, by omega, by simp⟩
    have := World.iter_heap w s 0
    simpa using this
  case round =>
    obtain ⟨pos, fuel, acc, ⟨S, rfl, hS⟩, hit, hbw, hacc, hfu, hal⟩ := hrel
    have hsz : w.heap.size < wr.heap.size := (Array.getElem?_eq_some_iff.1 hit).1
    by_cases hp : pos < s.size
    · have hnx : ∀ ty, (Instr.next (.pointer (some ⟨w.heap.size, 0, none⟩)) true ty).run Tryz.prog wr = _ := fun ty => Lib.run_next_any_at wr w.heap.size s pos ty hit hp
      have hwd := width_pos' s pos hp
      have hd1 := decode_le s pos
      have hit2 := Lib.iterAt_heap wr w.heap.size s pos (pos + (Utf8.decode s pos).2) hit
      have hbw2 := Lib.below_iterAt hbw (k := w.heap.size) (by omega) s (pos + (Utf8.decode s pos).2)
      obtain ⟨f, rfl⟩ : ∃ f, fuel = f + 1 := ⟨fuel - 1, by omega⟩
      have hES : (Utf8.encode ((Utf8.decode s pos).1 : Int)).data.toList = Lib.encodeRune ((Utf8.decode s pos).1 : Int) := enc_eq _ (by have := decoded (s.data.toList.drop pos); rwa [Lib.decodeL_drop] at this)
      have hEz : (Utf8.encode ((Utf8.decode s pos).1 : Int)).size ≤ 4 := by
        have h := Lib.size_eq (Utf8.encode ((Utf8.decode s pos).1 : Int))
        rw [hES] at h
        have h2 := Lib.encodeRuneZ_length ((Utf8.decode s pos).1 : Int)
        simp only [Lib.encodeRune, List.length_map] at h
        omega
      generalize hE : Utf8.encode ((Utf8.decode s pos).1 : Int) = E at hES hEz
      have hSz : S.size = acc.length := by rw [← hS]; exact Lib.size_eq S
      have hsum : (S ++ E).size = S.size + E.size := by simp
      have hlen : (S ++ E).size ≤ maxLen := by rw [hsum]; unfold maxLen; omega
      have hlenz : ((S ++ E).size : Int) ≤ 9223372036854775807 := by unfold maxLen at hlen; omega
      clear hsum
      go_wp2
      go_roundw
      case rel =>
        refine ⟨pos + (Utf8.decode s pos).2, f, acc ++ Lib.encodeRune (Utf8.decode s pos).1, ⟨_, rfl, by rw [Joins.data_append, hS, hES]⟩, hit2, hbw2, ?_, by omega, ?_⟩
        · rw [← hacc]; simp [runesFrom, hp]
        · have := Lib.encodeRuneZ_length ((Utf8.decode s pos).1 : Int)
          simp only [List.length_append, Lib.encodeRune, List.length_map]
          omega
      case measure =>
        simp only [World.iterPos, hit2, hit]
        omega
    · have hnx : ∀ ty, (Instr.next (.pointer (some ⟨w.heap.size, 0, none⟩)) true ty).run Tryz.prog wr = _ := fun ty => Lib.run_next_end_at wr w.heap.size s pos ty hit hp
      go_wp2
      go_ret
      rw [runesFrom_end s fuel pos hp, List.append_nil] at hacc
      refine ⟨?_, hbw⟩
      have hSr : S = ⟨(runesOf s).toArray⟩ := by
        cases S
        simp only at hS
        rw [← hacc, ← hS]
      rw [hSr]
      rfl
end Go.Proofs.YtcceopgaiffkmaaGreatDoor

/- Values in their normal form. Condition: the two tables of unicode/utf8 read as they are laid. -/
namespace Go.Proofs.YtcceopgaiffkmaaGreatDoor
open Go Go.RowKit Go.Pl
set_option maxRecDepth 100000
theorem Tabs.below {w0 w : World} (hT : Tabs w0) (h : Below w0.heap.size w0 w) : Tabs w := by
  have key : ∀ r c v, w0.cell? ⟨r, c, none⟩ = some v → w.cell? ⟨r, c, none⟩ = some v := fun r c v hv => by
    rw [World.cell?_of_block (w := w0) (h.block r (World.block_lt_of_cell? w0 _ hv))]
    exact hv
  exact ⟨fun c hc => key 0 c _ (hT.1 c hc), fun i hi => ⟨key 1 _ _ (hT.2 i hi).1, key 1 _ _ (hT.2 i hi).2⟩⟩
theorem repair_calls (s : ByteArray) (w : World) (hs : s.size ≤ 1000) (hT : Tabs w) : Calls Tryz.prog 55 #[.string s] w (fun e w' => e = .returned (.string (repairOf s)) ∧ Below w.heap.size w w') := by
  refine calls_of_wp Tryz.func55 rfl ?_
  exact repair_wp _ rfl s w hs hT
theorem repair2_calls (s : ByteArray) (w : World) (hs : s.size ≤ 1000) : Calls Tryz.prog 33 #[.string s] w (fun e w' => e = .returned (.string (repairOf s)) ∧ Below w.heap.size w w') := by
  refine calls_of_wp Tryz.func33 rfl ?_
  exact repair2_wp _ rfl s w hs
theorem text_calls (s : ByteArray) (w : World) (hs : s.size ≤ 1000) (hT : Tabs w) : Calls Tryz.prog 32 #[.string s] w (fun e w' => e = .returned (.agg #[.int .i64 4, .int .i64 0, .string (repairOf s), .int .i64 0]) ∧ Below w.heap.size w w') := by
  have hB := (Below.refl w.heap.size w).alloc (Nat.le_refl _) (.cells #[.int .i64 0, .int .i64 0, .string ⟨#[]⟩, .int .i64 0] 38)
  go_enter Tryz.func32, Tryz.ntmps32
  go_wp2_with fail
  refine (repair_calls s _ hs (hT.below hB)).mono ?_
  rintro e w2 ⟨rfl, hb⟩
  obtain ⟨g0, hB2, hz⟩ := boxes1 hb
  obtain ⟨c0, c1, c2, c3⟩ := cells4 g0
  obtain ⟨f0, f1, f2, f3⟩ := free4 g0
  go_wp2
  refine bodyPost_ret (results_cell_row rfl _ _ w.heap.size 38 #[.int .i64 4, .int .i64 0, .string (repairOf s), .int .i64 0] (0, 0) _ rfl (set4 _ _ _ _ g0) Tryz.underlying38 rfl i38) rfl ?_
  exact ⟨rfl, below_set4 hB2 (Nat.le_refl _) _ _ _ _⟩
theorem of_calls (n : Int) (w : World) : Calls Tryz.prog 14 #[.int .i64 n] w (fun e w' => e = .returned (.agg #[.int .i64 3, .int .i64 n, .string ⟨#[]⟩, .int .i64 0]) ∧ Below w.heap.size w w') := by
  go_enter Tryz.func14, Tryz.ntmps14
  go_wp2
  refine bodyPost_ret (results_cell_row rfl _ _ w.heap.size 38 #[.int .i64 3, .int .i64 n, .string ⟨#[]⟩, .int .i64 0] (0, 0) _ rfl (hallocn _ _) Tryz.underlying38 rfl i38) rfl ?_
  exact ⟨rfl, (Below.refl w.heap.size w).alloc (Nat.le_refl _) _⟩
theorem ref_calls (n : Int) (w : World) : Calls Tryz.prog 39 #[.int .i64 n] w (fun e w' => e = .returned (.agg #[.int .i64 5, .int .i64 0, .string ⟨#[]⟩, .int .i64 n]) ∧ Below w.heap.size w w') := by
  go_enter Tryz.func39, Tryz.ntmps39
  go_wp2
  refine bodyPost_ret (results_cell_row rfl _ _ w.heap.size 38 #[.int .i64 5, .int .i64 0, .string ⟨#[]⟩, .int .i64 n] (0, 0) _ rfl (hallocn _ _) Tryz.underlying38 rfl i38) rfl ?_
  exact ⟨rfl, (Below.refl w.heap.size w).alloc (Nat.le_refl _) _⟩
/-- the kind, the number and the text of a value's normal form -/
def nk (k : Int) : Int := if k = 1 ∨ k = 2 ∨ k = 3 ∨ k = 4 ∨ k = 6 then k else 0
def ni (k n : Int) : Int := if k = 3 then n else if k = 2 then (if n = 0 then 0 else 1) else 0
def ns (k : Int) (s : ByteArray) : ByteArray := if k = 4 then repairOf s else ⟨#[]⟩
/-- a call's end: the result's cell is written whole -/
theorem fin4 {w w2 : World} {r : Nat} {a b c d : Value} (hB : Below w.heap.size w w2) (hr : w.heap.size ≤ r) (a' b' c' d' : Value) (h : w2.heap[r]? = some (.cells #[a, b, c, d] 38 (0, 0))) :
    ((((w2.setCell ⟨r, 0, none⟩ a').setCell ⟨r, 1, none⟩ b').setCell ⟨r, 2, none⟩ c').setCell ⟨r, 3, none⟩ d').heap[r]? = some (.cells #[a', b', c', d'] 38 (0, 0)) ∧ Below w.heap.size w ((((w2.setCell ⟨r, 0, none⟩ a').setCell ⟨r, 1, none⟩ b').setCell ⟨r, 2, none⟩ c').setCell ⟨r, 3, none⟩ d') :=
  ⟨set4 _ _ _ _ h, below_set4 hB hr _ _ _ _⟩
set_option maxHeartbeats 1000000 in
theorem normal_ref (n x : Int) (s : ByteArray) (w : World) : Calls Tryz.prog 63 #[.agg #[.int .i64 5, .int .i64 n, .string s, .int .i64 x]] w (fun e w' => e = .returned (.agg #[.int .i64 5, .int .i64 0, .string ⟨#[]⟩, .int .i64 x]) ∧ Below w.heap.size w w') := by
  go_enter Tryz.func63, Tryz.ntmps63
  go_wp2_with fail
  refine (ref_calls x _).mono ?_
  rintro e w2 ⟨rfl, hb⟩
  obtain ⟨g0, g1, hB2, hz⟩ := boxes2 hb
  obtain ⟨c0, c1, c2, c3⟩ := cells4 g1
  obtain ⟨f0, f1, f2, f3⟩ := free4 g1
  go_wp2
  obtain ⟨q1, q2⟩ := fin4 hB2 (Nat.le_succ _) (.int .i64 5) (.int .i64 0) (.string ⟨#[]⟩) (.int .i64 x) g1
  refine bodyPost_ret (results_cell_row rfl _ _ (w.heap.size + 1) 38 _ (0, 0) _ rfl q1 Tryz.underlying38 rfl i38) rfl ?_
  exact ⟨rfl, q2⟩
set_option maxHeartbeats 4000000 in
theorem normal_calls (k n x : Int) (s : ByteArray) (h5 : k ≠ 5) (hs : s.size ≤ 1000) (w : World) (hT : Tabs w) : Calls Tryz.prog 63 #[.agg #[.int .i64 k, .int .i64 n, .string s, .int .i64 x]] w (fun e w' => e = .returned (.agg #[.int .i64 (nk k), .int .i64 (ni k n), .string (ns k s), .int .i64 0]) ∧ Below w.heap.size w w') := by
  rcases (by omega : k = 2 ∨ k = 3 ∨ k = 4 ∨ k = 1 ∨ k = 6 ∨ (k ≠ 1 ∧ k ≠ 2 ∧ k ≠ 3 ∧ k ≠ 4 ∧ k ≠ 6)) with rfl | rfl | rfl | rfl | rfl | ⟨h1, h2, h3, h4, h6⟩
  · show Calls Tryz.prog 63 _ w (fun e w' => e = .returned (.agg #[.int .i64 2, .int .i64 (if n = 0 then 0 else 1), .string ⟨#[]⟩, .int .i64 0]) ∧ Below w.heap.size w w')
    by_cases hn : n = 0
    · subst hn
      go_enter Tryz.func63, Tryz.ntmps63
      go_wp2_with fail
      refine (truth_calls false _).mono ?_
      rintro e w2 ⟨rfl, hb⟩
      obtain ⟨g0, g1, hB2, hz⟩ := boxes2 hb
      obtain ⟨c0, c1, c2, c3⟩ := cells4 g1
      obtain ⟨f0, f1, f2, f3⟩ := free4 g1
      go_wp2
      obtain ⟨q1, q2⟩ := fin4 hB2 (Nat.le_succ _) (.int .i64 2) (.int .i64 0) (.string ⟨#[]⟩) (.int .i64 0) g1
      refine bodyPost_ret (results_cell_row rfl _ _ (w.heap.size + 1) 38 _ (0, 0) _ rfl q1 Tryz.underlying38 rfl i38) rfl ?_
      exact ⟨rfl, q2⟩
    · have hn' : (n != 0) = true := by simpa using hn
      rw [if_neg hn]
      go_enter Tryz.func63, Tryz.ntmps63
      go_wp2_with fail
      refine (truth_calls true _).mono ?_
      rintro e w2 ⟨rfl, hb⟩
      obtain ⟨g0, g1, hB2, hz⟩ := boxes2 hb
      obtain ⟨c0, c1, c2, c3⟩ := cells4 g1
      obtain ⟨f0, f1, f2, f3⟩ := free4 g1
      go_wp2
      obtain ⟨q1, q2⟩ := fin4 hB2 (Nat.le_succ _) (.int .i64 2) (.int .i64 1) (.string ⟨#[]⟩) (.int .i64 0) g1
      refine bodyPost_ret (results_cell_row rfl _ _ (w.heap.size + 1) 38 _ (0, 0) _ rfl q1 Tryz.underlying38 rfl i38) rfl ?_
      exact ⟨rfl, q2⟩
  · go_enter Tryz.func63, Tryz.ntmps63
    go_wp2_with fail
    refine (of_calls n _).mono ?_
    rintro e w2 ⟨rfl, hb⟩
    obtain ⟨g0, g1, hB2, hz⟩ := boxes2 hb
    obtain ⟨c0, c1, c2, c3⟩ := cells4 g1
    obtain ⟨f0, f1, f2, f3⟩ := free4 g1
    go_wp2
    obtain ⟨q1, q2⟩ := fin4 hB2 (Nat.le_succ _) (.int .i64 3) (.int .i64 n) (.string ⟨#[]⟩) (.int .i64 0) g1
    refine bodyPost_ret (results_cell_row rfl _ _ (w.heap.size + 1) 38 _ (0, 0) _ rfl q1 Tryz.underlying38 rfl i38) rfl ?_
    exact ⟨rfl, q2⟩
  · have hB := ((Below.refl w.heap.size w).alloc (Nat.le_refl _) (.cells #[.int .i64 4, .int .i64 n, .string s, .int .i64 x] 38)).alloc (by simp) (.cells #[.int .i64 0, .int .i64 0, .string ⟨#[]⟩, .int .i64 0] 38)
    go_enter Tryz.func63, Tryz.ntmps63
    go_wp2_with fail
    refine (text_calls s _ hs (hT.below hB)).mono ?_
    rintro e w2 ⟨rfl, hb⟩
    obtain ⟨g0, g1, hB2, hz⟩ := boxes2 hb
    obtain ⟨c0, c1, c2, c3⟩ := cells4 g1
    obtain ⟨f0, f1, f2, f3⟩ := free4 g1
    go_wp2
    obtain ⟨q1, q2⟩ := fin4 hB2 (Nat.le_succ _) (.int .i64 4) (.int .i64 0) (.string (repairOf s)) (.int .i64 0) g1
    refine bodyPost_ret (results_cell_row rfl _ _ (w.heap.size + 1) 38 _ (0, 0) _ rfl q1 Tryz.underlying38 rfl i38) rfl ?_
    exact ⟨rfl, q2⟩
  · go_enter Tryz.func63, Tryz.ntmps63
    go_wp2_with fail
    refine bodyPost_ret (results_cell_row rfl _ _ (w.heap.size + 1) 38 #[.int .i64 1, .int .i64 0, .string ⟨#[]⟩, .int .i64 0] (0, 0) _ rfl (alloc_at (by simp)) Tryz.underlying38 rfl i38) rfl ?_
    exact ⟨rfl, ((Below.refl w.heap.size w).alloc (Nat.le_refl _) _).alloc (by simp) _⟩
  · go_enter Tryz.func63, Tryz.ntmps63
    go_wp2_with fail
    refine bodyPost_ret (results_cell_row rfl _ _ (w.heap.size + 1) 38 #[.int .i64 6, .int .i64 0, .string ⟨#[]⟩, .int .i64 0] (0, 0) _ rfl (alloc_at (by simp)) Tryz.underlying38 rfl i38) rfl ?_
    exact ⟨rfl, ((Below.refl w.heap.size w).alloc (Nat.le_refl _) _).alloc (by simp) _⟩
  · have b1 : (k == 1) = false := by simpa using h1
    have b2 : (k == 2) = false := by simpa using h2
    have b3 : (k == 3) = false := by simpa using h3
    have b4 : (k == 4) = false := by simpa using h4
    have b5 : (k == 5) = false := by simpa using h5
    have b6 : (k == 6) = false := by simpa using h6
    go_enter Tryz.func63, Tryz.ntmps63
    go_wp2_with fail
    refine bodyPost_ret (results_cell_row rfl _ _ (w.heap.size + 1) 38 #[.int .i64 0, .int .i64 0, .string ⟨#[]⟩, .int .i64 0] (0, 0) _ rfl (alloc_at (by simp)) Tryz.underlying38 rfl i38) rfl ?_
    exact ⟨by simp [nk, ni, ns, h1, h2, h3, h4, h6], ((Below.refl w.heap.size w).alloc (Nat.le_refl _) _).alloc (by simp) _⟩
end Go.Proofs.YtcceopgaiffkmaaGreatDoor
