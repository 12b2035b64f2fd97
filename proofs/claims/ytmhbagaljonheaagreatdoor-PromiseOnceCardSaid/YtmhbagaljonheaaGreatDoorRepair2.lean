/- knapsackref25.Repair, walked: a string comes back rune by rune, each in its UTF-8 form. -/
import Derived.Test.YtmhbagaljonheaaGreatDoorPlain
import Derived.Lib.SmallJoins
import Derived.Test.YtmhbagaljonheaaGreatDoorProg
import Derived.WalkKit
import Derived.WalkMore
import Derived.BigCall
import Derived.Below
import Derived.Lib.OthersKept
namespace Go.Proofs.YtmhbagaljonheaaGreatDoor
open Go Go.RowKit
theorem width_pos' (s : ByteArray) (pos : Nat) (h : pos < s.size) : 1 ≤ (Utf8.decode s pos).2 := by
  by_cases ha : (s[pos]'h).toNat < 128
  · rw [decode_ascii s pos h ha]
    exact Nat.le_refl _
  · exact (decode_high s pos h (by omega)).2
theorem enc_eq (r : Nat) (hr : r < 55296 ∨ (57344 ≤ r ∧ r ≤ 1114111)) : (Utf8.encode (r : Int)).data.toList = Lib.encodeRune (r : Int) := by
  have v : Utf8.valid (r : Int) = true := by simp [Utf8.valid]; omega
  unfold Lib.encodeRune
  rcases (by omega : r ≤ 127 ∨ (128 ≤ r ∧ r ≤ 2047) ∨ (2048 ≤ r ∧ r ≤ 65535) ∨ 65536 ≤ r) with h | h | h | h
  · rw [Lib.encodeRuneZ_one (by omega) (by omega)]
    have c1 : r < 128 := by omega
    simp [Utf8.encode, v, c1]
  · rw [Lib.encodeRuneZ_two (by omega) (by omega)]
    have e0 : (192 + (r : Int) / 64).toNat = 192 + r / 64 := by omega
    have e1 : (128 + (r : Int) % 64).toNat = 128 + r % 64 := by omega
    have c1 : ¬ r < 128 := by omega
    have c2 : r < 2048 := by omega
    simp [Utf8.encode, v, c1, c2, e0, e1]
  · rw [Lib.encodeRuneZ_three (by omega)]
    have e0 : (224 + (r : Int) / 4096).toNat = 224 + r / 4096 := by omega
    have e1 : (128 + (r : Int) / 64 % 64).toNat = 128 + r / 64 % 64 := by omega
    have e2 : (128 + (r : Int) % 64).toNat = 128 + r % 64 := by omega
    have c1 : ¬ r < 128 := by omega
    have c2 : ¬ r < 2048 := by omega
    have c3 : r < 65536 := by omega
    simp [Utf8.encode, v, c1, c2, c3, e0, e1, e2]
  · rw [Lib.encodeRuneZ_four (by omega) (by omega)]
    have e0 : (240 + (r : Int) / 262144).toNat = 240 + r / 262144 := by omega
    have e1 : (128 + (r : Int) / 4096 % 64).toNat = 128 + r / 4096 % 64 := by omega
    have e2 : (128 + (r : Int) / 64 % 64).toNat = 128 + r / 64 % 64 := by omega
    have e3 : (128 + (r : Int) % 64).toNat = 128 + r % 64 := by omega
    have c1 : ¬ r < 128 := by omega
    have c2 : ¬ r < 2048 := by omega
    have c3 : ¬ r < 65536 := by omega
    simp [Utf8.encode, v, c1, c2, c3, e0, e1, e2, e3]
set_option maxHeartbeats 8000000 in
set_option maxRecDepth 1000000 in
theorem repair2_wp (c : Code) (hc : Tryz.f64.body = some c) (s : ByteArray) (w : World) (hs : s.size ≤ 1000) :
    c.wp Tryz.prog (bodyPost Tryz.prog Tryz.f64 fun e w' => e = .returned (.string (repairOf s)) ∧ Below w.heap.size w w')
      { tmps := #[.string s] ++ Array.replicate (Tryz.f64.ntmps - (#[.string s] : Array Value).size) undef, defers := [] } w := by
  obtain rfl : _ = c := Option.some.inj hc
  clear hc
  rw [repairOf_eq]
  simp only [Tryz.ntmps64, List.size_toArray, List.length_cons, List.length_nil, Nat.reduceAdd, Nat.reduceSub, Array.replicate_succ,
     Array.replicate_zero, List.push_toArray, List.append_toArray, List.nil_append, List.cons_append]
  go_wp2
  go_loopw [3] (fun s0 wr => ∃ (pos fuel : Nat) (acc : List UInt8), (∃ S : ByteArray, s0 = .string S ∧ S.data.toList = acc) ∧ wr.heap[w.heap.size]? = some (.stringIter s pos) ∧ Below w.heap.size w wr ∧ acc ++ runesFrom s fuel pos = runesOf s ∧ s.size ≤ pos + fuel ∧ acc.length ≤ 4 * pos) (fun _ wr => s.size - wr.iterPos w.heap.size)
  case atStart =>
    refine ⟨0, s.size, [], ⟨_, rfl, rfl⟩, ?_, (Below.refl _ w).alloc (Nat.le_refl _) _, rfl, by omega, by simp⟩
    have := World.iter_heap w s 0
    simpa using this
  case round =>
    obtain ⟨pos, fuel, acc, ⟨S, rfl, hS⟩, hit, hbw, hacc, hfu, hal⟩ := hrel
    have hsz : w.heap.size < wr.heap.size := (Array.getElem?_eq_some_iff.1 hit).1
    by_cases hp : pos < s.size
    · have hnx : ∀ ty, (Instr.next (.pointer (some ⟨w.heap.size, 0, none⟩)) true ty).run Tryz.prog wr = _ := fun ty => Lib.run_next_any_at wr w.heap.size s pos ty hit hp
      have hwd := width_pos' s pos hp
      have hd1 := decode_le s pos
      have hit2 := Lib.iterAt_heap wr w.heap.size s pos (pos + (Utf8.decode s pos).2) hit
      have hbw2 := Lib.below_iterAt hbw (k := w.heap.size) (by omega) s (pos + (Utf8.decode s pos).2)
      obtain ⟨f, rfl⟩ : ∃ f, fuel = f + 1 := ⟨fuel - 1, by omega⟩
      have hES : (Utf8.encode ((Utf8.decode s pos).1 : Int)).data.toList = Lib.encodeRune ((Utf8.decode s pos).1 : Int) := enc_eq _ (by have := decoded (s.data.toList.drop pos); rwa [Lib.decodeL_drop] at this)
      have hEz : (Utf8.encode ((Utf8.decode s pos).1 : Int)).size ≤ 4 := by
        have h := Lib.size_eq (Utf8.encode ((Utf8.decode s pos).1 : Int))
        rw [hES] at h
        have h2 := Lib.encodeRuneZ_length ((Utf8.decode s pos).1 : Int)
        simp only [Lib.encodeRune, List.length_map] at h
        omega
      generalize hE : Utf8.encode ((Utf8.decode s pos).1 : Int) = E at hES hEz
      have hSz : S.size = acc.length := by rw [← hS]; exact Lib.size_eq S
      have hsum : (S ++ E).size = S.size + E.size := by simp
      have hlen : (S ++ E).size ≤ maxLen := by rw [hsum]; unfold maxLen; omega
      have hlenz : ((S ++ E).size : Int) ≤ 9223372036854775807 := by unfold maxLen at hlen; omega
      clear hsum
      go_wp2
      go_roundw
      case rel =>
        refine ⟨pos + (Utf8.decode s pos).2, f, acc ++ Lib.encodeRune (Utf8.decode s pos).1, ⟨_, rfl, by rw [Joins.data_append, hS, hES]⟩, hit2, hbw2, ?_, by omega, ?_⟩
        · rw [← hacc]; simp [runesFrom, hp]
        · have := Lib.encodeRuneZ_length ((Utf8.decode s pos).1 : Int)
          simp only [List.length_append, Lib.encodeRune, List.length_map]
          omega
      case measure =>
        simp only [World.iterPos, hit2, hit]
        omega
    · have hnx : ∀ ty, (Instr.next (.pointer (some ⟨w.heap.size, 0, none⟩)) true ty).run Tryz.prog wr = _ := fun ty => Lib.run_next_end_at wr w.heap.size s pos ty hit hp
      go_wp2
      go_ret
      rw [runesFrom_end s fuel pos hp, List.append_nil] at hacc
      refine ⟨?_, hbw⟩
      have hSr : S = ⟨(runesOf s).toArray⟩ := by
        cases S
        simp only at hS
        rw [← hacc, ← hS]
      rw [hSr]
      rfl
end Go.Proofs.YtmhbagaljonheaaGreatDoor
