/- text.Repair, walked: a string that is valid comes back; any other comes back rune by rune, each in its UTF-8 form. Condition: the two tables of unicode/utf8 read as they are laid; at most 60 bytes. -/
import Derived.Test.YtmhbagaljonheaaGreatDoorTryzShelf
import Derived.Test.YtmhbagaljonheaaGreatDoorPlain
import Derived.WalkKit
import Derived.WalkMore
import Derived.BigCall
import Derived.Below
import Derived.Lib.OthersKept
namespace Go.Proofs.YtmhbagaljonheaaGreatDoor
open Go Go.RowKit

theorem width_pos (s : ByteArray) (pos : Nat) (h : pos < s.size) : 1 ≤ (Utf8.decode s pos).2 := by
  by_cases ha : (s[pos]'h).toNat < 128
  · rw [decode_ascii s pos h ha]
    exact Nat.le_refl _
  · exact (decode_high s pos h (by omega)).2

def Tabs (w : World) : Prop := Lib.Utf8Tabs (Tryz.lays196_ren.g 3) (Tryz.lays196_ren.g 4) w

set_option maxHeartbeats 8000000 in
set_option maxRecDepth 1000000 in
theorem repair_wp (c : Code) (hc : Tryz.f82.body = some c) (s : ByteArray) (w : World) (hs : s.size ≤ 1000) (hT : Tabs w) :
    c.wp Tryz.prog (bodyPost Tryz.prog Tryz.f82 fun e w' => e = .returned (.string (repairOf s)) ∧ Below w.heap.size w w')
      { tmps := #[.string s] ++ Array.replicate (Tryz.f82.ntmps - (#[.string s] : Array Value).size) undef, defers := [] } w := by
  have cV := Tryz.utf8_ValidString s w (by omega) hT
  obtain rfl : _ = c := Option.some.inj hc
  clear hc
  unfold repairOf
  generalize Lib.validD s.data.toList = V at cV ⊢
  simp only [Tryz.ntmps82, List.size_toArray, List.length_cons, List.length_nil, Nat.reduceAdd, Nat.reduceSub, Array.replicate_succ,
     Array.replicate_zero, List.push_toArray, List.append_toArray, List.nil_append, List.cons_append]
  cases V with
  | true =>
    go_wp2_with (go_at_call 131; refine cV.mono ?_; rintro e W0 ⟨rfl, hb0⟩)
    go_ret
    exact ⟨rfl, hb0⟩
  | false =>
    go_wp2_with (go_at_call 131; refine cV.mono ?_; rintro e W0 ⟨rfl, hb0⟩)
    go_loopw [] (fun wr => ∃ (pos fuel : Nat) (acc : List UInt8), Lib.IsBuilderF 230 5 W0.heap.size W0.heap.size (Lib.byteCells acc) wr ∧ wr.heap[W0.heap.size + 1]? = some (.stringIter s pos) ∧ Below W0.heap.size W0 wr ∧ acc ++ runesFrom s fuel pos = runesOf s ∧ s.size ≤ pos + fuel ∧ acc.length ≤ 4 * pos) (fun wr => s.size - wr.iterPos (W0.heap.size + 1))
    case atStart =>
      refine ⟨0, s.size, [], (Lib.IsBuilderF.of (Lib.fresh_isBuilder 230 5 W0)).alloc _, ?_, ((Below.refl _ W0).alloc (Nat.le_refl _) _).alloc (by simp) _, rfl, by omega, by simp⟩
      have := World.iter_heap (W0.alloc (.cells #[.pointer none, .slice none 0 0] 230)) s 0
      simpa using this
    case round =>
      obtain ⟨pos, fuel, acc, hI, hit, hbw, hacc, hfu, hal⟩ := hrel
      have hsz : W0.heap.size + 1 < wr.heap.size := (Array.getElem?_eq_some_iff.1 hit).1
      by_cases hp : pos < s.size
      · have hnx : ∀ ty, (Instr.next (.pointer (some ⟨W0.heap.size + 1, 0, none⟩)) true ty).run Tryz.prog wr = _ := fun ty => Lib.run_next_any_at wr (W0.heap.size + 1) s pos ty hit hp
        have hwd := width_pos s pos hp
        have hd1 := decode_le s pos
        have hI2 := hI.iterAt hit (pos + (Utf8.decode s pos).2)
        have hit2 := Lib.iterAt_heap wr (W0.heap.size + 1) s pos (pos + (Utf8.decode s pos).2) hit
        have hbw2 := Lib.below_iterAt hbw (k := W0.heap.size + 1) (by omega) s (pos + (Utf8.decode s pos).2)
        have hsz2 : W0.heap.size ≤ (wr.iterAt (W0.heap.size + 1) s (pos + (Utf8.decode s pos).2)).heap.size := by rw [Lib.iterAt_size]; omega
        obtain ⟨f, rfl⟩ : ∃ f, fuel = f + 1 := ⟨fuel - 1, by omega⟩
        go_wp2_with (go_at_call 132; refine (Tryz.Builder_WriteRune_k W0.heap.size W0.heap.size _ _ (by omega) (by omega) _ hI2 (by rw [Lib.byteCells_length]; omega) hsz2).mono ?_)
        rintro e W1 ⟨rfl, h1, b1, k1⟩
        go_wp2
        go_roundw
        case rel =>
          have hl4 := Lib.runeCells_le ((Utf8.decode s pos).1 : Int)
          rw [Lib.runeCells_length] at hl4
          refine ⟨pos + (Utf8.decode s pos).2, f, acc ++ Lib.encodeRune (Utf8.decode s pos).1, ?_, k1.iter hit2 (by omega), hbw2.trans b1, ?_, by omega, by simp; omega⟩
          · rw [Lib.byteCells_append, Lib.byteCells_encodeRune]; exact Or.inr h1
          · rw [← hacc]; simp [runesFrom, hp]
        case measure =>
          simp only [World.iterPos, k1.iter hit2 (by omega), hit]
          omega
      · have hnx : ∀ ty, (Instr.next (.pointer (some ⟨W0.heap.size + 1, 0, none⟩)) true ty).run Tryz.prog wr = _ := fun ty => Lib.run_next_end_at wr (W0.heap.size + 1) s pos ty hit hp
        go_wp2_with (go_at_call 133; refine (Tryz.Builder_String_any_k W0.heap.size W0.heap.size acc _ hI (by omega)).mono ?_)
        rintro e W1 ⟨rfl, _, b1, _⟩
        go_wp2
        go_ret
        rw [runesFrom_end s fuel pos hp, List.append_nil] at hacc
        subst hacc
        have hb1 : Below W0.heap.size W0 W1 := hbw.trans b1
        exact ⟨rfl, ⟨hb1.os.trans hb0.os, hb1.tape.trans hb0.tape, hb1.output.trans hb0.output, Nat.le_trans hb0.size hb1.size, fun k hk => (hb1.block k (Nat.lt_of_lt_of_le hk hb0.size)).trans (hb0.block k hk)⟩⟩
#print axioms repair_wp
end Go.Proofs.YtmhbagaljonheaaGreatDoor
