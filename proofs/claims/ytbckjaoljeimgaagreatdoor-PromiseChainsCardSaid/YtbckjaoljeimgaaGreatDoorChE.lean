/- PromiseChains, at every input: the law hands back true and leaves all older memory as it was. Conditions: the number is an int32; the list reads as bytes. -/
import Derived.Test.YtbckjaoljeimgaaGreatDoorChL
namespace Go.Proofs.YtbckjaoljeimgaaGreatDoor.promiseChains
open Go Go.Ev Go.RowKit
def LArg (w : World) (lv : Value) : Prop := lv = .slice none 0 0 ∨ ∃ b o len cap, lv = .slice (some ⟨b, o, none⟩) len cap ∧ b < w.heap.size ∧ ∀ n, n < len → ∃ k : Int, 0 ≤ k ∧ k ≤ 255 ∧ w.cell? ⟨b, o + n, none⟩ = some (.int .u8 k)
theorem walk (w : World) (n : Int) (hn : -2147483648 ≤ n ∧ n ≤ 2147483647) (lv : Value) (hL : LArg w lv) :
  Calls Tryz.prog 4 #[.int .i32 n, lv] w fun en w' => en = .returned (.bool true) ∧ Below w.heap.size w w' := by
 rcases hL with rfl | ⟨b, o, len, cap, rfl, hb, hc⟩
 ·exact law w n hn none 0 0 (Nat.zero_le _) (fun _ => 0) (fun _ => ⟨Int.le_refl _, by omega⟩) (fun k hk => absurd hk (Nat.not_lt_zero _))
 ·by_cases h20 : len ≤ 20
  ·refine law w n hn _ len cap h20 (fun k => if h : k < len then (hc k h).choose else 0) (fun k => ?_) (fun k hk => ⟨b, o, rfl, hb, ?_⟩)
   ·by_cases h : k < len
    ·simp only [dif_pos h]
     exact ⟨(hc k h).choose_spec.1, (hc k h).choose_spec.2.1⟩
    ·simp only [dif_neg h]
     omega
   ·simp only [dif_pos hk]
    exact (hc k hk).choose_spec.2.2
  ·exact law_big w n _ len cap (by omega)
end Go.Proofs.YtbckjaoljeimgaaGreatDoor.promiseChains
