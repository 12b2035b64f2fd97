/- PromiseOnce, at every input: the walk and its early ways out. Condition: the two tables of unicode/utf8 read as they are laid; the list reads as bytes. -/
import Derived.Test.YtmhbagaljonheaaGreatDoorOnceL
namespace Go.Proofs.YtmhbagaljonheaaGreatDoor
open Go Go.Ev Go.RowKit
namespace promiseOnce
set_option maxHeartbeats 16000000 in
set_option maxRecDepth 1000000 in
theorem early (a : OnceArgs) (ao : Option Addr) (len cap : Nat) (h : 20 < len ∨ 60 < a.vs.size ∨ 60 < a.xs.size ∨ a.vk = 5 ∨ a.xk = 5) :
    Calls Tryz.prog 4 #[vV a, vX a, .slice ao len cap] a.w0 fun en w' => en = .returned (.bool true) ∧ Below a.w0.heap.size a.w0 w' := by
  unfold vV vX
  go_enter Tryz.func4, Tryz.ntmps4
  go_wp2_with fail
  go_at_call 20
  refine (awake_calls _).mono ?_
  rintro en W1 ⟨rfl, hb1⟩
  obtain ⟨g0, g1, hB1, s1⟩ := two_boxes hb1
  clear hb1
  obtain ⟨c0, c1, c2, c3⟩ := Box.cells g0
  obtain ⟨d0, d1, d2, d3⟩ := Box.cells g1
  go_wp2_with fail
  all_goals first
    | (refine (awake_calls _).mono ?_
       rintro en W2 ⟨rfl, hb2⟩
       go_wp2_with fail
       go_ret
       have hz := hB1.size
       exact ⟨rfl, hb2.os.trans hB1.os, hb2.tape.trans hB1.tape, hb2.output.trans hB1.output, Nat.le_trans hB1.size hb2.size, fun i hi => (hb2.block i (by omega)).trans (hB1.block i hi)⟩)
    | (exfalso
       obtain ⟨_, hx⟩ := ‹((((len : Int) ≤ 20 ∧ (a.vs.size : Int) ≤ 60) ∧ (a.xs.size : Int) ≤ 60) ∧ (a.vk == 5) = false) ∧ (a.xk == 5) = false›
       have hx' : ¬ a.xk = 5 := by simpa using hx
       omega)
/-- the list, as it comes in -/
def LArg (w : World) (lv : Value) : Prop := lv = .slice none 0 0 ∨ ∃ b o len cap, lv = .slice (some ⟨b, o, none⟩) len cap ∧ b < w.heap.size ∧ ∀ n, n < len → ∃ k : Int, 0 ≤ k ∧ k ≤ 255 ∧ w.cell? ⟨b, o + n, none⟩ = some (.int .u8 k)
theorem walk (a : OnceArgs) (lv : Value) (h0 : W64 a.vk) (h1 : W64 a.vn) (h2 : W64 a.vr) (h3 : W64 a.xk) (h4 : W64 a.xn) (h5 : W64 a.xr) (hT : Tabs a.w0) (hL : LArg a.w0 lv) :
    Calls Tryz.prog 4 #[vV a, vX a, lv] a.w0 fun en w' => en = .returned (.bool true) ∧ Below a.w0.heap.size a.w0 w' := by
  obtain ⟨ao, len, cap, rfl, hl⟩ : ∃ ao len cap, lv = .slice ao len cap ∧ ∀ n, n < len → ∃ b o : Nat, ∃ k : Int, ao = some ⟨b, o, none⟩ ∧ b < a.w0.heap.size ∧ 0 ≤ k ∧ k ≤ 255 ∧ a.w0.cell? ⟨b, o + n, none⟩ = some (.int .u8 k) := by
    rcases hL with rfl | ⟨b, o, len, cap, rfl, hb, hc⟩
    · exact ⟨_, _, _, rfl, fun n hn => by omega⟩
    · refine ⟨_, _, _, rfl, fun n hn => ?_⟩
      obtain ⟨k, k0, k1, hk⟩ := hc n hn
      exact ⟨b, o, k, rfl, hb, k0, k1, hk⟩
  by_cases h : 20 < len ∨ 60 < a.vs.size ∨ 60 < a.xs.size ∨ a.vk = 5 ∨ a.xk = 5
  · exact early a ao len cap h
  · exact skel a ⟨h0, h1, h2, h3, h4, h5, by omega, by omega, by omega, by omega, hT⟩ ao len cap (by omega) hl
#print axioms walk
end promiseOnce
end Go.Proofs.YtmhbagaljonheaaGreatDoor
