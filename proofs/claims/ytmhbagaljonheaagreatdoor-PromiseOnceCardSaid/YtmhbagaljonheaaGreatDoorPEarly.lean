/- PromiseErrors at a string of more than 60 bytes, or more than 6 values: it hands back what awake does. -/
import Derived.Test.YtmhbagaljonheaaGreatDoorRunA
import Derived.Test.YtmhbagaljonheaaGreatDoorEvI
import Derived.WalkKit
import Derived.WalkMore
import Derived.BigCall
namespace Go.Proofs.YtmhbagaljonheaaGreatDoor
open Go Go.Ev Go.RowKit
set_option maxRecDepth 100000
theorem awake_calls (w : World) : Calls Tryz.prog 20 #[] w fun en w' => en = .returned (.bool true) ∧ Below w.heap.size w w' := by
  obtain ⟨cb, hbody⟩ : ∃ cb, Tryz.f20.body = some cb := Option.isSome_iff_exists.1 (by kernel_rfl)
  have h := run_plain (f := .func 20) tyI_eq fnF_eq drawFact (vt awakeB rfl)
  exact calls_below (σ := sg0) (fuel := 1000000) noCount (eval_sound noCount extFact 1000000 139) Tryz.func20 hbody h ⟨fun s lo hi h => by simp at h, fun x hx => by cases hx⟩ (RL.empty _ _ _ _ (fun r o hr => by cases hr) fun _ => rfl) (fun b p hb => by cases hb) _ LR.nil
set_option maxHeartbeats 8000000 in
set_option maxRecDepth 1000000 in
theorem early (k n x kd : Int) (s : ByteArray) (ao : Option Addr) (len cap : Nat) (w : World) (h : 60 < s.size ∨ 6 < len) :
    Calls Tryz.prog 5 #[.agg #[.int .i64 k, .int .i64 n, .string s, .int .i64 x], .int .i64 kd, .slice ao len cap] w fun en w' => en = .returned (.bool true) ∧ Below w.heap.size w w' := by
  have hB : ∀ o, Below w.heap.size w (w.alloc o) := fun o => (Below.refl _ w).alloc (Nat.le_refl _) _
  have cell : ∀ {o : Obj} {W : World}, Below (w.alloc o).heap.size (w.alloc o) W → W.heap[w.heap.size]? = some o := fun {o W} hb => by
    rw [hb.block _ (by show w.heap.size < (w.heap.push o).size; rw [Array.size_push]; omega)]
    show (w.heap.push o)[w.heap.size]? = _
    rw [Array.getElem?_push, if_pos rfl]
  have done : ∀ {o : Obj} {W W' : World}, Below (w.alloc o).heap.size (w.alloc o) W → Below W.heap.size W W' → Below w.heap.size w W' := fun {o W W'} h1 h2 => by
    have hs : w.heap.size < (w.alloc o).heap.size := by show w.heap.size < (w.heap.push o).size; rw [Array.size_push]; omega
    have h3 := hB o
    exact ⟨h2.os.trans (h1.os.trans h3.os), h2.tape.trans (h1.tape.trans h3.tape), h2.output.trans (h1.output.trans h3.output), by have := h1.size; have := h2.size; omega, fun i hi => ((h2.block i (by have := h1.size; omega)).trans (h1.block i (by omega))).trans (h3.block i hi)⟩
  by_cases h60 : 60 < s.size
  · have h60z : (60 : Int) < (s.size : Int) := by omega
    clear h
    go_enter Tryz.func5, Tryz.ntmps5
    go_wp2_with (go_at_call 20; refine (awake_calls _).mono ?_; first | (rintro en W1 ⟨rfl, hb1⟩; have c2 : W1.cell? ⟨w.heap.size, 2, none⟩ = some (.string s) := by simp [World.cell?, cell hb1]) | rintro en W2 ⟨rfl, hb2⟩)
    go_ret
    exact ⟨rfl, done hb1 hb2⟩
  · have h60z : ¬ (60 : Int) < (s.size : Int) := by omega
    have h6 : 6 < len := by omega
    have h6z : (6 : Int) < (len : Int) := by omega
    clear h
    go_enter Tryz.func5, Tryz.ntmps5
    go_wp2_with (go_at_call 20; refine (awake_calls _).mono ?_; first | (rintro en W1 ⟨rfl, hb1⟩; have c2 : W1.cell? ⟨w.heap.size, 2, none⟩ = some (.string s) := by simp [World.cell?, cell hb1]) | rintro en W2 ⟨rfl, hb2⟩)
    go_ret
    exact ⟨rfl, done hb1 hb2⟩
#print axioms early
end Go.Proofs.YtmhbagaljonheaaGreatDoor
