/- Make of the machine's heap, below its limit, as a contract; the loop of the law that fills the heap. -/
import Derived.Test.YtbckjaoljeimgaaGreatDoorFullB
import Derived.Lib.QuietBelow
import Derived.Deep.RegionWith
namespace Go.Proofs.YtbckjaoljeimgaaGreatDoor
open Go Go.RowKit Go.Ev
set_option maxRecDepth 100000
theorem grows_of {w w1 w2 : World} {W r n : Nat} {cw : Array Value} {tw : TypeId} {xs : List Value} (h : Grows 131 (n + 1) n W r cw tw xs w1 w2) (hs : w.heap.size ≤ w1.heap.size) (h0 : ∀ k, k < w.heap.size → w1.heap[k]? = w.heap[k]?) (t0 : w1.tape = w.tape) (o0 : w1.os = w.os) (u0 : w1.output = w.output) :
    Grows 131 (n + 1) n W r cw tw xs w w2 := by
  obtain ⟨g, d', cap', h1, h2, h3, h4, h5, h6, h7, h8⟩ := h
  exact ⟨g, d', cap', h1, h2, h3.imp id (fun h => by omega), fun x hx a b => (h4 x (by omega) a b).trans (h0 x hx), by omega, h6.trans t0, h7.trans o0, h8.trans u0⟩
theorem len_calls (w : World) (W n : Nat) (h6 : w.cell? ⟨W, 6, none⟩ = some (.int .i64 n)) : Calls Tryz.prog 7 #[.pointer (some ⟨W, 2, none⟩)] w (fun e w' => e = .returned (.int .i64 n) ∧ w' = w) := by
  go_enter Tryz.func7, Tryz.ntmps7
  go_wp2
  go_ret
  exact ⟨rfl, rfl⟩
theorem make_calls (w : World) (W r d n cap Pr pd l pc : Nat) (cw : Array Value) (tw : TypeId) (xs : List Value)
    (hb : w.heap[W]? = some (.cells cw tw (0, 0))) (k2 : cw[2]? = some (.int .i64 0)) (k3 : cw[3]? = some (.int .i64 0)) (k4 : cw[4]? = some (.slice (some ⟨r, d, none⟩) n cap)) (k5 : cw[5]? = some (.slice none 0 0)) (k6 : cw[6]? = some (.int .i64 n))
    (k9 : cw[9]? = some (.slice (some ⟨Pr, pd, none⟩) l pc)) (hP : w.cell? ⟨Pr, pd, none⟩ = some (.int .i64 1)) (hl : 0 < l)
    (hWr : W ≠ r) (hn : n < 100000) (hown : RowAt w 131 11 r d n cap xs) :
    Calls Tryz.prog 8 #[.pointer (some ⟨W, 2, none⟩), .int .i64 0] w (fun e w' => e = .returned (.tuple #[.int .i64 ((n : Int) + 1), .int .i64 0]) ∧ Grows 131 (n + 1) n W r cw tw xs w w') := by
  have hW : W < w.heap.size := (Array.getElem?_eq_some_iff.1 hb).1
  have hnl : ¬ (100000 : Int) ≤ n := by omega
  have hl0 : (0 : Int) < l := by omega
  have c6 := (cell_blk hb 6).trans k6
  have past1 : ∀ (o : Obj), (w.alloc o).heap[W]? = some (.cells cw tw (0, 0)) := fun o => (halloc w o W hW).trans hb
  have past1d : ∀ (o : Obj), ((w.alloc o).drew).heap[W]? = some (.cells cw tw (0, 0)) := past1
  have rowd : ∀ o, RowAt ((w.alloc o).drew) 131 11 r d n cap xs := fun o => (hown.alloc o).same rfl
  have a9 := fun o => (cell_blk (past1 o) 9).trans k9
  have aP : ∀ o : Obj, (w.alloc o).cell? ⟨Pr, pd, none⟩ = some (.int .i64 1) := fun o => (World.cell?_alloc_past _ _ _ (World.block_lt_of_cell? w _ hP)).trans hP
  go_enter Tryz.func8, Tryz.ntmps8
  go_wp2_with fail
  refine (len_calls w W n c6).mono ?_
  rintro e w2 ⟨rfl, rfl⟩
  simp only []
  go_at_K
  iterate 3 (first | go_values | go_skip | go_guarded | go_step | go_upon)
  have hdec : decide ((100000 : Int) ≤ n) = false := decide_eq_false (by omega)
  rw [hdec]
  go_wp2
  go_region_with (go_simp; go_at_call 23; refine (add_calls _ W r d n cap cw tw xs _ rfl (past1d _) k2 k3 k4 k5 k6 hWr hn (rowd _)).mono ?_; rintro e w3 ⟨rfl, hg⟩; go_simp)
  all_goals
    go_wp2
    go_ret2
    refine ⟨rfl, grows_of hg ?_ ?_ ?_ ?_ ?_⟩
    · simp
    · intro k hk
      exact halloc _ _ k hk
    · rfl
    · rfl
    · rfl
end Go.Proofs.YtbckjaoljeimgaaGreatDoor
