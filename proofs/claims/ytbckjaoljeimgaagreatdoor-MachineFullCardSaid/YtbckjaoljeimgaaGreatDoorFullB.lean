/- The arena's Add at the salt 0, with no free slot: the row of slots is longer by one. -/
import Derived.Test.YtbckjaoljeimgaaGreatDoorFullA
import Derived.Test.YtbckjaoljeimgaaGreatDoorEvO
import Derived.Deep.RegionLaw
import Derived.Deep.AppendLies
namespace Go.Proofs.YtbckjaoljeimgaaGreatDoor
open Go Go.RowKit Go.Ev
set_option maxRecDepth 100000
theorem info131 : ∃ i0 z, Tryz.prog.info? 131 = some i0 ∧ i0.zero = some z ∧ i0.size = 11 ∧ i0.bytes ≤ 1000 ∧ z.cells.size = 11 := by
  have h : ((Tryz.prog.info? 131).bind (fun i => i.zero.map (fun z => decide (i.size = 11 ∧ i.bytes ≤ 1000 ∧ z.cells.size = 11)))) = some true := by kernel_rfl
  cases hi : Tryz.prog.info? 131 with
  | none => rw [hi] at h; cases h
  | some i0 =>
    rw [hi] at h
    cases hz : i0.zero with
    | none => simp [hz] at h
    | some z =>
      simp only [Option.bind_some, hz, Option.map_some, Option.some.injEq, decide_eq_true_eq] at h
      exact ⟨i0, z, rfl, hz, h.1, h.2.1, h.2.2⟩
theorem cell_blk {w : World} {W : Nat} {cw : Array Value} {tw : TypeId} (h : w.heap[W]? = some (.cells cw tw (0, 0))) (k : Nat) : w.cell? ⟨W, k, none⟩ = cw[k]? := by
  simp [World.cell?, h]
theorem frz_blk {w : World} {W : Nat} {cw : Array Value} {tw : TypeId} (h : w.heap[W]? = some (.cells cw tw (0, 0))) (k : Nat) : w.frozen? ⟨W, k, none⟩ = false := by
  simp [World.frozen?, h]
theorem grows_end {w w0 w1 w2 : World} {W r g d' cap' n : Nat} {cw : Array Value} {tw : TypeId} {xs : List Value} (hs : w.heap.size ≤ w0.heap.size) (h0 : ∀ k, k < w.heap.size → w0.heap[k]? = w.heap[k]?) (t0 : w0.tape = w.tape) (o0 : w0.os = w.os) (u0 : w0.output = w.output)
    (hg : w0.grownBy w1 (some r)) (hb1 : w1.heap[W]? = some (.cells cw tw (0, 0))) (hown : RowAt w1 131 11 g d' (n + 1) cap' (xs ++ fillV)) (hgr : g = r ∨ w.heap.size ≤ g) (hWr : W ≠ r) (hW : W < w.heap.size)
    (hbel : Below ((w1.setCell ⟨W, 4, none⟩ (.slice (some ⟨g, d', none⟩) (n + 1) cap')).setCell ⟨W, 6, none⟩ (.int .i64 ((n : Int) + 1))).heap.size ((w1.setCell ⟨W, 4, none⟩ (.slice (some ⟨g, d', none⟩) (n + 1) cap')).setCell ⟨W, 6, none⟩ (.int .i64 ((n : Int) + 1))) w2) :
    Grows 131 (n + 1) n W r cw tw xs w w2 := by
  have hW1 : W < w1.heap.size := (Array.getElem?_eq_some_iff.1 hb1).1
  have hg1 := hown.lt
  have hgW : g ≠ W := by rcases hgr with h | h <;> omega
  have sz : ((w1.setCell ⟨W, 4, none⟩ (.slice (some ⟨g, d', none⟩) (n + 1) cap')).setCell ⟨W, 6, none⟩ (.int .i64 ((n : Int) + 1))).heap.size = w1.heap.size := by simp
  have out : ∀ k, k ≠ W → k < w1.heap.size → w2.heap[k]? = w1.heap[k]? := fun k hk hl => by
    rw [hbel.block k (by rw [sz]; exact hl), heap_setCell_other _ _ _ _ hk, heap_setCell_other _ _ _ _ hk]
  have s1 : w.heap.size ≤ w1.heap.size := Nat.le_trans hs hg.size
  refine ⟨g, d', cap', ?_, ?_, hgr, fun x hx h1 h2 => ?_, ?_, ?_, ?_, ?_⟩
  · have e : n + 1 - n = 1 := by omega
    rw [e]
    have e2 : fills 1 = fillV := by simp [fills]
    rw [e2]
    exact hown.same (out g hgW hg1)
  · rw [hbel.block W (by rw [sz]; exact hW1)]
    have := heap_setCell_same _ W 6 _ tw (.int .i64 ((n : Int) + 1)) (heap_setCell_same w1 W 4 cw tw (.slice (some ⟨g, d', none⟩) (n + 1) cap') hb1)
    rw [this]
    rfl
  · rw [out x h1 (by omega), hg.block x (by omega) (fun h => h2 (Option.some.inj h)), h0 x hx]
  · have := hbel.size; rw [sz] at this; omega
  · rw [hbel.tape]; exact hg.tape.trans t0
  · rw [hbel.os]; exact hg.os.trans o0
  · rw [hbel.output]; exact hg.output.trans u0
theorem add_calls (w : World) (W r d n cap : Nat) (cw : Array Value) (tw : TypeId) (xs : List Value) (x : Value) (hx : x = .agg #[.int .i64 0, .int .i64 1, .slice none 0 0, .slice none 0 0, .slice none 0 0, .int .i64 0, .int .i64 0, .int .i64 0, .int .i64 0, .slice none 0 0])
    (hb : w.heap[W]? = some (.cells cw tw (0, 0))) (k2 : cw[2]? = some (.int .i64 0)) (k3 : cw[3]? = some (.int .i64 0)) (k4 : cw[4]? = some (.slice (some ⟨r, d, none⟩) n cap)) (k5 : cw[5]? = some (.slice none 0 0)) (k6 : cw[6]? = some (.int .i64 n))
    (hWr : W ≠ r) (hn : n < 100000) (hown : RowAt w 131 11 r d n cap xs) :
    Calls Tryz.prog 23 #[.pointer (some ⟨W, 2, none⟩), x] w (fun e w' => e = .returned (.int .i64 ((n : Int) + 1)) ∧ Grows 131 (n + 1) n W r cw tw xs w w') := by
  subst hx
  have hW : W < w.heap.size := (Array.getElem?_eq_some_iff.1 hb).1
  have past1 : ∀ (o : Obj), (w.alloc o).heap[W]? = some (.cells cw tw (0, 0)) := fun o => (halloc w o W hW).trans hb
  have past2 : ∀ (o o2 : Obj), (((w.alloc o).alloc o2).drew).heap[W]? = some (.cells cw tw (0, 0)) := fun o o2 => (halloc (w.alloc o) o2 W (by simp; omega)).trans (past1 o)
  have a4 := fun o => (cell_blk (past1 o) 4).trans k4
  have a5 := fun o => (cell_blk (past1 o) 5).trans k5
  have b2 := fun o o2 => (cell_blk (past2 o o2) 2).trans k2
  have b3 := fun o o2 => (cell_blk (past2 o o2) 3).trans k3
  have b4 := fun o o2 => (cell_blk (past2 o o2) 4).trans k4
  have b6 := fun o o2 => (cell_blk (past2 o o2) 6).trans k6
  have bf4 := fun o o2 => frz_blk (past2 o o2) 4
  have bf6 := fun o o2 => frz_blk (past2 o o2) 6
  obtain ⟨i0, z, hi, hz0, hz1, hz2, hz3⟩ := info131
  have hnews : ∀ (o o2 : Obj), o2 = .cells fillV.toArray 131 → ∀ j u, fillV[j]? = some u → (((w.alloc o).alloc o2).drew).cell? ((⟨w.heap.size + 1, 0, none⟩ : Addr).add j) = some u := fun o o2 h => by
    subst h
    refine World.news_of_block (cs := fillV.toArray) (t := 131) (fr := (0, 0)) ?_
    show ((w.heap.push o).push _)[w.heap.size + 1]? = _
    rw [Array.getElem?_push, if_pos (by simp)]
  have hlt2 : ∀ o o2 : Obj, W < (((w.alloc o).alloc o2).drew).heap.size := fun o o2 => by simp; omega
  have hne : (some W : Option Nat) ≠ some r := fun h => hWr (Option.some.inj h)
  go_enter Tryz.func23, Tryz.ntmps23
  go_wp2
  go_region_law (refine step_append_any _ rfl (.tmp 49) (.tmp 52) 28 rfl 131 i0 z 11 i0.bytes Tryz.underlying28 hi hz0 hz1 rfl hz3 r d n cap xs (by simp [Act.eval]) (((hown.alloc _).alloc _).same rfl) ⟨w.heap.size + 1, 0, none⟩ 1 1 fillV (by simp [Act.eval]) rfl (hnews _ _ rfl) (by decide) (by omega) hz2 _ rfl ?_; intro g d' cap' w1 hown1 hgrow1 hat1; have hb1 := (hgrow1.block W (hlt2 _ _) hne).trans (past2 _ _); have c2 := (cell_blk hb1 2).trans k2; have c3 := (cell_blk hb1 3).trans k3; have c4 := (cell_blk hb1 4).trans k4; have c6 := (cell_blk hb1 6).trans k6; have f4 := frz_blk hb1 4; have f6 := frz_blk hb1 6)
  all_goals (go_wp2_with fail; refine (handle0 n _ hn).mono ?_; rintro e w2 ⟨rfl, hbel⟩; go_wp2; go_ret)
  all_goals
    refine ⟨rfl, grows_end ?_ ?_ ?_ ?_ ?_ hgrow1 hb1 hown1 ?_ hWr hW hbel⟩
    · simp; omega
    · intro k hk
      exact (halloc (w.alloc _) _ k (by simp; omega)).trans (halloc w _ k hk)
    · rfl
    · rfl
    · rfl
    · rcases hat1 with h | h
      · exact .inl h
      · exact .inr (by rw [h]; simp; omega)
end Go.Proofs.YtbckjaoljeimgaaGreatDoor
