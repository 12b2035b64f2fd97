/- PromisePlays: slots and jobs: steps of the program's heap and queue, on that state. -/
import Derived.Test.YtcceopgaiffkmaaGreatDoorPlA
import Derived.Test.YtcceopgaiffkmaaGreatDoorProg
import Derived.WalkKit
import Derived.WalkMore
import Derived.OwnWalk
import Derived.OneCell
import Derived.Lib.QuietBelow
import Derived.Deep.RegionWith
/- The arena's handles at the salt (4, 6), and where a record lies. -/
namespace Go.Proofs.YtcceopgaiffkmaaGreatDoor
open Go Go.RowKit Go.Pl
set_option maxRecDepth 100000
theorem i25 : (Tryz.prog.info? 25).map (·.size) = some 2 := by kernel_rfl
theorem norm46 (w : World) : Calls Tryz.prog 61 #[.agg #[.int .i64 4, .int .i64 6]] w (fun e w' => e = .returned (.agg #[.int .i64 4, .int .i64 6]) ∧ Below w.heap.size w w') := by
  go_enter Tryz.func61, Tryz.ntmps61
  go_wp2
  refine bodyPost_ret (results_cell_row rfl _ _ (w.heap.size + 1) 25 #[.int .i64 4, .int .i64 6] (0, 0) _ rfl (heap_alloc2_new _ _ _) Tryz.underlying25 rfl i25) rfl ?_
  exact ⟨rfl, (((Below.refl _ _).alloc (Nat.le_refl _) _).alloc (by simp) _)⟩
theorem handle46 (n : Nat) (w : World) (hn : n < 100000) : Calls Tryz.prog 37 #[.agg #[.int .i64 4, .int .i64 6], .int .i64 n] w (fun e w' => e = .returned (.int .i64 (4 + 6 * (n : Int))) ∧ Below w.heap.size w w') := by
  have h1 : ¬ ((n : Int) < 0) := by omega
  have h2 : ¬ ((2147483647 : Int) < n) := by omega
  go_enter Tryz.func37, Tryz.ntmps37
  go_wp2_with fail
  refine (norm46 _).mono ?_
  rintro e w2 ⟨rfl, hbel⟩
  go_wp2
  go_ret
  refine ⟨rfl, ?_⟩
  have h3 := (Below.refl w.heap.size w).alloc (Nat.le_refl _) (.cells #[.int .i64 4, .int .i64 6] 25)
  have h4 := h3.trans (hbel.mono (by simp))
  exact h4.alloc (Nat.le_trans (by simp) hbel.size) _
theorem index46 (n : Nat) (w : World) (hn : n < 100000) : Calls Tryz.prog 134 #[.agg #[.int .i64 4, .int .i64 6], .int .i64 (4 + 6 * (n : Int))] w (fun e w' => e = .returned (.int .i64 n) ∧ Below w.heap.size w w') := by
  have h1 : ¬ ((4 + 6 * (n : Int)) < 4) := by omega
  have h2 : (4 + 6 * (n : Int) - 4) % 6 = 0 := by omega
  have h3 : (4 + 6 * (n : Int) - 4) / 6 = n := by omega
  have h4 : ¬ ((2147483647 : Int) < n) := by omega
  go_enter Tryz.func134, Tryz.ntmps134
  go_wp2_with fail
  refine (norm46 _).mono ?_
  rintro e w2 ⟨rfl, hbel⟩
  go_wp2
  go_ret
  refine ⟨by show Ending.returned (Value.int IntKind.i64 ((4 + 6 * (n : Int) - 4) / 6)) = _; rw [h3], ?_⟩
  have g3 := (Below.refl w.heap.size w).alloc (Nat.le_refl _) (.cells #[.int .i64 4, .int .i64 6] 25)
  have g4 := g3.trans (hbel.mono (by simp))
  exact g4.alloc (Nat.le_trans (by simp) hbel.size) _
/-- the cells of the heap's box that a look-up reads -/
structure HB (w : World) (H g d n cap : Nat) (S : Nat → Nat → Value) : Prop where
  c0 : w.cell? ⟨H, 0, none⟩ = some (.int .i64 4)
  c1 : w.cell? ⟨H, 1, none⟩ = some (.int .i64 6)
  c2 : w.cell? ⟨H, 2, none⟩ = some (.slice (some ⟨g, d, none⟩) n cap)
  row : Row w tSlot 11 g d n cap S
theorem HB.below {w w' : World} {H g d n cap : Nat} {S : Nat → Nat → Value} (h : HB w H g d n cap S) (hb : Below w.heap.size w w') : HB w' H g d n cap S := by
  have key : ∀ k v, w.cell? ⟨H, k, none⟩ = some v → w'.cell? ⟨H, k, none⟩ = some v := fun k v hv => by
    rw [World.cell?_of_block (w := w) (hb.block _ (World.block_lt_of_cell? w _ hv))]
    exact hv
  exact ⟨key _ _ h.c0, key _ _ h.c1, key _ _ h.c2, h.row.same (hb.block _ h.row.lt)⟩
section
variable {w : World} {H g d n cap : Nat} {S : Nat → Nat → Value}
theorem find46 (h : HB w H g d n cap S) (i : Nat) (hi : i < n) (hn : n < 100000) (hu : S i 0 = .bool true) :
    Calls Tryz.prog 97 #[.pointer (some ⟨H, 0, none⟩), .int .i64 (4 + 6 * (i : Int))] w (fun e w' => e = .returned (.pointer (some ⟨g, d + i * 11, none⟩)) ∧ Below w.heap.size w w') := by
  have ⟨c0, c1, c2, row⟩ := h
  go_enter Tryz.func97, Tryz.ntmps97
  go_wp2_with fail
  refine (index46 i _ (by omega)).mono ?_
  rintro e w2 ⟨rfl, hbel⟩
  have ⟨b0, b1, b2, brow⟩ := h.below hbel
  have u0 := brow.cell0 hi (by decide)
  rw [hu] at u0
  clear c0 c1 c2 row brow
  go_wp2
  go_ret
  exact ⟨rfl, hbel⟩
theorem arenaAt (h : HB w H g d n cap S) (i : Nat) (hi : i < n) (hn : n < 100000) (hu : S i 0 = .bool true) :
    Calls Tryz.prog 75 #[.pointer (some ⟨H, 0, none⟩), .int .i64 (4 + 6 * (i : Int))] w (fun e w' => e = .returned (.pointer (some ⟨g, d + i * 11 + 1, none⟩)) ∧ Below w.heap.size w w') := by
  go_enter Tryz.func75, Tryz.ntmps75
  go_wp2_with fail
  refine (find46 h i hi hn hu).mono ?_
  rintro e w2 ⟨rfl, hbel⟩
  go_wp2
  go_ret
  exact ⟨rfl, hbel⟩
theorem heapAt (h : HB w H g d n cap S) (i : Nat) (hi : i < n) (hn : n < 100000) (hu : S i 0 = .bool true) :
    Calls Tryz.prog 52 #[.pointer (some ⟨H, 0, none⟩), .int .i64 (4 + 6 * (i : Int))] w (fun e w' => e = .returned (.pointer (some ⟨g, d + i * 11 + 1, none⟩)) ∧ Below w.heap.size w w') := by
  go_enter Tryz.func52, Tryz.ntmps52
  go_wp2_with fail
  refine (arenaAt h i hi hn hu).mono ?_
  rintro e w2 ⟨rfl, hbel⟩
  go_wp2
  go_ret
  exact ⟨rfl, hbel⟩
/-- a promise -/
theorem promAt (h : HB w H g d n cap S) (i : Nat) (hi : i < n) (hn : n < 100000) (hu : S i 0 = .bool true) (h6 : S i 1 = .int .i64 6) :
    Calls Tryz.prog 29 #[.pointer (some ⟨H, 0, none⟩), .agg #[.int .i64 5, .int .i64 0, .string ⟨#[]⟩, .int .i64 (4 + 6 * (i : Int))]] w (fun e w' => e = .returned (.pointer (some ⟨g, d + i * 11 + 1, none⟩)) ∧ Below w.heap.size w w') := by
  have hB := (Below.refl w.heap.size w).alloc (Nat.le_refl _) (.cells #[.int .i64 5, .int .i64 0, .string ⟨#[]⟩, .int .i64 (4 + 6 * (i : Int))] 38)
  have h' := h.below hB
  go_enter Tryz.func29, Tryz.ntmps29
  go_wp2_with fail
  refine (heapAt h' i hi hn hu).mono ?_
  rintro e w2 ⟨rfl, hbel⟩
  have u1 := (h'.below hbel).row.cell hi (show 1 < 11 by decide)
  rw [h6] at u1
  go_wp2
  go_ret
  exact ⟨rfl, hB.trans (hbel.mono (by simp))⟩
/-- no object -/
theorem promAtNo (k x y : Int) (s : ByteArray) (hk : k ≠ 5) (H : Nat) (w : World) :
    Calls Tryz.prog 29 #[.pointer (some ⟨H, 0, none⟩), .agg #[.int .i64 k, .int .i64 x, .string s, .int .i64 y]] w (fun e w' => e = .returned (.pointer none) ∧ Below w.heap.size w w') := by
  have hk' : (k == 5) = false := by simpa using hk
  go_enter Tryz.func29, Tryz.ntmps29
  go_wp2_with fail
  go_ret
  exact ⟨rfl, (Below.refl w.heap.size w).alloc (Nat.le_refl _) _⟩
/-- what is no object is not called, and not suspended -/
theorem callableNo (k x y : Int) (s : ByteArray) (hk : k ≠ 5) (H : Nat) (w : World) :
    Calls Tryz.prog 67 #[.pointer (some ⟨H, 0, none⟩), .agg #[.int .i64 k, .int .i64 x, .string s, .int .i64 y]] w (fun e w' => e = .returned (.bool false) ∧ Below w.heap.size w w') := by
  have hk' : (k == 5) = false := by simpa using hk
  go_enter Tryz.func67, Tryz.ntmps67
  go_wp2_with fail
  go_ret
  exact ⟨rfl, (Below.refl w.heap.size w).alloc (Nat.le_refl _) _⟩
theorem suspendedNo (k x y : Int) (s : ByteArray) (hk : k ≠ 5) (H : Nat) (w : World) :
    Calls Tryz.prog 68 #[.pointer (some ⟨H, 0, none⟩), .agg #[.int .i64 k, .int .i64 x, .string s, .int .i64 y]] w (fun e w' => e = .returned (.bool false) ∧ Below w.heap.size w w') := by
  have hk' : (k == 5) = false := by simpa using hk
  go_enter Tryz.func68, Tryz.ntmps68
  go_wp2_with fail
  go_ret
  exact ⟨rfl, (Below.refl w.heap.size w).alloc (Nat.le_refl _) _⟩
end
end Go.Proofs.YtcceopgaiffkmaaGreatDoor

/- The job of a reaction without handlers, and Push. -/
namespace Go.Proofs.YtcceopgaiffkmaaGreatDoor
open Go Go.RowKit Go.Pl
set_option maxRecDepth 100000
theorem i53 : (Tryz.prog.info? 53).map (·.size) = some 2 := by kernel_rfl
theorem i38 : (Tryz.prog.info? 38).map (·.size) = some 4 := by kernel_rfl
/-- twelve cells in a block: a job's values -/
def Trip (w : World) (r : Nat) (k n x : Int) (s : ByteArray) (k' n' x' : Int) (s' : ByteArray) (b : Bool) : Prop := w.heap[r]? = some (.cells #[.int .i64 k, .int .i64 n, .string s, .int .i64 x, .int .i64 k', .int .i64 n', .string s', .int .i64 x', .int .i64 2, .int .i64 (if b then 1 else 0), .string ⟨#[]⟩, .int .i64 0] tVal (0, 0))
theorem truth_calls (b : Bool) (w : World) : Calls Tryz.prog 90 #[.bool b] w (fun e w' => e = .returned (.agg #[.int .i64 2, .int .i64 (if b then 1 else 0), .string ⟨#[]⟩, .int .i64 0]) ∧ Below w.heap.size w w') := by
  cases b with
  | false =>
    simp only [Bool.false_eq_true, if_false]
    go_enter Tryz.func90, Tryz.ntmps90
    go_wp2
    refine bodyPost_ret (results_cell_row rfl _ _ w.heap.size 38 #[.int .i64 2, .int .i64 0, .string ⟨#[]⟩, .int .i64 0] (0, 0) _ rfl (hallocn _ _) Tryz.underlying38 rfl i38) rfl ?_
    exact ⟨rfl, (Below.refl w.heap.size w).alloc (Nat.le_refl _) _⟩
  | true =>
    simp only [if_true]
    go_enter Tryz.func90, Tryz.ntmps90
    go_wp2
    refine bodyPost_ret (results_cell_row rfl _ _ w.heap.size 38 #[.int .i64 2, .int .i64 1, .string ⟨#[]⟩, .int .i64 0] (0, 0) _ rfl (hallocn _ _) Tryz.underlying38 rfl i38) rfl ?_
    exact ⟨rfl, (Below.refl w.heap.size w).alloc (Nat.le_refl _) _⟩
set_option maxHeartbeats 1000000 in
theorem job_calls (H : Nat) (kd nd xd : Int) (sd : ByteArray) (kf nf xf : Int) (sf : ByteArray) (k n x : Int) (s : ByteArray) (k' n' x' : Int) (s' : ByteArray) (b : Bool) (hd : kd ≠ 5) (hf : kf ≠ 5) (w : World) :
    Calls Tryz.prog 66 #[.pointer (some ⟨H, 0, none⟩), .agg #[.int .i64 kd, .int .i64 nd, .string sd, .int .i64 xd], .agg #[.int .i64 kf, .int .i64 nf, .string sf, .int .i64 xf], .agg #[.int .i64 k, .int .i64 n, .string s, .int .i64 x], .int .i64 (if b then 2 else 1), .agg #[.int .i64 k', .int .i64 n', .string s', .int .i64 x']] w
      (fun e w' => ∃ r, e = .returned (.agg #[.int .i64 2, .slice (some ⟨r, 0, none⟩) 3 3]) ∧ w.heap.size ≤ r ∧ Trip w' r k n x s k' n' x' s' b ∧ Below w.heap.size w w') := by
  cases b with
  | false =>
    simp only [Bool.false_eq_true, if_false]
    go_enter Tryz.func66, Tryz.ntmps66
    go_wp2_with fail
    refine (truth_calls false _).mono ?_
    rintro e w2 ⟨rfl, hb2⟩
    simp only [Bool.false_eq_true, if_false]
    obtain ⟨g0, g1, g2, g3, g4, g5, hB, hz⟩ := boxes6 hb2
    clear hb2
    generalize e13 : w.heap.size + 1 + 1 + 1 + 1 + 1 = r13 at *
    generalize e12 : w.heap.size + 1 + 1 + 1 + 1 = r12 at *
    generalize e11 : w.heap.size + 1 + 1 + 1 = r11 at *
    generalize e9 : w.heap.size + 1 + 1 = r9 at *
    have l13 := blk_lt g5
    obtain ⟨a0, a1, a2, a3⟩ := cells4 g5
    go_wp2_with fail
    refine (callableNo kd nd xd sd hd H _).mono ?_
    rintro e w3 ⟨rfl, hb3⟩
    obtain ⟨h5, hB3, hz3⟩ := boxes1 hb3
    clear a0 a1 a2 a3
    obtain ⟨a0, a1, a2, a3⟩ := cells4 (keep hB3 g5)
    go_wp2_with fail
    refine (suspendedNo kd nd xd sd hd H _).mono ?_
    rintro e w4 ⟨rfl, hb4⟩
    have hB4 := below_then hB3 hb4
    clear a0 a1 a2 a3
    obtain ⟨a0, a1, a2, a3⟩ := cells4 (keep hB4 g2)
    obtain ⟨b0, b1, b2, b3⟩ := cells4 (keep hB4 g3)
    have h5' := keep hb4 h5
    obtain ⟨d0, d1, d2, d3⟩ := cells4 h5'
    have g12 := keep hB4 g4
    have c0 := cell_blk g12 0
    have c1 := cell_blk g12 1
    have f0 := frz_blk g12 0
    have f1 := frz_blk g12 1
    have l12 := blk_lt g12
    have lw := hB4.size
    go_wp2
    refine bodyPost_ret (results_cell_row rfl _ _ r12 53 #[.int .i64 2, .slice (some ⟨w4.heap.size, 0, none⟩) 3 3] (0, 0) _ rfl ?_ Tryz.underlying53 rfl i53) rfl ?_
    · exact (halloc _ _ _ (by simp; omega)).trans (heap_setCell_same _ r12 1 _ 53 _ (heap_setCell_same w4 r12 0 _ 53 _ g12))
    · refine ⟨w4.heap.size, rfl, by omega, ?_, ?_⟩
      · unfold Trip
        exact alloc_at (by simp)
      · have h12 : w.heap.size ≤ r12 := by omega
        exact below_alloc (below_set (below_set (below_then hB hB4) h12 _ _) h12 _ _) _
  | true =>
    simp only [if_true]
    go_enter Tryz.func66, Tryz.ntmps66
    go_wp2_with fail
    refine (truth_calls true _).mono ?_
    rintro e w2 ⟨rfl, hb2⟩
    simp only [if_true]
    obtain ⟨g0, g1, g2, g3, g4, g5, hB, hz⟩ := boxes6 hb2
    clear hb2
    generalize e13 : w.heap.size + 1 + 1 + 1 + 1 + 1 = r13 at *
    generalize e12 : w.heap.size + 1 + 1 + 1 + 1 = r12 at *
    generalize e11 : w.heap.size + 1 + 1 + 1 = r11 at *
    generalize e9 : w.heap.size + 1 + 1 = r9 at *
    have l13 := blk_lt g5
    obtain ⟨a0, a1, a2, a3⟩ := cells4 g5
    go_wp2_with fail
    refine (callableNo kf nf xf sf hf H _).mono ?_
    rintro e w3 ⟨rfl, hb3⟩
    obtain ⟨h5, hB3, hz3⟩ := boxes1 hb3
    clear a0 a1 a2 a3
    obtain ⟨a0, a1, a2, a3⟩ := cells4 (keep hB3 g5)
    go_wp2_with fail
    refine (suspendedNo kf nf xf sf hf H _).mono ?_
    rintro e w4 ⟨rfl, hb4⟩
    have hB4 := below_then hB3 hb4
    clear a0 a1 a2 a3
    obtain ⟨a0, a1, a2, a3⟩ := cells4 (keep hB4 g2)
    obtain ⟨b0, b1, b2, b3⟩ := cells4 (keep hB4 g3)
    have h5' := keep hb4 h5
    obtain ⟨d0, d1, d2, d3⟩ := cells4 h5'
    have g12 := keep hB4 g4
    have c0 := cell_blk g12 0
    have c1 := cell_blk g12 1
    have f0 := frz_blk g12 0
    have f1 := frz_blk g12 1
    have l12 := blk_lt g12
    have lw := hB4.size
    go_wp2
    refine bodyPost_ret (results_cell_row rfl _ _ r12 53 #[.int .i64 2, .slice (some ⟨w4.heap.size, 0, none⟩) 3 3] (0, 0) _ rfl ?_ Tryz.underlying53 rfl i53) rfl ?_
    · exact (halloc _ _ _ (by simp; omega)).trans (heap_setCell_same _ r12 1 _ 53 _ (heap_setCell_same w4 r12 0 _ 53 _ g12))
    · refine ⟨w4.heap.size, rfl, by omega, ?_, ?_⟩
      · unfold Trip
        exact alloc_at (by simp)
      · have h12 : w.heap.size ≤ r12 := by omega
        exact below_alloc (below_set (below_set (below_then hB hB4) h12 _ _) h12 _ _) _
end Go.Proofs.YtcceopgaiffkmaaGreatDoor

/- Push upon the queue of jobs. -/
namespace Go.Proofs.YtcceopgaiffkmaaGreatDoor
open Go Go.RowKit Go.Pl
set_option maxRecDepth 100000
theorem zinfo {t size : Nat} (h : ((Tryz.prog.info? t).bind (fun i => i.zero.map (fun z => decide (i.size = size ∧ i.bytes ≤ 1000 ∧ z.cells.size = size)))) = some true) : ∃ i0 z, Tryz.prog.info? t = some i0 ∧ i0.zero = some z ∧ i0.size = size ∧ i0.bytes ≤ 1000 ∧ z.cells.size = size := by
  cases hi : Tryz.prog.info? t with
  | none => rw [hi] at h; cases h
  | some i0 =>
    rw [hi] at h
    cases hz : i0.zero with
    | none => simp [hz] at h
    | some z =>
      simp only [Option.bind_some, hz, Option.map_some, Option.some.injEq, decide_eq_true_eq] at h
      exact ⟨i0, z, rfl, hz, h.1, h.2.1, h.2.2⟩
theorem z53 : ∃ i0 z, Tryz.prog.info? 53 = some i0 ∧ i0.zero = some z ∧ i0.size = 2 ∧ i0.bytes ≤ 1000 ∧ z.cells.size = 2 := zinfo (by kernel_rfl)
theorem grown_other {w w0 w1 : World} {J : Nat} {vI : Value} {a : Addr} {x : Value} (hg : w0.grownBy w1 vI.ownBlock) (ha : a.block = J) (h0 : w.heap.size ≤ w0.heap.size) (hb : ∀ k, k < w.heap.size → w0.heap[k]? = w.heap[k]?) (t0 : w0.tape = w.tape) (o0 : w0.os = w.os) (u0 : w0.output = w.output) :
    Only (fun r => r = J ∨ vI.ownBlock = some r) w (w1.setCell a x) := by
  refine ⟨hg.os.trans o0, hg.tape.trans t0, hg.output.trans u0, ?_, fun k hk hn => ?_⟩
  · have := hg.size
    simp
    omega
  · have hkJ : k ≠ J := fun h => hn (.inl h)
    rw [heap_setCell_other _ _ _ _ (by rw [ha]; exact hkJ), hg.block k (by omega) (fun h => hn (.inr h.symm)), hb k hk]
set_option maxHeartbeats 2000000 in
theorem push_calls (w : World) (J : Nat) (vI : Value) (tJ : TypeId) (L : Nat → Prop) (n : Nat) (I : Nat → Nat → Value) (k : Int) (r0 : Nat)
    (hJ : w.heap[J]? = some (.cells #[vI] tJ (0, 0))) (hI : Sl w L tJob 2 vI n I) (hL : ¬ L J) (hn : n < 100000) :
    Calls Tryz.prog 65 #[.pointer (some ⟨J, 0, none⟩), .agg #[.int .i64 k, .slice (some ⟨r0, 0, none⟩) 3 3]] w (fun e w' => e = .returned (.tuple #[]) ∧
      ∃ g d' cap', w'.heap[J]? = some (.cells #[.slice (some ⟨g, d', none⟩) (n + 1) cap'] tJ (0, 0)) ∧ Row w' tJob 2 g d' (n + 1) cap' (app 2 n I [.int .i64 k, .slice (some ⟨r0, 0, none⟩) 3 3]) ∧ ((L g ∧ g < w.heap.size) ∨ w.heap.size ≤ g) ∧ Only (fun r => r = J ∨ vI.ownBlock = some r) w w') := by
  have lJ := blk_lt hJ
  obtain ⟨i0, z, hi, hz0, hz1, hz2, hz3⟩ := z53
  have past1 : ∀ o : Obj, (w.alloc o).heap[J]? = some (.cells #[vI] tJ (0, 0)) := fun o => (halloc w o J lJ).trans hJ
  have past2 : ∀ o o2 : Obj, (((w.alloc o).alloc o2).drew).heap[J]? = some (.cells #[vI] tJ (0, 0)) := fun o o2 => (halloc (w.alloc o) o2 J (by simp; omega)).trans (past1 o)
  have a0 : ∀ o : Obj, (w.alloc o).cell? ⟨J, 0, none⟩ = some vI := fun o => cell_blk (past1 o) 0
  have b0 : ∀ o o2 : Obj, (((w.alloc o).alloc o2).drew).cell? ⟨J, 0, none⟩ = some vI := fun o o2 => cell_blk (past2 o o2) 0
  have hsl : ∀ o o2 : Obj, Sl (((w.alloc o).alloc o2).drew) L tJob 2 vI n I := fun o o2 => hI.same (fun r hr _ => (halloc (w.alloc o) o2 r (by simp; omega)).trans (halloc w o r hr)) fun _ _ h => h
  have hsrc : ∀ o : Obj, Src Tryz.prog 2 33 (.slice (some ⟨w.heap.size + 1, 0, none⟩) 1 1) 1 [.int .i64 k, .slice (some ⟨r0, 0, none⟩) 3 3] (((w.alloc o).alloc (.cells #[.int .i64 k, .slice (some ⟨r0, 0, none⟩) 3 3] 53)).drew) := fun o => by
    refine Src.ofSlice (e' := 53) _ Tryz.underlying33 _ 1 1 _ rfl (World.news_of_block (cs := #[.int .i64 k, .slice (some ⟨r0, 0, none⟩) 3 3]) (t := 53) (fr := (0, 0)) ?_) (by simp [Value.oneCell'])
    show ((w.heap.push o).push _)[w.heap.size + 1]? = _
    rw [Array.getElem?_push, if_pos (by simp)]
  have hown : vI.ownBlock ≠ some J := fun h => hL (hI.own h).1
  have hbl : ∀ (o o2 : Obj) (w1 : World), (((w.alloc o).alloc o2).drew).grownBy w1 vI.ownBlock → w1.heap[J]? = some (.cells #[vI] tJ (0, 0)) := fun o o2 w1 hg => (hg.block J (by simp; omega) (fun h => hown h.symm)).trans (past2 o o2)
  go_enter Tryz.func65, Tryz.ntmps65
  go_wp2
  go_region_law (refine step_append_sl _ rfl (.tmp 8) (.tmp 10) 33 33 rfl 53 i0 z 2 i0.bytes Tryz.underlying33 hi hz0 hz1 rfl hz3 L vI n I (by simp [Act.eval]) (hsl _ _) _ 1 _ (by simp [Act.eval]) (hsrc _) (by omega) (by omega) hz2 _ rfl ?_; intro g d' cap' w1 hrow hgrow hat; have hb1 := hbl _ _ _ hgrow; have c0 := cell_blk hb1 0; have f0 := frz_blk hb1 0)
  all_goals
    go_end0
    have hgJ : g ≠ J := by
      rcases hat with ⟨_, h⟩ | h
      · exact fun he => hL (he ▸ h)
      · rw [h]; simp; omega
    refine ⟨rfl, g, d', cap', heap_setCell_same w1 J 0 _ _ _ hb1, hrow.far _ _ hgJ, ?_, grown_other hgrow rfl (by simp; omega) (fun k hk => (halloc (w.alloc _) _ k (by simp; omega)).trans (halloc w _ k hk)) rfl rfl rfl⟩
    rcases hat with ⟨h1, h2⟩ | h
    · exact .inl ⟨h2, (hI.own h1).2⟩
    · exact .inr (by rw [h]; simp; omega)
end Go.Proofs.YtcceopgaiffkmaaGreatDoor

/- What the program's writes make of the state. -/
namespace Go.Pl
open Go.RowKit
def up (lab : Nat → Lab) (g : Nat) (l : Lab) : Nat → Lab := fun r => if r = g then l else lab r
def jbS (r : Nat) : Nat → Value := fun c => match c with | 0 => .int .i64 2 | _ => .slice (some ⟨r, 0, none⟩) 3 3
section
variable {lab lab' : Nat → Lab} {K K' : PK} {w w2 : World} {A : Ab}
theorem JbOk.congr {s s' : Nat → Value} {N : Nat} {j : Jb} (h : JbOk lab K w s N j) (h0 : s' 0 = s 0) (h1 : s' 1 = s 1) : JbOk lab K w s' N j := by
  obtain ⟨a, b, c, r, d, e, f, g⟩ := h
  exact ⟨h0.trans a, b, c, r, d, e, h1.trans f, g⟩
theorem PmOk.congr {s s' : Nat → Value} {p N : Nat} {x : Pm} (h : PmOk lab K w s p N x) (h' : ∀ c, c < 11 → s' c = s c) : PmOk lab K w s' p N x := by
  unfold PmOk at h ⊢
  rw [h' 0 (by decide), h' 1 (by decide), h' 5 (by decide), h' 6 (by decide), h' 8 (by decide)]
  exact h
theorem up_lt {g r : Nat} {l : Lab} (hr : lab g = l ∨ r ≠ g) : up lab g l r = lab r := by
  unfold up
  split
  · rename_i h
    rcases hr with h2 | h2
    · rw [h, h2]
    · exact absurd h h2
  · rfl
theorem up_same (g : Nat) (l : Lab) : up lab g l g = l := by simp [up]
/-- who changes is no immutable block -/
theorem PS.push (h : PS lab K w A) {j : Jb} {r : Nat} (hj : JbOk lab K w (jbS r) A.N j) {g d' cap' : Nat}
    (hJ : w2.heap[K.J]? = some (.cells #[.slice (some ⟨g, d', none⟩) (A.jobs.length + 1) cap'] tJobs (0, 0)))
    (hrow : Row w2 tJob 2 g d' (A.jobs.length + 1) cap' (app 2 A.jobs.length K.I [.int .i64 2, .slice (some ⟨r, 0, none⟩) 3 3]))
    (hg : (lab g = .items ∧ g < w.heap.size) ∨ w.heap.size ≤ g) (hO : Only (fun x => x = K.J ∨ K.vI.ownBlock = some x) w w2) :
    ∃ lab' K', PS lab' K' w2 (A.push j) ∧ Ext lab K w lab' K' w2 A.N := by
  have hlab : ∀ r, r < w.heap.size → up lab g .items r = lab r := fun r hr => up_lt (by
    rcases hg with h | h
    · exact .inl h.1
    · right; omega)
  have keep : ∀ r, r < w.heap.size → lab r ≠ .jj → lab r ≠ .items → w2.heap[r]? = w.heap[r]? := fun r hr h1 h2 => hO.block r hr (by
    rintro (he | he)
    · exact h1 (he ▸ h.lJ)
    · exact h2 (h.it.own he).1)
  have hl : Lt lab K w (up lab g .items) { K with vI := .slice (some ⟨g, d', none⟩) (A.jobs.length + 1) cap', I := app 2 A.jobs.length K.I [.int .i64 2, .slice (some ⟨r, 0, none⟩) 3 3] } w2 A.N :=
    ⟨hO.size, hlab, fun r hr hi => keep r hr (by rw [hi]; intro h; cases h) (by rw [hi]; intro h; cases h), Nat.le_refl _, fun _ _ _ _ => rfl, fun _ _ => rfl⟩
  refine ⟨up lab g .items, _, ?_, hl, rfl, rfl, rfl, fun r hr ho => keep r hr (by rcases ho with h | h | h <;> rw [h] <;> (intro h; cases h)) (by rcases ho with h | h | h <;> rw [h] <;> (intro h; cases h))⟩
  have blH := blk_lt h.hH
  have blg := h.row.lt
  have fH := keep K.H blH (by rw [h.lH]; intro h; cases h) (by rw [h.lH]; intro h; cases h)
  have fg := keep K.g blg (by rw [h.lg]; intro h; cases h) (by rw [h.lg]; intro h; cases h)
  have hn0 : ∀ r, r < K.w0.heap.size → r < w.heap.size := fun r hr => Nat.lt_of_lt_of_le hr h.bel.size
  have nw : ∀ r, w2.heap.size ≤ r → up lab g .items r = .imm := fun r hr => by
    have := hO.size
    have := hrow.lt
    rw [up_lt (.inr (by omega))]
    exact h.new r (by omega)
  refine ⟨fH.trans h.hH, hl.cell h.lP h.c6, hl.cell h.lP h.c11, hJ, h.row.same fg, (hlab _ blH).trans h.lH, (hlab _ (blk_lt h.hJ)).trans h.lJ, (hlab _ blg).trans h.lg, hl.lab_imm h.lP h.c6, nw, fun r hr => (hlab r (hn0 r hr)).trans (h.bas r hr), ?_, h.slt, h.inj, fun p hp => ?_, ?_, fun k j' hk => ?_, h.eob⟩
  · exact ⟨hO.os.trans h.bel.os, hO.tape.trans h.bel.tape, hO.output.trans h.bel.output, Nat.le_trans h.bel.size hO.size, fun k hk => (keep k (hn0 k hk) (by rw [h.bas k hk]; intro h; cases h) (by rw [h.bas k hk]; intro h; cases h)).trans (h.bel.block k hk)⟩
  · exact hl.pm (Nat.le_refl _) (fun r hr hd => keep r hr (by rw [hd]; intro h; cases h) (by rw [hd]; intro h; cases h)) (h.pm p hp)
  · show Sl w2 _ tJob 2 _ (A.jobs ++ [j]).length _
    rw [List.length_append]
    exact .inr ⟨g, d', cap', rfl, up_same g _, hrow⟩
  · have hk : (A.jobs ++ [j])[k]? = some j' := hk
    by_cases hlt : k < A.jobs.length
    · rw [List.getElem?_append_left hlt] at hk
      refine (hl.jb (Nat.le_refl _) (h.jb k j' hk)).congr ?_ ?_ <;> simp [app, hlt]
    · rw [List.getElem?_append_right (by omega)] at hk
      obtain rfl : k = A.jobs.length := by
        have := (List.getElem?_eq_some_iff.1 hk).1
        simp at this
        omega
      rw [Nat.sub_self] at hk
      obtain rfl : j = j' := Option.some.inj hk
      refine (hl.jb (Nat.le_refl _) hj).congr ?_ ?_ <;> simp [app, jbS]
theorem PS.slot (h : PS lab K w A) {p : Nat} (hp : p < A.N) {x : Pm} {S' : Nat → Nat → Value} (hlab : ∀ r, r < w.heap.size → lab' r = lab r) (hnew : ∀ r, w2.heap.size ≤ r → lab' r = .imm) (hO : Only (fun r => r = K.g ∨ lab r = .dat p) w w2)
    (hrow : Row w2 tSlot 11 K.g K.d K.n K.cap S') (hS : ∀ i c, i ≠ K.sl p → S' i c = K.S i c)
    (hx : Lt lab K w lab' { K with S := S' } w2 A.N → PmOk lab' { K with S := S' } w2 (S' (K.sl p)) p A.N x) : PS lab' { K with S := S' } w2 (A.put p x) ∧ Ext lab K w lab' { K with S := S' } w2 A.N := by
  have keep : ∀ r, r < w.heap.size → lab r ≠ .slots → lab r ≠ .dat p → w2.heap[r]? = w.heap[r]? := fun r hr h1 h2 => hO.block r hr (by
    rintro (he | he)
    · exact h1 (he ▸ h.lg)
    · exact h2 he)
  have hl : Lt lab K w lab' { K with S := S' } w2 A.N := ⟨hO.size, hlab, fun r hr hi => keep r hr (by rw [hi]; intro h; cases h) (by rw [hi]; intro h; cases h), Nat.le_refl _, fun e _ h1 c => hS e c (fun he => by
    rw [he, (h.pm p hp).2.1] at h1
    cases h1), fun _ _ => rfl⟩
  have hn0 : ∀ r, r < K.w0.heap.size → r < w.heap.size := fun r hr => Nat.lt_of_lt_of_le hr h.bel.size
  have blH := blk_lt h.hH
  have blJ := blk_lt h.hJ
  refine ⟨⟨(keep K.H blH (by rw [h.lH]; intro h; cases h) (by rw [h.lH]; intro h; cases h)).trans h.hH, hl.cell h.lP h.c6, hl.cell h.lP h.c11, (keep K.J blJ (by rw [h.lJ]; intro h; cases h) (by rw [h.lJ]; intro h; cases h)).trans h.hJ, hrow,
    (hlab _ blH).trans h.lH, (hlab _ blJ).trans h.lJ, (hlab _ h.row.lt).trans h.lg, hl.lab_imm h.lP h.c6, hnew, fun r hr => (hlab r (hn0 r hr)).trans (h.bas r hr), ?_, h.slt, h.inj, fun q hq => ?_, ?_, fun k j hk => hl.jb (Nat.le_refl _) (h.jb k j hk), h.eob⟩,
    hl, rfl, rfl, rfl, fun r hr ho => keep r hr (by rcases ho with h | h | h <;> rw [h] <;> (intro h; cases h)) (by rcases ho with h | h | h <;> rw [h] <;> (intro h; cases h))⟩
  · exact ⟨hO.os.trans h.bel.os, hO.tape.trans h.bel.tape, hO.output.trans h.bel.output, Nat.le_trans h.bel.size hO.size, fun k hk => (keep k (hn0 k hk) (by rw [h.bas k hk]; intro h; cases h) (by rw [h.bas k hk]; intro h; cases h)).trans (h.bel.block k hk)⟩
  · show PmOk lab' _ w2 (S' (K.sl q)) q A.N (if q = p then x else A.pr q)
    by_cases hqp : q = p
    · subst hqp
      rw [if_pos rfl]
      exact hx hl
    · rw [if_neg hqp]
      have hne : K.sl q ≠ K.sl p := fun he => hqp (h.inj q p hq hp he)
      exact (hl.pm (Nat.le_refl _) (fun r hr hd => keep r hr (by rw [hd]; intro h; cases h) (by rw [hd]; intro h; injection h with h; exact hqp h)) (h.pm q hq)).congr fun c _ => hS _ c hne
  · exact h.it.same (fun r hr he => keep r hr (by rw [he]; intro h; cases h) (by rw [he]; intro h; cases h)) (fun r hr he => (hlab r hr).trans he)
end
end Go.Pl
