/- PromisePlays: the reference's Wait, Reject and Resolve, walked. Condition: the bounds that each theorem names. -/
import Derived.Test.YtcceopgaiffkmaaGreatDoorRfB
/- The reference's Wait. -/
namespace Go.Proofs.YtcceopgaiffkmaaGreatDoor
open Go Go.RowKit Go.Pl
set_option maxRecDepth 100000
section
variable {lab : Nat → Lab} {K : RK} {w : World} {A : Ab}
theorem RS.ob (hP : RS lab K w A) (n : Nat) : RS lab K w { A with ob := n } := ⟨hP.hR, hP.lR, hP.L, hP.pm, hP.J, hP.jb, hP.new⟩
theorem below_grown {n e : Nat} {w0 W w2 : World} (h : Below n w0 W) (hg : W.grownBy w2 (some e)) (he : n ≤ e) (hn : n ≤ W.heap.size) : Below n w0 w2 :=
  ⟨hg.os.trans h.os, hg.tape.trans h.tape, hg.output.trans h.output, Nat.le_trans h.size hg.size, fun k hk => (hg.block k (by omega) (fun h => by have h : k = e := Option.some.inj h; omega)).trans (h.block k hk)⟩
theorem blk_grown {e x : Nat} {o : Obj} {W w2 : World} (hg : W.grownBy w2 (some e)) (hx : W.heap[x]? = some o) (hne : x ≠ e) : w2.heap[x]? = some o :=
  (hg.block x (blk_lt hx) (fun h => hne (Option.some.inj h))).trans hx
theorem ge_of {g e n x : Nat} (h : (g = e ∧ n ≤ g) ∨ g = x) (hx : n ≤ x) : n ≤ g := by
  rcases h with ⟨h, k⟩ | h <;> omega
theorem wsf_app (ws : List Nat) (q : Nat) (f0 : Nat → Nat → Value) (i c : Nat) (hi : i < ws.length + 1) (hc : c < 1) : wsf (ws ++ [q]) i c = app 1 ws.length (app 1 0 f0 (flat 1 ws.length (wsf ws))) [.int .i64 ((q : Int) + 1)] i c := by
  obtain rfl : c = 0 := by omega
  by_cases h : i < ws.length
  · have e1 : app 1 ws.length (app 1 0 f0 (flat 1 ws.length (wsf ws))) [.int .i64 ((q : Int) + 1)] i 0 = app 1 0 f0 (flat 1 ws.length (wsf ws)) i 0 := by simp only [app]; rw [if_pos h]
    rw [e1, app_flat 1 ws.length f0 (wsf ws) i 0 h (by decide)]
    simp [wsf, List.getElem?_append_left h]
  · obtain rfl : i = ws.length := by omega
    simp [wsf, app]
theorem rwait_store {lab : Nat → Lab} {K : RK} {wr w3 : World} {A : Ab} (hP : RS lab K wr A) {p : Nat} (hp : p < A.N) (q : Nat) (hst : (A.pr p).st = 0) {g d cp : Nat} (hv : K.vL = .slice (some ⟨g, d, none⟩) A.N cp) (hg : lab g = .rl) (hrow : Row wr tPm 7 g d A.N cp K.Lf) (hC : Below wr.heap.size wr w3) {g3 d3 c3 : Nat} {f0 : Nat → Nat → Value} (h3 : Row w3 tInt 1 g3 d3 ((A.pr p).ws.length + 1) c3 (app 1 (A.pr p).ws.length (app 1 0 f0 (flat 1 (A.pr p).ws.length (wsf (A.pr p).ws))) [.int .i64 ((q : Int) + 1)])) (hg3 : wr.heap.size ≤ g3) :
    ∃ lab' K', RS lab' K' (w3.setCell ⟨g, d + p * 7 + 6, none⟩ (.slice (some ⟨g3, d3, none⟩) ((A.pr p).ws.length + 1) c3)) (A.wait p q) ∧ RExt lab K wr lab' K' (w3.setCell ⟨g, d + p * 7 + 6, none⟩ (.slice (some ⟨g3, d3, none⟩) ((A.pr p).ws.length + 1) c3)) := by
  have hw : A.wait p q = A.put p { A.pr p with ws := (A.pr p).ws ++ [q] } := by simp [Ab.wait, hst]
  rw [hw]
  obtain ⟨a0, a1, a5, _⟩ := hP.pm p hp
  have hl := hrow.lt
  have h1 := (hrow.same (hC.block g hl)).set hp (show 6 < 7 by decide) (.slice (some ⟨g3, d3, none⟩) ((A.pr p).ws.length + 1) c3)
  obtain ⟨x, y⟩ := hP.setL (lab' := lab) hp (x := { A.pr p with ws := (A.pr p).ws ++ [q] }) hv hg (fun _ _ => rfl) (fun r hr => hP.new r (Nat.le_trans hC.size (by simpa using hr))) (onlyset (M := fun r => r = g) (Only.of_below hC) rfl _ _) h1 (fun i c hne => by simp [hne]) (by
    refine ⟨by simp [a0], fun i hi => ?_, by simp [a5], .inr ⟨g3, d3, c3, by simp, hP.new _ hg3, ?_⟩⟩
    · have : ¬ (1 + i = 6) := by omega
      simp [this, a1 i hi]
    · have e : ((A.pr p).ws ++ [q]).length = (A.pr p).ws.length + 1 := by simp
      show Row _ tInt 1 g3 d3 ((A.pr p).ws ++ [q]).length c3 _
      rw [e]
      exact (h3.far _ _ (by show g3 ≠ g; omega)).eqf fun i c hi hc => wsf_app _ _ _ i c hi hc)
  exact ⟨lab, _, x, y⟩
theorem z3w : ∃ i0 z, Tryz.prog.info? 3 = some i0 ∧ i0.zero = some z ∧ i0.size = 1 ∧ i0.bytes ≤ 1000 ∧ z.cells.size = 1 := z3
set_option maxHeartbeats 8000000 in
theorem rwait_calls (hP : RS lab K w A) {p q : Nat} (hp : p < A.N) (hws : (A.pr p).ws.length ≤ 1000) (hjs : A.jobs.length ≤ 50000) (hNb : A.N ≤ 1000) :
    Calls Tryz.prog 27 #[.pointer (some ⟨K.R, 0, none⟩), .int .i64 ((p : Int) + 1), .int .i64 ((q : Int) + 1)] w
      (fun e w' => e = .returned (.tuple #[]) ∧ ∃ lab' K', RS lab' K' w' (A.wait p q) ∧ RExt lab K w lab' K' w') := by
  obtain ⟨g, d, cp, hv, hLg, hrow⟩ := hP.L.pos (by omega)
  have hpm := hP.pm p hp
  obtain ⟨a0, a1, a5, a6⟩ := hpm
  obtain ⟨ao, cs, hsv⟩ := a6.form
  have c0 : w.cell? ⟨K.R, 0, none⟩ = some K.vL := cell_blk hP.hR 0
  rw [hv] at c0
  have x0 := hrow.cell0 hp (by decide)
  have x1 := hrow.cell hp (show 1 < 7 by decide)
  have x2 := hrow.cell hp (show 2 < 7 by decide)
  have x3 := hrow.cell hp (show 3 < 7 by decide)
  have x4 := hrow.cell hp (show 4 < 7 by decide)
  have x5 := hrow.cell hp (show 5 < 7 by decide)
  have x6 := hrow.cell hp (show 6 < 7 by decide)
  rw [a0] at x0
  rw [a1 0 (by decide), rv0] at x1
  rw [a1 1 (by decide), rv1] at x2
  rw [a1 2 (by decide), rv2] at x3
  rw [a1 3 (by decide), rv3] at x4
  rw [a5] at x5
  rw [hsv] at x6
  have iw : IntKind.i64.wrap ((p : Int) + 1 - 1) = p := by rw [IntWalk.i64_in _ (by omega)]; omega
  have iw2 : IntKind.i64.wrap (p : Int) = p := IntWalk.i64_in _ (by omega)
  have i0 : (0 : Int) ≤ p := by omega
  have ip : (p : Int) < A.N := by omega
  by_cases hst : (A.pr p).st = 0
  · replace x0 : w.cell? ⟨g, d + p * 7, none⟩ = some (.int .i64 0) := by rw [x0, hst]; rfl
    have hB := (Below.refl w.heap.size w).alloc (Nat.le_refl _) (.cells #[.int .i64 0, .int .i64 (rk (A.pr p).v), .int .i64 (rn (A.pr p).v), .string (rs (A.pr p).v), .int .i64 0, .bool (A.pr p).lk, .slice ao (A.pr p).ws.length cs] 58)
    have g0 := hallocn w (.cells #[.int .i64 0, .int .i64 (rk (A.pr p).v), .int .i64 (rn (A.pr p).v), .string (rs (A.pr p).v), .int .i64 0, .bool (A.pr p).lk, .slice ao (A.pr p).ws.length cs] 58)
    have hPk := hP.below hB
    have hEk : RExt lab K w lab K _ := RExt.below hB
    have lbx := blk_lt g0
    have b6 := cell_blk g0 6
    have hrowk := hrow.same (hB.block g hrow.lt)
    obtain ⟨i1, z, hi1, hz0, hz1, hz2, hz3⟩ := z3
    have hgbx : g ≠ w.heap.size := by have := hrow.lt; omega
    have hgR : g ≠ K.R := by
      rintro rfl
      rw [hP.lR] at hLg; cases hLg
    have hsl := a6.same (w' := w.alloc (.cells #[.int .i64 0, .int .i64 (rk (A.pr p).v), .int .i64 (rn (A.pr p).v), .string (rs (A.pr p).v), .int .i64 0, .bool (A.pr p).lk, .slice ao (A.pr p).ws.length cs] 58)) (fun r hr _ => hB.block r hr) fun _ _ h => h
    rw [hsv] at hsl
    have stH : Hide ((A.pr p).st = 0) := ⟨hst⟩
    clear hst
    go_enter Tryz.func27, Tryz.ntmps27
    go_wp2_with fail
    generalize hWr : w.alloc (.cells #[.int .i64 0, .int .i64 (rk (A.pr p).v), .int .i64 (rn (A.pr p).v), .string (rs (A.pr p).v), .int .i64 0, .bool (A.pr p).lk, .slice ao (A.pr p).ws.length cs] 58) = wr at *
    have k6 : wr.cell? ⟨g, d + p * 7 + 6, none⟩ = some (.slice ao (A.pr p).ws.length cs) := by
      have := hrowk.cell hp (show 6 < 7 by decide)
      rwa [hsv] at this
    have k0 : wr.cell? ⟨K.R, 0, none⟩ = some (.slice (some ⟨g, d, none⟩) A.N cp) := by
      have : wr.cell? ⟨K.R, 0, none⟩ = some K.vL := cell_blk hPk.hR 0
      rwa [hv] at this
    have b6 : wr.cell? ⟨w.heap.size, 6, none⟩ = some (.slice ao (A.pr p).ws.length cs) := b6
    have hsrc : ∀ W, Below wr.heap.size wr W → Src Tryz.prog 1 27 (.slice ao (A.pr p).ws.length cs) (A.pr p).ws.length (flat 1 (A.pr p).ws.length (wsf (A.pr p).ws)) W := fun W hC => sl_src (P := Tryz.prog) Tryz.underlying27 (hsl.same (L' := fun r => lab r = .imm) (fun r hr _ => hC.block r hr) fun _ _ h => h) (fun i c hi hc => by obtain rfl : c = 0 := (by omega); rfl)
    have hfin := fun (w3 : World) (hC : Below wr.heap.size wr w3) (g3 d3 c3 : Nat) (f0 : Nat → Nat → Value) h3 hg3 => rwait_store hPk hp q stH.out hv hLg hrowk hC (g3 := g3) (d3 := d3) (c3 := c3) (f0 := f0) h3 hg3
    have hfz : ∀ W, Below wr.heap.size wr W → W.frozen? ⟨g, d + p * 7 + 6, none⟩ = false := fun W hC => (hrowk.same (hC.block g hrowk.lt)).frz _
    have hX : ∀ W : World, W.heap[wr.heap.size]? = some (.cells #[.int .i64 ((q : Int) + 1)] 3) → Src Tryz.prog 1 27 (.slice (some ⟨wr.heap.size, 0, none⟩) 1 1) 1 [.int .i64 ((q : Int) + 1)] W := fun W h => Src.ofSlice (e' := 3) _ Tryz.underlying27 _ 1 1 _ rfl (World.news_of_block (cs := #[.int .i64 ((q : Int) + 1)]) (t := 3) (fr := (0, 0)) h) (by simp [Value.oneCell'])
    have hX1 : ∀ W : World, W.heap[wr.heap.size + 1]? = some (.cells #[.int .i64 ((q : Int) + 1)] 3) → Src Tryz.prog 1 27 (.slice (some ⟨wr.heap.size + 1, 0, none⟩) 1 1) 1 [.int .i64 ((q : Int) + 1)] W := fun W h => Src.ofSlice (e' := 3) _ Tryz.underlying27 _ 1 1 _ rfl (World.news_of_block (cs := #[.int .i64 ((q : Int) + 1)]) (t := 3) (fr := (0, 0)) h) (by simp [Value.oneCell'])
    have hXn : ∀ W : World, Src Tryz.prog 1 27 (.slice (some ⟨W.heap.size, 0, none⟩) 1 1) 1 [.int .i64 ((q : Int) + 1)] (W.alloc (.cells #[.int .i64 ((q : Int) + 1)] 3)) := fun W => Src.ofSlice (e' := 3) _ Tryz.underlying27 _ 1 1 _ rfl (World.news_of_block (cs := #[.int .i64 ((q : Int) + 1)]) (t := 3) (fr := (0, 0)) (hallocn _ _)) (by simp [Value.oneCell'])
    have hC : Below wr.heap.size wr wr.drew := (Below.refl _ wr).drew
    have hm : (A.pr p).ws.length + 1 ≤ 1000000 := by omega
    clear c0 x0 x1 x2 x3 x4 x5 x6 hsl hsv a6
    generalize hmm : (A.pr p).ws.length = m at *
    have lRr := blk_lt hPk.hR
    have lgr := hrowk.lt
    have hle : ∀ W, Below wr.heap.size wr W → wr.heap.size ≤ W.heap.size := fun W h => h.size
    have hXA : ∀ (e : Nat) (w2 : World), ((wr.drew.alloc (.cells #[.int .i64 ((q : Int) + 1)] 3)).alloc (.cells #[] 3)).grownBy w2 (some e) → e = wr.heap.size + 1 → Src Tryz.prog 1 27 (.slice (some ⟨wr.heap.size, 0, none⟩) 1 1) 1 [.int .i64 ((q : Int) + 1)] w2 := fun _ w2 hg he => hX _ (blk_grown hg ((halloc _ _ _ (by show wr.heap.size < (wr.drew.alloc _).heap.size; simp)).trans (alloc_at rfl)) (by omega))
    have hXB : ∀ (e : Nat) (w2 : World), ((wr.drew.alloc (.cells #[] 3)).alloc (.cells #[.int .i64 ((q : Int) + 1)] 3)).grownBy w2 (some e) → e = wr.heap.size → Src Tryz.prog 1 27 (.slice (some ⟨wr.heap.size + 1, 0, none⟩) 1 1) 1 [.int .i64 ((q : Int) + 1)] w2 := fun _ w2 hg he => hX1 _ (blk_grown hg (alloc_at (by simp)) (by omega))
    go_region_law (first | (refine step_append_sl0 _ rfl (.tmp 40) (.tmp 42) 27 27 rfl 3 i1 z 1 i1.bytes Tryz.underlying27 hi1 hz0 hz1 rfl hz3 (fun r => wr.heap.size ≤ r) _ 0 0 0 (fun _ _ => .bool false) (by simp [Act.eval]) (by first | (simp; done) | (simp; omega)) (row_empty 1 (hallocn _ _)) _ m _ (by simp [Act.eval]) (hsrc _ (by first | exact below_alloc (below_alloc hC _) _ | exact below_alloc hC _)) (by omega) hz2 _ rfl ?_; intro g2 d2 c2 w2 hrow2 hgrow2 hat2; rw [Nat.zero_add] at hrow2; have hg2 := ge_of hat2 (by first | (simp; done) | (simp; omega)); (first | (have hX0 := hXA _ _ hgrow2 (by simp)) | (have hX0 := hXB _ _ hgrow2 (by simp)) | skip); replace hC := below_grown (by first | exact below_alloc (below_alloc hC _) _ | exact below_alloc hC _) hgrow2 (by first | (simp; done) | (simp; omega)) (by first | (simp; done) | (simp; omega)); have k0a := keepc hC k0; have b6a := keepc hC b6; have k6a := keepc hC k6; have fza := hfz _ hC; have lRa := Nat.lt_of_lt_of_le lRr hC.size; have lxa := Nat.lt_of_lt_of_le lbx hC.size; have lga := Nat.lt_of_lt_of_le lgr hC.size) | (refine step_append_sl0 _ rfl (.tmp 40) (.tmp 42) 27 27 rfl 3 i1 z 1 i1.bytes Tryz.underlying27 hi1 hz0 hz1 rfl hz3 (fun r => wr.heap.size ≤ r) _ 0 0 0 (fun _ _ => .bool false) (by simp [Act.eval]) (by first | (simp; done) | (simp; omega)) ((row_empty 1 (hallocn _ _)).alloc _) _ m _ (by simp [Act.eval]) (hsrc _ (by first | exact below_alloc (below_alloc hC _) _ | exact below_alloc hC _)) (by omega) hz2 _ rfl ?_; intro g2 d2 c2 w2 hrow2 hgrow2 hat2; rw [Nat.zero_add] at hrow2; have hg2 := ge_of hat2 (by first | (simp; done) | (simp; omega)); (first | (have hX0 := hXA _ _ hgrow2 (by simp)) | (have hX0 := hXB _ _ hgrow2 (by simp)) | skip); replace hC := below_grown (by first | exact below_alloc (below_alloc hC _) _ | exact below_alloc hC _) hgrow2 (by first | (simp; done) | (simp; omega)) (by first | (simp; done) | (simp; omega)); have k0a := keepc hC k0; have b6a := keepc hC b6; have k6a := keepc hC k6; have fza := hfz _ hC; have lRa := Nat.lt_of_lt_of_le lRr hC.size; have lxa := Nat.lt_of_lt_of_le lbx hC.size; have lga := Nat.lt_of_lt_of_le lgr hC.size) | (refine step_append_sl0 _ rfl (.tmp 43) (.tmp 45) 27 27 rfl 3 i1 z 1 i1.bytes Tryz.underlying27 hi1 hz0 hz1 rfl hz3 (fun r => wr.heap.size ≤ r) g2 d2 m c2 _ (by simp [Act.eval]) hg2 hrow2 _ 1 _ (by simp [Act.eval]) (hX0) (by omega) hz2 _ rfl ?_; intro g3 d3 c3 w3 hrow3 hgrow3 hat3; have hg3 := ge_of hat3 (hle _ hC); replace hC := below_grown hC hgrow3 hg2 (hle _ hC); have k0b := keepc hC k0; have b6b := keepc hC b6; have k6b := keepc hC k6; have fzb := hfz _ hC) | (refine step_append_sl0 _ rfl (.tmp 43) (.tmp 45) 27 27 rfl 3 i1 z 1 i1.bytes Tryz.underlying27 hi1 hz0 hz1 rfl hz3 (fun r => wr.heap.size ≤ r) g2 d2 m c2 _ (by simp [Act.eval]) hg2 (hrow2.alloc _) _ 1 _ (by simp [Act.eval]) (hXn _) (by omega) hz2 _ rfl ?_; intro g3 d3 c3 w3 hrow3 hgrow3 hat3; have hg3 := ge_of hat3 (hle _ (below_alloc hC _)); replace hC := below_grown (below_alloc hC _) hgrow3 hg2 (hle _ (below_alloc hC _)); have k0b := keepc hC k0; have b6b := keepc hC b6; have k6b := keepc hC k6; have fzb := hfz _ hC))
    all_goals
      go_wp2_with fail
      first | go_end0 | (refine bodyPost_ret (results_none rfl _ _ _) rfl ?_)
      obtain ⟨lab', K', h1, h2⟩ := hfin w3 hC g3 d3 c3 _ hrow3 hg3
      exact ⟨rfl, lab', K', h1, hEk.trans h2⟩
  · have hz : (((A.pr p).st : Int) == 0) = false := by
      have : ¬ ((A.pr p).st : Int) = 0 := by omega
      simpa using this
    have eq2 : (((A.pr p).st : Int) == 2) = ((A.pr p).st == 2) := by
      by_cases h : (A.pr p).st = 2
      · rw [h]; rfl
      · have h1 : ¬ ((A.pr p).st : Int) = 2 := by omega
        have e1 : (((A.pr p).st : Int) == 2) = false := by simpa using h1
        have e2 : ((A.pr p).st == 2) = false := by simpa using h
        rw [e1, e2]
    have hB := (Below.refl w.heap.size w).alloc (Nat.le_refl _) (.cells #[.int .i64 (A.pr p).st, .int .i64 (rk (A.pr p).v), .int .i64 (rn (A.pr p).v), .string (rs (A.pr p).v), .int .i64 0, .bool (A.pr p).lk, .slice ao (A.pr p).ws.length cs] 58)
    have g0 := hallocn w (.cells #[.int .i64 (A.pr p).st, .int .i64 (rk (A.pr p).v), .int .i64 (rn (A.pr p).v), .string (rs (A.pr p).v), .int .i64 0, .bool (A.pr p).lk, .slice ao (A.pr p).ws.length cs] 58)
    have hPk := hP.below hB
    have lbx := blk_lt g0
    have b0 := cell_blk g0 0
    have b1 := cell_blk g0 1
    have b2 := cell_blk g0 2
    have b3 := cell_blk g0 3
    have b4 := cell_blk g0 4
    obtain ⟨i1, z, hi1, hz0, hz1, hz2, hz3⟩ := z93
    have hR := hPk.hR
    go_enter Tryz.func27, Tryz.ntmps27
    go_wp2_with fail
    clear c0 x0 x1 x2 x3 x4 x5 x6
    generalize hWr : w.alloc (.cells #[.int .i64 (A.pr p).st, .int .i64 (rk (A.pr p).v), .int .i64 (rn (A.pr p).v), .string (rs (A.pr p).v), .int .i64 0, .bool (A.pr p).lk, .slice ao (A.pr p).ws.length cs] 58) = wr at *
    have hRc : wr.cell? ⟨K.R, 1, none⟩ = some K.vJ := cell_blk hR 1
    have lRr := blk_lt hR
    have hRne : Hide (K.vJ.ownBlock ≠ some K.R) := ⟨fun h => by
      have := (hPk.J.own h).1
      rw [hPk.lR] at this; cases this⟩
    have hbl : ∀ (o : Obj) (w1 : World), (wr.alloc o).drew.grownBy w1 K.vJ.ownBlock → w1.heap[K.R]? = wr.heap[K.R]? := fun o w1 hg => by
      rw [hg.block K.R (by show K.R < (wr.alloc o).heap.size; simp; omega) (fun h => hRne.out h.symm)]
      exact halloc wr o K.R lRr
    have hcf : ∀ (o : Obj) (w1 : World), (wr.alloc o).drew.grownBy w1 K.vJ.ownBlock → w1.cell? ⟨K.R, 1, none⟩ = some K.vJ := fun o w1 hg => by
      rw [World.cell?_of_block (w := wr) (hbl o w1 hg)]; exact hRc
    have hff : ∀ (o : Obj) (w1 : World), (wr.alloc o).drew.grownBy w1 K.vJ.ownBlock → w1.frozen? ⟨K.R, 1, none⟩ = false := fun o w1 hg => frz_blk ((hbl o w1 hg).trans hR) 1
    have hslf : ∀ o : Obj, Sl (wr.alloc o).drew (fun r => lab r = .rj) tRJ 6 K.vJ A.jobs.length K.Jf := fun o => hPk.J.same (fun r hr _ => halloc wr o r hr) fun _ _ h => h
    have hsrc : Src Tryz.prog 6 40 (.slice (some ⟨wr.heap.size, 0, none⟩) 1 1) 1 (jcells q (A.pr p).v (((A.pr p).st : Int) == 2)) ((wr.alloc (.cells (jcells q (A.pr p).v (((A.pr p).st : Int) == 2)).toArray 93)).drew) :=
      Src.ofSlice (e' := 93) _ Tryz.underlying40 _ 1 1 _ rfl (World.news_of_block (cs := (jcells q (A.pr p).v (((A.pr p).st : Int) == 2)).toArray) (t := 93) (fr := (0, 0)) (hallocn _ _)) (by simp [jcells, Value.oneCell'])
    have hjl : A.jobs.length + 1 ≤ 1000000 := by omega
    have eq2H : Hide ((((A.pr p).st : Int) == 2) = ((A.pr p).st == 2)) := ⟨eq2⟩
    have hwait : Hide (A.wait p q = A.push ⟨q, (A.pr p).v, (A.pr p).st == 2⟩) := ⟨by simp [Ab.wait, hst]⟩
    have hEk : RExt lab K w lab K wr := RExt.below hB
    clear eq2
    generalize hjn : A.jobs.length = n at *
    go_region_law (refine step_append_sl _ rfl (.tmp 22) (.tmp 30) 40 40 rfl 93 i1 z 6 i1.bytes Tryz.underlying40 hi1 hz0 hz1 rfl hz3 (fun r => lab r = .rj) K.vJ n K.Jf (by simp [Act.eval]) (hslf _) _ 1 _ (by simp [Act.eval]) hsrc (by omega) hjl hz2 _ rfl ?_; intro g6 d6 cap6 w1 hrow6 hgrow hat; have k1 := hcf _ _ hgrow; have k2 := hff _ _ hgrow)
    all_goals
      have hq := rjob_push hPk hjn hrow6 hgrow hat
      rw [eq2H.out] at hq
      obtain ⟨lab2, K2, hP2, hE2⟩ := hq
      go_wp2_with fail
      refine bodyPost_ret (results_none rfl _ _ _) rfl ?_
      rw [hwait.out]
      exact ⟨rfl, lab2, K2, hP2, hEk.trans hE2⟩
end
end Go.Proofs.YtcceopgaiffkmaaGreatDoor

/- The reference's Reject and Resolve. -/
namespace Go.Proofs.YtcceopgaiffkmaaGreatDoor
open Go Go.RowKit Go.Pl
set_option maxRecDepth 100000
section
variable {lab : Nat → Lab} {K : RK} {w : World} {A : Ab}
/-- a value as the reference takes it -/
def rva (v : VV) : Value := .agg #[.int .i64 (rk v), .int .i64 (rn v), .string (rs v), .int .i64 0]
set_option maxHeartbeats 4000000 in
theorem rreject_calls (hP : RS lab K w A) {p : Nat} (hp : p < A.N) (v : VV) (hws : (A.pr p).ws.length ≤ 1000) (hjs : A.jobs.length ≤ 50000) (hNb : A.N ≤ 1000) :
    Calls Tryz.prog 26 #[.pointer (some ⟨K.R, 0, none⟩), .int .i64 ((p : Int) + 1), .agg #[.int .i64 (rk v), .int .i64 (rn v), .string (rs v), .int .i64 0]] w
      (fun e w' => e = .returned (.tuple #[]) ∧ ∃ lab' K', RS lab' K' w' (A.reject p v) ∧ RExt lab K w lab' K' w') := by
  have hB := (Below.refl w.heap.size w).alloc (Nat.le_refl _) (.cells #[.int .i64 (rk v), .int .i64 (rn v), .string (rs v), .int .i64 0] 38)
  have hP1 := hP.below hB
  have hE1 : RExt lab K w lab K _ := RExt.below hB
  obtain ⟨g, d, cp, hv, hLg, hrow⟩ := hP1.L.pos (by omega)
  obtain ⟨a0, a1, a5, a6⟩ := hP.pm p hp
  have c0 : (w.alloc (.cells #[.int .i64 (rk v), .int .i64 (rn v), .string (rs v), .int .i64 0] 38)).cell? ⟨K.R, 0, none⟩ = some K.vL := cell_blk hP1.hR 0
  rw [hv] at c0
  have x0 := hrow.cell0 hp (by decide)
  have x5 := hrow.cell hp (show 5 < 7 by decide)
  rw [a5] at x5
  have iw : IntKind.i64.wrap ((p : Int) + 1 - 1) = p := by rw [IntWalk.i64_in _ (by omega)]; omega
  have iw2 : IntKind.i64.wrap (p : Int) = p := IntWalk.i64_in _ (by omega)
  have i0 : (0 : Int) ≤ p := by omega
  have ip : (p : Int) < A.N := by omega
  have hset := fun W (h : RS lab K W A) => rsettle_calls h hp 2 2 rfl v hws hjs hNb
  clear hv hrow a6 a1
  by_cases hst : (A.pr p).st = 0
  · have x0' : (w.alloc (.cells #[.int .i64 (rk v), .int .i64 (rn v), .string (rs v), .int .i64 0] 38)).cell? ⟨g, d + p * 7, none⟩ = some (.int .i64 0) := by rw [x0, a0, hst]; rfl
    clear x0
    by_cases hlk : (A.pr p).lk = true
    · have hA : A.reject p v = A := by simp [Ab.reject, Ab.busy, hlk]
      rw [hA]
      rw [hlk] at x5
      clear hlk hst
      go_enter Tryz.func26, Tryz.ntmps26
      go_wp2
      go_end0
      exact ⟨rfl, lab, K, hP1, hE1⟩
    · have hA : A.reject p v = A.settle p 2 v := by simp [Ab.reject, Ab.busy, hst, hlk]
      rw [hA]
      have hlk : (A.pr p).lk = false := by simpa using hlk
      rw [hlk] at x5
      clear hlk hst
      go_enter Tryz.func26, Tryz.ntmps26
      go_wp2_with fail
      refine (hset _ hP1).mono ?_
      rintro e w2 ⟨rfl, lab', K', h1, h2⟩
      go_wp2
      go_end0
      exact ⟨rfl, lab', K', h1, hE1.trans h2⟩
  · have hA : A.reject p v = A := by simp [Ab.reject, Ab.busy, hst]
    rw [hA]
    rw [a0] at x0
    have hz : (((A.pr p).st : Int) == 0) = false := by
      have : ¬ ((A.pr p).st : Int) = 0 := by omega
      simpa using this
    go_enter Tryz.func26, Tryz.ntmps26
    go_wp2
    go_end0
    exact ⟨rfl, lab, K, hP1, hE1⟩
theorem rsetlk {lab : Nat → Lab} {K : RK} {w : World} {A : Ab} (hP : RS lab K w A) {p : Nat} (hp : p < A.N) {g d cp : Nat} (hv : K.vL = .slice (some ⟨g, d, none⟩) A.N cp) (hg : lab g = .rl) (hrow : Row w tPm 7 g d A.N cp K.Lf) :
    ∃ K', RS lab K' (w.setCell ⟨g, d + p * 7 + 5, none⟩ (.bool true)) (A.put p { A.pr p with lk := true }) ∧ RExt lab K w lab K' (w.setCell ⟨g, d + p * 7 + 5, none⟩ (.bool true)) := by
  obtain ⟨a0, a1, a5, a6⟩ := hP.pm p hp
  have hO : Only (fun r => r = g) w (w.setCell ⟨g, d + p * 7 + 5, none⟩ (.bool true)) := onlyset (M := fun r => r = g) (Only.refl _ w) rfl _ _
  obtain ⟨x, y⟩ := hP.setL (lab' := lab) hp (x := { A.pr p with lk := true }) hv hg (fun _ _ => rfl) (fun r hr => hP.new r (by simpa using hr)) hO (hrow.set hp (show 5 < 7 by decide) (.bool true)) (fun i c hne => by simp [hne]) (by
    refine ⟨by simp [a0], fun i hi => ?_, by simp, ?_⟩
    · have : ¬ (1 + i = 5) := by omega
      simp [this, a1 i hi]
    · have := a6.same (w' := w.setCell ⟨g, d + p * 7 + 5, none⟩ (.bool true)) (L' := fun r => lab r = .imm) (fun r hr he => hO.block r hr (fun h => by rw [h, hg] at he; cases he)) fun _ _ h => h
      simpa using this)
  exact ⟨_, x, y⟩
set_option maxHeartbeats 8000000 in
theorem rresolve_calls (hP : RS lab K w A) {p : Nat} (hp : p < A.N) (v : VV) (hws : ∀ p, p < A.N → (A.pr p).ws.length ≤ 1000) (hjs : A.jobs.length ≤ 50000) (hNb : A.N ≤ 1000) :
    Calls Tryz.prog 25 #[.pointer (some ⟨K.R, 0, none⟩), .int .i64 ((p : Int) + 1), .agg #[.int .i64 (rk v), .int .i64 (rn v), .string (rs v), .int .i64 0], .int .i64 0] w
      (fun e' w' => e' = .returned (.tuple #[]) ∧ ∃ lab' K', RS lab' K' w' (A.resolve p v) ∧ RExt lab K w lab' K' w') := by
  have hB := (Below.refl w.heap.size w).alloc (Nat.le_refl _) (.cells #[.int .i64 (rk v), .int .i64 (rn v), .string (rs v), .int .i64 0] 38)
  have hPa := hP.below hB
  obtain ⟨g, d, cp, hv, hLg, hrow⟩ := hPa.L.pos (by omega)
  obtain ⟨a0, a1, a5, a6⟩ := hP.pm p hp
  obtain ⟨ao, cs, hsv⟩ := a6.form
  have iw : IntKind.i64.wrap ((p : Int) + 1 - 1) = p := by rw [IntWalk.i64_in _ (by omega)]; omega
  have iw2 : IntKind.i64.wrap (p : Int) = p := IntWalk.i64_in _ (by omega)
  have i0 : (0 : Int) ≤ p := by omega
  have ip : (p : Int) < A.N := by omega
  have c0 : (w.alloc (.cells #[.int .i64 (rk v), .int .i64 (rn v), .string (rs v), .int .i64 0] 38)).cell? ⟨K.R, 0, none⟩ = some K.vL := cell_blk hPa.hR 0
  rw [hv] at c0
  have lRa := blk_lt hPa.hR
  have x0 := hrow.cell0 hp (by decide)
  have x1 := hrow.cell hp (show 1 < 7 by decide)
  have x2 := hrow.cell hp (show 2 < 7 by decide)
  have x3 := hrow.cell hp (show 3 < 7 by decide)
  have x4 := hrow.cell hp (show 4 < 7 by decide)
  have x5 := hrow.cell hp (show 5 < 7 by decide)
  have x6 := hrow.cell hp (show 6 < 7 by decide)
  rw [a0] at x0
  rw [a1 0 (by decide), rv0] at x1
  rw [a1 1 (by decide), rv1] at x2
  rw [a1 2 (by decide), rv2] at x3
  rw [a1 3 (by decide), rv3] at x4
  rw [a5] at x5
  rw [hsv] at x6
  have hB2 := hB.alloc (by simp) (.cells #[.int .i64 (A.pr p).st, .int .i64 (rk (A.pr p).v), .int .i64 (rn (A.pr p).v), .string (rs (A.pr p).v), .int .i64 0, .bool (A.pr p).lk, .slice ao (A.pr p).ws.length cs] 58)
  have hPb := hP.below hB2
  have hE : RExt lab K w lab K _ := RExt.below hB2
  by_cases hst : (A.pr p).st = 0
  · by_cases hlk : (A.pr p).lk = true
    · have hA : A.resolve p v = A := by simp [Ab.resolve, Ab.busy, hlk]
      rw [hA]
      have x0' : (w.alloc (.cells #[.int .i64 (rk v), .int .i64 (rn v), .string (rs v), .int .i64 0] 38)).cell? ⟨g, d + p * 7, none⟩ = some (.int .i64 0) := by rw [x0, hst]; rfl
      clear x0
      clear hPb hE hB2
      have hB2 := hB.alloc (by simp) (.cells #[.int .i64 0, .int .i64 (rk (A.pr p).v), .int .i64 (rn (A.pr p).v), .string (rs (A.pr p).v), .int .i64 0, .bool true, .slice ao (A.pr p).ws.length cs] 58)
      have hPb := hP.below hB2
      have hE : RExt lab K w lab K _ := RExt.below hB2
      rw [hlk] at x5
      go_enter Tryz.func25, Tryz.ntmps25
      go_wp2
      first | go_end0 | (refine bodyPost_ret (results_none rfl _ _ _) rfl ?_)
      exact ⟨rfl, lab, K, hPb, hE⟩
    · have hlk : (A.pr p).lk = false := by simpa using hlk
      have x0' : (w.alloc (.cells #[.int .i64 (rk v), .int .i64 (rn v), .string (rs v), .int .i64 0] 38)).cell? ⟨g, d + p * 7, none⟩ = some (.int .i64 0) := by rw [x0, hst]; rfl
      clear x0
      have hbz : ¬ A.busy p := by simp [Ab.busy, hst, hlk]
      clear hPb hE hB2
      have hB2 := hB.alloc (by simp) (.cells #[.int .i64 0, .int .i64 (rk (A.pr p).v), .int .i64 (rn (A.pr p).v), .string (rs (A.pr p).v), .int .i64 0, .bool false, .slice ao (A.pr p).ws.length cs] 58)
      have hPb := hP.below hB2
      have hE : RExt lab K w lab K _ := RExt.below hB2
      have hstH : Hide ((A.pr p).st = 0) := ⟨hst⟩
      clear hst
      rw [hlk] at x5
      have hA : A.resolve p v = A.settle p 1 v := by simp [Ab.resolve, hbz]
      rw [hA]
      have hset := fun W (h : RS lab K W A) => rsettle_calls h hp 1 1 rfl v (hws p hp) hjs hNb
      have hn : ¬ ((0 : Int) = (p : Int) + 1) := by omega
      have hhas := fun W (h : RS lab K W A) => rhas_calls h 0
      have hdc : decide ((1 : Int) ≤ 0 ∧ (0 : Int) ≤ A.N) = false := by simp
      rw [hdc] at hhas
      go_enter Tryz.func25, Tryz.ntmps25
      go_wp2_with fail
      refine (hhas _ hPb).mono ?_
      rintro e w2 ⟨rfl, rfl⟩
      go_wp2_with fail
      refine (hset _ hPb).mono ?_
      rintro e w2 ⟨rfl, lab', K', h1, h2⟩
      go_wp2
      go_end0
      exact ⟨rfl, lab', K', h1, hE.trans h2⟩
  · have hA : A.resolve p v = A := by simp [Ab.resolve, Ab.busy, hst]
    rw [hA]
    have hz : (((A.pr p).st : Int) == 0) = false := by
      have : ¬ ((A.pr p).st : Int) = 0 := by omega
      simpa using this
    go_enter Tryz.func25, Tryz.ntmps25
    go_wp2
    first | go_end0 | (refine bodyPost_ret (results_none rfl _ _ _) rfl ?_)
    exact ⟨rfl, lab, K, hPb, hE⟩
set_option maxHeartbeats 8000000 in
theorem rresolveP_calls (hP : RS lab K w A) {p q : Nat} (hp : p < A.N) (hq : q < A.N) (v : VV) (e : Nat) (hws : ∀ p, p < A.N → (A.pr p).ws.length ≤ 1000) (hjs : A.jobs.length ≤ 50000) (hNb : A.N ≤ 1000) :
    Calls Tryz.prog 25 #[.pointer (some ⟨K.R, 0, none⟩), .int .i64 ((p : Int) + 1), .agg #[.int .i64 (rk v), .int .i64 (rn v), .string (rs v), .int .i64 0], .int .i64 ((q : Int) + 1)] w
      (fun e' w' => e' = .returned (.tuple #[]) ∧ ∃ lab' K', RS lab' K' w' (A.resolveP p q e) ∧ RExt lab K w lab' K' w') := by
  have hB := (Below.refl w.heap.size w).alloc (Nat.le_refl _) (.cells #[.int .i64 (rk v), .int .i64 (rn v), .string (rs v), .int .i64 0] 38)
  have hPa := hP.below hB
  obtain ⟨g, d, cp, hv, hLg, hrow⟩ := hPa.L.pos (by omega)
  obtain ⟨a0, a1, a5, a6⟩ := hP.pm p hp
  obtain ⟨ao, cs, hsv⟩ := a6.form
  have iw : IntKind.i64.wrap ((p : Int) + 1 - 1) = p := by rw [IntWalk.i64_in _ (by omega)]; omega
  have iw2 : IntKind.i64.wrap (p : Int) = p := IntWalk.i64_in _ (by omega)
  have i0 : (0 : Int) ≤ p := by omega
  have ip : (p : Int) < A.N := by omega
  have c0 : (w.alloc (.cells #[.int .i64 (rk v), .int .i64 (rn v), .string (rs v), .int .i64 0] 38)).cell? ⟨K.R, 0, none⟩ = some K.vL := cell_blk hPa.hR 0
  rw [hv] at c0
  have lRa := blk_lt hPa.hR
  have x0 := hrow.cell0 hp (by decide)
  have x1 := hrow.cell hp (show 1 < 7 by decide)
  have x2 := hrow.cell hp (show 2 < 7 by decide)
  have x3 := hrow.cell hp (show 3 < 7 by decide)
  have x4 := hrow.cell hp (show 4 < 7 by decide)
  have x5 := hrow.cell hp (show 5 < 7 by decide)
  have x6 := hrow.cell hp (show 6 < 7 by decide)
  rw [a0] at x0
  rw [a1 0 (by decide), rv0] at x1
  rw [a1 1 (by decide), rv1] at x2
  rw [a1 2 (by decide), rv2] at x3
  rw [a1 3 (by decide), rv3] at x4
  rw [a5] at x5
  rw [hsv] at x6
  have hB2 := hB.alloc (by simp) (.cells #[.int .i64 (A.pr p).st, .int .i64 (rk (A.pr p).v), .int .i64 (rn (A.pr p).v), .string (rs (A.pr p).v), .int .i64 0, .bool (A.pr p).lk, .slice ao (A.pr p).ws.length cs] 58)
  have hPb := hP.below hB2
  have hE : RExt lab K w lab K _ := RExt.below hB2
  by_cases hst : (A.pr p).st = 0
  · by_cases hlk : (A.pr p).lk = true
    · have hA : A.resolveP p q e = A := by simp [Ab.resolveP, Ab.busy, hlk]
      rw [hA]
      have x0' : (w.alloc (.cells #[.int .i64 (rk v), .int .i64 (rn v), .string (rs v), .int .i64 0] 38)).cell? ⟨g, d + p * 7, none⟩ = some (.int .i64 0) := by rw [x0, hst]; rfl
      clear x0
      clear hPb hE hB2
      have hB2 := hB.alloc (by simp) (.cells #[.int .i64 0, .int .i64 (rk (A.pr p).v), .int .i64 (rn (A.pr p).v), .string (rs (A.pr p).v), .int .i64 0, .bool true, .slice ao (A.pr p).ws.length cs] 58)
      have hPb := hP.below hB2
      have hE : RExt lab K w lab K _ := RExt.below hB2
      rw [hlk] at x5
      go_enter Tryz.func25, Tryz.ntmps25
      go_wp2
      first | go_end0 | (refine bodyPost_ret (results_none rfl _ _ _) rfl ?_)
      exact ⟨rfl, lab, K, hPb, hE⟩
    · have hlk : (A.pr p).lk = false := by simpa using hlk
      have x0' : (w.alloc (.cells #[.int .i64 (rk v), .int .i64 (rn v), .string (rs v), .int .i64 0] 38)).cell? ⟨g, d + p * 7, none⟩ = some (.int .i64 0) := by rw [x0, hst]; rfl
      clear x0
      have hbz : ¬ A.busy p := by simp [Ab.busy, hst, hlk]
      clear hPb hE hB2
      have hB2 := hB.alloc (by simp) (.cells #[.int .i64 0, .int .i64 (rk (A.pr p).v), .int .i64 (rn (A.pr p).v), .string (rs (A.pr p).v), .int .i64 0, .bool false, .slice ao (A.pr p).ws.length cs] 58)
      have hPb := hP.below hB2
      have hE : RExt lab K w lab K _ := RExt.below hB2
      have hstH : Hide ((A.pr p).st = 0) := ⟨hst⟩
      clear hst
      rw [hlk] at x5
      by_cases hqp : q = p
      · subst hqp
        have hA : A.resolveP q q e = A.grow.settle q 2 (.flt e) := by simp [Ab.resolveP, hbz]
        rw [hA]
        have hset := fun W (h : RS lab K W A) => rsettle_calls (A := A.grow) (RS.ob h (A.ob + 1)) hp 2 2 rfl (.flt e) (hws q hp) hjs hNb
        have e2 := fun W (h : RS lab K W A) => cell_blk h.hR 2
        have e3 := fun W (h : RS lab K W A) => cell_blk h.hR 3
        have e4 := fun W (h : RS lab K W A) => cell_blk h.hR 4
        have e5 := fun W (h : RS lab K W A) => cell_blk h.hR 5
        have e2 := e2 _ hPb
        have e3 := e3 _ hPb
        have e4 := e4 _ hPb
        have e5 := e5 _ hPb
        go_enter Tryz.func25, Tryz.ntmps25
        go_wp2_with fail
        refine (hset _ hPb).mono ?_
        rintro e w2 ⟨rfl, lab', K', h1, h2⟩
        go_wp2
        first | go_end0 | (refine bodyPost_ret (results_none rfl _ _ _) rfl ?_)
        exact ⟨rfl, lab', K', h1, hE.trans h2⟩
      · have hA : A.resolveP p q e = (A.put p { A.pr p with lk := true }).wait q p := by simp [Ab.resolveP, hbz, hqp]
        rw [hA]
        have hn : ¬ ((q : Int) + 1 = (p : Int) + 1) := by omega
        have hn2 : ¬ ((q : Int) = (p : Int)) := by omega
        have hhas := fun W (h : RS lab K W A) => rhas_calls h ((q : Int) + 1)
        have hdc : decide ((1 : Int) ≤ (q : Int) + 1 ∧ (q : Int) + 1 ≤ A.N) = true := decide_eq_true ⟨by omega, by omega⟩
        rw [hdc] at hhas
        have hrowb := hrow.alloc (.cells #[.int .i64 0, .int .i64 (rk (A.pr p).v), .int .i64 (rn (A.pr p).v), .string (rs (A.pr p).v), .int .i64 0, .bool false, .slice ao (A.pr p).ws.length cs] 58)
        have f5 := hrowb.frz (d + p * 7 + 5)
        have y0 := cell_blk hPb.hR 0
        obtain ⟨K2, hP2, hE2⟩ := rsetlk hPb hp hv hLg hrowb
        have hwt := rwait_calls hP2 (p := q) (q := p) hq (by simp only [Ab.put]; split <;> exact hws _ (by assumption)) hjs hNb
        rw [hE2.eR] at hwt
        have y5 := hrowb.cell hp (show 5 < 7 by decide)
        rw [a5, hlk] at y5
        go_enter Tryz.func25, Tryz.ntmps25
        go_wp2_with fail
        refine (hhas _ hPb).mono ?_
        rintro e w2 ⟨rfl, rfl⟩
        go_wp2_with fail
        refine hwt.mono ?_
        rintro e w2 ⟨rfl, lab', K', h1, h2⟩
        go_wp2
        first | go_end0 | (refine bodyPost_ret (results_none rfl _ _ _) rfl ?_)
        exact ⟨rfl, lab', K', h1, (hE.trans hE2).trans h2⟩
  · have hA : A.resolveP p q e = A := by simp [Ab.resolveP, Ab.busy, hst]
    rw [hA]
    have hz : (((A.pr p).st : Int) == 0) = false := by
      have : ¬ ((A.pr p).st : Int) = 0 := by omega
      simpa using this
    go_enter Tryz.func25, Tryz.ntmps25
    go_wp2
    first | go_end0 | (refine bodyPost_ret (results_none rfl _ _ _) rfl ?_)
    exact ⟨rfl, lab, K, hPb, hE⟩
end
end Go.Proofs.YtcceopgaiffkmaaGreatDoor
