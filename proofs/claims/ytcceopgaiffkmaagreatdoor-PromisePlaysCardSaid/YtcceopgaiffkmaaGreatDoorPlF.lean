/- PromisePlays: the queue and the beginning of a job, walked; the reference's part of memory. -/
import Derived.Test.YtcceopgaiffkmaaGreatDoorPlE
import Derived.WalkSpells
/- The queue of jobs: Len, Peek, Clone, Pop. -/
namespace Go.Pl
section
variable {P : Program} (w : World)
theorem run_append_empty (t tx ty e : TypeId) (i : TypeInfo) (ht : P.underlying t = some (.slice e)) (hi : P.info? e = some i) (b off n c : Nat) (hc : n ≤ c) (x : Value) (hs : Src P i.size tx x 0 [] w) :
    (Builtin.append_ #[t, tx] ty #[.slice (some ⟨b, off, none⟩) n c, x]).run P w = .ok (.slice (some ⟨b, off, none⟩) n c) w := by
  have := run_append_room_src (P := P) w t tx ty e i ht hi b off n c x 0 [] hs (by omega) (fun j hj => absurd hj (Nat.not_lt_zero _)) (fun j hj => absurd hj (Nat.not_lt_zero _))
  simpa [World.setCells] using this
theorem wpList_append_empty {ops : Array Oper} {rest : List Oper} {o : Oper} {a : Act} {Q : Exit → Act → World → Prop} (hgd : o.guard = none) (s y : Operand) (t tx : TypeId)
    (ho : o.op = .call { callee := .builtin .append, args := #[s, y], argTypes := #[t, tx] })
    (e : TypeId) (i : TypeInfo) (ht : P.underlying t = some (.slice e)) (hi : P.info? e = some i) (b off n c : Nat) (hv : a.eval s = .slice (some ⟨b, off, none⟩) n c) (hc : n ≤ c) (x : Value) (hx : a.eval y = x) (hs : Src P i.size tx x 0 [] w)
    (h : wpList P ops Q rest (a.put o.dst (.slice (some ⟨b, off, none⟩) n c)) w) : wpList P ops Q (o :: rest) a w :=
  wpList_plain hgd fun _ hK => by
    have hr := run_append_empty (P := P) w t tx o.type e i ht hi b off n c hc x hs
    unfold Oper.wp execOp
    simp only [ho, resolve, invoke, builtin, Sem.run_bind, Sem.run_pure, Result.andThen_ok, List.map_toArray, List.map_cons, List.map_nil, hv, hx, hr]
    exact hK _ _ h
end
theorem app_flat (size m : Nat) (f0 I : Nat → Nat → Value) (i c : Nat) (hi : i < m) (hc : c < size) : app size 0 f0 (flat size m I) i c = I i c := by
  simp only [app]
  rw [if_neg (Nat.not_lt_zero _), Nat.sub_zero, flat_at _ _ _ _ _ hi hc]
  rfl
end Go.Pl
namespace Go.Proofs.YtcceopgaiffkmaaGreatDoor
open Go Go.RowKit Go.Pl
set_option maxRecDepth 100000
section
variable {lab : Nat → Lab} {K : PK} {w : World} {A : Ab}
theorem qlen_calls (hP : PS lab K w A) : Calls Tryz.prog 8 #[.pointer (some ⟨K.J, 0, none⟩)] w (fun e w' => e = .returned (.int .i64 A.jobs.length) ∧ w' = w) := by
  have c0 : w.cell? ⟨K.J, 0, none⟩ = some K.vI := cell_blk hP.hJ 0
  obtain ⟨a, c, hv⟩ := hP.it.form
  rw [hv] at c0
  clear hv
  generalize A.jobs.length = n at *
  go_enter Tryz.func8, Tryz.ntmps8
  go_wp2
  go_ret
  exact ⟨rfl, rfl⟩
theorem peek_none (hP : PS lab K w A) (hj : A.jobs = []) : Calls Tryz.prog 44 #[.pointer (some ⟨K.J, 0, none⟩)] w (fun e w' => e = .returned (.tuple #[.agg #[.int .i64 0, .slice none 0 0], .bool false]) ∧ Below w.heap.size w w') := by
  have hB := (Below.refl w.heap.size w).alloc (Nat.le_refl _) (.cells #[.int .i64 0, .slice none 0 0] 53)
  have c0 : (w.alloc (.cells #[.int .i64 0, .slice none 0 0] 53)).cell? ⟨K.J, 0, none⟩ = some K.vI := cell_blk (hP.below hB).hJ 0
  obtain ⟨a, c, hv⟩ := hP.it.form
  rw [hj] at hv
  rw [hv] at c0
  have c0 : (w.alloc (.cells #[.int .i64 0, .slice none 0 0] 53)).cell? ⟨K.J, 0, none⟩ = some (.slice a 0 c) := c0
  clear hv
  go_enter Tryz.func44, Tryz.ntmps44
  go_wp2
  refine bodyPost_ret (results_row_tmp rfl _ _ w.heap.size 53 #[.int .i64 0, .slice none 0 0] (0, 0) _ rfl ?_ Tryz.underlying53 rfl i53) rfl ?_
  · exact (halloc _ _ _ (by simp)).trans (hallocn _ _)
  · exact ⟨rfl, below_alloc hB _⟩
set_option maxHeartbeats 2000000 in
theorem clone_calls {g d m c : Nat} {I : Nat → Nat → Value} (hr : Row w tJob 2 g d m c I) (h1 : ∀ i c, i < m → c < 2 → (I i c).oneCell' = true) (hm : m ≤ 100000) :
    Calls Tryz.prog 45 #[.slice (some ⟨g, d, none⟩) m c] w (fun e w' => ∃ g' d' c', e = .returned (.slice (some ⟨g', d', none⟩) m c') ∧ w.heap.size ≤ g' ∧ Row w' tJob 2 g' d' m c' I ∧ Below w.heap.size w w') := by
  obtain ⟨i0, z, hi0, hz0, hz1, hz2, hz3⟩ := z53
  have sr := row_src (P := Tryz.prog) Tryz.underlying33 (hr.alloc (.cells #[] 53)) h1
  have hnil := fun (w : World) => Lib.run_eql_slice_nil (P := Tryz.prog) w 33 53 (some ⟨g, d, none⟩) m c 0 0 Tryz.underlying33
  have hB := (Below.refl w.heap.size w).alloc (Nat.le_refl _) (.cells #[] 53)
  have hbase : Sl (w.alloc (.cells #[] 53)) (fun r => w.heap.size ≤ r) tJob 2 (.slice (some ⟨w.heap.size, 0, none⟩) 0 0) 0 I := .inr ⟨w.heap.size, 0, 0, rfl, Nat.le_refl _, Nat.le_refl _, #[], hallocn _ _, by simp, fun i c hi => absurd hi (Nat.not_lt_zero _)⟩
  by_cases hm0 : m = 0
  · subst hm0
    have sr0 : Src Tryz.prog i0.size 33 (.slice (some ⟨g, d, none⟩) 0 c) 0 [] (w.alloc (.cells #[] 53)) := by
      rw [hz1]
      have e : flat 2 0 I = [] := by simp [flat]
      rw [← e]
      exact sr
    go_enter Tryz.func45, Tryz.ntmps45
    go_wp2_with (at_builtin; refine wpList_append_empty _ rfl (.tmp 5) (.tmp 6) 33 33 rfl 53 i0 Tryz.underlying33 hi0 w.heap.size 0 0 0 rfl (Nat.le_refl _) _ rfl sr0 ?_)
    go_ret
    exact ⟨w.heap.size, 0, 0, rfl, Nat.le_refl _, ⟨Nat.le_refl _, #[], hallocn _ _, by simp, fun i c hi => absurd hi (Nat.not_lt_zero _)⟩, hB⟩
  · have hm1 : 0 < m := by omega
    go_enter Tryz.func45, Tryz.ntmps45
    go_wp2_with (at_builtin; refine wpList_append_sl _ rfl (.tmp 5) (.tmp 6) 33 33 rfl 53 i0 z 2 i0.bytes Tryz.underlying33 hi0 hz0 hz1 rfl hz3 (fun r => w.heap.size ≤ r) _ 0 I rfl hbase _ m _ rfl sr hm1 (by omega) hz2 _ rfl ?_; intro g' d' c' w1 hrow hgrow hat)
    go_ret
    have hr' : Row w1 tJob 2 g' d' m c' (app 2 0 I (flat 2 m I)) := by simpa using hrow
    have hg' : w.heap.size ≤ g' := by
      rcases hat with ⟨_, h⟩ | h
      · exact h
      · rw [h]; simp
    exact ⟨g', d', c', rfl, hg', hr'.eqf fun i c hi hc => (app_flat 2 m I I i c hi hc).symm, hgrow.os, hgrow.tape, hgrow.output, by have := hgrow.size; simp at this; omega, fun k hk => by
      rw [hgrow.block k (by simp; omega) (fun h => by
        have h : k = w.heap.size := Option.some.inj h
        omega)]
      exact halloc w _ k hk⟩
theorem PS_pop (h : PS lab K w A) {w2 : World} {j : Jb} {rest : List Jb} (hj : A.jobs = j :: rest) {g' d' c' : Nat} (hJ : w2.heap[K.J]? = some (.cells #[.slice (some ⟨g', d', none⟩) rest.length c'] tJobs (0, 0))) (hrow : Row w2 tJob 2 g' d' rest.length c' (fun i c => K.I (i + 1) c)) (hg : w.heap.size ≤ g') (hO : Only (fun x => x = K.J) w w2) :
    ∃ lab' K', PS lab' K' w2 { A with jobs := rest } ∧ Ext lab K w lab' K' w2 A.N ∧ JbOk lab' K' w2 (K.I 0) A.N j := by
  have hlab : ∀ r, r < w.heap.size → up lab g' .items r = lab r := fun r hr => up_lt (.inr (by omega))
  have keep : ∀ r, r < w.heap.size → lab r ≠ .jj → w2.heap[r]? = w.heap[r]? := fun r hr h1 => hO.block r hr (fun he => h1 (he ▸ h.lJ))
  have hl : Lt lab K w (up lab g' .items) { K with vI := .slice (some ⟨g', d', none⟩) rest.length c', I := fun i c => K.I (i + 1) c } w2 A.N :=
    ⟨hO.size, hlab, fun r hr hi => keep r hr (by rw [hi]; intro h; cases h), Nat.le_refl _, fun _ _ _ _ => rfl, fun _ _ => rfl⟩
  have bH := blk_lt h.hH
  have hn0 : ∀ r, r < K.w0.heap.size → r < w.heap.size := fun r hr => Nat.lt_of_lt_of_le hr h.bel.size
  refine ⟨up lab g' .items, { K with vI := .slice (some ⟨g', d', none⟩) rest.length c', I := fun i c => K.I (i + 1) c }, ⟨(keep K.H bH (by rw [h.lH]; intro h; cases h)).trans h.hH, hl.cell h.lP h.c6, hl.cell h.lP h.c11, hJ, h.row.same (keep K.g h.row.lt (by rw [h.lg]; intro h; cases h)), (hlab _ bH).trans h.lH, (hlab _ (blk_lt h.hJ)).trans h.lJ, (hlab _ h.row.lt).trans h.lg, hl.lab_imm h.lP h.c6, fun r hr => ?_, fun r hr => (hlab r (hn0 r hr)).trans (h.bas r hr), ?_, h.slt, h.inj, fun p hp => ?_, .inr ⟨g', d', c', rfl, up_same _ _, hrow⟩, fun k j' hk => ?_, h.eob⟩, ⟨hl, rfl, rfl, rfl, fun r hr ho => keep r hr (by rcases ho with h | h | h <;> rw [h] <;> (intro h; cases h))⟩, ?_⟩
  · have := hO.size
    have := hrow.lt
    rw [up_lt (.inr (by omega))]
    exact h.new r (by omega)
  · exact ⟨hO.os.trans h.bel.os, hO.tape.trans h.bel.tape, hO.output.trans h.bel.output, Nat.le_trans h.bel.size hO.size, fun k hk => (keep k (hn0 k hk) (by rw [h.bas k hk]; intro h; cases h)).trans (h.bel.block k hk)⟩
  · exact hl.pm (Nat.le_refl _) (fun r hr hd => keep r hr (by rw [hd]; intro h; cases h)) (h.pm p hp)
  · have hk : rest[k]? = some j' := hk
    exact hl.jb (Nat.le_refl _) (h.jb (k + 1) j' (by rw [hj]; exact hk))
  · exact hl.jb (Nat.le_refl _) (h.jb 0 j (by rw [hj]; rfl))
theorem peek_some (hP : PS lab K w A) {j : Jb} {rest : List Jb} (hj : A.jobs = j :: rest) {r d c : Nat} (h1 : K.I 0 1 = .slice (some ⟨r, d, none⟩) 3 c) :
    Calls Tryz.prog 44 #[.pointer (some ⟨K.J, 0, none⟩)] w (fun e w' => e = .returned (.tuple #[.agg #[.int .i64 2, .slice (some ⟨r, d, none⟩) 3 c], .bool true]) ∧ Below w.heap.size w w') := by
  have hB := (Below.refl w.heap.size w).alloc (Nat.le_refl _) (.cells #[.int .i64 0, .slice none 0 0] 53)
  have hP1 := hP.below hB
  have c0 : (w.alloc (.cells #[.int .i64 0, .slice none 0 0] 53)).cell? ⟨K.J, 0, none⟩ = some K.vI := cell_blk hP1.hJ 0
  have hlen : A.jobs.length = rest.length + 1 := by rw [hj]; rfl
  obtain ⟨g, dd, cc, hv, hL, hrow⟩ := hP1.it.pos (by omega)
  have e0 := (hP.jb 0 j (by rw [hj]; rfl)).1
  have t0 : (w.alloc (.cells #[.int .i64 0, .slice none 0 0] 53)).cell? ⟨g, dd, none⟩ = some (.int .i64 2) := by
    have := hrow.cell0 (i := 0) (by omega) (by decide)
    rw [e0] at this
    simpa using this
  have t1 : (w.alloc (.cells #[.int .i64 0, .slice none 0 0] 53)).cell? ⟨g, dd + 1, none⟩ = some (.slice (some ⟨r, d, none⟩) 3 c) := by
    have := hrow.cell (i := 0) (c := 1) (by omega) (by decide)
    rw [h1] at this
    simpa using this
  rw [hv, hlen] at c0
  have hz : (((rest.length + 1 : Nat) : Int) == 0) = false := by
    have : ¬ ((rest.length + 1 : Nat) : Int) = 0 := by omega
    simpa using this
  have hz2 : ((rest.length : Int) + 1 == 0) = false := by
    have : ¬ (rest.length : Int) + 1 = 0 := by omega
    simpa using this
  clear hv hlen hj
  generalize rest.length = m at *
  have hm0 : (0 : Int) < (m : Int) + 1 := by omega
  go_enter Tryz.func44, Tryz.ntmps44
  go_wp2
  refine bodyPost_ret (results_row_tmp rfl _ _ w.heap.size 53 #[.int .i64 2, .slice (some ⟨r, d, none⟩) 3 c] (0, 0) _ rfl (alloc_at (by simp)) Tryz.underlying53 rfl i53) rfl ?_
  exact ⟨rfl, (Below.refl w.heap.size w).alloc (Nat.le_refl _) _⟩
theorem pop_none (hP : PS lab K w A) (hj : A.jobs = []) : Calls Tryz.prog 21 #[.pointer (some ⟨K.J, 0, none⟩)] w (fun e w' => e = .returned (.tuple #[.agg #[.int .i64 0, .slice none 0 0], .bool false]) ∧ Below w.heap.size w w') := by
  have hB := (Below.refl w.heap.size w).alloc (Nat.le_refl _) (.cells #[.int .i64 0, .slice none 0 0] 53)
  go_enter Tryz.func21, Tryz.ntmps21
  go_wp2_with fail
  refine (peek_none (hP.below hB) hj).mono ?_
  rintro e w2 ⟨rfl, hb2⟩
  obtain ⟨g0, hB2, hz⟩ := boxes1 hb2
  have c0 : w2.cell? ⟨w.heap.size, 0, none⟩ = some (.int .i64 0) := cell_blk g0 0
  have c1 : w2.cell? ⟨w.heap.size, 1, none⟩ = some (.slice none 0 0) := cell_blk g0 1
  have f0 := frz_blk g0 0
  have f1 := frz_blk g0 1
  have l0 := blk_lt g0
  go_wp2
  refine bodyPost_ret (results_row_tmp rfl _ _ w.heap.size 53 #[.int .i64 0, .slice none 0 0] (0, 0) _ rfl ?_ Tryz.underlying53 rfl i53) rfl ?_
  · exact (halloc _ _ _ (by simpa using l0)).trans (heap_setCell_same _ _ 1 _ 53 _ (heap_setCell_same w2 _ 0 _ 53 _ g0))
  · exact ⟨rfl, below_alloc (below_set (below_set hB2 (Nat.le_refl _) _ _) (Nat.le_refl _) _ _) _⟩
set_option maxHeartbeats 4000000 in
theorem pop_some (hP : PS lab K w A) (hjl : A.jobs.length ≤ 90000) {j : Jb} {rest : List Jb} (hj : A.jobs = j :: rest) {r d c : Nat} (h1 : K.I 0 1 = .slice (some ⟨r, d, none⟩) 3 c) :
    Calls Tryz.prog 21 #[.pointer (some ⟨K.J, 0, none⟩)] w (fun e w' => e = .returned (.tuple #[.agg #[.int .i64 2, .slice (some ⟨r, d, none⟩) 3 c], .bool true]) ∧ ∃ lab' K', PS lab' K' w' { A with jobs := rest } ∧ Ext lab K w lab' K' w' A.N ∧ JbOk lab' K' w' (K.I 0) A.N j) := by
  have hB := (Below.refl w.heap.size w).alloc (Nat.le_refl _) (.cells #[.int .i64 0, .slice none 0 0] 53)
  have hone : ∀ i c, i < rest.length → c < 2 → (K.I (i + 1) c).oneCell' = true := fun i c hi hc => by
    obtain ⟨a0, _, _, _, _, _, a1, _⟩ := hP.jb (i + 1) rest[i] (by rw [hj]; simp [hi])
    match c, hc with
    | 0, _ => rw [a0]; rfl
    | 1, _ => rw [a1]; rfl
  have hlen : A.jobs.length = rest.length + 1 := by rw [hj]; rfl
  go_enter Tryz.func21, Tryz.ntmps21
  go_wp2_with fail
  refine (peek_some (hP.below hB) hj h1).mono ?_
  rintro e w2 ⟨rfl, hb2⟩
  obtain ⟨g0, hB2, hz⟩ := boxes1 hb2
  obtain ⟨hPr, hEr⟩ := PS_relabel hP hB2 (r := w.heap.size) (Nat.le_refl _) (blk_lt g0)
  have g0' := (halloc w2 (.cells #[.int .i64 2, .slice (some ⟨r, d, none⟩) 3 c] 53) _ (blk_lt g0)).trans g0
  have hB3 := (Below.refl w2.heap.size w2).alloc (Nat.le_refl _) (.cells #[.int .i64 2, .slice (some ⟨r, d, none⟩) 3 c] 53)
  have hP3 := hPr.below hB3
  have x0 : (w2.alloc (.cells #[.int .i64 2, .slice (some ⟨r, d, none⟩) 3 c] 53)).cell? ⟨K.J, 0, none⟩ = some K.vI := cell_blk hP3.hJ 0
  obtain ⟨g, dd, cc, hv, hL, hrow⟩ := hP3.it.pos (by omega)
  rw [hv, hlen] at x0
  have hle : rest.length + 1 ≤ cc := by have := hrow.1; omega
  have hdz : (1 : Int) ≤ (rest.length : Int) + 1 := by omega
  have hlz : (rest.length : Int) + 1 ≤ (cc : Int) := by omega
  by_cases hcc : cc = 1
  · subst hcc
    have hdr : Row (w2.alloc (.cells #[.int .i64 2, .slice (some ⟨r, d, none⟩) 3 c] 53)) tJob 2 g dd rest.length 0 (fun i c => K.I (i + 1) c) := by
      obtain ⟨_, cur, a1, a2, a3⟩ := hrow
      exact ⟨by omega, cur, a1, by omega, fun i c hi => by omega⟩
    have cl := fun W (h : Row W tJob 2 g dd rest.length 0 fun i c => K.I (i + 1) c) => clone_calls h hone (by omega)
    clear hlz hdz
    have hrl : Hide (rest.length = 0) := ⟨by omega⟩
    have hdz : (1 : Int) ≤ (rest.length : Int) + 1 := by omega
    have hlz : (rest.length : Int) + 1 ≤ 1 := by omega
    clear hle
    go_wp2_with fail
    refine (cl _ hdr).mono ?_
    rintro e w4 ⟨g4, d4, c4, rfl, hg4, hr4, hb4⟩
    have hP4 := hP3.below hb4
    have y0 : w4.cell? ⟨K.J, 0, none⟩ = some K.vI := cell_blk hP4.hJ 0
    have yf := frz_blk hP4.hJ 0
    have lJ := blk_lt hP4.hJ
    have z0 := keep hb4 g0'
    have hJr : K.J ≠ w.heap.size := by have := blk_lt hP.hJ; omega
    obtain ⟨lab5, K5, hP5, hE5, hjb⟩ := PS_pop hP3 hj (w2 := w4.setCell ⟨K.J, 0, none⟩ (.slice (some ⟨g4, d4, none⟩) rest.length c4)) (heap_setCell_same w4 K.J 0 _ _ _ hP4.hJ) (hr4.far _ _ (by show g4 ≠ K.J; have := blk_lt hP3.hJ; omega)) hg4 ((Only.of_below hb4).trans (Only.set (M := fun x => x = K.J) w4 ⟨K.J, 0, none⟩ _ rfl) fun _ _ h => h)
    have lz := blk_lt z0
    have lr : lab5 w.heap.size = .rw := (hE5.lt.labs _ (blk_lt g0')).trans (up_same _ _)
    have z1 : (w4.setCell ⟨K.J, 0, none⟩ (.slice (some ⟨g4, d4, none⟩) rest.length c4)).heap[w.heap.size]? = _ := (heap_setCell_other _ _ _ _ (Ne.symm hJr)).trans z0
    have t2 := keep hb4 (hallocn w2 (.cells #[.int .i64 2, .slice (some ⟨r, d, none⟩) 3 c] 53))
    have t20 : w4.cell? ⟨w2.heap.size, 0, none⟩ = some (.int .i64 2) := cell_blk t2 0
    have t21 : w4.cell? ⟨w2.heap.size, 1, none⟩ = some (.slice (some ⟨r, d, none⟩) 3 c) := cell_blk t2 1
    have hJ2 : K.J ≠ w2.heap.size := by have := blk_lt hP.hJ; have := hB2.size; omega
    have f0 : w4.frozen? ⟨w.heap.size, 0, none⟩ = false := frz_blk z0 0
    have f1 : w4.frozen? ⟨w.heap.size, 1, none⟩ = false := frz_blk z0 1
    have u0 : w4.cell? ⟨w.heap.size, 0, none⟩ = some (.int .i64 0) := cell_blk z0 0
    have u1 : w4.cell? ⟨w.heap.size, 1, none⟩ = some (.slice none 0 0) := cell_blk z0 1
    have hr2 : w.heap.size ≠ w2.heap.size := by omega
    have hEf := (hEr.trans (Ext.below hB3) (Nat.le_refl _)).trans hE5 (Nat.le_refl _)
    go_wp2
    refine bodyPost_ret (results_row_tmp rfl _ _ w.heap.size 53 #[.int .i64 2, .slice (some ⟨r, d, none⟩) 3 c] (0, 0) _ rfl (heap_setCell_same _ _ 1 _ 53 _ (heap_setCell_same _ _ 0 _ 53 _ z1)) Tryz.underlying53 rfl i53) rfl ?_
    have hP6 := PS_wr (PS_wr hP5 lr 0 (.int .i64 2)) lr 1 (.slice (some ⟨r, d, none⟩) 3 c)
    have hl6 : Lt lab5 K5 (w4.setCell ⟨K.J, 0, none⟩ (.slice (some ⟨g4, d4, none⟩) rest.length c4)) lab5 K5 (((w4.setCell ⟨K.J, 0, none⟩ (.slice (some ⟨g4, d4, none⟩) rest.length c4)).setCell ⟨w.heap.size, 0, none⟩ (.int .i64 2)).setCell ⟨w.heap.size, 1, none⟩ (.slice (some ⟨r, d, none⟩) 3 c)) A.N :=
      ⟨by simp, fun _ _ => rfl, fun x hx hi => (heap_setCell_other _ _ _ _ (by rintro rfl; rw [lr] at hi; cases hi)).trans (heap_setCell_other _ _ _ _ (by rintro rfl; rw [lr] at hi; cases hi)), Nat.le_refl _, fun _ _ _ _ => rfl, fun _ _ => rfl⟩
    exact ⟨rfl, lab5, K5, hP6, Ext_wr (Ext_wr hEf (Nat.le_refl _) _ _) (Nat.le_refl _) _ _, hl6.jb (Nat.le_refl _) hjb⟩
  · have hdr : Row (w2.alloc (.cells #[.int .i64 2, .slice (some ⟨r, d, none⟩) 3 c] 53)) tJob 2 g (dd + 2) rest.length (cc - 1) (fun i c => K.I (i + 1) c) := by
      have := hrow.drop (k := 1) (by omega)
      rw [hlen] at this
      exact this
    have cl := fun W (h : Row W tJob 2 g (dd + 2) rest.length (cc - 1) fun i c => K.I (i + 1) c) => clone_calls h hone (by omega)
    go_wp2_with fail
    refine (cl _ hdr).mono ?_
    rintro e w4 ⟨g4, d4, c4, rfl, hg4, hr4, hb4⟩
    have hP4 := hP3.below hb4
    have y0 : w4.cell? ⟨K.J, 0, none⟩ = some K.vI := cell_blk hP4.hJ 0
    have yf := frz_blk hP4.hJ 0
    have lJ := blk_lt hP4.hJ
    have z0 := keep hb4 g0'
    have hJr : K.J ≠ w.heap.size := by have := blk_lt hP.hJ; omega
    obtain ⟨lab5, K5, hP5, hE5, hjb⟩ := PS_pop hP3 hj (w2 := w4.setCell ⟨K.J, 0, none⟩ (.slice (some ⟨g4, d4, none⟩) rest.length c4)) (heap_setCell_same w4 K.J 0 _ _ _ hP4.hJ) (hr4.far _ _ (by show g4 ≠ K.J; have := blk_lt hP3.hJ; omega)) hg4 ((Only.of_below hb4).trans (Only.set (M := fun x => x = K.J) w4 ⟨K.J, 0, none⟩ _ rfl) fun _ _ h => h)
    have lz := blk_lt z0
    have lr : lab5 w.heap.size = .rw := (hE5.lt.labs _ (blk_lt g0')).trans (up_same _ _)
    have z1 : (w4.setCell ⟨K.J, 0, none⟩ (.slice (some ⟨g4, d4, none⟩) rest.length c4)).heap[w.heap.size]? = _ := (heap_setCell_other _ _ _ _ (Ne.symm hJr)).trans z0
    have t2 := keep hb4 (hallocn w2 (.cells #[.int .i64 2, .slice (some ⟨r, d, none⟩) 3 c] 53))
    have t20 : w4.cell? ⟨w2.heap.size, 0, none⟩ = some (.int .i64 2) := cell_blk t2 0
    have t21 : w4.cell? ⟨w2.heap.size, 1, none⟩ = some (.slice (some ⟨r, d, none⟩) 3 c) := cell_blk t2 1
    have hJ2 : K.J ≠ w2.heap.size := by have := blk_lt hP.hJ; have := hB2.size; omega
    have f0 : w4.frozen? ⟨w.heap.size, 0, none⟩ = false := frz_blk z0 0
    have f1 : w4.frozen? ⟨w.heap.size, 1, none⟩ = false := frz_blk z0 1
    have u0 : w4.cell? ⟨w.heap.size, 0, none⟩ = some (.int .i64 0) := cell_blk z0 0
    have u1 : w4.cell? ⟨w.heap.size, 1, none⟩ = some (.slice none 0 0) := cell_blk z0 1
    have hr2 : w.heap.size ≠ w2.heap.size := by omega
    have hEf := (hEr.trans (Ext.below hB3) (Nat.le_refl _)).trans hE5 (Nat.le_refl _)
    go_wp2
    refine bodyPost_ret (results_row_tmp rfl _ _ w.heap.size 53 #[.int .i64 2, .slice (some ⟨r, d, none⟩) 3 c] (0, 0) _ rfl (heap_setCell_same _ _ 1 _ 53 _ (heap_setCell_same _ _ 0 _ 53 _ z1)) Tryz.underlying53 rfl i53) rfl ?_
    have hP6 := PS_wr (PS_wr hP5 lr 0 (.int .i64 2)) lr 1 (.slice (some ⟨r, d, none⟩) 3 c)
    have hl6 : Lt lab5 K5 (w4.setCell ⟨K.J, 0, none⟩ (.slice (some ⟨g4, d4, none⟩) rest.length c4)) lab5 K5 (((w4.setCell ⟨K.J, 0, none⟩ (.slice (some ⟨g4, d4, none⟩) rest.length c4)).setCell ⟨w.heap.size, 0, none⟩ (.int .i64 2)).setCell ⟨w.heap.size, 1, none⟩ (.slice (some ⟨r, d, none⟩) 3 c)) A.N :=
      ⟨by simp, fun _ _ => rfl, fun x hx hi => (heap_setCell_other _ _ _ _ (by rintro rfl; rw [lr] at hi; cases hi)).trans (heap_setCell_other _ _ _ _ (by rintro rfl; rw [lr] at hi; cases hi)), Nat.le_refl _, fun _ _ _ _ => rfl, fun _ _ => rfl⟩
    exact ⟨rfl, lab5, K5, hP6, Ext_wr (Ext_wr hEf (Nat.le_refl _) _ _) (Nat.le_refl _) _ _, hl6.jb (Nat.le_refl _) hjb⟩
end
end Go.Proofs.YtcceopgaiffkmaaGreatDoor

/- Begin of a job that passes a result on. -/
namespace Go.Proofs.YtcceopgaiffkmaaGreatDoor
open Go Go.RowKit Go.Pl
set_option maxRecDepth 100000
theorem truthy_calls (b : Bool) (w : World) : Calls Tryz.prog 49 #[.agg #[.int .i64 2, .int .i64 (if b then 1 else 0), .string ⟨#[]⟩, .int .i64 0]] w (fun e w' => e = .returned (.bool b) ∧ Below w.heap.size w w') := by
  cases b with
  | false =>
    simp only [Bool.false_eq_true, if_false]
    go_enter Tryz.func49, Tryz.ntmps49
    go_wp2
    go_ret
    exact ⟨rfl, (Below.refl w.heap.size w).alloc (Nat.le_refl _) _⟩
  | true =>
    simp only [if_true]
    go_enter Tryz.func49, Tryz.ntmps49
    go_wp2
    go_ret
    exact ⟨rfl, (Below.refl w.heap.size w).alloc (Nat.le_refl _) _⟩
section
variable {lab : Nat → Lab} {K : PK} {w : World} {A : Ab}
theorem nto_vok {v : VV} (h : VOk lab K w v) : NTo (.agg #[.int .i64 (pk v), .int .i64 (pn v), .string (ps v), .int .i64 (px v)]) v := by
  cases v with
  | flt e => exact nto_flt e
  | nv k n s =>
    intro W hT
    rcases h with ⟨hk, rfl, rfl⟩ | ⟨rfl, hn, rfl⟩ | ⟨rfl, rfl⟩ | ⟨rfl, rfl, hr, hs⟩
    · rcases hk with rfl | rfl
      · exact normal_calls 0 0 0 ⟨#[]⟩ (by decide) (by decide) W hT
      · exact normal_calls 1 0 0 ⟨#[]⟩ (by decide) (by decide) W hT
    · rcases hn with rfl | rfl
      · exact normal_calls 2 0 0 ⟨#[]⟩ (by decide) (by decide) W hT
      · exact normal_calls 2 1 0 ⟨#[]⟩ (by decide) (by decide) W hT
    · exact normal_calls 3 n 0 ⟨#[]⟩ (by decide) (by decide) W hT
    · have := normal_calls 4 0 0 s (by decide) (by omega) W hT
      have e : ns 4 s = s := by simp only [ns]; exact hr
      rw [e] at this
      exact this
set_option maxHeartbeats 2000000 in
theorem valid_calls (hP : PS lab K w A) (hn : K.n < 80000) {who : Nat} (hw : who < A.N) {r d c : Nat} (h0 : At4 w r d (ref (K.sl who))) :
    Calls Tryz.prog 46 #[.pointer (some ⟨K.H, 0, none⟩), .agg #[.int .i64 2, .slice (some ⟨r, d, none⟩) 3 c]] w (fun e w' => e = .returned (.bool true) ∧ Below w.heap.size w w') := by
  have hB := (Below.refl w.heap.size w).alloc (Nat.le_refl _) (.cells #[.int .i64 2, .slice (some ⟨r, d, none⟩) 3 c] 53)
  have t0 := keepc hB (h0 0 (by decide))
  have t1 := keepc hB (h0 1 (by decide))
  have t2 := keepc hB (h0 2 (by decide))
  have t3 := keepc hB (h0 3 (by decide))
  simp only [ref, Nat.add_zero] at t0 t1 t2 t3
  go_enter Tryz.func46, Tryz.ntmps46
  go_wp2_with fail
  refine (promAtP (hP.below hB) (by omega) hw).mono ?_
  rintro e w2 ⟨rfl, hb2⟩
  go_wp2
  go_ret
  exact ⟨rfl, below_then hB hb2⟩
/-- what a job does -/
def _root_.Go.Pl.Ab.act (A : Ab) (j : Jb) : Ab := if (A.pr j.who).st = 0 then A.settle j.who (if j.th then 2 else 1) j.v else A
set_option maxHeartbeats 4000000 in
theorem begin_calls (hP : PS lab K w A) (hT : Tabs K.w0) (hn : K.n < 80000) {j : Jb} {s0 : Nat → Value} (hj : JbOk lab K w s0 A.N j) {r d c : Nat} (h1 : s0 1 = .slice (some ⟨r, d, none⟩) 3 c) (hws : (A.pr j.who).ws.length ≤ 1000) (hjs : A.jobs.length ≤ 50000) (Sb : Nat) (pp : Value) (hS : w.cell? ⟨Sb, 0, none⟩ = some (.slice none 0 0)) :
    Calls Tryz.prog 22 #[.pointer (some ⟨Sb, 0, none⟩), .pointer (some ⟨K.H, 0, none⟩), pp, .pointer (some ⟨K.J, 0, none⟩), .agg #[.int .i64 2, .slice (some ⟨r, d, none⟩) 3 c]] w (fun e w' => e = .returned (.int .i64 0) ∧ ∃ lab' K', PS lab' K' w' (A.act j) ∧ Ext lab K w lab' K' w' A.N) := by
  obtain ⟨_, hw, hv, r', d', c', hs, _, a0, a4, a8⟩ := hj
  obtain ⟨rfl, rfl, rfl⟩ : r = r' ∧ d = d' ∧ c = c' := by
    rw [h1] at hs
    injection hs with e1 e2 e3
    injection e1 with e1
    injection e1 with e1 e4 e5
    exact ⟨e1, e4, e3⟩
  clear hs h1
  obtain ⟨A2, hA2⟩ : ∃ A2, A2 = A.act j := ⟨_, rfl⟩
  rw [← hA2]
  have hA2H : Hide (A2 = A.act j) := ⟨hA2⟩
  clear hA2
  have hB := (Below.refl w.heap.size w).alloc (Nat.le_refl _) (.cells #[.int .i64 2, .slice (some ⟨r, d, none⟩) 3 c] 53)
  have hP1 := hP.below hB
  have hS1 := keepc hB hS
  have sc := fun W (hC : Below w.heap.size w W) (h0 : (A.pr j.who).st = 0) => settle_calls (hP.below hC) hT hw h0 j.th ((Lt.below (N := A.N) hC).vok hv) (pk j.v) (pn j.v) (px j.v) (ps j.v) (nto_vok hv) hws hjs (if j.th then 2 else 1) (if j.th then 2 else 1) rfl (by cases j.th <;> rfl)
  go_enter Tryz.func22, Tryz.ntmps22
  go_wp2_with fail
  refine (valid_calls hP1 hn hw (fun c hc => keepc hB (a0 c hc))).mono ?_
  rintro e w2 ⟨rfl, hb2⟩
  obtain ⟨g0, hB2, hz⟩ := boxes1 hb2
  have b0 : w2.cell? ⟨w.heap.size, 0, none⟩ = some (.int .i64 2) := cell_blk g0 0
  have b1 : w2.cell? ⟨w.heap.size, 1, none⟩ = some (.slice (some ⟨r, d, none⟩) 3 c) := cell_blk g0 1
  have t0 := keepc hB2 (a0 0 (by decide))
  have t1 := keepc hB2 (a0 1 (by decide))
  have t2 := keepc hB2 (a0 2 (by decide))
  have t3 := keepc hB2 (a0 3 (by decide))
  simp only [ref, Nat.add_zero] at t0 t1 t2 t3
  go_wp2_with fail
  refine (promAtP (hP.below hB2) (by omega) hw).mono ?_
  rintro e w3 ⟨rfl, hb3⟩
  have hB3 := below_then hB2 hb3
  have hP3 := hP.below hB3
  obtain ⟨_, x8, _, _⟩ := hP3.look hw
  have u0 := keepc hB3 (a4 0 (by decide))
  have u1 := keepc hB3 (a4 1 (by decide))
  have u2 := keepc hB3 (a4 2 (by decide))
  have u3 := keepc hB3 (a4 3 (by decide))
  rw [pv0] at u0
  rw [pv1] at u1
  rw [pv2] at u2
  rw [pv3] at u3
  have v0 := keepc hB3 (a8 0 (by decide))
  have v1 := keepc hB3 (a8 1 (by decide))
  have v2 := keepc hB3 (a8 2 (by decide))
  have v3 := keepc hB3 (a8 3 (by decide))
  clear b0 b1 t0 t1 t2 t3 hS1
  by_cases h0 : (A.pr j.who).st = 0
  · cases hth : j.th with
    | false =>
      have e1 : A2 = A.settle j.who 1 j.v := by
        rw [hA2H.out, Ab.act, if_pos h0, hth]
        rfl
      rw [hth] at v1 sc
      have v1 : w3.cell? ⟨r, d + 8 + 1, none⟩ = some (.int .i64 0) := v1
      have v0 : w3.cell? ⟨r, d + 8, none⟩ = some (.int .i64 2) := v0
      have v2 : w3.cell? ⟨r, d + 8 + 2, none⟩ = some (.string ⟨#[]⟩) := v2
      have v3 : w3.cell? ⟨r, d + 8 + 3, none⟩ = some (.int .i64 0) := v3
      have sc' := fun W hC => sc W hC h0
      simp only [Bool.false_eq_true, if_false] at sc'
      rw [← e1] at sc'
      rw [h0] at x8
      have tc := truthy_calls false w3
      simp only [Bool.false_eq_true, if_false] at tc
      clear sc h0 e1 hA2H
      go_wp2_with fail
      refine tc.mono ?_
      rintro e w4 ⟨rfl, hb4⟩
      have hB4 := below_then hB3 hb4
      have y0 := keepc hb4 u0
      have y1 := keepc hb4 u1
      have y2 := keepc hb4 u2
      have y3 := keepc hb4 u3
      clear u0 u1 u2 u3 v0 v1 v2 v3 tc
      go_wp2_with fail
      refine (sc' w4 hB4).mono ?_
      rintro e w5 ⟨rfl, lab', K', h1, h2⟩
      go_wp2
      go_ret
      exact ⟨rfl, lab', K', h1, (Ext.below hB4).trans h2 (Nat.le_refl _)⟩
    | true =>
      have e1 : A2 = A.settle j.who 2 j.v := by
        rw [hA2H.out, Ab.act, if_pos h0, hth]
        rfl
      rw [hth] at v1 sc
      have v1 : w3.cell? ⟨r, d + 8 + 1, none⟩ = some (.int .i64 1) := v1
      have v0 : w3.cell? ⟨r, d + 8, none⟩ = some (.int .i64 2) := v0
      have v2 : w3.cell? ⟨r, d + 8 + 2, none⟩ = some (.string ⟨#[]⟩) := v2
      have v3 : w3.cell? ⟨r, d + 8 + 3, none⟩ = some (.int .i64 0) := v3
      have sc' := fun W hC => sc W hC h0
      simp only [if_true] at sc'
      rw [← e1] at sc'
      rw [h0] at x8
      have tc := truthy_calls true w3
      simp only [if_true] at tc
      clear sc h0 e1 hA2H
      go_wp2_with fail
      refine tc.mono ?_
      rintro e w4 ⟨rfl, hb4⟩
      have hB4 := below_then hB3 hb4
      have y0 := keepc hb4 u0
      have y1 := keepc hb4 u1
      have y2 := keepc hb4 u2
      have y3 := keepc hb4 u3
      clear u0 u1 u2 u3 v0 v1 v2 v3 tc
      go_wp2_with fail
      refine (sc' w4 hB4).mono ?_
      rintro e w5 ⟨rfl, lab', K', h1, h2⟩
      go_wp2
      go_ret
      exact ⟨rfl, lab', K', h1, (Ext.below hB4).trans h2 (Nat.le_refl _)⟩
  · have e1 : A2 = A := by rw [hA2H.out, Ab.act, if_neg h0]
    have hP3' : PS lab K w3 A2 := by rw [e1]; exact hP3
    have hz0 : (((A.pr j.who).st : Int) == 0) = false := by simpa using h0
    clear sc e1 h0 u0 u1 u2 u3 v0 v1 v2 v3 hA2H
    generalize (A.pr j.who).st = st at *
    go_wp2_with fail
    go_ret
    exact ⟨rfl, lab, K, hP3', Ext.below hB3⟩
end
end Go.Proofs.YtcceopgaiffkmaaGreatDoor

/- The reference's part of memory. -/
namespace Go.Pl
open Go.RowKit Go.Proofs.YtcceopgaiffkmaaGreatDoor
section
variable {P : Program} (w : World)
/-- an append to a slice that is there: of nothing, too -/
theorem run_append_sl0 (t tx ty e : TypeId) (i : TypeInfo) (z : Value) (size bytes : Nat) (ht : P.underlying t = some (.slice e)) (hi : P.info? e = some i) (hz : i.zero = some z)
    (hsize : i.size = size) (hby : i.bytes = bytes) (hzs : z.cells.size = size)
    (L : Nat → Prop) (b off n c : Nat) (f : Nat → Nat → Value) (hL : L b) (hrow : Row w e size b off n c f)
    (x : Value) (m : Nat) (news : List Value) (hs : Src P size tx x m news w) (h63 : n + m ≤ 1000000) (hbytes : bytes ≤ 1000) :
    ∃ g d' cap' w', (Builtin.append_ #[t, tx] ty #[.slice (some ⟨b, off, none⟩) n c, x]).run P w = .ok (.slice (some ⟨g, d', none⟩) (n + m) cap') w' ∧
      Row w' e size g d' (n + m) cap' (app size n f news) ∧ w.grownBy w' (some b) ∧ ((g = b ∧ L g) ∨ g = w.heap.size) := by
  rcases Nat.eq_zero_or_pos m with rfl | hm
  · have hn : news = [] := List.eq_nil_of_length_eq_zero (by rw [hs.newsLen]; simp)
    subst hn
    have hnc : n ≤ c := hrow.1
    have := run_append_room_src (P := P) w t tx ty e i ht hi b off n c x 0 [] (by rw [hsize]; exact hs) (by omega) (fun j hj => absurd hj (Nat.not_lt_zero _)) (fun j hj => absurd hj (Nat.not_lt_zero _))
    refine ⟨b, off, c, w, by simpa [World.setCells] using this, hrow.eqf fun i c hi _ => ?_, ⟨rfl, rfl, rfl, Nat.le_refl _, fun _ _ _ => rfl⟩, .inl ⟨rfl, hL⟩⟩
    simp only [app]
    rw [if_pos (by omega)]
  · obtain ⟨g, d', cap', w', h1, h2, h3, h4⟩ := run_append_sl (P := P) w t tx ty e i z size bytes ht hi hz hsize hby hzs L (.slice (some ⟨b, off, none⟩) n c) n f (.inr ⟨b, off, c, rfl, hL, hrow⟩) x m news hs hm h63 hbytes
    exact ⟨g, d', cap', w', h1, h2, h3, h4.imp (fun ⟨a, b⟩ => ⟨(Option.some.inj a).symm, b⟩) id⟩
theorem wp_append_sl0 {o : Oper} {a : Act} {K : Act → World → Prop} {Q : Exit → Act → World → Prop} (s y : Operand) (t tx : TypeId)
    (ho : o.op = .call { callee := .builtin .append, args := #[s, y], argTypes := #[t, tx] })
    (e : TypeId) (i : TypeInfo) (z : Value) (size bytes : Nat) (ht : P.underlying t = some (.slice e)) (hi : P.info? e = some i) (hz : i.zero = some z)
    (hsize : i.size = size) (hby : i.bytes = bytes) (hzs : z.cells.size = size)
    (L : Nat → Prop) (b off n c : Nat) (f : Nat → Nat → Value) (hv : a.eval s = .slice (some ⟨b, off, none⟩) n c) (hL : L b) (hrow : Row w e size b off n c f)
    (x : Value) (m : Nat) (news : List Value) (hx : a.eval y = x) (hs : Src P size tx x m news w) (h63 : n + m ≤ 1000000) (hbytes : bytes ≤ 1000) (H : Nat) (hH : w.heap.size = H)
    (h : ∀ g d' cap' w', Row w' e size g d' (n + m) cap' (app size n f news) → w.grownBy w' (some b) → ((g = b ∧ L g) ∨ g = H) → K (a.put o.dst (.slice (some ⟨g, d', none⟩) (n + m) cap')) w') : o.wp P a w K Q := by
  obtain ⟨g, d', cap', w', hr, h2, h3, h5⟩ := run_append_sl0 (P := P) w t tx o.type e i z size bytes ht hi hz hsize hby hzs L b off n c f hL hrow x m news hs h63 hbytes
  unfold Oper.wp execOp
  simp only [ho, resolve, invoke, builtin, Sem.run_bind, Sem.run_pure, Result.andThen_ok, List.map_toArray, List.map_cons, List.map_nil, hv, hx, hr]
  exact h g d' cap' w' h2 h3 (hH ▸ h5)
theorem wpList_append_sl0 {ops : Array Oper} {rest : List Oper} {o : Oper} {a : Act} {Q : Exit → Act → World → Prop} (hgd : o.guard = none) (s y : Operand) (t tx : TypeId)
    (ho : o.op = .call { callee := .builtin .append, args := #[s, y], argTypes := #[t, tx] })
    (e : TypeId) (i : TypeInfo) (z : Value) (size bytes : Nat) (ht : P.underlying t = some (.slice e)) (hi : P.info? e = some i) (hz : i.zero = some z)
    (hsize : i.size = size) (hby : i.bytes = bytes) (hzs : z.cells.size = size)
    (L : Nat → Prop) (b off n c : Nat) (f : Nat → Nat → Value) (hv : a.eval s = .slice (some ⟨b, off, none⟩) n c) (hL : L b) (hrow : Row w e size b off n c f)
    (x : Value) (m : Nat) (news : List Value) (hx : a.eval y = x) (hs : Src P size tx x m news w) (h63 : n + m ≤ 1000000) (hbytes : bytes ≤ 1000) (H : Nat) (hH : w.heap.size = H)
    (h : ∀ g d' cap' w', Row w' e size g d' (n + m) cap' (app size n f news) → w.grownBy w' (some b) → ((g = b ∧ L g) ∨ g = H) → wpList P ops Q rest (a.put o.dst (.slice (some ⟨g, d', none⟩) (n + m) cap')) w') : wpList P ops Q (o :: rest) a w :=
  wpList_plain hgd fun _ hK => wp_append_sl0 w s y t tx ho e i z size bytes ht hi hz hsize hby hzs L b off n c f hv hL hrow x m news hx hs h63 hbytes H hH fun g d' cap' w' h2 h3 h4 => hK _ _ (h g d' cap' w' h2 h3 h4)
theorem step_append_sl0 {ops : Array Oper} {o : Oper} {a : Act} {K : Act → World → Prop} {Q : Exit → Act → World → Prop} {E : Prop} (hgd : o.guard = none) (s y : Operand) (t tx : TypeId)
    (ho : o.op = .call { callee := .builtin .append, args := #[s, y], argTypes := #[t, tx] })
    (e : TypeId) (i : TypeInfo) (z : Value) (size bytes : Nat) (ht : P.underlying t = some (.slice e)) (hi : P.info? e = some i) (hz : i.zero = some z)
    (hsize : i.size = size) (hby : i.bytes = bytes) (hzs : z.cells.size = size)
    (L : Nat → Prop) (b off n c : Nat) (f : Nat → Nat → Value) (hv : a.eval s = .slice (some ⟨b, off, none⟩) n c) (hL : L b) (hrow : Row w e size b off n c f)
    (x : Value) (m : Nat) (news : List Value) (hx : a.eval y = x) (hs : Src P size tx x m news w) (h63 : n + m ≤ 1000000) (hbytes : bytes ≤ 1000) (H : Nat) (hH : w.heap.size = H)
    (h : ∀ g d' cap' w', Row w' e size g d' (n + m) cap' (app size n f news) → w.grownBy w' (some b) → ((g = b ∧ L g) ∨ g = H) → K (a.put o.dst (.slice (some ⟨g, d', none⟩) (n + m) cap')) w') :
    if Region.wanted o (yielded ops a.tmps) = true then Oper.wp P o a w K Q else E := by
  have hw : Region.wanted o (yielded ops a.tmps) = true := by simp [Region.wanted, hgd]
  rw [if_pos hw]
  exact wp_append_sl0 w s y t tx ho e i z size bytes ht hi hz hsize hby hzs L b off n c f hv hL hrow x m news hx hs h63 hbytes H hH h
end
/-- an empty row -/
theorem row_empty {w : World} {e : TypeId} (size : Nat) {b : Nat} {f : Nat → Nat → Value} (h : w.heap[b]? = some (.cells #[] e (0, 0))) : Row w e size b 0 0 0 f :=
  ⟨Nat.le_refl _, #[], h, by simp, fun i c hi => absurd hi (Nat.not_lt_zero _)⟩
structure RK where
  R : Nat
  vL : Value
  Lf : Nat → Nat → Value
  vJ : Value
  Jf : Nat → Nat → Value
/-- the cells of a job -/
def rjc (j : Jb) : Nat → Value := fun c => match c with | 0 => .int .i64 ((j.who : Int) + 1) | 5 => .bool j.th | c + 1 => rv j.v c
def wsf (ws : List Nat) : Nat → Nat → Value := fun i _ => .int .i64 (((ws[i]?.getD 0 : Nat) : Int) + 1)
section
variable (lab : Nat → Lab) (K : RK) (w : World)
def RPm (s : Nat → Value) (x : Pm) : Prop := s 0 = .int .i64 x.st ∧ (∀ c, c < 4 → s (1 + c) = rv x.v c) ∧ s 5 = .bool x.lk ∧ Sl w (fun r => lab r = .imm) tInt 1 (s 6) x.ws.length (wsf x.ws)
structure RS (A : Ab) : Prop where
  hR : w.heap[K.R]? = some (.cells #[K.vL, K.vJ, .int .i64 6, .int .i64 0, .string ⟨#[]⟩, .int .i64 0, .slice none 0 0] tWorld (0, 0))
  lR : lab K.R = .rw
  L : Sl w (fun r => lab r = .rl) tPm 7 K.vL A.N K.Lf
  pm : ∀ p, p < A.N → RPm lab w (K.Lf p) (A.pr p)
  J : Sl w (fun r => lab r = .rj) tRJ 6 K.vJ A.jobs.length K.Jf
  jb : ∀ (k : Nat) (j : Jb), A.jobs[k]? = some j → ∀ c, c < 6 → K.Jf k c = rjc j c
  new : ∀ r, w.heap.size ≤ r → lab r = .imm
end
/-- what a step of the reference leaves -/
structure RExt (lab : Nat → Lab) (K : RK) (w : World) (lab' : Nat → Lab) (K' : RK) (w' : World) : Prop where
  os : w'.os = w.os
  tape : w'.tape = w.tape
  output : w'.output = w.output
  size : w.heap.size ≤ w'.heap.size
  labs : ∀ r, r < w.heap.size → lab' r = lab r
  eR : K'.R = K.R
  blk : ∀ r, r < w.heap.size → r ≠ K.R → lab r ≠ .rl → lab r ≠ .rj → w'.heap[r]? = w.heap[r]?
section
variable {lab lab' lab2 : Nat → Lab} {K K' K2 : RK} {w w' w2 : World} {A A' : Ab}
theorem RExt.refl : RExt lab K w lab K w := ⟨rfl, rfl, rfl, Nat.le_refl _, fun _ _ => rfl, rfl, fun _ _ _ _ _ => rfl⟩
theorem RExt.trans (h : RExt lab K w lab' K' w') (h2 : RExt lab' K' w' lab2 K2 w2) : RExt lab K w lab2 K2 w2 :=
  ⟨h2.os.trans h.os, h2.tape.trans h.tape, h2.output.trans h.output, Nat.le_trans h.size h2.size, fun r hr => (h2.labs r (Nat.lt_of_lt_of_le hr h.size)).trans (h.labs r hr), h2.eR.trans h.eR, fun r hr a b c =>
    (h2.blk r (Nat.lt_of_lt_of_le hr h.size) (by rw [h.eR]; exact a) (by rw [h.labs r hr]; exact b) (by rw [h.labs r hr]; exact c)).trans (h.blk r hr a b c)⟩
theorem RExt.below (h : Below w.heap.size w w') : RExt lab K w lab K w' := ⟨h.os, h.tape, h.output, h.size, fun _ _ => rfl, rfl, fun r hr _ _ _ => h.block r hr⟩
theorem RPm.frame {s : Nat → Value} {x : Pm} (h : RPm lab w s x) (hb : ∀ r, r < w.heap.size → lab r = .imm → w'.heap[r]? = w.heap[r]?) (hl : ∀ r, r < w.heap.size → lab r = .imm → lab' r = .imm) : RPm lab' w' s x :=
  ⟨h.1, h.2.1, h.2.2.1, h.2.2.2.same hb hl⟩
theorem RPm.congr {s s' : Nat → Value} {x : Pm} (h : RPm lab w s x) (h' : ∀ c, c < 7 → s' c = s c) : RPm lab w s' x := by
  obtain ⟨a, b, c, d⟩ := h
  refine ⟨(h' 0 (by decide)).trans a, fun i hi => (h' (1 + i) (by omega)).trans (b i hi), (h' 5 (by decide)).trans c, ?_⟩
  rw [h' 6 (by decide)]
  exact d
/-- memory elsewhere changes -/
theorem RS.frame (h : RS lab K w A) (hl : ∀ r, r < w.heap.size → lab' r = lab r) (hn : ∀ r, w'.heap.size ≤ r → lab' r = .imm) (hb : ∀ r, r < w.heap.size → lab r = .rw ∨ lab r = .rl ∨ lab r = .rj ∨ lab r = .imm → w'.heap[r]? = w.heap[r]?) : RS lab' K w' A := by
  have lR := blk_lt h.hR
  exact ⟨(hb _ lR (.inl h.lR)).trans h.hR, (hl _ lR).trans h.lR, h.L.same (fun r hr he => hb r hr (.inr (.inl he))) (fun r hr he => (hl r hr).trans he), fun p hp => (h.pm p hp).frame (fun r hr he => hb r hr (.inr (.inr (.inr he)))) (fun r hr he => (hl r hr).trans he),
    h.J.same (fun r hr he => hb r hr (.inr (.inr (.inl he)))) (fun r hr he => (hl r hr).trans he), h.jb, hn⟩
theorem RS.below (h : RS lab K w A) (hb : Below w.heap.size w w') : RS lab K w' A := h.frame (fun _ _ => rfl) (fun r hr => h.new r (Nat.le_trans hb.size hr)) (fun r hr _ => hb.block r hr)
/-- a promise's record is rewritten -/
theorem RS.setL (h : RS lab K w A) {p : Nat} (hp : p < A.N) {x : Pm} {Lf' : Nat → Nat → Value} {g d c : Nat} (hv : K.vL = .slice (some ⟨g, d, none⟩) A.N c) (hg : lab g = .rl) (hlab : ∀ r, r < w.heap.size → lab' r = lab r) (hnew : ∀ r, w'.heap.size ≤ r → lab' r = .imm)
    (hO : Only (fun r => r = g) w w') (hrow : Row w' tPm 7 g d A.N c Lf') (hL : ∀ i c, i ≠ p → Lf' i c = K.Lf i c) (hx : RPm lab' w' (Lf' p) x) : RS lab' { K with Lf := Lf' } w' (A.put p x) ∧ RExt lab K w lab' { K with Lf := Lf' } w' := by
  have keep : ∀ r, r < w.heap.size → lab r ≠ .rl → w'.heap[r]? = w.heap[r]? := fun r hr h1 => hO.block r hr (fun he => h1 (he ▸ hg))
  have lR := blk_lt h.hR
  have gl : g < w.heap.size := by
    obtain ⟨r, d0, c0, e, _, hr⟩ := h.L.pos (by omega)
    rw [hv] at e
    cases e
    exact hr.lt
  refine ⟨⟨(keep _ lR (by rw [h.lR]; intro h; cases h)).trans h.hR, (hlab _ lR).trans h.lR, .inr ⟨g, d, c, hv, (hlab _ gl).trans hg, hrow⟩, fun q hq => ?_, h.J.same (fun r hr he => keep r hr (by rw [he]; intro h; cases h)) (fun r hr he => (hlab r hr).trans he), h.jb, hnew⟩, hO.os, hO.tape, hO.output, hO.size, hlab, rfl, fun r hr _ h1 _ => keep r hr h1⟩
  show RPm lab' w' (Lf' q) (if q = p then x else A.pr q)
  by_cases hqp : q = p
  · subst hqp
    rw [if_pos rfl]
    exact hx
  · rw [if_neg hqp]
    exact ((h.pm q hq).frame (fun r hr he => keep r hr (by rw [he]; intro h; cases h)) (fun r hr he => (hlab r hr).trans he)).congr fun c _ => hL q c hqp
/-- a job more -/
theorem RS.push (h : RS lab K w A) {j : Jb} {g d' cap' : Nat} {news : List Value} (hn : ∀ c, c < 6 → (news[c]?).getD (.bool false) = rjc j c)
    (hR : w'.heap[K.R]? = some (.cells #[K.vL, .slice (some ⟨g, d', none⟩) (A.jobs.length + 1) cap', .int .i64 6, .int .i64 0, .string ⟨#[]⟩, .int .i64 0, .slice none 0 0] tWorld (0, 0)))
    (hrow : Row w' tRJ 6 g d' (A.jobs.length + 1) cap' (app 6 A.jobs.length K.Jf news)) (hg : (lab g = .rj ∧ g < w.heap.size) ∨ w.heap.size ≤ g) (hO : Only (fun x => x = K.R ∨ K.vJ.ownBlock = some x) w w') :
    ∃ lab' K', RS lab' K' w' (A.push j) ∧ RExt lab K w lab' K' w' := by
  have hlab : ∀ r, r < w.heap.size → up lab g .rj r = lab r := fun r hr => up_lt (by
    rcases hg with h | h
    · exact .inl h.1
    · right; omega)
  have keep : ∀ r, r < w.heap.size → r ≠ K.R → lab r ≠ .rj → w'.heap[r]? = w.heap[r]? := fun r hr h1 h2 => hO.block r hr (by
    rintro (he | he)
    · exact h1 he
    · exact h2 (h.J.own he).1)
  have lR := blk_lt h.hR
  have ne : ∀ r, lab r ≠ .rw → r ≠ K.R := fun r hr he => hr (he ▸ h.lR)
  have hsz := hO.size
  have hgl := hrow.lt
  have kim : ∀ r, r < w.heap.size → lab r = .imm → w'.heap[r]? = w.heap[r]? := fun r hr he => keep r hr (ne r (by rw [he]; intro h; cases h)) (by rw [he]; intro h; cases h)
  refine ⟨up lab g .rj, { K with vJ := .slice (some ⟨g, d', none⟩) (A.jobs.length + 1) cap', Jf := app 6 A.jobs.length K.Jf news }, ⟨hR, (hlab _ lR).trans h.lR, h.L.same (fun r hr he => keep r hr (ne r (by rw [he]; intro h; cases h)) (by rw [he]; intro h; cases h)) (fun r hr he => (hlab r hr).trans he), fun p hp => (h.pm p hp).frame kim (fun r hr he => (hlab r hr).trans he), ?_, fun k j' hk c hc => ?_, fun r hr => ?_⟩, hO.os, hO.tape, hO.output, hO.size, hlab, rfl, fun r hr h1 _ h2 => keep r hr h1 h2⟩
  · show Sl w' _ tRJ 6 _ (A.jobs ++ [j]).length _
    rw [List.length_append]
    exact .inr ⟨g, d', cap', rfl, up_same _ _, hrow⟩
  · have hk : (A.jobs ++ [j])[k]? = some j' := hk
    show app 6 A.jobs.length K.Jf news k c = rjc j' c
    by_cases hlt : k < A.jobs.length
    · rw [List.getElem?_append_left hlt] at hk
      simp only [app]
      rw [if_pos hlt]
      exact h.jb k j' hk c hc
    · rw [List.getElem?_append_right (by omega)] at hk
      obtain rfl : k = A.jobs.length := by
        have := (List.getElem?_eq_some_iff.1 hk).1
        simp at this
        omega
      rw [Nat.sub_self] at hk
      obtain rfl : j = j' := Option.some.inj hk
      simp only [app]
      rw [if_neg (Nat.lt_irrefl _), Nat.sub_self, Nat.zero_mul, Nat.zero_add]
      exact hn c hc
  · rw [up_lt (.inr (by omega))]
    exact h.new r (by omega)
end
end Go.Pl
