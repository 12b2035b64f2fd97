/- PromisePlays: the reference's settle, Has and New, walked. Condition: the bounds that each theorem names. -/
import Derived.Test.YtcceopgaiffkmaaGreatDoorPlF
/- The reference's settle. -/
namespace Go.Proofs.YtcceopgaiffkmaaGreatDoor
open Go Go.RowKit Go.Pl
set_option maxRecDepth 100000
def rk : VV → Int | .nv k _ _ => k | .flt _ => 6
def rn : VV → Int | .nv _ n _ => n | .flt _ => 0
def rs : VV → ByteArray | .nv _ _ s => s | .flt _ => ⟨#[]⟩
theorem rv0 (v : VV) : rv v 0 = .int .i64 (rk v) := by cases v <;> rfl
theorem rv1 (v : VV) : rv v 1 = .int .i64 (rn v) := by cases v <;> rfl
theorem rv2 (v : VV) : rv v 2 = .string (rs v) := by cases v <;> rfl
theorem rv3 (v : VV) : rv v 3 = .int .i64 0 := by cases v <;> rfl
theorem z93 : ∃ i0 z, Tryz.prog.info? 93 = some i0 ∧ i0.zero = some z ∧ i0.size = 6 ∧ i0.bytes ≤ 1000 ∧ z.cells.size = 6 := zinfo (by kernel_rfl)
theorem z58 : ∃ i0 z, Tryz.prog.info? 58 = some i0 ∧ i0.zero = some z ∧ i0.size = 7 ∧ i0.bytes ≤ 1000 ∧ z.cells.size = 7 := zinfo (by kernel_rfl)
theorem z3 : ∃ i0 z, Tryz.prog.info? 3 = some i0 ∧ i0.zero = some z ∧ i0.size = 1 ∧ i0.bytes ≤ 1000 ∧ z.cells.size = 1 := zinfo (by kernel_rfl)
/-- the cells of a job -/
def jcells (who : Nat) (v : VV) (b : Bool) : List Value := [.int .i64 ((who : Int) + 1), .int .i64 (rk v), .int .i64 (rn v), .string (rs v), .int .i64 0, .bool b]
theorem jcells_ok (who : Nat) (v : VV) (b : Bool) : ∀ c, c < 6 → ((jcells who v b)[c]?).getD (.bool false) = rjc ⟨who, v, b⟩ c := fun c hc => by
  match c, hc with
  | 0, _ => rfl
  | 1, _ => exact (rv0 v).symm
  | 2, _ => exact (rv1 v).symm
  | 3, _ => exact (rv2 v).symm
  | 4, _ => exact (rv3 v).symm
  | 5, _ => rfl
theorem onlyset {M : Nat → Prop} {w w1 : World} (h : Only M w w1) {r : Nat} (hr : M r) (k : Nat) (x : Value) : Only M w (w1.setCell ⟨r, k, none⟩ x) := h.trans (Only.set w1 ⟨r, k, none⟩ x hr) fun _ _ h => h
theorem row_drew {w : World} {e : TypeId} {size r d n cap : Nat} {f : Nat → Nat → Value} (h : Row w e size r d n cap f) : Row w.drew e size r d n cap f := h.same rfl
theorem rstore {lab : Nat → Lab} {K : RK} {W1 : World} {A : Ab} (h : RS lab K W1 A) {p : Nat} (hp : p < A.N) {g d cp : Nat} (hv : K.vL = .slice (some ⟨g, d, none⟩) A.N cp) (hg : lab g = .rl) (hrow : Row W1 tPm 7 g d A.N cp K.Lf) (cN : Nat) (c : Int) (hc : c = cN) (v : VV) :
    ∃ K1, RS lab K1 ((((((((W1.setCell ⟨g, d + p * 7, none⟩ (.int .i64 c)).setCell ⟨g, d + p * 7 + 1, none⟩ (.int .i64 (rk v))).setCell ⟨g, d + p * 7 + 2, none⟩ (.int .i64 (rn v))).setCell ⟨g, d + p * 7 + 3, none⟩ (.string (rs v))).setCell ⟨g, d + p * 7 + 4, none⟩ (.int .i64 0)).setCell ⟨g, d + p * 7 + 5, none⟩ (.bool false)).setCell ⟨g, d + p * 7 + 6, none⟩ (.slice none 0 0)).drew) (A.put p ⟨cN, false, v, []⟩) ∧ RExt lab K W1 lab K1 ((((((((W1.setCell ⟨g, d + p * 7, none⟩ (.int .i64 c)).setCell ⟨g, d + p * 7 + 1, none⟩ (.int .i64 (rk v))).setCell ⟨g, d + p * 7 + 2, none⟩ (.int .i64 (rn v))).setCell ⟨g, d + p * 7 + 3, none⟩ (.string (rs v))).setCell ⟨g, d + p * 7 + 4, none⟩ (.int .i64 0)).setCell ⟨g, d + p * 7 + 5, none⟩ (.bool false)).setCell ⟨g, d + p * 7 + 6, none⟩ (.slice none 0 0)).drew) ∧ Only (fun r => r = g) W1 ((((((((W1.setCell ⟨g, d + p * 7, none⟩ (.int .i64 c)).setCell ⟨g, d + p * 7 + 1, none⟩ (.int .i64 (rk v))).setCell ⟨g, d + p * 7 + 2, none⟩ (.int .i64 (rn v))).setCell ⟨g, d + p * 7 + 3, none⟩ (.string (rs v))).setCell ⟨g, d + p * 7 + 4, none⟩ (.int .i64 0)).setCell ⟨g, d + p * 7 + 5, none⟩ (.bool false)).setCell ⟨g, d + p * 7 + 6, none⟩ (.slice none 0 0)).drew) ∧ K1.vJ = K.vJ := by
  have hO : Only (fun r => r = g) W1 ((((((((W1.setCell ⟨g, d + p * 7, none⟩ (.int .i64 c)).setCell ⟨g, d + p * 7 + 1, none⟩ (.int .i64 (rk v))).setCell ⟨g, d + p * 7 + 2, none⟩ (.int .i64 (rn v))).setCell ⟨g, d + p * 7 + 3, none⟩ (.string (rs v))).setCell ⟨g, d + p * 7 + 4, none⟩ (.int .i64 0)).setCell ⟨g, d + p * 7 + 5, none⟩ (.bool false)).setCell ⟨g, d + p * 7 + 6, none⟩ (.slice none 0 0)).drew) := by
    refine Only.trans (M' := fun r => r = g) ?_ (Only.drew _ _) fun _ _ h => h
    iterate 7 (refine onlyset (M := fun r => r = g) (r := g) ?_ rfl _ _)
    exact Only.refl _ _
  have r1 := ((((((hrow.set hp (show 0 < 7 by decide) (.int .i64 c)).set hp (show 1 < 7 by decide) (.int .i64 (rk v))).set hp (show 2 < 7 by decide) (.int .i64 (rn v))).set hp (show 3 < 7 by decide) (.string (rs v))).set hp (show 4 < 7 by decide) (.int .i64 0)).set hp (show 5 < 7 by decide) (.bool false)).set hp (show 6 < 7 by decide) (.slice none 0 0)
  rw [Nat.add_zero] at r1
  have r2 := row_drew r1
  clear r1
  obtain ⟨h1, h2⟩ := h.setL (lab' := lab) hp (x := ⟨cN, false, v, []⟩) hv hg (fun _ _ => rfl) (fun r hr => h.new r (Nat.le_trans hO.size hr)) hO r2 (fun i c hne => by simp [hne]) (by
    refine ⟨by simp [hc], fun i hi => ?_, by simp, .inl ⟨by simp, rfl⟩⟩
    match i, hi with
    | 0, _ => rw [rv0]; simp
    | 1, _ => rw [rv1]; simp
    | 2, _ => rw [rv2]; simp
    | 3, _ => rw [rv3]; simp)
  exact ⟨_, h1, h2, hO, rfl⟩
theorem rjob_push {lab : Nat → Lab} {K : RK} {wr w1 : World} {A : Ab} (hP : RS lab K wr A) {who : Nat} {v : VV} {b : Bool} {o : Obj} {g d cap n : Nat} (hn : A.jobs.length = n) (hrow : Row w1 tRJ 6 g d (n + 1) cap (app 6 n K.Jf (jcells who v b))) (hgrow : (wr.alloc o).drew.grownBy w1 K.vJ.ownBlock) (hat : (K.vJ.ownBlock = some g ∧ lab g = .rj) ∨ g = (wr.alloc o).drew.heap.size) :
    ∃ lab' K', RS lab' K' (w1.setCell ⟨K.R, 1, none⟩ (.slice (some ⟨g, d, none⟩) (n + 1) cap)) (A.push ⟨who, v, b⟩) ∧ RExt lab K wr lab' K' (w1.setCell ⟨K.R, 1, none⟩ (.slice (some ⟨g, d, none⟩) (n + 1) cap)) := by
  subst hn
  have lR := blk_lt hP.hR
  have sza : (wr.alloc o).drew.heap.size = wr.heap.size + 1 := by show (wr.alloc o).heap.size = _; simp
  have hsz := hgrow.size
  have hRne : K.vJ.ownBlock ≠ some K.R := fun h => by
    have := (hP.J.own h).1
    rw [hP.lR] at this; cases this
  have hg : (lab g = .rj ∧ g < wr.heap.size) ∨ wr.heap.size ≤ g := by
    rcases hat with ⟨h1, h2⟩ | h
    · exact .inl ⟨h2, (hP.J.own h1).2⟩
    · right; omega
  have hgR : g ≠ K.R := by
    rintro rfl
    rcases hg with ⟨h, _⟩ | h
    · rw [hP.lR] at h; cases h
    · omega
  have hk : ∀ k, k < wr.heap.size → some k ≠ K.vJ.ownBlock → w1.heap[k]? = wr.heap[k]? := fun k hk hn => (hgrow.block k (by omega) hn).trans (halloc wr o k hk)
  refine hP.push (fun c hc => jcells_ok who v b c hc) (heap_setCell_same w1 K.R 1 _ _ _ ((hk _ lR (fun h => hRne h.symm)).trans hP.hR)) (hrow.far _ _ hgR) hg ?_
  have h0 : Only (fun x => x = K.R ∨ K.vJ.ownBlock = some x) wr w1 := ⟨hgrow.os, hgrow.tape, hgrow.output, by omega, fun k hk' hn => hk k hk' (fun h => hn (.inr h.symm))⟩
  exact onlyset h0 (.inl rfl) 1 _
section
variable {lab : Nat → Lab} {K : RK} {w : World} {A : Ab}
set_option maxHeartbeats 8000000 in
theorem rsettle_calls (hP : RS lab K w A) {p : Nat} (hp : p < A.N) (cN : Nat) (c : Int) (hc : c = cN) (v : VV) (hws : (A.pr p).ws.length ≤ 1000) (hjs : A.jobs.length ≤ 50000) (hNb : A.N ≤ 1000) :
    Calls Tryz.prog 51 #[.pointer (some ⟨K.R, 0, none⟩), .int .i64 ((p : Int) + 1), .int .i64 c, .agg #[.int .i64 (rk v), .int .i64 (rn v), .string (rs v), .int .i64 0]] w
      (fun e w' => e = .returned (.tuple #[]) ∧ ∃ lab' K', RS lab' K' w' (A.settle p cN v) ∧ RExt lab K w lab' K' w') := by
  have hB := (Below.refl w.heap.size w).alloc (Nat.le_refl _) (.cells #[.int .i64 (rk v), .int .i64 (rn v), .string (rs v), .int .i64 0] 38)
  have g0 := hallocn w (.cells #[.int .i64 (rk v), .int .i64 (rn v), .string (rs v), .int .i64 0] 38)
  have hP1 := hP.below hB
  obtain ⟨g, d, cp, hv, hLg, hrow⟩ := hP1.L.pos (by omega)
  obtain ⟨_, _, _, hw6⟩ := hP1.pm p hp
  obtain ⟨b0, b1, b2, b3⟩ := cells4 g0
  have c0 : (w.alloc (.cells #[.int .i64 (rk v), .int .i64 (rn v), .string (rs v), .int .i64 0] 38)).cell? ⟨K.R, 0, none⟩ = some K.vL := cell_blk hP1.hR 0
  rw [hv] at c0
  have lR := blk_lt hP.hR
  have x0 := hrow.cell0 hp (by decide)
  have x1 := hrow.cell hp (show 1 < 7 by decide)
  have x2 := hrow.cell hp (show 2 < 7 by decide)
  have x3 := hrow.cell hp (show 3 < 7 by decide)
  have x4 := hrow.cell hp (show 4 < 7 by decide)
  have x5 := hrow.cell hp (show 5 < 7 by decide)
  have x6 := hrow.cell hp (show 6 < 7 by decide)
  have fz := hrow.frz
  have iw : IntKind.i64.wrap ((p : Int) + 1 - 1) = p := by rw [IntWalk.i64_in _ (by omega)]; omega
  have i0 : (0 : Int) ≤ p := by omega
  have ip : (p : Int) < A.N := by omega
  have hcH : Hide (c = (cN : Int) ∧ (c == 2) = (cN == 2)) := ⟨hc, by
    rw [hc]
    by_cases h : cN = 2
    · subst h; rfl
    · have h1 : ¬ (cN : Int) = 2 := by omega
      have e1 : ((cN : Int) == 2) = false := by simpa using h1
      have e2 : (cN == 2) = false := by simpa using h
      rw [e1, e2]⟩
  clear hc
  generalize hW1 : w.alloc (.cells #[.int .i64 (rk v), .int .i64 (rn v), .string (rs v), .int .i64 0] 38) = W1 at *
  go_enter Tryz.func51, Tryz.ntmps51
  go_wp2
  have ff0 := fz (d + p * 7)
  have ff1 := fz (d + p * 7 + 1)
  have ff2 := fz (d + p * 7 + 2)
  have ff3 := fz (d + p * 7 + 3)
  have ff4 := fz (d + p * 7 + 4)
  have ff5 := fz (d + p * 7 + 5)
  have ff6 := fz (d + p * 7 + 6)
  go_region
  obtain ⟨K1, hP4, hE4, hO4, _⟩ := rstore hP1 hp hv hLg hrow cN c hcH.out.1 v
  have hbx := (hO4.block _ (blk_lt g0) (fun h => by
    have := hP.new w.heap.size (Nat.le_refl _)
    rw [h, hLg] at this; cases this)).trans g0
  have hlbx : lab w.heap.size = .imm := hP.new _ (Nat.le_refl _)
  have hw4 : Sl ((((((((W1.setCell ⟨g, d + p * 7, none⟩ (.int .i64 c)).setCell ⟨g, d + p * 7 + 1, none⟩ (.int .i64 (rk v))).setCell ⟨g, d + p * 7 + 2, none⟩ (.int .i64 (rn v))).setCell ⟨g, d + p * 7 + 3, none⟩ (.string (rs v))).setCell ⟨g, d + p * 7 + 4, none⟩ (.int .i64 0)).setCell ⟨g, d + p * 7 + 5, none⟩ (.bool false)).setCell ⟨g, d + p * 7 + 6, none⟩ (.slice none 0 0)).drew) (fun r => lab r = .imm) tInt 1 (K.Lf p 6) (A.pr p).ws.length (wsf (A.pr p).ws) := hw6.same (fun r hr he => hO4.block r hr (fun h => by rw [h, hLg] at he; cases he)) fun _ _ h => h
  clear hO4 b0 b1 b2 b3 c0 x0 x1 x2 x3 x4 x5 x6 fz ff0 ff1 ff2 ff3 ff4 ff5 ff6 hP1 g0 hw6 hrow
  generalize (((((((W1.setCell ⟨g, d + p * 7, none⟩ (.int .i64 c)).setCell ⟨g, d + p * 7 + 1, none⟩ (.int .i64 (rk v))).setCell ⟨g, d + p * 7 + 2, none⟩ (.int .i64 (rn v))).setCell ⟨g, d + p * 7 + 3, none⟩ (.string (rs v))).setCell ⟨g, d + p * 7 + 4, none⟩ (.int .i64 0)).setCell ⟨g, d + p * 7 + 5, none⟩ (.bool false)).setCell ⟨g, d + p * 7 + 6, none⟩ (.slice none 0 0)).drew = W4 at *
  generalize hsw : K.Lf p 6 = sw at *
  have hgo : ∀ z, (A.pr p).ws.length = z → z ≤ 1000 := fun z h => h ▸ hws
  generalize hwsl : (A.pr p).ws.length = m at *
  have lbx := blk_lt hbx
  obtain ⟨i1, z, hi1, hz0, hz1, hz2, hz3⟩ := z93
  obtain ⟨ao, cs, hsv⟩ := hw4.form
  subst hsv
  go_wp2_with fail
  go_loopw [9] (fun iv wr => ∃ kk : Nat, iv = .int .i64 kk ∧ kk ≤ m ∧ ∃ lab' K', RS lab' K' wr (A.mid p cN v ((A.pr p).ws.take kk)) ∧ RExt lab K1 W4 lab' K' wr) (fun iv _ => match iv with | .int _ n => m - n.toNat | _ => 0)
  case atStart =>
    refine ⟨0, rfl, Nat.zero_le _, lab, K1, ?_, RExt.refl⟩
    simpa [Ab.mid, Ab.put] using hP4
  case round =>
    obtain ⟨kk, rfl, hkm, lab', K', hPk, hEk⟩ := hrel
    by_cases hlt : kk < m
    · have hsl := hw4.same (w' := wr) (L' := fun r => lab' r = .imm) (fun r hr he => hEk.blk r hr (fun h => by rw [h, hE4.eR, hP.lR] at he; cases he) (by rw [he]; intro h; cases h) (by rw [he]; intro h; cases h)) (fun r hr he => (hEk.labs r hr).trans he)
      obtain ⟨rD, dD, cD, hao, hLD, rowD⟩ := hsl.pos (by omega)
      cases hao
      obtain ⟨who, hwho⟩ : ∃ who, (A.pr p).ws[kk]? = some who := ⟨_, List.getElem?_eq_getElem (by omega)⟩
      have t0 : wr.cell? ⟨rD, dD + kk, none⟩ = some (.int .i64 ((who : Int) + 1)) := by
        have := rowD.cell0 hlt (by decide)
        rw [Nat.mul_one] at this
        rw [this]
        simp [wsf, hwho]
      have hbr := (hEk.blk _ lbx (fun h => by rw [h, hE4.eR, hP.lR] at hlbx; cases hlbx) (by rw [hlbx]; intro h; cases h) (by rw [hlbx]; intro h; cases h)).trans hbx
      have eR : K'.R = K.R := hEk.eR.trans hE4.eR
      have hR := hPk.hR
      rw [eR] at hR
      obtain ⟨b0, b1, b2, b3⟩ := cells4 hbr
      have hRc : wr.cell? ⟨K.R, 1, none⟩ = some K'.vJ := cell_blk hR 1
      have lRr := blk_lt hR
      have hvR : Hide (∀ r, K'.vJ.ownBlock = some r → lab' r = .rj ∧ r < wr.heap.size) := ⟨fun r hr => hPk.J.own hr⟩
      have hRne : Hide (K'.vJ.ownBlock ≠ some K.R) := ⟨fun h => by
        have := (hPk.J.own h).1
        rw [← eR, hPk.lR] at this; cases this⟩
      have hbl : ∀ (o : Obj) (w1 : World), (wr.alloc o).drew.grownBy w1 K'.vJ.ownBlock → w1.heap[K.R]? = wr.heap[K.R]? := fun o w1 hg => by
        rw [hg.block K.R (by show K.R < (wr.alloc o).heap.size; simp; omega) (fun h => hRne.out h.symm)]
        exact halloc wr o K.R lRr
      have hcf : ∀ (o : Obj) (w1 : World), (wr.alloc o).drew.grownBy w1 K'.vJ.ownBlock → w1.cell? ⟨K.R, 1, none⟩ = some K'.vJ := fun o w1 hg => by
        rw [World.cell?_of_block (w := wr) (hbl o w1 hg)]; exact hRc
      have hff : ∀ (o : Obj) (w1 : World), (wr.alloc o).drew.grownBy w1 K'.vJ.ownBlock → w1.frozen? ⟨K.R, 1, none⟩ = false := fun o w1 hg => frz_blk ((hbl o w1 hg).trans hR) 1
      have hslf : ∀ o : Obj, Sl (wr.alloc o).drew (fun r => lab' r = .rj) tRJ 6 K'.vJ (A.mid p cN v ((A.pr p).ws.take kk)).jobs.length K'.Jf := fun o => hPk.J.same (fun r hr _ => halloc wr o r hr) fun _ _ h => h
      have hsrc : Src Tryz.prog 6 40 (.slice (some ⟨wr.heap.size, 0, none⟩) 1 1) 1 (jcells who v (c == 2)) ((wr.alloc (.cells (jcells who v (c == 2)).toArray 93)).drew) :=
        Src.ofSlice (e' := 93) _ Tryz.underlying40 _ 1 1 _ rfl (World.news_of_block (cs := (jcells who v (c == 2)).toArray) (t := 93) (fr := (0, 0)) (hallocn _ _)) (by simp [jcells, Value.oneCell'])
      have hm0 := hgo _ rfl
      have hjl : (A.mid p cN v ((A.pr p).ws.take kk)).jobs.length + 1 ≤ 1000000 := by
        simp only [Ab.mid, List.length_append, List.length_map, List.length_take]
        omega
      have ltz : (kk : Int) < m := by omega
      have lz0 : (0 : Int) ≤ kk := by omega
      have hNkk : Hide (rD < wr.heap.size) := ⟨rowD.lt⟩
      clear hbr rowD hsl
      go_wp2_with fail
      go_region_law (refine step_append_sl _ rfl (.tmp 39) (.tmp 48) 40 40 rfl 93 i1 z 6 i1.bytes Tryz.underlying40 hi1 hz0 hz1 rfl hz3 (fun r => lab' r = .rj) K'.vJ _ K'.Jf (by simp [Act.eval]) (hslf _) _ 1 _ (by simp [Act.eval]) hsrc (by omega) hjl hz2 _ rfl ?_; intro g6 d6 cap6 w1 hrow6 hgrow hat; have k1 := hcf _ _ hgrow; have k2 := hff _ _ hgrow)
      all_goals
        have hq := rjob_push hPk rfl hrow6 hgrow hat
        rw [eR, hcH.out.2] at hq
        obtain ⟨lab2, K2, hP2, hE2⟩ := hq
        go_wp2_with fail
        refine ⟨⟨kk + 1, by simp, by omega, lab2, K2, ?_, hEk.trans hE2⟩, ?_⟩
        · have e1 : (A.mid p cN v ((A.pr p).ws.take kk)).push ⟨who, v, cN == 2⟩ = A.mid p cN v ((A.pr p).ws.take (kk + 1)) := by
            simp only [Ab.mid, Ab.push, List.take_add_one, hwho, Option.toList_some, List.map_append, List.map_cons, List.map_nil, List.append_assoc]
          rw [← e1]
          exact hP2
        · show m - ((kk : Int) + 1).toNat < m - (kk : Int).toNat
          omega
    · obtain rfl : kk = m := by omega
      have ltz : ¬ (kk : Int) < kk := by omega
      go_wp2_with fail
      go_end0
      refine ⟨rfl, lab', K', ?_, ((RExt.below hB).trans hE4).trans hEk⟩
      rw [← hwsl, List.take_length] at hPk
      exact hPk
end
end Go.Proofs.YtcceopgaiffkmaaGreatDoor

/- The reference's Has and New. -/
namespace Go.Proofs.YtcceopgaiffkmaaGreatDoor
open Go Go.RowKit Go.Pl
set_option maxRecDepth 100000
section
variable {lab : Nat → Lab} {K : RK} {w : World} {A : Ab}
theorem rv_one (v : VV) (c : Nat) (hc : c < 4) : (rv v c).oneCell' = true := by
  match c, hc with
  | 0, _ => rw [rv0]; rfl
  | 1, _ => rw [rv1]; rfl
  | 2, _ => rw [rv2]; rfl
  | 3, _ => rw [rv3]; rfl
theorem RPm_one {s : Nat → Value} {x : Pm} (h : RPm lab w s x) : ∀ c, c < 7 → (s c).oneCell' = true := fun c hc => by
  obtain ⟨a, b, e, f⟩ := h
  obtain ⟨p, q, g⟩ := f.form
  match c, hc with
  | 0, _ => rw [a]; rfl
  | 1, _ => rw [b 0 (by decide)]; exact rv_one _ 0 (by decide)
  | 2, _ => rw [b 1 (by decide)]; exact rv_one _ 1 (by decide)
  | 3, _ => rw [b 2 (by decide)]; exact rv_one _ 2 (by decide)
  | 4, _ => rw [b 3 (by decide)]; exact rv_one _ 3 (by decide)
  | 5, _ => rw [e]; rfl
  | 6, _ => rw [g]; rfl
theorem rhas_calls (hP : RS lab K w A) (x : Int) : Calls Tryz.prog 24 #[.pointer (some ⟨K.R, 0, none⟩), .int .i64 x] w (fun e w' => e = .returned (.bool (decide (1 ≤ x ∧ x ≤ A.N))) ∧ w' = w) := by
  have c0 : w.cell? ⟨K.R, 0, none⟩ = some K.vL := cell_blk hP.hR 0
  obtain ⟨a, c, hv⟩ := hP.L.form
  rw [hv] at c0
  clear hv
  generalize A.N = n at *
  by_cases h1 : 1 ≤ x
  · by_cases h2 : x ≤ n
    · go_enter Tryz.func24, Tryz.ntmps24
      go_wp2
      go_ret
      simp [h1, h2]
    · go_enter Tryz.func24, Tryz.ntmps24
      go_wp2
      go_ret
      simp [h2]
  · have h2 : ¬ (1 ≤ x ∧ x ≤ n) := fun h => h1 h.1
    have h3 : decide (1 ≤ x ∧ x ≤ n) = false := decide_eq_false h2
    rw [h3]
    clear h2 h3
    go_enter Tryz.func24, Tryz.ntmps24
    go_wp2
    go_ret
    exact ⟨rfl, rfl⟩
def zcells : List Value := [.int .i64 0, .int .i64 0, .int .i64 0, .string ⟨#[]⟩, .int .i64 0, .bool false, .slice none 0 0]
theorem RS_addL (h : RS lab K w A) {w' : World} {g d c : Nat} {f : Nat → Nat → Value} (hR : w'.heap[K.R]? = some (.cells #[.slice (some ⟨g, d, none⟩) (A.N + 1) c, K.vJ, .int .i64 6, .int .i64 0, .string ⟨#[]⟩, .int .i64 0, .slice none 0 0] tWorld (0, 0)))
    (hrow : Row w' tPm 7 g d (A.N + 1) c f) (hf : ∀ i c, i < A.N → c < 7 → f i c = K.Lf i c) (hz : ∀ c, c < 7 → f A.N c = (zcells[c]?).getD (.bool false)) (hg : w.heap.size ≤ g) (hO : Only (fun x => x = K.R) w w') :
    ∃ lab' K', RS lab' K' w' A.new ∧ RExt lab K w lab' K' w' := by
  have hlab : ∀ r, r < w.heap.size → up lab g .rl r = lab r := fun r hr => up_lt (.inr (by omega))
  have keep : ∀ r, r < w.heap.size → lab r ≠ .rw → w'.heap[r]? = w.heap[r]? := fun r hr h1 => hO.block r hr (fun he => h1 (he ▸ h.lR))
  have lR := blk_lt h.hR
  have hgl := hrow.lt
  refine ⟨up lab g .rl, { K with vL := .slice (some ⟨g, d, none⟩) (A.N + 1) c, Lf := f }, ⟨hR, (hlab _ lR).trans h.lR, .inr ⟨g, d, c, rfl, up_same _ _, hrow⟩, fun q hq => ?_, h.J.same (fun r hr he => keep r hr (by rw [he]; intro h; cases h)) (fun r hr he => (hlab r hr).trans he), h.jb, fun r hr => ?_⟩, hO.os, hO.tape, hO.output, hO.size, hlab, rfl, fun r hr h1 _ _ => hO.block r hr h1⟩
  · have hq : q < A.N + 1 := hq
    show RPm _ w' (f q) (if q = A.N then ⟨0, false, und, []⟩ else A.pr q)
    by_cases hqn : q = A.N
    · subst hqn
      rw [if_pos rfl]
      refine ⟨hz 0 (by decide), fun i hi => ?_, hz 5 (by decide), .inl ⟨hz 6 (by decide), rfl⟩⟩
      match i, hi with
      | 0, _ => exact hz 1 (by decide)
      | 1, _ => exact hz 2 (by decide)
      | 2, _ => exact hz 3 (by decide)
      | 3, _ => exact hz 4 (by decide)
    · rw [if_neg hqn]
      exact ((h.pm q (by omega)).frame (fun r hr he => keep r hr (by rw [he]; intro h; cases h)) (fun r hr he => (hlab r hr).trans he)).congr fun c hc => hf q c (by omega) hc
  · rw [up_lt (.inr (by omega))]
    exact h.new r (Nat.le_trans hO.size hr)
set_option maxHeartbeats 4000000 in
theorem rnew_calls (hP : RS lab K w A) (hN : A.N ≤ 1000) : Calls Tryz.prog 23 #[.pointer (some ⟨K.R, 0, none⟩)] w (fun e w' => e = .returned (.int .i64 ((A.N : Int) + 1)) ∧ ∃ lab' K', RS lab' K' w' A.new ∧ RExt lab K w lab' K' w') := by
  obtain ⟨i0, z, hi0, hz0, hz1, hz2, hz3⟩ := z58
  have hB := (Below.refl w.heap.size w).alloc (Nat.le_refl _) (.cells #[] 58)
  have hP1 := hP.below hB
  have c0 : (w.alloc (.cells #[] 58)).cell? ⟨K.R, 0, none⟩ = some K.vL := cell_blk hP1.hR 0
  have hbase : Row (w.alloc (.cells #[] 58)) tPm 7 w.heap.size 0 0 0 K.Lf := row_empty 7 (hallocn w _)
  have hs0 := sl_src (P := Tryz.prog) Tryz.underlying39 hP1.L (fun i c hi hc => RPm_one (hP1.pm i hi) c hc)
  have hgo : ∀ z, A.N = z → z ≤ 1000 := fun z h => h ▸ hN
  obtain ⟨n, hn⟩ : ∃ n, A.N = n := ⟨_, rfl⟩
  have hnb := hgo _ hn
  rw [hn] at hs0 ⊢
  clear hgo
  have hR0 := hP1.hR
  have lR0 := blk_lt hP.hR
  have hkR : ∀ (w1 : World), (w.alloc (.cells #[] 58)).grownBy w1 (some w.heap.size) → w1.heap[K.R]? = (w.alloc (.cells #[] 58)).heap[K.R]? := fun w1 hg => hg.block K.R (by simp; omega) (fun h => by have h : K.R = w.heap.size := Option.some.inj h; omega)
  have hkR2 : ∀ (w1 w2 : World) (g : Nat), (w1.alloc (.cells zcells.toArray 58)).grownBy w2 (some g) → K.R < w1.heap.size → g ≠ K.R → w2.heap[K.R]? = w1.heap[K.R]? := fun w1 w2 g hg h1 h2 => (hg.block K.R (by simp; omega) (fun h => h2 (Option.some.inj h).symm)).trans (halloc w1 _ K.R h1)
  have hgne : ∀ g, (g = w.heap.size ∧ g = w.heap.size ∨ g = (w.alloc (.cells #[] 58)).heap.size) → g ≠ K.R ∧ w.heap.size ≤ g := fun g h => by
    rcases h with ⟨h, _⟩ | h
    · omega
    · simp at h
      omega
  go_enter Tryz.func23, Tryz.ntmps23
  go_wp2_with (first
    | (at_builtin; refine wpList_append_sl0 _ rfl (.tmp 4) (.tmp 8) 39 39 rfl 58 i0 z 7 i0.bytes Tryz.underlying39 hi0 hz0 hz1 rfl hz3 (fun r => r = w.heap.size) w.heap.size 0 0 0 K.Lf rfl rfl hbase _ n _ rfl hs0 (by omega) hz2 _ rfl ?_; intro g d c w1 hrow hgrow hat; replace hrow := hrow.alloc (.cells zcells.toArray 58); rw [Nat.zero_add] at hrow ⊢; have hR1 := (hkR w1 hgrow).trans hR0; have hlg1 := hgrow.size)
    | (at_builtin; refine wpList_append_sl0 _ rfl (.tmp 9) (.tmp 11) 39 39 rfl 58 i0 z 7 i0.bytes Tryz.underlying39 hi0 hz0 hz1 rfl hz3 (fun r => True) _ _ n _ _ rfl trivial hrow _ 1 zcells rfl (Src.ofSlice (e' := 58) _ Tryz.underlying39 _ 1 1 _ rfl (World.news_of_block (cs := zcells.toArray) (t := 58) (fr := (0, 0)) (hallocn _ _)) (by simp [zcells, Value.oneCell'])) (by omega) hz2 _ rfl ?_; intro g2 d2 c2 w2 hrow2 hgrow2 hat2; have hR2 := (hkR2 w1 w2 g hgrow2 (blk_lt hR1) (hgne _ hat).1).trans hR1; have q0 := cell_blk hR2 0; have qf := frz_blk hR2 0; have ql := blk_lt hR2)
    | fail)
  go_ret
  have hg2 : w.heap.size ≤ g2 := by
    rcases hat2 with ⟨h, _⟩ | h
    · rw [h]; exact (hgne _ hat).2
    · rw [h]; simp; have := blk_lt hR1; simp at hlg1; omega
  have hg2R : g2 ≠ K.R := by omega
  have hO : Only (fun x => x = K.R) w (w2.setCell ⟨K.R, 0, none⟩ (.slice (some ⟨g2, d2, none⟩) (n + 1) c2)) := by
    refine onlyset (M := fun x => x = K.R) (r := K.R) ?_ rfl 0 _
    have e1 := hgrow.size
    have e2 := hgrow2.size
    simp at e1 e2
    refine ⟨hgrow2.os.trans hgrow.os, hgrow2.tape.trans hgrow.tape, hgrow2.output.trans hgrow.output, by omega, fun k hk _ => ?_⟩
    rw [hgrow2.block k (by simp; omega) (fun h => by have h : k = g := Option.some.inj h; have := (hgne _ hat).2; omega), halloc _ _ k (by omega), hgrow.block k (by simp; omega) (fun h => by have h : k = w.heap.size := Option.some.inj h; omega), halloc _ _ k hk]
  subst hn
  refine ⟨rfl, RS_addL hP (heap_setCell_same w2 K.R 0 _ _ _ hR2) (hrow2.far _ _ hg2R) (fun i c hi hc => ?_) (fun c hc => ?_) hg2 hO⟩
  · rw [← app_flat 7 A.N K.Lf K.Lf i c hi hc]
    simp only [app]
    rw [if_pos hi]
  · simp only [app]
    rw [if_neg (Nat.lt_irrefl _), Nat.sub_self, Nat.zero_mul, Nat.zero_add]
end
end Go.Proofs.YtcceopgaiffkmaaGreatDoor
