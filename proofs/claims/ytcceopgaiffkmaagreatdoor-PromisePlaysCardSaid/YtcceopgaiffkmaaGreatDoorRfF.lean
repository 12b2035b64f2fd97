/- PromisePlays: the reference's Do, Normal and Play, walked; both sides in one memory; the bounds that a play keeps. -/
import Derived.Test.YtcceopgaiffkmaaGreatDoorRfD
import Derived.BigQuiet
/- The reference's Do. -/
namespace Go.Proofs.YtcceopgaiffkmaaGreatDoor
open Go Go.RowKit Go.Pl
set_option maxRecDepth 100000
section
variable {lab : Nat → Lab} {K : RK} {w : World} {A : Ab}
theorem i93 : (Tryz.prog.info? 93).map (·.size) = some 6 := by kernel_rfl
theorem rjc_one (j : Jb) (c : Nat) (hc : c < 6) : (rjc j c).oneCell' = true := by
  match c, hc with
  | 0, _ => rfl
  | 1, _ => exact rv_one j.v 0 (by decide)
  | 2, _ => exact rv_one j.v 1 (by decide)
  | 3, _ => exact rv_one j.v 2 (by decide)
  | 4, _ => exact rv_one j.v 3 (by decide)
  | 5, _ => rfl
theorem RS_pop (h : RS lab K w A) {w2 : World} {j : Jb} {rest : List Jb} (hj : A.jobs = j :: rest) {g' d' c' : Nat} {f : Nat → Nat → Value} (hf : ∀ i c, i < rest.length → c < 6 → f i c = K.Jf (i + 1) c) (hR : w2.heap[K.R]? = some (.cells #[K.vL, .slice (some ⟨g', d', none⟩) rest.length c', .int .i64 6, .int .i64 0, .string ⟨#[]⟩, .int .i64 0, .slice none 0 0] tWorld (0, 0)))
    (hrow : Row w2 tRJ 6 g' d' rest.length c' f) (hg : w.heap.size ≤ g') (hO : Only (fun x => x = K.R) w w2) :
    ∃ lab' K', RS lab' K' w2 { A with jobs := rest } ∧ RExt lab K w lab' K' w2 := by
  have hlab : ∀ r, r < w.heap.size → up lab g' .rj r = lab r := fun r hr => up_lt (.inr (by omega))
  have keep : ∀ r, r < w.heap.size → lab r ≠ .rw → w2.heap[r]? = w.heap[r]? := fun r hr h1 => hO.block r hr (fun he => h1 (he ▸ h.lR))
  have lR := blk_lt h.hR
  have hgl := hrow.lt
  refine ⟨up lab g' .rj, { K with vJ := .slice (some ⟨g', d', none⟩) rest.length c', Jf := f }, ⟨hR, (hlab _ lR).trans h.lR, h.L.same (fun r hr he => keep r hr (by rw [he]; intro h; cases h)) (fun r hr he => (hlab r hr).trans he), fun p hp => (h.pm p hp).frame (fun r hr he => keep r hr (by rw [he]; intro h; cases h)) (fun r hr he => (hlab r hr).trans he), .inr ⟨g', d', c', rfl, up_same _ _, hrow⟩, fun k j' hk c hc => ?_, fun r hr => ?_⟩, hO.os, hO.tape, hO.output, hO.size, hlab, rfl, fun r hr h1 _ _ => hO.block r hr h1⟩
  · have hk : rest[k]? = some j' := hk
    have hlt := (List.getElem?_eq_some_iff.1 hk).1
    show f k c = _
    rw [hf k c hlt hc]
    exact h.jb (k + 1) j' (by rw [hj]; exact hk) c hc
  · rw [up_lt (.inr (by omega))]
    exact h.new r (Nat.le_trans hO.size hr)
theorem rdo_none (hP : RS lab K w A) (hj : A.jobs = []) : Calls Tryz.prog 28 #[.pointer (some ⟨K.R, 0, none⟩)] w (fun e w' => (∃ v, e = .returned v) ∧ RS lab K w' A ∧ RExt lab K w lab K w') := by
  have hB := (Below.refl w.heap.size w).alloc (Nat.le_refl _) (.cells #[.int .i64 0, .int .i64 0, .int .i64 0, .string ⟨#[]⟩, .int .i64 0, .bool false] 93)
  have hP1 := hP.below hB
  have c1 : (w.alloc (.cells #[.int .i64 0, .int .i64 0, .int .i64 0, .string ⟨#[]⟩, .int .i64 0, .bool false] 93)).cell? ⟨K.R, 1, none⟩ = some K.vJ := cell_blk hP1.hR 1
  obtain ⟨a, c, hv⟩ := hP.J.form
  rw [hv, hj] at c1
  have c1 : (w.alloc (.cells #[.int .i64 0, .int .i64 0, .int .i64 0, .string ⟨#[]⟩, .int .i64 0, .bool false] 93)).cell? ⟨K.R, 1, none⟩ = some (.slice a 0 c) := c1
  clear hv
  go_enter Tryz.func28, Tryz.ntmps28
  go_wp2
  refine bodyPost_ret (results_row_tmp rfl _ _ w.heap.size 93 #[.int .i64 0, .int .i64 0, .int .i64 0, .string ⟨#[]⟩, .int .i64 0, .bool false] (0, 0) _ rfl (hallocn _ _) Tryz.underlying93 rfl i93) rfl ?_
  exact ⟨⟨_, rfl⟩, hP1, RExt.below hB⟩
theorem RS_wr (h : RS lab K w A) {r : Nat} (hr : lab r = .hh) (k : Nat) (v : Value) : RS lab K (w.setCell ⟨r, k, none⟩ v) A :=
  h.frame (fun _ _ => rfl) (fun x hx => h.new x (by simpa using hx)) (fun x hx ho => heap_setCell_other _ _ _ _ (by rintro rfl; rw [hr] at ho; rcases ho with h | h | h | h <;> cases h))
theorem RExt_wr {lab' : Nat → Lab} {K' : RK} {w' : World} (h : RExt lab K w lab' K' w') {r : Nat} (hr : w.heap.size ≤ r) (k : Nat) (v : Value) : RExt lab K w lab' K' (w'.setCell ⟨r, k, none⟩ v) :=
  ⟨h.os, h.tape, h.output, by simpa using h.size, h.labs, h.eR, fun x hx a b c => (heap_setCell_other _ _ _ _ (by show x ≠ r; omega)).trans (h.blk x hx a b c)⟩
theorem RS_lab (h : RS lab K w A) {w' : World} (hb : Below w.heap.size w w') {r : Nat} (hr : w.heap.size ≤ r) (hr2 : r < w'.heap.size) : RS (up lab r .hh) K w' A ∧ RExt lab K w (up lab r .hh) K w' :=
  ⟨h.frame (fun x hx => up_lt (.inr (by omega))) (fun x hx => by rw [up_lt (.inr (by omega))]; exact h.new x (Nat.le_trans hb.size hx)) (fun x hx _ => hb.block x hx), hb.os, hb.tape, hb.output, hb.size, fun x hx => up_lt (.inr (by omega)), rfl, fun x hx _ _ _ => hb.block x hx⟩
theorem cells6 {w : World} {r : Nat} {a b c d e f : Value} {t : TypeId} (h : w.heap[r]? = some (.cells #[a, b, c, d, e, f] t (0, 0))) : w.cell? ⟨r, 0, none⟩ = some a ∧ w.cell? ⟨r, 1, none⟩ = some b ∧ w.cell? ⟨r, 2, none⟩ = some c ∧ w.cell? ⟨r, 3, none⟩ = some d ∧ w.cell? ⟨r, 4, none⟩ = some e ∧ w.cell? ⟨r, 5, none⟩ = some f :=
  ⟨cell_blk h 0, cell_blk h 1, cell_blk h 2, cell_blk h 3, cell_blk h 4, cell_blk h 5⟩
theorem set6 {w : World} {r : Nat} {a b c d e f a' b' c' d' e' f' : Value} {t : TypeId} (h : w.heap[r]? = some (.cells #[a, b, c, d, e, f] t (0, 0))) : ((((((w.setCell ⟨r, 0, none⟩ a').setCell ⟨r, 1, none⟩ b').setCell ⟨r, 2, none⟩ c').setCell ⟨r, 3, none⟩ d').setCell ⟨r, 4, none⟩ e').setCell ⟨r, 5, none⟩ f').heap[r]? = some (.cells #[a', b', c', d', e', f'] t (0, 0)) :=
  heap_setCell_same _ _ 5 _ _ _ (heap_setCell_same _ _ 4 _ _ _ (heap_setCell_same _ _ 3 _ _ _ (heap_setCell_same _ _ 2 _ _ _ (heap_setCell_same _ _ 1 _ _ _ (heap_setCell_same _ _ 0 _ _ _ h)))))
set_option maxHeartbeats 8000000 in
theorem rdo_some (hP : RS lab K w A) {j : Jb} {rest : List Jb} (hj : A.jobs = j :: rest) (hwho : j.who < A.N) (hws : ∀ p, p < A.N → (A.pr p).ws.length ≤ 1000) (hjs : A.jobs.length ≤ 50000) (hNb : A.N ≤ 1000) :
    Calls Tryz.prog 28 #[.pointer (some ⟨K.R, 0, none⟩)] w (fun e w' => (∃ v, e = .returned v) ∧ ∃ lab' K', RS lab' K' w' A.next ∧ RExt lab K w lab' K' w') := by
  have hB := ((Below.refl w.heap.size w).alloc (Nat.le_refl _) (.cells #[.int .i64 0, .int .i64 0, .int .i64 0, .string ⟨#[]⟩, .int .i64 0, .bool false] 93)).alloc (by simp) (.cells #[.int .i64 ((j.who : Int) + 1), .int .i64 (rk j.v), .int .i64 (rn j.v), .string (rs j.v), .int .i64 0, .bool j.th] 93)
  have hP1 := hP.below hB
  have hB0 := (Below.refl w.heap.size w).alloc (Nat.le_refl _) (.cells #[.int .i64 0, .int .i64 0, .int .i64 0, .string ⟨#[]⟩, .int .i64 0, .bool false] 93)
  have hP0 := hP.below hB0
  have lR := blk_lt hP.hR
  have lR1 : K.R < w.heap.size + 1 := by omega
  have lR2 : K.R < w.heap.size + 1 + 1 := by omega
  have hlen : A.jobs.length = rest.length + 1 := by rw [hj]; rfl
  obtain ⟨g, d, cp, hv, hLg, hrow⟩ := hP0.J.pos (by omega)
  have hjb := hP.jb 0 j (by rw [hj]; rfl)
  have c1 : (w.alloc (.cells #[.int .i64 0, .int .i64 0, .int .i64 0, .string ⟨#[]⟩, .int .i64 0, .bool false] 93)).cell? ⟨K.R, 1, none⟩ = some K.vJ := cell_blk hP0.hR 1
  have c1w : w.cell? ⟨K.R, 1, none⟩ = some K.vJ := cell_blk hP.hR 1
  rw [hv, hlen] at c1 c1w
  have x0 := hrow.cell0 (i := 0) (by omega) (by decide)
  have x1 := hrow.cell (i := 0) (by omega) (show 1 < 6 by decide)
  have x2 := hrow.cell (i := 0) (by omega) (show 2 < 6 by decide)
  have x3 := hrow.cell (i := 0) (by omega) (show 3 < 6 by decide)
  have x4 := hrow.cell (i := 0) (by omega) (show 4 < 6 by decide)
  have x5 := hrow.cell (i := 0) (by omega) (show 5 < 6 by decide)
  rw [hjb 0 (by decide), show rjc j 0 = .int .i64 ((j.who : Int) + 1) from rfl] at x0
  rw [hjb 1 (by decide), show rjc j 1 = rv j.v 0 from rfl, rv0] at x1
  rw [hjb 2 (by decide), show rjc j 2 = rv j.v 1 from rfl, rv1] at x2
  rw [hjb 3 (by decide), show rjc j 3 = rv j.v 2 from rfl, rv2] at x3
  rw [hjb 4 (by decide), show rjc j 4 = rv j.v 3 from rfl, rv3] at x4
  rw [hjb 5 (by decide), show rjc j 5 = .bool j.th from rfl] at x5
  simp only [Nat.zero_mul, Nat.add_zero] at x0 x1 x2 x3 x4 x5
  obtain ⟨i0, z, hi0, hz0, hz1, hz2, hz3⟩ := z93
  have hle : rest.length + 1 ≤ cp := by have := hrow.1; omega
  have hdz : (1 : Int) ≤ (rest.length : Int) + 1 := by omega
  have hlz : (rest.length : Int) + 1 ≤ (cp : Int) := by omega
  have hz : (((rest.length + 1 : Nat) : Int) == 0) = false := by
    have : ¬ ((rest.length + 1 : Nat) : Int) = 0 := by omega
    simpa using this
  have hz2' : ((rest.length : Int) + 1 == 0) = false := by
    have : ¬ (rest.length : Int) + 1 = 0 := by omega
    simpa using this
  have hm0 : (0 : Int) < (rest.length : Int) + 1 := by omega
  have hone : ∀ i c, i < rest.length → c < 6 → (K.Jf (i + 1) c).oneCell' = true := fun i c hi hc => by
    rw [hP.jb (i + 1) rest[i] (by rw [hj]; simp [hi]) c hc]
    exact rjc_one _ c hc
  have g0 : ((w.alloc (.cells #[.int .i64 0, .int .i64 0, .int .i64 0, .string ⟨#[]⟩, .int .i64 0, .bool false] 93)).alloc (.cells #[.int .i64 ((j.who : Int) + 1), .int .i64 (rk j.v), .int .i64 (rn j.v), .string (rs j.v), .int .i64 0, .bool j.th] 93)).heap[w.heap.size]? = some (.cells #[.int .i64 0, .int .i64 0, .int .i64 0, .string ⟨#[]⟩, .int .i64 0, .bool false] 93) := (halloc _ _ _ (by simp)).trans (hallocn _ _)
  have g1 : ((w.alloc (.cells #[.int .i64 0, .int .i64 0, .int .i64 0, .string ⟨#[]⟩, .int .i64 0, .bool false] 93)).alloc (.cells #[.int .i64 ((j.who : Int) + 1), .int .i64 (rk j.v), .int .i64 (rn j.v), .string (rs j.v), .int .i64 0, .bool j.th] 93)).heap[w.heap.size + 1]? = some (.cells #[.int .i64 ((j.who : Int) + 1), .int .i64 (rk j.v), .int .i64 (rn j.v), .string (rs j.v), .int .i64 0, .bool j.th] 93) := alloc_at (by simp)
  obtain ⟨hPr, hEr⟩ := RS_lab hP hB (r := w.heap.size) (Nat.le_refl _) (by first | (simp; done) | (simp; omega))
  have hgr : ∀ (w4 : World) (e : Nat), (((w.alloc (.cells #[.int .i64 0, .int .i64 0, .int .i64 0, .string ⟨#[]⟩, .int .i64 0, .bool false] 93)).alloc (.cells #[.int .i64 ((j.who : Int) + 1), .int .i64 (rk j.v), .int .i64 (rn j.v), .string (rs j.v), .int .i64 0, .bool j.th] 93)).alloc (.cells #[] 93)).grownBy w4 (some e) → e = w.heap.size + 1 + 1 → Below ((w.alloc (.cells #[.int .i64 0, .int .i64 0, .int .i64 0, .string ⟨#[]⟩, .int .i64 0, .bool false] 93)).alloc (.cells #[.int .i64 ((j.who : Int) + 1), .int .i64 (rk j.v), .int .i64 (rn j.v), .string (rs j.v), .int .i64 0, .bool j.th] 93)).heap.size ((w.alloc (.cells #[.int .i64 0, .int .i64 0, .int .i64 0, .string ⟨#[]⟩, .int .i64 0, .bool false] 93)).alloc (.cells #[.int .i64 ((j.who : Int) + 1), .int .i64 (rk j.v), .int .i64 (rn j.v), .string (rs j.v), .int .i64 0, .bool j.th] 93)) w4 := fun w4 e hg he => below_grown ((Below.refl _ _).alloc (Nat.le_refl _) _) hg (by rw [he]; simp) (by simp)
  have h1l : up lab w.heap.size .hh (w.heap.size + 1) = .imm := by rw [up_lt (.inr (by omega))]; exact hP.new _ (by omega)
  have h0l : up lab w.heap.size .hh w.heap.size = .hh := up_same _ _
  obtain ⟨A2, hA2⟩ : ∃ A2, Hide (A2 = A.next) := ⟨_, ⟨rfl⟩⟩
  rw [← hA2.out]
  by_cases hcc : cp = 1
  · subst hcc
    have hdr : Row (w.alloc (.cells #[.int .i64 0, .int .i64 0, .int .i64 0, .string ⟨#[]⟩, .int .i64 0, .bool false] 93)) tRJ 6 g d rest.length 0 (fun i c => K.Jf (i + 1) c) := by
      obtain ⟨_, cur, a1, a2, a3⟩ := hrow
      exact ⟨by omega, cur, a1, by omega, fun i c hi => by omega⟩
    have hsrc := fun (o o2 : Obj) => row_src (P := Tryz.prog) Tryz.underlying40 ((hdr.alloc o).alloc o2) hone
    have hlz : (rest.length : Int) + 1 ≤ 1 := by omega
    have hml : rest.length ≤ 1000000 := by omega
    obtain ⟨m, hm⟩ : ∃ m, rest.length = m := ⟨_, rfl⟩
    rw [hm] at c1 c1w hdz hlz hz hz2' hm0 hdr hsrc hml
    clear hle
    go_enter Tryz.func28, Tryz.ntmps28
    go_wp2_with (first | (at_builtin; refine wpList_append_sl0 _ rfl (.tmp 20) (.tmp 25) 40 40 rfl 93 i0 z 6 i0.bytes Tryz.underlying40 hi0 hz0 hz1 rfl hz3 (fun r => w.heap.size + 1 + 1 ≤ r) _ 0 0 0 K.Jf rfl (Nat.le_refl _) (row_empty 6 (alloc_at (by simp))) _ m _ rfl (hsrc _ _) (by omega) hz2 _ rfl ?_; intro g4 d4 c4 w4 hrow4 hgrow4 hat4; have hB4 := hgr _ _ hgrow4 (by simp); have hP4 := hPr.below hB4; have q1 : w4.cell? ⟨K.R, 1, none⟩ = some K.vJ := cell_blk hP4.hR 1; have qf := frz_blk hP4.hR 1; have lR4 := blk_lt hP4.hR) | fail)
    subst hm
    have hg4 : w.heap.size + 1 + 1 ≤ g4 := ge_of hat4 (by first | (simp; done) | (simp; omega))
    have hgR : g4 ≠ K.R := by omega
    obtain ⟨lab5, K5, hP5, hE5⟩ := RS_pop hPr hj (w2 := w4.setCell ⟨K.R, 1, none⟩ (.slice (some ⟨g4, d4, none⟩) rest.length c4)) (f := app 6 0 K.Jf (flat 6 rest.length fun i c => K.Jf (i + 1) c)) (fun i c hi hc => app_flat 6 rest.length K.Jf (fun i c => K.Jf (i + 1) c) i c hi hc) (heap_setCell_same w4 K.R 1 _ _ _ hP4.hR) (by rw [Nat.zero_add] at hrow4; exact hrow4.far _ _ hgR) (by first | (simp; done) | (simp; omega)) (onlyset (M := fun x => x = K.R) (Only.of_below hB4) rfl 1 _)
    have z0 := (hE5.blk w.heap.size (by first | (simp; done) | (simp; omega)) (by omega) (by rw [h0l]; intro h; cases h) (by rw [h0l]; intro h; cases h)).trans g0
    have z1 := (hE5.blk (w.heap.size + 1) (by simp) (by omega) (by rw [h1l]; intro h; cases h) (by rw [h1l]; intro h; cases h)).trans g1
    have l50 : lab5 w.heap.size = .hh := (hE5.labs _ (by first | (simp; done) | (simp; omega))).trans h0l
    have l51 : lab5 (w.heap.size + 1) = .imm := (hE5.labs _ (by simp)).trans h1l
    have hEf := hEr.trans hE5
    clear c1 c1w x0 x1 x2 x3 x4 x5 hrow hdr hsrc hrow4 hgrow4 hat4 q1 qf hP4 hB4 hE5 hEr hPr hgr g0 g1 hP0 hB0 hP1 hB hz hz2' hm0 hdz hlz
    generalize w4.setCell ⟨K.R, 1, none⟩ (.slice (some ⟨g4, d4, none⟩) rest.length c4) = w5 at *
    have eR : K5.R = K.R := hEf.eR
    obtain ⟨gL, dL, cL, hvL, hLL, hrL⟩ := hP5.L.pos (show 0 < A.N by omega)
    have y0 : w5.cell? ⟨K5.R, 0, none⟩ = some K5.vL := cell_blk hP5.hR 0
    rw [eR, hvL] at y0
    have y0 : w5.cell? ⟨K.R, 0, none⟩ = some (.slice (some ⟨gL, dL, none⟩) A.N cL) := y0
    have y1 : w5.cell? ⟨gL, dL + j.who * 7, none⟩ = some (K5.Lf j.who 0) := hrL.cell0 hwho (by decide)
    have y2 : K5.Lf j.who 0 = .int .i64 (A.pr j.who).st := (hP5.pm j.who hwho).1
    rw [y2] at y1
    obtain ⟨b0, b1, b2, b3, b4, b5⟩ := cells6 z1
    have lz := blk_lt z0
    have blw : ∀ n, Below w5.heap.size w5 (w5.drewN n) := fun n => ⟨rfl, rfl, rfl, Nat.le_refl _, fun _ _ => rfl⟩
    have iw : IntKind.i64.wrap ((j.who : Int) + 1 - 1) = j.who := by rw [IntWalk.i64_in _ (by omega)]; omega
    have iw2 : IntKind.i64.wrap (j.who : Int) = j.who := IntWalk.i64_in _ (by omega)
    have gd : decide ((0 : Int) < (j.who : Int) + 1) = true := decide_eq_true (by omega)
    have gp : (0 : Int) < (j.who : Int) + 1 := by omega
    have i0' : (0 : Int) ≤ j.who := by omega
    have ip : (j.who : Int) < A.N := by omega
    by_cases hst : (A.pr j.who).st = 0
    · have y1 : w5.cell? ⟨gL, dL + j.who * 7, none⟩ = some (.int .i64 0) := by rw [y1, hst]; rfl
      have hlen5 : rest.length ≤ 50000 := by omega
      have hA : Hide (A.next = { A with jobs := rest }.settle j.who (if j.th then 2 else 1) j.v) := ⟨by simp [Ab.next, hj, hst]⟩
      clear hj hlen y2 hvL
      cases hth : j.th
      · rw [hth] at b5 z1
        have hset := fun n : Nat => rsettle_calls (hP5.below (blw n)) (A := { A with jobs := rest }) hwho 1 1 rfl j.v (hws _ hwho) hlen5 hNb
        rw [eR] at hset
        go_quiet (fail)
        go_wp2_with fail
        refine (hset _).mono ?_
        rintro e w6 ⟨rfl, lab6, K6, hP6, hE6⟩
        have z0 := (hE6.blk w.heap.size lz (by omega) (by rw [l50]; intro h; cases h) (by rw [l50]; intro h; cases h)).trans z0
        have z1 := (hE6.blk (w.heap.size + 1) (blk_lt z1) (by omega) (by rw [l51]; intro h; cases h) (by rw [l51]; intro h; cases h)).trans z1
        have l60 := (hE6.labs _ lz).trans l50
        clear b0 b1 b2 b3 b4 b5
        obtain ⟨b0, b1, b2, b3, b4, b5⟩ := cells6 z1
        have lz6 := blk_lt z0
        have u0 := frz_blk z0
        obtain ⟨v0, v1, v2, v3, v4, v5⟩ := cells6 z0
        go_wp2
        refine bodyPost_ret (results_row_tmp rfl _ _ w.heap.size 93 #[.int .i64 ((j.who : Int) + 1), .int .i64 (rk j.v), .int .i64 (rn j.v), .string (rs j.v), .int .i64 0, .bool false] (0, 0) _ rfl (set6 z0) Tryz.underlying93 rfl i93) rfl ?_
        rw [hA2.out, hA.out, hth, if_neg (by decide)]
        exact ⟨⟨_, rfl⟩, lab6, K6, RS_wr (RS_wr (RS_wr (RS_wr (RS_wr (RS_wr hP6 l60 _ _) l60 _ _) l60 _ _) l60 _ _) l60 _ _) l60 _ _, RExt_wr (RExt_wr (RExt_wr (RExt_wr (RExt_wr (RExt_wr ((hEf.trans (RExt.below (blw _))).trans hE6) (Nat.le_refl _) _ _) (Nat.le_refl _) _ _) (Nat.le_refl _) _ _) (Nat.le_refl _) _ _) (Nat.le_refl _) _ _) (Nat.le_refl _) _ _⟩
      · rw [hth] at b5 z1
        have hset := fun n : Nat => rsettle_calls (hP5.below (blw n)) (A := { A with jobs := rest }) hwho 2 2 rfl j.v (hws _ hwho) hlen5 hNb
        rw [eR] at hset
        go_quiet (fail)
        go_wp2_with fail
        refine (hset _).mono ?_
        rintro e w6 ⟨rfl, lab6, K6, hP6, hE6⟩
        have z0 := (hE6.blk w.heap.size lz (by omega) (by rw [l50]; intro h; cases h) (by rw [l50]; intro h; cases h)).trans z0
        have z1 := (hE6.blk (w.heap.size + 1) (blk_lt z1) (by omega) (by rw [l51]; intro h; cases h) (by rw [l51]; intro h; cases h)).trans z1
        have l60 := (hE6.labs _ lz).trans l50
        clear b0 b1 b2 b3 b4 b5
        obtain ⟨b0, b1, b2, b3, b4, b5⟩ := cells6 z1
        have lz6 := blk_lt z0
        have u0 := frz_blk z0
        obtain ⟨v0, v1, v2, v3, v4, v5⟩ := cells6 z0
        go_wp2
        refine bodyPost_ret (results_row_tmp rfl _ _ w.heap.size 93 #[.int .i64 ((j.who : Int) + 1), .int .i64 (rk j.v), .int .i64 (rn j.v), .string (rs j.v), .int .i64 0, .bool true] (0, 0) _ rfl (set6 z0) Tryz.underlying93 rfl i93) rfl ?_
        rw [hA2.out, hA.out, hth, if_pos rfl]
        exact ⟨⟨_, rfl⟩, lab6, K6, RS_wr (RS_wr (RS_wr (RS_wr (RS_wr (RS_wr hP6 l60 _ _) l60 _ _) l60 _ _) l60 _ _) l60 _ _) l60 _ _, RExt_wr (RExt_wr (RExt_wr (RExt_wr (RExt_wr (RExt_wr ((hEf.trans (RExt.below (blw _))).trans hE6) (Nat.le_refl _) _ _) (Nat.le_refl _) _ _) (Nat.le_refl _) _ _) (Nat.le_refl _) _ _) (Nat.le_refl _) _ _) (Nat.le_refl _) _ _⟩
    · have hA : Hide (A.next = { A with jobs := rest }) := ⟨by simp [Ab.next, hj, hst]⟩
      clear hj hlen y2 hvL
      have hz : (((A.pr j.who).st : Int) == 0) = false := by
        have : ¬ ((A.pr j.who).st : Int) = 0 := by omega
        simpa using this
      have u0 := frz_blk z0
      obtain ⟨v0, v1, v2, v3, v4, v5⟩ := cells6 z0
      go_quiet (fail)
      go_wp2
      refine bodyPost_ret (results_row_tmp rfl _ _ w.heap.size 93 #[.int .i64 ((j.who : Int) + 1), .int .i64 (rk j.v), .int .i64 (rn j.v), .string (rs j.v), .int .i64 0, .bool j.th] (0, 0) _ rfl (set6 z0) Tryz.underlying93 rfl i93) rfl ?_
      rw [hA2.out, hA.out]
      exact ⟨⟨_, rfl⟩, lab5, K5, RS_wr (RS_wr (RS_wr (RS_wr (RS_wr (RS_wr (hP5.below (blw _)) l50 _ _) l50 _ _) l50 _ _) l50 _ _) l50 _ _) l50 _ _, RExt_wr (RExt_wr (RExt_wr (RExt_wr (RExt_wr (RExt_wr (hEf.trans (RExt.below (blw _))) (Nat.le_refl _) _ _) (Nat.le_refl _) _ _) (Nat.le_refl _) _ _) (Nat.le_refl _) _ _) (Nat.le_refl _) _ _) (Nat.le_refl _) _ _⟩


  · have hdr := hrow.drop (k := 1) (by omega)
    rw [hlen] at hdr
    have hdr : Row _ tRJ 6 g (d + 6) rest.length (cp - 1) (fun i c => K.Jf (i + 1) c) := hdr
    have hsrc := fun (o o2 : Obj) => row_src (P := Tryz.prog) Tryz.underlying40 ((hdr.alloc o).alloc o2) hone
    have hml : rest.length ≤ 1000000 := by omega
    obtain ⟨m, hm⟩ : ∃ m, rest.length = m := ⟨_, rfl⟩
    rw [hm] at c1 c1w hdz hlz hz hz2' hm0 hdr hsrc hml
    clear hle
    go_enter Tryz.func28, Tryz.ntmps28
    go_wp2_with (first | (at_builtin; refine wpList_append_sl0 _ rfl (.tmp 20) (.tmp 25) 40 40 rfl 93 i0 z 6 i0.bytes Tryz.underlying40 hi0 hz0 hz1 rfl hz3 (fun r => w.heap.size + 1 + 1 ≤ r) _ 0 0 0 K.Jf rfl (Nat.le_refl _) (row_empty 6 (alloc_at (by simp))) _ m _ rfl (hsrc _ _) (by omega) hz2 _ rfl ?_; intro g4 d4 c4 w4 hrow4 hgrow4 hat4; have hB4 := hgr _ _ hgrow4 (by simp); have hP4 := hPr.below hB4; have q1 : w4.cell? ⟨K.R, 1, none⟩ = some K.vJ := cell_blk hP4.hR 1; have qf := frz_blk hP4.hR 1; have lR4 := blk_lt hP4.hR) | fail)
    subst hm
    have hg4 : w.heap.size + 1 + 1 ≤ g4 := ge_of hat4 (by first | (simp; done) | (simp; omega))
    have hgR : g4 ≠ K.R := by omega
    obtain ⟨lab5, K5, hP5, hE5⟩ := RS_pop hPr hj (w2 := w4.setCell ⟨K.R, 1, none⟩ (.slice (some ⟨g4, d4, none⟩) rest.length c4)) (f := app 6 0 K.Jf (flat 6 rest.length fun i c => K.Jf (i + 1) c)) (fun i c hi hc => app_flat 6 rest.length K.Jf (fun i c => K.Jf (i + 1) c) i c hi hc) (heap_setCell_same w4 K.R 1 _ _ _ hP4.hR) (by rw [Nat.zero_add] at hrow4; exact hrow4.far _ _ hgR) (by first | (simp; done) | (simp; omega)) (onlyset (M := fun x => x = K.R) (Only.of_below hB4) rfl 1 _)
    have z0 := (hE5.blk w.heap.size (by first | (simp; done) | (simp; omega)) (by omega) (by rw [h0l]; intro h; cases h) (by rw [h0l]; intro h; cases h)).trans g0
    have z1 := (hE5.blk (w.heap.size + 1) (by simp) (by omega) (by rw [h1l]; intro h; cases h) (by rw [h1l]; intro h; cases h)).trans g1
    have l50 : lab5 w.heap.size = .hh := (hE5.labs _ (by first | (simp; done) | (simp; omega))).trans h0l
    have l51 : lab5 (w.heap.size + 1) = .imm := (hE5.labs _ (by simp)).trans h1l
    have hEf := hEr.trans hE5
    clear c1 c1w x0 x1 x2 x3 x4 x5 hrow hdr hsrc hrow4 hgrow4 hat4 q1 qf hP4 hB4 hE5 hEr hPr hgr g0 g1 hP0 hB0 hP1 hB hz hz2' hm0 hdz hlz
    generalize w4.setCell ⟨K.R, 1, none⟩ (.slice (some ⟨g4, d4, none⟩) rest.length c4) = w5 at *
    have eR : K5.R = K.R := hEf.eR
    obtain ⟨gL, dL, cL, hvL, hLL, hrL⟩ := hP5.L.pos (show 0 < A.N by omega)
    have y0 : w5.cell? ⟨K5.R, 0, none⟩ = some K5.vL := cell_blk hP5.hR 0
    rw [eR, hvL] at y0
    have y0 : w5.cell? ⟨K.R, 0, none⟩ = some (.slice (some ⟨gL, dL, none⟩) A.N cL) := y0
    have y1 : w5.cell? ⟨gL, dL + j.who * 7, none⟩ = some (K5.Lf j.who 0) := hrL.cell0 hwho (by decide)
    have y2 : K5.Lf j.who 0 = .int .i64 (A.pr j.who).st := (hP5.pm j.who hwho).1
    rw [y2] at y1
    obtain ⟨b0, b1, b2, b3, b4, b5⟩ := cells6 z1
    have lz := blk_lt z0
    have blw : ∀ n, Below w5.heap.size w5 (w5.drewN n) := fun n => ⟨rfl, rfl, rfl, Nat.le_refl _, fun _ _ => rfl⟩
    have iw : IntKind.i64.wrap ((j.who : Int) + 1 - 1) = j.who := by rw [IntWalk.i64_in _ (by omega)]; omega
    have iw2 : IntKind.i64.wrap (j.who : Int) = j.who := IntWalk.i64_in _ (by omega)
    have gd : decide ((0 : Int) < (j.who : Int) + 1) = true := decide_eq_true (by omega)
    have gp : (0 : Int) < (j.who : Int) + 1 := by omega
    have i0' : (0 : Int) ≤ j.who := by omega
    have ip : (j.who : Int) < A.N := by omega
    by_cases hst : (A.pr j.who).st = 0
    · have y1 : w5.cell? ⟨gL, dL + j.who * 7, none⟩ = some (.int .i64 0) := by rw [y1, hst]; rfl
      have hlen5 : rest.length ≤ 50000 := by omega
      have hA : Hide (A.next = { A with jobs := rest }.settle j.who (if j.th then 2 else 1) j.v) := ⟨by simp [Ab.next, hj, hst]⟩
      clear hj hlen y2 hvL
      cases hth : j.th
      · rw [hth] at b5 z1
        have hset := fun n : Nat => rsettle_calls (hP5.below (blw n)) (A := { A with jobs := rest }) hwho 1 1 rfl j.v (hws _ hwho) hlen5 hNb
        rw [eR] at hset
        go_quiet (fail)
        go_wp2_with fail
        refine (hset _).mono ?_
        rintro e w6 ⟨rfl, lab6, K6, hP6, hE6⟩
        have z0 := (hE6.blk w.heap.size lz (by omega) (by rw [l50]; intro h; cases h) (by rw [l50]; intro h; cases h)).trans z0
        have z1 := (hE6.blk (w.heap.size + 1) (blk_lt z1) (by omega) (by rw [l51]; intro h; cases h) (by rw [l51]; intro h; cases h)).trans z1
        have l60 := (hE6.labs _ lz).trans l50
        clear b0 b1 b2 b3 b4 b5
        obtain ⟨b0, b1, b2, b3, b4, b5⟩ := cells6 z1
        have lz6 := blk_lt z0
        have u0 := frz_blk z0
        obtain ⟨v0, v1, v2, v3, v4, v5⟩ := cells6 z0
        go_wp2
        refine bodyPost_ret (results_row_tmp rfl _ _ w.heap.size 93 #[.int .i64 ((j.who : Int) + 1), .int .i64 (rk j.v), .int .i64 (rn j.v), .string (rs j.v), .int .i64 0, .bool false] (0, 0) _ rfl (set6 z0) Tryz.underlying93 rfl i93) rfl ?_
        rw [hA2.out, hA.out, hth, if_neg (by decide)]
        exact ⟨⟨_, rfl⟩, lab6, K6, RS_wr (RS_wr (RS_wr (RS_wr (RS_wr (RS_wr hP6 l60 _ _) l60 _ _) l60 _ _) l60 _ _) l60 _ _) l60 _ _, RExt_wr (RExt_wr (RExt_wr (RExt_wr (RExt_wr (RExt_wr ((hEf.trans (RExt.below (blw _))).trans hE6) (Nat.le_refl _) _ _) (Nat.le_refl _) _ _) (Nat.le_refl _) _ _) (Nat.le_refl _) _ _) (Nat.le_refl _) _ _) (Nat.le_refl _) _ _⟩
      · rw [hth] at b5 z1
        have hset := fun n : Nat => rsettle_calls (hP5.below (blw n)) (A := { A with jobs := rest }) hwho 2 2 rfl j.v (hws _ hwho) hlen5 hNb
        rw [eR] at hset
        go_quiet (fail)
        go_wp2_with fail
        refine (hset _).mono ?_
        rintro e w6 ⟨rfl, lab6, K6, hP6, hE6⟩
        have z0 := (hE6.blk w.heap.size lz (by omega) (by rw [l50]; intro h; cases h) (by rw [l50]; intro h; cases h)).trans z0
        have z1 := (hE6.blk (w.heap.size + 1) (blk_lt z1) (by omega) (by rw [l51]; intro h; cases h) (by rw [l51]; intro h; cases h)).trans z1
        have l60 := (hE6.labs _ lz).trans l50
        clear b0 b1 b2 b3 b4 b5
        obtain ⟨b0, b1, b2, b3, b4, b5⟩ := cells6 z1
        have lz6 := blk_lt z0
        have u0 := frz_blk z0
        obtain ⟨v0, v1, v2, v3, v4, v5⟩ := cells6 z0
        go_wp2
        refine bodyPost_ret (results_row_tmp rfl _ _ w.heap.size 93 #[.int .i64 ((j.who : Int) + 1), .int .i64 (rk j.v), .int .i64 (rn j.v), .string (rs j.v), .int .i64 0, .bool true] (0, 0) _ rfl (set6 z0) Tryz.underlying93 rfl i93) rfl ?_
        rw [hA2.out, hA.out, hth, if_pos rfl]
        exact ⟨⟨_, rfl⟩, lab6, K6, RS_wr (RS_wr (RS_wr (RS_wr (RS_wr (RS_wr hP6 l60 _ _) l60 _ _) l60 _ _) l60 _ _) l60 _ _) l60 _ _, RExt_wr (RExt_wr (RExt_wr (RExt_wr (RExt_wr (RExt_wr ((hEf.trans (RExt.below (blw _))).trans hE6) (Nat.le_refl _) _ _) (Nat.le_refl _) _ _) (Nat.le_refl _) _ _) (Nat.le_refl _) _ _) (Nat.le_refl _) _ _) (Nat.le_refl _) _ _⟩
    · have hA : Hide (A.next = { A with jobs := rest }) := ⟨by simp [Ab.next, hj, hst]⟩
      clear hj hlen y2 hvL
      have hz : (((A.pr j.who).st : Int) == 0) = false := by
        have : ¬ ((A.pr j.who).st : Int) = 0 := by omega
        simpa using this
      have u0 := frz_blk z0
      obtain ⟨v0, v1, v2, v3, v4, v5⟩ := cells6 z0
      go_quiet (fail)
      go_wp2
      refine bodyPost_ret (results_row_tmp rfl _ _ w.heap.size 93 #[.int .i64 ((j.who : Int) + 1), .int .i64 (rk j.v), .int .i64 (rn j.v), .string (rs j.v), .int .i64 0, .bool j.th] (0, 0) _ rfl (set6 z0) Tryz.underlying93 rfl i93) rfl ?_
      rw [hA2.out, hA.out]
      exact ⟨⟨_, rfl⟩, lab5, K5, RS_wr (RS_wr (RS_wr (RS_wr (RS_wr (RS_wr (hP5.below (blw _)) l50 _ _) l50 _ _) l50 _ _) l50 _ _) l50 _ _) l50 _ _, RExt_wr (RExt_wr (RExt_wr (RExt_wr (RExt_wr (RExt_wr (hEf.trans (RExt.below (blw _))) (Nat.le_refl _) _ _) (Nat.le_refl _) _ _) (Nat.le_refl _) _ _) (Nat.le_refl _) _ _) (Nat.le_refl _) _ _) (Nat.le_refl _) _ _⟩


end
end Go.Proofs.YtcceopgaiffkmaaGreatDoor

/- The reference's Normal. -/
namespace Go.Proofs.YtcceopgaiffkmaaGreatDoor
open Go Go.RowKit Go.Pl
set_option maxRecDepth 100000
set_option maxHeartbeats 4000000 in
theorem rnormal_calls (k n x : Int) (s : ByteArray) (h5 : k ≠ 5) (hs : s.size ≤ 1000) (w : World) : Calls Tryz.prog 11 #[.agg #[.int .i64 k, .int .i64 n, .string s, .int .i64 x]] w (fun e w' => e = .returned (.agg #[.int .i64 (nk k), .int .i64 (ni k n), .string (ns k s), .int .i64 0]) ∧ Below w.heap.size w w') := by
  rcases (by omega : k = 2 ∨ k = 3 ∨ k = 4 ∨ k = 1 ∨ k = 6 ∨ (k ≠ 1 ∧ k ≠ 2 ∧ k ≠ 3 ∧ k ≠ 4 ∧ k ≠ 6)) with rfl | rfl | rfl | rfl | rfl | ⟨h1, h2, h3, h4, h6⟩
  · show Calls Tryz.prog 11 _ w (fun e w' => e = .returned (.agg #[.int .i64 2, .int .i64 (if n = 0 then 0 else 1), .string ⟨#[]⟩, .int .i64 0]) ∧ Below w.heap.size w w')
    have hB := ((Below.refl w.heap.size w).alloc (Nat.le_refl _) (.cells #[.int .i64 2, .int .i64 n, .string s, .int .i64 x] 38))
    by_cases hn : n = 0
    · subst hn
      go_enter Tryz.func11, Tryz.ntmps11
      go_wp2
      refine bodyPost_ret (results_cell_row rfl _ _ (w.heap.size + 1) 38 _ (0, 0) _ rfl (alloc_at (by simp)) Tryz.underlying38 rfl i38) rfl ?_
      exact ⟨rfl, below_alloc hB _⟩
    · have hn' : (n != 0) = true := by simpa using hn
      rw [if_neg hn]
      go_enter Tryz.func11, Tryz.ntmps11
      go_wp2
      refine bodyPost_ret (results_cell_row rfl _ _ (w.heap.size + 1) 38 _ (0, 0) _ rfl (alloc_at (by simp)) Tryz.underlying38 rfl i38) rfl ?_
      exact ⟨rfl, below_alloc hB _⟩
  · have hB := ((Below.refl w.heap.size w).alloc (Nat.le_refl _) (.cells #[.int .i64 3, .int .i64 n, .string s, .int .i64 x] 38))
    go_enter Tryz.func11, Tryz.ntmps11
    go_wp2
    refine bodyPost_ret (results_cell_row rfl _ _ (w.heap.size + 1) 38 _ (0, 0) _ rfl (alloc_at (by simp)) Tryz.underlying38 rfl i38) rfl ?_
    exact ⟨rfl, below_alloc hB _⟩
  · go_enter Tryz.func11, Tryz.ntmps11
    go_wp2_with fail
    refine (repair2_calls s _ hs).mono ?_
    rintro e w2 ⟨rfl, hb⟩
    obtain ⟨g0, g1, hB2, hz⟩ := boxes2 hb
    obtain ⟨c0, c1, c2, c3⟩ := cells4 g1
    obtain ⟨f0, f1, f2, f3⟩ := free4 g1
    go_wp2
    obtain ⟨q1, q2⟩ := fin4 hB2 (Nat.le_succ _) (.int .i64 4) (.int .i64 0) (.string (repairOf s)) (.int .i64 0) g1
    refine bodyPost_ret (results_cell_row rfl _ _ (w.heap.size + 1) 38 _ (0, 0) _ rfl q1 Tryz.underlying38 rfl i38) rfl ?_
    exact ⟨rfl, q2⟩
  · have hB := ((Below.refl w.heap.size w).alloc (Nat.le_refl _) (.cells #[.int .i64 1, .int .i64 n, .string s, .int .i64 x] 38))
    go_enter Tryz.func11, Tryz.ntmps11
    go_wp2
    refine bodyPost_ret (results_cell_row rfl _ _ (w.heap.size + 1) 38 _ (0, 0) _ rfl (alloc_at (by simp)) Tryz.underlying38 rfl i38) rfl ?_
    exact ⟨rfl, below_alloc hB _⟩
  · have hB := ((Below.refl w.heap.size w).alloc (Nat.le_refl _) (.cells #[.int .i64 6, .int .i64 n, .string s, .int .i64 x] 38))
    go_enter Tryz.func11, Tryz.ntmps11
    go_wp2
    refine bodyPost_ret (results_cell_row rfl _ _ (w.heap.size + 1) 38 _ (0, 0) _ rfl (alloc_at (by simp)) Tryz.underlying38 rfl i38) rfl ?_
    exact ⟨rfl, below_alloc hB _⟩
  · have hB := ((Below.refl w.heap.size w).alloc (Nat.le_refl _) (.cells #[.int .i64 k, .int .i64 n, .string s, .int .i64 x] 38))
    have e1 : nk k = 0 := by simp [nk, h1, h2, h3, h4, h6]
    have e2 : ni k n = 0 := by simp [ni, h2, h3]
    have e3 : ns k s = ⟨#[]⟩ := by simp [ns, h4]
    rw [e1, e2, e3]
    clear e1 e2 e3
    have z1 : (k == 1) = false := by simpa using h1
    have z2 : (k == 2) = false := by simpa using h2
    have z3 : (k == 3) = false := by simpa using h3
    have z4 : (k == 4) = false := by simpa using h4
    have z5 : (k == 5) = false := by simpa using h5
    have z6 : (k == 6) = false := by simpa using h6
    go_enter Tryz.func11, Tryz.ntmps11
    go_wp2
    refine bodyPost_ret (results_cell_row rfl _ _ (w.heap.size + 1) 38 _ (0, 0) _ rfl (alloc_at (by simp)) Tryz.underlying38 rfl i38) rfl ?_
    exact ⟨rfl, below_alloc hB _⟩
end Go.Proofs.YtcceopgaiffkmaaGreatDoor

/- The reference's Play. -/
namespace Go.Pl
namespace Ab
def has (A : Ab) (a : Nat) : Bool := decide (1 ≤ (a : Int) ∧ (a : Int) ≤ A.N)
def play (A : Ab) (o a b : Nat) (v : VV) : Ab :=
  if o % 6 = 0 then A.new
  else if o % 6 = 1 then (if A.has a then A.resolve (a - 1) v else A)
  else if o % 6 = 2 then (if A.has a && A.has b then A.resolveP (a - 1) (b - 1) A.ob else A)
  else if o % 6 = 3 then (if A.has a then A.reject (a - 1) v else A)
  else if o % 6 = 4 then (if A.has a then A.new.wait (a - 1) A.N else A)
  else A.next
end Ab
end Go.Pl
namespace Go.Proofs.YtcceopgaiffkmaaGreatDoor
open Go Go.RowKit Go.Pl
set_option maxRecDepth 100000
section
variable {lab : Nat → Lab} {K : RK} {w : World} {A : Ab}
def opv (o a b : Nat) (k n x : Int) (s : ByteArray) : Value := .agg #[.int .u8 o, .int .u8 a, .int .u8 b, .int .i64 k, .int .i64 n, .string s, .int .i64 x]
set_option maxHeartbeats 8000000 in
theorem rplay_calls (hP : RS lab K w A) (o a b : Nat) (ho : o < 256) (ha : a < 256) (hb : b < 256) (k n x : Int) (s : ByteArray) (h5 : k ≠ 5) (hs : s.size ≤ 1000) (hws : ∀ p, p < A.N → (A.pr p).ws.length ≤ 1000) (hjs : A.jobs.length ≤ 49000) (hNb : A.N ≤ 900) (hjw : ∀ j ∈ A.jobs, j.who < A.N) :
    Calls Tryz.prog 7 #[.pointer (some ⟨K.R, 0, none⟩), .agg #[.int .u8 o, .int .u8 a, .int .u8 b, .int .i64 k, .int .i64 n, .string s, .int .i64 x]] w
      (fun e w' => e = .returned (.tuple #[]) ∧ ∃ lab' K', RS lab' K' w' (A.play o a b (.nv (nk k) (ni k n) (ns k s))) ∧ RExt lab K w lab' K' w') := by
  obtain ⟨A2, hA2⟩ : ∃ A2, Hide (A2 = A.play o a b (.nv (nk k) (ni k n) (ns k s))) := ⟨_, ⟨rfl⟩⟩
  rw [← hA2.out]
  have hB0 := ((Below.refl w.heap.size w).alloc (Nat.le_refl _) (.cells #[.int .u8 o, .int .u8 a, .int .u8 b, .int .i64 k, .int .i64 n, .string s, .int .i64 x] 45))
  have wa : IntKind.i64.wrap (a : Int) = a := IntWalk.i64_in _ (by omega)
  have wb : IntKind.i64.wrap (b : Int) = b := IntWalk.i64_in _ (by omega)
  have hr1 : (o : Int) % 6 = ((o % 6 : Nat) : Int) := by omega
  have hr2 : (o : Int).tmod 6 = ((o % 6 : Nat) : Int) := by rw [Int.tmod_eq_emod_of_nonneg (by omega)]; omega
  have hr3 : IntKind.u8.wrap ((o % 6 : Nat) : Int) = ((o % 6 : Nat) : Int) := IntWalk.u8_in _ (by omega)
  have hpl : Hide (∀ r, o % 6 = r → A2 = (if r = 0 then A.new else if r = 1 then (if A.has a then A.resolve (a - 1) (.nv (nk k) (ni k n) (ns k s)) else A) else if r = 2 then (if A.has a && A.has b then A.resolveP (a - 1) (b - 1) A.ob else A) else if r = 3 then (if A.has a then A.reject (a - 1) (.nv (nk k) (ni k n) (ns k s)) else A) else if r = 4 then (if A.has a then A.new.wait (a - 1) A.N else A) else A.next)) := ⟨fun r hr => by rw [hA2.out, Ab.play, hr]⟩
  have hr6 : o % 6 < 6 := Nat.mod_lt _ (by decide)
  generalize hrr : o % 6 = r at *
  go_enter Tryz.func7, Tryz.ntmps7
  go_wp2_with fail
  go_quiet (fail)
  go_wp2_with fail
  refine (rnormal_calls k n x s h5 hs _).mono ?_
  rintro e w2 ⟨rfl, hbel⟩
  have hB2 : Below w.heap.size w w2 := hB0.trans (Below.mono (show Below (w.alloc (.cells #[.int .u8 o, .int .u8 a, .int .u8 b, .int .i64 k, .int .i64 n, .string s, .int .i64 x] 45)).heap.size (w.alloc (.cells #[.int .u8 o, .int .u8 a, .int .u8 b, .int .i64 k, .int .i64 n, .string s, .int .i64 x] 45)) w2 from ⟨hbel.os, hbel.tape, hbel.output, hbel.size, hbel.block⟩) (by simp))
  have z0 : w2.heap[w.heap.size]? = some (.cells #[.int .u8 o, .int .u8 a, .int .u8 b, .int .i64 k, .int .i64 n, .string s, .int .i64 x] 45) := (hbel.block w.heap.size (by show _ < (w.alloc _).heap.size; simp)).trans (hallocn w _)
  have lz := blk_lt z0
  have c0 : w2.cell? ⟨w.heap.size, 0, none⟩ = some (.int .u8 o) := cell_blk z0 0
  have hB3 := below_alloc hB2 (.cells #[.int .i64 (nk k), .int .i64 (ni k n), .string (ns k s), .int .i64 0] 38)
  have hP3 := hP.below hB3
  have hE3 : RExt lab K w lab K _ := RExt.below hB3
  have g3 := hallocn w2 (.cells #[.int .i64 (nk k), .int .i64 (ni k n), .string (ns k s), .int .i64 0] 38)
  clear hbel
  have hwsA : ∀ p, p < A.N → (A.pr p).ws.length ≤ 1000 := hws
  have hjsA : A.jobs.length ≤ 50000 := by omega
  have hNA : A.N ≤ 1000 := by omega
  have ga := rhas_calls hP3 a
  have gb := rhas_calls hP3 b
  rcases (by omega : r = 0 ∨ r = 1 ∨ r = 2 ∨ r = 3 ∨ r = 4 ∨ r = 5) with rfl | rfl | rfl | rfl | rfl | rfl
  · go_wp2_with fail
    refine (rnew_calls hP3 (by omega)).mono ?_
    rintro e w4 ⟨rfl, lab', K', h1, h2⟩
    go_wp2
    first | go_end0 | (refine bodyPost_ret (results_none rfl _ _ _) rfl ?_)
    rw [hpl.out 0 rfl, if_pos rfl]
    exact ⟨rfl, lab', K', h1, hE3.trans h2⟩
  · by_cases hha : 1 ≤ (a : Int) ∧ (a : Int) ≤ A.N
    · have hda : A.has a = true := decide_eq_true hha
      have ea : ((a - 1 : Nat) : Int) + 1 = (a : Int) := by omega
      have hcl := rresolve_calls hP3 (p := a - 1) (by omega) (.nv (nk k) (ni k n) (ns k s)) hwsA hjsA hNA
      rw [ea] at hcl
      rw [decide_eq_true hha] at ga
      have hpl2 : Hide (A2 = A.resolve (a - 1) (.nv (nk k) (ni k n) (ns k s))) := ⟨by have := hpl.out 1 rfl; simpa [hda] using this⟩
      clear hha hda ea
      go_wp2_with fail
      refine ga.mono ?_
      rintro e w4 ⟨rfl, rfl⟩
      go_wp2_with fail
      refine hcl.mono ?_
      rintro e w5 ⟨rfl, lab', K', h1, h2⟩
      go_wp2
      first | go_end0 | (refine bodyPost_ret (results_none rfl _ _ _) rfl ?_)
      rw [hpl2.out]
      exact ⟨rfl, lab', K', h1, hE3.trans h2⟩
    · have hda : A.has a = false := decide_eq_false hha
      rw [decide_eq_false hha] at ga
      have hpl2 : Hide (A2 = A) := ⟨by have := hpl.out 1 rfl; simpa [hda] using this⟩
      clear hha hda
      go_wp2_with fail
      refine ga.mono ?_
      rintro e w4 ⟨rfl, rfl⟩
      go_wp2
      first | go_end0 | (refine bodyPost_ret (results_none rfl _ _ _) rfl ?_)
      rw [hpl2.out]
      exact ⟨rfl, lab, K, hP3, hE3⟩
  · by_cases hha : 1 ≤ (a : Int) ∧ (a : Int) ≤ A.N
    · by_cases hhb : 1 ≤ (b : Int) ∧ (b : Int) ≤ A.N
      · have hda : A.has a = true := decide_eq_true hha
        have hdb : A.has b = true := decide_eq_true hhb
        have ea : ((a - 1 : Nat) : Int) + 1 = (a : Int) := by omega
        have eb : ((b - 1 : Nat) : Int) + 1 = (b : Int) := by omega
        have hcl := rresolveP_calls hP3 (p := a - 1) (q := b - 1) (by omega) (by omega) (.nv (nk k) (ni k n) (ns k s)) A.ob hwsA hjsA hNA
        rw [ea, eb] at hcl
        rw [decide_eq_true hha] at ga
        rw [decide_eq_true hhb] at gb
        have hpl2 : Hide (A2 = A.resolveP (a - 1) (b - 1) A.ob) := ⟨by have := hpl.out 2 rfl; simpa [hda, hdb] using this⟩
        clear hha hda ea hhb hdb eb
        go_wp2_with fail
        refine ga.mono ?_
        rintro e w4 ⟨rfl, rfl⟩
        go_wp2_with fail
        refine gb.mono ?_
        rintro e w4 ⟨rfl, rfl⟩
        go_wp2_with fail
        refine hcl.mono ?_
        rintro e w5 ⟨rfl, lab', K', h1, h2⟩
        go_wp2
        first | go_end0 | (refine bodyPost_ret (results_none rfl _ _ _) rfl ?_)
        rw [hpl2.out]
        exact ⟨rfl, lab', K', h1, hE3.trans h2⟩
      · have hda : A.has a = true := decide_eq_true hha
        have hdb : A.has b = false := decide_eq_false hhb
        rw [decide_eq_true hha] at ga
        rw [decide_eq_false hhb] at gb
        have hpl2 : Hide (A2 = A) := ⟨by have := hpl.out 2 rfl; simpa [hda, hdb] using this⟩
        clear hha hda hhb hdb
        go_wp2_with fail
        refine ga.mono ?_
        rintro e w4 ⟨rfl, rfl⟩
        go_wp2_with fail
        refine gb.mono ?_
        rintro e w4 ⟨rfl, rfl⟩
        go_wp2
        first | go_end0 | (refine bodyPost_ret (results_none rfl _ _ _) rfl ?_)
        rw [hpl2.out]
        exact ⟨rfl, lab, K, hP3, hE3⟩
    · have hda : A.has a = false := decide_eq_false hha
      rw [decide_eq_false hha] at ga
      have hpl2 : Hide (A2 = A) := ⟨by have := hpl.out 2 rfl; simpa [hda] using this⟩
      clear hha hda
      go_wp2_with fail
      refine ga.mono ?_
      rintro e w4 ⟨rfl, rfl⟩
      go_wp2
      first | go_end0 | (refine bodyPost_ret (results_none rfl _ _ _) rfl ?_)
      rw [hpl2.out]
      exact ⟨rfl, lab, K, hP3, hE3⟩
  · by_cases hha : 1 ≤ (a : Int) ∧ (a : Int) ≤ A.N
    · have hda : A.has a = true := decide_eq_true hha
      have ea : ((a - 1 : Nat) : Int) + 1 = (a : Int) := by omega
      have hcl := rreject_calls hP3 (p := a - 1) (by omega) (.nv (nk k) (ni k n) (ns k s)) (hws _ (by omega)) hjsA hNA
      rw [ea] at hcl
      rw [decide_eq_true hha] at ga
      have hpl2 : Hide (A2 = A.reject (a - 1) (.nv (nk k) (ni k n) (ns k s))) := ⟨by have := hpl.out 3 rfl; simpa [hda] using this⟩
      clear hha hda ea
      go_wp2_with fail
      refine ga.mono ?_
      rintro e w4 ⟨rfl, rfl⟩
      go_wp2_with fail
      refine hcl.mono ?_
      rintro e w5 ⟨rfl, lab', K', h1, h2⟩
      go_wp2
      first | go_end0 | (refine bodyPost_ret (results_none rfl _ _ _) rfl ?_)
      rw [hpl2.out]
      exact ⟨rfl, lab', K', h1, hE3.trans h2⟩
    · have hda : A.has a = false := decide_eq_false hha
      rw [decide_eq_false hha] at ga
      have hpl2 : Hide (A2 = A) := ⟨by have := hpl.out 3 rfl; simpa [hda] using this⟩
      clear hha hda
      go_wp2_with fail
      refine ga.mono ?_
      rintro e w4 ⟨rfl, rfl⟩
      go_wp2
      first | go_end0 | (refine bodyPost_ret (results_none rfl _ _ _) rfl ?_)
      rw [hpl2.out]
      exact ⟨rfl, lab, K, hP3, hE3⟩
  · by_cases hha : 1 ≤ (a : Int) ∧ (a : Int) ≤ A.N
    · have hda : A.has a = true := decide_eq_true hha
      have ea : ((a - 1 : Nat) : Int) + 1 = (a : Int) := by omega
      have hpa : a - 1 < A.N := by omega
      rw [decide_eq_true hha] at ga
      have hpl2 : Hide (A2 = A.new.wait (a - 1) A.N) := ⟨by have := hpl.out 4 rfl; simpa [hda] using this⟩
      clear hha hda
      go_wp2_with fail
      refine ga.mono ?_
      rintro e w4 ⟨rfl, rfl⟩
      go_wp2_with fail
      refine (rnew_calls hP3 (by omega)).mono ?_
      rintro e w4 ⟨rfl, lab4, K4, h4, hE4⟩
      have hcl := rwait_calls h4 (p := a - 1) (q := A.N) (show a - 1 < A.N + 1 by omega) (by
        have e : A.new.pr (a - 1) = A.pr (a - 1) := by
          show (if a - 1 = A.N then _ else A.pr (a - 1)) = _
          rw [if_neg (by omega)]
        rw [e]
        exact hws _ hpa) hjsA (show A.N + 1 ≤ 1000 by omega)
      rw [ea, hE4.eR] at hcl
      clear ea
      go_wp2_with fail
      refine hcl.mono ?_
      rintro e w5 ⟨rfl, lab', K', h1, h2⟩
      go_wp2
      first | go_end0 | (refine bodyPost_ret (results_none rfl _ _ _) rfl ?_)
      rw [hpl2.out]
      exact ⟨rfl, lab', K', h1, (hE3.trans hE4).trans h2⟩
    · have hda : A.has a = false := decide_eq_false hha
      rw [decide_eq_false hha] at ga
      have hpl2 : Hide (A2 = A) := ⟨by have := hpl.out 4 rfl; simpa [hda] using this⟩
      clear hha hda
      go_wp2_with fail
      refine ga.mono ?_
      rintro e w4 ⟨rfl, rfl⟩
      go_wp2
      first | go_end0 | (refine bodyPost_ret (results_none rfl _ _ _) rfl ?_)
      rw [hpl2.out]
      exact ⟨rfl, lab, K, hP3, hE3⟩
  · have hpl2 : Hide (A2 = A.next) := ⟨by have := hpl.out 5 rfl; simpa using this⟩
    have hcl : Calls Tryz.prog 28 #[.pointer (some ⟨K.R, 0, none⟩)] (w2.alloc (.cells #[.int .i64 (nk k), .int .i64 (ni k n), .string (ns k s), .int .i64 0] 38)) (fun e w' => (∃ v, e = .returned v) ∧ ∃ lab' K', RS lab' K' w' A.next ∧ RExt lab K (w2.alloc (.cells #[.int .i64 (nk k), .int .i64 (ni k n), .string (ns k s), .int .i64 0] 38)) lab' K' w') := by
      cases hj : A.jobs with
      | nil =>
        refine (rdo_none hP3 hj).mono ?_
        rintro e w5 ⟨h0, h1, h2⟩
        have hn : A.next = A := by simp [Ab.next, hj]
        rw [hn]
        exact ⟨h0, lab, K, h1, h2⟩
      | cons j rest => exact rdo_some hP3 hj (hjw j (by rw [hj]; exact List.mem_cons_self ..)) hwsA hjsA hNA
    go_wp2_with fail
    refine hcl.mono ?_
    rintro e w5 ⟨⟨v, rfl⟩, lab', K', h1, h2⟩
    go_wp2
    first | go_end0 | (refine bodyPost_ret (results_none rfl _ _ _) rfl ?_)
    rw [hpl2.out]
    exact ⟨rfl, lab', K', h1, hE3.trans h2⟩
end
end Go.Proofs.YtcceopgaiffkmaaGreatDoor

/- Both sides in one memory. -/
namespace Go.Proofs.YtcceopgaiffkmaaGreatDoor
open Go Go.RowKit Go.Pl
section
variable {lab lab' : Nat → Lab} {K K' : PK} {R R' : RK} {w w' : World} {A B B' : Ab}
/-- a step of the reference, seen from the program -/
theorem RExt.lt (hR : RS lab R w B) (hE : RExt lab R w lab' R' w') (K : PK) (N : Nat) : Lt lab K w lab' K w' N :=
  ⟨hE.size, hE.labs, fun r hr he => hE.blk r hr (fun h => by rw [h, hR.lR] at he; cases he) (by rw [he]; intro h; cases h) (by rw [he]; intro h; cases h), Nat.le_refl _, fun _ _ _ _ => rfl, fun _ _ => rfl⟩
theorem PS.ref (hP : PS lab K w A) (hR : RS lab R w B) (hS : RS lab' R' w' B') (hE : RExt lab R w lab' R' w') : PS lab' K w' A :=
  PS_frame hP (RExt.lt hR hE K A.N) hS.new (fun r hr h1 h2 h3 => hE.blk r hr (fun h => h1 (h ▸ hR.lR)) h2 h3) hE.os hE.tape hE.output
/-- a step of the program, seen from the reference -/
theorem RS.prog (hR : RS lab R w B) {N : Nat} (hE : Ext lab K w lab' K' w' N) (hP : PS lab' K' w' A) : RS lab' R w' B :=
  hR.frame hE.lt.labs hP.new fun r hr h => by
    rcases h with h | h | h | h
    · exact hE.oth r hr (.inl h)
    · exact hE.oth r hr (.inr (.inl h))
    · exact hE.oth r hr (.inr (.inr h))
    · exact hE.lt.imm r hr h
end
end Go.Proofs.YtcceopgaiffkmaaGreatDoor

/- The bounds that a play keeps. -/
namespace Go.Pl
/-- how much there is after some plays -/
structure Bd (A : Ab) (n m : Nat) : Prop where
  N : A.N ≤ n
  ob : A.ob ≤ 20 + n
  ws : ∀ p, p < A.N → (A.pr p).ws.length ≤ m
  jl : A.jobs.length ≤ 61 * m
  jw : ∀ j, j ∈ A.jobs → j.who < A.N
  ww : ∀ p, p < A.N → ∀ q, q ∈ (A.pr p).ws → q < A.N
namespace Bd
variable {A : Ab} {n m : Nat}
theorem mono (h : Bd A n m) {n' m' : Nat} (hn : n ≤ n') (hm : m ≤ m') : Bd A n' m' :=
  ⟨Nat.le_trans h.N hn, Nat.le_trans h.ob (by omega), fun p hp => Nat.le_trans (h.ws p hp) hm, Nat.le_trans h.jl (by omega), h.jw, h.ww⟩
theorem put (h : Bd A n m) (p : Nat) {x : Pm} (hx : x.ws.length ≤ m) (hq : ∀ q, q ∈ x.ws → q < A.N) : Bd (A.put p x) n m := by
  refine ⟨h.N, h.ob, fun i hi => ?_, h.jl, h.jw, fun i hi => ?_⟩
  · show (if i = p then x else A.pr i : Pm).ws.length ≤ m
    split
    · exact hx
    · exact h.ws i hi
  · show ∀ q, q ∈ (if i = p then x else A.pr i : Pm).ws → q < A.N
    split
    · exact hq
    · exact h.ww i hi
theorem settle (h : Bd A n m) (hm : m ≤ 60) {p : Nat} (hp : p < A.N) (st : Nat) (v : VV) : Bd (A.settle p st v) n (m + 1) := by
  have h1 : Bd (A.put p ⟨st, false, v, []⟩) n m := h.put p (x := ⟨st, false, v, []⟩) (Nat.zero_le _) (fun q hq => by cases hq)
  have hw := h.ws p hp
  refine ⟨h1.N, h1.ob, fun i hi => Nat.le_succ_of_le (h1.ws i hi), ?_, fun j hj => ?_, h1.ww⟩
  · show (A.jobs ++ (A.pr p).ws.map fun who => (⟨who, v, st == 2⟩ : Jb)).length ≤ 61 * (m + 1)
    rw [List.length_append, List.length_map]
    have := h.jl
    omega
  · replace hj : j ∈ A.jobs ++ (A.pr p).ws.map fun who => (⟨who, v, st == 2⟩ : Jb) := hj
    rcases List.mem_append.1 hj with hj | hj
    · exact h.jw j hj
    · obtain ⟨q, hq, rfl⟩ := List.mem_map.1 hj
      exact h.ww p hp q hq
theorem push (h : Bd A n m) {j : Jb} (hj : j.who < A.N) : Bd (A.push j) n (m + 1) := by
  refine ⟨h.N, h.ob, fun i hi => Nat.le_succ_of_le (h.ws i hi), ?_, fun x hx => ?_, h.ww⟩
  · show (A.jobs ++ [j]).length ≤ 61 * (m + 1)
    rw [List.length_append]
    have := h.jl
    simp only [List.length_cons, List.length_nil]
    omega
  · replace hx : x ∈ A.jobs ++ [j] := hx
    rcases List.mem_append.1 hx with hx | hx
    · exact h.jw x hx
    · obtain rfl := List.mem_singleton.1 hx
      exact hj
theorem wait (h : Bd A n m) {p who : Nat} (hp : p < A.N) (hw : who < A.N) : Bd (A.wait p who) n (m + 1) := by
  unfold Ab.wait
  split
  · refine (h.mono (Nat.le_refl _) (Nat.le_succ m)).put p ?_ fun q hq => ?_
    · show ((A.pr p).ws ++ [who]).length ≤ m + 1
      rw [List.length_append]
      have := h.ws p hp
      simp only [List.length_cons, List.length_nil]
      omega
    · rcases List.mem_append.1 hq with hq | hq
      · exact h.ww p hp q hq
      · obtain rfl := List.mem_singleton.1 hq
        exact hw
  · exact h.push hw
theorem grow (h : Bd A n m) : Bd A.grow (n + 1) m :=
  ⟨Nat.le_succ_of_le h.N, by show A.ob + 1 ≤ _; have := h.ob; omega, h.ws, h.jl, h.jw, h.ww⟩
theorem new (h : Bd A n m) : Bd A.new (n + 1) m := by
  refine ⟨Nat.succ_le_succ h.N, h.grow.ob, fun i hi => ?_, h.jl, fun j hj => Nat.lt_succ_of_lt (h.jw j hj), fun i hi q hq => ?_⟩
  · show (if i = A.N then ⟨0, false, und, []⟩ else A.pr i : Pm).ws.length ≤ m
    split
    · exact Nat.zero_le _
    · rename_i hne
      exact h.ws i (by have : i < A.N + 1 := hi; omega)
  · replace hq : q ∈ (if i = A.N then ⟨0, false, und, []⟩ else A.pr i : Pm).ws := hq
    split at hq
    · cases hq
    · exact Nat.lt_succ_of_lt (h.ww i (by have : i < A.N + 1 := hi; omega) q hq)
theorem next (h : Bd A n m) (hm : m ≤ 60) : Bd A.next n (m + 1) := by
  unfold Ab.next
  split
  · exact h.mono (Nat.le_refl _) (Nat.le_succ _)
  · rename_i j r hj
    have hr : Bd { A with jobs := r } n m := ⟨h.N, h.ob, h.ws, by
      have := h.jl
      rw [hj] at this
      simp only [List.length_cons] at this
      show r.length ≤ _
      omega, fun x hx => h.jw x (by rw [hj]; exact List.mem_cons_of_mem _ hx), h.ww⟩
    split
    · exact hr.settle hm (h.jw j (by rw [hj]; exact List.mem_cons_self ..)) _ _
    · exact hr.mono (Nat.le_refl _) (Nat.le_succ _)
theorem has_lt {a : Nat} (h : A.has a = true) : a - 1 < A.N := by
  have := of_decide_eq_true h
  omega
theorem play (h : Bd A n m) (hm : m ≤ 60) (o a b : Nat) (v : VV) : Bd (A.play o a b v) (n + 1) (m + 1) := by
  have h0 : Bd A (n + 1) (m + 1) := h.mono (Nat.le_succ _) (Nat.le_succ _)
  have hs : ∀ {B : Ab}, Bd B n (m + 1) → Bd B (n + 1) (m + 1) := fun hB => hB.mono (Nat.le_succ _) (Nat.le_refl _)
  unfold Ab.play
  split
  · exact h.new.mono (Nat.le_refl _) (Nat.le_succ _)
  split
  · split
    · rename_i ha
      unfold Ab.resolve
      split
      · exact h0
      · exact hs (h.settle hm (has_lt ha) _ _)
    · exact h0
  split
  · split
    · rename_i ha
      simp only [Bool.and_eq_true] at ha
      unfold Ab.resolveP
      split
      · exact h0
      split
      · exact h.grow.settle hm (A := A.grow) (has_lt ha.1) _ _
      · exact hs ((h.put (a - 1) (x := { A.pr (a - 1) with lk := true }) (h.ws _ (has_lt ha.1)) (h.ww _ (has_lt ha.1))).wait (A := A.put (a - 1) _) (has_lt ha.2) (has_lt ha.1))
    · exact h0
  split
  · split
    · rename_i ha
      unfold Ab.reject
      split
      · exact h0
      · exact hs (h.settle hm (has_lt ha) _ _)
    · exact h0
  split
  · split
    · rename_i ha
      exact h.new.wait (A := A.new) (show a - 1 < A.N + 1 from Nat.lt_succ_of_lt (has_lt ha)) (show A.N < A.N + 1 from Nat.lt_succ_self _)
    · exact h0
  · exact hs (h.next hm)
end Bd
end Go.Pl
