/- PromisePlays: settle and react, results and states, walked. Condition: the bounds that each theorem names. -/
import Derived.Test.YtcceopgaiffkmaaGreatDoorPlB
import Derived.Test.YtcceopgaiffkmaaGreatDoorPlC
import Derived.RegionTactic
import Derived.LoopTactic
import Derived.StillTailTactics
import Derived.Deep.RegionHeld3
/- settle: a promise gets its state and its value, and who waits for it gets a job. -/
namespace Go.Proofs.YtcceopgaiffkmaaGreatDoor
open Go Go.RowKit Go.Pl
set_option maxRecDepth 100000
def pk : VV → Int | .nv k _ _ => k | .flt _ => 5
def pn : VV → Int | .nv _ n _ => n | .flt _ => 0
def ps : VV → ByteArray | .nv _ _ s => s | .flt _ => ⟨#[]⟩
def px : VV → Int | .nv _ _ _ => 0 | .flt e => 4 + 6 * (e : Int)
theorem pv0 (v : VV) : pv v 0 = .int .i64 (pk v) := by cases v <;> rfl
theorem pv1 (v : VV) : pv v 1 = .int .i64 (pn v) := by cases v <;> rfl
theorem pv2 (v : VV) : pv v 2 = .string (ps v) := by cases v <;> rfl
theorem pv3 (v : VV) : pv v 3 = .int .i64 (px v) := by cases v <;> rfl
theorem at4_of {w : World} {r d : Nat} {f : Nat → Value} (h0 : w.cell? ⟨r, d, none⟩ = some (f 0)) (h1 : w.cell? ⟨r, d + 1, none⟩ = some (f 1)) (h2 : w.cell? ⟨r, d + 2, none⟩ = some (f 2)) (h3 : w.cell? ⟨r, d + 3, none⟩ = some (f 3)) : At4 w r d f := fun c hc => by
  match c, hc with
  | 0, _ => exact h0
  | 1, _ => exact h1
  | 2, _ => exact h2
  | 3, _ => exact h3
theorem onlyc {M : Nat → Prop} {w w2 : World} (h : Only M w w2) {r k : Nat} {v : Value} (hk : w.cell? ⟨r, k, none⟩ = some v) (hM : ¬ M r) : w2.cell? ⟨r, k, none⟩ = some v := by
  rw [World.cell?_of_block (w := w) (h.block r (World.block_lt_of_cell? w _ hk) hM)]
  exact hk
/-- a fact that the walk does not see -/
structure Hide (P : Prop) : Prop where
  out : P
/-- a value whose normal form is v -/
def NTo (raw : Value) (v : VV) : Prop := ∀ w, Tabs w → Calls Tryz.prog 63 #[raw] w (fun e w' => e = .returned (.agg #[.int .i64 (pk v), .int .i64 (pn v), .string (ps v), .int .i64 (px v)]) ∧ Below w.heap.size w w')
theorem _root_.Go.Pl.PS.hb {lab : Nat → Lab} {K : PK} {w : World} {A : Ab} (h : PS lab K w A) : HB w K.H K.g K.d K.n K.cap K.S := ⟨cell_blk h.hH 0, cell_blk h.hH 1, cell_blk h.hH 2, h.row⟩
/-- the three stores of settle -/
theorem store3 {lab : Nat → Lab} {K : PK} {W3 : World} {A : Ab} (hP3 : PS lab K W3 A) {p : Nat} (hp : p < A.N) (cN : Nat) (hc0 : cN ≠ 0) (hc2 : cN ≤ 2) {c : Int} (hc : c = cN) {v : VV} (hv : VOk lab K W3 v) :
    ∃ K1, PS lab K1 (((((W3.setCell ⟨K.g, K.d + K.sl p * 11 + 1 + 7, none⟩ (.int .i64 c)).setCell ⟨K.g, K.d + K.sl p * 11 + 1 + 5, none⟩ (.int .i64 0)).setCell ⟨K.g, K.d + K.sl p * 11 + 1 + 4, none⟩ (.slice (some ⟨W3.heap.size, 0, none⟩) 1 1)).alloc (.cells #[.int .i64 (pk v), .int .i64 (pn v), .string (ps v), .int .i64 (px v)] 38)).drew) (A.put p ⟨cN, false, v, []⟩) ∧ Ext lab K W3 lab K1 (((((W3.setCell ⟨K.g, K.d + K.sl p * 11 + 1 + 7, none⟩ (.int .i64 c)).setCell ⟨K.g, K.d + K.sl p * 11 + 1 + 5, none⟩ (.int .i64 0)).setCell ⟨K.g, K.d + K.sl p * 11 + 1 + 4, none⟩ (.slice (some ⟨W3.heap.size, 0, none⟩) 1 1)).alloc (.cells #[.int .i64 (pk v), .int .i64 (pn v), .string (ps v), .int .i64 (px v)] 38)).drew) A.N ∧ Only (fun r => r = K.g) W3 (((((W3.setCell ⟨K.g, K.d + K.sl p * 11 + 1 + 7, none⟩ (.int .i64 c)).setCell ⟨K.g, K.d + K.sl p * 11 + 1 + 5, none⟩ (.int .i64 0)).setCell ⟨K.g, K.d + K.sl p * 11 + 1 + 4, none⟩ (.slice (some ⟨W3.heap.size, 0, none⟩) 1 1)).alloc (.cells #[.int .i64 (pk v), .int .i64 (pn v), .string (ps v), .int .i64 (px v)] 38)).drew) := by
  have hi := hP3.slt p hp
  obtain ⟨pm0, pm1, _⟩ := hP3.pm p hp
  have hO1 : Only (fun r => r = K.g) W3 (((((W3.setCell ⟨K.g, K.d + K.sl p * 11 + 1 + 7, none⟩ (.int .i64 c)).setCell ⟨K.g, K.d + K.sl p * 11 + 1 + 5, none⟩ (.int .i64 0)).setCell ⟨K.g, K.d + K.sl p * 11 + 1 + 4, none⟩ (.slice (some ⟨W3.heap.size, 0, none⟩) 1 1)).alloc (.cells #[.int .i64 (pk v), .int .i64 (pn v), .string (ps v), .int .i64 (px v)] 38)).drew) :=
    ((((Only.set (M := fun r => r = K.g) W3 ⟨K.g, K.d + K.sl p * 11 + 1 + 7, none⟩ _ rfl).trans (Only.set (M := fun r => r = K.g) _ ⟨K.g, K.d + K.sl p * 11 + 1 + 5, none⟩ _ rfl) fun _ _ h => h).trans (Only.set (M := fun r => r = K.g) _ ⟨K.g, K.d + K.sl p * 11 + 1 + 4, none⟩ _ rfl) fun _ _ h => h).trans (Only.alloc (fun r => r = K.g) _ _) fun _ _ h => h).trans (Only.drew (fun r => r = K.g) _) fun _ _ h => h
  have hO := hO1.mono (M' := fun r => r = K.g ∨ lab r = .dat p) fun _ _ h => .inl h
  have hr := ((((hP3.row.set hi (show 8 < 11 by decide) (.int .i64 c)).set hi (show 6 < 11 by decide) (.int .i64 0)).set hi (show 5 < 11 by decide) (.slice (some ⟨W3.heap.size, 0, none⟩) 1 1)).alloc (.cells #[.int .i64 (pk v), .int .i64 (pn v), .string (ps v), .int .i64 (px v)] 38))
  have nb := alloc_at (w := (((W3.setCell ⟨K.g, K.d + K.sl p * 11 + 1 + 7, none⟩ (.int .i64 c)).setCell ⟨K.g, K.d + K.sl p * 11 + 1 + 5, none⟩ (.int .i64 0)).setCell ⟨K.g, K.d + K.sl p * 11 + 1 + 4, none⟩ (.slice (some ⟨W3.heap.size, 0, none⟩) 1 1))) (o := .cells #[.int .i64 (pk v), .int .i64 (pn v), .string (ps v), .int .i64 (px v)] 38) (k := W3.heap.size) (by simp)
  have hz4 := hO.size
  obtain ⟨h1, h2⟩ := hP3.slot (lab' := lab) (x := ⟨cN, false, v, []⟩) hp (fun _ _ => rfl) (fun r hr => hP3.new r (by omega)) hO hr (fun i c hne => by simp [hne]) (fun hl => by
    refine ⟨by simp [pm0], by simp [pm1], by simp, by simp [hc], hc2, fun h0 => absurd h0 hc0, fun _ => ⟨rfl, rfl, hl.vok hv, W3.heap.size, 0, 1, by simp, hP3.new _ (Nat.le_refl _), at4_of ?_ ?_ ?_ ?_⟩⟩
    · rw [pv0]; exact cell_blk nb 0
    · rw [pv1]; exact cell_blk nb 1
    · rw [pv2]; exact cell_blk nb 2
    · rw [pv3]; exact cell_blk nb 3)
  exact ⟨_, h1, h2, hO1⟩
/-- the state in settle's loop -/
def _root_.Go.Pl.Ab.mid (A : Ab) (p c : Nat) (v : VV) (ws : List Nat) : Ab := { A.put p ⟨c, false, v, []⟩ with jobs := A.jobs ++ ws.map fun who => ⟨who, v, c == 2⟩ }
/-- a job is laid and pushed -/
theorem job_push {lab : Nat → Lab} {K : PK} {w0 w1 w2 : World} {A : Ab} (hP : PS lab K w0 A) {who : Nat} (hw : who < A.N) {v : VV} (hv : VOk lab K w0 v) (b : Bool) {r g d' cap' : Nat} (hb : Below w0.heap.size w0 w1) (hr : w0.heap.size ≤ r) (ht : Trip w1 r 5 0 (4 + 6 * (K.sl who : Int)) ⟨#[]⟩ (pk v) (pn v) (px v) (ps v) b)
    (hJ : w2.heap[K.J]? = some (.cells #[.slice (some ⟨g, d', none⟩) (A.jobs.length + 1) cap'] tJobs (0, 0)))
    (hrow : Row w2 tJob 2 g d' (A.jobs.length + 1) cap' (app 2 A.jobs.length K.I [.int .i64 2, .slice (some ⟨r, 0, none⟩) 3 3]))
    (hg : (lab g = .items ∧ g < w1.heap.size) ∨ w1.heap.size ≤ g) (hO : Only (fun x => x = K.J ∨ K.vI.ownBlock = some x) w1 w2) :
    ∃ lab' K', PS lab' K' w2 (A.push ⟨who, v, b⟩) ∧ Ext lab K w0 lab' K' w2 A.N := by
  have hP1 := hP.below hb
  obtain ⟨lab', K', h1, h2⟩ := hP1.push (j := ⟨who, v, b⟩) (r := r) ⟨rfl, hw, (Lt.below (N := A.N) hb).vok hv, r, 0, 3, rfl, hP.new r hr, at4_of (cell_blk ht 0) (cell_blk ht 1) (cell_blk ht 2) (cell_blk ht 3),
    at4_of (by rw [pv0]; exact cell_blk ht 4) (by rw [pv1]; exact cell_blk ht 5) (by rw [pv2]; exact cell_blk ht 6) (by rw [pv3]; exact cell_blk ht 7), at4_of (cell_blk ht 8) (cell_blk ht 9) (cell_blk ht 10) (cell_blk ht 11)⟩ hJ hrow hg hO
  exact ⟨lab', K', h1, (Ext.below hb).trans h2 (Nat.le_refl _)⟩
theorem beq2 (b : Bool) : ((if b then 2 else 1 : Nat) == 2) = b := by cases b <;> rfl
set_option maxHeartbeats 4000000 in
theorem settle_calls {lab : Nat → Lab} {K : PK} {w : World} {A : Ab} (hP : PS lab K w A) (hT : Tabs K.w0) {p : Nat} (hp : p < A.N) (hst : (A.pr p).st = 0) (b : Bool) {v : VV} (hv : VOk lab K w v) (k n x : Int) (s : ByteArray) (hN : NTo (.agg #[.int .i64 k, .int .i64 n, .string s, .int .i64 x]) v) (hws : (A.pr p).ws.length ≤ 1000) (hjs : A.jobs.length ≤ 50000) (c : Int) (cN : Nat) (hcN : cN = if b then 2 else 1) (hc : c = (cN : Int)) :
    Calls Tryz.prog 42 #[.pointer (some ⟨K.H, 0, none⟩), .pointer (some ⟨K.J, 0, none⟩), .pointer (some ⟨K.g, K.d + K.sl p * 11 + 1, none⟩), .int .i64 c, .agg #[.int .i64 k, .int .i64 n, .string s, .int .i64 x]] w
      (fun e w' => e = .returned (.tuple #[]) ∧ ∃ lab' K', PS lab' K' w' (A.settle p cN v) ∧ Ext lab K w lab' K' w' A.N) := by
  have ⟨c0, c1, c2, row⟩ := hP.hb
  have ⟨pm0, pm1, pm6, pm8, _, pmP, _⟩ := hP.pm p hp
  obtain ⟨_, D, hD, hDk⟩ := pmP hst
  clear pmP
  have hi := hP.slt p hp
  have r4 : w.cell? ⟨K.g, K.d + K.sl p * 11 + 1 + 4, none⟩ = some (K.S (K.sl p) 5) := row.cell hi (show 5 < 11 by decide)
  have lg := row.lt
  have hB := (Below.refl w.heap.size w).alloc (Nat.le_refl _) (.cells #[.int .i64 k, .int .i64 n, .string s, .int .i64 x] 38)
  have jc := fun kd nd xd sd kf nf xf sf k1 n1 x1 s1 k2 n2 x2 s2 hd hf W => job_calls K.H kd nd xd sd kf nf xf sf k1 n1 x1 s1 k2 n2 x2 s2 b hd hf W
  have hc' : (if b then 2 else 1 : Int) = c := by rw [hc, hcN]; cases b <;> rfl
  rw [hc'] at jc
  have hcH : Hide (c = (cN : Int) ∧ cN ≠ 0 ∧ cN ≤ 2 ∧ (cN == 2) = b) := ⟨hc, by rw [hcN]; cases b <;> simp, by rw [hcN]; cases b <;> simp, by rw [hcN]; cases b <;> rfl⟩
  clear hc hc' hcN
  generalize hvD : K.S (K.sl p) 5 = vD at *
  go_enter Tryz.func42, Tryz.ntmps42
  go_wp2_with fail
  refine (hN _ (hT.below (hP.below hB).bel)).mono ?_
  rintro e w2 ⟨rfl, hb⟩
  obtain ⟨g0, hB2, hz⟩ := boxes1 hb
  obtain ⟨b0, b1, b2, b3⟩ := cells4 g0
  obtain ⟨f0, f1, f2, f3⟩ := free4 g0
  go_wp2
  obtain ⟨q1, q2⟩ := fin4 hB2 (Nat.le_refl _) (.int .i64 (pk v)) (.int .i64 (pn v)) (.string (ps v)) (.int .i64 (px v)) g0
  clear b0 b1 b2 b3 f0 f1 f2 f3 g0 hz hB2 hb
  generalize ((((w2.setCell ⟨w.heap.size, 0, none⟩ (.int .i64 (pk v))).setCell ⟨w.heap.size, 1, none⟩ (.int .i64 (pn v))).setCell ⟨w.heap.size, 2, none⟩ (.string (ps v))).setCell ⟨w.heap.size, 3, none⟩ (.int .i64 (px v))) = W3 at *
  have hP3 := hP.below q2
  obtain ⟨b0, b1, b2, b3⟩ := cells4 q1
  have lg3 := hP3.row.lt
  have e5 : W3.frozen? ⟨K.g, K.d + K.sl p * 11 + 1 + 4, none⟩ = false := hP3.row.frz _
  have e6 : W3.frozen? ⟨K.g, K.d + K.sl p * 11 + 1 + 5, none⟩ = false := hP3.row.frz _
  have e8 : W3.frozen? ⟨K.g, K.d + K.sl p * 11 + 1 + 7, none⟩ = false := hP3.row.frz _
  have x5 : W3.cell? ⟨K.g, K.d + K.sl p * 11 + 1 + 4, none⟩ = some (K.S (K.sl p) 5) := hP3.row.cell hi (show 5 < 11 by decide)
  have x6 : W3.cell? ⟨K.g, K.d + K.sl p * 11 + 1 + 5, none⟩ = some (K.S (K.sl p) 6) := hP3.row.cell hi (show 6 < 11 by decide)
  have x8 : W3.cell? ⟨K.g, K.d + K.sl p * 11 + 1 + 7, none⟩ = some (K.S (K.sl p) 8) := hP3.row.cell hi (show 8 < 11 by decide)
  clear row c0 c1 c2 r4
  go_region
  have hsz3 : w.heap.size < W3.heap.size := blk_lt q1
  obtain ⟨K1, hP4, hE4', hO4⟩ := store3 hP3 hp cN hcH.out.2.1 hcH.out.2.2.1 hcH.out.1 ((Lt.below (N := A.N) q2).vok hv)
  have hE4 := (Ext.below (K := K) (lab := lab) (N := A.N) q2).trans hE4' (Nat.le_refl _)
  have hlbx : lab w.heap.size = .imm := hP.new _ (Nat.le_refl _)
  have hbx := (hO4.block _ hsz3 (fun h => by omega)).trans q1
  have hrow4 := (hD.same (fun r hr _ => q2.block r hr) fun _ _ h => h).same (fun r hr hl => hO4.block r hr (by
        rintro rfl
        rw [hP.lg] at hl
        cases hl)) fun _ _ h => h
  generalize ((((W3.setCell ⟨K.g, K.d + K.sl p * 11 + 1 + 7, none⟩ (.int .i64 c)).setCell ⟨K.g, K.d + K.sl p * 11 + 1 + 5, none⟩ (.int .i64 0)).setCell ⟨K.g, K.d + K.sl p * 11 + 1 + 4, none⟩ (.slice (some ⟨W3.heap.size, 0, none⟩) 1 1)).alloc (.cells #[.int .i64 (pk v), .int .i64 (pn v), .string (ps v), .int .i64 (px v)] 38)).drew = W4 at *
  clear pm0 pm1 pm6 pm8
  clear hO4 hE4' hP3 b0 b1 b2 b3 e5 e6 e8 x5 x6 x8 lg3 q1 hsz3 hD hvD
  have lbx := blk_lt hbx
  have hgo : ∀ z, (A.pr p).ws.length = z → z ≤ 1000 := fun z h => h ▸ hws
  generalize hwsl : (A.pr p).ws.length = m at *
  go_wp2_with fail
  go_loopw [11] (fun iv wr => ∃ kk q : Nat, iv = .int .i64 q ∧ q = 3 * kk ∧ kk ≤ m ∧ ∃ lab' K', PS lab' K' wr (A.mid p cN v ((A.pr p).ws.take kk)) ∧ Ext lab K1 W4 lab' K' wr A.N ∧ Sl wr (fun r => lab' r = .dat p) tVal 4 vD (3 * m) D) (fun iv _ => match iv with | .int _ n => 3 * m - n.toNat | _ => 0)
  case atStart =>
    refine ⟨0, 0, rfl, rfl, Nat.zero_le _, lab, K1, ?_, Ext.refl, hrow4⟩
    simpa [Ab.mid, Ab.put] using hP4
  case round =>
    obtain ⟨kk, q, rfl, hq, hkm, lab', K', hPk, hEk, hSl⟩ := hrel
    by_cases hlt : kk < m
    · obtain ⟨rD, dD, cD, rfl, hLD, rowD⟩ := hSl.pos (by omega)
      obtain ⟨who, hwho⟩ : ∃ who, (A.pr p).ws[kk]? = some who := ⟨_, List.getElem?_eq_getElem (by omega)⟩
      obtain ⟨hw1, hd0, ⟨bb, hd1⟩, hd2⟩ := hDk kk who hwho
      have t0 : ∀ c, c < 4 → wr.cell? ⟨rD, dD + q * 4 + c, none⟩ = some (pv und c) := fun c hc => by rw [rowD.cell (i := q) (by omega) hc, ← hd0 c hc, hq]
      have t1 : ∀ c, c < 4 → wr.cell? ⟨rD, dD + (q + 1) * 4 + c, none⟩ = some (handler bb c) := fun c hc => by rw [rowD.cell (i := q + 1) (by omega) hc, ← hd1 c hc, hq]
      have t2 : ∀ c, c < 4 → wr.cell? ⟨rD, dD + (q + 2) * 4 + c, none⟩ = some (ref (K.sl who) c) := fun c hc => by rw [rowD.cell (i := q + 2) (by omega) hc, ← hd2 c hc, hq]
      have t00 : wr.cell? ⟨rD, dD + q * 4, none⟩ = some (.int .i64 0) := t0 0 (by decide)
      have t01 : wr.cell? ⟨rD, dD + q * 4 + 1, none⟩ = some (.int .i64 0) := t0 1 (by decide)
      have t02 : wr.cell? ⟨rD, dD + q * 4 + 2, none⟩ = some (.string ⟨#[]⟩) := t0 2 (by decide)
      have t03 : wr.cell? ⟨rD, dD + q * 4 + 3, none⟩ = some (.int .i64 0) := t0 3 (by decide)
      obtain ⟨kf, nf, hkf, t10, t11, t12, t13⟩ : ∃ kf nf : Int, kf ≠ 5 ∧ wr.cell? ⟨rD, dD + (q + 1) * 4, none⟩ = some (.int .i64 kf) ∧ wr.cell? ⟨rD, dD + (q + 1) * 4 + 1, none⟩ = some (.int .i64 nf) ∧ wr.cell? ⟨rD, dD + (q + 1) * 4 + 2, none⟩ = some (.string ⟨#[]⟩) ∧ wr.cell? ⟨rD, dD + (q + 1) * 4 + 3, none⟩ = some (.int .i64 0) := by
        cases bb with
        | false => exact ⟨0, 0, by decide, t1 0 (by decide), t1 1 (by decide), t1 2 (by decide), t1 3 (by decide)⟩
        | true => exact ⟨3, 1, by decide, t1 0 (by decide), t1 1 (by decide), t1 2 (by decide), t1 3 (by decide)⟩
      have t20 : wr.cell? ⟨rD, dD + (q + 2) * 4, none⟩ = some (.int .i64 5) := t2 0 (by decide)
      have t21 : wr.cell? ⟨rD, dD + (q + 2) * 4 + 1, none⟩ = some (.int .i64 0) := t2 1 (by decide)
      have t22 : wr.cell? ⟨rD, dD + (q + 2) * 4 + 2, none⟩ = some (.string ⟨#[]⟩) := t2 2 (by decide)
      have t23 : wr.cell? ⟨rD, dD + (q + 2) * 4 + 3, none⟩ = some (.int .i64 (4 + 6 * (K.sl who : Int))) := t2 3 (by decide)
      have hbr := (hEk.lt.imm _ lbx (hlbx)).trans hbx
      obtain ⟨b0, b1, b2, b3⟩ := cells4 hbr
      have ltz : (q : Int) + 2 < 3 * (m : Int) := by omega
      have ltz1 : (q : Int) + 1 < 3 * (m : Int) := by omega
      have ltz0 : (q : Int) < 3 * (m : Int) := by omega
      have hm0 := hgo _ rfl
      have iw1 : IntKind.i64.wrap ((q : Int) + 1) = (q : Int) + 1 := IntWalk.i64_in _ (by omega)
      have iw2 : IntKind.i64.wrap ((q : Int) + 2) = (q : Int) + 2 := IntWalk.i64_in _ (by omega)
      have ip1 : 0 ≤ (q : Int) + 1 := by omega
      have ip2 : 0 ≤ (q : Int) + 2 := by omega
      have it1 : ((q : Int) + 1).toNat = q + 1 := by omega
      have it2 : ((q : Int) + 2).toNat = q + 2 := by omega
      have hqH : Hide (q = 3 * kk) := ⟨hq⟩
      clear t0 t1 t2 hd0 hd1 hd2 hq
      go_wp2_with fail
      have eJ : K'.J = K.J := hEk.eJ.trans hE4.eJ
      have hPd := fun w5 (h : Below wr.drew.heap.size wr.drew w5) => hPk.below (w' := w5) ((Below.refl _ wr).drew.trans h)
      have hJd := fun w5 h => eJ ▸ (hPd w5 h).hJ
      have hId := fun w5 h => (hPd w5 h).it
      have hJL : ¬ lab' K.J = .items := by rw [← eJ, hPk.lJ]; intro h; cases h
      have hMD : Hide (¬ (rD = K.J ∨ K'.vI.ownBlock = some rD)) := ⟨by
        rintro (h | h)
        · rw [h, ← eJ, hPk.lJ] at hLD; cases hLD
        · rw [(hPk.it.own h).1] at hLD; cases hLD⟩
      have hLb : lab' w.heap.size = .imm := (hEk.lt.labs _ lbx).trans hlbx
      have hMb : Hide (¬ (w.heap.size = K.J ∨ K'.vI.ownBlock = some w.heap.size)) := ⟨by
        rintro (h | h)
        · rw [h, ← eJ, hPk.lJ] at hLb; cases hLb
        · rw [(hPk.it.own h).1] at hLb; cases hLb⟩
      have hLbH : Hide (lab' w.heap.size = .imm) := ⟨hLb⟩
      clear hLb
      have hjl : (A.mid p cN v ((A.pr p).ws.take kk)).jobs.length < 100000 := by
        simp only [Ab.mid, List.length_append, List.length_map, List.length_take]
        omega
      go_region_held3 (fun W : World => W.cell? ⟨rD, dD + q * 4, none⟩ = some (.int .i64 0) ∧ W.cell? ⟨rD, dD + q * 4 + 1, none⟩ = some (.int .i64 0) ∧ W.cell? ⟨rD, dD + q * 4 + 2, none⟩ = some (.string ⟨#[]⟩) ∧ W.cell? ⟨rD, dD + q * 4 + 3, none⟩ = some (.int .i64 0) ∧ W.cell? ⟨rD, dD + (q + 1) * 4, none⟩ = some (.int .i64 kf) ∧ W.cell? ⟨rD, dD + (q + 1) * 4 + 1, none⟩ = some (.int .i64 nf) ∧ W.cell? ⟨rD, dD + (q + 1) * 4 + 2, none⟩ = some (.string ⟨#[]⟩) ∧ W.cell? ⟨rD, dD + (q + 1) * 4 + 3, none⟩ = some (.int .i64 0) ∧ W.cell? ⟨rD, dD + (q + 2) * 4, none⟩ = some (.int .i64 5) ∧ W.cell? ⟨rD, dD + (q + 2) * 4 + 1, none⟩ = some (.int .i64 0) ∧ W.cell? ⟨rD, dD + (q + 2) * 4 + 2, none⟩ = some (.string ⟨#[]⟩) ∧ W.cell? ⟨rD, dD + (q + 2) * 4 + 3, none⟩ = some (.int .i64 (4 + 6 * (K.sl who : Int))) ∧ W.cell? ⟨w.heap.size, 0, none⟩ = some (.int .i64 (pk v)) ∧ W.cell? ⟨w.heap.size, 1, none⟩ = some (.int .i64 (pn v)) ∧ W.cell? ⟨w.heap.size, 2, none⟩ = some (.string (ps v)) ∧ W.cell? ⟨w.heap.size, 3, none⟩ = some (.int .i64 (px v))) (first | exact ⟨t00, t01, t02, t03, t10, t11, t12, t13, t20, t21, t22, t23, b0, b1, b2, b3⟩ | exact ⟨keepc hb5 t00, keepc hb5 t01, keepc hb5 t02, keepc hb5 t03, keepc hb5 t10, keepc hb5 t11, keepc hb5 t12, keepc hb5 t13, keepc hb5 t20, keepc hb5 t21, keepc hb5 t22, keepc hb5 t23, keepc hb5 b0, keepc hb5 b1, keepc hb5 b2, keepc hb5 b3⟩ | exact ⟨onlyc hO6 (keepc hb5 t00) hMD.out, onlyc hO6 (keepc hb5 t01) hMD.out, onlyc hO6 (keepc hb5 t02) hMD.out, onlyc hO6 (keepc hb5 t03) hMD.out, onlyc hO6 (keepc hb5 t10) hMD.out, onlyc hO6 (keepc hb5 t11) hMD.out, onlyc hO6 (keepc hb5 t12) hMD.out, onlyc hO6 (keepc hb5 t13) hMD.out, onlyc hO6 (keepc hb5 t20) hMD.out, onlyc hO6 (keepc hb5 t21) hMD.out, onlyc hO6 (keepc hb5 t22) hMD.out, onlyc hO6 (keepc hb5 t23) hMD.out, onlyc hO6 (keepc hb5 b0) hMb.out, onlyc hO6 (keepc hb5 b1) hMb.out, onlyc hO6 (keepc hb5 b2) hMb.out, onlyc hO6 (keepc hb5 b3) hMb.out⟩) (first | (go_at_call 66; refine (jc 0 0 0 _ kf nf 0 _ 5 0 _ _ _ _ _ _ (by decide) hkf _).mono ?_; rintro e w5 ⟨r, rfl, hr5, ht5, hb5⟩; go_simp) | (go_at_call 65; refine (push_calls w5 K.J K'.vI tJobs (fun r => lab' r = .items) _ K'.I 2 r (hJd _ hb5) (hId _ hb5) hJL hjl).mono ?_; rintro e w6 ⟨rfl, g6, d6, cap6, hJ6, hrow6, hg6, hO6⟩; go_simp))
      have hEE := hE4.trans hEk (Nat.le_refl _)
      have hsl : K.sl who = K'.sl who := (hEE.lt.sl who hw1).symm
      have hPw := hPk.below (w' := wr.drew) ((Below.refl _ wr).drew)
      have hvw := (Lt.below (lab := lab') (K := K') (N := A.N) ((Below.refl wr.heap.size wr).drew)).vok (hEE.lt.vok hv)
      rw [hsl] at ht5
      rw [← eJ] at hJ6 hO6
      obtain ⟨lab2, K2, hP2, hE2⟩ := job_push hPw hw1 hvw b hb5 hr5 ht5 hJ6 hrow6 hg6 hO6
      have hE2' := (Ext.below (lab := lab') (K := K') (N := A.N) ((Below.refl wr.heap.size wr).drew)).trans hE2 (Nat.le_refl _)
      have hrr : w6.heap[rD]? = wr.heap[rD]? := (hO6.block rD (Nat.lt_of_lt_of_le rowD.lt hb5.size) (by rw [eJ]; exact hMD.out)).trans (hb5.block rD rowD.lt)
      go_wp2_with fail
      have hq := hqH.out
      refine ⟨⟨kk + 1, q + 3, by simp, by omega, by omega, lab2, K2, ?_, hEk.trans hE2' (Nat.le_refl _), ?_⟩, ?_⟩
      · have e1 : (A.mid p cN v ((A.pr p).ws.take kk)).push ⟨who, v, b⟩ = A.mid p cN v ((A.pr p).ws.take (kk + 1)) := by
          simp only [Ab.mid, Ab.push, List.take_add_one, hwho, Option.toList_some, List.map_append, List.map_cons, List.map_nil, List.append_assoc, hcH.out.2.2.2]
        rw [← e1]
        exact hP2
      · exact .inr ⟨rD, dD, cD, rfl, (hE2'.lt.labs rD rowD.lt).trans hLD, rowD.same hrr⟩
      · show 3 * m - ((q : Int) + 3).toNat < 3 * m - (q : Int).toNat
        omega
    · obtain rfl : kk = m := by omega
      obtain ⟨ao, cp, rfl⟩ := hSl.form
      have hqH : Hide (q = 3 * kk) := ⟨hq⟩
      have ltz : ¬ (q : Int) + 2 < 3 * (kk : Int) := by omega
      have hm0 := hgo _ rfl
      have hqm : q ≤ 3000 := by omega
      clear hq
      go_wp2_with fail
      go_end0
      refine ⟨rfl, lab', K', ?_, hE4.trans hEk (Nat.le_refl _)⟩
      rw [← hwsl, List.take_length] at hPk
      exact hPk
end Go.Proofs.YtcceopgaiffkmaaGreatDoor

/- react: who waits for a promise is written down, or gets a job. -/
namespace Go.Proofs.YtcceopgaiffkmaaGreatDoor
open Go Go.RowKit Go.Pl
set_option maxRecDepth 100000
theorem z38 : ∃ i0 z, Tryz.prog.info? 38 = some i0 ∧ i0.zero = some z ∧ i0.size = 4 ∧ i0.bytes ≤ 1000 ∧ z.cells.size = 4 := zinfo (by kernel_rfl)
/-- the twelve cells of a reaction -/
def rcells (kf nf : Int) (s : Nat) : List Value := [.int .i64 0, .int .i64 0, .string ⟨#[]⟩, .int .i64 0, .int .i64 kf, .int .i64 nf, .string ⟨#[]⟩, .int .i64 0, .int .i64 5, .int .i64 0, .string ⟨#[]⟩, .int .i64 (4 + 6 * (s : Int))]
theorem wait_store {lab : Nat → Lab} {K : PK} {w1 w8 : World} {A : Ab} (hP : PS lab K w1 A) {p : Nat} (hp : p < A.N) (h0 : (A.pr p).st = 0) {who : Nat} (hw : who < A.N) {kf nf : Int} {fb : Bool} (hf : kf = (if fb then 3 else 0) ∧ nf = (if fb then 1 else 0)) {D : Nat → Nat → Value} {o : Obj}
    (hD : Sl w1 (fun r => lab r = .dat p) tVal 4 (K.S (K.sl p) 5) (3 * (A.pr p).ws.length) D)
    (hDk : ∀ (k q : Nat), (A.pr p).ws[k]? = some q → q < A.N ∧ (∀ c, c < 4 → D (3 * k) c = pv und c) ∧ (∃ b : Bool, ∀ c, c < 4 → D (3 * k + 1) c = handler b c) ∧ ∀ c, c < 4 → D (3 * k + 2) c = ref (K.sl q) c)
    {g8 d8 cap8 : Nat} (hrow8 : Row w8 tVal 4 g8 d8 (3 * (A.pr p).ws.length + 3) cap8 (app 4 (3 * (A.pr p).ws.length) D (rcells kf nf (K.sl who))))
    (hgrow : (w1.alloc o).grownBy w8 (K.S (K.sl p) 5).ownBlock) (hat : ((K.S (K.sl p) 5).ownBlock = some g8 ∧ lab g8 = .dat p) ∨ g8 = (w1.alloc o).heap.size) :
    ∃ lab' K', PS lab' K' (w8.setCell ⟨K.g, K.d + K.sl p * 11 + 1 + 4, none⟩ (.slice (some ⟨g8, d8, none⟩) (3 * (A.pr p).ws.length + 3) cap8)) (A.put p { A.pr p with ws := (A.pr p).ws ++ [who] }) ∧
      Ext lab K w1 lab' K' (w8.setCell ⟨K.g, K.d + K.sl p * 11 + 1 + 4, none⟩ (.slice (some ⟨g8, d8, none⟩) (3 * (A.pr p).ws.length + 3) cap8)) A.N := by
  have hi := hP.slt p hp
  obtain ⟨pm0, pm1, pm6, pm8, pm2, pmP, _⟩ := hP.pm p hp
  have hown : ∀ r, (K.S (K.sl p) 5).ownBlock = some r → lab r = .dat p ∧ r < w1.heap.size := fun r hr => hD.own hr
  have hsz := hgrow.size
  have sza : (w1.alloc o).heap.size = w1.heap.size + 1 := by simp
  have hgs : (lab g8 = .dat p ∧ g8 < w1.heap.size) ∨ w1.heap.size ≤ g8 := by
    rcases hat with ⟨h1, h2⟩ | h
    · exact .inl (hown _ h1)
    · right; omega
  have hgK : g8 ≠ K.g := by
    rintro rfl
    rcases hgs with ⟨h, _⟩ | h
    · rw [hP.lg] at h; cases h
    · have := hP.row.lt; omega
  have hlab : ∀ r, r < w1.heap.size → up lab g8 (.dat p) r = lab r := fun r hr => up_lt (by
    rcases hgs with h | h
    · exact .inl h.1
    · right; omega)
  have fgr : w8.heap[K.g]? = w1.heap[K.g]? := (hgrow.block K.g (by have := hP.row.lt; omega) (fun h => by
    have := (hown _ h.symm).1
    rw [hP.lg] at this; cases this)).trans (halloc w1 o _ hP.row.lt)
  have hO : Only (fun r => r = K.g ∨ lab r = .dat p) w1 (w8.setCell ⟨K.g, K.d + K.sl p * 11 + 1 + 4, none⟩ (.slice (some ⟨g8, d8, none⟩) (3 * (A.pr p).ws.length + 3) cap8)) := by
    have h1 : Only (fun r => r = K.g ∨ lab r = .dat p) w1 w8 := ⟨hgrow.os, hgrow.tape, hgrow.output, by omega, fun k hk hn => (hgrow.block k (by omega) (fun h => hn (.inr (hown _ h.symm).1))).trans (halloc w1 o k hk)⟩
    exact h1.trans (Only.set (M := fun r => r = K.g ∨ lab r = .dat p) w8 _ _ (.inl rfl)) fun _ _ h => h
  have hrow : Row (w8.setCell ⟨K.g, K.d + K.sl p * 11 + 1 + 4, none⟩ (.slice (some ⟨g8, d8, none⟩) (3 * (A.pr p).ws.length + 3) cap8)) tSlot 11 K.g K.d K.n K.cap _ := (hP.row.same fgr).set hi (show 5 < 11 by decide) _
  have hnew : ∀ r, (w8.setCell ⟨K.g, K.d + K.sl p * 11 + 1 + 4, none⟩ (.slice (some ⟨g8, d8, none⟩) (3 * (A.pr p).ws.length + 3) cap8)).heap.size ≤ r → up lab g8 (.dat p) r = .imm := fun r hr => by
    have := hrow8.lt
    have hr : w8.heap.size ≤ r := by simpa using hr
    rw [up_lt (.inr (by omega))]
    exact hP.new r (by omega)
  obtain ⟨h1, h2⟩ := hP.slot (lab' := up lab g8 (.dat p)) (x := { A.pr p with ws := (A.pr p).ws ++ [who] }) hp hlab hnew hO hrow (fun i c hne => by simp [hne]) (fun hl => by
    refine ⟨by simp [pm0], by simp [pm1], by simp [pm6], by simp [pm8], pm2, fun _ => ?_, fun h => absurd h0 h⟩
    refine ⟨(pmP h0).1, app 4 (3 * (A.pr p).ws.length) D (rcells kf nf (K.sl who)), .inr ⟨g8, d8, cap8, by simp; omega, up_same _ _, ?_⟩, fun k q hk => ?_⟩
    · have e : 3 * ((A.pr p).ws ++ [who]).length = 3 * (A.pr p).ws.length + 3 := by simp; omega
      show Row _ tVal 4 g8 d8 (3 * ((A.pr p).ws ++ [who]).length) cap8 _
      rw [e]
      exact hrow8.far _ _ hgK
    · have hk : ((A.pr p).ws ++ [who])[k]? = some q := hk
      by_cases hlt : k < (A.pr p).ws.length
      · rw [List.getElem?_append_left hlt] at hk
        obtain ⟨a1, a2, a3, a4⟩ := hDk k q hk
        have e0 : ∀ c, app 4 (3 * (A.pr p).ws.length) D (rcells kf nf (K.sl who)) (3 * k) c = D (3 * k) c := fun c => by simp only [app]; rw [if_pos (by omega)]
        have e1 : ∀ c, app 4 (3 * (A.pr p).ws.length) D (rcells kf nf (K.sl who)) (3 * k + 1) c = D (3 * k + 1) c := fun c => by simp only [app]; rw [if_pos (by omega)]
        have e2 : ∀ c, app 4 (3 * (A.pr p).ws.length) D (rcells kf nf (K.sl who)) (3 * k + 2) c = D (3 * k + 2) c := fun c => by simp only [app]; rw [if_pos (by omega)]
        exact ⟨a1, fun c hc => (e0 c).trans (a2 c hc), a3.imp fun b hb c hc => (e1 c).trans (hb c hc), fun c hc => (e2 c).trans (a4 c hc)⟩
      · rw [List.getElem?_append_right (by omega)] at hk
        obtain rfl : k = (A.pr p).ws.length := by
          have := (List.getElem?_eq_some_iff.1 hk).1
          simp at this; omega
        rw [Nat.sub_self] at hk
        obtain rfl : who = q := Option.some.inj hk
        generalize (A.pr p).ws.length = m
        have e0 : ∀ c, app 4 (3 * m) D (rcells kf nf (K.sl who)) (3 * m) c = ((rcells kf nf (K.sl who))[c]?).getD (.bool false) := fun c => by simp [app]
        have e1 : ∀ c, app 4 (3 * m) D (rcells kf nf (K.sl who)) (3 * m + 1) c = ((rcells kf nf (K.sl who))[4 + c]?).getD (.bool false) := fun c => by
          simp only [app]
          rw [if_neg (by omega), show (3 * m + 1 - 3 * m) * 4 + c = 4 + c by omega]
        have e2 : ∀ c, app 4 (3 * m) D (rcells kf nf (K.sl who)) (3 * m + 2) c = ((rcells kf nf (K.sl who))[8 + c]?).getD (.bool false) := fun c => by
          simp only [app]
          rw [if_neg (by omega), show (3 * m + 2 - 3 * m) * 4 + c = 8 + c by omega]
        refine ⟨hw, fun c hc => (e0 c).trans ?_, ⟨fb, fun c hc => (e1 c).trans ?_⟩, fun c hc => (e2 c).trans ?_⟩
        · match c, hc with
          | 0, _ => rfl
          | 1, _ => rfl
          | 2, _ => rfl
          | 3, _ => rfl
        · obtain ⟨rfl, rfl⟩ := hf
          cases fb <;> (match c, hc with
          | 0, _ => rfl
          | 1, _ => rfl
          | 2, _ => rfl
          | 3, _ => rfl)
        · match c, hc with
          | 0, _ => rfl
          | 1, _ => rfl
          | 2, _ => rfl
          | 3, _ => rfl)
  exact ⟨_, _, h1, h2⟩
theorem nto_und : NTo (.agg #[.int .i64 0, .int .i64 0, .string ⟨#[]⟩, .int .i64 0]) und := fun w hT => normal_calls 0 0 0 ⟨#[]⟩ (by decide) (by decide) w hT
theorem nto_one : NTo (.agg #[.int .i64 3, .int .i64 1, .string ⟨#[]⟩, .int .i64 0]) (.nv 3 1 ⟨#[]⟩) := fun w hT => normal_calls 3 1 0 ⟨#[]⟩ (by decide) (by decide) w hT
set_option maxHeartbeats 8000000 in
theorem react_pend {lab : Nat → Lab} {K : PK} {w : World} {A : Ab} (hP : PS lab K w A) (hT : Tabs K.w0) {p : Nat} (hp : p < A.N) (hst : (A.pr p).st = 0) {who : Nat} (hwho : who < A.N) (kf nf : Int) (fb : Bool) (hf : Hide (kf = (if fb then 3 else 0) ∧ nf = (if fb then 1 else 0)))
    (hN : ∀ w, Tabs w → Calls Tryz.prog 63 #[.agg #[.int .i64 kf, .int .i64 nf, .string ⟨#[]⟩, .int .i64 0]] w (fun e w' => e = .returned (.agg #[.int .i64 kf, .int .i64 nf, .string ⟨#[]⟩, .int .i64 0]) ∧ Below w.heap.size w w')) (hws : (A.pr p).ws.length ≤ 1000) :
    Calls Tryz.prog 43 #[.pointer (some ⟨K.H, 0, none⟩), .pointer (some ⟨K.J, 0, none⟩), .pointer (some ⟨K.g, K.d + K.sl p * 11 + 1, none⟩), .agg #[.int .i64 0, .int .i64 0, .string ⟨#[]⟩, .int .i64 0], .agg #[.int .i64 kf, .int .i64 nf, .string ⟨#[]⟩, .int .i64 0], .agg #[.int .i64 5, .int .i64 0, .string ⟨#[]⟩, .int .i64 (4 + 6 * (K.sl who : Int))]] w
      (fun e w' => e = .returned (.tuple #[]) ∧ ∃ lab' K', PS lab' K' w' (A.wait p who) ∧ Ext lab K w lab' K' w' A.N) := by
  have ⟨_, _, _, pm8, _, pmP, _⟩ := hP.pm p hp
  obtain ⟨_, D, hD, hDk⟩ := pmP hst
  clear pmP
  have pm8' : K.S (K.sl p) 8 = .int .i64 0 := by rw [pm8, hst]; rfl
  have hi := hP.slt p hp
  have lg := hP.row.lt
  have hwt : A.wait p who = A.put p { A.pr p with ws := (A.pr p).ws ++ [who] } := by rw [Ab.wait, if_pos hst]
  obtain ⟨A2, hA2⟩ : ∃ A2, A2 = A.wait p who := ⟨_, rfl⟩
  have hA2H : Hide (A.put p { A.pr p with ws := (A.pr p).ws ++ [who] } = A2) := ⟨by rw [hA2, hwt]⟩
  rw [← hA2]
  clear hwt hA2
  have hB3 := (((Below.refl w.heap.size w).alloc (Nat.le_refl _) (.cells #[.int .i64 0, .int .i64 0, .string ⟨#[]⟩, .int .i64 0] 38)).alloc (by simp) (.cells #[.int .i64 kf, .int .i64 nf, .string ⟨#[]⟩, .int .i64 0] 38)).alloc (by simp; omega) (.cells #[.int .i64 5, .int .i64 0, .string ⟨#[]⟩, .int .i64 (4 + 6 * (K.sl who : Int))] 38)
  obtain ⟨g0, g1, g2, _, hz⟩ := boxes3 (Below.refl _ (((w.alloc (.cells #[.int .i64 0, .int .i64 0, .string ⟨#[]⟩, .int .i64 0] 38)).alloc (.cells #[.int .i64 kf, .int .i64 nf, .string ⟨#[]⟩, .int .i64 0] 38)).alloc (.cells #[.int .i64 5, .int .i64 0, .string ⟨#[]⟩, .int .i64 (4 + 6 * (K.sl who : Int))] 38)))
  have hP3 := hP.below hB3
  have x8 : (((w.alloc (.cells #[.int .i64 0, .int .i64 0, .string ⟨#[]⟩, .int .i64 0] 38)).alloc (.cells #[.int .i64 kf, .int .i64 nf, .string ⟨#[]⟩, .int .i64 0] 38)).alloc (.cells #[.int .i64 5, .int .i64 0, .string ⟨#[]⟩, .int .i64 (4 + 6 * (K.sl who : Int))] 38)).cell? ⟨K.g, K.d + K.sl p * 11 + 1 + 7, none⟩ = some (.int .i64 0) := by
    have := hP3.row.cell hi (show 8 < 11 by decide)
    rw [pm8'] at this
    exact this
  go_enter Tryz.func43, Tryz.ntmps43
  go_wp2
  generalize (((w.alloc (.cells #[.int .i64 0, .int .i64 0, .string ⟨#[]⟩, .int .i64 0] 38)).alloc (.cells #[.int .i64 kf, .int .i64 nf, .string ⟨#[]⟩, .int .i64 0] 38)).alloc (.cells #[.int .i64 5, .int .i64 0, .string ⟨#[]⟩, .int .i64 (4 + 6 * (K.sl who : Int))] 38)) = W3 at *
  obtain ⟨a0, a1, a2, a3⟩ := cells4 g0
  obtain ⟨b0, b1, b2, b3⟩ := cells4 g1
  obtain ⟨d0, d1, d2, d3⟩ := cells4 g2
  have hD3 : Sl W3 (fun r => lab r = .dat p) tVal 4 (K.S (K.sl p) 5) (3 * (A.pr p).ws.length) D := hD.same (fun r hr _ => hB3.block r hr) fun _ _ h => h
  have x5 : W3.cell? ⟨K.g, K.d + K.sl p * 11 + 1 + 4, none⟩ = some (K.S (K.sl p) 5) := hP3.row.cell hi (show 5 < 11 by decide)
  have hown : Hide (∀ r, (K.S (K.sl p) 5).ownBlock = some r → lab r = .dat p) := ⟨fun r hr => (hD.own hr).1⟩
  have hwst := fun (wc w8 : World) (o : Obj) (hC : Below W3.heap.size W3 wc) (g8 d8 cap8 : Nat) h1 h2 h3 => wait_store (o := o) (w8 := w8) (hP3.below hC) hp hst hwho hf.out (hD3.same (fun r hr _ => hC.block r hr) fun _ _ h => h) hDk (g8 := g8) (d8 := d8) (cap8 := cap8) h1 h2 h3
  have hEx := Ext.below (lab := lab) (K := K) (N := A.N) hB3
  have hlW : Hide (∀ r, w.heap.size ≤ r → lab r = .imm) := ⟨fun r hr => hP.new r hr⟩
  have hfg : ∀ (wc w8 : World) (o : Obj), Below W3.heap.size W3 wc → (wc.alloc o).grownBy w8 (K.S (K.sl p) 5).ownBlock → w8.heap[K.g]? = W3.heap[K.g]? := fun wc w8 o hC hg => by
    have l1 := hP3.row.lt
    have l2 := hC.size
    rw [hg.block K.g (by simp; omega) (fun h => by
      have := hown.out _ h.symm
      rw [hP.lg] at this; cases this), halloc wc o _ (by omega), hC.block _ l1]
  have hgk : ∀ (wc w8 : World) (o : Obj), Below W3.heap.size W3 wc → (wc.alloc o).grownBy w8 (K.S (K.sl p) 5).ownBlock → ∀ {r k : Nat} {v : Value}, w.heap.size ≤ r → W3.cell? ⟨r, k, none⟩ = some v → w8.cell? ⟨r, k, none⟩ = some v := fun wc w8 o hC hg {r k v} hr hv => by
    have l1 := World.block_lt_of_cell? W3 _ hv
    have l2 := hC.size
    have l1' : r < W3.heap.size := l1
    rw [World.cell?_of_block (w := W3) (by
      show w8.heap[r]? = W3.heap[r]?
      rw [hg.block r (by simp; omega) (fun h => by
        have := hown.out _ h.symm
        rw [hlW.out r hr] at this; cases this), halloc wc o _ (by omega), hC.block _ l1'])]
    exact hv
  have hgk9 : ∀ (wc w8 : World) (o : Obj) (x : Value), Below W3.heap.size W3 wc → (wc.alloc o).grownBy w8 (K.S (K.sl p) 5).ownBlock → ∀ {r k : Nat} {v : Value}, w.heap.size ≤ r → W3.cell? ⟨r, k, none⟩ = some v → (w8.setCell ⟨K.g, K.d + K.sl p * 11 + 1 + 4, none⟩ x).cell? ⟨r, k, none⟩ = some v := fun wc w8 o x hC hg {r k v} hr hv => by
    rw [World.cell?_setCell_far _ _ _ _ (by show K.g ≠ r; omega)]
    exact hgk wc w8 o hC hg hr hv
  have hfr : ∀ (wc w8 : World) (o : Obj), Below W3.heap.size W3 wc → (wc.alloc o).grownBy w8 (K.S (K.sl p) 5).ownBlock → w8.frozen? ⟨K.g, K.d + K.sl p * 11 + 1 + 4, none⟩ = false := fun wc w8 o hC hg => (hP3.row.same (hfg wc w8 o hC hg)).frz _
  have hcg : ∀ (wc w8 : World) (o : Obj), Below W3.heap.size W3 wc → (wc.alloc o).grownBy w8 (K.S (K.sl p) 5).ownBlock → w8.cell? ⟨K.g, K.d + K.sl p * 11 + 1 + 4, none⟩ = some (K.S (K.sl p) 5) := fun wc w8 o hC hg => (hP3.row.same (hfg wc w8 o hC hg)).cell hi (show 5 < 11 by decide)
  have hslf : ∀ wc : World, Below W3.heap.size W3 wc → Sl wc (fun r => lab r = .dat p) tVal 4 (K.S (K.sl p) 5) (3 * (A.pr p).ws.length) D := fun wc hC => hD3.same (fun r hr _ => hC.block r hr) fun _ _ h => h
  have hsrcf : ∀ wc : World, Src Tryz.prog 4 43 (.slice (some ⟨wc.heap.size, 0, none⟩) 3 3) 3 (rcells kf nf (K.sl who)) (wc.alloc (.cells (rcells kf nf (K.sl who)).toArray 38)) := fun wc => by
    refine Src.ofSlice (e' := 38) _ Tryz.underlying43 _ 3 3 _ rfl (World.news_of_block (cs := (rcells kf nf (K.sl who)).toArray) (t := 38) (fr := (0, 0)) (hallocn _ _)) (by simp [rcells, Value.oneCell'])
  have hTf : ∀ wc : World, Below W3.heap.size W3 wc → Tabs wc := fun wc hC => hT.below (hP3.below hC).bel
  have hC : Below W3.heap.size W3 W3.drew := (Below.refl _ W3).drew
  obtain ⟨i0, z, hi0, hz0, hz1, hz2, hz3⟩ := z38
  have q0 : w.heap.size ≤ w.heap.size := Nat.le_refl _
  have q1 : w.heap.size ≤ w.heap.size + 1 := by omega
  have q2 : w.heap.size ≤ w.heap.size + 1 + 1 := by omega
  have lg3 := hP3.row.lt
  have hm3 : 3 * (A.pr p).ws.length + 3 ≤ 1000000 := by omega
  clear x8 pm8 pm8' g0 g1 g2 hD hD3
  generalize hvD : K.S (K.sl p) 5 = vD at *
  generalize hmm : (A.pr p).ws.length = m at *
  refine wp_region_noPanic ?_
  refine wp_region_held_drew (S := (fun W : World => W.cell? ⟨w.heap.size, 0, none⟩ = some (.int .i64 0) ∧ W.cell? ⟨w.heap.size, 1, none⟩ = some (.int .i64 0) ∧ W.cell? ⟨w.heap.size, 2, none⟩ = some (.string ⟨#[]⟩) ∧ W.cell? ⟨w.heap.size, 3, none⟩ = some (.int .i64 0) ∧ W.cell? ⟨w.heap.size + 1, 0, none⟩ = some (.int .i64 kf) ∧ W.cell? ⟨w.heap.size + 1, 1, none⟩ = some (.int .i64 nf) ∧ W.cell? ⟨w.heap.size + 1, 2, none⟩ = some (.string ⟨#[]⟩) ∧ W.cell? ⟨w.heap.size + 1, 3, none⟩ = some (.int .i64 0) ∧ W.cell? ⟨w.heap.size + 1 + 1, 0, none⟩ = some (.int .i64 5) ∧ W.cell? ⟨w.heap.size + 1 + 1, 1, none⟩ = some (.int .i64 0) ∧ W.cell? ⟨w.heap.size + 1 + 1, 2, none⟩ = some (.string ⟨#[]⟩) ∧ W.cell? ⟨w.heap.size + 1 + 1, 3, none⟩ = some (.int .i64 (4 + 6 * (K.sl who : Int))))) (by kernel_rfl) ?_ (fun hHeld => ?_)
  · (try dsimp only)
    (first | exact ⟨keepc hC a0, keepc hC a1, keepc hC a2, keepc hC a3, keepc hC b0, keepc hC b1, keepc hC b2, keepc hC b3, keepc hC d0, keepc hC d1, keepc hC d2, keepc hC d3⟩ | exact ⟨keepc (below_alloc hC _) a0, keepc (below_alloc hC _) a1, keepc (below_alloc hC _) a2, keepc (below_alloc hC _) a3, keepc (below_alloc hC _) b0, keepc (below_alloc hC _) b1, keepc (below_alloc hC _) b2, keepc (below_alloc hC _) b3, keepc (below_alloc hC _) d0, keepc (below_alloc hC _) d1, keepc (below_alloc hC _) d2, keepc (below_alloc hC _) d3⟩ | exact ⟨hgk _ _ _ hC hgrow8 q0 a0, hgk _ _ _ hC hgrow8 q0 a1, hgk _ _ _ hC hgrow8 q0 a2, hgk _ _ _ hC hgrow8 q0 a3, hgk _ _ _ hC hgrow8 q1 b0, hgk _ _ _ hC hgrow8 q1 b1, hgk _ _ _ hC hgrow8 q1 b2, hgk _ _ _ hC hgrow8 q1 b3, hgk _ _ _ hC hgrow8 q2 d0, hgk _ _ _ hC hgrow8 q2 d1, hgk _ _ _ hC hgrow8 q2 d2, hgk _ _ _ hC hgrow8 q2 d3⟩ | exact ⟨hgk9 _ _ _ _ hC hgrow8 q0 a0, hgk9 _ _ _ _ hC hgrow8 q0 a1, hgk9 _ _ _ _ hC hgrow8 q0 a2, hgk9 _ _ _ _ hC hgrow8 q0 a3, hgk9 _ _ _ _ hC hgrow8 q1 b0, hgk9 _ _ _ _ hC hgrow8 q1 b1, hgk9 _ _ _ _ hC hgrow8 q1 b2, hgk9 _ _ _ _ hC hgrow8 q1 b3, hgk9 _ _ _ _ hC hgrow8 q2 d0, hgk9 _ _ _ _ hC hgrow8 q2 d1, hgk9 _ _ _ _ hC hgrow8 q2 d2, hgk9 _ _ _ _ hC hgrow8 q2 d3⟩)
  refine wpAnyH_take (i := 0) (v := ?_) rfl (by kernel_rfl) (by kernel_rfl) (by kernel_rfl) (fun _ _ _ h => h) (Or.inl ⟨by rfl, ?_⟩) (by assumption) ?_
  rotate_left
  · intro w hSw
    (try dsimp only at hSw)
    go_simp
    (try with_reducible rfl)
  (try simp only [Act.put, List.setIfInBounds_toArray])
  refine wpAnyH_take (i := 1) (v := ?_) rfl (by kernel_rfl) (by kernel_rfl) (by kernel_rfl) (fun _ _ _ h => h) (Or.inl ⟨by rfl, ?_⟩) (by assumption) ?_
  rotate_left
  · intro w hSw
    (try dsimp only at hSw)
    go_simp
    (try with_reducible rfl)
  (try simp only [Act.put])
  refine wpAnyH_take (i := 2) (v := ?_) rfl (by kernel_rfl) (by kernel_rfl) (by kernel_rfl) (fun _ _ _ h => h) (Or.inl ⟨by rfl, ?_⟩) (by assumption) ?_
  rotate_left
  · intro w hSw
    (try dsimp only at hSw)
    go_simp
    (try with_reducible rfl)
  (try simp only [Act.put])
  refine wpAnyH_take (i := 3) (v := ?_) rfl (by kernel_rfl) (by kernel_rfl) (by kernel_rfl) (fun _ _ _ h => h) (Or.inl ⟨by rfl, ?_⟩) (by assumption) ?_
  rotate_left
  · intro w hSw
    (try dsimp only at hSw)
    go_simp
    (try with_reducible rfl)
  (try simp only [Act.put])
  refine wpAnyH_take (i := 5) (v := ?_) rfl (by kernel_rfl) (by kernel_rfl) (by kernel_rfl) (fun _ _ _ h => h) (Or.inl ⟨by rfl, ?_⟩) (by assumption) ?_
  rotate_left
  · intro w hSw
    (try dsimp only at hSw)
    go_simp
    (try with_reducible rfl)
  (try simp only [Act.put])
  refine wpAnyH_take (i := 7) (v := ?_) rfl (by kernel_rfl) (by kernel_rfl) (by kernel_rfl) (fun _ _ _ h => h) (Or.inl ⟨by rfl, ?_⟩) (by assumption) ?_
  rotate_left
  · intro w hSw
    (try dsimp only at hSw)
    go_simp
    (try with_reducible rfl)
  (try simp only [Act.put])
  refine wpAnyH_take (i := 9) (v := ?_) rfl (by kernel_rfl) (by kernel_rfl) (by kernel_rfl) (fun _ _ _ h => h) (Or.inl ⟨by rfl, ?_⟩) (by assumption) ?_
  rotate_left
  · intro w hSw
    (try dsimp only at hSw)
    go_simp
    (try with_reducible rfl)
  (try simp only [Act.put])
  refine wpAnyH_ready (rs := [4, 6]) (by kernel_rfl) (by simp) ?_
  refine AllReadyH.cons rfl (fun K hK => ?_) ?_
  · skip
    go_simp
    refine hK.out _ _ ?_ (fun hHeld => ?_)
    · (try dsimp only)
      (first | exact ⟨keepc hC a0, keepc hC a1, keepc hC a2, keepc hC a3, keepc hC b0, keepc hC b1, keepc hC b2, keepc hC b3, keepc hC d0, keepc hC d1, keepc hC d2, keepc hC d3⟩ | exact ⟨keepc (below_alloc hC _) a0, keepc (below_alloc hC _) a1, keepc (below_alloc hC _) a2, keepc (below_alloc hC _) a3, keepc (below_alloc hC _) b0, keepc (below_alloc hC _) b1, keepc (below_alloc hC _) b2, keepc (below_alloc hC _) b3, keepc (below_alloc hC _) d0, keepc (below_alloc hC _) d1, keepc (below_alloc hC _) d2, keepc (below_alloc hC _) d3⟩ | exact ⟨hgk _ _ _ hC hgrow8 q0 a0, hgk _ _ _ hC hgrow8 q0 a1, hgk _ _ _ hC hgrow8 q0 a2, hgk _ _ _ hC hgrow8 q0 a3, hgk _ _ _ hC hgrow8 q1 b0, hgk _ _ _ hC hgrow8 q1 b1, hgk _ _ _ hC hgrow8 q1 b2, hgk _ _ _ hC hgrow8 q1 b3, hgk _ _ _ hC hgrow8 q2 d0, hgk _ _ _ hC hgrow8 q2 d1, hgk _ _ _ hC hgrow8 q2 d2, hgk _ _ _ hC hgrow8 q2 d3⟩ | exact ⟨hgk9 _ _ _ _ hC hgrow8 q0 a0, hgk9 _ _ _ _ hC hgrow8 q0 a1, hgk9 _ _ _ _ hC hgrow8 q0 a2, hgk9 _ _ _ _ hC hgrow8 q0 a3, hgk9 _ _ _ _ hC hgrow8 q1 b0, hgk9 _ _ _ _ hC hgrow8 q1 b1, hgk9 _ _ _ _ hC hgrow8 q1 b2, hgk9 _ _ _ _ hC hgrow8 q1 b3, hgk9 _ _ _ _ hC hgrow8 q2 d0, hgk9 _ _ _ _ hC hgrow8 q2 d1, hgk9 _ _ _ _ hC hgrow8 q2 d2, hgk9 _ _ _ _ hC hgrow8 q2 d3⟩)
    clear hK K
    (try simp only [Act.put, List.setIfInBounds_toArray, List.set_cons_zero, List.set_cons_succ])
    refine wpAnyH_ready (rs := [6]) (by kernel_rfl) (by simp) ?_
    refine AllReadyH.cons rfl (fun K hK => ?_) ?_
    rotate_left
    · exact AllReadyH.nil
    go_simp
    (first | (go_at_call_of 63 (Value.agg #[.int .i64 0, .int .i64 0, .string ⟨#[]⟩, .int .i64 0]); refine (nto_und _ (hTf _ hC)).mono ?_; rintro e w5 ⟨rfl, hb⟩; replace hC := below_then hC hb; have x5n := keepc hC x5; have lgn := Nat.lt_of_lt_of_le lg3 hC.size; go_simp) | (go_at_call_of 63 (Value.agg #[.int .i64 kf, .int .i64 nf, .string ⟨#[]⟩, .int .i64 0]); refine (hN _ (hTf _ hC)).mono ?_; rintro e w5 ⟨rfl, hb⟩; replace hC := below_then hC hb; have x5n := keepc hC x5; have lgn := Nat.lt_of_lt_of_le lg3 hC.size; go_simp) | (refine step_append_sl _ rfl (.tmp 21) (.tmp 28) 43 43 rfl 38 i0 z 4 i0.bytes Tryz.underlying43 hi0 hz0 hz1 rfl hz3 (fun r => lab r = .dat p) vD (3 * m) D (by simp [Act.eval]) (hslf _ (below_alloc hC _)) _ 3 _ (by simp [Act.eval]) (hsrcf _) (by omega) hm3 hz2 _ rfl ?_; intro g8 d8 cap8 w8 hrow8 hgrow8 hat8; have f8 := hfr _ _ _ hC hgrow8; have c8 := hcg _ _ _ hC hgrow8) | (go_at_call 63; refine (normal_ref 0 _ ⟨#[]⟩ _).mono ?_; rintro e w5 ⟨rfl, hb⟩; replace hC := below_then hC hb; have x5n := keepc hC x5; have lgn := Nat.lt_of_lt_of_le lg3 hC.size; go_simp))
    refine hK.out _ _ ?_ (fun hHeld => ?_)
    · (try dsimp only)
      (first | exact ⟨keepc hC a0, keepc hC a1, keepc hC a2, keepc hC a3, keepc hC b0, keepc hC b1, keepc hC b2, keepc hC b3, keepc hC d0, keepc hC d1, keepc hC d2, keepc hC d3⟩ | exact ⟨keepc (below_alloc hC _) a0, keepc (below_alloc hC _) a1, keepc (below_alloc hC _) a2, keepc (below_alloc hC _) a3, keepc (below_alloc hC _) b0, keepc (below_alloc hC _) b1, keepc (below_alloc hC _) b2, keepc (below_alloc hC _) b3, keepc (below_alloc hC _) d0, keepc (below_alloc hC _) d1, keepc (below_alloc hC _) d2, keepc (below_alloc hC _) d3⟩ | exact ⟨hgk _ _ _ hC hgrow8 q0 a0, hgk _ _ _ hC hgrow8 q0 a1, hgk _ _ _ hC hgrow8 q0 a2, hgk _ _ _ hC hgrow8 q0 a3, hgk _ _ _ hC hgrow8 q1 b0, hgk _ _ _ hC hgrow8 q1 b1, hgk _ _ _ hC hgrow8 q1 b2, hgk _ _ _ hC hgrow8 q1 b3, hgk _ _ _ hC hgrow8 q2 d0, hgk _ _ _ hC hgrow8 q2 d1, hgk _ _ _ hC hgrow8 q2 d2, hgk _ _ _ hC hgrow8 q2 d3⟩ | exact ⟨hgk9 _ _ _ _ hC hgrow8 q0 a0, hgk9 _ _ _ _ hC hgrow8 q0 a1, hgk9 _ _ _ _ hC hgrow8 q0 a2, hgk9 _ _ _ _ hC hgrow8 q0 a3, hgk9 _ _ _ _ hC hgrow8 q1 b0, hgk9 _ _ _ _ hC hgrow8 q1 b1, hgk9 _ _ _ _ hC hgrow8 q1 b2, hgk9 _ _ _ _ hC hgrow8 q1 b3, hgk9 _ _ _ _ hC hgrow8 q2 d0, hgk9 _ _ _ _ hC hgrow8 q2 d1, hgk9 _ _ _ _ hC hgrow8 q2 d2, hgk9 _ _ _ _ hC hgrow8 q2 d3⟩)
    clear hK K
    (try simp only [Act.put, List.setIfInBounds_toArray, List.set_cons_zero, List.set_cons_succ])
    refine wpAnyH_ready (rs := [8]) (by kernel_rfl) (by simp) ?_
    refine AllReadyH.cons rfl (fun K hK => ?_) ?_
    rotate_left
    · exact AllReadyH.nil
    go_simp
    (first | (go_at_call_of 63 (Value.agg #[.int .i64 0, .int .i64 0, .string ⟨#[]⟩, .int .i64 0]); refine (nto_und _ (hTf _ hC)).mono ?_; rintro e w5 ⟨rfl, hb⟩; replace hC := below_then hC hb; have x5n := keepc hC x5; have lgn := Nat.lt_of_lt_of_le lg3 hC.size; go_simp) | (go_at_call_of 63 (Value.agg #[.int .i64 kf, .int .i64 nf, .string ⟨#[]⟩, .int .i64 0]); refine (hN _ (hTf _ hC)).mono ?_; rintro e w5 ⟨rfl, hb⟩; replace hC := below_then hC hb; have x5n := keepc hC x5; have lgn := Nat.lt_of_lt_of_le lg3 hC.size; go_simp) | (refine step_append_sl _ rfl (.tmp 21) (.tmp 28) 43 43 rfl 38 i0 z 4 i0.bytes Tryz.underlying43 hi0 hz0 hz1 rfl hz3 (fun r => lab r = .dat p) vD (3 * m) D (by simp [Act.eval]) (hslf _ (below_alloc hC _)) _ 3 _ (by simp [Act.eval]) (hsrcf _) (by omega) hm3 hz2 _ rfl ?_; intro g8 d8 cap8 w8 hrow8 hgrow8 hat8; have f8 := hfr _ _ _ hC hgrow8; have c8 := hcg _ _ _ hC hgrow8) | (go_at_call 63; refine (normal_ref 0 _ ⟨#[]⟩ _).mono ?_; rintro e w5 ⟨rfl, hb⟩; replace hC := below_then hC hb; have x5n := keepc hC x5; have lgn := Nat.lt_of_lt_of_le lg3 hC.size; go_simp))
    refine hK.out _ _ ?_ (fun hHeld => ?_)
    · (try dsimp only)
      (first | exact ⟨keepc hC a0, keepc hC a1, keepc hC a2, keepc hC a3, keepc hC b0, keepc hC b1, keepc hC b2, keepc hC b3, keepc hC d0, keepc hC d1, keepc hC d2, keepc hC d3⟩ | exact ⟨keepc (below_alloc hC _) a0, keepc (below_alloc hC _) a1, keepc (below_alloc hC _) a2, keepc (below_alloc hC _) a3, keepc (below_alloc hC _) b0, keepc (below_alloc hC _) b1, keepc (below_alloc hC _) b2, keepc (below_alloc hC _) b3, keepc (below_alloc hC _) d0, keepc (below_alloc hC _) d1, keepc (below_alloc hC _) d2, keepc (below_alloc hC _) d3⟩ | exact ⟨hgk _ _ _ hC hgrow8 q0 a0, hgk _ _ _ hC hgrow8 q0 a1, hgk _ _ _ hC hgrow8 q0 a2, hgk _ _ _ hC hgrow8 q0 a3, hgk _ _ _ hC hgrow8 q1 b0, hgk _ _ _ hC hgrow8 q1 b1, hgk _ _ _ hC hgrow8 q1 b2, hgk _ _ _ hC hgrow8 q1 b3, hgk _ _ _ hC hgrow8 q2 d0, hgk _ _ _ hC hgrow8 q2 d1, hgk _ _ _ hC hgrow8 q2 d2, hgk _ _ _ hC hgrow8 q2 d3⟩ | exact ⟨hgk9 _ _ _ _ hC hgrow8 q0 a0, hgk9 _ _ _ _ hC hgrow8 q0 a1, hgk9 _ _ _ _ hC hgrow8 q0 a2, hgk9 _ _ _ _ hC hgrow8 q0 a3, hgk9 _ _ _ _ hC hgrow8 q1 b0, hgk9 _ _ _ _ hC hgrow8 q1 b1, hgk9 _ _ _ _ hC hgrow8 q1 b2, hgk9 _ _ _ _ hC hgrow8 q1 b3, hgk9 _ _ _ _ hC hgrow8 q2 d0, hgk9 _ _ _ _ hC hgrow8 q2 d1, hgk9 _ _ _ _ hC hgrow8 q2 d2, hgk9 _ _ _ _ hC hgrow8 q2 d3⟩)
    clear hK K
    (try simp only [Act.put, List.setIfInBounds_toArray, List.set_cons_zero, List.set_cons_succ])
    refine wpAnyH_ready (rs := [10]) (by kernel_rfl) (by simp) ?_
    refine AllReadyH.cons rfl (fun K hK => ?_) ?_
    rotate_left
    · exact AllReadyH.nil
    go_simp
    (first | (go_at_call_of 63 (Value.agg #[.int .i64 0, .int .i64 0, .string ⟨#[]⟩, .int .i64 0]); refine (nto_und _ (hTf _ hC)).mono ?_; rintro e w5 ⟨rfl, hb⟩; replace hC := below_then hC hb; have x5n := keepc hC x5; have lgn := Nat.lt_of_lt_of_le lg3 hC.size; go_simp) | (go_at_call_of 63 (Value.agg #[.int .i64 kf, .int .i64 nf, .string ⟨#[]⟩, .int .i64 0]); refine (hN _ (hTf _ hC)).mono ?_; rintro e w5 ⟨rfl, hb⟩; replace hC := below_then hC hb; have x5n := keepc hC x5; have lgn := Nat.lt_of_lt_of_le lg3 hC.size; go_simp) | (refine step_append_sl _ rfl (.tmp 21) (.tmp 28) 43 43 rfl 38 i0 z 4 i0.bytes Tryz.underlying43 hi0 hz0 hz1 rfl hz3 (fun r => lab r = .dat p) vD (3 * m) D (by simp [Act.eval]) (hslf _ (below_alloc hC _)) _ 3 _ (by simp [Act.eval]) (hsrcf _) (by omega) hm3 hz2 _ rfl ?_; intro g8 d8 cap8 w8 hrow8 hgrow8 hat8; have f8 := hfr _ _ _ hC hgrow8; have c8 := hcg _ _ _ hC hgrow8) | (go_at_call 63; refine (normal_ref 0 _ ⟨#[]⟩ _).mono ?_; rintro e w5 ⟨rfl, hb⟩; replace hC := below_then hC hb; have x5n := keepc hC x5; have lgn := Nat.lt_of_lt_of_le lg3 hC.size; go_simp))
    refine hK.out _ _ ?_ (fun hHeld => ?_)
    · (try dsimp only)
      (first | exact ⟨keepc hC a0, keepc hC a1, keepc hC a2, keepc hC a3, keepc hC b0, keepc hC b1, keepc hC b2, keepc hC b3, keepc hC d0, keepc hC d1, keepc hC d2, keepc hC d3⟩ | exact ⟨keepc (below_alloc hC _) a0, keepc (below_alloc hC _) a1, keepc (below_alloc hC _) a2, keepc (below_alloc hC _) a3, keepc (below_alloc hC _) b0, keepc (below_alloc hC _) b1, keepc (below_alloc hC _) b2, keepc (below_alloc hC _) b3, keepc (below_alloc hC _) d0, keepc (below_alloc hC _) d1, keepc (below_alloc hC _) d2, keepc (below_alloc hC _) d3⟩ | exact ⟨hgk _ _ _ hC hgrow8 q0 a0, hgk _ _ _ hC hgrow8 q0 a1, hgk _ _ _ hC hgrow8 q0 a2, hgk _ _ _ hC hgrow8 q0 a3, hgk _ _ _ hC hgrow8 q1 b0, hgk _ _ _ hC hgrow8 q1 b1, hgk _ _ _ hC hgrow8 q1 b2, hgk _ _ _ hC hgrow8 q1 b3, hgk _ _ _ hC hgrow8 q2 d0, hgk _ _ _ hC hgrow8 q2 d1, hgk _ _ _ hC hgrow8 q2 d2, hgk _ _ _ hC hgrow8 q2 d3⟩ | exact ⟨hgk9 _ _ _ _ hC hgrow8 q0 a0, hgk9 _ _ _ _ hC hgrow8 q0 a1, hgk9 _ _ _ _ hC hgrow8 q0 a2, hgk9 _ _ _ _ hC hgrow8 q0 a3, hgk9 _ _ _ _ hC hgrow8 q1 b0, hgk9 _ _ _ _ hC hgrow8 q1 b1, hgk9 _ _ _ _ hC hgrow8 q1 b2, hgk9 _ _ _ _ hC hgrow8 q1 b3, hgk9 _ _ _ _ hC hgrow8 q2 d0, hgk9 _ _ _ _ hC hgrow8 q2 d1, hgk9 _ _ _ _ hC hgrow8 q2 d2, hgk9 _ _ _ _ hC hgrow8 q2 d3⟩)
    clear hK K
    (try simp only [Act.put, List.setIfInBounds_toArray, List.set_cons_zero, List.set_cons_succ])
    refine wpAnyH_ready (rs := [11]) (by kernel_rfl) (by simp) ?_
    refine AllReadyH.cons rfl (fun K hK => ?_) ?_
    rotate_left
    · exact AllReadyH.nil
    go_simp
    refine hK.out _ _ ?_ (fun hHeld => ?_)
    · (try dsimp only)
      (first | exact ⟨keepc hC a0, keepc hC a1, keepc hC a2, keepc hC a3, keepc hC b0, keepc hC b1, keepc hC b2, keepc hC b3, keepc hC d0, keepc hC d1, keepc hC d2, keepc hC d3⟩ | exact ⟨keepc (below_alloc hC _) a0, keepc (below_alloc hC _) a1, keepc (below_alloc hC _) a2, keepc (below_alloc hC _) a3, keepc (below_alloc hC _) b0, keepc (below_alloc hC _) b1, keepc (below_alloc hC _) b2, keepc (below_alloc hC _) b3, keepc (below_alloc hC _) d0, keepc (below_alloc hC _) d1, keepc (below_alloc hC _) d2, keepc (below_alloc hC _) d3⟩ | exact ⟨hgk _ _ _ hC hgrow8 q0 a0, hgk _ _ _ hC hgrow8 q0 a1, hgk _ _ _ hC hgrow8 q0 a2, hgk _ _ _ hC hgrow8 q0 a3, hgk _ _ _ hC hgrow8 q1 b0, hgk _ _ _ hC hgrow8 q1 b1, hgk _ _ _ hC hgrow8 q1 b2, hgk _ _ _ hC hgrow8 q1 b3, hgk _ _ _ hC hgrow8 q2 d0, hgk _ _ _ hC hgrow8 q2 d1, hgk _ _ _ hC hgrow8 q2 d2, hgk _ _ _ hC hgrow8 q2 d3⟩ | exact ⟨hgk9 _ _ _ _ hC hgrow8 q0 a0, hgk9 _ _ _ _ hC hgrow8 q0 a1, hgk9 _ _ _ _ hC hgrow8 q0 a2, hgk9 _ _ _ _ hC hgrow8 q0 a3, hgk9 _ _ _ _ hC hgrow8 q1 b0, hgk9 _ _ _ _ hC hgrow8 q1 b1, hgk9 _ _ _ _ hC hgrow8 q1 b2, hgk9 _ _ _ _ hC hgrow8 q1 b3, hgk9 _ _ _ _ hC hgrow8 q2 d0, hgk9 _ _ _ _ hC hgrow8 q2 d1, hgk9 _ _ _ _ hC hgrow8 q2 d2, hgk9 _ _ _ _ hC hgrow8 q2 d3⟩)
    clear hK K
    (try simp only [Act.put, List.setIfInBounds_toArray, List.set_cons_zero, List.set_cons_succ])
    refine wpAnyH_ready (rs := [12]) (by kernel_rfl) (by simp) ?_
    refine AllReadyH.cons rfl (fun K hK => ?_) ?_
    rotate_left
    · exact AllReadyH.nil
    (first | (go_at_call_of 63 (Value.agg #[.int .i64 0, .int .i64 0, .string ⟨#[]⟩, .int .i64 0]); refine (nto_und _ (hTf _ hC)).mono ?_; rintro e w5 ⟨rfl, hb⟩; replace hC := below_then hC hb; have x5n := keepc hC x5; have lgn := Nat.lt_of_lt_of_le lg3 hC.size; go_simp) | (go_at_call_of 63 (Value.agg #[.int .i64 kf, .int .i64 nf, .string ⟨#[]⟩, .int .i64 0]); refine (hN _ (hTf _ hC)).mono ?_; rintro e w5 ⟨rfl, hb⟩; replace hC := below_then hC hb; have x5n := keepc hC x5; have lgn := Nat.lt_of_lt_of_le lg3 hC.size; go_simp) | (refine step_append_sl _ rfl (.tmp 21) (.tmp 28) 43 43 rfl 38 i0 z 4 i0.bytes Tryz.underlying43 hi0 hz0 hz1 rfl hz3 (fun r => lab r = .dat p) vD (3 * m) D (by simp [Act.eval]) (hslf _ (below_alloc hC _)) _ 3 _ (by simp [Act.eval]) (hsrcf _) (by omega) hm3 hz2 _ rfl ?_; intro g8 d8 cap8 w8 hrow8 hgrow8 hat8; have f8 := hfr _ _ _ hC hgrow8; have c8 := hcg _ _ _ hC hgrow8) | (go_at_call 63; refine (normal_ref 0 _ ⟨#[]⟩ _).mono ?_; rintro e w5 ⟨rfl, hb⟩; replace hC := below_then hC hb; have x5n := keepc hC x5; have lgn := Nat.lt_of_lt_of_le lg3 hC.size; go_simp))
    refine hK.out _ _ ?_ (fun hHeld => ?_)
    · (try dsimp only)
      (first | exact ⟨keepc hC a0, keepc hC a1, keepc hC a2, keepc hC a3, keepc hC b0, keepc hC b1, keepc hC b2, keepc hC b3, keepc hC d0, keepc hC d1, keepc hC d2, keepc hC d3⟩ | exact ⟨keepc (below_alloc hC _) a0, keepc (below_alloc hC _) a1, keepc (below_alloc hC _) a2, keepc (below_alloc hC _) a3, keepc (below_alloc hC _) b0, keepc (below_alloc hC _) b1, keepc (below_alloc hC _) b2, keepc (below_alloc hC _) b3, keepc (below_alloc hC _) d0, keepc (below_alloc hC _) d1, keepc (below_alloc hC _) d2, keepc (below_alloc hC _) d3⟩ | exact ⟨hgk _ _ _ hC hgrow8 q0 a0, hgk _ _ _ hC hgrow8 q0 a1, hgk _ _ _ hC hgrow8 q0 a2, hgk _ _ _ hC hgrow8 q0 a3, hgk _ _ _ hC hgrow8 q1 b0, hgk _ _ _ hC hgrow8 q1 b1, hgk _ _ _ hC hgrow8 q1 b2, hgk _ _ _ hC hgrow8 q1 b3, hgk _ _ _ hC hgrow8 q2 d0, hgk _ _ _ hC hgrow8 q2 d1, hgk _ _ _ hC hgrow8 q2 d2, hgk _ _ _ hC hgrow8 q2 d3⟩ | exact ⟨hgk9 _ _ _ _ hC hgrow8 q0 a0, hgk9 _ _ _ _ hC hgrow8 q0 a1, hgk9 _ _ _ _ hC hgrow8 q0 a2, hgk9 _ _ _ _ hC hgrow8 q0 a3, hgk9 _ _ _ _ hC hgrow8 q1 b0, hgk9 _ _ _ _ hC hgrow8 q1 b1, hgk9 _ _ _ _ hC hgrow8 q1 b2, hgk9 _ _ _ _ hC hgrow8 q1 b3, hgk9 _ _ _ _ hC hgrow8 q2 d0, hgk9 _ _ _ _ hC hgrow8 q2 d1, hgk9 _ _ _ _ hC hgrow8 q2 d2, hgk9 _ _ _ _ hC hgrow8 q2 d3⟩)
    clear hK K
    (try simp only [Act.put, List.setIfInBounds_toArray])
    refine wpAnyH_take (i := 13) (v := ?_) rfl (by kernel_rfl) (by kernel_rfl) (by kernel_rfl) (fun _ _ _ h => h) (Or.inl ⟨by rfl, ?_⟩) (by assumption) ?_
    rotate_left
    · intro w hSw
      (try dsimp only at hSw)
      go_simp
      (try with_reducible rfl)
    (try simp only [Act.put])
    refine wpAnyH_take (i := 14) (v := ?_) rfl (by kernel_rfl) (by kernel_rfl) (by kernel_rfl) (fun _ _ _ h => h) (Or.inl ⟨by rfl, ?_⟩) (by assumption) ?_
    rotate_left
    · intro w hSw
      (try dsimp only at hSw)
      go_simp
      (try with_reducible rfl)
    (try simp only [Act.put])
    refine wpAnyH_ready (rs := [15]) (by kernel_rfl) (by simp) ?_
    refine AllReadyH.cons rfl (fun K hK => ?_) ?_
    rotate_left
    · exact AllReadyH.nil
    go_simp
    refine hK.out _ _ ?_ (fun hHeld => ?_)
    · (try dsimp only)
      (first | exact ⟨keepc hC a0, keepc hC a1, keepc hC a2, keepc hC a3, keepc hC b0, keepc hC b1, keepc hC b2, keepc hC b3, keepc hC d0, keepc hC d1, keepc hC d2, keepc hC d3⟩ | exact ⟨keepc (below_alloc hC _) a0, keepc (below_alloc hC _) a1, keepc (below_alloc hC _) a2, keepc (below_alloc hC _) a3, keepc (below_alloc hC _) b0, keepc (below_alloc hC _) b1, keepc (below_alloc hC _) b2, keepc (below_alloc hC _) b3, keepc (below_alloc hC _) d0, keepc (below_alloc hC _) d1, keepc (below_alloc hC _) d2, keepc (below_alloc hC _) d3⟩ | exact ⟨hgk _ _ _ hC hgrow8 q0 a0, hgk _ _ _ hC hgrow8 q0 a1, hgk _ _ _ hC hgrow8 q0 a2, hgk _ _ _ hC hgrow8 q0 a3, hgk _ _ _ hC hgrow8 q1 b0, hgk _ _ _ hC hgrow8 q1 b1, hgk _ _ _ hC hgrow8 q1 b2, hgk _ _ _ hC hgrow8 q1 b3, hgk _ _ _ hC hgrow8 q2 d0, hgk _ _ _ hC hgrow8 q2 d1, hgk _ _ _ hC hgrow8 q2 d2, hgk _ _ _ hC hgrow8 q2 d3⟩ | exact ⟨hgk9 _ _ _ _ hC hgrow8 q0 a0, hgk9 _ _ _ _ hC hgrow8 q0 a1, hgk9 _ _ _ _ hC hgrow8 q0 a2, hgk9 _ _ _ _ hC hgrow8 q0 a3, hgk9 _ _ _ _ hC hgrow8 q1 b0, hgk9 _ _ _ _ hC hgrow8 q1 b1, hgk9 _ _ _ _ hC hgrow8 q1 b2, hgk9 _ _ _ _ hC hgrow8 q1 b3, hgk9 _ _ _ _ hC hgrow8 q2 d0, hgk9 _ _ _ _ hC hgrow8 q2 d1, hgk9 _ _ _ _ hC hgrow8 q2 d2, hgk9 _ _ _ _ hC hgrow8 q2 d3⟩)
    clear hK K
    (try simp only [Act.put, List.setIfInBounds_toArray, List.set_cons_zero, List.set_cons_succ])
    refine wpAnyH_done (by kernel_rfl) ?_ _
    refine NoPanic.normal ?_
    go_wp2_with fail
    first | go_end0 | (refine bodyPost_ret (results_none rfl _ _ _) rfl ?_)
    obtain ⟨lab', K', h1, h2⟩ := hwst _ _ _ hC g8 d8 cap8 hrow8 hgrow8 hat8
    rw [hA2H.out] at h1
    exact ⟨rfl, lab', K', h1, hEx.trans ((Ext.below hC).trans h2 (Nat.le_refl _)) (Nat.le_refl _)⟩
  refine AllReadyH.cons rfl (fun K hK => ?_) ?_
  rotate_left
  · exact AllReadyH.nil
  go_simp
  (first | (go_at_call_of 63 (Value.agg #[.int .i64 0, .int .i64 0, .string ⟨#[]⟩, .int .i64 0]); refine (nto_und _ (hTf _ hC)).mono ?_; rintro e w5 ⟨rfl, hb⟩; replace hC := below_then hC hb; have x5n := keepc hC x5; have lgn := Nat.lt_of_lt_of_le lg3 hC.size; go_simp) | (go_at_call_of 63 (Value.agg #[.int .i64 kf, .int .i64 nf, .string ⟨#[]⟩, .int .i64 0]); refine (hN _ (hTf _ hC)).mono ?_; rintro e w5 ⟨rfl, hb⟩; replace hC := below_then hC hb; have x5n := keepc hC x5; have lgn := Nat.lt_of_lt_of_le lg3 hC.size; go_simp) | (refine step_append_sl _ rfl (.tmp 21) (.tmp 28) 43 43 rfl 38 i0 z 4 i0.bytes Tryz.underlying43 hi0 hz0 hz1 rfl hz3 (fun r => lab r = .dat p) vD (3 * m) D (by simp [Act.eval]) (hslf _ (below_alloc hC _)) _ 3 _ (by simp [Act.eval]) (hsrcf _) (by omega) hm3 hz2 _ rfl ?_; intro g8 d8 cap8 w8 hrow8 hgrow8 hat8; have f8 := hfr _ _ _ hC hgrow8; have c8 := hcg _ _ _ hC hgrow8) | (go_at_call 63; refine (normal_ref 0 _ ⟨#[]⟩ _).mono ?_; rintro e w5 ⟨rfl, hb⟩; replace hC := below_then hC hb; have x5n := keepc hC x5; have lgn := Nat.lt_of_lt_of_le lg3 hC.size; go_simp))
  refine hK.out _ _ ?_ (fun hHeld => ?_)
  · (try dsimp only)
    (first | exact ⟨keepc hC a0, keepc hC a1, keepc hC a2, keepc hC a3, keepc hC b0, keepc hC b1, keepc hC b2, keepc hC b3, keepc hC d0, keepc hC d1, keepc hC d2, keepc hC d3⟩ | exact ⟨keepc (below_alloc hC _) a0, keepc (below_alloc hC _) a1, keepc (below_alloc hC _) a2, keepc (below_alloc hC _) a3, keepc (below_alloc hC _) b0, keepc (below_alloc hC _) b1, keepc (below_alloc hC _) b2, keepc (below_alloc hC _) b3, keepc (below_alloc hC _) d0, keepc (below_alloc hC _) d1, keepc (below_alloc hC _) d2, keepc (below_alloc hC _) d3⟩ | exact ⟨hgk _ _ _ hC hgrow8 q0 a0, hgk _ _ _ hC hgrow8 q0 a1, hgk _ _ _ hC hgrow8 q0 a2, hgk _ _ _ hC hgrow8 q0 a3, hgk _ _ _ hC hgrow8 q1 b0, hgk _ _ _ hC hgrow8 q1 b1, hgk _ _ _ hC hgrow8 q1 b2, hgk _ _ _ hC hgrow8 q1 b3, hgk _ _ _ hC hgrow8 q2 d0, hgk _ _ _ hC hgrow8 q2 d1, hgk _ _ _ hC hgrow8 q2 d2, hgk _ _ _ hC hgrow8 q2 d3⟩ | exact ⟨hgk9 _ _ _ _ hC hgrow8 q0 a0, hgk9 _ _ _ _ hC hgrow8 q0 a1, hgk9 _ _ _ _ hC hgrow8 q0 a2, hgk9 _ _ _ _ hC hgrow8 q0 a3, hgk9 _ _ _ _ hC hgrow8 q1 b0, hgk9 _ _ _ _ hC hgrow8 q1 b1, hgk9 _ _ _ _ hC hgrow8 q1 b2, hgk9 _ _ _ _ hC hgrow8 q1 b3, hgk9 _ _ _ _ hC hgrow8 q2 d0, hgk9 _ _ _ _ hC hgrow8 q2 d1, hgk9 _ _ _ _ hC hgrow8 q2 d2, hgk9 _ _ _ _ hC hgrow8 q2 d3⟩)
  clear hK K
  (try simp only [Act.put, List.setIfInBounds_toArray, List.set_cons_zero, List.set_cons_succ])
  refine wpAnyH_ready (rs := [4, 8]) (by kernel_rfl) (by simp) ?_
  refine AllReadyH.cons rfl (fun K hK => ?_) ?_
  · skip
    go_simp
    refine hK.out _ _ ?_ (fun hHeld => ?_)
    · (try dsimp only)
      (first | exact ⟨keepc hC a0, keepc hC a1, keepc hC a2, keepc hC a3, keepc hC b0, keepc hC b1, keepc hC b2, keepc hC b3, keepc hC d0, keepc hC d1, keepc hC d2, keepc hC d3⟩ | exact ⟨keepc (below_alloc hC _) a0, keepc (below_alloc hC _) a1, keepc (below_alloc hC _) a2, keepc (below_alloc hC _) a3, keepc (below_alloc hC _) b0, keepc (below_alloc hC _) b1, keepc (below_alloc hC _) b2, keepc (below_alloc hC _) b3, keepc (below_alloc hC _) d0, keepc (below_alloc hC _) d1, keepc (below_alloc hC _) d2, keepc (below_alloc hC _) d3⟩ | exact ⟨hgk _ _ _ hC hgrow8 q0 a0, hgk _ _ _ hC hgrow8 q0 a1, hgk _ _ _ hC hgrow8 q0 a2, hgk _ _ _ hC hgrow8 q0 a3, hgk _ _ _ hC hgrow8 q1 b0, hgk _ _ _ hC hgrow8 q1 b1, hgk _ _ _ hC hgrow8 q1 b2, hgk _ _ _ hC hgrow8 q1 b3, hgk _ _ _ hC hgrow8 q2 d0, hgk _ _ _ hC hgrow8 q2 d1, hgk _ _ _ hC hgrow8 q2 d2, hgk _ _ _ hC hgrow8 q2 d3⟩ | exact ⟨hgk9 _ _ _ _ hC hgrow8 q0 a0, hgk9 _ _ _ _ hC hgrow8 q0 a1, hgk9 _ _ _ _ hC hgrow8 q0 a2, hgk9 _ _ _ _ hC hgrow8 q0 a3, hgk9 _ _ _ _ hC hgrow8 q1 b0, hgk9 _ _ _ _ hC hgrow8 q1 b1, hgk9 _ _ _ _ hC hgrow8 q1 b2, hgk9 _ _ _ _ hC hgrow8 q1 b3, hgk9 _ _ _ _ hC hgrow8 q2 d0, hgk9 _ _ _ _ hC hgrow8 q2 d1, hgk9 _ _ _ _ hC hgrow8 q2 d2, hgk9 _ _ _ _ hC hgrow8 q2 d3⟩)
    clear hK K
    (try simp only [Act.put, List.setIfInBounds_toArray, List.set_cons_zero, List.set_cons_succ])
    refine wpAnyH_ready (rs := [8]) (by kernel_rfl) (by simp) ?_
    refine AllReadyH.cons rfl (fun K hK => ?_) ?_
    rotate_left
    · exact AllReadyH.nil
    go_simp
    (first | (go_at_call_of 63 (Value.agg #[.int .i64 0, .int .i64 0, .string ⟨#[]⟩, .int .i64 0]); refine (nto_und _ (hTf _ hC)).mono ?_; rintro e w5 ⟨rfl, hb⟩; replace hC := below_then hC hb; have x5n := keepc hC x5; have lgn := Nat.lt_of_lt_of_le lg3 hC.size; go_simp) | (go_at_call_of 63 (Value.agg #[.int .i64 kf, .int .i64 nf, .string ⟨#[]⟩, .int .i64 0]); refine (hN _ (hTf _ hC)).mono ?_; rintro e w5 ⟨rfl, hb⟩; replace hC := below_then hC hb; have x5n := keepc hC x5; have lgn := Nat.lt_of_lt_of_le lg3 hC.size; go_simp) | (refine step_append_sl _ rfl (.tmp 21) (.tmp 28) 43 43 rfl 38 i0 z 4 i0.bytes Tryz.underlying43 hi0 hz0 hz1 rfl hz3 (fun r => lab r = .dat p) vD (3 * m) D (by simp [Act.eval]) (hslf _ (below_alloc hC _)) _ 3 _ (by simp [Act.eval]) (hsrcf _) (by omega) hm3 hz2 _ rfl ?_; intro g8 d8 cap8 w8 hrow8 hgrow8 hat8; have f8 := hfr _ _ _ hC hgrow8; have c8 := hcg _ _ _ hC hgrow8) | (go_at_call 63; refine (normal_ref 0 _ ⟨#[]⟩ _).mono ?_; rintro e w5 ⟨rfl, hb⟩; replace hC := below_then hC hb; have x5n := keepc hC x5; have lgn := Nat.lt_of_lt_of_le lg3 hC.size; go_simp))
    refine hK.out _ _ ?_ (fun hHeld => ?_)
    · (try dsimp only)
      (first | exact ⟨keepc hC a0, keepc hC a1, keepc hC a2, keepc hC a3, keepc hC b0, keepc hC b1, keepc hC b2, keepc hC b3, keepc hC d0, keepc hC d1, keepc hC d2, keepc hC d3⟩ | exact ⟨keepc (below_alloc hC _) a0, keepc (below_alloc hC _) a1, keepc (below_alloc hC _) a2, keepc (below_alloc hC _) a3, keepc (below_alloc hC _) b0, keepc (below_alloc hC _) b1, keepc (below_alloc hC _) b2, keepc (below_alloc hC _) b3, keepc (below_alloc hC _) d0, keepc (below_alloc hC _) d1, keepc (below_alloc hC _) d2, keepc (below_alloc hC _) d3⟩ | exact ⟨hgk _ _ _ hC hgrow8 q0 a0, hgk _ _ _ hC hgrow8 q0 a1, hgk _ _ _ hC hgrow8 q0 a2, hgk _ _ _ hC hgrow8 q0 a3, hgk _ _ _ hC hgrow8 q1 b0, hgk _ _ _ hC hgrow8 q1 b1, hgk _ _ _ hC hgrow8 q1 b2, hgk _ _ _ hC hgrow8 q1 b3, hgk _ _ _ hC hgrow8 q2 d0, hgk _ _ _ hC hgrow8 q2 d1, hgk _ _ _ hC hgrow8 q2 d2, hgk _ _ _ hC hgrow8 q2 d3⟩ | exact ⟨hgk9 _ _ _ _ hC hgrow8 q0 a0, hgk9 _ _ _ _ hC hgrow8 q0 a1, hgk9 _ _ _ _ hC hgrow8 q0 a2, hgk9 _ _ _ _ hC hgrow8 q0 a3, hgk9 _ _ _ _ hC hgrow8 q1 b0, hgk9 _ _ _ _ hC hgrow8 q1 b1, hgk9 _ _ _ _ hC hgrow8 q1 b2, hgk9 _ _ _ _ hC hgrow8 q1 b3, hgk9 _ _ _ _ hC hgrow8 q2 d0, hgk9 _ _ _ _ hC hgrow8 q2 d1, hgk9 _ _ _ _ hC hgrow8 q2 d2, hgk9 _ _ _ _ hC hgrow8 q2 d3⟩)
    clear hK K
    (try simp only [Act.put, List.setIfInBounds_toArray, List.set_cons_zero, List.set_cons_succ])
    refine wpAnyH_ready (rs := [10]) (by kernel_rfl) (by simp) ?_
    refine AllReadyH.cons rfl (fun K hK => ?_) ?_
    rotate_left
    · exact AllReadyH.nil
    go_simp
    (first | (go_at_call_of 63 (Value.agg #[.int .i64 0, .int .i64 0, .string ⟨#[]⟩, .int .i64 0]); refine (nto_und _ (hTf _ hC)).mono ?_; rintro e w5 ⟨rfl, hb⟩; replace hC := below_then hC hb; have x5n := keepc hC x5; have lgn := Nat.lt_of_lt_of_le lg3 hC.size; go_simp) | (go_at_call_of 63 (Value.agg #[.int .i64 kf, .int .i64 nf, .string ⟨#[]⟩, .int .i64 0]); refine (hN _ (hTf _ hC)).mono ?_; rintro e w5 ⟨rfl, hb⟩; replace hC := below_then hC hb; have x5n := keepc hC x5; have lgn := Nat.lt_of_lt_of_le lg3 hC.size; go_simp) | (refine step_append_sl _ rfl (.tmp 21) (.tmp 28) 43 43 rfl 38 i0 z 4 i0.bytes Tryz.underlying43 hi0 hz0 hz1 rfl hz3 (fun r => lab r = .dat p) vD (3 * m) D (by simp [Act.eval]) (hslf _ (below_alloc hC _)) _ 3 _ (by simp [Act.eval]) (hsrcf _) (by omega) hm3 hz2 _ rfl ?_; intro g8 d8 cap8 w8 hrow8 hgrow8 hat8; have f8 := hfr _ _ _ hC hgrow8; have c8 := hcg _ _ _ hC hgrow8) | (go_at_call 63; refine (normal_ref 0 _ ⟨#[]⟩ _).mono ?_; rintro e w5 ⟨rfl, hb⟩; replace hC := below_then hC hb; have x5n := keepc hC x5; have lgn := Nat.lt_of_lt_of_le lg3 hC.size; go_simp))
    refine hK.out _ _ ?_ (fun hHeld => ?_)
    · (try dsimp only)
      (first | exact ⟨keepc hC a0, keepc hC a1, keepc hC a2, keepc hC a3, keepc hC b0, keepc hC b1, keepc hC b2, keepc hC b3, keepc hC d0, keepc hC d1, keepc hC d2, keepc hC d3⟩ | exact ⟨keepc (below_alloc hC _) a0, keepc (below_alloc hC _) a1, keepc (below_alloc hC _) a2, keepc (below_alloc hC _) a3, keepc (below_alloc hC _) b0, keepc (below_alloc hC _) b1, keepc (below_alloc hC _) b2, keepc (below_alloc hC _) b3, keepc (below_alloc hC _) d0, keepc (below_alloc hC _) d1, keepc (below_alloc hC _) d2, keepc (below_alloc hC _) d3⟩ | exact ⟨hgk _ _ _ hC hgrow8 q0 a0, hgk _ _ _ hC hgrow8 q0 a1, hgk _ _ _ hC hgrow8 q0 a2, hgk _ _ _ hC hgrow8 q0 a3, hgk _ _ _ hC hgrow8 q1 b0, hgk _ _ _ hC hgrow8 q1 b1, hgk _ _ _ hC hgrow8 q1 b2, hgk _ _ _ hC hgrow8 q1 b3, hgk _ _ _ hC hgrow8 q2 d0, hgk _ _ _ hC hgrow8 q2 d1, hgk _ _ _ hC hgrow8 q2 d2, hgk _ _ _ hC hgrow8 q2 d3⟩ | exact ⟨hgk9 _ _ _ _ hC hgrow8 q0 a0, hgk9 _ _ _ _ hC hgrow8 q0 a1, hgk9 _ _ _ _ hC hgrow8 q0 a2, hgk9 _ _ _ _ hC hgrow8 q0 a3, hgk9 _ _ _ _ hC hgrow8 q1 b0, hgk9 _ _ _ _ hC hgrow8 q1 b1, hgk9 _ _ _ _ hC hgrow8 q1 b2, hgk9 _ _ _ _ hC hgrow8 q1 b3, hgk9 _ _ _ _ hC hgrow8 q2 d0, hgk9 _ _ _ _ hC hgrow8 q2 d1, hgk9 _ _ _ _ hC hgrow8 q2 d2, hgk9 _ _ _ _ hC hgrow8 q2 d3⟩)
    clear hK K
    (try simp only [Act.put, List.setIfInBounds_toArray, List.set_cons_zero, List.set_cons_succ])
    refine wpAnyH_ready (rs := [11]) (by kernel_rfl) (by simp) ?_
    refine AllReadyH.cons rfl (fun K hK => ?_) ?_
    rotate_left
    · exact AllReadyH.nil
    go_simp
    refine hK.out _ _ ?_ (fun hHeld => ?_)
    · (try dsimp only)
      (first | exact ⟨keepc hC a0, keepc hC a1, keepc hC a2, keepc hC a3, keepc hC b0, keepc hC b1, keepc hC b2, keepc hC b3, keepc hC d0, keepc hC d1, keepc hC d2, keepc hC d3⟩ | exact ⟨keepc (below_alloc hC _) a0, keepc (below_alloc hC _) a1, keepc (below_alloc hC _) a2, keepc (below_alloc hC _) a3, keepc (below_alloc hC _) b0, keepc (below_alloc hC _) b1, keepc (below_alloc hC _) b2, keepc (below_alloc hC _) b3, keepc (below_alloc hC _) d0, keepc (below_alloc hC _) d1, keepc (below_alloc hC _) d2, keepc (below_alloc hC _) d3⟩ | exact ⟨hgk _ _ _ hC hgrow8 q0 a0, hgk _ _ _ hC hgrow8 q0 a1, hgk _ _ _ hC hgrow8 q0 a2, hgk _ _ _ hC hgrow8 q0 a3, hgk _ _ _ hC hgrow8 q1 b0, hgk _ _ _ hC hgrow8 q1 b1, hgk _ _ _ hC hgrow8 q1 b2, hgk _ _ _ hC hgrow8 q1 b3, hgk _ _ _ hC hgrow8 q2 d0, hgk _ _ _ hC hgrow8 q2 d1, hgk _ _ _ hC hgrow8 q2 d2, hgk _ _ _ hC hgrow8 q2 d3⟩ | exact ⟨hgk9 _ _ _ _ hC hgrow8 q0 a0, hgk9 _ _ _ _ hC hgrow8 q0 a1, hgk9 _ _ _ _ hC hgrow8 q0 a2, hgk9 _ _ _ _ hC hgrow8 q0 a3, hgk9 _ _ _ _ hC hgrow8 q1 b0, hgk9 _ _ _ _ hC hgrow8 q1 b1, hgk9 _ _ _ _ hC hgrow8 q1 b2, hgk9 _ _ _ _ hC hgrow8 q1 b3, hgk9 _ _ _ _ hC hgrow8 q2 d0, hgk9 _ _ _ _ hC hgrow8 q2 d1, hgk9 _ _ _ _ hC hgrow8 q2 d2, hgk9 _ _ _ _ hC hgrow8 q2 d3⟩)
    clear hK K
    (try simp only [Act.put, List.setIfInBounds_toArray, List.set_cons_zero, List.set_cons_succ])
    refine wpAnyH_ready (rs := [12]) (by kernel_rfl) (by simp) ?_
    refine AllReadyH.cons rfl (fun K hK => ?_) ?_
    rotate_left
    · exact AllReadyH.nil
    (first | (go_at_call_of 63 (Value.agg #[.int .i64 0, .int .i64 0, .string ⟨#[]⟩, .int .i64 0]); refine (nto_und _ (hTf _ hC)).mono ?_; rintro e w5 ⟨rfl, hb⟩; replace hC := below_then hC hb; have x5n := keepc hC x5; have lgn := Nat.lt_of_lt_of_le lg3 hC.size; go_simp) | (go_at_call_of 63 (Value.agg #[.int .i64 kf, .int .i64 nf, .string ⟨#[]⟩, .int .i64 0]); refine (hN _ (hTf _ hC)).mono ?_; rintro e w5 ⟨rfl, hb⟩; replace hC := below_then hC hb; have x5n := keepc hC x5; have lgn := Nat.lt_of_lt_of_le lg3 hC.size; go_simp) | (refine step_append_sl _ rfl (.tmp 21) (.tmp 28) 43 43 rfl 38 i0 z 4 i0.bytes Tryz.underlying43 hi0 hz0 hz1 rfl hz3 (fun r => lab r = .dat p) vD (3 * m) D (by simp [Act.eval]) (hslf _ (below_alloc hC _)) _ 3 _ (by simp [Act.eval]) (hsrcf _) (by omega) hm3 hz2 _ rfl ?_; intro g8 d8 cap8 w8 hrow8 hgrow8 hat8; have f8 := hfr _ _ _ hC hgrow8; have c8 := hcg _ _ _ hC hgrow8) | (go_at_call 63; refine (normal_ref 0 _ ⟨#[]⟩ _).mono ?_; rintro e w5 ⟨rfl, hb⟩; replace hC := below_then hC hb; have x5n := keepc hC x5; have lgn := Nat.lt_of_lt_of_le lg3 hC.size; go_simp))
    refine hK.out _ _ ?_ (fun hHeld => ?_)
    · (try dsimp only)
      (first | exact ⟨keepc hC a0, keepc hC a1, keepc hC a2, keepc hC a3, keepc hC b0, keepc hC b1, keepc hC b2, keepc hC b3, keepc hC d0, keepc hC d1, keepc hC d2, keepc hC d3⟩ | exact ⟨keepc (below_alloc hC _) a0, keepc (below_alloc hC _) a1, keepc (below_alloc hC _) a2, keepc (below_alloc hC _) a3, keepc (below_alloc hC _) b0, keepc (below_alloc hC _) b1, keepc (below_alloc hC _) b2, keepc (below_alloc hC _) b3, keepc (below_alloc hC _) d0, keepc (below_alloc hC _) d1, keepc (below_alloc hC _) d2, keepc (below_alloc hC _) d3⟩ | exact ⟨hgk _ _ _ hC hgrow8 q0 a0, hgk _ _ _ hC hgrow8 q0 a1, hgk _ _ _ hC hgrow8 q0 a2, hgk _ _ _ hC hgrow8 q0 a3, hgk _ _ _ hC hgrow8 q1 b0, hgk _ _ _ hC hgrow8 q1 b1, hgk _ _ _ hC hgrow8 q1 b2, hgk _ _ _ hC hgrow8 q1 b3, hgk _ _ _ hC hgrow8 q2 d0, hgk _ _ _ hC hgrow8 q2 d1, hgk _ _ _ hC hgrow8 q2 d2, hgk _ _ _ hC hgrow8 q2 d3⟩ | exact ⟨hgk9 _ _ _ _ hC hgrow8 q0 a0, hgk9 _ _ _ _ hC hgrow8 q0 a1, hgk9 _ _ _ _ hC hgrow8 q0 a2, hgk9 _ _ _ _ hC hgrow8 q0 a3, hgk9 _ _ _ _ hC hgrow8 q1 b0, hgk9 _ _ _ _ hC hgrow8 q1 b1, hgk9 _ _ _ _ hC hgrow8 q1 b2, hgk9 _ _ _ _ hC hgrow8 q1 b3, hgk9 _ _ _ _ hC hgrow8 q2 d0, hgk9 _ _ _ _ hC hgrow8 q2 d1, hgk9 _ _ _ _ hC hgrow8 q2 d2, hgk9 _ _ _ _ hC hgrow8 q2 d3⟩)
    clear hK K
    (try simp only [Act.put, List.setIfInBounds_toArray])
    refine wpAnyH_take (i := 13) (v := ?_) rfl (by kernel_rfl) (by kernel_rfl) (by kernel_rfl) (fun _ _ _ h => h) (Or.inl ⟨by rfl, ?_⟩) (by assumption) ?_
    rotate_left
    · intro w hSw
      (try dsimp only at hSw)
      go_simp
      (try with_reducible rfl)
    (try simp only [Act.put])
    refine wpAnyH_take (i := 14) (v := ?_) rfl (by kernel_rfl) (by kernel_rfl) (by kernel_rfl) (fun _ _ _ h => h) (Or.inl ⟨by rfl, ?_⟩) (by assumption) ?_
    rotate_left
    · intro w hSw
      (try dsimp only at hSw)
      go_simp
      (try with_reducible rfl)
    (try simp only [Act.put])
    refine wpAnyH_ready (rs := [15]) (by kernel_rfl) (by simp) ?_
    refine AllReadyH.cons rfl (fun K hK => ?_) ?_
    rotate_left
    · exact AllReadyH.nil
    go_simp
    refine hK.out _ _ ?_ (fun hHeld => ?_)
    · (try dsimp only)
      (first | exact ⟨keepc hC a0, keepc hC a1, keepc hC a2, keepc hC a3, keepc hC b0, keepc hC b1, keepc hC b2, keepc hC b3, keepc hC d0, keepc hC d1, keepc hC d2, keepc hC d3⟩ | exact ⟨keepc (below_alloc hC _) a0, keepc (below_alloc hC _) a1, keepc (below_alloc hC _) a2, keepc (below_alloc hC _) a3, keepc (below_alloc hC _) b0, keepc (below_alloc hC _) b1, keepc (below_alloc hC _) b2, keepc (below_alloc hC _) b3, keepc (below_alloc hC _) d0, keepc (below_alloc hC _) d1, keepc (below_alloc hC _) d2, keepc (below_alloc hC _) d3⟩ | exact ⟨hgk _ _ _ hC hgrow8 q0 a0, hgk _ _ _ hC hgrow8 q0 a1, hgk _ _ _ hC hgrow8 q0 a2, hgk _ _ _ hC hgrow8 q0 a3, hgk _ _ _ hC hgrow8 q1 b0, hgk _ _ _ hC hgrow8 q1 b1, hgk _ _ _ hC hgrow8 q1 b2, hgk _ _ _ hC hgrow8 q1 b3, hgk _ _ _ hC hgrow8 q2 d0, hgk _ _ _ hC hgrow8 q2 d1, hgk _ _ _ hC hgrow8 q2 d2, hgk _ _ _ hC hgrow8 q2 d3⟩ | exact ⟨hgk9 _ _ _ _ hC hgrow8 q0 a0, hgk9 _ _ _ _ hC hgrow8 q0 a1, hgk9 _ _ _ _ hC hgrow8 q0 a2, hgk9 _ _ _ _ hC hgrow8 q0 a3, hgk9 _ _ _ _ hC hgrow8 q1 b0, hgk9 _ _ _ _ hC hgrow8 q1 b1, hgk9 _ _ _ _ hC hgrow8 q1 b2, hgk9 _ _ _ _ hC hgrow8 q1 b3, hgk9 _ _ _ _ hC hgrow8 q2 d0, hgk9 _ _ _ _ hC hgrow8 q2 d1, hgk9 _ _ _ _ hC hgrow8 q2 d2, hgk9 _ _ _ _ hC hgrow8 q2 d3⟩)
    clear hK K
    (try simp only [Act.put, List.setIfInBounds_toArray, List.set_cons_zero, List.set_cons_succ])
    refine wpAnyH_done (by kernel_rfl) ?_ _
    refine NoPanic.normal ?_
    go_wp2_with fail
    first | go_end0 | (refine bodyPost_ret (results_none rfl _ _ _) rfl ?_)
    obtain ⟨lab', K', h1, h2⟩ := hwst _ _ _ hC g8 d8 cap8 hrow8 hgrow8 hat8
    rw [hA2H.out] at h1
    exact ⟨rfl, lab', K', h1, hEx.trans ((Ext.below hC).trans h2 (Nat.le_refl _)) (Nat.le_refl _)⟩
  refine AllReadyH.cons rfl (fun K hK => ?_) ?_
  rotate_left
  · exact AllReadyH.nil
  go_simp
  (first | (go_at_call_of 63 (Value.agg #[.int .i64 0, .int .i64 0, .string ⟨#[]⟩, .int .i64 0]); refine (nto_und _ (hTf _ hC)).mono ?_; rintro e w5 ⟨rfl, hb⟩; replace hC := below_then hC hb; have x5n := keepc hC x5; have lgn := Nat.lt_of_lt_of_le lg3 hC.size; go_simp) | (go_at_call_of 63 (Value.agg #[.int .i64 kf, .int .i64 nf, .string ⟨#[]⟩, .int .i64 0]); refine (hN _ (hTf _ hC)).mono ?_; rintro e w5 ⟨rfl, hb⟩; replace hC := below_then hC hb; have x5n := keepc hC x5; have lgn := Nat.lt_of_lt_of_le lg3 hC.size; go_simp) | (refine step_append_sl _ rfl (.tmp 21) (.tmp 28) 43 43 rfl 38 i0 z 4 i0.bytes Tryz.underlying43 hi0 hz0 hz1 rfl hz3 (fun r => lab r = .dat p) vD (3 * m) D (by simp [Act.eval]) (hslf _ (below_alloc hC _)) _ 3 _ (by simp [Act.eval]) (hsrcf _) (by omega) hm3 hz2 _ rfl ?_; intro g8 d8 cap8 w8 hrow8 hgrow8 hat8; have f8 := hfr _ _ _ hC hgrow8; have c8 := hcg _ _ _ hC hgrow8) | (go_at_call 63; refine (normal_ref 0 _ ⟨#[]⟩ _).mono ?_; rintro e w5 ⟨rfl, hb⟩; replace hC := below_then hC hb; have x5n := keepc hC x5; have lgn := Nat.lt_of_lt_of_le lg3 hC.size; go_simp))
  refine hK.out _ _ ?_ (fun hHeld => ?_)
  · (try dsimp only)
    (first | exact ⟨keepc hC a0, keepc hC a1, keepc hC a2, keepc hC a3, keepc hC b0, keepc hC b1, keepc hC b2, keepc hC b3, keepc hC d0, keepc hC d1, keepc hC d2, keepc hC d3⟩ | exact ⟨keepc (below_alloc hC _) a0, keepc (below_alloc hC _) a1, keepc (below_alloc hC _) a2, keepc (below_alloc hC _) a3, keepc (below_alloc hC _) b0, keepc (below_alloc hC _) b1, keepc (below_alloc hC _) b2, keepc (below_alloc hC _) b3, keepc (below_alloc hC _) d0, keepc (below_alloc hC _) d1, keepc (below_alloc hC _) d2, keepc (below_alloc hC _) d3⟩ | exact ⟨hgk _ _ _ hC hgrow8 q0 a0, hgk _ _ _ hC hgrow8 q0 a1, hgk _ _ _ hC hgrow8 q0 a2, hgk _ _ _ hC hgrow8 q0 a3, hgk _ _ _ hC hgrow8 q1 b0, hgk _ _ _ hC hgrow8 q1 b1, hgk _ _ _ hC hgrow8 q1 b2, hgk _ _ _ hC hgrow8 q1 b3, hgk _ _ _ hC hgrow8 q2 d0, hgk _ _ _ hC hgrow8 q2 d1, hgk _ _ _ hC hgrow8 q2 d2, hgk _ _ _ hC hgrow8 q2 d3⟩ | exact ⟨hgk9 _ _ _ _ hC hgrow8 q0 a0, hgk9 _ _ _ _ hC hgrow8 q0 a1, hgk9 _ _ _ _ hC hgrow8 q0 a2, hgk9 _ _ _ _ hC hgrow8 q0 a3, hgk9 _ _ _ _ hC hgrow8 q1 b0, hgk9 _ _ _ _ hC hgrow8 q1 b1, hgk9 _ _ _ _ hC hgrow8 q1 b2, hgk9 _ _ _ _ hC hgrow8 q1 b3, hgk9 _ _ _ _ hC hgrow8 q2 d0, hgk9 _ _ _ _ hC hgrow8 q2 d1, hgk9 _ _ _ _ hC hgrow8 q2 d2, hgk9 _ _ _ _ hC hgrow8 q2 d3⟩)
  clear hK K
  (try simp only [Act.put, List.setIfInBounds_toArray, List.set_cons_zero, List.set_cons_succ])
  refine wpAnyH_ready (rs := [4, 10]) (by kernel_rfl) (by simp) ?_
  refine AllReadyH.cons rfl (fun K hK => ?_) ?_
  · skip
    go_simp
    refine hK.out _ _ ?_ (fun hHeld => ?_)
    · (try dsimp only)
      (first | exact ⟨keepc hC a0, keepc hC a1, keepc hC a2, keepc hC a3, keepc hC b0, keepc hC b1, keepc hC b2, keepc hC b3, keepc hC d0, keepc hC d1, keepc hC d2, keepc hC d3⟩ | exact ⟨keepc (below_alloc hC _) a0, keepc (below_alloc hC _) a1, keepc (below_alloc hC _) a2, keepc (below_alloc hC _) a3, keepc (below_alloc hC _) b0, keepc (below_alloc hC _) b1, keepc (below_alloc hC _) b2, keepc (below_alloc hC _) b3, keepc (below_alloc hC _) d0, keepc (below_alloc hC _) d1, keepc (below_alloc hC _) d2, keepc (below_alloc hC _) d3⟩ | exact ⟨hgk _ _ _ hC hgrow8 q0 a0, hgk _ _ _ hC hgrow8 q0 a1, hgk _ _ _ hC hgrow8 q0 a2, hgk _ _ _ hC hgrow8 q0 a3, hgk _ _ _ hC hgrow8 q1 b0, hgk _ _ _ hC hgrow8 q1 b1, hgk _ _ _ hC hgrow8 q1 b2, hgk _ _ _ hC hgrow8 q1 b3, hgk _ _ _ hC hgrow8 q2 d0, hgk _ _ _ hC hgrow8 q2 d1, hgk _ _ _ hC hgrow8 q2 d2, hgk _ _ _ hC hgrow8 q2 d3⟩ | exact ⟨hgk9 _ _ _ _ hC hgrow8 q0 a0, hgk9 _ _ _ _ hC hgrow8 q0 a1, hgk9 _ _ _ _ hC hgrow8 q0 a2, hgk9 _ _ _ _ hC hgrow8 q0 a3, hgk9 _ _ _ _ hC hgrow8 q1 b0, hgk9 _ _ _ _ hC hgrow8 q1 b1, hgk9 _ _ _ _ hC hgrow8 q1 b2, hgk9 _ _ _ _ hC hgrow8 q1 b3, hgk9 _ _ _ _ hC hgrow8 q2 d0, hgk9 _ _ _ _ hC hgrow8 q2 d1, hgk9 _ _ _ _ hC hgrow8 q2 d2, hgk9 _ _ _ _ hC hgrow8 q2 d3⟩)
    clear hK K
    (try simp only [Act.put, List.setIfInBounds_toArray, List.set_cons_zero, List.set_cons_succ])
    refine wpAnyH_ready (rs := [10]) (by kernel_rfl) (by simp) ?_
    refine AllReadyH.cons rfl (fun K hK => ?_) ?_
    rotate_left
    · exact AllReadyH.nil
    go_simp
    (first | (go_at_call_of 63 (Value.agg #[.int .i64 0, .int .i64 0, .string ⟨#[]⟩, .int .i64 0]); refine (nto_und _ (hTf _ hC)).mono ?_; rintro e w5 ⟨rfl, hb⟩; replace hC := below_then hC hb; have x5n := keepc hC x5; have lgn := Nat.lt_of_lt_of_le lg3 hC.size; go_simp) | (go_at_call_of 63 (Value.agg #[.int .i64 kf, .int .i64 nf, .string ⟨#[]⟩, .int .i64 0]); refine (hN _ (hTf _ hC)).mono ?_; rintro e w5 ⟨rfl, hb⟩; replace hC := below_then hC hb; have x5n := keepc hC x5; have lgn := Nat.lt_of_lt_of_le lg3 hC.size; go_simp) | (refine step_append_sl _ rfl (.tmp 21) (.tmp 28) 43 43 rfl 38 i0 z 4 i0.bytes Tryz.underlying43 hi0 hz0 hz1 rfl hz3 (fun r => lab r = .dat p) vD (3 * m) D (by simp [Act.eval]) (hslf _ (below_alloc hC _)) _ 3 _ (by simp [Act.eval]) (hsrcf _) (by omega) hm3 hz2 _ rfl ?_; intro g8 d8 cap8 w8 hrow8 hgrow8 hat8; have f8 := hfr _ _ _ hC hgrow8; have c8 := hcg _ _ _ hC hgrow8) | (go_at_call 63; refine (normal_ref 0 _ ⟨#[]⟩ _).mono ?_; rintro e w5 ⟨rfl, hb⟩; replace hC := below_then hC hb; have x5n := keepc hC x5; have lgn := Nat.lt_of_lt_of_le lg3 hC.size; go_simp))
    refine hK.out _ _ ?_ (fun hHeld => ?_)
    · (try dsimp only)
      (first | exact ⟨keepc hC a0, keepc hC a1, keepc hC a2, keepc hC a3, keepc hC b0, keepc hC b1, keepc hC b2, keepc hC b3, keepc hC d0, keepc hC d1, keepc hC d2, keepc hC d3⟩ | exact ⟨keepc (below_alloc hC _) a0, keepc (below_alloc hC _) a1, keepc (below_alloc hC _) a2, keepc (below_alloc hC _) a3, keepc (below_alloc hC _) b0, keepc (below_alloc hC _) b1, keepc (below_alloc hC _) b2, keepc (below_alloc hC _) b3, keepc (below_alloc hC _) d0, keepc (below_alloc hC _) d1, keepc (below_alloc hC _) d2, keepc (below_alloc hC _) d3⟩ | exact ⟨hgk _ _ _ hC hgrow8 q0 a0, hgk _ _ _ hC hgrow8 q0 a1, hgk _ _ _ hC hgrow8 q0 a2, hgk _ _ _ hC hgrow8 q0 a3, hgk _ _ _ hC hgrow8 q1 b0, hgk _ _ _ hC hgrow8 q1 b1, hgk _ _ _ hC hgrow8 q1 b2, hgk _ _ _ hC hgrow8 q1 b3, hgk _ _ _ hC hgrow8 q2 d0, hgk _ _ _ hC hgrow8 q2 d1, hgk _ _ _ hC hgrow8 q2 d2, hgk _ _ _ hC hgrow8 q2 d3⟩ | exact ⟨hgk9 _ _ _ _ hC hgrow8 q0 a0, hgk9 _ _ _ _ hC hgrow8 q0 a1, hgk9 _ _ _ _ hC hgrow8 q0 a2, hgk9 _ _ _ _ hC hgrow8 q0 a3, hgk9 _ _ _ _ hC hgrow8 q1 b0, hgk9 _ _ _ _ hC hgrow8 q1 b1, hgk9 _ _ _ _ hC hgrow8 q1 b2, hgk9 _ _ _ _ hC hgrow8 q1 b3, hgk9 _ _ _ _ hC hgrow8 q2 d0, hgk9 _ _ _ _ hC hgrow8 q2 d1, hgk9 _ _ _ _ hC hgrow8 q2 d2, hgk9 _ _ _ _ hC hgrow8 q2 d3⟩)
    clear hK K
    (try simp only [Act.put, List.setIfInBounds_toArray, List.set_cons_zero, List.set_cons_succ])
    refine wpAnyH_ready (rs := [11]) (by kernel_rfl) (by simp) ?_
    refine AllReadyH.cons rfl (fun K hK => ?_) ?_
    rotate_left
    · exact AllReadyH.nil
    go_simp
    refine hK.out _ _ ?_ (fun hHeld => ?_)
    · (try dsimp only)
      (first | exact ⟨keepc hC a0, keepc hC a1, keepc hC a2, keepc hC a3, keepc hC b0, keepc hC b1, keepc hC b2, keepc hC b3, keepc hC d0, keepc hC d1, keepc hC d2, keepc hC d3⟩ | exact ⟨keepc (below_alloc hC _) a0, keepc (below_alloc hC _) a1, keepc (below_alloc hC _) a2, keepc (below_alloc hC _) a3, keepc (below_alloc hC _) b0, keepc (below_alloc hC _) b1, keepc (below_alloc hC _) b2, keepc (below_alloc hC _) b3, keepc (below_alloc hC _) d0, keepc (below_alloc hC _) d1, keepc (below_alloc hC _) d2, keepc (below_alloc hC _) d3⟩ | exact ⟨hgk _ _ _ hC hgrow8 q0 a0, hgk _ _ _ hC hgrow8 q0 a1, hgk _ _ _ hC hgrow8 q0 a2, hgk _ _ _ hC hgrow8 q0 a3, hgk _ _ _ hC hgrow8 q1 b0, hgk _ _ _ hC hgrow8 q1 b1, hgk _ _ _ hC hgrow8 q1 b2, hgk _ _ _ hC hgrow8 q1 b3, hgk _ _ _ hC hgrow8 q2 d0, hgk _ _ _ hC hgrow8 q2 d1, hgk _ _ _ hC hgrow8 q2 d2, hgk _ _ _ hC hgrow8 q2 d3⟩ | exact ⟨hgk9 _ _ _ _ hC hgrow8 q0 a0, hgk9 _ _ _ _ hC hgrow8 q0 a1, hgk9 _ _ _ _ hC hgrow8 q0 a2, hgk9 _ _ _ _ hC hgrow8 q0 a3, hgk9 _ _ _ _ hC hgrow8 q1 b0, hgk9 _ _ _ _ hC hgrow8 q1 b1, hgk9 _ _ _ _ hC hgrow8 q1 b2, hgk9 _ _ _ _ hC hgrow8 q1 b3, hgk9 _ _ _ _ hC hgrow8 q2 d0, hgk9 _ _ _ _ hC hgrow8 q2 d1, hgk9 _ _ _ _ hC hgrow8 q2 d2, hgk9 _ _ _ _ hC hgrow8 q2 d3⟩)
    clear hK K
    (try simp only [Act.put, List.setIfInBounds_toArray, List.set_cons_zero, List.set_cons_succ])
    refine wpAnyH_ready (rs := [12]) (by kernel_rfl) (by simp) ?_
    refine AllReadyH.cons rfl (fun K hK => ?_) ?_
    rotate_left
    · exact AllReadyH.nil
    (first | (go_at_call_of 63 (Value.agg #[.int .i64 0, .int .i64 0, .string ⟨#[]⟩, .int .i64 0]); refine (nto_und _ (hTf _ hC)).mono ?_; rintro e w5 ⟨rfl, hb⟩; replace hC := below_then hC hb; have x5n := keepc hC x5; have lgn := Nat.lt_of_lt_of_le lg3 hC.size; go_simp) | (go_at_call_of 63 (Value.agg #[.int .i64 kf, .int .i64 nf, .string ⟨#[]⟩, .int .i64 0]); refine (hN _ (hTf _ hC)).mono ?_; rintro e w5 ⟨rfl, hb⟩; replace hC := below_then hC hb; have x5n := keepc hC x5; have lgn := Nat.lt_of_lt_of_le lg3 hC.size; go_simp) | (refine step_append_sl _ rfl (.tmp 21) (.tmp 28) 43 43 rfl 38 i0 z 4 i0.bytes Tryz.underlying43 hi0 hz0 hz1 rfl hz3 (fun r => lab r = .dat p) vD (3 * m) D (by simp [Act.eval]) (hslf _ (below_alloc hC _)) _ 3 _ (by simp [Act.eval]) (hsrcf _) (by omega) hm3 hz2 _ rfl ?_; intro g8 d8 cap8 w8 hrow8 hgrow8 hat8; have f8 := hfr _ _ _ hC hgrow8; have c8 := hcg _ _ _ hC hgrow8) | (go_at_call 63; refine (normal_ref 0 _ ⟨#[]⟩ _).mono ?_; rintro e w5 ⟨rfl, hb⟩; replace hC := below_then hC hb; have x5n := keepc hC x5; have lgn := Nat.lt_of_lt_of_le lg3 hC.size; go_simp))
    refine hK.out _ _ ?_ (fun hHeld => ?_)
    · (try dsimp only)
      (first | exact ⟨keepc hC a0, keepc hC a1, keepc hC a2, keepc hC a3, keepc hC b0, keepc hC b1, keepc hC b2, keepc hC b3, keepc hC d0, keepc hC d1, keepc hC d2, keepc hC d3⟩ | exact ⟨keepc (below_alloc hC _) a0, keepc (below_alloc hC _) a1, keepc (below_alloc hC _) a2, keepc (below_alloc hC _) a3, keepc (below_alloc hC _) b0, keepc (below_alloc hC _) b1, keepc (below_alloc hC _) b2, keepc (below_alloc hC _) b3, keepc (below_alloc hC _) d0, keepc (below_alloc hC _) d1, keepc (below_alloc hC _) d2, keepc (below_alloc hC _) d3⟩ | exact ⟨hgk _ _ _ hC hgrow8 q0 a0, hgk _ _ _ hC hgrow8 q0 a1, hgk _ _ _ hC hgrow8 q0 a2, hgk _ _ _ hC hgrow8 q0 a3, hgk _ _ _ hC hgrow8 q1 b0, hgk _ _ _ hC hgrow8 q1 b1, hgk _ _ _ hC hgrow8 q1 b2, hgk _ _ _ hC hgrow8 q1 b3, hgk _ _ _ hC hgrow8 q2 d0, hgk _ _ _ hC hgrow8 q2 d1, hgk _ _ _ hC hgrow8 q2 d2, hgk _ _ _ hC hgrow8 q2 d3⟩ | exact ⟨hgk9 _ _ _ _ hC hgrow8 q0 a0, hgk9 _ _ _ _ hC hgrow8 q0 a1, hgk9 _ _ _ _ hC hgrow8 q0 a2, hgk9 _ _ _ _ hC hgrow8 q0 a3, hgk9 _ _ _ _ hC hgrow8 q1 b0, hgk9 _ _ _ _ hC hgrow8 q1 b1, hgk9 _ _ _ _ hC hgrow8 q1 b2, hgk9 _ _ _ _ hC hgrow8 q1 b3, hgk9 _ _ _ _ hC hgrow8 q2 d0, hgk9 _ _ _ _ hC hgrow8 q2 d1, hgk9 _ _ _ _ hC hgrow8 q2 d2, hgk9 _ _ _ _ hC hgrow8 q2 d3⟩)
    clear hK K
    (try simp only [Act.put, List.setIfInBounds_toArray])
    refine wpAnyH_take (i := 13) (v := ?_) rfl (by kernel_rfl) (by kernel_rfl) (by kernel_rfl) (fun _ _ _ h => h) (Or.inl ⟨by rfl, ?_⟩) (by assumption) ?_
    rotate_left
    · intro w hSw
      (try dsimp only at hSw)
      go_simp
      (try with_reducible rfl)
    (try simp only [Act.put])
    refine wpAnyH_take (i := 14) (v := ?_) rfl (by kernel_rfl) (by kernel_rfl) (by kernel_rfl) (fun _ _ _ h => h) (Or.inl ⟨by rfl, ?_⟩) (by assumption) ?_
    rotate_left
    · intro w hSw
      (try dsimp only at hSw)
      go_simp
      (try with_reducible rfl)
    (try simp only [Act.put])
    refine wpAnyH_ready (rs := [15]) (by kernel_rfl) (by simp) ?_
    refine AllReadyH.cons rfl (fun K hK => ?_) ?_
    rotate_left
    · exact AllReadyH.nil
    go_simp
    refine hK.out _ _ ?_ (fun hHeld => ?_)
    · (try dsimp only)
      (first | exact ⟨keepc hC a0, keepc hC a1, keepc hC a2, keepc hC a3, keepc hC b0, keepc hC b1, keepc hC b2, keepc hC b3, keepc hC d0, keepc hC d1, keepc hC d2, keepc hC d3⟩ | exact ⟨keepc (below_alloc hC _) a0, keepc (below_alloc hC _) a1, keepc (below_alloc hC _) a2, keepc (below_alloc hC _) a3, keepc (below_alloc hC _) b0, keepc (below_alloc hC _) b1, keepc (below_alloc hC _) b2, keepc (below_alloc hC _) b3, keepc (below_alloc hC _) d0, keepc (below_alloc hC _) d1, keepc (below_alloc hC _) d2, keepc (below_alloc hC _) d3⟩ | exact ⟨hgk _ _ _ hC hgrow8 q0 a0, hgk _ _ _ hC hgrow8 q0 a1, hgk _ _ _ hC hgrow8 q0 a2, hgk _ _ _ hC hgrow8 q0 a3, hgk _ _ _ hC hgrow8 q1 b0, hgk _ _ _ hC hgrow8 q1 b1, hgk _ _ _ hC hgrow8 q1 b2, hgk _ _ _ hC hgrow8 q1 b3, hgk _ _ _ hC hgrow8 q2 d0, hgk _ _ _ hC hgrow8 q2 d1, hgk _ _ _ hC hgrow8 q2 d2, hgk _ _ _ hC hgrow8 q2 d3⟩ | exact ⟨hgk9 _ _ _ _ hC hgrow8 q0 a0, hgk9 _ _ _ _ hC hgrow8 q0 a1, hgk9 _ _ _ _ hC hgrow8 q0 a2, hgk9 _ _ _ _ hC hgrow8 q0 a3, hgk9 _ _ _ _ hC hgrow8 q1 b0, hgk9 _ _ _ _ hC hgrow8 q1 b1, hgk9 _ _ _ _ hC hgrow8 q1 b2, hgk9 _ _ _ _ hC hgrow8 q1 b3, hgk9 _ _ _ _ hC hgrow8 q2 d0, hgk9 _ _ _ _ hC hgrow8 q2 d1, hgk9 _ _ _ _ hC hgrow8 q2 d2, hgk9 _ _ _ _ hC hgrow8 q2 d3⟩)
    clear hK K
    (try simp only [Act.put, List.setIfInBounds_toArray, List.set_cons_zero, List.set_cons_succ])
    refine wpAnyH_done (by kernel_rfl) ?_ _
    refine NoPanic.normal ?_
    go_wp2_with fail
    first | go_end0 | (refine bodyPost_ret (results_none rfl _ _ _) rfl ?_)
    obtain ⟨lab', K', h1, h2⟩ := hwst _ _ _ hC g8 d8 cap8 hrow8 hgrow8 hat8
    rw [hA2H.out] at h1
    exact ⟨rfl, lab', K', h1, hEx.trans ((Ext.below hC).trans h2 (Nat.le_refl _)) (Nat.le_refl _)⟩
  refine AllReadyH.cons rfl (fun K hK => ?_) ?_
  rotate_left
  · exact AllReadyH.nil
  go_simp
  (first | (go_at_call_of 63 (Value.agg #[.int .i64 0, .int .i64 0, .string ⟨#[]⟩, .int .i64 0]); refine (nto_und _ (hTf _ hC)).mono ?_; rintro e w5 ⟨rfl, hb⟩; replace hC := below_then hC hb; have x5n := keepc hC x5; have lgn := Nat.lt_of_lt_of_le lg3 hC.size; go_simp) | (go_at_call_of 63 (Value.agg #[.int .i64 kf, .int .i64 nf, .string ⟨#[]⟩, .int .i64 0]); refine (hN _ (hTf _ hC)).mono ?_; rintro e w5 ⟨rfl, hb⟩; replace hC := below_then hC hb; have x5n := keepc hC x5; have lgn := Nat.lt_of_lt_of_le lg3 hC.size; go_simp) | (refine step_append_sl _ rfl (.tmp 21) (.tmp 28) 43 43 rfl 38 i0 z 4 i0.bytes Tryz.underlying43 hi0 hz0 hz1 rfl hz3 (fun r => lab r = .dat p) vD (3 * m) D (by simp [Act.eval]) (hslf _ (below_alloc hC _)) _ 3 _ (by simp [Act.eval]) (hsrcf _) (by omega) hm3 hz2 _ rfl ?_; intro g8 d8 cap8 w8 hrow8 hgrow8 hat8; have f8 := hfr _ _ _ hC hgrow8; have c8 := hcg _ _ _ hC hgrow8) | (go_at_call 63; refine (normal_ref 0 _ ⟨#[]⟩ _).mono ?_; rintro e w5 ⟨rfl, hb⟩; replace hC := below_then hC hb; have x5n := keepc hC x5; have lgn := Nat.lt_of_lt_of_le lg3 hC.size; go_simp))
  refine hK.out _ _ ?_ (fun hHeld => ?_)
  · (try dsimp only)
    (first | exact ⟨keepc hC a0, keepc hC a1, keepc hC a2, keepc hC a3, keepc hC b0, keepc hC b1, keepc hC b2, keepc hC b3, keepc hC d0, keepc hC d1, keepc hC d2, keepc hC d3⟩ | exact ⟨keepc (below_alloc hC _) a0, keepc (below_alloc hC _) a1, keepc (below_alloc hC _) a2, keepc (below_alloc hC _) a3, keepc (below_alloc hC _) b0, keepc (below_alloc hC _) b1, keepc (below_alloc hC _) b2, keepc (below_alloc hC _) b3, keepc (below_alloc hC _) d0, keepc (below_alloc hC _) d1, keepc (below_alloc hC _) d2, keepc (below_alloc hC _) d3⟩ | exact ⟨hgk _ _ _ hC hgrow8 q0 a0, hgk _ _ _ hC hgrow8 q0 a1, hgk _ _ _ hC hgrow8 q0 a2, hgk _ _ _ hC hgrow8 q0 a3, hgk _ _ _ hC hgrow8 q1 b0, hgk _ _ _ hC hgrow8 q1 b1, hgk _ _ _ hC hgrow8 q1 b2, hgk _ _ _ hC hgrow8 q1 b3, hgk _ _ _ hC hgrow8 q2 d0, hgk _ _ _ hC hgrow8 q2 d1, hgk _ _ _ hC hgrow8 q2 d2, hgk _ _ _ hC hgrow8 q2 d3⟩ | exact ⟨hgk9 _ _ _ _ hC hgrow8 q0 a0, hgk9 _ _ _ _ hC hgrow8 q0 a1, hgk9 _ _ _ _ hC hgrow8 q0 a2, hgk9 _ _ _ _ hC hgrow8 q0 a3, hgk9 _ _ _ _ hC hgrow8 q1 b0, hgk9 _ _ _ _ hC hgrow8 q1 b1, hgk9 _ _ _ _ hC hgrow8 q1 b2, hgk9 _ _ _ _ hC hgrow8 q1 b3, hgk9 _ _ _ _ hC hgrow8 q2 d0, hgk9 _ _ _ _ hC hgrow8 q2 d1, hgk9 _ _ _ _ hC hgrow8 q2 d2, hgk9 _ _ _ _ hC hgrow8 q2 d3⟩)
  clear hK K
  (try simp only [Act.put, List.setIfInBounds_toArray, List.set_cons_zero, List.set_cons_succ])
  refine wpAnyH_ready (rs := [4, 11]) (by kernel_rfl) (by simp) ?_
  refine AllReadyH.cons rfl (fun K hK => ?_) ?_
  · skip
    go_simp
    refine hK.out _ _ ?_ (fun hHeld => ?_)
    · (try dsimp only)
      (first | exact ⟨keepc hC a0, keepc hC a1, keepc hC a2, keepc hC a3, keepc hC b0, keepc hC b1, keepc hC b2, keepc hC b3, keepc hC d0, keepc hC d1, keepc hC d2, keepc hC d3⟩ | exact ⟨keepc (below_alloc hC _) a0, keepc (below_alloc hC _) a1, keepc (below_alloc hC _) a2, keepc (below_alloc hC _) a3, keepc (below_alloc hC _) b0, keepc (below_alloc hC _) b1, keepc (below_alloc hC _) b2, keepc (below_alloc hC _) b3, keepc (below_alloc hC _) d0, keepc (below_alloc hC _) d1, keepc (below_alloc hC _) d2, keepc (below_alloc hC _) d3⟩ | exact ⟨hgk _ _ _ hC hgrow8 q0 a0, hgk _ _ _ hC hgrow8 q0 a1, hgk _ _ _ hC hgrow8 q0 a2, hgk _ _ _ hC hgrow8 q0 a3, hgk _ _ _ hC hgrow8 q1 b0, hgk _ _ _ hC hgrow8 q1 b1, hgk _ _ _ hC hgrow8 q1 b2, hgk _ _ _ hC hgrow8 q1 b3, hgk _ _ _ hC hgrow8 q2 d0, hgk _ _ _ hC hgrow8 q2 d1, hgk _ _ _ hC hgrow8 q2 d2, hgk _ _ _ hC hgrow8 q2 d3⟩ | exact ⟨hgk9 _ _ _ _ hC hgrow8 q0 a0, hgk9 _ _ _ _ hC hgrow8 q0 a1, hgk9 _ _ _ _ hC hgrow8 q0 a2, hgk9 _ _ _ _ hC hgrow8 q0 a3, hgk9 _ _ _ _ hC hgrow8 q1 b0, hgk9 _ _ _ _ hC hgrow8 q1 b1, hgk9 _ _ _ _ hC hgrow8 q1 b2, hgk9 _ _ _ _ hC hgrow8 q1 b3, hgk9 _ _ _ _ hC hgrow8 q2 d0, hgk9 _ _ _ _ hC hgrow8 q2 d1, hgk9 _ _ _ _ hC hgrow8 q2 d2, hgk9 _ _ _ _ hC hgrow8 q2 d3⟩)
    clear hK K
    (try simp only [Act.put, List.setIfInBounds_toArray, List.set_cons_zero, List.set_cons_succ])
    refine wpAnyH_ready (rs := [11]) (by kernel_rfl) (by simp) ?_
    refine AllReadyH.cons rfl (fun K hK => ?_) ?_
    rotate_left
    · exact AllReadyH.nil
    go_simp
    refine hK.out _ _ ?_ (fun hHeld => ?_)
    · (try dsimp only)
      (first | exact ⟨keepc hC a0, keepc hC a1, keepc hC a2, keepc hC a3, keepc hC b0, keepc hC b1, keepc hC b2, keepc hC b3, keepc hC d0, keepc hC d1, keepc hC d2, keepc hC d3⟩ | exact ⟨keepc (below_alloc hC _) a0, keepc (below_alloc hC _) a1, keepc (below_alloc hC _) a2, keepc (below_alloc hC _) a3, keepc (below_alloc hC _) b0, keepc (below_alloc hC _) b1, keepc (below_alloc hC _) b2, keepc (below_alloc hC _) b3, keepc (below_alloc hC _) d0, keepc (below_alloc hC _) d1, keepc (below_alloc hC _) d2, keepc (below_alloc hC _) d3⟩ | exact ⟨hgk _ _ _ hC hgrow8 q0 a0, hgk _ _ _ hC hgrow8 q0 a1, hgk _ _ _ hC hgrow8 q0 a2, hgk _ _ _ hC hgrow8 q0 a3, hgk _ _ _ hC hgrow8 q1 b0, hgk _ _ _ hC hgrow8 q1 b1, hgk _ _ _ hC hgrow8 q1 b2, hgk _ _ _ hC hgrow8 q1 b3, hgk _ _ _ hC hgrow8 q2 d0, hgk _ _ _ hC hgrow8 q2 d1, hgk _ _ _ hC hgrow8 q2 d2, hgk _ _ _ hC hgrow8 q2 d3⟩ | exact ⟨hgk9 _ _ _ _ hC hgrow8 q0 a0, hgk9 _ _ _ _ hC hgrow8 q0 a1, hgk9 _ _ _ _ hC hgrow8 q0 a2, hgk9 _ _ _ _ hC hgrow8 q0 a3, hgk9 _ _ _ _ hC hgrow8 q1 b0, hgk9 _ _ _ _ hC hgrow8 q1 b1, hgk9 _ _ _ _ hC hgrow8 q1 b2, hgk9 _ _ _ _ hC hgrow8 q1 b3, hgk9 _ _ _ _ hC hgrow8 q2 d0, hgk9 _ _ _ _ hC hgrow8 q2 d1, hgk9 _ _ _ _ hC hgrow8 q2 d2, hgk9 _ _ _ _ hC hgrow8 q2 d3⟩)
    clear hK K
    (try simp only [Act.put, List.setIfInBounds_toArray, List.set_cons_zero, List.set_cons_succ])
    refine wpAnyH_ready (rs := [12]) (by kernel_rfl) (by simp) ?_
    refine AllReadyH.cons rfl (fun K hK => ?_) ?_
    rotate_left
    · exact AllReadyH.nil
    (first | (go_at_call_of 63 (Value.agg #[.int .i64 0, .int .i64 0, .string ⟨#[]⟩, .int .i64 0]); refine (nto_und _ (hTf _ hC)).mono ?_; rintro e w5 ⟨rfl, hb⟩; replace hC := below_then hC hb; have x5n := keepc hC x5; have lgn := Nat.lt_of_lt_of_le lg3 hC.size; go_simp) | (go_at_call_of 63 (Value.agg #[.int .i64 kf, .int .i64 nf, .string ⟨#[]⟩, .int .i64 0]); refine (hN _ (hTf _ hC)).mono ?_; rintro e w5 ⟨rfl, hb⟩; replace hC := below_then hC hb; have x5n := keepc hC x5; have lgn := Nat.lt_of_lt_of_le lg3 hC.size; go_simp) | (refine step_append_sl _ rfl (.tmp 21) (.tmp 28) 43 43 rfl 38 i0 z 4 i0.bytes Tryz.underlying43 hi0 hz0 hz1 rfl hz3 (fun r => lab r = .dat p) vD (3 * m) D (by simp [Act.eval]) (hslf _ (below_alloc hC _)) _ 3 _ (by simp [Act.eval]) (hsrcf _) (by omega) hm3 hz2 _ rfl ?_; intro g8 d8 cap8 w8 hrow8 hgrow8 hat8; have f8 := hfr _ _ _ hC hgrow8; have c8 := hcg _ _ _ hC hgrow8) | (go_at_call 63; refine (normal_ref 0 _ ⟨#[]⟩ _).mono ?_; rintro e w5 ⟨rfl, hb⟩; replace hC := below_then hC hb; have x5n := keepc hC x5; have lgn := Nat.lt_of_lt_of_le lg3 hC.size; go_simp))
    refine hK.out _ _ ?_ (fun hHeld => ?_)
    · (try dsimp only)
      (first | exact ⟨keepc hC a0, keepc hC a1, keepc hC a2, keepc hC a3, keepc hC b0, keepc hC b1, keepc hC b2, keepc hC b3, keepc hC d0, keepc hC d1, keepc hC d2, keepc hC d3⟩ | exact ⟨keepc (below_alloc hC _) a0, keepc (below_alloc hC _) a1, keepc (below_alloc hC _) a2, keepc (below_alloc hC _) a3, keepc (below_alloc hC _) b0, keepc (below_alloc hC _) b1, keepc (below_alloc hC _) b2, keepc (below_alloc hC _) b3, keepc (below_alloc hC _) d0, keepc (below_alloc hC _) d1, keepc (below_alloc hC _) d2, keepc (below_alloc hC _) d3⟩ | exact ⟨hgk _ _ _ hC hgrow8 q0 a0, hgk _ _ _ hC hgrow8 q0 a1, hgk _ _ _ hC hgrow8 q0 a2, hgk _ _ _ hC hgrow8 q0 a3, hgk _ _ _ hC hgrow8 q1 b0, hgk _ _ _ hC hgrow8 q1 b1, hgk _ _ _ hC hgrow8 q1 b2, hgk _ _ _ hC hgrow8 q1 b3, hgk _ _ _ hC hgrow8 q2 d0, hgk _ _ _ hC hgrow8 q2 d1, hgk _ _ _ hC hgrow8 q2 d2, hgk _ _ _ hC hgrow8 q2 d3⟩ | exact ⟨hgk9 _ _ _ _ hC hgrow8 q0 a0, hgk9 _ _ _ _ hC hgrow8 q0 a1, hgk9 _ _ _ _ hC hgrow8 q0 a2, hgk9 _ _ _ _ hC hgrow8 q0 a3, hgk9 _ _ _ _ hC hgrow8 q1 b0, hgk9 _ _ _ _ hC hgrow8 q1 b1, hgk9 _ _ _ _ hC hgrow8 q1 b2, hgk9 _ _ _ _ hC hgrow8 q1 b3, hgk9 _ _ _ _ hC hgrow8 q2 d0, hgk9 _ _ _ _ hC hgrow8 q2 d1, hgk9 _ _ _ _ hC hgrow8 q2 d2, hgk9 _ _ _ _ hC hgrow8 q2 d3⟩)
    clear hK K
    (try simp only [Act.put, List.setIfInBounds_toArray])
    refine wpAnyH_take (i := 13) (v := ?_) rfl (by kernel_rfl) (by kernel_rfl) (by kernel_rfl) (fun _ _ _ h => h) (Or.inl ⟨by rfl, ?_⟩) (by assumption) ?_
    rotate_left
    · intro w hSw
      (try dsimp only at hSw)
      go_simp
      (try with_reducible rfl)
    (try simp only [Act.put])
    refine wpAnyH_take (i := 14) (v := ?_) rfl (by kernel_rfl) (by kernel_rfl) (by kernel_rfl) (fun _ _ _ h => h) (Or.inl ⟨by rfl, ?_⟩) (by assumption) ?_
    rotate_left
    · intro w hSw
      (try dsimp only at hSw)
      go_simp
      (try with_reducible rfl)
    (try simp only [Act.put])
    refine wpAnyH_ready (rs := [15]) (by kernel_rfl) (by simp) ?_
    refine AllReadyH.cons rfl (fun K hK => ?_) ?_
    rotate_left
    · exact AllReadyH.nil
    go_simp
    refine hK.out _ _ ?_ (fun hHeld => ?_)
    · (try dsimp only)
      (first | exact ⟨keepc hC a0, keepc hC a1, keepc hC a2, keepc hC a3, keepc hC b0, keepc hC b1, keepc hC b2, keepc hC b3, keepc hC d0, keepc hC d1, keepc hC d2, keepc hC d3⟩ | exact ⟨keepc (below_alloc hC _) a0, keepc (below_alloc hC _) a1, keepc (below_alloc hC _) a2, keepc (below_alloc hC _) a3, keepc (below_alloc hC _) b0, keepc (below_alloc hC _) b1, keepc (below_alloc hC _) b2, keepc (below_alloc hC _) b3, keepc (below_alloc hC _) d0, keepc (below_alloc hC _) d1, keepc (below_alloc hC _) d2, keepc (below_alloc hC _) d3⟩ | exact ⟨hgk _ _ _ hC hgrow8 q0 a0, hgk _ _ _ hC hgrow8 q0 a1, hgk _ _ _ hC hgrow8 q0 a2, hgk _ _ _ hC hgrow8 q0 a3, hgk _ _ _ hC hgrow8 q1 b0, hgk _ _ _ hC hgrow8 q1 b1, hgk _ _ _ hC hgrow8 q1 b2, hgk _ _ _ hC hgrow8 q1 b3, hgk _ _ _ hC hgrow8 q2 d0, hgk _ _ _ hC hgrow8 q2 d1, hgk _ _ _ hC hgrow8 q2 d2, hgk _ _ _ hC hgrow8 q2 d3⟩ | exact ⟨hgk9 _ _ _ _ hC hgrow8 q0 a0, hgk9 _ _ _ _ hC hgrow8 q0 a1, hgk9 _ _ _ _ hC hgrow8 q0 a2, hgk9 _ _ _ _ hC hgrow8 q0 a3, hgk9 _ _ _ _ hC hgrow8 q1 b0, hgk9 _ _ _ _ hC hgrow8 q1 b1, hgk9 _ _ _ _ hC hgrow8 q1 b2, hgk9 _ _ _ _ hC hgrow8 q1 b3, hgk9 _ _ _ _ hC hgrow8 q2 d0, hgk9 _ _ _ _ hC hgrow8 q2 d1, hgk9 _ _ _ _ hC hgrow8 q2 d2, hgk9 _ _ _ _ hC hgrow8 q2 d3⟩)
    clear hK K
    (try simp only [Act.put, List.setIfInBounds_toArray, List.set_cons_zero, List.set_cons_succ])
    refine wpAnyH_done (by kernel_rfl) ?_ _
    refine NoPanic.normal ?_
    go_wp2_with fail
    first | go_end0 | (refine bodyPost_ret (results_none rfl _ _ _) rfl ?_)
    obtain ⟨lab', K', h1, h2⟩ := hwst _ _ _ hC g8 d8 cap8 hrow8 hgrow8 hat8
    rw [hA2H.out] at h1
    exact ⟨rfl, lab', K', h1, hEx.trans ((Ext.below hC).trans h2 (Nat.le_refl _)) (Nat.le_refl _)⟩
  refine AllReadyH.cons rfl (fun K hK => ?_) ?_
  rotate_left
  · exact AllReadyH.nil
  go_simp
  refine hK.out _ _ ?_ (fun hHeld => ?_)
  · (try dsimp only)
    (first | exact ⟨keepc hC a0, keepc hC a1, keepc hC a2, keepc hC a3, keepc hC b0, keepc hC b1, keepc hC b2, keepc hC b3, keepc hC d0, keepc hC d1, keepc hC d2, keepc hC d3⟩ | exact ⟨keepc (below_alloc hC _) a0, keepc (below_alloc hC _) a1, keepc (below_alloc hC _) a2, keepc (below_alloc hC _) a3, keepc (below_alloc hC _) b0, keepc (below_alloc hC _) b1, keepc (below_alloc hC _) b2, keepc (below_alloc hC _) b3, keepc (below_alloc hC _) d0, keepc (below_alloc hC _) d1, keepc (below_alloc hC _) d2, keepc (below_alloc hC _) d3⟩ | exact ⟨hgk _ _ _ hC hgrow8 q0 a0, hgk _ _ _ hC hgrow8 q0 a1, hgk _ _ _ hC hgrow8 q0 a2, hgk _ _ _ hC hgrow8 q0 a3, hgk _ _ _ hC hgrow8 q1 b0, hgk _ _ _ hC hgrow8 q1 b1, hgk _ _ _ hC hgrow8 q1 b2, hgk _ _ _ hC hgrow8 q1 b3, hgk _ _ _ hC hgrow8 q2 d0, hgk _ _ _ hC hgrow8 q2 d1, hgk _ _ _ hC hgrow8 q2 d2, hgk _ _ _ hC hgrow8 q2 d3⟩ | exact ⟨hgk9 _ _ _ _ hC hgrow8 q0 a0, hgk9 _ _ _ _ hC hgrow8 q0 a1, hgk9 _ _ _ _ hC hgrow8 q0 a2, hgk9 _ _ _ _ hC hgrow8 q0 a3, hgk9 _ _ _ _ hC hgrow8 q1 b0, hgk9 _ _ _ _ hC hgrow8 q1 b1, hgk9 _ _ _ _ hC hgrow8 q1 b2, hgk9 _ _ _ _ hC hgrow8 q1 b3, hgk9 _ _ _ _ hC hgrow8 q2 d0, hgk9 _ _ _ _ hC hgrow8 q2 d1, hgk9 _ _ _ _ hC hgrow8 q2 d2, hgk9 _ _ _ _ hC hgrow8 q2 d3⟩)
  clear hK K
  (try simp only [Act.put, List.setIfInBounds_toArray, List.set_cons_zero, List.set_cons_succ])
  refine wpAnyH_ready (rs := [4]) (by kernel_rfl) (by simp) ?_
  refine AllReadyH.cons rfl (fun K hK => ?_) ?_
  rotate_left
  · exact AllReadyH.nil
  go_simp
  refine hK.out _ _ ?_ (fun hHeld => ?_)
  · (try dsimp only)
    (first | exact ⟨keepc hC a0, keepc hC a1, keepc hC a2, keepc hC a3, keepc hC b0, keepc hC b1, keepc hC b2, keepc hC b3, keepc hC d0, keepc hC d1, keepc hC d2, keepc hC d3⟩ | exact ⟨keepc (below_alloc hC _) a0, keepc (below_alloc hC _) a1, keepc (below_alloc hC _) a2, keepc (below_alloc hC _) a3, keepc (below_alloc hC _) b0, keepc (below_alloc hC _) b1, keepc (below_alloc hC _) b2, keepc (below_alloc hC _) b3, keepc (below_alloc hC _) d0, keepc (below_alloc hC _) d1, keepc (below_alloc hC _) d2, keepc (below_alloc hC _) d3⟩ | exact ⟨hgk _ _ _ hC hgrow8 q0 a0, hgk _ _ _ hC hgrow8 q0 a1, hgk _ _ _ hC hgrow8 q0 a2, hgk _ _ _ hC hgrow8 q0 a3, hgk _ _ _ hC hgrow8 q1 b0, hgk _ _ _ hC hgrow8 q1 b1, hgk _ _ _ hC hgrow8 q1 b2, hgk _ _ _ hC hgrow8 q1 b3, hgk _ _ _ hC hgrow8 q2 d0, hgk _ _ _ hC hgrow8 q2 d1, hgk _ _ _ hC hgrow8 q2 d2, hgk _ _ _ hC hgrow8 q2 d3⟩ | exact ⟨hgk9 _ _ _ _ hC hgrow8 q0 a0, hgk9 _ _ _ _ hC hgrow8 q0 a1, hgk9 _ _ _ _ hC hgrow8 q0 a2, hgk9 _ _ _ _ hC hgrow8 q0 a3, hgk9 _ _ _ _ hC hgrow8 q1 b0, hgk9 _ _ _ _ hC hgrow8 q1 b1, hgk9 _ _ _ _ hC hgrow8 q1 b2, hgk9 _ _ _ _ hC hgrow8 q1 b3, hgk9 _ _ _ _ hC hgrow8 q2 d0, hgk9 _ _ _ _ hC hgrow8 q2 d1, hgk9 _ _ _ _ hC hgrow8 q2 d2, hgk9 _ _ _ _ hC hgrow8 q2 d3⟩)
  clear hK K
  (try simp only [Act.put, List.setIfInBounds_toArray, List.set_cons_zero, List.set_cons_succ])
  refine wpAnyH_ready (rs := [12]) (by kernel_rfl) (by simp) ?_
  refine AllReadyH.cons rfl (fun K hK => ?_) ?_
  rotate_left
  · exact AllReadyH.nil
  (first | (go_at_call_of 63 (Value.agg #[.int .i64 0, .int .i64 0, .string ⟨#[]⟩, .int .i64 0]); refine (nto_und _ (hTf _ hC)).mono ?_; rintro e w5 ⟨rfl, hb⟩; replace hC := below_then hC hb; have x5n := keepc hC x5; have lgn := Nat.lt_of_lt_of_le lg3 hC.size; go_simp) | (go_at_call_of 63 (Value.agg #[.int .i64 kf, .int .i64 nf, .string ⟨#[]⟩, .int .i64 0]); refine (hN _ (hTf _ hC)).mono ?_; rintro e w5 ⟨rfl, hb⟩; replace hC := below_then hC hb; have x5n := keepc hC x5; have lgn := Nat.lt_of_lt_of_le lg3 hC.size; go_simp) | (refine step_append_sl _ rfl (.tmp 21) (.tmp 28) 43 43 rfl 38 i0 z 4 i0.bytes Tryz.underlying43 hi0 hz0 hz1 rfl hz3 (fun r => lab r = .dat p) vD (3 * m) D (by simp [Act.eval]) (hslf _ (below_alloc hC _)) _ 3 _ (by simp [Act.eval]) (hsrcf _) (by omega) hm3 hz2 _ rfl ?_; intro g8 d8 cap8 w8 hrow8 hgrow8 hat8; have f8 := hfr _ _ _ hC hgrow8; have c8 := hcg _ _ _ hC hgrow8) | (go_at_call 63; refine (normal_ref 0 _ ⟨#[]⟩ _).mono ?_; rintro e w5 ⟨rfl, hb⟩; replace hC := below_then hC hb; have x5n := keepc hC x5; have lgn := Nat.lt_of_lt_of_le lg3 hC.size; go_simp))
  refine hK.out _ _ ?_ (fun hHeld => ?_)
  · (try dsimp only)
    (first | exact ⟨keepc hC a0, keepc hC a1, keepc hC a2, keepc hC a3, keepc hC b0, keepc hC b1, keepc hC b2, keepc hC b3, keepc hC d0, keepc hC d1, keepc hC d2, keepc hC d3⟩ | exact ⟨keepc (below_alloc hC _) a0, keepc (below_alloc hC _) a1, keepc (below_alloc hC _) a2, keepc (below_alloc hC _) a3, keepc (below_alloc hC _) b0, keepc (below_alloc hC _) b1, keepc (below_alloc hC _) b2, keepc (below_alloc hC _) b3, keepc (below_alloc hC _) d0, keepc (below_alloc hC _) d1, keepc (below_alloc hC _) d2, keepc (below_alloc hC _) d3⟩ | exact ⟨hgk _ _ _ hC hgrow8 q0 a0, hgk _ _ _ hC hgrow8 q0 a1, hgk _ _ _ hC hgrow8 q0 a2, hgk _ _ _ hC hgrow8 q0 a3, hgk _ _ _ hC hgrow8 q1 b0, hgk _ _ _ hC hgrow8 q1 b1, hgk _ _ _ hC hgrow8 q1 b2, hgk _ _ _ hC hgrow8 q1 b3, hgk _ _ _ hC hgrow8 q2 d0, hgk _ _ _ hC hgrow8 q2 d1, hgk _ _ _ hC hgrow8 q2 d2, hgk _ _ _ hC hgrow8 q2 d3⟩ | exact ⟨hgk9 _ _ _ _ hC hgrow8 q0 a0, hgk9 _ _ _ _ hC hgrow8 q0 a1, hgk9 _ _ _ _ hC hgrow8 q0 a2, hgk9 _ _ _ _ hC hgrow8 q0 a3, hgk9 _ _ _ _ hC hgrow8 q1 b0, hgk9 _ _ _ _ hC hgrow8 q1 b1, hgk9 _ _ _ _ hC hgrow8 q1 b2, hgk9 _ _ _ _ hC hgrow8 q1 b3, hgk9 _ _ _ _ hC hgrow8 q2 d0, hgk9 _ _ _ _ hC hgrow8 q2 d1, hgk9 _ _ _ _ hC hgrow8 q2 d2, hgk9 _ _ _ _ hC hgrow8 q2 d3⟩)
  clear hK K
  (try simp only [Act.put, List.setIfInBounds_toArray])
  refine wpAnyH_take (i := 13) (v := ?_) rfl (by kernel_rfl) (by kernel_rfl) (by kernel_rfl) (fun _ _ _ h => h) (Or.inl ⟨by rfl, ?_⟩) (by assumption) ?_
  rotate_left
  · intro w hSw
    (try dsimp only at hSw)
    go_simp
    (try with_reducible rfl)
  (try simp only [Act.put])
  refine wpAnyH_take (i := 14) (v := ?_) rfl (by kernel_rfl) (by kernel_rfl) (by kernel_rfl) (fun _ _ _ h => h) (Or.inl ⟨by rfl, ?_⟩) (by assumption) ?_
  rotate_left
  · intro w hSw
    (try dsimp only at hSw)
    go_simp
    (try with_reducible rfl)
  (try simp only [Act.put])
  refine wpAnyH_ready (rs := [15]) (by kernel_rfl) (by simp) ?_
  refine AllReadyH.cons rfl (fun K hK => ?_) ?_
  rotate_left
  · exact AllReadyH.nil
  go_simp
  refine hK.out _ _ ?_ (fun hHeld => ?_)
  · (try dsimp only)
    (first | exact ⟨keepc hC a0, keepc hC a1, keepc hC a2, keepc hC a3, keepc hC b0, keepc hC b1, keepc hC b2, keepc hC b3, keepc hC d0, keepc hC d1, keepc hC d2, keepc hC d3⟩ | exact ⟨keepc (below_alloc hC _) a0, keepc (below_alloc hC _) a1, keepc (below_alloc hC _) a2, keepc (below_alloc hC _) a3, keepc (below_alloc hC _) b0, keepc (below_alloc hC _) b1, keepc (below_alloc hC _) b2, keepc (below_alloc hC _) b3, keepc (below_alloc hC _) d0, keepc (below_alloc hC _) d1, keepc (below_alloc hC _) d2, keepc (below_alloc hC _) d3⟩ | exact ⟨hgk _ _ _ hC hgrow8 q0 a0, hgk _ _ _ hC hgrow8 q0 a1, hgk _ _ _ hC hgrow8 q0 a2, hgk _ _ _ hC hgrow8 q0 a3, hgk _ _ _ hC hgrow8 q1 b0, hgk _ _ _ hC hgrow8 q1 b1, hgk _ _ _ hC hgrow8 q1 b2, hgk _ _ _ hC hgrow8 q1 b3, hgk _ _ _ hC hgrow8 q2 d0, hgk _ _ _ hC hgrow8 q2 d1, hgk _ _ _ hC hgrow8 q2 d2, hgk _ _ _ hC hgrow8 q2 d3⟩ | exact ⟨hgk9 _ _ _ _ hC hgrow8 q0 a0, hgk9 _ _ _ _ hC hgrow8 q0 a1, hgk9 _ _ _ _ hC hgrow8 q0 a2, hgk9 _ _ _ _ hC hgrow8 q0 a3, hgk9 _ _ _ _ hC hgrow8 q1 b0, hgk9 _ _ _ _ hC hgrow8 q1 b1, hgk9 _ _ _ _ hC hgrow8 q1 b2, hgk9 _ _ _ _ hC hgrow8 q1 b3, hgk9 _ _ _ _ hC hgrow8 q2 d0, hgk9 _ _ _ _ hC hgrow8 q2 d1, hgk9 _ _ _ _ hC hgrow8 q2 d2, hgk9 _ _ _ _ hC hgrow8 q2 d3⟩)
  clear hK K
  (try simp only [Act.put, List.setIfInBounds_toArray, List.set_cons_zero, List.set_cons_succ])
  refine wpAnyH_done (by kernel_rfl) ?_ _
  refine NoPanic.normal ?_
  go_wp2_with fail
  first | go_end0 | (refine bodyPost_ret (results_none rfl _ _ _) rfl ?_)
  obtain ⟨lab', K', h1, h2⟩ := hwst _ _ _ hC g8 d8 cap8 hrow8 hgrow8 hat8
  rw [hA2H.out] at h1
  exact ⟨rfl, lab', K', h1, hEx.trans ((Ext.below hC).trans h2 (Nat.le_refl _)) (Nat.le_refl _)⟩
end Go.Proofs.YtcceopgaiffkmaaGreatDoor

/- Add, Make, New: an object more. -/
namespace Go.Proofs.YtcceopgaiffkmaaGreatDoor
open Go Go.RowKit Go.Pl
set_option maxRecDepth 100000
theorem z108 : ∃ i0 z, Tryz.prog.info? 108 = some i0 ∧ i0.zero = some z ∧ i0.size = 11 ∧ i0.bytes ≤ 1000 ∧ z.cells.size = 11 := zinfo (by kernel_rfl)
/-- the cells of a new object's slot -/
def ocells (k pr : Int) : List Value := [.bool true, .int .i64 k, .int .i64 pr, .slice none 0 0, .slice none 0 0, .slice none 0 0, .int .i64 0, .int .i64 0, .int .i64 0, .int .i64 0, .slice none 0 0]
/-- the heap's box -/
def hbox (g d n cap : Nat) (gl tx : Int) (prot : Value) : Obj := .cells #[.int .i64 4, .int .i64 6, .slice (some ⟨g, d, none⟩) n cap, .slice none 0 0, .int .i64 n, .int .i64 gl, .int .i64 tx, prot] tHeap (0, 0)
/-- an object more -/
def More (w w' : World) (H g n : Nat) (gl tx : Int) (prot : Value) (S : Nat → Nat → Value) (news : List Value) : Prop :=
  ∃ g' d' cap', w'.heap[H]? = some (hbox g' d' (n + 1) cap' gl tx prot) ∧ Row w' tSlot 11 g' d' (n + 1) cap' (app 11 n S news) ∧ (g' = g ∨ w.heap.size ≤ g') ∧ Only (fun r => r = H ∨ r = g) w w'
theorem More.of {w w1 w2 : World} {H g n : Nat} {gl tx : Int} {prot : Value} {S : Nat → Nat → Value} {news : List Value} (h : More w1 w2 H g n gl tx prot S news) (hb : Below w.heap.size w w1) : More w w2 H g n gl tx prot S news := by
  obtain ⟨g', d', cap', h1, h2, h3, h4⟩ := h
  exact ⟨g', d', cap', h1, h2, h3.imp id (fun h => Nat.le_trans hb.size h), (Only.of_below hb).trans h4 fun _ _ h => h⟩
theorem More.below {w w1 w2 : World} {H g n : Nat} {gl tx : Int} {prot : Value} {S : Nat → Nat → Value} {news : List Value} (h : More w w1 H g n gl tx prot S news) (hb : Below w1.heap.size w1 w2) : More w w2 H g n gl tx prot S news := by
  obtain ⟨g', d', cap', h1, h2, h3, h4⟩ := h
  exact ⟨g', d', cap', keep hb h1, h2.same (hb.block _ h2.lt), h3, h4.trans (M' := fun _ => False) (Only.of_below hb) fun _ _ h => h.elim⟩
set_option maxHeartbeats 4000000 in
theorem add46 (w : World) (H g d n cap : Nat) (gl tx : Int) (prot : Value) (S : Nat → Nat → Value) (k pr : Int) (hb : w.heap[H]? = some (hbox g d n cap gl tx prot)) (hn : n < 90000) (hrow : Row w tSlot 11 g d n cap S) (hgH : g ≠ H) :
    Calls Tryz.prog 16 #[.pointer (some ⟨H, 0, none⟩), .agg #[.int .i64 k, .int .i64 pr, .slice none 0 0, .slice none 0 0, .slice none 0 0, .int .i64 0, .int .i64 0, .int .i64 0, .int .i64 0, .slice none 0 0]] w
      (fun e w' => e = .returned (.int .i64 (4 + 6 * (n : Int))) ∧ More w w' H g n gl tx prot S (ocells k pr)) := by
  have lH := blk_lt hb
  have lg := hrow.lt
  obtain ⟨i0, z, hi, hz0, hz1, hz2, hz3⟩ := z108
  have past1 : ∀ (o : Obj), (w.alloc o).heap[H]? = some (hbox g d n cap gl tx prot) := fun o => (halloc w o H lH).trans hb
  have past2 : ∀ (o o2 : Obj), (((w.alloc o).alloc o2).drew).heap[H]? = some (hbox g d n cap gl tx prot) := fun o o2 => (halloc (w.alloc o) o2 H (by simp; omega)).trans (past1 o)
  have a2 : ∀ o : Obj, (w.alloc o).cell? ⟨H, 2, none⟩ = some (.slice (some ⟨g, d, none⟩) n cap) := fun o => cell_blk (past1 o) 2
  have a3 : ∀ o : Obj, (w.alloc o).cell? ⟨H, 3, none⟩ = some (.slice none 0 0) := fun o => cell_blk (past1 o) 3
  have b2 : ∀ o o2 : Obj, (((w.alloc o).alloc o2).drew).cell? ⟨H, 2, none⟩ = some (.slice (some ⟨g, d, none⟩) n cap) := fun o o2 => cell_blk (past2 o o2) 2
  have hsl : ∀ o o2 : Obj, Sl (((w.alloc o).alloc o2).drew) (fun r => r = g) tSlot 11 (.slice (some ⟨g, d, none⟩) n cap) n S := fun o o2 => .inr ⟨g, d, cap, rfl, rfl, ((hrow.alloc o).alloc o2).same rfl⟩
  have hsrc : ∀ o : Obj, Src Tryz.prog 11 26 (.slice (some ⟨w.heap.size + 1, 0, none⟩) 1 1) 1 (ocells k pr) (((w.alloc o).alloc (.cells (ocells k pr).toArray 108)).drew) := fun o => by
    refine Src.ofSlice (e' := 108) _ Tryz.underlying26 _ 1 1 _ rfl (World.news_of_block (cs := (ocells k pr).toArray) (t := 108) (fr := (0, 0)) ?_) (by simp [ocells, Value.oneCell'])
    show ((w.heap.push o).push _)[w.heap.size + 1]? = _
    rw [Array.getElem?_push, if_pos (by simp)]
  have hbl : ∀ (o o2 : Obj) (w1 : World), (((w.alloc o).alloc o2).drew).grownBy w1 (some g) → w1.heap[H]? = some (hbox g d n cap gl tx prot) := fun o o2 w1 hg => (hg.block H (by simp; omega) (fun h => hgH (Option.some.inj h).symm)).trans (past2 o o2)
  go_enter Tryz.func16, Tryz.ntmps16
  go_wp2
  go_region_law (refine step_append_sl _ rfl (.tmp 49) (.tmp 52) 26 26 rfl 108 i0 z 11 i0.bytes Tryz.underlying26 hi hz0 hz1 rfl hz3 (fun r => r = g) _ n S (by simp [Act.eval]) (hsl _ _) _ 1 _ (by simp [Act.eval]) (hsrc _) (by omega) (by omega) hz2 _ rfl ?_; intro g' d' cap' w1 hrow1 hgrow hat; have hb1 := hbl _ _ _ hgrow; have c0 := cell_blk hb1 0; have c1 := cell_blk hb1 1; have c2 := cell_blk hb1 2; have c4 := cell_blk hb1 4; have f2 := frz_blk hb1 2; have f4 := frz_blk hb1 4)
  all_goals (go_wp2_with fail; refine (handle46 n _ (by omega)).mono ?_; rintro e w2 ⟨rfl, hbel⟩; go_wp2; go_ret)
  all_goals
    refine ⟨rfl, More.below (w1 := ((w1.setCell ⟨H, 2, none⟩ (.slice (some ⟨g', d', none⟩) (n + 1) cap')).setCell ⟨H, 4, none⟩ (.int .i64 ((n : Int) + 1)))) ?_ hbel⟩
    have hgs : g' = g ∨ w.heap.size ≤ g' := by
      rcases hat with ⟨_, h⟩ | h
      · exact .inl h
      · exact .inr (by rw [h]; simp; omega)
    refine ⟨g', d', cap', ?_, (hrow1.far _ _ (by show g' ≠ H; omega)).far _ _ (by show g' ≠ H; omega), hgs, ?_⟩
    · have := heap_setCell_same _ H 4 _ _ (.int .i64 ((n : Int) + 1)) (heap_setCell_same w1 H 2 _ _ (.slice (some ⟨g', d', none⟩) (n + 1) cap') hb1)
      exact this
    · have h0 : Only (fun r => r = H ∨ r = g) w w1 := ⟨hgrow.os, hgrow.tape, hgrow.output, by have := hgrow.size; simp at this; omega, fun k hk hn => by
        rw [hgrow.block k (by simp; omega) (fun h => hn (.inr (Option.some.inj h)))]
        exact (halloc (w.alloc _) _ k (by simp; omega)).trans (halloc w _ k hk)⟩
      exact ((h0.trans (Only.set (M := fun r => r = H ∨ r = g) w1 ⟨H, 2, none⟩ _ (.inl rfl)) fun _ _ h => h).trans (Only.set (M := fun r => r = H ∨ r = g) _ ⟨H, 4, none⟩ _ (.inl rfl)) fun _ _ h => h)
end Go.Proofs.YtcceopgaiffkmaaGreatDoor

/- Make and New of the machine's heap. -/
namespace Go.Proofs.YtcceopgaiffkmaaGreatDoor
open Go Go.RowKit Go.Pl
set_option maxRecDepth 100000
theorem results_row_tmp {P : Program} {fn : Func} {p u : Tmp} {ty : TypeId} (h : fn.results = #[.cell p ty, .tmp u]) (tmps : Array Value) (w : World) (g : Nat) (t : TypeId) (cs : Array Value) (fr : Nat × Nat) (d : TypeDesc)
    (hp : tmps.getD p undef = .pointer (some ⟨g, 0, none⟩)) (hg : w.heap[g]? = some (.cells cs t fr))
    (hu : P.underlying ty = some d) (hd : (match d with | .struct _ | .array _ _ => true | _ => false) = true) (hi : (P.info? ty).map (·.size) = some cs.size) :
    (results fn tmps).run P w = .ok (.tuple #[.agg cs, tmps.getD u undef]) w := by
  have hp' : tmps[p]?.getD undef = .pointer (some ⟨g, 0, none⟩) := by simpa using hp
  simp [results, h, hp', asAddr, run_loadVar_row w g t ty cs fr d hg hu hd hi]
theorem results_tmp_row_tmp {P : Program} {fn : Func} {p u v : Tmp} {ty : TypeId} (h : fn.results = #[.tmp v, .cell p ty, .tmp u]) (tmps : Array Value) (w : World) (g : Nat) (t : TypeId) (cs : Array Value) (fr : Nat × Nat) (d : TypeDesc)
    (hp : tmps.getD p undef = .pointer (some ⟨g, 0, none⟩)) (hg : w.heap[g]? = some (.cells cs t fr))
    (hu : P.underlying ty = some d) (hd : (match d with | .struct _ | .array _ _ => true | _ => false) = true) (hi : (P.info? ty).map (·.size) = some cs.size) :
    (results fn tmps).run P w = .ok (.tuple #[tmps.getD v undef, .agg cs, tmps.getD u undef]) w := by
  have hp' : tmps[p]?.getD undef = .pointer (some ⟨g, 0, none⟩) := by simpa using hp
  simp [results, h, hp', asAddr, run_loadVar_row w g t ty cs fr d hg hu hd hi]
theorem len_calls (w : World) (H n : Nat) (h : w.cell? ⟨H, 4, none⟩ = some (.int .i64 n)) : Calls Tryz.prog 62 #[.pointer (some ⟨H, 0, none⟩)] w (fun e w' => e = .returned (.int .i64 n) ∧ w' = w) := by
  go_enter Tryz.func62, Tryz.ntmps62
  go_wp2
  go_ret
  exact ⟨rfl, rfl⟩
set_option maxHeartbeats 4000000 in
theorem make6 (w : World) (H g d n cap : Nat) (gl tx : Int) (Pr pd : Nat) (pr : Int) (S : Nat → Nat → Value) (hb : w.heap[H]? = some (hbox g d n cap gl tx (.slice (some ⟨Pr, pd, none⟩) 12 12))) (hP : w.cell? ⟨Pr, pd + 6, none⟩ = some (.int .i64 pr)) (hn : n < 90000) (hrow : Row w tSlot 11 g d n cap S) (hgH : g ≠ H) :
    Calls Tryz.prog 38 #[.pointer (some ⟨H, 0, none⟩), .int .i64 6] w (fun e w' => e = .returned (.tuple #[.int .i64 (4 + 6 * (n : Int)), .int .i64 0]) ∧ More w w' H g n gl tx (.slice (some ⟨Pr, pd, none⟩) 12 12) S (ocells 6 pr)) := by
  have lH := blk_lt hb
  have c4 : w.cell? ⟨H, 4, none⟩ = some (.int .i64 n) := cell_blk hb 4
  have past1 : ∀ (o : Obj), (w.alloc o).heap[H]? = some (hbox g d n cap gl tx (.slice (some ⟨Pr, pd, none⟩) 12 12)) := fun o => (halloc w o H lH).trans hb
  have past1d : ∀ (o : Obj), ((w.alloc o).drew).heap[H]? = some (hbox g d n cap gl tx (.slice (some ⟨Pr, pd, none⟩) 12 12)) := past1
  have a7 : ∀ o : Obj, (w.alloc o).cell? ⟨H, 7, none⟩ = some (.slice (some ⟨Pr, pd, none⟩) 12 12) := fun o => cell_blk (past1 o) 7
  have aP : ∀ o : Obj, (w.alloc o).cell? ⟨Pr, pd + 6, none⟩ = some (.int .i64 pr) := fun o => (World.cell?_alloc_past _ _ _ (World.block_lt_of_cell? w _ hP)).trans hP
  go_enter Tryz.func38, Tryz.ntmps38
  go_wp2_with fail
  refine (len_calls w H n c4).mono ?_
  rintro e w2 ⟨rfl, rfl⟩
  have hnl : ¬ (100000 : Int) ≤ n := by omega
  simp only []
  go_at_K
  iterate 3 (first | go_values | go_skip | go_guarded | go_step | go_upon)
  clear hnl
  go_wp2
  go_region_with (go_simp; go_at_call 16; refine (add46 _ H g d n cap gl tx _ S 6 pr (past1d _) hn ((hrow.alloc _).same rfl) hgH).mono ?_; rintro e w3 ⟨rfl, hg⟩; go_simp)
  all_goals
    go_wp2
    go_ret2
    exact ⟨rfl, hg.of ((Below.refl w2.heap.size w2).alloc (Nat.le_refl _) _).drew⟩
set_option maxHeartbeats 4000000 in
theorem make11 (w : World) (H g d n cap : Nat) (gl tx : Int) (Pr pd : Nat) (pr : Int) (S : Nat → Nat → Value) (hb : w.heap[H]? = some (hbox g d n cap gl tx (.slice (some ⟨Pr, pd, none⟩) 12 12))) (hP : w.cell? ⟨Pr, pd + 11, none⟩ = some (.int .i64 pr)) (hn : n < 90000) (hrow : Row w tSlot 11 g d n cap S) (hgH : g ≠ H) :
    Calls Tryz.prog 38 #[.pointer (some ⟨H, 0, none⟩), .int .i64 11] w (fun e w' => e = .returned (.tuple #[.int .i64 (4 + 6 * (n : Int)), .int .i64 0]) ∧ More w w' H g n gl tx (.slice (some ⟨Pr, pd, none⟩) 12 12) S (ocells 11 pr)) := by
  have lH := blk_lt hb
  have c4 : w.cell? ⟨H, 4, none⟩ = some (.int .i64 n) := cell_blk hb 4
  have past1 : ∀ (o : Obj), (w.alloc o).heap[H]? = some (hbox g d n cap gl tx (.slice (some ⟨Pr, pd, none⟩) 12 12)) := fun o => (halloc w o H lH).trans hb
  have past1d : ∀ (o : Obj), ((w.alloc o).drew).heap[H]? = some (hbox g d n cap gl tx (.slice (some ⟨Pr, pd, none⟩) 12 12)) := past1
  have a7 : ∀ o : Obj, (w.alloc o).cell? ⟨H, 7, none⟩ = some (.slice (some ⟨Pr, pd, none⟩) 12 12) := fun o => cell_blk (past1 o) 7
  have aP : ∀ o : Obj, (w.alloc o).cell? ⟨Pr, pd + 11, none⟩ = some (.int .i64 pr) := fun o => (World.cell?_alloc_past _ _ _ (World.block_lt_of_cell? w _ hP)).trans hP
  go_enter Tryz.func38, Tryz.ntmps38
  go_wp2_with fail
  refine (len_calls w H n c4).mono ?_
  rintro e w2 ⟨rfl, rfl⟩
  have hnl : ¬ (100000 : Int) ≤ n := by omega
  simp only []
  go_at_K
  iterate 3 (first | go_values | go_skip | go_guarded | go_step | go_upon)
  clear hnl
  go_wp2
  go_region_with (go_simp; go_at_call 16; refine (add46 _ H g d n cap gl tx _ S 11 pr (past1d _) hn ((hrow.alloc _).same rfl) hgH).mono ?_; rintro e w3 ⟨rfl, hg⟩; go_simp)
  all_goals
    go_wp2
    go_ret2
    exact ⟨rfl, hg.of ((Below.refl w2.heap.size w2).alloc (Nat.le_refl _) _).drew⟩
theorem new_calls (w : World) (H g d n cap : Nat) (gl tx : Int) (Pr pd : Nat) (pr : Int) (S : Nat → Nat → Value) (hb : w.heap[H]? = some (hbox g d n cap gl tx (.slice (some ⟨Pr, pd, none⟩) 12 12))) (hP : w.cell? ⟨Pr, pd + 6, none⟩ = some (.int .i64 pr)) (hn : n < 90000) (hrow : Row w tSlot 11 g d n cap S) (hgH : g ≠ H) :
    Calls Tryz.prog 17 #[.pointer (some ⟨H, 0, none⟩)] w (fun e w' => e = .returned (.tuple #[.agg #[.int .i64 5, .int .i64 0, .string ⟨#[]⟩, .int .i64 (4 + 6 * (n : Int))], .int .i64 0]) ∧ More w w' H g n gl tx (.slice (some ⟨Pr, pd, none⟩) 12 12) S (ocells 6 pr)) := by
  have lH := blk_lt hb
  have hB := (Below.refl w.heap.size w).alloc (Nat.le_refl _) (.cells #[.int .i64 0, .int .i64 0, .string ⟨#[]⟩, .int .i64 0] 38)
  go_enter Tryz.func17, Tryz.ntmps17
  go_wp2_with fail
  refine (make6 _ H g d n cap gl tx Pr pd pr S (keep hB hb) (keepc hB hP) hn (hrow.alloc _) hgH).mono ?_
  rintro e w2 ⟨rfl, hm⟩
  obtain ⟨g', d', cap', h1, h2, h3, h4⟩ := hm
  have lg := hrow.lt
  have sza : (w.alloc (.cells #[.int .i64 0, .int .i64 0, .string ⟨#[]⟩, .int .i64 0] 38)).heap.size = w.heap.size + 1 := by simp
  have hg' : w.heap.size ≠ g' := by
    rcases h3 with h | h <;> omega
  have hgs : g' = g ∨ w.heap.size ≤ g' := h3.imp id (fun h => by omega)
  have g0 : w2.heap[w.heap.size]? = some (.cells #[.int .i64 0, .int .i64 0, .string ⟨#[]⟩, .int .i64 0] 38 (0, 0)) := (h4.block _ (by simp) (by
    rintro (h | h) <;> omega)).trans (hallocn _ _)
  have hO : Only (fun r => r = H ∨ r = g) w w2 := (Only.of_below hB).trans h4 fun _ _ h => h
  clear h3 h4
  go_wp2_with fail
  refine (ref_calls _ _).mono ?_
  rintro e w3 ⟨rfl, hb3⟩
  have g3 := keep hb3 g0
  obtain ⟨c0, c1, c2, c3⟩ := cells4 g3
  obtain ⟨f0, f1, f2, f3⟩ := free4 g3
  go_wp2
  have q1 := set4 (.int .i64 5) (.int .i64 0) (.string ⟨#[]⟩) (.int .i64 (4 + 6 * (n : Int))) g3
  refine bodyPost_ret (results_row_tmp rfl _ _ w.heap.size 38 _ (0, 0) _ rfl q1 Tryz.underlying38 rfl i38) rfl ?_
  have hH : H ≠ w.heap.size := by omega
  have oth : ∀ k, k ≠ w.heap.size → ((((w3.setCell ⟨w.heap.size, 0, none⟩ (.int .i64 5)).setCell ⟨w.heap.size, 1, none⟩ (.int .i64 0)).setCell ⟨w.heap.size, 2, none⟩ (.string ⟨#[]⟩)).setCell ⟨w.heap.size, 3, none⟩ (.int .i64 (4 + 6 * (n : Int)))).heap[k]? = w3.heap[k]? := fun k hk => by
    rw [heap_setCell_other _ _ _ _ hk, heap_setCell_other _ _ _ _ hk, heap_setCell_other _ _ _ _ hk, heap_setCell_other _ _ _ _ hk]
  have hO3 : Only (fun r => r = H ∨ r = g) w w3 := hO.trans (M' := fun _ => False) (Only.of_below hb3) fun _ _ h => h.elim
  refine ⟨rfl, g', d', cap', (oth H hH).trans (keep hb3 h1), h2.same ((oth g' (Ne.symm hg')).trans (hb3.block _ h2.lt)), hgs, hO3.os, hO3.tape, hO3.output, by have := hO3.size; simpa using this, fun k hk hn => ?_⟩
  rw [oth k (by omega)]
  exact hO3.block k hk hn
end Go.Proofs.YtcceopgaiffkmaaGreatDoor

/- The result and the status of a promise. -/
namespace Go.Proofs.YtcceopgaiffkmaaGreatDoor
open Go Go.RowKit Go.Pl
set_option maxRecDepth 100000
/-- what a look at a promise's slot finds -/
theorem _root_.Go.Pl.PS.look {lab : Nat → Lab} {K : PK} {w : World} {A : Ab} (hP : PS lab K w A) {p : Nat} (hp : p < A.N) :
    w.cell? ⟨K.g, K.d + K.sl p * 11 + 1, none⟩ = some (.int .i64 6) ∧ w.cell? ⟨K.g, K.d + K.sl p * 11 + 1 + 7, none⟩ = some (.int .i64 (A.pr p).st) ∧ w.cell? ⟨K.g, K.d + K.sl p * 11 + 1 + 5, none⟩ = some (.int .i64 (if (A.pr p).lk then 1 else 0)) ∧
      w.cell? ⟨K.g, K.d + K.sl p * 11 + 1 + 4, none⟩ = some (K.S (K.sl p) 5) := by
  obtain ⟨pm0, pm1, pm6, pm8, _⟩ := hP.pm p hp
  have hi := hP.slt p hp
  refine ⟨?_, ?_, ?_, hP.row.cell hi (show 5 < 11 by decide)⟩
  · rw [← pm1]; exact hP.row.cell hi (show 1 < 11 by decide)
  · rw [← pm8]; exact hP.row.cell hi (show 8 < 11 by decide)
  · rw [← pm6]; exact hP.row.cell hi (show 6 < 11 by decide)
set_option maxHeartbeats 1000000 in
theorem result_calls {lab : Nat → Lab} {K : PK} {w : World} {A : Ab} (hP : PS lab K w A) {p : Nat} (hp : p < A.N) :
    Calls Tryz.prog 30 #[.pointer (some ⟨K.g, K.d + K.sl p * 11 + 1, none⟩)] w (fun e w' => e = .returned (.agg #[.int .i64 (pk (A.pr p).v), .int .i64 (pn (A.pr p).v), .string (ps (A.pr p).v), .int .i64 (px (A.pr p).v)]) ∧ Below w.heap.size w w') := by
  have hB := (Below.refl w.heap.size w).alloc (Nat.le_refl _) (.cells #[.int .i64 0, .int .i64 0, .string ⟨#[]⟩, .int .i64 0] 38)
  have hP1 := hP.below hB
  obtain ⟨_, x8, _, x5⟩ := hP1.look hp
  obtain ⟨_, _, _, _, _, pm0, pm1⟩ := hP1.pm p hp
  by_cases h0 : (A.pr p).st = 0
  · obtain ⟨hv, _⟩ := pm0 h0
    rw [hv]
    rw [h0] at x8
    clear pm0 pm1 hv h0
    go_enter Tryz.func30, Tryz.ntmps30
    go_wp2_with fail
    refine bodyPost_ret (results_cell_row rfl _ _ w.heap.size 38 #[.int .i64 0, .int .i64 0, .string ⟨#[]⟩, .int .i64 0] (0, 0) _ rfl (hallocn _ _) Tryz.underlying38 rfl i38) rfl ?_
    exact ⟨rfl, hB⟩
  · obtain ⟨_, _, _, r, d, c, h5, hl, h4⟩ := pm1 h0
    rw [h5] at x5
    have t0 : (w.alloc (.cells #[.int .i64 0, .int .i64 0, .string ⟨#[]⟩, .int .i64 0] 38)).cell? ⟨r, d, none⟩ = some (.int .i64 (pk (A.pr p).v)) := by rw [← pv0]; exact h4 0 (by decide)
    have t1 : (w.alloc (.cells #[.int .i64 0, .int .i64 0, .string ⟨#[]⟩, .int .i64 0] 38)).cell? ⟨r, d + 1, none⟩ = some (.int .i64 (pn (A.pr p).v)) := by rw [← pv1]; exact h4 1 (by decide)
    have t2 : (w.alloc (.cells #[.int .i64 0, .int .i64 0, .string ⟨#[]⟩, .int .i64 0] 38)).cell? ⟨r, d + 2, none⟩ = some (.string (ps (A.pr p).v)) := by rw [← pv2]; exact h4 2 (by decide)
    have t3 : (w.alloc (.cells #[.int .i64 0, .int .i64 0, .string ⟨#[]⟩, .int .i64 0] 38)).cell? ⟨r, d + 3, none⟩ = some (.int .i64 (px (A.pr p).v)) := by rw [← pv3]; exact h4 3 (by decide)
    have hz : (((A.pr p).st : Int) == 0) = false := by simpa using h0
    clear pm0 pm1 h4
    generalize (A.pr p).st = st at *
    go_enter Tryz.func30, Tryz.ntmps30
    go_wp2_with fail
    refine bodyPost_ret (results_cell_row rfl _ _ w.heap.size 38 #[.int .i64 (pk (A.pr p).v), .int .i64 (pn (A.pr p).v), .string (ps (A.pr p).v), .int .i64 (px (A.pr p).v)] (0, 0) _ rfl (alloc_at (by simp)) Tryz.underlying38 rfl i38) rfl ?_
    exact ⟨rfl, (Below.refl w.heap.size w).alloc (Nat.le_refl _) _⟩
theorem promAtP {lab : Nat → Lab} {K : PK} {w : World} {A : Ab} (hP : PS lab K w A) (hn : K.n < 90000) {p : Nat} (hp : p < A.N) :
    Calls Tryz.prog 29 #[.pointer (some ⟨K.H, 0, none⟩), .agg #[.int .i64 5, .int .i64 0, .string ⟨#[]⟩, .int .i64 (4 + 6 * (K.sl p : Int))]] w (fun e w' => e = .returned (.pointer (some ⟨K.g, K.d + K.sl p * 11 + 1, none⟩)) ∧ Below w.heap.size w w') :=
  promAt hP.hb (K.sl p) (hP.slt p hp) (by omega) (hP.pm p hp).1 (hP.pm p hp).2.1
set_option maxHeartbeats 4000000 in
theorem status_calls {lab : Nat → Lab} {K : PK} {w : World} {A : Ab} (hP : PS lab K w A) (hn : K.n < 90000) {p : Nat} (hp : p < A.N) :
    Calls Tryz.prog 9 #[.pointer (some ⟨K.H, 0, none⟩), .agg #[.int .i64 5, .int .i64 0, .string ⟨#[]⟩, .int .i64 (4 + 6 * (K.sl p : Int))]] w
      (fun e w' => e = .returned (.tuple #[.int .i64 (A.pr p).st, .agg #[.int .i64 (pk (A.pr p).v), .int .i64 (pn (A.pr p).v), .string (ps (A.pr p).v), .int .i64 (px (A.pr p).v)], .int .i64 0]) ∧ Below w.heap.size w w') := by
  have hB := ((Below.refl w.heap.size w).alloc (Nat.le_refl _) (.cells #[.int .i64 5, .int .i64 0, .string ⟨#[]⟩, .int .i64 (4 + 6 * (K.sl p : Int))] 38)).alloc (by simp) (.cells #[.int .i64 0, .int .i64 0, .string ⟨#[]⟩, .int .i64 0] 38)
  have hP2 := hP.below hB
  go_enter Tryz.func9, Tryz.ntmps9
  go_wp2_with fail
  refine (promAtP hP2 hn hp).mono ?_
  rintro e w2 ⟨rfl, hb2⟩
  obtain ⟨g0, g1, hB2, hz⟩ := boxes2 hb2
  have hP3 := hP.below hB2
  obtain ⟨_, x8, _, _⟩ := hP3.look hp
  have rc := fun W => result_calls (w := W) (lab := lab) (K := K) (A := A) (p := p)
  have hC : Below w2.heap.size w2 w2.drew := (Below.refl _ w2).drew
  generalize hst : (A.pr p).st = st at *
  go_wp2_with fail
  go_region_with (go_simp; go_at_call 30; refine (rc _ (hP3.below hC) hp).mono ?_; rintro e w3 ⟨rfl, hb3⟩; have g3 := keep (below_then hC hb3) g1; obtain ⟨f0, f1, f2, f3⟩ := free4 g3; obtain ⟨c0, c1, c2, c3⟩ := cells4 g3; have y8 := keepc (below_then hC hb3) x8; go_simp)
  all_goals
    go_wp2
    have q1 := set4 (.int .i64 (pk (A.pr p).v)) (.int .i64 (pn (A.pr p).v)) (.string (ps (A.pr p).v)) (.int .i64 (px (A.pr p).v)) g3
    refine bodyPost_ret (results_tmp_row_tmp rfl _ _ (w.heap.size + 1) 38 _ (0, 0) _ rfl q1 Tryz.underlying38 rfl i38) rfl ?_
    exact ⟨by kernel_rfl, below_set4 (below_then hB2 (below_then hC hb3)) (Nat.le_succ _) _ _ _ _⟩
end Go.Proofs.YtcceopgaiffkmaaGreatDoor

/- react at a settled promise: a job. -/
namespace Go.Proofs.YtcceopgaiffkmaaGreatDoor
open Go Go.RowKit Go.Pl
set_option maxRecDepth 100000
set_option maxHeartbeats 8000000 in
theorem react_done {lab : Nat → Lab} {K : PK} {w : World} {A : Ab} (hP : PS lab K w A) (hT : Tabs K.w0) {p : Nat} (hp : p < A.N) (hst : (A.pr p).st ≠ 0) {who : Nat} (hwho : who < A.N) (kf nf : Int) (hkf : kf ≠ 5)
    (hN : ∀ w, Tabs w → Calls Tryz.prog 63 #[.agg #[.int .i64 kf, .int .i64 nf, .string ⟨#[]⟩, .int .i64 0]] w (fun e w' => e = .returned (.agg #[.int .i64 kf, .int .i64 nf, .string ⟨#[]⟩, .int .i64 0]) ∧ Below w.heap.size w w')) (hjs : A.jobs.length ≤ 50000) :
    Calls Tryz.prog 43 #[.pointer (some ⟨K.H, 0, none⟩), .pointer (some ⟨K.J, 0, none⟩), .pointer (some ⟨K.g, K.d + K.sl p * 11 + 1, none⟩), .agg #[.int .i64 0, .int .i64 0, .string ⟨#[]⟩, .int .i64 0], .agg #[.int .i64 kf, .int .i64 nf, .string ⟨#[]⟩, .int .i64 0], .agg #[.int .i64 5, .int .i64 0, .string ⟨#[]⟩, .int .i64 (4 + 6 * (K.sl who : Int))]] w
      (fun e w' => e = .returned (.tuple #[]) ∧ ∃ lab' K', PS lab' K' w' (A.wait p who) ∧ Ext lab K w lab' K' w' A.N) := by
  have ⟨_, _, _, _, pm2, _, pmD⟩ := hP.pm p hp
  obtain ⟨_, _, hvok, _⟩ := pmD hst
  clear pmD
  have lg := hP.row.lt
  have hwt : A.wait p who = A.push ⟨who, (A.pr p).v, (A.pr p).st == 2⟩ := by rw [Ab.wait, if_neg hst]
  obtain ⟨A2, hA2⟩ : ∃ A2, A2 = A.wait p who := ⟨_, rfl⟩
  have hA2H : Hide (A.push ⟨who, (A.pr p).v, (A.pr p).st == 2⟩ = A2) := ⟨by rw [hA2, hwt]⟩
  rw [← hA2]
  clear hwt hA2
  have hB3 := (((Below.refl w.heap.size w).alloc (Nat.le_refl _) (.cells #[.int .i64 0, .int .i64 0, .string ⟨#[]⟩, .int .i64 0] 38)).alloc (by simp) (.cells #[.int .i64 kf, .int .i64 nf, .string ⟨#[]⟩, .int .i64 0] 38)).alloc (by simp; omega) (.cells #[.int .i64 5, .int .i64 0, .string ⟨#[]⟩, .int .i64 (4 + 6 * (K.sl who : Int))] 38)
  obtain ⟨g0, g1, g2, _, hz⟩ := boxes3 (Below.refl _ (((w.alloc (.cells #[.int .i64 0, .int .i64 0, .string ⟨#[]⟩, .int .i64 0] 38)).alloc (.cells #[.int .i64 kf, .int .i64 nf, .string ⟨#[]⟩, .int .i64 0] 38)).alloc (.cells #[.int .i64 5, .int .i64 0, .string ⟨#[]⟩, .int .i64 (4 + 6 * (K.sl who : Int))] 38)))
  have hP3 := hP.below hB3
  obtain ⟨_, x8, _, _⟩ := hP3.look hp
  have hz0 : (((A.pr p).st : Int) == 0) = false := by simpa using hst
  have rc := fun W (h : PS lab K W A) => result_calls h hp
  have jc := fun kd nd xd sd kf nf xf sf k1 n1 x1 s1 k2 n2 x2 s2 hd hf W => job_calls K.H kd nd xd sd kf nf xf sf k1 n1 x1 s1 k2 n2 x2 s2 ((A.pr p).st == 2) hd hf W
  have hc' : (if ((A.pr p).st == 2) = true then 2 else 1 : Int) = ((A.pr p).st : Int) := by
    have : (A.pr p).st = 1 ∨ (A.pr p).st = 2 := by omega
    rcases this with h | h <;> rw [h] <;> rfl
  rw [hc'] at jc
  clear hc' hst pm2
  generalize hstg : (A.pr p).st = st at *
  go_enter Tryz.func43, Tryz.ntmps43
  go_wp2
  generalize (((w.alloc (.cells #[.int .i64 0, .int .i64 0, .string ⟨#[]⟩, .int .i64 0] 38)).alloc (.cells #[.int .i64 kf, .int .i64 nf, .string ⟨#[]⟩, .int .i64 0] 38)).alloc (.cells #[.int .i64 5, .int .i64 0, .string ⟨#[]⟩, .int .i64 (4 + 6 * (K.sl who : Int))] 38)) = W3 at *
  obtain ⟨a0, a1, a2, a3⟩ := cells4 g0
  obtain ⟨b0, b1, b2, b3⟩ := cells4 g1
  obtain ⟨d0, d1, d2, d3⟩ := cells4 g2
  have hEx := Ext.below (lab := lab) (K := K) (N := A.N) hB3
  have hlW : Hide (∀ r, w.heap.size ≤ r → lab r = .imm) := ⟨fun r hr => hP.new r hr⟩
  have hJL : ¬ lab K.J = .items := by rw [hP.lJ]; intro h; cases h
  have hMg : Hide (¬ (K.g = K.J ∨ K.vI.ownBlock = some K.g)) := ⟨by
    have hl := hP.lg
    rintro (h | h)
    · rw [h, hP.lJ] at hl; cases hl
    · rw [(hP.it.own h).1] at hl; cases hl⟩
  have hMb : ∀ r, w.heap.size ≤ r → ¬ (r = K.J ∨ K.vI.ownBlock = some r) := fun r hr => by
    have hl := hlW.out r hr
    rintro (h | h)
    · rw [h, hP.lJ] at hl; cases hl
    · rw [(hP.it.own h).1] at hl; cases hl
  have hTf : ∀ wc : World, Below W3.heap.size W3 wc → Tabs wc := fun wc hC => hT.below (hP3.below hC).bel
  have hPf := fun (wc : World) (hC : Below W3.heap.size W3 wc) => hP3.below hC
  have hjl : A.jobs.length < 100000 := by omega
  have hC : Below W3.heap.size W3 W3.drew := (Below.refl _ W3).drew
  have q0 : w.heap.size ≤ w.heap.size := Nat.le_refl _
  have q1 : w.heap.size ≤ w.heap.size + 1 := by omega
  have q2 : w.heap.size ≤ w.heap.size + 1 + 1 := by omega
  have hvw := fun (wc : World) (hC : Below W3.heap.size W3 wc) => (Lt.below (lab := lab) (K := K) (N := A.N) hC).vok ((Lt.below (N := A.N) hB3).vok hvok)
  clear g0 g1 g2
  go_region_held3 (fun W : World => W.cell? ⟨w.heap.size, 0, none⟩ = some (.int .i64 0) ∧ W.cell? ⟨w.heap.size, 1, none⟩ = some (.int .i64 0) ∧ W.cell? ⟨w.heap.size, 2, none⟩ = some (.string ⟨#[]⟩) ∧ W.cell? ⟨w.heap.size, 3, none⟩ = some (.int .i64 0) ∧ W.cell? ⟨w.heap.size + 1, 0, none⟩ = some (.int .i64 kf) ∧ W.cell? ⟨w.heap.size + 1, 1, none⟩ = some (.int .i64 nf) ∧ W.cell? ⟨w.heap.size + 1, 2, none⟩ = some (.string ⟨#[]⟩) ∧ W.cell? ⟨w.heap.size + 1, 3, none⟩ = some (.int .i64 0) ∧ W.cell? ⟨w.heap.size + 1 + 1, 0, none⟩ = some (.int .i64 5) ∧ W.cell? ⟨w.heap.size + 1 + 1, 1, none⟩ = some (.int .i64 0) ∧ W.cell? ⟨w.heap.size + 1 + 1, 2, none⟩ = some (.string ⟨#[]⟩) ∧ W.cell? ⟨w.heap.size + 1 + 1, 3, none⟩ = some (.int .i64 (4 + 6 * (K.sl who : Int))) ∧ W.cell? ⟨K.g, K.d + K.sl p * 11 + 1 + 7, none⟩ = some (.int .i64 st)) (first | exact ⟨keepc hC a0, keepc hC a1, keepc hC a2, keepc hC a3, keepc hC b0, keepc hC b1, keepc hC b2, keepc hC b3, keepc hC d0, keepc hC d1, keepc hC d2, keepc hC d3, keepc hC x8⟩ | exact ⟨onlyc hO6 (keepc hC a0) (hMb _ q0), onlyc hO6 (keepc hC a1) (hMb _ q0), onlyc hO6 (keepc hC a2) (hMb _ q0), onlyc hO6 (keepc hC a3) (hMb _ q0), onlyc hO6 (keepc hC b0) (hMb _ q1), onlyc hO6 (keepc hC b1) (hMb _ q1), onlyc hO6 (keepc hC b2) (hMb _ q1), onlyc hO6 (keepc hC b3) (hMb _ q1), onlyc hO6 (keepc hC d0) (hMb _ q2), onlyc hO6 (keepc hC d1) (hMb _ q2), onlyc hO6 (keepc hC d2) (hMb _ q2), onlyc hO6 (keepc hC d3) (hMb _ q2), onlyc hO6 (keepc hC x8) hMg.out⟩) (first | (go_at_call_of 63 (Value.agg #[.int .i64 0, .int .i64 0, .string ⟨#[]⟩, .int .i64 0]); refine (nto_und _ (hTf _ hC)).mono ?_; rintro e w5 ⟨rfl, hb⟩; replace hC := below_then hC hb; go_simp) | (go_at_call_of 63 (Value.agg #[.int .i64 kf, .int .i64 nf, .string ⟨#[]⟩, .int .i64 0]); refine (hN _ (hTf _ hC)).mono ?_; rintro e w5 ⟨rfl, hb⟩; replace hC := below_then hC hb; go_simp) | (go_at_call 63; refine (normal_ref 0 _ ⟨#[]⟩ _).mono ?_; rintro e w5 ⟨rfl, hb⟩; replace hC := below_then hC hb; go_simp) | (go_at_call 30; refine (rc _ (hPf _ hC)).mono ?_; rintro e w5 ⟨rfl, hb⟩; replace hC := below_then hC hb; go_simp) | (go_at_call 66; have hCj := hC; refine (jc _ _ _ _ kf nf 0 _ 5 0 _ _ _ _ _ _ (by decide) hkf _).mono ?_; rintro e w5 ⟨r, rfl, hr5, ht5, hb5⟩; replace hC := below_then hC hb5; go_simp) | (go_at_call 65; refine (push_calls _ K.J K.vI tJobs (fun r => lab r = .items) _ K.I 2 _ (hPf _ hC).hJ (hPf _ hC).it hJL hjl).mono ?_; rintro e w6 ⟨rfl, g6, d6, cap6, hJ6, hrow6, hg6, hO6⟩; go_simp))
  all_goals
    go_end0
    obtain ⟨lab', K', h1, h2⟩ := job_push (hPf _ hCj) hwho (hvw _ hCj) (st == 2) hb5 hr5 ht5 hJ6 hrow6 hg6 hO6
    rw [hA2H.out] at h1
    exact ⟨rfl, lab', K', h1, hEx.trans ((Ext.below hCj).trans h2 (Nat.le_refl _)) (Nat.le_refl _)⟩
/-- react -/
theorem react_calls {lab : Nat → Lab} {K : PK} {w : World} {A : Ab} (hP : PS lab K w A) (hT : Tabs K.w0) {p : Nat} (hp : p < A.N) {who : Nat} (hwho : who < A.N) (fb : Bool) (kf nf : Int) (hf : kf = (if fb then 3 else 0) ∧ nf = (if fb then 1 else 0)) (hws : (A.pr p).ws.length ≤ 1000) (hjs : A.jobs.length ≤ 50000) :
    Calls Tryz.prog 43 #[.pointer (some ⟨K.H, 0, none⟩), .pointer (some ⟨K.J, 0, none⟩), .pointer (some ⟨K.g, K.d + K.sl p * 11 + 1, none⟩), .agg #[.int .i64 0, .int .i64 0, .string ⟨#[]⟩, .int .i64 0], .agg #[.int .i64 kf, .int .i64 nf, .string ⟨#[]⟩, .int .i64 0], .agg #[.int .i64 5, .int .i64 0, .string ⟨#[]⟩, .int .i64 (4 + 6 * (K.sl who : Int))]] w
      (fun e w' => e = .returned (.tuple #[]) ∧ ∃ lab' K', PS lab' K' w' (A.wait p who) ∧ Ext lab K w lab' K' w' A.N) := by
  have hN : ∀ w, Tabs w → Calls Tryz.prog 63 #[.agg #[.int .i64 kf, .int .i64 nf, .string ⟨#[]⟩, .int .i64 0]] w (fun e w' => e = .returned (.agg #[.int .i64 kf, .int .i64 nf, .string ⟨#[]⟩, .int .i64 0]) ∧ Below w.heap.size w w') := by
    obtain ⟨rfl, rfl⟩ := hf
    cases fb
    · exact nto_und
    · exact nto_one
  by_cases h : (A.pr p).st = 0
  · exact react_pend hP hT hp h hwho kf nf fb ⟨hf⟩ hN hws
  · exact react_done hP hT hp h hwho kf nf (by rw [hf.1]; cases fb <;> decide) hN hjs
end Go.Proofs.YtcceopgaiffkmaaGreatDoor
