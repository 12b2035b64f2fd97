/- PromisePlays, walked: after any calls, at most 60, both sides agree. Condition: the tables of unicode/utf8 read as they are laid; the contracts of the awake and of heap.New. -/
import Derived.Test.YtcceopgaiffkmaaGreatDoorLpB
import Derived.Test.YtcceopgaiffkmaaGreatDoorRfF
import Derived.Lib.QuietBelow
/- The law's play: one operation on the program. -/
namespace Go.Proofs.YtcceopgaiffkmaaGreatDoor
open Go Go.RowKit Go.Pl
section
variable {lab : Nat → Lab} {K : PK} {w : World} {A : Ab}
theorem lplay_calls (hP : PS lab K w A) (hT : Tabs K.w0) (hn : K.n < 60000) {vW : Value} (hW : Hs lab K w A.N vW) (o a b : Nat) (ho : o < 256) (ha : a < 256) (hb : b < 256) (k n x : Int) (s : ByteArray) (h5 : k ≠ 5) (h6 : k ≠ 6) (hs : s.size ≤ 60) (hws : ∀ p, p < A.N → (A.pr p).ws.length ≤ 900) (hjs : A.jobs.length ≤ 49000) (hNb : A.N ≤ 900) :
    Calls Tryz.prog 6 #[.pointer (some ⟨K.H, 0, none⟩), .pointer (some ⟨K.J, 0, none⟩), vW, .agg #[.int .u8 o, .int .u8 a, .int .u8 b, .int .i64 k, .int .i64 n, .string s, .int .i64 x]] w
      (fun e w' => ∃ vW', e = .returned (.tuple #[vW', .bool true]) ∧ ∃ lab' K', PS lab' K' w' (A.play o a b (.nv (nk k) (ni k n) (ns k s))) ∧ Ext lab K w lab' K' w' A.N ∧ Hs lab' K' w' (A.play o a b (.nv (nk k) (ni k n) (ns k s))).N vW') := by
  by_cases h : o % 6 ≤ 2
  · exact lplay_lo hP hT hn hW o a b ho ha hb k n x s h5 h6 hs hws hjs hNb h
  · exact lplay_hi hP hT hn hW o a b ho ha hb k n x s h5 h6 hs hws hjs hNb (by omega)
end
end Go.Proofs.YtcceopgaiffkmaaGreatDoor

/- PromisePlays: the first state, and what a round of the loop holds. -/
namespace Go.Proofs.YtcceopgaiffkmaaGreatDoor
open Go Go.RowKit Go.Pl
set_option maxRecDepth 100000
/-- an operation of the list, as it lies in memory -/
def OpAt (w : World) (b d : Nat) : Prop := ∃ (o a b2 : Nat) (k n x : Int) (s : ByteArray), o < 256 ∧ a < 256 ∧ b2 < 256 ∧ w.cell? ⟨b, d, none⟩ = some (.int .u8 o) ∧ w.cell? ⟨b, d + 1, none⟩ = some (.int .u8 a) ∧ w.cell? ⟨b, d + 2, none⟩ = some (.int .u8 b2) ∧
  w.cell? ⟨b, d + 3, none⟩ = some (.int .i64 k) ∧ w.cell? ⟨b, d + 4, none⟩ = some (.int .i64 n) ∧ w.cell? ⟨b, d + 5, none⟩ = some (.string s) ∧ w.cell? ⟨b, d + 6, none⟩ = some (.int .i64 x)
/-- no promise yet -/
def ab0 (n : Nat) : Ab := ⟨0, fun _ => ⟨0, false, und, []⟩, [], n⟩
theorem bd0 {n : Nat} (hn : n ≤ 20) : Bd (ab0 n) 0 0 :=
  ⟨Nat.le_refl _, by show n ≤ 20 + 0; omega, fun p hp => absurd hp (Nat.not_lt_zero _), Nat.le_refl _, (fun j hj => by cases hj), fun p hp => absurd hp (Nat.not_lt_zero _)⟩
/-- both sides at one state -/
structure Inv (H J Rr : Nat) (w0 : World) (lab : Nat → Lab) (K : PK) (R : RK) (w : World) (A : Ab) (vN : Value) : Prop where
  ps : PS lab K w A
  rs : RS lab R w A
  hs : Hs lab K w A.N vN
  eH : K.H = H
  eJ : K.J = J
  eR : R.R = Rr
  e0 : K.w0 = w0
section
variable {H J Rr : Nat} {w0 w w' : World} {lab : Nat → Lab} {K : PK} {R : RK} {A : Ab} {vN : Value}
theorem Inv.below (h : Inv H J Rr w0 lab K R w A vN) (hb : Below w.heap.size w w') : Inv H J Rr w0 lab K R w' A vN :=
  ⟨h.ps.below hb, h.rs.below hb, h.hs.same (fun r hr _ => hb.block r hr) fun _ _ h => h, h.eH, h.eJ, h.eR, h.e0⟩
theorem Inv.bel (h : Inv H J Rr w0 lab K R w A vN) : Below w0.heap.size w0 w := h.e0 ▸ h.ps.bel
theorem Inv.cell (h : Inv H J Rr w0 lab K R w A vN) {b o : Nat} {v : Value} (hc : w0.cell? ⟨b, o, none⟩ = some v) : w.cell? ⟨b, o, none⟩ = some v := keepc h.bel hc
/-- the two sides play -/
theorem Inv.play (h : Inv H J Rr w0 lab K R w A vN) {lab4 lab5 : Nat → Lab} {K4 : PK} {R5 : RK} {w4 w5 : World} {A' : Ab} {vN' : Value} (hP : PS lab4 K4 w4 A') (hE : Ext lab K w lab4 K4 w4 A.N) (hN : Hs lab4 K4 w4 A'.N vN')
    (hR4 : RS lab4 R w4 A) (hR : RS lab5 R5 w5 A') (hRE : RExt lab4 R w4 lab5 R5 w5) : Inv H J Rr w0 lab5 K4 R5 w5 A' vN' :=
  ⟨PS.ref hP hR4 hR hRE, hR, hN.ext (RExt.lt hR4 hRE K4 A'.N), hE.eH.trans h.eH, hE.eJ.trans h.eJ, hRE.eR.trans h.eR, hE.e0.trans h.e0⟩
end
/-- the first state of the two sides -/
theorem start_inv {w w3 : World} {g d n cp Pr pd : Nat} {gl tx p6 p11 : Int} {S : Nat → Nat → Value} (hb : Below w.heap.size w w3) (hrow : Row w3 tSlot 11 g d n cp S) (h6 : w3.cell? ⟨Pr, pd + 6, none⟩ = some (.int .i64 p6)) (h11 : w3.cell? ⟨Pr, pd + 11, none⟩ = some (.int .i64 p11))
    (hg : w.heap.size ≤ g) (_ : w.heap.size ≤ Pr) (hne : g ≠ Pr) :
    ∃ lab K R, Inv w3.heap.size (w3.heap.size + 1) (w3.heap.size + 1 + 1) w lab K R
      (((w3.alloc (.cells #[.int .i64 4, .int .i64 6, .slice (some ⟨g, d, none⟩) n cp, .slice none 0 0, .int .i64 n, .int .i64 gl, .int .i64 tx, .slice (some ⟨Pr, pd, none⟩) 12 12] 31)).alloc (.cells #[.slice none 0 0] 35)).alloc (.cells #[.slice none 0 0, .slice none 0 0, .int .i64 6, .int .i64 0, .string ⟨#[]⟩, .int .i64 0, .slice none 0 0] 42)) (ab0 n) (.slice none 0 0) := by
  have lg := hrow.lt
  have lP : Pr < w3.heap.size := World.block_lt_of_cell? w3 _ h6
  have lw := hb.size
  have hB : Below w3.heap.size w3 (((w3.alloc (.cells #[.int .i64 4, .int .i64 6, .slice (some ⟨g, d, none⟩) n cp, .slice none 0 0, .int .i64 n, .int .i64 gl, .int .i64 tx, .slice (some ⟨Pr, pd, none⟩) 12 12] 31)).alloc (.cells #[.slice none 0 0] 35)).alloc (.cells #[.slice none 0 0, .slice none 0 0, .int .i64 6, .int .i64 0, .string ⟨#[]⟩, .int .i64 0, .slice none 0 0] 42)) :=
    below_alloc (below_alloc (below_alloc (Below.refl _ w3) _) _) _
  refine ⟨fun r => if r = w3.heap.size then .hh else if r = w3.heap.size + 1 then .jj else if r = w3.heap.size + 1 + 1 then .rw else if r = g then .slots else .imm,
    ⟨w3.heap.size, w3.heap.size + 1, g, d, n, cp, S, gl, tx, Pr, pd, p6, p11, fun _ => 0, .slice none 0 0, fun _ _ => .bool false, w⟩, ⟨w3.heap.size + 1 + 1, .slice none 0 0, fun _ _ => .bool false, .slice none 0 0, fun _ _ => .bool false⟩,
    ⟨?_, ?_, ?_, ?_, ?_, ?_, ?_, ?_, ?_, ?_, ?_, ?_, ?_, ?_, ?_, ?_, ?_, ?_⟩, ⟨?_, ?_, .inl ⟨rfl, rfl⟩, fun p hp => absurd hp (Nat.not_lt_zero _), .inl ⟨rfl, rfl⟩, (fun k j hk => by cases hk), ?_⟩, .inl ⟨rfl, rfl⟩, rfl, rfl, rfl, rfl⟩
  · exact (halloc _ _ _ (by simp; omega)).trans ((halloc _ _ _ (by simp)).trans (hallocn _ _))
  · exact keepc hB h6
  · exact keepc hB h11
  · exact (halloc _ _ _ (by simp)).trans (alloc_at (by simp))
  · exact hrow.same (hB.block _ lg)
  · simp
  · simp
  · show (if g = w3.heap.size then Lab.hh else if g = w3.heap.size + 1 then .jj else if g = w3.heap.size + 1 + 1 then .rw else if g = g then .slots else .imm) = _
    rw [if_neg (by omega), if_neg (by omega), if_neg (by omega), if_pos rfl]
  · show (if Pr = w3.heap.size then Lab.hh else if Pr = w3.heap.size + 1 then .jj else if Pr = w3.heap.size + 1 + 1 then .rw else if Pr = g then .slots else .imm) = _
    rw [if_neg (by omega), if_neg (by omega), if_neg (by omega), if_neg (by omega)]
  · intro r hr
    simp only [World.size_alloc] at hr
    show (if r = w3.heap.size then Lab.hh else if r = w3.heap.size + 1 then .jj else if r = w3.heap.size + 1 + 1 then .rw else if r = g then .slots else .imm) = _
    rw [if_neg (by omega), if_neg (by omega), if_neg (by omega), if_neg (by omega)]
  · intro r hr
    replace hr : r < w.heap.size := hr
    show (if r = w3.heap.size then Lab.hh else if r = w3.heap.size + 1 then .jj else if r = w3.heap.size + 1 + 1 then .rw else if r = g then .slots else .imm) = _
    rw [if_neg (by omega), if_neg (by omega), if_neg (by omega), if_neg (by omega)]
  · exact below_then hb hB
  · exact fun p hp => absurd hp (Nat.not_lt_zero _)
  · exact fun p q hp => absurd hp (Nat.not_lt_zero _)
  · exact fun p hp => absurd hp (Nat.not_lt_zero _)
  · exact .inl ⟨rfl, rfl⟩
  · exact fun k j hk => by cases hk
  · rfl
  · exact alloc_at (by simp)
  · show (if w3.heap.size + 1 + 1 = w3.heap.size then Lab.hh else if w3.heap.size + 1 + 1 = w3.heap.size + 1 then .jj else if w3.heap.size + 1 + 1 = w3.heap.size + 1 + 1 then .rw else if w3.heap.size + 1 + 1 = g then .slots else .imm) = _
    rw [if_neg (by omega), if_neg (by omega), if_pos rfl]
  · intro r hr
    simp only [World.size_alloc] at hr
    show (if r = w3.heap.size then Lab.hh else if r = w3.heap.size + 1 then .jj else if r = w3.heap.size + 1 + 1 then .rw else if r = g then .slots else .imm) = _
    rw [if_neg (by omega), if_neg (by omega), if_neg (by omega), if_neg (by omega)]
end Go.Proofs.YtcceopgaiffkmaaGreatDoor

/- PromisePlays, walked: after any calls the two sides agree. -/
namespace Go.Proofs.YtcceopgaiffkmaaGreatDoor
open Go Go.RowKit Go.Pl Go.Sort
set_option maxRecDepth 100000
theorem nrm_id {k n : Int} {s : ByteArray} (h : Nrm k n s) : nk k = k ∧ ni k n = n ∧ ns k s = s := by
  rcases h with ⟨rfl | rfl, rfl, rfl⟩ | ⟨rfl, rfl | rfl, rfl⟩ | ⟨rfl, rfl⟩ | ⟨rfl, rfl, h1, h2⟩
  · exact ⟨rfl, rfl, rfl⟩
  · exact ⟨rfl, rfl, rfl⟩
  · exact ⟨rfl, rfl, rfl⟩
  · exact ⟨rfl, rfl, rfl⟩
  · exact ⟨rfl, rfl, rfl⟩
  · exact ⟨rfl, rfl, h1⟩
theorem nrm_k {k n : Int} {s : ByteArray} (h : Nrm k n s) : k ≠ 5 ∧ k ≠ 6 ∧ s.size ≤ 240 := by
  rcases h with ⟨rfl | rfl, rfl, rfl⟩ | ⟨rfl, rfl | rfl, rfl⟩ | ⟨rfl, rfl⟩ | ⟨rfl, rfl, h1, h2⟩
  all_goals exact ⟨by decide, by decide, by first | exact h2 | decide⟩
/-- the value of a promise -/
theorem PS.val {lab : Nat → Lab} {K : PK} {w : World} {A : Ab} (h : PS lab K w A) {p : Nat} (hp : p < A.N) : VOk lab K w (A.pr p).v := by
  obtain ⟨_, _, _, _, _, h6, h7⟩ := h.pm p hp
  by_cases h0 : (A.pr p).st = 0
  · rw [(h6 h0).1]
    exact .inl ⟨.inl rfl, rfl, rfl⟩
  · exact (h7 h0).2.2.1
set_option maxHeartbeats 16000000 in
theorem plays_walk {w : World} (hT : Tabs w) (ao : Option Addr) (len cap : Nat) (h60 : len ≤ 60) (hL : ∀ n, n < len → ∃ b d : Nat, ao = some ⟨b, d, none⟩ ∧ b < w.heap.size ∧ OpAt w b (d + n * 7))
    (haw : ∀ W, Below w.heap.size w W → Calls Tryz.prog 4 #[] W (fun e W2 => e = .returned (.bool true) ∧ Below W.heap.size W W2))
    (hnew : ∀ W, Below w.heap.size w W → Calls Tryz.prog 5 #[.agg #[.int .i64 4, .int .i64 6]] W (fun e W2 => ∃ (g d n cp Pr pd : Nat) (gl tx p6 p11 : Int) (S : Nat → Nat → Value), e = .returned (.agg #[.int .i64 4, .int .i64 6, .slice (some ⟨g, d, none⟩) n cp, .slice none 0 0, .int .i64 n, .int .i64 gl, .int .i64 tx, .slice (some ⟨Pr, pd, none⟩) 12 12]) ∧
      n ≤ 20 ∧ Row W2 tSlot 11 g d n cp S ∧ W2.cell? ⟨Pr, pd + 6, none⟩ = some (.int .i64 p6) ∧ W2.cell? ⟨Pr, pd + 11, none⟩ = some (.int .i64 p11) ∧ W.heap.size ≤ g ∧ W.heap.size ≤ Pr ∧ g ≠ Pr ∧ Below W.heap.size W W2)) :
    Calls Tryz.prog 3 #[.slice ao len cap] w (fun e w' => e = .returned (.bool true) ∧ Below w.heap.size w w') := by
  have hz60 : ¬ (60 : Int) < (len : Int) := by omega
  go_enter Tryz.func3, Tryz.ntmps3
  go_wp2_with fail
  refine (haw _ (Below.refl _ _)).mono ?_
  rintro e w2 ⟨rfl, hb2⟩
  go_wp2_with fail
  refine (hnew _ hb2).mono ?_
  rintro e w3 ⟨g, d, n0, cp, Pr, pd, gl, tx, p6, p11, S, rfl, hn0, hrow, hc6, hc11, hg, hPr, hne, hb3⟩
  have hb3' : Below w.heap.size w w3 := below_then hb2 hb3
  obtain ⟨lab0, K0, R0, hI0⟩ := start_inv (gl := gl) (tx := tx) hb3' hrow hc6 hc11 (Nat.le_trans hb2.size hg) (Nat.le_trans hb2.size hPr) hne
  have hBd0 := bd0 hn0
  clear hrow hc6 hc11
  have hlast : Hide (∀ {H J Rr : Nat} {lab : Nat → Lab} {K : PK} {R : RK} {W W2 : World} {A : Ab} {vN : Value}, Inv H J Rr w lab K R W A vN → Below W.heap.size W W2 → Below w.heap.size w W2) := ⟨fun h hb => below_then h.bel hb⟩
  go_wp2_with fail
  generalize ((w3.alloc (.cells #[.int .i64 4, .int .i64 6, .slice (some ⟨g, d, none⟩) n0 cp, .slice none 0 0, .int .i64 n0, .int .i64 gl, .int .i64 tx, .slice (some ⟨Pr, pd, none⟩) 12 12] 31)).alloc (.cells #[.slice none 0 0] 35)).alloc (.cells #[.slice none 0 0, .slice none 0 0, .int .i64 6, .int .i64 0, .string ⟨#[]⟩, .int .i64 0, .slice none 0 0] 42) = w4 at *
  generalize w3.heap.size = rH at *
  go_loopw [6, 7] (fun vN iv wr => ∃ (i : Nat) (A : Ab) (lab : Nat → Lab) (K : PK) (R : RK), iv = .int .i64 i ∧ i ≤ len ∧ Inv rH (rH + 1) (rH + 1 + 1) w lab K R wr A vN ∧ Bd A i i) (fun _ iv _ => match iv with | .int _ n => len - n.toNat | _ => 0)
  case atStart => exact ⟨0, _, lab0, K0, R0, rfl, Nat.zero_le _, hI0, hBd0⟩
  case round =>
    obtain ⟨i, A, lab, K, R, rfl, hi, hI, hBd⟩ := hrel
    clear hI0 hBd0
    obtain ⟨aN, cN, hvN⟩ := hI.hs.form
    subst hvN
    by_cases hlt : i < len
    · obtain ⟨b, dd, rfl, hb, o, a, b2, k, n, x, s, ho, ha, hb2, q0, q1, q2, q3, q4, q5, q6⟩ := hL i hlt
      have hltz : (i : Int) < (len : Int) := by omega
      have i0 : (0 : Int) ≤ i := by omega
      have c0 := hI.cell q0
      have c1 := hI.cell q1
      have c2 := hI.cell q2
      have c3 := hI.cell q3
      have c4 := hI.cell q4
      have c5 := hI.cell q5
      have c6 := hI.cell q6
      have c5' : wr.cell? ⟨b, dd + i * 7 + 3 + 2, none⟩ = some (.string s) := c5
      by_cases hs : 60 < s.size
      · have hsz : (60 : Int) < (s.size : Int) := by omega
        go_wp2_with fail
        go_ret
        exact ⟨rfl, hI.bel⟩
      have hsz : ¬ (60 : Int) < (s.size : Int) := by omega
      by_cases h5 : k = 5
      · subst h5
        go_wp2_with fail
        go_ret
        exact ⟨rfl, hI.bel⟩
      have h5b : (k == 5) = false := by simpa using h5
      by_cases h6 : k = 6
      · subst h6
        go_wp2_with fail
        go_ret
        exact ⟨rfl, hI.bel⟩
      have h6b : (k == 6) = false := by simpa using h6
      have hKn : K.n < 60000 := by have := hI.ps.eob; have := hBd.ob; omega
      have hTK : Tabs K.w0 := by rw [hI.e0]; exact hT
      have cl := lplay_calls hI.ps hTK hKn hI.hs o a b2 ho ha hb2 k n x s h5 h6 (by omega) (fun p hp => Nat.le_trans (hBd.ws p hp) (by omega)) (Nat.le_trans hBd.jl (by omega)) (Nat.le_trans hBd.N (by omega))
      rw [hI.eH, hI.eJ] at cl
      go_wp2_with fail
      refine cl.mono ?_
      rintro e w5 ⟨vN2, rfl, lab5, K5, hP5, hE5, hN5⟩
      have hR5 : RS lab5 R w5 A := RS.prog hI.rs hE5 hP5
      have hbel5 : Below w.heap.size w w5 := by have := hP5.bel; rw [hE5.e0, hI.e0] at this; exact this
      replace c0 := keepc hbel5 q0
      replace c1 := keepc hbel5 q1
      replace c2 := keepc hbel5 q2
      replace c3 := keepc hbel5 q3
      replace c4 := keepc hbel5 q4
      replace c5 := keepc hbel5 q5
      replace c6 := keepc hbel5 q6
      clear c5'
      have rl := rplay_calls hR5 o a b2 ho ha hb2 k n x s h5 (by omega) (fun p hp => Nat.le_trans (hBd.ws p hp) (by omega)) (Nat.le_trans hBd.jl (by omega)) (Nat.le_trans hBd.N (by omega)) hBd.jw
      rw [hI.eR] at rl
      obtain ⟨aN5, cN5, hvN5⟩ := hN5.form
      subst hvN5
      go_wp2_with fail
      refine rl.mono ?_
      rintro e w6 ⟨rfl, lab6, R6, hR6, hRE6⟩
      have hI6 := hI.play hP5 hE5 hN5 hR5 hR6 hRE6
      have hBd6 := hBd.play (by omega) o a b2 (.nv (nk k) (ni k n) (ns k s))
      clear cl rl hP5 hE5 hN5 hR5 hR6 hRE6 c0 c1 c2 c3 c4 c5 c6 hbel5
      generalize A.play o a b2 (.nv (nk k) (ni k n) (ns k s)) = A6 at *
      obtain ⟨aL, cL, hvL⟩ := hI6.rs.L.form
      obtain ⟨aJ, cJ, hvJ⟩ := hI6.rs.J.form
      have gR := hI6.rs.hR
      rw [hI6.eR, hvL, hvJ] at gR
      have qL : w6.cell? ⟨rH + 1 + 1, 0, none⟩ = some (.slice aL A6.N cL) := cell_blk gR 0
      have qJ : w6.cell? ⟨rH + 1 + 1, 1, none⟩ = some (.slice aJ A6.jobs.length cJ) := cell_blk gR 1
      have ql : ∀ d os, Calls Tryz.prog 8 #[.pointer (some ⟨rH + 1, 0, none⟩)] (grow (redrawn w6 d) os) (fun e w' => e = .returned (.int .i64 A6.jobs.length) ∧ ∃ p : Regrown, w' = grow (redrawn w6 p.d) p.os) := fun d os => Calls.regrown_of (by
        have := qlen_calls (hI6.ps.below (below_regrown w6 d os))
        rw [hI6.eJ] at this
        exact this.mono fun e w' h => ⟨h.1, by rw [h.2]; exact Below.refl _ _⟩)
      have qLd := fun d os => cell_regrown qL d os
      have qJd := fun d os => cell_regrown qJ d os
      go_wp2_with fail
      refine wp_region_quiet_below (by kernel_rfl) (by kernel_rfl) ?_
      repeat (quiet_step (exact ql _ _))
      refine wpQuiet_nil ?_
      intro _ hw'
      obtain ⟨⟨dq, osq⟩, hw''⟩ := hw'
      subst hw''
      have hI7 := hI6.below (below_regrown w6 dq osq)
      clear hI6 gR qL qJ ql qLd qJd
      generalize grow (redrawn w6 dq) osq = w7 at *
      have gR := hI7.rs.hR
      rw [hI7.eR, hvL, hvJ] at gR
      have hLs := hI7.rs.L
      rw [hvL] at hLs
      have hNs := hI7.hs
      have hKn7 : K5.n < 90000 := by have := hI7.ps.eob; have := hBd6.ob; omega
      have hTK7 : Tabs K5.w0 := by rw [hI7.e0]; exact hT
      have hfinO : Hide (∀ W, Below w7.heap.size w7 W → (∃ (i' : Nat) (A : Ab) (lab : Nat → Lab) (K : PK) (R : RK), Value.int .i64 ((i : Int) + 1) = .int .i64 i' ∧ i' ≤ len ∧ Inv rH (rH + 1) (rH + 1 + 1) w lab K R W A (.slice aN5 A6.N cN5) ∧ Bd A i' i')) := ⟨fun W hb => ⟨i + 1, A6, lab6, K5, R6, by simp, by omega, hI7.below hb, hBd6⟩⟩
      have hfinB : Hide (∀ W, Below w7.heap.size w7 W → Below w.heap.size w W) := ⟨fun W hb => below_then hI7.bel hb⟩
      go_wp2_with fail
      go_loopw [10] (fun kv wk => ∃ q : Nat, kv = .int .i64 q ∧ q ≤ A6.N ∧ Below w7.heap.size w7 wk) (fun kv _ => match kv with | .int _ n => A6.N - n.toNat | _ => 0)
      case atStart => exact ⟨0, rfl, Nat.zero_le _, Below.refl _ _⟩
      case round =>
        obtain ⟨q, rfl, hq, hbk⟩ := hrel
        by_cases hqn : q < A6.N
        · have hqz : (q : Int) < (A6.N : Int) := by omega
          have qz0 : (0 : Int) ≤ q := by omega
          have hA6 := hBd6.N
          have qw : IntKind.i64.wrap ((q : Int) + 1) = (q : Int) + 1 := IntWalk.i64_in _ (by omega)
          have hIk := hI7.below hbk
          obtain ⟨rN, dN, cN', hvN, hLN, rowN⟩ := hIk.hs.pos (by omega)
          cases hvN
          obtain ⟨rL, dL, cL', hvL2, hLL, rowL⟩ := hIk.rs.L.pos (by omega)
          rw [hvL] at hvL2
          cases hvL2
          have qp := hIk.rs.pm q hqn
          have t0 := rowN.cell0 hqn (by decide)
          have t1 := rowN.cell hqn (show 1 < 4 by decide)
          have t2 := rowN.cell hqn (show 2 < 4 by decide)
          have t3 := rowN.cell hqn (show 3 < 4 by decide)
          have x0 := rowL.cell0 hqn (by decide)
          have x1 := rowL.cell hqn (show 1 < 7 by decide)
          have x2 := rowL.cell hqn (show 2 < 7 by decide)
          have x3 := rowL.cell hqn (show 3 < 7 by decide)
          have x4 := rowL.cell hqn (show 4 < 7 by decide)
          have x5 := rowL.cell hqn (show 5 < 7 by decide)
          have x6 := rowL.cell hqn (show 6 < 7 by decide)
          rw [qp.1] at x0
          rw [qp.2.1 0 (by decide), rv0] at x1
          rw [qp.2.1 1 (by decide), rv1] at x2
          rw [qp.2.1 2 (by decide), rv2] at x3
          rw [qp.2.1 3 (by decide), rv3] at x4
          rw [qp.2.2.1] at x5
          obtain ⟨aw, cw, hxw⟩ := qp.2.2.2.form
          rw [hxw] at x6
          have gRk := keep hbk gR
          have xL : wr.cell? ⟨rH + 1 + 1, 0, none⟩ = some (.slice (some ⟨rL, dL, none⟩) A6.N cL) := cell_blk gRk 0
          have st := status_calls hIk.ps hKn7 hqn
          rw [hIk.eH] at st
          have hv := PS.val hIk.ps hqn
          have hKS : Hide (K5.sl q = K5.sl q) := ⟨rfl⟩
          clear qp rowN gRk
          clear hxw
          generalize (A6.pr q).ws.length = nw at *
          generalize (A6.pr q).v = v at *
          generalize (A6.pr q).st = sv at *
          generalize (A6.pr q).lk = lv at *
          cases v with
          | nv k2 n2 s2 =>
            obtain ⟨v5, v6, v7⟩ := nrm_k hv
            obtain ⟨e1, e2, e3⟩ := nrm_id hv
            have v6b : (k2 == 6) = false := by simpa using v6
            have rn := rnormal_calls k2 n2 0 s2 v5 (by omega)
            rw [e1, e2, e3] at rn
            simp only [pk, pn, ps, px] at st
            simp only [rk, Go.Proofs.YtcceopgaiffkmaaGreatDoor.rn, rs] at x1 x2 x3
            go_wp2_with fail
            refine st.mono ?_
            rintro e w8 ⟨rfl, hb8⟩
            replace x0 := keepc hb8 x0
            replace x1 := keepc hb8 x1
            replace x2 := keepc hb8 x2
            replace x3 := keepc hb8 x3
            replace x4 := keepc hb8 x4
            replace x5 := keepc hb8 x5
            replace x6 := keepc hb8 x6
            replace xL := keepc hb8 xL
            have hB9 := below_alloc (Below.refl w8.heap.size w8) (.cells #[.int .i64 k2, .int .i64 n2, .string s2, .int .i64 0] 38)
            replace x0 := keepc hB9 x0
            replace x1 := keepc hB9 x1
            replace x2 := keepc hB9 x2
            replace x3 := keepc hB9 x3
            replace x4 := keepc hB9 x4
            replace x5 := keepc hB9 x5
            replace x6 := keepc hB9 x6
            replace xL := keepc hB9 xL
            clear t0 t1 t2 t3
            go_wp2_with fail
            have g9 := hallocn w8 (.cells #[.int .i64 k2, .int .i64 n2, .string s2, .int .i64 0] 38)
            have g10 := hallocn (w8.alloc (.cells #[.int .i64 k2, .int .i64 n2, .string s2, .int .i64 0] 38)) (.cells #[.int .i64 sv, .int .i64 k2, .int .i64 n2, .string s2, .int .i64 0, .bool lv, .slice aw nw cw] 58)
            have hB10 := below_alloc hB9 (.cells #[.int .i64 sv, .int .i64 k2, .int .i64 n2, .string s2, .int .i64 0, .bool lv, .slice aw nw cw] 58)
            replace g9 := (halloc _ (.cells #[.int .i64 sv, .int .i64 k2, .int .i64 n2, .string s2, .int .i64 0, .bool lv, .slice aw nw cw] 58) _ (blk_lt g9)).trans g9
            have hBk := below_then hbk (below_then hb8 hB10)
            rw [World.size_alloc] at g10
            clear x0 x1 x2 x3 x4 x5 x6 xL hB9
            generalize ((w8.alloc (.cells #[.int .i64 k2, .int .i64 n2, .string s2, .int .i64 0] 38)).alloc (.cells #[.int .i64 sv, .int .i64 k2, .int .i64 n2, .string s2, .int .i64 0, .bool lv, .slice aw nw cw] 58)) = w10 at *
            have y0 := fun d os => cell_regrown (cell_blk g9 0) d os
            have y1 := fun d os => cell_regrown (cell_blk g9 1) d os
            have y2 := fun d os => cell_regrown (cell_blk g9 2) d os
            have y3 := fun d os => cell_regrown (cell_blk g9 3) d os
            have z1 := fun d os => cell_regrown (cell_blk g10 1) d os
            have z2 := fun d os => cell_regrown (cell_blk g10 2) d os
            have z3 := fun d os => cell_regrown (cell_blk g10 3) d os
            have z4 := fun d os => cell_regrown (cell_blk g10 4) d os
            have rnd := fun d os => Calls.regrown_of (rn (grow (redrawn w10 d) os))
            refine wp_region_quiet_below (by kernel_rfl) (by kernel_rfl) ?_
            repeat (quiet_step (exact rnd _ _))
            refine wpQuiet_nil ?_
            intro _ hw'
            obtain ⟨⟨dr, osr⟩, hw''⟩ := hw'
            subst hw''
            replace hBk := below_then hBk (below_regrown w10 dr osr)
            go_wp2_with fail
            refine ⟨⟨q + 1, by simp, by omega, hBk⟩, ?_⟩
            show A6.N - ((q : Int) + 1).toNat < A6.N - (q : Int).toNat
            omega
          | flt e =>
            have fc := fun W (hb : Below wr.heap.size wr W) => fault_calls (hIk.ps.below hb) hTK7 hKn7 ((Lt.below (N := A6.N) hb).errOk hv)
            rw [hIk.eH] at fc
            simp only [pk, pn, ps, px] at st
            simp only [rk, Go.Proofs.YtcceopgaiffkmaaGreatDoor.rn, rs] at x1 x2 x3
            go_wp2_with fail
            refine st.mono ?_
            rintro e1 w8 ⟨rfl, hb8⟩
            replace x0 := keepc hb8 x0
            replace x1 := keepc hb8 x1
            replace x2 := keepc hb8 x2
            replace x3 := keepc hb8 x3
            replace x4 := keepc hb8 x4
            replace x5 := keepc hb8 x5
            replace x6 := keepc hb8 x6
            replace xL := keepc hb8 xL
            have hB9 := below_alloc (Below.refl w8.heap.size w8) (.cells #[.int .i64 5, .int .i64 0, .string ⟨#[]⟩, .int .i64 (4 + 6 * (e : Int))] 38)
            replace x0 := keepc hB9 x0
            replace x1 := keepc hB9 x1
            replace x2 := keepc hB9 x2
            replace x3 := keepc hB9 x3
            replace x4 := keepc hB9 x4
            replace x5 := keepc hB9 x5
            replace x6 := keepc hB9 x6
            replace xL := keepc hB9 xL
            have hB10 := below_alloc hB9 (.cells #[.int .i64 sv, .int .i64 6, .int .i64 0, .string ⟨#[]⟩, .int .i64 0, .bool lv, .slice aw nw cw] 58)
            clear t0 t1 t2 t3
            go_wp2_with fail
            refine (fc _ (below_then hb8 hB10)).mono ?_
            rintro e2 w11 ⟨rfl, hb11⟩
            have hBk := below_then hbk (below_then (below_then hb8 hB10) hb11)
            clear x0 x1 x2 x3 x4 x5 x6 xL
            go_wp2_with fail
            refine ⟨⟨q + 1, by simp, by omega, hBk⟩, ?_⟩
            show A6.N - ((q : Int) + 1).toNat < A6.N - (q : Int).toNat
            omega
        · obtain rfl : q = A6.N := by omega
          have hqz : ¬ (A6.N : Int) < (A6.N : Int) := by omega
          go_wp2_with fail
          refine ⟨hfinO.out _ hbk, ?_⟩
          show len - ((i : Int) + 1).toNat < len - (i : Int).toNat
          omega
    · obtain rfl : i = len := by omega
      have hltz : ¬ (i : Int) < (i : Int) := by omega
      go_wp2_with fail
      go_ret
      exact ⟨rfl, hI.bel⟩
end Go.Proofs.YtcceopgaiffkmaaGreatDoor
