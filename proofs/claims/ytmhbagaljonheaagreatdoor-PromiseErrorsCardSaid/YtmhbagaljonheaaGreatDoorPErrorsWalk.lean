/- PromiseErrors hands back true at every input: the evaluator's runs, put together. Condition: the two tables of unicode/utf8 read as they are laid; the third argument reads as a slice of values. -/
import Derived.Test.YtmhbagaljonheaaGreatDoorRunP0
import Derived.Test.YtmhbagaljonheaaGreatDoorRunP1
import Derived.Test.YtmhbagaljonheaaGreatDoorRunP2
import Derived.Test.YtmhbagaljonheaaGreatDoorRunP3
import Derived.Test.YtmhbagaljonheaaGreatDoorRepairOk
import Derived.Test.YtmhbagaljonheaaGreatDoorValid
import Derived.Test.YtmhbagaljonheaaGreatDoorPEarly
namespace Go.Proofs.YtmhbagaljonheaaGreatDoor
open Go Go.Ev Go.RowKit
set_option maxRecDepth 100000

theorem validOk {σ : Sg} {lc : CV} (hl : ∀ (e : Env) (m : M) (w : World) (lv : Value), RL σ G0 e m w → VR σ e lc lv → LFact σ lv) : SumOk Tryz.prog σ 65 [.ptr 100 0, .agg [.sym .i64 2, lc]] (.bool false) heapF := by
  intro e w vs kd c cs m hR hF hv hk
  obtain ⟨cb, hcb⟩ : ∃ cb, Tryz.f65.body = some cb := Option.isSome_iff_exists.1 (by kernel_rfl)
  obtain ⟨v1, vs1, e1, r1, hv1⟩ := hv.cons_inv
  obtain ⟨v2, vs2, rfl, r2, hv2⟩ := hv1.cons_inv
  obtain rfl := hv2.nil_inv
  obtain ⟨l⟩ := vs
  obtain rfl : l = [v1, v2] := e1
  cases r1 with
  | @ptr _ _ p hp =>
    cases r2 with
    | @agg _ us hlen hall =>
      obtain ⟨u1, us1, e2, s1, hu1⟩ := (show LR σ e [.sym .i64 2, lc] us.toList from ⟨hlen, hall⟩).cons_inv
      obtain ⟨u2, us2, rfl, s2, hu2⟩ := hu1.cons_inv
      obtain rfl := hu2.nil_inv
      obtain ⟨l⟩ := us
      obtain rfl : l = [u1, u2] := e2
      cases s1
      obtain ⟨v', w', h1, rfl, h2, h3⟩ := goes_of_wp noCount Tryz.func65 hcb (valid_wp cb hcb hR hF hp (σ.i 2) u2 (hl e m w u2 hR s2)) hk
      exact ⟨_, w', h1, .bool false, h2, h3⟩

theorem get0 (b : Nat) (cb : CB) (h : heap0.get? b = some cb) : cb = .none := by
  have e : heap0.get? b = (List.replicate 8 CB.none)[b]? := ofList_get _ b
  rw [e] at h
  exact (List.mem_replicate.1 (List.mem_of_getElem? h)).2

theorem fits_i64 {a : Int} (h : (Lit.int .i64 a).wf = true) : -9223372036854775808 ≤ a ∧ a ≤ 9223372036854775807 := by
  have e1 : IntKind.min .i64 = -9223372036854775808 := by kernel_rfl
  have e2 : IntKind.max .i64 = 9223372036854775807 := by kernel_rfl
  simpa [Lit.wf, e1, e2] using h

/-- the memory that an argument names, left alone -/
def envOf (pl : Option Ev.Place) : Env := fun b => match Nat.beq b 7 with | true => pl | false => none

/-- one shape of the slice, all values -/
theorem shape {lc : CV} (H : Errs lc) (k n x kd : Int) (s : ByteArray) (lv : Value) (ck : -9223372036854775808 ≤ k ∧ k ≤ 9223372036854775807) (cn : -9223372036854775808 ≤ n ∧ n ≤ 9223372036854775807)
    (cx : -9223372036854775808 ≤ x ∧ x ≤ 9223372036854775807) (cd : -9223372036854775808 ≤ kd ∧ kd ≤ 9223372036854775807) (hs : s.size ≤ 60) (w : World) (hT : Tabs w)
    (pl : Option Ev.Place) (hdead : ∀ p, pl = some p → p.live = false) (hlv : ∀ σ : Sg, VR σ (envOf pl) lc lv)
    (hl : ∀ σ : Sg, (∀ p o, pl = some p → w.heap[p.r]? = some o → σ.fx p.r = some o) → (∀ p, pl = some p → σ.pn 7 = some p) → ∀ (e : Env) (m : M) (w : World) (lv : Value), RL σ G0 e m w → VR σ e lc lv → LFact σ lv) :
    Calls Tryz.prog 5 #[.agg #[.int .i64 k, .int .i64 n, .string s, .int .i64 x], .int .i64 kd, lv] w fun en w' => en = .returned (.bool true) ∧ Below w.heap.size w w' := by
  obtain ⟨cb, hbody⟩ : ∃ cb, Tryz.f5.body = some cb := Option.isSome_iff_exists.1 (by kernel_rfl)
  have fin : ∀ (q3 q4 q5 q6 : Int) {y z u : CV} {p3 p4 p5 p6 : Int × Int}, (runM lc 5 [.agg [y, z, .ssym 0 0, u], .sym .i64 2, lc] ⟨[(0, 60), (0, 9223372036854775807), (-9223372036854775808, 9223372036854775807), p3, p4, p5, p6], []⟩).val = true →
      (∀ τ : Sg, τ.i 3 = q3 → τ.i 4 = q4 → τ.i 5 = q5 → τ.i 6 = q6 → VR τ (envOf pl) y (.int .i64 k) ∧ VR τ (envOf pl) z (.int .i64 n) ∧ VR τ (envOf pl) u (.int .i64 x)) → p3.1 ≤ q3 ∧ q3 ≤ p3.2 → p4.1 ≤ q4 ∧ q4 ≤ p4.2 → p5.1 ≤ q5 ∧ q5 ≤ p5.2 → p6.1 ≤ q6 ∧ q6 ≤ p6.2 →
      Calls Tryz.prog 5 #[.agg #[.int .i64 k, .int .i64 n, .string s, .int .i64 x], .int .i64 kd, lv] w fun en w' => en = .returned (.bool true) ∧ Below w.heap.size w w' := by
    intro q3 q4 q5 q6 y z u p3 p4 p5 p6 h hyz h3 h4 h5 h6
    obtain ⟨τ, g0, g1, g2, g3, g4, g5, g6, t0, t1, fx, pn⟩ : ∃ τ : Sg, τ.i 0 = (s.size : Int) ∧ τ.i 1 = ((repairOf s).size : Int) ∧ τ.i 2 = kd ∧ τ.i 3 = q3 ∧ τ.i 4 = q4 ∧ τ.i 5 = q5 ∧ τ.i 6 = q6 ∧ τ.s 0 = s ∧ τ.s 1 = repairOf s ∧
        (∀ r, τ.fx r = if r < 2 ∨ pl.map (fun p => p.r) = some r then w.heap[r]? else none) ∧ (∀ b, τ.pn b = envOf pl b) :=
      ⟨{ i := fun j => match j with | 0 => (s.size : Int) | 1 => ((repairOf s).size : Int) | 2 => kd | 3 => q3 | 4 => q4 | 5 => q5 | _ => q6, s := fun j => match j with | 0 => s | _ => repairOf s,
         fx := fun r => if r < 2 ∨ pl.map (fun p => p.r) = some r then w.heap[r]? else none, pn := envOf pl }, rfl, rfl, rfl, rfl, rfl, rfl, rfl, rfl, rfl, (fun _ => rfl), fun _ => rfl⟩
    have dead : ∀ b p, envOf pl b = some p → p.live = false := by
      intro b p hb
      unfold envOf at hb
      split at hb
      · exact hdead p hb
      · cases hb
    have hR : RL τ G0 (envOf pl) ⟨heap0, 8, ⟨[(0, 60), (0, 9223372036854775807), (-9223372036854775808, 9223372036854775807), p3, p4, p5, p6], []⟩⟩ w := by
      refine ⟨fun b p cb hb hcb => ?_, fun b p hb => ?_, fun b b' p p' hb hb' hl hl' he => ?_, fun b hb => ?_, fun g hg => (by cases hg), fun r o hr => ?_, fun b q hq => ?_⟩
      · rw [if_neg (by rw [dead b p hb]; decide)]
        exact get0 b cb hcb
      · unfold envOf at hb
        split at hb
        · rename_i h7
          obtain rfl : b = 7 := by simpa using h7
          exact ⟨_, rfl⟩
        · cases hb
      · rw [dead b p hb] at hl; cases hl
      · unfold envOf
        split
        · rename_i h7
          have h7 : b = 7 := by simpa using h7
          have h8 : 8 ≤ b := hb
          omega
        · rfl
      · rw [fx] at hr
        split at hr
        · exact ⟨hr, fun b p hb hl => by rw [dead b p hb] at hl; cases hl⟩
        · cases hr
      · rw [pn] at hq
        exact ⟨q, hq, rfl, rfl, rfl⟩
    have hA := repOk (σ := τ) t0 t1 g1.symm hs hT fun r o hr h => by rw [fx, if_pos (.inl hr)]; exact h
    have hS := validOk (σ := τ) (hl τ (fun p o hp ho => by rw [fx, if_pos (.inr (by rw [hp]; rfl))]; exact ho) (fun p hp => by rw [pn, hp]; rfl))
    have vs : VR τ (envOf pl) (.ssym 0 0) (.string s) := by
      have := VR.ssym (σ := τ) (e := envOf pl) 0 0 (by rw [t0, g0])
      rwa [t0] at this
    have sz := repairOf_size s
    obtain ⟨y1, y2, y3⟩ := hyz τ g3 g4 g5 g6
    refine calls_below noCount (callM_sound noCount extFact awT_ok hA hS 1000000 140) Tryz.func5 hbody (runM_at h) ⟨sat7 ?_ ?_ ?_ ?_ ?_ ?_ ?_, fun x hx => by cases hx⟩ hR dead _
      (LR.cons (.agg rfl (LR.cons y1 (LR.cons y2 (LR.cons vs (LR.cons y3 LR.nil)))).2) (LR.cons (sym_of g2) (LR.cons (hlv τ) LR.nil)))
    · rw [g0]; simp only []; omega
    · rw [g1]; simp only []; omega
    · rw [g2]; exact cd
    · rw [g3]; exact h3
    · rw [g4]; exact h4
    · rw [g5]; exact h5
    · rw [g6]; exact h6
  rcases (by omega : k = 0 ∨ k = 1 ∨ k = 2 ∨ k = 3 ∨ k = 4 ∨ k = 5 ∨ k = 6 ∨ k < 0 ∨ 6 < k) with hk | hk | hk | hk | hk | hk | hk | hk | hk
  · subst hk; exact fin 0 n x 0 H.1 (fun τ _ h4 h5 _ => ⟨.int _ _, sym_of h4, sym_of h5⟩) (by decide) cn cx (by decide)
  · subst hk; exact fin 0 n x 0 H.2.1 (fun τ _ h4 h5 _ => ⟨.int _ _, sym_of h4, sym_of h5⟩) (by decide) cn cx (by decide)
  · subst hk
    rcases (by omega : n < 0 ∨ n = 0 ∨ 0 < n) with hn | hn | hn
    · exact fin 0 n x 0 H.2.2.2.2.2.1 (fun τ _ h4 h5 _ => ⟨.int _ _, sym_of h4, sym_of h5⟩) (by decide) (by simp only []; omega) cx (by decide)
    · subst hn; exact fin 0 0 x 0 H.2.2.2.2.2.2.1 (fun τ _ _ h5 _ => ⟨.int _ _, .int _ _, sym_of h5⟩) (by decide) (by decide) cx (by decide)
    · exact fin 0 n x 0 H.2.2.2.2.2.2.2.1 (fun τ _ h4 h5 _ => ⟨.int _ _, sym_of h4, sym_of h5⟩) (by decide) (by simp only []; omega) cx (by decide)
  · subst hk; exact fin 0 n x 0 H.2.2.1 (fun τ _ h4 h5 _ => ⟨.int _ _, sym_of h4, sym_of h5⟩) (by decide) cn cx (by decide)
  · subst hk; exact fin 0 n x 0 H.2.2.2.1 (fun τ _ h4 h5 _ => ⟨.int _ _, sym_of h4, sym_of h5⟩) (by decide) cn cx (by decide)
  · subst hk
    by_cases hlo : x < 1000
    · exact fin 0 n x 0 H.2.2.2.2.2.2.2.2.2.2.1 (fun τ _ h4 h5 _ => ⟨.int _ _, sym_of h4, sym_of h5⟩) (by decide) cn (by simp only []; omega) (by decide)
    by_cases hun : (x - 1000) % 7 = 0
    · by_cases hhi : 1084 ≤ x
      · exact fin 0 n ((x - 1000) / 7) 0 H.2.2.2.2.2.2.2.2.2.2.2.2.1 (fun τ _ h4 h5 _ => ⟨.int _ _, sym_of h4, lin_of (by simp only [lfVal, tsVal, h5]; omega)⟩) (by decide) cn (by simp only []; omega) (by decide)
      · rcases (by omega : x = 1000 ∨ x = 1007 ∨ x = 1014 ∨ x = 1021 ∨ x = 1028 ∨ x = 1035 ∨ x = 1042 ∨ x = 1049 ∨ x = 1056 ∨ x = 1063 ∨ x = 1070 ∨ x = 1077) with hx | hx | hx | hx | hx | hx | hx | hx | hx | hx | hx | hx
        · subst hx; exact fin 0 n 0 0 H.2.2.2.2.2.2.2.2.2.2.2.2.2.1 (fun τ _ h4 _ _ => ⟨.int _ _, sym_of h4, .int _ _⟩) (by decide) cn (by decide) (by decide)
        · subst hx; exact fin 0 n 0 0 H.2.2.2.2.2.2.2.2.2.2.2.2.2.2.1 (fun τ _ h4 _ _ => ⟨.int _ _, sym_of h4, .int _ _⟩) (by decide) cn (by decide) (by decide)
        · subst hx; exact fin 0 n 0 0 H.2.2.2.2.2.2.2.2.2.2.2.2.2.2.2.1 (fun τ _ h4 _ _ => ⟨.int _ _, sym_of h4, .int _ _⟩) (by decide) cn (by decide) (by decide)
        · subst hx; exact fin 0 n 0 0 H.2.2.2.2.2.2.2.2.2.2.2.2.2.2.2.2.1 (fun τ _ h4 _ _ => ⟨.int _ _, sym_of h4, .int _ _⟩) (by decide) cn (by decide) (by decide)
        · subst hx; exact fin 0 n 0 0 H.2.2.2.2.2.2.2.2.2.2.2.2.2.2.2.2.2.1 (fun τ _ h4 _ _ => ⟨.int _ _, sym_of h4, .int _ _⟩) (by decide) cn (by decide) (by decide)
        · subst hx; exact fin 0 n 0 0 H.2.2.2.2.2.2.2.2.2.2.2.2.2.2.2.2.2.2.1 (fun τ _ h4 _ _ => ⟨.int _ _, sym_of h4, .int _ _⟩) (by decide) cn (by decide) (by decide)
        · subst hx; exact fin 0 n 0 0 H.2.2.2.2.2.2.2.2.2.2.2.2.2.2.2.2.2.2.2.1 (fun τ _ h4 _ _ => ⟨.int _ _, sym_of h4, .int _ _⟩) (by decide) cn (by decide) (by decide)
        · subst hx; exact fin 0 n 0 0 H.2.2.2.2.2.2.2.2.2.2.2.2.2.2.2.2.2.2.2.2.1 (fun τ _ h4 _ _ => ⟨.int _ _, sym_of h4, .int _ _⟩) (by decide) cn (by decide) (by decide)
        · subst hx; exact fin 0 n 0 0 H.2.2.2.2.2.2.2.2.2.2.2.2.2.2.2.2.2.2.2.2.2.1 (fun τ _ h4 _ _ => ⟨.int _ _, sym_of h4, .int _ _⟩) (by decide) cn (by decide) (by decide)
        · subst hx; exact fin 0 n 0 0 H.2.2.2.2.2.2.2.2.2.2.2.2.2.2.2.2.2.2.2.2.2.2.1 (fun τ _ h4 _ _ => ⟨.int _ _, sym_of h4, .int _ _⟩) (by decide) cn (by decide) (by decide)
        · subst hx; exact fin 0 n 0 0 H.2.2.2.2.2.2.2.2.2.2.2.2.2.2.2.2.2.2.2.2.2.2.2.1 (fun τ _ h4 _ _ => ⟨.int _ _, sym_of h4, .int _ _⟩) (by decide) cn (by decide) (by decide)
        · subst hx; exact fin 0 n 0 0 H.2.2.2.2.2.2.2.2.2.2.2.2.2.2.2.2.2.2.2.2.2.2.2.2 (fun τ _ h4 _ _ => ⟨.int _ _, sym_of h4, .int _ _⟩) (by decide) cn (by decide) (by decide)
    · exact fin 0 n ((x - 1000) / 7) ((x - 1000) % 7) H.2.2.2.2.2.2.2.2.2.2.2.1 (fun τ _ h4 h5 h6 => ⟨.int _ _, sym_of h4, lin_of (by simp only [lfVal, tsVal, h5, h6]; omega)⟩) (by decide) cn (by simp only []; omega) (by simp only []; omega)
  · subst hk; exact fin 0 n x 0 H.2.2.2.2.1 (fun τ _ h4 h5 _ => ⟨.int _ _, sym_of h4, sym_of h5⟩) (by decide) cn cx (by decide)
  · exact fin k n x 0 H.2.2.2.2.2.2.2.2.1 (fun τ h3 h4 h5 _ => ⟨sym_of h3, sym_of h4, sym_of h5⟩) (by simp only []; omega) cn cx (by decide)
  · exact fin k n x 0 H.2.2.2.2.2.2.2.2.2.1 (fun τ h3 h4 h5 _ => ⟨sym_of h3, sym_of h4, sym_of h5⟩) (by simp only []; omega) cn cx (by decide)

/-- the third argument, as it comes in -/
def LArg (w : World) (lv : Value) : Prop := lv = .slice none 0 0 ∨ ∃ b o len cap ob, lv = .slice (some ⟨b, o, none⟩) len cap ∧ len ≤ cap ∧ w.heap[b]? = some ob ∧ (1 ≤ len → ∃ k n s x, (-9223372036854775808 ≤ k ∧ k ≤ 9223372036854775807) ∧ (-9223372036854775808 ≤ n ∧ n ≤ 9223372036854775807) ∧ (-9223372036854775808 ≤ x ∧ x ≤ 9223372036854775807) ∧ ByteArray.size s ≤ 9223372036854775807 ∧
  w.cell? ⟨b, o, none⟩ = some (.int .i64 k) ∧ w.cell? ⟨b, o + 1, none⟩ = some (.int .i64 n) ∧ w.cell? ⟨b, o + 2, none⟩ = some (.string s) ∧ w.cell? ⟨b, o + 3, none⟩ = some (.int .i64 x))

theorem cell_same {w w' : World} {b : Nat} {ob : Obj} (h : w.heap[b]? = some ob) (h' : w'.heap[b]? = some ob) {o : Nat} {v : Value} (hv : w.cell? ⟨b, o, none⟩ = some v) : w'.cell? ⟨b, o, none⟩ = some v := by
  simp only [World.cell?, h] at hv
  simp only [World.cell?, h']
  exact hv

namespace promiseErrors
theorem walk (k n x kd : Int) (s : ByteArray) (lv : Value) (wk : (Lit.int .i64 k).wf = true) (wn : (Lit.int .i64 n).wf = true) (wx : (Lit.int .i64 x).wf = true) (wd : (Lit.int .i64 kd).wf = true) (w : World) (hT : Tabs w) (hL : LArg w lv) :
    Calls Tryz.prog 5 #[.agg #[.int .i64 k, .int .i64 n, .string s, .int .i64 x], .int .i64 kd, lv] w fun en w' => en = .returned (.bool true) ∧ Below w.heap.size w w' := by
  have ck := fits_i64 wk
  have cn := fits_i64 wn
  have cx := fits_i64 wx
  have cd := fits_i64 wd
  by_cases hs : s.size ≤ 60
  · rcases hL with rfl | ⟨b, o, len, cap, ob, rfl, hlc, hob, hc⟩
    · exact shape errsNil k n x kd s _ ck cn cx cd hs w hT none (fun p h => by cases h) (fun σ => .sl0) fun σ _ _ e m w lv _ h => by
        cases h
        exact ⟨none, 0, 0, rfl, fun h => by omega⟩
    · by_cases h6 : 6 < len
      · exact early k n x kd s _ _ _ w (.inr h6)
      · by_cases h0 : len = 0
        · subst h0
          exact shape errsEmp k n x kd s _ ck cn cx cd hs w hT none (fun p h => by cases h) (fun σ => .slE b o cap) fun σ _ _ e m w lv _ h => by
            cases h
            exact ⟨_, 0, _, rfl, fun h => by omega⟩
        · have go : Errs (.sl 7 0 len len) → Calls Tryz.prog 5 #[.agg #[.int .i64 k, .int .i64 n, .string s, .int .i64 x], .int .i64 kd, .slice (some ⟨b, o, none⟩) len cap] w fun en w' => en = .returned (.bool true) ∧ Below w.heap.size w w' := by
            intro H
            refine shape H k n x kd s _ ck cn cx cd hs w hT (some ⟨b, o, cap - len, false⟩) (fun p h => by cases h; rfl) (fun σ => ?_) fun σ hfx hpn e m w1 lv hR h => ?_
            · have := VR.sl (σ := σ) (e := envOf (some ⟨b, o, cap - len, false⟩)) (b := 7) (o := 0) (len := len) (cap := len) (p := ⟨b, o, cap - len, false⟩) rfl
              simp only [Nat.zero_add] at this
              rw [show len + (cap - len) = cap by omega] at this
              exact this
            · obtain ⟨p1, q1, q2, q3, q4⟩ := hR.pin 7 _ (hpn _ rfl)
              cases h with
              | @sl _ _ _ _ p h7 =>
                obtain rfl : p = p1 := Option.some.inj (h7.symm.trans q1)
                obtain ⟨k0, n0, s0, x0, c1, c2, c3, c4, d0, d1, d2, d3⟩ := hc (by omega)
                simp only [] at q2 q3
                refine ⟨_, _, _, rfl, fun _ => ⟨b, o, k0, n0, s0, x0, by rw [q2, q3, Nat.zero_add], c1, c2, c3, c4, fun w2 hw2 => ?_⟩⟩
                have hob2 := hw2 b ob (hfx _ _ rfl hob)
                exact ⟨(Array.getElem?_eq_some_iff.1 hob2).1, cell_same hob hob2 d0, cell_same hob hob2 d1, cell_same hob hob2 d2, cell_same hob hob2 d3⟩
          rcases (by omega : len = 1 ∨ len = 2 ∨ len = 3 ∨ len = 4 ∨ len = 5 ∨ len = 6) with e | e | e | e | e | e
          · subst e; exact go errs1
          · subst e; exact go errs2
          · subst e; exact go errs3
          · subst e; exact go errs4
          · subst e; exact go errs5
          · subst e; exact go errs6
  · rcases hL with rfl | ⟨b, o, len, cap, ob, rfl, _⟩
    · exact early k n x kd s _ _ _ w (.inl (by omega))
    · exact early k n x kd s _ _ _ w (.inl (by omega))
#print axioms walk
end promiseErrors
end Go.Proofs.YtmhbagaljonheaaGreatDoor
