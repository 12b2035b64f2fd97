/- The law's loop that fills the machine's heap, as a code that sets slots and makes the row of objects longer. -/
import Derived.Test.YtbckjaoljeimgaaGreatDoorFullT
import Derived.Test.YtbckjaoljeimgaaGreatDoorFullC
namespace Go.Proofs.YtbckjaoljeimgaaGreatDoor
open Go Go.RowKit Go.Ev
set_option maxRecDepth 100000
def pathL : List Dir := [.r, .r, .r, .r, .r, .l]
/-- what the loop leaves in its slots -/
def vsL (lf N W : Nat) : List (Nat × Value) := [(6, .int .i64 N), (7, .int .i64 0), (37, .pointer (some ⟨W, 0, none⟩)), (38, .pointer (some ⟨W, 0, none⟩)), (39, .pointer (some ⟨W, 2, none⟩)), (40, .pointer (some ⟨W, 2, none⟩)), (41, .int .i64 N), (42, .int .i64 lf), (43, .int .i64 N), (44, .bool false),
  (45, .tuple #[.int .i64 N, .int .i64 0]), (46, .pointer (some ⟨W, 0, none⟩)), (47, .pointer (some ⟨W, 0, none⟩)), (48, .pointer (some ⟨W, 2, none⟩)), (49, .tuple #[.int .i64 N, .int .i64 0]), (50, .int .i64 N), (51, .int .i64 0), (52, .int .i64 0), (53, .bool false)]
theorem set_same {c : Array Value} {i : Nat} {v : Value} (h : c[i]? = some v) : c.setIfInBounds i v = c := by
  refine Array.ext_getElem? fun j => ?_
  by_cases hj : j = i
  · subst hj
    have hl := (Array.getElem?_eq_some_iff.1 h).1
    rw [Array.getElem?_setIfInBounds_self_of_lt hl, h]
  · rw [Array.getElem?_setIfInBounds_ne (by omega)]
theorem set_twice (c : Array Value) (a b x y : Value) : (((c.setIfInBounds 4 a).setIfInBounds 6 b).setIfInBounds 4 x).setIfInBounds 6 y = (c.setIfInBounds 4 x).setIfInBounds 6 y := by
  refine Array.ext_getElem? fun j => ?_
  by_cases h6 : j = 6
  · subst h6; simp [Array.getElem?_setIfInBounds]
  · by_cases h4 : j = 4
    · subst h4; simp [Array.getElem?_setIfInBounds]
    · simp [Ne.symm h6, Ne.symm h4]
theorem grows_refl {w : World} {W r d n0 cap : Nat} {cw : Array Value} {tw : TypeId} {xs : List Value} (hb : w.heap[W]? = some (.cells cw tw (0, 0))) (k4 : cw[4]? = some (.slice (some ⟨r, d, none⟩) n0 cap)) (k6 : cw[6]? = some (.int .i64 n0)) (hown : RowAt w 131 11 r d n0 cap xs) :
    Grows 131 n0 n0 W r cw tw xs w w := by
  refine ⟨r, d, cap, ?_, ?_, .inl rfl, fun _ _ _ _ => rfl, Nat.le_refl _, rfl, rfl, rfl⟩
  · rw [Nat.sub_self]
    simpa [fills] using hown
  · rw [set_same k4, set_same k6]
    exact hb
theorem grows_next {w wr w' : World} {W r n0 k g d' cap' : Nat} {cw : Array Value} {tw : TypeId} {xs : List Value} (hk : n0 ≤ k) (hg : g = r ∨ w.heap.size ≤ g) (hf : ∀ x, x < w.heap.size → x ≠ W → x ≠ r → wr.heap[x]? = w.heap[x]?) (hs : w.heap.size ≤ wr.heap.size) (ht : wr.tape = w.tape) (ho : wr.os = w.os) (hu : wr.output = w.output)
    (h : Grows 131 (k + 1) k W g ((cw.setIfInBounds 4 (.slice (some ⟨g, d', none⟩) k cap')).setIfInBounds 6 (.int .i64 k)) tw (xs ++ fills (k - n0)) wr w') : Grows 131 (k + 1) n0 W r cw tw xs w w' := by
  obtain ⟨g2, d2, cap2, h1, h2, h3, h4, h5, h6, h7, h8⟩ := h
  rw [set_twice] at h2
  refine ⟨g2, d2, cap2, ?_, h2, ?_, fun x hx a b => ?_, by omega, h6.trans ht, h7.trans ho, h8.trans hu⟩
  · have e : xs ++ fills (k - n0) ++ fills (k + 1 - k) = xs ++ fills (k + 1 - n0) := by
      rw [show k + 1 - k = 1 by omega, show k + 1 - n0 = (k - n0) + 1 by omega, fills_succ' (k - n0), List.append_assoc]
      have : fills 1 = fillV := by simp [fills]
      rw [this]
    rw [e] at h1
    exact h1
  · rcases h3 with h | h
    · subst h; exact hg
    · right; omega
  · rw [h4 x (by omega) a (by rcases hg with h | h <;> omega), hf x hx a b]
set_option maxHeartbeats 8000000 in
set_option maxRecDepth 1000000 in
theorem loop_wp (c : Code) (hc : Tryz.f3.body = some c) (lf N : Nat) (hN : N + lf = 100000) (T : Array Value) (w : World) (W : Nat) (cw : Array Value) (tw : TypeId) (r d n0 cap : Nat) (xs : List Value) (Pr pd l pc : Nat) (hT : T.size = 122) (h5 : T[5]? = some (.int .i64 lf)) (h3 : T[3]? = some (.pointer (some ⟨W, 0, none⟩)))
    (hb : w.heap[W]? = some (.cells cw tw (0, 0))) (k2 : cw[2]? = some (.int .i64 0)) (k3 : cw[3]? = some (.int .i64 0)) (k4 : cw[4]? = some (.slice (some ⟨r, d, none⟩) n0 cap)) (k5 : cw[5]? = some (.slice none 0 0)) (k6 : cw[6]? = some (.int .i64 n0))
    (k9 : cw[9]? = some (.slice (some ⟨Pr, pd, none⟩) l pc)) (hP : w.cell? ⟨Pr, pd, none⟩ = some (.int .i64 1)) (hown : RowAt w 131 11 r d n0 cap xs) (hn0 : n0 < N) (hWr : W ≠ r) (hWP : W ≠ Pr) (hPr : Pr ≠ r) (hl : 0 < l) :
    (subP pathL c).wp Tryz.prog (fun en a' w' => en = .normal ∧ a' = ⟨setA (vsL lf N W) T, []⟩ ∧ Grows 131 N n0 W r cw tw xs w w') ⟨T, []⟩ w := by
  obtain rfl : _ = c := Option.some.inj hc
  clear hc
  revert h5 h3
  refine split122 (Q := fun T => T[5]? = some (.int .i64 lf) → T[3]? = some (.pointer (some ⟨W, 0, none⟩)) → (subP pathL _).wp Tryz.prog (fun en a' w' => en = .normal ∧ a' = ⟨setA (vsL lf N W) T, []⟩ ∧ Grows 131 N n0 W r cw tw xs w w') ⟨T, []⟩ w) ?_ T hT
  clear hT T
  intro u0 u1 u2 u3 u4 u5 u6 u7 u8 u9 u10 u11 u12 u13 u14 u15 u16 u17 u18 u19 u20 u21 u22 u23 u24 u25 u26 u27 u28 u29 u30 u31 u32 u33 u34 u35 u36 u37 u38 u39 u40 u41 u42 u43 u44 u45 u46 u47 u48 u49 u50 u51 u52 u53 u54 u55 u56 u57 u58 u59 u60 u61 u62 u63 u64 u65 u66 u67 u68 u69 u70 u71 u72 u73 u74 u75 u76 u77 u78 u79 u80 u81 u82 u83 u84 u85 u86 u87 u88 u89 u90 u91 u92 u93 u94 u95 u96 u97 u98 u99 u100 u101 u102 u103 u104 u105 u106 u107 u108 u109 u110 u111 u112 u113 u114 u115 u116 u117 u118 u119 u120 u121 h5 h3
  obtain rfl : u5 = .int .i64 lf := Option.some.inj h5
  obtain rfl : u3 = .pointer (some ⟨W, 0, none⟩) := Option.some.inj h3
  clear h5 h3
  unfold subP pathL
  dsimp only [subP]
  refine wp_block ?_
  go_loopw [2, 6, 7, 37, 38, 39, 40, 41, 42, 43, 44, 45, 46, 47, 48, 49, 50, 51, 52, 53] (fun v2 v6 v7 v37 v38 v39 v40 v41 v42 v43 v44 v45 v46 v47 v48 v49 v50 v51 v52 v53 wr => ∃ k : Nat, n0 ≤ k ∧ k ≤ N ∧ Grows 131 k n0 W r cw tw xs w wr ∧ v2 = u2 ∧ (n0 < k → v6 = .int .i64 k ∧ v7 = .int .i64 0 ∧ v45 = .tuple #[.int .i64 k, .int .i64 0] ∧ v46 = .pointer (some ⟨W, 0, none⟩) ∧ v47 = .pointer (some ⟨W, 0, none⟩) ∧ v48 = .pointer (some ⟨W, 2, none⟩) ∧ v49 = .tuple #[.int .i64 k, .int .i64 0] ∧ v50 = .int .i64 k ∧ v51 = .int .i64 0 ∧ v52 = .int .i64 0 ∧ v53 = .bool false))
    (fun _ _ _ _ _ _ _ _ _ _ _ _ _ _ _ _ _ _ _ _ wr => match wr.cell? ⟨W, 6, none⟩ with | some (.int _ k) => N - k.toNat | _ => 0)
  case atStart => exact ⟨n0, Nat.le_refl _, by omega, grows_refl hb k4 k6 hown, rfl, by omega⟩
  case round =>
    obtain ⟨k, hk0, hkN, hG, rfl, hv⟩ := hrel
    have hG0 := hG
    obtain ⟨g, d1, cap1, hrow, hbk, hgr, hfr, hsz, ht, ho, hu⟩ := hG
    have hlt6 : 6 < cw.size := (Array.getElem?_eq_some_iff.1 k6).1
    have c6 : wr.cell? ⟨W, 6, none⟩ = some (.int .i64 k) := by rw [cell_blk hbk 6]; simp [hlt6]
    rw [c6]
    have cP : wr.cell? ⟨Pr, pd, none⟩ = some (.int .i64 1) := by
      have hPl := World.block_lt_of_cell? w _ hP
      rw [World.cell?_of_block (w := w) (hfr Pr hPl (Ne.symm hWP) hPr)]
      exact hP
    have hgW : W ≠ g := by
      have := (Array.getElem?_eq_some_iff.1 hb).1
      rcases hgr with h | h <;> omega
    have hlt4 : 4 < cw.size := (Array.getElem?_eq_some_iff.1 k4).1
    have q2 : ((cw.setIfInBounds 4 (.slice (some ⟨g, d1, none⟩) k cap1)).setIfInBounds 6 (.int .i64 k))[2]? = some (.int .i64 0) := by simpa using k2
    have q3 : ((cw.setIfInBounds 4 (.slice (some ⟨g, d1, none⟩) k cap1)).setIfInBounds 6 (.int .i64 k))[3]? = some (.int .i64 0) := by simpa using k3
    have q4 : ((cw.setIfInBounds 4 (.slice (some ⟨g, d1, none⟩) k cap1)).setIfInBounds 6 (.int .i64 k))[4]? = some (.slice (some ⟨g, d1, none⟩) k cap1) := by simp [hlt4]
    have q5 : ((cw.setIfInBounds 4 (.slice (some ⟨g, d1, none⟩) k cap1)).setIfInBounds 6 (.int .i64 k))[5]? = some (.slice none 0 0) := by simpa using k5
    have q6 : ((cw.setIfInBounds 4 (.slice (some ⟨g, d1, none⟩) k cap1)).setIfInBounds 6 (.int .i64 k))[6]? = some (.int .i64 k) := by simp [hlt6]
    have q9 : ((cw.setIfInBounds 4 (.slice (some ⟨g, d1, none⟩) k cap1)).setIfInBounds 6 (.int .i64 k))[9]? = some (.slice (some ⟨Pr, pd, none⟩) l pc) := by simpa using k9
    go_wp2_with fail
    refine (len_calls wr W k c6).mono ?_
    rintro e w2 ⟨rfl, rfl⟩
    simp only []
    go_at_K
    have hNi : (100000 : Int) - lf = N := by omega
    iterate 9 (first | go_values | go_skip | go_guarded | go_step | go_upon)
    by_cases hlt : k < N
    · have hdec : decide (k < N) = true := decide_eq_true hlt
      rw [hdec]
      go_wp2_with fail
      refine (make_calls w2 W g d1 k cap1 Pr pd l pc _ tw _ hbk q2 q3 q4 q5 q6 q9 cP hl hgW (by omega) hrow).mono ?_
      rintro e w3 ⟨rfl, hG3⟩
      have hG4 := grows_next hk0 hgr hfr hsz ht ho hu hG3
      have c63 : w3.cell? ⟨W, 6, none⟩ = some (.int .i64 ((k : Int) + 1)) := by
        obtain ⟨g3, d3, cap3, _, hb3, _⟩ := hG4
        rw [cell_blk hb3 6]
        simp [hlt6]
      go_wp2
      have ek : ((k + 1 : Nat) : Int) = (k : Int) + 1 := by omega
      refine ⟨⟨k + 1, by omega, by omega, hG4, rfl, fun _ => ⟨by rw [ek], rfl, by rw [ek], rfl, rfl, rfl, by rw [ek], by rw [ek], rfl, rfl, rfl⟩⟩, ?_⟩
      rw [c63]
      show N - ((k : Int) + 1).toNat < N - (k : Int).toNat
      omega
    · obtain rfl : k = N := by omega
      have hdec : decide (k < k) = false := decide_eq_false (by omega)
      rw [hdec]
      obtain ⟨rfl, rfl, rfl, rfl, rfl, rfl, rfl, rfl, rfl, rfl, rfl⟩ := hv hn0
      clear q2 q3 q4 q5 q6 q9 hv
      go_wp2
      refine ⟨trivial, ?_, hG0⟩
      kernel_rfl
end Go.Proofs.YtbckjaoljeimgaaGreatDoor
