/- MachineLoops: its runs, where a loop is known by contract. -/
import Derived.Test.YtaikcgmgjchfmaaGreatDoorLoopsA
import Derived.Test.YtaikcgmgjchfmaaGreatDoorLoopsB
import Derived.Test.YtaikcgmgjchfmaaGreatDoorRunA
namespace Go.Proofs.YtaikcgmgjchfmaaGreatDoor
open Go Go.Ev
set_option maxRecDepth 1000000
/-- is a form zero, whatever the symbols that are not pinned? -/
def zeroF (iv : Ivs) (c : Int) (ts : Ts) : Bool := match pinL iv c (addTs ts []) with | (c, ts) => eqI c 0 && ts.all fun t => eqI t.1 0
/-- what the law's loop adds up -/
def wantF (how : Nat) (k : Nat) (mF : Int × Ts) : Int × Ts := match how with | 0 => (sumN mF.1 k, []) | _ + 1 => (tri k * mF.1, mulTs (tri k) mF.2)
/-- a leaf that is no case: a form is said not to be zero, and is -/
def badLeaf (how : Nat) (nF mF : Int × Ts) (tab : Tab) : Bool := match pinL tab.iv nF.1 nF.2 with
  | (.ofNat k, []) => match Nat.ble k 39, wantF how k mF with
    | true, (c, ts) => (match pinL tab.iv c ts with
        | (v, []) => match tab.iv[6]? with | some (lo, hi) => ltI v lo || ltI hi v | none => false
        | _ => false) || tab.ne.any fun x => zeroF tab.iv (x.1 + c) (subTs x.2 (subTs [(1, 6)] ts)) || zeroF tab.iv (x.1 - c) (addTs x.2 (subTs [(1, 6)] ts))
    | false, _ => false
  | _ => false
noncomputable def kL (how : Nat) (nF mF : Int × Ts) (v : V) (tab : Tab) (_ : HS DD) (_ : Nat) : Res := v .ok (bIf (badLeaf how nF mF tab) .ok .bad) fI fS fS fL fA fO
noncomputable def cb3 : Code := fBody (some Tryz.f3)
def csB (nC mC : CV) : List (Nat × CV) := [(7, nC), (8, mC), (12, .int .i64 0), (14, .int .i64 0)]
def ssB (nC mC : CV) : List (Nat × CV) := [(12, .sym .i64 6), (14, nC), (90, nC), (91, nC), (92, .bool false), (95, .sym .i64 7), (96, .sym .i64 8), (97, mC), (98, .sym .i64 9), (99, .sym .i64 6), (93, .sym .i64 8), (94, nC)]
def csA (nC mC : CV) : List (Nat × CV) := [(7, nC), (8, mC), (12, .int .i64 0), (13, .int .i64 0)]
def ssA1 (nC mC : CV) (b : Bool) : List (Nat × CV) := [(12, .sym .i64 6), (13, nC), (74, nC), (75, nC), (76, .bool false), (79, .sym .i64 8), (80, mC), (81, .sym .i64 9), (82, .bool b), (77, .sym .i64 8), (78, nC)]
def ssA2 : List (Nat × CV) := [(83, .sym .i64 7), (84, .sym .i64 10), (85, .sym .i64 6)]
noncomputable def runL (path : List Dir) (cs ss : List (Nat × CV)) (how : Nat) (nF mF : Int × Ts) (a b : Int × Ts) (tab : Tab) : Res :=
  runP Tryz.prog tyI glo0 1000000 3 Tryz.f3 cb3 path (evXS 131 cs ss) (callDK Tryz.prog tyI fnF glo0 drawn dirT K1 1000000 140) (encVs [.lin .u8 a.1 a.2, .lin .u8 b.1 b.2, .symr .u8 0 5 how 1]) tab (encH DD heap0) 8 (kL how nF mF)
/-- the second loop, n and m as forms -/
noncomputable def runB (how : Nat) (nF a b : Int × Ts) (iv : Ivs) (ne : List (Int × Ts)) : Res := runL pathB (csB (.lin .i64 nF.1 nF.2) (.lin .i64 1 [(1, 4)])) (ssB (.lin .i64 nF.1 nF.2) (.lin .i64 1 [(1, 4)])) how nF (1, [(1, 4)]) a b ⟨iv, ne⟩
/-- the first loop, n as a form, m as a number -/
noncomputable def runAt (m : Int) (q : Bool) (nF a b : Int × Ts) (iv : Ivs) : Res := runL pathA (csA (.lin .i64 nF.1 nF.2) (.int .i64 m)) (ssA1 (.lin .i64 nF.1 nF.2) (.int .i64 m) q ++ match eqI m 1 with | true => [] | false => ssA2) 0 nF (m, []) a b ⟨iv, []⟩
noncomputable def runN (how : Nat) (a b : Int × Ts) (iv : Ivs) : Res := runD 3 [.lin .u8 a.1 a.2, .lin .u8 b.1 b.2, .symr .u8 0 5 how 1] ⟨iv, []⟩

theorem zeroF_val {g : Nat → Int} {iv : Ivs} (hs : SatI g iv) {c : Int} {ts : Ts} (h : zeroF iv c ts = true) : lfVal g c ts = 0 := by
  unfold zeroF at h
  have e := pinL_val hs c (addTs ts [])
  have e2 : lfVal g c (addTs ts []) = lfVal g c ts := by simp only [lfVal, addTs_val, tsVal]; omega
  rw [e2] at e
  rw [← e]
  generalize pinL iv c (addTs ts []) = p at h
  obtain ⟨c', ts'⟩ := p
  simp only [Bool.and_eq_true, eqI_eq, decide_eq_true_eq] at h
  obtain ⟨rfl, h⟩ := h
  have : ∀ l : Ts, (l.all fun t => decide (t.1 = 0)) = true → tsVal g l = 0 := by
    intro l
    induction l with
    | nil => intro _; rfl
    | cons t l ih =>
      intro h
      simp only [List.all_cons, Bool.and_eq_true, decide_eq_true_eq] at h
      obtain ⟨a, s⟩ := t
      obtain rfl : a = 0 := h.1
      simp only [tsVal, ih h.2]
      omega
  simp only [lfVal, this ts' h]
  rfl
theorem badLeaf_no {how n : Nat} {nF mF : Int × Ts} {tab : Tab} {σ : Sg} (hs : Sat σ tab) (hn : lfVal σ.i nF.1 nF.2 = n) (h0 : how = 0 → mF.2 = []) (h6 : σ.i 6 = if how = 0 then sumN mF.1 n else lfVal σ.i mF.1 mF.2 * tri n) (h : badLeaf how nF mF tab = true) : False := by
  unfold badLeaf at h
  have e := pinL_val hs.iv nF.1 nF.2
  split at h
  · rename_i k hk
    rw [hk, hn] at e
    obtain rfl : k = n := by simp only [lfVal, tsVal] at e; have : (Int.ofNat k) = (k : Int) := rfl; omega
    split at h
    · rename_i c ts hb hw
      have hG : σ.i 6 = lfVal σ.i c ts := by
        rw [h6]
        cases how with
        | zero =>
          rw [if_pos rfl]
          injection hw with h1 h2
          subst h1; subst h2
          simp only [lfVal, tsVal]; omega
        | succ how =>
          rw [if_neg (by omega)]
          injection hw with h1 h2
          subst h1; subst h2
          simp only [lfVal, mulTs_val, Int.add_mul]
          rw [Int.mul_comm (tri k), Int.mul_comm (tri k)]
      have eG := pinL_val hs.iv c ts
      rw [Bool.or_eq_true] at h
      rcases h with h | h
      · split at h
        · rename_i v hv
          rw [hv] at eG
          split at h
          · rename_i lo hi hlh
            obtain ⟨b1, b2⟩ := hs.iv 6 lo hi hlh
            simp only [lfVal, tsVal] at eG hG
            rw [Bool.or_eq_true, ltI_eq, ltI_eq, decide_eq_true_eq, decide_eq_true_eq] at h
            omega
          · cases h
        · cases h
      obtain ⟨x, hx, h⟩ := List.any_eq_true.1 h
      have hne := hs.ne x hx
      rw [Bool.or_eq_true] at h
      rcases h with h | h
      · have := zeroF_val hs.iv h
        simp only [lfVal, subTs_val, tsVal] at this hne hG
        omega
      · have := zeroF_val hs.iv h
        simp only [lfVal, subTs_val, addTs_val, tsVal] at this hne hG
        omega
    · cases h
  · cases h
theorem body3 {cb : Code} (h : Tryz.f3.body = some cb) : cb3 = cb := by unfold cb3 fBody; simp only [h]
/-- a run of the law with a loop known by contract -/
theorem loop_calls {path : List Dir} {cs ss : List (Nat × CV)} {how n : Nat} {nF mF a b : Int × Ts} {tab : Tab} {cb : Code} (hbody : Tryz.f3.body = some cb) (hr : (runL path cs ss how nF mF a b tab).val = true) {σ : Sg}
    (hev : CodeOK Tryz.prog σ glo0 3 false (subP path cb) (evX 131 cs ss)) (hs : Sat σ tab) (hn : lfVal σ.i nF.1 nF.2 = n) (h0 : how = 0 → mF.2 = []) (h6 : σ.i 6 = if how = 0 then sumN mF.1 n else lfVal σ.i mF.1 mF.2 * tri n)
    (w : World) (vs : Array Value) (hv : LR σ (fun _ => none) [.lin .u8 a.1 a.2, .lin .u8 b.1 b.2, .symr .u8 0 5 how 1] vs.toList) : Calls Tryz.prog 3 vs w fun e w' => e = .returned (.bool true) ∧ w.keptBut w' (fun _ => False) := by
  have h1 : tyI = Tryz.prog.info? := funext tyI_eq
  have h2 : fnF = fun f => Tryz.prog.funcs[f]? := funext fnF_eq
  have hD := drawFact
  have hT := dirT_ok
  unfold runL at hr
  rw [body3 hbody] at hr
  rw [h1, h2] at hr hT
  rw [runP_good (D := DD) (cl := callK Tryz.prog glo0 K1 1000000 140) (ev := evX 131 cs ss) (callDK_ok hD hT 140) 1000000 3 path (evXS_eq 131 cs ss)] at hr
  obtain ⟨v, m', hk, hs', h⟩ := calls_of_evalP (k := fun v m => (kL how nF mF (encV v) m.tab (encH DD m.h) m.n).val) (m := ⟨heap0, 8, tab⟩) noCount (callK_sound noCount extFact rows1 1000000 140 σ) Tryz.func3 hbody hev hr hs
  obtain rfl : v = .bool true := by
    cases v <;> first | (cases hk; done) | skip
    · rename_i q
      cases q with
      | true => rfl
      | false =>
        have hk : (bIf (badLeaf how nF mF m'.tab) .ok .bad).val = true := hk
        rw [bIf_eq] at hk
        cases hb : badLeaf how nF mF m'.tab with
        | false => rw [hb] at hk; cases hk
        | true => exact (badLeaf_no hs' hn h0 h6 hb).elim
    · rename_i kd x
      cases x <;> cases hk
  refine (h (fun _ => none) w vs (RL.empty _ _ _ _) hv).mono fun en w' ⟨v', e', he, hvr, _, hk⟩ => ?_
  cases hvr
  exact ⟨he, kept_of_run hk⟩
end Go.Proofs.YtaikcgmgjchfmaaGreatDoor
