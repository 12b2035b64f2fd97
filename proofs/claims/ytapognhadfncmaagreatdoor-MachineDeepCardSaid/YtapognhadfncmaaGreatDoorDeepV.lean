/- MachineDeep: World.Finish, known from its first point to its last: the rounds, put together by induction over the depth. -/
import Derived.Test.YtapognhadfncmaaGreatDoorRunA
import Derived.Test.YtapognhadfncmaaGreatDoorDeepRy
namespace Go.Proofs.YtapognhadfncmaaGreatDoor
open Go Go.Ev
set_option maxRecDepth 1000000
theorem cK_ok : CallOK cK (callK Tryz.prog glo0 K0 1000000 140) := by
  have h1 : tyI = Tryz.prog.info? := funext tyI_eq
  have h2 : fnF = fun f => Tryz.prog.funcs[f]? := funext fnF_eq
  have hT := dirT_ok
  rw [h1, h2] at hT
  unfold cK
  rw [h1, h2]
  exact callDK_ok drawFact hT 140
theorem cK_sound (σ : Sg) : SoundCall Tryz.prog σ G0 (callK Tryz.prog glo0 K0 1000000 140) := callK_sound noCount extFact rows0 1000000 140 σ
variable {σ : Sg} {f p : Nat} {lo hi : Int} {A B : Pt} {l : List (Nat × Nat)}
theorem sat0 (h : lo ≤ σ.i 0 ∧ σ.i 0 ≤ hi) : Sat σ ⟨[(lo, hi)], []⟩ := ⟨fun s a b hs => by
  match s, hs with
  | 0, hs => cases hs; exact h
  | s + 1, hs => simp at hs, fun x hx => by cases hx⟩
theorem code_seg {a : Code} (h : (sg cK a 1 f [(lo, hi)] A l B).val = true) (hs : lo ≤ σ.i 0 ∧ σ.i 0 ≤ hi) (hA : f ≤ A.s.length) (hB : f ≤ B.s.length) : SegI Tryz.prog σ 9 f A [.code a] B [] :=
  runCode_seg tyI_eq noCount cK_ok (cK_sound σ) h (sat0 hs) hA hB
noncomputable def lp : List Item := [.code lb9, .inLoop lb9]
theorem loop_seg (h : (sg cK lb9 p f [(lo, hi)] A l B).val = true) (hs : lo ≤ σ.i 0 ∧ σ.i 0 ≤ hi) (hA : f ≤ A.s.length) (hB : f ≤ B.s.length) : SegI Tryz.prog σ 9 f A lp B lp :=
  runSeg_seg tyI_eq noCount cK_ok (cK_sound σ) h (sat0 hs) hA hB
theorem last_seg (h : (sgR cK lb9 p f [(lo, hi)] A l B).val = true) (hs : lo ≤ σ.i 0 ∧ σ.i 0 ≤ hi) (hA : f ≤ A.s.length) (hB : f ≤ B.s.length) : SegR Tryz.prog σ 9 f A lp B :=
  runSegR_seg tyI_eq noCount cK_ok (cK_sound σ) h (sat0 hs) hA hB
/-- from Finish's head to the loop's, and the loop's way out -/
theorem whole {S0 S1 S2 E : Pt} (h0 : SegI Tryz.prog σ 9 f S0 [.code r0] S1 []) (h1 : SegI Tryz.prog σ 9 f S1 [.code r1] S2 []) (h2 : SegR Tryz.prog σ 9 f S2 lp E) : SegR Tryz.prog σ 9 f S0 [.code cb9] E := by
  rw [cb9_eq]
  have c1 : SegI Tryz.prog σ 9 f S0 [.code (.seq r0 (.seq (.seq r1 (.block 0 (.loop lb9))) tl9))] S0 ([.code r0] ++ [.code (.seq (.seq r1 (.block 0 (.loop lb9))) tl9)]) := .ctl fun _ _ _ _ _ => st_seq
  have c2 : SegI Tryz.prog σ 9 f S1 ([] ++ [.code (.seq (.seq r1 (.block 0 (.loop lb9))) tl9)]) S1 [.code (.seq r1 (.block 0 (.loop lb9))), .code tl9] := .ctl fun _ _ _ _ _ => st_seq
  have c3 : SegI Tryz.prog σ 9 f S1 [.code (.seq r1 (.block 0 (.loop lb9))), .code tl9] S1 ([.code r1] ++ [.code (.block 0 (.loop lb9)), .code tl9]) := .ctl fun _ _ _ _ _ => st_seq
  have c4 : SegI Tryz.prog σ 9 f S2 ([] ++ [.code (.block 0 (.loop lb9)), .code tl9]) S2 [.code (.loop lb9), .inBlock 0, .code tl9] := .ctl fun _ _ _ _ _ => st_block
  have c5 : SegI Tryz.prog σ 9 f S2 [.code (.loop lb9), .inBlock 0, .code tl9] S2 (lp ++ [.inBlock 0, .code tl9]) := .ctl fun _ _ _ _ _ => st_loop
  exact (((((c1.trans (h0.tail _)).trans c2).trans c3).trans (h1.tail _)).trans c4).trans c5 |>.ret (h2.tail _)
theorem app_le {l l' : List BC} (h : f ≤ l.length) : f ≤ (l ++ l').length := by rw [List.length_append]; omega
theorem body9 : Tryz.f9.body = some cb9 := by kernel_rfl
/-! how = 0 -/
theorem D0_len (j : Nat) : 7 ≤ (D0 j).s.length := app_le (by simp [fx0])
theorem A0_len (j : Nat) : 7 ≤ (A0 j).s.length := app_le (by simp [fx0])
theorem Az0_len : 7 ≤ Az0.s.length := app_le (by simp [fx0])
theorem AZ0_len : ∀ j, 7 ≤ (AZ0 j).s.length
  | 0 => Az0_len
  | j + 1 => A0_len j
theorem st0_len : 7 ≤ st0.s.length := by simp [st0]
theorem E0_len : 7 ≤ E0.s.length := by simp [E0]
theorem down0 (hi : σ.i 0 ≤ 399) : ∀ j : Nat, (j : Int) ≤ σ.i 0 → j ≤ 254 → SegI Tryz.prog σ 9 7 (D0 0) lp (D0 j) lp
  | 0, _, _ => .refl
  | j + 1, h, hj => (down0 hi j (by omega) (by omega)).trans (loop_seg (dn0_all j (by omega)) ⟨by show ((Nat.succ j : Nat) : Int) ≤ _; omega, hi⟩ (D0_len j) (D0_len (j + 1)))
theorem rise0 (hi : σ.i 0 ≤ 254) : ∀ j : Nat, (j : Int) ≤ σ.i 0 → SegI Tryz.prog σ 9 7 (AZ0 j) lp Az0 lp
  | 0, _ => .refl
  | j + 1, h => (loop_seg (up0_all j (by omega)) ⟨by show ((Nat.succ j : Nat) : Int) ≤ _; omega, hi⟩ (A0_len j) (AZ0_len j)).trans (rise0 hi j (by omega))
theorem head0 (h : 0 ≤ σ.i 0 ∧ σ.i 0 ≤ 399) : SegI Tryz.prog σ 9 7 st0a lp (D0 0) lp := loop_seg (vt hd0 rfl) h st0_len (D0_len 0)
theorem loop0 (h : 0 ≤ σ.i 0 ∧ σ.i 0 ≤ 254) : SegR Tryz.prog σ 9 7 st0a lp E0 := by
  obtain ⟨k, hk⟩ : ∃ k : Nat, σ.i 0 = (k : Int) := ⟨(σ.i 0).toNat, by omega⟩
  have t : SegI Tryz.prog σ 9 7 (D0 k) lp (AZ0 k) lp := loop_seg (tn0_all k (by omega)) ⟨by show ((k : Nat) : Int) ≤ _; omega, by show _ ≤ ((k : Nat) : Int); omega⟩ (D0_len k) (AZ0_len k)
  exact ((((head0 ⟨h.1, by omega⟩).trans (down0 (by omega) k (by omega) (by omega))).trans t).trans (rise0 h.2 k (by omega))).ret (last_seg (vt en0 rfl) h Az0_len E0_len)
theorem fin0 (σ : Sg) (hs : SatI σ.i [(0, 254)]) : CallTo Tryz.prog σ 9 7 [.ptr 6 0, i 20000] st0.s (.bool true) E0.s := by
  have h := hs 0 0 254 rfl
  have hn : [CV.ptr 6 0, i 20000].length ≤ Tryz.f9.ntmps := of_decide_eq_true (by kernel_rfl)
  have e : (⟨st0.s, [.ptr 6 0, i 20000] ++ List.replicate (Tryz.f9.ntmps - [CV.ptr 6 0, i 20000].length) undefC⟩ : Pt) = st0 := by kernel_rfl
  have hseg : SegR Tryz.prog σ 9 7 ⟨st0.s, [.ptr 6 0, i 20000] ++ List.replicate (Tryz.f9.ntmps - [CV.ptr 6 0, i 20000].length) undefC⟩ [.code cb9] E0 := by
    rw [e]
    exact whole (code_seg (vt pa0 rfl) ⟨h.1, by omega⟩ st0_len st0_len) (code_seg (vt pb0 rfl) ⟨h.1, by omega⟩ st0_len st0_len) (loop0 h)
  exact callTo_of_seg noCount Tryz.func9 body9 hn hseg (by kernel_rfl)
noncomputable def kn0 : Know := { g := 9, f := 7, sv := 6, nw := 7, as0 := [.ptr 6 0, i 20000], s0 := st0.s, lk := [(6, 0), (6, 4), (6, 9), (6, 10), (0, 4), (0, 5), (0, 11), (0, 12), (9, 7)], iv0 := [(0, 254)], r := .bool true, s9 := E0.s }
theorem kn0_call (σ : Sg) (hs : SatI σ.i kn0.iv0) : CallTo Tryz.prog σ kn0.g kn0.f kn0.as0 kn0.s0 kn0.r kn0.s9 := fin0 σ hs
/-! how = 1 -/
theorem D1_len (j : Nat) : 8 ≤ (D1 j).s.length := app_le (by simp [fx1])
theorem A1_len (j : Nat) : 8 ≤ (A1 j).s.length := app_le (by simp [fx1])
theorem Az1_len : 8 ≤ Az1.s.length := app_le (by simp [fx1])
theorem AZ1_len : ∀ j, 8 ≤ (AZ1 j).s.length
  | 0 => Az1_len
  | j + 1 => A1_len j
theorem st1_len : 8 ≤ st1.s.length := by simp [st1]
theorem E1_len : 8 ≤ E1.s.length := by simp [E1]
theorem down1 (hi : σ.i 0 ≤ 399) : ∀ j : Nat, (j : Int) ≤ σ.i 0 → j ≤ 254 → SegI Tryz.prog σ 9 8 (D1 0) lp (D1 j) lp
  | 0, _, _ => .refl
  | j + 1, h, hj => (down1 hi j (by omega) (by omega)).trans (loop_seg (dn1_all j (by omega)) ⟨by show ((Nat.succ j : Nat) : Int) ≤ _; omega, hi⟩ (D1_len j) (D1_len (j + 1)))
theorem rise1 (hi : σ.i 0 ≤ 254) : ∀ j : Nat, (j : Int) ≤ σ.i 0 → SegI Tryz.prog σ 9 8 (AZ1 j) lp Az1 lp
  | 0, _ => .refl
  | j + 1, h => (loop_seg (up1_all j (by omega)) ⟨by show ((Nat.succ j : Nat) : Int) ≤ _; omega, hi⟩ (A1_len j) (AZ1_len j)).trans (rise1 hi j (by omega))
theorem head1 (h : 0 ≤ σ.i 0 ∧ σ.i 0 ≤ 399) : SegI Tryz.prog σ 9 8 st1a lp (D1 0) lp := loop_seg (vt hd1 rfl) h st1_len (D1_len 0)
theorem loop1 (h : 0 ≤ σ.i 0 ∧ σ.i 0 ≤ 254) : SegR Tryz.prog σ 9 8 st1a lp E1 := by
  obtain ⟨k, hk⟩ : ∃ k : Nat, σ.i 0 = (k : Int) := ⟨(σ.i 0).toNat, by omega⟩
  have t : SegI Tryz.prog σ 9 8 (D1 k) lp (AZ1 k) lp := loop_seg (tn1_all k (by omega)) ⟨by show ((k : Nat) : Int) ≤ _; omega, by show _ ≤ ((k : Nat) : Int); omega⟩ (D1_len k) (AZ1_len k)
  exact ((((head1 ⟨h.1, by omega⟩).trans (down1 (by omega) k (by omega) (by omega))).trans t).trans (rise1 h.2 k (by omega))).ret (last_seg (vt en1 rfl) h Az1_len E1_len)
theorem fin1 (σ : Sg) (hs : SatI σ.i [(0, 254)]) : CallTo Tryz.prog σ 9 8 [.ptr 7 0, i 20000] st1.s (.bool true) E1.s := by
  have h := hs 0 0 254 rfl
  have hn : [CV.ptr 7 0, i 20000].length ≤ Tryz.f9.ntmps := of_decide_eq_true (by kernel_rfl)
  have e : (⟨st1.s, [.ptr 7 0, i 20000] ++ List.replicate (Tryz.f9.ntmps - [CV.ptr 7 0, i 20000].length) undefC⟩ : Pt) = st1 := by kernel_rfl
  have hseg : SegR Tryz.prog σ 9 8 ⟨st1.s, [.ptr 7 0, i 20000] ++ List.replicate (Tryz.f9.ntmps - [CV.ptr 7 0, i 20000].length) undefC⟩ [.code cb9] E1 := by
    rw [e]
    exact whole (code_seg (vt pa1 rfl) ⟨h.1, by omega⟩ st1_len st1_len) (code_seg (vt pb1 rfl) ⟨h.1, by omega⟩ st1_len st1_len) (loop1 h)
  exact callTo_of_seg noCount Tryz.func9 body9 hn hseg (by kernel_rfl)
noncomputable def kn1 : Know := { g := 9, f := 8, sv := 7, nw := 8, as0 := [.ptr 7 0, i 20000], s0 := st1.s, lk := [(7, 0), (7, 4), (7, 9), (7, 10), (0, 4), (0, 5), (0, 6), (0, 11), (0, 12), (10, 7)], iv0 := [(0, 254)], r := .bool true, s9 := E1.s }
theorem kn1_call (σ : Sg) (hs : SatI σ.i kn1.iv0) : CallTo Tryz.prog σ kn1.g kn1.f kn1.as0 kn1.s0 kn1.r kn1.s9 := fin1 σ hs
/-! The law's runs, where Finish is known, and those beyond the limit -/
/-- where the small memory lies in the law's -/
def ro0 : List (Nat × Nat) := [(1638, 0), (1691, 0), (1730, 0), (1755, 0), (1774, 0), (1987, 0), (2076, 0), (2071, 0), (2086, 0), (2089, 0)]
def ro1 : List (Nat × Nat) := [(2820, 0), (2873, 0), (2912, 0), (3012, 0), (3039, 0), (3056, 0), (3406, 0), (3495, 0), (3490, 0), (3508, 0), (3511, 0)]
noncomputable def cL : CallS DD := callDK Tryz.prog tyI fnF glo0 drawn dirT K1 1000000 140
def argF (how : Nat) (c : Int) (ts : Ts) : List CV := [.lin .u16 c (ts ++ [(400, 1)]), .symr .u8 2 2 how 1]
noncomputable def runF (kn : Know) (ro : List (Nat × Nat)) (how : Nat) (c : Int) (ts : Ts) (iv : Ivs) : Res :=
  stepD Tryz.prog tyI fnF glo0 drawn 1000000 dirT (ovrFS kn [(c, ts)] ro cL) (.func 3) (encVs (argF how c ts)) ⟨iv, []⟩ (encH DD heap0) 8 (isTS DD)
def iv1 (lo hi : Int) : Ivs := [(lo, hi), (0, 163), (0, 255)]
def iv2 (lo hi : Int) : Ivs := [(0, 9), (0, 163), (0, 255), (lo, hi)]
/-- one digit; two -/
noncomputable def rf1 (kn : Know) (ro : List (Nat × Nat)) (how : Nat) (c lo hi : Int) : Res := runF kn ro how c [(1, 0)] (iv1 lo hi)
noncomputable def rf2 (kn : Know) (ro : List (Nat × Nat)) (how : Nat) (c lo hi : Int) : Res := runF kn ro how c [(1, 0), (10, 3)] (iv2 lo hi)
/-- beyond the limit -/
noncomputable def ro1d (how : Nat) (c lo hi : Int) : Res := runQ 3 (argF how c [(1, 0)]) ⟨iv1 lo hi, []⟩
noncomputable def ro2d (how : Nat) (c lo hi : Int) : Res := runQ 3 (argF how c [(1, 0), (10, 3)]) ⟨iv2 lo hi, []⟩
theorem runF_step {kn : Know} {ro : List (Nat × Nat)} {how : Nat} {c : Int} {ts : Ts} {iv : Ivs} (hr : (runF kn ro how c ts iv).val = true) :
    callStep Tryz.prog glo0 1000000 (ovrF kn [(c, ts)] ro (callK Tryz.prog glo0 K1 1000000 140)) (.func 3) (argF how c ts) ⟨heap0, 8, ⟨iv, []⟩⟩ isT = true := by
  have h1 : tyI = Tryz.prog.info? := funext tyI_eq
  have h2 : fnF = fun f => Tryz.prog.funcs[f]? := funext fnF_eq
  have hT := dirT_ok
  unfold runF cL at hr
  rw [h1, h2] at hr hT
  rw [stepD_eq hT] at hr
  have hc : CallOK (ovrFS kn [(c, ts)] ro (callDK Tryz.prog Tryz.prog.info? (fun f => Tryz.prog.funcs[f]?) glo0 drawn dirT K1 1000000 140)) (ovrF kn [(c, ts)] ro (callK Tryz.prog glo0 K1 1000000 140)) := ovrFS_ok (callDK_ok drawFact hT 140) kn _ ro
  have := step_good (D := DD) (G := glo0) drawFact hc 1000000 (.func 3) (argF how c ts) ⟨heap0, 8, ⟨iv, []⟩⟩ (isTS DD)
  rw [this] at hr
  simpa only [isTS_eq] using hr
/-- a call of the law whose run is seen, where Finish is known -/
theorem lawF_calls {kn : Know} {ro : List (Nat × Nat)} (hok : kn.ok ro = true) (hC : ∀ σ', SatI σ'.i kn.iv0 → CallTo Tryz.prog σ' kn.g kn.f kn.as0 kn.s0 kn.r kn.s9) {cb : Code} (hbody : Tryz.f3.body = some cb) {σ : Sg} {how : Nat} {c : Int} {ts : Ts} {iv : Ivs}
    (hr : (runF kn ro how c ts iv).val = true) (hs : Sat σ ⟨iv, []⟩) (w : World) (vs : Array Value) (hv : LR σ (fun _ => none) (argF how c ts) vs.toList) : Calls Tryz.prog 3 vs w fun e w' => e = .returned (.bool true) ∧ w.keptBut w' (fun _ => False) :=
  calls_true noCount (ovrF_ok (callK_sound noCount extFact rows1 1000000 140 σ) hok hC) Tryz.func3 hbody (runF_step hr) hs w vs hv
end Go.Proofs.YtapognhadfncmaaGreatDoor
