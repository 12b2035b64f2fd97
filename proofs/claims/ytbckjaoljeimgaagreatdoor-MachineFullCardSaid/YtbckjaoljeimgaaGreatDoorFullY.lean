/- MachineFull: its runs, where the loop that fills the heap is known by contract. -/
import Derived.Test.YtbckjaoljeimgaaGreatDoorFullL
import Derived.Test.YtbckjaoljeimgaaGreatDoorRunA
namespace Go.Proofs.YtbckjaoljeimgaaGreatDoor
open Go Go.Ev
set_option maxRecDepth 1000000
def ssL (lf N bW : Nat) : List (Nat × CV) := [(6, .int .i64 N), (7, .int .i64 0), (37, .ptr bW 0), (38, .ptr bW 0), (39, .ptr bW 2), (40, .ptr bW 2), (41, .int .i64 N), (42, .int .i64 lf), (43, .int .i64 N), (44, .bool false),
  (45, .tup [.int .i64 N, .int .i64 0]), (46, .ptr bW 0), (47, .ptr bW 0), (48, .ptr bW 2), (49, .tup [.int .i64 N, .int .i64 0]), (50, .int .i64 N), (51, .int .i64 0), (52, .int .i64 0), (53, .bool false)]
theorem pairsL {σ : Sg} (lf N bW : Nat) (e : Env) (p : Go.Ev.Place) (h : e bW = some p) (hd : p.d = 0) : Pairs σ e 122 (ssL lf N bW) (vsL lf N p.r) := by
  have v0 : VR σ e (.ptr bW 0) (.pointer (some ⟨p.r, 0, none⟩)) := by have := VR.ptr (σ := σ) (o := 0) h; rwa [hd] at this
  have v2 : VR σ e (.ptr bW 2) (.pointer (some ⟨p.r, 2, none⟩)) := by have := VR.ptr (σ := σ) (o := 2) h; rwa [hd] at this
  have vt : VR σ e (.tup [.int .i64 N, .int .i64 0]) (.tuple #[.int .i64 N, .int .i64 0]) := by
    have := LR.cons (σ := σ) (e := e) (VR.int .i64 N) (LR.cons (VR.int .i64 0) LR.nil)
    exact .tup this.1 this.2
  exact .cons (by decide) (.int _ _) (.cons (by decide) (.int _ _) (.cons (by decide) v0 (.cons (by decide) v0 (.cons (by decide) v2 (.cons (by decide) v2 (.cons (by decide) (.int _ _) (.cons (by decide) (.int _ _) (.cons (by decide) (.int _ _) (.cons (by decide) (.bool _)
    (.cons (by decide) vt (.cons (by decide) v0 (.cons (by decide) v0 (.cons (by decide) v2 (.cons (by decide) vt (.cons (by decide) (.int _ _) (.cons (by decide) (.int _ _) (.cons (by decide) (.int _ _) (.cons (by decide) (.bool _) .nil))))))))))))))))))
def csL (lf : Nat) : List (Nat × CV) := [(5, .int .i64 lf)]
theorem evL {σ : Sg} {c : Code} (hc : Tryz.f3.body = some c) (lf N : Nat) (hN : N + lf = 100000) : CodeOK Tryz.prog σ glo0 3 false (subP pathL c) (evY 122 3 132 N (csL lf) (ssL lf N)) := by
  refine evY_ok (el := 131) (vsW := vsL lf N) (by decide) (fun bW e p h hd => pairsL lf N bW e p h hd) ?_
  intro e T w W cw tw r d n0 cap xs Pr pd l pc hT hcs h3 hb k2 k3 k4 k5 k6 k9 hP hrow hn0 hWr hWP hPr hl
  obtain ⟨v, h5, hv⟩ := hcs (5, .int .i64 lf) (by simp [csL])
  cases hv
  exact loop_wp c hc lf N hN T w W cw tw r d n0 cap xs Pr pd l pc hT h5 h3 hb k2 k3 k4 k5 k6 k9 hP hrow hn0 hWr hWP hPr hl
noncomputable def cb3 : Code := fBody (some Tryz.f3)
theorem body3 {cb : Code} (h : Tryz.f3.body = some cb) : cb3 = cb := by unfold cb3 fBody; simp only [h]
/-- a run of the law with its loop known by contract; what comes in is given by a form, or by its remainder -/
noncomputable def runY (c : CallS DD) (lf N : Nat) (x : CV) (tab : Tab) : Res :=
  runP Tryz.prog tyI glo0 1000000 3 Tryz.f3 cb3 pathL (evYS 122 3 132 N (csL lf) (ssL lf N)) c (encVs [x]) tab (encH DD heap0) 8 (isVS DD (.bool true))
theorem runY_calls {cS : CallS DD} {cl : CallFn} (hc : CallOK cS cl) (hcl : ∀ σ, SoundCall Tryz.prog σ glo0 cl) {lf N : Nat} (hN : N + lf = 100000) {x : CV} {tab : Tab} {cb : Code} (hbody : Tryz.f3.body = some cb) (hr : (runY cS lf N x tab).val = true) {σ : Sg} (hs : Sat σ tab)
    (w : World) (vs : Array Value) (hv : LR σ (fun _ => none) [x] vs.toList) : Calls Tryz.prog 3 vs w fun e w' => e = .returned (.bool true) ∧ w.keptBut w' (fun _ => False) := by
  have h1 : tyI = Tryz.prog.info? := funext tyI_eq
  unfold runY at hr
  rw [body3 hbody, h1] at hr
  rw [runP_good (D := DD) hc 1000000 3 pathL (evYS_eq 122 3 132 N (csL lf) (ssL lf N))] at hr
  obtain ⟨v, m', hk, hs', h⟩ := calls_of_evalP (k := fun v m => (isVS DD (.bool true) (encV v) m.tab (encH DD m.h) m.n).val) (m := ⟨heap0, 8, tab⟩) noCount (hcl σ) Tryz.func3 hbody (evL hbody lf N hN) hr hs
  rw [isVS_eq] at hk
  have hk := cvBeq_eq _ _ hk
  subst hk
  refine (h (fun _ => none) w vs (RL.empty _ _ _ _) hv).mono fun en w' ⟨v', e', he, hvr, _, hk⟩ => ?_
  cases hvr
  exact ⟨he, kept_of_run hk⟩
theorem cP_ok : CallOK cP (callK Tryz.prog glo0 K1 1000000 140) := by
  have h1 : tyI = Tryz.prog.info? := funext tyI_eq
  have h2 : fnF = fun f => Tryz.prog.funcs[f]? := funext fnF_eq
  have hT := dirT_ok
  unfold cP
  rw [h1, h2] at *
  exact callDK_ok drawFact hT 140
theorem cQ_ok : CallOK cQ (callKQ Tryz.prog glo0 K1 PSf 10 9 0 0 1000000 140) := by
  have h1 : tyI = Tryz.prog.info? := funext tyI_eq
  have h2 : fnF = fun f => Tryz.prog.funcs[f]? := funext fnF_eq
  have hT := dirT_ok
  unfold cQ
  rw [h1, h2] at *
  exact callDKQ_ok drawFact hT 140
end Go.Proofs.YtbckjaoljeimgaaGreatDoor
