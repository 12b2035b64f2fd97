/- The calls of PromiseOnce, as contracts upon its states. Condition: the two tables of unicode/utf8 read as they are laid; texts of at most 60 bytes; no objects. -/
import Derived.Test.YtmhbagaljonheaaGreatDoorOnceR0
import Derived.Test.YtmhbagaljonheaaGreatDoorOnceR1
import Derived.Test.YtmhbagaljonheaaGreatDoorOnceR2
import Derived.Test.YtmhbagaljonheaaGreatDoorNorm
namespace Go.Proofs.YtmhbagaljonheaaGreatDoor
open Go Go.Ev
set_option maxRecDepth 100000
/-- the two values that came in, and the world at the entry -/
structure OnceArgs where
  vk : Int
  vn : Int
  vs : ByteArray
  vr : Int
  xk : Int
  xn : Int
  xs : ByteArray
  xr : Int
  w0 : World
def OnceArgs.sg (a : OnceArgs) : Sg where
  i := fun j => match j with
    | 0 => a.vk | 1 => a.vn | 2 => (a.vs.size : Int) | 3 => a.vr | 4 => a.xk | 5 => a.xn | 6 => (a.xs.size : Int) | 7 => a.xr
    | 8 => nk a.vk | 9 => ni a.vk a.vn | 10 => ((ns a.vk a.vs).size : Int) | 11 => 0 | 12 => nk a.xk | 13 => ni a.xk a.xn | 14 => ((ns a.xk a.xs).size : Int) | _ => 0
  s := fun j => match j with | 0 => a.vs | 1 => a.xs | 2 => ns a.vk a.vs | _ => ns a.xk a.xs
  fx := fun r => if r < 2 then a.w0.heap[r]? else none
def W64 (x : Int) : Prop := -9223372036854775808 ≤ x ∧ x ≤ 9223372036854775807
structure OnceArgs.Ok (a : OnceArgs) : Prop where
  vk : W64 a.vk
  vn : W64 a.vn
  vr : W64 a.vr
  xk : W64 a.xk
  xn : W64 a.xn
  xr : W64 a.xr
  vs : a.vs.size ≤ 60
  xs : a.xs.size ≤ 60
  v5 : a.vk ≠ 5
  x5 : a.xk ≠ 5
  tabs : Tabs a.w0

theorem ns_size (k : Int) (s : ByteArray) : (ns k s).size ≤ 4 * s.size := by
  unfold ns
  split
  · exact repairOf_size s
  · show 0 ≤ _; omega
theorem nk_range (k : Int) : 0 ≤ nk k ∧ nk k ≤ 6 ∧ nk k ≠ 5 := by
  unfold nk
  split <;> omega
theorem ni_range {k n : Int} (h : W64 n) : W64 (ni k n) := by
  unfold ni W64 at *
  split
  · exact h
  · split
    · split <;> decide
    · decide

theorem sat16 {g : Nat → Int} {p0 p1 p2 p3 p4 p5 p6 p7 p8 p9 p10 p11 p12 p13 p14 p15 : Int × Int} (h : ∀ j (p : Int × Int), [p0, p1, p2, p3, p4, p5, p6, p7, p8, p9, p10, p11, p12, p13, p14, p15][j]? = some p → p.1 ≤ g j ∧ g j ≤ p.2) :
    SatI g [p0, p1, p2, p3, p4, p5, p6, p7, p8, p9, p10, p11, p12, p13, p14, p15] := fun s lo hi hs => h s (lo, hi) hs

theorem OnceArgs.sat (a : OnceArgs) (h : a.Ok) (vk nv nx : Int × Int) (h1 : vk.1 ≤ a.vk ∧ a.vk ≤ vk.2) (h2 : nv.1 ≤ nk a.vk ∧ nk a.vk ≤ nv.2) (h3 : nx.1 ≤ nk a.xk ∧ nk a.xk ≤ nx.2) : Sat a.sg (tabO vk nv nx) := by
  refine ⟨fun s lo hi hs => ?_, fun x hx => by cases hx⟩
  have e1 := ns_size a.vk a.vs
  have e2 := ns_size a.xk a.xs
  have f1 := h.vs
  have f2 := h.xs
  match s, hs with
  | 0, hs => cases hs; exact h1
  | 1, hs => cases hs; exact h.vn
  | 2, hs => cases hs; show (0 : Int) ≤ (a.vs.size : Int) ∧ (a.vs.size : Int) ≤ 60; omega
  | 3, hs => cases hs; exact h.vr
  | 4, hs => cases hs; exact h.xk
  | 5, hs => cases hs; exact h.xn
  | 6, hs => cases hs; show (0 : Int) ≤ (a.xs.size : Int) ∧ (a.xs.size : Int) ≤ 60; omega
  | 7, hs => cases hs; exact h.xr
  | 8, hs => cases hs; exact h2
  | 9, hs => cases hs; exact ni_range h.vn
  | 10, hs => cases hs; show (0 : Int) ≤ ((ns a.vk a.vs).size : Int) ∧ ((ns a.vk a.vs).size : Int) ≤ 9223372036854775807; omega
  | 11, hs => cases hs; show (0 : Int) ≤ 0 ∧ (0 : Int) ≤ 0; decide
  | 12, hs => cases hs; exact h3
  | 13, hs => cases hs; exact ni_range h.xn
  | 14, hs => cases hs; show (0 : Int) ≤ ((ns a.xk a.xs).size : Int) ∧ ((ns a.xk a.xs).size : Int) ≤ 9223372036854775807; omega
  | 15, hs => cases hs; show (0 : Int) ≤ 0 ∧ (0 : Int) ≤ 0; decide
  | n + 16, hs => exact absurd hs (by simp [tabO])

theorem normSum (a : OnceArgs) (h : a.Ok) {i0 i1 i2 i3 i4 i5 i6 i7 j0 j1 : Nat} (b0 : W64 (a.sg.i i0)) (b1 : W64 (a.sg.i i1)) (b3 : W64 (a.sg.i i3)) (bs : (a.sg.s j0).size ≤ 60) (n5 : a.sg.i i0 ≠ 5)
    (e4 : a.sg.i i4 = nk (a.sg.i i0)) (e5 : a.sg.i i5 = ni (a.sg.i i0) (a.sg.i i1)) (e6 : a.sg.i i6 = ((ns (a.sg.i i0) (a.sg.s j0)).size : Int)) (e7 : a.sg.i i7 = 0) (ej : a.sg.s j1 = ns (a.sg.i i0) (a.sg.s j0)) :
    SumOk Tryz.prog a.sg 18 [.agg [.sym .i64 i0, .sym .i64 i1, .ssym j0 i2, .sym .i64 i3]] (.agg [.sym .i64 i4, .sym .i64 i5, .ssym j1 i6, .sym .i64 i7]) [] := by
  intro e w vs kd c cs m hR _ hv hk
  obtain ⟨v1, vs1, e1, r1, hv1⟩ := hv.cons_inv
  obtain rfl := hv1.nil_inv
  obtain ⟨l⟩ := vs
  obtain rfl : l = [v1] := e1
  obtain ⟨x, y, z, u, rfl, g1, g2, g3, g4⟩ := vr_agg4 r1
  cases g1; cases g2; cases g3; cases g4
  have hT : Tabs w := h.tabs.of_fx fun r o hr ho => (hR.fix r o (by show (if r < 2 then a.w0.heap[r]? else none) = some o; rw [if_pos hr]; exact ho)).1
  obtain ⟨w', k1, k2⟩ := norm_goes norm_runs (a.sg.i i0) (a.sg.i i1) (a.sg.i i3) (a.sg.s j0) b0 b1 b3 bs n5 w hT hk
  refine ⟨_, w', k1, ?_, hR.frame k2.block, Kept.frame k2.size k2.block k2.tape k2.os k2.output⟩
  have vs : VR a.sg e (.ssym j1 i6) (.string (ns (a.sg.i i0) (a.sg.s j0))) := by
    have := VR.ssym (σ := a.sg) (e := e) j1 i6 (by rw [ej, e6])
    rwa [ej] at this
  refine .agg rfl (LR.cons ?_ (LR.cons ?_ (LR.cons vs (LR.cons ?_ LR.nil)))).2
  · rw [← e4]; exact .sym _ _
  · rw [← e5]; exact .sym _ _
  · rw [← e7]; exact .sym _ _

theorem onceCall (a : OnceArgs) (h : a.Ok) : SoundCall Tryz.prog a.sg G0 (callG Tryz.prog ovO 1000000 140) :=
  callG_sound noCount extFact (ov := ovO) (fun _ hc => ovrM_ok (ovrM_ok hc (normSum a h (i0 := 4) (i1 := 5) (i2 := 6) (i3 := 7) (i4 := 12) (i5 := 13) (i6 := 14) (i7 := 15) (j0 := 1) (j1 := 3) h.xk h.xn h.xr h.xs h.x5 rfl rfl rfl rfl rfl)) (normSum a h (i0 := 0) (i1 := 1) (i2 := 2) (i3 := 3) (i4 := 8) (i5 := 9) (i6 := 10) (i7 := 11) (j0 := 0) (j1 := 2) h.vk h.vn h.vr h.vs h.v5 rfl rfl rfl rfl rfl)) 1000000 140
/-- a call from one state to another -/
theorem onceTo (a : OnceArgs) (h : a.Ok) {F F' : List FB} {n1 n2 : Nat} (hO : okF F n1 = true) (hO' : okF F' n2 = true) {f : FuncId} {fn : Func} (hfn : Tryz.prog.funcs[f]? = some fn) (hbody : fn.body.isSome = true) {args : List CV} {vk nv nx : Int × Int} {r : CV}
    (hh : (runO (smallH n1 F) n1 f args (tabO vk nv nx) r F').val = true) (hr : clV (inF F') symA symB r = true) (h1 : vk.1 ≤ a.vk ∧ a.vk ≤ vk.2) (h2 : nv.1 ≤ nk a.vk ∧ nk a.vk ≤ nv.2) (h3 : nx.1 ≤ nk a.xk ∧ nk a.xk ≤ nx.2)
    {e : Env} {w : World} (hR : RL a.sg G0 e ⟨smallH n1 F, n1, ⟨[], []⟩⟩ w) {vs : Array Value} (hv : LR a.sg (e.only (inF F)) args vs.toList) :
    Calls Tryz.prog f vs w fun en w' => ∃ v' e', en = .returned v' ∧ VR a.sg e' r v' ∧ RL a.sg G0 e' ⟨smallH n2 F', n2, ⟨[], []⟩⟩ w' ∧ KeptW e w e' w' ∧ ∀ b p, inF F b = true → inF F' b = true → e b = some p → ∃ p', e' b = some p' ∧ p'.r = p.r ∧ p'.d = p.d ∧ p'.s = p.s := by
  obtain ⟨cb, hcb⟩ := Option.isSome_iff_exists.1 hbody
  exact sum_to (okF_ok hO) (okF_ok hO') noCount (onceCall a h) hfn hcb (runO_at hh) hr (a.sat h vk nv nx h1 h2 h3) (fun _ _ => rfl) (fun _ _ => rfl) rfl (fun _ => rfl) (fun _ => rfl) hR hv
#print axioms onceTo
end Go.Proofs.YtmhbagaljonheaaGreatDoor
