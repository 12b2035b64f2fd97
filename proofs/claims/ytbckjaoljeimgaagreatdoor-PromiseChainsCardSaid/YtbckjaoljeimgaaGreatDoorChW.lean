/- PromiseChains: the calls of the law, known from small memory to small memory, for every chain of handlers. Conditions: at most 20 handlers of the law's four kinds; the value is an int32. -/
import Derived.Test.YtbckjaoljeimgaaGreatDoorChV
namespace Go.Proofs.YtbckjaoljeimgaaGreatDoor
open Go Go.Ev
set_option maxRecDepth 1000000
theorem cK_ok : CallOK cK (callK Tryz.prog glo0 K0 1000000 140) := by
 have h1 : tyI = Tryz.prog.info? := funext tyI_eq
 have h2 : fnF = fun f => Tryz.prog.funcs[f]? := funext fnF_eq
 have hT := dirT_ok
 rw [h1, h2] at hT
 unfold cK
 rw [h1, h2]
 exact callDK_ok drawFact hT 140
theorem cK_sound (σ : Sg) : SoundCall Tryz.prog σ G0 (callK Tryz.prog glo0 K0 1000000 140) := callK_sound noCount extFact rows0 1000000 140 σ
theorem ids_get {n : Nat} (h : 14 < n) : (ids n)[14]? = some (14, 0) := by
 unfold ids
 rw [List.getElem?_map, List.getElem?_range h]
 rfl
theorem toStep {g : FuncId} {f : Nat} {as0 : List CV} {s0 : List BC} {l : List (Nat × Nat)} {r : CV} {s9 : List BC} (hh : (runTo cK g f 143 ⟨ivC, []⟩ as0 s0 l r s9).val = true) :
  callStep Tryz.prog G0 1000000 (callK Tryz.prog glo0 K0 1000000 139) (.func g) as0 ⟨hpOf s0, s0.length, ⟨ivC, []⟩⟩ (endK f 143 l r s9) = true := by
 unfold runTo at hh
 rw [hpD_eq] at hh
 have := cK_ok (.func g) as0 ⟨hpOf s0, s0.length, ⟨ivC, []⟩⟩ (endKS DD f 143 l r s9)
 rw [this] at hh
 simp only [endKS_eq] at hh
 exact hh
theorem runCalls {σ : Sg} {g : FuncId} {fn : Func} (hfn : Tryz.prog.funcs[g]? = some fn) {as0 : List CV} {s0 : List BC} {l : List (Nat × Nat)} {r : CV} {s9 : List BC} (hh : (runTo cK g 15 143 ⟨ivC, []⟩ as0 s0 l r s9).val = true) (hs : Sat σ ⟨ivC, []⟩)
  (h0 : 15 ≤ s0.length) (h9 : 15 ≤ s9.length) (hl : l[14]? = some (14, 0)) (hb : fn.body.isSome = true := by kernel_rfl) : CallsTo Tryz.prog σ g as0 s0 r s9 14 14 := by
 obtain ⟨cb, hbody⟩ := Option.isSome_iff_exists.1 hb
 exact callsTo_of_run noCount (callK_sound noCount extFact rows0 1000000 139 σ) hfn hbody (toStep hh) hs (by omega) (by omega) hl
theorem len15 (x : BC) (l : List BC) : 15 ≤ (fxB ++ (x :: l)).length := by
 have : fxB.length = 14 := rfl
 rw [List.length_append, List.length_cons, this]; omega
section
variable {σ : Sg}
theorem upt_eq {α : Type} {R : α → α → Prop} {f g : Nat → List α} (n : Nat) (h : ∀ k, k < n → All2 R (f k) (g k)) : All2 R (upt f 0 n) (upt g 0 n) := All2.upt n 0 fun k _ h2 => h k (by omega)
theorem slB_eq {l l' : List CV} (h : LEq σ l l') : BCq σ (slB l) (slB l') := ⟨rfl, rfl, rfl, (LEq.refl σ base).append h⟩
theorem objs_eq {d N a : Nat} {c c' : CV} (hc : CEq σ c c') : LEq σ (objs d N a c) (objs d N a c') := by
 refine upt_eq _ fun k _ => ?_
 try dsimp only
 cases Nat.blt k a with
 | true => exact LEq.refl σ _
 | false =>
  dsimp only
  cases Nat.beq k a with
  | true => exact .cons (.refl _ _) (.cons (.refl _ _) (.cons (.refl _ _) (.cons (.refl _ _) (.cons (.refl _ _) (.cons (.refl _ _) (.cons (.refl _ _) (.cons (.refl _ _) (.cons hc (LEq.refl σ _)))))))))
  | false => exact LEq.refl σ _
theorem valC_eq {v v' : CV} (hv : CEq σ v v') : LEq σ (valC v) (valC v') := .cons (.refl _ _) (.cons hv (LEq.refl σ _))
theorem dW_eq (k : Nat) {h h' : List CV} (hh : LEq σ h h') : BCq σ (dW k h) (dW k h') := ⟨rfl, rfl, rfl, hh.append (LEq.refl σ _)⟩
theorem dats_eq {N a : Nat} {v v' : CV} {h h' : List CV} (hv : CEq σ v v') (hh : a + 1 < N → LEq σ h h') : BEq σ (dats N a v h) (dats N a v' h') := by
 refine upt_eq _ fun k hk => ?_
 try dsimp only
 cases Nat.blt k a with
 | true => exact BEq.refl σ _
 | false =>
  dsimp only
  cases Nat.beq k a with
  | true => exact .cons ⟨rfl, rfl, rfl, valC_eq hv⟩ .nil
  | false =>
   dsimp only
   cases hN : Nat.beq k N with
   | true => exact .nil
   | false =>
    dsimp only
    cases hb : Nat.beq k (Nat.succ a) with
    | true =>
     have h1 : k ≠ N := Nat.ne_of_beq_eq_false hN
     have h2 : k = a + 1 := Nat.eq_of_beq_eq_true hb
     exact .cons (dW_eq k (hh (by omega))) .nil
    | false => exact BEq.refl σ _
theorem jobV_eq (j k : Nat) {v v' : CV} (hv : CEq σ v v') : BCq σ (jobV j k v) (jobV j k v') := by
 have h1 : ∀ l r : List CV, LEq σ (l ++ (valC v ++ r)) (l ++ (valC v' ++ r)) := fun l r => (LEq.refl σ l).append ((valC_eq hv).append (LEq.refl σ r))
 unfold jobV
 split <;> exact ⟨rfl, rfl, rfl, h1 _ _⟩
theorem cP_eq {N a j : Nat} {c c' v v' : CV} {h h' : List CV} (hc : CEq σ c c') (hv : CEq σ v v') (hh : a + 1 < N → LEq σ h h') : BEq σ (cP' N a j c v h) (cP' N a j c' v' h') :=
 (BEq.refl σ fxB).append (.cons (.refl _ _) (.cons (slB_eq (objs_eq hc)) (.cons (.refl _ _) (.cons (.refl _ _) (.cons (jobV_eq j (a + 1) hv) (dats_eq hv hh))))))
theorem cE_eq {N : Nat} {c c' v v' : CV} (hc : CEq σ c c') (hv : CEq σ v v') : BEq σ (cE N c v) (cE N c' v') :=
 (BEq.refl σ fxB).append (.cons (.refl _ _) (.cons (slB_eq (objs_eq hc)) (.cons (.refl _ _) (.cons (.refl _ _) (dats_eq hv fun h => by omega)))))
theorem cE0_eq {c c' v v' : CV} (hc : CEq σ c c') (hv : CEq σ v v') : BEq σ (cE0 c v) (cE0 c' v') :=
 (BEq.refl σ fxB).append (.cons (.refl _ _) (.cons (slB_eq (objs_eq hc)) (.cons (.refl _ _) (dats_eq hv fun h => by omega))))
theorem cT_eq {n : Nat} {h h' : List CV} (hh : LEq σ h h') : BEq σ (cT n h) (cT n h') := by
 refine (BEq.refl σ fxB).append (.cons (.refl _ _) (.cons (.refl _ _) (.cons (.refl _ _) (upt_eq _ fun k _ => ?_))))
 try dsimp only
 cases Nat.beq (Nat.succ k) n with
 | true => exact .cons (dW_eq k hh) .nil
 | false => exact BEq.refl σ _
theorem SegI.pre {P : Program} {fn : FuncId} {f : Nat} {A A' B : Pt} {hd hd' : List Item} (h : SegI P σ fn f A' hd B hd') (hs : BEq σ A.s A'.s) (ht : LEq σ A.t A'.t) : SegI P σ fn f A hd B hd' :=
 fun e w T b cs k hA hf hfn => h e w T b cs k ⟨RL.ceq hs hA.1, TR.ceq ht hA.2⟩ hf hfn
theorem seg_pure {P : Program} (hng : NoCount P) {cl : CallFn} (hcl : SoundCall P σ G0 cl) {fn : FuncId} {fuel : Nat} {a : Code} {S0 S1 : List CV} (h : ∀ (cl : CallFn) (m : M) (K : KX), codeC P G0 fn false cl fuel a (ofList S0) [] m K = K .normal (ofList S1) [] m)
  {f : Nat} (s : List BC) (hf : f ≤ s.length) : SegI P σ fn f ⟨s, S0⟩ [.code a] ⟨s, S1⟩ [] := by
 intro e w T b cs k ⟨hR, hT⟩ hfo hfn
 have hh := h cl ⟨hpOf s, s.length, ⟨[], []⟩⟩ (fun x t d m => @decide (x = .normal ∧ t = ofList S1 ∧ d = [] ∧ m = ⟨hpOf s, s.length, ⟨[], []⟩⟩) (Classical.propDecidable _))
 have hh2 := hh.trans (@decide_eq_true _ (Classical.propDecidable _) ⟨rfl, rfl, rfl, rfl⟩)
 obtain ⟨x, t', d', m', h1, _, h3⟩ := codeC_ok hng hcl (fun rd => draw_ok hcl rd) fn false fuel a _ _ _ _ hh2 ⟨fun s lo hi h => by simp at h, fun x hx => by cases hx⟩
 obtain ⟨rfl, rfl, rfl, rfl⟩ := @of_decide_eq_true _ (Classical.propDecidable _) h1
 obtain ⟨T', D', w', e', todo, q1, q2, q3, q4, q5, q6⟩ := h3 e w T [] b cs k hR hT .nil hfo hfn
 obtain rfl : todo = k := q2
 cases q5
 exact ⟨T', w', e', q1, ⟨q3, q4⟩, q6.toW, q6.fix hf⟩
end
/-! Finish -/
noncomputable def sS0 : List CV := [.ptr 14 0, i 3000] ++ List.replicate 12 undefC
noncomputable def sS1 : List CV := [.ptr 14 0, i 3000, undefC, undefC, .bool false] ++ List.replicate 9 undefC
noncomputable def lp : List Item := [.code lb15, .inLoop lb15]
theorem whole {σ : Sg} {f : Nat} {S0 S1 S2 E : Pt} (h0 : SegI Tryz.prog σ 15 f S0 [.code r0] S1 []) (h1 : SegI Tryz.prog σ 15 f S1 [.code r1] S2 []) (h2 : SegR Tryz.prog σ 15 f S2 lp E) : SegR Tryz.prog σ 15 f S0 [.code cb15] E := by
 rw [cb15_eq]
 have c1 : SegI Tryz.prog σ 15 f S0 [.code (.seq r0 (.seq (.seq r1 (.block 0 (.loop lb15))) tl15))] S0 ([.code r0] ++ [.code (.seq (.seq r1 (.block 0 (.loop lb15))) tl15)]) := .ctl fun _ _ _ _ _ => st_seq
 have c2 : SegI Tryz.prog σ 15 f S1 ([] ++ [.code (.seq (.seq r1 (.block 0 (.loop lb15))) tl15)]) S1 [.code (.seq r1 (.block 0 (.loop lb15))), .code tl15] := .ctl fun _ _ _ _ _ => st_seq
 have c3 : SegI Tryz.prog σ 15 f S1 [.code (.seq r1 (.block 0 (.loop lb15))), .code tl15] S1 ([.code r1] ++ [.code (.block 0 (.loop lb15)), .code tl15]) := .ctl fun _ _ _ _ _ => st_seq
 have c4 : SegI Tryz.prog σ 15 f S2 ([] ++ [.code (.block 0 (.loop lb15)), .code tl15]) S2 [.code (.loop lb15), .inBlock 0, .code tl15] := .ctl fun _ _ _ _ _ => st_block
 have c5 : SegI Tryz.prog σ 15 f S2 [.code (.loop lb15), .inBlock 0, .code tl15] S2 (lp ++ [.inBlock 0, .code tl15]) := .ctl fun _ _ _ _ _ => st_loop
 exact (((((c1.trans (h0.tail _)).trans c2).trans c3).trans (h1.tail _)).trans c4).trans c5 |>.ret (h2.tail _)
theorem r0_run (cl : CallFn) (m : M) (K : KX) : codeC Tryz.prog G0 15 false cl 1000000 r0 (ofList sS0) [] m K = K .normal (ofList sS1) [] m := by kernel_rfl
theorem r1_run (cl : CallFn) (m : M) (K : KX) : codeC Tryz.prog G0 15 false cl 1000000 r1 (ofList sS1) [] m K = K .normal (ofList fs0) [] m := by kernel_rfl
theorem body15 : Tryz.f15.body = some cb15 := by kernel_rfl
theorem fin_of {σ : Sg} {s s9 : List BC} {t : List CV} (hs : 15 ≤ s.length) (h : SegR Tryz.prog σ 15 15 ⟨s, fs0⟩ lp ⟨s9, t⟩) (hr : resultsC Tryz.prog Tryz.f15.results.toList (ofList t) ⟨hpOf s9, s9.length, ⟨[], []⟩⟩ (fun vs => cvBeq (oneOr vs) (.bool true)) = true) :
  CallsTo Tryz.prog σ 15 [.ptr 14 0, i 3000] s (.bool true) s9 14 14 := by
 have hn : [CV.ptr 14 0, i 3000].length ≤ Tryz.f15.ntmps := of_decide_eq_true (by kernel_rfl)
 have e : [CV.ptr 14 0, i 3000] ++ List.replicate (Tryz.f15.ntmps - [CV.ptr 14 0, i 3000].length) undefC = sS0 := by kernel_rfl
 have hseg : SegR Tryz.prog σ 15 15 ⟨s, [.ptr 14 0, i 3000] ++ List.replicate (Tryz.f15.ntmps - [CV.ptr 14 0, i 3000].length) undefC⟩ [.code cb15] ⟨s9, t⟩ := by
  rw [e]
  exact whole (seg_pure noCount (cK_sound σ) r0_run s hs) (seg_pure noCount (cK_sound σ) r1_run s hs) h
 exact callsTo_of_seg Tryz.func15 body15 hn hseg hr (by decide)
section
variable {v : Int} {q : Nat → Nat}
noncomputable def ptX (v : Int) (q : Nat → Nat) (N a : Nat) : Pt := ptP N a (jK v q a) (hc (q (a + 1)))
theorem sl_eq {a : Nat} (ha : a < 20) : LEq (sgK v q) (slB' a (jP (jK v q a))) (slA (a + 1)) := by
 have g1 := sg_cn (v := v) (q := q) (a := a + 1) (by omega)
 have g0 := sg_cn (v := v) (q := q) (a := a) (by omega)
 have e : cnK v q (a + 1) = cnK v q a + jP (jK v q a) := rfl
 have p1 : 1 ≤ jP (jK v q a) := by unfold jP; split <;> omega
 have fs : ∀ {c c' p p' : CV}, CEq (sgK v q) c c' → CEq (sgK v q) p p' → LEq (sgK v q) (fs1 c p) (fs1 c' p') := fun h1 h2 =>
  .cons (.refl _ _) (.cons (.refl _ _) (.cons (.refl _ _) (.cons (.refl _ _) (.cons (.refl _ _) (.cons h1 (.cons h2 (.cons (.refl _ _) (.cons (.refl _ _) (.cons h2 (.cons h1 (LEq.refl _ _)))))))))))
 have sA : slA (a + 1) = fs1 (cn (a + 1)) (cnM (a + 1)) := rfl
 rw [sA]
 generalize jP (jK v q a) = p at e p1
 cases a with
 | zero =>
  have sB : slB' 0 p = fs1 (i p) (i (Nat.pred p)) := rfl
  rw [sB]
  have c0 : cnK v q 0 = 0 := rfl
  rw [e, c0] at g1
  refine fs (ceq_int (by rw [g1]; omega)) (ceq_of (show numF (i (Nat.pred p)) = some (.i64, .ofNat (Nat.pred p), []) from rfl) (show numF (cnM (0 + 1)) = some (.i64, -1, [(1, 0 + 1)]) from rfl) ?_)
  simp only [lfVal, tsVal, g1, Nat.pred_eq_sub_one, Int.ofNat_eq_natCast]
  omega
 | succ a =>
  have sB : slB' (a + 1) p = fs1 (cnP (a + 1) p) (cnP (a + 1) (Nat.pred p)) := rfl
  rw [sB]
  rw [e] at g1
  refine fs (ceq_of (show numF (cnP (a + 1) p) = some (.i64, .ofNat p, [(1, a + 1)]) from rfl) (show numF (cn (a + 1 + 1)) = some (.i64, 0, [(1, a + 1 + 1)]) from rfl) ?_) (ceq_of (show numF (cnP (a + 1) (Nat.pred p)) = some (.i64, .ofNat (Nat.pred p), [(1, a + 1)]) from rfl) (show numF (cnM (a + 1 + 1)) = some (.i64, -1, [(1, a + 1 + 1)]) from rfl) ?_)
  ·simp only [lfVal, tsVal, g1, g0, Int.ofNat_eq_natCast]; omega
  ·simp only [lfVal, tsVal, g1, g0, Nat.pred_eq_sub_one, Int.ofNat_eq_natCast]; omega
variable (hv0 : -2147483648 ≤ v ∧ v ≤ 2147483648) (hq : ∀ k, q k < 4)
include hv0 hq
theorem step_seg {N a : Nat} (hN : N ≤ 20) (ha : a + 1 < N) : SegI Tryz.prog (sgK v q) 15 15 (ptX v q N a) lp (ptX v q N (a + 1)) lp := by
 have hj : jK v q a < 5 := jn_lt _ _
 have hr := okA_eq (sg_all N a hN ha) (jK v q a * 4 + q (a + 1)) (Nat.zero_le _) (by have := hq (a + 1); omega)
 have e1 : Nat.div (jK v q a * 4 + q (a + 1)) 4 = jK v q a := by show (jK v q a * 4 + q (a + 1)) / 4 = _; have := hq (a + 1); omega
 have e2 : Nat.mod (jK v q a * 4 + q (a + 1)) 4 = q (a + 1) := by show (jK v q a * 4 + q (a + 1)) % 4 = _; have := hq (a + 1); omega
 unfold sgX at hr
 rw [e1, e2] at hr
 have h := runSeg_seg tyI_eq noCount cK_ok (cK_sound (sgK v q)) (show (runSeg Tryz.prog tyI G0 1000000 15 lb15 (jP (jK v q a)) cK 15 143 ⟨ivC, []⟩ _ _ _).val = true from hr) (sat_of hv0) (len15 _ _) (len15 _ _)
 exact SegI.ceq h (cP_eq (cl_eq (k := a + 1) (by omega)).1 (jV_eq (by omega)) fun _ => (hc_hs (hq (a + 2))).2) (sl_eq (by omega))
theorem chain_seg {N : Nat} (hN : N ≤ 20) : ∀ a, a < N → SegI Tryz.prog (sgK v q) 15 15 (ptX v q N 0) lp (ptX v q N a) lp
 | 0, _ => .refl
 | a + 1, h => (chain_seg hN a (by omega)).trans (step_seg hv0 hq hN h)
theorem last_seg {M : Nat} (hN : M + 1 ≤ 20) : SegI Tryz.prog (sgK v q) 15 15 (ptX v q (M + 1) M) lp ⟨cE (M + 1) (cl (M + 1)) (hv (M + 1)), slA (M + 1)⟩ lp := by
 have _ := hq
 have hj : jK v q M < 5 := jn_lt _ _
 have hr := okA_eq seAll (M * 5 + jK v q M) (Nat.zero_le _) (by omega)
 have e1 : Nat.div (M * 5 + jK v q M) 5 = M := by show (M * 5 + jK v q M) / 5 = _; omega
 have e2 : Nat.mod (M * 5 + jK v q M) 5 = jK v q M := by show (M * 5 + jK v q M) % 5 = _; omega
 unfold seX at hr
 rw [e1, e2] at hr
 have h := runSeg_seg tyI_eq noCount cK_ok (cK_sound (sgK v q)) (show (runSeg Tryz.prog tyI G0 1000000 15 lb15 (jP (jK v q M)) cK 15 143 ⟨ivC, []⟩ (ptP (M + 1) M (jK v q M) []) (seL (M + 1) (jK v q M)) ⟨cE (M + 1) (clT (jT (jK v q M))) (jV (jK v q M) M), slB' M (jP (jK v q M))⟩).val = true from hr) (sat_of hv0) (len15 _ _) (len15 _ _)
 exact SegI.pre (SegI.ceq h (cE_eq (cl_eq (k := M + 1) (by omega)).1 (jV_eq (by omega))) (sl_eq (by omega))) (cP_eq (.refl _ _) (.refl _ _) fun h => by omega) (LEq.refl _ _)
theorem end_seg {M : Nat} (hN : M + 1 ≤ 20) : SegR Tryz.prog (sgK v q) 15 15 ⟨cE (M + 1) (cl (M + 1)) (hv (M + 1)), slA (M + 1)⟩ lp ⟨cE (M + 1) (cl (M + 1)) (hv (M + 1)), fs9 (cn (M + 1)) (cnM (M + 1))⟩ :=
 have _ := hq
 runSegR_seg tyI_eq noCount cK_ok (cK_sound (sgK v q)) (show (runSegR Tryz.prog tyI G0 1000000 15 lb15 1 cK 15 143 ⟨ivC, []⟩ ⟨cE (M + 1) (cl (M + 1)) (hv (M + 1)), fs1 (cn (M + 1)) (cnM (M + 1))⟩ (enL (19 + (M + 1))) ⟨cE (M + 1) (cl (M + 1)) (hv (M + 1)), fs9 (cn (M + 1)) (cnM (M + 1))⟩).val = true from okA_eq enAll M (Nat.zero_le _) (by omega)) (sat_of hv0) (len15 _ _) (len15 _ _)
theorem fin_call {M : Nat} (hN : M + 1 ≤ 20) : CallsTo Tryz.prog (sgK v q) 15 [.ptr 14 0, i 3000] (cP' (M + 1) 0 (jK v q 0) (cl 0) (hv 0) (hc (q 1))) (.bool true) (cE (M + 1) (cl (M + 1)) (hv (M + 1))) 14 14 :=
 fin_of (len15 _ _) (((chain_seg hv0 hq hN M (by omega)).trans (last_seg hv0 hq hN)).ret (end_seg hv0 hq hN)) (by kernel_rfl)
theorem fin_call0 : CallsTo Tryz.prog (sgK v q) 15 [.ptr 14 0, i 3000] (cE0 (cl 0) (hv 0)) (.bool true) (cE0 (cl 0) (hv 0)) 14 14 :=
 have _ := hq
 fin_of (len15 _ _) (runSegR_seg tyI_eq noCount cK_ok (cK_sound (sgK v q)) (show (runSegR Tryz.prog tyI G0 1000000 15 lb15 1 cK 15 143 ⟨ivC, []⟩ ⟨cE0 (cl 0) (hv 0), fs0⟩ (enL 18) ⟨cE0 (cl 0) (hv 0), fs90⟩).val = true from vt enZ rfl) (sat_of hv0) (len15 _ _) (len15 _ _)) (by kernel_rfl)
theorem th_call {n : Nat} (hn : n < 20) : CallsTo Tryz.prog (sgK v q) 18 (thA n (q n)) (cT n (hs (n - 1))) (.tup [.agg (refC (n + 1)), i 0]) (cT (n + 1) (hs n)) 14 14 := by
 have hr := okA_eq thAll (n * 4 + q n) (Nat.zero_le _) (by have := hq n; omega)
 have e1 : Nat.div (n * 4 + q n) 4 = n := by show (n * 4 + q n) / 4 = _; have := hq n; omega
 have e2 : Nat.mod (n * 4 + q n) 4 = q n := by show (n * 4 + q n) % 4 = _; have := hq n; omega
 unfold thX at hr
 rw [e1, e2] at hr
 have h := runCalls (σ := sgK v q) Tryz.func18 (show (runTo cK 18 15 143 ⟨ivC, []⟩ (thA n (q n)) (cT n (hs (Nat.pred n))) (thL n (q n)) (.tup [.agg (refC (Nat.succ n)), i 0]) (cT (Nat.succ n) (hc (q n)))).val = true from hr) (sat_of hv0) (len15 _ _) (len15 _ _) (by kernel_rfl)
 exact CallsTo.ceq h (BEq.refl _ _) (cT_eq (hc_hs (hq n)).1) (.refl _ _)
theorem re_call {M : Nat} (hN : M + 1 ≤ 20) : CallsTo Tryz.prog (sgK v q) 19 reA (cT (M + 1) (hs M)) (i 0) (cP' (M + 1) 0 (jK v q 0) (cl 0) (hv 0) (hc (q 1))) 14 14 := by
 have hr := okA_eq reAll (M * 4 + q 0) (Nat.zero_le _) (by have := hq 0; omega)
 have e1 : Nat.div (M * 4 + q 0) 4 = M := by show (M * 4 + q 0) / 4 = _; have := hq 0; omega
 have e2 : Nat.mod (M * 4 + q 0) 4 = q 0 := by show (M * 4 + q 0) % 4 = _; have := hq 0; omega
 unfold reX at hr
 rw [e1, e2] at hr
 have h := runCalls (σ := sgK v q) Tryz.func19 (show (runTo cK 19 15 143 ⟨ivC, []⟩ reA (cT0 (M + 1) (hc (q 0))) (reL (M + 1) (q 0)) (i 0) (cP' (M + 1) 0 (jn false (q 0)) (i 1) (hv 0) (hs 1))).val = true from hr) (sat_of hv0) (len15 _ _) (len15 _ _) (by kernel_rfl)
 refine CallsTo.ceq h ?_ (cP_eq (cl_eq (v := v) (q := q) (k := 0) (by omega)).1 (.refl _ _) fun _ => (hc_hs (hq 1)).2) (.refl _ _)
 refine (BEq.refl _ fxB).append (.cons (.refl _ _) (.cons (.refl _ _) (.cons (.refl _ _) (upt_eq _ fun k _ => ?_))))
 try dsimp only
 cases hb : Nat.beq (Nat.succ k) (M + 1) with
 | true =>
  have h1 : Nat.succ k = M + 1 := Nat.eq_of_beq_eq_true hb
  obtain rfl : k = M := by omega
  cases hb2 : Nat.beq k 0 with
  | true =>
   obtain rfl : k = 0 := Nat.eq_of_beq_eq_true hb2
   exact .cons (dW_eq 0 (hc_hs (hq 0)).2) .nil
  | false => exact BEq.refl _ _
 | false =>
  cases hb2 : Nat.beq k 0 with
  | true =>
   obtain rfl : k = 0 := Nat.eq_of_beq_eq_true hb2
   exact .cons (dW_eq 0 (hc_hs (hq 0)).2) .nil
  | false => exact BEq.refl _ _
theorem re_call0 : CallsTo Tryz.prog (sgK v q) 19 reA (cT 0 (hs 0)) (i 0) (cE0 (cl 0) (hv 0)) 14 14 := by
 have _ := hq
 have h := runCalls (σ := sgK v q) Tryz.func19 (show (runTo cK 19 15 143 ⟨ivC, []⟩ reA (cT0 0 []) (ids 17 ++ [(37, 0)]) (i 0) (cE0 (i 1) (hv 0))).val = true from vt reZ rfl) (sat_of hv0) (len15 _ _) (len15 _ _) (by kernel_rfl)
 exact CallsTo.ceq h (BEq.refl _ _) (cE0_eq (cl_eq (v := v) (q := q) (k := 0) (by omega)).1 (.refl _ _)) (.refl _ _)
theorem st_call {M : Nat} (hN : M + 1 ≤ 20) : CallsTo Tryz.prog (sgK v q) 20 (stA (M + 1)) (cE (M + 1) (cl (M + 1)) (hv (M + 1))) (.tup [clT (stK v q (M + 1)).2, .agg (valC (hv (M + 1))), i 0]) (cE (M + 1) (cl (M + 1)) (hv (M + 1))) 14 14 := by
 have _ := hq
 have key : ∀ t, (stt (M + 1) t).val = true := by
  intro t
  cases t with
  | false =>
   have hr := okA_eq stAll (M * 2) (Nat.zero_le _) (by omega)
   have e1 : Nat.div (M * 2) 2 = M := by show (M * 2) / 2 = _; omega
   have e2 : Nat.mod (M * 2) 2 = 0 := by show (M * 2) % 2 = _; omega
   unfold stX at hr
   rw [e1, e2] at hr
   exact hr
  | true =>
   have hr := okA_eq stAll (M * 2 + 1) (Nat.zero_le _) (by omega)
   have e1 : Nat.div (M * 2 + 1) 2 = M := by show (M * 2 + 1) / 2 = _; omega
   have e2 : Nat.mod (M * 2 + 1) 2 = 1 := by show (M * 2 + 1) % 2 = _; omega
   unfold stX at hr
   rw [e1, e2] at hr
   exact hr
 have h := runCalls (σ := sgK v q) Tryz.func20 (show (runTo cK 20 15 143 ⟨ivC, []⟩ (stA (M + 1)) (cE (M + 1) (clT (stK v q (M + 1)).2) (hv (M + 1))) (ids (19 + (M + 1))) (.tup [clT (stK v q (M + 1)).2, .agg (valC (hv (M + 1))), i 0]) (cE (M + 1) (clT (stK v q (M + 1)).2) (hv (M + 1)))).val = true from key (stK v q (M + 1)).2) (sat_of hv0) (len15 _ _) (len15 _ _) (ids_get (by omega))
 exact CallsTo.ceq h (cE_eq (cl_eq (k := M + 1) (by omega)).2 (.refl _ _)) (cE_eq (cl_eq (k := M + 1) (by omega)).1 (.refl _ _)) (.refl _ _)
omit hq in
theorem st_call0 : CallsTo Tryz.prog (sgK v q) 20 (stA 0) (cE0 (cl 0) (hv 0)) (.tup [i 1, .agg (valC (hv 0)), i 0]) (cE0 (cl 0) (hv 0)) 14 14 := by
 have h := runCalls (σ := sgK v q) Tryz.func20 (show (runTo cK 20 15 143 ⟨ivC, []⟩ (stA 0) (cE0 (i 1) (hv 0)) (ids 18) (.tup [i 1, .agg (valC (hv 0)), i 0]) (cE0 (i 1) (hv 0))).val = true from vt stZ rfl) (sat_of hv0) (len15 _ _) (len15 _ _) (by kernel_rfl)
 exact CallsTo.ceq h (cE0_eq (cl_eq (v := v) (q := q) (k := 0) (by omega)).2 (.refl _ _)) (cE0_eq (cl_eq (v := v) (q := q) (k := 0) (by omega)).1 (.refl _ _)) (.refl _ _)
end
end Go.Proofs.YtbckjaoljeimgaaGreatDoor
