/- PromiseChains: the law's first calls as contracts upon the real world. -/
import Derived.Test.YtbckjaoljeimgaaGreatDoorChX
namespace Go.Proofs.YtbckjaoljeimgaaGreatDoor
open Go Go.Ev Go.RowKit
set_option maxRecDepth 1000000
theorem toStep0 {g : FuncId} {f : Nat} {as0 : List CV} {l : List (Nat × Nat)} {r : CV} {s9 : List BC} (hh : (runTo cK g f 143 ⟨ivC, []⟩ as0 [] l r s9).val = true) :
  callStep Tryz.prog G0 1000000 (callK Tryz.prog glo0 K0 1000000 139) (.func g) as0 ⟨hpOf [], 0, ⟨ivC, []⟩⟩ (endK f 143 l r s9) = true := toStep hh
theorem awake_calls (w : World) : Calls Tryz.prog 13 #[] w fun en w' => en = .returned (.bool true) ∧ Below w.heap.size w w' := by
 obtain ⟨cb, hbody⟩ : ∃ cb, Tryz.f13.body = some cb := Option.isSome_iff_exists.1 (by kernel_rfl)
 let σ : Sg := ⟨fun _ => 0, fun _ => ByteArray.empty⟩
 have hh : callStep Tryz.prog G0 1000000 (callK Tryz.prog glo0 K0 1000000 139) (.func 13) [] ⟨heap0, 8, ⟨[], []⟩⟩ (isV (.bool true)) = true := awake_run
 obtain ⟨v, m', h1, hs1, h2⟩ := calls_of_evalS (σ := σ) (G := G0) noCount (callK_sound noCount extFact rows0 1000000 139 σ) Tryz.func13 hbody hh ⟨fun s lo hi h => by simp at h, fun x hx => by cases hx⟩
 have hv : v = .bool true := by
  cases v <;> first | (cases h1; done) | skip
  rename_i b
  cases b with
  | true => rfl
  | false => cases h1
 subst hv
 refine (h2 (fun _ => none) w #[] (RL.empty _ _ _ _) LR.nil).mono fun en w' ⟨v', e', q1, q2, q3, q4⟩ => ?_
 cases q2
 exact ⟨q1, q4.os, q4.tap, q4.out, q4.siz, fun k hk => q4.frm k hk fun b p hb => by cases hb⟩
section
variable {w0 : World} {av : List Nat} {W : Nat} {w : World} {v : Int} {q : Nat → Nat} (hv0 : -2147483648 ≤ v ∧ v ≤ 2147483648)
include hv0
theorem k_begin (s : ByteArray) (hs : ∀ e : Env, VR (sgK v q) e scr (.string s)) (hB : Below w0.heap.size w0 w) :
  Calls Tryz.prog 14 #[.string s, .agg #[.int .i64 9, .int .i64 1]] w fun en w' => ∃ W, en = .returned (.tuple #[.pointer (some ⟨W, 0, none⟩), .bool true]) ∧ St w0 (sgK v q) [] b0S 11 W w' := by
 obtain ⟨cb, hbody⟩ := Option.isSome_iff_exists.1 (show Tryz.f14.body.isSome = true by kernel_rfl)
 have ha : VR (sgK v q) (fun _ => none) (.agg [i 9, i 1]) (.agg #[.int .i64 9, .int .i64 1]) := by
  have := LR.cons (σ := sgK v q) (e := fun _ => none) (i_vr 9) (LR.cons (i_vr 1) LR.nil)
  exact .agg this.1 this.2
 have h := callsTo_first (σ := sgK v q) noCount (callK_sound noCount extFact rows0 1000000 139 _) Tryz.func14 hbody (toStep0 (show (runTo cK 14 0 143 ⟨ivC, []⟩ hgA [] _ (.tup [.ptr 11 0, .bool true]) b0S).val = true from vt hd1 rfl)) (sat_of hv0) w #[.string s, .agg #[.int .i64 9, .int .i64 1]] (LR.cons (hs _) (LR.cons ha LR.nil))
 refine h.mono fun en w' ⟨v', e', q1, q2, q3, q4⟩ => ?_
 obtain ⟨x, y, rfl, g1, g2⟩ := vr_tup2 q2
 cases g1 with
 | @ptr _ _ p hp =>
 have hd : p.d = 0 := by
  have old := q3.hr 11 p _ hp (show (hpOf b0S).get? 11 = some _ from by rw [hpOf, ofList_get]; rfl)
  split at old
  ·obtain ⟨o, _, h2⟩ := old
   cases h2 with
   | cells _ hex _ _ _ _ => exact (hex rfl).1
  ·cases old
 refine ⟨p.r, by rw [q1, vr_true g2, hd], e', q3, ⟨p, hp, rfl, hd⟩, fun b p hb hl => ?_, ⟨q4.os.trans hB.os, q4.tap.trans hB.tape, q4.out.trans hB.output, Nat.le_trans hB.size q4.siz, fun k hk => ?_⟩, fun r hr => by cases hr⟩
 ·rcases q4.rng b p hb hl with ⟨_, _, g, _⟩ | hge
  ·cases g
  ·exact ⟨Nat.le_trans hB.size hge, by simp⟩
 ·rw [q4.frm k (Nat.lt_of_lt_of_le hk hB.size) (fun b p hb => by cases hb)]
  exact hB.block k hk
theorem k_fin0 (hS : St w0 (sgK v q) av b0S 11 W w) :
  Calls Tryz.prog 15 #[.pointer (some ⟨W, 0, none⟩), .int .i64 500] w fun en w' => en = .returned (.bool true) ∧ St w0 (sgK v q) av b1S 14 W w' ∧ w.heap.size ≤ w'.heap.size ∧ ∀ x ∈ av, w'.heap[x]? = w.heap[x]? := by
 obtain ⟨cb, hbody⟩ := Option.isSome_iff_exists.1 (show Tryz.f15.body.isSome = true by kernel_rfl)
 have h1 : CallsTo Tryz.prog (sgK v q) 15 hfA b0S (.bool true) b1S 11 14 :=
  callsTo_of_run noCount (callK_sound noCount extFact rows0 1000000 139 _) Tryz.func15 hbody (toStep (show (runTo cK 15 0 143 ⟨ivC, []⟩ hfA b0S hfL (.bool true) b1S).val = true from vt hd2 rfl)) (sat_of hv0) (by decide) (by decide) (by kernel_rfl)
 exact callsTo_st h1 hS (fun e p hp hr hd => LR.cons (ptr_vr hp hr hd) (LR.cons (i_vr 500) LR.nil)) (fun e v' h => vr_true h)
theorem k_own {l c x : Nat} (h : own l c x = .ok) (s : ByteArray) (hl : s.size = l) (hc : encBytes s.data.toList = c) (hS : St w0 (sgK v q) av b1S 14 W w) :
  Calls Tryz.prog 16 #[.pointer (some ⟨W, 2, none⟩), .int .i64 20, .string s] w fun en w' => en = .returned (.tuple #[refV x, .bool true]) ∧ St w0 (sgK v q) av b1S 14 W w' ∧ w.heap.size ≤ w'.heap.size ∧ ∀ x ∈ av, w'.heap[x]? = w.heap[x]? := by
 have h1 : CallsTo Tryz.prog (sgK v q) 16 (ownA l c) b1S (.tup [.agg (fnC x), .bool true]) b1S 14 14 :=
  runCalls Tryz.func16 (show (runTo cK 16 15 143 ⟨ivC, []⟩ (ownA l c) b1S (ids 17) (.tup [.agg (fnC x), .bool true]) b1S).val = true from vt h rfl) (sat_of hv0) (by decide) (by decide) (by kernel_rfl)
 refine callsTo_st h1 hS (fun e p hp hr hd => LR.cons (ptr_vr hp hr hd) (LR.cons (i_vr 20) (LR.cons (.str s hl hc) LR.nil))) (fun e v' h => ?_)
 obtain ⟨x, y, rfl, g1, g2⟩ := vr_tup2 h
 rw [vr_fn g1, vr_true g2]
theorem k_new (hS : St w0 (sgK v q) av b1S 14 W w) :
  Calls Tryz.prog 17 #[.pointer (some ⟨W, 2, none⟩)] w fun en w' => en = .returned (.tuple #[refV 24, .int .i64 0]) ∧ St w0 (sgK v q) av (cT 0 (hs (0 - 1))) 14 W w' ∧ w.heap.size ≤ w'.heap.size ∧ ∀ x ∈ av, w'.heap[x]? = w.heap[x]? := by
 have h1 : CallsTo Tryz.prog (sgK v q) 17 newA b1S (.tup [.agg (refC 0), i 0]) (cT 0 (hs 0)) 14 14 :=
  runCalls Tryz.func17 (show (runTo cK 17 15 143 ⟨ivC, []⟩ newA b1S newL (.tup [.agg (refC 0), i 0]) (cT 0 (hs 0))).val = true from vt new0 rfl) (sat_of hv0) (by decide) (by decide) (by kernel_rfl)
 refine callsTo_st h1 hS (fun e p hp hr hd => LR.cons (ptr_vr hp hr hd) LR.nil) (fun e v' h => ?_)
 obtain ⟨x, y, rfl, g1, g2⟩ := vr_tup2 h
 rw [vr_ref g1, vr_i g2]; rfl
end
end Go.Proofs.YtbckjaoljeimgaaGreatDoor
