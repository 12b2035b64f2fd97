/- PromiseChains: Finish, known from its first point to its last, for every chain of handlers; Then, Resolve and Status, known from small memory to small memory. -/
import Derived.Test.YtbckjaoljeimgaaGreatDoorRunA
import Derived.Test.YtbckjaoljeimgaaGreatDoorEvP
import Derived.Test.YtbckjaoljeimgaaGreatDoorChRy
namespace Go.Proofs.YtbckjaoljeimgaaGreatDoor
open Go Go.Ev
set_option maxRecDepth 1000000
/-! Cells that stand for the same values -/
inductive All2 {α : Type} (R : α → α → Prop) : List α → List α → Prop
 | nil : All2 R [] []
 | cons {x y : α} {l l' : List α} (h : R x y) (hl : All2 R l l') : All2 R (x :: l) (y :: l')
theorem All2.refl {α : Type} {R : α → α → Prop} (h : ∀ x, R x x) : ∀ l, All2 R l l
 | [] => .nil
 | x :: l => .cons (h x) (All2.refl h l)
theorem All2.append {α : Type} {R : α → α → Prop} {l1 l2 m1 m2 : List α} (h : All2 R l1 l2) (h' : All2 R m1 m2) : All2 R (l1 ++ m1) (l2 ++ m2) := by
 induction h with
 | nil => exact h'
 | cons hx _ ih => exact .cons hx ih
theorem All2.length {α : Type} {R : α → α → Prop} {l l' : List α} (h : All2 R l l') : l.length = l'.length := by
 induction h with
 | nil => rfl
 | cons _ _ ih => simp [ih]
theorem All2.get {α : Type} {R : α → α → Prop} {l l' : List α} (h : All2 R l l') : ∀ (i : Nat) y, l'[i]? = some y → ∃ x, l[i]? = some x ∧ R x y := by
 induction h with
 | nil => intro i y hy; simp at hy
 | cons hx _ ih =>
  intro i y hy
  cases i with
  | zero => simp at hy; subst hy; exact ⟨_, by simp, hx⟩
  | succ i => simp at hy; simpa using ih i y hy
theorem All2.upt {α : Type} {R : α → α → Prop} {f g : Nat → List α} : ∀ (n a : Nat), (∀ k, a ≤ k → k < a + n → All2 R (f k) (g k)) → All2 R (upt f a n) (upt g a n)
 | 0, _, _ => .nil
 | n + 1, a, h => (h a (Nat.le_refl _) (by omega)).append (All2.upt n (a + 1) fun k h1 h2 => h k (by omega) (by omega))
def CEq (σ : Sg) (x y : CV) : Prop := ∀ (e : Env) (v : Value), VR σ e x v → VR σ e y v
def LEq (σ : Sg) : List CV → List CV → Prop := All2 (CEq σ)
def BCq (σ : Sg) (f g : BC) : Prop := f.te = g.te ∧ f.lo = g.lo ∧ f.es = g.es ∧ LEq σ f.l g.l
def BEq (σ : Sg) : List BC → List BC → Prop := All2 (BCq σ)
theorem CEq.refl (σ : Sg) (x : CV) : CEq σ x x := fun _ _ h => h
theorem LEq.refl (σ : Sg) (l : List CV) : LEq σ l l := All2.refl (CEq.refl σ) l
theorem BCq.refl (σ : Sg) (f : BC) : BCq σ f f := ⟨rfl, rfl, rfl, LEq.refl σ _⟩
theorem BEq.refl (σ : Sg) (s : List BC) : BEq σ s s := All2.refl (BCq.refl σ) s
theorem BR.ceq {σ : Sg} {e : Env} {f g : BC} {p : Go.Ev.Place} {o : Obj} (h : BCq σ f g) (hb : BR σ e f.cb p o) : BR σ e g.cb p o := by
 obtain ⟨h1, h2, h3, h4⟩ := h
 have hl := h4.length
 cases hb with
 | cells hsz hex hout hin hfz hte =>
  refine BR.cells (by rw [← h3, ← hl]; exact hsz) (by rw [← h2]; exact hex) (fun i hi => by rw [ofList_get]; exact List.getElem?_eq_none hi) (fun i hi => ?_) (by rw [← h2, ← h3]; exact hfz) (by rw [← h1]; exact hte)
  have hi' : i < g.l.length := hi
  obtain ⟨x, hx, hxy⟩ := h4.get i _ (List.getElem?_eq_getElem hi')
  obtain ⟨cv, v, a1, a2, a3⟩ := hin i (by omega)
  rw [ofList_get, hx] at a1
  cases a1
  exact ⟨_, v, by rw [ofList_get]; exact List.getElem?_eq_getElem hi', a2, hxy e v a3⟩
theorem RL.ceq {σ : Sg} {e : Env} {s s' : List BC} {tab : Tab} {w : World} (h : BEq σ s s') (hR : RL σ G0 e ⟨hpOf s, s.length, tab⟩ w) : RL σ G0 e ⟨hpOf s', s'.length, tab⟩ w := by
 have hl := h.length
 refine ⟨fun b p cb hb hcb => ?_, fun b p hb => ?_, hR.inj, fun b hb => hR.bnd b (by show s.length ≤ b; rw [hl]; exact hb), fun g hg => by cases hg⟩
 ·have hcb : (hpOf s').get? b = some cb := hcb
  rw [hpOf, ofList_get, List.getElem?_map, Option.map_eq_some_iff] at hcb
  obtain ⟨g, hg, rfl⟩ := hcb
  obtain ⟨f, hf, hfg⟩ := h.get b g hg
  have old := hR.hr b p f.cb hb (by show (hpOf s).get? b = _; rw [hpOf, ofList_get, List.getElem?_map, hf]; rfl)
  split at old
  ·rename_i hlv
   obtain ⟨o, h1, h2⟩ := old
   rw [if_pos hlv]
   exact ⟨o, h1, BR.ceq hfg h2⟩
  ·rename_i hlv
   cases old
 ·obtain ⟨cb, hcb⟩ := hR.dom b p hb
  have hcb : (hpOf s).get? b = some cb := hcb
  rw [hpOf, ofList_get, List.getElem?_map, Option.map_eq_some_iff] at hcb
  obtain ⟨f, hf, rfl⟩ := hcb
  have hb2 : b < s'.length := by rw [← hl]; exact (List.getElem?_eq_some_iff.1 hf).1
  exact ⟨_, by show (hpOf s').get? b = _; rw [hpOf, ofList_get, List.getElem?_map, List.getElem?_eq_getElem hb2]; rfl⟩
theorem TR.ceq {σ : Sg} {e : Env} {l l' : List CV} {T : Array Value} (h : LEq σ l l') (hT : TR σ e (ofList l) T) : TR σ e (ofList l') T := by
 have hl := h.length
 intro i
 have := hT i
 rw [ofList_get] at this ⊢
 cases hg : l'[i]? with
 | none =>
  have : l[i]? = none := by rw [List.getElem?_eq_none_iff] at hg ⊢; omega
  rename_i h0
  rw [this] at h0
  exact h0
 | some y =>
  obtain ⟨x, hx, hxy⟩ := h.get i y hg
  rw [hx] at this
  obtain ⟨v, a, b⟩ := this
  exact ⟨v, a, hxy e v b⟩
theorem SegI.ceq {P : Program} {σ : Sg} {fn : FuncId} {f : Nat} {A B C : Pt} {hd hd' : List Item} (h : SegI P σ fn f A hd B hd') (hs : BEq σ B.s C.s) (ht : LEq σ B.t C.t) : SegI P σ fn f A hd C hd' := by
 intro e w T b cs k hA hf hfn
 obtain ⟨T1, w1, e1, a1, a2, a3, a4⟩ := h e w T b cs k hA hf hfn
 exact ⟨T1, w1, e1, a1, ⟨RL.ceq hs a2.1, TR.ceq ht a2.2⟩, a3, a4⟩
theorem CallsTo.ceq {P : Program} {σ : Sg} {g : FuncId} {as0 : List CV} {s0 s1 s8 s9 : List BC} {r r' : CV} {b0 b9 : Nat} (h : CallsTo P σ g as0 s1 r s8 b0 b9) (h0 : BEq σ s0 s1) (h9 : BEq σ s8 s9) (hr : CEq σ r r') : CallsTo P σ g as0 s0 r' s9 b0 b9 := by
 intro e w vs hR hv
 exact (h e w vs (RL.ceq h0 hR) hv).mono fun en w' ⟨v', e', q1, q2, q3, q4⟩ => ⟨v', e', q1, hr e' v' q2, RL.ceq h9 q3, q4⟩
/-! What the chain computes -/
def jW (j : Nat) (v : Int) : Int := match j with | 0 => v + 1 | 1 => 2 * v | 2 => v - 3 | _ => v
def stp (s : Int × Bool) (q : Nat) : Int × Bool := (jW (jn s.2 q) s.1, jT (jn s.2 q))
def stK (v : Int) (q : Nat → Nat) : Nat → Int × Bool
 | 0 => (v, false)
 | k + 1 => stp (stK v q k) (q k)
def jK (v : Int) (q : Nat → Nat) (k : Nat) : Nat := jn (stK v q k).2 (q k)
def cnK (v : Int) (q : Nat → Nat) : Nat → Nat
 | 0 => 0
 | k + 1 => cnK v q k + jP (jK v q k)
def clI (t : Bool) : Int := match t with | true => 2 | false => 1
def hcI (q r : Nat) : Int := match q with
 | 0 => (match r with | 0 => 5 | 1 => 21 | _ => 0)
 | 1 => (match r with | 0 => 5 | 1 => 22 | _ => 0)
 | 2 => (match r with | 2 => 5 | 3 => 23 | _ => 0)
 | _ => (match r with | 0 => 5 | 1 => 21 | 2 => 5 | _ => 23)
def sgK (v : Int) (q : Nat → Nat) : Sg := { i := fun s => if s < 21 then cnK v q s else if s < 42 then (stK v q (s - 21)).1 else if s < 63 then clI (stK v q (s - 42)).2 else hcI (q ((s - 63) / 4)) ((s - 63) % 4), s := fun _ => ByteArray.empty }
section
variable {v : Int} {q : Nat → Nat}
theorem sg_cn {a : Nat} (h : a < 21) : (sgK v q).i a = cnK v q a := by simp [sgK, h]
theorem sg_v {k : Nat} (h : k < 21) : (sgK v q).i (21 + k) = (stK v q k).1 := by
 have h1 : ¬ 21 + k < 21 := by omega
 have h2 : 21 + k < 42 := by omega
 have h3 : 21 + k - 21 = k := by omega
 simp only [sgK, h1, h2, h3, if_false, if_true]
theorem sg_cl {k : Nat} (h : k < 21) : (sgK v q).i (42 + k) = clI (stK v q k).2 := by
 have h1 : ¬ 42 + k < 21 := by omega
 have h2 : ¬ 42 + k < 42 := by omega
 have h3 : 42 + k < 63 := by omega
 have h4 : 42 + k - 42 = k := by omega
 simp only [sgK, h1, h2, h3, h4, if_false, if_true]
theorem sg_h (k r : Nat) (h : r < 4) : (sgK v q).i (63 + r + 4 * k) = hcI (q k) r := by
 have h1 : ¬ 63 + r + 4 * k < 21 := by omega
 have h2 : ¬ 63 + r + 4 * k < 42 := by omega
 have h3 : ¬ 63 + r + 4 * k < 63 := by omega
 have h4 : (63 + r + 4 * k - 63) / 4 = k := by omega
 have h5 : (63 + r + 4 * k - 63) % 4 = r := by omega
 simp only [sgK, h1, h2, h3, if_false, h4, h5]
theorem jP_le (j : Nat) : jP j ≤ 6 := by unfold jP; split <;> omega
theorem cn_le : ∀ k, cnK v q k ≤ 6 * k
 | 0 => by simp [cnK]
 | k + 1 => by have := cn_le k; have := jP_le (jK v q k); simp only [cnK]; omega
theorem jW_abs (j : Nat) (v : Int) (B : Int) (h : -B ≤ v ∧ v ≤ B) (hB : 3 ≤ B) : -(2 * B) ≤ jW j v ∧ jW j v ≤ 2 * B := by
 unfold jW; split <;> omega
theorem st_abs (h : -2147483648 ≤ v ∧ v ≤ 2147483648) : ∀ k, -(2147483648 * (2 : Int) ^ k) ≤ (stK v q k).1 ∧ (stK v q k).1 ≤ 2147483648 * (2 : Int) ^ k
 | 0 => by simpa [stK] using h
 | k + 1 => by
  have ih := st_abs h k
  have hp : (1 : Int) ≤ 2 ^ k := (Int.pow_pos (by decide) : (0 : Int) < 2 ^ k)
  have := jW_abs (jn (stK v q k).2 (q k)) _ (2147483648 * 2 ^ k) ih (by omega)
  show _ ≤ jW (jn (stK v q k).2 (q k)) (stK v q k).1 ∧ jW (jn (stK v q k).2 (q k)) (stK v q k).1 ≤ _
  rw [Int.pow_succ]
  omega
theorem pow_le {k : Nat} (h : k ≤ 20) : (2 : Int) ^ k ≤ 1048576 := by
 have : ∀ k, k < 21 → (2 : Int) ^ k ≤ 1048576 := by decide
 exact this k (by omega)
theorem sat_of (h : -2147483648 ≤ v ∧ v ≤ 2147483648) : Sat (sgK v q) ⟨ivC, []⟩ := by
 refine ⟨fun s lo hi hs => ?_, fun x hx => by cases hx⟩
 have hs : (List.replicate 21 ((0 : Int), (2900 : Int)) ++ List.replicate 21 ((-4503599627370496 : Int), (4503599627370496 : Int)))[s]? = some (lo, hi) := hs
 by_cases h1 : s < 21
 ·rw [List.getElem?_append_left (by simpa using h1), List.getElem?_replicate, if_pos h1] at hs
  cases hs
  rw [sg_cn h1]
  have := cn_le (v := v) (q := q) s
  omega
 ·rw [List.getElem?_append_right (by simpa using h1), List.getElem?_replicate] at hs
  simp only [List.length_replicate] at hs
  split at hs
  ·rename_i h2
   cases hs
   have e : s = 21 + (s - 21) := by omega
   rw [e, sg_v h2]
   have a := st_abs (q := q) h (s - 21)
   have b := pow_le (k := s - 21) (by omega)
   omega
  ·cases hs
theorem ceq_of {σ : Sg} {x y : CV} {k : IntKind} {c c' : Int} {ts ts' : Ts} (hx : numF x = some (k, c, ts)) (hy : numF y = some (k, c', ts')) (h : lfVal σ.i c ts = lfVal σ.i c' ts') : CEq σ x y := fun e u hu => by
 rw [numF_val hx] at hu
 rw [numF_val hy, hu, h]
theorem ceq_num {σ : Sg} {s : Nat} {c : Int} {ts : Ts} {x : CV} (hx : numF x = some (.i64, c, ts)) (h : lfVal σ.i c ts = σ.i s) : CEq σ x (sy s) := ceq_of hx (show numF (sy s) = some (.i64, 0, [(1, s)]) from rfl) (by rw [h]; simp [lfVal, tsVal])
theorem ceq_int {σ : Sg} {s : Nat} {n : Nat} (h : σ.i s = n) : CEq σ (i n) (sy s) := ceq_num (show numF (i n) = some (.i64, .ofNat n, []) from rfl) (by rw [h]; simp [lfVal, tsVal])
theorem ceq_int' {σ : Sg} {s : Nat} {n : Nat} (h : σ.i s = n) : CEq σ (sy s) (i n) := ceq_of (show numF (sy s) = some (.i64, 0, [(1, s)]) from rfl) (show numF (i n) = some (.i64, .ofNat n, []) from rfl) (by simp [lfVal, tsVal, h])
theorem hc_hs {k : Nat} (hq : q k < 4) : LEq (sgK v q) (hc (q k)) (hs k) ∧ LEq (sgK v q) (hs k) (hc (q k)) := by
 have g0 := sg_h (v := v) (q := q) k 0 (by omega)
 have g1 := sg_h (v := v) (q := q) k 1 (by omega)
 have g2 := sg_h (v := v) (q := q) k 2 (by omega)
 have g3 := sg_h (v := v) (q := q) k 3 (by omega)
 rcases (by omega : q k = 0 ∨ q k = 1 ∨ q k = 2 ∨ q k = 3) with h | h | h | h <;> rw [h] at g0 g1 g2 g3 ⊢ <;>
  exact ⟨.cons (ceq_int g0) (.cons (.refl _ _) (.cons (.refl _ _) (.cons (ceq_int g1) (.cons (ceq_int g2) (.cons (.refl _ _) (.cons (.refl _ _) (.cons (ceq_int g3) .nil))))))),
   .cons (ceq_int' g0) (.cons (.refl _ _) (.cons (.refl _ _) (.cons (ceq_int' g1) (.cons (ceq_int' g2) (.cons (.refl _ _) (.cons (.refl _ _) (.cons (ceq_int' g3) .nil)))))))⟩
theorem cl_eq {k : Nat} (hk : k < 21) : CEq (sgK v q) (clT (stK v q k).2) (cl k) ∧ CEq (sgK v q) (cl k) (clT (stK v q k).2) := by
 have g := sg_cl (v := v) (q := q) hk
 cases h : (stK v q k).2 with
 | true => rw [h] at g; exact ⟨ceq_int g, ceq_int' g⟩
 | false => rw [h] at g; exact ⟨ceq_int g, ceq_int' g⟩
theorem jn_lt (t : Bool) (q : Nat) : jn t q < 5 := by
 unfold jn
 split <;> split <;> omega
theorem jV_eq {k : Nat} (hk : k < 20) : CEq (sgK v q) (jV (jK v q k) k) (hv (k + 1)) := by
 have g := sg_v (v := v) (q := q) (k := k) (by omega)
 have g1 := sg_v (v := v) (q := q) (k := k + 1) (by omega)
 have e : (stK v q (k + 1)).1 = jW (jK v q k) (stK v q k).1 := rfl
 rw [e] at g1
 have hj : jK v q k < 5 := jn_lt _ _
 generalize jK v q k = j at hj g1
 rcases (by omega : j = 0 ∨ j = 1 ∨ j = 2 ∨ j = 3 ∨ j = 4) with h | h | h | h | h <;> subst h
 ·exact ceq_num (show numF (jV 0 k) = some (.i64, 1, [(1, 21 + k)]) from rfl) (by rw [g1]; simp only [lfVal, tsVal, g, jW]; omega)
 ·exact ceq_num (show numF (jV 1 k) = some (.i64, 0, [(2, 21 + k)]) from rfl) (by rw [g1]; simp only [lfVal, tsVal, g, jW]; omega)
 ·exact ceq_num (show numF (jV 2 k) = some (.i64, -3, [(1, 21 + k)]) from rfl) (by rw [g1]; simp only [lfVal, tsVal, g, jW]; omega)
 ·exact ceq_num (show numF (jV 3 k) = some (.i64, 0, [(1, 21 + k)]) from rfl) (by rw [g1]; simp only [lfVal, tsVal, g, jW]; omega)
 ·exact ceq_num (show numF (jV 4 k) = some (.i64, 0, [(1, 21 + k)]) from rfl) (by rw [g1]; simp only [lfVal, tsVal, g, jW]; omega)
end
end Go.Proofs.YtbckjaoljeimgaaGreatDoor
