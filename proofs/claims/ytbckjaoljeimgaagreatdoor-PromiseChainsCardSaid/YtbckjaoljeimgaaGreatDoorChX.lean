/- PromiseChains: the law's calls as contracts upon the real world: the machine's memory is what a small memory says, boxes of the law's own lie outside of it. -/
import Derived.Test.YtbckjaoljeimgaaGreatDoorChW
import Derived.Test.YtbckjaoljeimgaaGreatDoorChH
import Derived.WalkKit
import Derived.WalkMore
import Derived.OwnWalk
import Derived.ProofKit
import Derived.OneCell
import Derived.Laws.Rows
namespace Go.Proofs.YtbckjaoljeimgaaGreatDoor
open Go Go.Ev Go.RowKit
set_option maxRecDepth 1000000
theorem halloc0 (w : World) (o : Obj) (i : Nat) (h : i < w.heap.size) : (w.alloc o).heap[i]? = w.heap[i]? := by
 show (w.heap.push o)[i]? = w.heap[i]?
 rw [Array.getElem?_push, if_neg (Nat.ne_of_lt h)]
theorem RL.named {σ : Sg} {e : Env} {m : M} {w w' : World} (hR : RL σ G0 e m w) (h : ∀ b p, e b = some p → p.live = true → w'.heap[p.r]? = w.heap[p.r]?) : RL σ G0 e m w' := by
 refine ⟨fun b p cb hb hc => ?_, hR.dom, hR.inj, hR.bnd, hR.glo⟩
 have old := hR.hr b p cb hb hc
 split at old
 ·rename_i hl
  obtain ⟨o, h1, h2⟩ := old
  simp only [hl, if_true]
  exact ⟨o, by rw [h b p hb hl]; exact h1, h2⟩
 ·rename_i hl
  simp only [hl]
  exact old
def St (w0 : World) (σ : Sg) (av : List Nat) (s : List BC) (bW W : Nat) (w : World) : Prop := ∃ e : Env, RL σ G0 e ⟨hpOf s, s.length, ⟨[], []⟩⟩ w ∧ (∃ p, e bW = some p ∧ p.r = W ∧ p.d = 0) ∧
 (∀ b p, e b = some p → p.live = true → w0.heap.size ≤ p.r ∧ p.r ∉ av) ∧ Below w0.heap.size w0 w ∧ ∀ r ∈ av, w0.heap.size ≤ r ∧ r < w.heap.size
section
variable {w0 : World} {σ : Sg} {av av' : List Nat} {s : List BC} {bW W : Nat} {w w' : World}
theorem St.blw (h : St w0 σ av s bW W w) : Below w0.heap.size w0 w := by obtain ⟨_, _, _, _, h, _⟩ := h; exact h
theorem St.avl (h : St w0 σ av s bW W w) : ∀ r ∈ av, w0.heap.size ≤ r ∧ r < w.heap.size := by obtain ⟨_, _, _, _, _, h⟩ := h; exact h
theorem St.step (h : St w0 σ av s bW W w) (hs : ∀ r, r < w.heap.size → r ∉ av → w'.heap[r]? = w.heap[r]?) (hB : Below w0.heap.size w w') (hav : ∀ r ∈ av', (r ∈ av ∨ w.heap.size ≤ r) ∧ r < w'.heap.size) : St w0 σ av' s bW W w' := by
 obtain ⟨e, h1, h2, h3, h4, h5⟩ := h
 refine ⟨e, RL.named h1 fun b p hb hl => hs _ (h1.lt hb hl) (h3 b p hb hl).2, h2, fun b p hb hl => ⟨(h3 b p hb hl).1, fun hm => ?_⟩, h4.trans hB, fun r hr => ⟨?_, (hav r hr).2⟩⟩
 ·rcases (hav _ hm).1 with h | h
  ·exact (h3 b p hb hl).2 h
  ·have := h1.lt hb hl; omega
 ·rcases (hav r hr).1 with h | h
  ·exact (h5 r h).1
  ·exact Nat.le_trans h4.size h
theorem St.ceq {s' : List BC} (h : St w0 σ av s bW W w) (hs : BEq σ s s') : St w0 σ av s' bW W w := by
 obtain ⟨e, h1, h2, h3⟩ := h
 exact ⟨e, RL.ceq hs h1, h2, h3⟩
theorem St.size (h : St w0 σ av s bW W w) : w0.heap.size ≤ w.heap.size := h.blw.size
theorem St.alloc (h : St w0 σ av s bW W w) (o : Obj) : St w0 σ (w.heap.size :: av) s bW W (w.alloc o) :=
 h.step (fun r hr _ => halloc0 w o r hr) ⟨rfl, rfl, rfl, by simp, fun k hk => halloc0 w o k (by have := h.size; omega)⟩ fun r hr => by
  rcases List.mem_cons.1 hr with rfl | hr
  ·exact ⟨.inr (Nat.le_refl _), by simp⟩
  ·exact ⟨.inl hr, by have := (h.avl r hr).2; simp; omega⟩
theorem St.weak (h : St w0 σ av s bW W w) (hav : ∀ r ∈ av', r ∈ av) : St w0 σ av' s bW W w :=
 h.step (fun _ _ _ => rfl) (Below.refl _ _) fun r hr => ⟨.inl (hav r hr), (h.avl r (hav r hr)).2⟩
theorem St.drew (h : St w0 σ av s bW W w) : St w0 σ av s bW W w.drew :=
 h.step (fun _ _ _ => rfl) ⟨rfl, rfl, rfl, Nat.le_refl _, fun _ _ => rfl⟩ fun r hr => ⟨.inl hr, (h.avl r hr).2⟩
theorem St.set (h : St w0 σ av s bW W w) {r : Nat} (hr : r ∈ av) (k : Nat) (v : Value) : St w0 σ av s bW W (w.setCell ⟨r, k, none⟩ v) := by
 have h0 := (h.avl r hr).1
 refine h.step (fun x _ hx => heap_setCell_other _ _ _ _ fun he => hx (by rw [show x = r from he]; exact hr)) ⟨rfl, rfl, rfl, by simp, fun k hk => heap_setCell_other _ _ _ _ fun he => ?_⟩ fun x hx => ⟨.inl hx, by have := (h.avl x hx).2; simpa using this⟩
 have : k = r := he
 omega
theorem callsTo_st {g : FuncId} {as0 : List CV} {s9 : List BC} {r : CV} {b9 : Nat} (h : CallsTo Tryz.prog σ g as0 s r s9 bW b9) (hS : St w0 σ av s bW W w) {vs : Array Value} {rv : Value}
  (hv : ∀ (e : Env) (p : Go.Ev.Place), e bW = some p → p.r = W → p.d = 0 → LR σ e as0 vs.toList) (hr : ∀ (e : Env) (v' : Value), VR σ e r v' → v' = rv) :
  Calls Tryz.prog g vs w fun en w' => en = .returned rv ∧ St w0 σ av s9 b9 W w' ∧ w.heap.size ≤ w'.heap.size ∧ ∀ x ∈ av, w'.heap[x]? = w.heap[x]? := by
 obtain ⟨e, h1, ⟨p, h2, h2r, h2d⟩, h3, h4, h5⟩ := hS
 refine (h e w vs h1 (hv e p h2 h2r h2d)).mono fun en w' ⟨v', e', q1, q2, q3, q4, q5⟩ => ?_
 have hfrm : ∀ x ∈ av, w'.heap[x]? = w.heap[x]? := fun x hx => q4.frm x (h5 x hx).2 fun b p hb hl he => (h3 b p hb hl).2 (by rw [he]; exact hx)
 obtain ⟨p', k1, k2, k3⟩ := q5 p h2
 refine ⟨by rw [q1, hr e' v' q2], ⟨e', q3, ⟨p', k1, k2.trans h2r, k3.trans h2d⟩, fun b p hb hl => ?_, ⟨q4.os.trans h4.os, q4.tap.trans h4.tape, q4.out.trans h4.output, Nat.le_trans h4.size q4.siz, fun k hk => ?_⟩, fun x hx => ⟨(h5 x hx).1, Nat.lt_of_lt_of_le (h5 x hx).2 q4.siz⟩⟩, q4.siz, hfrm⟩
 ·rcases q4.rng b p hb hl with ⟨b1, p1, g1, g2, g3⟩ | hge
  ·rw [← g3]; exact h3 b1 p1 g1 g2
  ·refine ⟨Nat.le_trans h4.size hge, fun hm => ?_⟩
   have := (h5 _ hm).2
   omega
 ·rw [q4.frm k (Nat.lt_of_lt_of_le hk h4.size) (fun b p hb hl he => by have := (h3 b p hb hl).1; omega)]
  exact h4.block k hk
end
/-! values -/
def es : ByteArray := ⟨#[]⟩
def refV (k : Nat) : Value := .agg #[.int .i64 5, .int .i64 0, .string ⟨#[]⟩, .int .i64 (k : Int)]
def valV (n : Int) : Value := .agg #[.int .i64 3, .int .i64 n, .string ⟨#[]⟩, .int .i64 0]
def noV : Value := .agg #[.int .i64 0, .int .i64 0, .string ⟨#[]⟩, .int .i64 0]
section
variable {σ : Sg} {e : Env}
theorem vr_i {n : Nat} {v : Value} (h : VR σ e (i n) v) : v = .int .i64 (n : Int) := by
 unfold i at h; cases h; rfl
theorem vr_sy {s : Nat} {v : Value} (h : VR σ e (sy s) v) : v = .int .i64 (σ.i s) := by
 unfold sy at h; cases h; rfl
theorem vr_es {v : Value} (h : VR σ e (.str 0 0) v) : v = .string ⟨#[]⟩ := by
 cases h with
 | str s hl hc =>
  obtain ⟨⟨l⟩⟩ := s
  have : l = [] := by simpa [ByteArray.size] using hl
  subst this
  rfl
theorem vr_true {v : Value} (h : VR σ e (.bool true) v) : v = .bool true := by cases h; rfl
theorem i_vr (n : Nat) : VR σ e (i n) (.int .i64 (n : Int)) := .int _ _
theorem es_vr : VR σ e (.str 0 0) (.string ⟨#[]⟩) := .str _ rfl rfl
theorem sy_vr {s : Nat} {x : Int} (h : σ.i s = x) : VR σ e (sy s) (.int .i64 x) := by rw [← h]; exact .sym _ _
theorem vr_agg4 {a b c d : CV} {v : Value} (h : VR σ e (.agg [a, b, c, d]) v) : ∃ x y z u, v = .agg #[x, y, z, u] ∧ VR σ e a x ∧ VR σ e b y ∧ VR σ e c z ∧ VR σ e d u := by
 cases h with
 | @agg _ vs hl hv =>
  obtain ⟨l⟩ := vs
  match l, hl with
  | [x, y, z, u], _ => exact ⟨x, y, z, u, rfl, hv 0 _ _ rfl rfl, hv 1 _ _ rfl rfl, hv 2 _ _ rfl rfl, hv 3 _ _ rfl rfl⟩
theorem vr_tup2 {a b : CV} {v : Value} (h : VR σ e (.tup [a, b]) v) : ∃ x y, v = .tuple #[x, y] ∧ VR σ e a x ∧ VR σ e b y := by
 cases h with
 | @tup _ vs hl hv =>
  obtain ⟨l⟩ := vs
  match l, hl with
  | [x, y], _ => exact ⟨x, y, rfl, hv 0 _ _ rfl rfl, hv 1 _ _ rfl rfl⟩
theorem vr_tup3 {a b c : CV} {v : Value} (h : VR σ e (.tup [a, b, c]) v) : ∃ x y z, v = .tuple #[x, y, z] ∧ VR σ e a x ∧ VR σ e b y ∧ VR σ e c z := by
 cases h with
 | @tup _ vs hl hv =>
  obtain ⟨l⟩ := vs
  match l, hl with
  | [x, y, z], _ => exact ⟨x, y, z, rfl, hv 0 _ _ rfl rfl, hv 1 _ _ rfl rfl, hv 2 _ _ rfl rfl⟩
theorem agg4 {a b c d : CV} {x y z u : Value} (h1 : VR σ e a x) (h2 : VR σ e b y) (h3 : VR σ e c z) (h4 : VR σ e d u) : VR σ e (.agg [a, b, c, d]) (.agg #[x, y, z, u]) := by
 have := LR.cons h1 (LR.cons h2 (LR.cons h3 (LR.cons h4 LR.nil)))
 exact .agg this.1 this.2
theorem vr_fn {x : Nat} {v : Value} (h : VR σ e (.agg (fnC x)) v) : v = refV x := by
 obtain ⟨_, _, _, _, rfl, h1, h2, h3, h4⟩ := vr_agg4 h
 rw [vr_i h1, vr_i h2, vr_es h3, vr_i h4]; rfl
theorem fn_vr (x : Nat) : VR σ e (.agg (fnC x)) (refV x) := agg4 (i_vr _) (i_vr _) es_vr (i_vr _)
theorem no_vr : VR σ e (.agg noC) noV := agg4 (i_vr _) (i_vr _) es_vr (i_vr _)
theorem vr_ref {k : Nat} {v : Value} (h : VR σ e (.agg (refC k)) v) : v = refV (24 + k) := vr_fn (x := 24 + k) h
theorem ref_vr (k : Nat) : VR σ e (.agg (refC k)) (refV (24 + k)) := fn_vr (24 + k)
theorem vr_val {s : Nat} {v : Value} (h : VR σ e (.agg (valC (sy s))) v) : v = valV (σ.i s) := by
 obtain ⟨_, _, _, _, rfl, h1, h2, h3, h4⟩ := vr_agg4 h
 rw [vr_i h1, vr_sy h2, vr_es h3, vr_i h4]; rfl
theorem val_vr {s : Nat} {x : Int} (h : σ.i s = x) : VR σ e (.agg (valC (sy s))) (valV x) := agg4 (i_vr _) (sy_vr h) es_vr (i_vr _)
theorem ptr_vr {b o W : Nat} {p : Go.Ev.Place} (h : e b = some p) (hr : p.r = W) (hd : p.d = 0) : VR σ e (.ptr b o) (.pointer (some ⟨W, o, none⟩)) := by
 have := VR.ptr (σ := σ) (o := o) h
 rw [hr, hd, Nat.add_zero] at this
 exact this
end
/-! the calls -/
def fnV (q : Nat) : Value := match q with | 0 => refV 21 | 1 => refV 22 | 2 => noV | _ => refV 21
def fnW (q : Nat) : Value := match q with | 0 => noV | 1 => noV | 2 => refV 23 | _ => refV 23
section
variable {w0 : World} {av : List Nat} {W : Nat} {w : World} {v : Int} {q : Nat → Nat} (hv0 : -2147483648 ≤ v ∧ v ≤ 2147483648) (hq : ∀ k, q k < 4)
include hv0 hq
theorem k_th {n : Nat} (hn : n < 20) (hS : St w0 (sgK v q) av (cT n (hs (n - 1))) 14 W w) :
  Calls Tryz.prog 18 #[.pointer (some ⟨W, 2, none⟩), .pointer (some ⟨W, 11, none⟩), refV (24 + n), fnV (q n), fnW (q n)] w fun en w' => en = .returned (.tuple #[refV (24 + (n + 1)), .int .i64 0]) ∧ St w0 (sgK v q) av (cT (n + 1) (hs n)) 14 W w' ∧ w.heap.size ≤ w'.heap.size ∧ ∀ x ∈ av, w'.heap[x]? = w.heap[x]? := by
 refine callsTo_st (th_call hv0 hq hn) hS (fun e p hp hr hd => ?_) (fun e v' h => ?_)
 ·have hh : VR (sgK v q) e (.agg ((hc (q n)).take 4)) (fnV (q n)) ∧ VR (sgK v q) e (.agg ((hc (q n)).drop 4)) (fnW (q n)) := by
   have := hq n
   rcases (by omega : q n = 0 ∨ q n = 1 ∨ q n = 2 ∨ q n = 3) with h | h | h | h <;> rw [h]
   ·exact ⟨fn_vr 21, no_vr⟩
   ·exact ⟨fn_vr 22, no_vr⟩
   ·exact ⟨no_vr, fn_vr 23⟩
   ·exact ⟨fn_vr 21, fn_vr 23⟩
  exact LR.cons (ptr_vr hp hr hd) (LR.cons (ptr_vr hp hr hd) (LR.cons (ref_vr n) (LR.cons hh.1 (LR.cons hh.2 LR.nil))))
 ·obtain ⟨x, y, rfl, h1, h2⟩ := vr_tup2 h
  rw [vr_ref h1, vr_i h2]; rfl
noncomputable def sR (v : Int) (q : Nat → Nat) (N : Nat) : List BC := match N with | 0 => cE0 (cl 0) (hv 0) | M + 1 => cP' (M + 1) 0 (jK v q 0) (cl 0) (hv 0) (hc (q 1))
noncomputable def sE (N : Nat) : List BC := match N with | 0 => cE0 (cl 0) (hv 0) | M + 1 => cE (M + 1) (cl (M + 1)) (hv (M + 1))
theorem k_re {N : Nat} (hN : N ≤ 20) (hS : St w0 (sgK v q) av (cT N (hs (N - 1))) 14 W w) :
  Calls Tryz.prog 19 #[.pointer (some ⟨W, 2, none⟩), .pointer (some ⟨W, 11, none⟩), refV 24, valV v] w fun en w' => en = .returned (.int .i64 0) ∧ St w0 (sgK v q) av (sR v q N) 14 W w' ∧ w.heap.size ≤ w'.heap.size ∧ ∀ x ∈ av, w'.heap[x]? = w.heap[x]? := by
 have h1 : CallsTo Tryz.prog (sgK v q) 19 reA (cT N (hs (N - 1))) (i 0) (sR v q N) 14 14 := by
  cases N with
  | zero => exact re_call0 hv0 hq
  | succ M => exact re_call hv0 hq hN
 refine callsTo_st h1 hS (fun e p hp hr hd => ?_) (fun e v' h => vr_i h)
 have g := sg_v (v := v) (q := q) (k := 0) (by omega)
 exact LR.cons (ptr_vr hp hr hd) (LR.cons (ptr_vr hp hr hd) (LR.cons (ref_vr 0) (LR.cons (val_vr g) LR.nil)))
theorem k_fin {N : Nat} (hN : N ≤ 20) (hS : St w0 (sgK v q) av (sR v q N) 14 W w) :
  Calls Tryz.prog 15 #[.pointer (some ⟨W, 0, none⟩), .int .i64 3000] w fun en w' => en = .returned (.bool true) ∧ St w0 (sgK v q) av (sE N) 14 W w' ∧ w.heap.size ≤ w'.heap.size ∧ ∀ x ∈ av, w'.heap[x]? = w.heap[x]? := by
 have h1 : CallsTo Tryz.prog (sgK v q) 15 [.ptr 14 0, i 3000] (sR v q N) (.bool true) (sE N) 14 14 := by
  cases N with
  | zero => exact fin_call0 hv0 hq
  | succ M => exact fin_call hv0 hq hN
 exact callsTo_st h1 hS (fun e p hp hr hd => LR.cons (ptr_vr hp hr hd) (LR.cons (i_vr 3000) LR.nil)) (fun e v' h => vr_true h)
theorem k_st {N : Nat} (hN : N ≤ 20) (hS : St w0 (sgK v q) av (sE N) 14 W w) :
  Calls Tryz.prog 20 #[.pointer (some ⟨W, 2, none⟩), refV (24 + N)] w fun en w' => en = .returned (.tuple #[.int .i64 (clI (stK v q N).2), valV (stK v q N).1, .int .i64 0]) ∧ St w0 (sgK v q) av (sE N) 14 W w' ∧ w.heap.size ≤ w'.heap.size ∧ ∀ x ∈ av, w'.heap[x]? = w.heap[x]? := by
 have h1 : CallsTo Tryz.prog (sgK v q) 20 (stA N) (sE N) (.tup [clT (stK v q N).2, .agg (valC (hv N)), i 0]) (sE N) 14 14 := by
  cases N with
  | zero => exact st_call0 hv0
  | succ M => exact st_call hv0 hq hN
 refine callsTo_st h1 hS (fun e p hp hr hd => LR.cons (ptr_vr hp hr hd) (LR.cons (ref_vr N) LR.nil)) (fun e v' h => ?_)
 obtain ⟨x, y, z, rfl, g1, g2, g3⟩ := vr_tup3 h
 rw [vr_val g2, sg_v (by omega), vr_i g3]
 have : x = .int .i64 (clI (stK v q N).2) := by
  cases hc : (stK v q N).2 with
  | true => rw [hc] at g1; exact vr_i g1
  | false => rw [hc] at g1; exact vr_i g1
 rw [this]; rfl
end
end Go.Proofs.YtbckjaoljeimgaaGreatDoor
