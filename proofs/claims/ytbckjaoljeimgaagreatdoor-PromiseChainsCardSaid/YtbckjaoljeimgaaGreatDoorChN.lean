/- PromiseChains: the law's own boxes beside the machine's memory. -/
import Derived.Test.YtbckjaoljeimgaaGreatDoorChK
import Derived.StillTail
import Derived.Lib.QuietBelow
import Derived.Deep.DeepCutAuto
import Derived.Deep.RegionWith
/-! A region that draws its order, whose operations but for a tail in forced order read or call quietly: walked once. -/
namespace Go
open Go.Sort
section
variable {P : Program} {ops : Array Oper} {md : Region.Mode} {C : World → Prop}
def wpAnyT (P : Program) (md : Region.Mode) (ops : Array Oper) (C : World → Prop) (n : Nat) (L : Array Bool → Act → Prop) : Nat → Array Bool → Act → Prop
 | 0, listed, a => L listed a
 | f + 1, listed, a =>
  Region.ready md ops listed ≠ [] ∧ ∀ i ∈ Region.ready md ops listed, i < n ∧ qOp P ops C i (wpAnyT P md ops C n L f (listed.setIfInBounds i true)) a
theorem wpAnyQ_of_head {n g : Nat} {L : Array Bool → Act → Prop} {Q' : Exit → Act → World → Prop} (hL : ∀ listed a w, C w → L listed a → wpAny P md ops Q' g listed a w) :
  ∀ (f : Nat) (listed : Array Bool) (a : Act) (w : World), C w → wpAnyT P md ops C n L f listed a → wpAny P md ops Q' (f + g) listed a w
 | 0, listed, a, w, hw, h => by rw [Nat.zero_add]; exact hL _ _ _ hw h
 | f + 1, listed, a, w, hw, h => by
  rw [show f + 1 + g = (f + g) + 1 by omega]
  exact ⟨fun h0 => absurd h0 h.1, fun i hi => wpOp_of_qOp hw (fun a' w' hw' h' => wpAnyQ_of_head hL f _ a' w' hw' h') (h.2 i hi).2⟩
theorem wpAnyT_first {n i : Nat} {oi : Oper} {v : Value} {L : Array Bool → Act → Prop} (hi : ops[i]? = some oi) (hsel : ∀ (j : Nat) (o : Oper) cs b, ops[j]? = some o → o.op ≠ .select cs b)
  (hs : Region.sinkB md ops n = true) (hc : Region.chainB md ops n = true) (hn : n < ops.size) (hin : i < n)
  (hdone : ∀ listed a, L listed a → ∀ j ∈ Region.ready md ops listed, n ≤ j) :
  ∀ (f : Nat) (listed : Array Bool) (a : Act), HeadInv md ops n listed →
   (∀ j oj, ops[j]? = some oj → j ≠ i → listed.getD j true = false → (∀ e ∈ oj.after, Region.binds md e = true → e.on ≠ i) → oi.apart ops oj = true) →
   i ∈ Region.ready md ops listed → YieldsIn P ops C oi v a →
   wpAnyT P md ops C n L f (listed.setIfInBounds i true) (a.put oi.dst v) → wpAnyT P md ops C n L (f + 1) listed a := by
 intro f
 induction f with
 | zero =>
  intro listed a inv _ hr hy H
  have hun := (mem_ready.1 hr).1
  refine ⟨fun h => (by rw [h] at hr; cases hr), fun j hj => ?_⟩
  have hjn : j < n := by
   rcases Nat.lt_or_ge j n with h | h
   ·exact h
   ·exact absurd hj (tail_waits hs hc hn inv _ i rfl hin hun j h)
  refine ⟨hjn, ?_⟩
  by_cases hji : j = i
  ·subst hji; exact hy.qOp hi H
  ·have := hdone _ _ H j (ready_mono hj hji)
   omega
 | succ f ih =>
  intro listed a inv hfree hr hy H
  have hun := (mem_ready.1 hr).1
  refine ⟨fun h => (by rw [h] at hr; cases hr), fun j hj => ?_⟩
  have hjn : j < n := by
   rcases Nat.lt_or_ge j n with h | h
   ·exact h
   ·exact absurd hj (tail_waits hs hc hn inv _ i rfl hin hun j h)
  refine ⟨hjn, ?_⟩
  by_cases hji : j = i
  ·subst hji; exact hy.qOp hi H
  ·have h1 := (H.2 j (ready_mono hj hji)).2
   obtain ⟨hjun, oj, hoj, hall⟩ := mem_ready.1 hj
   have hnot : ∀ e ∈ oj.after, Region.binds md e = true → e.on ≠ i := fun e he hb heq => by
    have h1 := hall e he hb
    rw [heq, getD_both hun] at h1
    cases h1
   have h2 := qOp_put hoj (hfree j oj hoj hji hjun hnot) (fun cs b => hsel i oi cs b hi) (fun cs b => hsel j oj cs b hoj) hy h1
   have hfree' : ∀ k ok, ops[k]? = some ok → k ≠ i → (listed.setIfInBounds j true).getD k true = false →
     (∀ e ∈ ok.after, Region.binds md e = true → e.on ≠ i) → oi.apart ops ok = true := fun k ok hk hki hun hno => by
    refine hfree k ok hk hki ?_ hno
    by_cases hjk : j = k
    ·subst hjk; exact hjun
    ·rw [getD_set_ne true hjk] at hun; exact hun
   refine qOp_mono (fun a' h3 => ih (listed.setIfInBounds j true) a' (inv.set hj hjn) hfree' (ready_mono hr (Ne.symm hji)) h3.1 ?_) h2
   rw [Array.setIfInBounds_comm _ _ hji]
   exact h3.2
theorem wpAnyT_lex {n g : Nat} {Lq : Act → Prop} (hsel : Region.noSelect ops = true) (hs : Region.sinkB md ops n = true) (hc : Region.chainB md ops n = true) (hn : n < ops.size) :
  ∀ (l : List Oper) (k : Nat) (listed : Array Bool) (a : Act), (∀ j, j < l.length → l[j]? = ops[k + j]?) → k + l.length = n → HeadInv md ops n listed →
  Region.lexHead md ops g l.length k listed = true → wpQuiet P ops C Lq l a →
  wpAnyT P md ops C n (fun listed' a' => Region.seqB md ops g n listed' = true ∧ Lq a') l.length listed a
 | [], k, listed, a, _, hk, _, hB, h => by
  have : k = n := by simpa using hk
  subst this
  exact ⟨by simpa [Region.lexHead] using hB, h⟩
 | o :: l, k, listed, a, hl, hk, inv, hB, h => by
  have h0 : ops[k]? = some o := by simpa using (hl 0 (by simp)).symm
  simp only [List.length_cons, Region.lexHead, Bool.and_eq_true] at hB
  obtain ⟨⟨hr, hf⟩, hB'⟩ := hB
  have hkn : k < n := by simp only [List.length_cons] at hk; omega
  have hr' : k ∈ Region.ready md ops listed := by simpa using hr
  have hst : qOp P ops C k (wpQuiet P ops C Lq l) a := by unfold qOp; simp only [h0]; exact h
  obtain ⟨v, hy, hK⟩ := yieldsIn_of_qOp h0 hst
  exact wpAnyT_first h0 (Region.noSelect_spec hsel) hs hc hn hkn (fun listed' a' hL => seqB_ready hL.1) l.length listed a inv (Region.free_spec h0 hf) hr' hy
   (wpAnyT_lex hsel hs hc hn l (k + 1) _ _ (fun j hj => by have := hl (j + 1) (by simp; omega); simpa [Nat.add_assoc, Nat.add_comm 1 j] using this) (by simp only [List.length_cons] at hk; omega) (inv.set hr' hkn) hB' hK)
theorem wp_region_quiet_tail {id : Nat} {Q : Exit → Act → World → Prop} {a : Act} {w : World} {l : List Oper} (n : Nat) (hm : P.follows .mixedOrders = true) (hB : Region.lexTailB .any l.toArray n = true)
  (hC : C { w with drawn := w.drawn + 1 }) (h : wpQuiet P l.toArray C (fun a' => ∀ w', C w' → wpList P l.toArray Q (l.drop n) a' w') (l.take n) a) : (Code.region id l.toArray true).wp P Q a w := by
 simp only [Region.lexTailB, Bool.and_eq_true, decide_eq_true_eq] at hB
 obtain ⟨⟨⟨⟨hsel, hn⟩, hs⟩, hc⟩, hlex⟩ := hB
 have hn' : n < l.length := by simpa using hn
 have htl : (l.take n).length = n := by simp; omega
 have hdl : (l.drop n).length = l.toArray.size - n := by simp
 have inv0 : HeadInv .any l.toArray n (Array.replicate l.toArray.size false) :=
  ⟨by simp, fun j oj _ hl => (by rw [getD_replicate_false] at hl; cases hl), fun t _ ht => getD_in (by simpa using ht) (getD_replicate_false _ _)⟩
 have H := wpAnyT_lex (md := .any) (g := l.toArray.size - n) hsel hs hc hn (l.take n) 0 _ a (fun j hj => by
  have hj' : j < n := by rw [htl] at hj; exact hj
  simp [hj']) (by simpa using htl) inv0 (by rw [htl]; exact hlex) h
 refine wp_region_any hm ?_
 have := wpAnyQ_of_head (Q' := Q) (g := l.toArray.size - n) (fun listed a' w' hw' hL => by
  have := wpAny_of_seq (md := .any) (Q' := Q) (l.drop n) n listed a' w' (fun j => by simp [List.getElem?_drop]) (by rw [hdl]; exact hL.1) (hL.2 w' hw')
  rwa [hdl] at this) _ _ _ _ hC H
 rw [htl, show n + (l.toArray.size - n) = l.toArray.size by omega] at this
 exact this
end
end Go
namespace Go.Proofs.YtbckjaoljeimgaaGreatDoor
open Go Go.Ev Go.RowKit
set_option maxRecDepth 100000
def Bx4 (w : World) (r : Nat) (k n : Int) (x : Int) : Prop := w.heap[r]? = some (.cells #[.int .i64 k, .int .i64 n, .string ⟨#[]⟩, .int .i64 x] 41 (0, 0))
theorem Bx4.cells {w : World} {r : Nat} {k n x : Int} (h : Bx4 w r k n x) : w.cell? ⟨r, 0, none⟩ = some (.int .i64 k) ∧ w.cell? ⟨r, 1, none⟩ = some (.int .i64 n) ∧ w.cell? ⟨r, 2, none⟩ = some (.string ⟨#[]⟩) ∧ w.cell? ⟨r, 3, none⟩ = some (.int .i64 x) := by
 unfold Bx4 at h
 refine ⟨?_, ?_, ?_, ?_⟩ <;> simp [World.cell?, h]
theorem halloc1 (w : World) (o : Obj) : ((w.alloc o).drew).heap[w.heap.size]? = some o := by
 show (w.heap.push o)[w.heap.size]? = some o
 simp
theorem zbox {w w' : World} {r : Nat} (h : w'.heap[r]? = w.heap[r]?) (h0 : w.heap[r]? = some (.cells #[.int .i64 0, .int .i64 0, .string ⟨#[]⟩, .int .i64 0] 41 (0, 0))) :
  w'.cell? ⟨r, 0, none⟩ = some (.int .i64 0) ∧ w'.cell? ⟨r, 1, none⟩ = some (.int .i64 0) ∧ w'.cell? ⟨r, 2, none⟩ = some (.string ⟨#[]⟩) ∧ w'.cell? ⟨r, 3, none⟩ = some (.int .i64 0) ∧
  w'.frozen? ⟨r, 0, none⟩ = false ∧ w'.frozen? ⟨r, 1, none⟩ = false ∧ w'.frozen? ⟨r, 2, none⟩ = false ∧ w'.frozen? ⟨r, 3, none⟩ = false := by
 rw [h0] at h
 refine ⟨?_, ?_, ?_, ?_, ?_, ?_, ?_, ?_⟩ <;> simp [World.cell?, World.frozen?, h]
theorem scr_vr {σ : Sg} {e : Env} : VR σ e scr (.string { data := #[108, 101, 116, 32, 111, 110, 101, 32, 61, 32, 120, 32, 61, 62, 32, 120, 32, 43, 32, 49, 59, 32, 108, 101, 116, 32, 98, 97, 100, 32, 61, 32, 120, 32, 61, 62, 32, 123, 32, 116, 104, 114, 111, 119, 32, 120, 32, 42, 32, 50, 59, 32, 125, 59, 32, 108, 101, 116, 32, 103, 111, 111, 100, 32, 61, 32, 120, 32, 61, 62, 32, 120, 32, 45, 32, 51, 59] }) := .str _ (by kernel_rfl) (by kernel_rfl)
theorem St.cellW {w0 : World} {σ : Sg} {av : List Nat} {s : List BC} {bW W : Nat} {w : World} (h : St w0 σ av s bW W w) {f : BC} (hf : s[bW]? = some f) {k n : Nat} (hk : f.l[k]? = some (i n)) : w.cell? ⟨W, k, none⟩ = some (.int .i64 n) := by
 obtain ⟨e, h1, ⟨p, h2, hr, hd⟩, _⟩ := h
 have old := h1.hr bW p f.cb h2 (by show (hpOf s).get? bW = _; rw [hpOf, ofList_get, List.getElem?_map, hf]; rfl)
 split at old
 ·obtain ⟨o, g1, g2⟩ := old
  cases g2 with
  | cells hsz hex hout hin hfz hte =>
   have hk' : k < f.l.length := (List.getElem?_eq_some_iff.1 hk).1
   obtain ⟨cv, v, a1, a2, a3⟩ := hin k hk'
   rw [ofList_get, hk] at a1
   cases a1
   rw [vr_i a3] at a2
   rw [hd, Nat.zero_add] at a2
   rw [hr] at g1
   simp [World.cell?, g1, a2]
 ·cases old
abbrev Box := Nat × Int × Int × Int
def bx (k n x : Int) : Obj := .cells #[.int .i64 k, .int .i64 n, .string ⟨#[]⟩, .int .i64 x] 41 (0, 0)
def Sx (w0 : World) (σ : Sg) (L : List Box) (s : List BC) (bW W : Nat) (w : World) : Prop := St w0 σ (L.map (·.1)) s bW W w ∧ (L.map (·.1)).Nodup ∧ ∀ t ∈ L, Bx4 w t.1 t.2.1 t.2.2.1 t.2.2.2
section
variable {w0 : World} {σ : Sg} {L : List Box} {s s' : List BC} {bW W : Nat} {w w' : World}
theorem Sx.st (h : Sx w0 σ L s bW W w) : St w0 σ (L.map (·.1)) s bW W w := h.1
theorem Sx.drew (h : Sx w0 σ L s bW W w) : Sx w0 σ L s bW W w.drew := ⟨h.1.drew, h.2.1, h.2.2⟩
theorem Sx.call (h : Sx w0 σ L s bW W w) (h' : St w0 σ (L.map (·.1)) s' bW W w') (hk : ∀ x ∈ L.map (·.1), w'.heap[x]? = w.heap[x]?) : Sx w0 σ L s' bW W w' :=
 ⟨h', h.2.1, fun t ht => by unfold Bx4; rw [hk _ (List.mem_map.2 ⟨t, ht, rfl⟩)]; exact h.2.2 t ht⟩
theorem Sx.lt (h : Sx w0 σ L s bW W w) {t : Box} (ht : t ∈ L) : t.1 < w.heap.size := (h.1.avl _ (List.mem_map.2 ⟨t, ht, rfl⟩)).2
theorem Sx.alloc (h : Sx w0 σ L s bW W w) (k n x : Int) : Sx w0 σ ((w.heap.size, k, n, x) :: L) s bW W (w.alloc (bx k n x)) := by
 refine ⟨h.1.alloc _, ?_, fun t ht => ?_⟩
 ·rw [List.map_cons]
  refine List.nodup_cons.2 ⟨fun hm => ?_, h.2.1⟩
  have := (h.1.avl _ hm).2
  exact Nat.lt_irrefl _ this
 ·rcases List.mem_cons.1 ht with rfl | ht
  ·exact halloc1 w _
  ·unfold Bx4
   rw [halloc0 w _ _ (h.lt ht)]
   exact h.2.2 t ht
theorem bx_set {w : World} {r : Nat} {k n x a b c : Int} (h : Bx4 w r k n x) : Bx4 ((((w.setCell ⟨r, 0, none⟩ (.int .i64 a)).setCell ⟨r, 1, none⟩ (.int .i64 b)).setCell ⟨r, 2, none⟩ (.string ⟨#[]⟩)).setCell ⟨r, 3, none⟩ (.int .i64 c)) r a b c := by
 have hr : r < w.heap.size := (Array.getElem?_eq_some_iff.1 h).1
 have h0 := (Array.getElem?_eq_some_iff.1 h).2
 unfold Bx4
 simp [World.setCell, hr, Array.getElem_modify, h0]
theorem nodup_ne {l : List Box} (h : (l.map (·.1)).Nodup) {i j : Nat} {a b : Box} (hi : l[i]? = some a) (hj : l[j]? = some b) (hij : i ≠ j) : a.1 ≠ b.1 := by
 intro he
 have hi' : (l.map (·.1))[i]? = some a.1 := by rw [List.getElem?_map, hi]; rfl
 have hj' : (l.map (·.1))[j]? = some b.1 := by rw [List.getElem?_map, hj]; rfl
 have hlt : i < (l.map (·.1)).length := (List.getElem?_eq_some_iff.1 hi').1
 exact hij ((List.getElem?_inj hlt h).1 (by rw [hi', hj', he]))
theorem map_set_fst (l : List Box) (i : Nat) (r : Nat) (k n x a b c : Int) (h : l[i]? = some (r, k, n, x)) : (l.set i (r, a, b, c)).map (·.1) = l.map (·.1) := by
 refine List.ext_getElem? fun j => ?_
 rw [List.getElem?_map, List.getElem?_map, List.getElem?_set]
 split
 ·rename_i hij
  subst hij
  rw [h]
  have := (List.getElem?_eq_some_iff.1 h).1
  simp [this]
 ·rfl
theorem Sx.set (h : Sx w0 σ L s bW W w) (i : Nat) {r : Nat} {k n x : Int} (a b c : Int) (hi : L[i]? = some (r, k, n, x)) :
  Sx w0 σ (L.set i (r, a, b, c)) s bW W ((((w.setCell ⟨r, 0, none⟩ (.int .i64 a)).setCell ⟨r, 1, none⟩ (.int .i64 b)).setCell ⟨r, 2, none⟩ (.string ⟨#[]⟩)).setCell ⟨r, 3, none⟩ (.int .i64 c)) := by
 have hm : (r, k, n, x) ∈ L := List.mem_of_getElem? hi
 have hr : r ∈ L.map (·.1) := List.mem_map.2 ⟨_, hm, rfl⟩
 unfold Sx
 rw [map_set_fst L i r k n x a b c hi]
 refine ⟨(((h.1.set hr 0 _).set hr 1 _).set hr 2 _).set hr 3 _, h.2.1, fun t ht => ?_⟩
 obtain ⟨j, hj⟩ := List.getElem?_of_mem ht
 rw [List.getElem?_set] at hj
 split at hj
 ·split at hj
  ·cases hj; exact bx_set (h.2.2 _ hm)
  ·cases hj
 ·rename_i hij
  have hne : t.1 ≠ r := nodup_ne h.2.1 hj hi (Ne.symm hij)
  have := h.2.2 t (List.mem_of_getElem? hj)
  unfold Bx4 at this ⊢
  rw [heap_setCell_other _ _ _ _ hne, heap_setCell_other _ _ _ _ hne, heap_setCell_other _ _ _ _ hne, heap_setCell_other _ _ _ _ hne]
  exact this
theorem Sx.c (h : Sx w0 σ L s bW W w) (i : Nat) {r : Nat} {k n x : Int} (hi : L[i]? = some (r, k, n, x)) :
  w.cell? ⟨r, 0, none⟩ = some (.int .i64 k) ∧ w.cell? ⟨r, 1, none⟩ = some (.int .i64 n) ∧ w.cell? ⟨r, 2, none⟩ = some (.string ⟨#[]⟩) ∧ w.cell? ⟨r, 3, none⟩ = some (.int .i64 x) ∧
  w.frozen? ⟨r, 0, none⟩ = false ∧ w.frozen? ⟨r, 1, none⟩ = false ∧ w.frozen? ⟨r, 2, none⟩ = false ∧ w.frozen? ⟨r, 3, none⟩ = false := by
 have := h.2.2 _ (List.mem_of_getElem? hi)
 unfold Bx4 at this
 refine ⟨?_, ?_, ?_, ?_, ?_, ?_, ?_, ?_⟩ <;> simp [World.cell?, World.frozen?, this]
theorem Sx.weak (h : Sx w0 σ L s bW W w) {L' : List Box} (hs : L'.Sublist L) : Sx w0 σ L' s bW W w :=
 ⟨h.1.weak fun r hr => by obtain ⟨t, ht, rfl⟩ := List.mem_map.1 hr; exact List.mem_map.2 ⟨t, hs.subset ht, rfl⟩, (hs.map _).nodup h.2.1, fun t ht => h.2.2 t (hs.subset ht)⟩
end
end Go.Proofs.YtbckjaoljeimgaaGreatDoor
