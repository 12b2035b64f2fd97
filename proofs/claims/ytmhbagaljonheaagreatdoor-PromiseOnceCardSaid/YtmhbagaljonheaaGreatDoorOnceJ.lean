/- PromiseOnce: the law's own boxes. Condition: as OnceC. -/
import Derived.Test.YtmhbagaljonheaaGreatDoorOnceK
import Derived.Test.YtmhbagaljonheaaGreatDoorPEarly
import Derived.Lib.QuietBelow
namespace Go.Proofs.YtmhbagaljonheaaGreatDoor
open Go Go.Ev Go.RowKit
set_option maxRecDepth 100000
theorem alloc_get (w : World) (o : Obj) (r : Nat) : (w.alloc o).heap[r]? = if r = w.heap.size then some o else w.heap[r]? := by
  show (w.heap.push o)[r]? = _
  rw [Array.getElem?_push]
theorem alloc_size (w : World) (o : Obj) : (w.alloc o).heap.size = w.heap.size + 1 := by
  show (w.heap.push o).size = _
  rw [Array.size_push]
theorem two_boxes {w W : World} {o1 o2 : Obj} (hb : Below ((w.alloc o1).alloc o2).heap.size ((w.alloc o1).alloc o2) W) :
    W.heap[w.heap.size]? = some o1 ∧ W.heap[w.heap.size + 1]? = some o2 ∧ Below w.heap.size w W ∧ w.heap.size + 1 < W.heap.size := by
  have e : ((w.alloc o1).alloc o2).heap.size = w.heap.size + 2 := by rw [alloc_size, alloc_size]
  have hz := hb.size
  rw [e] at hz
  have g : ∀ i, i < w.heap.size + 2 → W.heap[i]? = ((w.alloc o1).alloc o2).heap[i]? := fun i hi => hb.block i (by rw [e]; exact hi)
  refine ⟨?_, ?_, ⟨hb.os, hb.tape, hb.output, by omega, fun i hi => ?_⟩, by omega⟩
  · rw [g _ (by omega), alloc_get, alloc_get, alloc_size, if_neg (by omega), if_pos rfl]
  · rw [g _ (by omega), alloc_get, alloc_size, if_pos rfl]
  · rw [g _ (by omega), alloc_get, alloc_get, alloc_size, if_neg (by omega), if_neg (by omega)]
/-- a box of a value -/
def Box (W : World) (r : Nat) (k n : Int) (s : ByteArray) (x : Int) : Prop := W.heap[r]? = some (.cells #[.int .i64 k, .int .i64 n, .string s, .int .i64 x] 23 (0, 0))
theorem Box.cells {W : World} {r : Nat} {k n x : Int} {s : ByteArray} (h : Box W r k n s x) :
    W.cell? ⟨r, 0, none⟩ = some (.int .i64 k) ∧ W.cell? ⟨r, 1, none⟩ = some (.int .i64 n) ∧ W.cell? ⟨r, 2, none⟩ = some (.string s) ∧ W.cell? ⟨r, 3, none⟩ = some (.int .i64 x) := by
  unfold Box at h
  simp [World.cell?, h]
theorem St.box {a : OnceArgs} {V : List Nat} {rh rj n : Nat} {F : List FB} {W : World} (hS : St a V rh rj n F W) (o : Obj) : St a (W.heap.size :: V) rh rj n F (W.alloc o) := by
  have hz := alloc_size W o
  refine hS.other (by omega) (fun r hr _ => by rw [alloc_get, if_neg (by omega)]) (fun r hr => ?_) rfl rfl rfl
  rcases List.mem_cons.1 hr with rfl | hr
  · exact .inr (by omega)
  · exact .inl hr
theorem St.box' {a : OnceArgs} {V : List Nat} {rh rj n : Nat} {F : List FB} {W : World} (hS : St a V rh rj n F W) (o : Obj) : St a V rh rj n F (W.alloc o) := by
  have hz := alloc_size W o
  exact hS.other (by omega) (fun r hr _ => by rw [alloc_get, if_neg (by omega)]) (fun r hr => .inl hr) rfl rfl rfl
theorem St.below {a : OnceArgs} {V : List Nat} {rh rj n : Nat} {F : List FB} {W W' : World} (hS : St a V rh rj n F W) (h : Below W.heap.size W W') : St a V rh rj n F W' :=
  hS.other h.size (fun r hr _ => h.block r hr) (fun _ hr => .inl hr) h.os h.tape h.output
/-- the four boxes, and what came in -/
structure Own (a : OnceArgs) (rv rx rp rq : Nat) (W : World) : Prop where
  v : Box W rv a.vk a.vn a.vs a.vr
  x : Box W rx a.xk a.xn a.xs a.xr
  p : Box W rp 5 0 ⟨#[]⟩ 13
  q : Box W rq 5 0 ⟨#[]⟩ 14
theorem Own.kept {a : OnceArgs} {rv rx rp rq : Nat} {W W' : World} (h : Own a rv rx rp rq W) (hk : ∀ r, r ∈ [rq, rp, rv, rx] → W'.heap[r]? = W.heap[r]?) : Own a rv rx rp rq W' :=
  ⟨(hk rv (by simp)).trans h.v, (hk rx (by simp)).trans h.x, (hk rp (by simp)).trans h.p, (hk rq (by simp)).trans h.q⟩
theorem box_alloc {W : World} {r : Nat} {k n x : Int} {s : ByteArray} (h : Box W r k n s x) (o : Obj) : Box (W.alloc o) r k n s x := by
  have hl : r < W.heap.size := (Array.getElem?_eq_some_iff.1 h).1
  unfold Box
  rw [alloc_get, if_neg (by omega)]
  exact h
theorem box_new (W : World) (k n x : Int) (s : ByteArray) : Box (W.alloc (.cells #[.int .i64 k, .int .i64 n, .string s, .int .i64 x] 23 (0, 0))) W.heap.size k n s x := by
  unfold Box
  rw [alloc_get, if_pos rfl]
theorem box_below {W W' : World} {r : Nat} {k n x : Int} {s : ByteArray} (h : Box W r k n s x) (hb : Below W.heap.size W W') : Box W' r k n s x := by
  unfold Box
  rw [hb.block r (Array.getElem?_eq_some_iff.1 h).1]
  exact h
theorem in_two {P : Nat → Prop} {x y : Nat} (h1 : P x) (h2 : P y) : ∀ r, r ∈ [x, y] → P r := fun r hr => by
  rcases List.mem_cons.1 hr with rfl | hr
  · exact h1
  · rw [List.mem_singleton.1 hr]; exact h2
open Go.Sort in
theorem k_normR {a : OnceArgs} (ha : a.Ok) {V : List Nat} {rh rj t : Nat} {W : World} (hS : St a V rh rj (stN t) (stF t) W) (d : Nat) (os : Array Obj) :
    Calls Tryz.prog 26 #[.agg #[.int .i64 a.vk, .int .i64 a.vn, .string a.vs, .int .i64 a.vr]] (grow (redrawn W d) os) fun e w'' => e = .returned (.agg #[.int .i64 (nk a.vk), .int .i64 (ni a.vk a.vn), .string (ns a.vk a.vs), .int .i64 0]) ∧ ∃ p : Regrown, w'' = grow (redrawn W p.d) p.os :=
  Calls.regrown_of (k_norm ha (hS.below (below_regrown W d os)))
open Go.Sort in
theorem Box.regrown {W : World} {r : Nat} {k n x : Int} {s : ByteArray} (h : Box W r k n s x) (d : Nat) (os : Array Obj) : Box (grow (redrawn W d) os) r k n s x := box_below h (below_regrown W d os)
end Go.Proofs.YtmhbagaljonheaaGreatDoor
