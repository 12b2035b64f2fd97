/- strconv.FormatInt at base ten, walked. Condition: internal/strconv.uint64pow10 reads as it is laid. -/
import Derived.Test.YtdbhonkahlcdoaaGreatDoorShLay
import Derived.WalkKit
import Derived.WalkMore
import Derived.BigCall
import Derived.Below
namespace Go.Proofs.YtdbhonkahlcdoaaGreatDoor
open Go Go.RowKit
set_option maxRecDepth 100000
theorem below_grow {B : Nat} {w : World} (k : Nat) (os : Array Obj) (hB : B ≤ w.heap.size) : Below B w (Sort.grow (w.drewN k) os) :=
  ⟨rfl, rfl, rfl, by show w.heap.size ≤ (w.heap ++ os).size; simp, fun j hj => by show (w.heap ++ os)[j]? = w.heap[j]?; rw [Array.getElem?_append_left (by omega)]⟩
set_option maxHeartbeats 4000000 in
theorem fmt_wp (c : Code) (hc : Tryz.f83.body = some c) (n : Int) (h : -9223372036854775808 ≤ n ∧ n ≤ 9223372036854775807) (w : World) (hT : Lib.TabIs Tryz.prog w "internal/strconv.uint64pow10" .u64 Lib.pow10Tab) :
    c.wp Tryz.prog (bodyPost Tryz.prog Tryz.f83 fun e w' => e = .returned (.string ⟨(Lib.itoa n).toArray⟩) ∧ Below w.heap.size w w')
    { tmps := #[.int .i64 n, .int .i64 10] ++ Array.replicate (Tryz.f83.ntmps - (#[.int .i64 n, .int .i64 10] : Array Value).size) undef, defers := [] } w := by
  have cP := Any.internal_strconv_FormatInt_10 { Tryz.lays173 with } n h.1 h.2 w hT
  obtain rfl : _ = c := Option.some.inj hc
  clear hc
  simp only [Tryz.ntmps83, List.size_toArray, List.length_cons, List.length_nil, Nat.reduceAdd, Nat.reduceSub, Array.replicate_succ, Array.replicate_zero, List.push_toArray, List.append_toArray, List.nil_append, List.cons_append]
  go_wp2_with fail
  refine cP.mono ?_
  rintro e w2 ⟨rfl, k, os, rfl⟩
  go_wp2_with fail
  go_ret
  exact ⟨rfl, below_grow k os (Nat.le_refl _)⟩
end Go.Proofs.YtdbhonkahlcdoaaGreatDoor
