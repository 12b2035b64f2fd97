/- value.Number of what is no number, and builtin.Name of every number, walked. Condition: the library's variables read as they are laid. -/
import Derived.Test.YtdbhonkahlcdoaaGreatDoorShLay
import Derived.WalkKit
import Derived.WalkMore
import Derived.BigCall
import Derived.Below
namespace Go.Proofs.YtdbhonkahlcdoaaGreatDoor
open Go Go.RowKit
set_option maxRecDepth 100000
set_option maxHeartbeats 4000000 in
theorem number_wp (c : Code) (hc : Tryz.f47.body = some c) (s : ByteArray) (hs : s.size ≤ 1000) (b : UInt8) (r : List UInt8) (hs0 : s.data.toList = b :: r) (hb0 : 57 < b.toNat) (te : TypeId) (pe : Value) (w : World) (hv : w.cell? ⟨(Tryz.lays174_ren.g 15), 0, none⟩ = some (.iface te pe)) :
    c.wp Tryz.prog (bodyPost Tryz.prog Tryz.f47 fun e w' => e = .returned (.tuple #[.int .i64 0, .int .i64 6]) ∧ Below w.heap.size w w')
    { tmps := #[.string s] ++ Array.replicate (Tryz.f47.ntmps - (#[.string s] : Array Value).size) undef, defers := [] } w := by
  have cP := Any.strconv_ParseInt_10_at64_syntax Tryz.lays174 s (by omega) (by
    rw [hs0, Lib.parseIntB_plain _ _ _ (by omega) (by omega)]
    unfold Lib.parseUintB
    rw [if_neg (by simp)]
    unfold Lib.parseUintM
    rw [if_neg (by omega)]
    rfl) (.iface te pe) w hv (.inr ⟨te, pe, rfl⟩)
  obtain rfl : _ = c := Option.some.inj hc
  clear hc
  simp only [Tryz.ntmps47, List.size_toArray, List.length_cons, List.length_nil, Nat.reduceAdd, Nat.reduceSub, Array.replicate_succ, Array.replicate_zero, List.push_toArray, List.append_toArray, List.nil_append, List.cons_append]
  go_wp2_with fail
  refine cP.mono ?_
  rintro e w2 ⟨N, rfl, h1, h2, hb⟩
  go_wp2_with fail
  refine bodyPost_ret (results_tmp2 rfl _ _ _) rfl ?_
  exact ⟨rfl, hb⟩
end Go.Proofs.YtdbhonkahlcdoaaGreatDoor
