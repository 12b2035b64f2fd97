/- promise.valid, walked at a heap that has plain objects alone: no job is valid. Condition: the job's first value reads as a value. -/
import Derived.Test.YtmhbagaljonheaaGreatDoorLooks
import Derived.WalkKit
import Derived.WalkMore
import Derived.BigCall
namespace Go.Proofs.YtmhbagaljonheaaGreatDoor
open Go Go.Ev Go.RowKit
/-- a slice of values whose first one reads as a value, as long as the fixed blocks stand -/
def LFact (σ : Sg) (lv : Value) : Prop := ∃ ao len cap, lv = .slice ao len cap ∧ (1 ≤ len → ∃ b o k n s x, ao = some ⟨b, o, none⟩ ∧ (-9223372036854775808 ≤ k ∧ k ≤ 9223372036854775807) ∧ (-9223372036854775808 ≤ n ∧ n ≤ 9223372036854775807) ∧ (-9223372036854775808 ≤ x ∧ x ≤ 9223372036854775807) ∧ ByteArray.size s ≤ 9223372036854775807 ∧
  ∀ w : World, (∀ r ob, σ.fx r = some ob → w.heap[r]? = some ob) → b < w.heap.size ∧ w.cell? ⟨b, o, none⟩ = some (.int .i64 k) ∧ w.cell? ⟨b, o + 1, none⟩ = some (.int .i64 n) ∧ w.cell? ⟨b, o + 2, none⟩ = some (.string s) ∧ w.cell? ⟨b, o + 3, none⟩ = some (.int .i64 x))

set_option maxHeartbeats 8000000 in
set_option maxRecDepth 1000000 in
theorem valid_wp (c : Code) (hc : Tryz.f65.body = some c) {σ : Sg} {e : Env} {m : M} {w : World} (hR : RL σ G0 e m w) (hF : IsF heapF m.h) {p : Ev.Place} (hp : e 100 = some p) (kind : Int) (lv : Value) (hl : LFact σ lv) :
    c.wp Tryz.prog (bodyPost Tryz.prog Tryz.f65 fun en w' => ∃ v', en = .returned v' ∧ (v' = .bool false ∧ RL σ G0 e m w' ∧ Kept e m w e m w'))
      { tmps := #[.pointer (some ⟨p.r, 0 + p.d, none⟩), .agg #[.int .i64 kind, lv]] ++ Array.replicate (Tryz.f65.ntmps - (#[.pointer (some ⟨p.r, 0 + p.d, none⟩), .agg #[.int .i64 kind, lv]] : Array Value).size) undef, defers := [] } w := by
  obtain rfl : _ = c := Option.some.inj hc
  clear hc
  obtain ⟨ao, len, cap, rfl, hl⟩ := hl
  simp only [Tryz.ntmps65, List.size_toArray, List.length_cons, List.length_nil, Nat.reduceAdd, Nat.reduceSub, Array.replicate_succ,
     Array.replicate_zero, List.push_toArray, List.append_toArray, List.nil_append, List.cons_append]
  have hA : ∀ o, RL σ G0 e m (w.alloc o) ∧ Kept e m w e m (w.alloc o) := fun o => by
    have h : ∀ r, r < w.heap.size → (w.alloc o).heap[r]? = w.heap[r]? := fun r hr => by
      show (w.heap.push o)[r]? = _
      rw [Array.getElem?_push, if_neg (by omega)]
    exact ⟨hR.frame h, Kept.frame (by show w.heap.size ≤ (w.heap.push o).size; rw [Array.size_push]; omega) h rfl rfl rfl⟩
  simp only [Nat.zero_add]
  by_cases h1 : 1 ≤ len
  · obtain ⟨b, o, k, n, s, x, rfl, ck, cn, cx, hs, hcell⟩ := hl h1
    obtain ⟨hb, c0, c1, c2, c3⟩ := hcell w fun r ob hr => (hR.fix r ob hr).1
    have hne : ¬ (b = w.heap.size) := by omega
    have C38 : ∀ W, RL σ G0 e m W → Calls Tryz.prog 38 #[.pointer (some ⟨p.r, p.d, none⟩), .agg #[.int .i64 k, .int .i64 n, .string s, .int .i64 x]] W fun en w' => en = .returned (.bool false) ∧ RL σ G0 e m w' ∧ Kept e m W e m w' := by
      intro W hW
      have := looks Tryz.func38 (by kernel_rfl) rfl callable_runs k n x s ck cn cx hs hW hF hp
      rw [Nat.zero_add] at this
      exact this.mono fun en w' ⟨v', h1, h2, h3, h4⟩ => by cases h2; exact ⟨h1, h3, h4⟩
    have C102 : ∀ W, RL σ G0 e m W → Calls Tryz.prog 102 #[.pointer (some ⟨p.r, p.d, none⟩), .agg #[.int .i64 k, .int .i64 n, .string s, .int .i64 x]] W fun en w' => en = .returned (.bool false) ∧ RL σ G0 e m w' ∧ Kept e m W e m w' := by
      intro W hW
      have := looks Tryz.func102 (by kernel_rfl) rfl suspended_runs k n x s ck cn cx hs hW hF hp
      rw [Nat.zero_add] at this
      exact this.mono fun en w' ⟨v', h1, h2, h3, h4⟩ => by cases h2; exact ⟨h1, h3, h4⟩
    have C58 : ∀ W, RL σ G0 e m W → Calls Tryz.prog 58 #[.pointer (some ⟨p.r, p.d, none⟩), .agg #[.int .i64 k, .int .i64 n, .string s, .int .i64 x]] W fun en w' => en = .returned (.pointer none) ∧ RL σ G0 e m w' ∧ Kept e m W e m w' := by
      intro W hW
      have := looks Tryz.func58 (by kernel_rfl) rfl promiseAt_runs k n x s ck cn cx hs hW hF hp
      rw [Nat.zero_add] at this
      exact this.mono fun en w' ⟨v', h1, h2, h3, h4⟩ => by cases h2; exact ⟨h1, h3, h4⟩
    clear hl hcell
    have h1z : (1 : Int) ≤ (len : Int) := by omega
    have h0z : (0 : Int) < (len : Int) := by omega
    by_cases h3 : 3 ≤ len
    · have h3z : (3 : Int) ≤ (len : Int) := by omega
      by_cases k1 : kind = 1
      · subst k1
        go_wp2_with (go_at_call 38; refine (C38 _ (hA _).1).mono ?_; rintro en W1 ⟨rfl, hR1, hK1⟩)
        go_ret
        exact ⟨_, rfl, rfl, hR1, (hA _).2.trans hK1⟩
      by_cases k2 : kind = 2
      · subst k2
        go_wp2_with (go_at_call 58; refine (C58 _ (hA _).1).mono ?_; rintro en W1 ⟨rfl, hR1, hK1⟩)
        go_ret
        exact ⟨_, rfl, rfl, hR1, (hA _).2.trans hK1⟩
      by_cases k3 : kind = 3
      · subst k3
        go_wp2_with (go_at_call 102; refine (C102 _ (hA _).1).mono ?_; rintro en W1 ⟨rfl, hR1, hK1⟩)
        go_ret
        exact ⟨_, rfl, rfl, hR1, (hA _).2.trans hK1⟩
      by_cases k4 : kind = 4
      · subst k4
        go_wp2_with (go_at_call 38; refine (C38 _ (hA _).1).mono ?_; rintro en W1 ⟨rfl, hR1, hK1⟩)
        go_ret
        exact ⟨_, rfl, rfl, hR1, (hA _).2.trans hK1⟩
      have b1 : (kind == 1) = false := by simpa using k1
      have b2 : (kind == 2) = false := by simpa using k2
      have b3 : (kind == 3) = false := by simpa using k3
      have b4 : (kind == 4) = false := by simpa using k4
      go_wp2
      go_ret
      exact ⟨_, rfl, rfl, (hA _).1, (hA _).2⟩
    · have h3z : ¬ (3 : Int) ≤ (len : Int) := by omega
      by_cases k4 : kind = 4
      · subst k4
        go_wp2_with (go_at_call 38; refine (C38 _ (hA _).1).mono ?_; rintro en W1 ⟨rfl, hR1, hK1⟩)
        go_ret
        exact ⟨_, rfl, rfl, hR1, (hA _).2.trans hK1⟩
      have b4 : (kind == 4) = false := by simpa using k4
      by_cases k1 : kind = 1
      · subst k1
        go_wp2
        go_ret
        exact ⟨_, rfl, rfl, (hA _).1, (hA _).2⟩
      by_cases k2 : kind = 2
      · subst k2
        go_wp2
        go_ret
        exact ⟨_, rfl, rfl, (hA _).1, (hA _).2⟩
      by_cases k3 : kind = 3
      · subst k3
        go_wp2
        go_ret
        exact ⟨_, rfl, rfl, (hA _).1, (hA _).2⟩
      have b1 : (kind == 1) = false := by simpa using k1
      have b2 : (kind == 2) = false := by simpa using k2
      have b3 : (kind == 3) = false := by simpa using k3
      go_wp2
      go_ret
      exact ⟨_, rfl, rfl, (hA _).1, (hA _).2⟩
  · clear hl
    obtain rfl : len = 0 := by omega
    by_cases k1 : kind = 1
    · subst k1
      go_wp2
      go_ret
      exact ⟨_, rfl, rfl, (hA _).1, (hA _).2⟩
    by_cases k2 : kind = 2
    · subst k2
      go_wp2
      go_ret
      exact ⟨_, rfl, rfl, (hA _).1, (hA _).2⟩
    by_cases k3 : kind = 3
    · subst k3
      go_wp2
      go_ret
      exact ⟨_, rfl, rfl, (hA _).1, (hA _).2⟩
    by_cases k4 : kind = 4
    · subst k4
      go_wp2
      go_ret
      exact ⟨_, rfl, rfl, (hA _).1, (hA _).2⟩
    have b1 : (kind == 1) = false := by simpa using k1
    have b2 : (kind == 2) = false := by simpa using k2
    have b3 : (kind == 3) = false := by simpa using k3
    have b4 : (kind == 4) = false := by simpa using k4
    go_wp2
    go_ret
    exact ⟨_, rfl, rfl, (hA _).1, (hA _).2⟩
#print axioms valid_wp
end Go.Proofs.YtmhbagaljonheaaGreatDoor
