/- PromiseOnce: the calls of its way and of its rounds, as contracts. Condition: as OnceC. -/
import Derived.Test.YtmhbagaljonheaaGreatDoorOnceV
import Derived.Test.YtmhbagaljonheaaGreatDoorNormC
namespace Go.Proofs.YtmhbagaljonheaaGreatDoor
open Go Go.Ev Go.RowKit
set_option maxRecDepth 1000000

theorem onceAll (t : Nat) (h : t ≤ 20) : OnceAt t := by
  match t, h with
  | 0, _ => exact once0
  | 1, _ => exact once1
  | 2, _ => exact once2
  | 3, _ => exact once3
  | 4, _ => exact once4
  | 5, _ => exact once5
  | 6, _ => exact once6
  | 7, _ => exact once7
  | 8, _ => exact once8
  | 9, _ => exact once9
  | 10, _ => exact once10
  | 11, _ => exact once11
  | 12, _ => exact once12
  | 13, _ => exact once13
  | 14, _ => exact once14
  | 15, _ => exact once15
  | 16, _ => exact once16
  | 17, _ => exact once17
  | 18, _ => exact once18
  | 19, _ => exact once19
  | 20, _ => exact once20
  | n + 21, h => exact absurd h (by omega)
theorem thenAll (t : Nat) (h : t < 20) : ThenAt t := by
  match t, h with
  | 0, _ => exact then0
  | 1, _ => exact then1
  | 2, _ => exact then2
  | 3, _ => exact then3
  | 4, _ => exact then4
  | 5, _ => exact then5
  | 6, _ => exact then6
  | 7, _ => exact then7
  | 8, _ => exact then8
  | 9, _ => exact then9
  | 10, _ => exact then10
  | 11, _ => exact then11
  | 12, _ => exact then12
  | 13, _ => exact then13
  | 14, _ => exact then14
  | 15, _ => exact then15
  | 16, _ => exact then16
  | 17, _ => exact then17
  | 18, _ => exact then18
  | 19, _ => exact then19
  | n + 20, h => exact absurd h (by omega)
theorem hasS0 : has2 fS0 = true := by kernel_rfl
theorem hasS1 : has2 fS1 = true := by kernel_rfl
theorem hasS2 : has2 fS2 = true := by kernel_rfl
theorem hasS3 : has2 fS3 = true := by kernel_rfl
theorem hasS4 : has2 fS4 = true := by kernel_rfl
theorem hasS5 : has2 fS5 = true := by kernel_rfl
theorem hasS6 : has2 fS6 = true := by kernel_rfl
theorem hasS7 : has2 fS7 = true := by kernel_rfl
theorem hasS8 : has2 fS8 = true := by kernel_rfl
theorem hasS9 : has2 fS9 = true := by kernel_rfl
theorem hasS10 : has2 fS10 = true := by kernel_rfl
theorem hasS11 : has2 fS11 = true := by kernel_rfl
theorem hasS12 : has2 fS12 = true := by kernel_rfl
theorem hasS13 : has2 fS13 = true := by kernel_rfl
theorem hasS14 : has2 fS14 = true := by kernel_rfl
theorem hasS15 : has2 fS15 = true := by kernel_rfl
theorem hasS16 : has2 fS16 = true := by kernel_rfl
theorem hasS17 : has2 fS17 = true := by kernel_rfl
theorem hasS18 : has2 fS18 = true := by kernel_rfl
theorem hasS19 : has2 fS19 = true := by kernel_rfl
theorem hasS20 : has2 fS20 = true := by kernel_rfl
theorem hasAll (t : Nat) (h : t ≤ 20) : has2 (stF t) = true := by
  match t, h with
  | 0, _ => exact hasS0
  | 1, _ => exact hasS1
  | 2, _ => exact hasS2
  | 3, _ => exact hasS3
  | 4, _ => exact hasS4
  | 5, _ => exact hasS5
  | 6, _ => exact hasS6
  | 7, _ => exact hasS7
  | 8, _ => exact hasS8
  | 9, _ => exact hasS9
  | 10, _ => exact hasS10
  | 11, _ => exact hasS11
  | 12, _ => exact hasS12
  | 13, _ => exact hasS13
  | 14, _ => exact hasS14
  | 15, _ => exact hasS15
  | 16, _ => exact hasS16
  | 17, _ => exact hasS17
  | 18, _ => exact hasS18
  | 19, _ => exact hasS19
  | 20, _ => exact hasS20
  | n + 21, h => exact absurd h (by omega)
theorem has_fA0 : has2 fA0 = true := by kernel_rfl
theorem has_fA1 : has2 fA1 = true := by kernel_rfl
theorem has_fA2 : has2 fA2 = true := by kernel_rfl
theorem has_S0 : has2 fS0 = true := hasAll 0 (by decide)
theorem aV (a : OnceArgs) {l : List CV} {vs : List Value} (e : Env) (h : LR a.sg e l vs) : LR a.sg e (aggV :: l) (vV a :: vs) := LR.cons (vr_V a e) h
theorem aX (a : OnceArgs) {l : List CV} {vs : List Value} (e : Env) (h : LR a.sg e l vs) : LR a.sg e (aggX :: l) (vX a :: vs) := LR.cons (vr_X a e) h
theorem kx6 {a : OnceArgs} (_ : a.Ok) : (0 : Int) ≤ nk a.xk ∧ nk a.xk ≤ 6 := ⟨(nk_range a.xk).1, (nk_range a.xk).2.1⟩
theorem kv6 {a : OnceArgs} (_ : a.Ok) : (0 : Int) ≤ nk a.vk ∧ nk a.vk ≤ 6 := ⟨(nk_range a.vk).1, (nk_range a.vk).2.1⟩
section
variable {a : OnceArgs} (ha : a.Ok) {V : List Nat} {rh rj : Nat} {W : World}
include ha
theorem k_P (hS : St a V rh rj 101 fA0 W) : Calls Tryz.prog 21 #[pt rh] W fun en W' => en = .returned (.tuple #[vP, .int .i64 0]) ∧ St a V rh rj 111 fA1 W' ∧ W.heap.size ≤ W'.heap.size ∧ ∀ r, r ∈ V → W'.heap[r]? = W.heap[r]? :=
  hS.call ha okA0 okA1 has_fA0 has_fA1 Tryz.func21 (by kernel_rfl) rP rfl ha.vk (kv6 ha) (kx6 ha) (fun e hB => LR.cons (vr_h hB) LR.nil) fun e v h => by
    obtain ⟨x, y, rfl, h1, h2⟩ := tup2_inv h
    rw [inv_ref _ _ _ _ h1, int_inv h2]; rfl
theorem k_Q (hS : St a V rh rj 111 fA1 W) : Calls Tryz.prog 21 #[pt rh] W fun en W' => en = .returned (.tuple #[vQ, .int .i64 0]) ∧ St a V rh rj 121 fA2 W' ∧ W.heap.size ≤ W'.heap.size ∧ ∀ r, r ∈ V → W'.heap[r]? = W.heap[r]? :=
  hS.call ha okA1 okA2 has_fA1 has_fA2 Tryz.func21 (by kernel_rfl) rQ rfl ha.vk (kv6 ha) (kx6 ha) (fun e hB => LR.cons (vr_h hB) LR.nil) fun e v h => by
    obtain ⟨x, y, rfl, h1, h2⟩ := tup2_inv h
    rw [inv_ref _ _ _ _ h1, int_inv h2]; rfl
theorem k_first (hS : St a V rh rj 121 fA2 W) : Calls Tryz.prog 22 #[pt rh, pt rj, vP, vV a] W fun en W' => en = .returned (.int .i64 0) ∧ St a V rh rj (stN 0) (stF 0) W' ∧ W.heap.size ≤ W'.heap.size ∧ ∀ r, r ∈ V → W'.heap[r]? = W.heap[r]? := by
  have args : ∀ e, Bound e rh rj → LR a.sg e [.ptr 99 0, .ptr 100 0, aggP, aggV] (#[pt rh, pt rj, vP, vV a] : Array Value).toList := fun e hB => LR.cons (vr_h hB) (LR.cons (vr_j hB) (LR.cons (vr_P _ _) (LR.cons (vr_V a e) LR.nil)))
  have hk := nk_range a.vk
  have hw := ha.vk
  unfold W64 at hw
  rcases (by have := ha.v5; omega : a.vk ≤ 4 ∨ a.vk = 6 ∨ 7 ≤ a.vk) with h | h | h
  · exact hS.call ha okA2 okS0 has_fA2 has_S0 Tryz.func22 (by kernel_rfl) rSa rfl ⟨hw.1, h⟩ ⟨hk.1, by show nk a.vk ≤ 4; unfold nk; split <;> omega⟩ (kx6 ha) args fun e v h => int_inv h
  · exact hS.call ha okA2 okS0 has_fA2 has_S0 Tryz.func22 (by kernel_rfl) rSb rfl ⟨by show 6 ≤ a.vk; omega, by show a.vk ≤ 6; omega⟩ ⟨by show 6 ≤ nk a.vk; rw [h]; decide, hk.2.1⟩ (kx6 ha) args fun e v h => int_inv h
  · exact hS.call ha okA2 okS0 has_fA2 has_S0 Tryz.func22 (by kernel_rfl) rSc rfl ⟨h, hw.2⟩ ⟨hk.1, by show nk a.vk ≤ 0; unfold nk; split <;> omega⟩ (kx6 ha) args fun e v h => int_inv h
variable {t : Nat} (ht : t ≤ 20) (hS : St a V rh rj (stN t) (stF t) W)
include ht hS
theorem k_res : Calls Tryz.prog 22 #[pt rh, pt rj, vP, vX a] W fun en W' => en = .returned (.int .i64 0) ∧ St a V rh rj (stN t) (stF t) W' ∧ W.heap.size ≤ W'.heap.size ∧ ∀ r, r ∈ V → W'.heap[r]? = W.heap[r]? :=
  hS.call ha (okSt t ht) (okSt t ht) (hasAll t ht) (hasAll t ht) Tryz.func22 (by kernel_rfl) (onceAll t ht).1 rfl ha.vk (kv6 ha) (kx6 ha) (fun e hB => LR.cons (vr_h hB) (LR.cons (vr_j hB) (LR.cons (vr_P _ _) (LR.cons (vr_X a e) LR.nil)))) fun e v h => int_inv h
theorem k_rej : Calls Tryz.prog 23 #[pt rh, pt rj, vP, vX a] W fun en W' => en = .returned (.int .i64 0) ∧ St a V rh rj (stN t) (stF t) W' ∧ W.heap.size ≤ W'.heap.size ∧ ∀ r, r ∈ V → W'.heap[r]? = W.heap[r]? :=
  hS.call ha (okSt t ht) (okSt t ht) (hasAll t ht) (hasAll t ht) Tryz.func23 (by kernel_rfl) (onceAll t ht).2.1 rfl ha.vk (kv6 ha) (kx6 ha) (fun e hB => LR.cons (vr_h hB) (LR.cons (vr_j hB) (LR.cons (vr_P _ _) (LR.cons (vr_X a e) LR.nil)))) fun e v h => int_inv h
theorem k_resQ : Calls Tryz.prog 22 #[pt rh, pt rj, vP, vQ] W fun en W' => en = .returned (.int .i64 0) ∧ St a V rh rj (stN t) (stF t) W' ∧ W.heap.size ≤ W'.heap.size ∧ ∀ r, r ∈ V → W'.heap[r]? = W.heap[r]? :=
  hS.call ha (okSt t ht) (okSt t ht) (hasAll t ht) (hasAll t ht) Tryz.func22 (by kernel_rfl) (onceAll t ht).2.2.1 rfl ha.vk (kv6 ha) (kx6 ha) (fun e hB => LR.cons (vr_h hB) (LR.cons (vr_j hB) (LR.cons (vr_P _ _) (LR.cons (vr_Q _ _) LR.nil)))) fun e v h => int_inv h
theorem k_stP : Calls Tryz.prog 25 #[pt rh, vP] W fun en W' => en = .returned (.tuple #[.int .i64 1, vNV a, .int .i64 0]) ∧ St a V rh rj (stN t) (stF t) W' ∧ W.heap.size ≤ W'.heap.size ∧ ∀ r, r ∈ V → W'.heap[r]? = W.heap[r]? :=
  hS.call ha (okSt t ht) (okSt t ht) (hasAll t ht) (hasAll t ht) Tryz.func25 (by kernel_rfl) (onceAll t ht).2.2.2.1 rfl ha.vk (kv6 ha) (kx6 ha) (fun e hB => LR.cons (vr_h hB) (LR.cons (vr_P _ _) LR.nil)) fun e v h => by
    obtain ⟨x, y, z, rfl, h1, h2, h3⟩ := tup3_inv h
    rw [int_inv h1, inv_NV _ _ _ h2, int_inv h3]
theorem k_stQ : Calls Tryz.prog 25 #[pt rh, vQ] W fun en W' => en = .returned (.tuple #[.int .i64 0, .agg #[.int .i64 0, .int .i64 0, .string ⟨#[]⟩, .int .i64 0], .int .i64 0]) ∧ St a V rh rj (stN t) (stF t) W' ∧ W.heap.size ≤ W'.heap.size ∧ ∀ r, r ∈ V → W'.heap[r]? = W.heap[r]? :=
  hS.call ha (okSt t ht) (okSt t ht) (hasAll t ht) (hasAll t ht) Tryz.func25 (by kernel_rfl) (onceAll t ht).2.2.2.2 rfl ha.vk (kv6 ha) (kx6 ha) (fun e hB => LR.cons (vr_h hB) (LR.cons (vr_Q _ _) LR.nil)) fun e v h => by
    obtain ⟨x, y, z, rfl, h1, h2, h3⟩ := tup3_inv h
    rw [int_inv h1, inv_zero _ _ _ h2, int_inv h3]
omit ht in
theorem k_then (ht : t < 20) : Calls Tryz.prog 24 #[pt rh, pt rj, vP, vX a, vX a] W fun en W' => (∃ x, en = .returned x) ∧ St a V rh rj (stN (t + 1)) (stF (t + 1)) W' ∧ W.heap.size ≤ W'.heap.size ∧ ∀ r, r ∈ V → W'.heap[r]? = W.heap[r]? := by
  have args : ∀ e, Bound e rh rj → LR a.sg e [.ptr 99 0, .ptr 100 0, aggP, aggX, aggX] (#[pt rh, pt rj, vP, vX a, vX a] : Array Value).toList := fun e hB => LR.cons (vr_h hB) (LR.cons (vr_j hB) (LR.cons (vr_P _ _) (LR.cons (vr_X a e) (LR.cons (vr_X a e) LR.nil))))
  have out : ∀ e v, VR a.sg e (.tup [.agg [.int .i64 5, .int .i64 0, .str 0 0, .int .i64 (.ofNat (Nat.add t 15))], .int .i64 0]) v → v = .tuple #[.agg #[.int .i64 5, .int .i64 0, .string ⟨#[]⟩, .int .i64 (.ofNat (Nat.add t 15))], .int .i64 0] := fun e v h => by
    obtain ⟨x, y, rfl, h1, h2⟩ := tup2_inv h
    rw [inv_ref _ _ _ _ h1, int_inv h2]
  have hk := nk_range a.xk
  rcases (by omega : nk a.xk ≤ 4 ∨ nk a.xk = 6) with h | h
  · exact (hS.call ha (okSt t (by omega)) (okSt (t + 1) (by omega)) (hasAll t (by omega)) (hasAll (t + 1) (by omega)) Tryz.func24 (by kernel_rfl) (thenAll t ht).1 rfl ha.vk (kv6 ha) ⟨hk.1, h⟩ args out).mono fun en W' h => ⟨⟨_, h.1⟩, h.2⟩
  · exact (hS.call ha (okSt t (by omega)) (okSt (t + 1) (by omega)) (hasAll t (by omega)) (hasAll (t + 1) (by omega)) Tryz.func24 (by kernel_rfl) (thenAll t ht).2 rfl ha.vk (kv6 ha) ⟨by show 6 ≤ nk a.xk; omega, by show nk a.xk ≤ 6; omega⟩ args out).mono fun en W' h => ⟨⟨_, h.1⟩, h.2⟩
omit ht in
theorem k_norm : Calls Tryz.prog 26 #[vV a] W fun en W' => en = .returned (vNV a) ∧ Below W.heap.size W W' := by
  have hT : Tabs W := by
    obtain ⟨⟨e, hR, _⟩, _⟩ := hS
    exact ha.tabs.of_fx fun r o hr ho => (hR.fix r o (by show (if r < 2 then a.w0.heap[r]? else none) = some o; rw [if_pos hr]; exact ho)).1
  obtain ⟨cb, hcb⟩ : ∃ cb, Tryz.f26.body = some cb := Option.isSome_iff_exists.1 (by kernel_rfl)
  exact norm_calls Tryz.func26 hcb norm30_runs a.vk a.vn a.vr a.vs ha.vk ha.vn ha.vr ha.vs ha.v5 W hT
end
end Go.Proofs.YtmhbagaljonheaaGreatDoor
