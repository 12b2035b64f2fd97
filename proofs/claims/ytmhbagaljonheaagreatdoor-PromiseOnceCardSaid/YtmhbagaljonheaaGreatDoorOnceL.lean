/- PromiseOnce, walked. Condition: as OnceC; at most 20 bytes in the list. -/
import Derived.Test.YtmhbagaljonheaaGreatDoorOnceJ
namespace Go.Proofs.YtmhbagaljonheaaGreatDoor
open Go Go.Ev Go.RowKit Go.Sort
set_option maxHeartbeats 16000000 in
set_option maxRecDepth 1000000 in
theorem skel (a : OnceArgs) (ha : a.Ok) (ao : Option Addr) (len cap : Nat) (h20 : len ≤ 20) (hL : ∀ n, n < len → ∃ b o : Nat, ∃ k : Int, ao = some ⟨b, o, none⟩ ∧ b < a.w0.heap.size ∧ 0 ≤ k ∧ k ≤ 255 ∧ a.w0.cell? ⟨b, o + n, none⟩ = some (.int .u8 k)) :
    Calls Tryz.prog 4 #[vV a, vX a, .slice ao len cap] a.w0 fun en w' => en = .returned (.bool true) ∧ Below a.w0.heap.size a.w0 w' := by
  have vk5 := ha.v5
  have xk5 := ha.x5
  unfold vV vX
  go_enter Tryz.func4, Tryz.ntmps4
  go_wp2_with fail
  go_at_call 20
  refine (awake_calls _).mono ?_
  rintro en W1 ⟨rfl, hb1⟩
  obtain ⟨g0, g1, hB1, s1⟩ := two_boxes hb1
  clear hb1
  obtain ⟨c0, c1, c2, c3⟩ := Box.cells g0
  obtain ⟨d0, d1, d2, d3⟩ := Box.cells g1
  have v60 : ¬ (60 : Int) < (a.vs.size : Int) := by have := ha.vs; omega
  have x60 : ¬ (60 : Int) < (a.xs.size : Int) := by have := ha.xs; omega
  have z20 : ¬ (20 : Int) < (len : Int) := by omega
  go_wp2_with fail
  · exfalso
    rename_i hbad _ _ _ _
    simp [vk5, xk5] at hbad
    omega
  refine (St0.new a ha [a.w0.heap.size, a.w0.heap.size + 1] W1 (in_two (Nat.lt_of_succ_lt s1) s1) (in_two (Nat.le_refl _) (Nat.le_succ _)) hB1).mono ?_
  rintro en W2 ⟨r1, e1, t1, r2, e2, t2, rfl, hS0, hz2, hV2⟩
  have hSA := hS0.start
  go_wp2_with fail
  refine (k_P ha hSA).mono ?_
  rintro en W3 ⟨rfl, hS3, hz3, hV3⟩
  unfold vP
  go_wp2_with fail
  refine (k_Q ha (hS3.box _)).mono ?_
  rintro en W4 ⟨rfl, hS4, hz4, hV4⟩
  unfold vQ
  have hS5 := hS4.box (.cells #[.int .i64 5, .int .i64 0, .string ⟨#[]⟩, .int .i64 14] 23 (0, 0))
  have hO : Own a a.w0.heap.size (a.w0.heap.size + 1) W3.heap.size W4.heap.size (W4.alloc (.cells #[.int .i64 5, .int .i64 0, .string ⟨#[]⟩, .int .i64 14] 23 (0, 0))) := by
    have m0 : a.w0.heap.size ∈ [a.w0.heap.size, a.w0.heap.size + 1] := List.mem_cons_self ..
    have m1 : a.w0.heap.size + 1 ∈ [a.w0.heap.size, a.w0.heap.size + 1] := List.mem_cons_of_mem _ (List.mem_cons_self ..)
    exact ⟨box_alloc ((hV4 _ (List.mem_cons_of_mem _ m0)).trans (box_alloc ((hV3 _ m0).trans (box_alloc (box_alloc ((hV2 _ m0).trans g0) _) _)) _)) _,
      box_alloc ((hV4 _ (List.mem_cons_of_mem _ m1)).trans (box_alloc ((hV3 _ m1).trans (box_alloc (box_alloc ((hV2 _ m1).trans g1) _) _)) _)) _,
      box_alloc ((hV4 _ (List.mem_cons_self ..)).trans (box_new W3 5 0 13 ⟨#[]⟩)) _, box_new W4 5 0 14 ⟨#[]⟩⟩
  obtain ⟨c0, c1, c2, c3⟩ := hO.v.cells
  obtain ⟨d0, d1, d2, d3⟩ := hO.x.cells
  obtain ⟨p0, p1, p2, p3⟩ := hO.p.cells
  obtain ⟨q0, q1, q2, q3⟩ := hO.q.cells
  go_wp2_with fail
  refine (k_first ha hS5).mono ?_
  rintro en W5 ⟨rfl, hS6, hz6, hV6⟩
  have hO6 := hO.kept hV6
  generalize W2.heap.size + 1 = rj at *
  generalize W2.heap.size = rh at *
  generalize W3.heap.size = rp at *
  generalize W4.heap.size = rq at *
  clear hV6 hV4 hV3 hV2 hO hS5 hS4 hS3 hSA hS0 g0 g1 hB1 s1
  go_wp2_with fail
  go_loopw [13] (fun i wr => ∃ n t : Nat, i = .int .i64 n ∧ n ≤ len ∧ t ≤ n ∧ St a [rq, rp, a.w0.heap.size, a.w0.heap.size + 1] rh rj (stN t) (stF t) wr ∧ Own a a.w0.heap.size (a.w0.heap.size + 1) rp rq wr) (fun i _ => match i with | .int _ n => len - n.toNat | _ => 0)
  case atStart =>
    exact ⟨0, 0, rfl, Nat.zero_le _, Nat.le_refl _, hS6, hO6⟩
  case round =>
    obtain ⟨n, t, rfl, hn, ht, hS, hO⟩ := hrel
    by_cases hlt : n < len
    · obtain ⟨b, o, k, rfl, hb, k0, k1, hc⟩ := hL n hlt
      have hltz : (n : Int) < (len : Int) := by omega
      have hce : wr.cell? ⟨b, o + n, none⟩ = some (.int .u8 k) := by
        rw [← hc]; simp only [World.cell?, hS.blw.block b hb]
      obtain ⟨c0, c1, c2, c3⟩ := hO.v.cells
      obtain ⟨d0, d1, d2, d3⟩ := hO.x.cells
      obtain ⟨p0, p1, p2, p3⟩ := hO.p.cells
      obtain ⟨q0, q1, q2, q3⟩ := hO.q.cells
      go_wp2_with fail
      · refine (k_res ha (by omega) hS).mono ?_
        rintro en W6 ⟨rfl, hS7, hz7, hV7⟩
        have hO7 := hO.kept hV7
        obtain ⟨p0, p1, p2, p3⟩ := hO7.p.cells
        go_wp2_with fail
        refine (k_stP ha (t := t) (by omega) hS7).mono ?_
        rintro en W8 ⟨rfl, hS8, hz8, hV8⟩
        unfold vNV
        have hO9 := hO7.kept hV8
        have hS9 := hS8.box' (.cells #[.int .i64 (nk a.vk), .int .i64 (ni a.vk a.vn), .string (ns a.vk a.vs), .int .i64 0] 23 (0, 0))
        have by' := box_new W8 (nk a.vk) (ni a.vk a.vn) 0 (ns a.vk a.vs)
        have hO10 : Own a a.w0.heap.size (a.w0.heap.size + 1) rp rq (W8.alloc (.cells #[.int .i64 (nk a.vk), .int .i64 (ni a.vk a.vn), .string (ns a.vk a.vs), .int .i64 0] 23 (0, 0))) := ⟨box_alloc hO9.v _, box_alloc hO9.x _, box_alloc hO9.p _, box_alloc hO9.q _⟩
        go_wp2_with fail
        generalize W8.heap.size = ry at *
        generalize W8.alloc (.cells #[.int .i64 (nk a.vk), .int .i64 (ni a.vk a.vn), .string (ns a.vk a.vs), .int .i64 0] 23 (0, 0)) = WB at *
        have cN := k_normR ha hS9
        have vc0 := fun d os => (hO10.v.regrown d os).cells.1
        have vc1 := fun d os => (hO10.v.regrown d os).cells.2.1
        have vc2 := fun d os => (hO10.v.regrown d os).cells.2.2.1
        have vc3 := fun d os => (hO10.v.regrown d os).cells.2.2.2
        have yc0 := fun d os => (by'.regrown d os).cells.1
        have yc1 := fun d os => (by'.regrown d os).cells.2.1
        have yc2 := fun d os => (by'.regrown d os).cells.2.2.1
        have yc3 := fun d os => (by'.regrown d os).cells.2.2.2
        refine wp_region_quiet_below (by kernel_rfl) (by kernel_rfl) ?_
        repeat (quiet_step (exact cN _ _))
        refine wpQuiet_nil ?_
        intro _ hw'
        obtain ⟨⟨dq, osq⟩, hw''⟩ := hw'
        subst hw''
        go_wp2_with fail
        refine ⟨⟨n + 1, t, rfl, by omega, by omega, hS9.below (below_regrown WB dq osq), ⟨hO10.v.regrown dq osq, hO10.x.regrown dq osq, hO10.p.regrown dq osq, hO10.q.regrown dq osq⟩⟩, ?_⟩
        show len - ((n : Int) + 1).toNat < len - (n : Int).toNat
        omega
      · refine (k_rej ha (by omega) hS).mono ?_
        rintro en W6 ⟨rfl, hS7, hz7, hV7⟩
        have hO7 := hO.kept hV7
        obtain ⟨p0, p1, p2, p3⟩ := hO7.p.cells
        go_wp2_with fail
        refine (k_stP ha (t := t) (by omega) hS7).mono ?_
        rintro en W8 ⟨rfl, hS8, hz8, hV8⟩
        unfold vNV
        have hO9 := hO7.kept hV8
        have hS9 := hS8.box' (.cells #[.int .i64 (nk a.vk), .int .i64 (ni a.vk a.vn), .string (ns a.vk a.vs), .int .i64 0] 23 (0, 0))
        have by' := box_new W8 (nk a.vk) (ni a.vk a.vn) 0 (ns a.vk a.vs)
        have hO10 : Own a a.w0.heap.size (a.w0.heap.size + 1) rp rq (W8.alloc (.cells #[.int .i64 (nk a.vk), .int .i64 (ni a.vk a.vn), .string (ns a.vk a.vs), .int .i64 0] 23 (0, 0))) := ⟨box_alloc hO9.v _, box_alloc hO9.x _, box_alloc hO9.p _, box_alloc hO9.q _⟩
        go_wp2_with fail
        generalize W8.heap.size = ry at *
        generalize W8.alloc (.cells #[.int .i64 (nk a.vk), .int .i64 (ni a.vk a.vn), .string (ns a.vk a.vs), .int .i64 0] 23 (0, 0)) = WB at *
        have cN := k_normR ha hS9
        have vc0 := fun d os => (hO10.v.regrown d os).cells.1
        have vc1 := fun d os => (hO10.v.regrown d os).cells.2.1
        have vc2 := fun d os => (hO10.v.regrown d os).cells.2.2.1
        have vc3 := fun d os => (hO10.v.regrown d os).cells.2.2.2
        have yc0 := fun d os => (by'.regrown d os).cells.1
        have yc1 := fun d os => (by'.regrown d os).cells.2.1
        have yc2 := fun d os => (by'.regrown d os).cells.2.2.1
        have yc3 := fun d os => (by'.regrown d os).cells.2.2.2
        refine wp_region_quiet_below (by kernel_rfl) (by kernel_rfl) ?_
        repeat (quiet_step (exact cN _ _))
        refine wpQuiet_nil ?_
        intro _ hw'
        obtain ⟨⟨dq, osq⟩, hw''⟩ := hw'
        subst hw''
        go_wp2_with fail
        refine ⟨⟨n + 1, t, rfl, by omega, by omega, hS9.below (below_regrown WB dq osq), ⟨hO10.v.regrown dq osq, hO10.x.regrown dq osq, hO10.p.regrown dq osq, hO10.q.regrown dq osq⟩⟩, ?_⟩
        show len - ((n : Int) + 1).toNat < len - (n : Int).toNat
        omega
      · refine (k_resQ ha (by omega) hS).mono ?_
        rintro en W6 ⟨rfl, hS7, hz7, hV7⟩
        have hO7 := hO.kept hV7
        obtain ⟨p0, p1, p2, p3⟩ := hO7.p.cells
        go_wp2_with fail
        refine (k_stP ha (t := t) (by omega) hS7).mono ?_
        rintro en W8 ⟨rfl, hS8, hz8, hV8⟩
        unfold vNV
        have hO9 := hO7.kept hV8
        have hS9 := hS8.box' (.cells #[.int .i64 (nk a.vk), .int .i64 (ni a.vk a.vn), .string (ns a.vk a.vs), .int .i64 0] 23 (0, 0))
        have by' := box_new W8 (nk a.vk) (ni a.vk a.vn) 0 (ns a.vk a.vs)
        have hO10 : Own a a.w0.heap.size (a.w0.heap.size + 1) rp rq (W8.alloc (.cells #[.int .i64 (nk a.vk), .int .i64 (ni a.vk a.vn), .string (ns a.vk a.vs), .int .i64 0] 23 (0, 0))) := ⟨box_alloc hO9.v _, box_alloc hO9.x _, box_alloc hO9.p _, box_alloc hO9.q _⟩
        go_wp2_with fail
        generalize W8.heap.size = ry at *
        generalize W8.alloc (.cells #[.int .i64 (nk a.vk), .int .i64 (ni a.vk a.vn), .string (ns a.vk a.vs), .int .i64 0] 23 (0, 0)) = WB at *
        have cN := k_normR ha hS9
        have vc0 := fun d os => (hO10.v.regrown d os).cells.1
        have vc1 := fun d os => (hO10.v.regrown d os).cells.2.1
        have vc2 := fun d os => (hO10.v.regrown d os).cells.2.2.1
        have vc3 := fun d os => (hO10.v.regrown d os).cells.2.2.2
        have yc0 := fun d os => (by'.regrown d os).cells.1
        have yc1 := fun d os => (by'.regrown d os).cells.2.1
        have yc2 := fun d os => (by'.regrown d os).cells.2.2.1
        have yc3 := fun d os => (by'.regrown d os).cells.2.2.2
        refine wp_region_quiet_below (by kernel_rfl) (by kernel_rfl) ?_
        repeat (quiet_step (exact cN _ _))
        refine wpQuiet_nil ?_
        intro _ hw'
        obtain ⟨⟨dq, osq⟩, hw''⟩ := hw'
        subst hw''
        go_wp2_with fail
        refine ⟨⟨n + 1, t, rfl, by omega, by omega, hS9.below (below_regrown WB dq osq), ⟨hO10.v.regrown dq osq, hO10.x.regrown dq osq, hO10.p.regrown dq osq, hO10.q.regrown dq osq⟩⟩, ?_⟩
        show len - ((n : Int) + 1).toNat < len - (n : Int).toNat
        omega
      · refine (k_then ha hS (by omega)).mono ?_
        rintro en W6 ⟨⟨xx, rfl⟩, hS7, hz7, hV7⟩
        have hO7 := hO.kept hV7
        obtain ⟨p0, p1, p2, p3⟩ := hO7.p.cells
        go_wp2_with fail
        refine (k_stP ha (t := t + 1) (by omega) hS7).mono ?_
        rintro en W8 ⟨rfl, hS8, hz8, hV8⟩
        unfold vNV
        have hO9 := hO7.kept hV8
        have hS9 := hS8.box' (.cells #[.int .i64 (nk a.vk), .int .i64 (ni a.vk a.vn), .string (ns a.vk a.vs), .int .i64 0] 23 (0, 0))
        have by' := box_new W8 (nk a.vk) (ni a.vk a.vn) 0 (ns a.vk a.vs)
        have hO10 : Own a a.w0.heap.size (a.w0.heap.size + 1) rp rq (W8.alloc (.cells #[.int .i64 (nk a.vk), .int .i64 (ni a.vk a.vn), .string (ns a.vk a.vs), .int .i64 0] 23 (0, 0))) := ⟨box_alloc hO9.v _, box_alloc hO9.x _, box_alloc hO9.p _, box_alloc hO9.q _⟩
        go_wp2_with fail
        generalize W8.heap.size = ry at *
        generalize W8.alloc (.cells #[.int .i64 (nk a.vk), .int .i64 (ni a.vk a.vn), .string (ns a.vk a.vs), .int .i64 0] 23 (0, 0)) = WB at *
        have cN := k_normR ha hS9
        have vc0 := fun d os => (hO10.v.regrown d os).cells.1
        have vc1 := fun d os => (hO10.v.regrown d os).cells.2.1
        have vc2 := fun d os => (hO10.v.regrown d os).cells.2.2.1
        have vc3 := fun d os => (hO10.v.regrown d os).cells.2.2.2
        have yc0 := fun d os => (by'.regrown d os).cells.1
        have yc1 := fun d os => (by'.regrown d os).cells.2.1
        have yc2 := fun d os => (by'.regrown d os).cells.2.2.1
        have yc3 := fun d os => (by'.regrown d os).cells.2.2.2
        refine wp_region_quiet_below (by kernel_rfl) (by kernel_rfl) ?_
        repeat (quiet_step (exact cN _ _))
        refine wpQuiet_nil ?_
        intro _ hw'
        obtain ⟨⟨dq, osq⟩, hw''⟩ := hw'
        subst hw''
        go_wp2_with fail
        refine ⟨⟨n + 1, t + 1, rfl, by omega, by omega, hS9.below (below_regrown WB dq osq), ⟨hO10.v.regrown dq osq, hO10.x.regrown dq osq, hO10.p.regrown dq osq, hO10.q.regrown dq osq⟩⟩, ?_⟩
        show len - ((n : Int) + 1).toNat < len - (n : Int).toNat
        omega
    · have hltz : ¬ (n : Int) < (len : Int) := by omega
      obtain ⟨q0, q1, q2, q3⟩ := hO.q.cells
      go_wp2_with fail
      refine (k_stQ ha (t := t) (by omega) hS).mono ?_
      rintro en W8 ⟨rfl, hS8, hz8, hV8⟩
      have hB8 := (hS8.box' (.cells #[.int .i64 0, .int .i64 0, .string ⟨#[]⟩, .int .i64 0] 23 (0, 0))).blw
      obtain ⟨y0, y1, y2, y3⟩ := (box_new W8 0 0 0 ⟨#[]⟩).cells
      go_wp2
      go_ret
      exact ⟨rfl, hB8⟩
#print axioms skel
end Go.Proofs.YtmhbagaljonheaaGreatDoor
