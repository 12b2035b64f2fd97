/- BuiltinNames hands back true at every input: the evaluator's runs, put together. Condition: strings.asciiSpace and strconv.ErrSyntax read as they are laid. -/
import Derived.Test.YtdbhonkahlcdoaaGreatDoorRunA
import Derived.Test.YtdbhonkahlcdoaaGreatDoorNamesRx
import Derived.Test.YtdbhonkahlcdoaaGreatDoorNamesRy
import Derived.Test.YtdbhonkahlcdoaaGreatDoorNamesRz
namespace Go.Proofs.YtdbhonkahlcdoaaGreatDoor.builtinNames
open Go Go.Ev
set_option maxRecDepth 100000
theorem fits_i64 {a : Int} (h : (Lit.int .i64 a).wf = true) : -9223372036854775808 ≤ a ∧ a ≤ 9223372036854775807 := by
  have e1 : IntKind.min .i64 = -9223372036854775808 := by kernel_rfl
  have e2 : IntKind.max .i64 = 9223372036854775807 := by kernel_rfl
  simpa [Lit.wf, e1, e2] using h
theorem sat2 {g : Nat → Int} {p0 p1 : Int × Int} (b0 : p0.1 ≤ g 0 ∧ g 0 ≤ p0.2) (b1 : p1.1 ≤ g 1 ∧ g 1 ≤ p1.2) : SatI g [p0, p1] := by
  intro s lo hi h
  match s, h with
  | 0, h => cases h; exact b0
  | 1, h => cases h; exact b1
  | n + 2, h => simp at h
theorem none_out (id : Int) (h : id < 10 ∨ 84 < id) : nameOf id = ⟨#[]⟩ := by
  rcases Int.lt_or_le id 0 with hn | hp
  · unfold nameOf
    rw [if_pos hn]
  · obtain ⟨m, rfl⟩ : ∃ m : Nat, id = Int.ofNat m := ⟨id.toNat, by show id = ((id.toNat : Nat) : Int); omega⟩
    have hm : m < 10 ∨ 84 < m := by
      change ((m : Nat) : Int) < 10 ∨ 84 < ((m : Nat) : Int) at h
      omega
    have e := nameCV_ok m
    have e0 : nameCV m = .str 0 0 := by
      rcases hm with h | h
      · have : Nat.blt m 10 = true := by simpa [Nat.blt_eq] using h
        unfold nameCV
        rw [this]
      · have hb : Nat.blt m 10 = false := by
          cases hq : Nat.blt m 10 with
          | false => rfl
          | true => have : m < 10 := by simpa [Nat.blt_eq] using hq
                    omega
        unfold nameCV
        rw [hb]
        rcases Nat.lt_or_ge m 90 with h' | h'
        · rcases (by omega : m = 85 ∨ m = 86 ∨ m = 87 ∨ m = 88 ∨ m = 89) with rfl | rfl | rfl | rfl | rfl <;> rfl
        · have : nameL[m - 10]? = none := List.getElem?_eq_none (by show 80 ≤ m - 10; omega)
          simp only [this]
    rw [e0] at e
    unfold strOf at e
    injection e with e1 e2
    have : (nameOf (Int.ofNat m)).data = #[] := Array.eq_empty_of_size_eq_zero e1.symm
    cases hx : nameOf (Int.ofNat m) with
    | mk d => rw [hx] at this; rw [show d = #[] from this]
theorem ans2 {σ : Sg} {w0 : World} (hL : Libs w0) (hfx : ∀ r o, fixed r = true → w0.heap[r]? = some o → σ.fx r = some o) (hb : -9223372036854775808 ≤ σ.i 0 ∧ σ.i 0 ≤ 9223372036854775807) (ho : σ.i 0 < 10 ∨ 84 < σ.i 0) : AnsOk Tryz.prog σ A2 := by
  intro g ans args v hg hv e w vs kd c cs hl hx hk
  unfold A2 at hg
  split at hg
  · rename_i h
    obtain rfl : g = 13 := by simpa using h
    obtain rfl := Option.some.inj hg
    unfold ansName2 at hv
    split at hv
    · obtain rfl := Option.some.inj hv
      have libs : Libs w := hL.of_fx fun r o hr h => hx r o (hfx r o hr h)
      obtain ⟨u, us, hu, r1, r2⟩ := hl.cons_inv
      obtain rfl := r2.nil_inv
      have hvs : vs = #[u] := by apply Array.ext'; exact hu
      subst hvs
      cases r1
      have := name_goes (σ := σ) noCount hb e w libs.sp kd c cs hk
      rw [none_out _ ho] at this
      exact this
    · exact ans0 noCount hL hfx 13 ansName args v rfl hv e w vs kd c cs hl hx hk
  · exact ans1 hL hfx g ans args v hg hv e w vs kd c cs hl hx hk
theorem walk (a0 a1 : Int) (w0 : (Lit.int .i64 a0).wf = true) (w1 : (Lit.int .i64 a1).wf = true) (w : World) (hL : Libs w) :
    Calls Tryz.prog 5 #[.int .i64 a0, .int .i64 a1] w fun e w' => e = .returned (.bool true) ∧ w.keptBut w' (fun _ => False) := by
  have c0 := fits_i64 w0
  have c1 := fits_i64 w1
  clear w0 w1
  obtain ⟨cb, hbody⟩ : ∃ cb, Tryz.f5.body = some cb := Option.isSome_iff_exists.1 (by kernel_rfl)
  obtain ⟨σ, g0, g1, fx, pn⟩ : ∃ σ : Sg, σ.i 0 = a0 ∧ σ.i 1 = a1 ∧ (∀ r, σ.fx r = if fixed r = true then w.heap[r]? else none) ∧ ∀ b, σ.pn b = none :=
    ⟨{ i := fun j => match j with | 0 => a0 | _ => a1, s := fun _ => ByteArray.empty, fx := fun r => if fixed r = true then w.heap[r]? else none }, rfl, rfl, fun _ => rfl, fun _ => rfl⟩
  have hx : ∀ r o, σ.fx r = some o → w.heap[r]? = some o := by
    intro r o h
    rw [fx] at h
    split at h
    · exact h
    · cases h
  have hfx : ∀ r o, fixed r = true → w.heap[r]? = some o → σ.fx r = some o := fun r o hr h => by rw [fx, if_pos hr]; exact h
  have sy : ∀ {j : Nat} {x : Int}, σ.i j = x → VR σ (fun _ => none) (.sym .i64 j) (.int .i64 x) := fun h => by rw [← h]; exact .sym _ _
  have fin : ∀ (A : AnsT) (x : CV) (i b : Int × Int) (t : Res), nm A x i b = t → t.val = true → AnsOk Tryz.prog σ A → VR σ (fun _ => none) x (.int .i64 a0) → i.1 ≤ a0 ∧ a0 ≤ i.2 → b.1 ≤ a1 ∧ a1 ≤ b.2 →
      Calls Tryz.prog 5 #[.int .i64 a0, .int .i64 a1] w fun e w' => e = .returned (.bool true) ∧ w.keptBut w' (fun _ => False) := fun A x i b t h ht hA hv hi hb =>
    law_calls (σ := σ) Tryz.func5 hbody (vt h ht) hA ⟨sat2 (by rw [g0]; exact hi) (by rw [g1]; exact hb), fun x hx => by cases hx⟩ w hx pn _ (LR.cons hv (LR.cons (sy g1) LR.nil))
  have q1 : AnsOk Tryz.prog σ A1 := ans1 hL hfx
  have q2 : a0 < 10 ∨ 84 < a0 → AnsOk Tryz.prog σ A2 := fun h => ans2 hL hfx (by rw [g0]; exact c0) (by rw [g0]; exact h)
  have cl : (a0 ≤ 9) ∨ (85 ≤ a0) ∨ (10 ≤ a0 ∧ a0 ≤ 37) ∨ (40 ≤ a0 ∧ a0 ≤ 48) ∨ (50 ≤ a0 ∧ a0 ≤ 58) ∨ (60 ≤ a0 ∧ a0 ≤ 84) ∨ a0 = 38 ∨ a0 = 39 ∨ a0 = 49 ∨ a0 = 59 := by omega
  rcases (by omega : a1 ≤ 1 ∨ (2 ≤ a1 ∧ a1 ≤ 999) ∨ 1000 ≤ a1) with h1 | h1 | h1
  · obtain ⟨r0, r1, r2, r3, r4, r5, r6, r7, r8, r9⟩ := names_x
    rcases cl with h | h | h | h | h | h | h | h | h | h
    · exact fin _ _ _ _ _ r0 rfl (q2 (by omega)) (sy g0) (by simp only []; omega) (by simp only []; omega)
    · exact fin _ _ _ _ _ r1 rfl (q2 (by omega)) (sy g0) (by simp only []; omega) (by simp only []; omega)
    · exact fin _ _ _ _ _ r2 rfl q1 (sy g0) (by simp only []; omega) (by simp only []; omega)
    · exact fin _ _ _ _ _ r3 rfl q1 (sy g0) (by simp only []; omega) (by simp only []; omega)
    · exact fin _ _ _ _ _ r4 rfl q1 (sy g0) (by simp only []; omega) (by simp only []; omega)
    · exact fin _ _ _ _ _ r5 rfl q1 (sy g0) (by simp only []; omega) (by simp only []; omega)
    · subst h; exact fin _ _ _ _ _ r6 rfl q1 (.int _ _) (by decide) (by simp only []; omega)
    · subst h; exact fin _ _ _ _ _ r7 rfl q1 (.int _ _) (by decide) (by simp only []; omega)
    · subst h; exact fin _ _ _ _ _ r8 rfl q1 (.int _ _) (by decide) (by simp only []; omega)
    · subst h; exact fin _ _ _ _ _ r9 rfl q1 (.int _ _) (by decide) (by simp only []; omega)
  · obtain ⟨r0, r1, r2, r3, r4, r5, r6, r7, r8, r9⟩ := names_y
    rcases cl with h | h | h | h | h | h | h | h | h | h
    · exact fin _ _ _ _ _ r0 rfl (q2 (by omega)) (sy g0) (by simp only []; omega) (by simp only []; omega)
    · exact fin _ _ _ _ _ r1 rfl (q2 (by omega)) (sy g0) (by simp only []; omega) (by simp only []; omega)
    · exact fin _ _ _ _ _ r2 rfl q1 (sy g0) (by simp only []; omega) (by simp only []; omega)
    · exact fin _ _ _ _ _ r3 rfl q1 (sy g0) (by simp only []; omega) (by simp only []; omega)
    · exact fin _ _ _ _ _ r4 rfl q1 (sy g0) (by simp only []; omega) (by simp only []; omega)
    · exact fin _ _ _ _ _ r5 rfl q1 (sy g0) (by simp only []; omega) (by simp only []; omega)
    · subst h; exact fin _ _ _ _ _ r6 rfl q1 (.int _ _) (by decide) (by simp only []; omega)
    · subst h; exact fin _ _ _ _ _ r7 rfl q1 (.int _ _) (by decide) (by simp only []; omega)
    · subst h; exact fin _ _ _ _ _ r8 rfl q1 (.int _ _) (by decide) (by simp only []; omega)
    · subst h; exact fin _ _ _ _ _ r9 rfl q1 (.int _ _) (by decide) (by simp only []; omega)
  · obtain ⟨r0, r1, r2, r3, r4, r5, r6, r7, r8, r9⟩ := names_z
    rcases cl with h | h | h | h | h | h | h | h | h | h
    · exact fin _ _ _ _ _ r0 rfl (q2 (by omega)) (sy g0) (by simp only []; omega) (by simp only []; omega)
    · exact fin _ _ _ _ _ r1 rfl (q2 (by omega)) (sy g0) (by simp only []; omega) (by simp only []; omega)
    · exact fin _ _ _ _ _ r2 rfl q1 (sy g0) (by simp only []; omega) (by simp only []; omega)
    · exact fin _ _ _ _ _ r3 rfl q1 (sy g0) (by simp only []; omega) (by simp only []; omega)
    · exact fin _ _ _ _ _ r4 rfl q1 (sy g0) (by simp only []; omega) (by simp only []; omega)
    · exact fin _ _ _ _ _ r5 rfl q1 (sy g0) (by simp only []; omega) (by simp only []; omega)
    · subst h; exact fin _ _ _ _ _ r6 rfl q1 (.int _ _) (by decide) (by simp only []; omega)
    · subst h; exact fin _ _ _ _ _ r7 rfl q1 (.int _ _) (by decide) (by simp only []; omega)
    · subst h; exact fin _ _ _ _ _ r8 rfl q1 (.int _ _) (by decide) (by simp only []; omega)
    · subst h; exact fin _ _ _ _ _ r9 rfl q1 (.int _ _) (by decide) (by simp only []; omega)
#print axioms walk
end Go.Proofs.YtdbhonkahlcdoaaGreatDoor.builtinNames
