/- What the small runs say of every real call: no value is a promise, a function or a suspended call. -/
import Derived.Test.YtmhbagaljonheaaGreatDoorRunC
namespace Go.Proofs.YtmhbagaljonheaaGreatDoor
open Go Go.Ev
set_option maxRecDepth 100000

theorem sat5 {g : Nat → Int} {p0 p1 p2 p3 p4 : Int × Int} (b0 : p0.1 ≤ g 0 ∧ g 0 ≤ p0.2) (b1 : p1.1 ≤ g 1 ∧ g 1 ≤ p1.2) (b2 : p2.1 ≤ g 2 ∧ g 2 ≤ p2.2)
    (b3 : p3.1 ≤ g 3 ∧ g 3 ≤ p3.2) (b4 : p4.1 ≤ g 4 ∧ g 4 ≤ p4.2) : SatI g [p0, p1, p2, p3, p4] := by
  intro s lo hi h
  match s, h with
  | 0, h => cases h; exact b0
  | 1, h => cases h; exact b1
  | 2, h => cases h; exact b2
  | 3, h => cases h; exact b3
  | 4, h => cases h; exact b4
  | n + 5, h => simp at h
theorem lin_of {σ : Sg} {e : Env} {k : IntKind} {c : Int} {ts : Ts} {a : Int} (h : lfVal σ.i c ts = a) : VR σ e (.lin k c ts) (.int k a) := by
  rw [← h]; exact .lin k c ts
theorem sym_of {σ : Sg} {e : Env} {k : IntKind} {j : Nat} {x : Int} (h : σ.i j = x) : VR σ e (.sym k j) (.int k x) := by
  rw [← h]; exact .sym k j

theorem looks {f : FuncId} {fn : Func} {r : CV} (hfn : Tryz.prog.funcs[f]? = some fn) (hbody : fn.body.isSome = true) (hr : plainCV r = true) (H : Looks f r) (k n x : Int) (s : ByteArray) (ck : -9223372036854775808 ≤ k ∧ k ≤ 9223372036854775807)
    (cn : -9223372036854775808 ≤ n ∧ n ≤ 9223372036854775807) (cx : -9223372036854775808 ≤ x ∧ x ≤ 9223372036854775807) (hs : s.size ≤ 9223372036854775807)
    {σ : Sg} {e : Env} {m : M} {w : World} (hR : RL σ G0 e m w) (hF : IsF heapF m.h) {p : Ev.Place} (hp : e 100 = some p) :
    Calls Tryz.prog f #[.pointer (some ⟨p.r, 0 + p.d, none⟩), .agg #[.int .i64 k, .int .i64 n, .string s, .int .i64 x]] w fun en w' => ∃ v', en = .returned v' ∧ VR σ e r v' ∧ RL σ G0 e m w' ∧ Kept e m w e m w' := by
  obtain ⟨cb, hcb⟩ := Option.isSome_iff_exists.1 hbody
  have fin : ∀ (q0 q3 q4 : Int) {y z : CV} {p0 p3 p4 : Int × Int}, (runV f [.ptr 100 0, .agg [y, .sym .i64 1, .ssym 0 2, z]] ⟨[p0, (-9223372036854775808, 9223372036854775807), (0, 9223372036854775807), p3, p4], []⟩ r).val = true →
      (∀ τ : Sg, τ.i 0 = q0 → τ.i 3 = q3 → τ.i 4 = q4 → VR τ (e.only inN) y (.int .i64 k) ∧ VR τ (e.only inN) z (.int .i64 x)) → p0.1 ≤ q0 ∧ q0 ≤ p0.2 → p3.1 ≤ q3 ∧ q3 ≤ p3.2 → p4.1 ≤ q4 ∧ q4 ≤ p4.2 →
      Calls Tryz.prog f #[.pointer (some ⟨p.r, 0 + p.d, none⟩), .agg #[.int .i64 k, .int .i64 n, .string s, .int .i64 x]] w fun en w' => ∃ v', en = .returned v' ∧ VR σ e r v' ∧ RL σ G0 e m w' ∧ Kept e m w e m w' := by
    intro q0 q3 q4 y z p0 p3 p4 h hyz h0 h3 h4
    obtain ⟨τ, g0, g1, g2, g3, g4, t0, fx, pnn⟩ : ∃ τ : Sg, τ.i 0 = q0 ∧ τ.i 1 = n ∧ τ.i 2 = (s.size : Int) ∧ τ.i 3 = q3 ∧ τ.i 4 = q4 ∧ τ.s 0 = s ∧ (∀ r, τ.fx r = none) ∧ (∀ r, τ.pn r = none) :=
      ⟨{ i := fun j => match j with | 0 => q0 | 1 => n | 2 => (s.size : Int) | 3 => q3 | _ => q4, s := fun _ => s }, rfl, rfl, rfl, rfl, rfl, rfl, (fun _ => rfl), fun _ => rfl⟩
    have vs : VR τ (e.only inN) (.ssym 0 2) (.string s) := by
      have := VR.ssym (σ := τ) (e := e.only inN) 0 2 (by rw [t0, g2])
      rwa [t0] at this
    have hp' : VR τ (e.only inN) (.ptr 100 0) (.pointer (some ⟨p.r, 0 + p.d, none⟩)) := .ptr (by rw [Env.only_in rfl]; exact hp)
    refine sum_calls heapOk noCount extFact hfn hcb (runV_at h) hr (σ' := τ) ⟨sat5 ?_ ?_ ?_ ?_ ?_, fun x hx => by cases hx⟩ fx (fun _ => pnn _) hR hF
      (LR.cons hp' (LR.cons (.agg rfl (LR.cons (hyz τ g0 g3 g4).1 (LR.cons (sym_of g1) (LR.cons vs (LR.cons (hyz τ g0 g3 g4).2 LR.nil)))).2) LR.nil))
    · rw [g0]; exact h0
    · rw [g1]; exact cn
    · rw [g2]; simp only []; omega
    · rw [g3]; exact h3
    · rw [g4]; exact h4
  rcases (by omega : k < 5 ∨ 5 < k ∨ k = 5) with hk | hk | hk
  · exact fin k x 0 H.1 (fun τ h0 h3 _ => ⟨sym_of h0, sym_of h3⟩) (by simp only []; omega) cx (by decide)
  · exact fin k x 0 H.2.1 (fun τ h0 h3 _ => ⟨sym_of h0, sym_of h3⟩) (by simp only []; omega) cx (by decide)
  subst hk
  by_cases hlo : x < 1000
  · exact fin 0 x 0 H.2.2.1 (fun τ _ h3 _ => ⟨.int _ _, sym_of h3⟩) (by decide) (by simp only []; omega) (by decide)
  by_cases hun : (x - 1000) % 7 = 0
  · by_cases hhi : 1084 ≤ x
    · exact fin 0 ((x - 1000) / 7) 0 H.2.2.2.2.1 (fun τ _ h3 _ => ⟨.int _ _, lin_of (by simp only [lfVal, tsVal, h3]; omega)⟩) (by decide) (by simp only []; omega) (by decide)
    · rcases (by omega : x = 1000 ∨ x = 1007 ∨ x = 1014 ∨ x = 1021 ∨ x = 1028 ∨ x = 1035 ∨ x = 1042 ∨ x = 1049 ∨ x = 1056 ∨ x = 1063 ∨ x = 1070 ∨ x = 1077) with hx | hx | hx | hx | hx | hx | hx | hx | hx | hx | hx | hx
      · subst hx; exact fin 0 0 0 H.2.2.2.2.2.1 (fun τ _ _ _ => ⟨.int _ _, .int _ _⟩) (by decide) (by decide) (by decide)
      · subst hx; exact fin 0 0 0 H.2.2.2.2.2.2.1 (fun τ _ _ _ => ⟨.int _ _, .int _ _⟩) (by decide) (by decide) (by decide)
      · subst hx; exact fin 0 0 0 H.2.2.2.2.2.2.2.1 (fun τ _ _ _ => ⟨.int _ _, .int _ _⟩) (by decide) (by decide) (by decide)
      · subst hx; exact fin 0 0 0 H.2.2.2.2.2.2.2.2.1 (fun τ _ _ _ => ⟨.int _ _, .int _ _⟩) (by decide) (by decide) (by decide)
      · subst hx; exact fin 0 0 0 H.2.2.2.2.2.2.2.2.2.1 (fun τ _ _ _ => ⟨.int _ _, .int _ _⟩) (by decide) (by decide) (by decide)
      · subst hx; exact fin 0 0 0 H.2.2.2.2.2.2.2.2.2.2.1 (fun τ _ _ _ => ⟨.int _ _, .int _ _⟩) (by decide) (by decide) (by decide)
      · subst hx; exact fin 0 0 0 H.2.2.2.2.2.2.2.2.2.2.2.1 (fun τ _ _ _ => ⟨.int _ _, .int _ _⟩) (by decide) (by decide) (by decide)
      · subst hx; exact fin 0 0 0 H.2.2.2.2.2.2.2.2.2.2.2.2.1 (fun τ _ _ _ => ⟨.int _ _, .int _ _⟩) (by decide) (by decide) (by decide)
      · subst hx; exact fin 0 0 0 H.2.2.2.2.2.2.2.2.2.2.2.2.2.1 (fun τ _ _ _ => ⟨.int _ _, .int _ _⟩) (by decide) (by decide) (by decide)
      · subst hx; exact fin 0 0 0 H.2.2.2.2.2.2.2.2.2.2.2.2.2.2.1 (fun τ _ _ _ => ⟨.int _ _, .int _ _⟩) (by decide) (by decide) (by decide)
      · subst hx; exact fin 0 0 0 H.2.2.2.2.2.2.2.2.2.2.2.2.2.2.2.1 (fun τ _ _ _ => ⟨.int _ _, .int _ _⟩) (by decide) (by decide) (by decide)
      · subst hx; exact fin 0 0 0 H.2.2.2.2.2.2.2.2.2.2.2.2.2.2.2.2 (fun τ _ _ _ => ⟨.int _ _, .int _ _⟩) (by decide) (by decide) (by decide)
  · exact fin 0 ((x - 1000) / 7) ((x - 1000) % 7) H.2.2.2.1 (fun τ _ h3 h4 => ⟨.int _ _, lin_of (by simp only [lfVal, tsVal, h3, h4]; omega)⟩) (by decide) (by simp only []; omega) (by simp only []; omega)
#print axioms looks
end Go.Proofs.YtmhbagaljonheaaGreatDoor
