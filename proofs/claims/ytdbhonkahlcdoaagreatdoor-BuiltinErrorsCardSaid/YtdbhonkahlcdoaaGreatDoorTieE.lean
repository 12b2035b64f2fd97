/- No two of its rows are one. -/
import Derived.Test.YtdbhonkahlcdoaaGreatDoorRows
import Derived.LaidByTextLater
import Derived.SevenTiedAt
import Derived.ProofKit
import Derived.OpenShut
import Derived.Test.YtdbhonkahlcdoaaGreatDoorTieA
namespace Go.Proofs.YtdbhonkahlcdoaaGreatDoor
open Go
set_option maxRecDepth 100000
/-- a list of places by blocks, each block's in their order -/
def chkP (seen : List Nat) (b last : Nat) : List MemPlace → Bool
  | [] => true
  | .cell b' o' :: l => match Nat.beq b' b with
    | true => match Nat.blt last o' with
      | true => chkP seen b o' l
      | false => false
    | false => match seen.all fun x => !Nat.beq x b' with
      | true => chkP (b :: seen) b' o' l
      | false => false
  | .map _ :: _ => false
def chkL : List MemPlace → Bool
  | [] => true
  | .cell b o :: l => chkP [] b o l
  | .map _ :: _ => false
theorem chkP_ok : ∀ {l : List MemPlace} {seen : List Nat} {b last : Nat}, b ∉ seen → chkP seen b last l = true → (∀ p ∈ l, ∃ b' o', p = .cell b' o' ∧ (b' = b → last < o') ∧ b' ∉ seen) ∧ l.Nodup
  | [], _, _, _, _, _ => ⟨fun p h => (by cases h), List.nodup_nil⟩
  | .map _ :: _, _, _, _, _, h => by cases h
  | .cell b' o' :: l, seen, b, last, hs, h => by
    unfold chkP at h
    split at h
    · rename_i hb
      have hb : b' = b := by simpa using hb
      subst hb
      split at h
      · rename_i ho
        have ho : last < o' := by simpa [Nat.blt_eq] using ho
        obtain ⟨q1, q2⟩ := chkP_ok hs h
        refine ⟨fun p hp => ?_, List.nodup_cons.2 ⟨fun hm => ?_, q2⟩⟩
        · rcases List.mem_cons.1 hp with rfl | hp
          · exact ⟨b', o', rfl, fun _ => ho, hs⟩
          · obtain ⟨b1, o1, e1, h1, h2⟩ := q1 p hp
            exact ⟨b1, o1, e1, fun he => Nat.lt_trans ho (h1 he), h2⟩
        · obtain ⟨b1, o1, e1, h1, h2⟩ := q1 _ hm
          injection e1 with e1 e2
          have := h1 e1.symm
          omega
      · cases h
    · rename_i hb
      have hb : b' ≠ b := fun he => by subst he; simp at hb
      split at h
      · rename_i hn
        have hn : b' ∉ seen := fun hm => by
          have := List.all_eq_true.1 hn b' hm
          simp at this
        obtain ⟨q1, q2⟩ := chkP_ok (seen := b :: seen) (fun hm => by rcases List.mem_cons.1 hm with he | hm; exact hb he; exact hn hm) h
        refine ⟨fun p hp => ?_, List.nodup_cons.2 ⟨fun hm => ?_, q2⟩⟩
        · rcases List.mem_cons.1 hp with rfl | hp
          · exact ⟨b', o', rfl, fun he => absurd he hb, hn⟩
          · obtain ⟨b1, o1, e1, h1, h2⟩ := q1 p hp
            exact ⟨b1, o1, e1, fun he => absurd (he ▸ List.mem_cons_self ..) h2, fun hm => h2 (List.mem_cons_of_mem _ hm)⟩
        · obtain ⟨b1, o1, e1, h1, h2⟩ := q1 _ hm
          injection e1 with e1 e2
          have := h1 e1.symm
          omega
      · cases h
theorem chkL_ok : ∀ {l : List MemPlace}, chkL l = true → l.Nodup
  | [], _ => List.nodup_nil
  | .map _ :: _, h => by cases h
  | .cell b o :: l, h => by
    obtain ⟨q1, q2⟩ := chkP_ok (seen := []) (by simp) h
    refine List.nodup_cons.2 ⟨fun hm => ?_, q2⟩
    obtain ⟨b1, o1, e1, h1, h2⟩ := q1 _ hm
    injection e1 with e1 e2
    have := h1 e1.symm
    omega
theorem t9c (os : Os) (tape : Tape) : (DataW.laidRun Tryz.prog (varsWorld Tryz.prog 400 (varsId Tryz.prog) os tape).memory 8 (tieL.map (·.1))).map (fun x => chkL x.2) = some true := by kernel_rfl
theorem t9a (os : Os) (tape : Tape) : (DataW.laidRun Tryz.prog (varsWorld Tryz.prog 400 (varsId Tryz.prog) os tape).memory 8 (tieL.map (·.1))).map (fun x => decide x.2.Nodup) = some true := by
  have h := t9c os tape
  generalize DataW.laidRun Tryz.prog (varsWorld Tryz.prog 400 (varsId Tryz.prog) os tape).memory 8 (tieL.map (·.1)) = X at h ⊢
  cases X with
  | none => cases h
  | some x =>
    simp only [Option.map_some, Option.some.injEq] at h ⊢
    exact decide_eq_true (chkL_ok h)
end Go.Proofs.YtdbhonkahlcdoaaGreatDoor
