/- The table of the lifted forms, and a law's run over it. -/
import Derived.Test.YtbckjaoljeimgaaGreatDoorRunJ0
import Derived.Test.YtbckjaoljeimgaaGreatDoorRunJ1
import Derived.Test.YtbckjaoljeimgaaGreatDoorRunJ2
import Derived.Test.YtbckjaoljeimgaaGreatDoorRunJ3
namespace Go.Proofs.YtbckjaoljeimgaaGreatDoor
open Go Go.Ev
set_option maxRecDepth 1000000
def DirAll : Nat → List (Option FF) → Prop
  | _, [] => True
  | n, none :: l => DirAll (n + 1) l
  | n, some x :: l => fb n = x ∧ DirAll (n + 1) l
theorem DirAll.append : ∀ (n : Nat) (l l' : List (Option FF)), DirAll n l → DirAll (n + l.length) l' → DirAll n (l ++ l')
  | n, [], l', _, h => h
  | n, none :: l, l', h, h' => DirAll.append (n + 1) l l' h (by have e : n + (none :: l : List (Option FF)).length = n + 1 + l.length := by simp only [List.length_cons]; omega
                                                                rw [e] at h'; exact h')
  | n, some x :: l, l', h, h' => ⟨h.1, DirAll.append (n + 1) l l' h.2 (by have e : n + (some x :: l : List (Option FF)).length = n + 1 + l.length := by simp only [List.length_cons]; omega
                                                                          rw [e] at h'; exact h')⟩
theorem DirAll.get : ∀ (n : Nat) (l : List (Option FF)) (i : Nat) (x : FF), DirAll n l → l[i]? = some (some x) → fb (n + i) = x
  | n, [], i, x, _, h => by simp at h
  | n, none :: l, 0, x, _, h => by simp at h
  | n, none :: l, i + 1, x, hl, h => by have := DirAll.get (n + 1) l i x hl (by simpa using h); have e : n + 1 + i = n + (i + 1) := by omega
                                        rw [e] at this; exact this
  | n, some y :: l, 0, x, hl, h => by simp at h; subst h; exact hl.1
  | n, some y :: l, i + 1, x, hl, h => by have := DirAll.get (n + 1) l i x hl.2 (by simpa using h); have e : n + 1 + i = n + (i + 1) := by omega
                                          rw [e] at this; exact this
theorem hb {f np : Nat} {an : AN} {x : FF} (h : lowO Tryz.prog tyI fnF glo0 drawn 1000000 f np an = some x) : fb f = x := lowO_eq _ _ _ _ _ _ h
noncomputable def tb0 : List (Option FF) := [none, none, none, none, none, none, none, some F7, some F8, some F9, none, none, some F12, none, none, none, some F16, none, none, none, none, none, none, some F23, some F24, none, some F26, none, none, none, some F30, some F31, none, some F33, none, none, some F36, some F37, some F38, some F39, none, none, some F42, none]
theorem tb0_ok : DirAll 0 tb0 := ⟨hb h7, hb h8, hb h9, hb h12, hb h16, hb h23, hb h24, hb h26, hb h30, hb h31, hb h33, hb h36, hb h37, hb h38, hb h39, hb h42, trivial⟩
noncomputable def tb44 : List (Option FF) := [none, none, none, none, some F48, none, none, none, some F52, none, none, none, some F56, none, none, none, none, none, none, none, none, some F65, none, none, none, none, none, none, some F72, none, none, none, none, none, some F78, some F79, some F80, some F81, some F82, none, none, some F85, none, none]
theorem tb44_ok : DirAll 44 tb44 := ⟨hb h48, hb h52, hb h56, hb h65, hb h72, hb h78, hb h79, hb h80, hb h81, hb h82, hb h85, trivial⟩
noncomputable def tb88 : List (Option FF) := [none, none, none, none, none, some F93, none, none, none, none, none, none, none, none, none, none, none, some F105, none, none, none, none, none, none, none, none, none, none, none, none, none, none, none, none, none, none, none, none, none, none, none, none, none, some F131]
theorem tb88_ok : DirAll 88 tb88 := ⟨hb h93, hb h105, hb h131, trivial⟩
noncomputable def tb132 : List (Option FF) := [none, none, none, none, none, some F137, none, none, some F140, some F141, some F142, none, some F144, none, none, none, some F148, some F149, none, none, none, none, none, none, some F156, none, none, none, none, none, none, none, none, some F165, none, none, none, none, none, none, some F172, none, none, none]
theorem tb132_ok : DirAll 132 tb132 := ⟨hb h137, hb h140, hb h141, hb h142, hb h144, hb h148, hb h149, hb h156, hb h165, hb h172, trivial⟩
noncomputable def tb176 : List (Option FF) := [none, some F177, none, none, none, some F181, none, none, none, none, none, none, none, none, some F190, none, none, none, none, none, none, none, none, none, none, some F201, none, none, none, none, none, none, none, none, none, none, none, none, none, none, none, none, some F218, some F219]
theorem tb176_ok : DirAll 176 tb176 := ⟨hb h177, hb h181, hb h190, hb h201, hb h218, hb h219, trivial⟩
noncomputable def tb220 : List (Option FF) := [none, none, none, none, none, none, none, none, none, none, none, none, none, none, none, some F235, some F236, some F237, some F238, some F239, none, none, none, none, none, none, none, none, some F248, some F249, none, none, none, none, none, some F255, none, none, none, none, none, none, none, none]
theorem tb220_ok : DirAll 220 tb220 := ⟨hb h235, hb h236, hb h237, hb h238, hb h239, hb h248, hb h249, hb h255, trivial⟩
noncomputable def tb264 : List (Option FF) := [none, none, none, none, none, none, none, none, none, none, none, some F275, some F276, some F277, none, none, some F280, none, some F282, none, none, none, none, none, none, none, none, none, none, none, none, none, some F296, some F297, none, some F299, none, none, none, none, none, some F305, some F306, none]
theorem tb264_ok : DirAll 264 tb264 := ⟨hb h275, hb h276, hb h277, hb h280, hb h282, hb h296, hb h297, hb h299, hb h305, hb h306, trivial⟩
noncomputable def tb308 : List (Option FF) := [none, none, none, none, none, none, none, none, none, none, none, none, none, none, none, none, none, none, none, none, none, some F329, none, none, none, none, none, none, none, none, none, none, none, none, none, none, none, none, none, none, none, none, none, none]
theorem tb308_ok : DirAll 308 tb308 := ⟨hb h329, trivial⟩
noncomputable def tb352 : List (Option FF) := [none, none, none, none, none, none, none, none, none, none, none, none, none, none, none, none, none, none, none]
theorem tb352_ok : DirAll 352 tb352 := trivial
noncomputable def tbl : List (Option FF) := tb0 ++ (tb44 ++ (tb88 ++ (tb132 ++ (tb176 ++ (tb220 ++ (tb264 ++ (tb308 ++ (tb352))))))))
theorem tbl_ok : DirAll 0 tbl := (DirAll.append 0 _ _ tb0_ok (DirAll.append 44 _ _ tb44_ok (DirAll.append 88 _ _ tb88_ok (DirAll.append 132 _ _ tb132_ok (DirAll.append 176 _ _ tb176_ok (DirAll.append 220 _ _ tb220_ok (DirAll.append 264 _ _ tb264_ok (DirAll.append 308 _ _ tb308_ok tb352_ok))))))))
noncomputable def tblT : Tr (Option FF) := ofList tbl
noncomputable def dirT (f : FuncId) : Option FF := match tblT.get? f with | some o => o | none => none
theorem dirT_ok : DirOk Tryz.prog tyI fnF glo0 drawn 1000000 dirT := by
  intro f x h
  unfold dirT at h
  have e : tblT.get? f = tbl[f]? := ofList_get tbl f
  rw [e] at h
  cases hx : tbl[f]? with
  | none => rw [hx] at h; cases h
  | some o =>
    rw [hx] at h
    dsimp only at h
    subst h
    have := DirAll.get 0 tbl f x tbl_ok hx
    rw [Nat.zero_add] at this
    exact this
end Go.Proofs.YtbckjaoljeimgaaGreatDoor
