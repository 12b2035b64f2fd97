/- The table of the lifted forms, and a law's run over it. -/
import Derived.Test.YtapognhadfncmaaGreatDoorRunJ0
import Derived.Test.YtapognhadfncmaaGreatDoorRunJ1
import Derived.Test.YtapognhadfncmaaGreatDoorRunJ2
import Derived.Test.YtapognhadfncmaaGreatDoorRunJ3
namespace Go.Proofs.YtapognhadfncmaaGreatDoor
open Go Go.Ev
set_option maxRecDepth 1000000
def DirAll : Nat → List (Option FF) → Prop
  | _, [] => True
  | n, none :: l => DirAll (n + 1) l
  | n, some x :: l => fb n = x ∧ DirAll (n + 1) l
theorem DirAll.append : ∀ (n : Nat) (l l' : List (Option FF)), DirAll n l → DirAll (n + l.length) l' → DirAll n (l ++ l')
  | n, [], l', _, h => h
  | n, none :: l, l', h, h' => DirAll.append (n + 1) l l' h (by have e : n + (none :: l : List (Option FF)).length = n + 1 + l.length := by simp only [List.length_cons]; omega
                                                                rw [e] at h'; exact h')
  | n, some x :: l, l', h, h' => ⟨h.1, DirAll.append (n + 1) l l' h.2 (by have e : n + (some x :: l : List (Option FF)).length = n + 1 + l.length := by simp only [List.length_cons]; omega
                                                                          rw [e] at h'; exact h')⟩
theorem DirAll.get : ∀ (n : Nat) (l : List (Option FF)) (i : Nat) (x : FF), DirAll n l → l[i]? = some (some x) → fb (n + i) = x
  | n, [], i, x, _, h => by simp at h
  | n, none :: l, 0, x, _, h => by simp at h
  | n, none :: l, i + 1, x, hl, h => by have := DirAll.get (n + 1) l i x hl (by simpa using h); have e : n + 1 + i = n + (i + 1) := by omega
                                        rw [e] at this; exact this
  | n, some y :: l, 0, x, hl, h => by simp at h; subst h; exact hl.1
  | n, some y :: l, i + 1, x, hl, h => by have := DirAll.get (n + 1) l i x hl.2 (by simpa using h); have e : n + 1 + i = n + (i + 1) := by omega
                                          rw [e] at this; exact this
theorem hb {f np : Nat} {an : AN} {x : FF} (h : lowO Tryz.prog tyI fnF glo0 drawn 1000000 f np an = some x) : fb f = x := lowO_eq _ _ _ _ _ _ h
noncomputable def tb0 : List (Option FF) := [none, none, none, none, none, none, none, none, none, none, some F10, none, some F12, some F13, some F14, some F15, none, none, some F18, none, none, none, none, none, none, some F25, none, some F27, some F28, some F29, none, some F31, none, none, none, some F35, none, none, some F38, none, none, some F41, none, none]
theorem tb0_ok : DirAll 0 tb0 := ⟨hb h10, hb h12, hb h13, hb h14, hb h15, hb h18, hb h25, hb h27, hb h28, hb h29, hb h31, hb h35, hb h38, hb h41, trivial⟩
noncomputable def tb44 : List (Option FF) := [none, none, none, none, none, some F49, none, some F51, some F52, some F53, none, none, none, some F57, none, none, none, some F61, none, none, none, none, none, some F67, some F68, none, none, none, none, none, some F74, none, some F76, none, none, none, none, none, none, none, none, none, none, none]
theorem tb44_ok : DirAll 44 tb44 := ⟨hb h49, hb h51, hb h52, hb h53, hb h57, hb h61, hb h67, hb h68, hb h74, hb h76, trivial⟩
noncomputable def tb88 : List (Option FF) := [none, none, none, none, none, some F93, none, none, none, none, some F98, none, none, none, none, none, some F104, none, none, some F107, none, some F109, none, none, none, none, none, none, some F116, none, some F118, none, none, none, none, none, none, none, none, none, none, none, none, none]
theorem tb88_ok : DirAll 88 tb88 := ⟨hb h93, hb h98, hb h104, hb h107, hb h109, hb h116, hb h118, trivial⟩
noncomputable def tb132 : List (Option FF) := [none, none, none, none, none, some F137, none, none, none, some F141, some F142, some F143, none, some F145, none, none, none, some F149, none, some F151, none, some F153, none, none, none, some F157, none, some F159, some F160, none, none, none, some F164, none, none, none, none, none, some F170, none, none, none, none, none]
theorem tb132_ok : DirAll 132 tb132 := ⟨hb h137, hb h141, hb h142, hb h143, hb h145, hb h149, hb h151, hb h153, hb h157, hb h159, hb h160, hb h164, hb h170, trivial⟩
noncomputable def tb176 : List (Option FF) := [some F176, some F177, none, none, none, none, none, none, none, none, some F186, none, some F188, some F189, none, none, some F192, some F193, none, some F195, none, none, some F198, some F199, some F200, none, none, none, none, some F205, none, none, none, none, none, none, none, none, none, none, some F216, some F217, some F218, none]
theorem tb176_ok : DirAll 176 tb176 := ⟨hb h176, hb h177, hb h186, hb h188, hb h189, hb h192, hb h193, hb h195, hb h198, hb h199, hb h200, hb h205, hb h216, hb h217, hb h218, trivial⟩
noncomputable def tb220 : List (Option FF) := [none, none, none, none, none, none, none, none, none, none, none, none, none, none, none, some F235, some F236, none, some F238, some F239, some F240, some F241, some F242, some F243, none, none, none, none, some F248, none, none, none, none, none, none, none, none, none, none, some F259, none, none, none, none]
theorem tb220_ok : DirAll 220 tb220 := ⟨hb h235, hb h236, hb h238, hb h239, hb h240, hb h241, hb h242, hb h243, hb h248, hb h259, trivial⟩
noncomputable def tb264 : List (Option FF) := [none, none, none, none, none, none, none, none, some F272, some F273, none, some F275, some F276, some F277, none, none, some F280, some F281, some F282, some F283, none, some F285, none, none, none, none, some F290, some F291, none, none, some F294, none, some F296, none, none, none, none, none, none, none, some F304, some F305, some F306, none]
theorem tb264_ok : DirAll 264 tb264 := ⟨hb h272, hb h273, hb h275, hb h276, hb h277, hb h280, hb h281, hb h282, hb h283, hb h285, hb h290, hb h291, hb h294, hb h296, hb h304, hb h305, hb h306, trivial⟩
noncomputable def tb308 : List (Option FF) := [none, none, none, some F311, some F312, none, none, none, some F316, none, none, some F319, none, none, none, none, none, none, none, none, some F328, some F329, none, none, some F332, some F333, none, none, none, none, none, none, none, none, none, none, none, none, none, none, none, none, none, none]
theorem tb308_ok : DirAll 308 tb308 := ⟨hb h311, hb h312, hb h316, hb h319, hb h328, hb h329, hb h332, hb h333, trivial⟩
noncomputable def tb352 : List (Option FF) := [none, none, none, none, none, none, none, none, none, none, none, none, none, none, none, none, none, none, none]
theorem tb352_ok : DirAll 352 tb352 := trivial
noncomputable def tbl : List (Option FF) := tb0 ++ (tb44 ++ (tb88 ++ (tb132 ++ (tb176 ++ (tb220 ++ (tb264 ++ (tb308 ++ (tb352))))))))
theorem tbl_ok : DirAll 0 tbl := (DirAll.append 0 _ _ tb0_ok (DirAll.append 44 _ _ tb44_ok (DirAll.append 88 _ _ tb88_ok (DirAll.append 132 _ _ tb132_ok (DirAll.append 176 _ _ tb176_ok (DirAll.append 220 _ _ tb220_ok (DirAll.append 264 _ _ tb264_ok (DirAll.append 308 _ _ tb308_ok tb352_ok))))))))
noncomputable def tblT : Tr (Option FF) := ofList tbl
noncomputable def dirT (f : FuncId) : Option FF := match tblT.get? f with | some o => o | none => none
theorem dirT_ok : DirOk Tryz.prog tyI fnF glo0 drawn 1000000 dirT := by
  intro f x h
  unfold dirT at h
  have e : tblT.get? f = tbl[f]? := ofList_get tbl f
  rw [e] at h
  cases hx : tbl[f]? with
  | none => rw [hx] at h; cases h
  | some o =>
    rw [hx] at h
    dsimp only at h
    subst h
    have := DirAll.get 0 tbl f x tbl_ok hx
    rw [Nat.zero_add] at this
    exact this
end Go.Proofs.YtapognhadfncmaaGreatDoor
