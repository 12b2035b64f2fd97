/- The table of the lifted forms, and a law's run over it. -/
import Derived.Test.YtbckjaoljeimgaaGreatDoorRunJ0
import Derived.Test.YtbckjaoljeimgaaGreatDoorRunJ1
import Derived.Test.YtbckjaoljeimgaaGreatDoorRunJ2
import Derived.Test.YtbckjaoljeimgaaGreatDoorRunJ3
namespace Go.Proofs.YtbckjaoljeimgaaGreatDoor
open Go Go.Ev
set_option maxRecDepth 1000000
def DirAll : Nat → List (Option FF) → Prop
  | _, [] => True
  | n, none :: l => DirAll (n + 1) l
  | n, some x :: l => fb n = x ∧ DirAll (n + 1) l
theorem DirAll.append : ∀ (n : Nat) (l l' : List (Option FF)), DirAll n l → DirAll (n + l.length) l' → DirAll n (l ++ l')
  | n, [], l', _, h => h
  | n, none :: l, l', h, h' => DirAll.append (n + 1) l l' h (by have e : n + (none :: l : List (Option FF)).length = n + 1 + l.length := by simp only [List.length_cons]; omega
                                                                rw [e] at h'; exact h')
  | n, some x :: l, l', h, h' => ⟨h.1, DirAll.append (n + 1) l l' h.2 (by have e : n + (some x :: l : List (Option FF)).length = n + 1 + l.length := by simp only [List.length_cons]; omega
                                                                          rw [e] at h'; exact h')⟩
theorem DirAll.get : ∀ (n : Nat) (l : List (Option FF)) (i : Nat) (x : FF), DirAll n l → l[i]? = some (some x) → fb (n + i) = x
  | n, [], i, x, _, h => by simp at h
  | n, none :: l, 0, x, _, h => by simp at h
  | n, none :: l, i + 1, x, hl, h => by have := DirAll.get (n + 1) l i x hl (by simpa using h); have e : n + 1 + i = n + (i + 1) := by omega
                                        rw [e] at this; exact this
  | n, some y :: l, 0, x, hl, h => by simp at h; subst h; exact hl.1
  | n, some y :: l, i + 1, x, hl, h => by have := DirAll.get (n + 1) l i x hl.2 (by simpa using h); have e : n + 1 + i = n + (i + 1) := by omega
                                          rw [e] at this; exact this
theorem hb {f np : Nat} {an : AN} {x : FF} (h : lowO Tryz.prog tyI fnF glo0 drawn 1000000 f np an = some x) : fb f = x := lowO_eq _ _ _ _ _ _ h
noncomputable def tb0 : List (Option FF) := [none, none, none, none, none, none, none, some F7, some F8, some F9, none, none, some F12, none, none, some F15, none, some F17, some F18, some F19, some F20, none, none, some F23, some F24, some F25, some F26, some F27, none, none, some F30, none, none, none, none, some F35, some F36, none, none, some F39, some F40, some F41, some F42, none]
theorem tb0_ok : DirAll 0 tb0 := ⟨hb h7, hb h8, hb h9, hb h12, hb h15, hb h17, hb h18, hb h19, hb h20, hb h23, hb h24, hb h25, hb h26, hb h27, hb h30, hb h35, hb h36, hb h39, hb h40, hb h41, hb h42, trivial⟩
noncomputable def tb44 : List (Option FF) := [some F44, some F45, none, none, some F48, some F49, none, none, some F52, some F53, none, none, some F56, some F57, none, none, none, none, some F62, some F63, none, none, none, some F67, none, none, none, none, none, some F73, some F74, some F75, some F76, some F77, some F78, none, none, none, some F82, some F83, some F84, none, none, none]
theorem tb44_ok : DirAll 44 tb44 := ⟨hb h44, hb h45, hb h48, hb h49, hb h52, hb h53, hb h56, hb h57, hb h62, hb h63, hb h67, hb h73, hb h74, hb h75, hb h76, hb h77, hb h78, hb h82, hb h83, hb h84, trivial⟩
noncomputable def tb88 : List (Option FF) := [none, none, none, none, none, some F93, none, some F95, none, some F97, some F98, none, none, none, none, none, some F104, some F105, some F106, none, some F108, none, none, none, none, none, none, none, none, some F117, none, some F119, none, none, none, none, some F124, some F125, some F126, some F127, some F128, some F129, some F130, some F131]
theorem tb88_ok : DirAll 88 tb88 := ⟨hb h93, hb h95, hb h97, hb h98, hb h104, hb h105, hb h106, hb h108, hb h117, hb h119, hb h124, hb h125, hb h126, hb h127, hb h128, hb h129, hb h130, hb h131, trivial⟩
noncomputable def tb132 : List (Option FF) := [none, none, some F134, none, none, none, none, none, none, none, none, none, none, none, none, none, none, none, none, none, none, none, none, none, none, none, none, none, none, none, none, none, none, none, none, some F167, none, none, some F170, none, some F172, none, none, none]
theorem tb132_ok : DirAll 132 tb132 := ⟨hb h134, hb h167, hb h170, hb h172, trivial⟩
noncomputable def tb176 : List (Option FF) := [none, none, none, none, none, none, none, none, none, none, none, none, none, none, none, none, none, none, none, none, none, none, none, none, none, none, none, none, none, none, none, none, none, none, none, none, none, none, none, none, none, none, none, none]
theorem tb176_ok : DirAll 176 tb176 := trivial
noncomputable def tb220 : List (Option FF) := [none, none, some F222, some F223, none, none, none, none, none, none, none, none, none, none, none, none, none, none, none, none, none, none, none, none, none, none, none, none, none, none, none, none, none, none, none, none, none, none, none, none, none, none, none, none]
theorem tb220_ok : DirAll 220 tb220 := ⟨hb h222, hb h223, trivial⟩
noncomputable def tb264 : List (Option FF) := [none, none, none, none, none, none, none, none, none, none, none, none, none, none, none, none, none, none, none, none, none, none, none, none, none, none, none, none, none, none, none, none, none, none, none, none, none, none, none, none, none, none, none, none]
theorem tb264_ok : DirAll 264 tb264 := trivial
noncomputable def tb308 : List (Option FF) := [none, none, none, none, none, none, none, none, none, none, none, none, none, none, none, none, none, none, none, none, none, none, none, none, none, none, none, none, none, none, none, none, none, none, none, none, none, none, none, none, none, none, none, none]
theorem tb308_ok : DirAll 308 tb308 := trivial
noncomputable def tb352 : List (Option FF) := [none, none, none, none, none, none, none, none, none, none, none, none, none, none, none, none, none, none, none]
theorem tb352_ok : DirAll 352 tb352 := trivial
noncomputable def tbl : List (Option FF) := tb0 ++ (tb44 ++ (tb88 ++ (tb132 ++ (tb176 ++ (tb220 ++ (tb264 ++ (tb308 ++ (tb352))))))))
theorem tbl_ok : DirAll 0 tbl := (DirAll.append 0 _ _ tb0_ok (DirAll.append 44 _ _ tb44_ok (DirAll.append 88 _ _ tb88_ok (DirAll.append 132 _ _ tb132_ok (DirAll.append 176 _ _ tb176_ok (DirAll.append 220 _ _ tb220_ok (DirAll.append 264 _ _ tb264_ok (DirAll.append 308 _ _ tb308_ok tb352_ok))))))))
noncomputable def tblT : Tr (Option FF) := ofList tbl
noncomputable def dirT (f : FuncId) : Option FF := match tblT.get? f with | some o => o | none => none
theorem dirT_ok : DirOk Tryz.prog tyI fnF glo0 drawn 1000000 dirT := by
  intro f x h
  unfold dirT at h
  have e : tblT.get? f = tbl[f]? := ofList_get tbl f
  rw [e] at h
  cases hx : tbl[f]? with
  | none => rw [hx] at h; cases h
  | some o =>
    rw [hx] at h
    dsimp only at h
    subst h
    have := DirAll.get 0 tbl f x tbl_ok hx
    rw [Nat.zero_add] at this
    exact this
end Go.Proofs.YtbckjaoljeimgaaGreatDoor
