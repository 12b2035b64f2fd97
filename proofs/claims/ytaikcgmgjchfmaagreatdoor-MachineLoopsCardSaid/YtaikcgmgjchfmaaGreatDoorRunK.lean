/- The table of the lifted forms, and a law's run over it. -/
import Derived.Test.YtaikcgmgjchfmaaGreatDoorRunJ0
import Derived.Test.YtaikcgmgjchfmaaGreatDoorRunJ1
import Derived.Test.YtaikcgmgjchfmaaGreatDoorRunJ2
import Derived.Test.YtaikcgmgjchfmaaGreatDoorRunJ3
namespace Go.Proofs.YtaikcgmgjchfmaaGreatDoor
open Go Go.Ev
set_option maxRecDepth 1000000
def DirAll : Nat → List (Option FF) → Prop
  | _, [] => True
  | n, none :: l => DirAll (n + 1) l
  | n, some x :: l => fb n = x ∧ DirAll (n + 1) l
theorem DirAll.append : ∀ (n : Nat) (l l' : List (Option FF)), DirAll n l → DirAll (n + l.length) l' → DirAll n (l ++ l')
  | n, [], l', _, h => h
  | n, none :: l, l', h, h' => DirAll.append (n + 1) l l' h (by have e : n + (none :: l : List (Option FF)).length = n + 1 + l.length := by simp only [List.length_cons]; omega
                                                                rw [e] at h'; exact h')
  | n, some x :: l, l', h, h' => ⟨h.1, DirAll.append (n + 1) l l' h.2 (by have e : n + (some x :: l : List (Option FF)).length = n + 1 + l.length := by simp only [List.length_cons]; omega
                                                                          rw [e] at h'; exact h')⟩
theorem DirAll.get : ∀ (n : Nat) (l : List (Option FF)) (i : Nat) (x : FF), DirAll n l → l[i]? = some (some x) → fb (n + i) = x
  | n, [], i, x, _, h => by simp at h
  | n, none :: l, 0, x, _, h => by simp at h
  | n, none :: l, i + 1, x, hl, h => by have := DirAll.get (n + 1) l i x hl (by simpa using h); have e : n + 1 + i = n + (i + 1) := by omega
                                        rw [e] at this; exact this
  | n, some y :: l, 0, x, hl, h => by simp at h; subst h; exact hl.1
  | n, some y :: l, i + 1, x, hl, h => by have := DirAll.get (n + 1) l i x hl.2 (by simpa using h); have e : n + 1 + i = n + (i + 1) := by omega
                                          rw [e] at this; exact this
theorem hb {f np : Nat} {an : AN} {x : FF} (h : lowO Tryz.prog tyI fnF glo0 drawn 1000000 f np an = some x) : fb f = x := lowO_eq _ _ _ _ _ _ h
noncomputable def tb0 : List (Option FF) := [none, none, none, none, none, none, none, some F7, none, none, some F10, some F11, some F12, some F13, none, none, some F16, some F17, none, none, some F20, some F21, some F22, some F23, none, none, none, some F27, none, none, none, some F31, none, some F33, some F34, some F35, none, none, none, none, none, some F41, none, none]
theorem tb0_ok : DirAll 0 tb0 := ⟨hb h7, hb h10, hb h11, hb h12, hb h13, hb h16, hb h17, hb h20, hb h21, hb h22, hb h23, hb h27, hb h31, hb h33, hb h34, hb h35, hb h41, trivial⟩
noncomputable def tb44 : List (Option FF) := [none, some F45, none, none, none, some F49, none, none, none, none, none, none, none, none, some F58, none, none, none, none, none, none, none, none, none, some F68, none, none, none, some F72, none, some F74, some F75, none, none, some F78, none, some F80, none, none, none, none, none, none, none]
theorem tb44_ok : DirAll 44 tb44 := ⟨hb h45, hb h49, hb h58, hb h68, hb h72, hb h74, hb h75, hb h78, hb h80, trivial⟩
noncomputable def tb88 : List (Option FF) := [none, none, some F90, none, some F92, none, none, none, none, none, none, none, none, some F101, none, some F103, none, none, none, none, none, none, none, none, none, none, none, none, none, none, none, some F119, some F120, none, none, some F123, some F124, some F125, none, some F127, none, none, none, some F131]
theorem tb88_ok : DirAll 88 tb88 := ⟨hb h90, hb h92, hb h101, hb h103, hb h119, hb h120, hb h123, hb h124, hb h125, hb h127, hb h131, trivial⟩
noncomputable def tb132 : List (Option FF) := [none, some F133, none, some F135, some F136, some F137, some F138, some F139, some F140, some F141, none, none, some F144, none, none, some F147, some F148, none, none, none, none, some F153, none, none, none, none, none, none, some F160, some F161, none, none, none, none, none, none, none, none, none, none, some F172, some F173, none, some F175]
theorem tb132_ok : DirAll 132 tb132 := ⟨hb h133, hb h135, hb h136, hb h137, hb h138, hb h139, hb h140, hb h141, hb h144, hb h147, hb h148, hb h153, hb h160, hb h161, hb h172, hb h173, hb h175, trivial⟩
noncomputable def tb176 : List (Option FF) := [some F176, some F177, none, some F179, none, none, some F182, some F183, some F184, none, none, some F187, none, none, none, none, none, none, none, none, none, none, none, none, some F200, some F201, some F202, some F203, some F204, none, none, some F207, some F208, some F209, none, some F211, some F212, none, some F214, some F215, some F216, none, none, none]
theorem tb176_ok : DirAll 176 tb176 := ⟨hb h176, hb h177, hb h179, hb h182, hb h183, hb h184, hb h187, hb h200, hb h201, hb h202, hb h203, hb h204, hb h207, hb h208, hb h209, hb h211, hb h212, hb h214, hb h215, hb h216, trivial⟩
noncomputable def tb220 : List (Option FF) := [none, some F221, none, none, none, none, none, none, none, none, none, none, some F232, some F233, none, none, none, some F237, some F238, none, some F240, some F241, some F242, some F243, none, some F245, some F246, none, some F248, none, none, none, none, none, none, some F255, some F256, none, none, some F259, none, some F261, none, none]
theorem tb220_ok : DirAll 220 tb220 := ⟨hb h221, hb h232, hb h233, hb h237, hb h238, hb h240, hb h241, hb h242, hb h243, hb h245, hb h246, hb h248, hb h255, hb h256, hb h259, hb h261, trivial⟩
noncomputable def tb264 : List (Option FF) := [none, none, none, none, none, some F269, some F270, some F271, some F272, none, none, none, none, none, none, none, none, some F281, some F282, none, none, none, some F286, none, none, some F289, none, none, none, none, none, none, none, none, none, none, none, none, none, none, none, none, none, none]
theorem tb264_ok : DirAll 264 tb264 := ⟨hb h269, hb h270, hb h271, hb h272, hb h281, hb h282, hb h286, hb h289, trivial⟩
noncomputable def tb308 : List (Option FF) := [some F308, some F309, none, none, none, none, none, none, none, some F317, none, none, none, none, none, none, none, none, none, none, none, none, none, none, none, none, none, none, none, none, none, none, none, none, none, none, none, none, none, none, none, none, none, none]
theorem tb308_ok : DirAll 308 tb308 := ⟨hb h308, hb h309, hb h317, trivial⟩
noncomputable def tbl : List (Option FF) := tb0 ++ (tb44 ++ (tb88 ++ (tb132 ++ (tb176 ++ (tb220 ++ (tb264 ++ (tb308)))))))
theorem tbl_ok : DirAll 0 tbl := (DirAll.append 0 _ _ tb0_ok (DirAll.append 44 _ _ tb44_ok (DirAll.append 88 _ _ tb88_ok (DirAll.append 132 _ _ tb132_ok (DirAll.append 176 _ _ tb176_ok (DirAll.append 220 _ _ tb220_ok (DirAll.append 264 _ _ tb264_ok tb308_ok)))))))
noncomputable def tblT : Tr (Option FF) := ofList tbl
noncomputable def dirT (f : FuncId) : Option FF := match tblT.get? f with | some o => o | none => none
theorem dirT_ok : DirOk Tryz.prog tyI fnF glo0 drawn 1000000 dirT := by
  intro f x h
  unfold dirT at h
  have e : tblT.get? f = tbl[f]? := ofList_get tbl f
  rw [e] at h
  cases hx : tbl[f]? with
  | none => rw [hx] at h; cases h
  | some o =>
    rw [hx] at h
    dsimp only at h
    subst h
    have := DirAll.get 0 tbl f x tbl_ok hx
    rw [Nat.zero_add] at this
    exact this
end Go.Proofs.YtaikcgmgjchfmaaGreatDoor
