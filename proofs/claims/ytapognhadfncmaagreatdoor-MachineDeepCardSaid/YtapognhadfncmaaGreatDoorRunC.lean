/- The functions of the program in lifted forms, printed by a program of mine: constants. -/
import Derived.Test.YtapognhadfncmaaGreatDoorRunD
namespace Go.Proofs.YtapognhadfncmaaGreatDoor
open Go Go.Ev
set_option maxRecDepth 1000000
abbrev OF := OpF DD
abbrev FF := FnF DD
noncomputable def L0 : LdF := lN
noncomputable def L1 : LdF := lC L0
noncomputable def L2 : LdF := lC L1
noncomputable def L3 : LdF := lC L2
noncomputable def L4 : LdF := lC L3
noncomputable def L5 : LdF := lC L4
noncomputable def L6 : LdF := lC L5
noncomputable def L7 : LdF := lC L6
noncomputable def L8 : LdF := lC L7
noncomputable def L9 : LdF := lC L8
noncomputable def L10 : LdF := lC L9
noncomputable def L11 : LdF := lC L10
noncomputable def L12 : LdF := lC L11
noncomputable def L13 : LdF := lC L12
noncomputable def L14 : LdF := lC L13
noncomputable def L15 : LdF := lC L14
noncomputable def L16 : LdF := lC L15
noncomputable def M0 : StF := sN
noncomputable def M1 : StF := sC M0
noncomputable def M2 : StF := sC M1
noncomputable def M3 : StF := sC M2
noncomputable def M4 : StF := sC M3
noncomputable def M5 : StF := sC M4
noncomputable def M6 : StF := sC M5
noncomputable def M7 : StF := sC M6
noncomputable def M8 : StF := sC M7
noncomputable def M9 : StF := sC M8
noncomputable def M10 : StF := sC M9
noncomputable def M11 : StF := sC M10
noncomputable def M12 : StF := sC M11
noncomputable def M13 : StF := sC M12
noncomputable def M14 : StF := sC M13
noncomputable def M15 : StF := sC M14
noncomputable def M16 : StF := sC M15
noncomputable def Z0 : TmS DD := (ofListB DD [(.int .i64 0), (.int .i64 0), (.str 0 0), (.int .i64 0)]).go
noncomputable def Z1 : TmS DD := (ofListB DD [(.int .i64 0), (.int .i64 0), (.bool false), (.int .i64 0), (.int .i64 0), (.str 0 0), (.int .i64 0), .sl0, (.int .i64 0), (.int .i64 0), (.str 0 0), (.int .i64 0), (.bool false), (.int .i64 0)]).go
noncomputable def Z4 : TmS DD := (ofListB DD [.ptr0, .ptr0, .ptr0]).go
noncomputable def Z8 : TmS DD := (ofListB DD [(.int .i64 0), (.int .i64 0), (.int .i64 0), (.int .i64 0), (.int .i64 0), (.str 0 0), (.int .i64 0), .sl0, .sl0, (.int .i64 0), (.int .i64 0), (.int .i64 0), (.int .i64 0), (.int .i64 0), (.int .i64 0), .sl0]).go
noncomputable def q0 : V := fun _ ff _ _ _ _ _ _ => ff
noncomputable def q8 : V := fun _ _ fi _ _ _ _ _ => fi .i64 (nat_lit 2)
noncomputable def q9 : V := fun tt _ _ _ _ _ _ _ => tt
noncomputable def q17 : V := fun _ _ fi _ _ _ _ _ => fi .i64 (nat_lit 5)
noncomputable def q19 : V := fun _ _ fi _ _ _ _ _ => fi .i64 (nat_lit 0)
noncomputable def q21 : V := fun _ _ fi _ _ _ _ _ => fi .i64 (nat_lit 16)
noncomputable def q27 : V := fun _ _ fi _ _ _ _ _ => fi .i64 (nat_lit 1)
noncomputable def q40 : V := fun _ _ fi _ _ _ _ _ => fi .i64 (nat_lit 9)
noncomputable def q43 : V := fun _ _ fi _ _ _ _ _ => fi .i64 (nat_lit 3)
noncomputable def q44 : V := fun _ _ fi _ _ _ _ _ => fi .i64 (nat_lit 10)
noncomputable def q48 : V := encV .ptr0
noncomputable def q49 : V := fun _ _ fi _ _ _ _ _ => fi .i64 (nat_lit 4)
noncomputable def q51 : V := fun _ _ fi _ _ _ _ _ => fi .i64 (nat_lit 12)
noncomputable def q52 : V := encV .sl0
noncomputable def q53 : V := fun _ _ fi _ _ _ _ _ => fi .i64 (nat_lit 99984)
noncomputable def q55 : V := fun _ _ fi _ _ _ _ _ => fi .i64 (nat_lit 8)
noncomputable def q56 : V := fun _ _ fi _ _ _ _ _ => fi .i64 (nat_lit 6)
noncomputable def q58 : V := fun _ _ fi _ _ _ _ _ => fi .i64 (nat_lit 10000)
noncomputable def q59 : V := fun _ _ _ fs _ _ _ _ => fs (nat_lit 9) (nat_lit 1558277107616530460530)
noncomputable def q61 : V := fun _ _ fi _ _ _ _ _ => fi .i64 (nat_lit 31)
noncomputable def q62 : V := fun _ _ fi _ _ _ _ _ => fi .i64 (nat_lit 25)
noncomputable def q63 : V := fun _ _ fi _ _ _ _ _ => fi .i64 (nat_lit 21)
noncomputable def q64 : V := fun _ _ fi _ _ _ _ _ => fi .i64 (nat_lit 11)
noncomputable def q65 : V := fun _ _ fi _ _ _ _ _ => fi .i64 (nat_lit 45)
noncomputable def q66 : V := fun _ _ fi _ _ _ _ _ => fi .i64 (nat_lit 44)
noncomputable def q67 : V := fun _ _ fi _ _ _ _ _ => fi .i64 (nat_lit 43)
noncomputable def q68 : V := fun _ _ fi _ _ _ _ _ => fi .i64 (nat_lit 42)
noncomputable def q69 : V := fun _ _ fi _ _ _ _ _ => fi .i64 (nat_lit 41)
noncomputable def q70 : V := fun _ _ fi _ _ _ _ _ => fi .i64 (nat_lit 40)
noncomputable def q71 : V := fun _ _ fi _ _ _ _ _ => fi .i64 (nat_lit 53)
noncomputable def q72 : V := fun _ _ fi _ _ _ _ _ => fi .i64 (nat_lit 52)
noncomputable def q73 : V := fun _ _ fi _ _ _ _ _ => fi .i64 (nat_lit 51)
noncomputable def q74 : V := fun _ _ fi _ _ _ _ _ => fi .i64 (nat_lit 49)
noncomputable def q75 : V := fun _ _ fi _ _ _ _ _ => fi .i64 (nat_lit 48)
noncomputable def q76 : V := fun _ _ fi _ _ _ _ _ => fi .i64 (nat_lit 47)
noncomputable def q77 : V := fun _ _ fi _ _ _ _ _ => fi .i64 (nat_lit 46)
noncomputable def q78 : V := fun _ _ fi _ _ _ _ _ => fi .i64 (nat_lit 7)
noncomputable def q79 : V := fun _ _ _ fs _ _ _ _ => fs (nat_lit 10) (nat_lit 389031341209076454551410)
noncomputable def q85 : V := fun _ _ fi _ _ _ _ _ => fi .i64 (nat_lit 32)
noncomputable def q89 : V := fun _ _ _ fs _ _ _ _ => fs (nat_lit 14) (nat_lit 2239895321846199819380438554210158)
noncomputable def q90 : V := fun _ _ _ fs _ _ _ _ => fs (nat_lit 9) (nat_lit 2074281273720252756069)
noncomputable def q93 : V := fun _ _ fi _ _ _ _ _ => fi .i64 (nat_lit 20)
noncomputable def q94 : V := fun _ _ fi _ _ _ _ _ => fi .i64 (nat_lit 19)
noncomputable def q95 : V := fun _ _ fi _ _ _ _ _ => fi .i64 (nat_lit 15)
noncomputable def q96 : V := fun _ _ fi _ _ _ _ _ => fi .i64 (nat_lit 18)
noncomputable def q97 : V := fun _ _ fi _ _ _ _ _ => fi .i64 (nat_lit 14)
noncomputable def q98 : V := fun _ _ fi _ _ _ _ _ => fi .i64 (nat_lit 17)
noncomputable def q99 : V := fun _ _ fi _ _ _ _ _ => fi .i64 (nat_lit 13)
noncomputable def q110 : V := fun _ _ _ fs _ _ _ _ => fs (nat_lit 12) (nat_lit 34494828803899176540909234021)
noncomputable def q111 : V := fun _ _ _ fs _ _ _ _ => fs (nat_lit 13) (nat_lit 8749591100967318826892933817204)
noncomputable def q112 : V := fun _ _ fi _ _ _ _ _ => fi .i64 (nat_lit 50)
noncomputable def q113 : V := fun _ _ fi _ _ _ _ _ => fi .i64 (nat_lit 39)
noncomputable def q114 : V := fun _ _ fi _ _ _ _ _ => fi .i64 (nat_lit 38)
noncomputable def q115 : V := fun _ _ fi _ _ _ _ _ => fi .i64 (nat_lit 37)
noncomputable def q116 : V := fun _ _ fi _ _ _ _ _ => fi .i64 (nat_lit 36)
noncomputable def q117 : V := fun _ _ fi _ _ _ _ _ => fi .i64 (nat_lit 35)
noncomputable def q118 : V := fun _ _ fi _ _ _ _ _ => fi .i64 (nat_lit 34)
noncomputable def q119 : V := fun _ _ fi _ _ _ _ _ => fi .i64 (nat_lit 33)
noncomputable def q143 : V := fun _ _ _ fs _ _ _ _ => fs (nat_lit 10) (nat_lit 564072569754465408217189)
noncomputable def q164 : V := fun _ _ fi _ _ _ _ _ => fi .i64 (nat_lit 1048576)
noncomputable def n0 : Nat := nat_lit 0
noncomputable def n1 : Nat := nat_lit 1
noncomputable def n2 : Nat := nat_lit 2
noncomputable def n3 : Nat := nat_lit 3
noncomputable def n4 : Nat := nat_lit 4
noncomputable def n7 : Nat := nat_lit 7
noncomputable def n8 : Nat := nat_lit 8
noncomputable def n10 : Nat := nat_lit 10
noncomputable def n11 : Nat := nat_lit 11
noncomputable def n12 : Nat := nat_lit 12
noncomputable def n13 : Nat := nat_lit 13
noncomputable def n14 : Nat := nat_lit 14
noncomputable def n15 : Nat := nat_lit 15
noncomputable def n16 : Nat := nat_lit 16
noncomputable def n17 : Nat := nat_lit 17
noncomputable def n18 : Nat := nat_lit 18
noncomputable def n19 : Nat := nat_lit 19
noncomputable def n25 : Nat := nat_lit 25
noncomputable def n29 : Nat := nat_lit 29
noncomputable def n30 : Nat := nat_lit 30
noncomputable def n32 : Nat := nat_lit 32
noncomputable def n33 : Nat := nat_lit 33
noncomputable def n34 : Nat := nat_lit 34
noncomputable def n35 : Nat := nat_lit 35
noncomputable def n45 : Nat := nat_lit 45
noncomputable def n49 : Nat := nat_lit 49
noncomputable def n55 : Nat := nat_lit 55
noncomputable def n56 : Nat := nat_lit 56
noncomputable def n57 : Nat := nat_lit 57
noncomputable def n58 : Nat := nat_lit 58
noncomputable def n59 : Nat := nat_lit 59
noncomputable def n60 : Nat := nat_lit 60
noncomputable def n61 : Nat := nat_lit 61
noncomputable def n62 : Nat := nat_lit 62
noncomputable def n63 : Nat := nat_lit 63
noncomputable def n64 : Nat := nat_lit 64
noncomputable def n65 : Nat := nat_lit 65
noncomputable def n66 : Nat := nat_lit 66
noncomputable def n67 : Nat := nat_lit 67
noncomputable def n68 : Nat := nat_lit 68
noncomputable def n69 : Nat := nat_lit 69
noncomputable def n70 : Nat := nat_lit 70
noncomputable def n71 : Nat := nat_lit 71
noncomputable def n72 : Nat := nat_lit 72
noncomputable def n76 : Nat := nat_lit 76
noncomputable def n79 : Nat := nat_lit 79
noncomputable def n98 : Nat := nat_lit 98
noncomputable def n109 : Nat := nat_lit 109
noncomputable def n110 : Nat := nat_lit 110
noncomputable def n111 : Nat := nat_lit 111
noncomputable def n112 : Nat := nat_lit 112
noncomputable def n113 : Nat := nat_lit 113
noncomputable def n114 : Nat := nat_lit 114
noncomputable def n116 : Nat := nat_lit 116
noncomputable def n119 : Nat := nat_lit 119
noncomputable def n120 : Nat := nat_lit 120
noncomputable def n121 : Nat := nat_lit 121
noncomputable def n122 : Nat := nat_lit 122
noncomputable def n125 : Nat := nat_lit 125
noncomputable def n126 : Nat := nat_lit 126
noncomputable def n127 : Nat := nat_lit 127
noncomputable def n128 : Nat := nat_lit 128
noncomputable def n129 : Nat := nat_lit 129
noncomputable def n130 : Nat := nat_lit 130
noncomputable def n132 : Nat := nat_lit 132
noncomputable def n174 : Nat := nat_lit 174
noncomputable def n175 : Nat := nat_lit 175
noncomputable def n230 : Nat := nat_lit 230
noncomputable def n231 : Nat := nat_lit 231
noncomputable def n232 : Nat := nat_lit 232
noncomputable def n233 : Nat := nat_lit 233
noncomputable def n234 : Nat := nat_lit 234
/-- the regions of a function, in their order -/
noncomputable def regsA : Code → List (Array Oper) → List (Array Oper) := fun c => Code.rec (motive := fun _ => List (Array Oper) → List (Array Oper)) (fun l => l) (fun _ ops _ l => ops :: l) (fun _ _ a b l => a (b l)) (fun _ _ _ a b l => a (b l)) (fun _ _ a l => a l) (fun _ a l => a l)
  (fun _ _ _ _ _ _ l => l) (fun _ l => l) (fun _ _ l => l) (fun _ l => l) (fun _ l => l) (fun l => l) (fun _ l => l) c
noncomputable def reg (f r : Nat) : Array Oper := match (regsA (fBody (fnF f)) [])[r]? with | some a => a | none => #[]
noncomputable def S (f r i : Nat) : OF := slD Tryz.prog glo0 (reg f r) (opAt (reg f r) i)
noncomputable def Sb (f r i : Nat) : OF := slD Tryz.prog glo0 (reg f r) (bare (opAt (reg f r) i))
noncomputable def SA (f r j : Nat) : AgF DD := (slowA Tryz.prog glo0 (reg f r) j).go
noncomputable def RS (f : Nat) : RetF DD := (resS Tryz.prog (fRes (fnF f))).go
noncomputable def fb (f : Nat) : FF := (fnS Tryz.prog tyI fnF glo0 drawn 1000000 f).go
noncomputable def rA (x : V) (k : KR) : SK := lvT (r1 x) k
noncomputable def addTD : SF := addT.go
noncomputable def eqlTD : SF := eqlT.go
noncomputable def neqTD : SF := neqT.go
end Go.Proofs.YtapognhadfncmaaGreatDoor
