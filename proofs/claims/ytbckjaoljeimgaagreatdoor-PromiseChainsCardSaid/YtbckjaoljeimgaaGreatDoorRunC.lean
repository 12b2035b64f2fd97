/- The functions of the program in lifted forms, printed by a program of mine: constants. -/
import Derived.Test.YtbckjaoljeimgaaGreatDoorRunD
namespace Go.Proofs.YtbckjaoljeimgaaGreatDoor
open Go Go.Ev
set_option maxRecDepth 1000000
abbrev OF := OpF DD
abbrev FF := FnF DD
noncomputable def L0 : LdF := lN
noncomputable def L1 : LdF := lC L0
noncomputable def L2 : LdF := lC L1
noncomputable def L3 : LdF := lC L2
noncomputable def L4 : LdF := lC L3
noncomputable def L5 : LdF := lC L4
noncomputable def L6 : LdF := lC L5
noncomputable def L7 : LdF := lC L6
noncomputable def L8 : LdF := lC L7
noncomputable def L9 : LdF := lC L8
noncomputable def L10 : LdF := lC L9
noncomputable def L11 : LdF := lC L10
noncomputable def L12 : LdF := lC L11
noncomputable def L13 : LdF := lC L12
noncomputable def L14 : LdF := lC L13
noncomputable def L15 : LdF := lC L14
noncomputable def L16 : LdF := lC L15
noncomputable def M0 : StF := sN
noncomputable def M1 : StF := sC M0
noncomputable def M2 : StF := sC M1
noncomputable def M3 : StF := sC M2
noncomputable def M4 : StF := sC M3
noncomputable def M5 : StF := sC M4
noncomputable def M6 : StF := sC M5
noncomputable def M7 : StF := sC M6
noncomputable def M8 : StF := sC M7
noncomputable def M9 : StF := sC M8
noncomputable def M10 : StF := sC M9
noncomputable def M11 : StF := sC M10
noncomputable def M12 : StF := sC M11
noncomputable def M13 : StF := sC M12
noncomputable def M14 : StF := sC M13
noncomputable def M15 : StF := sC M14
noncomputable def M16 : StF := sC M15
noncomputable def Z0 : TmS DD := (ofListB DD [(.int .i64 0), (.int .i64 0), (.bool false), (.int .i64 0), (.int .i64 0), (.str 0 0), (.int .i64 0), .sl0, (.int .i64 0), (.int .i64 0), (.str 0 0), (.int .i64 0), (.bool false), (.int .i64 0)]).go
noncomputable def Z1 : TmS DD := (ofListB DD [(.int .i64 0), (.int .i64 0), (.str 0 0), (.int .i64 0)]).go
noncomputable def Z3 : TmS DD := (ofListB DD [(.int .i64 0), (.int .i64 0), .sl0, .sl0, .sl0, (.int .i64 0), (.int .i64 0), (.int .i64 0), (.int .i64 0), .sl0]).go
noncomputable def Z4 : TmS DD := (ofListB DD [.ptr0, .ptr0, .ptr0]).go
noncomputable def Z6 : TmS DD := (ofListB DD [(.int .i64 0), (.int .i64 0), (.int .i64 0), (.int .i64 0), (.int .i64 0), (.str 0 0), (.int .i64 0), .sl0, .sl0, (.int .i64 0), (.int .i64 0), (.int .i64 0), (.int .i64 0), (.int .i64 0), (.int .i64 0), .sl0]).go
noncomputable def Z9 : TmS DD := (ofListB DD [(.int .i64 0), .sl0]).go
noncomputable def Z10 : TmS DD := (ofListB DD [(.int .i64 0), (.int .i64 0)]).go
noncomputable def Z11 : TmS DD := (ofListB DD [(.int .i64 0), (.int .i64 0), (.int .i64 0), (.int .i64 0), (.int .i64 0)]).go
noncomputable def Z14 : TmS DD := (ofListB DD [(.str 0 0), (.int .i64 0), (.int .i64 0), (.int .i64 0), .sl0, .sl0, .sl0]).go
noncomputable def Z15 : TmS DD := (ofListB DD [(.int .i64 0)]).go
noncomputable def q0 : V := fun _ ff _ _ _ _ _ _ => ff
noncomputable def q1 : V := fun _ _ fi _ _ _ _ _ => fi .i64 (nat_lit 5)
noncomputable def q3 : V := fun _ _ fi _ _ _ _ _ => fi .i64 (nat_lit 0)
noncomputable def q5 : V := fun tt _ _ _ _ _ _ _ => tt
noncomputable def q6 : V := fun _ _ fi _ _ _ _ _ => fi .i64 (nat_lit 2)
noncomputable def q7 : V := fun _ _ fi _ _ _ _ _ => fi .i64 (nat_lit 16)
noncomputable def q8 : V := fun _ _ fi _ _ _ _ _ => fi .i64 (nat_lit 100000)
noncomputable def q14 : V := fun _ _ fi _ _ _ _ _ => fi .i64 (nat_lit 1)
noncomputable def q16 : V := fun _ _ fi _ _ _ _ _ => fi .i64 (nat_lit 3)
noncomputable def q24 : V := fun _ _ fi _ _ _ _ _ => fi .i64 (nat_lit 9)
noncomputable def q25 : V := fun _ _ fi _ _ _ _ _ => fi .i64 (nat_lit 20)
noncomputable def q27 : V := encV .ptr0
noncomputable def q28 : V := fun _ _ fi _ _ _ _ _ => fi .i64 (nat_lit 12)
noncomputable def q29 : V := encV .sl0
noncomputable def q30 : V := fun _ _ fi _ _ _ _ _ => fi .i64 (nat_lit 99984)
noncomputable def q31 : V := fun _ _ fi _ _ _ _ _ => fi .i64 (nat_lit 4)
noncomputable def q34 : V := fun _ _ fi _ _ _ _ _ => fi .i64 (nat_lit 6)
noncomputable def q35 : V := fun _ _ fi _ _ _ _ _ => fi .i64 (nat_lit 8)
noncomputable def q36 : V := fun _ _ _ fs _ _ _ _ => fs (nat_lit 9) (nat_lit 1558277107616530460530)
noncomputable def q37 : V := fun _ _ _ fs _ _ _ _ => fs (nat_lit 19) (nat_lit 2165998141142937525824232750730354206714457190)
noncomputable def q39 : V := fun _ _ fi _ _ _ _ _ => fi .i64 (nat_lit 31)
noncomputable def q40 : V := fun _ _ fi _ _ _ _ _ => fi .i64 (nat_lit 25)
noncomputable def q41 : V := fun _ _ fi _ _ _ _ _ => fi .i64 (nat_lit 21)
noncomputable def q42 : V := fun _ _ fi _ _ _ _ _ => fi .i64 (nat_lit 11)
noncomputable def q43 : V := fun _ _ fi _ _ _ _ _ => fi .i64 (nat_lit 45)
noncomputable def q44 : V := fun _ _ fi _ _ _ _ _ => fi .i64 (nat_lit 44)
noncomputable def q45 : V := fun _ _ fi _ _ _ _ _ => fi .i64 (nat_lit 43)
noncomputable def q46 : V := fun _ _ fi _ _ _ _ _ => fi .i64 (nat_lit 42)
noncomputable def q47 : V := fun _ _ fi _ _ _ _ _ => fi .i64 (nat_lit 41)
noncomputable def q48 : V := fun _ _ fi _ _ _ _ _ => fi .i64 (nat_lit 40)
noncomputable def q49 : V := fun _ _ fi _ _ _ _ _ => fi .i64 (nat_lit 53)
noncomputable def q50 : V := fun _ _ fi _ _ _ _ _ => fi .i64 (nat_lit 52)
noncomputable def q51 : V := fun _ _ fi _ _ _ _ _ => fi .i64 (nat_lit 51)
noncomputable def q52 : V := fun _ _ fi _ _ _ _ _ => fi .i64 (nat_lit 49)
noncomputable def q53 : V := fun _ _ fi _ _ _ _ _ => fi .i64 (nat_lit 48)
noncomputable def q54 : V := fun _ _ fi _ _ _ _ _ => fi .i64 (nat_lit 47)
noncomputable def q55 : V := fun _ _ fi _ _ _ _ _ => fi .i64 (nat_lit 46)
noncomputable def q56 : V := fun _ _ _ fs _ _ _ _ => fs (nat_lit 0) (nat_lit 0)
noncomputable def q57 : V := fun _ _ fi _ _ _ _ _ => fi .i64 (nat_lit 7)
noncomputable def q58 : V := fun _ _ fi _ _ _ _ _ => fi .i64 (nat_lit 10)
noncomputable def q59 : V := vOth (.int .i64 (.negSucc 0))
noncomputable def q60 : V := fun _ _ fi _ _ _ _ _ => fi .i64 (nat_lit 10000)
noncomputable def q65 : V := fun _ _ fi _ _ _ _ _ => fi .i64 (nat_lit 2147483647)
noncomputable def q66 : V := fun _ _ _ fs _ _ _ _ => fs (nat_lit 10) (nat_lit 389031341209076454551410)
noncomputable def q67 : V := fun _ _ _ fs _ _ _ _ => fs (nat_lit 15) (nat_lit 604566587417837759707880564624024947)
noncomputable def q68 : V := fun _ _ _ fs _ _ _ _ => fs (nat_lit 14) (nat_lit 2239895321846199819380438554210158)
noncomputable def q69 : V := fun _ _ _ fs _ _ _ _ => fs (nat_lit 9) (nat_lit 2074281273720252756069)
noncomputable def q72 : V := fun _ _ fi _ _ _ _ _ => fi .i64 (nat_lit 19)
noncomputable def q73 : V := fun _ _ fi _ _ _ _ _ => fi .i64 (nat_lit 15)
noncomputable def q74 : V := fun _ _ fi _ _ _ _ _ => fi .i64 (nat_lit 18)
noncomputable def q75 : V := fun _ _ fi _ _ _ _ _ => fi .i64 (nat_lit 14)
noncomputable def q76 : V := fun _ _ fi _ _ _ _ _ => fi .i64 (nat_lit 17)
noncomputable def q77 : V := fun _ _ fi _ _ _ _ _ => fi .i64 (nat_lit 13)
noncomputable def q78 : V := fun _ _ _ fs _ _ _ _ => fs (nat_lit 14) (nat_lit 1671191322026108085646479150182258)
noncomputable def q88 : V := fun _ _ _ fs _ _ _ _ => fs (nat_lit 12) (nat_lit 34494828803899176540909234021)
noncomputable def q89 : V := fun _ _ _ fs _ _ _ _ => fs (nat_lit 13) (nat_lit 8749591100967318826892933817204)
noncomputable def q90 : V := fun _ _ fi _ _ _ _ _ => fi .i64 (nat_lit 50)
noncomputable def q91 : V := fun _ _ fi _ _ _ _ _ => fi .i64 (nat_lit 39)
noncomputable def q92 : V := fun _ _ fi _ _ _ _ _ => fi .i64 (nat_lit 38)
noncomputable def q93 : V := fun _ _ fi _ _ _ _ _ => fi .i64 (nat_lit 37)
noncomputable def q94 : V := fun _ _ fi _ _ _ _ _ => fi .i64 (nat_lit 36)
noncomputable def q95 : V := fun _ _ fi _ _ _ _ _ => fi .i64 (nat_lit 35)
noncomputable def q96 : V := fun _ _ fi _ _ _ _ _ => fi .i64 (nat_lit 34)
noncomputable def q97 : V := fun _ _ fi _ _ _ _ _ => fi .i64 (nat_lit 33)
noncomputable def q98 : V := fun _ _ fi _ _ _ _ _ => fi .i64 (nat_lit 32)
noncomputable def q103 : V := fun _ _ fi _ _ _ _ _ => fi .i64 (nat_lit 256)
noncomputable def q104 : V := fun _ _ _ fs _ _ _ _ => fs (nat_lit 13) (nat_lit 8830676173798189188992369390201)
noncomputable def q114 : V := fun _ _ _ fs _ _ _ _ => fs (nat_lit 15) (nat_lit 573413202402666960170738154427016548)
noncomputable def q124 : V := fun _ _ _ fs _ _ _ _ => fs (nat_lit 10) (nat_lit 564072569754465408217189)
noncomputable def q148 : V := fun _ _ fi _ _ _ _ _ => fi .i64 (nat_lit 1048576)
noncomputable def n0 : Nat := nat_lit 0
noncomputable def n1 : Nat := nat_lit 1
noncomputable def n2 : Nat := nat_lit 2
noncomputable def n3 : Nat := nat_lit 3
noncomputable def n4 : Nat := nat_lit 4
noncomputable def n5 : Nat := nat_lit 5
noncomputable def n6 : Nat := nat_lit 6
noncomputable def n7 : Nat := nat_lit 7
noncomputable def n8 : Nat := nat_lit 8
noncomputable def n9 : Nat := nat_lit 9
noncomputable def n10 : Nat := nat_lit 10
noncomputable def n11 : Nat := nat_lit 11
noncomputable def n12 : Nat := nat_lit 12
noncomputable def n13 : Nat := nat_lit 13
noncomputable def n14 : Nat := nat_lit 14
noncomputable def n15 : Nat := nat_lit 15
noncomputable def n16 : Nat := nat_lit 16
noncomputable def n17 : Nat := nat_lit 17
noncomputable def n19 : Nat := nat_lit 19
noncomputable def n23 : Nat := nat_lit 23
noncomputable def n24 : Nat := nat_lit 24
noncomputable def n25 : Nat := nat_lit 25
noncomputable def n27 : Nat := nat_lit 27
noncomputable def n28 : Nat := nat_lit 28
noncomputable def n29 : Nat := nat_lit 29
noncomputable def n30 : Nat := nat_lit 30
noncomputable def n35 : Nat := nat_lit 35
noncomputable def n36 : Nat := nat_lit 36
noncomputable def n39 : Nat := nat_lit 39
noncomputable def n40 : Nat := nat_lit 40
noncomputable def n41 : Nat := nat_lit 41
noncomputable def n42 : Nat := nat_lit 42
noncomputable def n43 : Nat := nat_lit 43
noncomputable def n44 : Nat := nat_lit 44
noncomputable def n45 : Nat := nat_lit 45
noncomputable def n48 : Nat := nat_lit 48
noncomputable def n49 : Nat := nat_lit 49
noncomputable def n50 : Nat := nat_lit 50
noncomputable def n51 : Nat := nat_lit 51
noncomputable def n52 : Nat := nat_lit 52
noncomputable def n53 : Nat := nat_lit 53
noncomputable def n54 : Nat := nat_lit 54
noncomputable def n55 : Nat := nat_lit 55
noncomputable def n56 : Nat := nat_lit 56
noncomputable def n57 : Nat := nat_lit 57
noncomputable def n58 : Nat := nat_lit 58
noncomputable def n59 : Nat := nat_lit 59
noncomputable def n60 : Nat := nat_lit 60
noncomputable def n61 : Nat := nat_lit 61
noncomputable def n62 : Nat := nat_lit 62
noncomputable def n63 : Nat := nat_lit 63
noncomputable def n64 : Nat := nat_lit 64
noncomputable def n65 : Nat := nat_lit 65
noncomputable def n66 : Nat := nat_lit 66
noncomputable def n67 : Nat := nat_lit 67
noncomputable def n68 : Nat := nat_lit 68
noncomputable def n73 : Nat := nat_lit 73
noncomputable def n74 : Nat := nat_lit 74
noncomputable def n75 : Nat := nat_lit 75
noncomputable def n76 : Nat := nat_lit 76
noncomputable def n77 : Nat := nat_lit 77
noncomputable def n78 : Nat := nat_lit 78
noncomputable def n82 : Nat := nat_lit 82
noncomputable def n83 : Nat := nat_lit 83
noncomputable def n84 : Nat := nat_lit 84
noncomputable def n93 : Nat := nat_lit 93
noncomputable def n94 : Nat := nat_lit 94
noncomputable def n95 : Nat := nat_lit 95
noncomputable def n96 : Nat := nat_lit 96
noncomputable def n97 : Nat := nat_lit 97
noncomputable def n98 : Nat := nat_lit 98
noncomputable def n99 : Nat := nat_lit 99
noncomputable def n100 : Nat := nat_lit 100
noncomputable def n101 : Nat := nat_lit 101
noncomputable def n104 : Nat := nat_lit 104
noncomputable def n105 : Nat := nat_lit 105
noncomputable def n106 : Nat := nat_lit 106
noncomputable def n107 : Nat := nat_lit 107
noncomputable def n108 : Nat := nat_lit 108
noncomputable def n109 : Nat := nat_lit 109
noncomputable def n110 : Nat := nat_lit 110
noncomputable def n111 : Nat := nat_lit 111
noncomputable def n112 : Nat := nat_lit 112
noncomputable def n115 : Nat := nat_lit 115
noncomputable def n116 : Nat := nat_lit 116
noncomputable def n117 : Nat := nat_lit 117
noncomputable def n118 : Nat := nat_lit 118
noncomputable def n119 : Nat := nat_lit 119
noncomputable def n120 : Nat := nat_lit 120
noncomputable def n124 : Nat := nat_lit 124
noncomputable def n125 : Nat := nat_lit 125
noncomputable def n126 : Nat := nat_lit 126
noncomputable def n127 : Nat := nat_lit 127
noncomputable def n128 : Nat := nat_lit 128
noncomputable def n129 : Nat := nat_lit 129
noncomputable def n130 : Nat := nat_lit 130
noncomputable def n131 : Nat := nat_lit 131
noncomputable def n134 : Nat := nat_lit 134
noncomputable def n166 : Nat := nat_lit 166
noncomputable def n167 : Nat := nat_lit 167
noncomputable def n171 : Nat := nat_lit 171
noncomputable def n172 : Nat := nat_lit 172
noncomputable def n221 : Nat := nat_lit 221
noncomputable def n222 : Nat := nat_lit 222
noncomputable def n223 : Nat := nat_lit 223
noncomputable def n224 : Nat := nat_lit 224
noncomputable def n225 : Nat := nat_lit 225
/-- the regions of a function, in their order -/
noncomputable def regsA : Code → List (Array Oper) → List (Array Oper) := fun c => Code.rec (motive := fun _ => List (Array Oper) → List (Array Oper)) (fun l => l) (fun _ ops _ l => ops :: l) (fun _ _ a b l => a (b l)) (fun _ _ _ a b l => a (b l)) (fun _ _ a l => a l) (fun _ a l => a l)
  (fun _ _ _ _ _ _ l => l) (fun _ l => l) (fun _ _ l => l) (fun _ l => l) (fun _ l => l) (fun l => l) (fun _ l => l) c
noncomputable def reg (f r : Nat) : Array Oper := match (regsA (fBody (fnF f)) [])[r]? with | some a => a | none => #[]
noncomputable def S (f r i : Nat) : OF := slD Tryz.prog glo0 (reg f r) (opAt (reg f r) i)
noncomputable def Sb (f r i : Nat) : OF := slD Tryz.prog glo0 (reg f r) (bare (opAt (reg f r) i))
noncomputable def SA (f r j : Nat) : AgF DD := (slowA Tryz.prog glo0 (reg f r) j).go
noncomputable def RS (f : Nat) : RetF DD := (resS Tryz.prog (fRes (fnF f))).go
noncomputable def fb (f : Nat) : FF := (fnS Tryz.prog tyI fnF glo0 drawn 1000000 f).go
noncomputable def rA (x : V) (k : KR) : SK := lvT (r1 x) k
noncomputable def addTD : SF := addT.go
noncomputable def eqlTD : SF := eqlT.go
noncomputable def neqTD : SF := neqT.go
end Go.Proofs.YtbckjaoljeimgaaGreatDoor
