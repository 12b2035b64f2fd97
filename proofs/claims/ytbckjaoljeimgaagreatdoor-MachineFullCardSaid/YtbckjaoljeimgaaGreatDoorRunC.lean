/- The functions of the program in lifted forms, printed by a program of mine: constants. -/
import Derived.Test.YtbckjaoljeimgaaGreatDoorRunD
namespace Go.Proofs.YtbckjaoljeimgaaGreatDoor
open Go Go.Ev
set_option maxRecDepth 1000000
abbrev OF := OpF DD
abbrev FF := FnF DD
noncomputable def L0 : LdF := lN
noncomputable def L1 : LdF := lC L0
noncomputable def L2 : LdF := lC L1
noncomputable def L3 : LdF := lC L2
noncomputable def L4 : LdF := lC L3
noncomputable def L5 : LdF := lC L4
noncomputable def L6 : LdF := lC L5
noncomputable def L7 : LdF := lC L6
noncomputable def L8 : LdF := lC L7
noncomputable def L9 : LdF := lC L8
noncomputable def L10 : LdF := lC L9
noncomputable def L11 : LdF := lC L10
noncomputable def L12 : LdF := lC L11
noncomputable def L13 : LdF := lC L12
noncomputable def L14 : LdF := lC L13
noncomputable def M0 : StF := sN
noncomputable def M1 : StF := sC M0
noncomputable def M2 : StF := sC M1
noncomputable def M3 : StF := sC M2
noncomputable def M4 : StF := sC M3
noncomputable def M5 : StF := sC M4
noncomputable def M6 : StF := sC M5
noncomputable def M7 : StF := sC M6
noncomputable def M8 : StF := sC M7
noncomputable def M9 : StF := sC M8
noncomputable def M10 : StF := sC M9
noncomputable def M11 : StF := sC M10
noncomputable def M12 : StF := sC M11
noncomputable def M13 : StF := sC M12
noncomputable def M14 : StF := sC M13
noncomputable def Z0 : TmS DD := (ofListB DD [(.int .i64 0), (.int .i64 0), (.bool false), (.int .i64 0), (.int .i64 0), (.str 0 0), (.int .i64 0), .sl0, (.int .i64 0), (.int .i64 0), (.str 0 0), (.int .i64 0), (.bool false), (.int .i64 0)]).go
noncomputable def Z1 : TmS DD := (ofListB DD [(.int .i64 0), (.int .i64 0), (.str 0 0), (.int .i64 0)]).go
noncomputable def Z3 : TmS DD := (ofListB DD [(.int .i64 0), (.int .i64 0), .sl0, .sl0, .sl0, (.int .i64 0), (.int .i64 0), (.int .i64 0), (.int .i64 0), .sl0]).go
noncomputable def Z4 : TmS DD := (ofListB DD [.ptr0, .ptr0, .ptr0]).go
noncomputable def Z5 : TmS DD := (ofListB DD [(.int .i64 0), (.str 0 0), (.int .i64 0), (.int .i64 0), .sl0]).go
noncomputable def Z8 : TmS DD := (ofListB DD [(.int .i64 0), (.int .i64 0), .sl0, .sl0, (.int .i64 0), (.int .i64 0), (.int .i64 0), .sl0]).go
noncomputable def Z10 : TmS DD := (ofListB DD [(.int .i64 0), (.int .i64 0)]).go
noncomputable def Z13 : TmS DD := (ofListB DD [(.int .i64 0), (.int .i64 0), .sl0, .sl0, (.int .i64 0)]).go
noncomputable def Z16 : TmS DD := (ofListB DD [(.int .i64 0), (.str 0 0), (.int .i64 0)]).go
noncomputable def Z18 : TmS DD := (ofListB DD [(.bool false), (.bool false), (.bool false), (.bool false)]).go
noncomputable def Z19 : TmS DD := (ofListB DD [(.int .i64 0), (.int .i64 0), (.int .i64 0)]).go
noncomputable def Z22 : TmS DD := (ofListB DD [(.str 0 0), (.int .i64 0), (.int .i64 0), (.int .i64 0), (.bool false), (.int .i64 0), (.bool false)]).go
noncomputable def q0 : V := fun _ ff _ _ _ _ _ _ => ff
noncomputable def q1 : V := fun _ _ fi _ _ _ _ _ => fi .i64 (nat_lit 5)
noncomputable def q3 : V := fun _ _ fi _ _ _ _ _ => fi .i64 (nat_lit 0)
noncomputable def q5 : V := fun tt _ _ _ _ _ _ _ => tt
noncomputable def q6 : V := fun _ _ fi _ _ _ _ _ => fi .i64 (nat_lit 2)
noncomputable def q7 : V := fun _ _ fi _ _ _ _ _ => fi .i64 (nat_lit 16)
noncomputable def q8 : V := fun _ _ fi _ _ _ _ _ => fi .i64 (nat_lit 100000)
noncomputable def q9 : V := fun _ _ fi _ _ _ _ _ => fi .u8 (nat_lit 32)
noncomputable def q14 : V := fun _ _ fi _ _ _ _ _ => fi .i64 (nat_lit 1)
noncomputable def q16 : V := fun _ _ fi _ _ _ _ _ => fi .i64 (nat_lit 3)
noncomputable def q24 : V := fun _ _ fi _ _ _ _ _ => fi .i64 (nat_lit 9)
noncomputable def q25 : V := fun _ _ fi _ _ _ _ _ => fi .i64 (nat_lit 20)
noncomputable def q27 : V := encV .ptr0
noncomputable def q28 : V := fun _ _ fi _ _ _ _ _ => fi .i64 (nat_lit 12)
noncomputable def q29 : V := encV .sl0
noncomputable def q30 : V := fun _ _ fi _ _ _ _ _ => fi .i64 (nat_lit 99984)
noncomputable def q31 : V := fun _ _ fi _ _ _ _ _ => fi .i64 (nat_lit 4)
noncomputable def q33 : V := fun _ _ _ fs _ _ _ _ => fs (nat_lit 6) (nat_lit 119182899770472)
noncomputable def q34 : V := fun _ _ fi _ _ _ _ _ => fi .i64 (nat_lit 6)
noncomputable def q35 : V := fun _ _ fi _ _ _ _ _ => fi .i64 (nat_lit 8)
noncomputable def q39 : V := fun _ _ fi _ _ _ _ _ => fi .i64 (nat_lit 31)
noncomputable def q40 : V := fun _ _ fi _ _ _ _ _ => fi .i64 (nat_lit 25)
noncomputable def q41 : V := fun _ _ fi _ _ _ _ _ => fi .i64 (nat_lit 21)
noncomputable def q42 : V := fun _ _ fi _ _ _ _ _ => fi .i64 (nat_lit 11)
noncomputable def q43 : V := fun _ _ fi _ _ _ _ _ => fi .i64 (nat_lit 45)
noncomputable def q44 : V := fun _ _ fi _ _ _ _ _ => fi .i64 (nat_lit 44)
noncomputable def q45 : V := fun _ _ fi _ _ _ _ _ => fi .i64 (nat_lit 43)
noncomputable def q46 : V := fun _ _ fi _ _ _ _ _ => fi .i64 (nat_lit 42)
noncomputable def q47 : V := fun _ _ fi _ _ _ _ _ => fi .i64 (nat_lit 41)
noncomputable def q48 : V := fun _ _ fi _ _ _ _ _ => fi .i64 (nat_lit 40)
noncomputable def q49 : V := fun _ _ fi _ _ _ _ _ => fi .i64 (nat_lit 53)
noncomputable def q50 : V := fun _ _ fi _ _ _ _ _ => fi .i64 (nat_lit 52)
noncomputable def q51 : V := fun _ _ fi _ _ _ _ _ => fi .i64 (nat_lit 51)
noncomputable def q52 : V := fun _ _ fi _ _ _ _ _ => fi .i64 (nat_lit 49)
noncomputable def q53 : V := fun _ _ fi _ _ _ _ _ => fi .i64 (nat_lit 48)
noncomputable def q54 : V := fun _ _ fi _ _ _ _ _ => fi .i64 (nat_lit 47)
noncomputable def q55 : V := fun _ _ fi _ _ _ _ _ => fi .i64 (nat_lit 46)
noncomputable def q56 : V := fun _ _ _ fs _ _ _ _ => fs (nat_lit 0) (nat_lit 0)
noncomputable def q57 : V := fun _ _ fi _ _ _ _ _ => fi .i64 (nat_lit 7)
noncomputable def q58 : V := fun _ _ fi _ _ _ _ _ => fi .i64 (nat_lit 10)
noncomputable def q59 : V := vOth (.int .i64 (.negSucc 0))
noncomputable def q60 : V := fun _ _ fi _ _ _ _ _ => fi .i64 (nat_lit 10000)
noncomputable def q65 : V := fun _ _ fi _ _ _ _ _ => fi .i64 (nat_lit 2147483647)
noncomputable def q72 : V := fun _ _ fi _ _ _ _ _ => fi .i64 (nat_lit 19)
noncomputable def q73 : V := fun _ _ fi _ _ _ _ _ => fi .i64 (nat_lit 15)
noncomputable def q74 : V := fun _ _ fi _ _ _ _ _ => fi .i64 (nat_lit 18)
noncomputable def q75 : V := fun _ _ fi _ _ _ _ _ => fi .i64 (nat_lit 14)
noncomputable def q76 : V := fun _ _ fi _ _ _ _ _ => fi .i64 (nat_lit 17)
noncomputable def q77 : V := fun _ _ fi _ _ _ _ _ => fi .i64 (nat_lit 13)
noncomputable def q80 : V := fun _ _ fi _ _ _ _ _ => fi .i64 (nat_lit 24)
noncomputable def q81 : V := fun _ _ fi _ _ _ _ _ => fi .i64 (nat_lit 23)
noncomputable def q82 : V := fun _ _ fi _ _ _ _ _ => fi .i64 (nat_lit 22)
noncomputable def q83 : V := fun _ _ fi _ _ _ _ _ => fi .i64 (nat_lit 30)
noncomputable def q84 : V := fun _ _ fi _ _ _ _ _ => fi .i64 (nat_lit 29)
noncomputable def q85 : V := fun _ _ fi _ _ _ _ _ => fi .i64 (nat_lit 28)
noncomputable def q86 : V := fun _ _ fi _ _ _ _ _ => fi .i64 (nat_lit 27)
noncomputable def q87 : V := fun _ _ fi _ _ _ _ _ => fi .i64 (nat_lit 26)
noncomputable def q90 : V := fun _ _ fi _ _ _ _ _ => fi .i64 (nat_lit 50)
noncomputable def q91 : V := fun _ _ fi _ _ _ _ _ => fi .i64 (nat_lit 39)
noncomputable def q92 : V := fun _ _ fi _ _ _ _ _ => fi .i64 (nat_lit 38)
noncomputable def q93 : V := fun _ _ fi _ _ _ _ _ => fi .i64 (nat_lit 37)
noncomputable def q94 : V := fun _ _ fi _ _ _ _ _ => fi .i64 (nat_lit 36)
noncomputable def q95 : V := fun _ _ fi _ _ _ _ _ => fi .i64 (nat_lit 35)
noncomputable def q96 : V := fun _ _ fi _ _ _ _ _ => fi .i64 (nat_lit 34)
noncomputable def q97 : V := fun _ _ fi _ _ _ _ _ => fi .i64 (nat_lit 33)
noncomputable def q98 : V := fun _ _ fi _ _ _ _ _ => fi .i64 (nat_lit 32)
noncomputable def q105 : V := fun _ _ fi _ _ _ _ _ => fi .i64 (nat_lit 64)
noncomputable def q107 : V := fun _ _ _ fs _ _ _ _ => fs (nat_lit 1) (nat_lit 59)
noncomputable def q108 : V := fun _ _ _ fs _ _ _ _ => fs (nat_lit 1) (nat_lit 123)
noncomputable def q109 : V := fun _ _ _ fs _ _ _ _ => fs (nat_lit 5) (nat_lit 427071271796)
noncomputable def q110 : V := fun _ _ _ fs _ _ _ _ => fs (nat_lit 3) (nat_lit 7103860)
noncomputable def q115 : V := fun _ _ _ fs _ _ _ _ => fs (nat_lit 9) (nat_lit 2166223650956390589796)
noncomputable def q120 : V := fun _ _ _ fs _ _ _ _ => fs (nat_lit 8) (nat_lit 7382928537577680750)
noncomputable def q128 : V := fun _ _ fi _ _ _ _ _ => fi .i64 (nat_lit 128)
noncomputable def q129 : V := fun _ _ _ fs _ _ _ _ => fs (nat_lit 1) (nat_lit 125)
noncomputable def q130 : V := fun _ _ _ fs _ _ _ _ => fs (nat_lit 1) (nat_lit 93)
noncomputable def q131 : V := fun _ _ _ fs _ _ _ _ => fs (nat_lit 1) (nat_lit 41)
noncomputable def q132 : V := fun _ _ _ fs _ _ _ _ => fs (nat_lit 1) (nat_lit 91)
noncomputable def q133 : V := fun _ _ _ fs _ _ _ _ => fs (nat_lit 1) (nat_lit 40)
noncomputable def q136 : V := fun _ _ _ fs _ _ _ _ => fs (nat_lit 5) (nat_lit 418549165667)
noncomputable def q138 : V := fun _ _ _ fs _ _ _ _ => fs (nat_lit 4) (nat_lit 1701606245)
noncomputable def q139 : V := fun _ _ _ fs _ _ _ _ => fs (nat_lit 8) (nat_lit 7165066978433856869)
noncomputable def q140 : V := fun _ _ _ fs _ _ _ _ => fs (nat_lit 3) (nat_lit 7631481)
noncomputable def q141 : V := fun _ _ _ fs _ _ _ _ => fs (nat_lit 5) (nat_lit 499968536439)
noncomputable def q142 : V := fun _ _ _ fs _ _ _ _ => fs (nat_lit 5) (nat_lit 422826041707)
noncomputable def q143 : V := fun _ _ _ fs _ _ _ _ => fs (nat_lit 6) (nat_lit 125780071117422)
noncomputable def q144 : V := fun _ _ _ fs _ _ _ _ => fs (nat_lit 3) (nat_lit 6713202)
noncomputable def q145 : V := fun _ _ _ fs _ _ _ _ => fs (nat_lit 5) (nat_lit 512852847717)
noncomputable def q146 : V := fun _ _ _ fs _ _ _ _ => fs (nat_lit 2) (nat_lit 26982)
noncomputable def q147 : V := fun _ _ _ fs _ _ _ _ => fs (nat_lit 5) (nat_lit 521459297380)
noncomputable def q148 : V := fun _ _ fi _ _ _ _ _ => fi .i64 (nat_lit 1048576)
noncomputable def q163 : V := fun _ _ _ fs _ _ _ _ => fs (nat_lit 2) (nat_lit 28518)
noncomputable def q164 : V := fun _ _ _ fs _ _ _ _ => fs (nat_lit 7) (nat_lit 28826370426301561)
noncomputable def q165 : V := fun _ _ _ fs _ _ _ _ => fs (nat_lit 5) (nat_lit 426836779880)
noncomputable def q166 : V := fun _ _ _ fs _ _ _ _ => fs (nat_lit 2) (nat_lit 15678)
noncomputable def q171 : V := fun _ _ _ fs _ _ _ _ => fs (nat_lit 4) (nat_lit 1853189228)
noncomputable def q172 : V := fun _ _ fi _ _ _ _ _ => fi .u8 (nat_lit 48)
noncomputable def q173 : V := fun _ _ fi _ _ _ _ _ => fi .u8 (nat_lit 10)
noncomputable def q174 : V := fun _ _ fi _ _ _ _ _ => fi .u8 (nat_lit 97)
noncomputable def q175 : V := fun _ _ fi _ _ _ _ _ => fi .u8 (nat_lit 122)
noncomputable def q176 : V := fun _ _ fi _ _ _ _ _ => fi .u8 (nat_lit 57)
noncomputable def q177 : V := fun _ _ fi _ _ _ _ _ => fi .u8 (nat_lit 95)
noncomputable def q196 : V := fun _ _ _ fs _ _ _ _ => fs (nat_lit 2) (nat_lit 10799)
noncomputable def q197 : V := fun _ _ _ fs _ _ _ _ => fs (nat_lit 2) (nat_lit 12074)
noncomputable def q198 : V := fun _ _ _ fs _ _ _ _ => fs (nat_lit 2) (nat_lit 12079)
noncomputable def q199 : V := fun _ _ fi _ _ _ _ _ => fi .u8 (nat_lit 13)
noncomputable def q200 : V := fun _ _ fi _ _ _ _ _ => fi .u8 (nat_lit 9)
noncomputable def q201 : V := fun _ _ fi _ _ _ _ _ => fi .u8 (nat_lit 39)
noncomputable def q202 : V := fun _ _ fi _ _ _ _ _ => fi .u8 (nat_lit 34)
noncomputable def q213 : V := fun _ _ fi _ _ _ _ _ => fi .u8 (nat_lit 36)
noncomputable def q214 : V := fun _ _ fi _ _ _ _ _ => fi .u8 (nat_lit 90)
noncomputable def q215 : V := fun _ _ fi _ _ _ _ _ => fi .u8 (nat_lit 65)
noncomputable def q216 : V := fun _ _ _ fs _ _ _ _ => fs (nat_lit 6) (nat_lit 128064925560678)
noncomputable def q217 : V := fun _ _ _ fs _ _ _ _ => fs (nat_lit 4) (nat_lit 1953658213)
noncomputable def q218 : V := fun _ _ _ fs _ _ _ _ => fs (nat_lit 4) (nat_lit 1952999795)
noncomputable def q219 : V := fun _ _ _ fs _ _ _ _ => fs (nat_lit 3) (nat_lit 7234935)
noncomputable def q220 : V := fun _ _ _ fs _ _ _ _ => fs (nat_lit 10) (nat_lit 497885941930959200153446)
noncomputable def q221 : V := fun _ _ _ fs _ _ _ _ => fs (nat_lit 2) (nat_lit 26990)
noncomputable def q222 : V := fun _ _ _ fs _ _ _ _ => fs (nat_lit 5) (nat_lit 439721161573)
noncomputable def q223 : V := fun _ _ _ fs _ _ _ _ => fs (nat_lit 6) (nat_lit 110386773062757)
noncomputable def q224 : V := fun _ _ _ fs _ _ _ _ => fs (nat_lit 5) (nat_lit 418614700404)
noncomputable def q226 : V := fun _ _ _ fs _ _ _ _ => fs (nat_lit 20) (nat_lit 704996956525606734928501125991493482980038491198)
noncomputable def q227 : V := fun _ _ _ fs _ _ _ _ => fs (nat_lit 2) (nat_lit 11565)
noncomputable def q228 : V := fun _ _ _ fs _ _ _ _ => fs (nat_lit 2) (nat_lit 11051)
noncomputable def q229 : V := fun _ _ _ fs _ _ _ _ => fs (nat_lit 2) (nat_lit 16191)
noncomputable def q230 : V := fun _ _ _ fs _ _ _ _ => fs (nat_lit 2) (nat_lit 31868)
noncomputable def q231 : V := fun _ _ _ fs _ _ _ _ => fs (nat_lit 2) (nat_lit 9766)
noncomputable def q232 : V := fun _ _ _ fs _ _ _ _ => fs (nat_lit 2) (nat_lit 15933)
noncomputable def q233 : V := fun _ _ _ fs _ _ _ _ => fs (nat_lit 2) (nat_lit 15421)
noncomputable def q234 : V := fun _ _ _ fs _ _ _ _ => fs (nat_lit 2) (nat_lit 8509)
noncomputable def q235 : V := fun _ _ _ fs _ _ _ _ => fs (nat_lit 2) (nat_lit 15677)
noncomputable def q236 : V := fun _ _ _ fs _ _ _ _ => fs (nat_lit 2) (nat_lit 10813)
noncomputable def q237 : V := fun _ _ _ fs _ _ _ _ => fs (nat_lit 2) (nat_lit 11581)
noncomputable def q238 : V := fun _ _ _ fs _ _ _ _ => fs (nat_lit 2) (nat_lit 11069)
noncomputable def q239 : V := fun _ _ _ fs _ _ _ _ => fs (nat_lit 3) (nat_lit 2178365)
noncomputable def q240 : V := fun _ _ _ fs _ _ _ _ => fs (nat_lit 3) (nat_lit 4013373)
noncomputable def n0 : Nat := nat_lit 0
noncomputable def n1 : Nat := nat_lit 1
noncomputable def n2 : Nat := nat_lit 2
noncomputable def n3 : Nat := nat_lit 3
noncomputable def n4 : Nat := nat_lit 4
noncomputable def n5 : Nat := nat_lit 5
noncomputable def n6 : Nat := nat_lit 6
noncomputable def n7 : Nat := nat_lit 7
noncomputable def n8 : Nat := nat_lit 8
noncomputable def n9 : Nat := nat_lit 9
noncomputable def n10 : Nat := nat_lit 10
noncomputable def n11 : Nat := nat_lit 11
noncomputable def n12 : Nat := nat_lit 12
noncomputable def n13 : Nat := nat_lit 13
noncomputable def n14 : Nat := nat_lit 14
noncomputable def n15 : Nat := nat_lit 15
noncomputable def n16 : Nat := nat_lit 16
noncomputable def n17 : Nat := nat_lit 17
noncomputable def n18 : Nat := nat_lit 18
noncomputable def n19 : Nat := nat_lit 19
noncomputable def n23 : Nat := nat_lit 23
noncomputable def n24 : Nat := nat_lit 24
noncomputable def n25 : Nat := nat_lit 25
noncomputable def n27 : Nat := nat_lit 27
noncomputable def n28 : Nat := nat_lit 28
noncomputable def n29 : Nat := nat_lit 29
noncomputable def n30 : Nat := nat_lit 30
noncomputable def n36 : Nat := nat_lit 36
noncomputable def n37 : Nat := nat_lit 37
noncomputable def n38 : Nat := nat_lit 38
noncomputable def n39 : Nat := nat_lit 39
noncomputable def n48 : Nat := nat_lit 48
noncomputable def n52 : Nat := nat_lit 52
noncomputable def n53 : Nat := nat_lit 53
noncomputable def n54 : Nat := nat_lit 54
noncomputable def n55 : Nat := nat_lit 55
noncomputable def n56 : Nat := nat_lit 56
noncomputable def n57 : Nat := nat_lit 57
noncomputable def n58 : Nat := nat_lit 58
noncomputable def n59 : Nat := nat_lit 59
noncomputable def n60 : Nat := nat_lit 60
noncomputable def n61 : Nat := nat_lit 61
noncomputable def n62 : Nat := nat_lit 62
noncomputable def n63 : Nat := nat_lit 63
noncomputable def n64 : Nat := nat_lit 64
noncomputable def n65 : Nat := nat_lit 65
noncomputable def n66 : Nat := nat_lit 66
noncomputable def n67 : Nat := nat_lit 67
noncomputable def n68 : Nat := nat_lit 68
noncomputable def n72 : Nat := nat_lit 72
noncomputable def n78 : Nat := nat_lit 78
noncomputable def n79 : Nat := nat_lit 79
noncomputable def n80 : Nat := nat_lit 80
noncomputable def n82 : Nat := nat_lit 82
noncomputable def n93 : Nat := nat_lit 93
noncomputable def n106 : Nat := nat_lit 106
noncomputable def n131 : Nat := nat_lit 131
noncomputable def n132 : Nat := nat_lit 132
noncomputable def n133 : Nat := nat_lit 133
noncomputable def n135 : Nat := nat_lit 135
noncomputable def n139 : Nat := nat_lit 139
noncomputable def n140 : Nat := nat_lit 140
noncomputable def n141 : Nat := nat_lit 141
noncomputable def n142 : Nat := nat_lit 142
noncomputable def n144 : Nat := nat_lit 144
noncomputable def n148 : Nat := nat_lit 148
noncomputable def n150 : Nat := nat_lit 150
noncomputable def n156 : Nat := nat_lit 156
noncomputable def n158 : Nat := nat_lit 158
noncomputable def n172 : Nat := nat_lit 172
noncomputable def n182 : Nat := nat_lit 182
noncomputable def n183 : Nat := nat_lit 183
noncomputable def n184 : Nat := nat_lit 184
noncomputable def n185 : Nat := nat_lit 185
noncomputable def n186 : Nat := nat_lit 186
noncomputable def n190 : Nat := nat_lit 190
noncomputable def n191 : Nat := nat_lit 191
noncomputable def n200 : Nat := nat_lit 200
noncomputable def n201 : Nat := nat_lit 201
noncomputable def n204 : Nat := nat_lit 204
noncomputable def n218 : Nat := nat_lit 218
noncomputable def n221 : Nat := nat_lit 221
noncomputable def n235 : Nat := nat_lit 235
noncomputable def n236 : Nat := nat_lit 236
noncomputable def n238 : Nat := nat_lit 238
noncomputable def n239 : Nat := nat_lit 239
noncomputable def n247 : Nat := nat_lit 247
noncomputable def n259 : Nat := nat_lit 259
noncomputable def n272 : Nat := nat_lit 272
noncomputable def n273 : Nat := nat_lit 273
noncomputable def n274 : Nat := nat_lit 274
noncomputable def n275 : Nat := nat_lit 275
noncomputable def n276 : Nat := nat_lit 276
noncomputable def n277 : Nat := nat_lit 277
noncomputable def n278 : Nat := nat_lit 278
noncomputable def n279 : Nat := nat_lit 279
noncomputable def n280 : Nat := nat_lit 280
noncomputable def n281 : Nat := nat_lit 281
noncomputable def n282 : Nat := nat_lit 282
noncomputable def n283 : Nat := nat_lit 283
noncomputable def n296 : Nat := nat_lit 296
noncomputable def n316 : Nat := nat_lit 316
/-- the regions of a function, in their order -/
noncomputable def regsA : Code → List (Array Oper) → List (Array Oper) := fun c => Code.rec (motive := fun _ => List (Array Oper) → List (Array Oper)) (fun l => l) (fun _ ops _ l => ops :: l) (fun _ _ a b l => a (b l)) (fun _ _ _ a b l => a (b l)) (fun _ _ a l => a l) (fun _ a l => a l)
  (fun _ _ _ _ _ _ l => l) (fun _ l => l) (fun _ _ l => l) (fun _ l => l) (fun _ l => l) (fun l => l) (fun _ l => l) c
noncomputable def reg (f r : Nat) : Array Oper := match (regsA (fBody (fnF f)) [])[r]? with | some a => a | none => #[]
noncomputable def S (f r i : Nat) : OF := slD Tryz.prog glo0 (reg f r) (opAt (reg f r) i)
noncomputable def Sb (f r i : Nat) : OF := slD Tryz.prog glo0 (reg f r) (bare (opAt (reg f r) i))
noncomputable def SA (f r j : Nat) : AgF DD := (slowA Tryz.prog glo0 (reg f r) j).go
noncomputable def RS (f : Nat) : RetF DD := (resS Tryz.prog (fRes (fnF f))).go
noncomputable def fb (f : Nat) : FF := (fnS Tryz.prog tyI fnF glo0 drawn 1000000 f).go
noncomputable def rA (x : V) (k : KR) : SK := lvT (r1 x) k
noncomputable def addTD : SF := addT.go
noncomputable def eqlTD : SF := eqlT.go
noncomputable def neqTD : SF := neqT.go
end Go.Proofs.YtbckjaoljeimgaaGreatDoor
