/- The functions of the program in lifted forms, printed by a program of mine (part 0). -/
import Derived.Test.YtaikcgmgjchfmaaGreatDoorRunC
namespace Go.Proofs.YtaikcgmgjchfmaaGreatDoor
open Go Go.Ev
set_option maxRecDepth 1000000
noncomputable def z7 (r i d : Nat) (l : LE) : (V → SK) → SK := zS 33 (S 7 r i) d l
noncomputable def x7 (r i : Nat) (l : LE) : (V → SK) → SK := fun u => zN 33 (S 7 r i) l (u vUndef)
noncomputable def c7_0 (k : KR) (x7 : V) : SK := rA x7 k
noncomputable def c7_1 (j1 : V → V → SK) (x13 x14 : V) : SK := tB quoD (z7 9 1 23 [(22,x13)]) x13 q64 fun x15 => j1 x15 x14
noncomputable def c7_2 (j1 : V → V → SK) (x11 x12 : V) : SK := jn (c7_1 j1) fun j2 => tB remD (z7 8 1 25 [(24,x11)]) x11 q64 fun x16 => tB remD (z7 8 3 27 [(26,x11)]) x11 q64 fun x17 => tB addD (z7 8 4 28 [(27,x17)]) x17 q3 fun x18 => (z7 8 5 29 [(25,x16),(28,x18)]) fun x19 => tT addTD (z7 8 7 31 [(29,x19),(30,x12)]) x19 x12 fun x20 => j2 x11 x20
noncomputable def c7_3 (j0 : V → SK) (j1 : V → V → SK) (x9 x10 : V) : SK := jn (c7_2 j1) fun j3 => tB gtrD (z7 7 1 21 [(20,x9)]) x9 q1 fun x21 => tJ x21 (j3 x9 x10) (j0 x10)
noncomputable def c7_4 (k : KR) (x2 : V) : SK := tB remD (z7 5 1 13 [(12,x2)]) x2 q64 fun x3 => tB remD (z7 5 3 15 [(14,x2)]) x2 q64 fun x4 => tB addD (z7 5 4 16 [(15,x4)]) x4 q3 fun x5 => (z7 5 5 17 [(13,x3),(16,x5)]) fun x6 => jn (c7_0 k) fun j0 => tB quoD (z7 6 1 19 [(18,x2)]) x2 q64 fun x8 => lp (fun _ _ => badK) (c7_3 j0) 1000000 x8 x6
noncomputable def c7_5 (k : KR) (x1 : V) : SK := jn (c7_4 k) fun j4 => tB lssD (z7 3 1 7 [(6,x1)]) x1 q1 fun x22 => tJ x22 ((z7 4 1 9 [(8,x1)]) fun x23 => tC [x23] n7 fun x24 => tT addTD (z7 4 3 11 [(10,x24)]) q65 x24 fun x25 => rA x25 k) (j4 x1)
noncomputable def c7_6 (k : KR) (x0 : V) : SK := jn (c7_5 k) fun j5 => tB eqlD (z7 1 1 5 [(4,x0)]) x0 q67 fun x26 => tJ x26 (rA q66 k) (j5 x0)
noncomputable def F7 : FF := fT [0] c7_6 (fb 7)
noncomputable def z10 (r i d : Nat) (l : LE) : (V → SK) → SK := zS 5 (S 10 r i) d l
noncomputable def y10 (r i : Nat) (l : LE) : SK → SK := zN 5 (S 10 r i) l
noncomputable def c10_0 (k : KR) (x0 : V) : SK := tAl 45 4 Z2 fun x1 => tA (xcO q5 (xcO x0 (xcC (.str 0 0) (xcC (.int .i64 0) xcN)))) (z10 1 1 4 [(3,x0)]) fun x2 => tSs M4 (y10 1 2 [(2,x1),(4,x2)]) x1 x2 (lvT (rZ 5 (RS 10) [(2,x1)]) k)
noncomputable def F10 : FF := fT [0] c10_0 (fb 10)
noncomputable def z11 (r i d : Nat) (l : LE) : (V → SK) → SK := zS 7 (S 11 r i) d l
noncomputable def c11_0 (k : KR) (x0 : V) : SK := tN (z11 1 1 4 [(3,x0)]) x0 fun x1 => tFa x1 n4 fun x2 => tL x2 fun x3 => rA x3 k
noncomputable def F11 : FF := fT [0] c11_0 (fb 11)
noncomputable def z12 (r i d : Nat) (l : LE) : (V → SK) → SK := zS 40 (S 12 r i) d l
noncomputable def x12 (r i : Nat) (l : LE) : (V → SK) → SK := fun u => zN 40 (S 12 r i) l (u vUndef)
noncomputable def y12 (r i : Nat) (l : LE) : SK → SK := zN 40 (S 12 r i) l
noncomputable def zb12 (r i d : Nat) (l : LE) : (V → SK) → SK := zS 40 (Sb 12 r i) d l
noncomputable def c12_0 (k : KR) (x8 x9 : V) : SK := tN (z12 8 1 36 [(35,x8)]) x8 fun x10 => tFa x10 n0 fun x11 => tLs L10 x9 fun x12 => tC [x11,x12] n20 fun x13 => lvT (rW (rwC x13 (rwC q1 rwN))) k
noncomputable def c12_1 (j0 : V → V → SK) (x4 x5 x7 : V) : SK := tN (z12 6 2 22 [(21,x4)]) x4 fun x14 => tFa x14 n7 fun x15 => tL x15 fun x16 => tLl (z12 6 5 25 [(24,x16)]) x16 fun x17 => tB lssD (z12 6 6 26 [(20,x5),(25,x17)]) x5 x17 fun x18 => tJ x18 (tN (z12 7 1 28 [(27,x4)]) x4 fun x19 => tFa x19 n7 fun x20 => tL x20 fun x21 => tIa (z12 7 5 32 [(30,x21),(31,x5)]) x21 x5 n1 fun x22 => tL x22 fun x23 => tFa x7 n1 fun x24 => tS (y12 7 8 [(34,x24),(33,x23)]) x24 x23 (j0 x4 x7)) (j0 x4 x7)
noncomputable def c12_2 (k : KR) (x4 x5 : V) : SK := tA (xcO x5 (xcC (.int .i64 0) (xcC .sl0 (xcC .sl0 (xcC .sl0 (xcC (.int .i64 0) (xcC (.int .i64 0) (xcC (.int .i64 0) (xcC (.int .i64 0) (xcC .sl0 xcN)))))))))) (z12 5 1 19 [(18,x5)]) fun x6 => tAl 55 10 Z3 fun x7 => tSs M10 (y12 5 3 [(6,x7),(19,x6)]) x7 x6 (jn (c12_0 k) fun j0 => c12_1 j0 x4 x5 x7)
noncomputable def c12_3 (k : KR) (x2 x3 : V) : SK := jn (c12_2 k) fun j1 => tN (z12 3 1 14 [(13,x2)]) x2 fun x25 => tFa x25 n0 fun x26 => tC [x26] n11 fun x27 => tB geqD (z12 3 4 17 [(16,x27)]) x27 q33 fun x28 => tJ x28 (lvT (rW (rwC q1 (rwC q27 rwN))) k) (j1 x2 x3)
noncomputable def c12_4 (k : KR) (j2 : V → V → SK) (x0 x1 x29 : V) (x31 : V) : SK := tK x29 q30 x31 fun x32 => tJ x32 (lvT (rW (rwC q1 (rwC q3 rwN))) k) (j2 x0 x1)
noncomputable def c12_5 (k : KR) (j2 : V → V → SK) (x0 x1 x29 : V) (x30 : V) : SK := tG0 (c12_4 k j2 x0 x1 x29) x29 fun r => tB geqD (zb12 1 4 11 [(10,x30)]) x30 q69 r
noncomputable def c12_6 (k : KR) (x0 x1 : V) : SK := jn (c12_3 k) fun j2 => tB lssD (z12 1 1 8 [(7,x1)]) x1 q1 fun x29 => tG0 (c12_5 k j2 x0 x1 x29) x29 fun r => r x1
noncomputable def F12 : FF := fT [0,1] c12_6 (fb 12)
noncomputable def z13 (r i d : Nat) (l : LE) : (V → SK) → SK := zS 178 (S 13 r i) d l
noncomputable def x13 (r i : Nat) (l : LE) : (V → SK) → SK := fun u => zN 178 (S 13 r i) l (u vUndef)
noncomputable def y13 (r i : Nat) (l : LE) : SK → SK := zN 178 (S 13 r i) l
noncomputable def zb13 (r i d : Nat) (l : LE) : (V → SK) → SK := zS 178 (Sb 13 r i) d l
noncomputable def c13_0 (k : KR) (x29 x31 x32 x35 x37 : V) : SK := tL x37 fun x38 => tIa (z13 22 10 168 [(163,x35),(167,x38)]) x35 x38 n7 fun x39 => tFa x39 n4 fun x40 => tL x40 fun x41 => tN (z13 22 14 172 [(171,x31)]) x31 fun x42 => tFa x42 n2 fun x43 => tL x43 fun x44 => tIa (z13 22 17 175 [(170,x41),(174,x44)]) x41 x44 n3 fun x45 => tLs L3 x45 fun x46 => tC [x32,x31,x46] n27 fun x47 => tSs M14 (y13 22 20 [(6,x29),(177,x47)]) x29 x47 (lvT (rZ 178 (RS 13) [(6,x29)]) k)
noncomputable def c13_1 (k : KR) (x28 x29 x30 x31 : V) : SK := tLs L3 x30 fun x32 => tN (z13 22 3 161 [(160,x28)]) x28 fun x33 => tFa x33 n0 fun x34 => tL x34 fun x35 => tN (z13 22 7 165 [(164,x31)]) x31 fun x36 => tFa x36 n1 fun x37 => c13_0 k x29 x31 x32 x35 x37
noncomputable def c13_2 (j0 : V → V → V → V → SK) (x24 x25 x26 x27 x68 : V) (x85 : V) : SK := tK x68 q30 x85 fun x86 => tJ x86 (tLs L3 x26 fun x87 => tC [x87] n26 fun _ => j0 x24 x25 x26 x27) (j0 x24 x25 x26 x27)
noncomputable def c13_3 (j0 : V → V → V → V → SK) (x24 x25 x26 x27 x68 x72 : V) (x84 : V) : SK := tG0 (c13_2 j0 x24 x25 x26 x27 x68) x68 fun r => tB geqD (zb13 20 41 154 [(141,x72),(153,x84)]) x72 x84 r
noncomputable def c13_4 (j0 : V → V → V → V → SK) (x24 x25 x26 x27 x68 x72 : V) (x83 : V) : SK := tG0 (c13_3 j0 x24 x25 x26 x27 x68 x72) x68 fun r => tLl (zb13 20 40 153 [(152,x83)]) x83 r
noncomputable def c13_5 (j0 : V → V → V → V → SK) (x24 x25 x26 x27 x68 x72 : V) (x82 : V) : SK := tG0 (c13_4 j0 x24 x25 x26 x27 x68 x72) x68 fun r => tL x82 r
noncomputable def c13_6 (j0 : V → V → V → V → SK) (x24 x25 x26 x27 x68 x72 : V) (x81 : V) : SK := tG0 (c13_5 j0 x24 x25 x26 x27 x68 x72) x68 fun r => tFa x81 n4 r
noncomputable def c13_7 (j0 : V → V → V → V → SK) (x24 x25 x26 x27 x68 x72 x76 : V) (x80 : V) : SK := tG0 (c13_6 j0 x24 x25 x26 x27 x68 x72) x68 fun r => tIa (zb13 20 37 150 [(145,x76),(149,x80)]) x76 x80 n7 r
noncomputable def c13_8 (j0 : V → V → V → V → SK) (x24 x25 x26 x27 x68 x72 x76 : V) (x79 : V) : SK := tG0 (c13_7 j0 x24 x25 x26 x27 x68 x72 x76) x68 fun r => tL x79 r
noncomputable def c13_9 (j0 : V → V → V → V → SK) (x24 x25 x26 x27 x68 x72 x76 : V) (x78 : V) : SK := tG0 (c13_8 j0 x24 x25 x26 x27 x68 x72 x76) x68 fun r => tFa x78 n1 r
noncomputable def c13_10 (j0 : V → V → V → V → SK) (x24 x25 x26 x27 x68 x72 x76 : V) (x77 : V) : SK := tG0 (c13_9 j0 x24 x25 x26 x27 x68 x72 x76) x68 fun r => tN (zb13 20 34 147 [(146,x77)]) x77 r
noncomputable def c13_11 (j0 : V → V → V → V → SK) (x24 x25 x26 x27 x68 x72 : V) (x76 : V) : SK := tG0 (c13_10 j0 x24 x25 x26 x27 x68 x72 x76) x68 fun r => r x27
noncomputable def c13_12 (j0 : V → V → V → V → SK) (x24 x25 x26 x27 x68 x72 : V) (x75 : V) : SK := tG0 (c13_11 j0 x24 x25 x26 x27 x68 x72) x68 fun r => tL x75 r
noncomputable def c13_13 (j0 : V → V → V → V → SK) (x24 x25 x26 x27 x68 x72 : V) (x74 : V) : SK := tG0 (c13_12 j0 x24 x25 x26 x27 x68 x72) x68 fun r => tFa x74 n0 r
noncomputable def c13_14 (j0 : V → V → V → V → SK) (x24 x25 x26 x27 x68 x72 : V) (x73 : V) : SK := tG0 (c13_13 j0 x24 x25 x26 x27 x68 x72) x68 fun r => tN (zb13 20 30 143 [(142,x73)]) x73 r
noncomputable def c13_15 (j0 : V → V → V → V → SK) (x24 x25 x26 x27 x68 : V) (x72 : V) : SK := tG0 (c13_14 j0 x24 x25 x26 x27 x68 x72) x68 fun r => r x24
noncomputable def c13_16 (j0 : V → V → V → V → SK) (x24 x25 x26 x27 x68 : V) (x71 : V) : SK := tG0 (c13_15 j0 x24 x25 x26 x27 x68) x68 fun r => tL x71 r
noncomputable def c13_17 (j0 : V → V → V → V → SK) (x24 x25 x26 x27 x68 : V) (x70 : V) : SK := tG0 (c13_16 j0 x24 x25 x26 x27 x68) x68 fun r => tFa x70 n2 r
noncomputable def c13_18 (j0 : V → V → V → V → SK) (x24 x25 x26 x27 x68 : V) (x69 : V) : SK := tG0 (c13_17 j0 x24 x25 x26 x27 x68) x68 fun r => tN (zb13 20 26 139 [(138,x69)]) x69 r
noncomputable def c13_19 (j0 : V → V → V → V → SK) (x24 x25 x26 x27 x62 : V) (x67 : V) : SK := tK x62 q30 x67 fun x68 => tG0 (c13_18 j0 x24 x25 x26 x27 x68) x68 fun r => r x27
noncomputable def c13_20 (j0 : V → V → V → V → SK) (x24 x25 x26 x27 x62 : V) (x66 : V) : SK := tG0 (c13_19 j0 x24 x25 x26 x27 x62) x62 fun r => tB lssD (zb13 20 22 135 [(134,x66)]) x66 q1 r
noncomputable def c13_21 (j0 : V → V → V → V → SK) (x24 x25 x26 x27 x62 : V) (x65 : V) : SK := tG0 (c13_20 j0 x24 x25 x26 x27 x62) x62 fun r => tL x65 r
noncomputable def c13_22 (j0 : V → V → V → V → SK) (x24 x25 x26 x27 x62 : V) (x64 : V) : SK := tG0 (c13_21 j0 x24 x25 x26 x27 x62) x62 fun r => tFa x64 n2 r
noncomputable def c13_23 (j0 : V → V → V → V → SK) (x24 x25 x26 x27 x62 : V) (x63 : V) : SK := tG0 (c13_22 j0 x24 x25 x26 x27 x62) x62 fun r => tN (zb13 20 19 132 [(131,x63)]) x63 r
noncomputable def c13_24 (j0 : V → V → V → V → SK) (x24 x25 x26 x27 x51 : V) (x61 : V) : SK := tK x51 q30 x61 fun x62 => tG0 (c13_23 j0 x24 x25 x26 x27 x62) x62 fun r => r x27
noncomputable def c13_25 (j0 : V → V → V → V → SK) (x24 x25 x26 x27 x51 x55 : V) (x60 : V) : SK := tG0 (c13_24 j0 x24 x25 x26 x27 x51) x51 fun r => tB geqD (zb13 20 15 128 [(122,x55),(127,x60)]) x55 x60 r
noncomputable def c13_26 (j0 : V → V → V → V → SK) (x24 x25 x26 x27 x51 x55 : V) (x59 : V) : SK := tG0 (c13_25 j0 x24 x25 x26 x27 x51 x55) x51 fun r => tLl (zb13 20 14 127 [(126,x59)]) x59 r
noncomputable def c13_27 (j0 : V → V → V → V → SK) (x24 x25 x26 x27 x51 x55 : V) (x58 : V) : SK := tG0 (c13_26 j0 x24 x25 x26 x27 x51 x55) x51 fun r => tL x58 r
noncomputable def c13_28 (j0 : V → V → V → V → SK) (x24 x25 x26 x27 x51 x55 : V) (x57 : V) : SK := tG0 (c13_27 j0 x24 x25 x26 x27 x51 x55) x51 fun r => tFa x57 n0 r
noncomputable def c13_29 (j0 : V → V → V → V → SK) (x24 x25 x26 x27 x51 x55 : V) (x56 : V) : SK := tG0 (c13_28 j0 x24 x25 x26 x27 x51 x55) x51 fun r => tN (zb13 20 11 124 [(123,x56)]) x56 r
noncomputable def c13_30 (j0 : V → V → V → V → SK) (x24 x25 x26 x27 x51 : V) (x55 : V) : SK := tG0 (c13_29 j0 x24 x25 x26 x27 x51 x55) x51 fun r => r x24
noncomputable def c13_31 (j0 : V → V → V → V → SK) (x24 x25 x26 x27 x51 : V) (x54 : V) : SK := tG0 (c13_30 j0 x24 x25 x26 x27 x51) x51 fun r => tL x54 r
noncomputable def c13_32 (j0 : V → V → V → V → SK) (x24 x25 x26 x27 x51 : V) (x53 : V) : SK := tG0 (c13_31 j0 x24 x25 x26 x27 x51) x51 fun r => tFa x53 n1 r
noncomputable def c13_33 (j0 : V → V → V → V → SK) (x24 x25 x26 x27 x51 : V) (x52 : V) : SK := tG0 (c13_32 j0 x24 x25 x26 x27 x51) x51 fun r => tN (zb13 20 7 120 [(119,x52)]) x52 r
noncomputable def c13_34 (k : KR) (x24 x25 x26 x27 : V) : SK := jn (c13_1 k) fun j0 => tN (z13 20 1 114 [(113,x27)]) x27 fun x48 => tFa x48 n1 fun x49 => tL x49 fun x50 => tB lssD (z13 20 4 117 [(116,x50)]) x50 q1 fun x51 => tG0 (c13_33 j0 x24 x25 x26 x27 x51) x51 fun r => r x27
noncomputable def c13_35 (k : KR) (j1 : V → V → V → V → SK) (x17 x18 x19 x20 x92 : V) (x98 : V) : SK := tK x92 x98 q0 fun x99 => tJ x99 (tLs L3 x19 fun x100 => tC [x100,x20] n25 fun x101 => tSs M14 (y13 19 3 [(6,x18),(112,x101)]) x18 x101 (lvT (rZ 178 (RS 13) [(6,x18)]) k)) (j1 x17 x18 x19 x20)
noncomputable def c13_36 (k : KR) (j1 : V → V → V → V → SK) (x17 x18 x19 x20 x92 : V) (x97 : V) : SK := tG1 (c13_35 k j1 x17 x18 x19 x20 x92) x92 fun r => tB gtrD (zb13 18 11 108 [(107,x97)]) x97 q1 r
noncomputable def c13_37 (k : KR) (j1 : V → V → V → V → SK) (x17 x18 x19 x20 x92 : V) (x96 : V) : SK := tG1 (c13_36 k j1 x17 x18 x19 x20 x92) x92 fun r => tLl (zb13 18 10 107 [(106,x96)]) x96 r
noncomputable def c13_38 (k : KR) (j1 : V → V → V → V → SK) (x17 x18 x19 x20 x92 : V) (x95 : V) : SK := tG1 (c13_37 k j1 x17 x18 x19 x20 x92) x92 fun r => tL x95 r
noncomputable def c13_39 (k : KR) (j1 : V → V → V → V → SK) (x17 x18 x19 x20 x92 : V) (x94 : V) : SK := tG1 (c13_38 k j1 x17 x18 x19 x20 x92) x92 fun r => tFa x94 n15 r
noncomputable def c13_40 (k : KR) (j1 : V → V → V → V → SK) (x17 x18 x19 x20 x92 : V) (x93 : V) : SK := tG1 (c13_39 k j1 x17 x18 x19 x20 x92) x92 fun r => tN (zb13 18 7 104 [(103,x93)]) x93 r
noncomputable def c13_41 (k : KR) (x16 x17 x18 x19 x20 : V) : SK := tN (z13 16 1 94 [(93,x16)]) x16 fun x21 => tFa x21 n1 fun x22 => tS (y13 16 3 [(95,x22)]) x22 q0 ((z13 17 0 96 [(7,x19),(6,x18)]) fun x23 => y13 17 1 [(96,x23)] (jn (c13_34 k) fun j1 => tN (z13 18 1 98 [(97,x20)]) x20 fun x89 => tFa x89 n14 fun x90 => tL x90 fun x91 => tB neqD (z13 18 4 101 [(100,x91)]) x91 q1 fun x92 => tG1 (c13_40 k j1 x17 x18 x19 x20 x92) x92 fun r => r x20))
noncomputable def c13_42 (k : KR) (x106 x107 x109 x110 x112 x113 x115 x116 x118 x119 x120 : V) : SK := tN (z13 15 18 88 [(87,x107)]) x107 fun x121 => tFa x121 n15 fun x122 => tL x122 fun x123 => tAp Tryz.prog 44 false 4 q70 x123 fun x124 => tQ x110 x109 (zA 178 (SA 13 15 7) [(77,x113),(76,x112)] (tQ x116 x115 (tQ x119 x118 (zA 178 (SA 13 15 16) [(86,x120),(85,x119)] ((z13 15 22 92 [(73,x110),(77,x113),(81,x116),(86,x120),(91,x124)]) fun x125 => tSs M14 (y13 15 23 [(6,x106),(92,x125)]) x106 x125 (lvT (rZ 178 (RS 13) [(6,x106)]) k))))))
noncomputable def c13_43 (k : KR) (x106 x107 x109 : V) : SK := tL x109 fun x110 => tN (z13 15 5 75 [(74,x107)]) x107 fun x111 => tFa x111 n3 fun x112 => tLs L4 x112 fun x113 => tN (z13 15 9 79 [(78,x107)]) x107 fun x114 => tFa x114 n12 fun x115 => tL x115 fun x116 => tN (z13 15 13 83 [(82,x107)]) x107 fun x117 => tFa x117 n11 fun x118 => tL x118 fun x119 => tB eqlD (z13 15 16 86 [(85,x119)]) x119 q3 fun x120 => c13_42 k x106 x107 x109 x110 x112 x113 x115 x116 x118 x119 x120
noncomputable def c13_44 (k : KR) (x106 x107 : V) : SK := tN (z13 15 1 71 [(70,x107)]) x107 fun x108 => tFa x108 n13 fun x109 => c13_43 k x106 x107 x109
noncomputable def c13_45 (k : KR) (x132 x133 x134 x135 : V) : SK := tN (z13 12 1 61 [(60,x134)]) x134 fun x136 => tFa x136 n2 fun x137 => tL x137 fun x138 => tB eqlD (z13 12 4 64 [(63,x138)]) x138 q31 fun x139 => tC [x132] n22 fun _ => tLs L4 x135 fun x141 => (z13 14 2 69 [(67,x141),(68,x139)]) fun x142 => tSs M14 (y13 14 3 [(6,x133),(69,x142)]) x133 x142 (lvT (rZ 178 (RS 13) [(6,x133)]) k)
noncomputable def c13_46 (j4 : V → V → V → V → SK) (x8 x11 x15 x131 x143 : V) : SK := tFa x143 n8 fun x144 => tL x144 fun x145 => tLl (z13 10 4 52 [(51,x145)]) x145 fun x146 => tB gtrD (z13 10 5 53 [(52,x146)]) x146 q1 fun x147 => tJ x147 (tN (z13 11 1 55 [(54,x15)]) x15 fun x148 => tFa x148 n8 fun x149 => tL x149 fun x150 => tIa (z13 11 4 58 [(57,x150)]) x150 q1 n4 fun x151 => tLs L4 x151 fun x152 => tSs M4 (y13 11 6 [(9,x131),(59,x152)]) x131 x152 (j4 x8 x11 x15 x131)) (j4 x8 x11 x15 x131)
noncomputable def c13_47 (k : KR) (j3 : V → V → SK) (x8 x11 x15 x126 : V) : SK := tFa x126 n13 fun x127 => tL x127 fun x128 => tB eqlD (z13 8 4 46 [(45,x128)]) x128 q1 fun x129 => tJ x129 (tA (xcC (.int .i64 0) (xcC (.int .i64 0) (xcC (.str 0 0) (xcC (.int .i64 0) xcN)))) (z13 9 0 47 []) fun x130 => tAl 45 4 Z2 fun x131 => tSs M4 (y13 9 2 [(9,x131),(47,x130)]) x131 x130 (jn (c13_45 k) fun j4 => tN (z13 10 1 49 [(48,x15)]) x15 fun x143 => c13_46 j4 x8 x11 x15 x131 x143)) (j3 x11 x15)
noncomputable def c13_48 (k : KR) (x8 x10 x11 x12 : V) : SK := tAl 80 3 Z4 fun x13 => tSs M3 (y13 5 5 [(7,x13),(34,x12)]) x13 x12 (tLs L3 x13 fun x14 => tC [x14] n21 fun x15 => jn (c13_41 k) fun j2 => tN (z13 7 1 38 [(37,x15)]) x15 fun x102 => tFa x102 n0 fun x103 => tL x103 fun x104 => tB eqlD (z13 7 4 41 [(40,x104)]) x104 q31 fun x105 => tJ x105 (jn (c13_44 k) fun j3 => tN (z13 8 1 43 [(42,x15)]) x15 fun x126 => c13_47 k j3 x8 x11 x15 x126) (j2 x8 x10 x11 x13 x15))
noncomputable def c13_49 (k : KR) (x8 x9 x10 x11 : V) : SK := tA (xcO x8 (xcO x9 (xcO x10 xcN))) (z13 5 3 34 [(31,x8),(32,x9),(33,x10)]) fun x12 => c13_48 k x8 x10 x11 x12
noncomputable def c13_50 (k : KR) (j5 : V → V → V → V → SK) (x4 x5 x6 x7 x156 : V) (x161 : V) : SK := tK x156 x161 q0 fun x162 => tJ x162 (tA (xcO q31 (xcC (.int .i64 0) (xcC (.bool false) (xcC (.int .i64 0) (xcC (.int .i64 0) (xcC (.str 0 0) (xcC (.int .i64 0) (xcC .sl0 (xcC (.int .i64 0) (xcC (.int .i64 0) (xcC (.str 0 0) (xcC (.int .i64 0) (xcC (.bool false) (xcC (.int .i64 0) xcN)))))))))))))) (z13 4 0 30 []) fun x163 => tSs M14 (y13 4 1 [(6,x7),(30,x163)]) x7 x163 (lvT (rZ 178 (RS 13) [(6,x7)]) k)) (j5 x4 x5 x6 x7)
noncomputable def c13_51 (k : KR) (j5 : V → V → V → V → SK) (x4 x5 x6 x7 x156 : V) (x160 : V) : SK := tG1 (c13_50 k j5 x4 x5 x6 x7 x156) x156 fun r => tNot x160 r
noncomputable def c13_52 (k : KR) (j5 : V → V → V → V → SK) (x4 x5 x6 x7 x156 : V) (x159 : V) : SK := tG1 (c13_51 k j5 x4 x5 x6 x7 x156) x156 fun r => tL x159 r
noncomputable def c13_53 (k : KR) (j5 : V → V → V → V → SK) (x4 x5 x6 x7 x156 : V) (x158 : V) : SK := tG1 (c13_52 k j5 x4 x5 x6 x7 x156) x156 fun r => tFa x158 n1 r
noncomputable def c13_54 (k : KR) (j5 : V → V → V → V → SK) (x4 x5 x6 x7 x156 : V) (x157 : V) : SK := tG1 (c13_53 k j5 x4 x5 x6 x7 x156) x156 fun r => tN (zb13 3 7 25 [(24,x157)]) x157 r
noncomputable def c13_55 (k : KR) (x4 x5 x6 x7 : V) : SK := jn (c13_49 k) fun j5 => tN (z13 3 1 19 [(18,x5)]) x5 fun x153 => tFa x153 n0 fun x154 => tC [x154] n11 fun x155 => tB gtrD (z13 3 4 22 [(21,x155)]) x155 q71 fun x156 => tG1 (c13_54 k j5 x4 x5 x6 x7 x156) x156 fun r => r x4
noncomputable def c13_56 (k : KR) (j6 : V → V → V → V → SK) (x0 x1 x2 x3 x167 : V) : SK := tB eqlD (z13 1 5 16 [(15,x167)]) x167 q1 fun x168 => tJ x168 (tA (xcO q3 (xcC (.int .i64 0) (xcC (.bool false) (xcC (.int .i64 0) (xcC (.int .i64 0) (xcC (.str 0 0) (xcC (.int .i64 0) (xcC .sl0 (xcC (.int .i64 0) (xcC (.int .i64 0) (xcC (.str 0 0) (xcC (.int .i64 0) (xcC (.bool false) (xcC (.int .i64 0) xcN)))))))))))))) (z13 2 0 17 []) fun x169 => tSs M14 (y13 2 1 [(6,x3),(17,x169)]) x3 x169 (lvT (rZ 178 (RS 13) [(6,x3)]) k)) (j6 x0 x1 x2 x3)
noncomputable def c13_57 (k : KR) (x0 x1 x2 : V) : SK := tAl 62 14 Z0 fun x3 => jn (c13_55 k) fun j6 => tN (z13 1 1 12 [(11,x0)]) x0 fun x164 => tFa x164 n0 fun x165 => tL x165 fun x166 => tLl (z13 1 4 15 [(14,x166)]) x166 fun x167 => c13_56 k j6 x0 x1 x2 x3 x167
noncomputable def F13 : FF := fT [0,1,2] c13_57 (fb 13)
noncomputable def z16 (r i d : Nat) (l : LE) : (V → SK) → SK := zS 24 (S 16 r i) d l
noncomputable def x16 (r i : Nat) (l : LE) : (V → SK) → SK := fun u => zN 24 (S 16 r i) l (u vUndef)
noncomputable def c16_0 (k : KR) (x2 x4 x5 : V) : SK := tC [x4] n31 fun x6 => zA 24 (SA 16 1 2) [(9,x5),(2,x2)] ((z16 1 3 10 [(8,x6),(9,x5)]) fun x7 => tBx x7 fun x8 => tN (z16 2 2 14 [(13,x8)]) x8 fun x9 => tFa x9 n0 fun x10 => tN (z16 2 5 17 [(16,x8)]) x8 fun x11 => tFa x11 n2 fun x12 => tN (z16 2 8 20 [(19,x8)]) x8 fun x13 => tFa x13 n10 fun x14 => tC [x10,x12,x14,q1] n32 fun x15 => tB eqlD (z16 2 11 23 [(22,x15)]) x15 q1 fun x16 => lvT (rW (rwC x8 (rwC x16 rwN))) k)
noncomputable def c16_1 (k : KR) (x0 x1 : V) : SK := tBx x0 fun x2 => tBx x1 fun x3 => tLs L2 x3 fun x4 => tLs L1 x2 fun x5 => c16_0 k x2 x4 x5
noncomputable def F16 : FF := fT [0,1] c16_1 (fb 16)
noncomputable def z17 (r i d : Nat) (l : LE) : (V → SK) → SK := zS 45 (S 17 r i) d l
noncomputable def x17 (r i : Nat) (l : LE) : (V → SK) → SK := fun u => zN 45 (S 17 r i) l (u vUndef)
noncomputable def y17 (r i : Nat) (l : LE) : SK → SK := zN 45 (S 17 r i) l
noncomputable def zb17 (r i d : Nat) (l : LE) : (V → SK) → SK := zS 45 (Sb 17 r i) d l
noncomputable def c17_0 (k : KR) (x11 x12 x13 x14 x15 : V) : SK := tN (z17 5 2 30 [(28,x15)]) x15 fun x16 => tFa x16 n5 fun x17 => tS (y17 5 4 [(31,x17),(29,x13)]) x17 x13 (tN (z17 6 1 33 [(32,x11)]) x11 fun x18 => tFa x18 n2 fun x19 => tN (z17 6 4 36 [(35,x11)]) x11 fun x20 => tFa x20 n2 fun x21 => tFa x21 n5 fun x22 => tL x22 fun x23 => tC [x14] n35 fun x24 => tQ x23 x22 (tC [x19,x23,x12,x24] n34 fun x25 => tB eqlD (z17 6 12 44 [(43,x25)]) x25 q1 fun x26 => rA x26 k))
noncomputable def c17_1 (k : KR) (j0 : V → V → V → V → V → SK) (x0 x1 x2 x6 x10 x27 : V) (x29 : V) : SK := tK x27 q30 x29 fun x30 => tJ x30 (rA q0 k) (j0 x0 x1 x2 x6 x10)
noncomputable def c17_2 (k : KR) (j0 : V → V → V → V → V → SK) (x0 x1 x2 x6 x10 x27 : V) (x28 : V) : SK := tG0 (c17_1 k j0 x0 x1 x2 x6 x10 x27) x27 fun r => tP (zb17 3 4 26 [(25,x28)]) x28 q68 vTrue vFalse r
noncomputable def c17_3 (k : KR) (x0 x1 x2 : V) : SK := tN (z17 1 1 12 [(11,x0)]) x0 fun x3 => tFa x3 n2 fun x4 => tC [x4,q5] n12 fun x5 => tX x5 n0 fun x6 => tX x5 n1 fun x7 => tN (z17 2 1 18 [(17,x0)]) x0 fun x8 => tFa x8 n2 fun x9 => tC [x9,x6] n33 fun x10 => jn (c17_0 k) fun j0 => tB neqD (z17 3 1 23 [(22,x7)]) x7 q1 fun x27 => tG0 (c17_2 k j0 x0 x1 x2 x6 x10 x27) x27 fun r => r x10
noncomputable def F17 : FF := fT [0,1,2] c17_3 (fb 17)
noncomputable def z20 (r i d : Nat) (l : LE) : (V → SK) → SK := zS 69 (S 20 r i) d l
noncomputable def x20 (r i : Nat) (l : LE) : (V → SK) → SK := fun u => zN 69 (S 20 r i) l (u vUndef)
noncomputable def y20 (r i : Nat) (l : LE) : SK → SK := zN 69 (S 20 r i) l
noncomputable def c20_0 (k : KR) (x7 x8 : V) : SK := tN (z20 8 1 57 [(56,x7)]) x7 fun x9 => tFa x9 n4 fun x10 => tL x10 fun x11 => tB addD (z20 8 4 60 [(59,x11)]) x11 q3 fun x12 => tN (z20 8 5 61 [(56,x7)]) x7 fun x13 => tFa x13 n4 fun x14 => tS (y20 8 7 [(62,x14),(60,x12)]) x14 x12 (tN (z20 9 1 64 [(63,x7)]) x7 fun x15 => tFa x15 n0 fun x16 => tLs L2 x16 fun x17 => tC [x17,x8] n41 fun x18 => rA x18 k)
noncomputable def c20_1 (j0 : V → V → SK) (x0 x2 x29 x32 x33 : V) : SK := (z20 5 7 34 [(31,x32),(33,x33)]) fun x34 => tN (z20 5 8 35 [(27,x0)]) x0 fun x35 => tFa x35 n3 fun x36 => tS (y20 5 10 [(36,x36),(34,x34)]) x36 x34 (tN (z20 6 1 38 [(37,x0)]) x0 fun x37 => tFa x37 n2 fun x38 => tL x38 fun x39 => tLs L10 x2 fun x40 => (z20 6 6 43 [(42,x40)]) fun x41 => tIa (z20 6 7 44 [(40,x39),(41,x29)]) x39 x29 n11 fun x42 => tSs M11 (y20 6 8 [(44,x42),(43,x41)]) x42 x41 (j0 x0 x29))
noncomputable def c20_2 (j0 : V → V → SK) (x0 x2 x6 x22 x23 : V) : SK := tJ x23 (tN (z20 4 1 20 [(19,x0)]) x0 fun x24 => tFa x24 n3 fun x25 => tL x25 fun x26 => tB subD (z20 4 5 24 [(23,x22)]) x22 q3 fun x27 => tIa (z20 4 6 25 [(22,x26),(24,x27)]) x26 x27 n1 fun x28 => tL x28 fun x29 => tN (z20 5 2 29 [(28,x0)]) x0 fun x30 => tFa x30 n3 fun x31 => tL x31 fun x32 => tB subD (z20 5 6 33 [(32,x22)]) x22 q3 fun x33 => c20_1 j0 x0 x2 x29 x32 x33) (tN (z20 7 2 47 [(46,x0)]) x0 fun x43 => tFa x43 n2 fun x44 => tL x44 fun x45 => tLs L10 x2 fun x46 => (z20 7 6 51 [(50,x46)]) fun x47 => tR (rwC x47 rwN) 11 1 11 fun x48 => tAp Tryz.prog 117 false 11 x45 x48 fun x49 => tN (z20 7 9 54 [(45,x0)]) x0 fun x50 => tFa x50 n2 fun x51 => tS (y20 7 11 [(55,x51),(53,x49)]) x51 x49 (j0 x0 x6))
noncomputable def c20_3 (k : KR) (x0 x1 : V) : SK := tBx x1 fun x2 => tN (z20 1 1 8 [(7,x0)]) x0 fun x3 => tFa x3 n2 fun x4 => tL x4 fun x5 => tLl (z20 1 4 11 [(10,x5)]) x5 fun x6 => jn (c20_0 k) fun j0 => tN (z20 2 1 13 [(12,x0)]) x0 fun x19 => tFa x19 n3 fun x20 => tL x20 fun x21 => tLl (z20 2 4 16 [(15,x21)]) x21 fun x22 => tB gtrD (z20 3 1 18 [(17,x22)]) x22 q1 fun x23 => c20_2 j0 x0 x2 x6 x22 x23
noncomputable def F20 : FF := fT [0,1] c20_3 (fb 20)
noncomputable def z21 (r i d : Nat) (l : LE) : (V → SK) → SK := zS 16 (S 21 r i) d l
noncomputable def c21_0 (k : KR) (x0 : V) : SK := tBx x0 fun x1 => tFa x1 n0 fun x2 => tL x2 fun x3 => tN (z21 1 2 5 [(4,x3)]) x3 fun x4 => tFa x4 n0 fun x5 => tL x5 fun x6 => tFa x1 n0 fun x7 => tL x7 fun x8 => tN (z21 1 7 10 [(9,x8)]) x8 fun x9 => tFa x9 n0 fun x10 => tL x10 fun x11 => tLl (z21 1 10 13 [(12,x11)]) x11 fun x12 => tB subD (z21 1 11 14 [(13,x12)]) x12 q3 fun x13 => tIa (z21 1 12 15 [(7,x6),(14,x13)]) x6 x13 n16 fun x14 => rA x14 k
noncomputable def F21 : FF := fT [0] c21_0 (fb 21)
noncomputable def z22 (r i d : Nat) (l : LE) : (V → SK) → SK := zS 35 (S 22 r i) d l
noncomputable def x22 (r i : Nat) (l : LE) : (V → SK) → SK := fun u => zN 35 (S 22 r i) l (u vUndef)
noncomputable def y22 (r i : Nat) (l : LE) : SK → SK := zN 35 (S 22 r i) l
noncomputable def c22_0 (k : KR) (x0 x1 x6 x12 x15 x16 : V) : SK := tIa (z22 3 6 24 [(21,x15),(22,x6)]) x15 x6 n16 fun x17 => tSs M16 (y22 3 7 [(24,x17),(23,x16)]) x17 x16 (tN (z22 4 2 27 [(26,x0)]) x0 fun x18 => tFa x18 n0 fun x19 => tL x19 fun x20 => (z22 4 6 31 [(29,x20),(30,x6)]) fun x21 => tN (z22 4 7 32 [(25,x0)]) x0 fun x22 => tFa x22 n0 fun x23 => tS (y22 4 9 [(33,x23),(31,x21)]) x23 x21 (tLs L16 x12 fun x24 => tSs M16 (y22 5 1 [(2,x1),(34,x24)]) x1 x24 (lvT (rZ 35 (RS 22) [(2,x1)]) k)))
noncomputable def c22_1 (k : KR) (x0 x1 x6 x12 : V) : SK := tN (z22 3 1 19 [(18,x0)]) x0 fun x13 => tFa x13 n0 fun x14 => tL x14 fun x15 => tA (xcC (.int .i64 0) (xcC (.int .i64 0) (xcC (.int .i64 0) (xcC (.int .i64 0) (xcC (.int .i64 0) (xcC (.str 0 0) (xcC (.int .i64 0) (xcC .sl0 (xcC .sl0 (xcC (.int .i64 0) (xcC (.int .i64 0) (xcC (.int .i64 0) (xcC (.int .i64 0) (xcC (.int .i64 0) (xcC (.int .i64 0) (xcC .sl0 xcN)))))))))))))))) (z22 3 5 23 []) fun x16 => c22_0 k x0 x1 x6 x12 x15 x16
noncomputable def c22_2 (k : KR) (x0 x1 : V) : SK := tN (z22 1 1 6 [(5,x0)]) x0 fun x2 => tFa x2 n0 fun x3 => tL x3 fun x4 => tLl (z22 1 4 9 [(8,x4)]) x4 fun x5 => tB subD (z22 1 5 10 [(9,x5)]) x5 q3 fun x6 => tN (z22 2 1 12 [(11,x0)]) x0 fun x7 => tFa x7 n0 fun x8 => tL x8 fun x9 => tIa (z22 2 5 16 [(14,x9),(15,x6)]) x9 x6 n16 fun x10 => tLs L16 x10 fun x11 => tAl 60 16 Z6 fun x12 => tSs M16 (y22 2 8 [(4,x12),(17,x11)]) x12 x11 (c22_1 k x0 x1 x6 x12)
noncomputable def c22_3 (k : KR) (x0 : V) : SK := tAl 60 16 Z6 fun x1 => c22_2 k x0 x1
noncomputable def F22 : FF := fT [0] c22_3 (fb 22)
noncomputable def z23 (r i d : Nat) (l : LE) : (V → SK) → SK := zS 20 (S 23 r i) d l
noncomputable def y23 (r i : Nat) (l : LE) : SK → SK := zN 20 (S 23 r i) l
noncomputable def c23_0 (k : KR) (x8 x9 x10 : V) : SK := tLs L3 x8 fun x11 => tFa x10 n0 fun x12 => tLs L4 x12 fun x13 => tC [x11,x13] n24 fun x14 => tSs M14 (y23 5 4 [(1,x9),(19,x14)]) x9 x14 (lvT (rW rwN) k)
noncomputable def c23_1 (k : KR) (x0 x1 : V) : SK := (z23 0 0 5 []) fun x2 => (z23 1 1 7 [(6,x2)]) fun x3 => tJ x3 ((z23 2 1 10 [(9,x2)]) fun x4 => tX x4 n0 fun x5 => tX x4 n1 fun x6 => tAl 85 4 Z2 fun x7 => tSs M4 (y23 2 6 [(3,x7),(11,x5)]) x7 x5 (jn (c23_0 k) fun j0 => tNot x6 fun x15 => tJ x15 (y23 4 1 [(15,x2)] (j0 x0 x1 x7)) (j0 x0 x1 x7))) (lvT (rW rwN) k)
noncomputable def F23 : FF := fT [0,1] c23_1 (fb 23)
noncomputable def z27 (r i d : Nat) (l : LE) : (V → SK) → SK := zS 143 (S 27 r i) d l
noncomputable def x27 (r i : Nat) (l : LE) : (V → SK) → SK := fun u => zN 143 (S 27 r i) l (u vUndef)
noncomputable def y27 (r i : Nat) (l : LE) : SK → SK := zN 143 (S 27 r i) l
noncomputable def c27_0 (k : KR) (x11 x17 x19 : V) : SK := tS (y27 40 8 [(141,x19),(139,x17)]) x19 x17 (tA (xcC (.int .i64 0) (xcC (.int .i64 0) (xcC (.bool false) (xcC (.int .i64 0) (xcC (.int .i64 0) (xcC (.str 0 0) (xcC (.int .i64 0) (xcC .sl0 (xcC (.int .i64 0) (xcC (.int .i64 0) (xcC (.str 0 0) (xcC (.int .i64 0) (xcC (.bool false) (xcC (.int .i64 0) xcN)))))))))))))) (z27 41 0 142 []) fun x20 => tSs M14 (y27 41 1 [(6,x11),(142,x20)]) x11 x20 (lvT (rZ 143 (RS 27) [(6,x11)]) k))
noncomputable def c27_1 (k : KR) (x10 x11 : V) : SK := tLs L3 x10 fun x12 => tC [x12] n21 fun x13 => tN (z27 40 2 136 [(135,x13)]) x13 fun x14 => tFa x14 n2 fun x15 => tL x15 fun x16 => tB addD (z27 40 5 139 [(138,x16)]) x16 q3 fun x17 => tN (z27 40 6 140 [(135,x13)]) x13 fun x18 => tFa x18 n2 fun x19 => c27_0 k x11 x17 x19
noncomputable def c27_2 (j0 : V → V → SK) (x6 x7 x8 x9 x35 : V) : SK := tJ x35 (tLs L3 x7 fun x36 => tLs L3 x7 fun x37 => tFa x8 n1 fun x38 => tL x38 fun x39 => tFa x8 n0 fun x40 => tL x40 fun x41 => tC [x37,x6,x39] n58 fun x42 => zA 143 (SA 27 36 0) [(117,x36),(3,x7)] (tQ x41 x40 (tC [x36,x42,x41] n57 fun _ => j0 x7 x9))) (tFa x8 n0 fun x44 => tL x44 fun x45 => tB leqD (z27 37 2 129 [(128,x45)]) x45 q76 fun x46 => tJ x46 (tLs L3 x7 fun x47 => tLs L3 x8 fun x48 => tC [x47,x6,x48] n59 fun _ => j0 x7 x9) (tLs L3 x7 fun x50 => tLs L3 x8 fun x51 => tC [x50,x6,x51] n60 fun _ => j0 x7 x9))
noncomputable def c27_3 (j0 : V → V → SK) (x6 x7 x8 x9 x22 : V) : SK := tB leqD (z27 31 2 100 [(99,x22)]) x22 q79 fun x23 => tJ x23 (tLs L3 x7 fun x24 => tLs L3 x8 fun x25 => tC [x24,x6,x25] n55 fun _ => j0 x7 x9) (tFa x8 n0 fun x27 => tL x27 fun x28 => tB leqD (z27 33 2 108 [(107,x28)]) x28 q78 fun x29 => tJ x29 (tLs L3 x7 fun x30 => tLs L3 x8 fun x31 => tC [x30,x6,x31] n56 fun _ => j0 x7 x9) (tFa x8 n0 fun x33 => tL x33 fun x34 => tB leqD (z27 35 2 116 [(115,x34)]) x34 q77 fun x35 => c27_2 j0 x6 x7 x8 x9 x35))
noncomputable def c27_4 (k : KR) (x6 x7 x8 x9 : V) : SK := jn (c27_1 k) fun j0 => tFa x8 n0 fun x21 => tL x21 fun x22 => c27_3 j0 x6 x7 x8 x9 x22
noncomputable def c27_5 (k : KR) (x5 x59 x62 x67 x68 : V) : SK := tC [x62,x68,x67,x59,q1,q1] n46 fun _ => tA (xcC (.int .i64 0) (xcC (.int .i64 0) (xcC (.bool false) (xcC (.int .i64 0) (xcC (.int .i64 0) (xcC (.str 0 0) (xcC (.int .i64 0) (xcC .sl0 (xcC (.int .i64 0) (xcC (.int .i64 0) (xcC (.str 0 0) (xcC (.int .i64 0) (xcC (.bool false) (xcC (.int .i64 0) xcN)))))))))))))) (z27 6 0 32 []) fun x70 => tSs M14 (y27 6 1 [(6,x5),(32,x70)]) x5 x70 (lvT (rZ 143 (RS 27) [(6,x5)]) k)
noncomputable def c27_6 (k : KR) (x3 x5 x56 x57 : V) : SK := tL x57 fun x58 => tC [x56,x58] n45 fun x59 => tLs L3 x3 fun x60 => tC [x60,q31] n45 fun x61 => tLs L3 x3 fun x62 => tLs L3 x3 fun x63 => tIa (z27 5 3 24 [(23,x61)]) x61 q1 n4 fun x64 => tLs L4 x64 fun x65 => tIa (z27 5 7 28 [(27,x61)]) x61 q3 n4 fun x66 => tLs L4 x66 fun x67 => tC [x63,x65] n47 fun x68 => zA 143 (SA 27 5 0) [(21,x62),(3,x3)] (zA 143 (SA 27 5 8) [(29,x67),(28,x66)] (c27_5 k x5 x59 x62 x67 x68))
noncomputable def c27_7 (k : KR) (x5 x75 x76 x78 : V) : SK := tC [x76,x78,x75] n48 fun _ => tA (xcC (.int .i64 0) (xcC (.int .i64 0) (xcC (.bool false) (xcC (.int .i64 0) (xcC (.int .i64 0) (xcC (.str 0 0) (xcC (.int .i64 0) (xcC .sl0 (xcC (.int .i64 0) (xcC (.int .i64 0) (xcC (.str 0 0) (xcC (.int .i64 0) (xcC (.bool false) (xcC (.int .i64 0) xcN)))))))))))))) (z27 10 0 44 []) fun x80 => tSs M14 (y27 10 1 [(6,x5),(44,x80)]) x5 x80 (lvT (rZ 143 (RS 27) [(6,x5)]) k)
noncomputable def c27_8 (k : KR) (x3 x5 : V) : SK := tLs L3 x3 fun x82 => tC [x82] n49 fun x83 => tAl 45 4 Z2 fun x84 => tSs M4 (y27 12 3 [(10,x84),(48,x83)]) x84 x83 (tLs L3 x3 fun x85 => tFa x3 n0 fun x86 => tL x86 fun x87 => tLs L4 x84 fun x88 => tC [x87] n22 fun x89 => zA 143 (SA 27 13 0) [(49,x85),(3,x3)] (zA 143 (SA 27 13 4) [(53,x88),(10,x84)] (tC [x85,x89,x88] n50 fun x90 => tSs M14 (y27 13 6 [(6,x5),(54,x90)]) x5 x90 (lvT (rZ 143 (RS 27) [(6,x5)]) k))))
noncomputable def c27_9 (k : KR) (x1 x5 x97 x99 : V) : SK := tC [x97,x1,x99] n51 fun _ => tA (xcC (.int .i64 0) (xcC (.int .i64 0) (xcC (.bool false) (xcC (.int .i64 0) (xcC (.int .i64 0) (xcC (.str 0 0) (xcC (.int .i64 0) (xcC .sl0 (xcC (.int .i64 0) (xcC (.int .i64 0) (xcC (.str 0 0) (xcC (.int .i64 0) (xcC (.bool false) (xcC (.int .i64 0) xcN)))))))))))))) (z27 18 0 68 []) fun x101 => tSs M14 (y27 18 1 [(6,x5),(68,x101)]) x5 x101 (lvT (rZ 143 (RS 27) [(6,x5)]) k)
noncomputable def c27_10 (k : KR) (x112 x115 x117 x118 : V) : SK := tC [x117,x112,x118] n54 fun _ => tA (xcC (.int .i64 0) (xcC (.int .i64 0) (xcC (.bool false) (xcC (.int .i64 0) (xcC (.int .i64 0) (xcC (.str 0 0) (xcC (.int .i64 0) (xcC .sl0 (xcC (.int .i64 0) (xcC (.int .i64 0) (xcC (.str 0 0) (xcC (.int .i64 0) (xcC (.bool false) (xcC (.int .i64 0) xcN)))))))))))))) (z27 30 0 92 []) fun x120 => tSs M14 (y27 30 1 [(6,x115),(92,x120)]) x115 x120 (lvT (rZ 143 (RS 27) [(6,x115)]) k)
noncomputable def c27_11 (k : KR) (j1 : V → V → V → V → SK) (x112 x113 x114 x115 x116 : V) : SK := tJ x116 (tLs L3 x113 fun x117 => tLs L3 x114 fun x118 => c27_10 k x112 x115 x117 x118) (j1 x112 x113 x114 x115)
noncomputable def c27_12 (j2 : V → V → V → V → V → SK) (x1 x3 x4 x5 x54 : V) : SK := tB eqlD (z27 24 0 83 [(12,x54)]) x54 q84 fun x122 => tJ x122 (j2 x1 x3 x4 x5 x122) (tB eqlD (z27 25 0 84 [(12,x54)]) x54 q83 fun x123 => tJ x123 (j2 x1 x3 x4 x5 x123) (tB eqlD (z27 26 0 85 [(12,x54)]) x54 q82 fun x124 => tJ x124 (j2 x1 x3 x4 x5 x124) (tB eqlD (z27 27 0 86 [(12,x54)]) x54 q81 fun x125 => tJ x125 (j2 x1 x3 x4 x5 x125) (tB eqlD (z27 28 0 87 [(12,x54)]) x54 q80 fun x126 => j2 x1 x3 x4 x5 x126))))
noncomputable def c27_13 (k : KR) (j1 : V → V → V → V → SK) (x1 x3 x4 x5 x54 : V) : SK := tB eqlD (z27 21 0 76 [(12,x54)]) x54 q86 fun x107 => tJ x107 (tLs L3 x3 fun x108 => tLs L3 x3 fun x109 => tC [x109] n49 fun x110 => zA 143 (SA 27 22 0) [(77,x108),(3,x3)] (tC [x108,x110] n53 fun x111 => tSs M14 (y27 22 4 [(6,x5),(80,x111)]) x5 x111 (lvT (rZ 143 (RS 27) [(6,x5)]) k))) (jn (c27_11 k j1) fun j2 => tB eqlD (z27 23 0 82 [(12,x54)]) x54 q85 fun x121 => tJ x121 (j2 x1 x3 x4 x5 x121) (c27_12 j2 x1 x3 x4 x5 x54))
noncomputable def c27_14 (k : KR) (j1 : V → V → V → V → SK) (x1 x3 x4 x5 x54 x96 : V) : SK := tJ x96 (tLs L3 x3 fun x97 => tFa x4 n1 fun x98 => tL x98 fun x99 => c27_9 k x1 x5 x97 x99) (tB eqlD (z27 19 0 70 [(12,x54)]) x54 q87 fun x102 => tJ x102 (tLs L3 x3 fun x103 => tLs L3 x3 fun x104 => tC [x104] n49 fun x105 => zA 143 (SA 27 20 0) [(71,x103),(3,x3)] (tC [x103,x105] n52 fun x106 => tSs M14 (y27 20 4 [(6,x5),(74,x106)]) x5 x106 (lvT (rZ 143 (RS 27) [(6,x5)]) k))) (c27_13 k j1 x1 x3 x4 x5 x54))
noncomputable def c27_15 (k : KR) (j1 : V → V → V → V → SK) (x1 x3 x4 x5 x54 : V) : SK := tB eqlD (z27 11 0 46 [(12,x54)]) x54 q90 fun x81 => tJ x81 (c27_8 k x3 x5) (tB eqlD (z27 14 0 56 [(12,x54)]) x54 q89 fun x91 => tJ x91 (tLs L3 x3 fun x92 => tLs L3 x3 fun x93 => tC [x93] n49 fun x94 => zA 143 (SA 27 15 0) [(57,x92),(3,x3)] (tC [x92,x94] n24 fun x95 => tSs M14 (y27 15 4 [(6,x5),(60,x95)]) x5 x95 (lvT (rZ 143 (RS 27) [(6,x5)]) k))) (tB eqlD (z27 16 0 62 [(12,x54)]) x54 q88 fun x96 => c27_14 k j1 x1 x3 x4 x5 x54 x96))
noncomputable def c27_16 (k : KR) (j1 : V → V → V → V → SK) (x1 x3 x4 x5 x54 : V) : SK := tB eqlD (z27 2 0 14 [(12,x54)]) x54 q92 fun x55 => tJ x55 (tLs L3 x3 fun x56 => tFa x4 n1 fun x57 => c27_6 k x3 x5 x56 x57) (tB eqlD (z27 7 0 34 [(12,x54)]) x54 q91 fun x71 => tJ x71 (tLs L3 x3 fun x72 => tFa x4 n1 fun x73 => tL x73 fun x74 => tC [x72,x74] n45 fun x75 => tLs L3 x3 fun x76 => tLs L3 x3 fun x77 => tC [x77] n49 fun x78 => zA 143 (SA 27 9 0) [(39,x76),(3,x3)] (c27_7 k x5 x75 x76 x78)) (c27_15 k j1 x1 x3 x4 x5 x54))
noncomputable def c27_17 (k : KR) (x0 x1 x2 : V) : SK := tBx x0 fun x3 => tBx x2 fun x4 => tAl 62 14 Z0 fun x5 => jn (c27_4 k) fun j1 => tFa x4 n0 fun x53 => tL x53 fun x54 => c27_16 k j1 x1 x3 x4 x5 x54
noncomputable def F27 : FF := fT [0,1,2] c27_17 (fb 27)
noncomputable def z31 (r i d : Nat) (l : LE) : (V → SK) → SK := zS 51 (S 31 r i) d l
noncomputable def x31 (r i : Nat) (l : LE) : (V → SK) → SK := fun u => zN 51 (S 31 r i) l (u vUndef)
noncomputable def y31 (r i : Nat) (l : LE) : SK → SK := zN 51 (S 31 r i) l
noncomputable def c31_0 (k : KR) (x14 x15 x16 : V) : SK := tFa x15 n0 fun x28 => tA (xcO q1 (xcO x16 (xcC .sl0 (xcC .sl0 (xcC .sl0 (xcC (.int .i64 0) (xcC (.int .i64 0) (xcC (.int .i64 0) (xcC (.int .i64 0) (xcC .sl0 xcN)))))))))) (z31 11 2 47 [(46,x16)]) fun x29 => tC [x28,x29] n20 fun x30 => tFa x15 n5 fun x31 => tS (y31 11 5 [(49,x31),(48,x30)]) x31 x30 (tLs L8 x15 fun x32 => tSs M8 (y31 12 1 [(2,x14),(50,x32)]) x14 x32 (lvT (rZ 51 (RS 31) [(2,x14)]) k))
noncomputable def c31_1 (k : KR) (x14 x15 x16 x18 x22 : V) : SK := tIa (z31 9 6 39 [(34,x18)]) x18 q5 n1 fun x23 => tS (y31 9 7 [(39,x23),(38,x22)]) x23 x22 (tFa x15 n0 fun x24 => tA (xcO q1 (xcO x16 (xcC .sl0 (xcC .sl0 (xcC .sl0 (xcC (.int .i64 0) (xcC (.int .i64 0) (xcC (.int .i64 0) (xcC (.int .i64 0) (xcC .sl0 xcN)))))))))) (z31 10 2 42 [(41,x16)]) fun x25 => tC [x24,x25] n20 fun x26 => tFa x15 n6 fun x27 => tS (y31 10 5 [(44,x27),(43,x26)]) x27 x26 (c31_0 k x14 x15 x16))
noncomputable def c31_2 (k : KR) (x14 x15 x16 : V) : SK := tFa x15 n7 fun x17 => tL x17 fun x18 => tFa x15 n7 fun x19 => tL x19 fun x20 => tIa (z31 9 4 37 [(36,x20)]) x20 q31 n1 fun x21 => tL x21 fun x22 => c31_1 k x14 x15 x16 x18 x22
noncomputable def c31_3 (j1 : V → V → V → V → V → V → SK) (x48 x49 x50 x51 x52 x53 : V) : SK := tB addD (z31 8 0 32 [(20,x53)]) x53 q3 fun x54 => j1 x48 x49 x50 x51 x52 x54
noncomputable def c31_4 (j2 : V → V → V → V → V → V → SK) (x42 x43 x44 x45 x46 x47 x56 : V) : SK := tFa x43 n7 fun x57 => tL x57 fun x58 => tFa x43 n0 fun x59 => tA (xcO q1 (xcO x44 (xcC .sl0 (xcC .sl0 (xcC .sl0 (xcC (.int .i64 0) (xcC (.int .i64 0) (xcC (.int .i64 0) (xcC (.int .i64 0) (xcC .sl0 xcN)))))))))) (z31 7 5 29 [(28,x44)]) fun x60 => tC [x59,x60] n20 fun x61 => tQ x58 x57 (tIa (z31 7 7 31 [(25,x58),(26,x56)]) x58 x56 n1 fun x62 => tS (y31 7 8 [(31,x62),(30,x61)]) x62 x61 (j2 x42 x43 x44 x45 x46 x47))
noncomputable def c31_5 (j1 : V → V → V → V → V → V → SK) (x42 x43 x44 x45 x46 x47 : V) : SK := jn (c31_3 j1) fun j2 => tIa (z31 6 0 22 [(18,x45),(20,x47)]) x45 x47 n1 fun x55 => tL x55 fun x56 => c31_4 j2 x42 x43 x44 x45 x46 x47 x56
noncomputable def c31_6 (j0 : V → V → V → SK) (j1 : V → V → V → V → V → V → SK) (x35 x36 x37 x38 x39 x40 : V) : SK := tB lssD (z31 5 0 21 [(20,x40),(19,x39)]) x40 x39 fun x41 => jn (c31_5 j1) fun j3 => tJ x41 (j3 x35 x36 x37 x38 x39 x40) (j0 x35 x36 x37)
noncomputable def c31_7 (k : KR) (x2 x5 x8 x9 : V) : SK := tC [x8,x9] n20 fun x10 => tFa x5 n7 fun x11 => tL x11 fun x12 => tIa (z31 3 3 17 [(15,x12)]) x12 q1 n1 fun x13 => tS (y31 3 4 [(17,x13),(16,x10)]) x13 x10 (jn (c31_2 k) fun j0 => tR (rwC q3 (rwC q31 (rwC q37 (rwC q27 (rwC q72 (rwC q94 (rwC q43 (rwC q64 (rwC q79 rwN))))))))) 1 9 9 fun x33 => tLl (z31 4 1 19 [(18,x33)]) x33 fun x34 => lp (fun _ _ _ _ _ _ => badK) (c31_6 j0) 1000000 x2 x5 x10 x33 x34 q1)
noncomputable def c31_8 (k : KR) (x1 : V) : SK := tAl 40 8 Z8 fun x2 => tLs L2 x1 fun x3 => (z31 1 2 9 []) fun x4 => tAl 40 8 Z8 fun x5 => tC [x3] n71 fun x6 => (z31 1 3 10 [(8,x6),(9,x4)]) fun x7 => tSs M8 (y31 1 5 [(3,x5),(10,x7)]) x5 x7 (tFa x5 n0 fun x8 => tA (xcO q1 (xcC (.int .i64 0) (xcC .sl0 (xcC .sl0 (xcC .sl0 (xcC (.int .i64 0) (xcC (.int .i64 0) (xcC (.int .i64 0) (xcC (.int .i64 0) (xcC .sl0 xcN)))))))))) (z31 2 1 12 []) fun x9 => c31_7 k x2 x5 x8 x9)
noncomputable def c31_9 (k : KR) (x0 : V) : SK := tBx x0 fun x1 => c31_8 k x1
noncomputable def F31 : FF := fT [0] c31_9 (fb 31)
noncomputable def z33 (r i d : Nat) (l : LE) : (V → SK) → SK := zS 10 (S 33 r i) d l
noncomputable def c33_0 (k : KR) (x0 x1 : V) : SK := tN (z33 1 1 6 [(5,x0)]) x0 fun x2 => tFa x2 n0 fun x3 => tC [x3,x1] n74 fun x4 => rA x4 k
noncomputable def F33 : FF := fT [0,1] c33_0 (fb 33)
noncomputable def z34 (r i d : Nat) (l : LE) : (V → SK) → SK := zS 96 (S 34 r i) d l
noncomputable def x34 (r i : Nat) (l : LE) : (V → SK) → SK := fun u => zN 96 (S 34 r i) l (u vUndef)
noncomputable def y34 (r i : Nat) (l : LE) : SK → SK := zN 96 (S 34 r i) l
noncomputable def zb34 (r i d : Nat) (l : LE) : (V → SK) → SK := zS 96 (Sb 34 r i) d l
noncomputable def c34_0 (k : KR) (x17 x18 x19 : V) : SK := tN (z34 23 2 86 [(85,x19)]) x19 fun x20 => tFa x20 n2 fun x21 => tL x21 fun x22 => tLs L4 x18 fun x23 => (z34 23 7 91 [(89,x17),(90,x23)]) fun x24 => tR (rwC x24 rwN) 5 1 5 fun x25 => tAp Tryz.prog 173 false 5 x22 x25 fun x26 => tN (z34 23 10 94 [(84,x19)]) x19 fun x27 => tFa x27 n2 fun x28 => tS (y34 23 12 [(95,x28),(93,x26)]) x28 x26 (rA q1 k)
noncomputable def c34_1 (k : KR) (x14 x15 x16 : V) : SK := jn (c34_0 k) fun j0 => tN (z34 21 1 79 [(78,x16)]) x16 fun x29 => tFa x29 n2 fun x30 => tL x30 fun x31 => tLl (z34 21 4 82 [(81,x31)]) x31 fun x32 => tB geqD (z34 21 5 83 [(82,x32)]) x32 q95 fun x33 => tJ x33 (rA q27 k) (j0 x14 x15 x16)
noncomputable def c34_2 (k : KR) (x11 x12 x13 : V) : SK := jn (c34_1 k) fun j1 => tC [x13,x11] n78 fun x34 => tB geqD (z34 18 1 69 [(68,x34)]) x34 q1 fun x35 => tJ x35 (tN (z34 19 1 71 [(70,x13)]) x13 fun x36 => tFa x36 n2 fun x37 => tL x37 fun x38 => tLs L4 x12 fun x39 => tIa (z34 19 6 76 [(73,x38),(74,x34)]) x38 x34 n5 fun x40 => tFa x40 n1 fun x41 => tSs M4 (y34 19 8 [(77,x41),(75,x39)]) x41 x39 (rA q1 k)) (j1 x11 x12 x13)
noncomputable def c34_3 (k : KR) (x51 x52 x53 : V) : SK := tN (z34 15 1 59 [(58,x52)]) x52 fun x54 => tFa x54 n3 fun x55 => tL x55 fun x56 => tLs L4 x51 fun x57 => tIa (z34 15 6 64 [(61,x56),(62,x53)]) x56 x53 n4 fun x58 => tSs M4 (y34 15 7 [(64,x58),(63,x57)]) x58 x57 (rA q1 k)
noncomputable def c34_4 (k : KR) (j2 : V → V → V → SK) (x46 x47 x48 x49 : V) : SK := tB geqD (z34 12 1 46 [(45,x49)]) x49 q1 fun x50 => tJ x50 (jn (c34_3 k) fun j3 => tN (z34 13 2 49 [(48,x48)]) x48 fun x59 => tFa x59 n3 fun x60 => tL x60 fun x61 => tLl (z34 13 5 52 [(51,x61)]) x61 fun x62 => tB geqD (z34 13 6 53 [(47,x49),(52,x62)]) x49 x62 fun x63 => tJ x63 (tB addD (z34 14 2 56 [(55,x49)]) x49 q3 fun x64 => tC [x48,x64] n76 fun _ => j3 x47 x48 x49) (j3 x47 x48 x49)) (j2 x46 x47 x48)
noncomputable def c34_5 (k : KR) (j2 : V → V → V → SK) (x46 x47 x48 : V) : SK := tC [x46] n77 fun x49 => c34_4 k j2 x46 x47 x48 x49
noncomputable def c34_6 (k : KR) (x67 x68 : V) : SK := tFa x67 n1 fun x69 => tL x69 fun x70 => tC [x68,x70] n76 fun _ => rA q1 k
noncomputable def c34_7 (k : KR) (j5 : V → V → SK) (x7 x8 x78 : V) (x81 : V) : SK := tK x78 q30 x81 fun x82 => tJ x82 (rA q31 k) (j5 x7 x8)
noncomputable def c34_8 (k : KR) (j5 : V → V → SK) (x7 x8 x78 : V) (x80 : V) : SK := tG0 (c34_7 k j5 x7 x8 x78) x78 fun r => tB gtrD (zb34 7 11 37 [(36,x80)]) x80 q95 r
noncomputable def c34_9 (k : KR) (j5 : V → V → SK) (x7 x8 x78 : V) (x79 : V) : SK := tG0 (c34_8 k j5 x7 x8 x78) x78 fun r => tL x79 r
noncomputable def c34_10 (k : KR) (j5 : V → V → SK) (x7 x8 x74 : V) (x77 : V) : SK := tK x74 q30 x77 fun x78 => tG0 (c34_9 k j5 x7 x8 x78) x78 fun r => tFa x7 n1 r
noncomputable def c34_11 (k : KR) (j5 : V → V → SK) (x7 x8 x74 : V) (x76 : V) : SK := tG0 (c34_10 k j5 x7 x8 x74) x74 fun r => tB lssD (zb34 7 6 32 [(31,x76)]) x76 q1 r
noncomputable def c34_12 (k : KR) (j5 : V → V → SK) (x7 x8 x74 : V) (x75 : V) : SK := tG0 (c34_11 k j5 x7 x8 x74) x74 fun r => tL x75 r
noncomputable def c34_13 (k : KR) (j2 : V → V → V → SK) (x6 x7 x8 : V) : SK := tN (z34 5 1 20 [(19,x8)]) x8 fun x42 => tFa x42 n0 fun x43 => tL x43 fun x44 => tB eqlD (z34 5 4 23 [(22,x44)]) x44 q3 fun x45 => tJ x45 (jn (c34_5 k j2) fun j4 => tT eqlTD (z34 6 1 25 [(24,x6)]) x6 q96 fun x66 => tJ x66 (jn (c34_6 k) fun j5 => tFa x7 n0 fun x72 => tL x72 fun x73 => tB neqD (z34 7 2 28 [(27,x73)]) x73 q5 fun x74 => tG0 (c34_12 k j5 x7 x8 x74) x74 fun r => tFa x7 n1 r) (j4 x6 x7 x8)) (j2 x6 x7 x8)
noncomputable def c34_14 (k : KR) (x6 x7 x8 : V) : SK := tLs L4 x7 fun x9 => tC [x9] n75 fun x10 => tSs M4 (y34 4 2 [(7,x7),(18,x10)]) x7 x10 (jn (c34_2 k) fun j2 => c34_13 k j2 x6 x7 x8)
noncomputable def c34_15 (k : KR) (x0 x1 x2 x3 : V) : SK := tBx x3 fun x4 => tC [x0,x1] n33 fun x5 => jn (c34_14 k) fun j6 => tP (z34 2 1 16 [(15,x5)]) x5 q68 vTrue vFalse fun x83 => tJ x83 (rA q72 k) (j6 x2 x4 x5)
noncomputable def F34 : FF := fT [0,1,2,3] c34_15 (fb 34)
noncomputable def z35 (r i d : Nat) (l : LE) : (V → SK) → SK := zS 5 (S 35 r i) d l
noncomputable def y35 (r i : Nat) (l : LE) : SK → SK := zN 5 (S 35 r i) l
noncomputable def c35_0 (k : KR) (x0 : V) : SK := tAl 45 4 Z2 fun x1 => tA (xcO q27 (xcC (.int .i64 0) (xcC (.str 0 0) (xcO x0 xcN)))) (z35 1 1 4 [(3,x0)]) fun x2 => tSs M4 (y35 1 2 [(2,x1),(4,x2)]) x1 x2 (lvT (rZ 5 (RS 35) [(2,x1)]) k)
noncomputable def F35 : FF := fT [0] c35_0 (fb 35)
noncomputable def z41 (r i d : Nat) (l : LE) : (V → SK) → SK := zS 21 (S 41 r i) d l
noncomputable def y41 (r i : Nat) (l : LE) : SK → SK := zN 21 (S 41 r i) l
noncomputable def zb41 (r i d : Nat) (l : LE) : (V → SK) → SK := zS 21 (Sb 41 r i) d l
noncomputable def c41_0 (k : KR) (x3 x4 : V) : SK := tLs L2 x4 fun x5 => tC [x5] n92 fun x6 => tAl 30 2 Z10 fun x7 => tSs M2 (y41 3 3 [(5,x7),(13,x6)]) x7 x6 (tFa x7 n0 fun x8 => tL x8 fun x9 => tFa x7 n1 fun x10 => tL x10 fun x11 => tB mulD (z41 4 5 19 [(17,x11),(18,x3)]) x11 x3 fun x12 => tB addD (z41 4 6 20 [(15,x9),(19,x12)]) x9 x12 fun x13 => rA x13 k)
noncomputable def c41_1 (k : KR) (j0 : V → V → SK) (x1 x2 x14 : V) (x16 : V) : SK := tK x14 q30 x16 fun x17 => tJ x17 (rA q1 k) (j0 x1 x2)
noncomputable def c41_2 (k : KR) (j0 : V → V → SK) (x1 x2 x14 : V) (x15 : V) : SK := tG0 (c41_1 k j0 x1 x2 x14) x14 fun r => tB gtrD (zb41 1 4 10 [(9,x15)]) x15 q102 r
noncomputable def c41_3 (k : KR) (x0 x1 : V) : SK := tBx x0 fun x2 => jn (c41_0 k) fun j0 => tB lssD (z41 1 1 7 [(6,x1)]) x1 q1 fun x14 => tG0 (c41_2 k j0 x1 x2 x14) x14 fun r => r x1
noncomputable def F41 : FF := fT [0,1] c41_3 (fb 41)
noncomputable def z45 (r i d : Nat) (l : LE) : (V → SK) → SK := zS 42 (S 45 r i) d l
noncomputable def y45 (r i : Nat) (l : LE) : SK → SK := zN 42 (S 45 r i) l
noncomputable def zb45 (r i d : Nat) (l : LE) : (V → SK) → SK := zS 42 (Sb 45 r i) d l
noncomputable def c45_0 (k : KR) (x10 x11 : V) : SK := tN (z45 5 1 26 [(25,x10)]) x10 fun x12 => tFa x12 n8 fun x13 => tL x13 fun x14 => (z45 5 5 30 [(28,x14),(29,x11)]) fun x15 => tAp Tryz.prog 44 false 4 q70 x15 fun x16 => tN (z45 6 2 34 [(33,x10)]) x10 fun x17 => tFa x17 n8 fun x18 => tL x18 fun x19 => (z45 6 6 38 [(36,x19),(37,x11)]) fun x20 => tN (z45 6 7 39 [(32,x10)]) x10 fun x21 => tFa x21 n8 fun x22 => tS (y45 6 9 [(40,x22),(38,x20)]) x22 x20 (rA x16 k)
noncomputable def c45_1 (j0 : V → V → SK) (x2 x4 x9 x23 : V) (x25 : V) : SK := tK x23 q30 x25 fun x26 => tJ x26 (tLs L3 x2 fun x27 => tC [x27] n26 fun _ => j0 x4 x9) (j0 x4 x9)
noncomputable def c45_2 (j0 : V → V → SK) (x2 x4 x9 x23 : V) (x24 : V) : SK := tG0 (c45_1 j0 x2 x4 x9 x23) x23 fun r => tB lssD (zb45 3 4 21 [(20,x24)]) x24 q1 r
noncomputable def c45_3 (k : KR) (x0 x1 : V) : SK := tBx x0 fun x2 => tLs L3 x2 fun x3 => tC [x3] n21 fun x4 => tN (z45 2 1 11 [(10,x4)]) x4 fun x5 => tFa x5 n8 fun x6 => tL x6 fun x7 => tLl (z45 2 4 14 [(13,x7)]) x7 fun x8 => tB subD (z45 2 6 16 [(14,x8),(15,x1)]) x8 x1 fun x9 => jn (c45_0 k) fun j0 => tB lssD (z45 3 1 18 [(17,x1)]) x1 q1 fun x23 => tG0 (c45_2 j0 x2 x4 x9 x23) x23 fun r => r x9
noncomputable def F45 : FF := fT [0,1] c45_3 (fb 45)
noncomputable def z49 (r i d : Nat) (l : LE) : (V → SK) → SK := zS 7 (S 49 r i) d l
noncomputable def y49 (r i : Nat) (l : LE) : SK → SK := zN 7 (S 49 r i) l
noncomputable def c49_0 (k : KR) (x0 : V) : SK := tBx x0 fun x1 => tAl 45 4 Z2 fun x2 => tLs L3 x1 fun x3 => tC [x3,q3] n45 fun x4 => tIa (z49 1 2 5 [(4,x4)]) x4 q1 n4 fun x5 => tLs L4 x5 fun x6 => tSs M4 (y49 1 4 [(2,x2),(6,x6)]) x2 x6 (lvT (rZ 7 (RS 49) [(2,x2)]) k)
noncomputable def F49 : FF := fT [0] c49_0 (fb 49)
noncomputable def z58 (r i d : Nat) (l : LE) : (V → SK) → SK := zS 43 (S 58 r i) d l
noncomputable def zb58 (r i d : Nat) (l : LE) : (V → SK) → SK := zS 43 (Sb 58 r i) d l
noncomputable def c58_0 (k : KR) (x15 x16 : V) : SK := tIa (z58 4 2 40 [(38,x16),(39,x15)]) x16 x15 n3 fun x17 => tFa x17 n2 fun x18 => tL x18 fun x19 => rA x19 k
noncomputable def c58_1 (j0 : V → V → SK) (x2 x3 x14 x25 : V) (x31 : V) : SK := tK x25 q30 x31 fun x32 => tJ x32 (tLs L3 x3 fun x33 => tC [x33] n26 fun _ => j0 x2 x14) (j0 x2 x14)
noncomputable def c58_2 (j0 : V → V → SK) (x2 x3 x14 x25 : V) (x30 : V) : SK := tG0 (c58_1 j0 x2 x3 x14 x25) x25 fun r => tB neqD (zb58 2 14 34 [(33,x30)]) x30 q31 r
noncomputable def c58_3 (j0 : V → V → SK) (x2 x3 x14 x25 : V) (x29 : V) : SK := tG0 (c58_2 j0 x2 x3 x14 x25) x25 fun r => tL x29 r
noncomputable def c58_4 (j0 : V → V → SK) (x2 x3 x14 x25 : V) (x28 : V) : SK := tG0 (c58_3 j0 x2 x3 x14 x25) x25 fun r => tFa x28 n0 r
noncomputable def c58_5 (j0 : V → V → SK) (x2 x3 x14 x25 x26 : V) (x27 : V) : SK := tG0 (c58_4 j0 x2 x3 x14 x25) x25 fun r => tIa (zb58 2 11 31 [(29,x26),(30,x27)]) x26 x27 n3 r
noncomputable def c58_6 (j0 : V → V → SK) (x2 x3 x14 x25 : V) (x26 : V) : SK := tG0 (c58_5 j0 x2 x3 x14 x25 x26) x25 fun r => r x2
noncomputable def c58_7 (j0 : V → V → SK) (x2 x3 x14 x20 : V) (x24 : V) : SK := tK x20 q30 x24 fun x25 => tG0 (c58_6 j0 x2 x3 x14 x25) x25 fun r => r x14
noncomputable def c58_8 (j0 : V → V → SK) (x2 x3 x14 x20 x21 : V) (x23 : V) : SK := tG0 (c58_7 j0 x2 x3 x14 x20) x20 fun r => tB geqD (zb58 2 6 26 [(23,x21),(25,x23)]) x21 x23 r
noncomputable def c58_9 (j0 : V → V → SK) (x2 x3 x14 x20 x21 : V) (x22 : V) : SK := tG0 (c58_8 j0 x2 x3 x14 x20 x21) x20 fun r => tLl (zb58 2 5 25 [(24,x22)]) x22 r
noncomputable def c58_10 (j0 : V → V → SK) (x2 x3 x14 x20 : V) (x21 : V) : SK := tG0 (c58_9 j0 x2 x3 x14 x20 x21) x20 fun r => r x14
noncomputable def c58_11 (k : KR) (x1 x2 x3 : V) : SK := tFa x3 n2 fun x4 => tL x4 fun x5 => tN (z58 1 2 10 [(9,x5)]) x5 fun x6 => tFa x6 n0 fun x7 => tL x7 fun x8 => tN (z58 1 6 14 [(13,x1)]) x1 fun x9 => tFa x9 n1 fun x10 => tL x10 fun x11 => tIa (z58 1 9 17 [(12,x8),(16,x11)]) x8 x11 n7 fun x12 => tFa x12 n5 fun x13 => tL x13 fun x14 => jn (c58_0 k) fun j0 => tB lssD (z58 2 1 21 [(20,x2)]) x2 q1 fun x20 => tG0 (c58_10 j0 x2 x3 x14 x20) x20 fun r => r x2
noncomputable def c58_12 (k : KR) (x0 x1 x2 : V) : SK := tBx x0 fun x3 => c58_11 k x1 x2 x3
noncomputable def F58 : FF := fT [0,1,2] c58_12 (fb 58)
noncomputable def z68 (r i d : Nat) (l : LE) : (V → SK) → SK := zS 37 (S 68 r i) d l
noncomputable def y68 (r i : Nat) (l : LE) : SK → SK := zN 37 (S 68 r i) l
noncomputable def c68_0 (k : KR) (x0 x5 x6 : V) : SK := tN (z68 3 1 13 [(12,x6)]) x6 fun x7 => tFa x7 n3 fun x8 => tS (y68 3 3 [(14,x8)]) x8 q30 (tN (z68 4 1 16 [(15,x5)]) x5 fun x9 => tFa x9 n0 fun x10 => tL x10 fun x11 => y68 4 6 [(18,x11),(19,x0),(20,x6)] (tN (z68 5 3 24 [(23,x0)]) x0 fun x12 => tFa x12 n4 fun x13 => tL x13 fun x14 => tC [x5,x6,x14] n136 fun _ => tN (z68 6 2 30 [(29,x0)]) x0 fun x16 => tFa x16 n4 fun x17 => tL x17 fun x18 => tC [x5,x18,x6,x0] n137 fun _ => rA x5 k))
noncomputable def c68_1 (k : KR) (x0 : V) : SK := (z68 1 0 5 []) fun x1 => (z68 1 1 6 []) fun x2 => (z68 1 2 7 []) fun x3 => tA (xcO x1 (xcO x2 (xcO x3 (xcC .sl0 (xcC .sl0 (xcC (.bool false) xcN)))))) (z68 1 3 8 [(5,x1),(6,x2),(7,x3)]) fun x4 => tBx x4 fun x5 => tC [q68,x0] n135 fun x6 => c68_0 k x0 x5 x6
noncomputable def F68 : FF := fT [0] c68_1 (fb 68)
noncomputable def z72 (r i d : Nat) (l : LE) : (V → SK) → SK := zS 9 (S 72 r i) d l
noncomputable def c72_0 (k : KR) (x0 : V) : SK := tN (z72 1 1 4 [(3,x0)]) x0 fun x1 => tFa x1 n0 fun x2 => tL x2 fun x3 => tLl (z72 1 4 7 [(6,x3)]) x3 fun x4 => tB geqD (z72 1 5 8 [(7,x4)]) x4 q142 fun x5 => rA x5 k
noncomputable def F72 : FF := fT [0] c72_0 (fb 72)
noncomputable def z74 (r i d : Nat) (l : LE) : (V → SK) → SK := zS 14 (S 74 r i) d l
noncomputable def c74_0 (k : KR) : SK := rA q68 k
noncomputable def c74_1 (k : KR) (x0 x1 : V) : SK := jn (c74_0 k) fun j0 => tC [x0,x1] n144 fun x2 => tP (z74 2 1 10 [(9,x2)]) x2 q68 vFalse vTrue fun x3 => tJ x3 (tN (z74 3 1 12 [(11,x2)]) x2 fun x4 => tFa x4 n1 fun x5 => rA x5 k) (j0)
noncomputable def F74 : FF := fT [0,1] c74_1 (fb 74)
noncomputable def z75 (r i d : Nat) (l : LE) : (V → SK) → SK := zS 33 (S 75 r i) d l
noncomputable def y75 (r i : Nat) (l : LE) : SK → SK := zN 33 (S 75 r i) l
noncomputable def c75_0 (k : KR) (x3 : V) : SK := tA (xcC (.int .i64 0) (xcC (.int .i64 0) (xcC (.str 0 0) (xcC (.int .i64 0) xcN)))) (z75 13 0 32 []) fun x4 => tSs M4 (y75 13 1 [(2,x3),(32,x4)]) x3 x4 (lvT (rZ 33 (RS 75) [(2,x3)]) k)
noncomputable def c75_1 (k : KR) (j0 : V → SK) (x24 x25 x26 : V) : SK := tJ x26 (tFa x24 n0 fun x27 => tL x27 fun x28 => tA (xcO x28 (xcC (.int .i64 0) (xcC (.str 0 0) (xcC (.int .i64 0) xcN)))) (z75 12 2 31 [(30,x28)]) fun x29 => tSs M4 (y75 12 3 [(2,x25),(31,x29)]) x25 x29 (lvT (rZ 33 (RS 75) [(2,x25)]) k)) (j0 x25)
noncomputable def c75_2 (k : KR) (j0 : V → SK) (x1 x2 x6 x16 : V) : SK := tJ x16 (tFa x1 n2 fun x17 => tL x17 fun x18 => tC [x18] n14 fun x19 => tSs M4 (y75 7 3 [(2,x2),(20,x19)]) x2 x19 (lvT (rZ 33 (RS 75) [(2,x2)]) k)) (tB eqlD (z75 8 0 22 [(4,x6)]) x6 q27 fun x20 => tJ x20 (tFa x1 n3 fun x21 => tL x21 fun x22 => tC [x22] n35 fun x23 => tSs M4 (y75 9 3 [(2,x2),(25,x23)]) x2 x23 (lvT (rZ 33 (RS 75) [(2,x2)]) k)) (jn (c75_1 k j0) fun j1 => tB eqlD (z75 10 0 27 [(4,x6)]) x6 q3 fun x30 => tJ x30 (j1 x1 x2 x30) (tB eqlD (z75 11 0 28 [(4,x6)]) x6 q72 fun x31 => j1 x1 x2 x31)))
noncomputable def c75_3 (k : KR) (j0 : V → SK) (x1 x2 x6 x7 : V) : SK := tJ x7 (tFa x1 n1 fun x8 => tL x8 fun x9 => tB neqD (z75 3 2 9 [(8,x9)]) x9 q1 fun x10 => tC [x10] n86 fun x11 => tSs M4 (y75 3 4 [(2,x2),(10,x11)]) x2 x11 (lvT (rZ 33 (RS 75) [(2,x2)]) k)) (tB eqlD (z75 4 0 12 [(4,x6)]) x6 q5 fun x12 => tJ x12 (tFa x1 n1 fun x13 => tL x13 fun x14 => tC [x14] n10 fun x15 => tSs M4 (y75 5 3 [(2,x2),(15,x15)]) x2 x15 (lvT (rZ 33 (RS 75) [(2,x2)]) k)) (tB eqlD (z75 6 0 17 [(4,x6)]) x6 q37 fun x16 => c75_2 k j0 x1 x2 x6 x16))
noncomputable def c75_4 (k : KR) (x0 : V) : SK := tBx x0 fun x1 => tAl 45 4 Z2 fun x2 => jn (c75_0 k) fun j0 => tFa x1 n0 fun x5 => tL x5 fun x6 => tB eqlD (z75 2 0 6 [(4,x6)]) x6 q31 fun x7 => c75_3 k j0 x1 x2 x6 x7
noncomputable def F75 : FF := fT [0] c75_4 (fb 75)
noncomputable def z78 (r i d : Nat) (l : LE) : (V → SK) → SK := zS 11 (S 78 r i) d l
noncomputable def c78_0 (k : KR) (x0 x1 : V) : SK := tBx x1 fun x2 => tN (z78 1 1 6 [(5,x0)]) x0 fun x3 => tFa x3 n2 fun x4 => tL x4 fun x5 => (z78 1 4 9 [(3,x2)]) fun x6 => tC [x5,x6] n147 fun x7 => rA x7 k
noncomputable def F78 : FF := fT [0,1] c78_0 (fb 78)
noncomputable def z80 (r i d : Nat) (l : LE) : (V → SK) → SK := zS 29 (S 80 r i) d l
noncomputable def zb80 (r i d : Nat) (l : LE) : (V → SK) → SK := zS 29 (Sb 80 r i) d l
noncomputable def c80_0 (k : KR) (x8 : V) (x20 : V) : SK := tK x8 x20 q0 fun x21 => rA x21 k
noncomputable def c80_1 (k : KR) (x8 x14 : V) (x19 : V) : SK := tG1 (c80_0 k x8) x8 fun r => tK x14 q30 x19 r
noncomputable def c80_2 (k : KR) (x8 x14 : V) (x18 : V) : SK := tG0 (c80_1 k x8 x14) x14 fun r => tB eqlD (zb80 4 13 26 [(25,x18)]) x18 q5 r
noncomputable def c80_3 (k : KR) (x8 x14 : V) (x17 : V) : SK := tG0 (c80_2 k x8 x14) x14 fun r => tL x17 r
noncomputable def c80_4 (k : KR) (x8 x14 : V) (x16 : V) : SK := tG0 (c80_3 k x8 x14) x14 fun r => tFa x16 n0 r
noncomputable def c80_5 (k : KR) (x8 x14 : V) (x15 : V) : SK := tG0 (c80_4 k x8 x14) x14 fun r => tN (zb80 4 10 23 [(22,x15)]) x15 r
noncomputable def c80_6 (k : KR) (x7 x8 : V) (x14 : V) : SK := tG0 (c80_5 k x8 x14) x14 fun r => r x7
noncomputable def c80_7 (k : KR) (x7 x8 : V) (x13 : V) : SK := tG1 (c80_6 k x7 x8) x8 fun r => r x13
noncomputable def c80_8 (k : KR) (x7 x8 : V) (x12 : V) : SK := tG1 (c80_7 k x7 x8) x8 fun r => tB eqlD (zb80 4 7 20 [(19,x12)]) x12 q31 r
noncomputable def c80_9 (k : KR) (x7 x8 : V) (x11 : V) : SK := tG1 (c80_8 k x7 x8) x8 fun r => tL x11 r
noncomputable def c80_10 (k : KR) (x7 x8 : V) (x10 : V) : SK := tG1 (c80_9 k x7 x8) x8 fun r => tFa x10 n0 r
noncomputable def c80_11 (k : KR) (x7 x8 : V) (x9 : V) : SK := tG1 (c80_10 k x7 x8) x8 fun r => tN (zb80 4 4 17 [(16,x9)]) x9 r
noncomputable def c80_12 (k : KR) (x3 x4 : V) : SK := tFa x4 n3 fun x5 => tL x5 fun x6 => tC [x3,x6] n33 fun x7 => tP (z80 4 1 14 [(13,x7)]) x7 q68 vFalse vTrue fun x8 => tG1 (c80_11 k x7 x8) x8 fun r => r x7
noncomputable def c80_13 (k : KR) (x0 x1 : V) : SK := tBx x1 fun x2 => jn (c80_12 k) fun j0 => tFa x2 n0 fun x22 => tL x22 fun x23 => tB neqD (z80 1 2 8 [(7,x23)]) x23 q27 fun x24 => tJ x24 (rA q0 k) (j0 x0 x2)
noncomputable def F80 : FF := fT [0,1] c80_13 (fb 80)
noncomputable def z90 (r i d : Nat) (l : LE) : (V → SK) → SK := zS 35 (S 90 r i) d l
noncomputable def y90 (r i : Nat) (l : LE) : SK → SK := zN 35 (S 90 r i) l
noncomputable def zb90 (r i d : Nat) (l : LE) : (V → SK) → SK := zS 35 (Sb 90 r i) d l
noncomputable def c90_0 (k : KR) (x4 x5 : V) : SK := tFa x4 n0 fun x6 => tL x6 fun x7 => tFa x4 n0 fun x8 => tL x8 fun x9 => tN (z90 3 4 27 [(26,x9)]) x9 fun x10 => tFa x10 n0 fun x11 => tL x11 fun x12 => tLs L16 x5 fun x13 => tR (rwC x13 rwN) 16 1 16 fun x14 => tAp Tryz.prog 59 false 16 x12 x14 fun x15 => tQ x7 x6 (tN (z90 3 10 33 [(24,x7)]) x7 fun x16 => tFa x16 n0 fun x17 => tS (y90 3 12 [(34,x17),(32,x15)]) x17 x15 (lvT (rW rwN) k))
noncomputable def c90_1 (j0 : V → V → SK) (x2 x3 x24 : V) (x30 : V) : SK := tK x24 x30 q0 fun x31 => tJ x31 (tLs L3 x2 fun x32 => tC [x32] n21 fun x33 => tN (z90 2 2 21 [(20,x33)]) x33 fun x34 => tFa x34 n2 fun x35 => tS (y90 2 4 [(22,x35)]) x35 q5 (j0 x2 x3)) (j0 x2 x3)
noncomputable def c90_2 (j0 : V → V → SK) (x2 x3 x24 : V) (x29 : V) : SK := tG1 (c90_1 j0 x2 x3 x24) x24 fun r => tB eqlD (zb90 1 13 17 [(16,x29)]) x29 q31 r
noncomputable def c90_3 (j0 : V → V → SK) (x2 x3 x24 : V) (x28 : V) : SK := tG1 (c90_2 j0 x2 x3 x24) x24 fun r => tL x28 r
noncomputable def c90_4 (j0 : V → V → SK) (x2 x3 x24 : V) (x27 : V) : SK := tG1 (c90_3 j0 x2 x3 x24) x24 fun r => tFa x27 n0 r
noncomputable def c90_5 (j0 : V → V → SK) (x2 x3 x24 : V) (x26 : V) : SK := tG1 (c90_4 j0 x2 x3 x24) x24 fun r => tN (zb90 1 10 14 [(13,x26)]) x26 r
noncomputable def c90_6 (j0 : V → V → SK) (x2 x3 x24 : V) (x25 : V) : SK := tG1 (c90_5 j0 x2 x3 x24) x24 fun r => tC [x25] n21 r
noncomputable def c90_7 (k : KR) (x0 x1 : V) : SK := tBx x0 fun x2 => tBx x1 fun x3 => jn (c90_0 k) fun j0 => tFa x2 n0 fun x18 => tL x18 fun x19 => tN (z90 1 2 6 [(5,x19)]) x19 fun x20 => tFa x20 n0 fun x21 => tL x21 fun x22 => tLl (z90 1 5 9 [(8,x22)]) x22 fun x23 => tB gtrD (z90 1 6 10 [(9,x23)]) x23 q1 fun x24 => tG1 (c90_6 j0 x2 x3 x24) x24 fun r => tLs L3 x2 r
noncomputable def F90 : FF := fT [0,1] c90_7 (fb 90)
noncomputable def z92 (r i d : Nat) (l : LE) : (V → SK) → SK := zS 12 (S 92 r i) d l
noncomputable def y92 (r i : Nat) (l : LE) : SK → SK := zN 12 (S 92 r i) l
noncomputable def c92_0 (k : KR) (x0 : V) : SK := tBx x0 fun x1 => tAl 30 2 Z10 fun x2 => tFa x1 n0 fun x3 => tL x3 fun x4 => (z92 1 2 5 [(4,x4)]) fun x5 => (z92 1 3 6 [(5,x5)]) fun x6 => tFa x1 n1 fun x7 => tL x7 fun x8 => (z92 1 6 9 [(8,x8)]) fun x9 => (z92 1 7 10 [(9,x9)]) fun x10 => tA (xcO x6 (xcO x10 xcN)) (z92 1 8 11 [(6,x6),(10,x10)]) fun x11 => tSs M2 (y92 1 9 [(2,x2),(11,x11)]) x2 x11 (lvT (rZ 12 (RS 92) [(2,x2)]) k)
noncomputable def F92 : FF := fT [0] c92_0 (fb 92)
noncomputable def z101 (r i d : Nat) (l : LE) : (V → SK) → SK := zS 16 (S 101 r i) d l
noncomputable def y101 (r i : Nat) (l : LE) : SK → SK := zN 16 (S 101 r i) l
noncomputable def c101_0 (k : KR) (x0 x1 : V) : SK := tBx x0 fun x2 => tLs L3 x2 fun x3 => tC [x3] n21 fun x4 => tN (z101 2 2 9 [(8,x4)]) x4 fun x5 => tFa x5 n8 fun x6 => tL x6 fun x7 => tAp Tryz.prog 44 false 4 x7 x1 fun x8 => tN (z101 2 7 14 [(7,x4)]) x4 fun x9 => tFa x9 n8 fun x10 => tS (y101 2 9 [(15,x10),(13,x8)]) x10 x8 (lvT (rW rwN) k)
noncomputable def F101 : FF := fT [0,1] c101_0 (fb 101)
noncomputable def z103 (r i d : Nat) (l : LE) : (V → SK) → SK := zS 11 (S 103 r i) d l
noncomputable def y103 (r i : Nat) (l : LE) : SK → SK := zN 11 (S 103 r i) l
noncomputable def c103_0 (k : KR) (x5 x6 : V) : SK := tLs L4 x5 fun x7 => tSs M4 (y103 3 1 [(4,x6),(10,x7)]) x6 x7 (lvT (rZ 11 (RS 103) [(4,x6)]) k)
noncomputable def c103_1 (k : KR) (x0 x1 : V) : SK := tBx x0 fun x2 => tBx x1 fun x3 => tAl 45 4 Z2 fun x4 => jn (c103_0 k) fun j0 => tFa x3 n0 fun x8 => tL x8 fun x9 => tB eqlD (z103 1 2 7 [(6,x9)]) x9 q72 fun x10 => tJ x10 (tLs L3 x2 fun x11 => tC [x11,q111,q151] n44 fun _ => j0 x3 x4) (j0 x3 x4)
noncomputable def F103 : FF := fT [0,1] c103_1 (fb 103)
noncomputable def z119 (r i d : Nat) (l : LE) : (V → SK) → SK := zS 19 (S 119 r i) d l
noncomputable def c119_0 (k : KR) (x6 : V) : SK := tL x6 fun x7 => lvT (rW (rwC x7 (rwC q1 (rwC q1 rwN)))) k
noncomputable def c119_1 (k : KR) (x0 : V) : SK := tAl 145 1 Z1 fun x1 => (z119 2 1 10 [(5,x1)]) fun x2 => tC [x0,x2] n160 fun x3 => tX x3 n0 fun x4 => tX x3 n1 fun x5 => jn (c119_0 k) fun j0 => tB neqD (z119 3 1 15 [(14,x5)]) x5 q1 fun x8 => tJ x8 (lvT (rW (rwC q70 (rwC x4 (rwC x5 rwN)))) k) (j0 x1)
noncomputable def F119 : FF := fT [0] c119_1 (fb 119)
noncomputable def z120 (r i d : Nat) (l : LE) : (V → SK) → SK := zS 33 (S 120 r i) d l
noncomputable def y120 (r i : Nat) (l : LE) : SK → SK := zN 33 (S 120 r i) l
noncomputable def c120_0 (k : KR) : SK := rA q0 k
noncomputable def c120_1 (j1 : V → V → V → V → SK) (x11 x12 x13 x14 : V) : SK := tB addD (z120 17 0 32 [(8,x14)]) x14 q3 fun x15 => j1 x11 x12 x13 x15
noncomputable def c120_2 (j2 : V → V → V → V → SK) (x34 x35 x36 x37 x38 : V) : SK := tJ x38 (tB subD (z120 16 1 30 [(29,x34)]) x34 q3 fun x39 => (z120 16 2 31 [(30,x39)]) fun x40 => j2 x40 x35 x36 x37) (j2 x34 x35 x36 x37)
noncomputable def c120_3 (k : KR) (j2 : V → V → V → V → SK) (x26 x27 x28 x29 x30 x31 : V) : SK := tJ x31 (tB addD (z120 10 1 22 [(21,x26)]) x26 q3 fun x32 => tB gtrD (z120 11 1 24 [(23,x32)]) x32 q164 fun x33 => tJ x33 (rA q30 k) (j2 x32 x27 x28 x29)) (jn (c120_2 j2) fun j3 => tT eqlTD (z120 13 0 26 [(16,x30)]) x30 q167 fun x41 => tJ x41 (j3 x26 x27 x28 x29 x41) (tT eqlTD (z120 14 0 27 [(16,x30)]) x30 q166 fun x42 => tJ x42 (j3 x26 x27 x28 x29 x42) (tT eqlTD (z120 15 0 28 [(16,x30)]) x30 q165 fun x43 => j3 x26 x27 x28 x29 x43)))
noncomputable def c120_4 (k : KR) (j2 : V → V → V → V → SK) (x19 x20 x21 x22 x23 : V) : SK := tFa x20 n1 fun x24 => tL x24 fun x25 => jn (c120_3 k j2) fun j4 => tT eqlTD (z120 7 0 18 [(16,x25)]) x25 q169 fun x44 => tJ x44 (j4 x19 x21 x22 x23 x25 x44) (tT eqlTD (z120 8 0 19 [(16,x25)]) x25 q168 fun x45 => tJ x45 (j4 x19 x21 x22 x23 x25 x45) (tT eqlTD (z120 9 0 20 [(16,x25)]) x25 q138 fun x46 => j4 x19 x21 x22 x23 x25 x46))
noncomputable def c120_5 (k : KR) (j1 : V → V → V → V → SK) (x7 x8 x9 x10 : V) : SK := jn (c120_1 j1) fun j2 => tIa (z120 4 0 10 [(6,x8),(8,x10)]) x8 x10 n3 fun x16 => tLs L3 x16 fun x17 => tAl 225 3 Z13 fun x18 => tSs M3 (y120 4 3 [(5,x18),(11,x17)]) x18 x17 (jn (c120_4 k j2) fun j5 => tFa x18 n0 fun x47 => tL x47 fun x48 => tB neqD (z120 5 2 14 [(13,x48)]) x48 q27 fun x49 => tJ x49 (j2 x7 x8 x9 x10) (j5 x7 x18 x8 x9 x10))
noncomputable def c120_6 (k : KR) (j0 : SK) (j1 : V → V → V → V → SK) (x2 x3 x4 x5 : V) : SK := tB lssD (z120 3 0 9 [(8,x5),(7,x4)]) x5 x4 fun x6 => jn (c120_5 k j1) fun j6 => tJ x6 (j6 x2 x3 x4 x5) (j0)
noncomputable def c120_7 (k : KR) (x0 : V) : SK := jn (c120_0 k) fun j0 => tLl (z120 2 1 7 [(6,x0)]) x0 fun x1 => lp (fun _ _ _ _ => badK) (c120_6 k j0) 1000000 q1 x0 x1 q1
noncomputable def F120 : FF := fT [0] c120_7 (fb 120)
noncomputable def z123 (r i d : Nat) (l : LE) : (V → SK) → SK := zS 22 (S 123 r i) d l
noncomputable def y123 (r i : Nat) (l : LE) : SK → SK := zN 22 (S 123 r i) l
noncomputable def c123_0 (k : KR) : SK := rA q30 k
noncomputable def c123_1 (j1 : V → V → V → V → SK) (x17 x18 x19 x20 : V) : SK := tB addD (z123 8 0 21 [(12,x20)]) x20 q3 fun x21 => j1 x17 x18 x19 x21
noncomputable def c123_2 (k : KR) (j1 : V → V → V → V → SK) (x13 x14 x15 x16 : V) : SK := jn (c123_1 j1) fun j2 => tIa (z123 5 0 14 [(10,x14),(12,x16)]) x14 x16 n5 fun x22 => tLs L5 x22 fun x23 => tAl 100 5 Z5 fun x24 => tSs M5 (y123 5 3 [(6,x24),(15,x23)]) x24 x23 (tLs L5 x24 fun x25 => tB subD (z123 6 2 18 [(17,x13)]) x13 q3 fun x26 => tC [x25,x26] n123 fun x27 => tNot x27 fun x28 => tJ x28 (rA q0 k) (j2 x13 x14 x15 x16))
noncomputable def c123_3 (k : KR) (j0 : SK) (j1 : V → V → V → V → SK) (x8 x9 x10 x11 : V) : SK := tB lssD (z123 4 0 13 [(12,x11),(11,x10)]) x11 x10 fun x12 => jn (c123_2 k j1) fun j3 => tJ x12 (j3 x8 x9 x10 x11) (j0)
noncomputable def c123_4 (k : KR) (x3 x4 : V) : SK := jn (c123_0 k) fun j0 => tFa x4 n4 fun x5 => tL x5 fun x6 => tLl (z123 3 2 11 [(10,x6)]) x6 fun x7 => lp (fun _ _ _ _ => badK) (c123_3 k j0) 1000000 x3 x6 x7 q1
noncomputable def c123_5 (k : KR) (x0 x1 : V) : SK := tBx x0 fun x2 => jn (c123_4 k) fun j4 => tB lssD (z123 1 1 8 [(7,x1)]) x1 q3 fun x29 => tJ x29 (rA q0 k) (j4 x1 x2)
noncomputable def F123 : FF := fT [0,1] c123_5 (fb 123)
noncomputable def z124 (r i d : Nat) (l : LE) : (V → SK) → SK := zS 30 (S 124 r i) d l
noncomputable def y124 (r i : Nat) (l : LE) : SK → SK := zN 30 (S 124 r i) l
noncomputable def c124_0 (k : KR) (x3 : V) : SK := tA (xcC (.int .i64 0) (xcC (.str 0 0) (xcC (.int .i64 0) xcN))) (z124 3 0 29 []) fun x4 => tSs M3 (y124 3 1 [(4,x3),(29,x4)]) x3 x4 (lvT (rZ 30 (RS 124) [(4,x3)]) k)
noncomputable def c124_1 (k : KR) (j0 : V → SK) (x0 x1 x2 x8 x12 : V) : SK := tB lssD (z124 1 11 16 [(10,x8),(15,x12)]) x8 x12 fun x13 => tJ x13 (tN (z124 2 1 18 [(17,x0)]) x0 fun x14 => tFa x14 n0 fun x15 => tL x15 fun x16 => tN (z124 2 5 22 [(21,x0)]) x0 fun x17 => tFa x17 n1 fun x18 => tL x18 fun x19 => tB addD (z124 2 9 26 [(24,x19),(25,x1)]) x19 x1 fun x20 => tIa (z124 2 10 27 [(20,x16),(26,x20)]) x16 x20 n3 fun x21 => tLs L3 x21 fun x22 => tSs M3 (y124 2 12 [(4,x2),(28,x22)]) x2 x22 (lvT (rZ 30 (RS 124) [(4,x2)]) k)) (j0 x2)
noncomputable def c124_2 (k : KR) (x0 x1 : V) : SK := tAl 225 3 Z13 fun x2 => jn (c124_0 k) fun j0 => tN (z124 1 1 6 [(5,x0)]) x0 fun x5 => tFa x5 n1 fun x6 => tL x6 fun x7 => tB addD (z124 1 5 10 [(8,x7),(9,x1)]) x7 x1 fun x8 => tN (z124 1 7 12 [(11,x0)]) x0 fun x9 => tFa x9 n0 fun x10 => tL x10 fun x11 => tLl (z124 1 10 15 [(14,x11)]) x11 fun x12 => c124_1 k j0 x0 x1 x2 x8 x12
noncomputable def F124 : FF := fT [0,1] c124_2 (fb 124)
noncomputable def z125 (r i d : Nat) (l : LE) : (V → SK) → SK := zS 25 (S 125 r i) d l
noncomputable def y125 (r i : Nat) (l : LE) : SK → SK := zN 25 (S 125 r i) l
noncomputable def zb125 (r i d : Nat) (l : LE) : (V → SK) → SK := zS 25 (Sb 125 r i) d l
noncomputable def c125_0 (k : KR) (x7 : V) (x15 : V) : SK := tK x7 x15 q0 fun x16 => rA x16 k
noncomputable def c125_1 (k : KR) (x7 x11 : V) (x14 : V) : SK := tG1 (c125_0 k x7) x7 fun r => tK x11 q30 x14 r
noncomputable def c125_2 (k : KR) (x7 x11 : V) (x13 : V) : SK := tG0 (c125_1 k x7 x11) x11 fun r => tB eqlD (zb125 2 11 22 [(21,x13)]) x13 q27 r
noncomputable def c125_3 (k : KR) (x7 x11 : V) (x12 : V) : SK := tG0 (c125_2 k x7 x11) x11 fun r => tL x12 r
noncomputable def c125_4 (k : KR) (x4 x7 : V) (x11 : V) : SK := tG0 (c125_3 k x7 x11) x11 fun r => tFa x4 n0 r
noncomputable def c125_5 (k : KR) (x4 x7 : V) (x10 : V) : SK := tG1 (c125_4 k x4 x7) x7 fun r => r x10
noncomputable def c125_6 (k : KR) (x4 x7 : V) (x9 : V) : SK := tG1 (c125_5 k x4 x7) x7 fun r => tB eqlD (zb125 2 7 18 [(17,x9)]) x9 q31 r
noncomputable def c125_7 (k : KR) (x4 x7 : V) (x8 : V) : SK := tG1 (c125_6 k x4 x7) x7 fun r => tL x8 r
noncomputable def c125_8 (k : KR) (x0 x1 x2 : V) : SK := tC [x0,x1] n124 fun x3 => tAl 225 3 Z13 fun x4 => tSs M3 (y125 1 4 [(7,x4),(10,x3)]) x4 x3 (tFa x4 n1 fun x5 => tL x5 fun x6 => tT eqlTD (z125 2 3 14 [(12,x6),(13,x2)]) x6 x2 fun x7 => tG1 (c125_7 k x4 x7) x7 fun r => tFa x4 n0 r)
noncomputable def F125 : FF := fT [0,1,2] c125_8 (fb 125)
noncomputable def c127_0 (k : KR) (x0 x1 : V) : SK := tC [x0,x1] n131 fun x2 => tNot x2 fun x3 => tJ x3 (tC [x0] n122 fun _ => lvT (rW rwN) k) (lvT (rW rwN) k)
noncomputable def F127 : FF := fT [0,1] c127_0 (fb 127)
noncomputable def z131 (r i d : Nat) (l : LE) : (V → SK) → SK := zS 16 (S 131 r i) d l
noncomputable def y131 (r i : Nat) (l : LE) : SK → SK := zN 16 (S 131 r i) l
noncomputable def c131_0 (k : KR) (x2 : V) : SK := tN (z131 3 1 10 [(9,x2)]) x2 fun x3 => tFa x3 n1 fun x4 => tL x4 fun x5 => tB addD (z131 3 4 13 [(12,x5)]) x5 q3 fun x6 => tN (z131 3 5 14 [(9,x2)]) x2 fun x7 => tFa x7 n1 fun x8 => tS (y131 3 7 [(15,x8),(13,x6)]) x8 x6 (rA q30 k)
noncomputable def c131_1 (k : KR) (x0 x1 : V) : SK := jn (c131_0 k) fun j0 => tC [x0,q1,x1] n125 fun x9 => tNot x9 fun x10 => tJ x10 (rA q0 k) (j0 x0)
noncomputable def F131 : FF := fT [0,1] c131_1 (fb 131)
noncomputable def z133 (r i d : Nat) (l : LE) : (V → SK) → SK := zS 64 (S 133 r i) d l
noncomputable def y133 (r i : Nat) (l : LE) : SK → SK := zN 64 (S 133 r i) l
noncomputable def c133_0 (k : KR) (x21 x22 x23 x24 x28 : V) : SK := tN (z133 17 5 56 [(51,x21)]) x21 fun x29 => tFa x29 n1 fun x30 => tS (y133 17 7 [(57,x30),(55,x28)]) x30 x28 (tLs L5 x23 fun x31 => tC [x21] n133 fun x32 => zA 64 (SA 133 18 1) [(59,x31),(3,x23)] (tR (rwC x31 (rwC x32 rwN)) 5 2 10 fun x33 => tA (xcO q32 (xcC (.str 0 0) (xcC (.int .i64 0) (xcO x24 (xcO x33 xcN))))) (z133 18 5 63 [(58,x24),(62,x33)]) fun x34 => tSs M5 (y133 18 6 [(2,x22),(63,x34)]) x22 x34 (lvT (rZ 64 (RS 133) [(2,x22)]) k)))
noncomputable def c133_1 (k : KR) (x21 x22 x23 x24 : V) : SK := tN (z133 17 1 52 [(51,x21)]) x21 fun x25 => tFa x25 n1 fun x26 => tL x26 fun x27 => tB addD (z133 17 4 55 [(54,x27)]) x27 q3 fun x28 => c133_0 k x21 x22 x23 x24 x28
noncomputable def c133_2 (k : KR) (x17 x18 x19 x20 : V) : SK := jn (c133_1 k) fun j0 => tLs L5 x19 fun x35 => tC [x35] n174 fun x36 => tNot x36 fun x37 => tJ x37 (tC [x17] n122 fun _ => j0 x17 x18 x19 x20) (j0 x17 x18 x19 x20)
noncomputable def c133_3 (k : KR) (x10 x11 x12 x13 : V) : SK := tFa x13 n1 fun x14 => tL x14 fun x15 => tC [x15,q113,q119] n173 fun x16 => jn (c133_2 k) fun j1 => tB eqlD (z133 13 1 44 [(43,x16)]) x16 q1 fun x39 => tJ x39 (tLs L5 x12 fun x40 => tSs M5 (y133 14 1 [(2,x11),(45,x40)]) x11 x40 (lvT (rZ 64 (RS 133) [(2,x11)]) k)) (j1 x10 x11 x12 x16)
noncomputable def c133_4 (k : KR) (x4 x5 : V) : SK := tC [x4] n172 fun x6 => tAl 100 5 Z5 fun x7 => tSs M5 (y133 8 3 [(3,x7),(33,x6)]) x7 x6 (tC [x4,q1] n124 fun x8 => tAl 225 3 Z13 fun x9 => tSs M3 (y133 9 3 [(4,x9),(35,x8)]) x9 x8 (jn (c133_3 k) fun j2 => tFa x9 n0 fun x41 => tL x41 fun x42 => tB neqD (z133 10 2 38 [(37,x42)]) x42 q27 fun x43 => tJ x43 (tLs L5 x7 fun x44 => tSs M5 (y133 11 1 [(2,x5),(39,x44)]) x5 x44 (lvT (rZ 64 (RS 133) [(2,x5)]) k)) (j2 x4 x5 x7 x9)))
noncomputable def c133_5 (k : KR) (x46 x47 x50 : V) : SK := tB addD (z133 6 4 25 [(24,x50)]) x50 q3 fun x51 => tN (z133 6 5 26 [(21,x46)]) x46 fun x52 => tFa x52 n1 fun x53 => tS (y133 6 7 [(27,x53),(25,x51)]) x53 x51 (tC [x46] n133 fun x54 => tR (rwC x54 rwN) 5 1 5 fun x55 => tA (xcO q115 (xcC (.str 0 0) (xcC (.int .i64 0) (xcC (.int .i64 0) (xcO x55 xcN))))) (z133 7 3 31 [(30,x55)]) fun x56 => tSs M5 (y133 7 4 [(2,x47),(31,x56)]) x47 x56 (lvT (rZ 64 (RS 133) [(2,x47)]) k))
noncomputable def c133_6 (k : KR) (x46 x47 : V) : SK := tN (z133 6 1 22 [(21,x46)]) x46 fun x48 => tFa x48 n1 fun x49 => tL x49 fun x50 => c133_5 k x46 x47 x50
noncomputable def c133_7 (k : KR) (x2 x3 : V) : SK := jn (c133_4 k) fun j3 => tC [x2,q1,q183] n125 fun x45 => tJ x45 (jn (c133_6 k) fun j4 => tN (z133 4 1 14 [(13,x2)]) x2 fun x57 => tFa x57 n2 fun x58 => tFa x58 n2 fun x59 => tL x59 fun x60 => tNot x60 fun x61 => tJ x61 (tC [x2] n122 fun _ => j4 x2 x3) (j4 x2 x3)) (j3 x2 x3)
noncomputable def c133_8 (k : KR) (x0 : V) : SK := tAl 100 5 Z5 fun x1 => jn (c133_7 k) fun j5 => tC [x0] n170 fun x63 => tB gtrD (z133 1 2 8 [(7,x63)]) x63 q1 fun x64 => tJ x64 (tC [x0] n171 fun x65 => tSs M5 (y133 2 2 [(2,x1),(10,x65)]) x1 x65 (lvT (rZ 64 (RS 133) [(2,x1)]) k)) (j5 x0 x1)
noncomputable def F133 : FF := fT [0] c133_8 (fb 133)
noncomputable def z135 (r i d : Nat) (l : LE) : (V → SK) → SK := zS 9 (S 135 r i) d l
noncomputable def c135_0 (k : KR) (x0 x1 : V) : SK := tA (xcC .sl0 (xcO x0 (xcO x1 (xcC (.bool false) (xcC (.int .i64 0) xcN))))) (z135 1 2 7 [(5,x0),(6,x1)]) fun x2 => tBx x2 fun x3 => rA x3 k
noncomputable def F135 : FF := fT [0,1] c135_0 (fb 135)
noncomputable def z136 (r i d : Nat) (l : LE) : (V → SK) → SK := zS 33 (S 136 r i) d l
noncomputable def y136 (r i : Nat) (l : LE) : SK → SK := zN 33 (S 136 r i) l
noncomputable def c136_0 (j0 : V → V → V → V → V → SK) (x15 x16 x17 x18 x19 : V) : SK := tB addD (z136 8 0 32 [(12,x19)]) x19 q3 fun x20 => j0 x15 x16 x17 x18 x20
noncomputable def c136_1 (j2 : V → V → V → V → V → V → V → V → V → SK) (x47 x48 x49 x50 x51 x52 x53 x54 x55 : V) : SK := tB addD (z136 7 0 31 [(20,x55)]) x55 q3 fun x56 => j2 x47 x48 x49 x50 x51 x52 x53 x54 x56
noncomputable def c136_2 (j2 : V → V → V → V → V → V → V → V → V → SK) (x38 x39 x40 x41 x42 x43 x44 x45 x46 : V) : SK := jn (c136_1 j2) fun j3 => tIa (z136 5 0 22 [(18,x44),(20,x46)]) x44 x46 n1 fun x57 => tL x57 fun x58 => tFa x40 n0 fun x59 => tL x59 fun x60 => tB eqlD (z136 6 5 29 [(28,x60)]) x60 q77 fun x61 => tC [x38,x39,x58,x61] n177 fun _ => j3 x38 x39 x40 x41 x42 x43 x44 x45 x46
noncomputable def c136_3 (j1 : V → V → V → V → V → SK) (j2 : V → V → V → V → V → V → V → V → V → SK) (x28 x29 x30 x31 x32 x33 x34 x35 x36 : V) : SK := tB lssD (z136 4 0 21 [(20,x36),(19,x35)]) x36 x35 fun x37 => jn (c136_2 j2) fun j4 => tJ x37 (j4 x28 x29 x30 x31 x32 x33 x34 x35 x36) (j1 x28 x29 x31 x32 x33)
noncomputable def c136_4 (j0 : V → V → V → V → V → SK) (x10 x11 x12 x13 x14 : V) : SK := jn (c136_0 j0) fun j1 => tIa (z136 2 0 14 [(10,x12),(12,x14)]) x12 x14 n5 fun x21 => tLs L5 x21 fun x22 => tAl 100 5 Z5 fun x23 => tSs M5 (y136 2 3 [(7,x23),(15,x22)]) x23 x22 (tLs L5 x23 fun x24 => tR (rwC x24 rwN) 5 1 5 fun x25 => tC [x25] n176 fun x26 => tLl (z136 3 3 19 [(18,x26)]) x26 fun x27 => lp (fun _ _ _ _ _ _ _ _ _ => badK) (c136_3 j1) 1000000 x10 x11 x23 x12 x13 x14 x26 x27 q1)
noncomputable def c136_5 (k : KR) (j0 : V → V → V → V → V → SK) (x4 x5 x6 x7 x8 : V) : SK := tB lssD (z136 1 0 13 [(12,x8),(11,x7)]) x8 x7 fun x9 => jn (c136_4 j0) fun j5 => tJ x9 (j5 x4 x5 x6 x7 x8) (lvT (rW rwN) k)
noncomputable def c136_6 (k : KR) (x0 x1 x2 : V) : SK := tLl (z136 0 1 11 [(10,x2)]) x2 fun x3 => lp (fun _ _ _ _ _ => badK) (c136_5 k) 1000000 x0 x1 x2 x3 q1
noncomputable def F136 : FF := fT [0,1,2] c136_6 (fb 136)
noncomputable def z137 (r i d : Nat) (l : LE) : (V → SK) → SK := zS 35 (S 137 r i) d l
noncomputable def c137_0 (j0 : V → V → V → V → V → V → SK) (x18 x19 x20 x21 x22 x23 : V) : SK := tB addD (z137 6 0 34 [(11,x23)]) x23 q3 fun x24 => j0 x18 x19 x20 x21 x22 x24
noncomputable def c137_1 (j1 : V → V → V → V → V → V → SK) (x12 x13 x14 x15 x16 x17 : V) : SK := tIa (z137 3 2 16 [(14,x13),(15,x17)]) x13 x17 n5 fun x25 => tFa x25 n0 fun x26 => tL x26 fun x27 => tB eqlD (z137 3 5 19 [(18,x27)]) x27 q79 fun x28 => tJ x28 (tIa (z137 4 3 23 [(21,x13),(22,x17)]) x13 x17 n5 fun x29 => tC [x12,x29,x14,x15,q0] n178 fun _ => j1 x12 x13 x14 x15 x16 x17) (tIa (z137 5 3 30 [(28,x13),(29,x17)]) x13 x17 n5 fun x31 => tC [x12,x31,x14,x15] n179 fun _ => j1 x12 x13 x14 x15 x16 x17)
noncomputable def c137_2 (j0 : V → V → V → V → V → V → SK) (x12 x13 x14 x15 x16 x17 : V) : SK := jn (c137_0 j0) fun j1 => c137_1 j1 x12 x13 x14 x15 x16 x17
noncomputable def c137_3 (k : KR) (j0 : V → V → V → V → V → V → SK) (x5 x6 x7 x8 x9 x10 : V) : SK := tB lssD (z137 1 0 12 [(11,x10),(10,x9)]) x10 x9 fun x11 => jn (c137_2 j0) fun j2 => tJ x11 (j2 x5 x6 x7 x8 x9 x10) (lvT (rW rwN) k)
noncomputable def c137_4 (k : KR) (x0 x1 x2 x3 : V) : SK := tLl (z137 0 1 10 [(9,x1)]) x1 fun x4 => lp (fun _ _ _ _ _ _ => badK) (c137_3 k) 1000000 x0 x1 x2 x3 x4 q1
noncomputable def F137 : FF := fT [0,1,2,3] c137_4 (fb 137)
noncomputable def z138 (r i d : Nat) (l : LE) : (V → SK) → SK := zS 18 (S 138 r i) d l
noncomputable def y138 (r i : Nat) (l : LE) : SK → SK := zN 18 (S 138 r i) l
noncomputable def c138_0 (k : KR) (x0 : V) : SK := tN (z138 1 1 4 [(3,x0)]) x0 fun x1 => tFa x1 n1 fun x2 => tFa x2 n3 fun x3 => tL x3 fun x4 => tB addD (z138 1 5 8 [(7,x4)]) x4 q3 fun x5 => tN (z138 1 6 9 [(3,x0)]) x0 fun x6 => tFa x6 n1 fun x7 => tFa x7 n3 fun x8 => tS (y138 1 9 [(11,x8),(8,x5)]) x8 x5 (tN (z138 2 1 13 [(12,x0)]) x0 fun x9 => tFa x9 n1 fun x10 => tFa x10 n3 fun x11 => tL x11 fun x12 => tB subD (z138 2 5 17 [(16,x12)]) x12 q3 fun x13 => rA x13 k)
noncomputable def F138 : FF := fT [0] c138_0 (fb 138)
noncomputable def z139 (r i d : Nat) (l : LE) : (V → SK) → SK := zS 43 (S 139 r i) d l
noncomputable def y139 (r i : Nat) (l : LE) : SK → SK := zN 43 (S 139 r i) l
noncomputable def c139_0 (k : KR) (x8 x13 x14 : V) : SK := tR (rwC x14 rwN) 3 1 3 fun x15 => tAp Tryz.prog 95 false 3 x13 x15 fun x16 => tN (z139 6 9 33 [(24,x8)]) x8 fun x17 => tFa x17 n1 fun x18 => tFa x18 n4 fun x19 => tS (y139 6 12 [(35,x19),(32,x16)]) x19 x16 (tN (z139 7 1 37 [(36,x8)]) x8 fun x20 => tFa x20 n1 fun x21 => tFa x21 n4 fun x22 => tL x22 fun x23 => tLl (z139 7 5 41 [(40,x23)]) x23 fun x24 => tB subD (z139 7 6 42 [(41,x24)]) x24 q3 fun x25 => rA x25 k)
noncomputable def c139_1 (k : KR) (x8 x9 : V) : SK := tN (z139 6 2 26 [(25,x8)]) x8 fun x10 => tFa x10 n1 fun x11 => tFa x11 n4 fun x12 => tL x12 fun x13 => tLs L3 x9 fun x14 => c139_0 k x8 x13 x14
noncomputable def c139_2 (k : KR) (x5 x6 x7 : V) : SK := jn (c139_1 k) fun j0 => tLl (z139 4 1 18 [(17,x6)]) x6 fun x26 => tB gtrD (z139 4 2 19 [(18,x26)]) x26 q3 fun x27 => tJ x27 (tIa (z139 5 1 21 [(20,x6)]) x6 q3 n1 fun x28 => tL x28 fun x29 => tFa x7 n2 fun x30 => tS (y139 5 4 [(23,x30),(22,x29)]) x30 x29 (j0 x5 x7)) (j0 x5 x7)
noncomputable def c139_3 (k : KR) (x0 x1 x2 : V) : SK := tA (xcO x1 (xcC (.int .i64 0) (xcC (.int .i64 0) xcN))) (z139 1 1 9 [(8,x1)]) fun x3 => tAl 96 3 Z18 fun x4 => tSs M3 (y139 1 3 [(7,x4),(9,x3)]) x4 x3 (jn (c139_2 k) fun j1 => tLl (z139 2 1 11 [(10,x2)]) x2 fun x31 => tB gtrD (z139 2 2 12 [(11,x31)]) x31 q1 fun x32 => tJ x32 (tIa (z139 3 1 14 [(13,x2)]) x2 q1 n1 fun x33 => tL x33 fun x34 => tFa x4 n1 fun x35 => tS (y139 3 4 [(16,x35),(15,x34)]) x35 x34 (j1 x0 x2 x4)) (j1 x0 x2 x4))
noncomputable def F139 : FF := fT [0,1,2] c139_3 (fb 139)
noncomputable def z140 (r i d : Nat) (l : LE) : (V → SK) → SK := zS 32 (S 140 r i) d l
noncomputable def c140_0 (j0 : V → V → V → V → V → SK) (x15 x16 x17 x18 x19 : V) : SK := tB addD (z140 7 0 31 [(10,x19)]) x19 q3 fun x20 => j0 x15 x16 x17 x18 x20
noncomputable def c140_1 (j0 : V → V → V → V → V → SK) (x10 x11 x12 x13 x14 : V) : SK := jn (c140_0 j0) fun j1 => tIa (z140 3 2 15 [(13,x11),(14,x14)]) x11 x14 n5 fun x21 => tN (z140 4 1 17 [(16,x21)]) x21 fun x22 => tFa x22 n0 fun x23 => tL x23 fun x24 => tB eqlD (z140 4 4 20 [(19,x24)]) x24 q79 fun x25 => tJ x25 (tC [x10,x21] n180 fun _ => tN (z140 6 3 27 [(26,x21)]) x21 fun x27 => tFa x27 n1 fun x28 => tL x28 fun x29 => tC [x10,x12,x29] n181 fun _ => j1 x10 x11 x12 x13 x14) (j1 x10 x11 x12 x13 x14)
noncomputable def c140_2 (k : KR) (j0 : V → V → V → V → V → SK) (x4 x5 x6 x7 x8 : V) : SK := tB lssD (z140 1 0 11 [(10,x8),(9,x7)]) x8 x7 fun x9 => jn (c140_1 j0) fun j2 => tJ x9 (j2 x4 x5 x6 x7 x8) (lvT (rW rwN) k)
noncomputable def c140_3 (k : KR) (x0 x1 x2 : V) : SK := tLl (z140 0 1 9 [(8,x1)]) x1 fun x3 => lp (fun _ _ _ _ _ => badK) (c140_2 k) 1000000 x0 x1 x2 x3 q1
noncomputable def F140 : FF := fT [0,1,2] c140_3 (fb 140)
noncomputable def z141 (r i d : Nat) (l : LE) : (V → SK) → SK := zS 177 (S 141 r i) d l
noncomputable def c141_0 (j0 : V → V → V → V → SK) (x44 x45 x46 x47 : V) : SK := tB addD (z141 24 0 81 [(68,x47)]) x47 q3 fun x48 => j0 x44 x45 x46 x48
noncomputable def c141_1 (j0 : V → V → V → V → SK) (x40 x41 x42 x43 : V) : SK := jn (c141_0 j0) fun j1 => tN (z141 22 2 73 [(72,x41)]) x41 fun x49 => tFa x49 n4 fun x50 => tL x50 fun x51 => tIa (z141 22 6 77 [(75,x51),(76,x43)]) x51 x43 n5 fun x52 => tC [x40,x52] n141 fun _ => tC [x40,q127,q70] n139 fun _ => j1 x40 x41 x42 x43
noncomputable def c141_2 (k : KR) (j0 : V → V → V → V → SK) (x35 x36 x37 x38 : V) : SK := tB lssD (z141 20 0 69 [(68,x38),(67,x37)]) x38 x37 fun x39 => jn (c141_1 j0) fun j2 => tJ x39 (j2 x35 x36 x37 x38) (lvT (rW rwN) k)
noncomputable def c141_3 (k : KR) (x0 x1 x77 x80 : V) : SK := tB subD (z141 36 6 127 [(126,x80)]) x80 q78 fun x81 => tIa (z141 36 7 128 [(122,x77),(127,x81)]) x77 x81 n1 fun x82 => tL x82 fun x83 => tC [x0,x83,q70] n139 fun x84 => tN (z141 37 2 133 [(132,x1)]) x1 fun x85 => tFa x85 n4 fun x86 => tL x86 fun x87 => tIa (z141 37 5 136 [(135,x87)]) x87 q3 n5 fun x88 => tC [x0,x88] n141 fun _ => tR (rwC x84 rwN) 1 1 1 fun x90 => tC [x0,x90] n188 fun _ => lvT (rW rwN) k
noncomputable def c141_4 (k : KR) (x0 x1 x98 x101 : V) : SK := tIa (z141 42 5 158 [(157,x101)]) x101 q3 n5 fun x102 => tC [x0,x102] n141 fun _ => tC [x0,q85,q70] n139 fun x104 => tR (rwC x98 rwN) 1 1 1 fun x105 => tC [x0,x105] n188 fun _ => tN (z141 45 2 168 [(167,x1)]) x1 fun x107 => tFa x107 n4 fun x108 => tL x108 fun x109 => tIa (z141 45 5 171 [(170,x109)]) x109 q31 n5 fun x110 => tC [x0,x110] n141 fun _ => tR (rwC x104 rwN) 1 1 1 fun x112 => tC [x0,x112] n188 fun _ => lvT (rW rwN) k
noncomputable def c141_5 (k : KR) (x0 x1 x4 : V) : SK := tB eqlD (z141 39 0 143 [(11,x4)]) x4 q100 fun x92 => tJ x92 (tN (z141 40 2 146 [(145,x1)]) x1 fun x93 => tFa x93 n4 fun x94 => tL x94 fun x95 => tIa (z141 40 5 149 [(148,x95)]) x95 q1 n5 fun x96 => tC [x0,x96] n141 fun _ => tC [x0,q84,q70] n139 fun x98 => tN (z141 42 2 155 [(154,x1)]) x1 fun x99 => tFa x99 n4 fun x100 => tL x100 fun x101 => c141_4 k x0 x1 x98 x101) (tC [x0,x1] n189 fun _ => lvT (rW rwN) k)
noncomputable def c141_6 (k : KR) (x0 x1 x4 : V) : SK := tB eqlD (z141 34 0 113 [(11,x4)]) x4 q101 fun x71 => tJ x71 (tN (z141 35 2 116 [(115,x1)]) x1 fun x72 => tFa x72 n4 fun x73 => tL x73 fun x74 => tIa (z141 35 5 119 [(118,x74)]) x74 q1 n5 fun x75 => tC [x0,x75] n141 fun _ => tR (rwC q82 (rwC q81 (rwC q80 rwN))) 1 3 3 fun x77 => tN (z141 36 3 124 [(123,x1)]) x1 fun x78 => tFa x78 n3 fun x79 => tL x79 fun x80 => c141_3 k x0 x1 x77 x80) (c141_5 k x0 x1 x4)
noncomputable def c141_7 (k : KR) (x0 x1 x4 x59 : V) : SK := tJ x59 (tC [x0,x1] n186 fun _ => lvT (rW rwN) k) (tB eqlD (z141 31 0 98 [(11,x4)]) x4 q97 fun x61 => tJ x61 (tN (z141 32 2 101 [(100,x1)]) x1 fun x62 => tFa x62 n4 fun x63 => tL x63 fun x64 => tC [x0,x64] n187 fun _ => tN (z141 33 2 107 [(106,x1)]) x1 fun x66 => tFa x66 n3 fun x67 => tL x67 fun x68 => tR (rwC x68 rwN) 1 1 1 fun x69 => tC [x0,q124,x69] n139 fun _ => lvT (rW rwN) k) (c141_6 k x0 x1 x4))
noncomputable def c141_8 (k : KR) (x0 x1 x4 x29 : V) : SK := tJ x29 (tC [x0,q130,q70] n139 fun _ => tN (z141 19 1 64 [(63,x1)]) x1 fun x31 => tFa x31 n4 fun x32 => tL x32 fun x33 => tLl (z141 19 4 67 [(66,x33)]) x33 fun x34 => lp (fun _ _ _ _ => badK) (c141_2 k) 1000000 x0 x1 x34 q1) (tB eqlD (z141 25 0 83 [(11,x4)]) x4 q64 fun x55 => tJ x55 (tC [x0,x1] n185 fun _ => lvT (rW rwN) k) (tB eqlD (z141 27 0 88 [(11,x4)]) x4 q79 fun x57 => tJ x57 (tC [x0,x1] n180 fun _ => lvT (rW rwN) k) (tB eqlD (z141 29 0 93 [(11,x4)]) x4 q69 fun x59 => c141_7 k x0 x1 x4 x59)))
noncomputable def c141_9 (k : KR) (x0 x1 x4 : V) : SK := tB eqlD (z141 13 0 44 [(11,x4)]) x4 q72 fun x20 => tJ x20 (tN (z141 14 3 48 [(47,x1)]) x1 fun x21 => tFa x21 n1 fun x22 => tL x22 fun x23 => tC [x0,x23] n183 fun x24 => tR (rwC x24 rwN) 1 1 1 fun x25 => tC [x0,q3,x25] n139 fun _ => lvT (rW rwN) k) (tB eqlD (z141 15 0 55 [(11,x4)]) x4 q94 fun x27 => tJ x27 (tC [x0,x1] n184 fun _ => lvT (rW rwN) k) (tB eqlD (z141 17 0 60 [(11,x4)]) x4 q60 fun x29 => c141_8 k x0 x1 x4 x29))
noncomputable def c141_10 (k : KR) (x0 x1 x4 : V) : SK := tB eqlD (z141 7 0 28 [(11,x4)]) x4 q37 fun x11 => tJ x11 (tC [x0,q27,q70] n139 fun _ => lvT (rW rwN) k) (tB eqlD (z141 9 0 32 [(11,x4)]) x4 q43 fun x13 => tJ x13 (tC [x0,q72,q70] n139 fun _ => lvT (rW rwN) k) (tB eqlD (z141 11 0 36 [(11,x4)]) x4 q27 fun x15 => tJ x15 (tN (z141 12 2 39 [(38,x1)]) x1 fun x16 => tFa x16 n2 fun x17 => tL x17 fun x18 => tC [x0,x18] n182 fun _ => lvT (rW rwN) k) (c141_9 k x0 x1 x4)))
noncomputable def c141_11 (k : KR) (x0 x1 : V) : SK := tN (z141 0 1 9 [(8,x1)]) x1 fun x2 => tFa x2 n0 fun x3 => tL x3 fun x4 => tB eqlD (z141 1 0 16 [(11,x4)]) x4 q3 fun x5 => tJ x5 (tC [x0,q31,q70] n139 fun _ => lvT (rW rwN) k) (tB eqlD (z141 3 0 20 [(11,x4)]) x4 q31 fun x7 => tJ x7 (tC [x0,q5,q70] n139 fun _ => lvT (rW rwN) k) (tB eqlD (z141 5 0 24 [(11,x4)]) x4 q5 fun x9 => tJ x9 (tC [x0,q37,q70] n139 fun _ => lvT (rW rwN) k) (c141_10 k x0 x1 x4)))
noncomputable def F141 : FF := fT [0,1] c141_11 (fb 141)
noncomputable def z144 (r i d : Nat) (l : LE) : (V → SK) → SK := zS 40 (S 144 r i) d l
noncomputable def zb144 (r i d : Nat) (l : LE) : (V → SK) → SK := zS 40 (Sb 144 r i) d l
noncomputable def c144_0 (k : KR) (x6 x7 : V) : SK := tN (z144 4 1 35 [(34,x6)]) x6 fun x8 => tFa x8 n2 fun x9 => tL x9 fun x10 => tIa (z144 4 5 39 [(37,x10),(38,x7)]) x10 x7 n11 fun x11 => rA x11 k
noncomputable def c144_1 (k : KR) (j0 : V → V → SK) (x0 x5 x20 : V) (x29 : V) : SK := tK x20 q30 x29 fun x30 => tJ x30 (rA q68 k) (j0 x0 x5)
noncomputable def c144_2 (k : KR) (j0 : V → V → SK) (x0 x5 x20 : V) (x28 : V) : SK := tG0 (c144_1 k j0 x0 x5 x20) x20 fun r => tNot x28 r
noncomputable def c144_3 (k : KR) (j0 : V → V → SK) (x0 x5 x20 : V) (x27 : V) : SK := tG0 (c144_2 k j0 x0 x5 x20) x20 fun r => tL x27 r
noncomputable def c144_4 (k : KR) (j0 : V → V → SK) (x0 x5 x20 : V) (x26 : V) : SK := tG0 (c144_3 k j0 x0 x5 x20) x20 fun r => tFa x26 n0 r
noncomputable def c144_5 (k : KR) (j0 : V → V → SK) (x0 x5 x20 x24 : V) (x25 : V) : SK := tG0 (c144_4 k j0 x0 x5 x20) x20 fun r => tIa (zb144 2 17 29 [(27,x24),(28,x25)]) x24 x25 n11 r
noncomputable def c144_6 (k : KR) (j0 : V → V → SK) (x0 x5 x20 : V) (x24 : V) : SK := tG0 (c144_5 k j0 x0 x5 x20 x24) x20 fun r => r x5
noncomputable def c144_7 (k : KR) (j0 : V → V → SK) (x0 x5 x20 : V) (x23 : V) : SK := tG0 (c144_6 k j0 x0 x5 x20) x20 fun r => tL x23 r
noncomputable def c144_8 (k : KR) (j0 : V → V → SK) (x0 x5 x20 : V) (x22 : V) : SK := tG0 (c144_7 k j0 x0 x5 x20) x20 fun r => tFa x22 n2 r
noncomputable def c144_9 (k : KR) (j0 : V → V → SK) (x0 x5 x20 : V) (x21 : V) : SK := tG0 (c144_8 k j0 x0 x5 x20) x20 fun r => tN (zb144 2 13 25 [(24,x21)]) x21 r
noncomputable def c144_10 (k : KR) (j0 : V → V → SK) (x0 x5 x12 : V) (x19 : V) : SK := tK x12 q30 x19 fun x20 => tG0 (c144_9 k j0 x0 x5 x20) x20 fun r => r x0
noncomputable def c144_11 (k : KR) (j0 : V → V → SK) (x0 x5 x12 x13 : V) (x18 : V) : SK := tG0 (c144_10 k j0 x0 x5 x12) x12 fun r => tB geqD (zb144 2 9 21 [(15,x13),(20,x18)]) x13 x18 r
noncomputable def c144_12 (k : KR) (j0 : V → V → SK) (x0 x5 x12 x13 : V) (x17 : V) : SK := tG0 (c144_11 k j0 x0 x5 x12 x13) x12 fun r => tLl (zb144 2 8 20 [(19,x17)]) x17 r
noncomputable def c144_13 (k : KR) (j0 : V → V → SK) (x0 x5 x12 x13 : V) (x16 : V) : SK := tG0 (c144_12 k j0 x0 x5 x12 x13) x12 fun r => tL x16 r
noncomputable def c144_14 (k : KR) (j0 : V → V → SK) (x0 x5 x12 x13 : V) (x15 : V) : SK := tG0 (c144_13 k j0 x0 x5 x12 x13) x12 fun r => tFa x15 n2 r
noncomputable def c144_15 (k : KR) (j0 : V → V → SK) (x0 x5 x12 x13 : V) (x14 : V) : SK := tG0 (c144_14 k j0 x0 x5 x12 x13) x12 fun r => tN (zb144 2 5 17 [(16,x14)]) x14 r
noncomputable def c144_16 (k : KR) (j0 : V → V → SK) (x0 x5 x12 : V) (x13 : V) : SK := tG0 (c144_15 k j0 x0 x5 x12 x13) x12 fun r => r x0
noncomputable def c144_17 (k : KR) (x0 x1 : V) : SK := tN (z144 1 1 7 [(6,x0)]) x0 fun x2 => tFa x2 n0 fun x3 => tLs L2 x3 fun x4 => tC [x4,x1] n203 fun x5 => jn (c144_0 k) fun j0 => tB lssD (z144 2 1 13 [(12,x5)]) x5 q1 fun x12 => tG0 (c144_16 k j0 x0 x5 x12) x12 fun r => r x5
noncomputable def F144 : FF := fT [0,1] c144_17 (fb 144)
noncomputable def z147 (r i d : Nat) (l : LE) : (V → SK) → SK := zS 19 (S 147 r i) d l
noncomputable def c147_0 (k : KR) : SK := rA q143 k
noncomputable def c147_1 (j1 : V → V → V → V → SK) (x12 x13 x14 x15 : V) : SK := tB addD (z147 6 0 18 [(8,x15)]) x15 q3 fun x16 => j1 x12 x13 x14 x16
noncomputable def c147_2 (k : KR) (j1 : V → V → V → V → SK) (x8 x9 x10 x11 : V) : SK := jn (c147_1 j1) fun j2 => tIa (z147 4 3 14 [(12,x8),(13,x11)]) x8 x11 n5 fun x17 => tLs L5 x17 fun x18 => (z147 4 5 16 [(11,x9),(15,x18)]) fun x19 => tJ x19 (rA x11 k) (j2 x8 x9 x10 x11)
noncomputable def c147_3 (k : KR) (j0 : SK) (j1 : V → V → V → V → SK) (x3 x4 x5 x6 : V) : SK := tB lssD (z147 2 0 9 [(8,x6),(7,x5)]) x6 x5 fun x7 => jn (c147_2 k j1) fun j3 => tJ x7 (j3 x3 x4 x5 x6) (j0)
noncomputable def c147_4 (k : KR) (x0 x1 : V) : SK := jn (c147_0 k) fun j0 => tLl (z147 1 1 7 [(6,x0)]) x0 fun x2 => lp (fun _ _ _ _ => badK) (c147_3 k j0) 1000000 x0 x1 x2 q1
noncomputable def F147 : FF := fT [0,1] c147_4 (fb 147)
noncomputable def z148 (r i d : Nat) (l : LE) : (V → SK) → SK := zS 8 (S 148 r i) d l
noncomputable def c148_0 (k : KR) (x0 x1 : V) : SK := tBx x0 fun x2 => tFa x2 n0 fun x3 => tL x3 fun x4 => tL x1 fun x5 => tT eqlTD (z148 1 3 7 [(5,x4),(6,x5)]) x4 x5 fun x6 => rA x6 k
noncomputable def F148 : FF := fT [0,1] c148_0 (fb 148)
noncomputable def z153 (r i d : Nat) (l : LE) : (V → SK) → SK := zS 6 (S 153 r i) d l
noncomputable def c153_0 (k : KR) (x0 x1 : V) : SK := tBx x0 fun x2 => tBx x1 fun x3 => (z153 1 0 5 [(2,x2),(3,x3)]) fun x4 => rA x4 k
noncomputable def F153 : FF := fT [0,1] c153_0 (fb 153)
noncomputable def z160 (r i d : Nat) (l : LE) : (V → SK) → SK := zS 44 (S 160 r i) d l
noncomputable def y160 (r i : Nat) (l : LE) : SK → SK := zN 44 (S 160 r i) l
noncomputable def c160_0 (j0 : V → V → V → SK) (x25 x26 x27 : V) : SK := j0 x25 x26 x27
noncomputable def c160_1 (k : KR) (j0 : V → V → V → SK) (x21 x22 x23 x24 : V) : SK := jn (c160_0 j0) fun j1 => tLs L3 x23 fun x28 => (z160 12 2 41 [(39,x22),(40,x28)]) fun x29 => tNot x29 fun x30 => tJ x30 (lvT (rW (rwC q1 (rwC q1 rwN))) k) (j1 x21 x22 x24)
noncomputable def c160_2 (k : KR) (j0 : V → V → V → SK) (x13 x14 x15 : V) : SK := tC [x13,x15] n209 fun x16 => tX x16 n0 fun x17 => tX x16 n1 fun x18 => tX x16 n2 fun x19 => tAl 225 3 Z13 fun x20 => tSs M3 (y160 9 8 [(9,x20),(32,x17)]) x20 x17 (jn (c160_1 k j0) fun j2 => tB neqD (z160 10 1 36 [(35,x19)]) x19 q1 fun x31 => tJ x31 (lvT (rW (rwC x15 (rwC x19 rwN))) k) (j2 x13 x14 x20 x18))
noncomputable def c160_3 (k : KR) (j0 : V → V → V → SK) (x10 x11 x12 : V) : SK := jn (c160_2 k j0) fun j3 => tLt (z160 7 2 26 [(25,x10)]) x10 fun x32 => tB eqlD (z160 7 3 27 [(24,x12),(26,x32)]) x12 x32 fun x33 => tJ x33 (lvT (rW (rwC q1 (rwC q1 rwN))) k) (j3 x10 x11 x12)
noncomputable def c160_4 (k : KR) (j0 : V → V → V → SK) (x4 x5 x6 : V) : SK := tC [x4,x6] n208 fun x7 => tX x7 n0 fun x8 => tX x7 n1 fun x9 => jn (c160_3 k j0) fun j4 => tNot x9 fun x34 => tJ x34 (lvT (rW (rwC x8 (rwC q37 rwN))) k) (j4 x4 x5 x8)
noncomputable def c160_5 (k : KR) (x2 x3 : V) : SK := lp (fun _ _ _ => badK) (c160_4 k) 1000000 x2 x3 q1
noncomputable def c160_6 (k : KR) (x0 x1 : V) : SK := jn (c160_5 k) fun j5 => tLt (z160 1 1 13 [(12,x0)]) x0 fun x35 => tB gtrD (z160 1 2 14 [(13,x35)]) x35 q144 fun x36 => tJ x36 (lvT (rW (rwC q144 (rwC q27 rwN))) k) (j5 x0 x1)
noncomputable def F160 : FF := fT [0,1] c160_6 (fb 160)
noncomputable def y161 (r i : Nat) (l : LE) : SK → SK := zN 8 (S 161 r i) l
noncomputable def c161_0 (k : KR) (x0 x1 : V) : SK := tBx x0 fun x2 => tL x1 fun x3 => tLs L3 x2 fun x4 => tR (rwC x4 rwN) 3 1 3 fun x5 => tAp Tryz.prog 224 false 3 x3 x5 fun x6 => tS (y161 1 4 [(1,x1),(7,x6)]) x1 x6 (rA q30 k)
noncomputable def F161 : FF := fT [0,1] c161_0 (fb 161)
noncomputable def z172 (r i d : Nat) (l : LE) : (V → SK) → SK := zS 21 (S 172 r i) d l
noncomputable def y172 (r i : Nat) (l : LE) : SK → SK := zN 21 (S 172 r i) l
noncomputable def c172_0 (k : KR) (x4 x5 x6 x8 : V) : SK := tC [x4,q200] n127 fun _ => tLs L5 x6 fun x10 => tLs L5 x8 fun x11 => tC [x4] n133 fun x12 => zA 21 (SA 172 6 0) [(15,x10),(3,x6)] (zA 21 (SA 172 6 1) [(16,x11),(4,x8)] (tR (rwC x10 (rwC x11 (rwC x12 rwN))) 5 3 15 fun x13 => tA (xcO q100 (xcC (.str 0 0) (xcC (.int .i64 0) (xcC (.int .i64 0) (xcO x13 xcN))))) (z172 6 5 20 [(19,x13)]) fun x14 => tSs M5 (y172 6 6 [(2,x5),(20,x14)]) x5 x14 (lvT (rZ 21 (RS 172) [(2,x5)]) k)))
noncomputable def c172_1 (k : KR) (x4 x5 x6 : V) : SK := tC [x4] n133 fun x7 => tAl 100 5 Z5 fun x8 => tSs M5 (y172 4 3 [(4,x8),(12,x7)]) x8 x7 (c172_0 k x4 x5 x6 x8)
noncomputable def c172_2 (k : KR) (x0 : V) : SK := tAl 100 5 Z5 fun x1 => tC [x0,q1] n211 fun x2 => tAl 100 5 Z5 fun x3 => tSs M5 (y172 1 3 [(3,x3),(6,x2)]) x3 x2 (jn (c172_1 k) fun j0 => tC [x0,q201] n131 fun x15 => tNot x15 fun x16 => tJ x16 (tLs L5 x3 fun x17 => tSs M5 (y172 3 1 [(2,x1),(10,x17)]) x1 x17 (lvT (rZ 21 (RS 172) [(2,x1)]) k)) (j0 x0 x1 x3))
noncomputable def F172 : FF := fT [0] c172_2 (fb 172)
noncomputable def z173 (r i d : Nat) (l : LE) : (V → SK) → SK := zS 19 (S 173 r i) d l
noncomputable def c173_0 (k : KR) : SK := rA q1 k
noncomputable def c173_1 (j1 : V → V → V → SK) (x9 x10 x11 : V) : SK := tB addD (z173 5 1 13 [(12,x11)]) x11 q3 fun x12 => j1 x9 x10 x12
noncomputable def c173_2 (k : KR) (j1 : V → V → V → SK) (x6 x7 x8 : V) : SK := jn (c173_1 j1) fun j2 => tC [x8] n212 fun x13 => tT eqlTD (z173 3 3 17 [(15,x13),(16,x6)]) x13 x6 fun x14 => tJ x14 (rA x8 k) (j2 x6 x7 x8)
noncomputable def c173_3 (k : KR) (j0 : SK) (j1 : V → V → V → SK) (x3 x4 x5 : V) : SK := jn (c173_2 k j1) fun j3 => tB leqD (z173 2 2 11 [(9,x5),(10,x4)]) x5 x4 fun x15 => tJ x15 (j3 x3 x4 x5) (j0)
noncomputable def c173_4 (k : KR) (x0 x1 x2 : V) : SK := jn (c173_0 k) fun j0 => lp (fun _ _ _ => badK) (c173_3 k j0) 1000000 x0 x2 x1
noncomputable def F173 : FF := fT [0,1,2] c173_4 (fb 173)
noncomputable def z175 (r i d : Nat) (l : LE) : (V → SK) → SK := zS 18 (S 175 r i) d l
noncomputable def y175 (r i : Nat) (l : LE) : SK → SK := zN 18 (S 175 r i) l
noncomputable def c175_0 (k : KR) : SK := rA q30 k
noncomputable def c175_1 (j1 : V → V → V → V → SK) (x13 x14 x15 x16 : V) : SK := tB addD (z175 6 0 17 [(9,x16)]) x16 q3 fun x17 => j1 x13 x14 x15 x17
noncomputable def c175_2 (k : KR) (j1 : V → V → V → V → SK) (x9 x10 x11 x12 : V) : SK := jn (c175_1 j1) fun j2 => tIa (z175 3 0 11 [(7,x10),(9,x12)]) x10 x12 n5 fun x18 => tLs L5 x18 fun x19 => tAl 100 5 Z5 fun x20 => tSs M5 (y175 3 3 [(6,x20),(12,x19)]) x20 x19 (tLs L5 x20 fun x21 => tLs L4 x9 fun x22 => tC [x21,x22] n213 fun x23 => tNot x23 fun x24 => tJ x24 (rA q0 k) (j2 x9 x10 x11 x12))
noncomputable def c175_3 (k : KR) (j0 : SK) (j1 : V → V → V → V → SK) (x4 x5 x6 x7 : V) : SK := tB lssD (z175 2 0 10 [(9,x7),(8,x6)]) x7 x6 fun x8 => jn (c175_2 k j1) fun j3 => tJ x8 (j3 x4 x5 x6 x7) (j0)
noncomputable def c175_4 (k : KR) (x0 x1 : V) : SK := tBx x1 fun x2 => jn (c175_0 k) fun j0 => tLl (z175 1 1 8 [(7,x0)]) x0 fun x3 => lp (fun _ _ _ _ => badK) (c175_3 k j0) 1000000 x2 x0 x3 q1
noncomputable def F175 : FF := fT [0,1] c175_4 (fb 175)
noncomputable def z176 (r i d : Nat) (l : LE) : (V → SK) → SK := zS 41 (S 176 r i) d l
noncomputable def y176 (r i : Nat) (l : LE) : SK → SK := zN 41 (S 176 r i) l
noncomputable def c176_0 (k : KR) (x1 : V) : SK := rA x1 k
noncomputable def c176_1 (j1 : V → V → V → V → SK) (x12 x13 x14 x15 : V) : SK := tB addD (z176 15 0 39 [(10,x15)]) x15 q3 fun x16 => j1 x12 x13 x14 x16
noncomputable def c176_2 (j3 : V → V → V → V → V → V → V → SK) (x47 x48 x49 x50 x51 x52 x53 : V) : SK := tB addD (z176 12 0 31 [(22,x53)]) x53 q3 fun x54 => j3 x47 x48 x49 x50 x51 x52 x54
noncomputable def c176_3 (j3 : V → V → V → V → V → V → V → SK) (x40 x41 x42 x43 x44 x45 x46 : V) : SK := jn (c176_2 j3) fun j4 => tIa (z176 10 0 24 [(20,x44),(22,x46)]) x44 x46 n5 fun x55 => tLs L5 x55 fun x56 => tAl 100 5 Z5 fun x57 => tSs M5 (y176 10 3 [(7,x57),(25,x56)]) x57 x56 (tFa x57 n1 fun x58 => tL x58 fun x59 => tR (rwC x59 rwN) 1 1 1 fun x60 => tAp Tryz.prog 9 false 1 x40 x60 fun x61 => j4 x61 x41 x42 x43 x44 x45 x46)
noncomputable def c176_4 (j2 : V → V → V → V → SK) (j3 : V → V → V → V → V → V → V → SK) (x32 x33 x34 x35 x36 x37 x38 : V) : SK := tB lssD (z176 9 0 23 [(22,x38),(21,x37)]) x38 x37 fun x39 => jn (c176_3 j3) fun j5 => tJ x39 (j5 x32 x33 x34 x35 x36 x37 x38) (j2 x32 x33 x34 x35)
noncomputable def c176_5 (j2 : V → V → V → V → SK) (x22 x23 x24 x25 x26 x27 x28 : V) : SK := tJ x28 (tFa x23 n4 fun x29 => tL x29 fun x30 => tLl (z176 8 2 21 [(20,x30)]) x30 fun x31 => lp (fun _ _ _ _ _ _ _ => badK) (c176_4 j2) 1000000 x22 x24 x25 x26 x30 x31 q1) (tB eqlD (z176 13 0 33 [(15,x27)]) x27 q79 fun x62 => tJ x62 (tFa x23 n1 fun x63 => tL x63 fun x64 => tR (rwC x64 rwN) 1 1 1 fun x65 => tAp Tryz.prog 9 false 1 x22 x65 fun x66 => j2 x66 x24 x25 x26) (j2 x22 x24 x25 x26))
noncomputable def c176_6 (j1 : V → V → V → V → SK) (x8 x9 x10 x11 : V) : SK := jn (c176_1 j1) fun j2 => tIa (z176 4 0 12 [(8,x9),(10,x11)]) x9 x11 n5 fun x17 => tLs L5 x17 fun x18 => tAl 100 5 Z5 fun x19 => tSs M5 (y176 4 3 [(5,x19),(13,x18)]) x19 x18 (tFa x19 n0 fun x20 => tL x20 fun x21 => jn (c176_5 j2) fun j6 => tB eqlD (z176 6 0 17 [(15,x21)]) x21 q113 fun x67 => tJ x67 (j6 x8 x19 x9 x10 x11 x21 x67) (tB eqlD (z176 7 0 18 [(15,x21)]) x21 q77 fun x68 => j6 x8 x19 x9 x10 x11 x21 x68))
noncomputable def c176_7 (j0 : V → SK) (j1 : V → V → V → V → SK) (x3 x4 x5 x6 : V) : SK := tB lssD (z176 3 0 11 [(10,x6),(9,x5)]) x6 x5 fun x7 => jn (c176_6 j1) fun j7 => tJ x7 (j7 x3 x4 x5 x6) (j0 x3)
noncomputable def c176_8 (k : KR) (x0 : V) : SK := jn (c176_0 k) fun j0 => tLl (z176 2 1 9 [(8,x0)]) x0 fun x2 => lp (fun _ _ _ _ => badK) (c176_7 j0) 1000000 q70 x0 x2 q1
noncomputable def F176 : FF := fT [0] c176_8 (fb 176)
noncomputable def z177 (r i d : Nat) (l : LE) : (V → SK) → SK := zS 29 (S 177 r i) d l
noncomputable def y177 (r i : Nat) (l : LE) : SK → SK := zN 29 (S 177 r i) l
noncomputable def c177_0 (k : KR) (x4 x5 x6 : V) : SK := tN (z177 2 2 17 [(16,x4)]) x4 fun x7 => tFa x7 n0 fun x8 => tL x8 fun x9 => tA (xcO x5 (xcO x6 (xcC (.bool false) (xcC (.int .i64 0) (xcO x4 xcN))))) (z177 2 8 23 [(20,x5),(21,x6),(22,x4)]) fun x10 => tBx x10 fun x11 => tR (rwC x11 rwN) 1 1 1 fun x12 => tAp Tryz.prog 303 false 1 x9 x12 fun x13 => tN (z177 2 12 27 [(15,x4)]) x4 fun x14 => tFa x14 n0 fun x15 => tS (y177 2 14 [(28,x15),(26,x13)]) x15 x13 (lvT (rW rwN) k)
noncomputable def c177_1 (k : KR) (x0 x1 x2 x3 : V) : SK := jn (c177_0 k) fun j0 => tC [x1,x2] n214 fun x16 => tP (z177 0 3 11 [(10,x16)]) x16 q68 vFalse vTrue fun x17 => tJ x17 (tN (z177 1 1 13 [(12,x0)]) x0 fun x18 => tFa x18 n5 fun x19 => tS (y177 1 3 [(14,x19)]) x19 q30 (lvT (rW rwN) k)) (j0 x1 x2 x3)
noncomputable def F177 : FF := fT [0,1,2,3] c177_1 (fb 177)
noncomputable def z179 (r i d : Nat) (l : LE) : (V → SK) → SK := zS 211 (S 179 r i) d l
noncomputable def y179 (r i : Nat) (l : LE) : SK → SK := zN 211 (S 179 r i) l
noncomputable def zb179 (r i d : Nat) (l : LE) : (V → SK) → SK := zS 211 (Sb 179 r i) d l
noncomputable def c179_0 (k : KR) (x15 x16 x17 x18 : V) : SK := tN (z179 11 2 73 [(72,x16)]) x16 fun x19 => tFa x19 n4 fun x20 => tL x20 fun x21 => tC [x15,x21,x17,x18] n216 fun _ => lvT (rW rwN) k
noncomputable def c179_1 (k : KR) (x31 x32 x33 x34 : V) : SK := tN (z179 10 2 64 [(63,x32)]) x32 fun x35 => tFa x35 n4 fun x36 => tL x36 fun x37 => (z179 10 5 67 [(66,x37)]) fun x38 => tC [x31,x38,x33,x34] n216 fun _ => lvT (rW rwN) k
noncomputable def c179_2 (j1 : V → V → V → V → SK) (x9 x10 x11 x12 x41 : V) (x45 : V) : SK := tK x41 x45 q0 fun x46 => tJ x46 (tN (z179 9 1 60 [(59,x9)]) x9 fun x47 => tFa x47 n5 fun x48 => tS (y179 9 3 [(61,x48)]) x48 q30 (j1 x9 x10 x11 x12)) (j1 x9 x10 x11 x12)
noncomputable def c179_3 (j1 : V → V → V → V → SK) (x9 x10 x11 x12 x41 : V) (x44 : V) : SK := tG1 (c179_2 j1 x9 x10 x11 x12 x41) x41 fun r => tL x44 r
noncomputable def c179_4 (j1 : V → V → V → V → SK) (x9 x10 x11 x12 x41 : V) (x43 : V) : SK := tG1 (c179_3 j1 x9 x10 x11 x12 x41) x41 fun r => tFa x43 n1 r
noncomputable def c179_5 (j1 : V → V → V → V → SK) (x9 x10 x11 x12 x41 : V) (x42 : V) : SK := tG1 (c179_4 j1 x9 x10 x11 x12 x41) x41 fun r => tN (zb179 8 4 55 [(54,x42)]) x42 r
noncomputable def c179_6 (k : KR) (j0 : V → V → V → V → SK) (x9 x10 x11 x12 x24 : V) : SK := tL x24 fun x25 => tIa (z179 5 4 40 [(39,x25)]) x25 q1 n5 fun x26 => tN (z179 6 1 42 [(41,x26)]) x26 fun x27 => tFa x27 n0 fun x28 => tL x28 fun x29 => tB eqlD (z179 6 4 45 [(44,x29)]) x29 q94 fun x30 => tJ x30 (jn (c179_1 k) fun j1 => tC [x9,x26,x11,x12] n215 fun x40 => tP (z179 8 1 52 [(51,x40)]) x40 q68 vFalse vTrue fun x41 => tG1 (c179_5 j1 x9 x10 x11 x12 x41) x41 fun r => r x40) (j0 x9 x10 x11 x12)
noncomputable def c179_7 (k : KR) (x9 x10 x11 x12 : V) : SK := tC [x11,x12] n135 fun x50 => tN (z179 14 1 85 [(84,x9)]) x9 fun x51 => tFa x51 n0 fun x52 => tL x52 fun x53 => y179 14 6 [(87,x53),(88,x10),(89,x50)] (tN (z179 15 3 93 [(92,x10)]) x10 fun x54 => tFa x54 n4 fun x55 => tL x55 fun x56 => tC [x9,x50,x56] n136 fun _ => tN (z179 16 2 99 [(98,x10)]) x10 fun x58 => tFa x58 n4 fun x59 => tL x59 fun x60 => tC [x9,x60,x50,x12] n137 fun _ => lvT (rW rwN) k)
noncomputable def c179_8 (k : KR) (x9 x10 x12 x63 : V) : SK := tN (z179 19 1 111 [(110,x9)]) x9 fun x64 => tFa x64 n0 fun x65 => tL x65 fun x66 => y179 19 6 [(113,x66),(114,x10),(115,x63)] (tN (z179 20 3 119 [(118,x10)]) x10 fun x67 => tFa x67 n4 fun x68 => tL x68 fun x69 => (z179 20 6 122 [(121,x69)]) fun x70 => tC [x9,x63,x70] n136 fun _ => tN (z179 21 2 126 [(125,x10)]) x10 fun x72 => tFa x72 n4 fun x73 => tL x73 fun x74 => tC [x9,x74,x63,x12] n216 fun _ => lvT (rW rwN) k)
noncomputable def c179_9 (k : KR) (x9 x10 x12 x82 x86 : V) : SK := tFa x86 n1 fun x87 => tL x87 fun x88 => tN (z179 26 7 159 [(158,x10)]) x10 fun x89 => tFa x89 n3 fun x90 => tL x90 fun x91 => tB eqlD (z179 26 10 162 [(161,x91)]) x91 q31 fun x92 => tC [x9,x82,x88,x92] n177 fun _ => tN (z179 27 2 166 [(165,x10)]) x10 fun x94 => tFa x94 n4 fun x95 => tL x95 fun x96 => tIa (z179 27 5 169 [(168,x96)]) x96 q3 n5 fun x97 => tC [x9,x97,x82,x12] n179 fun _ => lvT (rW rwN) k
noncomputable def c179_10 (k : KR) (x9 x10 x11 x12 : V) : SK := tN (z179 23 2 136 [(135,x10)]) x10 fun x77 => tFa x77 n4 fun x78 => tL x78 fun x79 => tIa (z179 23 5 139 [(138,x79)]) x79 q1 n5 fun x80 => tC [x9,x80,x11,x12] n179 fun _ => tC [x11,x12] n135 fun x82 => tN (z179 25 1 147 [(146,x9)]) x9 fun x83 => tFa x83 n0 fun x84 => tL x84 fun x85 => y179 25 6 [(149,x85),(150,x10),(151,x82)] (tN (z179 26 3 155 [(154,x10)]) x10 fun x86 => c179_9 k x9 x10 x12 x82 x86)
noncomputable def c179_11 (k : KR) (x104 x105 x106 x107 : V) : SK := tN (z179 33 2 198 [(197,x105)]) x105 fun x108 => tFa x108 n4 fun x109 => tL x109 fun x110 => tC [x104,x110,x107,x106] n216 fun _ => lvT (rW rwN) k
noncomputable def c179_12 (k : KR) (x9 x10 x12 x100 x102 : V) : SK := tL x102 fun x103 => y179 30 6 [(181,x103),(182,x10),(183,x100)] (jn (c179_11 k) fun j2 => tN (z179 31 1 185 [(184,x10)]) x10 fun x112 => tFa x112 n1 fun x113 => tL x113 fun x114 => tT neqTD (z179 31 4 188 [(187,x114)]) x114 q63 fun x115 => tJ x115 (tN (z179 32 3 192 [(191,x10)]) x10 fun x116 => tFa x116 n1 fun x117 => tL x117 fun x118 => tC [x9,x100,x118,q0] n177 fun _ => j2 x9 x10 x12 x100) (j2 x9 x10 x12 x100))
noncomputable def c179_13 (k : KR) (x9 x10 x11 x12 x13 x99 : V) : SK := tJ x99 (tC [x11,x12] n135 fun x100 => tN (z179 30 1 179 [(178,x9)]) x9 fun x101 => tFa x101 n0 fun x102 => c179_12 k x9 x10 x12 x100 x102) (tB eqlD (z179 34 0 205 [(17,x13)]) x13 q79 fun x120 => tJ x120 (tC [x9,x10,x11,x12,q30] n178 fun _ => lvT (rW rwN) k) (tN (z179 36 2 20 [(19,x10)]) x10 fun x122 => tFa x122 n4 fun x123 => tL x123 fun x124 => tC [x9,x124,x11,x12] n216 fun _ => lvT (rW rwN) k))
noncomputable def c179_14 (k : KR) (x9 x10 x11 x12 x13 x14 : V) : SK := tJ x14 (jn (c179_0 k) fun j0 => tN (z179 5 1 37 [(36,x10)]) x10 fun x23 => tFa x23 n4 fun x24 => c179_6 k j0 x9 x10 x11 x12 x24) (tB eqlD (z179 12 0 80 [(17,x13)]) x13 q119 fun x49 => tJ x49 (c179_7 k x9 x10 x11 x12) (tB eqlD (z179 17 0 106 [(17,x13)]) x13 q116 fun x62 => tJ x62 (tC [x11,x12] n135 fun x63 => c179_8 k x9 x10 x12 x63) (tB eqlD (z179 22 0 133 [(17,x13)]) x13 q76 fun x76 => tJ x76 (c179_10 k x9 x10 x11 x12) (tB eqlD (z179 28 0 174 [(17,x13)]) x13 q84 fun x99 => c179_13 k x9 x10 x11 x12 x13 x99))))
noncomputable def c179_15 (k : KR) (x0 x1 x2 x3 : V) : SK := tN (z179 0 1 15 [(14,x1)]) x1 fun x4 => tFa x4 n0 fun x5 => tL x5 fun x6 => tB eqlD (z179 1 0 27 [(17,x6)]) x6 q94 fun x7 => tJ x7 (tC [x0,x1,x2,x3] n215 fun _ => lvT (rW rwN) k) (jn (c179_14 k) fun j3 => tB eqlD (z179 3 0 34 [(17,x6)]) x6 q32 fun x126 => tJ x126 (j3 x0 x1 x2 x3 x6 x126) (tB eqlD (z179 4 0 35 [(17,x6)]) x6 q99 fun x127 => j3 x0 x1 x2 x3 x6 x127))
noncomputable def F179 : FF := fT [0,1,2,3] c179_15 (fb 179)
noncomputable def z182 (r i d : Nat) (l : LE) : (V → SK) → SK := zS 11 (S 182 r i) d l
noncomputable def c182_0 (k : KR) (x0 x1 : V) : SK := tA (xcO q3 (xcO x1 (xcC (.str 0 0) xcN))) (z182 0 3 7 [(6,x1)]) fun x2 => tC [x0,x2] n221 fun x3 => tR (rwC x3 rwN) 1 1 1 fun x4 => tC [x0,q3,x4] n139 fun _ => lvT (rW rwN) k
noncomputable def F182 : FF := fT [0,1] c182_0 (fb 182)
noncomputable def z183 (r i d : Nat) (l : LE) : (V → SK) → SK := zS 9 (S 183 r i) d l
noncomputable def c183_0 (k : KR) (x0 x1 : V) : SK := tA (xcO q31 (xcC (.int .i64 0) (xcO x1 xcN))) (z183 1 2 7 [(6,x1)]) fun x2 => tC [x0,x2] n221 fun x3 => rA x3 k
noncomputable def F183 : FF := fT [0,1] c183_0 (fb 183)
noncomputable def z184 (r i d : Nat) (l : LE) : (V → SK) → SK := zS 54 (S 184 r i) d l
noncomputable def c184_0 (k : KR) (x0 x11 x21 : V) : SK := tJ x21 (tN (z184 4 3 44 [(43,x11)]) x11 fun x22 => tFa x22 n4 fun x23 => tL x23 fun x24 => tN (z184 4 8 49 [(48,x11)]) x11 fun x25 => tFa x25 n3 fun x26 => tL x26 fun x27 => tC [x0,x24] n220 fun x28 => tQ x27 x26 (tR (rwC x28 (rwC x27 rwN)) 1 2 2 fun x29 => tC [x0,q32,x29] n139 fun _ => lvT (rW rwN) k)) (tN (z184 5 2 19 [(18,x11)]) x11 fun x31 => tFa x31 n3 fun x32 => tL x32 fun x33 => tR (rwC x33 rwN) 1 1 1 fun x34 => tC [x0,q69,x34] n139 fun _ => lvT (rW rwN) k)
noncomputable def c184_1 (k : KR) (x0 x1 x10 : V) : SK := (z184 0 11 16 [(14,x10),(15,x1)]) fun x11 => tP (z184 1 1 26 [(25,x11)]) x11 q68 vTrue vFalse fun x12 => tJ x12 (tN (z184 2 3 30 [(29,x1)]) x1 fun x13 => tFa x13 n1 fun x14 => tL x14 fun x15 => tC [x0,x15] n183 fun x16 => tR (rwC x16 rwN) 1 1 1 fun x17 => tC [x0,q115,x17] n139 fun _ => lvT (rW rwN) k) (tN (z184 3 1 38 [(37,x11)]) x11 fun x19 => tFa x19 n2 fun x20 => tL x20 fun x21 => c184_0 k x0 x11 x21)
noncomputable def c184_2 (k : KR) (x0 x1 : V) : SK := tN (z184 0 1 6 [(5,x0)]) x0 fun x2 => tFa x2 n0 fun x3 => tL x3 fun x4 => tN (z184 0 4 9 [(8,x4)]) x4 fun x5 => tFa x5 n0 fun x6 => tL x6 fun x7 => tN (z184 0 7 12 [(11,x7)]) x7 fun x8 => tFa x8 n2 fun x9 => tL x9 fun x10 => c184_1 k x0 x1 x10
noncomputable def F184 : FF := fT [0,1] c184_2 (fb 184)
noncomputable def z187 (r i d : Nat) (l : LE) : (V → SK) → SK := zS 16 (S 187 r i) d l
noncomputable def c187_0 (j0 : V → V → V → V → SK) (x12 x13 x14 x15 : V) : SK := tB addD (z187 4 0 15 [(7,x15)]) x15 q3 fun x16 => j0 x12 x13 x14 x16
noncomputable def c187_1 (j0 : V → V → V → V → SK) (x8 x9 x10 x11 : V) : SK := jn (c187_0 j0) fun j1 => tIa (z187 3 3 13 [(11,x9),(12,x11)]) x9 x11 n5 fun x17 => tC [x8,x17] n141 fun _ => j1 x8 x9 x10 x11
noncomputable def c187_2 (k : KR) (j0 : V → V → V → V → SK) (x3 x4 x5 x6 : V) : SK := tB lssD (z187 1 0 8 [(7,x6),(6,x5)]) x6 x5 fun x7 => jn (c187_1 j0) fun j2 => tJ x7 (j2 x3 x4 x5 x6) (lvT (rW rwN) k)
noncomputable def c187_3 (k : KR) (x0 x1 : V) : SK := tLl (z187 0 1 6 [(5,x1)]) x1 fun x2 => lp (fun _ _ _ _ => badK) (c187_2 k) 1000000 x0 x1 x2 q1
noncomputable def F187 : FF := fT [0,1] c187_3 (fb 187)
noncomputable def c200_0 (k : KR) (x0 : V) : SK := tC [x0] n61 fun x1 => rA x1 k
noncomputable def F200 : FF := fT [0] c200_0 (fb 200)
noncomputable def z201 (r i d : Nat) (l : LE) : (V → SK) → SK := zS 15 (S 201 r i) d l
noncomputable def zb201 (r i d : Nat) (l : LE) : (V → SK) → SK := zS 15 (Sb 201 r i) d l
noncomputable def c201_0 (k : KR) (x3 : V) (x6 : V) : SK := tK x3 x6 q0 fun x7 => rA x7 k
noncomputable def c201_1 (k : KR) (x3 x4 : V) (x5 : V) : SK := tG1 (c201_0 k x3) x3 fun r => tB leqD (zb201 1 6 13 [(11,x4),(12,x5)]) x4 x5 r
noncomputable def c201_2 (k : KR) (x2 x3 : V) (x4 : V) : SK := tG1 (c201_1 k x3 x4) x3 fun r => r x2
noncomputable def c201_3 (k : KR) (x0 x1 x2 : V) : SK := tB geqD (z201 1 2 9 [(7,x0),(8,x1)]) x0 x1 fun x3 => tG1 (c201_2 k x2 x3) x3 fun r => r x0
noncomputable def F201 : FF := fT [0,1,2] c201_3 (fb 201)
noncomputable def z202 (r i d : Nat) (l : LE) : (V → SK) → SK := zS 109 (S 202 r i) d l
noncomputable def y202 (r i : Nat) (l : LE) : SK → SK := zN 109 (S 202 r i) l
noncomputable def zb202 (r i d : Nat) (l : LE) : (V → SK) → SK := zS 109 (Sb 202 r i) d l
noncomputable def c202_0 (k : KR) (x15 : V) : SK := tFa x15 n1 fun x16 => tL x16 fun x17 => tB eqlD (z202 23 2 108 [(107,x17)]) x17 q1 fun x18 => rA x18 k
noncomputable def c202_1 (k : KR) (x36 : V) (x44 : V) : SK := tK x36 x44 q0 fun x45 => rA x45 k
noncomputable def c202_2 (k : KR) (x36 : V) (x43 : V) : SK := tG1 (c202_1 k x36) x36 fun r => tB eqlD (zb202 8 15 55 [(54,x43)]) x43 q31 r
noncomputable def c202_3 (k : KR) (x36 : V) (x42 : V) : SK := tG1 (c202_2 k x36) x36 fun r => tL x42 r
noncomputable def c202_4 (k : KR) (x36 : V) (x41 : V) : SK := tG1 (c202_3 k x36) x36 fun r => tFa x41 n0 r
noncomputable def c202_5 (k : KR) (x36 x38 : V) (x40 : V) : SK := tG1 (c202_4 k x36) x36 fun r => tIa (zb202 8 12 52 [(49,x38),(51,x40)]) x38 x40 n3 r
noncomputable def c202_6 (k : KR) (x36 x38 : V) (x39 : V) : SK := tG1 (c202_5 k x36 x38) x36 fun r => tL x39 r
noncomputable def c202_7 (k : KR) (x13 x36 : V) (x38 : V) : SK := tG1 (c202_6 k x36 x38) x36 fun r => tFa x13 n1 r
noncomputable def c202_8 (k : KR) (x13 x36 : V) (x37 : V) : SK := tG1 (c202_7 k x13 x36) x36 fun r => tL x37 r
noncomputable def c202_9 (k : KR) (x56 : V) (x59 : V) : SK := tK x56 x59 q0 fun x60 => rA x60 k
noncomputable def c202_10 (k : KR) (x56 : V) (x58 : V) : SK := tG1 (c202_9 k x56) x56 fun r => tC [x58,q1,q95] n201 r
noncomputable def c202_11 (k : KR) (x56 : V) (x57 : V) : SK := tG1 (c202_10 k x56) x56 fun r => tL x57 r
noncomputable def c202_12 (k : KR) (j0 : V → SK) (x12 x13 x20 x70 : V) : SK := tJ x70 (tFa x13 n1 fun x71 => tL x71 fun x72 => tFa x12 n4 fun x73 => tL x73 fun x74 => tLl (z202 18 4 93 [(92,x74)]) x74 fun x75 => tB subD (z202 18 5 94 [(93,x75)]) x75 q3 fun x76 => tC [x72,q1,x76] n201 fun x77 => rA x77 k) (tB eqlD (z202 19 0 97 [(28,x20)]) x20 q43 fun x78 => tJ x78 (tFa x13 n1 fun x79 => tL x79 fun x80 => tC [x80,q3,q37] n201 fun x81 => rA x81 k) (tB eqlD (z202 21 0 102 [(28,x20)]) x20 q60 fun x82 => tJ x82 (tFa x13 n1 fun x83 => tL x83 fun x84 => tC [x84,q72,q109] n201 fun x85 => rA x85 k) (j0 x13)))
noncomputable def c202_13 (k : KR) (j0 : V → SK) (x11 x12 x13 x20 : V) : SK := tB eqlD (z202 13 0 76 [(28,x20)]) x20 q27 fun x61 => tJ x61 (tFa x13 n1 fun x62 => tL x62 fun x63 => tB subD (z202 14 3 80 [(79,x11)]) x11 q3 fun x64 => tC [x63,q1,x64] n201 fun x65 => rA x65 k) (tB eqlD (z202 15 0 83 [(28,x20)]) x20 q72 fun x66 => tJ x66 (tFa x13 n1 fun x67 => tL x67 fun x68 => tC [x68,q1,q95] n201 fun x69 => rA x69 k) (tB eqlD (z202 17 0 88 [(28,x20)]) x20 q94 fun x70 => c202_12 k j0 x12 x13 x20 x70))
noncomputable def c202_14 (k : KR) (j0 : V → SK) (x11 x12 x13 x20 : V) : SK := tB eqlD (z202 9 0 58 [(28,x20)]) x20 q5 fun x46 => tJ x46 (tFa x13 n1 fun x47 => tL x47 fun x48 => tFa x12 n3 fun x49 => tL x49 fun x50 => tB subD (z202 10 4 63 [(62,x50)]) x50 q3 fun x51 => tC [x48,q1,x51] n201 fun x52 => rA x52 k) (tB eqlD (z202 11 0 66 [(28,x20)]) x20 q37 fun x53 => tJ x53 (tFa x13 n1 fun x54 => tL x54 fun x55 => tC [x55,q1,q95] n201 fun x56 => tG1 (c202_11 k x56) x56 fun r => tFa x13 n2 r) (c202_13 k j0 x11 x12 x13 x20))
noncomputable def c202_15 (k : KR) (j0 : V → SK) (x11 x12 x13 x20 x21 : V) : SK := tJ x21 (tFa x13 n1 fun x22 => tL x22 fun x23 => tFa x12 n5 fun x24 => tL x24 fun x25 => tLl (z202 6 4 35 [(34,x25)]) x25 fun x26 => tB subD (z202 6 5 36 [(35,x26)]) x26 q3 fun x27 => tC [x23,q1,x27] n201 fun x28 => rA x28 k) (tB eqlD (z202 7 0 39 [(28,x20)]) x20 q31 fun x29 => tJ x29 (tFa x13 n1 fun x30 => tL x30 fun x31 => tFa x12 n5 fun x32 => tL x32 fun x33 => tLl (z202 8 4 44 [(43,x33)]) x33 fun x34 => tB subD (z202 8 5 45 [(44,x34)]) x34 q3 fun x35 => tC [x31,q1,x35] n201 fun x36 => tG1 (c202_8 k x13 x36) x36 fun r => tFa x12 n5 r) (c202_14 k j0 x11 x12 x13 x20))
noncomputable def c202_16 (k : KR) (x11 x12 x13 x14 : V) : SK := jn (c202_0 k) fun j0 => tFa x14 n1 fun x19 => tL x19 fun x20 => tB eqlD (z202 5 0 30 [(28,x20)]) x20 q3 fun x21 => c202_15 k j0 x11 x12 x13 x20 x21
noncomputable def c202_17 (k : KR) (j1 : V → V → V → V → SK) (x2 x3 x4 x10 x86 : V) (x94 : V) : SK := tK x86 q30 x94 fun x95 => tJ x95 (rA q0 k) (j1 x2 x3 x4 x10)
noncomputable def c202_18 (k : KR) (j1 : V → V → V → V → SK) (x2 x3 x4 x10 x86 x90 : V) (x93 : V) : SK := tG0 (c202_17 k j1 x2 x3 x4 x10 x86) x86 fun r => tK x90 x93 q0 r
noncomputable def c202_19 (k : KR) (j1 : V → V → V → V → SK) (x2 x3 x4 x10 x86 x90 : V) (x92 : V) : SK := tG1 (c202_18 k j1 x2 x3 x4 x10 x86 x90) x90 fun r => tB neqD (zb202 2 9 24 [(23,x92)]) x92 q1 r
noncomputable def c202_20 (k : KR) (j1 : V → V → V → V → SK) (x2 x3 x4 x10 x86 x90 : V) (x91 : V) : SK := tG1 (c202_19 k j1 x2 x3 x4 x10 x86 x90) x90 fun r => tL x91 r
noncomputable def c202_21 (k : KR) (j1 : V → V → V → V → SK) (x2 x3 x4 x10 x86 : V) (x90 : V) : SK := tG1 (c202_20 k j1 x2 x3 x4 x10 x86 x90) x90 fun r => tFa x4 n2 r
noncomputable def c202_22 (k : KR) (j1 : V → V → V → V → SK) (x2 x3 x4 x10 x86 : V) (x89 : V) : SK := tG0 (c202_21 k j1 x2 x3 x4 x10 x86) x86 fun r => r x89
noncomputable def c202_23 (k : KR) (j1 : V → V → V → V → SK) (x2 x3 x4 x10 x86 : V) (x88 : V) : SK := tG0 (c202_22 k j1 x2 x3 x4 x10 x86) x86 fun r => tB neqD (zb202 2 5 20 [(19,x88)]) x88 q37 r
noncomputable def c202_24 (k : KR) (j1 : V → V → V → V → SK) (x2 x3 x4 x10 x86 : V) (x87 : V) : SK := tG0 (c202_23 k j1 x2 x3 x4 x10 x86) x86 fun r => tL x87 r
noncomputable def c202_25 (k : KR) (x0 x1 x2 : V) : SK := tBx x0 fun x3 => tBx x1 fun x4 => tFa x4 n0 fun x5 => tL x5 fun x6 => tC [x6] n232 fun x7 => tX x7 n0 fun x8 => tX x7 n1 fun x9 => tAl 321 7 Z20 fun x10 => tSs M7 (y202 1 7 [(7,x10),(13,x8)]) x10 x8 (jn (c202_16 k) fun j1 => tB neqD (z202 2 1 16 [(15,x9)]) x9 q1 fun x86 => tG0 (c202_24 k j1 x2 x3 x4 x10 x86) x86 fun r => tFa x10 n1 r)
noncomputable def F202 : FF := fT [0,1,2] c202_25 (fb 202)
noncomputable def z203 (r i d : Nat) (l : LE) : (V → SK) → SK := zS 39 (S 203 r i) d l
noncomputable def y203 (r i : Nat) (l : LE) : SK → SK := zN 39 (S 203 r i) l
noncomputable def zb203 (r i d : Nat) (l : LE) : (V → SK) → SK := zS 39 (Sb 203 r i) d l
noncomputable def c203_0 (k : KR) (x6 x7 : V) : SK := tFa x7 n0 fun x8 => tL x8 fun x9 => tB subD (z203 4 3 35 [(32,x6),(34,x9)]) x6 x9 fun x10 => tFa x7 n1 fun x11 => tL x11 fun x12 => tB quoD (z203 4 6 38 [(35,x10),(37,x12)]) x10 x12 fun x13 => rA x13 k
noncomputable def c203_1 (k : KR) (j0 : V → V → SK) (x1 x5 x25 : V) (x33 : V) : SK := tK x25 q30 x33 fun x34 => tJ x34 (rA q143 k) (j0 x1 x5)
noncomputable def c203_2 (k : KR) (j0 : V → V → SK) (x1 x5 x25 : V) (x32 : V) : SK := tG0 (c203_1 k j0 x1 x5 x25) x25 fun r => tB gtrD (zb203 2 22 30 [(29,x32)]) x32 q102 r
noncomputable def c203_3 (k : KR) (j0 : V → V → SK) (x1 x5 x25 x29 : V) (x31 : V) : SK := tG0 (c203_2 k j0 x1 x5 x25) x25 fun r => tB quoD (zb203 2 21 29 [(26,x29),(28,x31)]) x29 x31 r
noncomputable def c203_4 (k : KR) (j0 : V → V → SK) (x1 x5 x25 x29 : V) (x30 : V) : SK := tG0 (c203_3 k j0 x1 x5 x25 x29) x25 fun r => tL x30 r
noncomputable def c203_5 (k : KR) (j0 : V → V → SK) (x1 x5 x25 : V) (x29 : V) : SK := tG0 (c203_4 k j0 x1 x5 x25 x29) x25 fun r => tFa x5 n1 r
noncomputable def c203_6 (k : KR) (j0 : V → V → SK) (x1 x5 x25 x26 : V) (x28 : V) : SK := tG0 (c203_5 k j0 x1 x5 x25) x25 fun r => tB subD (zb203 2 18 26 [(23,x26),(25,x28)]) x26 x28 r
noncomputable def c203_7 (k : KR) (j0 : V → V → SK) (x1 x5 x25 x26 : V) (x27 : V) : SK := tG0 (c203_6 k j0 x1 x5 x25 x26) x25 fun r => tL x27 r
noncomputable def c203_8 (k : KR) (j0 : V → V → SK) (x1 x5 x25 : V) (x26 : V) : SK := tG0 (c203_7 k j0 x1 x5 x25 x26) x25 fun r => tFa x5 n0 r
noncomputable def c203_9 (k : KR) (j0 : V → V → SK) (x1 x5 x16 : V) (x24 : V) : SK := tK x16 q30 x24 fun x25 => tG0 (c203_8 k j0 x1 x5 x25) x25 fun r => r x1
noncomputable def c203_10 (k : KR) (j0 : V → V → SK) (x1 x5 x16 : V) (x23 : V) : SK := tG0 (c203_9 k j0 x1 x5 x16) x16 fun r => tB neqD (zb203 2 12 20 [(19,x23)]) x23 q1 r
noncomputable def c203_11 (k : KR) (j0 : V → V → SK) (x1 x5 x16 x20 : V) (x22 : V) : SK := tG0 (c203_10 k j0 x1 x5 x16) x16 fun r => tB remD (zb203 2 11 19 [(16,x20),(18,x22)]) x20 x22 r
noncomputable def c203_12 (k : KR) (j0 : V → V → SK) (x1 x5 x16 x20 : V) (x21 : V) : SK := tG0 (c203_11 k j0 x1 x5 x16 x20) x16 fun r => tL x21 r
noncomputable def c203_13 (k : KR) (j0 : V → V → SK) (x1 x5 x16 : V) (x20 : V) : SK := tG0 (c203_12 k j0 x1 x5 x16 x20) x16 fun r => tFa x5 n1 r
noncomputable def c203_14 (k : KR) (j0 : V → V → SK) (x1 x5 x16 x17 : V) (x19 : V) : SK := tG0 (c203_13 k j0 x1 x5 x16) x16 fun r => tB subD (zb203 2 8 16 [(13,x17),(15,x19)]) x17 x19 r
noncomputable def c203_15 (k : KR) (j0 : V → V → SK) (x1 x5 x16 x17 : V) (x18 : V) : SK := tG0 (c203_14 k j0 x1 x5 x16 x17) x16 fun r => tL x18 r
noncomputable def c203_16 (k : KR) (j0 : V → V → SK) (x1 x5 x16 : V) (x17 : V) : SK := tG0 (c203_15 k j0 x1 x5 x16 x17) x16 fun r => tFa x5 n0 r
noncomputable def c203_17 (k : KR) (x0 x1 : V) : SK := tBx x0 fun x2 => tLs L2 x2 fun x3 => tC [x3] n92 fun x4 => tAl 30 2 Z10 fun x5 => tSs M2 (y203 1 3 [(5,x5),(7,x4)]) x5 x4 (jn (c203_0 k) fun j0 => tFa x5 n0 fun x14 => tL x14 fun x15 => tB lssD (z203 2 3 11 [(8,x1),(10,x15)]) x1 x15 fun x16 => tG0 (c203_16 k j0 x1 x5 x16) x16 fun r => r x1)
noncomputable def F203 : FF := fT [0,1] c203_17 (fb 203)
noncomputable def z204 (r i d : Nat) (l : LE) : (V → SK) → SK := zS 25 (S 204 r i) d l
noncomputable def c204_0 (k : KR) (x6 : V) : SK := lvT (rW (rwC x6 (rwC q135 rwN))) k
noncomputable def c204_1 (k : KR) (x0 x1 x2 : V) : SK := tC [x0,x1,x2] n233 fun x3 => tX x3 n0 fun x4 => tX x3 n1 fun x5 => jn (c204_0 k) fun j0 => (z204 2 1 17 [(16,x5)]) fun x7 => tJ x7 (tC [q203,x0,x1,x2,x5] n234 fun x8 => lvT (rW (rwC x4 (rwC x8 rwN))) k) (j0 x4)
noncomputable def F204 : FF := fT [0,1,2] c204_1 (fb 204)
noncomputable def z207 (r i d : Nat) (l : LE) : (V → SK) → SK := zS 23 (S 207 r i) d l
noncomputable def y207 (r i : Nat) (l : LE) : SK → SK := zN 23 (S 207 r i) l
noncomputable def zb207 (r i d : Nat) (l : LE) : (V → SK) → SK := zS 23 (Sb 207 r i) d l
noncomputable def c207_0 (j0 : V → V → V → V → SK) (x12 x13 x14 x15 : V) : SK := tB addD (z207 5 0 22 [(5,x15)]) x15 q3 fun x16 => j0 x12 x13 x14 x16
noncomputable def c207_1 (j1 : V → V → V → V → SK) (x20 x21 x22 x23 x24 : V) : SK := tN (z207 4 1 19 [(18,x23)]) x23 fun x25 => tFa x25 n1 fun x26 => tL x26 fun x27 => tS (y207 4 4 [(2,x22),(21,x27)]) x22 x27 (j1 x20 x21 x22 x24)
noncomputable def c207_2 (k : KR) (j2 : V → V → V → V → V → SK) (x8 x9 x10 x11 x19 x28 : V) (x32 : V) : SK := tK x28 q30 x32 fun x33 => tJ x33 (lvT (rW rwN) k) (j2 x8 x9 x10 x19 x11)
noncomputable def c207_3 (k : KR) (j2 : V → V → V → V → V → SK) (x8 x9 x10 x11 x19 x28 : V) (x31 : V) : SK := tG0 (c207_2 k j2 x8 x9 x10 x11 x19 x28) x28 fun r => tNot x31 r
noncomputable def c207_4 (k : KR) (j2 : V → V → V → V → V → SK) (x8 x9 x10 x11 x19 x28 x29 : V) (x30 : V) : SK := tG0 (c207_3 k j2 x8 x9 x10 x11 x19 x28) x28 fun r => (zb207 3 5 15 [(13,x29),(14,x30)]) r
noncomputable def c207_5 (k : KR) (j2 : V → V → V → V → V → SK) (x8 x9 x10 x11 x19 x28 : V) (x29 : V) : SK := tG0 (c207_4 k j2 x8 x9 x10 x11 x19 x28 x29) x28 fun r => tL x10 r
noncomputable def c207_6 (k : KR) (j0 : V → V → V → V → SK) (x8 x9 x10 x11 : V) : SK := jn (c207_0 j0) fun j1 => tL x9 fun x17 => tL x10 fun x18 => tC [x17,x18] n33 fun x19 => jn (c207_1 j1) fun j2 => tP (z207 3 1 11 [(10,x19)]) x19 q68 vTrue vFalse fun x28 => tG0 (c207_5 k j2 x8 x9 x10 x11 x19 x28) x28 fun r => r x8
noncomputable def c207_7 (k : KR) (j0 : V → V → V → V → SK) (x3 x4 x5 x6 : V) : SK := tB lssD (z207 1 0 6 [(5,x6)]) x6 q204 fun x7 => jn (c207_6 k j0) fun j3 => tJ x7 (j3 x3 x4 x5 x6) (lvT (rW rwN) k)
noncomputable def c207_8 (k : KR) (x0 x1 x2 : V) : SK := lp (fun _ _ _ _ => badK) (c207_7 k) 1000000 x0 x1 x2 q1
noncomputable def F207 : FF := fT [0,1,2] c207_8 (fb 207)
noncomputable def z208 (r i d : Nat) (l : LE) : (V → SK) → SK := zS 72 (S 208 r i) d l
noncomputable def zb208 (r i d : Nat) (l : LE) : (V → SK) → SK := zS 72 (Sb 208 r i) d l
noncomputable def c208_0 (k : KR) (x2 : V) : SK := lvT (rW (rwC x2 (rwC q30 rwN))) k
noncomputable def c208_1 (j1 : V → V → SK) (x29 x30 x31 : V) : SK := tB addD (z208 8 2 53 [(51,x30),(52,x31)]) x30 x31 fun x32 => j1 x29 x32
noncomputable def c208_2 (j1 : V → V → SK) (x40 x41 x42 : V) : SK := tB addD (z208 13 2 69 [(68,x42)]) x42 q37 fun x43 => tB addD (z208 13 3 70 [(67,x41),(69,x43)]) x41 x43 fun x44 => j1 x40 x44
noncomputable def c208_3 (k : KR) (j1 : V → V → SK) (x5 x6 x26 : V) : SK := tJ x26 ((z208 5 2 45 [(43,x5),(44,x6)]) fun x27 => tC [x27,q205] n238 fun x28 => jn (c208_1 j1) fun j2 => tB lssD (z208 6 1 48 [(47,x28)]) x28 q1 fun x33 => tJ x33 (tLt (z208 7 1 50 [(49,x5)]) x5 fun x34 => lvT (rW (rwC x34 (rwC q30 rwN))) k) (j2 x5 x6 x28)) ((z208 9 2 57 [(55,x5),(56,x6)]) fun x35 => tC [x35,q207] n237 fun x36 => tJ x36 (tB addD (z208 10 2 61 [(60,x6)]) x6 q31 fun x37 => (z208 10 3 62 [(59,x5),(61,x37)]) fun x38 => tC [x38,q206] n239 fun x39 => jn (c208_2 j1) fun j3 => tB lssD (z208 11 1 65 [(64,x39)]) x39 q1 fun x45 => tJ x45 (lvT (rW (rwC x6 (rwC q0 rwN))) k) (j3 x5 x6 x39)) (lvT (rW (rwC x6 (rwC q30 rwN))) k))
noncomputable def c208_4 (k : KR) (j1 : V → V → SK) (x5 x6 x18 : V) (x22 : V) : SK := tK x18 q30 x22 fun x23 => tJ x23 (tB addD (z208 3 1 37 [(36,x6)]) x6 q3 fun x24 => j1 x5 x24) ((z208 4 2 41 [(39,x5),(40,x6)]) fun x25 => tC [x25,q208] n237 fun x26 => c208_3 k j1 x5 x6 x26)
noncomputable def c208_5 (k : KR) (j1 : V → V → SK) (x5 x6 x18 : V) (x21 : V) : SK := tG0 (c208_4 k j1 x5 x6 x18) x18 fun r => tB eqlD (zb208 2 20 34 [(33,x21)]) x21 q209 r
noncomputable def c208_6 (k : KR) (j1 : V → V → SK) (x5 x6 x18 x19 : V) (x20 : V) : SK := tG0 (c208_5 k j1 x5 x6 x18) x18 fun r => tI (zb208 2 19 33 [(31,x19),(32,x20)]) x19 x20 r
noncomputable def c208_7 (k : KR) (j1 : V → V → SK) (x5 x6 x18 : V) (x19 : V) : SK := tG0 (c208_6 k j1 x5 x6 x18 x19) x18 fun r => r x6
noncomputable def c208_8 (k : KR) (j1 : V → V → SK) (x5 x6 x13 : V) (x17 : V) : SK := tK x13 q30 x17 fun x18 => tG0 (c208_7 k j1 x5 x6 x18) x18 fun r => r x5
noncomputable def c208_9 (k : KR) (j1 : V → V → SK) (x5 x6 x13 : V) (x16 : V) : SK := tG0 (c208_8 k j1 x5 x6 x13) x13 fun r => tB eqlD (zb208 2 14 28 [(27,x16)]) x16 q205 r
noncomputable def c208_10 (k : KR) (j1 : V → V → SK) (x5 x6 x13 x14 : V) (x15 : V) : SK := tG0 (c208_9 k j1 x5 x6 x13) x13 fun r => tI (zb208 2 13 27 [(25,x14),(26,x15)]) x14 x15 r
noncomputable def c208_11 (k : KR) (j1 : V → V → SK) (x5 x6 x13 : V) (x14 : V) : SK := tG0 (c208_10 k j1 x5 x6 x13 x14) x13 fun r => r x6
noncomputable def c208_12 (k : KR) (j1 : V → V → SK) (x5 x6 x8 : V) (x12 : V) : SK := tK x8 q30 x12 fun x13 => tG0 (c208_11 k j1 x5 x6 x13) x13 fun r => r x5
noncomputable def c208_13 (k : KR) (j1 : V → V → SK) (x5 x6 x8 : V) (x11 : V) : SK := tG0 (c208_12 k j1 x5 x6 x8) x8 fun r => tB eqlD (zb208 2 8 22 [(21,x11)]) x11 q210 r
noncomputable def c208_14 (k : KR) (j1 : V → V → SK) (x5 x6 x8 x9 : V) (x10 : V) : SK := tG0 (c208_13 k j1 x5 x6 x8) x8 fun r => tI (zb208 2 7 21 [(19,x9),(20,x10)]) x9 x10 r
noncomputable def c208_15 (k : KR) (j1 : V → V → SK) (x5 x6 x8 : V) (x9 : V) : SK := tG0 (c208_14 k j1 x5 x6 x8 x9) x8 fun r => r x6
noncomputable def c208_16 (k : KR) (j1 : V → V → SK) (x5 x6 : V) : SK := tI (z208 2 2 16 [(14,x5),(15,x6)]) x5 x6 fun x7 => tB eqlD (z208 2 3 17 [(16,x7)]) x7 q34 fun x8 => tG0 (c208_15 k j1 x5 x6 x8) x8 fun r => r x5
noncomputable def c208_17 (k : KR) (j0 : V → SK) (j1 : V → V → SK) (x3 x4 : V) : SK := jn (c208_16 k j1) fun j4 => tLt (z208 1 2 10 [(9,x3)]) x3 fun x46 => tB lssD (z208 1 3 11 [(8,x4),(10,x46)]) x4 x46 fun x47 => tJ x47 (j4 x3 x4) (j0 x4)
noncomputable def c208_18 (k : KR) (x0 x1 : V) : SK := jn (c208_0 k) fun j0 => lp (fun _ _ => badK) (c208_17 k j0) 1000000 x0 x1
noncomputable def F208 : FF := fT [0,1] c208_18 (fb 208)
noncomputable def z209 (r i d : Nat) (l : LE) : (V → SK) → SK := zS 114 (S 209 r i) d l
noncomputable def y209 (r i : Nat) (l : LE) : SK → SK := zN 114 (S 209 r i) l
noncomputable def zb209 (r i d : Nat) (l : LE) : (V → SK) → SK := zS 114 (Sb 209 r i) d l
noncomputable def c209_0 (k : KR) (x14 x15 x16 : V) : SK := tLs L3 x16 fun x17 => tFa x16 n1 fun x18 => tL x18 fun x19 => tLt (z209 26 4 112 [(111,x19)]) x19 fun x20 => tB addD (z209 26 5 113 [(109,x14),(112,x20)]) x14 x20 fun x21 => tSs M3 (y209 26 6 [(4,x15),(108,x17)]) x15 x17 (tQ x19 x18 (zA 114 (SA 209 26 4) [(112,x20),(111,x19)] (lvT (rZ 114 (RS 209) [(4,x15),(5,x21),(6,q1)]) k)))
noncomputable def c209_1 (k : KR) (x7 x8 x9 x11 x12 : V) : SK := tS (y209 23 5 [(101,x12)]) x12 q27 (tFa x9 n1 fun x13 => tS (y209 23 7 [(102,x13),(100,x11)]) x13 x11 (jn (c209_0 k) fun j0 => tFa x9 n1 fun x22 => tL x22 fun x23 => tT eqlTD (z209 24 2 105 [(104,x23)]) x23 q63 fun x24 => tJ x24 (tA (xcC (.int .i64 0) (xcC (.str 0 0) (xcC (.int .i64 0) xcN))) (z209 25 0 106 []) fun x25 => tSs M3 (y209 25 2 [(4,x8),(106,x25)]) x8 x25 (lvT (rZ 114 (RS 209) [(4,x8),(5,x7),(6,q37)]) k)) (j0 x7 x8 x9)))
noncomputable def c209_2 (k : KR) (x6 x7 x8 x9 : V) : SK := (z209 23 2 99 [(97,x6),(98,x7)]) fun x10 => tC [x10] n245 fun x11 => tFa x9 n0 fun x12 => c209_1 k x7 x8 x9 x11 x12
noncomputable def c209_3 (k : KR) (x35 x36 x37 : V) : SK := tLs L3 x36 fun x38 => tSs M3 (y209 10 2 [(4,x35),(51,x38)]) x35 x38 (lvT (rZ 114 (RS 209) [(4,x35),(5,x37),(6,q1)]) k)
noncomputable def c209_4 (k : KR) (x27 x28 x29 x30 x31 : V) : SK := (z209 7 3 44 [(41,x27),(42,x28),(43,x31)]) fun x32 => tFa x30 n0 fun x33 => tS (y209 7 5 [(45,x33)]) x33 q3 (tFa x30 n1 fun x34 => tS (y209 7 7 [(46,x34),(44,x32)]) x34 x32 (jn (c209_3 k) fun j2 => tFa x30 n1 fun x39 => tL x39 fun x40 => tC [x40] n242 fun x41 => tJ x41 (tFa x30 n0 fun x42 => tS (y209 9 1 [(50,x42)]) x42 q31 (j2 x29 x30 x31)) (j2 x29 x30 x31)))
noncomputable def c209_5 (j4 : V → V → V → V → V → SK) (x48 x49 x50 x51 x52 : V) : SK := tB addD (z209 6 1 40 [(39,x52)]) x52 q3 fun x53 => j4 x48 x49 x50 x51 x53
noncomputable def c209_6 (j3 : V → V → V → V → V → SK) (j5 : V → V → V → V → V → SK) (x43 x44 x45 x46 x47 x55 : V) (x65 : V) : SK := tK x55 x65 q0 fun x66 => tJ x66 (j5 x43 x44 x45 x46 x47) (j3 x43 x44 x45 x46 x47)
noncomputable def c209_7 (j3 : V → V → V → V → V → SK) (j5 : V → V → V → V → V → SK) (x43 x44 x45 x46 x47 x55 x60 : V) (x64 : V) : SK := tG1 (c209_6 j3 j5 x43 x44 x45 x46 x47 x55) x55 fun r => tK x60 q30 x64 r
noncomputable def c209_8 (j3 : V → V → V → V → V → SK) (j5 : V → V → V → V → V → SK) (x43 x44 x45 x46 x47 x55 x60 : V) (x63 : V) : SK := tG0 (c209_7 j3 j5 x43 x44 x45 x46 x47 x55 x60) x60 fun r => tC [x63] n241 r
noncomputable def c209_9 (j3 : V → V → V → V → V → SK) (j5 : V → V → V → V → V → SK) (x43 x44 x45 x46 x47 x55 x60 x61 : V) (x62 : V) : SK := tG0 (c209_8 j3 j5 x43 x44 x45 x46 x47 x55 x60) x60 fun r => tI (zb209 5 12 35 [(33,x61),(34,x62)]) x61 x62 r
noncomputable def c209_10 (j3 : V → V → V → V → V → SK) (j5 : V → V → V → V → V → SK) (x43 x44 x45 x46 x47 x55 x60 : V) (x61 : V) : SK := tG0 (c209_9 j3 j5 x43 x44 x45 x46 x47 x55 x60 x61) x60 fun r => r x47
noncomputable def c209_11 (j3 : V → V → V → V → V → SK) (j5 : V → V → V → V → V → SK) (x43 x44 x45 x46 x47 x55 : V) (x60 : V) : SK := tG0 (c209_10 j3 j5 x43 x44 x45 x46 x47 x55 x60) x60 fun r => r x43
noncomputable def c209_12 (j3 : V → V → V → V → V → SK) (j5 : V → V → V → V → V → SK) (x43 x44 x45 x46 x47 x55 : V) (x59 : V) : SK := tG1 (c209_11 j3 j5 x43 x44 x45 x46 x47 x55) x55 fun r => r x59
noncomputable def c209_13 (j3 : V → V → V → V → V → SK) (j5 : V → V → V → V → V → SK) (x43 x44 x45 x46 x47 x55 : V) (x58 : V) : SK := tG1 (c209_12 j3 j5 x43 x44 x45 x46 x47 x55) x55 fun r => tC [x58] n240 r
noncomputable def c209_14 (j3 : V → V → V → V → V → SK) (j5 : V → V → V → V → V → SK) (x43 x44 x45 x46 x47 x55 x56 : V) (x57 : V) : SK := tG1 (c209_13 j3 j5 x43 x44 x45 x46 x47 x55) x55 fun r => tI (zb209 5 7 30 [(28,x56),(29,x57)]) x56 x57 r
noncomputable def c209_15 (j3 : V → V → V → V → V → SK) (j5 : V → V → V → V → V → SK) (x43 x44 x45 x46 x47 x55 : V) (x56 : V) : SK := tG1 (c209_14 j3 j5 x43 x44 x45 x46 x47 x55 x56) x55 fun r => r x47
noncomputable def c209_16 (j3 : V → V → V → V → V → SK) (j4 : V → V → V → V → V → SK) (x43 x44 x45 x46 x47 : V) : SK := jn (c209_5 j4) fun j5 => tLt (z209 5 2 25 [(24,x43)]) x43 fun x54 => tB lssD (z209 5 3 26 [(23,x47),(25,x54)]) x47 x54 fun x55 => tG1 (c209_15 j3 j5 x43 x44 x45 x46 x47 x55) x55 fun r => r x43
noncomputable def c209_17 (k : KR) (x71 x72 x73 x74 x75 : V) : SK := (z209 15 3 70 [(67,x71),(68,x72),(69,x75)]) fun x76 => tFa x74 n0 fun x77 => tS (y209 15 5 [(71,x77)]) x77 q5 (tFa x74 n1 fun x78 => tS (y209 15 7 [(72,x78),(70,x76)]) x78 x76 (tLs L3 x74 fun x79 => tSs M3 (y209 16 2 [(4,x73),(73,x79)]) x73 x79 (lvT (rZ 114 (RS 209) [(4,x73),(5,x75),(6,q1)]) k)))
noncomputable def c209_18 (k : KR) (x89 x90 x91 x92 : V) : SK := tFa x90 n0 fun x93 => tS (y209 21 2 [(93,x93)]) x93 q37 (tFa x90 n1 fun x94 => tS (y209 21 4 [(94,x94),(92,x91)]) x94 x91 (tLs L3 x90 fun x95 => tSs M3 (y209 22 2 [(4,x89),(95,x95)]) x89 x95 (lvT (rZ 114 (RS 209) [(4,x89),(5,x92),(6,q1)]) k)))
noncomputable def c209_19 (k : KR) (j1 : V → V → V → V → SK) (x0 x1 x2 x4 x82 : V) (x84 : V) : SK := tK x82 q30 x84 fun x85 => tJ x85 (tC [x0,x1] n244 fun x86 => tX x86 n0 fun x87 => tX x86 n1 fun x88 => jn (c209_18 k) fun j7 => tB eqlD (z209 19 1 89 [(88,x88)]) x88 q1 fun x96 => tJ x96 (tA (xcC (.int .i64 0) (xcC (.str 0 0) (xcC (.int .i64 0) xcN))) (z209 20 0 90 []) fun x97 => tSs M3 (y209 20 2 [(4,x2),(90,x97)]) x2 x97 (lvT (rZ 114 (RS 209) [(4,x2),(5,x1),(6,q37)]) k)) (j7 x2 x4 x87 x88)) (j1 x0 x1 x2 x4)
noncomputable def c209_20 (k : KR) (j1 : V → V → V → V → SK) (x0 x1 x2 x4 x82 : V) (x83 : V) : SK := tG0 (c209_19 k j1 x0 x1 x2 x4 x82) x82 fun r => tB eqlD (zb209 17 4 80 [(79,x83)]) x83 q211 r
noncomputable def c209_21 (k : KR) (j1 : V → V → V → V → SK) (x0 x1 x2 x4 x5 x67 : V) : SK := tJ x67 (tC [x0,x1] n243 fun x68 => tX x68 n0 fun x69 => tX x68 n1 fun x70 => jn (c209_17 k) fun j6 => tB neqD (z209 13 1 63 [(62,x70)]) x70 q1 fun x80 => tJ x80 (tA (xcC (.int .i64 0) (xcC (.str 0 0) (xcC (.int .i64 0) xcN))) (z209 14 0 64 []) fun x81 => tSs M3 (y209 14 3 [(4,x2),(64,x81)]) x2 x81 (lvT (rZ 114 (RS 209) [(4,x2),(5,x1),(6,x70)]) k)) (j6 x0 x1 x2 x4 x69)) (tB eqlD (z209 17 1 77 [(76,x5)]) x5 q212 fun x82 => tG0 (c209_20 k j1 x0 x1 x2 x4 x82) x82 fun r => r x5)
noncomputable def c209_22 (k : KR) (x0 x1 x2 : V) : SK := tA (xcC (.int .i64 0) (xcC (.str 0 0) (xcO x1 xcN))) (z209 1 1 15 [(14,x1)]) fun x3 => tAl 225 3 Z13 fun x4 => tSs M3 (y209 1 3 [(7,x4),(15,x3)]) x4 x3 (tI (z209 2 2 18 [(16,x0),(17,x1)]) x0 x1 fun x5 => jn (c209_2 k) fun j1 => tC [x5] n240 fun x26 => tJ x26 (jn (c209_4 k) fun j3 => lp (fun _ _ _ _ _ => badK) (c209_16 j3) 1000000 x0 x1 x2 x4 x1) (tC [x5] n241 fun x67 => c209_21 k j1 x0 x1 x2 x4 x5 x67))
noncomputable def c209_23 (k : KR) (x0 x1 : V) : SK := tAl 225 3 Z13 fun x2 => c209_22 k x0 x1 x2
noncomputable def F209 : FF := fT [0,1] c209_23 (fb 209)
noncomputable def z211 (r i d : Nat) (l : LE) : (V → SK) → SK := zS 68 (S 211 r i) d l
noncomputable def y211 (r i : Nat) (l : LE) : SK → SK := zN 68 (S 211 r i) l
noncomputable def zb211 (r i d : Nat) (l : LE) : (V → SK) → SK := zS 68 (Sb 211 r i) d l
noncomputable def c211_0 (j0 : V → V → V → V → V → SK) (x47 x48 x49 x50 x51 x52 x53 : V) : SK := tLs L5 x51 fun x54 => tB addD (z211 15 5 64 [(63,x48)]) x48 q3 fun x55 => tC [x47,x55] n211 fun x56 => zA 68 (SA 211 15 2) [(61,x54),(6,x51)] (tR (rwC x54 (rwC x56 rwN)) 5 2 10 fun x57 => tA (xcO x53 (xcC (.str 0 0) (xcC (.int .i64 0) (xcO x52 (xcO x57 xcN))))) (z211 15 8 67 [(59,x53),(60,x52),(66,x57)]) fun x58 => tSs M5 (y211 15 9 [(6,x51),(67,x58)]) x51 x58 (j0 x47 x48 x49 x50 x51))
noncomputable def c211_1 (j0 : V → V → V → V → V → SK) (x35 x36 x37 x38 x39 x40 : V) : SK := tN (z211 11 1 51 [(50,x35)]) x35 fun x41 => tFa x41 n1 fun x42 => tL x42 fun x43 => tB addD (z211 11 4 54 [(53,x43)]) x43 q3 fun x44 => tN (z211 11 5 55 [(50,x35)]) x35 fun x45 => tFa x45 n1 fun x46 => tS (y211 11 7 [(56,x46),(54,x44)]) x46 x44 (jn (c211_0 j0) fun j1 => tB lssD (z211 13 1 58 [(57,x36)]) x36 q31 fun x59 => tJ x59 (j1 x35 x36 x37 x38 x39 x40 q101) (j1 x35 x36 x37 x38 x39 x40 q97))
noncomputable def c211_2 (k : KR) (j0 : V → V → V → V → V → SK) (x18 x19 x20 x21 x22 x25 x28 : V) : SK := tL x28 fun x29 => tIa (z211 8 10 42 [(40,x21),(41,x19)]) x21 x19 n1 fun x30 => tL x30 fun x31 => tIa (z211 8 12 44 [(43,x31)]) x31 q3 n1 fun x32 => tL x32 fun x33 => tC [x25,x29,x33] n173 fun x34 => jn (c211_1 j0) fun j2 => tB eqlD (z211 9 1 48 [(47,x34)]) x34 q1 fun x60 => tJ x60 (tLs L5 x22 fun x61 => tSs M5 (y211 10 1 [(4,x20),(49,x61)]) x20 x61 (lvT (rZ 68 (RS 211) [(4,x20)]) k)) (j2 x18 x19 x20 x21 x22 x34)
noncomputable def c211_3 (k : KR) (j0 : V → V → V → V → V → SK) (x18 x19 x20 x21 x22 x23 : V) : SK := tFa x23 n1 fun x24 => tL x24 fun x25 => tIa (z211 8 4 36 [(34,x21),(35,x19)]) x21 x19 n1 fun x26 => tL x26 fun x27 => tIa (z211 8 6 38 [(37,x27)]) x27 q1 n1 fun x28 => c211_2 k j0 x18 x19 x20 x21 x22 x25 x28
noncomputable def c211_4 (k : KR) (j3 : V → V → V → V → V → V → SK) (x11 x12 x13 x14 x15 x17 x64 : V) (x67 : V) : SK := tK x64 x67 q0 fun x68 => tJ x68 (tLs L5 x15 fun x69 => tSs M5 (y211 7 1 [(4,x13),(31,x69)]) x13 x69 (lvT (rZ 68 (RS 211) [(4,x13)]) k)) (j3 x11 x12 x13 x14 x15 x17)
noncomputable def c211_5 (k : KR) (j3 : V → V → V → V → V → V → SK) (x11 x12 x13 x14 x15 x17 x64 : V) (x66 : V) : SK := tG1 (c211_4 k j3 x11 x12 x13 x14 x15 x17 x64) x64 fun r => tB neqD (zb211 6 6 29 [(28,x66)]) x66 q31 r
noncomputable def c211_6 (k : KR) (j3 : V → V → V → V → V → V → SK) (x11 x12 x13 x14 x15 x17 x64 : V) (x65 : V) : SK := tG1 (c211_5 k j3 x11 x12 x13 x14 x15 x17 x64) x64 fun r => tL x65 r
noncomputable def c211_7 (k : KR) (j0 : V → V → V → V → V → SK) (x11 x12 x13 x14 x15 : V) : SK := tC [x11,q1] n124 fun x16 => tAl 225 3 Z13 fun x17 => tSs M3 (y211 5 3 [(7,x17),(22,x16)]) x17 x16 (jn (c211_3 k j0) fun j3 => tFa x17 n0 fun x62 => tL x62 fun x63 => tB neqD (z211 6 2 25 [(24,x63)]) x63 q27 fun x64 => tG1 (c211_6 k j3 x11 x12 x13 x14 x15 x17 x64) x64 fun r => tFa x17 n0 r)
noncomputable def c211_8 (k : KR) (x4 x5 x6 x7 : V) : SK := tB addD (z211 4 2 19 [(18,x5)]) x5 q3 fun x8 => tC [x4,x8] n211 fun x9 => tAl 100 5 Z5 fun x10 => tSs M5 (y211 4 5 [(6,x10),(20,x9)]) x10 x9 (lp (fun _ _ _ _ _ => badK) (c211_7 k) 1000000 x4 x5 x6 x7 x10)
noncomputable def c211_9 (k : KR) (x0 x1 : V) : SK := tAl 100 5 Z5 fun x2 => tC [] n246 fun x3 => jn (c211_8 k) fun j4 => tLl (z211 2 2 13 [(12,x3)]) x3 fun x70 => tB eqlD (z211 2 3 14 [(11,x1),(13,x70)]) x1 x70 fun x71 => tJ x71 (tC [x0] n247 fun x72 => tSs M5 (y211 3 2 [(4,x2),(16,x72)]) x2 x72 (lvT (rZ 68 (RS 211) [(4,x2)]) k)) (j4 x0 x1 x2 x3)
noncomputable def F211 : FF := fT [0,1] c211_9 (fb 211)
noncomputable def z212 (r i d : Nat) (l : LE) : (V → SK) → SK := zS 13 (S 212 r i) d l
noncomputable def zb212 (r i d : Nat) (l : LE) : (V → SK) → SK := zS 13 (Sb 212 r i) d l
noncomputable def c212_0 (k : KR) (x1 : V) : SK := tC [] n248 fun x2 => tIa (z212 3 2 11 [(9,x2),(10,x1)]) x2 x1 n1 fun x3 => tL x3 fun x4 => rA x4 k
noncomputable def c212_1 (k : KR) (j0 : V → SK) (x0 x5 : V) (x7 : V) : SK := tK x5 q30 x7 fun x8 => tJ x8 (rA q63 k) (j0 x0)
noncomputable def c212_2 (k : KR) (j0 : V → SK) (x0 x5 : V) (x6 : V) : SK := tG0 (c212_1 k j0 x0 x5) x5 fun r => tB gtrD (zb212 1 4 7 [(6,x6)]) x6 q117 r
noncomputable def c212_3 (k : KR) (x0 : V) : SK := jn (c212_0 k) fun j0 => tB lssD (z212 1 1 4 [(3,x0)]) x0 q3 fun x5 => tG0 (c212_2 k j0 x0 x5) x5 fun r => r x0
noncomputable def F212 : FF := fT [0] c212_3 (fb 212)
noncomputable def z214 (r i d : Nat) (l : LE) : (V → SK) → SK := zS 24 (S 214 r i) d l
noncomputable def c214_0 (k : KR) : SK := rA q68 k
noncomputable def c214_1 (j1 : V → V → V → V → SK) (x15 x16 x17 x18 : V) : SK := tB addD (z214 6 0 23 [(12,x18)]) x18 q3 fun x19 => j1 x15 x16 x17 x19
noncomputable def c214_2 (k : KR) (j1 : V → V → V → V → SK) (x11 x12 x13 x14 : V) : SK := jn (c214_1 j1) fun j2 => tIa (z214 3 0 14 [(10,x12),(12,x14)]) x12 x14 n1 fun x20 => tL x20 fun x21 => tN (z214 4 1 17 [(16,x21)]) x21 fun x22 => tFa x22 n0 fun x23 => tL x23 fun x24 => tT eqlTD (z214 4 5 21 [(19,x24),(20,x11)]) x24 x11 fun x25 => tJ x25 (rA x21 k) (j2 x11 x12 x13 x14)
noncomputable def c214_3 (k : KR) (j0 : SK) (j1 : V → V → V → V → SK) (x6 x7 x8 x9 : V) : SK := tB lssD (z214 2 0 13 [(12,x9),(11,x8)]) x9 x8 fun x10 => jn (c214_2 k j1) fun j3 => tJ x10 (j3 x6 x7 x8 x9) (j0)
noncomputable def c214_4 (k : KR) (x0 x1 : V) : SK := jn (c214_0 k) fun j0 => tN (z214 1 1 8 [(7,x0)]) x0 fun x2 => tFa x2 n0 fun x3 => tL x3 fun x4 => tLl (z214 1 4 11 [(10,x4)]) x4 fun x5 => lp (fun _ _ _ _ => badK) (c214_3 k j0) 1000000 x1 x4 x5 q1
noncomputable def F214 : FF := fT [0,1] c214_4 (fb 214)
noncomputable def z215 (r i d : Nat) (l : LE) : (V → SK) → SK := zS 66 (S 215 r i) d l
noncomputable def y215 (r i : Nat) (l : LE) : SK → SK := zN 66 (S 215 r i) l
noncomputable def zb215 (r i d : Nat) (l : LE) : (V → SK) → SK := zS 66 (Sb 215 r i) d l
noncomputable def c215_0 (k : KR) (x4 x5 : V) : SK := tN (z215 12 2 62 [(61,x5)]) x5 fun x6 => tFa x6 n1 fun x7 => tL x7 fun x8 => tC [x4,x8] n259 fun _ => rA q68 k
noncomputable def c215_1 (j1 : V → V → V → V → SK) (x18 x19 x20 x21 : V) : SK := tN (z215 11 1 15 [(14,x21)]) x21 fun x22 => tFa x22 n1 fun x23 => tL x23 fun x24 => j1 x18 x19 x20 x24
noncomputable def c215_2 (k : KR) (x34 x35 x36 : V) : SK := tN (z215 9 2 55 [(54,x35)]) x35 fun x37 => tFa x37 n1 fun x38 => tL x38 fun x39 => tC [x34,x39] n259 fun _ => rA x36 k
noncomputable def c215_3 (k : KR) (x29 x30 x33 x47 : V) (x53 : V) : SK := tK x47 q30 x53 fun x54 => tN (z215 6 13 44 [(31,x33)]) x33 fun x55 => tFa x55 n2 fun x56 => tS (y215 6 15 [(45,x56),(43,x54)]) x56 x54 (tN (z215 7 1 47 [(46,x29)]) x29 fun x57 => tFa x57 n2 fun x58 => tL x58 fun x59 => y215 7 6 [(49,x59),(50,x30),(51,x33)] (rA x33 k))
noncomputable def c215_4 (k : KR) (x29 x30 x33 x47 x51 : V) (x52 : V) : SK := tG0 (c215_3 k x29 x30 x33 x47) x47 fun r => tP (zb215 6 11 42 [(40,x51),(41,x52)]) x51 x52 vFalse vTrue r
noncomputable def c215_5 (k : KR) (x29 x30 x31 x33 x47 : V) (x51 : V) : SK := tG0 (c215_4 k x29 x30 x33 x47 x51) x47 fun r => r x31
noncomputable def c215_6 (k : KR) (x29 x30 x31 x33 x47 : V) (x50 : V) : SK := tG0 (c215_5 k x29 x30 x31 x33 x47) x47 fun r => tL x50 r
noncomputable def c215_7 (k : KR) (x29 x30 x31 x33 x47 : V) (x49 : V) : SK := tG0 (c215_6 k x29 x30 x31 x33 x47) x47 fun r => tFa x49 n2 r
noncomputable def c215_8 (k : KR) (x29 x30 x31 x33 x47 : V) (x48 : V) : SK := tG0 (c215_7 k x29 x30 x31 x33 x47) x47 fun r => tN (zb215 6 7 38 [(37,x48)]) x48 r
noncomputable def c215_9 (k : KR) (x29 x30 x31 x32 x33 : V) : SK := jn (c215_2 k) fun j3 => tN (z215 5 1 27 [(26,x32)]) x32 fun x41 => tFa x41 n3 fun x42 => tL x42 fun x43 => tNot x43 fun x44 => tJ x44 (tN (z215 6 2 33 [(32,x33)]) x33 fun x45 => tFa x45 n2 fun x46 => tL x46 fun x47 => tG0 (c215_8 k x29 x30 x31 x33 x47) x47 fun r => r x32) (j3 x29 x30 x33)
noncomputable def c215_10 (k : KR) (j1 : V → V → V → V → SK) (x14 x15 x16 x17 : V) : SK := jn (c215_1 j1) fun j2 => tN (z215 3 2 20 [(19,x15)]) x15 fun x25 => tFa x25 n1 fun x26 => tL x26 fun x27 => tC [x17,x27] n214 fun x28 => jn (c215_9 k) fun j4 => tP (z215 4 1 25 [(24,x28)]) x28 q68 vTrue vFalse fun x60 => tJ x60 (j2 x14 x15 x16 x17) (j4 x14 x15 x16 x17 x28)
noncomputable def c215_11 (k : KR) (j0 : V → V → SK) (j1 : V → V → V → V → SK) (x10 x11 x12 x13 : V) : SK := jn (c215_10 k j1) fun j5 => tP (z215 2 1 13 [(12,x13)]) x13 q68 vFalse vTrue fun x61 => tJ x61 (j5 x10 x11 x12 x13) (j0 x10 x11)
noncomputable def c215_12 (k : KR) (x0 x1 x2 x3 : V) : SK := jn (c215_0 k) fun j0 => lp (fun _ _ _ _ => badK) (c215_11 k j0) 1000000 x0 x1 x3 x2
noncomputable def F215 : FF := fT [0,1,2,3] c215_12 (fb 215)
noncomputable def z216 (r i d : Nat) (l : LE) : (V → SK) → SK := zS 22 (S 216 r i) d l
noncomputable def c216_0 (j0 : V → V → V → V → V → V → SK) (x18 x19 x20 x21 x22 x23 : V) : SK := tB addD (z216 4 0 21 [(11,x23)]) x23 q3 fun x24 => j0 x18 x19 x20 x21 x22 x24
noncomputable def c216_1 (j0 : V → V → V → V → V → V → SK) (x12 x13 x14 x15 x16 x17 : V) : SK := jn (c216_0 j0) fun j1 => tIa (z216 3 3 17 [(15,x13),(16,x17)]) x13 x17 n5 fun x25 => tC [x12,x25,x14,x15] n179 fun _ => j1 x12 x13 x14 x15 x16 x17
noncomputable def c216_2 (k : KR) (j0 : V → V → V → V → V → V → SK) (x5 x6 x7 x8 x9 x10 : V) : SK := tB lssD (z216 1 0 12 [(11,x10),(10,x9)]) x10 x9 fun x11 => jn (c216_1 j0) fun j2 => tJ x11 (j2 x5 x6 x7 x8 x9 x10) (lvT (rW rwN) k)
noncomputable def c216_3 (k : KR) (x0 x1 x2 x3 : V) : SK := tLl (z216 0 1 10 [(9,x1)]) x1 fun x4 => lp (fun _ _ _ _ _ _ => badK) (c216_2 k) 1000000 x0 x1 x2 x3 x4 q1
noncomputable def F216 : FF := fT [0,1,2,3] c216_3 (fb 216)
noncomputable def z221 (r i d : Nat) (l : LE) : (V → SK) → SK := zS 35 (S 221 r i) d l
noncomputable def y221 (r i : Nat) (l : LE) : SK → SK := zN 35 (S 221 r i) l
noncomputable def c221_0 (k : KR) (x3 x8 x9 : V) : SK := tR (rwC x9 rwN) 3 1 3 fun x10 => tAp Tryz.prog 194 false 3 x8 x10 fun x11 => tN (z221 4 9 25 [(16,x3)]) x3 fun x12 => tFa x12 n1 fun x13 => tFa x13 n5 fun x14 => tS (y221 4 12 [(27,x14),(24,x11)]) x14 x11 (tN (z221 5 1 29 [(28,x3)]) x3 fun x15 => tFa x15 n1 fun x16 => tFa x16 n5 fun x17 => tL x17 fun x18 => tLl (z221 5 5 33 [(32,x18)]) x18 fun x19 => tB subD (z221 5 6 34 [(33,x19)]) x19 q3 fun x20 => rA x20 k)
noncomputable def c221_1 (k : KR) (x3 x4 : V) : SK := tN (z221 4 2 18 [(17,x3)]) x3 fun x5 => tFa x5 n1 fun x6 => tFa x6 n5 fun x7 => tL x7 fun x8 => tLs L3 x4 fun x9 => c221_0 k x3 x8 x9
noncomputable def c221_2 (k : KR) (x0 x1 : V) : SK := tBx x1 fun x2 => jn (c221_1 k) fun j0 => tN (z221 1 1 7 [(6,x0)]) x0 fun x21 => tFa x21 n1 fun x22 => tFa x22 n5 fun x23 => tL x23 fun x24 => tLs L3 x2 fun x25 => tC [x24,x25] n261 fun x26 => tB geqD (z221 2 1 14 [(13,x26)]) x26 q1 fun x27 => tJ x27 (rA x26 k) (j0 x0 x2)
noncomputable def F221 : FF := fT [0,1] c221_2 (fb 221)
noncomputable def z232 (r i d : Nat) (l : LE) : (V → SK) → SK := zS 54 (S 232 r i) d l
noncomputable def y232 (r i : Nat) (l : LE) : SK → SK := zN 54 (S 232 r i) l
noncomputable def zb232 (r i d : Nat) (l : LE) : (V → SK) → SK := zS 54 (Sb 232 r i) d l
noncomputable def c232_0 (k : KR) (x26 x27 : V) : SK := tLs L7 x27 fun x28 => tSs M7 (y232 7 1 [(2,x26),(53,x28)]) x26 x28 (lvT (rZ 54 (RS 232) [(2,x26),(3,q1)]) k)
noncomputable def c232_1 (j0 : V → V → SK) (x3 x6 x32 : V) (x34 : V) : SK := tK x32 q30 x34 fun x35 => tJ x35 (tFa x6 n5 fun x36 => tS (y232 6 1 [(52,x36)]) x36 q143 (j0 x3 x6)) (j0 x3 x6)
noncomputable def c232_2 (j0 : V → V → SK) (x3 x6 x32 : V) (x33 : V) : SK := tG0 (c232_1 j0 x3 x6 x32) x32 fun r => tB eqlD (zb232 5 8 50 [(49,x33)]) x33 q88 r
noncomputable def c232_3 (j0 : V → V → SK) (x2 x3 x6 x29 : V) (x31 : V) : SK := tK x29 q30 x31 fun x32 => tG0 (c232_2 j0 x3 x6 x32) x32 fun r => r x2
noncomputable def c232_4 (j0 : V → V → SK) (x2 x3 x6 x29 : V) (x30 : V) : SK := tG0 (c232_3 j0 x2 x3 x6 x29) x29 fun r => tB eqlD (zb232 5 4 46 [(45,x30)]) x30 q83 r
noncomputable def c232_5 (k : KR) (x2 x3 x6 x9 x10 x13 x19 : V) : SK := tA (xcO x9 (xcO x10 (xcC (.int .i64 0) (xcC (.int .i64 0) (xcO x13 (xcC (.int .i64 0) (xcO x19 xcN))))))) (z232 3 22 34 [(15,x9),(17,x10),(23,x13),(33,x19)]) fun x20 => tSs M7 (y232 3 24 [(4,x6),(34,x20)]) x6 x20 (tC [x2] n271 fun x21 => tX x21 n0 fun x22 => tX x21 n1 fun x23 => tFa x6 n2 fun x24 => tS (y232 4 6 [(40,x24),(38,x22)]) x24 x22 (tFa x6 n3 fun x25 => tS (y232 4 8 [(41,x25),(39,x23)]) x25 x23 (jn (c232_0 k) fun j0 => tB eqlD (z232 5 1 43 [(42,x2)]) x2 q84 fun x29 => tG0 (c232_4 j0 x2 x3 x6 x29) x29 fun r => r x2)))
noncomputable def c232_6 (k : KR) (x2 x3 x6 x9 x10 x13 x16 : V) (x18 : V) : SK := tK x16 q30 x18 fun x19 => c232_5 k x2 x3 x6 x9 x10 x13 x19
noncomputable def c232_7 (k : KR) (x2 x3 x6 x9 x10 x13 x16 : V) (x17 : V) : SK := tG0 (c232_6 k x2 x3 x6 x9 x10 x13 x16) x16 fun r => tB eqlD (zb232 3 20 32 [(31,x17)]) x17 q85 r
noncomputable def c232_8 (k : KR) (x2 x3 x5 x6 x9 x10 x13 : V) (x15 : V) : SK := tK x5 q30 x15 fun x16 => tG0 (c232_7 k x2 x3 x6 x9 x10 x13 x16) x16 fun r => r x2
noncomputable def c232_9 (k : KR) (x2 x3 x5 x6 x9 x10 x13 : V) (x14 : V) : SK := tG0 (c232_8 k x2 x3 x5 x6 x9 x10 x13) x5 fun r => tB eqlD (zb232 3 16 28 [(27,x14)]) x14 q89 r
noncomputable def c232_10 (k : KR) (x2 x3 x4 x5 x6 x9 x10 : V) (x12 : V) : SK := tK x4 q30 x12 fun x13 => tG0 (c232_9 k x2 x3 x5 x6 x9 x10 x13) x5 fun r => r x2
noncomputable def c232_11 (k : KR) (x2 x3 x4 x5 x6 x9 x10 : V) (x11 : V) : SK := tG0 (c232_10 k x2 x3 x4 x5 x6 x9 x10) x4 fun r => tB eqlD (zb232 3 10 22 [(21,x11)]) x11 q91 r
noncomputable def c232_12 (k : KR) (x2 x3 x4 : V) : SK := tB eqlD (z232 3 13 25 [(24,x2)]) x2 q90 fun x5 => tAl 321 7 Z20 fun x6 => tC [] n269 fun x7 => zA 54 (SA 232 3 7) [(19,x4),(18,x2)] (zA 54 (SA 232 3 13) [(25,x5),(24,x2)] (tIa (z232 3 2 14 [(12,x7),(13,x2)]) x7 x2 n1 fun x8 => tL x8 fun x9 => tC [x2] n270 fun x10 => tQ x9 x8 (zA 54 (SA 232 3 7) [(19,x4),(18,x2)] (zA 54 (SA 232 3 13) [(25,x5),(24,x2)] (tG0 (c232_11 k x2 x3 x4 x5 x6 x9 x10) x4 fun r => r x2)))))
noncomputable def c232_13 (k : KR) (x2 x3 : V) : SK := tB eqlD (z232 3 7 19 [(18,x2)]) x2 q92 fun x4 => c232_12 k x2 x3 x4
noncomputable def c232_14 (k : KR) (j1 : V → V → SK) (x0 x1 x37 : V) (x39 : V) : SK := tK x37 q30 x39 fun x40 => tJ x40 (tA (xcC (.str 0 0) (xcC (.int .i64 0) (xcC (.int .i64 0) (xcC (.int .i64 0) (xcC (.bool false) (xcC (.int .i64 0) (xcC (.bool false) xcN))))))) (z232 2 0 11 []) fun x41 => tSs M7 (y232 2 1 [(2,x1),(11,x41)]) x1 x41 (lvT (rZ 54 (RS 232) [(2,x1),(3,q72)]) k)) (j1 x0 x1)
noncomputable def c232_15 (k : KR) (j1 : V → V → SK) (x0 x1 x37 : V) (x38 : V) : SK := tG0 (c232_14 k j1 x0 x1 x37) x37 fun r => tB gtrD (zb232 1 4 9 [(8,x38)]) x38 q86 r
noncomputable def c232_16 (k : KR) (x0 : V) : SK := tAl 321 7 Z20 fun x1 => jn (c232_13 k) fun j1 => tB lssD (z232 1 1 6 [(5,x0)]) x0 q3 fun x37 => tG0 (c232_15 k j1 x0 x1 x37) x37 fun r => r x0
noncomputable def F232 : FF := fT [0] c232_16 (fb 232)
noncomputable def z233 (r i d : Nat) (l : LE) : (V → SK) → SK := zS 73 (S 233 r i) d l
noncomputable def zb233 (r i d : Nat) (l : LE) : (V → SK) → SK := zS 73 (Sb 233 r i) d l
noncomputable def c233_0 (k : KR) (x28 : V) : SK := lvT (rW (rwC x28 (rwC q135 rwN))) k
noncomputable def c233_1 (k : KR) (x25 x26 : V) : SK := tCn (z233 21 1 68 [(67,x26)]) x26 .i64 fun x27 => jn (c233_0 k) fun j0 => tJ x25 ((z233 23 1 71 [(70,x27)]) fun x29 => j0 x29) (j0 x27)
noncomputable def c233_2 (k : KR) (j1 : V → V → SK) (x22 x23 x24 : V) (x32 : V) : SK := tK x22 x32 q0 fun x33 => tJ x33 (tCn (z233 20 1 64 [(63,x24)]) x24 .i64 fun x34 => (z233 20 2 65 [(64,x34)]) fun x35 => tIf q3 347 fun x36 => lvT (rW (rwC x35 (rwC x36 rwN))) k) (j1 x22 x23)
noncomputable def c233_3 (k : KR) (j1 : V → V → SK) (x22 x23 x24 x30 : V) (x31 : V) : SK := tG1 (c233_2 k j1 x22 x23 x24) x22 fun r => tB gtrD (zb233 19 4 61 [(59,x30),(60,x31)]) x30 x31 r
noncomputable def c233_4 (k : KR) (j1 : V → V → SK) (x22 x23 x24 : V) (x30 : V) : SK := tG1 (c233_3 k j1 x22 x23 x24 x30) x22 fun r => r x24
noncomputable def c233_5 (k : KR) (x22 x23 x24 : V) : SK := jn (c233_1 k) fun j1 => tG1 (c233_4 k j1 x22 x23 x24) x22 fun r => r x23
noncomputable def c233_6 (k : KR) (j2 : V → V → V → SK) (x17 x18 x21 x37 : V) (x40 : V) : SK := tK x37 x40 q0 fun x41 => tJ x41 (tB subD (z233 18 1 54 [(53,x21)]) x21 q214 fun x42 => tCn (z233 18 2 55 [(54,x42)]) x42 .i64 fun x43 => tIf q3 347 fun x44 => lvT (rW (rwC x43 (rwC x44 rwN))) k) (j2 x17 x18 x21)
noncomputable def c233_7 (k : KR) (j2 : V → V → V → SK) (x17 x18 x21 x37 x38 : V) (x39 : V) : SK := tG1 (c233_6 k j2 x17 x18 x21 x37) x37 fun r => tB geqD (zb233 17 5 51 [(49,x38),(50,x39)]) x38 x39 r
noncomputable def c233_8 (k : KR) (j2 : V → V → V → SK) (x17 x18 x21 x37 : V) (x38 : V) : SK := tG1 (c233_7 k j2 x17 x18 x21 x37 x38) x37 fun r => r x21
noncomputable def c233_9 (k : KR) (x16 x17 x18 : V) : SK := tB subD (z233 16 1 43 [(42,x16)]) x16 q3 fun x19 => tCn (z233 16 2 44 [(43,x19)]) x19 .u64 fun x20 => (z233 16 3 45 [(44,x20)]) fun x21 => jn (c233_5 k) fun j2 => tNot x17 fun x37 => tG1 (c233_8 k j2 x17 x18 x21 x37) x37 fun r => r x18
noncomputable def c233_10 (k : KR) (x13 x14 x15 : V) : SK := jn (c233_9 k) fun j3 => tB eqlD (z233 14 1 41 [(40,x13)]) x13 q1 fun x45 => tJ x45 (j3 q186 x14 x15) (j3 x13 x14 x15)
noncomputable def c233_11 (k : KR) (j4 : V → V → V → SK) (x8 x9 x11 x12 x46 : V) (x49 : V) : SK := tK x46 x49 q0 fun x50 => tJ x50 (lvT (rW (rwC q1 (rwC x12 rwN))) k) (j4 x8 x9 x11)
noncomputable def c233_12 (k : KR) (j4 : V → V → V → SK) (x8 x9 x11 x12 x46 x47 : V) (x48 : V) : SK := tG1 (c233_11 k j4 x8 x9 x11 x12 x46) x46 fun r => (zb233 12 5 37 [(35,x47),(36,x48)]) r
noncomputable def c233_13 (k : KR) (j4 : V → V → V → SK) (x8 x9 x11 x12 x46 : V) (x47 : V) : SK := tG1 (c233_12 k j4 x8 x9 x11 x12 x46 x47) x46 fun r => tIf q3 347 r
noncomputable def c233_14 (k : KR) (x6 x7 x8 x9 : V) : SK := tC [x6,x7,x8] n272 fun x10 => tX x10 n0 fun x11 => tX x10 n1 fun x12 => jn (c233_10 k) fun j4 => (z233 12 1 33 [(32,x12)]) fun x46 => tG1 (c233_13 k j4 x8 x9 x11 x12 x46) x46 fun r => r x12
noncomputable def c233_15 (k : KR) (x3 x4 x5 : V) : SK := jn (c233_14 k) fun j5 => tI (z233 4 1 16 [(15,x3)]) x3 q1 fun x51 => tB eqlD (z233 5 0 18 [(16,x51)]) x51 q216 fun x52 => tJ x52 ((z233 6 1 20 [(19,x3)]) fun x53 => j5 x53 x4 x5 q0) (tB eqlD (z233 7 0 22 [(16,x51)]) x51 q215 fun x54 => tJ x54 ((z233 8 1 24 [(23,x3)]) fun x55 => j5 x55 x4 x5 q30) (j5 x3 x4 x5 q0))
noncomputable def c233_16 (k : KR) (x0 x1 x2 : V) : SK := jn (c233_15 k) fun j6 => tT eqlTD (z233 1 1 13 [(12,x0)]) x0 q63 fun x56 => tJ x56 (tIf q31 347 fun x57 => lvT (rW (rwC q1 (rwC x57 rwN))) k) (j6 x0 x1 x2)
noncomputable def F233 : FF := fT [0,1,2] c233_16 (fb 233)
noncomputable def c237_0 (k : KR) (x0 x1 : V) : SK := tC [x0,x1] n281 fun x2 => rA x2 k
noncomputable def F237 : FF := fT [0,1] c237_0 (fb 237)
noncomputable def c238_0 (k : KR) (x0 x1 : V) : SK := tC [x0,x1] n282 fun x2 => rA x2 k
noncomputable def F238 : FF := fT [0,1] c238_0 (fb 238)
noncomputable def z240 (r i d : Nat) (l : LE) : (V → SK) → SK := zS 25 (S 240 r i) d l
noncomputable def zb240 (r i d : Nat) (l : LE) : (V → SK) → SK := zS 25 (Sb 240 r i) d l
noncomputable def c240_0 (k : KR) (x14 : V) (x16 : V) : SK := tK x14 q30 x16 fun x17 => rA x17 k
noncomputable def c240_1 (k : KR) (x14 : V) (x15 : V) : SK := tG0 (c240_0 k x14) x14 fun r => tB eqlD (zb240 1 20 23 [(22,x15)]) x15 q219 r
noncomputable def c240_2 (k : KR) (x0 x11 : V) (x13 : V) : SK := tK x11 q30 x13 fun x14 => tG0 (c240_1 k x14) x14 fun r => r x0
noncomputable def c240_3 (k : KR) (x0 x11 : V) (x12 : V) : SK := tG0 (c240_2 k x0 x11) x11 fun r => tB eqlD (zb240 1 16 19 [(18,x12)]) x12 q220 r
noncomputable def c240_4 (k : KR) (x0 x4 : V) (x10 : V) : SK := tK x4 q30 x10 fun x11 => tG0 (c240_3 k x0 x11) x11 fun r => r x0
noncomputable def c240_5 (k : KR) (x0 x4 x7 : V) (x9 : V) : SK := tG0 (c240_4 k x0 x4) x4 fun r => tK x7 x9 q0 r
noncomputable def c240_6 (k : KR) (x0 x4 x7 : V) (x8 : V) : SK := tG1 (c240_5 k x0 x4 x7) x7 fun r => tB leqD (zb240 1 11 14 [(13,x8)]) x8 q221 r
noncomputable def c240_7 (k : KR) (x0 x4 : V) (x7 : V) : SK := tG1 (c240_6 k x0 x4 x7) x7 fun r => r x0
noncomputable def c240_8 (k : KR) (x0 x4 : V) (x6 : V) : SK := tG0 (c240_7 k x0 x4) x4 fun r => r x6
noncomputable def c240_9 (k : KR) (x0 x4 : V) (x5 : V) : SK := tG0 (c240_8 k x0 x4) x4 fun r => tB geqD (zb240 1 8 11 [(10,x5)]) x5 q222 r
noncomputable def c240_10 (k : KR) (x0 x1 : V) (x3 : V) : SK := tK x1 x3 q0 fun x4 => tG0 (c240_9 k x0 x4) x4 fun r => r x0
noncomputable def c240_11 (k : KR) (x0 x1 : V) (x2 : V) : SK := tG1 (c240_10 k x0 x1) x1 fun r => tB leqD (zb240 1 4 7 [(6,x2)]) x2 q223 r
noncomputable def c240_12 (k : KR) (x0 : V) : SK := tB geqD (z240 1 1 4 [(3,x0)]) x0 q224 fun x1 => tG1 (c240_11 k x0 x1) x1 fun r => r x0
noncomputable def F240 : FF := fT [0] c240_12 (fb 240)
noncomputable def z241 (r i d : Nat) (l : LE) : (V → SK) → SK := zS 9 (S 241 r i) d l
noncomputable def zb241 (r i d : Nat) (l : LE) : (V → SK) → SK := zS 9 (Sb 241 r i) d l
noncomputable def c241_0 (k : KR) (x1 : V) (x3 : V) : SK := tK x1 x3 q0 fun x4 => rA x4 k
noncomputable def c241_1 (k : KR) (x1 : V) (x2 : V) : SK := tG1 (c241_0 k x1) x1 fun r => tB leqD (zb241 1 4 7 [(6,x2)]) x2 q225 r
noncomputable def c241_2 (k : KR) (x0 : V) : SK := tB geqD (z241 1 1 4 [(3,x0)]) x0 q226 fun x1 => tG1 (c241_1 k x1) x1 fun r => r x0
noncomputable def F241 : FF := fT [0] c241_2 (fb 241)
noncomputable def z242 (r i d : Nat) (l : LE) : (V → SK) → SK := zS 33 (S 242 r i) d l
noncomputable def c242_0 (k : KR) : SK := rA q0 k
noncomputable def c242_1 (k : KR) (j0 : SK) (x1 : V) : SK := tJ x1 (rA q30 k) (j0)
noncomputable def c242_2 (j1 : V → SK) (x0 : V) : SK := tT eqlTD (z242 24 0 27 [(3,x0)]) x0 q176 fun x24 => tJ x24 (j1 x24) (tT eqlTD (z242 25 0 28 [(3,x0)]) x0 q198 fun x25 => tJ x25 (j1 x25) (tT eqlTD (z242 26 0 29 [(3,x0)]) x0 q227 fun x26 => tJ x26 (j1 x26) (tT eqlTD (z242 27 0 30 [(3,x0)]) x0 q152 fun x27 => tJ x27 (j1 x27) (tT eqlTD (z242 28 0 31 [(3,x0)]) x0 q181 fun x28 => tJ x28 (j1 x28) (tT eqlTD (z242 29 0 32 [(3,x0)]) x0 q183 fun x29 => j1 x29)))))
noncomputable def c242_3 (j1 : V → SK) (x0 : V) : SK := tT eqlTD (z242 18 0 21 [(3,x0)]) x0 q187 fun x18 => tJ x18 (j1 x18) (tT eqlTD (z242 19 0 22 [(3,x0)]) x0 q196 fun x19 => tJ x19 (j1 x19) (tT eqlTD (z242 20 0 23 [(3,x0)]) x0 q179 fun x20 => tJ x20 (j1 x20) (tT eqlTD (z242 21 0 24 [(3,x0)]) x0 q228 fun x21 => tJ x21 (j1 x21) (tT eqlTD (z242 22 0 25 [(3,x0)]) x0 q177 fun x22 => tJ x22 (j1 x22) (tT eqlTD (z242 23 0 26 [(3,x0)]) x0 q218 fun x23 => tJ x23 (j1 x23) (c242_2 j1 x0))))))
noncomputable def c242_4 (j1 : V → SK) (x0 : V) : SK := tT eqlTD (z242 12 0 15 [(3,x0)]) x0 q157 fun x12 => tJ x12 (j1 x12) (tT eqlTD (z242 13 0 16 [(3,x0)]) x0 q182 fun x13 => tJ x13 (j1 x13) (tT eqlTD (z242 14 0 17 [(3,x0)]) x0 q231 fun x14 => tJ x14 (j1 x14) (tT eqlTD (z242 15 0 18 [(3,x0)]) x0 q230 fun x15 => tJ x15 (j1 x15) (tT eqlTD (z242 16 0 19 [(3,x0)]) x0 q140 fun x16 => tJ x16 (j1 x16) (tT eqlTD (z242 17 0 20 [(3,x0)]) x0 q229 fun x17 => tJ x17 (j1 x17) (c242_3 j1 x0))))))
noncomputable def c242_5 (j1 : V → SK) (x0 : V) : SK := tT eqlTD (z242 6 0 9 [(3,x0)]) x0 q175 fun x6 => tJ x6 (j1 x6) (tT eqlTD (z242 7 0 10 [(3,x0)]) x0 q232 fun x7 => tJ x7 (j1 x7) (tT eqlTD (z242 8 0 11 [(3,x0)]) x0 q174 fun x8 => tJ x8 (j1 x8) (tT eqlTD (z242 9 0 12 [(3,x0)]) x0 q217 fun x9 => tJ x9 (j1 x9) (tT eqlTD (z242 10 0 13 [(3,x0)]) x0 q197 fun x10 => tJ x10 (j1 x10) (tT eqlTD (z242 11 0 14 [(3,x0)]) x0 q180 fun x11 => tJ x11 (j1 x11) (c242_4 j1 x0))))))
noncomputable def c242_6 (k : KR) (x0 : V) : SK := jn (c242_0 k) fun j0 => jn (c242_1 k j0) fun j1 => tT eqlTD (z242 2 0 5 [(3,x0)]) x0 q172 fun x2 => tJ x2 (j1 x2) (tT eqlTD (z242 3 0 6 [(3,x0)]) x0 q233 fun x3 => tJ x3 (j1 x3) (tT eqlTD (z242 4 0 7 [(3,x0)]) x0 q178 fun x4 => tJ x4 (j1 x4) (tT eqlTD (z242 5 0 8 [(3,x0)]) x0 q139 fun x5 => tJ x5 (j1 x5) (c242_5 j1 x0))))
noncomputable def F242 : FF := fT [0] c242_6 (fb 242)
noncomputable def z243 (r i d : Nat) (l : LE) : (V → SK) → SK := zS 57 (S 243 r i) d l
noncomputable def zb243 (r i d : Nat) (l : LE) : (V → SK) → SK := zS 57 (Sb 243 r i) d l
noncomputable def c243_0 (k : KR) (x8 : V) : SK := lvT (rW (rwC x8 (rwC q1 rwN))) k
noncomputable def c243_1 (k : KR) (x5 x6 x7 : V) : SK := jn (c243_0 k) fun j0 => (z243 6 3 49 [(46,x5),(47,x6),(48,x7)]) fun x9 => tC [x9,q64,q186] n204 fun x10 => tX x10 n0 fun _ => tX x10 n1 fun x12 => (z243 7 1 54 [(53,x12)]) fun x13 => tJ x13 (lvT (rW (rwC x6 (rwC q27 rwN))) k) (j0 x7)
noncomputable def c243_2 (k : KR) (j1 : V → V → V → SK) (x2 x3 x4 x20 : V) (x30 : V) : SK := tK x20 q30 x30 fun x31 => tJ x31 (lvT (rW (rwC x3 (rwC q37 rwN))) k) (j1 x2 x3 x4)
noncomputable def c243_3 (k : KR) (j1 : V → V → V → SK) (x2 x3 x4 x20 x25 : V) (x29 : V) : SK := tG0 (c243_2 k j1 x2 x3 x4 x20) x20 fun r => tK x25 x29 q0 r
noncomputable def c243_4 (k : KR) (j1 : V → V → V → SK) (x2 x3 x4 x20 x25 : V) (x28 : V) : SK := tG1 (c243_3 k j1 x2 x3 x4 x20 x25) x25 fun r => tC [x28] n240 r
noncomputable def c243_5 (k : KR) (j1 : V → V → V → SK) (x2 x3 x4 x20 x25 x26 : V) (x27 : V) : SK := tG1 (c243_4 k j1 x2 x3 x4 x20 x25) x25 fun r => tI (zb243 4 18 40 [(38,x26),(39,x27)]) x26 x27 r
noncomputable def c243_6 (k : KR) (j1 : V → V → V → SK) (x2 x3 x4 x20 x25 : V) (x26 : V) : SK := tG1 (c243_5 k j1 x2 x3 x4 x20 x25 x26) x25 fun r => r x4
noncomputable def c243_7 (k : KR) (j1 : V → V → V → SK) (x2 x3 x4 x20 : V) (x25 : V) : SK := tG1 (c243_6 k j1 x2 x3 x4 x20 x25) x25 fun r => r x2
noncomputable def c243_8 (k : KR) (j1 : V → V → V → SK) (x2 x3 x4 x20 : V) (x24 : V) : SK := tG0 (c243_7 k j1 x2 x3 x4 x20) x20 fun r => r x24
noncomputable def c243_9 (k : KR) (j1 : V → V → V → SK) (x2 x3 x4 x20 x21 : V) (x23 : V) : SK := tG0 (c243_8 k j1 x2 x3 x4 x20) x20 fun r => tB lssD (zb243 4 14 36 [(33,x21),(35,x23)]) x21 x23 r
noncomputable def c243_10 (k : KR) (j1 : V → V → V → SK) (x2 x3 x4 x20 x21 : V) (x22 : V) : SK := tG0 (c243_9 k j1 x2 x3 x4 x20 x21) x20 fun r => tLt (zb243 4 13 35 [(34,x22)]) x22 r
noncomputable def c243_11 (k : KR) (j1 : V → V → V → SK) (x2 x3 x4 x20 : V) (x21 : V) : SK := tG0 (c243_10 k j1 x2 x3 x4 x20 x21) x20 fun r => r x2
noncomputable def c243_12 (k : KR) (j1 : V → V → V → SK) (x2 x3 x4 x15 : V) (x19 : V) : SK := tK x15 x19 q0 fun x20 => tG0 (c243_11 k j1 x2 x3 x4 x20) x20 fun r => r x4
noncomputable def c243_13 (k : KR) (j1 : V → V → V → SK) (x2 x3 x4 x15 x16 : V) (x18 : V) : SK := tG1 (c243_12 k j1 x2 x3 x4 x15) x15 fun r => tB gtrD (zb243 4 8 30 [(27,x16),(29,x18)]) x16 x18 r
noncomputable def c243_14 (k : KR) (j1 : V → V → V → SK) (x2 x3 x4 x15 x16 : V) (x17 : V) : SK := tG1 (c243_13 k j1 x2 x3 x4 x15 x16) x15 fun r => tB addD (zb243 4 7 29 [(28,x17)]) x17 q3 r
noncomputable def c243_15 (k : KR) (j1 : V → V → V → SK) (x2 x3 x4 x15 : V) (x16 : V) : SK := tG1 (c243_14 k j1 x2 x3 x4 x15 x16) x15 fun r => r x3
noncomputable def c243_16 (k : KR) (x2 x3 x4 : V) : SK := jn (c243_1 k) fun j1 => tI (z243 4 2 24 [(22,x2),(23,x3)]) x2 x3 fun x14 => tB eqlD (z243 4 3 25 [(24,x14)]) x14 q226 fun x15 => tG1 (c243_15 k j1 x2 x3 x4 x15) x15 fun r => r x4
noncomputable def c243_17 (j3 : V → V → V → SK) (x35 x36 x37 : V) : SK := tB addD (z243 3 1 21 [(20,x37)]) x37 q3 fun x38 => j3 x35 x36 x38
noncomputable def c243_18 (j2 : V → V → V → SK) (j4 : V → V → V → SK) (x32 x33 x34 x40 : V) (x44 : V) : SK := tK x40 x44 q0 fun x45 => tJ x45 (j4 x32 x33 x34) (j2 x32 x33 x34)
noncomputable def c243_19 (j2 : V → V → V → SK) (j4 : V → V → V → SK) (x32 x33 x34 x40 : V) (x43 : V) : SK := tG1 (c243_18 j2 j4 x32 x33 x34 x40) x40 fun r => tC [x43] n241 r
noncomputable def c243_20 (j2 : V → V → V → SK) (j4 : V → V → V → SK) (x32 x33 x34 x40 x41 : V) (x42 : V) : SK := tG1 (c243_19 j2 j4 x32 x33 x34 x40) x40 fun r => tI (zb243 2 7 17 [(15,x41),(16,x42)]) x41 x42 r
noncomputable def c243_21 (j2 : V → V → V → SK) (j4 : V → V → V → SK) (x32 x33 x34 x40 : V) (x41 : V) : SK := tG1 (c243_20 j2 j4 x32 x33 x34 x40 x41) x40 fun r => r x34
noncomputable def c243_22 (j2 : V → V → V → SK) (j3 : V → V → V → SK) (x32 x33 x34 : V) : SK := jn (c243_17 j3) fun j4 => tLt (z243 2 2 12 [(11,x32)]) x32 fun x39 => tB lssD (z243 2 3 13 [(10,x34),(12,x39)]) x34 x39 fun x40 => tG1 (c243_21 j2 j4 x32 x33 x34 x40) x40 fun r => r x32
noncomputable def c243_23 (k : KR) (x0 x1 : V) : SK := jn (c243_16 k) fun j2 => lp (fun _ _ _ => badK) (c243_22 j2) 1000000 x0 x1 x1
noncomputable def F243 : FF := fT [0,1] c243_23 (fb 243)
noncomputable def z245 (r i d : Nat) (l : LE) : (V → SK) → SK := zS 37 (S 245 r i) d l
noncomputable def c245_0 (k : KR) : SK := rA q63 k
noncomputable def c245_1 (k : KR) (x2 : V) : SK := jn (c245_0 k) fun j0 => tI (z245 20 1 32 [(31,x2)]) x2 q1 fun x3 => tC [q235,x3] n238 fun x4 => tB geqD (z245 20 3 34 [(33,x4)]) x4 q1 fun x5 => tJ x5 ((z245 21 1 36 [(35,x2)]) fun x6 => rA x6 k) (j0)
noncomputable def c245_2 (k : KR) (j1 : V → SK) (x10 x11 : V) : SK := tJ x11 ((z245 19 1 30 [(29,x10)]) fun x12 => rA x12 k) (j1 x10)
noncomputable def c245_3 (j2 : V → V → SK) (x1 x9 : V) : SK := tT eqlTD (z245 13 0 23 [(14,x9)]) x9 q240 fun x20 => tJ x20 (j2 x1 x20) (tT eqlTD (z245 14 0 24 [(14,x9)]) x9 q239 fun x21 => tJ x21 (j2 x1 x21) (tT eqlTD (z245 15 0 25 [(14,x9)]) x9 q238 fun x22 => tJ x22 (j2 x1 x22) (tT eqlTD (z245 16 0 26 [(14,x9)]) x9 q199 fun x23 => tJ x23 (j2 x1 x23) (tT eqlTD (z245 17 0 27 [(14,x9)]) x9 q237 fun x24 => tJ x24 (j2 x1 x24) (tT eqlTD (z245 18 0 28 [(14,x9)]) x9 q236 fun x25 => j2 x1 x25)))))
noncomputable def c245_4 (j2 : V → V → SK) (x1 x9 x14 : V) : SK := tJ x14 (j2 x1 x14) (tT eqlTD (z245 8 0 18 [(14,x9)]) x9 q245 fun x15 => tJ x15 (j2 x1 x15) (tT eqlTD (z245 9 0 19 [(14,x9)]) x9 q244 fun x16 => tJ x16 (j2 x1 x16) (tT eqlTD (z245 10 0 20 [(14,x9)]) x9 q243 fun x17 => tJ x17 (j2 x1 x17) (tT eqlTD (z245 11 0 21 [(14,x9)]) x9 q242 fun x18 => tJ x18 (j2 x1 x18) (tT eqlTD (z245 12 0 22 [(14,x9)]) x9 q241 fun x19 => tJ x19 (j2 x1 x19) (c245_3 j2 x1 x9))))))
noncomputable def c245_5 (k : KR) (x1 : V) : SK := jn (c245_1 k) fun j1 => tLt (z245 4 1 11 [(10,x1)]) x1 fun x7 => tB gtrD (z245 4 2 12 [(11,x7)]) x7 q3 fun x8 => tJ x8 ((z245 5 1 14 [(13,x1)]) fun x9 => jn (c245_2 k j1) fun j2 => tT eqlTD (z245 6 0 16 [(14,x9)]) x9 q247 fun x13 => tJ x13 (j2 x1 x13) (tT eqlTD (z245 7 0 17 [(14,x9)]) x9 q246 fun x14 => c245_4 j2 x1 x9 x14)) (j1 x1)
noncomputable def c245_6 (k : KR) (j3 : V → SK) (x26 x27 : V) : SK := tJ x27 ((z245 3 1 9 [(8,x26)]) fun x28 => rA x28 k) (j3 x26)
noncomputable def c245_7 (k : KR) (x0 : V) : SK := jn (c245_5 k) fun j3 => jn (c245_6 k j3) fun j4 => tC [x0,q249] n237 fun x29 => tJ x29 (j4 x0 x29) (tC [x0,q248] n237 fun x30 => j4 x0 x30)
noncomputable def F245 : FF := fT [0] c245_7 (fb 245)
noncomputable def c246_0 (k : KR) : SK := tR (rwC q115 (rwC q114 rwN)) 1 2 2 fun x0 => tR (rwC q78 (rwC q78 rwN)) 1 2 2 fun x1 => tR (rwC q79 (rwC q101 rwN)) 1 2 2 fun x2 => tR (rwC q100 (rwC q109 rwN)) 1 2 2 fun x3 => tR (rwC q72 (rwC q94 rwN)) 1 2 2 fun x4 => tR (rwC q43 (rwC q64 rwN)) 1 2 2 fun x5 => tR (rwC x0 (rwC x1 (rwC x2 (rwC x3 (rwC x4 (rwC x5 rwN)))))) 1 6 6 fun x6 => rA x6 k
noncomputable def F246 : FF := fT [] c246_0 (fb 246)
noncomputable def c248_0 (k : KR) : SK := tR (rwC q63 (rwC q65 (rwC q250 (rwC q251 (rwC q227 (rwC q232 (rwC q251 (rwC q65 (rwC q173 (rwC q252 (rwC q253 (rwC q244 (rwC q243 (rwC q249 (rwC q248 (rwC q254 (rwC q242 (rwC q255 (rwC q241 (rwC q231 (rwC q230 (rwC q240 (rwC q239 (rwC q238 (rwC q171 (rwC q247 (rwC q246 (rwC q245 (rwC q237 (rwC q236 rwN)))))))))))))))))))))))))))))) 1 30 30 fun x0 => rA x0 k
noncomputable def F248 : FF := fT [] c248_0 (fb 248)
noncomputable def z255 (r i d : Nat) (l : LE) : (V → SK) → SK := zS 46 (S 255 r i) d l
noncomputable def zb255 (r i d : Nat) (l : LE) : (V → SK) → SK := zS 46 (Sb 255 r i) d l
noncomputable def c255_0 (k : KR) (x17 : V) (x32 : V) : SK := tK x17 x32 q0 fun x33 => rA x33 k
noncomputable def c255_1 (k : KR) (x17 x23 : V) (x31 : V) : SK := tG1 (c255_0 k x17) x17 fun r => tK x23 q30 x31 r
noncomputable def c255_2 (k : KR) (x17 x23 x25 : V) (x30 : V) : SK := tG0 (c255_1 k x17 x23) x23 fun r => tK x25 x30 q0 r
noncomputable def c255_3 (k : KR) (x17 x23 x25 : V) (x29 : V) : SK := tG1 (c255_2 k x17 x23 x25) x25 fun r => tB eqlD (zb255 2 28 42 [(41,x29)]) x29 q31 r
noncomputable def c255_4 (k : KR) (x17 x23 x25 : V) (x28 : V) : SK := tG1 (c255_3 k x17 x23 x25) x25 fun r => tL x28 r
noncomputable def c255_5 (k : KR) (x17 x23 x25 : V) (x27 : V) : SK := tG1 (c255_4 k x17 x23 x25) x25 fun r => tFa x27 n0 r
noncomputable def c255_6 (k : KR) (x17 x23 x25 : V) (x26 : V) : SK := tG1 (c255_5 k x17 x23 x25) x25 fun r => tIa (zb255 2 25 39 [(38,x26)]) x26 q1 n3 r
noncomputable def c255_7 (k : KR) (x3 x17 x23 : V) (x25 : V) : SK := tG1 (c255_6 k x17 x23 x25) x25 fun r => r x3
noncomputable def c255_8 (k : KR) (x3 x17 x23 : V) (x24 : V) : SK := tG0 (c255_7 k x3 x17 x23) x23 fun r => r x24
noncomputable def c255_9 (k : KR) (x1 x3 x17 : V) (x23 : V) : SK := tG0 (c255_8 k x3 x17 x23) x23 fun r => r x1
noncomputable def c255_10 (k : KR) (x1 x3 x17 : V) (x22 : V) : SK := tG1 (c255_9 k x1 x3 x17) x17 fun r => r x22
noncomputable def c255_11 (k : KR) (x1 x3 x17 : V) (x21 : V) : SK := tG1 (c255_10 k x1 x3 x17) x17 fun r => tB eqlD (zb255 2 20 34 [(33,x21)]) x21 q3 r
noncomputable def c255_12 (k : KR) (x1 x3 x17 : V) (x20 : V) : SK := tG1 (c255_11 k x1 x3 x17) x17 fun r => tL x20 r
noncomputable def c255_13 (k : KR) (x1 x3 x17 : V) (x19 : V) : SK := tG1 (c255_12 k x1 x3 x17) x17 fun r => tFa x19 n0 r
noncomputable def c255_14 (k : KR) (x1 x3 x17 : V) (x18 : V) : SK := tG1 (c255_13 k x1 x3 x17) x17 fun r => tIa (zb255 2 17 31 [(30,x18)]) x18 q1 n3 r
noncomputable def c255_15 (k : KR) (x1 x3 x10 : V) (x16 : V) : SK := tK x10 x16 q0 fun x17 => tG1 (c255_14 k x1 x3 x17) x17 fun r => r x3
noncomputable def c255_16 (k : KR) (x1 x3 x10 x14 : V) (x15 : V) : SK := tG1 (c255_15 k x1 x3 x10) x10 fun r => tT eqlTD (zb255 2 13 27 [(25,x14),(26,x15)]) x14 x15 r
noncomputable def c255_17 (k : KR) (x0 x1 x3 x10 : V) (x14 : V) : SK := tG1 (c255_16 k x1 x3 x10 x14) x10 fun r => r x0
noncomputable def c255_18 (k : KR) (x0 x1 x3 x10 : V) (x13 : V) : SK := tG1 (c255_17 k x0 x1 x3 x10) x10 fun r => tL x13 r
noncomputable def c255_19 (k : KR) (x0 x1 x3 x10 : V) (x12 : V) : SK := tG1 (c255_18 k x0 x1 x3 x10) x10 fun r => tFa x12 n1 r
noncomputable def c255_20 (k : KR) (x0 x1 x3 x10 : V) (x11 : V) : SK := tG1 (c255_19 k x0 x1 x3 x10) x10 fun r => tIa (zb255 2 9 23 [(22,x11)]) x11 q1 n3 r
noncomputable def c255_21 (k : KR) (x0 x1 x3 x6 : V) (x9 : V) : SK := tK x6 x9 q0 fun x10 => tG1 (c255_20 k x0 x1 x3 x10) x10 fun r => r x3
noncomputable def c255_22 (k : KR) (x0 x1 x3 x6 : V) (x8 : V) : SK := tG1 (c255_21 k x0 x1 x3 x6) x6 fun r => tB eqlD (zb255 2 5 19 [(18,x8)]) x8 q3 r
noncomputable def c255_23 (k : KR) (x0 x1 x3 x6 : V) (x7 : V) : SK := tG1 (c255_22 k x0 x1 x3 x6) x6 fun r => tLl (zb255 2 4 18 [(17,x7)]) x7 r
noncomputable def c255_24 (k : KR) (x0 x1 : V) : SK := tC [x0] n119 fun x2 => tX x2 n0 fun x3 => tX x2 n1 fun _ => tX x2 n2 fun x5 => tB eqlD (z255 2 1 15 [(14,x5)]) x5 q1 fun x6 => tG1 (c255_23 k x0 x1 x3 x6) x6 fun r => r x3
noncomputable def F255 : FF := fT [0,1] c255_24 (fb 255)
noncomputable def z256 (r i d : Nat) (l : LE) : (V → SK) → SK := zS 18 (S 256 r i) d l
noncomputable def y256 (r i : Nat) (l : LE) : SK → SK := zN 18 (S 256 r i) l
noncomputable def c256_0 (k : KR) : SK := rA q30 k
noncomputable def c256_1 (j1 : V → V → V → V → SK) (x13 x14 x15 x16 : V) : SK := tB addD (z256 6 0 17 [(9,x16)]) x16 q3 fun x17 => j1 x13 x14 x15 x17
noncomputable def c256_2 (k : KR) (j1 : V → V → V → V → SK) (x9 x10 x11 x12 : V) : SK := jn (c256_1 j1) fun j2 => tIa (z256 3 0 11 [(7,x10),(9,x12)]) x10 x12 n5 fun x18 => tLs L5 x18 fun x19 => tAl 100 5 Z5 fun x20 => tSs M5 (y256 3 3 [(6,x20),(12,x19)]) x20 x19 (tLs L5 x20 fun x21 => tLs L4 x9 fun x22 => tC [x21,x22] n250 fun x23 => tNot x23 fun x24 => tJ x24 (rA q0 k) (j2 x9 x10 x11 x12))
noncomputable def c256_3 (k : KR) (j0 : SK) (j1 : V → V → V → V → SK) (x4 x5 x6 x7 : V) : SK := tB lssD (z256 2 0 10 [(9,x7),(8,x6)]) x7 x6 fun x8 => jn (c256_2 k j1) fun j3 => tJ x8 (j3 x4 x5 x6 x7) (j0)
noncomputable def c256_4 (k : KR) (x0 x1 : V) : SK := tBx x1 fun x2 => jn (c256_0 k) fun j0 => tLl (z256 1 1 8 [(7,x0)]) x0 fun x3 => lp (fun _ _ _ _ => badK) (c256_3 k j0) 1000000 x2 x0 x3 q1
noncomputable def F256 : FF := fT [0,1] c256_4 (fb 256)
noncomputable def z259 (r i d : Nat) (l : LE) : (V → SK) → SK := zS 21 (S 259 r i) d l
noncomputable def y259 (r i : Nat) (l : LE) : SK → SK := zN 21 (S 259 r i) l
noncomputable def c259_0 (k : KR) (x0 x1 : V) : SK := tN (z259 0 1 5 [(4,x0)]) x0 fun x2 => tFa x2 n4 fun x3 => tL x3 fun x4 => tC [x4,x1] n289 fun x5 => tNot x5 fun x6 => tJ x6 (tN (z259 1 2 13 [(12,x0)]) x0 fun x7 => tFa x7 n4 fun x8 => tL x8 fun x9 => tR (rwC x1 rwN) 1 1 1 fun x10 => tAp Tryz.prog 9 false 1 x9 x10 fun x11 => tN (z259 1 8 19 [(11,x0)]) x0 fun x12 => tFa x12 n4 fun x13 => tS (y259 1 10 [(20,x13),(18,x11)]) x13 x11 (lvT (rW rwN) k)) (lvT (rW rwN) k)
noncomputable def F259 : FF := fT [0,1] c259_0 (fb 259)
noncomputable def z261 (r i d : Nat) (l : LE) : (V → SK) → SK := zS 19 (S 261 r i) d l
noncomputable def c261_0 (k : KR) : SK := rA q143 k
noncomputable def c261_1 (j1 : V → V → V → V → SK) (x13 x14 x15 x16 : V) : SK := tB addD (z261 6 0 18 [(8,x16)]) x16 q3 fun x17 => j1 x13 x14 x15 x17
noncomputable def c261_2 (k : KR) (j1 : V → V → V → V → SK) (x9 x10 x11 x12 : V) : SK := jn (c261_1 j1) fun j2 => tLs L3 x10 fun x18 => tIa (z261 4 3 14 [(12,x9),(13,x12)]) x9 x12 n3 fun x19 => tLs L3 x19 fun x20 => (z261 4 5 16 [(11,x18),(15,x20)]) fun x21 => tJ x21 (rA x12 k) (j2 x9 x10 x11 x12)
noncomputable def c261_3 (k : KR) (j0 : SK) (j1 : V → V → V → V → SK) (x4 x5 x6 x7 : V) : SK := tB lssD (z261 2 0 9 [(8,x7),(7,x6)]) x7 x6 fun x8 => jn (c261_2 k j1) fun j3 => tJ x8 (j3 x4 x5 x6 x7) (j0)
noncomputable def c261_4 (k : KR) (x0 x1 : V) : SK := tBx x1 fun x2 => jn (c261_0 k) fun j0 => tLl (z261 1 1 7 [(6,x0)]) x0 fun x3 => lp (fun _ _ _ _ => badK) (c261_3 k j0) 1000000 x0 x2 x3 q1
noncomputable def F261 : FF := fT [0,1] c261_4 (fb 261)
noncomputable def c269_0 (k : KR) : SK := tR (rwC q63 (rwC q257 (rwC q258 (rwC q259 (rwC q260 (rwC q261 (rwC q262 (rwC q263 (rwC q264 (rwC q265 (rwC q266 (rwC q267 (rwC q268 (rwC q269 (rwC q270 (rwC q271 (rwC q272 (rwC q273 (rwC q274 (rwC q275 (rwC q276 (rwC q277 (rwC q278 (rwC q279 (rwC q280 (rwC q281 (rwC q282 (rwC q283 (rwC q284 (rwC q285 (rwC q286 (rwC q287 (rwC q288 (rwC q289 (rwC q290 (rwC q291 (rwC q292 (rwC q293 (rwC q294 (rwC q295 (rwC q296 (rwC q297 (rwC q298 (rwC q299 (rwC q300 (rwC q301 (rwC q302 (rwC q303 (rwC q304 (rwC q305 (rwC q306 (rwC q307 (rwC q308 (rwC q309 rwN)))))))))))))))))))))))))))))))))))))))))))))))))))))) 1 54 54 fun x0 => rA x0 k
noncomputable def F269 : FF := fT [] c269_0 (fb 269)
noncomputable def z270 (r i d : Nat) (l : LE) : (V → SK) → SK := zS 42 (S 270 r i) d l
noncomputable def c270_0 (k : KR) : SK := rA q1 k
noncomputable def c270_1 (k : KR) (j0 : SK) (x11 x12 : V) : SK := tJ x12 (rA q94 k) (tB eqlD (z270 36 0 39 [(3,x11)]) x11 q125 fun x13 => tJ x13 (rA q43 k) (tB eqlD (z270 38 0 41 [(3,x11)]) x11 q124 fun x14 => tJ x14 (rA q60 k) (j0)))
noncomputable def c270_2 (j1 : V → V → SK) (x9 : V) : SK := tB eqlD (z270 29 0 32 [(3,x9)]) x9 q84 fun x16 => tJ x16 (j1 x9 x16) (tB eqlD (z270 30 0 33 [(3,x9)]) x9 q83 fun x17 => tJ x17 (j1 x9 x17) (tB eqlD (z270 31 0 34 [(3,x9)]) x9 q82 fun x18 => tJ x18 (j1 x9 x18) (tB eqlD (z270 32 0 35 [(3,x9)]) x9 q81 fun x19 => tJ x19 (j1 x9 x19) (tB eqlD (z270 33 0 36 [(3,x9)]) x9 q80 fun x20 => tJ x20 (j1 x9 x20) (tB eqlD (z270 34 0 37 [(3,x9)]) x9 q88 fun x21 => j1 x9 x21)))))
noncomputable def c270_3 (k : KR) (j0 : SK) (x9 x10 : V) : SK := tJ x10 (rA q72 k) (jn (c270_1 k j0) fun j1 => tB eqlD (z270 28 0 31 [(3,x9)]) x9 q85 fun x15 => tJ x15 (j1 x9 x15) (c270_2 j1 x9))
noncomputable def c270_4 (k : KR) (j0 : SK) (x6 x7 : V) : SK := tJ x7 (rA q37 k) (tB eqlD (z270 22 0 25 [(3,x6)]) x6 q126 fun x8 => tJ x8 (rA q27 k) (jn (c270_3 k j0) fun j2 => tB eqlD (z270 24 0 27 [(3,x6)]) x6 q110 fun x22 => tJ x22 (j2 x6 x22) (tB eqlD (z270 25 0 28 [(3,x6)]) x6 q92 fun x23 => tJ x23 (j2 x6 x23) (tB eqlD (z270 26 0 29 [(3,x6)]) x6 q91 fun x24 => j2 x6 x24))))
noncomputable def c270_5 (k : KR) (j0 : SK) (x4 x5 : V) : SK := tJ x5 (rA q5 k) (jn (c270_4 k j0) fun j3 => tB eqlD (z270 18 0 21 [(3,x4)]) x4 q32 fun x25 => tJ x25 (j3 x4 x25) (tB eqlD (z270 19 0 22 [(3,x4)]) x4 q99 fun x26 => tJ x26 (j3 x4 x26) (tB eqlD (z270 20 0 23 [(3,x4)]) x4 q98 fun x27 => j3 x4 x27)))
noncomputable def c270_6 (k : KR) (j0 : SK) (x2 x3 : V) : SK := tJ x3 (rA q31 k) (jn (c270_5 k j0) fun j4 => tB eqlD (z270 13 0 16 [(3,x2)]) x2 q69 fun x28 => tJ x28 (j4 x2 x28) (tB eqlD (z270 14 0 17 [(3,x2)]) x2 q97 fun x29 => tJ x29 (j4 x2 x29) (tB eqlD (z270 15 0 18 [(3,x2)]) x2 q101 fun x30 => tJ x30 (j4 x2 x30) (tB eqlD (z270 16 0 19 [(3,x2)]) x2 q100 fun x31 => j4 x2 x31))))
noncomputable def c270_7 (j5 : V → V → SK) (x0 : V) : SK := tB eqlD (z270 6 0 9 [(3,x0)]) x0 q113 fun x34 => tJ x34 (j5 x0 x34) (tB eqlD (z270 7 0 10 [(3,x0)]) x0 q77 fun x35 => tJ x35 (j5 x0 x35) (tB eqlD (z270 8 0 11 [(3,x0)]) x0 q120 fun x36 => tJ x36 (j5 x0 x36) (tB eqlD (z270 9 0 12 [(3,x0)]) x0 q119 fun x37 => tJ x37 (j5 x0 x37) (tB eqlD (z270 10 0 13 [(3,x0)]) x0 q118 fun x38 => tJ x38 (j5 x0 x38) (tB eqlD (z270 11 0 14 [(3,x0)]) x0 q129 fun x39 => j5 x0 x39)))))
noncomputable def c270_8 (k : KR) (x0 : V) : SK := jn (c270_0 k) fun j0 => tB eqlD (z270 2 0 5 [(3,x0)]) x0 q3 fun x1 => tJ x1 (rA q3 k) (jn (c270_6 k j0) fun j5 => tB eqlD (z270 4 0 7 [(3,x0)]) x0 q115 fun x32 => tJ x32 (j5 x0 x32) (tB eqlD (z270 5 0 8 [(3,x0)]) x0 q114 fun x33 => tJ x33 (j5 x0 x33) (c270_7 j5 x0)))
noncomputable def F270 : FF := fT [0] c270_8 (fb 270)
noncomputable def z271 (r i d : Nat) (l : LE) : (V → SK) → SK := zS 62 (S 271 r i) d l
noncomputable def c271_0 (k : KR) : SK := lvT (rW (rwC q1 (rwC q1 rwN))) k
noncomputable def c271_1 (k : KR) (j0 : SK) (x13 : V) : SK := tJ x13 (lvT (rW (rwC q5 (rwC q3 rwN))) k) (j0)
noncomputable def c271_2 (k : KR) (j0 : SK) (x11 x12 : V) : SK := tJ x12 (lvT (rW (rwC q31 (rwC q3 rwN))) k) (jn (c271_1 k j0) fun j1 => tB eqlD (z271 56 0 60 [(4,x11)]) x11 q116 fun x14 => tJ x14 (j1 x14) (tB eqlD (z271 57 0 61 [(4,x11)]) x11 q128 fun x15 => j1 x15))
noncomputable def c271_3 (j2 : V → V → SK) (x9 : V) : SK := tB eqlD (z271 49 0 53 [(4,x9)]) x9 q117 fun x17 => tJ x17 (j2 x9 x17) (tB eqlD (z271 50 0 54 [(4,x9)]) x9 q76 fun x18 => tJ x18 (j2 x9 x18) (tB eqlD (z271 51 0 55 [(4,x9)]) x9 q129 fun x19 => tJ x19 (j2 x9 x19) (tB eqlD (z271 52 0 56 [(4,x9)]) x9 q127 fun x20 => tJ x20 (j2 x9 x20) (tB eqlD (z271 53 0 57 [(4,x9)]) x9 q124 fun x21 => tJ x21 (j2 x9 x21) (tB eqlD (z271 54 0 58 [(4,x9)]) x9 q92 fun x22 => j2 x9 x22)))))
noncomputable def c271_4 (k : KR) (j0 : SK) (x9 x10 : V) : SK := tJ x10 (lvT (rW (rwC q3 (rwC q3 rwN))) k) (jn (c271_2 k j0) fun j2 => tB eqlD (z271 48 0 52 [(4,x9)]) x9 q119 fun x16 => tJ x16 (j2 x9 x16) (c271_3 j2 x9))
noncomputable def c271_5 (j3 : V → V → SK) (x3 : V) : SK := tB eqlD (z271 41 0 45 [(4,x3)]) x3 q118 fun x24 => tJ x24 (j3 x3 x24) (tB eqlD (z271 42 0 46 [(4,x3)]) x3 q125 fun x25 => tJ x25 (j3 x3 x25) (tB eqlD (z271 43 0 47 [(4,x3)]) x3 q91 fun x26 => tJ x26 (j3 x3 x26) (tB eqlD (z271 44 0 48 [(4,x3)]) x3 q123 fun x27 => tJ x27 (j3 x3 x27) (tB eqlD (z271 45 0 49 [(4,x3)]) x3 q87 fun x28 => tJ x28 (j3 x3 x28) (tB eqlD (z271 46 0 50 [(4,x3)]) x3 q86 fun x29 => j3 x3 x29)))))
noncomputable def c271_6 (k : KR) (j0 : SK) (x3 x5 : V) : SK := tJ x5 (lvT (rW (rwC q3 (rwC q31 rwN))) k) (tB eqlD (z271 34 0 38 [(4,x3)]) x3 q60 fun x6 => tJ x6 (lvT (rW (rwC q31 (rwC q37 rwN))) k) (tB eqlD (z271 36 0 40 [(4,x3)]) x3 q64 fun x7 => tJ x7 (lvT (rW (rwC q31 (rwC q31 rwN))) k) (tB eqlD (z271 38 0 42 [(4,x3)]) x3 q79 fun x8 => tJ x8 (lvT (rW (rwC q5 (rwC q5 rwN))) k) (jn (c271_4 k j0) fun j3 => tB eqlD (z271 40 0 44 [(4,x3)]) x3 q120 fun x23 => tJ x23 (j3 x3 x23) (c271_5 j3 x3)))))
noncomputable def c271_7 (k : KR) (j0 : SK) (x3 x4 : V) : SK := tJ x4 (lvT (rW (rwC q3 (rwC q1 rwN))) k) (tB eqlD (z271 32 0 36 [(4,x3)]) x3 q43 fun x5 => c271_6 k j0 x3 x5)
noncomputable def c271_8 (j4 : V → V → SK) (x1 : V) : SK := tB eqlD (z271 25 0 29 [(4,x1)]) x1 q83 fun x38 => tJ x38 (j4 x1 x38) (tB eqlD (z271 26 0 30 [(4,x1)]) x1 q82 fun x39 => tJ x39 (j4 x1 x39) (tB eqlD (z271 27 0 31 [(4,x1)]) x1 q81 fun x40 => tJ x40 (j4 x1 x40) (tB eqlD (z271 28 0 32 [(4,x1)]) x1 q80 fun x41 => tJ x41 (j4 x1 x41) (tB eqlD (z271 29 0 33 [(4,x1)]) x1 q90 fun x42 => tJ x42 (j4 x1 x42) (tB eqlD (z271 30 0 34 [(4,x1)]) x1 q89 fun x43 => j4 x1 x43)))))
noncomputable def c271_9 (j4 : V → V → SK) (x1 : V) : SK := tB eqlD (z271 19 0 23 [(4,x1)]) x1 q101 fun x32 => tJ x32 (j4 x1 x32) (tB eqlD (z271 20 0 24 [(4,x1)]) x1 q99 fun x33 => tJ x33 (j4 x1 x33) (tB eqlD (z271 21 0 25 [(4,x1)]) x1 q98 fun x34 => tJ x34 (j4 x1 x34) (tB eqlD (z271 22 0 26 [(4,x1)]) x1 q114 fun x35 => tJ x35 (j4 x1 x35) (tB eqlD (z271 23 0 27 [(4,x1)]) x1 q113 fun x36 => tJ x36 (j4 x1 x36) (tB eqlD (z271 24 0 28 [(4,x1)]) x1 q84 fun x37 => tJ x37 (j4 x1 x37) (c271_8 j4 x1))))))
noncomputable def c271_10 (k : KR) (j0 : SK) (x1 x2 : V) : SK := tJ x2 (lvT (rW (rwC q1 (rwC q3 rwN))) k) (jn (c271_7 k j0) fun j4 => tB eqlD (z271 17 0 21 [(4,x1)]) x1 q94 fun x30 => tJ x30 (j4 x1 x30) (tB eqlD (z271 18 0 22 [(4,x1)]) x1 q97 fun x31 => tJ x31 (j4 x1 x31) (c271_9 j4 x1)))
noncomputable def c271_11 (j5 : V → V → SK) (x0 : V) : SK := tB eqlD (z271 10 0 14 [(4,x0)]) x0 q115 fun x52 => tJ x52 (j5 x0 x52) (tB eqlD (z271 11 0 15 [(4,x0)]) x0 q77 fun x53 => tJ x53 (j5 x0 x53) (tB eqlD (z271 12 0 16 [(4,x0)]) x0 q131 fun x54 => tJ x54 (j5 x0 x54) (tB eqlD (z271 13 0 17 [(4,x0)]) x0 q130 fun x55 => tJ x55 (j5 x0 x55) (tB eqlD (z271 14 0 18 [(4,x0)]) x0 q126 fun x56 => tJ x56 (j5 x0 x56) (tB eqlD (z271 15 0 19 [(4,x0)]) x0 q88 fun x57 => j5 x0 x57)))))
noncomputable def c271_12 (j5 : V → V → SK) (x0 : V) : SK := tB eqlD (z271 4 0 8 [(4,x0)]) x0 q5 fun x46 => tJ x46 (j5 x0 x46) (tB eqlD (z271 5 0 9 [(4,x0)]) x0 q37 fun x47 => tJ x47 (j5 x0 x47) (tB eqlD (z271 6 0 10 [(4,x0)]) x0 q27 fun x48 => tJ x48 (j5 x0 x48) (tB eqlD (z271 7 0 11 [(4,x0)]) x0 q72 fun x49 => tJ x49 (j5 x0 x49) (tB eqlD (z271 8 0 12 [(4,x0)]) x0 q69 fun x50 => tJ x50 (j5 x0 x50) (tB eqlD (z271 9 0 13 [(4,x0)]) x0 q32 fun x51 => tJ x51 (j5 x0 x51) (c271_11 j5 x0))))))
noncomputable def c271_13 (k : KR) (x0 : V) : SK := jn (c271_0 k) fun j0 => jn (c271_10 k j0) fun j5 => tB eqlD (z271 2 0 6 [(4,x0)]) x0 q3 fun x44 => tJ x44 (j5 x0 x44) (tB eqlD (z271 3 0 7 [(4,x0)]) x0 q31 fun x45 => tJ x45 (j5 x0 x45) (c271_12 j5 x0))
noncomputable def F271 : FF := fT [0] c271_13 (fb 271)
noncomputable def z272 (r i d : Nat) (l : LE) : (V → SK) → SK := zS 172 (S 272 r i) d l
noncomputable def zb272 (r i d : Nat) (l : LE) : (V → SK) → SK := zS 172 (Sb 272 r i) d l
noncomputable def c272_0 (k : KR) (x29 : V) : SK := lvT (rW (rwC x29 (rwC q135 rwN))) k
noncomputable def c272_1 (k : KR) (j0 : V → SK) (x27 x28 : V) (x32 : V) : SK := tK x27 x32 q0 fun x33 => tJ x33 (tIf q31 347 fun x34 => lvT (rW (rwC q134 (rwC x34 rwN))) k) (j0 x28)
noncomputable def c272_2 (k : KR) (j0 : V → SK) (x27 x28 : V) (x31 : V) : SK := tG1 (c272_1 k j0 x27 x28) x27 fun r => tNot x31 r
noncomputable def c272_3 (k : KR) (j0 : V → SK) (x27 x28 : V) (x30 : V) : SK := tG1 (c272_2 k j0 x27 x28) x27 fun r => tC [x30] n294 r
noncomputable def c272_4 (k : KR) (x26 x27 x28 : V) : SK := jn (c272_0 k) fun j0 => tG1 (c272_3 k j0 x27 x28) x27 fun r => r x26
noncomputable def c272_5 (j2 : V → V → V → V → V → V → V → V → V → V → SK) (x58 x59 x60 x61 x62 x63 x64 x65 x66 x67 : V) : SK := tB addD (z272 55 0 163 [(101,x67)]) x67 q3 fun x68 => j2 x58 x59 x60 x61 x62 x63 x64 x65 x66 x68
noncomputable def c272_6 (j3 : V → V → V → V → V → V → V → V → V → V → SK) (x108 x109 x110 x111 x112 x113 x114 x115 x116 x117 : V) : SK := j3 x108 x109 x110 x111 x112 x113 x114 x115 x116 x117
noncomputable def c272_7 (k : KR) (j4 : V → V → V → V → V → V → V → V → V → V → SK) (x93 x94 x95 x96 x97 x98 x101 x102 x103 x107 x118 : V) (x121 : V) : SK := tK x118 q30 x121 fun x122 => tJ x122 (tIf q3 347 fun x123 => lvT (rW (rwC x97 (rwC x123 rwN))) k) (j4 x93 x94 x95 x96 x97 x98 x107 x101 x102 x103)
noncomputable def c272_8 (k : KR) (j4 : V → V → V → V → V → V → V → V → V → V → SK) (x93 x94 x95 x96 x97 x98 x101 x102 x103 x107 x118 x119 : V) (x120 : V) : SK := tG0 (c272_7 k j4 x93 x94 x95 x96 x97 x98 x101 x102 x103 x107 x118) x118 fun r => tB gtrD (zb272 52 6 158 [(156,x119),(157,x120)]) x119 x120 r
noncomputable def c272_9 (k : KR) (j4 : V → V → V → V → V → V → V → V → V → V → SK) (x93 x94 x95 x96 x97 x98 x101 x102 x103 x107 x118 : V) (x119 : V) : SK := tG0 (c272_8 k j4 x93 x94 x95 x96 x97 x98 x101 x102 x103 x107 x118 x119) x118 fun r => r x97
noncomputable def c272_10 (k : KR) (j3 : V → V → V → V → V → V → V → V → V → V → SK) (x93 x94 x95 x96 x97 x98 x99 x100 x101 x102 x103 : V) : SK := tCn (z272 50 2 146 [(145,x93)]) x93 .u64 fun x104 => tB mulD (z272 50 3 147 [(144,x99),(146,x104)]) x99 x104 fun x105 => tCn (z272 51 2 150 [(149,x100)]) x100 .u64 fun x106 => tB addD (z272 51 3 151 [(148,x105),(150,x106)]) x105 x106 fun x107 => jn (c272_6 j3) fun j4 => tB lssD (z272 52 2 154 [(152,x107),(153,x105)]) x107 x105 fun x118 => tG0 (c272_9 k j4 x93 x94 x95 x96 x97 x98 x101 x102 x103 x107 x118) x118 fun r => r x107
noncomputable def c272_11 (k : KR) (j3 : V → V → V → V → V → V → V → V → V → V → SK) (x82 x83 x84 x85 x86 x87 x88 x89 x90 x91 x92 : V) : SK := jn (c272_10 k j3) fun j5 => tB geqD (z272 48 2 141 [(139,x88),(140,x85)]) x88 x85 fun x124 => tJ x124 (tIf q3 347 fun x125 => lvT (rW (rwC x86 (rwC x125 rwN))) k) (j5 x82 x83 x84 x85 x86 x87 x88 x89 x90 x91 x92)
noncomputable def c272_12 (k : KR) (j3 : V → V → V → V → V → V → V → V → V → V → SK) (x71 x72 x73 x74 x75 x76 x77 x78 x79 x80 x81 : V) : SK := jn (c272_11 k j3) fun j6 => tCn (z272 46 2 136 [(135,x71)]) x71 .u8 fun x126 => tB geqD (z272 46 3 137 [(134,x78),(136,x126)]) x78 x126 fun x127 => tJ x127 (tIf q31 347 fun x128 => lvT (rW (rwC q134 (rwC x128 rwN))) k) (j6 x71 x72 x73 x74 x75 x76 x77 x78 x79 x80 x81)
noncomputable def c272_13 (k : KR) (j7 : V → V → V → V → V → V → V → V → V → V → V → SK) (x48 x49 x50 x51 x52 x53 x54 x55 x56 x57 x70 x138 : V) (x141 : V) : SK := tK x138 x141 q0 fun x142 => tJ x142 (tC [x70] n293 fun x143 => tB subD (z272 44 2 132 [(131,x143)]) x143 q224 fun x144 => tB addD (z272 44 3 133 [(132,x144)]) x144 q205 fun x145 => j7 x48 x49 x50 x51 x52 x53 x54 x145 x55 x56 x57) (tIf q31 347 fun x146 => lvT (rW (rwC q134 (rwC x146 rwN))) k)
noncomputable def c272_14 (k : KR) (j7 : V → V → V → V → V → V → V → V → V → V → V → SK) (x48 x49 x50 x51 x52 x53 x54 x55 x56 x57 x70 x138 : V) (x140 : V) : SK := tG1 (c272_13 k j7 x48 x49 x50 x51 x52 x53 x54 x55 x56 x57 x70 x138) x138 fun r => tB leqD (zb272 43 6 128 [(127,x140)]) x140 q223 r
noncomputable def c272_15 (k : KR) (j7 : V → V → V → V → V → V → V → V → V → V → V → SK) (x48 x49 x50 x51 x52 x53 x54 x55 x56 x57 x70 x138 : V) (x139 : V) : SK := tG1 (c272_14 k j7 x48 x49 x50 x51 x52 x53 x54 x55 x56 x57 x70 x138) x138 fun r => tC [x139] n293 r
noncomputable def c272_16 (k : KR) (j7 : V → V → V → V → V → V → V → V → V → V → V → SK) (x48 x49 x50 x51 x52 x53 x54 x55 x56 x57 x70 x132 : V) (x134 : V) : SK := tK x132 x134 q0 fun x135 => tJ x135 (tB subD (z272 42 1 120 [(119,x70)]) x70 q226 fun x136 => j7 x48 x49 x50 x51 x52 x53 x54 x136 x55 x56 x57) (tC [x70] n293 fun x137 => tB leqD (z272 43 2 124 [(123,x137)]) q224 x137 fun x138 => tG1 (c272_15 k j7 x48 x49 x50 x51 x52 x53 x54 x55 x56 x57 x70 x138) x138 fun r => r x70)
noncomputable def c272_17 (k : KR) (j7 : V → V → V → V → V → V → V → V → V → V → V → SK) (x48 x49 x50 x51 x52 x53 x54 x55 x56 x57 x70 x132 : V) (x133 : V) : SK := tG1 (c272_16 k j7 x48 x49 x50 x51 x52 x53 x54 x55 x56 x57 x70 x132) x132 fun r => tB leqD (zb272 41 4 117 [(116,x133)]) x133 q225 r
noncomputable def c272_18 (k : KR) (j3 : V → V → V → V → V → V → V → V → V → V → SK) (j7 : V → V → V → V → V → V → V → V → V → V → V → SK) (x48 x49 x50 x51 x52 x53 x54 x55 x56 x57 x70 x129 : V) (x130 : V) : SK := tK x129 x130 q0 fun x131 => tJ x131 (j3 x48 x49 x50 x51 x52 q30 x54 x55 x56 x57) (tB leqD (z272 41 1 114 [(113,x70)]) q226 x70 fun x132 => tG1 (c272_17 k j7 x48 x49 x50 x51 x52 x53 x54 x55 x56 x57 x70 x132) x132 fun r => r x70)
noncomputable def c272_19 (k : KR) (j2 : V → V → V → V → V → V → V → V → V → V → SK) (x48 x49 x50 x51 x52 x53 x54 x55 x56 x57 : V) : SK := jn (c272_5 j2) fun j3 => tIa (z272 37 0 103 [(99,x55),(101,x57)]) x55 x57 n1 fun x69 => tL x69 fun x70 => jn (c272_12 k j3) fun j7 => tB eqlD (z272 39 1 108 [(107,x70)]) x70 q220 fun x129 => tG1 (c272_18 k j3 j7 x48 x49 x50 x51 x52 x53 x54 x55 x56 x57 x70 x129) x129 fun r => r x49
noncomputable def c272_20 (k : KR) (j1 : V → V → V → SK) (j2 : V → V → V → V → V → V → V → V → V → V → SK) (x37 x38 x39 x40 x41 x42 x43 x44 x45 x46 : V) : SK := tB lssD (z272 36 0 102 [(101,x46),(100,x45)]) x46 x45 fun x47 => jn (c272_19 k j2) fun j8 => tJ x47 (j8 x37 x38 x39 x40 x41 x42 x43 x44 x45 x46) (j1 x39 x42 x43)
noncomputable def c272_21 (k : KR) (x17 x18 x19 x20 x21 x22 : V) : SK := tCn (z272 32 1 95 [(94,x19)]) x19 .u64 fun x23 => (z272 32 2 96 [(95,x23)]) fun x24 => tB subD (z272 32 3 97 [(96,x24)]) x24 q214 fun x25 => jn (c272_4 k) fun j1 => (z272 35 1 99 [(98,x17)]) fun x35 => tLl (z272 35 2 100 [(99,x35)]) x35 fun x36 => lp (fun _ _ _ _ _ _ _ _ _ _ => badK) (c272_20 k j1) 1000000 x18 x20 x21 x22 x25 q0 q134 x35 x36 q1
noncomputable def c272_22 (k : KR) (x12 x13 x14 x15 x16 : V) : SK := jn (c272_21 k) fun j9 => tB eqlD (z272 27 0 91 [(85,x13)]) x13 q64 fun x147 => tJ x147 (j9 x12 x13 x14 x15 x16 q310) (tB eqlD (z272 29 0 93 [(85,x13)]) x13 q32 fun x148 => tJ x148 (j9 x12 x13 x14 x15 x16 q311) (tCn (z272 31 1 87 [(86,x13)]) x13 .u64 fun x149 => tB quoD (z272 31 2 88 [(87,x149)]) q312 x149 fun x150 => tB addD (z272 31 3 89 [(88,x150)]) x150 q214 fun x151 => j9 x12 x13 x14 x15 x16 x151))
noncomputable def c272_23 (k : KR) (j10 : V → V → V → V → V → SK) (x7 x8 x9 x10 x11 x153 : V) (x155 : V) : SK := tK x153 q30 x155 fun x156 => tJ x156 (tIf q37 347 fun x157 => lvT (rW (rwC q134 (rwC x157 rwN))) k) (j10 x7 x8 x9 x10 x11)
noncomputable def c272_24 (k : KR) (j10 : V → V → V → V → V → SK) (x7 x8 x9 x10 x11 x153 : V) (x154 : V) : SK := tG0 (c272_23 k j10 x7 x8 x9 x10 x11 x153) x153 fun r => tB gtrD (zb272 23 4 82 [(81,x154)]) x154 q186 r
noncomputable def c272_25 (k : KR) (x7 x8 x9 x10 x11 : V) : SK := jn (c272_22 k) fun j10 => tB eqlD (z272 21 1 77 [(76,x9)]) x9 q1 fun x152 => tJ x152 (j10 x7 x8 q186 x10 x11) (tB lssD (z272 23 1 79 [(78,x9)]) x9 q1 fun x153 => tG0 (c272_24 k j10 x7 x8 x9 x10 x11 x153) x153 fun r => r x9)
noncomputable def c272_26 (j11 : V → V → V → V → V → SK) (x3 x5 x6 x182 : V) (x186 : V) : SK := tK x182 x186 q0 fun x187 => tJ x187 ((z272 17 1 75 [(74,x3)]) fun x188 => j11 x188 q32 x5 x6 x3) ((z272 19 1 39 [(38,x3)]) fun x189 => j11 x189 q43 x5 x6 x3)
noncomputable def c272_27 (j11 : V → V → V → V → V → SK) (x3 x5 x6 x182 : V) (x185 : V) : SK := tG1 (c272_26 j11 x3 x5 x6 x182) x182 fun r => tB eqlD (zb272 15 7 72 [(71,x185)]) x185 q313 r
noncomputable def c272_28 (j11 : V → V → V → V → V → SK) (x3 x5 x6 x182 : V) (x184 : V) : SK := tG1 (c272_27 j11 x3 x5 x6 x182) x182 fun r => tC [x184] n293 r
noncomputable def c272_29 (j11 : V → V → V → V → V → SK) (x3 x5 x6 x182 : V) (x183 : V) : SK := tG1 (c272_28 j11 x3 x5 x6 x182) x182 fun r => tI (zb272 15 5 70 [(69,x183)]) x183 q3 r
noncomputable def c272_30 (j11 : V → V → V → V → V → SK) (x3 x5 x6 x174 : V) (x178 : V) : SK := tK x174 x178 q0 fun x179 => tJ x179 ((z272 14 1 63 [(62,x3)]) fun x180 => j11 x180 q43 x5 x6 x3) (tLt (z272 15 1 66 [(65,x3)]) x3 fun x181 => tB geqD (z272 15 2 67 [(66,x181)]) x181 q5 fun x182 => tG1 (c272_29 j11 x3 x5 x6 x182) x182 fun r => r x3)
noncomputable def c272_31 (j11 : V → V → V → V → V → SK) (x3 x5 x6 x174 : V) (x177 : V) : SK := tG1 (c272_30 j11 x3 x5 x6 x174) x174 fun r => tB eqlD (zb272 12 7 60 [(59,x177)]) x177 q314 r
noncomputable def c272_32 (j11 : V → V → V → V → V → SK) (x3 x5 x6 x174 : V) (x176 : V) : SK := tG1 (c272_31 j11 x3 x5 x6 x174) x174 fun r => tC [x176] n293 r
noncomputable def c272_33 (j11 : V → V → V → V → V → SK) (x3 x5 x6 x174 : V) (x175 : V) : SK := tG1 (c272_32 j11 x3 x5 x6 x174) x174 fun r => tI (zb272 12 5 58 [(57,x175)]) x175 q3 r
noncomputable def c272_34 (j11 : V → V → V → V → V → SK) (x3 x5 x6 x166 : V) (x170 : V) : SK := tK x166 x170 q0 fun x171 => tJ x171 ((z272 11 1 51 [(50,x3)]) fun x172 => j11 x172 q31 x5 x6 x3) (tLt (z272 12 1 54 [(53,x3)]) x3 fun x173 => tB geqD (z272 12 2 55 [(54,x173)]) x173 q5 fun x174 => tG1 (c272_33 j11 x3 x5 x6 x174) x174 fun r => r x3)
noncomputable def c272_35 (j11 : V → V → V → V → V → SK) (x3 x5 x6 x166 : V) (x169 : V) : SK := tG1 (c272_34 j11 x3 x5 x6 x166) x166 fun r => tB eqlD (zb272 9 7 48 [(47,x169)]) x169 q315 r
noncomputable def c272_36 (j11 : V → V → V → V → V → SK) (x3 x5 x6 x166 : V) (x168 : V) : SK := tG1 (c272_35 j11 x3 x5 x6 x166) x166 fun r => tC [x168] n293 r
noncomputable def c272_37 (j11 : V → V → V → V → V → SK) (x3 x5 x6 x166 : V) (x167 : V) : SK := tG1 (c272_36 j11 x3 x5 x6 x166) x166 fun r => tI (zb272 9 5 46 [(45,x167)]) x167 q3 r
noncomputable def c272_38 (k : KR) (j11 : V → V → V → V → V → SK) (x3 x4 x5 x6 : V) : SK := tB eqlD (z272 6 1 34 [(33,x4)]) x4 q1 fun x162 => tJ x162 (tI (z272 8 1 36 [(35,x3)]) x3 q1 fun x163 => tB eqlD (z272 8 2 37 [(36,x163)]) x163 q226 fun x164 => tJ x164 (tLt (z272 9 1 42 [(41,x3)]) x3 fun x165 => tB geqD (z272 9 2 43 [(42,x165)]) x165 q5 fun x166 => tG1 (c272_37 j11 x3 x5 x6 x166) x166 fun r => r x3) (j11 x3 q64 x5 x6 x3)) (tIf q5 347 fun x190 => lvT (rW (rwC q134 (rwC x190 rwN))) k)
noncomputable def c272_39 (k : KR) (j11 : V → V → V → V → V → SK) (x3 x4 x5 x6 x158 : V) (x160 : V) : SK := tK x158 x160 q0 fun x161 => tJ x161 (j11 x3 x4 x5 x6 x3) (c272_38 k j11 x3 x4 x5 x6)
noncomputable def c272_40 (k : KR) (j11 : V → V → V → V → V → SK) (x3 x4 x5 x6 x158 : V) (x159 : V) : SK := tG1 (c272_39 k j11 x3 x4 x5 x6 x158) x158 fun r => tB leqD (zb272 5 4 30 [(29,x159)]) x159 q127 r
noncomputable def c272_41 (k : KR) (x3 x4 x5 : V) : SK := tB eqlD (z272 3 1 22 [(21,x4)]) x4 q1 fun x6 => jn (c272_25 k) fun j11 => tB leqD (z272 5 1 27 [(26,x4)]) q31 x4 fun x158 => tG1 (c272_40 k j11 x3 x4 x5 x6 x158) x158 fun r => r x4
noncomputable def c272_42 (k : KR) (x0 x1 x2 : V) : SK := jn (c272_41 k) fun j12 => tT eqlTD (z272 1 1 19 [(18,x0)]) x0 q63 fun x191 => tJ x191 (tIf q31 347 fun x192 => lvT (rW (rwC q134 (rwC x192 rwN))) k) (j12 x0 x1 x2)
noncomputable def F272 : FF := fT [0,1,2] c272_42 (fb 272)
noncomputable def z281 (r i d : Nat) (l : LE) : (V → SK) → SK := zS 18 (S 281 r i) d l
noncomputable def zb281 (r i d : Nat) (l : LE) : (V → SK) → SK := zS 18 (Sb 281 r i) d l
noncomputable def c281_0 (k : KR) (x4 : V) (x10 : V) : SK := tK x4 x10 q0 fun x11 => rA x11 k
noncomputable def c281_1 (k : KR) (x4 x8 : V) (x9 : V) : SK := tG1 (c281_0 k x4) x4 fun r => tT eqlTD (zb281 1 11 16 [(14,x8),(15,x9)]) x8 x9 r
noncomputable def c281_2 (k : KR) (x1 x4 : V) (x8 : V) : SK := tG1 (c281_1 k x4 x8) x4 fun r => r x1
noncomputable def c281_3 (k : KR) (x1 x4 x5 : V) (x7 : V) : SK := tG1 (c281_2 k x1 x4) x4 fun r => (zb281 1 9 14 [(11,x5),(13,x7)]) r
noncomputable def c281_4 (k : KR) (x1 x4 x5 : V) (x6 : V) : SK := tG1 (c281_3 k x1 x4 x5) x4 fun r => tLt (zb281 1 8 13 [(12,x6)]) x6 r
noncomputable def c281_5 (k : KR) (x1 x4 : V) (x5 : V) : SK := tG1 (c281_4 k x1 x4 x5) x4 fun r => r x1
noncomputable def c281_6 (k : KR) (x0 x1 : V) : SK := tLt (z281 1 1 6 [(5,x0)]) x0 fun x2 => tLt (z281 1 3 8 [(7,x1)]) x1 fun x3 => tB geqD (z281 1 4 9 [(6,x2),(8,x3)]) x2 x3 fun x4 => tG1 (c281_5 k x1 x4) x4 fun r => r x0
noncomputable def F281 : FF := fT [0,1] c281_6 (fb 281)
noncomputable def c282_0 (k : KR) (x0 x1 : V) : SK := tC [x0,x1] n303 fun x2 => rA x2 k
noncomputable def F282 : FF := fT [0,1] c282_0 (fb 282)
noncomputable def z286 (r i d : Nat) (l : LE) : (V → SK) → SK := zS 37 (S 286 r i) d l
noncomputable def y286 (r i : Nat) (l : LE) : SK → SK := zN 37 (S 286 r i) l
noncomputable def c286_0 (k : KR) (x17 x18 x19 x20 x24 : V) : SK := tN (z286 10 5 30 [(25,x17)]) x17 fun x25 => tFa x25 n1 fun x26 => tS (y286 10 7 [(31,x26),(29,x24)]) x26 x24 (tB addD (z286 11 1 33 [(32,x20)]) x20 q213 fun x27 => tLs L5 x19 fun x28 => tR (rwC x28 rwN) 5 1 5 fun x29 => tA (xcO q99 (xcC (.str 0 0) (xcC (.int .i64 0) (xcO x27 (xcO x29 xcN))))) (z286 11 4 36 [(33,x27),(35,x29)]) fun x30 => tSs M5 (y286 11 5 [(2,x18),(36,x30)]) x18 x30 (lvT (rZ 37 (RS 286) [(2,x18)]) k))
noncomputable def c286_1 (k : KR) (x17 x18 x19 x20 : V) : SK := tN (z286 10 1 26 [(25,x17)]) x17 fun x21 => tFa x21 n1 fun x22 => tL x22 fun x23 => tB addD (z286 10 4 29 [(28,x23)]) x23 q3 fun x24 => c286_0 k x17 x18 x19 x20 x24
noncomputable def c286_2 (k : KR) (x13 x14 x15 x16 : V) : SK := jn (c286_1 k) fun j0 => tLs L5 x15 fun x31 => tC [x31] n174 fun x32 => tNot x32 fun x33 => tJ x33 (tC [x13] n122 fun _ => j0 x13 x14 x15 x16) (j0 x13 x14 x15 x16)
noncomputable def c286_3 (k : KR) (x6 x7 x8 x9 : V) : SK := tFa x9 n1 fun x10 => tL x10 fun x11 => tC [x11,q118,q117] n173 fun x12 => jn (c286_2 k) fun j1 => tB eqlD (z286 6 1 18 [(17,x12)]) x12 q1 fun x35 => tJ x35 (tLs L5 x8 fun x36 => tSs M5 (y286 7 1 [(2,x7),(19,x36)]) x7 x36 (lvT (rZ 37 (RS 286) [(2,x7)]) k)) (j1 x6 x7 x8 x12)
noncomputable def c286_4 (k : KR) (x0 x1 : V) : SK := tC [x0] n308 fun x2 => tAl 100 5 Z5 fun x3 => tSs M5 (y286 1 3 [(3,x3),(7,x2)]) x3 x2 (tC [x0,q1] n124 fun x4 => tAl 225 3 Z13 fun x5 => tSs M3 (y286 2 3 [(4,x5),(9,x4)]) x5 x4 (jn (c286_3 k) fun j2 => tFa x5 n0 fun x37 => tL x37 fun x38 => tB neqD (z286 3 2 12 [(11,x38)]) x38 q27 fun x39 => tJ x39 (tLs L5 x3 fun x40 => tSs M5 (y286 4 1 [(2,x1),(13,x40)]) x1 x40 (lvT (rZ 37 (RS 286) [(2,x1)]) k)) (j2 x0 x1 x3 x5)))
noncomputable def c286_5 (k : KR) (x0 : V) : SK := tAl 100 5 Z5 fun x1 => c286_4 k x0 x1
noncomputable def F286 : FF := fT [0] c286_5 (fb 286)
noncomputable def z289 (r i d : Nat) (l : LE) : (V → SK) → SK := zS 9 (S 289 r i) d l
noncomputable def c289_0 (k : KR) (x0 x1 : V) : SK := tC [x0,x1] n309 fun x2 => tB geqD (z289 1 3 8 [(7,x2)]) x2 q1 fun x3 => rA x3 k
noncomputable def F289 : FF := fT [0,1] c289_0 (fb 289)
noncomputable def z308 (r i d : Nat) (l : LE) : (V → SK) → SK := zS 46 (S 308 r i) d l
noncomputable def y308 (r i : Nat) (l : LE) : SK → SK := zN 46 (S 308 r i) l
noncomputable def c308_0 (j0 : V → V → V → SK) (x17 x18 x19 : V) : SK := tLs L5 x19 fun x20 => tR (rwC x20 rwN) 5 1 5 fun x21 => tC [x17,q167] n317 fun x22 => zA 46 (SA 308 15 0) [(40,x20),(3,x19)] (tAp Tryz.prog 99 false 5 x21 x22 fun x23 => tA (xcO q109 (xcC (.str 0 0) (xcC (.int .i64 0) (xcC (.int .i64 0) (xcO x23 xcN))))) (z308 15 5 45 [(44,x23)]) fun x24 => tSs M5 (y308 15 6 [(3,x19),(45,x24)]) x19 x24 (j0 x17 x18 x19))
noncomputable def c308_1 (k : KR) (j0 : V → V → V → SK) (x14 x15 x16 : V) : SK := jn (c308_0 j0) fun j1 => tC [x14,q169] n131 fun x25 => tNot x25 fun x26 => tJ x26 (tLs L5 x16 fun x27 => tSs M5 (y308 14 1 [(2,x15),(39,x27)]) x15 x27 (lvT (rZ 46 (RS 308) [(2,x15)]) k)) (j1 x14 x15 x16)
noncomputable def c308_2 (k : KR) (j0 : V → V → V → SK) (x6 x7 x8 : V) : SK := tLs L5 x8 fun x9 => tC [x6,x9] n316 fun x10 => tX x10 n0 fun x11 => tX x10 n1 fun x12 => tAl 100 5 Z5 fun x13 => tSs M5 (y308 10 7 [(5,x13),(32,x11)]) x13 x11 (jn (c308_1 k j0) fun j2 => tJ x12 (tLs L5 x13 fun x28 => tSs M5 (y308 12 1 [(3,x8),(35,x28)]) x8 x28 (j0 x6 x7 x8)) (j2 x6 x7 x8))
noncomputable def c308_3 (k : KR) (x3 x4 x5 : V) : SK := lp (fun _ _ _ => badK) (c308_2 k) 1000000 x3 x4 x5
noncomputable def c308_4 (j3 : V → V → V → SK) (x31 x32 x33 : V) : SK := tC [x31,q169] n127 fun _ => tLs L5 x33 fun x35 => tR (rwC x35 rwN) 5 1 5 fun x36 => tC [x31,q167] n317 fun x37 => zA 46 (SA 308 8 0) [(20,x35),(3,x33)] (tAp Tryz.prog 99 false 5 x36 x37 fun x38 => tA (xcO q78 (xcC (.str 0 0) (xcC (.int .i64 0) (xcC (.int .i64 0) (xcO x38 xcN))))) (z308 8 5 25 [(24,x38)]) fun x39 => tSs M5 (y308 8 6 [(3,x33),(25,x39)]) x33 x39 (j3 x31 x32 x33))
noncomputable def c308_5 (j5 : V → V → V → V → SK) (x44 x45 x46 : V) : SK := tLs L5 x46 fun x47 => tC [x44,x47] n316 fun x48 => tX x48 n0 fun x49 => tX x48 n1 fun x50 => tSs M5 (y308 6 6 [(3,x46),(16,x49)]) x46 x49 (j5 x44 x45 x46 x50)
noncomputable def c308_6 (j4 : V → V → V → SK) (j5 : V → V → V → V → SK) (x40 x41 x42 x43 : V) : SK := jn (c308_5 j5) fun j6 => tJ x43 (j6 x40 x41 x42) (j4 x40 x41 x42)
noncomputable def c308_7 (k : KR) (x0 : V) : SK := tAl 100 5 Z5 fun x1 => tAl 100 5 Z5 fun x2 => jn (c308_3 k) fun j3 => tC [x0,q229] n131 fun x29 => tJ x29 (tC [x0] n315 fun x30 => tSs M5 (y308 3 2 [(3,x2),(10,x30)]) x2 x30 (jn (c308_4 j3) fun j4 => lp (fun _ _ _ _ => badK) (c308_6 j4) 1000000 x0 x1 x2 q30)) (tC [x0] n315 fun x51 => tSs M5 (y308 9 2 [(3,x2),(27,x51)]) x2 x51 (j3 x0 x1 x2))
noncomputable def F308 : FF := fT [0] c308_7 (fb 308)
noncomputable def z309 (r i d : Nat) (l : LE) : (V → SK) → SK := zS 19 (S 309 r i) d l
noncomputable def c309_0 (k : KR) : SK := rA q143 k
noncomputable def c309_1 (j1 : V → V → V → V → SK) (x12 x13 x14 x15 : V) : SK := tB addD (z309 6 0 18 [(8,x15)]) x15 q3 fun x16 => j1 x12 x13 x14 x16
noncomputable def c309_2 (k : KR) (j1 : V → V → V → V → SK) (x8 x9 x10 x11 : V) : SK := jn (c309_1 j1) fun j2 => tIa (z309 4 3 14 [(12,x8),(13,x11)]) x8 x11 n1 fun x17 => tL x17 fun x18 => tT eqlTD (z309 4 5 16 [(11,x9),(15,x18)]) x9 x18 fun x19 => tJ x19 (rA x11 k) (j2 x8 x9 x10 x11)
noncomputable def c309_3 (k : KR) (j0 : SK) (j1 : V → V → V → V → SK) (x3 x4 x5 x6 : V) : SK := tB lssD (z309 2 0 9 [(8,x6),(7,x5)]) x6 x5 fun x7 => jn (c309_2 k j1) fun j3 => tJ x7 (j3 x3 x4 x5 x6) (j0)
noncomputable def c309_4 (k : KR) (x0 x1 : V) : SK := jn (c309_0 k) fun j0 => tLl (z309 1 1 7 [(6,x0)]) x0 fun x2 => lp (fun _ _ _ _ => badK) (c309_3 k j0) 1000000 x0 x1 x2 q1
noncomputable def F309 : FF := fT [0,1] c309_4 (fb 309)
noncomputable def c317_0 (j0 : V → V → V → SK) (x11 x12 x13 : V) : SK := tC [x11,q170] n127 fun _ => j0 x11 x12 x13
noncomputable def c317_1 (k : KR) (j0 : V → V → V → SK) (x5 x6 x7 : V) : SK := tC [x5] n133 fun x8 => tR (rwC x8 rwN) 5 1 5 fun x9 => tAp Tryz.prog 99 false 5 x7 x9 fun x10 => jn (c317_0 j0) fun j1 => tC [x5,x6] n131 fun x15 => tJ x15 (rA x10 k) (j1 x5 x6 x10)
noncomputable def c317_2 (k : KR) (x2 x3 x4 : V) : SK := lp (fun _ _ _ => badK) (c317_1 k) 1000000 x2 x3 x4
noncomputable def c317_3 (k : KR) (x0 x1 : V) : SK := jn (c317_2 k) fun j2 => tC [x0,x1] n131 fun x16 => tJ x16 (rA q70 k) (j2 x0 x1 q70)
noncomputable def F317 : FF := fT [0,1] c317_3 (fb 317)
end Go.Proofs.YtaikcgmgjchfmaaGreatDoor
