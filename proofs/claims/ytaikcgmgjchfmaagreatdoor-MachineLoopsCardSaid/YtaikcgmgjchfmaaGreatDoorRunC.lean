/- The functions of the program in lifted forms, printed by a program of mine: constants. -/
import Derived.Test.YtaikcgmgjchfmaaGreatDoorRunD
namespace Go.Proofs.YtaikcgmgjchfmaaGreatDoor
open Go Go.Ev
set_option maxRecDepth 1000000
abbrev OF := OpF DD
abbrev FF := FnF DD
noncomputable def L0 : LdF := lN
noncomputable def L1 : LdF := lC L0
noncomputable def L2 : LdF := lC L1
noncomputable def L3 : LdF := lC L2
noncomputable def L4 : LdF := lC L3
noncomputable def L5 : LdF := lC L4
noncomputable def L6 : LdF := lC L5
noncomputable def L7 : LdF := lC L6
noncomputable def L8 : LdF := lC L7
noncomputable def L9 : LdF := lC L8
noncomputable def L10 : LdF := lC L9
noncomputable def L11 : LdF := lC L10
noncomputable def L12 : LdF := lC L11
noncomputable def L13 : LdF := lC L12
noncomputable def L14 : LdF := lC L13
noncomputable def L15 : LdF := lC L14
noncomputable def L16 : LdF := lC L15
noncomputable def M0 : StF := sN
noncomputable def M1 : StF := sC M0
noncomputable def M2 : StF := sC M1
noncomputable def M3 : StF := sC M2
noncomputable def M4 : StF := sC M3
noncomputable def M5 : StF := sC M4
noncomputable def M6 : StF := sC M5
noncomputable def M7 : StF := sC M6
noncomputable def M8 : StF := sC M7
noncomputable def M9 : StF := sC M8
noncomputable def M10 : StF := sC M9
noncomputable def M11 : StF := sC M10
noncomputable def M12 : StF := sC M11
noncomputable def M13 : StF := sC M12
noncomputable def M14 : StF := sC M13
noncomputable def M15 : StF := sC M14
noncomputable def M16 : StF := sC M15
noncomputable def Z0 : TmS DD := (ofListB DD [(.int .i64 0), (.int .i64 0), (.bool false), (.int .i64 0), (.int .i64 0), (.str 0 0), (.int .i64 0), .sl0, (.int .i64 0), (.int .i64 0), (.str 0 0), (.int .i64 0), (.bool false), (.int .i64 0)]).go
noncomputable def Z1 : TmS DD := (ofListB DD [.sl0]).go
noncomputable def Z2 : TmS DD := (ofListB DD [(.int .i64 0), (.int .i64 0), (.str 0 0), (.int .i64 0)]).go
noncomputable def Z3 : TmS DD := (ofListB DD [(.int .i64 0), (.int .i64 0), .sl0, .sl0, .sl0, (.int .i64 0), (.int .i64 0), (.int .i64 0), (.int .i64 0), .sl0]).go
noncomputable def Z4 : TmS DD := (ofListB DD [.ptr0, .ptr0, .ptr0]).go
noncomputable def Z5 : TmS DD := (ofListB DD [(.int .i64 0), (.str 0 0), (.int .i64 0), (.int .i64 0), .sl0]).go
noncomputable def Z6 : TmS DD := (ofListB DD [(.int .i64 0), (.int .i64 0), (.int .i64 0), (.int .i64 0), (.int .i64 0), (.str 0 0), (.int .i64 0), .sl0, .sl0, (.int .i64 0), (.int .i64 0), (.int .i64 0), (.int .i64 0), (.int .i64 0), (.int .i64 0), .sl0]).go
noncomputable def Z8 : TmS DD := (ofListB DD [(.int .i64 0), (.int .i64 0), .sl0, .sl0, (.int .i64 0), (.int .i64 0), (.int .i64 0), .sl0]).go
noncomputable def Z10 : TmS DD := (ofListB DD [(.int .i64 0), (.int .i64 0)]).go
noncomputable def Z13 : TmS DD := (ofListB DD [(.int .i64 0), (.str 0 0), (.int .i64 0)]).go
noncomputable def Z18 : TmS DD := (ofListB DD [(.int .i64 0), (.int .i64 0), (.int .i64 0)]).go
noncomputable def Z20 : TmS DD := (ofListB DD [(.str 0 0), (.int .i64 0), (.int .i64 0), (.int .i64 0), (.bool false), (.int .i64 0), (.bool false)]).go
noncomputable def q0 : V := fun _ ff _ _ _ _ _ _ => ff
noncomputable def q1 : V := fun _ _ fi _ _ _ _ _ => fi .i64 (nat_lit 0)
noncomputable def q3 : V := fun _ _ fi _ _ _ _ _ => fi .i64 (nat_lit 1)
noncomputable def q5 : V := fun _ _ fi _ _ _ _ _ => fi .i64 (nat_lit 3)
noncomputable def q27 : V := fun _ _ fi _ _ _ _ _ => fi .i64 (nat_lit 5)
noncomputable def q30 : V := fun tt _ _ _ _ _ _ _ => tt
noncomputable def q31 : V := fun _ _ fi _ _ _ _ _ => fi .i64 (nat_lit 2)
noncomputable def q32 : V := fun _ _ fi _ _ _ _ _ => fi .i64 (nat_lit 16)
noncomputable def q33 : V := fun _ _ fi _ _ _ _ _ => fi .i64 (nat_lit 100000)
noncomputable def q34 : V := fun _ _ fi _ _ _ _ _ => fi .u8 (nat_lit 32)
noncomputable def q37 : V := fun _ _ fi _ _ _ _ _ => fi .i64 (nat_lit 4)
noncomputable def q43 : V := fun _ _ fi _ _ _ _ _ => fi .i64 (nat_lit 8)
noncomputable def q60 : V := fun _ _ fi _ _ _ _ _ => fi .i64 (nat_lit 9)
noncomputable def q63 : V := fun _ _ _ fs _ _ _ _ => fs (nat_lit 0) (nat_lit 0)
noncomputable def q64 : V := fun _ _ fi _ _ _ _ _ => fi .i64 (nat_lit 10)
noncomputable def q65 : V := fun _ _ _ fs _ _ _ _ => fs (nat_lit 1) (nat_lit 45)
noncomputable def q66 : V := fun _ _ _ fs _ _ _ _ => fs (nat_lit 20) (nat_lit 258180099859860512602484018821261393907689205816)
noncomputable def q67 : V := vOth (.int .i64 (.negSucc 9223372036854775807))
noncomputable def q68 : V := encV .ptr0
noncomputable def q69 : V := fun _ _ fi _ _ _ _ _ => fi .i64 (nat_lit 12)
noncomputable def q70 : V := encV .sl0
noncomputable def q71 : V := fun _ _ fi _ _ _ _ _ => fi .i64 (nat_lit 99984)
noncomputable def q72 : V := fun _ _ fi _ _ _ _ _ => fi .i64 (nat_lit 6)
noncomputable def q76 : V := fun _ _ fi _ _ _ _ _ => fi .i64 (nat_lit 31)
noncomputable def q77 : V := fun _ _ fi _ _ _ _ _ => fi .i64 (nat_lit 25)
noncomputable def q78 : V := fun _ _ fi _ _ _ _ _ => fi .i64 (nat_lit 21)
noncomputable def q79 : V := fun _ _ fi _ _ _ _ _ => fi .i64 (nat_lit 11)
noncomputable def q80 : V := fun _ _ fi _ _ _ _ _ => fi .i64 (nat_lit 45)
noncomputable def q81 : V := fun _ _ fi _ _ _ _ _ => fi .i64 (nat_lit 44)
noncomputable def q82 : V := fun _ _ fi _ _ _ _ _ => fi .i64 (nat_lit 43)
noncomputable def q83 : V := fun _ _ fi _ _ _ _ _ => fi .i64 (nat_lit 42)
noncomputable def q84 : V := fun _ _ fi _ _ _ _ _ => fi .i64 (nat_lit 41)
noncomputable def q85 : V := fun _ _ fi _ _ _ _ _ => fi .i64 (nat_lit 40)
noncomputable def q86 : V := fun _ _ fi _ _ _ _ _ => fi .i64 (nat_lit 53)
noncomputable def q87 : V := fun _ _ fi _ _ _ _ _ => fi .i64 (nat_lit 52)
noncomputable def q88 : V := fun _ _ fi _ _ _ _ _ => fi .i64 (nat_lit 51)
noncomputable def q89 : V := fun _ _ fi _ _ _ _ _ => fi .i64 (nat_lit 49)
noncomputable def q90 : V := fun _ _ fi _ _ _ _ _ => fi .i64 (nat_lit 48)
noncomputable def q91 : V := fun _ _ fi _ _ _ _ _ => fi .i64 (nat_lit 47)
noncomputable def q92 : V := fun _ _ fi _ _ _ _ _ => fi .i64 (nat_lit 46)
noncomputable def q94 : V := fun _ _ fi _ _ _ _ _ => fi .i64 (nat_lit 7)
noncomputable def q95 : V := fun _ _ fi _ _ _ _ _ => fi .i64 (nat_lit 10000)
noncomputable def q96 : V := fun _ _ _ fs _ _ _ _ => fs (nat_lit 6) (nat_lit 119182899770472)
noncomputable def q97 : V := fun _ _ fi _ _ _ _ _ => fi .i64 (nat_lit 13)
noncomputable def q98 : V := fun _ _ fi _ _ _ _ _ => fi .i64 (nat_lit 18)
noncomputable def q99 : V := fun _ _ fi _ _ _ _ _ => fi .i64 (nat_lit 17)
noncomputable def q100 : V := fun _ _ fi _ _ _ _ _ => fi .i64 (nat_lit 15)
noncomputable def q101 : V := fun _ _ fi _ _ _ _ _ => fi .i64 (nat_lit 14)
noncomputable def q102 : V := fun _ _ fi _ _ _ _ _ => fi .i64 (nat_lit 2147483647)
noncomputable def q109 : V := fun _ _ fi _ _ _ _ _ => fi .i64 (nat_lit 20)
noncomputable def q110 : V := fun _ _ fi _ _ _ _ _ => fi .i64 (nat_lit 19)
noncomputable def q111 : V := fun _ _ _ fs _ _ _ _ => fs (nat_lit 14) (nat_lit 1671191322026108085646479150182258)
noncomputable def q113 : V := fun _ _ fi _ _ _ _ _ => fi .i64 (nat_lit 24)
noncomputable def q114 : V := fun _ _ fi _ _ _ _ _ => fi .i64 (nat_lit 23)
noncomputable def q115 : V := fun _ _ fi _ _ _ _ _ => fi .i64 (nat_lit 22)
noncomputable def q116 : V := fun _ _ fi _ _ _ _ _ => fi .i64 (nat_lit 30)
noncomputable def q117 : V := fun _ _ fi _ _ _ _ _ => fi .i64 (nat_lit 29)
noncomputable def q118 : V := fun _ _ fi _ _ _ _ _ => fi .i64 (nat_lit 28)
noncomputable def q119 : V := fun _ _ fi _ _ _ _ _ => fi .i64 (nat_lit 27)
noncomputable def q120 : V := fun _ _ fi _ _ _ _ _ => fi .i64 (nat_lit 26)
noncomputable def q123 : V := fun _ _ fi _ _ _ _ _ => fi .i64 (nat_lit 50)
noncomputable def q124 : V := fun _ _ fi _ _ _ _ _ => fi .i64 (nat_lit 39)
noncomputable def q125 : V := fun _ _ fi _ _ _ _ _ => fi .i64 (nat_lit 38)
noncomputable def q126 : V := fun _ _ fi _ _ _ _ _ => fi .i64 (nat_lit 37)
noncomputable def q127 : V := fun _ _ fi _ _ _ _ _ => fi .i64 (nat_lit 36)
noncomputable def q128 : V := fun _ _ fi _ _ _ _ _ => fi .i64 (nat_lit 35)
noncomputable def q129 : V := fun _ _ fi _ _ _ _ _ => fi .i64 (nat_lit 34)
noncomputable def q130 : V := fun _ _ fi _ _ _ _ _ => fi .i64 (nat_lit 33)
noncomputable def q131 : V := fun _ _ fi _ _ _ _ _ => fi .i64 (nat_lit 32)
noncomputable def q134 : V := fun _ _ fi _ _ _ _ _ => fi .u64 (nat_lit 0)
noncomputable def q135 : V := encV .ifc0
noncomputable def q138 : V := fun _ _ _ fs _ _ _ _ => fs (nat_lit 1) (nat_lit 123)
noncomputable def q139 : V := fun _ _ _ fs _ _ _ _ => fs (nat_lit 5) (nat_lit 427071271796)
noncomputable def q140 : V := fun _ _ _ fs _ _ _ _ => fs (nat_lit 3) (nat_lit 7103860)
noncomputable def q142 : V := fun _ _ fi _ _ _ _ _ => fi .i64 (nat_lit 256)
noncomputable def q143 : V := vOth (.int .i64 (.negSucc 0))
noncomputable def q144 : V := fun _ _ fi _ _ _ _ _ => fi .i64 (nat_lit 1048576)
noncomputable def q151 : V := fun _ _ _ fs _ _ _ _ => fs (nat_lit 15) (nat_lit 573413202402666960170738154427016548)
noncomputable def q152 : V := fun _ _ _ fs _ _ _ _ => fs (nat_lit 9) (nat_lit 2166223650956390589796)
noncomputable def q157 : V := fun _ _ _ fs _ _ _ _ => fs (nat_lit 8) (nat_lit 7382928537577680750)
noncomputable def q164 : V := fun _ _ fi _ _ _ _ _ => fi .i64 (nat_lit 128)
noncomputable def q165 : V := fun _ _ _ fs _ _ _ _ => fs (nat_lit 1) (nat_lit 125)
noncomputable def q166 : V := fun _ _ _ fs _ _ _ _ => fs (nat_lit 1) (nat_lit 93)
noncomputable def q167 : V := fun _ _ _ fs _ _ _ _ => fs (nat_lit 1) (nat_lit 41)
noncomputable def q168 : V := fun _ _ _ fs _ _ _ _ => fs (nat_lit 1) (nat_lit 91)
noncomputable def q169 : V := fun _ _ _ fs _ _ _ _ => fs (nat_lit 1) (nat_lit 40)
noncomputable def q170 : V := fun _ _ _ fs _ _ _ _ => fs (nat_lit 1) (nat_lit 44)
noncomputable def q171 : V := fun _ _ _ fs _ _ _ _ => fs (nat_lit 1) (nat_lit 61)
noncomputable def q172 : V := fun _ _ _ fs _ _ _ _ => fs (nat_lit 5) (nat_lit 418549165667)
noncomputable def q173 : V := fun _ _ _ fs _ _ _ _ => fs (nat_lit 1) (nat_lit 42)
noncomputable def q174 : V := fun _ _ _ fs _ _ _ _ => fs (nat_lit 4) (nat_lit 1701606245)
noncomputable def q175 : V := fun _ _ _ fs _ _ _ _ => fs (nat_lit 8) (nat_lit 7165066978433856869)
noncomputable def q176 : V := fun _ _ _ fs _ _ _ _ => fs (nat_lit 3) (nat_lit 7631481)
noncomputable def q177 : V := fun _ _ _ fs _ _ _ _ => fs (nat_lit 5) (nat_lit 499968536439)
noncomputable def q178 : V := fun _ _ _ fs _ _ _ _ => fs (nat_lit 5) (nat_lit 422826041707)
noncomputable def q179 : V := fun _ _ _ fs _ _ _ _ => fs (nat_lit 6) (nat_lit 125780071117422)
noncomputable def q180 : V := fun _ _ _ fs _ _ _ _ => fs (nat_lit 3) (nat_lit 6713202)
noncomputable def q181 : V := fun _ _ _ fs _ _ _ _ => fs (nat_lit 5) (nat_lit 512852847717)
noncomputable def q182 : V := fun _ _ _ fs _ _ _ _ => fs (nat_lit 2) (nat_lit 26982)
noncomputable def q183 : V := fun _ _ _ fs _ _ _ _ => fs (nat_lit 5) (nat_lit 521459297380)
noncomputable def q186 : V := fun _ _ fi _ _ _ _ _ => fi .i64 (nat_lit 64)
noncomputable def q187 : V := fun _ _ _ fs _ _ _ _ => fs (nat_lit 4) (nat_lit 1853189228)
noncomputable def q196 : V := fun _ _ _ fs _ _ _ _ => fs (nat_lit 2) (nat_lit 28518)
noncomputable def q197 : V := fun _ _ _ fs _ _ _ _ => fs (nat_lit 7) (nat_lit 28826370426301561)
noncomputable def q198 : V := fun _ _ _ fs _ _ _ _ => fs (nat_lit 5) (nat_lit 426836779880)
noncomputable def q199 : V := fun _ _ _ fs _ _ _ _ => fs (nat_lit 2) (nat_lit 15678)
noncomputable def q200 : V := fun _ _ _ fs _ _ _ _ => fs (nat_lit 1) (nat_lit 58)
noncomputable def q201 : V := fun _ _ _ fs _ _ _ _ => fs (nat_lit 1) (nat_lit 63)
noncomputable def q203 : V := fun _ _ _ fs _ _ _ _ => fs (nat_lit 8) (nat_lit 5792036435721285236)
noncomputable def q204 : V := fun _ _ fi _ _ _ _ _ => fi .i64 (nat_lit 100001)
noncomputable def q205 : V := fun _ _ fi _ _ _ _ _ => fi .u8 (nat_lit 10)
noncomputable def q206 : V := fun _ _ _ fs _ _ _ _ => fs (nat_lit 2) (nat_lit 10799)
noncomputable def q207 : V := fun _ _ _ fs _ _ _ _ => fs (nat_lit 2) (nat_lit 12074)
noncomputable def q208 : V := fun _ _ _ fs _ _ _ _ => fs (nat_lit 2) (nat_lit 12079)
noncomputable def q209 : V := fun _ _ fi _ _ _ _ _ => fi .u8 (nat_lit 13)
noncomputable def q210 : V := fun _ _ fi _ _ _ _ _ => fi .u8 (nat_lit 9)
noncomputable def q211 : V := fun _ _ fi _ _ _ _ _ => fi .u8 (nat_lit 39)
noncomputable def q212 : V := fun _ _ fi _ _ _ _ _ => fi .u8 (nat_lit 34)
noncomputable def q213 : V := fun _ _ fi _ _ _ _ _ => fi .i64 (nat_lit 100)
noncomputable def q214 : V := fun _ _ fi _ _ _ _ _ => fi .u64 (nat_lit 1)
noncomputable def q215 : V := fun _ _ fi _ _ _ _ _ => fi .u8 (nat_lit 45)
noncomputable def q216 : V := fun _ _ fi _ _ _ _ _ => fi .u8 (nat_lit 43)
noncomputable def q217 : V := fun _ _ _ fs _ _ _ _ => fs (nat_lit 5) (nat_lit 439721161573)
noncomputable def q218 : V := fun _ _ _ fs _ _ _ _ => fs (nat_lit 4) (nat_lit 1953658213)
noncomputable def q219 : V := fun _ _ fi _ _ _ _ _ => fi .u8 (nat_lit 36)
noncomputable def q220 : V := fun _ _ fi _ _ _ _ _ => fi .u8 (nat_lit 95)
noncomputable def q221 : V := fun _ _ fi _ _ _ _ _ => fi .u8 (nat_lit 90)
noncomputable def q222 : V := fun _ _ fi _ _ _ _ _ => fi .u8 (nat_lit 65)
noncomputable def q223 : V := fun _ _ fi _ _ _ _ _ => fi .u8 (nat_lit 122)
noncomputable def q224 : V := fun _ _ fi _ _ _ _ _ => fi .u8 (nat_lit 97)
noncomputable def q225 : V := fun _ _ fi _ _ _ _ _ => fi .u8 (nat_lit 57)
noncomputable def q226 : V := fun _ _ fi _ _ _ _ _ => fi .u8 (nat_lit 48)
noncomputable def q227 : V := fun _ _ _ fs _ _ _ _ => fs (nat_lit 6) (nat_lit 128064925560678)
noncomputable def q228 : V := fun _ _ _ fs _ _ _ _ => fs (nat_lit 4) (nat_lit 1952999795)
noncomputable def q229 : V := fun _ _ _ fs _ _ _ _ => fs (nat_lit 3) (nat_lit 7234935)
noncomputable def q230 : V := fun _ _ _ fs _ _ _ _ => fs (nat_lit 10) (nat_lit 497885941930959200153446)
noncomputable def q231 : V := fun _ _ _ fs _ _ _ _ => fs (nat_lit 2) (nat_lit 26990)
noncomputable def q232 : V := fun _ _ _ fs _ _ _ _ => fs (nat_lit 6) (nat_lit 110386773062757)
noncomputable def q233 : V := fun _ _ _ fs _ _ _ _ => fs (nat_lit 5) (nat_lit 418614700404)
noncomputable def q235 : V := fun _ _ _ fs _ _ _ _ => fs (nat_lit 20) (nat_lit 704996956525606734928501125991493482980038491198)
noncomputable def q236 : V := fun _ _ _ fs _ _ _ _ => fs (nat_lit 2) (nat_lit 11565)
noncomputable def q237 : V := fun _ _ _ fs _ _ _ _ => fs (nat_lit 2) (nat_lit 11051)
noncomputable def q238 : V := fun _ _ _ fs _ _ _ _ => fs (nat_lit 2) (nat_lit 16191)
noncomputable def q239 : V := fun _ _ _ fs _ _ _ _ => fs (nat_lit 2) (nat_lit 31868)
noncomputable def q240 : V := fun _ _ _ fs _ _ _ _ => fs (nat_lit 2) (nat_lit 9766)
noncomputable def q241 : V := fun _ _ _ fs _ _ _ _ => fs (nat_lit 2) (nat_lit 15933)
noncomputable def q242 : V := fun _ _ _ fs _ _ _ _ => fs (nat_lit 2) (nat_lit 15421)
noncomputable def q243 : V := fun _ _ _ fs _ _ _ _ => fs (nat_lit 2) (nat_lit 8509)
noncomputable def q244 : V := fun _ _ _ fs _ _ _ _ => fs (nat_lit 2) (nat_lit 15677)
noncomputable def q245 : V := fun _ _ _ fs _ _ _ _ => fs (nat_lit 2) (nat_lit 10813)
noncomputable def q246 : V := fun _ _ _ fs _ _ _ _ => fs (nat_lit 2) (nat_lit 11581)
noncomputable def q247 : V := fun _ _ _ fs _ _ _ _ => fs (nat_lit 2) (nat_lit 11069)
noncomputable def q248 : V := fun _ _ _ fs _ _ _ _ => fs (nat_lit 3) (nat_lit 2178365)
noncomputable def q249 : V := fun _ _ _ fs _ _ _ _ => fs (nat_lit 3) (nat_lit 4013373)
noncomputable def q250 : V := fun _ _ _ fs _ _ _ _ => fs (nat_lit 1) (nat_lit 33)
noncomputable def q251 : V := fun _ _ _ fs _ _ _ _ => fs (nat_lit 1) (nat_lit 43)
noncomputable def q252 : V := fun _ _ _ fs _ _ _ _ => fs (nat_lit 1) (nat_lit 47)
noncomputable def q253 : V := fun _ _ _ fs _ _ _ _ => fs (nat_lit 1) (nat_lit 37)
noncomputable def q254 : V := fun _ _ _ fs _ _ _ _ => fs (nat_lit 1) (nat_lit 60)
noncomputable def q255 : V := fun _ _ _ fs _ _ _ _ => fs (nat_lit 1) (nat_lit 62)
noncomputable def q257 : V := fun _ _ _ fs _ _ _ _ => fs (nat_lit 4) (nat_lit 1282367844)
noncomputable def q258 : V := fun _ _ _ fs _ _ _ _ => fs (nat_lit 5) (nat_lit 366924293478)
noncomputable def q259 : V := fun _ _ _ fs _ _ _ _ => fs (nat_lit 4) (nat_lit 1316318316)
noncomputable def q260 : V := fun _ _ _ fs _ _ _ _ => fs (nat_lit 4) (nat_lit 1416787301)
noncomputable def q261 : V := fun _ _ _ fs _ _ _ _ => fs (nat_lit 5) (nat_lit 302282208101)
noncomputable def q262 : V := fun _ _ _ fs _ _ _ _ => fs (nat_lit 4) (nat_lit 1416128883)
noncomputable def q263 : V := fun _ _ _ fs _ _ _ _ => fs (nat_lit 3) (nat_lit 5271408)
noncomputable def q264 : V := fun _ _ _ fs _ _ _ _ => fs (nat_lit 3) (nat_lit 4486512)
noncomputable def q265 : V := fun _ _ _ fs _ _ _ _ => fs (nat_lit 4) (nat_lit 1348561266)
noncomputable def q266 : V := fun _ _ _ fs _ _ _ _ => fs (nat_lit 4) (nat_lit 1400332656)
noncomputable def q267 : V := fun _ _ _ fs _ _ _ _ => fs (nat_lit 4) (nat_lit 1416983150)
noncomputable def q268 : V := fun _ _ _ fs _ _ _ _ => fs (nat_lit 5) (nat_lit 328286298476)
noncomputable def q269 : V := fun _ _ _ fs _ _ _ _ => fs (nat_lit 8) (nat_lit 6009337149430915436)
noncomputable def q270 : V := fun _ _ _ fs _ _ _ _ => fs (nat_lit 9) (nat_lit 1354568335469159080300)
noncomputable def q271 : V := fun _ _ _ fs _ _ _ _ => fs (nat_lit 10) (nat_lit 318398107957970044412268)
noncomputable def q272 : V := fun _ _ _ fs _ _ _ _ => fs (nat_lit 6) (nat_lit 76340733109620)
noncomputable def q273 : V := fun _ _ _ fs _ _ _ _ => fs (nat_lit 6) (nat_lit 76340733896052)
noncomputable def q274 : V := fun _ _ _ fs _ _ _ _ => fs (nat_lit 7) (nat_lit 19543227710204276)
noncomputable def q275 : V := fun _ _ _ fs _ _ _ _ => fs (nat_lit 7) (nat_lit 22647136667922038)
noncomputable def q276 : V := fun _ _ _ fs _ _ _ _ => fs (nat_lit 6) (nat_lit 88439555190390)
noncomputable def q277 : V := fun _ _ _ fs _ _ _ _ => fs (nat_lit 7) (nat_lit 18981352301227638)
noncomputable def q278 : V := fun _ _ _ fs _ _ _ _ => fs (nat_lit 6) (nat_lit 78531050758508)
noncomputable def q279 : V := fun _ _ _ fs _ _ _ _ => fs (nat_lit 9) (nat_lit 1538390304744072700268)
noncomputable def q280 : V := fun _ _ _ fs _ _ _ _ => fs (nat_lit 9) (nat_lit 1261685202988755476844)
noncomputable def q281 : V := fun _ _ _ fs _ _ _ _ => fs (nat_lit 10) (nat_lit 398918939552005000159596)
noncomputable def q282 : V := fun _ _ _ fs _ _ _ _ => fs (nat_lit 7) (nat_lit 20096273586745200)
noncomputable def q283 : V := fun _ _ _ fs _ _ _ _ => fs (nat_lit 7) (nat_lit 23473973307273072)
noncomputable def q284 : V := fun _ _ _ fs _ _ _ _ => fs (nat_lit 7) (nat_lit 19251814296874864)
noncomputable def q285 : V := fun _ _ _ fs _ _ _ _ => fs (nat_lit 8) (nat_lit 5144646008074167672)
noncomputable def q286 : V := fun _ _ _ fs _ _ _ _ => fs (nat_lit 8) (nat_lit 6009337136529302904)
noncomputable def q287 : V := fun _ _ _ fs _ _ _ _ => fs (nat_lit 8) (nat_lit 4928464429867361656)
noncomputable def q288 : V := fun _ _ _ fs _ _ _ _ => fs (nat_lit 9) (nat_lit 1446157437553514734452)
noncomputable def q289 : V := fun _ _ _ fs _ _ _ _ => fs (nat_lit 8) (nat_lit 5649052430582833529)
noncomputable def q290 : V := fun _ _ _ fs _ _ _ _ => fs (nat_lit 5) (nat_lit 302415965284)
noncomputable def q291 : V := fun _ _ _ fs _ _ _ _ => fs (nat_lit 7) (nat_lit 19819132700868980)
noncomputable def q292 : V := fun _ _ _ fs _ _ _ _ => fs (nat_lit 4) (nat_lit 1349874536)
noncomputable def q293 : V := fun _ _ _ fs _ _ _ _ => fs (nat_lit 7) (nat_lit 18978049373860453)
noncomputable def q294 : V := fun _ _ _ fs _ _ _ _ => fs (nat_lit 5) (nat_lit 366924100217)
noncomputable def q295 : V := fun _ _ _ fs _ _ _ _ => fs (nat_lit 6) (nat_lit 73020590879353)
noncomputable def q296 : V := fun _ _ _ fs _ _ _ _ => fs (nat_lit 4) (nat_lit 1249209712)
noncomputable def q297 : V := fun _ _ _ fs _ _ _ _ => fs (nat_lit 7) (nat_lit 20660125768119141)
noncomputable def q298 : V := fun _ _ _ fs _ _ _ _ => fs (nat_lit 6) (nat_lit 80703852279141)
noncomputable def q299 : V := fun _ _ _ fs _ _ _ _ => fs (nat_lit 7) (nat_lit 18417250511187312)
noncomputable def q300 : V := fun _ _ _ fs _ _ _ _ => fs (nat_lit 6) (nat_lit 87352294075760)
noncomputable def q301 : V := fun _ _ _ fs _ _ _ _ => fs (nat_lit 8) (nat_lit 5653544119595003248)
noncomputable def q302 : V := fun _ _ _ fs _ _ _ _ => fs (nat_lit 4) (nat_lit 1130458220)
noncomputable def q303 : V := fun _ _ _ fs _ _ _ _ => fs (nat_lit 3) (nat_lit 5137783)
noncomputable def q304 : V := fun _ _ _ fs _ _ _ _ => fs (nat_lit 6) (nat_lit 90595699028590)
noncomputable def q305 : V := fun _ _ _ fs _ _ _ _ => fs (nat_lit 5) (nat_lit 362529582967)
noncomputable def q306 : V := fun _ _ _ fs _ _ _ _ => fs (nat_lit 4) (nat_lit 1232364914)
noncomputable def q307 : V := fun _ _ _ fs _ _ _ _ => fs (nat_lit 4) (nat_lit 1315272820)
noncomputable def q308 : V := fun _ _ _ fs _ _ _ _ => fs (nat_lit 5) (nat_lit 384020343908)
noncomputable def q309 : V := fun _ _ _ fs _ _ _ _ => fs (nat_lit 5) (nat_lit 281175746932)
noncomputable def q310 : V := fun _ _ fi _ _ _ _ _ => fi .u64 (nat_lit 1844674407370955162)
noncomputable def q311 : V := fun _ _ fi _ _ _ _ _ => fi .u64 (nat_lit 1152921504606846976)
noncomputable def q312 : V := fun _ _ fi _ _ _ _ _ => fi .u64 (nat_lit 18446744073709551615)
noncomputable def q313 : V := fun _ _ fi _ _ _ _ _ => fi .u8 (nat_lit 120)
noncomputable def q314 : V := fun _ _ fi _ _ _ _ _ => fi .u8 (nat_lit 111)
noncomputable def q315 : V := fun _ _ fi _ _ _ _ _ => fi .u8 (nat_lit 98)
noncomputable def n0 : Nat := nat_lit 0
noncomputable def n1 : Nat := nat_lit 1
noncomputable def n2 : Nat := nat_lit 2
noncomputable def n3 : Nat := nat_lit 3
noncomputable def n4 : Nat := nat_lit 4
noncomputable def n5 : Nat := nat_lit 5
noncomputable def n6 : Nat := nat_lit 6
noncomputable def n7 : Nat := nat_lit 7
noncomputable def n8 : Nat := nat_lit 8
noncomputable def n10 : Nat := nat_lit 10
noncomputable def n11 : Nat := nat_lit 11
noncomputable def n12 : Nat := nat_lit 12
noncomputable def n13 : Nat := nat_lit 13
noncomputable def n14 : Nat := nat_lit 14
noncomputable def n15 : Nat := nat_lit 15
noncomputable def n16 : Nat := nat_lit 16
noncomputable def n20 : Nat := nat_lit 20
noncomputable def n21 : Nat := nat_lit 21
noncomputable def n22 : Nat := nat_lit 22
noncomputable def n24 : Nat := nat_lit 24
noncomputable def n25 : Nat := nat_lit 25
noncomputable def n26 : Nat := nat_lit 26
noncomputable def n27 : Nat := nat_lit 27
noncomputable def n31 : Nat := nat_lit 31
noncomputable def n32 : Nat := nat_lit 32
noncomputable def n33 : Nat := nat_lit 33
noncomputable def n34 : Nat := nat_lit 34
noncomputable def n35 : Nat := nat_lit 35
noncomputable def n41 : Nat := nat_lit 41
noncomputable def n44 : Nat := nat_lit 44
noncomputable def n45 : Nat := nat_lit 45
noncomputable def n46 : Nat := nat_lit 46
noncomputable def n47 : Nat := nat_lit 47
noncomputable def n48 : Nat := nat_lit 48
noncomputable def n49 : Nat := nat_lit 49
noncomputable def n50 : Nat := nat_lit 50
noncomputable def n51 : Nat := nat_lit 51
noncomputable def n52 : Nat := nat_lit 52
noncomputable def n53 : Nat := nat_lit 53
noncomputable def n54 : Nat := nat_lit 54
noncomputable def n55 : Nat := nat_lit 55
noncomputable def n56 : Nat := nat_lit 56
noncomputable def n57 : Nat := nat_lit 57
noncomputable def n58 : Nat := nat_lit 58
noncomputable def n59 : Nat := nat_lit 59
noncomputable def n60 : Nat := nat_lit 60
noncomputable def n61 : Nat := nat_lit 61
noncomputable def n71 : Nat := nat_lit 71
noncomputable def n74 : Nat := nat_lit 74
noncomputable def n75 : Nat := nat_lit 75
noncomputable def n76 : Nat := nat_lit 76
noncomputable def n77 : Nat := nat_lit 77
noncomputable def n78 : Nat := nat_lit 78
noncomputable def n86 : Nat := nat_lit 86
noncomputable def n92 : Nat := nat_lit 92
noncomputable def n119 : Nat := nat_lit 119
noncomputable def n122 : Nat := nat_lit 122
noncomputable def n123 : Nat := nat_lit 123
noncomputable def n124 : Nat := nat_lit 124
noncomputable def n125 : Nat := nat_lit 125
noncomputable def n127 : Nat := nat_lit 127
noncomputable def n131 : Nat := nat_lit 131
noncomputable def n133 : Nat := nat_lit 133
noncomputable def n135 : Nat := nat_lit 135
noncomputable def n136 : Nat := nat_lit 136
noncomputable def n137 : Nat := nat_lit 137
noncomputable def n139 : Nat := nat_lit 139
noncomputable def n141 : Nat := nat_lit 141
noncomputable def n144 : Nat := nat_lit 144
noncomputable def n147 : Nat := nat_lit 147
noncomputable def n160 : Nat := nat_lit 160
noncomputable def n170 : Nat := nat_lit 170
noncomputable def n171 : Nat := nat_lit 171
noncomputable def n172 : Nat := nat_lit 172
noncomputable def n173 : Nat := nat_lit 173
noncomputable def n174 : Nat := nat_lit 174
noncomputable def n176 : Nat := nat_lit 176
noncomputable def n177 : Nat := nat_lit 177
noncomputable def n178 : Nat := nat_lit 178
noncomputable def n179 : Nat := nat_lit 179
noncomputable def n180 : Nat := nat_lit 180
noncomputable def n181 : Nat := nat_lit 181
noncomputable def n182 : Nat := nat_lit 182
noncomputable def n183 : Nat := nat_lit 183
noncomputable def n184 : Nat := nat_lit 184
noncomputable def n185 : Nat := nat_lit 185
noncomputable def n186 : Nat := nat_lit 186
noncomputable def n187 : Nat := nat_lit 187
noncomputable def n188 : Nat := nat_lit 188
noncomputable def n189 : Nat := nat_lit 189
noncomputable def n201 : Nat := nat_lit 201
noncomputable def n203 : Nat := nat_lit 203
noncomputable def n204 : Nat := nat_lit 204
noncomputable def n208 : Nat := nat_lit 208
noncomputable def n209 : Nat := nat_lit 209
noncomputable def n211 : Nat := nat_lit 211
noncomputable def n212 : Nat := nat_lit 212
noncomputable def n213 : Nat := nat_lit 213
noncomputable def n214 : Nat := nat_lit 214
noncomputable def n215 : Nat := nat_lit 215
noncomputable def n216 : Nat := nat_lit 216
noncomputable def n220 : Nat := nat_lit 220
noncomputable def n221 : Nat := nat_lit 221
noncomputable def n232 : Nat := nat_lit 232
noncomputable def n233 : Nat := nat_lit 233
noncomputable def n234 : Nat := nat_lit 234
noncomputable def n237 : Nat := nat_lit 237
noncomputable def n238 : Nat := nat_lit 238
noncomputable def n239 : Nat := nat_lit 239
noncomputable def n240 : Nat := nat_lit 240
noncomputable def n241 : Nat := nat_lit 241
noncomputable def n242 : Nat := nat_lit 242
noncomputable def n243 : Nat := nat_lit 243
noncomputable def n244 : Nat := nat_lit 244
noncomputable def n245 : Nat := nat_lit 245
noncomputable def n246 : Nat := nat_lit 246
noncomputable def n247 : Nat := nat_lit 247
noncomputable def n248 : Nat := nat_lit 248
noncomputable def n250 : Nat := nat_lit 250
noncomputable def n259 : Nat := nat_lit 259
noncomputable def n261 : Nat := nat_lit 261
noncomputable def n269 : Nat := nat_lit 269
noncomputable def n270 : Nat := nat_lit 270
noncomputable def n271 : Nat := nat_lit 271
noncomputable def n272 : Nat := nat_lit 272
noncomputable def n281 : Nat := nat_lit 281
noncomputable def n282 : Nat := nat_lit 282
noncomputable def n289 : Nat := nat_lit 289
noncomputable def n293 : Nat := nat_lit 293
noncomputable def n294 : Nat := nat_lit 294
noncomputable def n303 : Nat := nat_lit 303
noncomputable def n308 : Nat := nat_lit 308
noncomputable def n309 : Nat := nat_lit 309
noncomputable def n315 : Nat := nat_lit 315
noncomputable def n316 : Nat := nat_lit 316
noncomputable def n317 : Nat := nat_lit 317
/-- the regions of a function, in their order -/
noncomputable def regsA : Code → List (Array Oper) → List (Array Oper) := fun c => Code.rec (motive := fun _ => List (Array Oper) → List (Array Oper)) (fun l => l) (fun _ ops _ l => ops :: l) (fun _ _ a b l => a (b l)) (fun _ _ _ a b l => a (b l)) (fun _ _ a l => a l) (fun _ a l => a l)
  (fun _ _ _ _ _ _ l => l) (fun _ l => l) (fun _ _ l => l) (fun _ l => l) (fun _ l => l) (fun l => l) (fun _ l => l) c
noncomputable def reg (f r : Nat) : Array Oper := match (regsA (fBody (fnF f)) [])[r]? with | some a => a | none => #[]
noncomputable def S (f r i : Nat) : OF := slD Tryz.prog glo0 (reg f r) (opAt (reg f r) i)
noncomputable def Sb (f r i : Nat) : OF := slD Tryz.prog glo0 (reg f r) (bare (opAt (reg f r) i))
noncomputable def SA (f r j : Nat) : AgF DD := (slowA Tryz.prog glo0 (reg f r) j).go
noncomputable def RS (f : Nat) : RetF DD := (resS Tryz.prog (fRes (fnF f))).go
noncomputable def fb (f : Nat) : FF := (fnS Tryz.prog tyI fnF glo0 drawn 1000000 f).go
noncomputable def rA (x : V) (k : KR) : SK := lvT (r1 x) k
noncomputable def addTD : SF := addT.go
noncomputable def eqlTD : SF := eqlT.go
noncomputable def neqTD : SF := neqT.go
end Go.Proofs.YtaikcgmgjchfmaaGreatDoor
