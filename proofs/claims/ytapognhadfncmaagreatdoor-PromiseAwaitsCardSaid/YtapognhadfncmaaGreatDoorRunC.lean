/- The functions of the program in lifted forms, printed by a program of mine: constants. -/
import Derived.Test.YtapognhadfncmaaGreatDoorRunD
namespace Go.Proofs.YtapognhadfncmaaGreatDoor
open Go Go.Ev
set_option maxRecDepth 1000000
abbrev OF := OpF DD
abbrev FF := FnF DD
noncomputable def L0 : LdF := lN
noncomputable def L1 : LdF := lC L0
noncomputable def L2 : LdF := lC L1
noncomputable def L3 : LdF := lC L2
noncomputable def L4 : LdF := lC L3
noncomputable def L5 : LdF := lC L4
noncomputable def L6 : LdF := lC L5
noncomputable def L7 : LdF := lC L6
noncomputable def L8 : LdF := lC L7
noncomputable def L9 : LdF := lC L8
noncomputable def L10 : LdF := lC L9
noncomputable def L11 : LdF := lC L10
noncomputable def L12 : LdF := lC L11
noncomputable def L13 : LdF := lC L12
noncomputable def L14 : LdF := lC L13
noncomputable def M0 : StF := sN
noncomputable def M1 : StF := sC M0
noncomputable def M2 : StF := sC M1
noncomputable def M3 : StF := sC M2
noncomputable def M4 : StF := sC M3
noncomputable def M5 : StF := sC M4
noncomputable def M6 : StF := sC M5
noncomputable def M7 : StF := sC M6
noncomputable def M8 : StF := sC M7
noncomputable def M9 : StF := sC M8
noncomputable def M10 : StF := sC M9
noncomputable def M11 : StF := sC M10
noncomputable def M12 : StF := sC M11
noncomputable def M13 : StF := sC M12
noncomputable def M14 : StF := sC M13
noncomputable def Z0 : TmS DD := (ofListB DD [(.int .i64 0), (.int .i64 0), (.str 0 0), (.int .i64 0)]).go
noncomputable def Z1 : TmS DD := (ofListB DD [(.int .i64 0), (.int .i64 0), (.bool false), (.int .i64 0), (.int .i64 0), (.str 0 0), (.int .i64 0), .sl0, (.int .i64 0), (.int .i64 0), (.str 0 0), (.int .i64 0), (.bool false), (.int .i64 0)]).go
noncomputable def Z2 : TmS DD := (ofListB DD [.sl0]).go
noncomputable def Z3 : TmS DD := (ofListB DD [(.int .i64 0), (.int .i64 0), .sl0, .sl0, .sl0, (.int .i64 0), (.int .i64 0), (.int .i64 0), (.int .i64 0), .sl0]).go
noncomputable def Z4 : TmS DD := (ofListB DD [.ptr0, .ptr0, .ptr0]).go
noncomputable def Z5 : TmS DD := (ofListB DD [(.int .i64 0), .sl0]).go
noncomputable def Z6 : TmS DD := (ofListB DD [(.int .i64 0), (.str 0 0), (.int .i64 0), (.int .i64 0), .sl0]).go
noncomputable def Z11 : TmS DD := (ofListB DD [(.int .i64 0), (.int .i64 0)]).go
noncomputable def Z16 : TmS DD := (ofListB DD [(.int .i64 0), (.str 0 0), (.int .i64 0)]).go
noncomputable def Z18 : TmS DD := (ofListB DD [(.bool false), (.bool false), (.bool false), (.bool false)]).go
noncomputable def Z19 : TmS DD := (ofListB DD [(.int .i64 0), (.int .i64 0), (.int .i64 0)]).go
noncomputable def Z22 : TmS DD := (ofListB DD [(.str 0 0), (.int .i64 0), (.int .i64 0), (.int .i64 0), (.bool false), (.int .i64 0), (.bool false)]).go
noncomputable def q0 : V := fun _ ff _ _ _ _ _ _ => ff
noncomputable def q7 : V := fun _ _ fi _ _ _ _ _ => fi .i64 (nat_lit 256)
noncomputable def q8 : V := fun _ _ fi _ _ _ _ _ => fi .i64 (nat_lit 2)
noncomputable def q9 : V := fun tt _ _ _ _ _ _ _ => tt
noncomputable def q17 : V := fun _ _ fi _ _ _ _ _ => fi .i64 (nat_lit 5)
noncomputable def q19 : V := fun _ _ fi _ _ _ _ _ => fi .i64 (nat_lit 0)
noncomputable def q21 : V := fun _ _ fi _ _ _ _ _ => fi .i64 (nat_lit 16)
noncomputable def q22 : V := fun _ _ fi _ _ _ _ _ => fi .i64 (nat_lit 100000)
noncomputable def q23 : V := fun _ _ fi _ _ _ _ _ => fi .u8 (nat_lit 32)
noncomputable def q27 : V := fun _ _ fi _ _ _ _ _ => fi .i64 (nat_lit 1)
noncomputable def q37 : V := fun _ _ _ fs _ _ _ _ => fs (nat_lit 1) (nat_lit 41)
noncomputable def q39 : V := fun _ _ _ fs _ _ _ _ => fs (nat_lit 0) (nat_lit 0)
noncomputable def q40 : V := fun _ _ fi _ _ _ _ _ => fi .i64 (nat_lit 9)
noncomputable def q43 : V := fun _ _ fi _ _ _ _ _ => fi .i64 (nat_lit 3)
noncomputable def q44 : V := fun _ _ fi _ _ _ _ _ => fi .i64 (nat_lit 10)
noncomputable def q45 : V := fun _ _ _ fs _ _ _ _ => fs (nat_lit 1) (nat_lit 45)
noncomputable def q48 : V := encV .ptr0
noncomputable def q49 : V := fun _ _ fi _ _ _ _ _ => fi .i64 (nat_lit 4)
noncomputable def q50 : V := fun _ _ _ fs _ _ _ _ => fs (nat_lit 6) (nat_lit 119182899770472)
noncomputable def q51 : V := fun _ _ fi _ _ _ _ _ => fi .i64 (nat_lit 12)
noncomputable def q52 : V := encV .sl0
noncomputable def q53 : V := fun _ _ fi _ _ _ _ _ => fi .i64 (nat_lit 99984)
noncomputable def q55 : V := fun _ _ fi _ _ _ _ _ => fi .i64 (nat_lit 8)
noncomputable def q56 : V := fun _ _ fi _ _ _ _ _ => fi .i64 (nat_lit 6)
noncomputable def q57 : V := vOth (.int .i64 (.negSucc 0))
noncomputable def q58 : V := fun _ _ fi _ _ _ _ _ => fi .i64 (nat_lit 10000)
noncomputable def q61 : V := fun _ _ fi _ _ _ _ _ => fi .i64 (nat_lit 31)
noncomputable def q62 : V := fun _ _ fi _ _ _ _ _ => fi .i64 (nat_lit 25)
noncomputable def q63 : V := fun _ _ fi _ _ _ _ _ => fi .i64 (nat_lit 21)
noncomputable def q64 : V := fun _ _ fi _ _ _ _ _ => fi .i64 (nat_lit 11)
noncomputable def q65 : V := fun _ _ fi _ _ _ _ _ => fi .i64 (nat_lit 45)
noncomputable def q66 : V := fun _ _ fi _ _ _ _ _ => fi .i64 (nat_lit 44)
noncomputable def q67 : V := fun _ _ fi _ _ _ _ _ => fi .i64 (nat_lit 43)
noncomputable def q68 : V := fun _ _ fi _ _ _ _ _ => fi .i64 (nat_lit 42)
noncomputable def q69 : V := fun _ _ fi _ _ _ _ _ => fi .i64 (nat_lit 41)
noncomputable def q70 : V := fun _ _ fi _ _ _ _ _ => fi .i64 (nat_lit 40)
noncomputable def q71 : V := fun _ _ fi _ _ _ _ _ => fi .i64 (nat_lit 53)
noncomputable def q72 : V := fun _ _ fi _ _ _ _ _ => fi .i64 (nat_lit 52)
noncomputable def q73 : V := fun _ _ fi _ _ _ _ _ => fi .i64 (nat_lit 51)
noncomputable def q74 : V := fun _ _ fi _ _ _ _ _ => fi .i64 (nat_lit 49)
noncomputable def q75 : V := fun _ _ fi _ _ _ _ _ => fi .i64 (nat_lit 48)
noncomputable def q76 : V := fun _ _ fi _ _ _ _ _ => fi .i64 (nat_lit 47)
noncomputable def q77 : V := fun _ _ fi _ _ _ _ _ => fi .i64 (nat_lit 46)
noncomputable def q78 : V := fun _ _ fi _ _ _ _ _ => fi .i64 (nat_lit 7)
noncomputable def q79 : V := fun _ _ _ fs _ _ _ _ => fs (nat_lit 10) (nat_lit 389031341209076454551410)
noncomputable def q80 : V := fun _ _ _ fs _ _ _ _ => fs (nat_lit 13) (nat_lit 8830676173798189188992369390201)
noncomputable def q85 : V := fun _ _ fi _ _ _ _ _ => fi .i64 (nat_lit 32)
noncomputable def q87 : V := fun _ _ fi _ _ _ _ _ => fi .i64 (nat_lit 64)
noncomputable def q88 : V := fun _ _ fi _ _ _ _ _ => fi .i64 (nat_lit 2147483647)
noncomputable def q93 : V := fun _ _ fi _ _ _ _ _ => fi .i64 (nat_lit 20)
noncomputable def q94 : V := fun _ _ fi _ _ _ _ _ => fi .i64 (nat_lit 19)
noncomputable def q95 : V := fun _ _ fi _ _ _ _ _ => fi .i64 (nat_lit 15)
noncomputable def q96 : V := fun _ _ fi _ _ _ _ _ => fi .i64 (nat_lit 18)
noncomputable def q97 : V := fun _ _ fi _ _ _ _ _ => fi .i64 (nat_lit 14)
noncomputable def q98 : V := fun _ _ fi _ _ _ _ _ => fi .i64 (nat_lit 17)
noncomputable def q99 : V := fun _ _ fi _ _ _ _ _ => fi .i64 (nat_lit 13)
noncomputable def q100 : V := fun _ _ _ fs _ _ _ _ => fs (nat_lit 14) (nat_lit 1671191322026108085646479150182258)
noncomputable def q102 : V := fun _ _ fi _ _ _ _ _ => fi .i64 (nat_lit 24)
noncomputable def q103 : V := fun _ _ fi _ _ _ _ _ => fi .i64 (nat_lit 23)
noncomputable def q104 : V := fun _ _ fi _ _ _ _ _ => fi .i64 (nat_lit 22)
noncomputable def q105 : V := fun _ _ fi _ _ _ _ _ => fi .i64 (nat_lit 30)
noncomputable def q106 : V := fun _ _ fi _ _ _ _ _ => fi .i64 (nat_lit 29)
noncomputable def q107 : V := fun _ _ fi _ _ _ _ _ => fi .i64 (nat_lit 28)
noncomputable def q108 : V := fun _ _ fi _ _ _ _ _ => fi .i64 (nat_lit 27)
noncomputable def q109 : V := fun _ _ fi _ _ _ _ _ => fi .i64 (nat_lit 26)
noncomputable def q112 : V := fun _ _ fi _ _ _ _ _ => fi .i64 (nat_lit 50)
noncomputable def q113 : V := fun _ _ fi _ _ _ _ _ => fi .i64 (nat_lit 39)
noncomputable def q114 : V := fun _ _ fi _ _ _ _ _ => fi .i64 (nat_lit 38)
noncomputable def q115 : V := fun _ _ fi _ _ _ _ _ => fi .i64 (nat_lit 37)
noncomputable def q116 : V := fun _ _ fi _ _ _ _ _ => fi .i64 (nat_lit 36)
noncomputable def q117 : V := fun _ _ fi _ _ _ _ _ => fi .i64 (nat_lit 35)
noncomputable def q118 : V := fun _ _ fi _ _ _ _ _ => fi .i64 (nat_lit 34)
noncomputable def q119 : V := fun _ _ fi _ _ _ _ _ => fi .i64 (nat_lit 33)
noncomputable def q124 : V := fun _ _ _ fs _ _ _ _ => fs (nat_lit 1) (nat_lit 59)
noncomputable def q125 : V := fun _ _ _ fs _ _ _ _ => fs (nat_lit 1) (nat_lit 123)
noncomputable def q126 : V := fun _ _ _ fs _ _ _ _ => fs (nat_lit 5) (nat_lit 427071271796)
noncomputable def q127 : V := fun _ _ _ fs _ _ _ _ => fs (nat_lit 3) (nat_lit 7103860)
noncomputable def q133 : V := fun _ _ _ fs _ _ _ _ => fs (nat_lit 15) (nat_lit 573413202402666960170738154427016548)
noncomputable def q134 : V := fun _ _ _ fs _ _ _ _ => fs (nat_lit 9) (nat_lit 2166223650956390589796)
noncomputable def q139 : V := fun _ _ _ fs _ _ _ _ => fs (nat_lit 8) (nat_lit 7382928537577680750)
noncomputable def q145 : V := fun _ _ fi _ _ _ _ _ => fi .i64 (nat_lit 128)
noncomputable def q147 : V := fun _ _ _ fs _ _ _ _ => fs (nat_lit 1) (nat_lit 93)
noncomputable def q148 : V := fun _ _ _ fs _ _ _ _ => fs (nat_lit 1) (nat_lit 91)
noncomputable def q149 : V := fun _ _ _ fs _ _ _ _ => fs (nat_lit 1) (nat_lit 40)
noncomputable def q150 : V := fun _ _ _ fs _ _ _ _ => fs (nat_lit 1) (nat_lit 44)
noncomputable def q151 : V := fun _ _ _ fs _ _ _ _ => fs (nat_lit 1) (nat_lit 61)
noncomputable def q152 : V := fun _ _ _ fs _ _ _ _ => fs (nat_lit 5) (nat_lit 418549165667)
noncomputable def q153 : V := fun _ _ _ fs _ _ _ _ => fs (nat_lit 1) (nat_lit 42)
noncomputable def q154 : V := fun _ _ _ fs _ _ _ _ => fs (nat_lit 4) (nat_lit 1701606245)
noncomputable def q155 : V := fun _ _ _ fs _ _ _ _ => fs (nat_lit 8) (nat_lit 7165066978433856869)
noncomputable def q156 : V := fun _ _ _ fs _ _ _ _ => fs (nat_lit 3) (nat_lit 7631481)
noncomputable def q157 : V := fun _ _ _ fs _ _ _ _ => fs (nat_lit 5) (nat_lit 499968536439)
noncomputable def q158 : V := fun _ _ _ fs _ _ _ _ => fs (nat_lit 5) (nat_lit 422826041707)
noncomputable def q159 : V := fun _ _ _ fs _ _ _ _ => fs (nat_lit 6) (nat_lit 125780071117422)
noncomputable def q160 : V := fun _ _ _ fs _ _ _ _ => fs (nat_lit 3) (nat_lit 6713202)
noncomputable def q161 : V := fun _ _ _ fs _ _ _ _ => fs (nat_lit 5) (nat_lit 512852847717)
noncomputable def q162 : V := fun _ _ _ fs _ _ _ _ => fs (nat_lit 2) (nat_lit 26982)
noncomputable def q163 : V := fun _ _ _ fs _ _ _ _ => fs (nat_lit 5) (nat_lit 521459297380)
noncomputable def q164 : V := fun _ _ fi _ _ _ _ _ => fi .i64 (nat_lit 1048576)
noncomputable def q177 : V := fun _ _ fi _ _ _ _ _ => fi .i64 (nat_lit 100)
noncomputable def q179 : V := fun _ _ _ fs _ _ _ _ => fs (nat_lit 2) (nat_lit 28518)
noncomputable def q180 : V := fun _ _ _ fs _ _ _ _ => fs (nat_lit 7) (nat_lit 28826370426301561)
noncomputable def q181 : V := fun _ _ _ fs _ _ _ _ => fs (nat_lit 5) (nat_lit 426836779880)
noncomputable def q182 : V := fun _ _ _ fs _ _ _ _ => fs (nat_lit 2) (nat_lit 15678)
noncomputable def q183 : V := fun _ _ _ fs _ _ _ _ => fs (nat_lit 1) (nat_lit 58)
noncomputable def q184 : V := fun _ _ _ fs _ _ _ _ => fs (nat_lit 1) (nat_lit 63)
noncomputable def q186 : V := fun _ _ fi _ _ _ _ _ => fi .u8 (nat_lit 48)
noncomputable def q187 : V := fun _ _ fi _ _ _ _ _ => fi .u8 (nat_lit 10)
noncomputable def q188 : V := fun _ _ fi _ _ _ _ _ => fi .u8 (nat_lit 97)
noncomputable def q189 : V := fun _ _ fi _ _ _ _ _ => fi .u8 (nat_lit 122)
noncomputable def q190 : V := fun _ _ fi _ _ _ _ _ => fi .u8 (nat_lit 57)
noncomputable def q191 : V := fun _ _ fi _ _ _ _ _ => fi .u8 (nat_lit 95)
noncomputable def q211 : V := fun _ _ _ fs _ _ _ _ => fs (nat_lit 4) (nat_lit 1853189228)
noncomputable def q212 : V := fun _ _ _ fs _ _ _ _ => fs (nat_lit 2) (nat_lit 10799)
noncomputable def q213 : V := fun _ _ _ fs _ _ _ _ => fs (nat_lit 2) (nat_lit 12074)
noncomputable def q214 : V := fun _ _ _ fs _ _ _ _ => fs (nat_lit 2) (nat_lit 12079)
noncomputable def q215 : V := fun _ _ fi _ _ _ _ _ => fi .u8 (nat_lit 13)
noncomputable def q216 : V := fun _ _ fi _ _ _ _ _ => fi .u8 (nat_lit 9)
noncomputable def q217 : V := fun _ _ fi _ _ _ _ _ => fi .u8 (nat_lit 39)
noncomputable def q218 : V := fun _ _ fi _ _ _ _ _ => fi .u8 (nat_lit 34)
noncomputable def q229 : V := fun _ _ fi _ _ _ _ _ => fi .u8 (nat_lit 36)
noncomputable def q230 : V := fun _ _ fi _ _ _ _ _ => fi .u8 (nat_lit 90)
noncomputable def q231 : V := fun _ _ fi _ _ _ _ _ => fi .u8 (nat_lit 65)
noncomputable def q232 : V := fun _ _ _ fs _ _ _ _ => fs (nat_lit 6) (nat_lit 128064925560678)
noncomputable def q233 : V := fun _ _ _ fs _ _ _ _ => fs (nat_lit 4) (nat_lit 1953658213)
noncomputable def q234 : V := fun _ _ _ fs _ _ _ _ => fs (nat_lit 4) (nat_lit 1952999795)
noncomputable def q235 : V := fun _ _ _ fs _ _ _ _ => fs (nat_lit 3) (nat_lit 7234935)
noncomputable def q236 : V := fun _ _ _ fs _ _ _ _ => fs (nat_lit 10) (nat_lit 497885941930959200153446)
noncomputable def q237 : V := fun _ _ _ fs _ _ _ _ => fs (nat_lit 2) (nat_lit 26990)
noncomputable def q238 : V := fun _ _ _ fs _ _ _ _ => fs (nat_lit 5) (nat_lit 439721161573)
noncomputable def q239 : V := fun _ _ _ fs _ _ _ _ => fs (nat_lit 6) (nat_lit 110386773062757)
noncomputable def q240 : V := fun _ _ _ fs _ _ _ _ => fs (nat_lit 5) (nat_lit 418614700404)
noncomputable def q242 : V := fun _ _ _ fs _ _ _ _ => fs (nat_lit 20) (nat_lit 704996956525606734928501125991493482980038491198)
noncomputable def q243 : V := fun _ _ _ fs _ _ _ _ => fs (nat_lit 2) (nat_lit 11565)
noncomputable def q244 : V := fun _ _ _ fs _ _ _ _ => fs (nat_lit 2) (nat_lit 11051)
noncomputable def q245 : V := fun _ _ _ fs _ _ _ _ => fs (nat_lit 2) (nat_lit 16191)
noncomputable def q246 : V := fun _ _ _ fs _ _ _ _ => fs (nat_lit 2) (nat_lit 31868)
noncomputable def q247 : V := fun _ _ _ fs _ _ _ _ => fs (nat_lit 2) (nat_lit 9766)
noncomputable def q248 : V := fun _ _ _ fs _ _ _ _ => fs (nat_lit 2) (nat_lit 15933)
noncomputable def q249 : V := fun _ _ _ fs _ _ _ _ => fs (nat_lit 2) (nat_lit 15421)
noncomputable def q250 : V := fun _ _ _ fs _ _ _ _ => fs (nat_lit 2) (nat_lit 8509)
noncomputable def q251 : V := fun _ _ _ fs _ _ _ _ => fs (nat_lit 2) (nat_lit 15677)
noncomputable def q252 : V := fun _ _ _ fs _ _ _ _ => fs (nat_lit 2) (nat_lit 10813)
noncomputable def q253 : V := fun _ _ _ fs _ _ _ _ => fs (nat_lit 2) (nat_lit 11581)
noncomputable def q254 : V := fun _ _ _ fs _ _ _ _ => fs (nat_lit 2) (nat_lit 11069)
noncomputable def q255 : V := fun _ _ _ fs _ _ _ _ => fs (nat_lit 3) (nat_lit 2178365)
noncomputable def q256 : V := fun _ _ _ fs _ _ _ _ => fs (nat_lit 3) (nat_lit 4013373)
noncomputable def q257 : V := fun _ _ _ fs _ _ _ _ => fs (nat_lit 1) (nat_lit 33)
noncomputable def q258 : V := fun _ _ _ fs _ _ _ _ => fs (nat_lit 1) (nat_lit 43)
noncomputable def q259 : V := fun _ _ _ fs _ _ _ _ => fs (nat_lit 1) (nat_lit 47)
noncomputable def q260 : V := fun _ _ _ fs _ _ _ _ => fs (nat_lit 1) (nat_lit 37)
noncomputable def q261 : V := fun _ _ _ fs _ _ _ _ => fs (nat_lit 1) (nat_lit 60)
noncomputable def q262 : V := fun _ _ _ fs _ _ _ _ => fs (nat_lit 1) (nat_lit 62)
noncomputable def q263 : V := fun _ _ fi _ _ _ _ _ => fi .i64 (nat_lit 129)
noncomputable def q264 : V := fun _ _ _ fs _ _ _ _ => fs (nat_lit 4) (nat_lit 1282367844)
noncomputable def q265 : V := fun _ _ _ fs _ _ _ _ => fs (nat_lit 5) (nat_lit 366924293478)
noncomputable def q266 : V := fun _ _ _ fs _ _ _ _ => fs (nat_lit 4) (nat_lit 1316318316)
noncomputable def q267 : V := fun _ _ _ fs _ _ _ _ => fs (nat_lit 4) (nat_lit 1416787301)
noncomputable def q268 : V := fun _ _ _ fs _ _ _ _ => fs (nat_lit 5) (nat_lit 302282208101)
noncomputable def q269 : V := fun _ _ _ fs _ _ _ _ => fs (nat_lit 4) (nat_lit 1416128883)
noncomputable def q270 : V := fun _ _ _ fs _ _ _ _ => fs (nat_lit 3) (nat_lit 5271408)
noncomputable def q271 : V := fun _ _ _ fs _ _ _ _ => fs (nat_lit 3) (nat_lit 4486512)
noncomputable def q272 : V := fun _ _ _ fs _ _ _ _ => fs (nat_lit 4) (nat_lit 1348561266)
noncomputable def q273 : V := fun _ _ _ fs _ _ _ _ => fs (nat_lit 4) (nat_lit 1400332656)
noncomputable def q274 : V := fun _ _ _ fs _ _ _ _ => fs (nat_lit 4) (nat_lit 1416983150)
noncomputable def q275 : V := fun _ _ _ fs _ _ _ _ => fs (nat_lit 5) (nat_lit 328286298476)
noncomputable def q276 : V := fun _ _ _ fs _ _ _ _ => fs (nat_lit 8) (nat_lit 6009337149430915436)
noncomputable def q277 : V := fun _ _ _ fs _ _ _ _ => fs (nat_lit 9) (nat_lit 1354568335469159080300)
noncomputable def q278 : V := fun _ _ _ fs _ _ _ _ => fs (nat_lit 10) (nat_lit 318398107957970044412268)
noncomputable def q279 : V := fun _ _ _ fs _ _ _ _ => fs (nat_lit 6) (nat_lit 76340733109620)
noncomputable def q280 : V := fun _ _ _ fs _ _ _ _ => fs (nat_lit 6) (nat_lit 76340733896052)
noncomputable def q281 : V := fun _ _ _ fs _ _ _ _ => fs (nat_lit 7) (nat_lit 19543227710204276)
noncomputable def q282 : V := fun _ _ _ fs _ _ _ _ => fs (nat_lit 7) (nat_lit 22647136667922038)
noncomputable def q283 : V := fun _ _ _ fs _ _ _ _ => fs (nat_lit 6) (nat_lit 88439555190390)
noncomputable def q284 : V := fun _ _ _ fs _ _ _ _ => fs (nat_lit 7) (nat_lit 18981352301227638)
noncomputable def q285 : V := fun _ _ _ fs _ _ _ _ => fs (nat_lit 6) (nat_lit 78531050758508)
noncomputable def q286 : V := fun _ _ _ fs _ _ _ _ => fs (nat_lit 9) (nat_lit 1538390304744072700268)
noncomputable def q287 : V := fun _ _ _ fs _ _ _ _ => fs (nat_lit 9) (nat_lit 1261685202988755476844)
noncomputable def q288 : V := fun _ _ _ fs _ _ _ _ => fs (nat_lit 10) (nat_lit 398918939552005000159596)
noncomputable def q289 : V := fun _ _ _ fs _ _ _ _ => fs (nat_lit 7) (nat_lit 20096273586745200)
noncomputable def q290 : V := fun _ _ _ fs _ _ _ _ => fs (nat_lit 7) (nat_lit 23473973307273072)
noncomputable def q291 : V := fun _ _ _ fs _ _ _ _ => fs (nat_lit 7) (nat_lit 19251814296874864)
noncomputable def q292 : V := fun _ _ _ fs _ _ _ _ => fs (nat_lit 8) (nat_lit 5144646008074167672)
noncomputable def q293 : V := fun _ _ _ fs _ _ _ _ => fs (nat_lit 8) (nat_lit 6009337136529302904)
noncomputable def q294 : V := fun _ _ _ fs _ _ _ _ => fs (nat_lit 8) (nat_lit 4928464429867361656)
noncomputable def q295 : V := fun _ _ _ fs _ _ _ _ => fs (nat_lit 9) (nat_lit 1446157437553514734452)
noncomputable def q296 : V := fun _ _ _ fs _ _ _ _ => fs (nat_lit 8) (nat_lit 5649052430582833529)
noncomputable def q297 : V := fun _ _ _ fs _ _ _ _ => fs (nat_lit 5) (nat_lit 302415965284)
noncomputable def q298 : V := fun _ _ _ fs _ _ _ _ => fs (nat_lit 7) (nat_lit 19819132700868980)
noncomputable def q299 : V := fun _ _ _ fs _ _ _ _ => fs (nat_lit 4) (nat_lit 1349874536)
noncomputable def q300 : V := fun _ _ _ fs _ _ _ _ => fs (nat_lit 7) (nat_lit 18978049373860453)
noncomputable def q301 : V := fun _ _ _ fs _ _ _ _ => fs (nat_lit 5) (nat_lit 366924100217)
noncomputable def q302 : V := fun _ _ _ fs _ _ _ _ => fs (nat_lit 6) (nat_lit 73020590879353)
noncomputable def q303 : V := fun _ _ _ fs _ _ _ _ => fs (nat_lit 4) (nat_lit 1249209712)
noncomputable def q304 : V := fun _ _ _ fs _ _ _ _ => fs (nat_lit 7) (nat_lit 20660125768119141)
noncomputable def q305 : V := fun _ _ _ fs _ _ _ _ => fs (nat_lit 6) (nat_lit 80703852279141)
noncomputable def q306 : V := fun _ _ _ fs _ _ _ _ => fs (nat_lit 7) (nat_lit 18417250511187312)
noncomputable def q307 : V := fun _ _ _ fs _ _ _ _ => fs (nat_lit 6) (nat_lit 87352294075760)
noncomputable def q308 : V := fun _ _ _ fs _ _ _ _ => fs (nat_lit 8) (nat_lit 5653544119595003248)
noncomputable def q309 : V := fun _ _ _ fs _ _ _ _ => fs (nat_lit 4) (nat_lit 1130458220)
noncomputable def q310 : V := fun _ _ _ fs _ _ _ _ => fs (nat_lit 3) (nat_lit 5137783)
noncomputable def q311 : V := fun _ _ _ fs _ _ _ _ => fs (nat_lit 6) (nat_lit 90595699028590)
noncomputable def q312 : V := fun _ _ _ fs _ _ _ _ => fs (nat_lit 5) (nat_lit 362529582967)
noncomputable def q313 : V := fun _ _ _ fs _ _ _ _ => fs (nat_lit 4) (nat_lit 1232364914)
noncomputable def q314 : V := fun _ _ _ fs _ _ _ _ => fs (nat_lit 4) (nat_lit 1315272820)
noncomputable def q315 : V := fun _ _ _ fs _ _ _ _ => fs (nat_lit 5) (nat_lit 384020343908)
noncomputable def q316 : V := fun _ _ _ fs _ _ _ _ => fs (nat_lit 5) (nat_lit 281175746932)
noncomputable def q330 : V := fun _ _ _ fs _ _ _ _ => fs (nat_lit 1) (nat_lit 46)
noncomputable def n0 : Nat := nat_lit 0
noncomputable def n1 : Nat := nat_lit 1
noncomputable def n2 : Nat := nat_lit 2
noncomputable def n3 : Nat := nat_lit 3
noncomputable def n4 : Nat := nat_lit 4
noncomputable def n5 : Nat := nat_lit 5
noncomputable def n6 : Nat := nat_lit 6
noncomputable def n7 : Nat := nat_lit 7
noncomputable def n8 : Nat := nat_lit 8
noncomputable def n9 : Nat := nat_lit 9
noncomputable def n10 : Nat := nat_lit 10
noncomputable def n11 : Nat := nat_lit 11
noncomputable def n12 : Nat := nat_lit 12
noncomputable def n13 : Nat := nat_lit 13
noncomputable def n14 : Nat := nat_lit 14
noncomputable def n15 : Nat := nat_lit 15
noncomputable def n16 : Nat := nat_lit 16
noncomputable def n17 : Nat := nat_lit 17
noncomputable def n25 : Nat := nat_lit 25
noncomputable def n26 : Nat := nat_lit 26
noncomputable def n27 : Nat := nat_lit 27
noncomputable def n28 : Nat := nat_lit 28
noncomputable def n29 : Nat := nat_lit 29
noncomputable def n30 : Nat := nat_lit 30
noncomputable def n32 : Nat := nat_lit 32
noncomputable def n33 : Nat := nat_lit 33
noncomputable def n34 : Nat := nat_lit 34
noncomputable def n35 : Nat := nat_lit 35
noncomputable def n38 : Nat := nat_lit 38
noncomputable def n39 : Nat := nat_lit 39
noncomputable def n40 : Nat := nat_lit 40
noncomputable def n41 : Nat := nat_lit 41
noncomputable def n46 : Nat := nat_lit 46
noncomputable def n49 : Nat := nat_lit 49
noncomputable def n51 : Nat := nat_lit 51
noncomputable def n53 : Nat := nat_lit 53
noncomputable def n56 : Nat := nat_lit 56
noncomputable def n57 : Nat := nat_lit 57
noncomputable def n58 : Nat := nat_lit 58
noncomputable def n59 : Nat := nat_lit 59
noncomputable def n60 : Nat := nat_lit 60
noncomputable def n61 : Nat := nat_lit 61
noncomputable def n62 : Nat := nat_lit 62
noncomputable def n63 : Nat := nat_lit 63
noncomputable def n64 : Nat := nat_lit 64
noncomputable def n65 : Nat := nat_lit 65
noncomputable def n66 : Nat := nat_lit 66
noncomputable def n67 : Nat := nat_lit 67
noncomputable def n68 : Nat := nat_lit 68
noncomputable def n69 : Nat := nat_lit 69
noncomputable def n70 : Nat := nat_lit 70
noncomputable def n71 : Nat := nat_lit 71
noncomputable def n72 : Nat := nat_lit 72
noncomputable def n76 : Nat := nat_lit 76
noncomputable def n77 : Nat := nat_lit 77
noncomputable def n78 : Nat := nat_lit 78
noncomputable def n79 : Nat := nat_lit 79
noncomputable def n80 : Nat := nat_lit 80
noncomputable def n81 : Nat := nat_lit 81
noncomputable def n82 : Nat := nat_lit 82
noncomputable def n104 : Nat := nat_lit 104
noncomputable def n105 : Nat := nat_lit 105
noncomputable def n107 : Nat := nat_lit 107
noncomputable def n108 : Nat := nat_lit 108
noncomputable def n109 : Nat := nat_lit 109
noncomputable def n116 : Nat := nat_lit 116
noncomputable def n117 : Nat := nat_lit 117
noncomputable def n118 : Nat := nat_lit 118
noncomputable def n137 : Nat := nat_lit 137
noncomputable def n140 : Nat := nat_lit 140
noncomputable def n141 : Nat := nat_lit 141
noncomputable def n142 : Nat := nat_lit 142
noncomputable def n143 : Nat := nat_lit 143
noncomputable def n144 : Nat := nat_lit 144
noncomputable def n145 : Nat := nat_lit 145
noncomputable def n146 : Nat := nat_lit 146
noncomputable def n147 : Nat := nat_lit 147
noncomputable def n148 : Nat := nat_lit 148
noncomputable def n149 : Nat := nat_lit 149
noncomputable def n150 : Nat := nat_lit 150
noncomputable def n151 : Nat := nat_lit 151
noncomputable def n153 : Nat := nat_lit 153
noncomputable def n154 : Nat := nat_lit 154
noncomputable def n155 : Nat := nat_lit 155
noncomputable def n157 : Nat := nat_lit 157
noncomputable def n159 : Nat := nat_lit 159
noncomputable def n160 : Nat := nat_lit 160
noncomputable def n164 : Nat := nat_lit 164
noncomputable def n176 : Nat := nat_lit 176
noncomputable def n186 : Nat := nat_lit 186
noncomputable def n187 : Nat := nat_lit 187
noncomputable def n188 : Nat := nat_lit 188
noncomputable def n189 : Nat := nat_lit 189
noncomputable def n190 : Nat := nat_lit 190
noncomputable def n191 : Nat := nat_lit 191
noncomputable def n193 : Nat := nat_lit 193
noncomputable def n194 : Nat := nat_lit 194
noncomputable def n195 : Nat := nat_lit 195
noncomputable def n196 : Nat := nat_lit 196
noncomputable def n198 : Nat := nat_lit 198
noncomputable def n199 : Nat := nat_lit 199
noncomputable def n200 : Nat := nat_lit 200
noncomputable def n201 : Nat := nat_lit 201
noncomputable def n202 : Nat := nat_lit 202
noncomputable def n203 : Nat := nat_lit 203
noncomputable def n204 : Nat := nat_lit 204
noncomputable def n205 : Nat := nat_lit 205
noncomputable def n206 : Nat := nat_lit 206
noncomputable def n207 : Nat := nat_lit 207
noncomputable def n208 : Nat := nat_lit 208
noncomputable def n209 : Nat := nat_lit 209
noncomputable def n210 : Nat := nat_lit 210
noncomputable def n211 : Nat := nat_lit 211
noncomputable def n212 : Nat := nat_lit 212
noncomputable def n213 : Nat := nat_lit 213
noncomputable def n214 : Nat := nat_lit 214
noncomputable def n215 : Nat := nat_lit 215
noncomputable def n217 : Nat := nat_lit 217
noncomputable def n235 : Nat := nat_lit 235
noncomputable def n236 : Nat := nat_lit 236
noncomputable def n238 : Nat := nat_lit 238
noncomputable def n239 : Nat := nat_lit 239
noncomputable def n241 : Nat := nat_lit 241
noncomputable def n242 : Nat := nat_lit 242
noncomputable def n243 : Nat := nat_lit 243
noncomputable def n247 : Nat := nat_lit 247
noncomputable def n248 : Nat := nat_lit 248
noncomputable def n250 : Nat := nat_lit 250
noncomputable def n251 : Nat := nat_lit 251
noncomputable def n252 : Nat := nat_lit 252
noncomputable def n259 : Nat := nat_lit 259
noncomputable def n272 : Nat := nat_lit 272
noncomputable def n273 : Nat := nat_lit 273
noncomputable def n274 : Nat := nat_lit 274
noncomputable def n275 : Nat := nat_lit 275
noncomputable def n276 : Nat := nat_lit 276
noncomputable def n277 : Nat := nat_lit 277
noncomputable def n278 : Nat := nat_lit 278
noncomputable def n279 : Nat := nat_lit 279
noncomputable def n280 : Nat := nat_lit 280
noncomputable def n281 : Nat := nat_lit 281
noncomputable def n282 : Nat := nat_lit 282
noncomputable def n283 : Nat := nat_lit 283
noncomputable def n284 : Nat := nat_lit 284
noncomputable def n285 : Nat := nat_lit 285
noncomputable def n286 : Nat := nat_lit 286
noncomputable def n287 : Nat := nat_lit 287
noncomputable def n288 : Nat := nat_lit 288
noncomputable def n289 : Nat := nat_lit 289
noncomputable def n290 : Nat := nat_lit 290
noncomputable def n291 : Nat := nat_lit 291
noncomputable def n292 : Nat := nat_lit 292
noncomputable def n293 : Nat := nat_lit 293
noncomputable def n294 : Nat := nat_lit 294
noncomputable def n296 : Nat := nat_lit 296
noncomputable def n304 : Nat := nat_lit 304
noncomputable def n305 : Nat := nat_lit 305
noncomputable def n306 : Nat := nat_lit 306
noncomputable def n311 : Nat := nat_lit 311
noncomputable def n312 : Nat := nat_lit 312
noncomputable def n316 : Nat := nat_lit 316
noncomputable def n317 : Nat := nat_lit 317
noncomputable def n319 : Nat := nat_lit 319
noncomputable def n323 : Nat := nat_lit 323
noncomputable def n328 : Nat := nat_lit 328
noncomputable def n329 : Nat := nat_lit 329
noncomputable def n332 : Nat := nat_lit 332
noncomputable def n333 : Nat := nat_lit 333
noncomputable def n334 : Nat := nat_lit 334
noncomputable def n335 : Nat := nat_lit 335
/-- the regions of a function, in their order -/
noncomputable def regsA : Code → List (Array Oper) → List (Array Oper) := fun c => Code.rec (motive := fun _ => List (Array Oper) → List (Array Oper)) (fun l => l) (fun _ ops _ l => ops :: l) (fun _ _ a b l => a (b l)) (fun _ _ _ a b l => a (b l)) (fun _ _ a l => a l) (fun _ a l => a l)
  (fun _ _ _ _ _ _ l => l) (fun _ l => l) (fun _ _ l => l) (fun _ l => l) (fun _ l => l) (fun l => l) (fun _ l => l) c
noncomputable def reg (f r : Nat) : Array Oper := match (regsA (fBody (fnF f)) [])[r]? with | some a => a | none => #[]
noncomputable def S (f r i : Nat) : OF := slD Tryz.prog glo0 (reg f r) (opAt (reg f r) i)
noncomputable def Sb (f r i : Nat) : OF := slD Tryz.prog glo0 (reg f r) (bare (opAt (reg f r) i))
noncomputable def SA (f r j : Nat) : AgF DD := (slowA Tryz.prog glo0 (reg f r) j).go
noncomputable def RS (f : Nat) : RetF DD := (resS Tryz.prog (fRes (fnF f))).go
noncomputable def fb (f : Nat) : FF := (fnS Tryz.prog tyI fnF glo0 drawn 1000000 f).go
noncomputable def rA (x : V) (k : KR) : SK := lvT (r1 x) k
noncomputable def addTD : SF := addT.go
noncomputable def eqlTD : SF := eqlT.go
noncomputable def neqTD : SF := neqT.go
end Go.Proofs.YtapognhadfncmaaGreatDoor
