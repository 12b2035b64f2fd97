/- A frame of 122 slots, written out. -/
import Derived.Test.YtbckjaoljeimgaaGreatDoorEvO
import Derived.WalkKit
import Derived.WalkMore
namespace Go.Proofs.YtbckjaoljeimgaaGreatDoor
open Go Go.Ev
set_option maxRecDepth 100000
theorem cons_of {α : Type} {n : Nat} {l : List α} (h : l.length = n + 1) : ∃ a l', l = a :: l' ∧ l'.length = n := by
  cases l with
  | nil => cases h
  | cons a l => exact ⟨a, l, rfl, by simpa using h⟩
theorem split122 {Q : Array Value → Prop} (H : ∀ u0 u1 u2 u3 u4 u5 u6 u7 u8 u9 u10 u11 u12 u13 u14 u15 u16 u17 u18 u19 u20 u21 u22 u23 u24 u25 u26 u27 u28 u29 u30 u31 u32 u33 u34 u35 u36 u37 u38 u39 u40 u41 u42 u43 u44 u45 u46 u47 u48 u49 u50 u51 u52 u53 u54 u55 u56 u57 u58 u59 u60 u61 u62 u63 u64 u65 u66 u67 u68 u69 u70 u71 u72 u73 u74 u75 u76 u77 u78 u79 u80 u81 u82 u83 u84 u85 u86 u87 u88 u89 u90 u91 u92 u93 u94 u95 u96 u97 u98 u99 u100 u101 u102 u103 u104 u105 u106 u107 u108 u109 u110 u111 u112 u113 u114 u115 u116 u117 u118 u119 u120 u121 : Value, Q #[u0, u1, u2, u3, u4, u5, u6, u7, u8, u9, u10, u11, u12, u13, u14, u15, u16, u17, u18, u19, u20, u21, u22, u23, u24, u25, u26, u27, u28, u29, u30, u31, u32, u33, u34, u35, u36, u37, u38, u39, u40, u41, u42, u43, u44, u45, u46, u47, u48, u49, u50, u51, u52, u53, u54, u55, u56, u57, u58, u59, u60, u61, u62, u63, u64, u65, u66, u67, u68, u69, u70, u71, u72, u73, u74, u75, u76, u77, u78, u79, u80, u81, u82, u83, u84, u85, u86, u87, u88, u89, u90, u91, u92, u93, u94, u95, u96, u97, u98, u99, u100, u101, u102, u103, u104, u105, u106, u107, u108, u109, u110, u111, u112, u113, u114, u115, u116, u117, u118, u119, u120, u121]) (T : Array Value) (h : T.size = 122) : Q T := by
  obtain ⟨l0⟩ := T
  have h0 : l0.length = 122 := h
  clear h
  obtain ⟨u0, l1, rfl, h1⟩ := cons_of h0
  obtain ⟨u1, l2, rfl, h2⟩ := cons_of h1
  obtain ⟨u2, l3, rfl, h3⟩ := cons_of h2
  obtain ⟨u3, l4, rfl, h4⟩ := cons_of h3
  obtain ⟨u4, l5, rfl, h5⟩ := cons_of h4
  obtain ⟨u5, l6, rfl, h6⟩ := cons_of h5
  obtain ⟨u6, l7, rfl, h7⟩ := cons_of h6
  obtain ⟨u7, l8, rfl, h8⟩ := cons_of h7
  obtain ⟨u8, l9, rfl, h9⟩ := cons_of h8
  obtain ⟨u9, l10, rfl, h10⟩ := cons_of h9
  obtain ⟨u10, l11, rfl, h11⟩ := cons_of h10
  obtain ⟨u11, l12, rfl, h12⟩ := cons_of h11
  obtain ⟨u12, l13, rfl, h13⟩ := cons_of h12
  obtain ⟨u13, l14, rfl, h14⟩ := cons_of h13
  obtain ⟨u14, l15, rfl, h15⟩ := cons_of h14
  obtain ⟨u15, l16, rfl, h16⟩ := cons_of h15
  obtain ⟨u16, l17, rfl, h17⟩ := cons_of h16
  obtain ⟨u17, l18, rfl, h18⟩ := cons_of h17
  obtain ⟨u18, l19, rfl, h19⟩ := cons_of h18
  obtain ⟨u19, l20, rfl, h20⟩ := cons_of h19
  obtain ⟨u20, l21, rfl, h21⟩ := cons_of h20
  obtain ⟨u21, l22, rfl, h22⟩ := cons_of h21
  obtain ⟨u22, l23, rfl, h23⟩ := cons_of h22
  obtain ⟨u23, l24, rfl, h24⟩ := cons_of h23
  obtain ⟨u24, l25, rfl, h25⟩ := cons_of h24
  obtain ⟨u25, l26, rfl, h26⟩ := cons_of h25
  obtain ⟨u26, l27, rfl, h27⟩ := cons_of h26
  obtain ⟨u27, l28, rfl, h28⟩ := cons_of h27
  obtain ⟨u28, l29, rfl, h29⟩ := cons_of h28
  obtain ⟨u29, l30, rfl, h30⟩ := cons_of h29
  obtain ⟨u30, l31, rfl, h31⟩ := cons_of h30
  obtain ⟨u31, l32, rfl, h32⟩ := cons_of h31
  obtain ⟨u32, l33, rfl, h33⟩ := cons_of h32
  obtain ⟨u33, l34, rfl, h34⟩ := cons_of h33
  obtain ⟨u34, l35, rfl, h35⟩ := cons_of h34
  obtain ⟨u35, l36, rfl, h36⟩ := cons_of h35
  obtain ⟨u36, l37, rfl, h37⟩ := cons_of h36
  obtain ⟨u37, l38, rfl, h38⟩ := cons_of h37
  obtain ⟨u38, l39, rfl, h39⟩ := cons_of h38
  obtain ⟨u39, l40, rfl, h40⟩ := cons_of h39
  obtain ⟨u40, l41, rfl, h41⟩ := cons_of h40
  obtain ⟨u41, l42, rfl, h42⟩ := cons_of h41
  obtain ⟨u42, l43, rfl, h43⟩ := cons_of h42
  obtain ⟨u43, l44, rfl, h44⟩ := cons_of h43
  obtain ⟨u44, l45, rfl, h45⟩ := cons_of h44
  obtain ⟨u45, l46, rfl, h46⟩ := cons_of h45
  obtain ⟨u46, l47, rfl, h47⟩ := cons_of h46
  obtain ⟨u47, l48, rfl, h48⟩ := cons_of h47
  obtain ⟨u48, l49, rfl, h49⟩ := cons_of h48
  obtain ⟨u49, l50, rfl, h50⟩ := cons_of h49
  obtain ⟨u50, l51, rfl, h51⟩ := cons_of h50
  obtain ⟨u51, l52, rfl, h52⟩ := cons_of h51
  obtain ⟨u52, l53, rfl, h53⟩ := cons_of h52
  obtain ⟨u53, l54, rfl, h54⟩ := cons_of h53
  obtain ⟨u54, l55, rfl, h55⟩ := cons_of h54
  obtain ⟨u55, l56, rfl, h56⟩ := cons_of h55
  obtain ⟨u56, l57, rfl, h57⟩ := cons_of h56
  obtain ⟨u57, l58, rfl, h58⟩ := cons_of h57
  obtain ⟨u58, l59, rfl, h59⟩ := cons_of h58
  obtain ⟨u59, l60, rfl, h60⟩ := cons_of h59
  obtain ⟨u60, l61, rfl, h61⟩ := cons_of h60
  obtain ⟨u61, l62, rfl, h62⟩ := cons_of h61
  obtain ⟨u62, l63, rfl, h63⟩ := cons_of h62
  obtain ⟨u63, l64, rfl, h64⟩ := cons_of h63
  obtain ⟨u64, l65, rfl, h65⟩ := cons_of h64
  obtain ⟨u65, l66, rfl, h66⟩ := cons_of h65
  obtain ⟨u66, l67, rfl, h67⟩ := cons_of h66
  obtain ⟨u67, l68, rfl, h68⟩ := cons_of h67
  obtain ⟨u68, l69, rfl, h69⟩ := cons_of h68
  obtain ⟨u69, l70, rfl, h70⟩ := cons_of h69
  obtain ⟨u70, l71, rfl, h71⟩ := cons_of h70
  obtain ⟨u71, l72, rfl, h72⟩ := cons_of h71
  obtain ⟨u72, l73, rfl, h73⟩ := cons_of h72
  obtain ⟨u73, l74, rfl, h74⟩ := cons_of h73
  obtain ⟨u74, l75, rfl, h75⟩ := cons_of h74
  obtain ⟨u75, l76, rfl, h76⟩ := cons_of h75
  obtain ⟨u76, l77, rfl, h77⟩ := cons_of h76
  obtain ⟨u77, l78, rfl, h78⟩ := cons_of h77
  obtain ⟨u78, l79, rfl, h79⟩ := cons_of h78
  obtain ⟨u79, l80, rfl, h80⟩ := cons_of h79
  obtain ⟨u80, l81, rfl, h81⟩ := cons_of h80
  obtain ⟨u81, l82, rfl, h82⟩ := cons_of h81
  obtain ⟨u82, l83, rfl, h83⟩ := cons_of h82
  obtain ⟨u83, l84, rfl, h84⟩ := cons_of h83
  obtain ⟨u84, l85, rfl, h85⟩ := cons_of h84
  obtain ⟨u85, l86, rfl, h86⟩ := cons_of h85
  obtain ⟨u86, l87, rfl, h87⟩ := cons_of h86
  obtain ⟨u87, l88, rfl, h88⟩ := cons_of h87
  obtain ⟨u88, l89, rfl, h89⟩ := cons_of h88
  obtain ⟨u89, l90, rfl, h90⟩ := cons_of h89
  obtain ⟨u90, l91, rfl, h91⟩ := cons_of h90
  obtain ⟨u91, l92, rfl, h92⟩ := cons_of h91
  obtain ⟨u92, l93, rfl, h93⟩ := cons_of h92
  obtain ⟨u93, l94, rfl, h94⟩ := cons_of h93
  obtain ⟨u94, l95, rfl, h95⟩ := cons_of h94
  obtain ⟨u95, l96, rfl, h96⟩ := cons_of h95
  obtain ⟨u96, l97, rfl, h97⟩ := cons_of h96
  obtain ⟨u97, l98, rfl, h98⟩ := cons_of h97
  obtain ⟨u98, l99, rfl, h99⟩ := cons_of h98
  obtain ⟨u99, l100, rfl, h100⟩ := cons_of h99
  obtain ⟨u100, l101, rfl, h101⟩ := cons_of h100
  obtain ⟨u101, l102, rfl, h102⟩ := cons_of h101
  obtain ⟨u102, l103, rfl, h103⟩ := cons_of h102
  obtain ⟨u103, l104, rfl, h104⟩ := cons_of h103
  obtain ⟨u104, l105, rfl, h105⟩ := cons_of h104
  obtain ⟨u105, l106, rfl, h106⟩ := cons_of h105
  obtain ⟨u106, l107, rfl, h107⟩ := cons_of h106
  obtain ⟨u107, l108, rfl, h108⟩ := cons_of h107
  obtain ⟨u108, l109, rfl, h109⟩ := cons_of h108
  obtain ⟨u109, l110, rfl, h110⟩ := cons_of h109
  obtain ⟨u110, l111, rfl, h111⟩ := cons_of h110
  obtain ⟨u111, l112, rfl, h112⟩ := cons_of h111
  obtain ⟨u112, l113, rfl, h113⟩ := cons_of h112
  obtain ⟨u113, l114, rfl, h114⟩ := cons_of h113
  obtain ⟨u114, l115, rfl, h115⟩ := cons_of h114
  obtain ⟨u115, l116, rfl, h116⟩ := cons_of h115
  obtain ⟨u116, l117, rfl, h117⟩ := cons_of h116
  obtain ⟨u117, l118, rfl, h118⟩ := cons_of h117
  obtain ⟨u118, l119, rfl, h119⟩ := cons_of h118
  obtain ⟨u119, l120, rfl, h120⟩ := cons_of h119
  obtain ⟨u120, l121, rfl, h121⟩ := cons_of h120
  obtain ⟨u121, l122, rfl, h122⟩ := cons_of h121
  obtain rfl : l122 = [] := List.eq_nil_of_length_eq_zero h122
  exact H u0 u1 u2 u3 u4 u5 u6 u7 u8 u9 u10 u11 u12 u13 u14 u15 u16 u17 u18 u19 u20 u21 u22 u23 u24 u25 u26 u27 u28 u29 u30 u31 u32 u33 u34 u35 u36 u37 u38 u39 u40 u41 u42 u43 u44 u45 u46 u47 u48 u49 u50 u51 u52 u53 u54 u55 u56 u57 u58 u59 u60 u61 u62 u63 u64 u65 u66 u67 u68 u69 u70 u71 u72 u73 u74 u75 u76 u77 u78 u79 u80 u81 u82 u83 u84 u85 u86 u87 u88 u89 u90 u91 u92 u93 u94 u95 u96 u97 u98 u99 u100 u101 u102 u103 u104 u105 u106 u107 u108 u109 u110 u111 u112 u113 u114 u115 u116 u117 u118 u119 u120 u121
end Go.Proofs.YtbckjaoljeimgaaGreatDoor
