/- Parts of a proof, one behind another: Sc4, Lt4, Lt2, Wl1, Wl2, Wl3, Wl4, Wl5, Wt1, Wt2, Wp2, G4, Lt5. -/
import Derived.Test.YtfbcnpbhhooapaaGreatDoorZParseOrder3
import Derived.Test.YtfbcnpbhhooapaaGreatDoorProg
import Derived.KernelRfl
set_option maxHeartbeats 4000000
namespace Go.Proofs.YtfbcnpbhhooapaaGreatDoor.M
open Go
set_option linter.unusedVariables false
def sc_Q38 : SFunc := ⟨1, 13, .seq (.reg [⟨some 2, none, .alloc [(.int .i64 0), (.str []), (.int .i64 0), (.nils 2), (.int .i64 0)]⟩]) (.seq (.dreg [⟨some 3, none, .v (.mov (.t 0))⟩, ⟨some 4, none, .v (.nchk (.t 3))⟩, ⟨some 5, none, .v (.faddr 0 (.t 4))⟩, ⟨some 6, none, .v (.load none (.t 5))⟩, ⟨some 7, none, .v (.mov (.t 0))⟩, ⟨some 8, none, .v (.nchk (.t 7))⟩, ⟨some 9, none, .v (.faddr 1 (.t 8))⟩, ⟨some 10, none, .v (.load none (.t 9))⟩, ⟨some 11, none, .v (.iaddr 5 (.t 6) (.t 10))⟩, ⟨some 12, none, .v (.load (some 5) (.t 11))⟩, ⟨none, none, .store 5 (.t 2) (.t 12)⟩] [false, false, false, false, false, false, false, false, true, true, true]) .ret), [(.cell 2 (some 5))]⟩
theorem U_Q38 : type_of% (sc_Q38.eq_1) := sc_Q38.eq_1
theorem comp_Q38 : comp Tryz.prog Tryz.f38 = some sc_Q38 := by kernel_rfl
def sc_Q42 : SFunc := ⟨2, 6, .reg [⟨some 4, none, .v (.mov (.t 1))⟩, ⟨some 5, none, .v (.mkif 116 (.t 4))⟩, ⟨none, none, .panic (.t 5)⟩], []⟩
theorem U_Q42 : type_of% (sc_Q42.eq_1) := sc_Q42.eq_1
theorem comp_Q42 : comp Tryz.prog Tryz.f42 = some sc_Q42 := by kernel_rfl
def sc_Q102 : SFunc := ⟨2, 16, .seq (.reg [⟨some 4, none, .v (.mov (.c (.bool false)))⟩]) (.seq (.reg [⟨some 5, none, .v (.mov (.t 0))⟩, ⟨some 6, none, .call (.c (.func 38 [])) [(.t 5)]⟩, ⟨some 7, none, .v (.field 0 none (.t 6))⟩, ⟨some 8, none, .v (.bin .eql (.t 7) (.c (.int .i64 4)))⟩, ⟨some 9, none, .v (.mov (.t 8))⟩, ⟨some 10, some (9, true), .v (.mov (.t 0))⟩, ⟨some 11, some (9, true), .call (.c (.func 38 [])) [(.t 10)]⟩, ⟨some 12, some (9, true), .v (.field 1 none (.t 11))⟩, ⟨some 13, some (9, true), .v (.mov (.t 1))⟩, ⟨some 14, some (9, true), .v (.bin .eql (.t 12) (.t 13))⟩, ⟨some 15, none, .v (.pick (.t 9) (.t 14) (.c (.bool false)))⟩, ⟨some 4, none, .v (.mov (.t 15))⟩]) .ret), [(.t 4)]⟩
theorem U_Q102 : type_of% (sc_Q102.eq_1) := sc_Q102.eq_1
theorem comp_Q102 : comp Tryz.prog Tryz.f102 = some sc_Q102 := by kernel_rfl
def sc_Q67 : SFunc := ⟨2, 16, .seq (.reg [⟨some 4, none, .v (.mov (.c (.bool false)))⟩]) (.seq (.seq (.reg [⟨some 5, none, .v (.mov (.t 0))⟩, ⟨some 6, none, .v (.mov (.t 1))⟩, ⟨some 7, none, .call (.c (.func 102 [])) [(.t 5), (.t 6)]⟩, ⟨some 8, none, .v (.un .not (.t 7))⟩]) (.cond (.t 8) (.seq (.reg [⟨some 4, none, .v (.mov (.c (.bool false)))⟩]) .ret) .skip)) (.seq (.reg [⟨some 9, none, .v (.mov (.t 0))⟩, ⟨some 10, none, .v (.nchk (.t 9))⟩, ⟨some 11, none, .v (.faddr 1 (.t 10))⟩, ⟨some 12, none, .v (.load none (.t 11))⟩, ⟨some 13, none, .v (.bin .add (.t 12) (.c (.int .i64 1)))⟩, ⟨some 14, none, .v (.nchk (.t 9))⟩, ⟨some 15, none, .v (.faddr 1 (.t 14))⟩, ⟨none, none, .store 1 (.t 15) (.t 13)⟩]) (.seq (.reg [⟨some 4, none, .v (.mov (.c (.bool true)))⟩]) .ret))), [(.t 4)]⟩
theorem U_Q67 : type_of% (sc_Q67.eq_1) := sc_Q67.eq_1
theorem comp_Q67 : comp Tryz.prog Tryz.f67 = some sc_Q67 := by kernel_rfl
def sc_Q66 : SFunc := ⟨2, 10, .seq (.reg [⟨some 4, none, .v (.mov (.t 0))⟩, ⟨some 5, none, .v (.mov (.t 1))⟩, ⟨some 6, none, .call (.c (.func 67 [])) [(.t 4), (.t 5)]⟩, ⟨some 7, none, .v (.un .not (.t 6))⟩]) (.cond (.t 7) (.reg [⟨some 8, none, .v (.mov (.t 0))⟩, ⟨some 9, none, .call (.c (.func 42 [])) [(.t 8), (.c (.int .i64 5))]⟩]) .skip), []⟩
theorem U_Q66 : type_of% (sc_Q66.eq_1) := sc_Q66.eq_1
theorem comp_Q66 : comp Tryz.prog Tryz.f66 = some sc_Q66 := by kernel_rfl
def sc_Q101 : SFunc := ⟨1, 20, .seq (.reg [⟨some 2, none, .v (.mov (.c (.str [])))⟩]) (.seq (.reg [⟨some 4, none, .v (.mov (.t 0))⟩, ⟨some 5, none, .call (.c (.func 38 [])) [(.t 4)]⟩, ⟨some 3, none, .alloc [(.int .i64 0), (.str []), (.int .i64 0), (.nils 2), (.int .i64 0)]⟩, ⟨none, none, .store 5 (.t 3) (.t 5)⟩]) (.seq (.seq (.reg [⟨some 6, none, .v (.faddr 0 (.t 3))⟩, ⟨some 7, none, .v (.load none (.t 6))⟩, ⟨some 8, none, .v (.bin .neq (.t 7) (.c (.int .i64 3)))⟩]) (.cond (.t 8) (.reg [⟨some 9, none, .v (.mov (.t 0))⟩, ⟨some 10, none, .call (.c (.func 42 [])) [(.t 9), (.c (.int .i64 5))]⟩]) .skip)) (.seq (.reg [⟨some 11, none, .v (.mov (.t 0))⟩, ⟨some 12, none, .v (.nchk (.t 11))⟩, ⟨some 13, none, .v (.faddr 1 (.t 12))⟩, ⟨some 14, none, .v (.load none (.t 13))⟩, ⟨some 15, none, .v (.bin .add (.t 14) (.c (.int .i64 1)))⟩, ⟨some 16, none, .v (.nchk (.t 11))⟩, ⟨some 17, none, .v (.faddr 1 (.t 16))⟩, ⟨none, none, .store 1 (.t 17) (.t 15)⟩]) (.seq (.reg [⟨some 18, none, .v (.faddr 1 (.t 3))⟩, ⟨some 19, none, .v (.load none (.t 18))⟩, ⟨some 2, none, .v (.mov (.t 19))⟩]) .ret)))), [(.t 2)]⟩
theorem U_Q101 : type_of% (sc_Q101.eq_1) := sc_Q101.eq_1
theorem comp_Q101 : comp Tryz.prog Tryz.f101 = some sc_Q101 := by kernel_rfl
def sc_Q104 : SFunc := ⟨2, 32, .seq (.seq (.reg [⟨some 4, none, .v (.mov (.t 0))⟩, ⟨some 5, none, .v (.nchk (.t 4))⟩, ⟨some 6, none, .v (.faddr 0 (.t 5))⟩, ⟨some 7, none, .v (.mov (.t 1))⟩, ⟨some 8, none, .call (.c (.func 102 [])) [(.t 6), (.t 7)]⟩, ⟨some 9, none, .v (.mov (.t 8))⟩, ⟨some 10, some (9, true), .v (.mov (.t 0))⟩, ⟨some 11, some (9, true), .v (.nchk (.t 10))⟩, ⟨some 12, some (9, true), .v (.faddr 3 (.t 11))⟩, ⟨some 13, some (9, true), .v (.load none (.t 12))⟩, ⟨some 14, some (9, true), .v (.bin .geq (.t 13) (.c (.int .i64 64)))⟩, ⟨some 15, none, .v (.pick (.t 9) (.t 14) (.c (.bool false)))⟩]) (.cond (.t 15) (.reg [⟨some 16, none, .v (.mov (.t 0))⟩, ⟨some 17, none, .v (.nchk (.t 16))⟩, ⟨some 18, none, .v (.faddr 0 (.t 17))⟩, ⟨some 19, none, .call (.c (.func 42 [])) [(.t 18), (.c (.int .i64 6))]⟩]) .skip)) (.seq (.reg [⟨some 20, none, .v (.mov (.t 0))⟩, ⟨some 21, none, .v (.nchk (.t 20))⟩, ⟨some 22, none, .v (.faddr 0 (.t 21))⟩, ⟨some 23, none, .v (.mov (.t 1))⟩, ⟨some 24, none, .call (.c (.func 66 [])) [(.t 22), (.t 23)]⟩]) (.reg [⟨some 25, none, .v (.mov (.t 0))⟩, ⟨some 26, none, .v (.nchk (.t 25))⟩, ⟨some 27, none, .v (.faddr 3 (.t 26))⟩, ⟨some 28, none, .v (.load none (.t 27))⟩, ⟨some 29, none, .v (.bin .add (.t 28) (.c (.int .i64 1)))⟩, ⟨some 30, none, .v (.nchk (.t 25))⟩, ⟨some 31, none, .v (.faddr 3 (.t 30))⟩, ⟨none, none, .store 1 (.t 31) (.t 29)⟩])), []⟩
theorem U_Q104 : type_of% (sc_Q104.eq_1) := sc_Q104.eq_1
theorem comp_Q104 : comp Tryz.prog Tryz.f104 = some sc_Q104 := by kernel_rfl
def sc_Q181 : SFunc := ⟨2, 16, .seq (.reg [⟨some 4, none, .v (.mov (.t 0))⟩, ⟨some 5, none, .v (.nchk (.t 4))⟩, ⟨some 6, none, .v (.faddr 0 (.t 5))⟩, ⟨some 7, none, .v (.mov (.t 1))⟩, ⟨some 8, none, .call (.c (.func 66 [])) [(.t 6), (.t 7)]⟩]) (.reg [⟨some 9, none, .v (.mov (.t 0))⟩, ⟨some 10, none, .v (.nchk (.t 9))⟩, ⟨some 11, none, .v (.faddr 3 (.t 10))⟩, ⟨some 12, none, .v (.load none (.t 11))⟩, ⟨some 13, none, .v (.bin .sub (.t 12) (.c (.int .i64 1)))⟩, ⟨some 14, none, .v (.nchk (.t 9))⟩, ⟨some 15, none, .v (.faddr 3 (.t 14))⟩, ⟨none, none, .store 1 (.t 15) (.t 13)⟩]), []⟩
theorem U_Q181 : type_of% (sc_Q181.eq_1) := sc_Q181.eq_1
theorem comp_Q181 : comp Tryz.prog Tryz.f181 = some sc_Q181 := by kernel_rfl
def sc_Q105 : SFunc := ⟨4, 29, .seq (.reg [⟨some 8, none, .v (.mov (.c (.int .i64 0)))⟩]) (.seq (.dreg [⟨some 9, none, .v (.mov (.t 0))⟩, ⟨some 10, none, .v (.mov (.t 0))⟩, ⟨some 11, none, .v (.nchk (.t 10))⟩, ⟨some 12, none, .v (.faddr 2 (.t 11))⟩, ⟨some 13, none, .v (.load none (.t 12))⟩, ⟨some 14, none, .v (.mov (.t 1))⟩, ⟨some 15, none, .v (.mov (.t 2))⟩, ⟨some 16, none, .v (.mov (.t 3))⟩, ⟨some 17, none, .call (.c (.func 144 [])) [(.t 16)]⟩, ⟨some 18, none, .v (.build [(.int .i64 0), (.int .i64 0), (.str []), (.nils 2), (.nils 1)] [(0, 1, (.t 14)), (2, 1, (.t 15)), (4, 1, (.t 17))])⟩, ⟨some 19, none, .bslice 5 1 [(.int .i64 0), (.int .i64 0), (.str []), (.nils 2), (.nils 1)] [(0, (.t 18))]⟩, ⟨some 20, none, .append 5 80 (.t 13) (.t 19)⟩, ⟨some 21, none, .v (.nchk (.t 9))⟩, ⟨some 22, none, .v (.faddr 2 (.t 21))⟩, ⟨none, none, .store 1 (.t 22) (.t 20)⟩] [false, false, false, false, false, false, false, false, false, false, false, true, true, true, true]) (.seq (.reg [⟨some 23, none, .v (.mov (.t 0))⟩, ⟨some 24, none, .v (.nchk (.t 23))⟩, ⟨some 25, none, .v (.faddr 2 (.t 24))⟩, ⟨some 26, none, .v (.load none (.t 25))⟩, ⟨some 27, none, .v (.len false (.t 26))⟩, ⟨some 28, none, .v (.bin .sub (.t 27) (.c (.int .i64 1)))⟩, ⟨some 8, none, .v (.mov (.t 28))⟩]) .ret)), [(.t 8)]⟩
theorem U_Q105 : type_of% (sc_Q105.eq_1) := sc_Q105.eq_1
theorem comp_Q105 : comp Tryz.prog Tryz.f105 = some sc_Q105 := by kernel_rfl
def c_Q143_1 : SC := .seq (.reg [⟨some 15, none, .bslice 1 5 [(.int .i64 0)] [(0, (.c (.int .i64 11))), (1, (.c (.int .i64 12))), (2, (.c (.int .i64 13))), (3, (.c (.int .i64 19))), (4, (.c (.int .i64 21)))]⟩, ⟨some 7, none, .v (.mov (.t 15))⟩]) (.seq (.reg [⟨some 16, none, .v (.mov (.t 6))⟩, ⟨some 17, none, .v (.mov (.t 0))⟩, ⟨some 18, none, .v (.iaddr 1 (.t 16) (.t 17))⟩, ⟨some 19, none, .v (.load none (.t 18))⟩, ⟨some 20, none, .v (.mov (.t 1))⟩, ⟨some 21, none, .call (.c (.func 62 [])) [(.t 19), (.t 20)]⟩, ⟨some 8, none, .v (.mov (.t 21))⟩]) (.seq (.reg [⟨some 22, none, .v (.mov (.t 7))⟩, ⟨some 23, none, .v (.mov (.t 0))⟩, ⟨some 24, none, .v (.iaddr 1 (.t 22) (.t 23))⟩, ⟨some 25, none, .v (.load none (.t 24))⟩, ⟨some 26, none, .v (.mov (.t 8))⟩, ⟨some 27, none, .v (.bin .add (.t 25) (.t 26))⟩, ⟨some 28, none, .v (.mov (.t 8))⟩, ⟨some 29, none, .v (.bin .geq (.t 28) (.c (.int .i64 0)))⟩, ⟨some 4, none, .v (.mov (.t 27))⟩, ⟨some 5, none, .v (.mov (.t 29))⟩]) .ret))
def c_Q143_2 : SC := .seq (.reg [⟨some 9, none, .bslice 1 1 [(.str [])] [(0, (.c (.str [124, 124])))]⟩, ⟨some 10, none, .bslice 1 1 [(.str [])] [(0, (.c (.str [38, 38])))]⟩, ⟨some 11, none, .bslice 1 6 [(.str [])] [(0, (.c (.str [61, 61]))), (1, (.c (.str [33, 61]))), (2, (.c (.str [60]))), (3, (.c (.str [60, 61]))), (4, (.c (.str [62]))), (5, (.c (.str [62, 61])))]⟩, ⟨some 12, none, .bslice 1 2 [(.str [])] [(0, (.c (.str [43]))), (1, (.c (.str [45])))]⟩, ⟨some 13, none, .bslice 1 3 [(.str [])] [(0, (.c (.str [42]))), (1, (.c (.str [47]))), (2, (.c (.str [37])))]⟩, ⟨some 14, none, .bslice 1 5 [(.nils 1)] [(0, (.t 9)), (1, (.t 10)), (2, (.t 11)), (3, (.t 12)), (4, (.t 13))]⟩, ⟨some 6, none, .v (.mov (.t 14))⟩]) c_Q143_1
def sc_Q143 : SFunc := ⟨2, 30, .seq (.reg [⟨some 4, none, .v (.mov (.c (.int .i64 0)))⟩, ⟨some 5, none, .v (.mov (.c (.bool false)))⟩]) c_Q143_2, [(.t 4), (.t 5)]⟩
theorem U_Q143 : type_of% (And.intro (ue c_Q143_1.eq_1) <| And.intro (ue c_Q143_2.eq_1) <| sc_Q143.eq_1) := And.intro (ue c_Q143_1.eq_1) <| And.intro (ue c_Q143_2.eq_1) <| sc_Q143.eq_1
theorem comp_Q143 : comp Tryz.prog Tryz.f143 = some sc_Q143 := by kernel_rfl
def c_slices_Index_string_string_1 : SC := .seq (.reg [⟨some 4, none, .v (.mov (.c (.int .i64 (-1))))⟩]) .ret
def b_slices_Index_string_string_1 : SC := .seq (.reg [⟨some 9, none, .v (.bin .lss (.t 8) (.t 7))⟩]) (.seq (.cond (.t 9) .skip (.exit 0)) (.seq (.block 1 (.seq (.reg [⟨some 10, none, .v (.mov (.t 8))⟩, ⟨some 5, none, .v (.mov (.t 10))⟩]) (.seq (.reg [⟨some 11, none, .v (.mov (.t 1))⟩, ⟨some 12, none, .v (.mov (.t 0))⟩, ⟨some 13, none, .v (.mov (.t 5))⟩, ⟨some 14, none, .v (.iaddr 1 (.t 12) (.t 13))⟩, ⟨some 15, none, .v (.load none (.t 14))⟩, ⟨some 16, none, .v (.bin .eql (.t 11) (.t 15))⟩]) (.cond (.t 16) (.seq (.reg [⟨some 17, none, .v (.mov (.t 5))⟩, ⟨some 4, none, .v (.mov (.t 17))⟩]) .ret) .skip)))) (.reg [⟨some 18, none, .v (.bin .add (.t 8) (.c (.int .i64 1)))⟩, ⟨some 8, none, .v (.mov (.t 18))⟩])))
def sc_slices_Index_string_string : SFunc := ⟨2, 19, .seq (.reg [⟨some 4, none, .v (.mov (.c (.int .i64 0)))⟩]) (.seq (.seq (.reg [⟨some 6, none, .v (.mov (.t 0))⟩, ⟨some 7, none, .v (.len false (.t 6))⟩, ⟨some 8, none, .v (.mov (.c (.int .i64 0)))⟩]) (.block 0 (.loop b_slices_Index_string_string_1))) c_slices_Index_string_string_1), [(.t 4)]⟩
noncomputable def k_slices_Index_string_string_1 (SP : Prg) (x : EO) : CO := fin [(.t 4)] (thC SP (inBlk 0 (x)) c_slices_Index_string_string_1)
theorem U_slices_Index_string_string : type_of% (And.intro (ue c_slices_Index_string_string_1.eq_1) <| And.intro (ue b_slices_Index_string_string_1.eq_1) <| sc_slices_Index_string_string.eq_1) := And.intro (ue c_slices_Index_string_string_1.eq_1) <| And.intro (ue b_slices_Index_string_string_1.eq_1) <| sc_slices_Index_string_string.eq_1
theorem comp_slices_Index_string_string : comp Tryz.prog Tryz.f62 = some sc_slices_Index_string_string := by kernel_rfl
def sc_Q202 : SFunc := ⟨3, 20, .seq (.reg [⟨some 6, none, .v (.mov (.c (.int .i64 0)))⟩]) (.seq (.reg [⟨some 8, none, .v (.mov (.t 0))⟩, ⟨some 9, none, .v (.mov (.t 1))⟩, ⟨some 10, none, .call (.c (.func 105 [])) [(.t 8), (.t 9), (.c (.str [])), (.c (.nils 1))]⟩, ⟨some 7, none, .v (.mov (.t 10))⟩]) (.seq (.reg [⟨some 11, none, .v (.mov (.t 0))⟩, ⟨some 12, none, .v (.nchk (.t 11))⟩, ⟨some 13, none, .v (.faddr 2 (.t 12))⟩, ⟨some 14, none, .v (.load none (.t 13))⟩, ⟨some 15, none, .v (.mov (.t 7))⟩, ⟨some 16, none, .v (.mov (.t 2))⟩, ⟨some 17, none, .v (.iaddr 5 (.t 14) (.t 15))⟩, ⟨some 18, none, .v (.faddr 1 (.t 17))⟩, ⟨none, none, .store 1 (.t 18) (.t 16)⟩]) (.seq (.reg [⟨some 19, none, .v (.mov (.t 7))⟩, ⟨some 6, none, .v (.mov (.t 19))⟩]) .ret))), [(.t 6)]⟩
theorem U_Q202 : type_of% (sc_Q202.eq_1) := sc_Q202.eq_1
theorem comp_Q202 : comp Tryz.prog Tryz.f202 = some sc_Q202 := by kernel_rfl
def c_Q201_1 : SC := .seq (.reg [⟨some 32, none, .v (.mov (.t 0))⟩, ⟨some 33, none, .call (.c (.func 104 [])) [(.t 32), (.c (.str [40]))]⟩]) (.seq (.reg [⟨some 34, none, .v (.mov (.t 0))⟩, ⟨some 35, none, .v (.mov (.t 3))⟩, ⟨some 36, none, .v (.mov (.t 0))⟩, ⟨some 37, none, .call (.c (.func 203 [])) [(.t 36), (.c (.str [41]))]⟩, ⟨some 38, none, .call (.c (.func 105 [])) [(.t 34), (.c (.int .i64 5)), (.t 35), (.t 37)]⟩, ⟨some 2, none, .v (.mov (.t 38))⟩]) .ret)
def c_Q201_2 : SC := .cond (.t 8) (.seq (.reg [⟨some 11, none, .v (.mov (.t 0))⟩, ⟨some 12, none, .call (.c (.func 202 [])) [(.t 11), (.c (.int .i64 3)), (.c (.int .i64 1))]⟩, ⟨some 2, none, .v (.mov (.t 12))⟩]) .ret) (.seq (.reg [⟨some 14, none, .v (.mov (.t 3))⟩, ⟨some 15, none, .v (.bin .eql (.t 14) (.c (.str [102, 97, 108, 115, 101])))⟩, ⟨some 13, none, .v (.mov (.t 15))⟩]) (.cond (.t 13) (.seq (.reg [⟨some 16, none, .v (.mov (.t 0))⟩, ⟨some 17, none, .call (.c (.func 202 [])) [(.t 16), (.c (.int .i64 3)), (.c (.int .i64 0))]⟩, ⟨some 2, none, .v (.mov (.t 17))⟩]) .ret) (.seq (.reg [⟨some 19, none, .v (.mov (.t 0))⟩, ⟨some 20, none, .v (.nchk (.t 19))⟩, ⟨some 21, none, .v (.faddr 0 (.t 20))⟩, ⟨some 22, none, .call (.c (.func 67 [])) [(.t 21), (.c (.str [46]))]⟩, ⟨some 18, none, .v (.mov (.t 22))⟩]) (.cond (.t 18) (.seq (.reg [⟨some 23, none, .v (.mov (.t 0))⟩, ⟨some 24, none, .v (.mov (.t 3))⟩, ⟨some 25, none, .v (.bin .add (.t 24) (.c (.str [46])))⟩, ⟨some 26, none, .v (.mov (.t 0))⟩, ⟨some 27, none, .v (.nchk (.t 26))⟩, ⟨some 28, none, .v (.faddr 0 (.t 27))⟩, ⟨some 29, none, .call (.c (.func 101 [])) [(.t 28)]⟩, ⟨some 30, none, .v (.bin .add (.t 25) (.t 29))⟩, ⟨some 31, none, .call (.c (.func 105 [])) [(.t 23), (.c (.int .i64 4)), (.t 30), (.c (.nils 1))]⟩, ⟨some 2, none, .v (.mov (.t 31))⟩]) .ret) .skip))))
def c_Q201_3 : SC := .seq (.block 0 (.seq (.reg [⟨some 9, none, .v (.mov (.t 3))⟩, ⟨some 10, none, .v (.bin .eql (.t 9) (.c (.str [116, 114, 117, 101])))⟩, ⟨some 8, none, .v (.mov (.t 10))⟩]) c_Q201_2)) c_Q201_1
def c_Q201_4 : SC := .seq (.reg [⟨some 4, none, .v (.mov (.t 0))⟩, ⟨some 5, none, .v (.nchk (.t 4))⟩, ⟨some 6, none, .v (.faddr 0 (.t 5))⟩, ⟨some 7, none, .call (.c (.func 101 [])) [(.t 6)]⟩, ⟨some 3, none, .v (.mov (.t 7))⟩]) c_Q201_3
def sc_Q201 : SFunc := ⟨1, 39, .seq (.reg [⟨some 2, none, .v (.mov (.c (.int .i64 0)))⟩]) c_Q201_4, [(.t 2)]⟩
theorem U_Q201 : type_of% (And.intro (ue c_Q201_1.eq_1) <| And.intro (ue c_Q201_2.eq_1) <| And.intro (ue c_Q201_3.eq_1) <| And.intro (ue c_Q201_4.eq_1) <| sc_Q201.eq_1) := And.intro (ue c_Q201_1.eq_1) <| And.intro (ue c_Q201_2.eq_1) <| And.intro (ue c_Q201_3.eq_1) <| And.intro (ue c_Q201_4.eq_1) <| sc_Q201.eq_1
theorem comp_Q201 : comp Tryz.prog Tryz.f201 = some sc_Q201 := by kernel_rfl
def c_Q180_1 : SC := .seq (.reg [⟨some 69, none, .v (.mov (.t 0))⟩, ⟨some 70, none, .call (.c (.func 104 [])) [(.t 69), (.c (.str [40]))]⟩]) (.seq (.reg [⟨some 71, none, .v (.mov (.t 0))⟩, ⟨some 72, none, .call (.c (.func 68 [])) [(.t 71)]⟩, ⟨some 5, none, .v (.mov (.t 72))⟩]) (.seq (.reg [⟨some 73, none, .v (.mov (.t 0))⟩, ⟨some 74, none, .call (.c (.func 181 [])) [(.t 73), (.c (.str [41]))]⟩]) (.seq (.reg [⟨some 75, none, .v (.mov (.t 5))⟩, ⟨some 2, none, .v (.mov (.t 75))⟩]) .ret)))
def c_Q180_2 : SC := .cond (.t 33) (.seq (.reg [⟨some 37, none, .v (.mov (.t 0))⟩, ⟨some 38, none, .v (.nchk (.t 37))⟩, ⟨some 39, none, .v (.faddr 0 (.t 38))⟩, ⟨some 40, none, .v (.faddr 1 (.t 39))⟩, ⟨some 41, none, .v (.load none (.t 40))⟩, ⟨some 42, none, .v (.bin .add (.t 41) (.c (.int .i64 1)))⟩, ⟨some 43, none, .v (.nchk (.t 37))⟩, ⟨some 44, none, .v (.faddr 0 (.t 43))⟩, ⟨some 45, none, .v (.faddr 1 (.t 44))⟩, ⟨none, none, .store 1 (.t 45) (.t 42)⟩]) (.seq (.reg [⟨some 46, none, .v (.mov (.t 0))⟩, ⟨some 47, none, .call (.c (.func 105 [])) [(.t 46), (.c (.int .i64 2)), (.c (.str [])), (.c (.nils 1))]⟩, ⟨some 4, none, .v (.mov (.t 47))⟩]) (.seq (.dreg [⟨some 48, none, .v (.mov (.t 0))⟩, ⟨some 49, none, .v (.nchk (.t 48))⟩, ⟨some 50, none, .v (.faddr 2 (.t 49))⟩, ⟨some 51, none, .v (.load none (.t 50))⟩, ⟨some 52, none, .v (.mov (.t 4))⟩, ⟨some 53, none, .v (.faddr 3 (.t 3))⟩, ⟨some 54, none, .v (.load none (.t 53))⟩, ⟨some 55, none, .v (.iaddr 5 (.t 51) (.t 52))⟩, ⟨some 56, none, .v (.faddr 3 (.t 55))⟩, ⟨none, none, .store 1 (.t 56) (.t 54)⟩] [false, false, false, false, false, false, false, true, true, true]) (.seq (.reg [⟨some 57, none, .v (.mov (.t 4))⟩, ⟨some 2, none, .v (.mov (.t 57))⟩]) .ret)))) (.seq (.reg [⟨some 59, none, .v (.mov (.t 0))⟩, ⟨some 60, none, .v (.nchk (.t 59))⟩, ⟨some 61, none, .v (.faddr 0 (.t 60))⟩, ⟨some 62, none, .call (.c (.func 102 [])) [(.t 61), (.c (.str [91]))]⟩, ⟨some 58, none, .v (.mov (.t 62))⟩]) (.cond (.t 58) (.seq (.reg [⟨some 63, none, .v (.mov (.t 0))⟩, ⟨some 64, none, .call (.c (.func 104 [])) [(.t 63), (.c (.str [91]))]⟩]) (.seq (.reg [⟨some 65, none, .v (.mov (.t 0))⟩, ⟨some 66, none, .v (.mov (.t 0))⟩, ⟨some 67, none, .call (.c (.func 203 [])) [(.t 66), (.c (.str [93]))]⟩, ⟨some 68, none, .call (.c (.func 105 [])) [(.t 65), (.c (.int .i64 6)), (.c (.str [])), (.t 67)]⟩, ⟨some 2, none, .v (.mov (.t 68))⟩]) .ret)) .skip))
def c_Q180_3 : SC := .cond (.t 16) (.seq (.reg [⟨some 20, none, .v (.mov (.t 0))⟩, ⟨some 21, none, .v (.nchk (.t 20))⟩, ⟨some 22, none, .v (.faddr 0 (.t 21))⟩, ⟨some 23, none, .v (.faddr 1 (.t 22))⟩, ⟨some 24, none, .v (.load none (.t 23))⟩, ⟨some 25, none, .v (.bin .add (.t 24) (.c (.int .i64 1)))⟩, ⟨some 26, none, .v (.nchk (.t 20))⟩, ⟨some 27, none, .v (.faddr 0 (.t 26))⟩, ⟨some 28, none, .v (.faddr 1 (.t 27))⟩, ⟨none, none, .store 1 (.t 28) (.t 25)⟩]) (.seq (.reg [⟨some 29, none, .v (.mov (.t 0))⟩, ⟨some 30, none, .v (.faddr 2 (.t 3))⟩, ⟨some 31, none, .v (.load none (.t 30))⟩, ⟨some 32, none, .call (.c (.func 202 [])) [(.t 29), (.c (.int .i64 1)), (.t 31)]⟩, ⟨some 2, none, .v (.mov (.t 32))⟩]) .ret)) (.seq (.reg [⟨some 34, none, .v (.faddr 0 (.t 3))⟩, ⟨some 35, none, .v (.load none (.t 34))⟩, ⟨some 36, none, .v (.bin .eql (.t 35) (.c (.int .i64 2)))⟩, ⟨some 33, none, .v (.mov (.t 36))⟩]) c_Q180_2)
def c_Q180_4 : SC := .cond (.t 10) (.seq (.reg [⟨some 14, none, .v (.mov (.t 0))⟩, ⟨some 15, none, .call (.c (.func 201 [])) [(.t 14)]⟩, ⟨some 2, none, .v (.mov (.t 15))⟩]) .ret) (.seq (.reg [⟨some 17, none, .v (.faddr 0 (.t 3))⟩, ⟨some 18, none, .v (.load none (.t 17))⟩, ⟨some 19, none, .v (.bin .eql (.t 18) (.c (.int .i64 1)))⟩, ⟨some 16, none, .v (.mov (.t 19))⟩]) c_Q180_3)
def c_Q180_5 : SC := .seq (.block 0 (.seq (.reg [⟨some 11, none, .v (.faddr 0 (.t 3))⟩, ⟨some 12, none, .v (.load none (.t 11))⟩, ⟨some 13, none, .v (.bin .eql (.t 12) (.c (.int .i64 3)))⟩, ⟨some 10, none, .v (.mov (.t 13))⟩]) c_Q180_4)) c_Q180_1
def c_Q180_6 : SC := .seq (.reg [⟨some 6, none, .v (.mov (.t 0))⟩, ⟨some 7, none, .v (.nchk (.t 6))⟩, ⟨some 8, none, .v (.faddr 0 (.t 7))⟩, ⟨some 9, none, .call (.c (.func 38 [])) [(.t 8)]⟩, ⟨some 3, none, .alloc [(.int .i64 0), (.str []), (.int .i64 0), (.nils 2), (.int .i64 0)]⟩, ⟨none, none, .store 5 (.t 3) (.t 9)⟩]) c_Q180_5
def sc_Q180 : SFunc := ⟨1, 76, .seq (.reg [⟨some 2, none, .v (.mov (.c (.int .i64 0)))⟩]) c_Q180_6, [(.t 2)]⟩
theorem U_Q180 : type_of% (And.intro (ue c_Q180_1.eq_1) <| And.intro (ue c_Q180_2.eq_1) <| And.intro (ue c_Q180_3.eq_1) <| And.intro (ue c_Q180_4.eq_1) <| And.intro (ue c_Q180_5.eq_1) <| And.intro (ue c_Q180_6.eq_1) <| sc_Q180.eq_1) := And.intro (ue c_Q180_1.eq_1) <| And.intro (ue c_Q180_2.eq_1) <| And.intro (ue c_Q180_3.eq_1) <| And.intro (ue c_Q180_4.eq_1) <| And.intro (ue c_Q180_5.eq_1) <| And.intro (ue c_Q180_6.eq_1) <| sc_Q180.eq_1
theorem comp_Q180 : comp Tryz.prog Tryz.f180 = some sc_Q180 := by kernel_rfl
def sc_Q41 : SFunc := ⟨1, 12, .seq (.reg [⟨some 2, none, .nilv 5⟩]) (.seq (.reg [⟨some 3, none, .v (.mov (.t 0))⟩, ⟨some 4, none, .v (.nchk (.t 3))⟩, ⟨some 5, none, .v (.faddr 2 (.t 4))⟩, ⟨none, none, .store 1 (.t 5) (.c (.nils 5))⟩]) (.seq (.reg [⟨some 6, none, .v (.mov (.t 0))⟩, ⟨some 7, none, .call (.c (.func 68 [])) [(.t 6)]⟩]) (.seq (.reg [⟨some 8, none, .v (.mov (.t 0))⟩, ⟨some 9, none, .v (.nchk (.t 8))⟩, ⟨some 10, none, .v (.faddr 2 (.t 9))⟩, ⟨some 11, none, .v (.load none (.t 10))⟩, ⟨some 2, none, .v (.mov (.t 11))⟩]) .ret))), [(.t 2)]⟩
theorem U_Q41 : type_of% (sc_Q41.eq_1) := sc_Q41.eq_1
theorem comp_Q41 : comp Tryz.prog Tryz.f41 = some sc_Q41 := by kernel_rfl
def c_Q103_1 : SC := .seq (.reg [⟨some 54, none, .v (.mov (.t 5))⟩, ⟨some 4, none, .v (.mov (.t 54))⟩]) .ret
def c_Q103_2 : SC := .seq (.seq (.reg [⟨some 32, none, .v (.mov (.t 7))⟩, ⟨some 33, none, .v (.un .not (.t 32))⟩]) (.cond (.t 33) (.exit 0) .skip)) (.seq (.reg [⟨some 34, none, .v (.mov (.t 0))⟩, ⟨some 35, none, .v (.nchk (.t 34))⟩, ⟨some 36, none, .v (.faddr 0 (.t 35))⟩, ⟨some 37, none, .v (.faddr 1 (.t 36))⟩, ⟨some 38, none, .v (.load none (.t 37))⟩, ⟨some 39, none, .v (.bin .add (.t 38) (.c (.int .i64 1)))⟩, ⟨some 40, none, .v (.nchk (.t 34))⟩, ⟨some 41, none, .v (.faddr 0 (.t 40))⟩, ⟨some 42, none, .v (.faddr 1 (.t 41))⟩, ⟨none, none, .store 1 (.t 42) (.t 39)⟩]) (.seq (.reg [⟨some 43, none, .v (.mov (.t 0))⟩, ⟨some 44, none, .v (.mov (.t 6))⟩, ⟨some 45, none, .v (.mov (.t 5))⟩, ⟨some 46, none, .v (.mov (.t 0))⟩, ⟨some 47, none, .v (.mov (.t 1))⟩, ⟨some 48, none, .v (.bin .add (.t 47) (.c (.int .i64 1)))⟩, ⟨some 49, none, .call (.c (.func 103 [])) [(.t 46), (.t 48)]⟩, ⟨some 50, none, .bslice 1 2 [(.int .i64 0)] [(0, (.t 45)), (1, (.t 49))]⟩, ⟨some 51, none, .call (.c (.func 105 [])) [(.t 43), (.t 44), (.c (.str [])), (.t 50)]⟩, ⟨some 5, none, .v (.mov (.t 51))⟩]) (.seq (.reg [⟨some 52, none, .v (.mov (.t 1))⟩, ⟨some 53, none, .v (.bin .eql (.t 52) (.c (.int .i64 2)))⟩]) (.cond (.t 53) (.exit 0) .skip))))
def c_Q103_3 : SC := .block 1 (.seq (.reg [⟨some 23, none, .v (.mov (.t 1))⟩, ⟨some 24, none, .v (.mov (.t 0))⟩, ⟨some 25, none, .v (.nchk (.t 24))⟩, ⟨some 26, none, .v (.faddr 0 (.t 25))⟩, ⟨some 27, none, .call (.c (.func 38 [])) [(.t 26)]⟩, ⟨some 28, none, .v (.field 1 none (.t 27))⟩, ⟨some 29, none, .call (.c (.func 143 [])) [(.t 23), (.t 28)]⟩, ⟨some 22, none, .v (.mov (.t 29))⟩, ⟨some 30, none, .v (.extract 0 (.t 22))⟩, ⟨some 31, none, .v (.extract 1 (.t 22))⟩, ⟨some 6, none, .v (.mov (.t 30))⟩, ⟨some 7, none, .v (.mov (.t 31))⟩]) c_Q103_2)
def b_Q103_1 : SC := .seq (.seq (.reg [⟨some 16, none, .v (.mov (.t 0))⟩, ⟨some 17, none, .v (.nchk (.t 16))⟩, ⟨some 18, none, .v (.faddr 0 (.t 17))⟩, ⟨some 19, none, .call (.c (.func 38 [])) [(.t 18)]⟩, ⟨some 20, none, .v (.field 0 none (.t 19))⟩, ⟨some 21, none, .v (.bin .eql (.t 20) (.c (.int .i64 4)))⟩]) (.cond (.t 21) .skip (.exit 0))) c_Q103_3
def c_Q103_4 : SC := .seq (.block 0 (.loop b_Q103_1)) c_Q103_1
def c_Q103_5 : SC := .seq (.reg [⟨some 12, none, .v (.mov (.t 0))⟩, ⟨some 13, none, .v (.mov (.t 1))⟩, ⟨some 14, none, .v (.bin .add (.t 13) (.c (.int .i64 1)))⟩, ⟨some 15, none, .call (.c (.func 103 [])) [(.t 12), (.t 14)]⟩, ⟨some 5, none, .v (.mov (.t 15))⟩]) c_Q103_4
def c_Q103_6 : SC := .seq (.seq (.reg [⟨some 8, none, .v (.mov (.t 1))⟩, ⟨some 9, none, .v (.bin .eql (.t 8) (.c (.int .i64 5)))⟩]) (.cond (.t 9) (.seq (.reg [⟨some 10, none, .v (.mov (.t 0))⟩, ⟨some 11, none, .call (.c (.func 142 [])) [(.t 10)]⟩, ⟨some 4, none, .v (.mov (.t 11))⟩]) .ret) .skip)) c_Q103_5
def sc_Q103 : SFunc := ⟨2, 55, .seq (.reg [⟨some 4, none, .v (.mov (.c (.int .i64 0)))⟩]) c_Q103_6, [(.t 4)]⟩
noncomputable def k_Q103_1 (SP : Prg) (x : EO) : CO := fin [(.t 4)] (thC SP (inBlk 0 (x)) c_Q103_1)
theorem U_Q103 : type_of% (And.intro (ue c_Q103_1.eq_1) <| And.intro (ue c_Q103_2.eq_1) <| And.intro (ue c_Q103_3.eq_1) <| And.intro (ue b_Q103_1.eq_1) <| And.intro (ue c_Q103_4.eq_1) <| And.intro (ue c_Q103_5.eq_1) <| And.intro (ue c_Q103_6.eq_1) <| sc_Q103.eq_1) := And.intro (ue c_Q103_1.eq_1) <| And.intro (ue c_Q103_2.eq_1) <| And.intro (ue c_Q103_3.eq_1) <| And.intro (ue b_Q103_1.eq_1) <| And.intro (ue c_Q103_4.eq_1) <| And.intro (ue c_Q103_5.eq_1) <| And.intro (ue c_Q103_6.eq_1) <| sc_Q103.eq_1
theorem comp_Q103 : comp Tryz.prog Tryz.f103 = some sc_Q103 := by kernel_rfl
def c_Q68_1 : SC := .seq (.reg [⟨some 14, none, .v (.mov (.t 0))⟩, ⟨some 15, none, .call (.c (.func 104 [])) [(.t 14), (.c (.str [63]))]⟩]) (.seq (.reg [⟨some 16, none, .v (.mov (.t 0))⟩, ⟨some 17, none, .call (.c (.func 68 [])) [(.t 16)]⟩, ⟨some 4, none, .v (.mov (.t 17))⟩]) (.seq (.reg [⟨some 18, none, .v (.mov (.t 0))⟩, ⟨some 19, none, .v (.nchk (.t 18))⟩, ⟨some 20, none, .v (.faddr 0 (.t 19))⟩, ⟨some 21, none, .call (.c (.func 66 [])) [(.t 20), (.c (.str [58]))]⟩]) (.seq (.reg [⟨some 22, none, .v (.mov (.t 0))⟩, ⟨some 23, none, .call (.c (.func 68 [])) [(.t 22)]⟩, ⟨some 5, none, .v (.mov (.t 23))⟩]) (.seq (.reg [⟨some 24, none, .v (.mov (.t 0))⟩, ⟨some 25, none, .v (.nchk (.t 24))⟩, ⟨some 26, none, .v (.faddr 3 (.t 25))⟩, ⟨some 27, none, .v (.load none (.t 26))⟩, ⟨some 28, none, .v (.bin .sub (.t 27) (.c (.int .i64 1)))⟩, ⟨some 29, none, .v (.nchk (.t 24))⟩, ⟨some 30, none, .v (.faddr 3 (.t 29))⟩, ⟨none, none, .store 1 (.t 30) (.t 28)⟩]) (.seq (.reg [⟨some 31, none, .v (.mov (.t 0))⟩, ⟨some 32, none, .v (.mov (.t 3))⟩, ⟨some 33, none, .v (.mov (.t 4))⟩, ⟨some 34, none, .v (.mov (.t 5))⟩, ⟨some 35, none, .bslice 1 3 [(.int .i64 0)] [(0, (.t 32)), (1, (.t 33)), (2, (.t 34))]⟩, ⟨some 36, none, .call (.c (.func 105 [])) [(.t 31), (.c (.int .i64 10)), (.c (.str [])), (.t 35)]⟩, ⟨some 2, none, .v (.mov (.t 36))⟩]) .ret)))))
def c_Q68_2 : SC := .seq (.seq (.reg [⟨some 8, none, .v (.mov (.t 0))⟩, ⟨some 9, none, .v (.nchk (.t 8))⟩, ⟨some 10, none, .v (.faddr 0 (.t 9))⟩, ⟨some 11, none, .call (.c (.func 102 [])) [(.t 10), (.c (.str [63]))]⟩, ⟨some 12, none, .v (.un .not (.t 11))⟩]) (.cond (.t 12) (.seq (.reg [⟨some 13, none, .v (.mov (.t 3))⟩, ⟨some 2, none, .v (.mov (.t 13))⟩]) .ret) .skip)) c_Q68_1
def c_Q68_3 : SC := .seq (.reg [⟨some 6, none, .v (.mov (.t 0))⟩, ⟨some 7, none, .call (.c (.func 103 [])) [(.t 6), (.c (.int .i64 0))]⟩, ⟨some 3, none, .v (.mov (.t 7))⟩]) c_Q68_2
def sc_Q68 : SFunc := ⟨1, 37, .seq (.reg [⟨some 2, none, .v (.mov (.c (.int .i64 0)))⟩]) c_Q68_3, [(.t 2)]⟩
theorem U_Q68 : type_of% (And.intro (ue c_Q68_1.eq_1) <| And.intro (ue c_Q68_2.eq_1) <| And.intro (ue c_Q68_3.eq_1) <| sc_Q68.eq_1) := And.intro (ue c_Q68_1.eq_1) <| And.intro (ue c_Q68_2.eq_1) <| And.intro (ue c_Q68_3.eq_1) <| sc_Q68.eq_1
theorem comp_Q68 : comp Tryz.prog Tryz.f68 = some sc_Q68 := by kernel_rfl
def c_Q142_1 : SC := .seq (.reg [⟨some 21, none, .v (.mov (.t 0))⟩, ⟨some 22, none, .call (.c (.func 142 [])) [(.t 21)]⟩, ⟨some 4, none, .v (.mov (.t 22))⟩]) (.seq (.reg [⟨some 23, none, .v (.mov (.t 0))⟩, ⟨some 24, none, .v (.nchk (.t 23))⟩, ⟨some 25, none, .v (.faddr 3 (.t 24))⟩, ⟨some 26, none, .v (.load none (.t 25))⟩, ⟨some 27, none, .v (.bin .sub (.t 26) (.c (.int .i64 1)))⟩, ⟨some 28, none, .v (.nchk (.t 23))⟩, ⟨some 29, none, .v (.faddr 3 (.t 28))⟩, ⟨none, none, .store 1 (.t 29) (.t 27)⟩]) (.seq (.reg [⟨some 30, none, .v (.mov (.t 0))⟩, ⟨some 31, none, .v (.mov (.t 3))⟩, ⟨some 32, none, .v (.mov (.t 4))⟩, ⟨some 33, none, .bslice 1 1 [(.int .i64 0)] [(0, (.t 32))]⟩, ⟨some 34, none, .call (.c (.func 105 [])) [(.t 30), (.t 31), (.c (.str [])), (.t 33)]⟩, ⟨some 2, none, .v (.mov (.t 34))⟩]) .ret))
def c_Q142_2 : SC := .seq (.block 0 (.seq (.reg [⟨some 8, none, .v (.mov (.t 0))⟩, ⟨some 9, none, .v (.nchk (.t 8))⟩, ⟨some 10, none, .v (.faddr 0 (.t 9))⟩, ⟨some 11, none, .call (.c (.func 102 [])) [(.t 10), (.c (.str [45]))]⟩, ⟨some 7, none, .v (.mov (.t 11))⟩]) (.cond (.t 7) (.reg [⟨some 12, none, .v (.mov (.t 0))⟩, ⟨some 13, none, .call (.c (.func 104 [])) [(.t 12), (.c (.str [45]))]⟩]) (.seq (.reg [⟨some 15, none, .v (.mov (.t 0))⟩, ⟨some 16, none, .v (.nchk (.t 15))⟩, ⟨some 17, none, .v (.faddr 0 (.t 16))⟩, ⟨some 18, none, .call (.c (.func 102 [])) [(.t 17), (.c (.str [33]))]⟩, ⟨some 14, none, .v (.mov (.t 18))⟩]) (.cond (.t 14) (.seq (.reg [⟨some 19, none, .v (.mov (.t 0))⟩, ⟨some 20, none, .call (.c (.func 104 [])) [(.t 19), (.c (.str [33]))]⟩]) (.reg [⟨some 3, none, .v (.mov (.c (.int .i64 8)))⟩])) (.seq (.reg [⟨some 5, none, .v (.mov (.t 0))⟩, ⟨some 6, none, .call (.c (.func 167 [])) [(.t 5)]⟩, ⟨some 2, none, .v (.mov (.t 6))⟩]) .ret)))))) c_Q142_1
def c_Q142_3 : SC := .seq (.reg [⟨some 3, none, .v (.mov (.c (.int .i64 9)))⟩]) c_Q142_2
def sc_Q142 : SFunc := ⟨1, 35, .seq (.reg [⟨some 2, none, .v (.mov (.c (.int .i64 0)))⟩]) c_Q142_3, [(.t 2)]⟩
theorem U_Q142 : type_of% (And.intro (ue c_Q142_1.eq_1) <| And.intro (ue c_Q142_2.eq_1) <| And.intro (ue c_Q142_3.eq_1) <| sc_Q142.eq_1) := And.intro (ue c_Q142_1.eq_1) <| And.intro (ue c_Q142_2.eq_1) <| And.intro (ue c_Q142_3.eq_1) <| sc_Q142.eq_1
theorem comp_Q142 : comp Tryz.prog Tryz.f142 = some sc_Q142 := by kernel_rfl
def c_Q167_1 : SC := .seq (.reg [⟨some 22, none, .v (.mov (.t 3))⟩, ⟨some 2, none, .v (.mov (.t 22))⟩]) .ret
def b_Q167_1 : SC := .seq (.seq (.reg [⟨some 7, none, .v (.mov (.t 0))⟩, ⟨some 8, none, .v (.nchk (.t 7))⟩, ⟨some 9, none, .v (.faddr 0 (.t 8))⟩, ⟨some 10, none, .call (.c (.func 102 [])) [(.t 9), (.c (.str [91]))]⟩]) (.cond (.t 10) .skip (.exit 0))) (.block 1 (.seq (.reg [⟨some 11, none, .v (.mov (.t 0))⟩, ⟨some 12, none, .call (.c (.func 104 [])) [(.t 11), (.c (.str [91]))]⟩]) (.seq (.reg [⟨some 13, none, .v (.mov (.t 0))⟩, ⟨some 14, none, .call (.c (.func 68 [])) [(.t 13)]⟩, ⟨some 4, none, .v (.mov (.t 14))⟩]) (.seq (.reg [⟨some 15, none, .v (.mov (.t 0))⟩, ⟨some 16, none, .call (.c (.func 181 [])) [(.t 15), (.c (.str [93]))]⟩]) (.reg [⟨some 17, none, .v (.mov (.t 0))⟩, ⟨some 18, none, .v (.mov (.t 3))⟩, ⟨some 19, none, .v (.mov (.t 4))⟩, ⟨some 20, none, .bslice 1 2 [(.int .i64 0)] [(0, (.t 18)), (1, (.t 19))]⟩, ⟨some 21, none, .call (.c (.func 105 [])) [(.t 17), (.c (.int .i64 7)), (.c (.str [])), (.t 20)]⟩, ⟨some 3, none, .v (.mov (.t 21))⟩])))))
def sc_Q167 : SFunc := ⟨1, 23, .seq (.reg [⟨some 2, none, .v (.mov (.c (.int .i64 0)))⟩]) (.seq (.reg [⟨some 5, none, .v (.mov (.t 0))⟩, ⟨some 6, none, .call (.c (.func 180 [])) [(.t 5)]⟩, ⟨some 3, none, .v (.mov (.t 6))⟩]) (.seq (.block 0 (.loop b_Q167_1)) c_Q167_1)), [(.t 2)]⟩
noncomputable def k_Q167_1 (SP : Prg) (x : EO) : CO := fin [(.t 2)] (thC SP (inBlk 0 (x)) c_Q167_1)
theorem U_Q167 : type_of% (And.intro (ue c_Q167_1.eq_1) <| And.intro (ue b_Q167_1.eq_1) <| sc_Q167.eq_1) := And.intro (ue c_Q167_1.eq_1) <| And.intro (ue b_Q167_1.eq_1) <| sc_Q167.eq_1
theorem comp_Q167 : comp Tryz.prog Tryz.f167 = some sc_Q167 := by kernel_rfl
def c_Q203_1 : SC := .seq (.reg [⟨some 26, none, .v (.mov (.t 0))⟩, ⟨some 27, none, .v (.mov (.t 1))⟩, ⟨some 28, none, .call (.c (.func 181 [])) [(.t 26), (.t 27)]⟩]) (.seq (.reg [⟨some 29, none, .v (.mov (.t 5))⟩, ⟨some 4, none, .v (.mov (.t 29))⟩]) .ret)
def b_Q203_1 : SC := .seq (.seq (.reg [⟨some 17, none, .v (.mov (.t 0))⟩, ⟨some 18, none, .v (.nchk (.t 17))⟩, ⟨some 19, none, .v (.faddr 0 (.t 18))⟩, ⟨some 20, none, .call (.c (.func 67 [])) [(.t 19), (.c (.str [44]))]⟩]) (.cond (.t 20) .skip (.exit 0))) (.block 1 (.reg [⟨some 21, none, .v (.mov (.t 5))⟩, ⟨some 22, none, .v (.mov (.t 0))⟩, ⟨some 23, none, .call (.c (.func 68 [])) [(.t 22)]⟩, ⟨some 24, none, .bslice 1 1 [(.int .i64 0)] [(0, (.t 23))]⟩, ⟨some 25, none, .append 1 8 (.t 21) (.t 24)⟩, ⟨some 5, none, .v (.mov (.t 25))⟩]))
def c_Q203_2 : SC := .seq (.reg [⟨some 5, none, .nilv 1⟩]) (.seq (.seq (.reg [⟨some 6, none, .v (.mov (.t 0))⟩, ⟨some 7, none, .v (.nchk (.t 6))⟩, ⟨some 8, none, .v (.faddr 0 (.t 7))⟩, ⟨some 9, none, .v (.mov (.t 1))⟩, ⟨some 10, none, .call (.c (.func 102 [])) [(.t 8), (.t 9)]⟩, ⟨some 11, none, .v (.un .not (.t 10))⟩]) (.cond (.t 11) (.seq (.reg [⟨some 12, none, .v (.mov (.t 5))⟩, ⟨some 13, none, .v (.mov (.t 0))⟩, ⟨some 14, none, .call (.c (.func 68 [])) [(.t 13)]⟩, ⟨some 15, none, .bslice 1 1 [(.int .i64 0)] [(0, (.t 14))]⟩, ⟨some 16, none, .append 1 8 (.t 12) (.t 15)⟩, ⟨some 5, none, .v (.mov (.t 16))⟩]) (.block 0 (.loop b_Q203_1))) .skip)) c_Q203_1)
def sc_Q203 : SFunc := ⟨2, 30, .seq (.reg [⟨some 4, none, .nilv 1⟩]) c_Q203_2, [(.t 4)]⟩
noncomputable def k_Q203_1 (SP : Prg) (x : EO) : CO := fin [(.t 4)] (thC SP (inBlk 0 (x)) c_Q203_1)
theorem U_Q203 : type_of% (And.intro (ue c_Q203_1.eq_1) <| And.intro (ue b_Q203_1.eq_1) <| And.intro (ue c_Q203_2.eq_1) <| sc_Q203.eq_1) := And.intro (ue c_Q203_1.eq_1) <| And.intro (ue b_Q203_1.eq_1) <| And.intro (ue c_Q203_2.eq_1) <| sc_Q203.eq_1
theorem comp_Q203 : comp Tryz.prog Tryz.f203 = some sc_Q203 := by kernel_rfl
def c_Q64_1 : SC := .seq (.reg [⟨some 39, none, .v (.mov (.t 0))⟩, ⟨some 40, none, .v (.nchk (.t 39))⟩, ⟨some 41, none, .v (.faddr 0 (.t 40))⟩, ⟨some 42, none, .v (.faddr 0 (.t 41))⟩, ⟨some 43, none, .v (.faddr 1 (.t 42))⟩, ⟨some 44, none, .v (.load none (.t 43))⟩, ⟨some 45, none, .v (.bin .add (.t 44) (.c (.int .i64 1)))⟩, ⟨some 46, none, .v (.nchk (.t 39))⟩, ⟨some 47, none, .v (.faddr 0 (.t 46))⟩, ⟨some 48, none, .v (.faddr 0 (.t 47))⟩, ⟨some 49, none, .v (.faddr 1 (.t 48))⟩, ⟨none, none, .store 1 (.t 49) (.t 45)⟩]) (.seq (.reg [⟨some 50, none, .v (.faddr 3 (.t 3))⟩, ⟨some 51, none, .v (.load none (.t 50))⟩, ⟨some 52, none, .v (.iaddr 2 (.t 51) (.c (.int .i64 0)))⟩, ⟨some 53, none, .v (.faddr 1 (.t 52))⟩, ⟨some 54, none, .v (.load none (.t 53))⟩, ⟨some 2, none, .v (.mov (.t 54))⟩]) .ret)
def c_Q64_2 : SC := .cond (.t 33) (.reg [⟨some 34, none, .v (.mov (.t 0))⟩, ⟨some 35, none, .v (.nchk (.t 34))⟩, ⟨some 36, none, .v (.faddr 0 (.t 35))⟩, ⟨some 37, none, .v (.faddr 0 (.t 36))⟩, ⟨some 38, none, .call (.c (.func 42 [])) [(.t 37), (.c (.int .i64 5))]⟩]) .skip
def c_Q64_3 : SC := .seq (.seq (.reg [⟨some 9, none, .v (.faddr 0 (.t 3))⟩, ⟨some 10, none, .v (.load none (.t 9))⟩, ⟨some 11, none, .v (.bin .neq (.t 10) (.c (.int .i64 2)))⟩, ⟨some 12, none, .v (.mov (.t 11))⟩, ⟨some 13, some (12, false), .v (.faddr 3 (.t 3))⟩, ⟨some 14, some (12, false), .v (.load none (.t 13))⟩, ⟨some 15, some (12, false), .v (.len false (.t 14))⟩, ⟨some 16, some (12, false), .v (.bin .neq (.t 15) (.c (.int .i64 1)))⟩, ⟨some 17, none, .v (.pick (.t 12) (.c (.bool true)) (.t 16))⟩, ⟨some 18, none, .v (.mov (.t 17))⟩, ⟨some 19, some (18, false), .v (.faddr 3 (.t 3))⟩, ⟨some 20, some (18, false), .v (.load none (.t 19))⟩, ⟨some 21, some (18, false), .v (.iaddr 2 (.t 20) (.c (.int .i64 0)))⟩, ⟨some 22, some (18, false), .v (.faddr 0 (.t 21))⟩, ⟨some 23, some (18, false), .v (.load none (.t 22))⟩, ⟨some 24, none, .v (.pick (.t 18) (.c (.bool true)) (.t 23))⟩, ⟨some 25, none, .v (.mov (.t 24))⟩, ⟨some 26, some (25, false), .v (.faddr 3 (.t 3))⟩, ⟨some 27, some (25, false), .v (.load none (.t 26))⟩, ⟨some 28, some (25, false), .v (.iaddr 2 (.t 27) (.c (.int .i64 0)))⟩, ⟨some 29, some (25, false), .v (.faddr 1 (.t 28))⟩, ⟨some 30, some (25, false), .v (.load none (.t 29))⟩, ⟨some 31, some (25, false), .call (.c (.func 81 [])) [(.t 30)]⟩, ⟨some 32, some (25, false), .v (.un .not (.t 31))⟩, ⟨some 33, none, .v (.pick (.t 25) (.c (.bool true)) (.t 32))⟩]) c_Q64_2) c_Q64_1
def c_Q64_4 : SC := .seq (.reg [⟨some 4, none, .v (.mov (.t 0))⟩, ⟨some 5, none, .v (.nchk (.t 4))⟩, ⟨some 6, none, .v (.faddr 0 (.t 5))⟩, ⟨some 7, none, .v (.faddr 0 (.t 6))⟩, ⟨some 8, none, .call (.c (.func 38 [])) [(.t 7)]⟩, ⟨some 3, none, .alloc [(.int .i64 0), (.str []), (.int .i64 0), (.nils 2), (.int .i64 0)]⟩, ⟨none, none, .store 5 (.t 3) (.t 8)⟩]) c_Q64_3
def sc_Q64 : SFunc := ⟨1, 55, .seq (.reg [⟨some 2, none, .v (.mov (.c (.str [])))⟩]) c_Q64_4, [(.t 2)]⟩
theorem U_Q64 : type_of% (And.intro (ue c_Q64_1.eq_1) <| And.intro (ue c_Q64_2.eq_1) <| And.intro (ue c_Q64_3.eq_1) <| And.intro (ue c_Q64_4.eq_1) <| sc_Q64.eq_1) := And.intro (ue c_Q64_1.eq_1) <| And.intro (ue c_Q64_2.eq_1) <| And.intro (ue c_Q64_3.eq_1) <| And.intro (ue c_Q64_4.eq_1) <| sc_Q64.eq_1
theorem comp_Q64 : comp Tryz.prog Tryz.f64 = some sc_Q64 := by kernel_rfl
def sc_Q100 : SFunc := ⟨2, 8, .seq (.reg [⟨some 2, none, .box (.t 0)⟩, ⟨some 3, none, .v (.mov (.c (.bool false)))⟩]) (.seq (.reg [⟨some 4, none, .v (.faddr 0 (.t 2))⟩, ⟨some 5, none, .v (.load none (.t 4))⟩, ⟨some 6, none, .v (.load none (.t 1))⟩, ⟨some 7, none, .v (.bin .eql (.t 5) (.t 6))⟩, ⟨some 3, none, .v (.mov (.t 7))⟩]) .ret), [(.t 3)]⟩
theorem U_Q100 : type_of% (sc_Q100.eq_1) := sc_Q100.eq_1
theorem comp_Q100 : comp Tryz.prog Tryz.f100 = some sc_Q100 := by kernel_rfl
def c_Q100 : SC := .seq (.reg [⟨some 60, none, .v (.mov (.t 3))⟩, ⟨some 2, none, .v (.mov (.t 60))⟩]) .ret
def c_Q65_2 : SC := .seq (.reg [⟨some 40, none, .v (.mov (.t 0))⟩, ⟨some 41, none, .v (.nchk (.t 40))⟩, ⟨some 42, none, .v (.faddr 0 (.t 41))⟩, ⟨some 43, none, .v (.faddr 0 (.t 42))⟩, ⟨some 44, none, .call (.c (.func 101 [])) [(.t 43)]⟩, ⟨some 45, none, .v (.build [(.str []), (.nils 5)] [(0, 1, (.t 44))])⟩, ⟨some 5, none, .alloc [(.str []), (.nils 5)]⟩, ⟨none, none, .store 2 (.t 5) (.t 45)⟩]) (.seq (.reg [⟨some 46, none, .v (.mov (.t 0))⟩, ⟨some 47, none, .v (.nchk (.t 46))⟩, ⟨some 48, none, .v (.faddr 0 (.t 47))⟩, ⟨some 49, none, .v (.faddr 0 (.t 48))⟩, ⟨some 50, none, .call (.c (.func 66 [])) [(.t 49), (.c (.str [61]))]⟩]) (.seq (.reg [⟨some 51, none, .v (.mov (.t 0))⟩, ⟨some 52, none, .v (.nchk (.t 51))⟩, ⟨some 53, none, .v (.faddr 0 (.t 52))⟩, ⟨some 54, none, .call (.c (.func 41 [])) [(.t 53)]⟩, ⟨some 55, none, .v (.faddr 1 (.t 5))⟩, ⟨none, none, .store 1 (.t 55) (.t 54)⟩]) (.reg [⟨some 56, none, .v (.mov (.t 3))⟩, ⟨some 57, none, .v (.load (some 2) (.t 5))⟩, ⟨some 58, none, .bslice 2 1 [(.str []), (.nils 5)] [(0, (.t 57))]⟩, ⟨some 59, none, .append 2 40 (.t 56) (.t 58)⟩, ⟨some 3, none, .v (.mov (.t 59))⟩])))
def c_Q65_3 : SC := .seq (.seq (.reg [⟨some 23, none, .v (.mov (.t 0))⟩, ⟨some 24, none, .v (.nchk (.t 23))⟩, ⟨some 25, none, .v (.faddr 0 (.t 24))⟩, ⟨some 26, none, .v (.faddr 0 (.t 25))⟩, ⟨some 27, none, .call (.c (.func 38 [])) [(.t 26)]⟩, ⟨some 28, none, .v (.field 0 none (.t 27))⟩, ⟨some 29, none, .v (.bin .eql (.t 28) (.c (.int .i64 3)))⟩, ⟨some 30, none, .v (.mov (.t 29))⟩, ⟨some 31, some (30, true), .v (.mov (.t 3))⟩, ⟨some 32, some (30, true), .v (.func 100 [(.t 4)])⟩, ⟨some 33, some (30, true), .call (.c (.func 99 [])) [(.t 31), (.t 32)]⟩, ⟨some 34, none, .v (.pick (.t 30) (.t 33) (.c (.bool false)))⟩]) (.cond (.t 34) (.reg [⟨some 35, none, .v (.mov (.t 0))⟩, ⟨some 36, none, .v (.nchk (.t 35))⟩, ⟨some 37, none, .v (.faddr 0 (.t 36))⟩, ⟨some 38, none, .v (.faddr 0 (.t 37))⟩, ⟨some 39, none, .call (.c (.func 42 [])) [(.t 38), (.c (.int .i64 3))]⟩]) .skip)) c_Q65_2
def c_Q65_4 : SC := .block 1 (.seq (.reg [⟨some 17, none, .v (.mov (.t 0))⟩, ⟨some 18, none, .v (.nchk (.t 17))⟩, ⟨some 19, none, .v (.faddr 0 (.t 18))⟩, ⟨some 20, none, .v (.faddr 0 (.t 19))⟩, ⟨some 21, none, .call (.c (.func 38 [])) [(.t 20)]⟩, ⟨some 22, none, .v (.field 1 none (.t 21))⟩, ⟨some 4, none, .alloc [(.str [])]⟩, ⟨none, none, .store 1 (.t 4) (.t 22)⟩]) c_Q65_3)
def b_Q100 : SC := .seq (.seq (.reg [⟨some 11, none, .v (.mov (.t 0))⟩, ⟨some 12, none, .v (.nchk (.t 11))⟩, ⟨some 13, none, .v (.faddr 0 (.t 12))⟩, ⟨some 14, none, .v (.faddr 0 (.t 13))⟩, ⟨some 15, none, .call (.c (.func 67 [])) [(.t 14), (.c (.str [125]))]⟩, ⟨some 16, none, .v (.un .not (.t 15))⟩]) (.cond (.t 16) .skip (.exit 0))) c_Q65_4
def c_Q65_5 : SC := .seq (.block 0 (.loop b_Q100)) c_Q100
def c_Q65_6 : SC := .seq (.reg [⟨some 6, none, .v (.mov (.t 0))⟩, ⟨some 7, none, .v (.nchk (.t 6))⟩, ⟨some 8, none, .v (.faddr 0 (.t 7))⟩, ⟨some 9, none, .v (.faddr 0 (.t 8))⟩, ⟨some 10, none, .call (.c (.func 66 [])) [(.t 9), (.c (.str [123]))]⟩]) c_Q65_5
def c_Q65_7 : SC := .seq (.reg [⟨some 3, none, .nilv 2⟩]) c_Q65_6
def sc_Q65 : SFunc := ⟨1, 61, .seq (.reg [⟨some 2, none, .nilv 2⟩]) c_Q65_7, [(.t 2)]⟩
noncomputable def k_Q100 (SP : Prg) (x : EO) : CO := fin [(.t 2)] (thC SP (inBlk 0 (x)) c_Q100)
theorem U_Q65 : type_of% (And.intro (ue c_Q100.eq_1) <| And.intro (ue c_Q65_2.eq_1) <| And.intro (ue c_Q65_3.eq_1) <| And.intro (ue c_Q65_4.eq_1) <| And.intro (ue b_Q100.eq_1) <| And.intro (ue c_Q65_5.eq_1) <| And.intro (ue c_Q65_6.eq_1) <| And.intro (ue c_Q65_7.eq_1) <| sc_Q65.eq_1) := And.intro (ue c_Q100.eq_1) <| And.intro (ue c_Q65_2.eq_1) <| And.intro (ue c_Q65_3.eq_1) <| And.intro (ue c_Q65_4.eq_1) <| And.intro (ue b_Q100.eq_1) <| And.intro (ue c_Q65_5.eq_1) <| And.intro (ue c_Q65_6.eq_1) <| And.intro (ue c_Q65_7.eq_1) <| sc_Q65.eq_1
theorem comp_Q65 : comp Tryz.prog Tryz.f65 = some sc_Q65 := by kernel_rfl
def sc_Q63 : SFunc := ⟨0, 2, .seq (.reg [⟨some 0, none, .nilv 1⟩]) (.seq (.reg [⟨some 1, none, .bslice 1 5 [(.str [])] [(0, (.c (.str [118, 97, 114, 105, 97, 98, 108, 101]))), (1, (.c (.str [108, 111, 99, 97, 108, 115]))), (2, (.c (.str [110, 111, 100, 101]))), (3, (.c (.str [109, 111, 100, 117, 108, 101]))), (4, (.c (.str [100, 101, 102, 105, 110, 101])))]⟩, ⟨some 0, none, .v (.mov (.t 1))⟩]) .ret), [(.t 0)]⟩
theorem U_Q63 : type_of% (sc_Q63.eq_1) := sc_Q63.eq_1
theorem comp_Q63 : comp Tryz.prog Tryz.f63 = some sc_Q63 := by kernel_rfl
def o_parse_blocks_block_1 : List SOper := [⟨some 72, none, .v (.faddr 3 (.t 7))⟩, ⟨some 73, none, .v (.load none (.t 72))⟩, ⟨some 74, none, .v (.mov (.t 0))⟩, ⟨some 75, none, .call (.c (.func 39 [])) [(.t 74), (.c (.bool true))]⟩, ⟨some 76, none, .bslice 4 1 [(.int .i64 0), (.str []), (.nils 2), (.nils 4)] [(0, (.t 75))]⟩, ⟨some 77, none, .append 4 72 (.t 73) (.t 76)⟩, ⟨some 78, none, .v (.faddr 3 (.t 7))⟩, ⟨none, none, .store 1 (.t 78) (.t 77)⟩]
def t_Q39_1 : BT := (.n 0 (.n 1 (.n 2 (.n 3 (.n 4 (.n 5 (.n 6 (.n 7 .e .e) .e) .e) .e) .e) .e) (.n 2 (.n 1 (.n 3 (.n 4 (.n 5 (.n 6 (.n 7 .e .e) .e) .e) .e) .e) (.n 3 (.n 1 (.n 4 (.n 5 (.n 6 (.n 7 .e .e) .e) .e) .e) (.n 4 (.n 1 (.n 5 (.n 6 (.n 7 .e .e) .e) .e) .e) .e)) .e)) .e)) (.n 2 (.n 0 (.n 1 (.n 3 (.n 4 (.n 5 (.n 6 (.n 7 .e .e) .e) .e) .e) .e) (.n 3 (.n 1 (.n 4 (.n 5 (.n 6 (.n 7 .e .e) .e) .e) .e) (.n 4 (.n 1 (.n 5 (.n 6 (.n 7 .e .e) .e) .e) .e) .e)) .e)) (.n 3 (.n 0 (.n 1 (.n 4 (.n 5 (.n 6 (.n 7 .e .e) .e) .e) .e) (.n 4 (.n 1 (.n 5 (.n 6 (.n 7 .e .e) .e) .e) .e) .e)) (.n 4 (.n 0 (.n 1 (.n 5 (.n 6 (.n 7 .e .e) .e) .e) .e) .e) .e)) .e)) .e))
theorem pr_parse_blocks_block_1 (ac : Ac) : prep o_parse_blocks_block_1 ac = ((ac.kill 75).kill 77) := rfl
theorem og_parse_blocks_block_1 : o_parse_blocks_block_1[0]? = some (⟨some 72, none, .v (.faddr 3 (.t 7))⟩) ∧ o_parse_blocks_block_1[1]? = some (⟨some 73, none, .v (.load none (.t 72))⟩) ∧ o_parse_blocks_block_1[2]? = some (⟨some 74, none, .v (.mov (.t 0))⟩) ∧ o_parse_blocks_block_1[3]? = some (⟨some 75, none, .call (.c (.func 39 [])) [(.t 74), (.c (.bool true))]⟩) ∧ o_parse_blocks_block_1[4]? = some (⟨some 76, none, .bslice 4 1 [(.int .i64 0), (.str []), (.nils 2), (.nils 4)] [(0, (.t 75))]⟩) ∧ o_parse_blocks_block_1[5]? = some (⟨some 77, none, .append 4 72 (.t 73) (.t 76)⟩) ∧ o_parse_blocks_block_1[6]? = some (⟨some 78, none, .v (.faddr 3 (.t 7))⟩) ∧ o_parse_blocks_block_1[7]? = some (⟨none, none, .store 1 (.t 78) (.t 77)⟩) := ⟨rfl, rfl, rfl, rfl, rfl, rfl, rfl, rfl⟩
def c_Q39_1 : SC := .seq (.reg [⟨some 79, none, .v (.load (some 4) (.t 7))⟩, ⟨none, none, .store 4 (.t 4) (.t 79)⟩]) .ret
def b_Q39_1 : SC := .seq (.seq (.reg [⟨some 66, none, .v (.mov (.t 0))⟩, ⟨some 67, none, .v (.nchk (.t 66))⟩, ⟨some 68, none, .v (.faddr 0 (.t 67))⟩, ⟨some 69, none, .v (.faddr 0 (.t 68))⟩, ⟨some 70, none, .call (.c (.func 67 [])) [(.t 69), (.c (.str [125]))]⟩, ⟨some 71, none, .v (.un .not (.t 70))⟩]) (.cond (.t 71) .skip (.exit 0))) (.block 1 (.treg o_parse_blocks_block_1 [72, 73, 74, 75, 76, 77, 78] t_Q39_1))
def c_Q39_2 : SC := .seq (.block 0 (.loop b_Q39_1)) c_Q39_1
def c_Q39_3 : SC := .seq (.reg [⟨some 61, none, .v (.mov (.t 0))⟩, ⟨some 62, none, .v (.nchk (.t 61))⟩, ⟨some 63, none, .v (.faddr 0 (.t 62))⟩, ⟨some 64, none, .v (.faddr 0 (.t 63))⟩, ⟨some 65, none, .call (.c (.func 66 [])) [(.t 64), (.c (.str [123]))]⟩]) c_Q39_2
def c_Q39_4 : SC := .seq (.seq (.reg [⟨some 55, none, .v (.mov (.t 6))⟩, ⟨some 56, none, .v (.bin .neq (.t 55) (.c (.int .i64 5)))⟩]) (.cond (.t 56) (.seq (.reg [⟨some 57, none, .v (.mov (.t 0))⟩, ⟨some 58, none, .call (.c (.func 65 [])) [(.t 57)]⟩, ⟨some 59, none, .v (.faddr 2 (.t 7))⟩, ⟨none, none, .store 1 (.t 59) (.t 58)⟩]) (.seq (.reg [⟨some 60, none, .v (.load (some 4) (.t 7))⟩, ⟨none, none, .store 4 (.t 4) (.t 60)⟩]) .ret)) .skip)) c_Q39_3
def c_Q39_5 : SC := .seq (.seq (.reg [⟨some 50, none, .v (.mov (.t 6))⟩, ⟨some 51, none, .v (.bin .neq (.t 50) (.c (.int .i64 2)))⟩]) (.cond (.t 51) (.reg [⟨some 52, none, .v (.mov (.t 0))⟩, ⟨some 53, none, .call (.c (.func 64 [])) [(.t 52)]⟩, ⟨some 54, none, .v (.faddr 1 (.t 7))⟩, ⟨none, none, .store 1 (.t 54) (.t 53)⟩]) .skip)) c_Q39_4
def c_Q39_6 : SC := .seq (.reg [⟨some 48, none, .v (.mov (.t 6))⟩, ⟨some 49, none, .v (.build [(.int .i64 0), (.str []), (.nils 2), (.nils 4)] [(0, 1, (.t 48))])⟩, ⟨some 7, none, .alloc [(.int .i64 0), (.str []), (.nils 2), (.nils 4)]⟩, ⟨none, none, .store 4 (.t 7) (.t 49)⟩]) c_Q39_5
def c_Q39_7 : SC := .seq (.reg [⟨some 37, none, .v (.mov (.t 0))⟩, ⟨some 38, none, .v (.nchk (.t 37))⟩, ⟨some 39, none, .v (.faddr 0 (.t 38))⟩, ⟨some 40, none, .v (.faddr 0 (.t 39))⟩, ⟨some 41, none, .v (.faddr 1 (.t 40))⟩, ⟨some 42, none, .v (.load none (.t 41))⟩, ⟨some 43, none, .v (.bin .add (.t 42) (.c (.int .i64 1)))⟩, ⟨some 44, none, .v (.nchk (.t 37))⟩, ⟨some 45, none, .v (.faddr 0 (.t 44))⟩, ⟨some 46, none, .v (.faddr 0 (.t 45))⟩, ⟨some 47, none, .v (.faddr 1 (.t 46))⟩, ⟨none, none, .store 1 (.t 47) (.t 43)⟩]) c_Q39_6
def c_Q39_8 : SC := .seq (.seq (.reg [⟨some 18, none, .v (.faddr 0 (.t 5))⟩, ⟨some 19, none, .v (.load none (.t 18))⟩, ⟨some 20, none, .v (.bin .neq (.t 19) (.c (.int .i64 3)))⟩, ⟨some 21, none, .v (.mov (.t 20))⟩, ⟨some 22, some (21, false), .v (.mov (.t 6))⟩, ⟨some 23, some (21, false), .v (.bin .eql (.t 22) (.c (.int .i64 0)))⟩, ⟨some 24, none, .v (.pick (.t 21) (.c (.bool true)) (.t 23))⟩, ⟨some 25, none, .v (.mov (.t 24))⟩, ⟨some 26, some (25, false), .v (.mov (.t 6))⟩, ⟨some 27, some (25, false), .v (.bin .eql (.t 26) (.c (.int .i64 5)))⟩, ⟨some 28, some (25, false), .v (.mov (.t 27))⟩, ⟨some 29, some (28, true), .v (.mov (.t 1))⟩, ⟨some 30, some (25, false), .v (.pick (.t 28) (.t 29) (.c (.bool false)))⟩, ⟨some 31, none, .v (.pick (.t 25) (.c (.bool true)) (.t 30))⟩]) (.cond (.t 31) (.reg [⟨some 32, none, .v (.mov (.t 0))⟩, ⟨some 33, none, .v (.nchk (.t 32))⟩, ⟨some 34, none, .v (.faddr 0 (.t 33))⟩, ⟨some 35, none, .v (.faddr 0 (.t 34))⟩, ⟨some 36, none, .call (.c (.func 42 [])) [(.t 35), (.c (.int .i64 5))]⟩]) .skip)) c_Q39_7
def c_Q39_9 : SC := .seq (.dreg [⟨some 13, none, .call (.c (.func 63 [])) []⟩, ⟨some 14, none, .v (.faddr 1 (.t 5))⟩, ⟨some 15, none, .v (.load none (.t 14))⟩, ⟨some 16, none, .call (.c (.func 62 [])) [(.t 13), (.t 15)]⟩, ⟨some 17, none, .v (.bin .add (.c (.int .i64 1)) (.t 16))⟩, ⟨some 6, none, .v (.mov (.t 17))⟩] [false, false, false, true, true, true]) c_Q39_8
def c_Q39_10 : SC := .seq (.reg [⟨some 8, none, .v (.mov (.t 0))⟩, ⟨some 9, none, .v (.nchk (.t 8))⟩, ⟨some 10, none, .v (.faddr 0 (.t 9))⟩, ⟨some 11, none, .v (.faddr 0 (.t 10))⟩, ⟨some 12, none, .call (.c (.func 38 [])) [(.t 11)]⟩, ⟨some 5, none, .alloc [(.int .i64 0), (.str []), (.int .i64 0), (.nils 2), (.int .i64 0)]⟩, ⟨none, none, .store 5 (.t 5) (.t 12)⟩]) c_Q39_9
def sc_Q39 : SFunc := ⟨2, 80, .seq (.reg [⟨some 4, none, .alloc [(.int .i64 0), (.str []), (.nils 2), (.nils 4)]⟩]) c_Q39_10, [(.cell 4 (some 4))]⟩
noncomputable def k_Q39_1 (SP : Prg) (x : EO) : CO := fin [(.cell 4 (some 4))] (thC SP (inBlk 0 (x)) c_Q39_1)
theorem U_Q39 : type_of% (And.intro (ue c_Q39_1.eq_1) <| And.intro (ue b_Q39_1.eq_1) <| And.intro (ue c_Q39_2.eq_1) <| And.intro (ue c_Q39_3.eq_1) <| And.intro (ue c_Q39_4.eq_1) <| And.intro (ue c_Q39_5.eq_1) <| And.intro (ue c_Q39_6.eq_1) <| And.intro (ue c_Q39_7.eq_1) <| And.intro (ue c_Q39_8.eq_1) <| And.intro (ue c_Q39_9.eq_1) <| And.intro (ue c_Q39_10.eq_1) <| And.intro pr_parse_blocks_block_1 <| And.intro og_parse_blocks_block_1 <| And.intro t_Q39_1.eq_1 <| sc_Q39.eq_1) := And.intro (ue c_Q39_1.eq_1) <| And.intro (ue b_Q39_1.eq_1) <| And.intro (ue c_Q39_2.eq_1) <| And.intro (ue c_Q39_3.eq_1) <| And.intro (ue c_Q39_4.eq_1) <| And.intro (ue c_Q39_5.eq_1) <| And.intro (ue c_Q39_6.eq_1) <| And.intro (ue c_Q39_7.eq_1) <| And.intro (ue c_Q39_8.eq_1) <| And.intro (ue c_Q39_9.eq_1) <| And.intro (ue c_Q39_10.eq_1) <| And.intro pr_parse_blocks_block_1 <| And.intro og_parse_blocks_block_1 <| And.intro t_Q39_1.eq_1 <| sc_Q39.eq_1
theorem comp_Q39 : comp Tryz.prog Tryz.f39 = some sc_Q39 := by kernel_rfl
def c_slices_IndexFunc_api_Attr_api_Attr_1 : SC := .seq (.reg [⟨some 4, none, .v (.mov (.c (.int .i64 (-1))))⟩]) .ret
def b_slices_IndexFunc_api_Attr_api_Attr_1 : SC := .seq (.reg [⟨some 9, none, .v (.bin .lss (.t 8) (.t 7))⟩]) (.seq (.cond (.t 9) .skip (.exit 0)) (.seq (.block 1 (.seq (.reg [⟨some 10, none, .v (.mov (.t 8))⟩, ⟨some 5, none, .v (.mov (.t 10))⟩]) (.seq (.reg [⟨some 11, none, .v (.mov (.t 1))⟩, ⟨some 12, none, .v (.mov (.t 0))⟩, ⟨some 13, none, .v (.mov (.t 5))⟩, ⟨some 14, none, .v (.iaddr 2 (.t 12) (.t 13))⟩, ⟨some 15, none, .v (.load (some 2) (.t 14))⟩, ⟨some 16, none, .call (.t 11) [(.t 15)]⟩]) (.cond (.t 16) (.seq (.reg [⟨some 17, none, .v (.mov (.t 5))⟩, ⟨some 4, none, .v (.mov (.t 17))⟩]) .ret) .skip)))) (.reg [⟨some 18, none, .v (.bin .add (.t 8) (.c (.int .i64 1)))⟩, ⟨some 8, none, .v (.mov (.t 18))⟩])))
def sc_slices_IndexFunc_api_Attr_api_Attr : SFunc := ⟨2, 19, .seq (.reg [⟨some 4, none, .v (.mov (.c (.int .i64 0)))⟩]) (.seq (.seq (.reg [⟨some 6, none, .v (.mov (.t 0))⟩, ⟨some 7, none, .v (.len false (.t 6))⟩, ⟨some 8, none, .v (.mov (.c (.int .i64 0)))⟩]) (.block 0 (.loop b_slices_IndexFunc_api_Attr_api_Attr_1))) c_slices_IndexFunc_api_Attr_api_Attr_1), [(.t 4)]⟩
noncomputable def k_slices_IndexFunc_api_Attr_api_Attr_1 (SP : Prg) (x : EO) : CO := fin [(.t 4)] (thC SP (inBlk 0 (x)) c_slices_IndexFunc_api_Attr_api_Attr_1)
theorem U_slices_IndexFunc_api_Attr_api_Attr : type_of% (And.intro (ue c_slices_IndexFunc_api_Attr_api_Attr_1.eq_1) <| And.intro (ue b_slices_IndexFunc_api_Attr_api_Attr_1.eq_1) <| sc_slices_IndexFunc_api_Attr_api_Attr.eq_1) := And.intro (ue c_slices_IndexFunc_api_Attr_api_Attr_1.eq_1) <| And.intro (ue b_slices_IndexFunc_api_Attr_api_Attr_1.eq_1) <| sc_slices_IndexFunc_api_Attr_api_Attr.eq_1
theorem comp_slices_IndexFunc_api_Attr_api_Attr : comp Tryz.prog Tryz.f141 = some sc_slices_IndexFunc_api_Attr_api_Attr := by kernel_rfl
def sc_slices_ContainsFunc_api_Attr_api_Attr : SFunc := ⟨2, 9, .seq (.reg [⟨some 4, none, .v (.mov (.c (.bool false)))⟩]) (.seq (.reg [⟨some 5, none, .v (.mov (.t 0))⟩, ⟨some 6, none, .v (.mov (.t 1))⟩, ⟨some 7, none, .call (.c (.func 141 [])) [(.t 5), (.t 6)]⟩, ⟨some 8, none, .v (.bin .geq (.t 7) (.c (.int .i64 0)))⟩, ⟨some 4, none, .v (.mov (.t 8))⟩]) .ret), [(.t 4)]⟩
theorem U_slices_ContainsFunc_api_Attr_api_Attr : type_of% (sc_slices_ContainsFunc_api_Attr_api_Attr.eq_1) := sc_slices_ContainsFunc_api_Attr_api_Attr.eq_1
theorem comp_slices_ContainsFunc_api_Attr_api_Attr : comp Tryz.prog Tryz.f99 = some sc_slices_ContainsFunc_api_Attr_api_Attr := by kernel_rfl
def o_parse_Parse_1_1 : List SOper := [⟨some 10, none, .v (.load none (.t 1))⟩, ⟨some 11, none, .v (.mov (.t 0))⟩, ⟨some 12, none, .call (.c (.func 39 [])) [(.t 11), (.c (.bool false))]⟩, ⟨some 13, none, .v (.len false (.t 10))⟩, ⟨some 14, none, .bslice 4 1 [(.int .i64 0), (.str []), (.nils 2), (.nils 4)] [(0, (.c (.agg [(.int .i64 0), (.str []), (.nils 2), (.nils 4)])))]⟩, ⟨some 15, none, .append 4 72 (.t 10) (.t 14)⟩, ⟨some 16, none, .v (.iaddr 4 (.t 15) (.t 13))⟩, ⟨none, none, .store 4 (.t 16) (.t 12)⟩, ⟨none, none, .store 1 (.t 1) (.t 15)⟩]
def t_Q37_1 : BT := (.n 0 (.n 1 (.n 2 (.n 3 (.n 4 (.n 5 (.n 6 (.n 7 (.n 8 .e .e) (.n 8 (.n 7 .e .e) .e)) (.n 8 (.n 6 (.n 7 .e .e) .e) .e)) .e) .e) (.n 4 (.n 3 (.n 5 (.n 6 (.n 7 (.n 8 .e .e) (.n 8 (.n 7 .e .e) .e)) (.n 8 (.n 6 (.n 7 .e .e) .e) .e)) .e) .e) .e)) (.n 3 (.n 2 (.n 4 (.n 5 (.n 6 (.n 7 (.n 8 .e .e) (.n 8 (.n 7 .e .e) .e)) (.n 8 (.n 6 (.n 7 .e .e) .e) .e)) .e) .e) (.n 4 (.n 2 (.n 5 (.n 6 (.n 7 (.n 8 .e .e) (.n 8 (.n 7 .e .e) .e)) (.n 8 (.n 6 (.n 7 .e .e) .e) .e)) .e) .e) .e)) (.n 4 (.n 2 (.n 3 (.n 5 (.n 6 (.n 7 (.n 8 .e .e) (.n 8 (.n 7 .e .e) .e)) (.n 8 (.n 6 (.n 7 .e .e) .e) .e)) .e) .e) (.n 3 (.n 2 (.n 5 (.n 6 (.n 7 (.n 8 .e .e) (.n 8 (.n 7 .e .e) .e)) (.n 8 (.n 6 (.n 7 .e .e) .e) .e)) .e) .e) .e)) .e))) (.n 3 (.n 1 (.n 2 (.n 4 (.n 5 (.n 6 (.n 7 (.n 8 .e .e) (.n 8 (.n 7 .e .e) .e)) (.n 8 (.n 6 (.n 7 .e .e) .e) .e)) .e) .e) (.n 4 (.n 2 (.n 5 (.n 6 (.n 7 (.n 8 .e .e) (.n 8 (.n 7 .e .e) .e)) (.n 8 (.n 6 (.n 7 .e .e) .e) .e)) .e) .e) .e)) (.n 4 (.n 1 (.n 2 (.n 5 (.n 6 (.n 7 (.n 8 .e .e) (.n 8 (.n 7 .e .e) .e)) (.n 8 (.n 6 (.n 7 .e .e) .e) .e)) .e) .e) .e) .e)) (.n 4 (.n 1 (.n 2 (.n 3 (.n 5 (.n 6 (.n 7 (.n 8 .e .e) (.n 8 (.n 7 .e .e) .e)) (.n 8 (.n 6 (.n 7 .e .e) .e) .e)) .e) .e) (.n 3 (.n 2 (.n 5 (.n 6 (.n 7 (.n 8 .e .e) (.n 8 (.n 7 .e .e) .e)) (.n 8 (.n 6 (.n 7 .e .e) .e) .e)) .e) .e) .e)) (.n 3 (.n 1 (.n 2 (.n 5 (.n 6 (.n 7 (.n 8 .e .e) (.n 8 (.n 7 .e .e) .e)) (.n 8 (.n 6 (.n 7 .e .e) .e) .e)) .e) .e) .e) .e)) .e))) (.n 1 (.n 0 (.n 2 (.n 3 (.n 4 (.n 5 (.n 6 (.n 7 (.n 8 .e .e) (.n 8 (.n 7 .e .e) .e)) (.n 8 (.n 6 (.n 7 .e .e) .e) .e)) .e) .e) (.n 4 (.n 3 (.n 5 (.n 6 (.n 7 (.n 8 .e .e) (.n 8 (.n 7 .e .e) .e)) (.n 8 (.n 6 (.n 7 .e .e) .e) .e)) .e) .e) .e)) (.n 3 (.n 2 (.n 4 (.n 5 (.n 6 (.n 7 (.n 8 .e .e) (.n 8 (.n 7 .e .e) .e)) (.n 8 (.n 6 (.n 7 .e .e) .e) .e)) .e) .e) (.n 4 (.n 2 (.n 5 (.n 6 (.n 7 (.n 8 .e .e) (.n 8 (.n 7 .e .e) .e)) (.n 8 (.n 6 (.n 7 .e .e) .e) .e)) .e) .e) .e)) (.n 4 (.n 2 (.n 3 (.n 5 (.n 6 (.n 7 (.n 8 .e .e) (.n 8 (.n 7 .e .e) .e)) (.n 8 (.n 6 (.n 7 .e .e) .e) .e)) .e) .e) (.n 3 (.n 2 (.n 5 (.n 6 (.n 7 (.n 8 .e .e) (.n 8 (.n 7 .e .e) .e)) (.n 8 (.n 6 (.n 7 .e .e) .e) .e)) .e) .e) .e)) .e))) (.n 2 (.n 0 (.n 3 (.n 4 (.n 5 (.n 6 (.n 7 (.n 8 .e .e) (.n 8 (.n 7 .e .e) .e)) (.n 8 (.n 6 (.n 7 .e .e) .e) .e)) .e) .e) (.n 4 (.n 3 (.n 5 (.n 6 (.n 7 (.n 8 .e .e) (.n 8 (.n 7 .e .e) .e)) (.n 8 (.n 6 (.n 7 .e .e) .e) .e)) .e) .e) .e)) (.n 4 (.n 0 (.n 3 (.n 5 (.n 6 (.n 7 (.n 8 .e .e) (.n 8 (.n 7 .e .e) .e)) (.n 8 (.n 6 (.n 7 .e .e) .e) .e)) .e) .e) .e) .e)) (.n 4 (.n 0 (.n 2 (.n 3 (.n 5 (.n 6 (.n 7 (.n 8 .e .e) (.n 8 (.n 7 .e .e) .e)) (.n 8 (.n 6 (.n 7 .e .e) .e) .e)) .e) .e) (.n 3 (.n 2 (.n 5 (.n 6 (.n 7 (.n 8 .e .e) (.n 8 (.n 7 .e .e) .e)) (.n 8 (.n 6 (.n 7 .e .e) .e) .e)) .e) .e) .e)) (.n 2 (.n 0 (.n 3 (.n 5 (.n 6 (.n 7 (.n 8 .e .e) (.n 8 (.n 7 .e .e) .e)) (.n 8 (.n 6 (.n 7 .e .e) .e) .e)) .e) .e) .e) .e)) .e))) (.n 4 (.n 0 (.n 1 (.n 2 (.n 3 (.n 5 (.n 6 (.n 7 (.n 8 .e .e) (.n 8 (.n 7 .e .e) .e)) (.n 8 (.n 6 (.n 7 .e .e) .e) .e)) .e) .e) (.n 3 (.n 2 (.n 5 (.n 6 (.n 7 (.n 8 .e .e) (.n 8 (.n 7 .e .e) .e)) (.n 8 (.n 6 (.n 7 .e .e) .e) .e)) .e) .e) .e)) (.n 3 (.n 1 (.n 2 (.n 5 (.n 6 (.n 7 (.n 8 .e .e) (.n 8 (.n 7 .e .e) .e)) (.n 8 (.n 6 (.n 7 .e .e) .e) .e)) .e) .e) .e) .e)) (.n 1 (.n 0 (.n 2 (.n 3 (.n 5 (.n 6 (.n 7 (.n 8 .e .e) (.n 8 (.n 7 .e .e) .e)) (.n 8 (.n 6 (.n 7 .e .e) .e) .e)) .e) .e) (.n 3 (.n 2 (.n 5 (.n 6 (.n 7 (.n 8 .e .e) (.n 8 (.n 7 .e .e) .e)) (.n 8 (.n 6 (.n 7 .e .e) .e) .e)) .e) .e) .e)) (.n 2 (.n 0 (.n 3 (.n 5 (.n 6 (.n 7 (.n 8 .e .e) (.n 8 (.n 7 .e .e) .e)) (.n 8 (.n 6 (.n 7 .e .e) .e) .e)) .e) .e) .e) .e)) .e)) .e)))
theorem pr_parse_Parse_1_1 (ac : Ac) : prep o_parse_Parse_1_1 ac = ((ac.kill 12).kill 15) := rfl
theorem og_parse_Parse_1_1 : o_parse_Parse_1_1[0]? = some (⟨some 10, none, .v (.load none (.t 1))⟩) ∧ o_parse_Parse_1_1[1]? = some (⟨some 11, none, .v (.mov (.t 0))⟩) ∧ o_parse_Parse_1_1[2]? = some (⟨some 12, none, .call (.c (.func 39 [])) [(.t 11), (.c (.bool false))]⟩) ∧ o_parse_Parse_1_1[3]? = some (⟨some 13, none, .v (.len false (.t 10))⟩) ∧ o_parse_Parse_1_1[4]? = some (⟨some 14, none, .bslice 4 1 [(.int .i64 0), (.str []), (.nils 2), (.nils 4)] [(0, (.c (.agg [(.int .i64 0), (.str []), (.nils 2), (.nils 4)])))]⟩) ∧ o_parse_Parse_1_1[5]? = some (⟨some 15, none, .append 4 72 (.t 10) (.t 14)⟩) ∧ o_parse_Parse_1_1[6]? = some (⟨some 16, none, .v (.iaddr 4 (.t 15) (.t 13))⟩) ∧ o_parse_Parse_1_1[7]? = some (⟨none, none, .store 4 (.t 16) (.t 12)⟩) ∧ o_parse_Parse_1_1[8]? = some (⟨none, none, .store 1 (.t 1) (.t 15)⟩) := ⟨rfl, rfl, rfl, rfl, rfl, rfl, rfl, rfl, rfl⟩
def c_Q37_1 : SC := .block 1 (.treg o_parse_Parse_1_1 [10, 11, 12, 13, 14, 15, 16] t_Q37_1)
def b_Q37_1 : SC := .seq (.seq (.reg [⟨some 3, none, .v (.mov (.t 0))⟩, ⟨some 4, none, .v (.nchk (.t 3))⟩, ⟨some 5, none, .v (.faddr 0 (.t 4))⟩, ⟨some 6, none, .v (.faddr 0 (.t 5))⟩, ⟨some 7, none, .call (.c (.func 38 [])) [(.t 6)]⟩, ⟨some 8, none, .v (.field 0 none (.t 7))⟩, ⟨some 9, none, .v (.bin .neq (.t 8) (.c (.int .i64 0)))⟩]) (.cond (.t 9) .skip (.exit 0))) c_Q37_1
def sc_Q37 : SFunc := ⟨2, 17, .block 0 (.loop b_Q37_1), []⟩
noncomputable def k_Q37_1 (SP : Prg) (x : EO) : CO := fin [] (inBlk 0 (x))
theorem U_Q37 : type_of% (And.intro (ue c_Q37_1.eq_1) <| And.intro (ue b_Q37_1.eq_1) <| And.intro pr_parse_Parse_1_1 <| And.intro og_parse_Parse_1_1 <| And.intro t_Q37_1.eq_1 <| sc_Q37.eq_1) := And.intro (ue c_Q37_1.eq_1) <| And.intro (ue b_Q37_1.eq_1) <| And.intro pr_parse_Parse_1_1 <| And.intro og_parse_Parse_1_1 <| And.intro t_Q37_1.eq_1 <| sc_Q37.eq_1
theorem comp_Q37 : comp Tryz.prog Tryz.f37 = some sc_Q37 := by kernel_rfl
def sc_Q40 : SFunc := ⟨2, 19, .seq (.reg [⟨some 3, none, .v (.mov (.t 0))⟩, ⟨some 4, none, .v (.nchk (.t 3))⟩, ⟨some 5, none, .v (.faddr 0 (.t 4))⟩, ⟨some 6, none, .call (.c (.func 41 [])) [(.t 5)]⟩, ⟨none, none, .store 1 (.t 1) (.t 6)⟩]) (.seq (.reg [⟨some 7, none, .v (.mov (.t 0))⟩, ⟨some 8, none, .v (.nchk (.t 7))⟩, ⟨some 9, none, .v (.faddr 0 (.t 8))⟩, ⟨some 10, none, .v (.faddr 0 (.t 9))⟩, ⟨some 11, none, .call (.c (.func 38 [])) [(.t 10)]⟩, ⟨some 12, none, .v (.field 0 none (.t 11))⟩, ⟨some 13, none, .v (.bin .neq (.t 12) (.c (.int .i64 0)))⟩]) (.cond (.t 13) (.reg [⟨some 14, none, .v (.mov (.t 0))⟩, ⟨some 15, none, .v (.nchk (.t 14))⟩, ⟨some 16, none, .v (.faddr 0 (.t 15))⟩, ⟨some 17, none, .v (.faddr 0 (.t 16))⟩, ⟨some 18, none, .call (.c (.func 42 [])) [(.t 17), (.c (.int .i64 5))]⟩]) .skip)), []⟩
theorem U_Q40 : type_of% (sc_Q40.eq_1) := sc_Q40.eq_1
theorem comp_Q40 : comp Tryz.prog Tryz.f40 = some sc_Q40 := by kernel_rfl
def sc_Q17 : SFunc := ⟨1, 13, .seq (.reg [⟨some 2, none, .nilv 4⟩, ⟨some 3, none, .v (.mov (.c (.int .i64 0)))⟩]) (.seq (.reg [⟨some 4, none, .alloc [(.nils 4)]⟩]) (.seq (.reg [⟨some 6, none, .v (.mov (.t 0))⟩, ⟨some 7, none, .v (.func 37 [(.t 4)])⟩, ⟨some 8, none, .call (.c (.func 36 [])) [(.t 6), (.t 7)]⟩, ⟨some 5, none, .v (.mov (.t 8))⟩]) (.seq (.seq (.reg [⟨some 9, none, .v (.mov (.t 5))⟩, ⟨some 10, none, .v (.bin .neq (.t 9) (.c (.int .i64 0)))⟩]) (.cond (.t 10) (.seq (.reg [⟨some 11, none, .v (.mov (.t 5))⟩, ⟨some 2, none, .nilv 4⟩, ⟨some 3, none, .v (.mov (.t 11))⟩]) .ret) .skip)) (.seq (.reg [⟨some 12, none, .v (.load none (.t 4))⟩, ⟨some 2, none, .v (.mov (.t 12))⟩, ⟨some 3, none, .v (.mov (.c (.int .i64 0)))⟩]) .ret)))), [(.t 2), (.t 3)]⟩
theorem U_Q17 : type_of% (sc_Q17.eq_1) := sc_Q17.eq_1
theorem comp_Q17 : comp Tryz.prog Tryz.f17 = some sc_Q17 := by kernel_rfl
def sc_Q20 : SFunc := ⟨1, 13, .seq (.reg [⟨some 2, none, .nilv 5⟩, ⟨some 3, none, .v (.mov (.c (.int .i64 0)))⟩]) (.seq (.reg [⟨some 4, none, .alloc [(.nils 5)]⟩]) (.seq (.reg [⟨some 6, none, .v (.mov (.t 0))⟩, ⟨some 7, none, .v (.func 40 [(.t 4)])⟩, ⟨some 8, none, .call (.c (.func 36 [])) [(.t 6), (.t 7)]⟩, ⟨some 5, none, .v (.mov (.t 8))⟩]) (.seq (.seq (.reg [⟨some 9, none, .v (.mov (.t 5))⟩, ⟨some 10, none, .v (.bin .neq (.t 9) (.c (.int .i64 0)))⟩]) (.cond (.t 10) (.seq (.reg [⟨some 11, none, .v (.mov (.t 5))⟩, ⟨some 2, none, .nilv 5⟩, ⟨some 3, none, .v (.mov (.t 11))⟩]) .ret) .skip)) (.seq (.reg [⟨some 12, none, .v (.load none (.t 4))⟩, ⟨some 2, none, .v (.mov (.t 12))⟩, ⟨some 3, none, .v (.mov (.c (.int .i64 0)))⟩]) .ret)))), [(.t 2), (.t 3)]⟩
theorem U_Q20 : type_of% (sc_Q20.eq_1) := sc_Q20.eq_1
theorem comp_Q20 : comp Tryz.prog Tryz.f20 = some sc_Q20 := by kernel_rfl
end Go.Proofs.YtfbcnpbhhooapaaGreatDoor.M
namespace Go.Proofs.YtfbcnpbhhooapaaGreatDoor.M
set_option linter.unusedSimpArgs false
set_option linter.unusedVariables false
open Go Classical
theorem sp_Q38 : SP 38 = some (.code sc_Q38) := SPof_code rfl Tryz.func38 comp_Q38
theorem Q38_tree (t : PTokens) (r : Token) (t' : PTokens) (T :
  (0 ≤ t.pos) ∧
 ∃ (v1 : Token), (t.l[t.pos.toNat]? = some v1) ∧
 v1 = r ∧ t = t') : R_Q38 t r t' := by
 intro S n0 t0 H0
 have hb0 := H0
 obtain ⟨w0, hB0⟩ := take_some hb0
 have hn0 := o_getBox_lt hB0
 rw [call_code sp_Q38 _ _ rfl]
 have F := U_Q38
 obtain ⟨p1, v1, q2, rfl, rfl⟩ := T
 exact fi (aa hB0 <| aa hn0 <| aa p1 <| aa q2 <| F)
theorem sp_Q42 : SP 42 = some (.code sc_Q42) := SPof_code rfl Tryz.func42 comp_Q42
theorem Q42_tree (t : PTokens) (e_ : Int) (o : Option Int) (t' : PTokens) (T :
  some e_ = o ∧ t = t') : R_Q42 t e_ o t' := by
 intro S n0 t0 H0
 have hb0 := H0
 obtain ⟨w0, hB0⟩ := take_some hb0
 have hn0 := o_getBox_lt hB0
 rw [call_code sp_Q42 _ _ rfl]
 have F := U_Q42
 obtain ⟨rfl, rfl⟩ := T
 exact fi (aa hB0 <| aa hn0 <| F)
theorem sp_Q102 : SP 102 = some (.code sc_Q102) := SPof_code rfl Tryz.func102 comp_Q102
theorem Q102_tree (t : PTokens) (s : List UInt8) (r : Bool) (t' : PTokens) (T :
  ∃ (r1 : Token) (y2 : PTokens), (R_Q38 t r1 y2) ∧
 ((r1.Kind = 4) →
  ∃ (r3 : Token) (y4 : PTokens), (R_Q38 y2 r3 y4) ∧
  (decide (r3.Text = s)) = r ∧ y4 = t') ∧
 (¬ (r1.Kind = 4) →
  false = r ∧ y2 = t')) : R_Q102 t s r t' := by
 intro S n0 t0 H0
 have hb0 := H0
 obtain ⟨w0, hB0⟩ := take_some hb0
 have hn0 := o_getBox_lt hB0
 rw [call_code sp_Q102 _ _ rfl]
 have F := U_Q102
 obtain ⟨r1, y2, q1, T⟩ := T
 simp only [R_Q38, le, List.cons_append, List.nil_append] at q1
 replace F := aa hB0 <| aa hn0 <| aa q1 <| F
 by_cases c2 : r1.Kind = 4
 · replace T := T.1 c2
   obtain ⟨r3, y4, q3, rfl, rfl⟩ := T
   simp only [R_Q38, le, List.cons_append, List.nil_append] at q3
   exact fi (aa (eq_true c2) <| aa q3 <| F)
 · replace T := T.2 c2
   obtain ⟨rfl, rfl⟩ := T
   exact fi (aa (eq_false c2) <| F)
theorem sp_Q67 : SP 67 = some (.code sc_Q67) := SPof_code rfl Tryz.func67 comp_Q67
theorem Q67_tree (t : PTokens) (s : List UInt8) (r : Bool) (t' : PTokens) (T :
  ∃ (r1 : Bool) (y2 : PTokens), (R_Q102 t s r1 y2) ∧
 ((r1 = true) →
  (I64 (y2.pos + 1)) ∧
  true = r ∧ (PTokens.mk y2.l (y2.pos + 1)) = t') ∧
 (¬ (r1 = true) →
  false = r ∧ y2 = t')) : R_Q67 t s r t' := by
 intro S n0 t0 H0
 have hb0 := H0
 obtain ⟨w0, hB0⟩ := take_some hb0
 have hn0 := o_getBox_lt hB0
 rw [call_code sp_Q67 _ _ rfl]
 have F := U_Q67
 obtain ⟨r1, y2, q1, T⟩ := T
 simp only [R_Q102, le, List.cons_append, List.nil_append] at q1
 replace F := aa hB0 <| aa hn0 <| aa q1 <| F
 by_cases c2 : r1 = true
 · replace T := T.1 c2
   obtain ⟨p3, rfl, rfl⟩ := T
   exact fi (aa c2 <| aa p3.wrap <| F)
 · replace T := T.2 c2
   replace c2 := Bool.eq_false_iff.2 c2
   obtain ⟨rfl, rfl⟩ := T
   exact fi (aa c2 <| F)
theorem sp_Q66 : SP 66 = some (.code sc_Q66) := SPof_code rfl Tryz.func66 comp_Q66
theorem Q66_tree (t : PTokens) (s : List UInt8) (o : Option Int) (t' : PTokens) (T :
  ∃ (r1 : Bool) (y2 : PTokens), (R_Q67 t s r1 y2) ∧
 ((r1 = true) →
  none = o ∧ y2 = t') ∧
 (¬ (r1 = true) →
  ∃ (o3 : Option Int) (y4 : PTokens), (R_Q42 y2 5 o3 y4) ∧
  (match o3 with
  | none => (False )
  | some e5 => (some e5 = o ∧ y4 = t')))) : R_Q66 t s o t' := by
 intro S n0 t0 H0
 have hb0 := H0
 obtain ⟨w0, hB0⟩ := take_some hb0
 have hn0 := o_getBox_lt hB0
 rw [call_code sp_Q66 _ _ rfl]
 have F := U_Q66
 obtain ⟨r1, y2, q1, T⟩ := T
 simp only [R_Q67, le, List.cons_append, List.nil_append] at q1
 replace F := aa hB0 <| aa hn0 <| aa q1 <| F
 by_cases c2 : r1 = true
 · replace T := T.1 c2
   obtain ⟨rfl, rfl⟩ := T
   exact fi (aa c2 <| F)
 · replace T := T.2 c2
   replace c2 := Bool.eq_false_iff.2 c2
   obtain ⟨o3, y4, q3, T⟩ := T
   simp only [R_Q42, le, List.cons_append, List.nil_append] at q3
   replace F := aa c2 <| aa q3 <| F
   cases o3 with
   | none => exact False.elim T
   | some e5 =>
     dsimp only at T
     obtain ⟨rfl, rfl⟩ := T
     exact fi F
theorem sp_Q101 : SP 101 = some (.code sc_Q101) := SPof_code rfl Tryz.func101 comp_Q101
theorem Q101_tree (t : PTokens) (o : Option Int) (r : List UInt8) (t' : PTokens) (T :
  ∃ (r1 : Token) (y2 : PTokens), (R_Q38 t r1 y2) ∧
 ((r1.Kind = 3) →
  (I64 (y2.pos + 1)) ∧
  none = o ∧ r1.Text = r ∧ (PTokens.mk y2.l (y2.pos + 1)) = t') ∧
 (¬ (r1.Kind = 3) →
  ∃ (o3 : Option Int) (y4 : PTokens), (R_Q42 y2 5 o3 y4) ∧
  (match o3 with
  | none => (False )
  | some e5 => (some e5 = o ∧ y4 = t')))) : R_Q101 t o r t' := by
 intro S n0 t0 H0
 have hb0 := H0
 obtain ⟨w0, hB0⟩ := take_some hb0
 have hn0 := o_getBox_lt hB0
 rw [call_code sp_Q101 _ _ rfl]
 have F := U_Q101
 obtain ⟨r1, y2, q1, T⟩ := T
 simp only [R_Q38, le, List.cons_append, List.nil_append] at q1
 replace F := aa hB0 <| aa hn0 <| aa q1 <| F
 by_cases c2 : r1.Kind = 3
 · replace T := T.1 c2
   obtain ⟨p3, rfl, rfl, rfl⟩ := T
   exact fi (aa (eq_true c2) <| aa p3.wrap <| F)
 · replace T := T.2 c2
   obtain ⟨o3, y4, q4, T⟩ := T
   simp only [R_Q42, le, List.cons_append, List.nil_append] at q4
   replace F := aa (eq_false c2) <| aa q4 <| F
   cases o3 with
   | none => exact False.elim T
   | some e5 =>
     dsimp only at T
     obtain ⟨rfl, rfl⟩ := T
     exact fi F
theorem sp_Q104 : SP 104 = some (.code sc_Q104) := SPof_code rfl Tryz.func104 comp_Q104
theorem Q104_tree (x : PExprs) (x_g2 : Nat) (x_z2 : Bool) (s : List UInt8) (o : Option Int) (x' : PExprs) (x'_g2 : Nat) (x'_z2 : Bool) (T :
  ∃ (r1 : Bool) (y2 : PTokens), (R_Q102 x.tokens s r1 y2) ∧
 ((r1 = true) →
  ((64 ≤ x.deep) →
   ∃ (o3 : Option Int) (y4 : PTokens), (R_Q42 y2 6 o3 y4) ∧
   (match o3 with
   | none => (False )
   | some e5 => (some e5 = o ∧ (PExprs.mk y4 x.out x.deep) = x' ∧ x_g2 = x'_g2 ∧ x_z2 = x'_z2))) ∧
  (¬ (64 ≤ x.deep) →
   ∃ (o6 : Option Int) (y7 : PTokens), (R_Q66 y2 s o6 y7) ∧
   (match o6 with
   | none => ((I64 (x.deep + 1)) ∧
    none = o ∧ (PExprs.mk y7 x.out (x.deep + 1)) = x' ∧ x_g2 = x'_g2 ∧ x_z2 = x'_z2)
   | some e8 => (some e8 = o ∧ (PExprs.mk y7 x.out x.deep) = x' ∧ x_g2 = x'_g2 ∧ x_z2 = x'_z2)))) ∧
 (¬ (r1 = true) →
  ∃ (o9 : Option Int) (y10 : PTokens), (R_Q66 y2 s o9 y10) ∧
  (match o9 with
  | none => ((I64 (x.deep + 1)) ∧
   none = o ∧ (PExprs.mk y10 x.out (x.deep + 1)) = x' ∧ x_g2 = x'_g2 ∧ x_z2 = x'_z2)
  | some e11 => (some e11 = o ∧ (PExprs.mk y10 x.out x.deep) = x' ∧ x_g2 = x'_g2 ∧ x_z2 = x'_z2)))) : R_Q104 x x_g2 x_z2 s o x' x'_g2 x'_z2 := by
 intro S n0 t0 H0
 obtain ⟨hb0, ha0⟩ := H0
 obtain ⟨w0, hB0⟩ := take_some hb0
 have hn0 := o_getBox_lt hB0
 rw [call_code sp_Q104 _ _ rfl]
 have F := U_Q104
 obtain ⟨r1, y2, q1, T⟩ := T
 simp only [R_Q102, le, List.cons_append, List.nil_append] at q1
 replace F := aa ha0 <| aa hB0 <| aa hn0 <| aa q1 <| F
 by_cases c2 : r1 = true
 · replace T := T.1 c2
   replace F := aa c2 <| F
   by_cases c3 : 64 ≤ x.deep
   · replace T := T.1 c3
     obtain ⟨o3, y4, q4, T⟩ := T
     simp only [R_Q42, le, List.cons_append, List.nil_append] at q4
     replace F := aa (eq_true c3) <| aa q4 <| F
     cases o3 with
     | none => exact False.elim T
     | some e5 =>
       dsimp only at T
       obtain ⟨rfl, rfl, rfl, rfl⟩ := T
       exact fi F
   · replace T := T.2 c3
     obtain ⟨o6, y7, q5, T⟩ := T
     simp only [R_Q66, le, List.cons_append, List.nil_append] at q5
     replace F := aa (eq_false c3) <| aa q5 <| F
     cases o6 with
     | none =>
       dsimp only at T
       obtain ⟨p6, rfl, rfl, rfl, rfl⟩ := T
       exact fi (aa p6.wrap <| F)
     | some e8 =>
       dsimp only at T
       obtain ⟨rfl, rfl, rfl, rfl⟩ := T
       exact fi F
 · replace T := T.2 c2
   replace c2 := Bool.eq_false_iff.2 c2
   obtain ⟨o9, y10, q7, T⟩ := T
   simp only [R_Q66, le, List.cons_append, List.nil_append] at q7
   replace F := aa c2 <| aa q7 <| F
   cases o9 with
   | none =>
     dsimp only at T
     obtain ⟨p8, rfl, rfl, rfl, rfl⟩ := T
     exact fi (aa p8.wrap <| F)
   | some e11 =>
     dsimp only at T
     obtain ⟨rfl, rfl, rfl, rfl⟩ := T
     exact fi F
theorem sp_Q181 : SP 181 = some (.code sc_Q181) := SPof_code rfl Tryz.func181 comp_Q181
theorem Q181_tree (x : PExprs) (x_g2 : Nat) (x_z2 : Bool) (s : List UInt8) (o : Option Int) (x' : PExprs) (x'_g2 : Nat) (x'_z2 : Bool) (T :
  ∃ (o1 : Option Int) (y2 : PTokens), (R_Q66 x.tokens s o1 y2) ∧
 (match o1 with
 | none => ((I64 (x.deep - 1)) ∧
  none = o ∧ (PExprs.mk y2 x.out (x.deep - 1)) = x' ∧ x_g2 = x'_g2 ∧ x_z2 = x'_z2)
 | some e3 => (some e3 = o ∧ (PExprs.mk y2 x.out x.deep) = x' ∧ x_g2 = x'_g2 ∧ x_z2 = x'_z2))) : R_Q181 x x_g2 x_z2 s o x' x'_g2 x'_z2 := by
 intro S n0 t0 H0
 obtain ⟨hb0, ha0⟩ := H0
 obtain ⟨w0, hB0⟩ := take_some hb0
 have hn0 := o_getBox_lt hB0
 rw [call_code sp_Q181 _ _ rfl]
 have F := U_Q181
 obtain ⟨o1, y2, q1, T⟩ := T
 simp only [R_Q66, le, List.cons_append, List.nil_append] at q1
 replace F := aa ha0 <| aa hB0 <| aa hn0 <| aa q1 <| F
 cases o1 with
 | none =>
   dsimp only at T
   obtain ⟨p2, rfl, rfl, rfl, rfl⟩ := T
   exact fi (aa p2.wrap <| F)
 | some e3 =>
   dsimp only at T
   obtain ⟨rfl, rfl, rfl, rfl⟩ := T
   exact fi F
theorem sp_Q105 : SP 105 = some (.code sc_Q105) := SPof_code rfl Tryz.func105 comp_Q105
theorem Q105_tree (x : PExprs) (x_g2 : Nat) (x_z2 : Bool) (kind : Int) (text : List UInt8) (kids : List Int) (r : Int) (x' : PExprs) (x'_g2 : Nat) (x'_z2 : Bool) (T :
  ∃ (r1 : List Int), (R_slices_Clone_int_int kids r1) ∧
 (bigRow (x.out.length + 1) 80) ∧
 (I64 (((x.out.length + 1 : Nat) : Int) - 1)) ∧
 (((x.out.length + 1 : Nat) : Int) - 1) = r ∧ (PExprs.mk x.tokens (x.out ++ [(Node.mk kind 0 text [] r1)]) x.deep) = x' ∧ x_g2 = x'_g2 ∧ x_z2 = x'_z2) : R_Q105 x x_g2 x_z2 kind text kids r x' x'_g2 x'_z2 := by
 intro S n0 t0 H0
 obtain ⟨hb0, ha0⟩ := H0
 obtain ⟨w0, hB0⟩ := take_some hb0
 have hn0 := o_getBox_lt hB0
 rw [call_code sp_Q105 _ _ rfl]
 have F := U_Q105
 obtain ⟨r1, q1, p2, p3, rfl, rfl, rfl, rfl⟩ := T
 simp only [R_slices_Clone_int_int, le, List.cons_append, List.nil_append] at q1
 simp only [bigRow] at p2
 exact fi (aa ha0 <| aa hB0 <| aa hn0 <| aa q1 <| aa p2 <| aa p3.wrap <| F)
theorem sp_Q143 : SP 143 = some (.code sc_Q143) := SPof_code rfl Tryz.func143 comp_Q143
theorem Q143_tree (rank : Int) (s : List UInt8) (ra : Int) (rb : Bool) (T :
  (0 ≤ rank) ∧
 ∃ (v1 : List (List UInt8)), (([[[124, 124]], [[38, 38]], [[61, 61], [33, 61], [60], [60, 61], [62], [62, 61]], [[43], [45]], [[42], [47], [37]]] : List (List (List UInt8)))[rank.toNat]? = some v1) ∧
 ∃ (r2 : Int), (R_slices_Index_string_string v1 s r2) ∧
 (0 ≤ rank) ∧
 ∃ (v3 : Int), (([11, 12, 13, 19, 21] : List Int)[rank.toNat]? = some v3) ∧
 (I64 (v3 + r2)) ∧
 (v3 + r2) = ra ∧ (decide (0 ≤ r2)) = rb) : R_Q143 rank s ra rb := by
 intro S
 rw [call_code sp_Q143 _ _ rfl]
 have F := U_Q143
 obtain ⟨p1, v1, q2, r2, q3, p4, v3, q5, p6, rfl, rfl⟩ := T
 replace q2 := congrArg (Option.map eLS) q2
 rw [← List.getElem?_map] at q2
 simp only [le, List.map_append, Option.map_some] at q2
 simp only [R_slices_Index_string_string, le, List.cons_append, List.nil_append] at q3
 replace q5 := congrArg (Option.map eI) q5
 rw [← List.getElem?_map] at q5
 simp only [le, List.map_append, Option.map_some] at q5
 exact fi (aa p1 <| aa q2 <| aa q3 <| aa p4 <| aa q5 <| aa p6.wrap <| F)
theorem sp_slices_Index_string_string : SP 62 = some (.code sc_slices_Index_string_string) := SPof_code rfl Tryz.func62 comp_slices_Index_string_string
def At_slices_Index_string_string_1 (s : List (List UInt8)) (v : List UInt8) (i1 : Int) (r : Int) : Prop := ∀ (S : Sto) (e : Nat → PV) (f : Fr), e 0 = .list 1 (s.map eS) false ∧ e 1 = .str v ∧ e 7 = .int .i64 (s.length : Int) ∧ e 8 = .int .i64 i1 → k_slices_Index_string_string_1 SP (E SP (.loop b_slices_Index_string_string_1) ⟨e, f :: S⟩) = .ok (.v (.int .i64 r)) S
theorem At_slices_Index_string_string_1_step (s : List (List UInt8)) (v : List UInt8) (i1 : Int) (r : Int) (T :
  ((i1 < (s.length : Int)) →
  (0 ≤ i1) ∧
  ∃ (v2 : List UInt8), (s[i1.toNat]? = some v2) ∧
  ((v = v2) →
   i1 = r) ∧
  (¬ (v = v2) →
   (I64 (i1 + 1)) ∧
   At_slices_Index_string_string_1 s v (i1 + 1) r)) ∧
 (¬ (i1 < (s.length : Int)) →
  (-1) = r)) : At_slices_Index_string_string_1 s v i1 r := by
 intro S e f h
 unfold k_slices_Index_string_string_1
 rw [E_loop]
 have F := U_slices_Index_string_string
 replace F := aa h <| F
 by_cases c1 : i1 < (s.length : Int)
 · replace T := T.1 c1
   obtain ⟨p2, v2, q3, T⟩ := T
   replace F := aa (eq_true c1) <| aa p2 <| aa q3 <| F
   by_cases c4 : v = v2
   · replace T := T.1 c4
     obtain rfl := T
     exact fi (aa (eq_true c4) <| F)
   · replace T := T.2 c4
     obtain ⟨p5, T⟩ := T
     replace F := aa (eq_false c4) <| aa p5.wrap <| F
     exact lo F T
 · replace T := T.2 c1
   obtain rfl := T
   exact fi (aa (eq_false c1) <| F)
theorem slices_Index_string_string_tree (s : List (List UInt8)) (v : List UInt8) (r : Int) (T :
  At_slices_Index_string_string_1 s v 0 r) : R_slices_Index_string_string s v r := by
 intro S
 rw [call_code sp_slices_Index_string_string _ _ rfl]
 have F := U_slices_Index_string_string
 exact lo F T
theorem sp_Q202 : SP 202 = some (.code sc_Q202) := SPof_code rfl Tryz.func202 comp_Q202
theorem Q202_tree (x : PExprs) (x_g2 : Nat) (x_z2 : Bool) (kind : Int) (n : Int) (r : Int) (x' : PExprs) (x'_g2 : Nat) (x'_z2 : Bool) (T :
  ∃ (r1 : Int) (y2 : PExprs) (g3 : Nat) (z4 : Bool), (R_Q105 x x_g2 x_z2 kind [] [] r1 y2 g3 z4) ∧
 (0 ≤ r1) ∧ (r1.toNat < y2.out.length) ∧
 (z4 = false) ∧
 ∃ (v5 : Node), (y2.out[r1.toNat]? = some v5) ∧
 r1 = r ∧ (PExprs.mk y2.tokens (y2.out.set r1.toNat (Node.mk v5.Kind n v5.Text v5.Parts v5.Kids)) y2.deep) = x' ∧ g3 = x'_g2 ∧ z4 = x'_z2) : R_Q202 x x_g2 x_z2 kind n r x' x'_g2 x'_z2 := by
 intro S n0 t0 H0
 obtain ⟨hb0, ha0⟩ := H0
 obtain ⟨w0, hB0⟩ := take_some hb0
 have hn0 := o_getBox_lt hB0
 rw [call_code sp_Q202 _ _ rfl]
 have F := U_Q202
 obtain ⟨r1, y2, g3, z4, q1, p2, p3, p4, v5, q5, rfl, rfl, rfl, rfl⟩ := T
 simp only [R_Q105, le, List.cons_append, List.nil_append] at q1
 exact fi (aa ha0 <| aa hB0 <| aa hn0 <| aa q1 <| aa p2 <| aa p3 <| aa p4 <| aa q5 <| F)
theorem sp_Q201 : SP 201 = some (.code sc_Q201) := SPof_code rfl Tryz.func201 comp_Q201
theorem Q201_tree (x : PExprs) (x_g2 : Nat) (x_z2 : Bool) (o : Option Int) (r : Int) (x' : PExprs) (x'_g2 : Nat) (x'_z2 : Bool) (T :
  ∃ (o2 : Option Int) (r1 : List UInt8) (y3 : PTokens), (R_Q101 x.tokens o2 r1 y3) ∧
 (match o2 with
 | none => (((r1 = [116, 114, 117, 101]) →
   ∃ (r5 : Int) (y6 : PExprs) (g7 : Nat) (z8 : Bool), (R_Q202 (PExprs.mk y3 x.out x.deep) x_g2 x_z2 3 1 r5 y6 g7 z8) ∧
   none = o ∧ r5 = r ∧ y6 = x' ∧ g7 = x'_g2 ∧ z8 = x'_z2) ∧
  (¬ (r1 = [116, 114, 117, 101]) →
   ((r1 = [102, 97, 108, 115, 101]) →
    ∃ (r9 : Int) (y10 : PExprs) (g11 : Nat) (z12 : Bool), (R_Q202 (PExprs.mk y3 x.out x.deep) x_g2 x_z2 3 0 r9 y10 g11 z12) ∧
    none = o ∧ r9 = r ∧ y10 = x' ∧ g11 = x'_g2 ∧ z12 = x'_z2) ∧
   (¬ (r1 = [102, 97, 108, 115, 101]) →
    ∃ (r13 : Bool) (y14 : PTokens), (R_Q67 y3 [46] r13 y14) ∧
    ((r13 = true) →
     (r1.length + 1 ≤ maxInt) ∧
     ∃ (o16 : Option Int) (r15 : List UInt8) (y17 : PTokens), (R_Q101 y14 o16 r15 y17) ∧
     (match o16 with
     | none => ((r1.length + 1 + r15.length ≤ maxInt) ∧
      ∃ (r19 : Int) (y20 : PExprs) (g21 : Nat) (z22 : Bool), (R_Q105 (PExprs.mk y17 x.out x.deep) x_g2 x_z2 4 ((r1 ++ [46]) ++ r15) [] r19 y20 g21 z22) ∧
      none = o ∧ r19 = r ∧ y20 = x' ∧ g21 = x'_g2 ∧ z22 = x'_z2)
     | some e18 => (some e18 = o ∧ (PExprs.mk y17 x.out x.deep) = x' ∧ x_g2 = x'_g2 ∧ x_z2 = x'_z2))) ∧
    (¬ (r13 = true) →
     ∃ (o23 : Option Int) (y24 : PExprs) (g25 : Nat) (z26 : Bool), (R_Q104 (PExprs.mk y14 x.out x.deep) x_g2 x_z2 [40] o23 y24 g25 z26) ∧
     (match o23 with
     | none => (∃ (o29 : Option Int) (r28 : List Int) (y30 : PExprs) (g31 : Nat) (z32 : Bool), (R_Q203 y24 g25 z26 [41] o29 r28 y30 g31 z32) ∧
      (match o29 with
      | none => (∃ (r34 : Int) (y35 : PExprs) (g36 : Nat) (z37 : Bool), (R_Q105 y30 g31 z32 5 r1 r28 r34 y35 g36 z37) ∧
       none = o ∧ r34 = r ∧ y35 = x' ∧ g36 = x'_g2 ∧ z37 = x'_z2)
      | some e33 => (some e33 = o ∧ y30 = x' ∧ g31 = x'_g2 ∧ z32 = x'_z2)))
     | some e27 => (some e27 = o ∧ y24 = x' ∧ g25 = x'_g2 ∧ z26 = x'_z2))))))
 | some e4 => (some e4 = o ∧ (PExprs.mk y3 x.out x.deep) = x' ∧ x_g2 = x'_g2 ∧ x_z2 = x'_z2))) : R_Q201 x x_g2 x_z2 o r x' x'_g2 x'_z2 := by
 intro S n0 t0 H0
 obtain ⟨hb0, ha0⟩ := H0
 obtain ⟨w0, hB0⟩ := take_some hb0
 have hn0 := o_getBox_lt hB0
 rw [call_code sp_Q201 _ _ rfl]
 have F := U_Q201
 obtain ⟨o2, r1, y3, q1, T⟩ := T
 simp only [R_Q101, le, List.cons_append, List.nil_append] at q1
 replace F := aa ha0 <| aa hB0 <| aa hn0 <| aa q1 <| F
 cases o2 with
 | none =>
   dsimp only at T
   by_cases c2 : r1 = [116, 114, 117, 101]
   · replace T := T.1 c2
     obtain ⟨r5, y6, g7, z8, q3, rfl, rfl, rfl, rfl, rfl⟩ := T
     simp only [R_Q202, le, List.cons_append, List.nil_append] at q3
     exact fi (aa (eq_true c2) <| aa q3 <| F)
   · replace T := T.2 c2
     replace F := aa (eq_false c2) <| F
     by_cases c4 : r1 = [102, 97, 108, 115, 101]
     · replace T := T.1 c4
       obtain ⟨r9, y10, g11, z12, q5, rfl, rfl, rfl, rfl, rfl⟩ := T
       simp only [R_Q202, le, List.cons_append, List.nil_append] at q5
       exact fi (aa (eq_true c4) <| aa q5 <| F)
     · replace T := T.2 c4
       obtain ⟨r13, y14, q6, T⟩ := T
       simp only [R_Q67, le, List.cons_append, List.nil_append] at q6
       replace F := aa (eq_false c4) <| aa q6 <| F
       by_cases c7 : r13 = true
       · replace T := T.1 c7
         obtain ⟨p8, o16, r15, y17, q9, T⟩ := T
         simp only [R_Q101, le, List.cons_append, List.nil_append] at q9
         replace F := aa c7 <| aa p8 <| aa q9 <| F
         cases o16 with
         | none =>
           dsimp only at T
           obtain ⟨p10, r19, y20, g21, z22, q11, rfl, rfl, rfl, rfl, rfl⟩ := T
           simp only [R_Q105, le, List.cons_append, List.nil_append] at q11
           exact fi (aa p10 <| aa q11 <| F)
         | some e18 =>
           dsimp only at T
           obtain ⟨rfl, rfl, rfl, rfl⟩ := T
           exact fi F
       · replace T := T.2 c7
         replace c7 := Bool.eq_false_iff.2 c7
         obtain ⟨o23, y24, g25, z26, q12, T⟩ := T
         simp only [R_Q104, le, List.cons_append, List.nil_append] at q12
         replace F := aa c7 <| aa q12 <| F
         cases o23 with
         | none =>
           dsimp only at T
           obtain ⟨o29, r28, y30, g31, z32, q13, T⟩ := T
           simp only [R_Q203, le, List.cons_append, List.nil_append] at q13
           replace F := aa q13 <| F
           cases o29 with
           | none =>
             dsimp only at T
             obtain ⟨r34, y35, g36, z37, q14, rfl, rfl, rfl, rfl, rfl⟩ := T
             simp only [R_Q105, le, List.cons_append, List.nil_append] at q14
             exact fi (aa q14 <| F)
           | some e33 =>
             dsimp only at T
             obtain ⟨rfl, rfl, rfl, rfl⟩ := T
             exact fi F
         | some e27 =>
           dsimp only at T
           obtain ⟨rfl, rfl, rfl, rfl⟩ := T
           exact fi F
 | some e4 =>
   dsimp only at T
   obtain ⟨rfl, rfl, rfl, rfl⟩ := T
   exact fi F
theorem sp_Q180 : SP 180 = some (.code sc_Q180) := SPof_code rfl Tryz.func180 comp_Q180
theorem Q180_tree (x : PExprs) (x_g2 : Nat) (x_z2 : Bool) (o : Option Int) (r : Int) (x' : PExprs) (x'_g2 : Nat) (x'_z2 : Bool) (T :
  ∃ (r1 : Token) (y2 : PTokens), (R_Q38 x.tokens r1 y2) ∧
 ((r1.Kind = 3) →
  ∃ (o4 : Option Int) (r3 : Int) (y5 : PExprs) (g6 : Nat) (z7 : Bool), (R_Q201 (PExprs.mk y2 x.out x.deep) x_g2 x_z2 o4 r3 y5 g6 z7) ∧
  (match o4 with
  | none => (none = o ∧ r3 = r ∧ y5 = x' ∧ g6 = x'_g2 ∧ z7 = x'_z2)
  | some e8 => (some e8 = o ∧ y5 = x' ∧ g6 = x'_g2 ∧ z7 = x'_z2))) ∧
 (¬ (r1.Kind = 3) →
  ((r1.Kind = 1) →
   (I64 (y2.pos + 1)) ∧
   ∃ (r9 : Int) (y10 : PExprs) (g11 : Nat) (z12 : Bool), (R_Q202 (PExprs.mk (PTokens.mk y2.l (y2.pos + 1)) x.out x.deep) x_g2 x_z2 1 r1.Num r9 y10 g11 z12) ∧
   none = o ∧ r9 = r ∧ y10 = x' ∧ g11 = x'_g2 ∧ z12 = x'_z2) ∧
  (¬ (r1.Kind = 1) →
   ((r1.Kind = 2) →
    (I64 (y2.pos + 1)) ∧
    ∃ (r13 : Int) (y14 : PExprs) (g15 : Nat) (z16 : Bool), (R_Q105 (PExprs.mk (PTokens.mk y2.l (y2.pos + 1)) x.out x.deep) x_g2 x_z2 2 [] [] r13 y14 g15 z16) ∧
    (0 ≤ r13) ∧ (r13.toNat < y14.out.length) ∧
    (z16 = false) ∧
    ∃ (v17 : Node), (y14.out[r13.toNat]? = some v17) ∧
    none = o ∧ r13 = r ∧ (PExprs.mk y14.tokens (y14.out.set r13.toNat (Node.mk v17.Kind v17.Num v17.Text r1.Parts v17.Kids)) y14.deep) = x' ∧ g15 = x'_g2 ∧ z16 = x'_z2) ∧
   (¬ (r1.Kind = 2) →
    ∃ (r18 : Bool) (y19 : PTokens), (R_Q102 y2 [91] r18 y19) ∧
    ((r18 = true) →
     ∃ (o20 : Option Int) (y21 : PExprs) (g22 : Nat) (z23 : Bool), (R_Q104 (PExprs.mk y19 x.out x.deep) x_g2 x_z2 [91] o20 y21 g22 z23) ∧
     (match o20 with
     | none => (∃ (o26 : Option Int) (r25 : List Int) (y27 : PExprs) (g28 : Nat) (z29 : Bool), (R_Q203 y21 g22 z23 [93] o26 r25 y27 g28 z29) ∧
      (match o26 with
      | none => (∃ (r31 : Int) (y32 : PExprs) (g33 : Nat) (z34 : Bool), (R_Q105 y27 g28 z29 6 [] r25 r31 y32 g33 z34) ∧
       none = o ∧ r31 = r ∧ y32 = x' ∧ g33 = x'_g2 ∧ z34 = x'_z2)
      | some e30 => (some e30 = o ∧ y27 = x' ∧ g28 = x'_g2 ∧ z29 = x'_z2)))
     | some e24 => (some e24 = o ∧ y21 = x' ∧ g22 = x'_g2 ∧ z23 = x'_z2))) ∧
    (¬ (r18 = true) →
     ∃ (o35 : Option Int) (y36 : PExprs) (g37 : Nat) (z38 : Bool), (R_Q104 (PExprs.mk y19 x.out x.deep) x_g2 x_z2 [40] o35 y36 g37 z38) ∧
     (match o35 with
     | none => (∃ (o41 : Option Int) (r40 : Int) (y42 : PExprs) (g43 : Nat) (z44 : Bool), (R_Q68 y36 g37 z38 o41 r40 y42 g43 z44) ∧
      (match o41 with
      | none => (∃ (o46 : Option Int) (y47 : PExprs) (g48 : Nat) (z49 : Bool), (R_Q181 y42 g43 z44 [41] o46 y47 g48 z49) ∧
       (match o46 with
       | none => (none = o ∧ r40 = r ∧ y47 = x' ∧ g48 = x'_g2 ∧ z49 = x'_z2)
       | some e50 => (some e50 = o ∧ y47 = x' ∧ g48 = x'_g2 ∧ z49 = x'_z2)))
      | some e45 => (some e45 = o ∧ y42 = x' ∧ g43 = x'_g2 ∧ z44 = x'_z2)))
     | some e39 => (some e39 = o ∧ y36 = x' ∧ g37 = x'_g2 ∧ z38 = x'_z2))))))) : R_Q180 x x_g2 x_z2 o r x' x'_g2 x'_z2 := by
 intro S n0 t0 H0
 obtain ⟨hb0, ha0⟩ := H0
 obtain ⟨w0, hB0⟩ := take_some hb0
 have hn0 := o_getBox_lt hB0
 rw [call_code sp_Q180 _ _ rfl]
 have F := U_Q180
 obtain ⟨r1, y2, q1, T⟩ := T
 simp only [R_Q38, le, List.cons_append, List.nil_append] at q1
 replace F := aa ha0 <| aa hB0 <| aa hn0 <| aa q1 <| F
 by_cases c2 : r1.Kind = 3
 · replace T := T.1 c2
   obtain ⟨o4, r3, y5, g6, z7, q3, T⟩ := T
   simp only [R_Q201, le, List.cons_append, List.nil_append] at q3
   replace F := aa (eq_true c2) <| aa q3 <| F
   cases o4 with
   | none =>
     dsimp only at T
     obtain ⟨rfl, rfl, rfl, rfl, rfl⟩ := T
     exact fi F
   | some e8 =>
     dsimp only at T
     obtain ⟨rfl, rfl, rfl, rfl⟩ := T
     exact fi F
 · replace T := T.2 c2
   replace F := aa (eq_false c2) <| F
   by_cases c4 : r1.Kind = 1
   · replace T := T.1 c4
     obtain ⟨p5, r9, y10, g11, z12, q6, rfl, rfl, rfl, rfl, rfl⟩ := T
     simp only [R_Q202, le, List.cons_append, List.nil_append] at q6
     exact fi (aa (eq_true c4) <| aa p5.wrap <| aa q6 <| F)
   · replace T := T.2 c4
     replace F := aa (eq_false c4) <| F
     by_cases c7 : r1.Kind = 2
     · replace T := T.1 c7
       obtain ⟨p8, r13, y14, g15, z16, q9, p10, p11, p12, v17, q13, rfl, rfl, rfl, rfl, rfl⟩ := T
       simp only [R_Q105, le, List.cons_append, List.nil_append] at q9
       exact fi (aa (eq_true c7) <| aa p8.wrap <| aa q9 <| aa p10 <| aa p11 <| aa p12 <| aa q13 <| F)
     · replace T := T.2 c7
       obtain ⟨r18, y19, q14, T⟩ := T
       simp only [R_Q102, le, List.cons_append, List.nil_append] at q14
       replace F := aa (eq_false c7) <| aa q14 <| F
       by_cases c15 : r18 = true
       · replace T := T.1 c15
         obtain ⟨o20, y21, g22, z23, q16, T⟩ := T
         simp only [R_Q104, le, List.cons_append, List.nil_append] at q16
         replace F := aa c15 <| aa q16 <| F
         cases o20 with
         | none =>
           dsimp only at T
           obtain ⟨o26, r25, y27, g28, z29, q17, T⟩ := T
           simp only [R_Q203, le, List.cons_append, List.nil_append] at q17
           replace F := aa q17 <| F
           cases o26 with
           | none =>
             dsimp only at T
             obtain ⟨r31, y32, g33, z34, q18, rfl, rfl, rfl, rfl, rfl⟩ := T
             simp only [R_Q105, le, List.cons_append, List.nil_append] at q18
             exact fi (aa q18 <| F)
           | some e30 =>
             dsimp only at T
             obtain ⟨rfl, rfl, rfl, rfl⟩ := T
             exact fi F
         | some e24 =>
           dsimp only at T
           obtain ⟨rfl, rfl, rfl, rfl⟩ := T
           exact fi F
       · replace T := T.2 c15
         replace c15 := Bool.eq_false_iff.2 c15
         obtain ⟨o35, y36, g37, z38, q19, T⟩ := T
         simp only [R_Q104, le, List.cons_append, List.nil_append] at q19
         replace F := aa c15 <| aa q19 <| F
         cases o35 with
         | none =>
           dsimp only at T
           obtain ⟨o41, r40, y42, g43, z44, q20, T⟩ := T
           simp only [R_Q68, le, List.cons_append, List.nil_append] at q20
           replace F := aa q20 <| F
           cases o41 with
           | none =>
             dsimp only at T
             obtain ⟨o46, y47, g48, z49, q21, T⟩ := T
             simp only [R_Q181, le, List.cons_append, List.nil_append] at q21
             replace F := aa q21 <| F
             cases o46 with
             | none =>
               dsimp only at T
               obtain ⟨rfl, rfl, rfl, rfl, rfl⟩ := T
               exact fi F
             | some e50 =>
               dsimp only at T
               obtain ⟨rfl, rfl, rfl, rfl⟩ := T
               exact fi F
           | some e45 =>
             dsimp only at T
             obtain ⟨rfl, rfl, rfl, rfl⟩ := T
             exact fi F
         | some e39 =>
           dsimp only at T
           obtain ⟨rfl, rfl, rfl, rfl⟩ := T
           exact fi F
theorem sp_Q41 : SP 41 = some (.code sc_Q41) := SPof_code rfl Tryz.func41 comp_Q41
theorem Q41_tree (x : PExprs) (x_g2 : Nat) (x_z2 : Bool) (o : Option Int) (r : List Node) (x' : PExprs) (x'_g2 : Nat) (x'_z2 : Bool) (T :
  ∃ (o2 : Option Int) (r1 : Int) (y3 : PExprs) (g4 : Nat) (z5 : Bool), (R_Q68 (PExprs.mk x.tokens [] x.deep) (x_g2 + 1) false o2 r1 y3 g4 z5) ∧
 (match o2 with
 | none => (none = o ∧ y3.out = r ∧ y3 = x' ∧ g4 = x'_g2 ∧ true = x'_z2)
 | some e6 => (some e6 = o ∧ y3 = x' ∧ g4 = x'_g2 ∧ z5 = x'_z2))) : R_Q41 x x_g2 x_z2 o r x' x'_g2 x'_z2 := by
 intro S n0 t0 H0
 obtain ⟨hb0, ha0⟩ := H0
 obtain ⟨w0, hB0⟩ := take_some hb0
 have hn0 := o_getBox_lt hB0
 rw [call_code sp_Q41 _ _ rfl]
 have F := U_Q41
 obtain ⟨o2, r1, y3, g4, z5, q1, T⟩ := T
 simp only [R_Q68, le, List.cons_append, List.nil_append] at q1
 replace F := aa ha0 <| aa hB0 <| aa hn0 <| aa q1 <| F
 cases o2 with
 | none =>
   dsimp only at T
   obtain ⟨rfl, rfl, rfl, rfl, rfl⟩ := T
   exact fi F
 | some e6 =>
   dsimp only at T
   obtain ⟨rfl, rfl, rfl, rfl⟩ := T
   exact fi F
theorem sp_Q97 : SP 97 = some (.code sc_Q97) := SPof_code rfl Tryz.func97 comp_Q97
def At_Q97_1 (t3 : LTokens) (g4 : Nat) (z5 : Bool) (t' : LTokens) (t'_g2 : Nat) (t'_z2 : Bool) : Prop := ∀ (S : Sto) (e : Nat → PV) (f : Fr) (n0 t0 : Nat), ((getBox S n0 t0).map (List.take 3) = some [.str t3.text.left, .int .i64 t3.text.pos, .sl 0 (.cell t0 2) 0 t3.out.length t3.out.length g4 false] ∧ getArr S n0 (.cell t0 2) = some ⟨5, t3.out.map eToken, z5, g4⟩) → e 0 = .ptr (n0 + 1) t0 0 → k_Q97_1 SP (E SP (.loop b_Q97_1) ⟨e, f :: S⟩) = .ok (.v (.tup [])) (setArr (setBox S n0 t0 ([.str t'.text.left, .int .i64 t'.text.pos, .sl 0 (.cell t0 2) 0 t'.out.length t'.out.length t'_g2 false] ++ ((getBox S n0 t0).getD []).drop 3)) n0 (.cell t0 2) ⟨5, t'.out.map eToken, t'_z2, t'_g2⟩)
theorem At_Q97_1_step (t3 : LTokens) (g4 : Nat) (z5 : Bool) (t' : LTokens) (t'_g2 : Nat) (t'_z2 : Bool) (T :
  ∃ (r6 : Bool), (R_strings_HasPrefix t3.text.left [35] r6) ∧
 ((r6 = true) →
  ∃ (r7 : List UInt8) (r8 : List UInt8) (r9 : Bool), (R_strings_Cut t3.text.left [10] r7 r8 r9) ∧
  ∃ (r10 : List UInt8) (y11 : LText), (R_Q135 t3.text (r7.length : Int) r10 y11) ∧
  ∃ (r12 : List UInt8) (y13 : LText), (R_Q134 y11 [1] r12 y13) ∧
  At_Q97_1 (LTokens.mk y13 t3.out) g4 z5 t' t'_g2 t'_z2) ∧
 (¬ (r6 = true) →
  t3 = t' ∧ g4 = t'_g2 ∧ z5 = t'_z2)) : At_Q97_1 t3 g4 z5 t' t'_g2 t'_z2 := by
 intro S e f n0 t0 H0 h
 obtain ⟨hb0, ha0⟩ := H0
 obtain ⟨w0, hB0⟩ := take_some hb0
 have hn0 := o_getBox_lt hB0
 unfold k_Q97_1
 rw [E_loop]
 have F := U_Q97
 obtain ⟨r6, q1, T⟩ := T
 simp only [R_strings_HasPrefix, le, List.cons_append, List.nil_append] at q1
 replace F := aa ha0 <| aa hB0 <| aa hn0 <| aa h <| aa q1 <| F
 by_cases c2 : r6 = true
 · replace T := T.1 c2
   obtain ⟨r7, r8, r9, q3, r10, y11, q4, r12, y13, q5, T⟩ := T
   simp only [R_strings_Cut, le, List.cons_append, List.nil_append] at q3
   simp only [R_Q135, le, List.cons_append, List.nil_append] at q4
   simp only [R_Q134, le, List.cons_append, List.nil_append] at q5
   replace F := aa c2 <| aa q3 <| aa q4 <| aa q5 <| F
   try simp only [F, lw, lx, le, Nat.reduceMul, UInt8.reduceToNat, reduceIte, reduceCtorEq, Nat.reduceEqDiff, Nat.reduceAdd, Nat.reduceLeDiff, Nat.reduceSub, Nat.reduceLT, Int.reduceEq, Int.reduceLT, Int.reduceLE, Int.reduceToNat, Int.reduceAdd, Int.reduceSub, Int.reduceMul, Int.reduceNeg]
   refine (T _ _ _ n0 t0 ?_ ?_).trans ?_
   all_goals exact fi F
 · replace T := T.2 c2
   replace c2 := Bool.eq_false_iff.2 c2
   obtain ⟨rfl, rfl, rfl⟩ := T
   exact fi (aa c2 <| F)
theorem Q97_tree (t : LTokens) (t_g2 : Nat) (t_z2 : Bool) (t' : LTokens) (t'_g2 : Nat) (t'_z2 : Bool) (T :
  ∃ (r1 : List UInt8) (y2 : LText), (R_Q134 t.text [1] r1 y2) ∧
 At_Q97_1 (LTokens.mk y2 t.out) t_g2 t_z2 t' t'_g2 t'_z2) : R_Q97 t t_g2 t_z2 t' t'_g2 t'_z2 := by
 intro S n0 t0 H0
 obtain ⟨hb0, ha0⟩ := H0
 obtain ⟨w0, hB0⟩ := take_some hb0
 have hn0 := o_getBox_lt hB0
 rw [call_code sp_Q97 _ _ rfl]
 have F := U_Q97
 obtain ⟨r1, y2, q1, T⟩ := T
 simp only [R_Q134, le, List.cons_append, List.nil_append] at q1
 replace F := aa ha0 <| aa hB0 <| aa hn0 <| aa q1 <| F
 try simp only [F, lw, lx, le, Nat.reduceMul, UInt8.reduceToNat, reduceIte, reduceCtorEq, Nat.reduceEqDiff, Nat.reduceAdd, Nat.reduceLeDiff, Nat.reduceSub, Nat.reduceLT, Int.reduceEq, Int.reduceLT, Int.reduceLE, Int.reduceToNat, Int.reduceAdd, Int.reduceSub, Int.reduceMul, Int.reduceNeg]
 refine (T _ _ _ n0 t0 ?_ ?_).trans ?_
 all_goals exact fi F
theorem sp_Q138 : SP 138 = some (.code sc_Q138) := SPof_code rfl Tryz.func138 comp_Q138
theorem Q138_tree (t : LTokens) (t_g2 : Nat) (t_z2 : Bool) (ra : Token) (rb : Bool) (t' : LTokens) (t'_g2 : Nat) (t'_z2 : Bool) (T :
  ∃ (r1 : List UInt8) (y2 : LText), (R_Q134 t.text [2, 3] r1 y2) ∧
 ∃ (r3 : Bool), (R_Q115 r1 r3) ∧
 (Token.mk 3 r1 0 [] 0) = ra ∧ r3 = rb ∧ (LTokens.mk y2 t.out) = t' ∧ t_g2 = t'_g2 ∧ t_z2 = t'_z2) : R_Q138 t t_g2 t_z2 ra rb t' t'_g2 t'_z2 := by
 intro S n0 t0 H0
 obtain ⟨hb0, ha0⟩ := H0
 obtain ⟨w0, hB0⟩ := take_some hb0
 have hn0 := o_getBox_lt hB0
 rw [call_code sp_Q138 _ _ rfl]
 have F := U_Q138
 obtain ⟨r1, y2, q1, r3, q2, rfl, rfl, rfl, rfl, rfl⟩ := T
 simp only [R_Q134, le, List.cons_append, List.nil_append] at q1
 simp only [R_Q115, le, List.cons_append, List.nil_append] at q2
 exact fi (aa ha0 <| aa hB0 <| aa hn0 <| aa q1 <| aa q2 <| F)
theorem sp_Q139 : SP 139 = some (.code sc_Q139) := SPof_code rfl Tryz.func139 comp_Q139
theorem Q139_tree (t : LTokens) (t_g2 : Nat) (t_z2 : Bool) (ra : Token) (rb : Bool) (t' : LTokens) (t'_g2 : Nat) (t'_z2 : Bool) (T :
  ∃ (r1 : List UInt8) (y2 : LText), (R_Q134 t.text [3] r1 y2) ∧
 ∃ (r3 : Int) (r4 : Bool), (R_strconv_Atoi r1 r3 r4) ∧
 ((r4 = true) →
  (Token.mk 1 [] r3 [] 0) = ra ∧ false = rb ∧ (LTokens.mk y2 t.out) = t' ∧ t_g2 = t'_g2 ∧ t_z2 = t'_z2) ∧
 (¬ (r4 = true) →
  ∃ (r5 : List UInt8), (R_strconv_Itoa r3 r5) ∧
  (Token.mk 1 [] r3 [] 0) = ra ∧ (decide (r5 = r1)) = rb ∧ (LTokens.mk y2 t.out) = t' ∧ t_g2 = t'_g2 ∧ t_z2 = t'_z2)) : R_Q139 t t_g2 t_z2 ra rb t' t'_g2 t'_z2 := by
 intro S n0 t0 H0
 obtain ⟨hb0, ha0⟩ := H0
 obtain ⟨w0, hB0⟩ := take_some hb0
 have hn0 := o_getBox_lt hB0
 rw [call_code sp_Q139 _ _ rfl]
 have F := U_Q139
 obtain ⟨r1, y2, q1, r3, r4, q2, T⟩ := T
 simp only [R_Q134, le, List.cons_append, List.nil_append] at q1
 simp only [R_strconv_Atoi, le, List.cons_append, List.nil_append] at q2
 replace F := aa ha0 <| aa hB0 <| aa hn0 <| aa q1 <| aa q2 <| F
 by_cases c3 : r4 = true
 · replace T := T.1 c3
   obtain ⟨rfl, rfl, rfl, rfl, rfl⟩ := T
   exact fi (aa c3 <| F)
 · replace T := T.2 c3
   replace c3 := Bool.eq_false_iff.2 c3
   obtain ⟨r5, q4, rfl, rfl, rfl, rfl, rfl⟩ := T
   simp only [R_strconv_Itoa, le, List.cons_append, List.nil_append] at q4
   exact fi (aa c3 <| aa q4 <| F)
theorem sp_Q140 : SP 140 = some (.code sc_Q140) := SPof_code rfl Tryz.func140 comp_Q140
def At_Q140_1 (i3 : Int) (s4 : List UInt8) (i5 : Int) (i6 : Int) (l7 : List Attr) (g8 : Nat) (l9 : List Part) (g10 : Nat) (z11 : Bool) (t12 : LTokens) (g13 : Nat) (z14 : Bool) (ra : Token) (rb : Bool) (t' : LTokens) (t'_g2 : Nat) (t'_z2 : Bool) : Prop := ∀ (S : Sto) (e : Nat → PV) (f : Fr) (n0 t0 : Nat), ((getBox S n0 t0).map (List.take 3) = some [.str t12.text.left, .int .i64 t12.text.pos, .sl 0 (.cell t0 2) 0 t12.out.length t12.out.length g13 false] ∧ getArr S n0 (.cell t0 2) = some ⟨5, t12.out.map eToken, z14, g13⟩) → e 0 = .ptr (n0 + 1) t0 0 ∧ e 2 = .ptr 0 2 0 ∧ e 4 = .ptr 0 4 0 ∧ f.box 2 = some [.int .i64 i3, .str s4, .int .i64 i5, .sl 0 (.cell 2 3) 0 l7.length l7.length g8 false, .int .i64 i6] ∧ f.box 4 = some [.sl 0 (.cell 4 0) 0 l9.length l9.length g10 false] ∧ f.arr (.cell 2 3) = some ⟨2, l7.map eAttr, false, g8⟩ ∧ f.arr (.cell 4 0) = some ⟨2, l9.map ePart, z11, g10⟩ → k_Q140_1 SP (E SP (.loop b_Q140_1) ⟨e, f :: S⟩) = .ok (.v (.tup [.agg [.int .i64 ra.Kind, .str ra.Text, .int .i64 ra.Num, .list 2 (ra.Parts.map ePart) false, .int .i64 ra.At], .bool rb])) (setArr (setBox S n0 t0 ([.str t'.text.left, .int .i64 t'.text.pos, .sl 0 (.cell t0 2) 0 t'.out.length t'.out.length t'_g2 false] ++ ((getBox S n0 t0).getD []).drop 3)) n0 (.cell t0 2) ⟨5, t'.out.map eToken, t'_z2, t'_g2⟩)
theorem At_Q140_1_step (i3 : Int) (s4 : List UInt8) (i5 : Int) (i6 : Int) (l7 : List Attr) (g8 : Nat) (l9 : List Part) (g10 : Nat) (z11 : Bool) (t12 : LTokens) (g13 : Nat) (z14 : Bool) (ra : Token) (rb : Bool) (t' : LTokens) (t'_g2 : Nat) (t'_z2 : Bool) (T :
  ((t12.text.left = []) →
  (Token.mk 0 [] 0 [] 0) = ra ∧ false = rb ∧ t12 = t' ∧ g13 = t'_g2 ∧ z14 = t'_z2) ∧
 (¬ (t12.text.left = []) →
  ∃ (b15 : UInt8), (t12.text.left[0]? = some b15) ∧
  ∃ (r16 : Int), (R_Q137 b15 r16) ∧
  ((r16 = 4) →
   ∃ (r17 : List UInt8) (y18 : LText), (R_Q135 t12.text 1 r17 y18) ∧
   (Token.mk 2 [] 0 l9 0) = ra ∧ true = rb ∧ (LTokens.mk y18 t12.out) = t' ∧ g13 = t'_g2 ∧ z14 = t'_z2) ∧
  (¬ (r16 = 4) →
   (((b15.toNat : Int) < 32) →
    (Token.mk 0 [] 0 [] 0) = ra ∧ false = rb ∧ t12 = t' ∧ g13 = t'_g2 ∧ z14 = t'_z2) ∧
   (¬ ((b15.toNat : Int) < 32) →
    (((b15.toNat : Int) = 92) →
     ∃ (r19 : UInt8) (r20 : Bool), (R_Q164 t12.text.left r19 r20) ∧
     ((r20 = true) →
      ∃ (y21 : List Part) (g22 : Nat) (z23 : Bool), (R_Q165 l9 g10 z11 r19 y21 g22 z23) ∧
      ∃ (r24 : List UInt8) (y25 : LText), (R_Q135 t12.text 2 r24 y25) ∧
      At_Q140_1 i3 s4 i5 i6 l7 g8 y21 g22 z23 (LTokens.mk y25 t12.out) g13 z14 ra rb t' t'_g2 t'_z2) ∧
     (¬ (r20 = true) →
      (Token.mk 0 [] 0 [] 0) = ra ∧ false = rb ∧ t12 = t' ∧ g13 = t'_g2 ∧ z14 = t'_z2)) ∧
    (¬ ((b15.toNat : Int) = 92) →
     ∃ (r26 : Bool), (R_strings_HasPrefix t12.text.left [36, 123] r26) ∧
     ((r26 = true) →
      ∃ (r27 : List UInt8) (r28 : Bool), (R_Q166 t12.text.left r27 r28) ∧
      ((r28 = true) →
       (bigRow (l9.length + 1) 24) ∧
       (I64 (3 + (r27.length : Int))) ∧
       ∃ (r29 : List UInt8) (y30 : LText), (R_Q135 t12.text (3 + (r27.length : Int)) r29 y30) ∧
       At_Q140_1 i3 s4 i5 i6 l7 g8 (l9 ++ [(Part.mk true r27)]) g10 z11 (LTokens.mk y30 t12.out) g13 z14 ra rb t' t'_g2 t'_z2) ∧
      (¬ (r28 = true) →
       (Token.mk 0 [] 0 [] 0) = ra ∧ false = rb ∧ t12 = t' ∧ g13 = t'_g2 ∧ z14 = t'_z2)) ∧
     (¬ (r26 = true) →
      ∃ (y31 : List Part) (g32 : Nat) (z33 : Bool), (R_Q165 l9 g10 z11 b15 y31 g32 z33) ∧
      ∃ (r34 : List UInt8) (y35 : LText), (R_Q135 t12.text 1 r34 y35) ∧
      At_Q140_1 i3 s4 i5 i6 l7 g8 y31 g32 z33 (LTokens.mk y35 t12.out) g13 z14 ra rb t' t'_g2 t'_z2)))))) : At_Q140_1 i3 s4 i5 i6 l7 g8 l9 g10 z11 t12 g13 z14 ra rb t' t'_g2 t'_z2 := by
 intro S e f n0 t0 H0 h
 obtain ⟨hb0, ha0⟩ := H0
 obtain ⟨w0, hB0⟩ := take_some hb0
 have hn0 := o_getBox_lt hB0
 unfold k_Q140_1
 rw [E_loop]
 have F := U_Q140
 replace F := aa ha0 <| aa hB0 <| aa hn0 <| aa h <| F
 by_cases c1 : t12.text.left = []
 · replace T := T.1 c1
   obtain ⟨rfl, rfl, rfl, rfl, rfl⟩ := T
   exact fi (aa (eq_true c1) <| F)
 · replace T := T.2 c1
   obtain ⟨b15, q2, r16, q3, T⟩ := T
   simp only [R_Q137, le, List.cons_append, List.nil_append] at q3
   replace F := aa (eq_false c1) <| aa q2 <| aa q3 <| F
   by_cases c4 : r16 = 4
   · replace T := T.1 c4
     obtain ⟨r17, y18, q5, rfl, rfl, rfl, rfl, rfl⟩ := T
     simp only [R_Q135, le, List.cons_append, List.nil_append] at q5
     exact fi (aa (eq_true c4) <| aa q5 <| F)
   · replace T := T.2 c4
     replace F := aa (eq_false c4) <| F
     by_cases c6 : (b15.toNat : Int) < 32
     · replace T := T.1 c6
       obtain ⟨rfl, rfl, rfl, rfl, rfl⟩ := T
       exact fi (aa (eq_true c6) <| F)
     · replace T := T.2 c6
       replace F := aa (eq_false c6) <| F
       by_cases c7 : (b15.toNat : Int) = 92
       · replace T := T.1 c7
         obtain ⟨r19, r20, q8, T⟩ := T
         simp only [R_Q164, le, List.cons_append, List.nil_append] at q8
         replace F := aa (eq_true c7) <| aa q8 <| F
         by_cases c9 : r20 = true
         · replace T := T.1 c9
           obtain ⟨y21, g22, z23, q10, r24, y25, q11, T⟩ := T
           simp only [R_Q165, le, List.cons_append, List.nil_append] at q10
           simp only [R_Q135, le, List.cons_append, List.nil_append] at q11
           replace F := aa c9 <| aa q10 <| aa q11 <| F
           try simp only [F, lw, lx, le, Nat.reduceMul, UInt8.reduceToNat, reduceIte, reduceCtorEq, Nat.reduceEqDiff, Nat.reduceAdd, Nat.reduceLeDiff, Nat.reduceSub, Nat.reduceLT, Int.reduceEq, Int.reduceLT, Int.reduceLE, Int.reduceToNat, Int.reduceAdd, Int.reduceSub, Int.reduceMul, Int.reduceNeg]
           refine (T _ _ _ n0 t0 ?_ ?_).trans ?_
           all_goals exact fi F
         · replace T := T.2 c9
           replace c9 := Bool.eq_false_iff.2 c9
           obtain ⟨rfl, rfl, rfl, rfl, rfl⟩ := T
           exact fi (aa c9 <| F)
       · replace T := T.2 c7
         obtain ⟨r26, q12, T⟩ := T
         simp only [R_strings_HasPrefix, le, List.cons_append, List.nil_append] at q12
         replace F := aa (eq_false c7) <| aa q12 <| F
         by_cases c13 : r26 = true
         · replace T := T.1 c13
           obtain ⟨r27, r28, q14, T⟩ := T
           simp only [R_Q166, le, List.cons_append, List.nil_append] at q14
           replace F := aa c13 <| aa q14 <| F
           by_cases c15 : r28 = true
           · replace T := T.1 c15
             obtain ⟨p16, p17, r29, y30, q18, T⟩ := T
             simp only [bigRow] at p16
             simp only [R_Q135, le, List.cons_append, List.nil_append] at q18
             replace F := aa c15 <| aa p16 <| aa p17.wrap <| aa q18 <| F
             try simp only [F, lw, lx, le, Nat.reduceMul, UInt8.reduceToNat, reduceIte, reduceCtorEq, Nat.reduceEqDiff, Nat.reduceAdd, Nat.reduceLeDiff, Nat.reduceSub, Nat.reduceLT, Int.reduceEq, Int.reduceLT, Int.reduceLE, Int.reduceToNat, Int.reduceAdd, Int.reduceSub, Int.reduceMul, Int.reduceNeg]
             refine (T _ _ _ n0 t0 ?_ ?_).trans ?_
             all_goals exact fi F
           · replace T := T.2 c15
             replace c15 := Bool.eq_false_iff.2 c15
             obtain ⟨rfl, rfl, rfl, rfl, rfl⟩ := T
             exact fi (aa c15 <| F)
         · replace T := T.2 c13
           replace c13 := Bool.eq_false_iff.2 c13
           obtain ⟨y31, g32, z33, q19, r34, y35, q20, T⟩ := T
           simp only [R_Q165, le, List.cons_append, List.nil_append] at q19
           simp only [R_Q135, le, List.cons_append, List.nil_append] at q20
           replace F := aa c13 <| aa q19 <| aa q20 <| F
           try simp only [F, lw, lx, le, Nat.reduceMul, UInt8.reduceToNat, reduceIte, reduceCtorEq, Nat.reduceEqDiff, Nat.reduceAdd, Nat.reduceLeDiff, Nat.reduceSub, Nat.reduceLT, Int.reduceEq, Int.reduceLT, Int.reduceLE, Int.reduceToNat, Int.reduceAdd, Int.reduceSub, Int.reduceMul, Int.reduceNeg]
           refine (T _ _ _ n0 t0 ?_ ?_).trans ?_
           all_goals exact fi F
theorem Q140_tree (t : LTokens) (t_g2 : Nat) (t_z2 : Bool) (ra : Token) (rb : Bool) (t' : LTokens) (t'_g2 : Nat) (t'_z2 : Bool) (T :
  ∃ (r1 : List UInt8) (y2 : LText), (R_Q135 t.text 1 r1 y2) ∧
 At_Q140_1 0 [] 0 0 [] 0 [] 0 false (LTokens.mk y2 t.out) t_g2 t_z2 ra rb t' t'_g2 t'_z2) : R_Q140 t t_g2 t_z2 ra rb t' t'_g2 t'_z2 := by
 intro S n0 t0 H0
 obtain ⟨hb0, ha0⟩ := H0
 obtain ⟨w0, hB0⟩ := take_some hb0
 have hn0 := o_getBox_lt hB0
 rw [call_code sp_Q140 _ _ rfl]
 have F := U_Q140
 obtain ⟨r1, y2, q1, T⟩ := T
 simp only [R_Q135, le, List.cons_append, List.nil_append] at q1
 replace F := aa ha0 <| aa hB0 <| aa hn0 <| aa q1 <| F
 try simp only [F, lw, lx, le, Nat.reduceMul, UInt8.reduceToNat, reduceIte, reduceCtorEq, Nat.reduceEqDiff, Nat.reduceAdd, Nat.reduceLeDiff, Nat.reduceSub, Nat.reduceLT, Int.reduceEq, Int.reduceLT, Int.reduceLE, Int.reduceToNat, Int.reduceAdd, Int.reduceSub, Int.reduceMul, Int.reduceNeg]
 refine (T _ _ _ n0 t0 ?_ ?_).trans ?_
 all_goals exact fi F
theorem sp_Q136 : SP 136 = some (.code sc_Q136) := SPof_code rfl Tryz.func136 comp_Q136
theorem Q136_tree (t : LTokens) (t_g2 : Nat) (t_z2 : Bool) (ra : Token) (rb : Bool) (t' : LTokens) (t'_g2 : Nat) (t'_z2 : Bool) (T :
  (0 ≤ (if (t.text.left.length : Int) < 2 then (t.text.left.length : Int) else 2)) ∧ ((if (t.text.left.length : Int) < 2 then (t.text.left.length : Int) else 2).toNat ≤ t.text.left.length) ∧
 ∃ (r1 : Bool), (R_slices_Contains_string_string [[61, 61], [33, 61], [60, 61], [62, 61], [38, 38], [124, 124]] (t.text.left.take ((if (t.text.left.length : Int) < 2 then (t.text.left.length : Int) else 2).toNat)) r1) ∧
 ((r1 = true) →
  ∃ (r2 : List UInt8) (y3 : LText), (R_Q135 t.text (((t.text.left.take ((if (t.text.left.length : Int) < 2 then (t.text.left.length : Int) else 2).toNat)).length : Nat) : Int) r2 y3) ∧
  (Token.mk 4 r2 0 [] 0) = ra ∧ true = rb ∧ (LTokens.mk y3 t.out) = t' ∧ t_g2 = t'_g2 ∧ t_z2 = t'_z2) ∧
 (¬ (r1 = true) →
  (1 ≤ (t.text.left.take ((if (t.text.left.length : Int) < 2 then (t.text.left.length : Int) else 2).toNat)).length) ∧
  ∃ (r4 : Bool), (R_strings_Contains [123, 125, 91, 93, 40, 41, 61, 44, 46, 43, 45, 42, 47, 37, 60, 62, 33, 63, 58] ((t.text.left.take ((if (t.text.left.length : Int) < 2 then (t.text.left.length : Int) else 2).toNat)).take (1)) r4) ∧
  ((r4 = true) →
   ∃ (r5 : List UInt8) (y6 : LText), (R_Q135 t.text ((((t.text.left.take ((if (t.text.left.length : Int) < 2 then (t.text.left.length : Int) else 2).toNat)).take (1)).length : Nat) : Int) r5 y6) ∧
   (Token.mk 4 r5 0 [] 0) = ra ∧ true = rb ∧ (LTokens.mk y6 t.out) = t' ∧ t_g2 = t'_g2 ∧ t_z2 = t'_z2) ∧
  (¬ (r4 = true) →
   (Token.mk 0 [] 0 [] 0) = ra ∧ false = rb ∧ t = t' ∧ t_g2 = t'_g2 ∧ t_z2 = t'_z2))) : R_Q136 t t_g2 t_z2 ra rb t' t'_g2 t'_z2 := by
 intro S n0 t0 H0
 obtain ⟨hb0, ha0⟩ := H0
 obtain ⟨w0, hB0⟩ := take_some hb0
 have hn0 := o_getBox_lt hB0
 rw [call_code sp_Q136 _ _ rfl]
 have F := U_Q136
 obtain ⟨p1, p2, r1, q3, T⟩ := T
 simp only [R_slices_Contains_string_string, le, List.cons_append, List.nil_append] at q3
 replace F := aa ha0 <| aa hB0 <| aa hn0 <| aa p1 <| aa p2 <| aa q3 <| F
 by_cases c4 : r1 = true
 · replace T := T.1 c4
   obtain ⟨r2, y3, q5, rfl, rfl, rfl, rfl, rfl⟩ := T
   simp only [R_Q135, le, List.cons_append, List.nil_append] at q5
   exact fi (aa c4 <| aa q5 <| F)
 · replace T := T.2 c4
   replace c4 := Bool.eq_false_iff.2 c4
   obtain ⟨p6, r4, q7, T⟩ := T
   simp only [R_strings_Contains, le, List.cons_append, List.nil_append] at q7
   replace F := aa c4 <| aa p6 <| aa q7 <| F
   by_cases c8 : r4 = true
   · replace T := T.1 c8
     obtain ⟨r5, y6, q9, rfl, rfl, rfl, rfl, rfl⟩ := T
     simp only [R_Q135, le, List.cons_append, List.nil_append] at q9
     exact fi (aa c8 <| aa q9 <| F)
   · replace T := T.2 c8
     replace c8 := Bool.eq_false_iff.2 c8
     obtain ⟨rfl, rfl, rfl, rfl, rfl⟩ := T
     exact fi (aa c8 <| F)
theorem sp_Q98 : SP 98 = some (.code sc_Q98) := SPof_code rfl Tryz.func98 comp_Q98
theorem Q98_tree (t : LTokens) (t_g2 : Nat) (t_z2 : Bool) (r : Bool) (t' : LTokens) (t'_g2 : Nat) (t'_z2 : Bool) (T :
  ∃ (b1 : UInt8), (t.text.left[0]? = some b1) ∧
 ∃ (r2 : Int), (R_Q137 b1 r2) ∧
 ((r2 = 2) →
  ∃ (r3 : Token) (r4 : Bool) (y5 : LTokens) (g6 : Nat) (z7 : Bool), (R_Q138 t t_g2 t_z2 r3 r4 y5 g6 z7) ∧
  (bigRow (y5.out.length + 1) 64) ∧
  r4 = r ∧ (LTokens.mk y5.text (y5.out ++ [(Token.mk r3.Kind r3.Text r3.Num r3.Parts t.text.pos)])) = t' ∧ g6 = t'_g2 ∧ z7 = t'_z2) ∧
 (¬ (r2 = 2) →
  ((r2 = 3) →
   ∃ (r8 : Token) (r9 : Bool) (y10 : LTokens) (g11 : Nat) (z12 : Bool), (R_Q139 t t_g2 t_z2 r8 r9 y10 g11 z12) ∧
   (bigRow (y10.out.length + 1) 64) ∧
   r9 = r ∧ (LTokens.mk y10.text (y10.out ++ [(Token.mk r8.Kind r8.Text r8.Num r8.Parts t.text.pos)])) = t' ∧ g11 = t'_g2 ∧ z12 = t'_z2) ∧
  (¬ (r2 = 3) →
   ((r2 = 4) →
    ∃ (r13 : Token) (r14 : Bool) (y15 : LTokens) (g16 : Nat) (z17 : Bool), (R_Q140 t t_g2 t_z2 r13 r14 y15 g16 z17) ∧
    (bigRow (y15.out.length + 1) 64) ∧
    r14 = r ∧ (LTokens.mk y15.text (y15.out ++ [(Token.mk r13.Kind r13.Text r13.Num r13.Parts t.text.pos)])) = t' ∧ g16 = t'_g2 ∧ z17 = t'_z2) ∧
   (¬ (r2 = 4) →
    ∃ (r18 : Token) (r19 : Bool) (y20 : LTokens) (g21 : Nat) (z22 : Bool), (R_Q136 t t_g2 t_z2 r18 r19 y20 g21 z22) ∧
    (bigRow (y20.out.length + 1) 64) ∧
    r19 = r ∧ (LTokens.mk y20.text (y20.out ++ [(Token.mk r18.Kind r18.Text r18.Num r18.Parts t.text.pos)])) = t' ∧ g21 = t'_g2 ∧ z22 = t'_z2)))) : R_Q98 t t_g2 t_z2 r t' t'_g2 t'_z2 := by
 intro S n0 t0 H0
 obtain ⟨hb0, ha0⟩ := H0
 obtain ⟨w0, hB0⟩ := take_some hb0
 have hn0 := o_getBox_lt hB0
 rw [call_code sp_Q98 _ _ rfl]
 have F := U_Q98
 obtain ⟨b1, q1, r2, q2, T⟩ := T
 simp only [R_Q137, le, List.cons_append, List.nil_append] at q2
 replace F := aa ha0 <| aa hB0 <| aa hn0 <| aa q1 <| aa q2 <| F
 by_cases c3 : r2 = 2
 · replace T := T.1 c3
   obtain ⟨r3, r4, y5, g6, z7, q4, p5, rfl, rfl, rfl, rfl⟩ := T
   simp only [R_Q138, le, List.cons_append, List.nil_append] at q4
   simp only [bigRow] at p5
   exact fi (aa (eq_true c3) <| aa q4 <| aa p5 <| F)
 · replace T := T.2 c3
   replace F := aa (eq_false c3) <| F
   by_cases c6 : r2 = 3
   · replace T := T.1 c6
     obtain ⟨r8, r9, y10, g11, z12, q7, p8, rfl, rfl, rfl, rfl⟩ := T
     simp only [R_Q139, le, List.cons_append, List.nil_append] at q7
     simp only [bigRow] at p8
     exact fi (aa (eq_true c6) <| aa q7 <| aa p8 <| F)
   · replace T := T.2 c6
     replace F := aa (eq_false c6) <| F
     by_cases c9 : r2 = 4
     · replace T := T.1 c9
       obtain ⟨r13, r14, y15, g16, z17, q10, p11, rfl, rfl, rfl, rfl⟩ := T
       simp only [R_Q140, le, List.cons_append, List.nil_append] at q10
       simp only [bigRow] at p11
       exact fi (aa (eq_true c9) <| aa q10 <| aa p11 <| F)
     · replace T := T.2 c9
       obtain ⟨r18, r19, y20, g21, z22, q12, p13, rfl, rfl, rfl, rfl⟩ := T
       simp only [R_Q136, le, List.cons_append, List.nil_append] at q12
       simp only [bigRow] at p13
       exact fi (aa (eq_false c9) <| aa q12 <| aa p13 <| F)
theorem sp_Q60 : SP 60 = some (.code sc_Q60) := SPof_code rfl Tryz.func60 comp_Q60
def At_Q60_1 (s4 : List UInt8) (i5 : Int) (l6 : List Token) (g7 : Nat) (z8 : Bool) (ra : List Token) (rb : Int) : Prop := ∀ (S : Sto) (e : Nat → PV) (f : Fr), e 4 = .ptr 0 11 0 ∧ f.box 11 = some [.str s4, .int .i64 i5, .sl 0 (.cell 11 2) 0 l6.length l6.length g7 false] ∧ f.arr (.cell 11 2) = some ⟨5, l6.map eToken, z8, g7⟩ → k_Q60_1 SP (E SP (.loop b_Q60_1) ⟨e, f :: S⟩) = .ok (.v (.tup [.list 5 (ra.map eToken) false, .int .i64 rb])) S
theorem At_Q60_1_step (s4 : List UInt8) (i5 : Int) (l6 : List Token) (g7 : Nat) (z8 : Bool) (ra : List Token) (rb : Int) (T :
  ((s4 = []) →
  (bigRow (l6.length + 1) 64) ∧
  (l6 ++ [(Token.mk 0 [] 0 [] i5)]) = ra ∧ 0 = rb) ∧
 (¬ (s4 = []) →
  ∃ (r9 : Bool) (y10 : LTokens) (g11 : Nat) (z12 : Bool), (R_Q98 (LTokens.mk (LText.mk s4 i5) l6) g7 z8 r9 y10 g11 z12) ∧
  ((r9 = true) →
   ∃ (y13 : LTokens) (g14 : Nat) (z15 : Bool), (R_Q97 y10 g11 z12 y13 g14 z15) ∧
   At_Q60_1 y13.text.left y13.text.pos y13.out g14 z15 ra rb) ∧
  (¬ (r9 = true) →
   [] = ra ∧ 5 = rb))) : At_Q60_1 s4 i5 l6 g7 z8 ra rb := by
 intro S e f h
 unfold k_Q60_1
 rw [E_loop]
 have F := U_Q60
 replace F := aa h <| F
 by_cases c1 : s4 = []
 · replace T := T.1 c1
   obtain ⟨p2, rfl, rfl⟩ := T
   simp only [bigRow] at p2
   exact fi (aa (eq_true c1) <| aa p2 <| F)
 · replace T := T.2 c1
   obtain ⟨r9, y10, g11, z12, q3, T⟩ := T
   simp only [R_Q98, le, List.cons_append, List.nil_append] at q3
   replace F := aa (eq_false c1) <| aa q3 <| F
   by_cases c4 : r9 = true
   · replace T := T.1 c4
     obtain ⟨y13, g14, z15, q5, T⟩ := T
     simp only [R_Q97, le, List.cons_append, List.nil_append] at q5
     replace F := aa c4 <| aa q5 <| F
     exact lo F T
   · replace T := T.2 c4
     replace c4 := Bool.eq_false_iff.2 c4
     obtain ⟨rfl, rfl⟩ := T
     exact fi (aa c4 <| F)
theorem Q60_tree (s : List UInt8) (ra : List Token) (rb : Int) (T :
  ((6000 < (s.length : Int)) →
  [] = ra ∧ 4 = rb) ∧
 (¬ (6000 < (s.length : Int)) →
  ∃ (y1 : LTokens) (g2 : Nat) (z3 : Bool), (R_Q97 (LTokens.mk (LText.mk s 0) []) 0 false y1 g2 z3) ∧
  At_Q60_1 y1.text.left y1.text.pos y1.out g2 z3 ra rb)) : R_Q60 s ra rb := by
 intro S
 rw [call_code sp_Q60 _ _ rfl]
 have F := U_Q60
 by_cases c1 : 6000 < (s.length : Int)
 · replace T := T.1 c1
   obtain ⟨rfl, rfl⟩ := T
   exact fi (aa (eq_true c1) <| F)
 · replace T := T.2 c1
   obtain ⟨y1, g2, z3, q2, T⟩ := T
   simp only [R_Q97, le, List.cons_append, List.nil_append] at q2
   replace F := aa (eq_false c1) <| aa q2 <| F
   exact lo F T
theorem sp_Q81 : SP 81 = some (.code sc_Q81) := SPof_code rfl Tryz.func81 comp_Q81
theorem Q81_tree (s : List UInt8) (r : Bool) (T :
  ∃ (r1 : List UInt8), (R_strings_ReplaceAll s [45] [95] r1) ∧
 ∃ (r2 : Bool), (R_Q115 r1 r2) ∧
 ((r2 = true) →
  ∃ (b3 : UInt8), (s[0]? = some b3) ∧
  (((b3.toNat : Int) = 45) →
   false = r) ∧
  (¬ ((b3.toNat : Int) = 45) →
   (!(decide ((b3.toNat : Int) = 95))) = r)) ∧
 (¬ (r2 = true) →
  false = r)) : R_Q81 s r := by
 intro S
 rw [call_code sp_Q81 _ _ rfl]
 have F := U_Q81
 obtain ⟨r1, q1, r2, q2, T⟩ := T
 simp only [R_strings_ReplaceAll, le, List.cons_append, List.nil_append] at q1
 simp only [R_Q115, le, List.cons_append, List.nil_append] at q2
 replace F := aa q1 <| aa q2 <| F
 by_cases c3 : r2 = true
 · replace T := T.1 c3
   obtain ⟨b3, q4, T⟩ := T
   replace F := aa c3 <| aa q4 <| F
   by_cases c5 : (b3.toNat : Int) = 45
   · replace T := T.1 c5
     obtain rfl := T
     exact fi (aa (eq_true c5) <| F)
   · replace T := T.2 c5
     obtain rfl := T
     exact fi (aa (eq_false c5) <| F)
 · replace T := T.2 c3
   replace c3 := Bool.eq_false_iff.2 c3
   obtain rfl := T
   exact fi (aa c3 <| F)
theorem sp_slices_Contains_int_int : SP 170 = some (.code sc_slices_Contains_int_int) := SPof_code rfl Tryz.func170 comp_slices_Contains_int_int
theorem slices_Contains_int_int_tree (s : List Int) (v : Int) (r : Bool) (T :
  ∃ (r1 : Int), (R_slices_Index_int_int s v r1) ∧
 (decide (0 ≤ r1)) = r) : R_slices_Contains_int_int s v r := by
 intro S
 rw [call_code sp_slices_Contains_int_int _ _ rfl]
 have F := U_slices_Contains_int_int
 obtain ⟨r1, q1, rfl⟩ := T
 simp only [R_slices_Index_int_int, le, List.cons_append, List.nil_append] at q1
 exact fi (aa q1 <| F)
theorem sp_slices_Index_int_int : SP 190 = some (.code sc_slices_Index_int_int) := SPof_code rfl Tryz.func190 comp_slices_Index_int_int
def At_slices_Index_int_int_1 (s : List Int) (v : Int) (i1 : Int) (r : Int) : Prop := ∀ (S : Sto) (e : Nat → PV) (f : Fr), e 0 = .list 1 (s.map eI) false ∧ e 1 = .int .i64 v ∧ e 7 = .int .i64 (s.length : Int) ∧ e 8 = .int .i64 i1 → k_slices_Index_int_int_1 SP (E SP (.loop b_slices_Index_int_int_1) ⟨e, f :: S⟩) = .ok (.v (.int .i64 r)) S
theorem At_slices_Index_int_int_1_step (s : List Int) (v : Int) (i1 : Int) (r : Int) (T :
  ((i1 < (s.length : Int)) →
  (0 ≤ i1) ∧
  ∃ (v2 : Int), (s[i1.toNat]? = some v2) ∧
  ((v = v2) →
   i1 = r) ∧
  (¬ (v = v2) →
   (I64 (i1 + 1)) ∧
   At_slices_Index_int_int_1 s v (i1 + 1) r)) ∧
 (¬ (i1 < (s.length : Int)) →
  (-1) = r)) : At_slices_Index_int_int_1 s v i1 r := by
 intro S e f h
 unfold k_slices_Index_int_int_1
 rw [E_loop]
 have F := U_slices_Index_int_int
 replace F := aa h <| F
 by_cases c1 : i1 < (s.length : Int)
 · replace T := T.1 c1
   obtain ⟨p2, v2, q3, T⟩ := T
   replace F := aa (eq_true c1) <| aa p2 <| aa q3 <| F
   by_cases c4 : v = v2
   · replace T := T.1 c4
     obtain rfl := T
     exact fi (aa (eq_true c4) <| F)
   · replace T := T.2 c4
     obtain ⟨p5, T⟩ := T
     replace F := aa (eq_false c4) <| aa p5.wrap <| F
     exact lo F T
 · replace T := T.2 c1
   obtain rfl := T
   exact fi (aa (eq_false c1) <| F)
theorem slices_Index_int_int_tree (s : List Int) (v : Int) (r : Int) (T :
  At_slices_Index_int_int_1 s v 0 r) : R_slices_Index_int_int s v r := by
 intro S
 rw [call_code sp_slices_Index_int_int _ _ rfl]
 have F := U_slices_Index_int_int
 exact lo F T
theorem sp_slices_Contains_string_string : SP 161 = some (.code sc_slices_Contains_string_string) := SPof_code rfl Tryz.func161 comp_slices_Contains_string_string
theorem slices_Contains_string_string_tree (s : List (List UInt8)) (v : List UInt8) (r : Bool) (T :
  ∃ (r1 : Int), (R_slices_Index_string_string s v r1) ∧
 (decide (0 ≤ r1)) = r) : R_slices_Contains_string_string s v r := by
 intro S
 rw [call_code sp_slices_Contains_string_string _ _ rfl]
 have F := U_slices_Contains_string_string
 obtain ⟨r1, q1, rfl⟩ := T
 simp only [R_slices_Index_string_string, le, List.cons_append, List.nil_append] at q1
 exact fi (aa q1 <| F)
def clsS (c : UInt8) : Int :=
 if c.toNat = 32 ∨ c.toNat = 10 then 1 else if c.toNat = 95 ∨ (97 ≤ c.toNat ∧ c.toNat ≤ 122) then 2
 else if 48 ≤ c.toNat ∧ c.toNat ≤ 57 then 3 else if c.toNat = 34 then 4 else if c.toNat = 35 then 5 else 0
theorem r_class (c : UInt8) : R_Q137 c (clsS c) := by
 apply Q137_tree
 unfold clsS
 repeat' first
  | refine ⟨fun h => ?_, fun h => ?_⟩
  | ((repeat' split) <;> omega)
theorem r_idxI (s : List Int) (v : Int) (hs : s.length < 1000000) : ∀ (k i : Nat), i + k = s.length → ∃ r : Int, At_slices_Index_int_int_1 s v i r ∧ (0 ≤ r ↔ v ∈ s.drop i)
 | 0, i, h => ⟨-1, by
   apply At_slices_Index_int_int_1_step
   exact ⟨fun h => by omega, fun _ => rfl⟩, by rw [List.drop_eq_nil_of_le (by omega)]; simp⟩
 | k + 1, i, h => by
  have hi : i < s.length := by omega
  have hg : s[((i : Nat) : Int).toNat]? = some s[i] := by rw [Int.toNat_natCast]; exact List.getElem?_eq_getElem hi
  have hd : s.drop i = s[i] :: s.drop (i + 1) := List.drop_eq_getElem_cons hi
  by_cases c : v = s[i]
  ·refine ⟨i, ?_, ?_⟩
   ·apply At_slices_Index_int_int_1_step
    exact ⟨fun _ => ⟨by omega, s[i], hg, fun _ => rfl, fun h => absurd c h⟩, fun h => by omega⟩
   ·rw [hd, ← c]; simp
  ·obtain ⟨r, h1, h2⟩ := r_idxI s v hs k (i + 1) (by omega)
   refine ⟨r, ?_, ?_⟩
   ·apply At_slices_Index_int_int_1_step
    exact ⟨fun _ => ⟨by omega, s[i], hg, fun h => absurd h c, fun _ => ⟨⟨by omega, by omega⟩, h1⟩⟩, fun h => by omega⟩
   ·rw [hd, h2, List.mem_cons]; simp [c]
theorem r_containsI (s : List Int) (v : Int) (hs : s.length < 1000000) : R_slices_Contains_int_int s v (decide (v ∈ s)) := by
 apply slices_Contains_int_int_tree
 obtain ⟨r, h1, h2⟩ := r_idxI s v hs s.length 0 (by omega)
 refine ⟨r, slices_Index_int_int_tree s v r h1, ?_⟩
 rw [List.drop_zero] at h2
 exact decide_eq_decide.2 h2
theorem r_idxS (s : List (List UInt8)) (v : List UInt8) (hs : s.length < 1000000) : ∀ (k i : Nat), i + k = s.length → ∃ r : Int, At_slices_Index_string_string_1 s v i r ∧ (0 ≤ r ↔ v ∈ s.drop i)
 | 0, i, h => ⟨-1, by
   apply At_slices_Index_string_string_1_step
   exact ⟨fun h => by omega, fun _ => rfl⟩, by rw [List.drop_eq_nil_of_le (by omega)]; simp⟩
 | k + 1, i, h => by
  have hi : i < s.length := by omega
  have hg : s[((i : Nat) : Int).toNat]? = some s[i] := by rw [Int.toNat_natCast]; exact List.getElem?_eq_getElem hi
  have hd : s.drop i = s[i] :: s.drop (i + 1) := List.drop_eq_getElem_cons hi
  by_cases c : v = s[i]
  ·refine ⟨i, ?_, ?_⟩
   ·apply At_slices_Index_string_string_1_step
    exact ⟨fun _ => ⟨by omega, s[i], hg, fun _ => rfl, fun h => absurd c h⟩, fun h => by omega⟩
   ·rw [hd, ← c]; simp
  ·obtain ⟨r, h1, h2⟩ := r_idxS s v hs k (i + 1) (by omega)
   refine ⟨r, ?_, ?_⟩
   ·apply At_slices_Index_string_string_1_step
    exact ⟨fun _ => ⟨by omega, s[i], hg, fun h => absurd h c, fun _ => ⟨⟨by omega, by omega⟩, h1⟩⟩, fun h => by omega⟩
   ·rw [hd, h2, List.mem_cons]; simp [c]
theorem r_containsS (s : List (List UInt8)) (v : List UInt8) (hs : s.length < 1000000) : R_slices_Contains_string_string s v (decide (v ∈ s)) := by
 apply slices_Contains_string_string_tree
 obtain ⟨r, h1, h2⟩ := r_idxS s v hs s.length 0 (by omega)
 refine ⟨r, slices_Index_string_string_tree s v r h1, ?_⟩
 rw [List.drop_zero] at h2
 exact decide_eq_decide.2 h2
def inC (cl : List Int) (c : UInt8) : Bool := decide (clsS c ∈ cl)
def spanS (cl : List Int) (s : List UInt8) : Nat := (s.takeWhile (inC cl)).length
theorem spanS_le (cl : List Int) : ∀ s : List UInt8, spanS cl s ≤ s.length
 | [] => Nat.le_refl _
 | c :: s => by
  unfold spanS
  rw [List.takeWhile_cons]
  split
  ·have := spanS_le cl s; unfold spanS at this; simp only [List.length_cons]; omega
  ·simp
theorem r_span_loop (s : List UInt8) (cl : List Int) (hc : cl.length < 1000000) (hs : s.length ≤ 1000000) : ∀ (k i : Nat), i + k = s.length → ∀ r : Int, r = (i : Int) + spanS cl (s.drop i) → At_Q151_1 s cl i r := by
 intro k
 induction k with
 | zero =>
  intro i hi r hr
  apply At_Q151_1_step
  rw [List.drop_eq_nil_of_le (by omega)] at hr
  exact ⟨fun h => by omega, fun _ => by rw [hr]; simp [spanS]; omega⟩
 | succ k ih =>
  intro i hi r hr
  have hlt : i < s.length := by omega
  have hg : s[((i : Nat) : Int).toNat]? = some s[i] := by rw [Int.toNat_natCast]; exact List.getElem?_eq_getElem hlt
  have hd : s.drop i = s[i] :: s.drop (i + 1) := List.drop_eq_getElem_cons hlt
  rw [hd, spanS, List.takeWhile_cons] at hr
  apply At_Q151_1_step
  refine ⟨fun _ => ⟨by omega, s[i], hg, _, r_class _, _, r_containsI cl _ hc, fun h => ?_, fun h => ?_⟩, fun h => by omega⟩
  ·refine ⟨⟨by omega, by omega⟩, ih (i + 1) (by omega) r ?_⟩
   have h' : inC cl s[i] = true := h
   rw [hr, if_pos h', spanS]
   simp only [List.length_cons]
   omega
  ·have h' : ¬ inC cl s[i] = true := h
   rw [hr, if_neg h']
   simp
theorem r_span (s : List UInt8) (cl : List Int) (hc : cl.length < 1000000) (hs : s.length ≤ 1000000) : R_Q151 s cl (spanS cl s) := by
 apply Q151_tree
 exact r_span_loop s cl hc hs s.length 0 (by omega) _ (by simp)
theorem inC23 (c : UInt8) : inC [2, 3] c = true ↔ clsS c = 2 ∨ clsS c = 3 := by
 unfold inC
 simp
def endS (s : List UInt8) : Nat := match s with
 | [] => 0
 | c :: _ => if clsS c = 2 then spanS [2, 3] s else 0
def nameS (s : List UInt8) : Bool := decide (s ≠ [] ∧ s.length ≤ 24 ∧ endS s = s.length)
theorem r_lexName (s : List UInt8) (hs : s.length ≤ 1000000) : R_Q115 s (nameS s) := by
 apply Q115_tree
 refine ⟨fun h => ?_, fun h => ⟨fun h2 => ?_, fun h2 => ?_⟩⟩
 ·simp [nameS, h]
 ·cases s with
  | nil => exact absurd rfl h
  | cons c t =>
   refine ⟨c, rfl, _, r_class c, fun h3 => ⟨_, r_span _ _ (by decide) hs, ?_⟩, fun h3 => ?_⟩
   ·refine decide_eq_decide.2 ?_
    rw [endS, if_pos h3]
    constructor
    ·intro e; exact ⟨by simp, by omega, by omega⟩
    ·intro e; have := e.2.2; omega
   ·refine (decide_eq_false ?_).symm
    rw [endS, if_neg h3]
    intro e
    have := e.2.2
    simp at this
 ·refine (decide_eq_false fun e => ?_).symm
  have := e.2.1
  omega
theorem index1 (b : UInt8) : ∀ s : List UInt8, Lib.index s [b] = if b ∈ s then ((s.takeWhile (· != b)).length : Int) else -1
 | [] => by simp [Lib.index]
 | c :: l => by
  unfold Lib.index
  rw [index1 b l]
  by_cases h : b = c
  ·subst h
   simp [List.takeWhile_cons]
  ·have h' : ¬ c = b := fun e => h e.symm
   by_cases hm : b ∈ l
   ·simp [List.takeWhile_cons, h, h', hm]
   ·simp [h, hm]
theorem take_while_len (p : UInt8 → Bool) : ∀ s : List UInt8, s.take (s.takeWhile p).length = s.takeWhile p
 | [] => rfl
 | c :: s => by
  rw [List.takeWhile_cons]
  split
  ·simp [take_while_len p s]
  ·rfl
theorem drop_while_len (p : UInt8 → Bool) : ∀ s : List UInt8, s.drop (s.takeWhile p).length = s.dropWhile p
 | [] => rfl
 | c :: s => by
  rw [List.takeWhile_cons, List.dropWhile_cons]
  split
  ·simp [drop_while_len p s]
  ·rfl
theorem cut1 (b : UInt8) (s : List UInt8) : Lib.cut s [b] = if b ∈ s then (s.takeWhile (· != b), (s.dropWhile (· != b)).drop 1, true) else (s, [], false) := by
 unfold Lib.cut
 rw [index1]
 by_cases h : b ∈ s
 ·simp only [h, if_true]
  rw [if_pos (by omega)]
  simp only [Int.toNat_natCast, List.length_cons, List.length_nil, Nat.zero_add]
  rw [take_while_len, ← drop_while_len, List.drop_drop]
 ·simp [h]
theorem r_Cut (s p : List UInt8) (hs : s.length ≤ 1000000) : R_strings_Cut s p (Lib.cut s p).1 (Lib.cut s p).2.1 (Lib.cut s p).2.2 := fun S => call_ext sp_strings_Cut S (if_pos (by omega))
theorem r_HasPrefix (s p : List UInt8) : R_strings_HasPrefix s p (Lib.hasPrefix s p) := fun S => call_ext sp_strings_HasPrefix S rfl
theorem r_SContains (s p : List UInt8) (hs : s.length ≤ 1000000) : R_strings_Contains s p (Lib.contains s p) := fun S => call_ext sp_strings_Contains S (if_pos (by omega))
def dottedS (s : List UInt8) : Bool := (Lib.cut s [46]).2.2 && nameS (Lib.cut s [46]).1 && nameS (Lib.cut s [46]).2.1
def refS (s : List UInt8) : List UInt8 × Bool := ((Lib.cut s [125]).1, (Lib.cut s [125]).2.2 && dottedS (Lib.cut s [125]).1)
theorem cut_len1 (s p : List UInt8) : (Lib.cut s p).1.length ≤ s.length := by
 unfold Lib.cut
 split
 ·simp; omega
 ·simp
theorem cut_len2 (s p : List UInt8) : (Lib.cut s p).2.1.length ≤ s.length := by
 unfold Lib.cut
 split
 ·simp
 ·simp
theorem r_reference (s : List UInt8) (h2 : 2 ≤ s.length) (hs : s.length ≤ 1000000) : R_Q166 s (refS (s.drop 2)).1 (refS (s.drop 2)).2 := by
 apply Q166_tree
 have e : (s.drop 2).take (s.length - 2) = s.drop 2 := List.take_of_length_le (by simp)
 rw [e]
 have l0 : (s.drop 2).length ≤ 1000000 := by simp; omega
 generalize s.drop 2 = t at l0
 have l1 := cut_len1 t [125]
 have l2 := cut_len1 (Lib.cut t [125]).1 [46]
 have l3 := cut_len2 (Lib.cut t [125]).1 [46]
 refine ⟨h2, _, _, _, r_Cut t [125] l0, _, _, _, r_Cut _ [46] (by omega), fun h3 => ⟨fun h6 => ⟨_, r_lexName _ (by omega), fun h7 => ⟨_, r_lexName _ (by omega), rfl, ?_⟩, fun h7 => ⟨rfl, ?_⟩⟩, fun h6 => ⟨rfl, ?_⟩⟩, fun h3 => ⟨rfl, ?_⟩⟩
 ·simp [refS, dottedS, h3, h6, h7]
 ·simp [refS, dottedS, h7]
 ·simp [refS, dottedS, h6]
 ·simp [refS, h3]
theorem takeWhile_stop (p : UInt8 → Bool) : ∀ (u : List UInt8) (c : UInt8) (v : List UInt8), (∀ x ∈ u, p x = true) → p c = false → (u ++ c :: v).takeWhile p = u
 | [], c, v, _, hc => by simp [List.takeWhile_cons, hc]
 | x :: u, c, v, h, hc => by
  rw [List.cons_append, List.takeWhile_cons, if_pos (h x (by simp)), takeWhile_stop p u c v (fun y hy => h y (by simp [hy])) hc]
theorem cut_split (b : UInt8) (u v : List UInt8) (h : b ∉ u) : Lib.cut (u ++ b :: v) [b] = (u, v, true) := by
 have h1 : (u ++ b :: v).takeWhile (· != b) = u := takeWhile_stop _ u b v (fun x hx => by simp; intro e; exact h (e ▸ hx)) (by simp)
 rw [cut1, if_pos (by simp), ← drop_while_len, h1]
 simp
theorem cut_none (b : UInt8) (s : List UInt8) (h : b ∉ s) : Lib.cut s [b] = (s, [], false) := by rw [cut1, if_neg h]
theorem splitAt_first (b : UInt8) : ∀ s : List UInt8, b ∈ s → ∃ u v, s = u ++ b :: v ∧ b ∉ u
 | [], h => by cases h
 | c :: s, h => by
  by_cases e : b = c
  ·exact ⟨[], s, by rw [e]; rfl, by simp⟩
  ·obtain ⟨u, v, h1, h2⟩ := splitAt_first b s (by rcases List.mem_cons.1 h with h | h; exact absurd h e; exact h)
   exact ⟨c :: u, v, by rw [h1]; rfl, by simp [e, h2]⟩
theorem span_in (cl : List Int) : ∀ (s : List UInt8) (x : UInt8), x ∈ s.take (spanS cl s) → inC cl x = true := fun s x h => by
 unfold spanS at h
 rw [take_while_len] at h
 exact List.all_eq_true.1 List.all_takeWhile x h
theorem endS_in (s : List UInt8) (x : UInt8) (h : x ∈ s.take (endS s)) : inC [2, 3] x = true := by
 unfold endS at h
 split at h
 ·simp at h
 ·split at h
  ·exact span_in _ _ x h
  ·simp at h
theorem name_in {s : List UInt8} (h : nameS s = true) (x : UInt8) (hx : x ∈ s) : inC [2, 3] x = true := by
 obtain ⟨_, _, h3⟩ := of_decide_eq_true h
 refine endS_in s x ?_
 rw [h3, List.take_length]
 exact hx
theorem in46 : inC [2, 3] 46 = false := by
 rw [← Bool.not_eq_true, inC23]
 decide
end Go.Proofs.YtfbcnpbhhooapaaGreatDoor.M
namespace Go.Proofs.YtfbcnpbhhooapaaGreatDoor.M
set_option linter.unusedSimpArgs false
set_option linter.unusedVariables false
set_option linter.unusedSectionVars false
open Go Classical
def kdS (k : Int) : Int :=
 if k < 1 then -2 else if 23 < k then -2 else if k ≤ 4 then 0 else if k = 5 then -1 else if k = 6 then -1 else if k = 8 then 1 else if k = 9 then 1 else if k = 10 then 3 else 2
theorem r_kids (k : Int) : R_Q73 k (kdS k) := by
 apply Q73_tree
 unfold kdS
 repeat' first | (refine ⟨fun h => ?_, fun h => ?_⟩) | (simp [*]; done) | (split <;> rename_i h <;> first | rfl | omega)
def truthS (s : List UInt8) : Bool := decide (s = [116, 114, 117, 101]) || decide (s = [102, 97, 108, 115, 101])
theorem r_truth (s : List UInt8) : R_Q114 s (truthS s) := by
 apply Q114_tree
 refine ⟨fun h => by simp [truthS, h], fun h => by simp [truthS, h]⟩
theorem r_parseRef (s : List UInt8) (hs : s.length ≤ 1000000) : R_Q113 s (dottedS s) := by
 apply Q113_tree
 have h1 : (Lib.cut s [46]).1.length ≤ s.length := cut_len1 _ _
 have h2 : (Lib.cut s [46]).2.1.length ≤ s.length := cut_len2 _ _
 refine ⟨_, _, _, r_Cut s [46] hs, fun h => ⟨_, r_lexName _ (by omega), fun h' => ⟨_, r_lexName _ (by omega), by simp [dottedS, h, h']⟩, fun h' => by simp [dottedS, h, h']⟩, fun h => by simp [dottedS, h]⟩
def printC (c : UInt8) : Bool := decide (¬ c.toNat < 32) || decide (c.toNat = 10)
def printedS (s : List UInt8) : Bool := s.all printC
theorem r_printed (s : List UInt8) (hs : s.length ≤ 1000000) : R_Q152 s (printedS s) := by
 have loop : ∀ (m i : Nat), i + m = s.length → At_Q152_1 s i ((s.drop i).all printC) := by
  intro m
  induction m with
  | zero =>
   intro i hi
   apply At_Q152_1_step
   exact ⟨fun h => by omega, fun _ => by rw [List.drop_of_length_le (by omega)]; rfl⟩
  | succ m ih =>
   intro i hi
   have hlt : i < s.length := by omega
   have hg : s[((i : Nat) : Int).toNat]? = some s[i] := by rw [Int.toNat_natCast]; exact List.getElem?_eq_getElem hlt
   have hd : s.drop i = s[i] :: s.drop (i + 1) := List.drop_eq_getElem_cons hlt
   have ih := ih (i + 1) (by omega)
   apply At_Q152_1_step
   refine ⟨fun _ => ⟨by omega, _, hg, fun h => ⟨fun h' => ⟨⟨by omega, by omega⟩, ?_⟩, fun h' => ?_⟩, fun h => ⟨⟨by omega, by omega⟩, ?_⟩⟩, fun h => by omega⟩
   ·rw [hd, List.all_cons, show printC s[i] = true by simp [printC]; omega, Bool.true_and]
    exact ih
   ·rw [hd, List.all_cons, show printC s[i] = false by simp [printC]; omega, Bool.false_and]
   ·rw [hd, List.all_cons, show printC s[i] = true by simp [printC]; omega, Bool.true_and]
    exact ih
 exact Q152_tree _ _ (loop s.length 0 (by omega))
def partsS : Bool → List Part → Bool
 | _, [] => true
 | b, p :: l => if p.Ref = true then dottedS p.Text && partsS false l else !(decide (p.Text = [])) && !b && printedS p.Text && partsS true l
def plP (l : List Part) : Prop := l.length ≤ 1000000 ∧ ∀ p ∈ l, p.Text.length ≤ 1000000
theorem r_partsP (l : List Part) (hl : plP l) : R_Q116 l (partsS false l) := by
 obtain ⟨hl, ht⟩ := hl
 have loop : ∀ (m i : Nat), i + m = l.length → At_Q116_1 l i (partsS (decide (∃ p, 0 < i ∧ l[i - 1]? = some p ∧ p.Ref = false)) (l.drop i)) := by
  intro m
  induction m with
  | zero =>
   intro i hi
   apply At_Q116_1_step
   exact ⟨fun h => by omega, fun _ => by rw [List.drop_of_length_le (by omega)]; rfl⟩
  | succ m ih =>
   intro i hi
   have hlt : i < l.length := by omega
   have hg : l[((i : Nat) : Int).toNat]? = some l[i] := by rw [Int.toNat_natCast]; exact List.getElem?_eq_getElem hlt
   have hd : l.drop i = l[i] :: l.drop (i + 1) := List.drop_eq_getElem_cons hlt
   have htx := ht _ (List.getElem_mem hlt)
   have ih := ih (i + 1) (by omega)
   have hnext : decide (∃ p, 0 < i + 1 ∧ l[i + 1 - 1]? = some p ∧ p.Ref = false) = !l[i].Ref := by
    rw [show i + 1 - 1 = i by omega, List.getElem?_eq_getElem hlt]
    cases h : l[i].Ref <;> simp [h]
   rw [hnext] at ih
   rw [hd]
   generalize hb : decide (∃ p, 0 < i ∧ l[i - 1]? = some p ∧ p.Ref = false) = b
   apply At_Q116_1_step
   refine ⟨fun _ => ⟨by omega, _, hg, fun hr => ⟨_, r_parseRef _ htx, fun h => ⟨⟨by omega, by omega⟩, ?_⟩, fun h => ?_⟩, fun hr => ⟨fun h => ?_, fun h => ⟨fun h0 => ?_, fun h0 => ?_⟩⟩⟩, fun h => by omega⟩
   ·rw [partsS, if_pos hr, h, Bool.true_and]
    rw [hr] at ih
    exact ih
   ·rw [partsS, if_pos hr, show dottedS l[i].Text = false by simpa using h, Bool.false_and]
   ·rw [partsS, if_neg hr, decide_eq_true h]
    rfl
   ·have hlt' : i - 1 < l.length := by omega
    have hg' : l[((i : Int) - 1).toNat]? = some l[i - 1] := by rw [show ((i : Int) - 1).toNat = i - 1 by omega]; exact List.getElem?_eq_getElem hlt'
    refine ⟨⟨by omega, by omega⟩, by omega, _, hg', fun hp => ?_, fun hp => ?_⟩
    ·have hb' : b = false := by
      rw [← hb, List.getElem?_eq_getElem hlt']
      simp [hp]
     refine ⟨_, r_printed _ htx, fun h5 => ⟨⟨by omega, by omega⟩, ?_⟩, fun h5 => ?_⟩
     ·rw [partsS, if_neg hr, decide_eq_false h, hb', h5]
      rw [show l[i].Ref = false by simpa using hr] at ih
      exact ih
     ·rw [partsS, if_neg hr, decide_eq_false h, hb', show printedS l[i].Text = false by simpa using h5]
      rfl
    ·have hb' : b = true := by
      rw [← hb, List.getElem?_eq_getElem hlt']
      simp [hp]
      omega
     rw [partsS, if_neg hr, decide_eq_false h, hb']
     rfl
   ·have hb' : b = false := by
     rw [← hb]
     simp
     omega
    refine ⟨_, r_printed _ htx, fun h5 => ⟨⟨by omega, by omega⟩, ?_⟩, fun h5 => ?_⟩
    ·rw [partsS, if_neg hr, decide_eq_false h, hb', h5]
     rw [show l[i].Ref = false by simpa using hr] at ih
     exact ih
    ·rw [partsS, if_neg hr, decide_eq_false h, hb', show printedS l[i].Text = false by simpa using h5]
     rfl
 have := loop l.length 0 (by omega)
 have e : decide (∃ p, 0 < 0 ∧ l[0 - 1]? = some p ∧ p.Ref = false) = false := by simp
 rw [e] at this
 exact Q116_tree _ _ this
def plS (n : Node) : Bool :=
 if n.Kind = 1 then decide (0 ≤ n.Num) && decide (n.Text = []) && decide (n.Parts = [])
 else if n.Kind = 3 then (decide (n.Num = 0) || decide (n.Num = 1)) && decide (n.Text = []) && decide (n.Parts = [])
 else if n.Kind = 4 then dottedS n.Text && decide (n.Num = 0) && !(truthS (Lib.cut n.Text [46]).1) && decide (n.Parts = [])
 else if n.Kind = 5 then nameS n.Text && decide (n.Num = 0) && !(truthS n.Text) && decide (n.Parts = [])
 else if n.Kind = 2 then decide (n.Num = 0) && decide (n.Text = []) && partsS false n.Parts
 else decide (n.Num = 0) && decide (n.Text = []) && decide (n.Parts = [])
structure NB (n : Node) : Prop where
 text : n.Text.length ≤ 1000000
 parts : plP n.Parts
 kids : n.Kids.length ≤ 1000000
theorem len0 {α : Type} (l : List α) : decide ((l.length : Int) = 0) = decide (l = []) := decide_eq_decide.2 (by rw [← List.length_eq_zero_iff]; omega)
theorem r_plainN (n : Node) (h : NB n) : R_Q74 n (plS n) := by
 apply Q74_tree
 unfold plS
 rw [len0]
 refine ⟨fun k => ?_, fun k => ⟨fun k3 => ?_, fun k3 => ⟨fun k4 => ?_, fun k4 => ⟨fun k5 => ?_, fun k5 => ⟨fun k2 => ?_, fun k2 => ?_⟩⟩⟩⟩⟩
 ·rw [if_pos k]
  exact ⟨fun a => ⟨fun b => by simp [a, b], fun b => by simp [a, b]⟩, fun a => by simp [a]⟩
 ·rw [if_neg k, if_pos k3]
  exact ⟨fun a => ⟨fun b => by simp [a, b], fun b => by simp [a, b]⟩, fun a => ⟨fun a' => ⟨fun b => by simp [a', b], fun b => by simp [a', b]⟩, fun a' => by simp [a, a']⟩⟩
 ·rw [if_neg k, if_neg k3, if_pos k4]
  refine ⟨_, _, _, r_Cut _ [46] h.text, _, r_parseRef _ h.text, fun a => ⟨_, r_truth _, fun b => ⟨fun c => by simp [a, b, c], fun c => by simp [a, b, c]⟩, fun b => by simp [b]⟩, fun a => ⟨fun _ => by simp [a], fun _ => by simp [a]⟩⟩
 ·rw [if_neg k, if_neg k3, if_neg k4, if_pos k5]
  refine ⟨_, r_lexName _ h.text, fun a => ⟨_, r_truth _, fun b => ⟨fun c => by simp [a, b, c], fun c => by simp [a, b, c]⟩, fun b => by simp [b]⟩, fun a => ⟨fun _ => by simp [a], fun _ => by simp [a]⟩⟩
 ·rw [if_neg k, if_neg k3, if_neg k4, if_neg k5, if_pos k2]
  refine ⟨_, r_partsP _ h.parts, fun a => ⟨fun b => by simp [a, b], fun b => by simp [b]⟩, fun a => by simp [a]⟩
 ·rw [if_neg k, if_neg k3, if_neg k4, if_neg k5, if_neg k2]
  refine ⟨fun a => ⟨fun b => by simp [a, b], fun b => by simp [b]⟩, fun a => by simp [a]⟩
def bval (l : List Node) (rs : List Int) (e : Nat) : Int := match l[e]? with
 | none => -1
 | some n => if (kdS n.Kind ≠ (n.Kids.length : Nat) ∧ kdS n.Kind ≠ -1) ∨ plS n = false then -1 else Bk.run (fun k => (rs[k.toNat]?).getD 0) e n.Kids.reverse
def bvals (l : List Node) : Nat → List Int
 | 0 => []
 | n + 1 => bvals l n ++ [bval l (bvals l n) n]
theorem bvals_len (l : List Node) : ∀ n, (bvals l n).length = n
 | 0 => rfl
 | n + 1 => by rw [bvals, List.length_append, bvals_len l n]; rfl
def begS (l : List Node) (e : Nat) : Int := bval l (bvals l e) e
theorem bvals_get (l : List Node) : ∀ {n j : Nat}, j < n → (bvals l n)[j]? = some (begS l j)
 | 0, j, h => absurd h (Nat.not_lt_zero _)
 | n + 1, j, h => by
  rw [bvals]
  by_cases hj : j < n
  ·rw [List.getElem?_append_left (by rw [bvals_len]; exact hj)]
   exact bvals_get l hj
  ·obtain rfl : j = n := by omega
   rw [List.getElem?_append_right (by rw [bvals_len]; omega), bvals_len, Nat.sub_self]
   rfl
theorem bkrun_le (o : Int → Int) : ∀ (ks : List Int) (f : Int), (∀ k, 0 ≤ k → k < f → o k ≤ k) → -1 ≤ f → Bk.run o f ks ≤ f
 | [], f, _, _ => Int.le_refl _
 | k :: ks, f, h, hf => by
  rw [Bk.run]
  split
  ·exact hf
  ·split
   ·exact hf
   ·rename_i h1 h2
    have h3 := h k (by omega) (by omega)
    have := bkrun_le o ks (o k) (fun q a b => h q a (by omega)) (by omega)
    omega
theorem begS_le (l : List Node) : ∀ (e : Nat), begS l e ≤ e := by
 intro e
 induction e using Nat.strongRecOn with
 | _ e ih =>
  unfold begS bval
  split
  ·omega
  ·split
   ·omega
   ·refine bkrun_le _ _ _ (fun k k0 k1 => ?_) (by omega)
    rw [bvals_get l (show k.toNat < e by omega)]
    have := ih k.toNat (by omega)
    simp only [Option.getD_some]
    omega
theorem kidsOf_map (ks : List Int) : kidsOf (ks.map eI) = some ks := by
 induction ks with
 | nil => rfl
 | cons k ks ih =>
  rw [List.map_cons]
  show kidsOf ([PV.int .i64 k] :: _) = _
  rw [kidsOf, ih]
  rfl
theorem askAll_of {o : Nat → List PV → Option PV} {lv : PV} {k : List Int → Qn} (l : List Node) (n : Nat) (h : ∀ j, j < n → o 47 [lv, .int .i64 (j : Nat)] = some (.int .i64 (begS l j))) : ∀ (m i : Nat), i + m = n → (askAll lv k m (bvals l i)).ev o = (k (bvals l n)).ev o
 | 0, i, hi => by
  obtain rfl : i = n := by omega
  rfl
 | m + 1, i, hi => by
  rw [askAll, Qn.ev, bvals_len, h i (by omega)]
  simp only
  rw [if_pos (begS_le l i)]
  exact askAll_of l n h m (i + 1) (by omega)
theorem r_begin (l : List Node) (hl : l.length ≤ 1000000) (hn : ∀ n ∈ l, NB n) : ∀ e, e < l.length → R_Q47 l (e : Nat) (begS l e) := by
 intro e
 induction e using Nat.strongRecOn with
 | _ e ih =>
  intro he S
  have hb := hn _ (List.getElem_mem he)
  have hg : l[e]? = some l[e] := List.getElem?_eq_getElem he
  refine call_orc sp_Q47 S ?_
  have hrow : (l.map eNode)[((e : Nat) : Int).toNat]? = some [PV.int .i64 l[e].Kind, .int .i64 l[e].Num, .str l[e].Text, .list 2 (l[e].Parts.map ePart) false, .list 1 (l[e].Kids.map eI) false] := by
   rw [Int.toNat_natCast, List.getElem?_map, hg]
   rfl
  simp only [beginQ]
  rw [if_pos ⟨by omega, by rw [Int.toNat_natCast, List.length_map]; exact he, by rw [List.length_map]; omega⟩, hrow]
  simp only [kidsOf_map]
  rw [if_pos (show l[e].Kids.length ≤ 1000000000 by have := hb.kids; omega)]
  have hk : pureO (call SP) 73 [.int .i64 l[e].Kind] = some (.int .i64 (kdS l[e].Kind)) := pureO_of (r_kids _ [])
  have hp : pureO (call SP) 74 [.agg [PV.int .i64 l[e].Kind, .int .i64 l[e].Num, .str l[e].Text, .list 2 (l[e].Parts.map ePart) false, .list 1 (l[e].Kids.map eI) false]] = some (.bool (plS l[e])) := pureO_of (r_plainN _ hb [])
  have hv : begS l e = if (kdS l[e].Kind ≠ (l[e].Kids.length : Nat) ∧ kdS l[e].Kind ≠ -1) ∨ plS l[e] = false then -1 else Bk.run (fun k => ((bvals l e)[k.toNat]?).getD 0) e l[e].Kids.reverse := by
   unfold begS bval
   rw [hg]
  simp only [beginK, Qn.ev, hk]
  by_cases hkk : kdS l[e].Kind ≠ (l[e].Kids.length : Nat) ∧ kdS l[e].Kind ≠ -1
  ·rw [if_pos hkk, hv, if_pos (.inl hkk)]
   rfl
  ·rw [if_neg hkk]
   simp only [Qn.ev, hp]
   cases hpl : plS l[e] with
   | false =>
    have hv' : begS l e = -1 := by rw [hv, if_pos (.inr hpl)]
    rw [hv']
    rfl
   | true =>
    have hv' : begS l e = Bk.run (fun k => ((bvals l e)[k.toNat]?).getD 0) e l[e].Kids.reverse := by
     rw [hv, if_neg]
     rintro (h | h)
     ·exact hkk h
     ·rw [hpl] at h; cases h
    rw [hv']
    simp only [Bool.true_eq_false, if_false, Int.toNat_natCast]
    exact askAll_of (o := pureO (call SP)) (lv := .list 5 (l.map eNode) false) (k := fun rs => .ret (.int .i64 (Bk.run (fun k => (rs[k.toNat]?).getD 0) e l[e].Kids.reverse))) l e (fun j hj => pureO_of (ih j hj (by omega) [])) e 0 (by omega)
def treeS (l : List Node) : Bool := decide (0 < l.length) && decide (begS l (l.length - 1) = 0)
theorem r_Tree (l : List Node) (hl : l.length ≤ 1000000) (hn : ∀ n ∈ l, NB n) : R_Q26 l (treeS l) := by
 apply Q26_tree
 refine ⟨fun h => ⟨⟨by omega, by omega⟩, begS l (l.length - 1), ?_, ?_⟩, fun h => ?_⟩
 ·have := r_begin l hl hn (l.length - 1) (by omega)
  rw [show ((l.length - 1 : Nat) : Int) = (l.length : Int) - 1 by omega] at this
  exact this
 ·rw [treeS, decide_eq_true (show 0 < l.length by omega), Bool.true_and]
 ·rw [treeS, decide_eq_false (show ¬ 0 < l.length by omega), Bool.false_and]
def nodeOk (n : Node) : Bool := (decide (kdS n.Kind = (n.Kids.length : Nat)) || decide (kdS n.Kind = -1)) && plS n
def stk : Nat → List Int → List Node → Bool
 | _, st, [] => decide (st.length = 1)
 | i, st, n :: l => if nodeOk n = true ∧ st.take n.Kids.length = n.Kids.reverse then stk (i + 1) ((i : Int) :: st.drop n.Kids.length) l else false
theorem begS_eq (l : List Node) {e : Nat} {n : Node} (h : l[e]? = some n) : begS l e = if nodeOk n = true then Bk.run (fun k => ((bvals l e)[k.toNat]?).getD 0) e n.Kids.reverse else -1 := by
 unfold begS bval
 rw [h]
 simp only
 by_cases hk : nodeOk n = true
 ·rw [if_pos hk, if_neg]
  simp only [nodeOk, Bool.and_eq_true, Bool.or_eq_true, decide_eq_true_eq] at hk
  rintro (h | h)
  ·rcases hk.1 with h' | h'
   ·exact h.1 h'
   ·exact h.2 h'
  ·rw [h] at hk; exact absurd hk.2 (by decide)
 ·rw [if_neg hk, if_pos]
  simp only [nodeOk, Bool.and_eq_true, Bool.or_eq_true, decide_eq_true_eq] at hk
  by_cases hp : plS n = true
  ·exact .inl ⟨fun h => hk ⟨.inl h, hp⟩, fun h => hk ⟨.inr h, hp⟩⟩
  ·exact .inr (by simpa using hp)
def Ch (l : List Node) : Nat → List Int → Prop
 | i, [] => i = 0
 | i, s :: st => 0 < i ∧ s = (i : Int) - 1 ∧ ∃ b : Nat, begS l (i - 1) = b ∧ Ch l b st
theorem run_chain (l : List Node) (e : Nat) : ∀ (st : List Int) (i k : Nat), i ≤ e → Ch l i st → k ≤ st.length → ∃ b : Nat, Bk.run (fun k => ((bvals l e)[k.toNat]?).getD 0) i (st.take k) = b ∧ Ch l b (st.drop k)
 | st, i, 0, _, h, _ => ⟨i, rfl, h⟩
 | [], i, k + 1, _, _, hk => absurd hk (by simp)
 | s :: st, i, k + 1, hi, ⟨h0, hs, b, hb, hc⟩, hk => by
  have hle := begS_le l (i - 1)
  obtain ⟨b', h1, h2⟩ := run_chain l e st b k (by omega) hc (by simpa using hk)
  refine ⟨b', ?_, h2⟩
  rw [List.take_succ_cons, Bk.run]
  have e1 : s.toNat = i - 1 := by omega
  have e2 : ((bvals l e)[s.toNat]?).getD 0 = b := by rw [e1, bvals_get l (show i - 1 < e by omega), Option.getD_some, hb]
  simp only [e2]
  rw [if_neg (by omega), if_neg (by omega)]
  exact h1
theorem stk_tree (l : List Node) : ∀ (m i : Nat) (st : List Int), i + m = l.length → Ch l i st → stk i st (l.drop i) = true → treeS l = true
 | 0, i, st, hi, hc, h => by
  rw [List.drop_of_length_le (by omega), stk, decide_eq_true_eq] at h
  match st, h, hc with
  | [s], _, ⟨h0, hs, b, hb, hc⟩ =>
   have hb0 : b = 0 := hc
   rw [treeS, decide_eq_true (show 0 < l.length by omega), Bool.true_and, decide_eq_true_eq, show l.length - 1 = i - 1 by omega, hb, hb0]
   rfl
 | m + 1, i, st, hi, hc, h => by
  have hlt : i < l.length := by omega
  rw [List.drop_eq_getElem_cons hlt, stk] at h
  split at h
  ·rename_i hn
   obtain ⟨h1, h2⟩ := hn
   have hk : l[i].Kids.length ≤ st.length := by
    have := congrArg List.length h2
    rw [List.length_take, List.length_reverse] at this
    omega
   obtain ⟨b, hb, hc'⟩ := run_chain l i st i l[i].Kids.length (Nat.le_refl _) hc hk
   rw [h2] at hb
   refine stk_tree l m (i + 1) ((i : Int) :: st.drop l[i].Kids.length) (by omega) ⟨by omega, by omega, b, ?_, hc'⟩ h
   rw [show i + 1 - 1 = i by omega, begS_eq l (List.getElem?_eq_getElem hlt), if_pos h1]
   exact hb
  ·cases h
theorem proc (l : List Node) : ∀ (e : Nat), e < l.length → ∀ (b : Nat), begS l e = b → ∀ st, stk b st (l.drop b) = stk (e + 1) ((e : Int) :: st) (l.drop (e + 1)) := by
 intro e
 induction e using Nat.strongRecOn with
 | _ e ih =>
  intro he b hb st
  rw [begS_eq l (List.getElem?_eq_getElem he)] at hb
  split at hb
  ·rename_i hn
   have rp : ∀ (ks : List Int) (f : Nat), f ≤ e → Bk.run (fun k => ((bvals l e)[k.toNat]?).getD 0) f ks = b → stk b st (l.drop b) = stk f (ks ++ st) (l.drop f) := by
    intro ks
    induction ks with
    | nil =>
     intro f hf h
     have hf' : f = b := by simp only [Bk.run] at h; omega
     rw [hf']
     rfl
    | cons k ks ihk =>
     intro f hf h
     rw [Bk.run] at h
     split at h
     ·omega
     ·rename_i h1
      split at h
      ·omega
      ·rename_i h2
       have hk : k.toNat < e := by omega
       have ek : ((bvals l e)[k.toNat]?).getD 0 = begS l k.toNat := by rw [bvals_get l hk, Option.getD_some]
       simp only [ek] at h h2
       have hle := begS_le l k.toNat
       obtain ⟨b1, hb1⟩ : ∃ b1 : Nat, begS l k.toNat = b1 := ⟨(begS l k.toNat).toNat, by omega⟩
       rw [hb1] at h
       rw [ihk b1 (by omega) h, ih k.toNat hk (by omega) b1 hb1 (ks ++ st)]
       have e1 : k.toNat + 1 = f := by omega
       have e2 : ((k.toNat : Nat) : Int) = k := by omega
       rw [e1, e2]
       rfl
   have hr := rp l[e].Kids.reverse e (Nat.le_refl _) hb
   rw [hr, List.drop_eq_getElem_cons he, stk, if_pos]
   ·have : (l[e].Kids.reverse ++ st).drop l[e].Kids.length = st := by
     have := List.drop_left (l₁ := l[e].Kids.reverse) (l₂ := st)
     rwa [List.length_reverse] at this
    rw [this]
   ·refine ⟨hn, ?_⟩
    have := List.take_left (l₁ := l[e].Kids.reverse) (l₂ := st)
    rwa [List.length_reverse] at this
  ·omega
theorem tree_stk (l : List Node) : treeS l = stk 0 [] l := by
 cases h : stk 0 [] l with
 | true => exact stk_tree l l.length 0 [] (by omega) rfl h
 | false =>
  rw [← Bool.not_eq_true]
  intro ht
  simp only [treeS, Bool.and_eq_true, decide_eq_true_eq] at ht
  have := proc l (l.length - 1) (by omega) 0 ht.2 []
  rw [List.drop_zero, h, show l.length - 1 + 1 = l.length by omega, List.drop_length, stk] at this
  simp at this
end Go.Proofs.YtfbcnpbhhooapaaGreatDoor.M
namespace Go.Proofs.YtfbcnpbhhooapaaGreatDoor.M
set_option linter.unusedSimpArgs false
set_option linter.unusedVariables false
open Go Classical
inductive PR (α : Type) where
 | ok (a : α) (ts : List Token) (out : List Node)
 | er (e : Int)
 | no
def PR.bind {α β : Type} : PR α → (α → List Token → List Node → PR β) → PR β
 | .ok a ts out, f => f a ts out
 | .er e, _ => .er e
 | .no, _ => .no
def isS (s : List UInt8) : List Token → Bool
 | t :: _ => decide (t.Kind = 4) && decide (t.Text = s)
 | [] => false
def needS {α : Type} (s : List UInt8) (ts : List Token) (k : List Token → PR α) : PR α := if isS s ts = true then k ts.tail else .er 5
def openS {α : Type} (s : List UInt8) (d : Nat) (ts : List Token) (k : List Token → PR α) : PR α := if isS s ts = true then (if 64 ≤ d then .er 6 else k ts.tail) else .er 5
def nd (kind : Int) (text : List UInt8) (kids : List Int) : Node := ⟨kind, 0, text, [], kids⟩
def idxS (s : List UInt8) : List (List UInt8) → Nat → Option Nat
 | [], _ => none
 | v :: l, i => if s = v then some i else idxS s l (i + 1)
def signsS : Nat → List (List UInt8)
 | 0 => [[124, 124]]
 | 1 => [[38, 38]]
 | 2 => [[61, 61], [33, 61], [60], [60, 61], [62], [62, 61]]
 | 3 => [[43], [45]]
 | _ => [[42], [47], [37]]
def firstS : Nat → Int
 | 0 => 11
 | 1 => 12
 | 2 => 13
 | 3 => 19
 | _ => 21
def opS (rank : Nat) (s : List UInt8) : Option Int := (idxS s (signsS rank) 0).map fun (i : Nat) => firstS rank + (i : Int)
mutual
def exprS : Nat → Nat → List Token → List Node → PR Int
 | 0, _, _, _ => .no
 | n + 1, d, ts, out => (chainS n 0 d ts out).bind fun a ts out =>
  if isS [63] ts = true then openS [63] d ts fun ts => (exprS n (d + 1) ts out).bind fun b ts out => needS [58] ts fun ts => (exprS n (d + 1) ts out).bind fun c ts out => .ok (out.length : Nat) ts (out ++ [nd 10 [] [a, b, c]])
  else .ok a ts out
def chainS : Nat → Nat → Nat → List Token → List Node → PR Int
 | 0, _, _, _, _ => .no
 | n + 1, rank, d, ts, out => if rank = 5 then unS n d ts out else (chainS n (rank + 1) d ts out).bind fun a ts out => loopS n rank d a ts out
def loopS : Nat → Nat → Nat → Int → List Token → List Node → PR Int
 | 0, _, _, _, _, _ => .no
 | _ + 1, _, _, _, [], _ => .no
 | n + 1, rank, d, a, t :: ts, out =>
  if t.Kind = 4 then
   match opS rank t.Text with
   | none => .ok a (t :: ts) out
   | some kind => (chainS n (rank + 1) d ts out).bind fun b ts out => if rank = 2 then .ok (out.length : Nat) ts (out ++ [nd kind [] [a, b]]) else loopS n rank d (out.length : Nat) ts (out ++ [nd kind [] [a, b]])
  else .ok a (t :: ts) out
def unS : Nat → Nat → List Token → List Node → PR Int
 | 0, _, _, _ => .no
 | n + 1, d, ts, out =>
  if isS [45] ts = true then openS [45] d ts fun ts => (unS n (d + 1) ts out).bind fun a ts out => .ok (out.length : Nat) ts (out ++ [nd 9 [] [a]])
  else if isS [33] ts = true then openS [33] d ts fun ts => (unS n (d + 1) ts out).bind fun a ts out => .ok (out.length : Nat) ts (out ++ [nd 8 [] [a]])
  else postS n d ts out
def postS : Nat → Nat → List Token → List Node → PR Int
 | 0, _, _, _ => .no
 | n + 1, d, ts, out => (primS n d ts out).bind fun a ts out => postL n d a ts out
def postL : Nat → Nat → Int → List Token → List Node → PR Int
 | 0, _, _, _, _ => .no
 | n + 1, d, a, ts, out =>
  if isS [91] ts = true then openS [91] d ts fun ts => (exprS n (d + 1) ts out).bind fun b ts out => needS [93] ts fun ts => postL n d (out.length : Nat) ts (out ++ [nd 7 [] [a, b]])
  else .ok a ts out
def manyS : Nat → Nat → List UInt8 → List Token → List Node → PR (List Int)
 | 0, _, _, _, _ => .no
 | n + 1, d, e, ts, out => if isS e ts = true then .ok [] ts.tail out else (exprS n d ts out).bind fun a ts out => manyL n d e [a] ts out
def manyL : Nat → Nat → List UInt8 → List Int → List Token → List Node → PR (List Int)
 | 0, _, _, _, _, _ => .no
 | n + 1, d, e, l, ts, out => if isS [44] ts = true then (exprS n d ts.tail out).bind fun a ts out => manyL n d e (l ++ [a]) ts out else needS e ts fun ts => .ok l ts out
def primS : Nat → Nat → List Token → List Node → PR Int
 | 0, _, _, _ => .no
 | _ + 1, _, [], _ => .no
 | n + 1, d, t :: ts, out =>
  if t.Kind = 3 then
   if t.Text = [116, 114, 117, 101] then .ok (out.length : Nat) ts (out ++ [⟨3, 1, [], [], []⟩])
   else if t.Text = [102, 97, 108, 115, 101] then .ok (out.length : Nat) ts (out ++ [⟨3, 0, [], [], []⟩])
   else if isS [46] ts = true then
    match ts.tail with
    | [] => .no
    | u :: ts => if u.Kind = 3 then .ok (out.length : Nat) ts (out ++ [nd 4 ((t.Text ++ [46]) ++ u.Text) []]) else .er 5
   else openS [40] d ts fun ts => (manyS n (d + 1) [41] ts out).bind fun l ts out => .ok (out.length : Nat) ts (out ++ [nd 5 t.Text l])
  else if t.Kind = 1 then .ok (out.length : Nat) ts (out ++ [⟨1, t.Num, [], [], []⟩])
  else if t.Kind = 2 then .ok (out.length : Nat) ts (out ++ [⟨2, 0, [], t.Parts, []⟩])
  else if isS [91] (t :: ts) = true then openS [91] d (t :: ts) fun ts => (manyS n (d + 1) [93] ts out).bind fun l ts out => .ok (out.length : Nat) ts (out ++ [nd 6 [] l])
  else openS [40] d (t :: ts) fun ts => (exprS n (d + 1) ts out).bind fun a ts out => needS [41] ts fun ts => .ok a ts out
end
def W : List Token → Prop
 | [] => False
 | [e] => e.Kind = 0
 | t :: u :: ts => t.Kind ≠ 0 ∧ W (u :: ts)
theorem W.tail {t : Token} {ts : List Token} (h : W (t :: ts)) (hk : t.Kind ≠ 0) : W ts := by
 cases ts with
 | nil => exact absurd h hk
 | cons u ts => exact h.2
theorem W.ne {ts : List Token} (h : W ts) : ts ≠ [] := fun e => by subst e; exact h
def pt (L ts : List Token) : PTokens := ⟨L, ((L.length - ts.length : Nat) : Int)⟩
theorem suf_tail {L ts : List Token} {t : Token} (h : (t :: ts) <:+ L) : ts <:+ L := (List.suffix_cons t ts).trans h
theorem suf_len {L ts : List Token} (h : ts <:+ L) : ts.length ≤ L.length := h.length_le
theorem suf_get {L ts : List Token} {t : Token} (h : (t :: ts) <:+ L) : L[(pt L (t :: ts)).pos.toNat]? = some t := by
 obtain ⟨p, rfl⟩ := h
 simp [pt]
theorem pt_next {L ts : List Token} {t : Token} (h : (t :: ts) <:+ L) : (PTokens.mk (pt L (t :: ts)).l ((pt L (t :: ts)).pos + 1)) = pt L ts := by
 have := suf_len h
 simp only [pt, List.length_cons] at this ⊢
 congr 1
 omega
theorem r_now {L ts : List Token} {t : Token} (h : (t :: ts) <:+ L) : R_Q38 (pt L (t :: ts)) t (pt L (t :: ts)) := Q38_tree _ _ _ ⟨by simp [pt], t, suf_get h, rfl, rfl⟩
theorem r_fail (t : PTokens) (e : Int) : R_Q42 t e (some e) t := Q42_tree _ _ _ _ ⟨rfl, rfl⟩
theorem r_is {L ts : List Token} (h : ts <:+ L) (hne : ts ≠ []) (s : List UInt8) : R_Q102 (pt L ts) s (isS s ts) (pt L ts) := by
 cases ts with
 | nil => exact absurd rfl hne
 | cons t ts =>
  refine Q102_tree _ _ _ _ ⟨t, _, r_now h, fun hk => ⟨t, _, r_now h, ?_, rfl⟩, fun hk => ⟨?_, rfl⟩⟩
  ·simp [isS, hk]
  ·simp [isS, hk]
theorem isS_kind {s : List UInt8} {t : Token} {ts : List Token} (h : isS s (t :: ts) = true) : t.Kind ≠ 0 := by
 simp only [isS, Bool.and_eq_true, decide_eq_true_eq] at h
 rw [h.1]
 decide
theorem W.shift {s : List UInt8} {ts : List Token} (h : W ts) (hi : isS s ts = true) : W ts.tail := by
 cases ts with
 | nil => exact h.elim
 | cons t ts => exact h.tail (isS_kind hi)
theorem suf_shift {L ts : List Token} (h : ts <:+ L) : ts.tail <:+ L := by
 cases ts with
 | nil => exact h
 | cons t ts => exact suf_tail h
theorem len_shift {s : List UInt8} {ts : List Token} (hi : isS s ts = true) : ts.tail.length + 1 = ts.length := by
 cases ts with
 | nil => cases hi
 | cons t ts => rfl
theorem r_may1 {L ts : List Token} (h : ts <:+ L) (hL : L.length ≤ 1000000) {s : List UInt8} (hi : isS s ts = true) : R_Q67 (pt L ts) s true (pt L ts.tail) := by
 cases ts with
 | nil => cases hi
 | cons t ts =>
  refine Q67_tree _ _ _ _ ⟨true, _, by have := r_is h (by simp) s; rw [hi] at this; exact this, fun _ => ⟨?_, rfl, pt_next h⟩, fun hf => absurd rfl hf⟩
  have := suf_len h
  simp only [pt, I64]
  omega
theorem r_may0 {L ts : List Token} (h : ts <:+ L) (hne : ts ≠ []) {s : List UInt8} (hi : isS s ts = false) : R_Q67 (pt L ts) s false (pt L ts) :=
 Q67_tree _ _ _ _ ⟨false, _, by have := r_is h hne s; rw [hi] at this; exact this, fun hf => (by cases hf), fun _ => ⟨rfl, rfl⟩⟩
theorem r_need1 {L ts : List Token} (h : ts <:+ L) (hL : L.length ≤ 1000000) {s : List UInt8} (hi : isS s ts = true) : R_Q66 (pt L ts) s none (pt L ts.tail) :=
 Q66_tree _ _ _ _ ⟨true, _, r_may1 h hL hi, fun _ => ⟨rfl, rfl⟩, fun hf => absurd rfl hf⟩
theorem r_need0 {L ts : List Token} (h : ts <:+ L) (hne : ts ≠ []) {s : List UInt8} (hi : isS s ts = false) : R_Q66 (pt L ts) s (some 5) (pt L ts) :=
 Q66_tree _ _ _ _ ⟨false, _, r_may0 h hne hi, fun hf => (by cases hf), fun _ => ⟨_, _, r_fail _ _, rfl, rfl⟩⟩
theorem r_name1 {L ts : List Token} {t : Token} (h : (t :: ts) <:+ L) (hL : L.length ≤ 1000000) (hk : t.Kind = 3) : R_Q101 (pt L (t :: ts)) none t.Text (pt L ts) := by
 refine Q101_tree _ _ _ _ ⟨t, _, r_now h, fun _ => ⟨?_, rfl, rfl, pt_next h⟩, fun hf => absurd hk hf⟩
 have := suf_len h
 simp only [pt, I64]
 omega
theorem r_name0 {L ts : List Token} {t : Token} (h : (t :: ts) <:+ L) (hk : ¬ t.Kind = 3) (r : List UInt8) : R_Q101 (pt L (t :: ts)) (some 5) r (pt L (t :: ts)) :=
 Q101_tree _ _ _ _ ⟨t, _, r_now h, fun hf => absurd hf hk, fun _ => ⟨_, _, r_fail _ _, rfl, rfl⟩⟩
def pe (L ts : List Token) (out : List Node) (d : Nat) : PExprs := ⟨pt L ts, out, (d : Int)⟩
theorem r_open1 {L ts : List Token} (h : ts <:+ L) (hL : L.length ≤ 1000000) {s : List UInt8} (hi : isS s ts = true) {d : Nat} (hd : ¬ 64 ≤ d) (out : List Node) (g : Nat) (z : Bool) : R_Q104 (pe L ts out d) g z s none (pe L ts.tail out (d + 1)) g z := by
 cases ts with
 | nil => cases hi
 | cons t ts =>
  refine Q104_tree _ _ _ _ _ _ _ _ ⟨true, _, by have := r_is h (by simp) s; rw [hi] at this; exact this, fun _ => ⟨fun hf => ?_, fun _ => ⟨none, _, r_need1 h hL hi, ?_, rfl, ?_, rfl, rfl⟩⟩, fun hf => absurd rfl hf⟩
  ·simp only [pe] at hf; omega
  ·simp only [pe, I64]; omega
  ·simp [pe]
theorem r_open6 {L ts : List Token} (h : ts <:+ L) (hne : ts ≠ []) {s : List UInt8} (hi : isS s ts = true) {d : Nat} (hd : 64 ≤ d) (out : List Node) (g : Nat) (z : Bool) : ∃ x' g' z', R_Q104 (pe L ts out d) g z s (some 6) x' g' z' :=
 ⟨_, _, _, Q104_tree _ _ _ _ _ _ _ _ ⟨true, _, by have := r_is h hne s; rw [hi] at this; exact this, fun _ => ⟨fun _ => ⟨_, _, r_fail _ _, rfl, rfl, rfl, rfl⟩, fun hf => absurd (by simp only [pe]; omega) hf⟩, fun hf => absurd rfl hf⟩⟩
theorem r_open5 {L ts : List Token} (h : ts <:+ L) (hne : ts ≠ []) {s : List UInt8} (hi : isS s ts = false) (d : Nat) (out : List Node) (g : Nat) (z : Bool) : ∃ x' g' z', R_Q104 (pe L ts out d) g z s (some 5) x' g' z' :=
 ⟨_, _, _, Q104_tree _ _ _ _ _ _ _ _ ⟨false, _, by have := r_is h hne s; rw [hi] at this; exact this, fun hf => (by cases hf), fun _ => ⟨_, _, r_need0 h hne hi, rfl, rfl, rfl, rfl⟩⟩⟩
theorem r_shut1 {L ts : List Token} (h : ts <:+ L) (hL : L.length ≤ 1000000) {s : List UInt8} (hi : isS s ts = true) {d : Nat} (hd : d ≤ 1000) (out : List Node) (g : Nat) (z : Bool) : R_Q181 (pe L ts out (d + 1)) g z s none (pe L ts.tail out d) g z := by
 refine Q181_tree _ _ _ _ _ _ _ _ ⟨none, _, r_need1 h hL hi, ?_, rfl, ?_, rfl, rfl⟩
 ·simp only [pe, I64]; omega
 ·simp only [pe]; congr 1; omega
theorem r_shut5 {L ts : List Token} (h : ts <:+ L) (hne : ts ≠ []) {s : List UInt8} (hi : isS s ts = false) (d : Nat) (out : List Node) (g : Nat) (z : Bool) : ∃ x' g' z', R_Q181 (pe L ts out d) g z s (some 5) x' g' z' :=
 ⟨_, _, _, Q181_tree _ _ _ _ _ _ _ _ ⟨_, _, r_need0 h hne hi, rfl, rfl, rfl, rfl⟩⟩
theorem r_CloneI (l : List Int) (h : l.length ≤ 1000000000) : R_slices_Clone_int_int l l := fun S => call_ext sp_slices_Clone_int_int S (by
 simp only [cloneX, List.length_map]
 rw [if_pos ⟨trivial, by omega, by omega⟩])
theorem r_put (x : PTokens) (out : List Node) (d : Int) (g : Nat) (z : Bool) (kind : Int) (text : List UInt8) (kids : List Int) (hk : kids.length ≤ 1000000) (ho : out.length ≤ 1000000) : R_Q105 (PExprs.mk x out d) g z kind text kids (out.length : Nat) (PExprs.mk x (out ++ [nd kind text kids]) d) g z := by
 refine Q105_tree _ _ _ _ _ _ _ _ _ _ ⟨kids, r_CloneI kids (by omega), ?_, ?_, ?_, rfl, rfl, rfl⟩
 ·simp only [bigRow]; omega
 ·simp only [I64]; omega
 ·simp
theorem set_lastP {α : Type} (l : List α) (a b : α) : (l ++ [a]).set l.length b = l ++ [b] := by simp
theorem r_num (x : PTokens) (out : List Node) (d : Int) (g : Nat) (kind n : Int) (ho : out.length ≤ 1000000) : R_Q202 (PExprs.mk x out d) g false kind n (out.length : Nat) (PExprs.mk x (out ++ [⟨kind, n, [], [], []⟩]) d) g false := by
 refine Q202_tree _ _ _ _ _ _ _ _ _ ⟨_, _, _, _, r_put x out d g false kind [] [] (by simp) ho, by omega, ?_, rfl, nd kind [] [], ?_, rfl, ?_, rfl, rfl⟩
 ·simp
 ·simp
 ·simp [nd]
theorem sp_slices_IndexFunc_api_Attr_api_Attr : SP 141 = some (.code sc_slices_IndexFunc_api_Attr_api_Attr) := SPof_code rfl Tryz.func141 comp_slices_IndexFunc_api_Attr_api_Attr
theorem G_slices_IndexFunc_api_Attr_api_Attr (xs : List Attr) (g : Nat) (caps : List PV) (p : Attr → Bool) (S : Sto) (hl : xs.length < 9223372036854775808) (h1 : ∀ S, handA S (PV.upL caps) = some (PV.upL caps, S)) (h2 : (PV.upL caps).any PV.hasSl = false) (h3 : ∀ a, joinA a (PV.upL caps) = a ++ PV.upL caps) (hc : ∀ x, x ∈ xs → ∀ f, call SP g (.agg (eAttr x) :: PV.upL caps) (f :: S) = .ok (.v (.bool (p x))) (f :: S)) : call SP 141 [.list 2 (xs.map eAttr) false, .func g caps] S = .ok (.v (.int .i64 (findI p 0 xs))) S := by
  have loop : ∀ (k i : Nat), i + k = xs.length → ∀ (e : Nat → PV) (f : Fr), e 0 = .list 2 (xs.map eAttr) false ∧ e 1 = .func g (PV.upL caps) ∧ e 7 = .int .i64 ((xs.length : Nat) : Int) ∧ e 8 = .int .i64 ((i : Nat) : Int) → k_slices_IndexFunc_api_Attr_api_Attr_1 SP (E SP (.loop b_slices_IndexFunc_api_Attr_api_Attr_1) ⟨e, f :: S⟩) = .ok (.v (.int .i64 (findI p i (xs.drop i)))) S := by
    intro k
    induction k with
    | zero =>
      intro i hi e f h
      have hlt : ¬ (((i : Nat) : Int) < ((xs.length : Nat) : Int)) := by omega
      rw [List.drop_eq_nil_of_le (by omega)]
      unfold k_slices_IndexFunc_api_Attr_api_Attr_1 findI
      rw [E_loop]
      simp only [h, hlt, U_slices_IndexFunc_api_Attr_api_Attr, lw, lx, le, Nat.reduceMul, UInt8.reduceToNat, reduceIte, reduceCtorEq, Nat.reduceEqDiff, Nat.reduceAdd, Nat.reduceLeDiff, Nat.reduceSub, Nat.reduceLT, Int.reduceEq, Int.reduceLT, Int.reduceLE, Int.reduceToNat, Int.reduceAdd, Int.reduceSub, Int.reduceMul, Int.reduceNeg, h1, h2, h3]
    | succ k ih =>
      intro i hi e f h
      have hlt : (((i : Nat) : Int) < ((xs.length : Nat) : Int)) := by omega
      have hi' : i < xs.length := by omega
      have hv : xs[i]? = some xs[i] := List.getElem?_eq_getElem hi'
      have hcx := hc xs[i] (List.getElem_mem hi')
      have w1 : IntKind.i64.wrap ((i : Int) + 1) = ((i + 1 : Nat) : Int) := by rw [wrap_i64 (by omega) (by omega)]; omega
      rw [List.drop_eq_getElem_cons hi']
      simp only [le] at hcx
      have hi2 := ih (i + 1) (by omega)
      unfold k_slices_IndexFunc_api_Attr_api_Attr_1 at hi2 ⊢
      unfold findI
      rw [E_loop]
      cases hp : p xs[i] with
      | true =>
        rw [hp] at hcx
        simp only [h, hlt, hv, hcx, w1, nat_nonneg, Int.toNat_natCast, U_slices_IndexFunc_api_Attr_api_Attr, lw, lx, le, Nat.reduceMul, UInt8.reduceToNat, reduceIte, reduceCtorEq, Nat.reduceEqDiff, Nat.reduceAdd, Nat.reduceLeDiff, Nat.reduceSub, Nat.reduceLT, Int.reduceEq, Int.reduceLT, Int.reduceLE, Int.reduceToNat, Int.reduceAdd, Int.reduceSub, Int.reduceMul, Int.reduceNeg, h1, h2, h3]
      | false =>
        rw [hp] at hcx
        simp only [h, hlt, hv, hcx, w1, nat_nonneg, Int.toNat_natCast, U_slices_IndexFunc_api_Attr_api_Attr, lw, lx, le, Nat.reduceMul, UInt8.reduceToNat, reduceIte, reduceCtorEq, Nat.reduceEqDiff, Nat.reduceAdd, Nat.reduceLeDiff, Nat.reduceSub, Nat.reduceLT, Int.reduceEq, Int.reduceLT, Int.reduceLE, Int.reduceToNat, Int.reduceAdd, Int.reduceSub, Int.reduceMul, Int.reduceNeg, h1, h2, h3]
        rw [hi2 _ _ ?_]
        simp only [h, w1, U_slices_IndexFunc_api_Attr_api_Attr, lw, lx, le, Nat.reduceMul, UInt8.reduceToNat, reduceIte, reduceCtorEq, Nat.reduceEqDiff, Nat.reduceAdd, Nat.reduceLeDiff, Nat.reduceSub, Nat.reduceLT, Int.reduceEq, Int.reduceLT, Int.reduceLE, Int.reduceToNat, Int.reduceAdd, Int.reduceSub, Int.reduceMul, Int.reduceNeg, h1, h2, h3]
  rw [call_code sp_slices_IndexFunc_api_Attr_api_Attr _ _ rfl]
  simp only [U_slices_IndexFunc_api_Attr_api_Attr, lw, lx, le, Nat.reduceMul, UInt8.reduceToNat, reduceIte, reduceCtorEq, Nat.reduceEqDiff, Nat.reduceAdd, Nat.reduceLeDiff, Nat.reduceSub, Nat.reduceLT, Int.reduceEq, Int.reduceLT, Int.reduceLE, Int.reduceToNat, Int.reduceAdd, Int.reduceSub, Int.reduceMul, Int.reduceNeg, h1, h2, h3]
  have := loop xs.length 0 (by omega)
  unfold k_slices_IndexFunc_api_Attr_api_Attr_1 at this
  rw [this _ _ ?_]
  · rw [List.drop_zero]
  · simp only [U_slices_IndexFunc_api_Attr_api_Attr, lw, lx, le, Nat.reduceMul, UInt8.reduceToNat, reduceIte, reduceCtorEq, Nat.reduceEqDiff, Nat.reduceAdd, Nat.reduceLeDiff, Nat.reduceSub, Nat.reduceLT, Int.reduceEq, Int.reduceLT, Int.reduceLE, Int.reduceToNat, Int.reduceAdd, Int.reduceSub, Int.reduceMul, Int.reduceNeg, h1, h2, h3]
    try simp
theorem sp_slices_ContainsFunc_api_Attr_api_Attr : SP 99 = some (.code sc_slices_ContainsFunc_api_Attr_api_Attr) := SPof_code rfl Tryz.func99 comp_slices_ContainsFunc_api_Attr_api_Attr
theorem G_slices_ContainsFunc_api_Attr_api_Attr (xs : List Attr) (g : Nat) (caps : List PV) (p : Attr → Bool) (S : Sto) (hl : xs.length < 9223372036854775808) (h1 : ∀ S, handA S (PV.upL caps) = some (PV.upL caps, S)) (h2 : (PV.upL caps).any PV.hasSl = false) (h3 : ∀ a, joinA a (PV.upL caps) = a ++ PV.upL caps) (h1' : ∀ S, handA S (PV.upL (PV.upL caps)) = some (PV.upL (PV.upL caps), S)) (h2' : (PV.upL (PV.upL caps)).any PV.hasSl = false) (h3' : ∀ a, joinA a (PV.upL (PV.upL caps)) = a ++ PV.upL (PV.upL caps)) (hc : ∀ x, x ∈ xs → ∀ f f', call SP g (.agg (eAttr x) :: PV.upL (PV.upL caps)) (f :: f' :: S) = .ok (.v (.bool (p x))) (f :: f' :: S)) : call SP 99 [.list 2 (xs.map eAttr) false, .func g caps] S = .ok (.v (.bool (xs.any p))) S := by
  have ix := fun f' => G_slices_IndexFunc_api_Attr_api_Attr xs g (PV.upL caps) p (f' :: S) hl h1' h2' h3' fun x hx f => hc x hx f f'
  have hd := findI_dec p xs
  rw [call_code sp_slices_ContainsFunc_api_Attr_api_Attr _ _ rfl]
  simp only [ix, hd, U_slices_ContainsFunc_api_Attr_api_Attr, lw, lx, le, Nat.reduceMul, UInt8.reduceToNat, reduceIte, reduceCtorEq, Nat.reduceEqDiff, Nat.reduceAdd, Nat.reduceLeDiff, Nat.reduceSub, Nat.reduceLT, Int.reduceEq, Int.reduceLT, Int.reduceLE, Int.reduceToNat, Int.reduceAdd, Int.reduceSub, Int.reduceMul, Int.reduceNeg, h1, h2, h3]
theorem sp_Q103 : SP 103 = some (.code sc_Q103) := SPof_code rfl Tryz.func103 comp_Q103
def At_Q103_1 (rank : Int) (i13 : Int) (x14 : PExprs) (g15 : Nat) (z16 : Bool) (o : Option Int) (r : Int) (x' : PExprs) (x'_g2 : Nat) (x'_z2 : Bool) : Prop := ∀ (S : Sto) (e : Nat → PV) (f : Fr) (n0 t0 : Nat), ((getBox S n0 t0).map (List.take 4) = some [.list 5 (x14.tokens.l.map eToken) false, .int .i64 x14.tokens.pos, .sl 0 (.cell t0 2) 0 x14.out.length x14.out.length g15 false, .int .i64 x14.deep] ∧ getArr S n0 (.cell t0 2) = some ⟨5, x14.out.map eNode, z16, g15⟩) → e 0 = .ptr (n0 + 1) t0 0 ∧ e 1 = .int .i64 rank ∧ e 5 = .int .i64 i13 → k_Q103_1 SP (E SP (.loop b_Q103_1) ⟨e, f :: S⟩) = po 116 o (.v (.int .i64 r)) (setArr (setBox S n0 t0 ([.list 5 (x'.tokens.l.map eToken) false, .int .i64 x'.tokens.pos, .sl 0 (.cell t0 2) 0 x'.out.length x'.out.length x'_g2 false, .int .i64 x'.deep] ++ ((getBox S n0 t0).getD []).drop 4)) n0 (.cell t0 2) ⟨5, x'.out.map eNode, x'_z2, x'_g2⟩)
theorem At_Q103_1_step (rank : Int) (i13 : Int) (x14 : PExprs) (g15 : Nat) (z16 : Bool) (o : Option Int) (r : Int) (x' : PExprs) (x'_g2 : Nat) (x'_z2 : Bool) (T :
  ∃ (r17 : Token) (y18 : PTokens), (R_Q38 x14.tokens r17 y18) ∧
 ((r17.Kind = 4) →
  ∃ (r19 : Token) (y20 : PTokens), (R_Q38 y18 r19 y20) ∧
  ∃ (r21 : Int) (r22 : Bool), (R_Q143 rank r19.Text r21 r22) ∧
  ((r22 = true) →
   (I64 (y20.pos + 1)) ∧
   (I64 (rank + 1)) ∧
   ∃ (o24 : Option Int) (r23 : Int) (y25 : PExprs) (g26 : Nat) (z27 : Bool), (R_Q103 (PExprs.mk (PTokens.mk y20.l (y20.pos + 1)) x14.out x14.deep) g15 z16 (rank + 1) o24 r23 y25 g26 z27) ∧
   (match o24 with
   | none => (∃ (r29 : Int) (y30 : PExprs) (g31 : Nat) (z32 : Bool), (R_Q105 y25 g26 z27 r21 [] [i13, r23] r29 y30 g31 z32) ∧
    ((rank = 2) →
     none = o ∧ r29 = r ∧ y30 = x' ∧ g31 = x'_g2 ∧ z32 = x'_z2) ∧
    (¬ (rank = 2) →
     At_Q103_1 rank r29 y30 g31 z32 o r x' x'_g2 x'_z2))
   | some e28 => (some e28 = o ∧ y25 = x' ∧ g26 = x'_g2 ∧ z27 = x'_z2))) ∧
  (¬ (r22 = true) →
   none = o ∧ i13 = r ∧ (PExprs.mk y20 x14.out x14.deep) = x' ∧ g15 = x'_g2 ∧ z16 = x'_z2)) ∧
 (¬ (r17.Kind = 4) →
  none = o ∧ i13 = r ∧ (PExprs.mk y18 x14.out x14.deep) = x' ∧ g15 = x'_g2 ∧ z16 = x'_z2)) : At_Q103_1 rank i13 x14 g15 z16 o r x' x'_g2 x'_z2 := by
 intro S e f n0 t0 H0 h
 obtain ⟨hb0, ha0⟩ := H0
 obtain ⟨w0, hB0⟩ := take_some hb0
 have hn0 := o_getBox_lt hB0
 unfold k_Q103_1
 rw [E_loop]
 have F := U_Q103
 obtain ⟨r17, y18, q1, T⟩ := T
 simp only [R_Q38, le, List.cons_append, List.nil_append] at q1
 replace F := aa ha0 <| aa hB0 <| aa hn0 <| aa h <| aa q1 <| F
 by_cases c2 : r17.Kind = 4
 · replace T := T.1 c2
   obtain ⟨r19, y20, q3, r21, r22, q4, T⟩ := T
   simp only [R_Q38, le, List.cons_append, List.nil_append] at q3
   simp only [R_Q143, le, List.cons_append, List.nil_append] at q4
   replace F := aa (eq_true c2) <| aa q3 <| aa q4 <| F
   by_cases c5 : r22 = true
   · replace T := T.1 c5
     obtain ⟨p6, p7, o24, r23, y25, g26, z27, q8, T⟩ := T
     simp only [R_Q103, le, List.cons_append, List.nil_append] at q8
     replace F := aa c5 <| aa p6.wrap <| aa p7.wrap <| aa q8 <| F
     cases o24 with
     | none =>
       dsimp only at T
       obtain ⟨r29, y30, g31, z32, q9, T⟩ := T
       simp only [R_Q105, le, List.cons_append, List.nil_append] at q9
       replace F := aa q9 <| F
       by_cases c10 : rank = 2
       · replace T := T.1 c10
         obtain ⟨rfl, rfl, rfl, rfl, rfl⟩ := T
         exact fi (aa (eq_true c10) <| F)
       · replace T := T.2 c10
         replace F := aa (eq_false c10) <| F
         try simp only [F, lw, lx, le, Nat.reduceMul, UInt8.reduceToNat, reduceIte, reduceCtorEq, Nat.reduceEqDiff, Nat.reduceAdd, Nat.reduceLeDiff, Nat.reduceSub, Nat.reduceLT, Int.reduceEq, Int.reduceLT, Int.reduceLE, Int.reduceToNat, Int.reduceAdd, Int.reduceSub, Int.reduceMul, Int.reduceNeg]
         refine (T _ _ _ n0 t0 ?_ ?_).trans ?_
         all_goals exact fi F
     | some e28 =>
       dsimp only at T
       obtain ⟨rfl, rfl, rfl, rfl⟩ := T
       exact fi F
   · replace T := T.2 c5
     replace c5 := Bool.eq_false_iff.2 c5
     obtain ⟨rfl, rfl, rfl, rfl, rfl⟩ := T
     exact fi (aa c5 <| F)
 · replace T := T.2 c2
   obtain ⟨rfl, rfl, rfl, rfl, rfl⟩ := T
   exact fi (aa (eq_false c2) <| F)
theorem Q103_tree (x : PExprs) (x_g2 : Nat) (x_z2 : Bool) (rank : Int) (o : Option Int) (r : Int) (x' : PExprs) (x'_g2 : Nat) (x'_z2 : Bool) (T :
  ((rank = 5) →
  ∃ (o2 : Option Int) (r1 : Int) (y3 : PExprs) (g4 : Nat) (z5 : Bool), (R_Q142 x x_g2 x_z2 o2 r1 y3 g4 z5) ∧
  (match o2 with
  | none => (none = o ∧ r1 = r ∧ y3 = x' ∧ g4 = x'_g2 ∧ z5 = x'_z2)
  | some e6 => (some e6 = o ∧ y3 = x' ∧ g4 = x'_g2 ∧ z5 = x'_z2))) ∧
 (¬ (rank = 5) →
  (I64 (rank + 1)) ∧
  ∃ (o8 : Option Int) (r7 : Int) (y9 : PExprs) (g10 : Nat) (z11 : Bool), (R_Q103 x x_g2 x_z2 (rank + 1) o8 r7 y9 g10 z11) ∧
  (match o8 with
  | none => (At_Q103_1 rank r7 y9 g10 z11 o r x' x'_g2 x'_z2)
  | some e12 => (some e12 = o ∧ y9 = x' ∧ g10 = x'_g2 ∧ z11 = x'_z2)))) : R_Q103 x x_g2 x_z2 rank o r x' x'_g2 x'_z2 := by
 intro S n0 t0 H0
 obtain ⟨hb0, ha0⟩ := H0
 obtain ⟨w0, hB0⟩ := take_some hb0
 have hn0 := o_getBox_lt hB0
 rw [call_code sp_Q103 _ _ rfl]
 have F := U_Q103
 replace F := aa ha0 <| aa hB0 <| aa hn0 <| F
 by_cases c1 : rank = 5
 · replace T := T.1 c1
   obtain ⟨o2, r1, y3, g4, z5, q2, T⟩ := T
   simp only [R_Q142, le, List.cons_append, List.nil_append] at q2
   replace F := aa (eq_true c1) <| aa q2 <| F
   cases o2 with
   | none =>
     dsimp only at T
     obtain ⟨rfl, rfl, rfl, rfl, rfl⟩ := T
     exact fi F
   | some e6 =>
     dsimp only at T
     obtain ⟨rfl, rfl, rfl, rfl⟩ := T
     exact fi F
 · replace T := T.2 c1
   obtain ⟨p3, o8, r7, y9, g10, z11, q4, T⟩ := T
   simp only [R_Q103, le, List.cons_append, List.nil_append] at q4
   replace F := aa (eq_false c1) <| aa p3.wrap <| aa q4 <| F
   cases o8 with
   | none =>
     dsimp only at T
     try simp only [F, lw, lx, le, Nat.reduceMul, UInt8.reduceToNat, reduceIte, reduceCtorEq, Nat.reduceEqDiff, Nat.reduceAdd, Nat.reduceLeDiff, Nat.reduceSub, Nat.reduceLT, Int.reduceEq, Int.reduceLT, Int.reduceLE, Int.reduceToNat, Int.reduceAdd, Int.reduceSub, Int.reduceMul, Int.reduceNeg]
     refine (T _ _ _ n0 t0 ?_ ?_).trans ?_
     all_goals exact fi F
   | some e12 =>
     dsimp only at T
     obtain ⟨rfl, rfl, rfl, rfl⟩ := T
     exact fi F
theorem sp_Q68 : SP 68 = some (.code sc_Q68) := SPof_code rfl Tryz.func68 comp_Q68
theorem Q68_tree (x : PExprs) (x_g2 : Nat) (x_z2 : Bool) (o : Option Int) (r : Int) (x' : PExprs) (x'_g2 : Nat) (x'_z2 : Bool) (T :
  ∃ (o2 : Option Int) (r1 : Int) (y3 : PExprs) (g4 : Nat) (z5 : Bool), (R_Q103 x x_g2 x_z2 0 o2 r1 y3 g4 z5) ∧
 (match o2 with
 | none => (∃ (r7 : Bool) (y8 : PTokens), (R_Q102 y3.tokens [63] r7 y8) ∧
  ((r7 = true) →
   ∃ (o9 : Option Int) (y10 : PExprs) (g11 : Nat) (z12 : Bool), (R_Q104 (PExprs.mk y8 y3.out y3.deep) g4 z5 [63] o9 y10 g11 z12) ∧
   (match o9 with
   | none => (∃ (o15 : Option Int) (r14 : Int) (y16 : PExprs) (g17 : Nat) (z18 : Bool), (R_Q68 y10 g11 z12 o15 r14 y16 g17 z18) ∧
    (match o15 with
    | none => (∃ (o20 : Option Int) (y21 : PTokens), (R_Q66 y16.tokens [58] o20 y21) ∧
     (match o20 with
     | none => (∃ (o24 : Option Int) (r23 : Int) (y25 : PExprs) (g26 : Nat) (z27 : Bool), (R_Q68 (PExprs.mk y21 y16.out y16.deep) g17 z18 o24 r23 y25 g26 z27) ∧
      (match o24 with
      | none => ((I64 (y25.deep - 1)) ∧
       ∃ (r29 : Int) (y30 : PExprs) (g31 : Nat) (z32 : Bool), (R_Q105 (PExprs.mk y25.tokens y25.out (y25.deep - 1)) g26 z27 10 [] [r1, r14, r23] r29 y30 g31 z32) ∧
       none = o ∧ r29 = r ∧ y30 = x' ∧ g31 = x'_g2 ∧ z32 = x'_z2)
      | some e28 => (some e28 = o ∧ y25 = x' ∧ g26 = x'_g2 ∧ z27 = x'_z2)))
     | some e22 => (some e22 = o ∧ (PExprs.mk y21 y16.out y16.deep) = x' ∧ g17 = x'_g2 ∧ z18 = x'_z2)))
    | some e19 => (some e19 = o ∧ y16 = x' ∧ g17 = x'_g2 ∧ z18 = x'_z2)))
   | some e13 => (some e13 = o ∧ y10 = x' ∧ g11 = x'_g2 ∧ z12 = x'_z2))) ∧
  (¬ (r7 = true) →
   none = o ∧ r1 = r ∧ (PExprs.mk y8 y3.out y3.deep) = x' ∧ g4 = x'_g2 ∧ z5 = x'_z2))
 | some e6 => (some e6 = o ∧ y3 = x' ∧ g4 = x'_g2 ∧ z5 = x'_z2))) : R_Q68 x x_g2 x_z2 o r x' x'_g2 x'_z2 := by
 intro S n0 t0 H0
 obtain ⟨hb0, ha0⟩ := H0
 obtain ⟨w0, hB0⟩ := take_some hb0
 have hn0 := o_getBox_lt hB0
 rw [call_code sp_Q68 _ _ rfl]
 have F := U_Q68
 obtain ⟨o2, r1, y3, g4, z5, q1, T⟩ := T
 simp only [R_Q103, le, List.cons_append, List.nil_append] at q1
 replace F := aa ha0 <| aa hB0 <| aa hn0 <| aa q1 <| F
 cases o2 with
 | none =>
   dsimp only at T
   obtain ⟨r7, y8, q2, T⟩ := T
   simp only [R_Q102, le, List.cons_append, List.nil_append] at q2
   replace F := aa q2 <| F
   by_cases c3 : r7 = true
   · replace T := T.1 c3
     obtain ⟨o9, y10, g11, z12, q4, T⟩ := T
     simp only [R_Q104, le, List.cons_append, List.nil_append] at q4
     replace F := aa c3 <| aa q4 <| F
     cases o9 with
     | none =>
       dsimp only at T
       obtain ⟨o15, r14, y16, g17, z18, q5, T⟩ := T
       simp only [R_Q68, le, List.cons_append, List.nil_append] at q5
       replace F := aa q5 <| F
       cases o15 with
       | none =>
         dsimp only at T
         obtain ⟨o20, y21, q6, T⟩ := T
         simp only [R_Q66, le, List.cons_append, List.nil_append] at q6
         replace F := aa q6 <| F
         cases o20 with
         | none =>
           dsimp only at T
           obtain ⟨o24, r23, y25, g26, z27, q7, T⟩ := T
           simp only [R_Q68, le, List.cons_append, List.nil_append] at q7
           replace F := aa q7 <| F
           cases o24 with
           | none =>
             dsimp only at T
             obtain ⟨p8, r29, y30, g31, z32, q9, rfl, rfl, rfl, rfl, rfl⟩ := T
             simp only [R_Q105, le, List.cons_append, List.nil_append] at q9
             exact fi (aa p8.wrap <| aa q9 <| F)
           | some e28 =>
             dsimp only at T
             obtain ⟨rfl, rfl, rfl, rfl⟩ := T
             exact fi F
         | some e22 =>
           dsimp only at T
           obtain ⟨rfl, rfl, rfl, rfl⟩ := T
           exact fi F
       | some e19 =>
         dsimp only at T
         obtain ⟨rfl, rfl, rfl, rfl⟩ := T
         exact fi F
     | some e13 =>
       dsimp only at T
       obtain ⟨rfl, rfl, rfl, rfl⟩ := T
       exact fi F
   · replace T := T.2 c3
     replace c3 := Bool.eq_false_iff.2 c3
     obtain ⟨rfl, rfl, rfl, rfl, rfl⟩ := T
     exact fi (aa c3 <| F)
 | some e6 =>
   dsimp only at T
   obtain ⟨rfl, rfl, rfl, rfl⟩ := T
   exact fi F
theorem sp_Q142 : SP 142 = some (.code sc_Q142) := SPof_code rfl Tryz.func142 comp_Q142
theorem Q142_tree (x : PExprs) (x_g2 : Nat) (x_z2 : Bool) (o : Option Int) (r : Int) (x' : PExprs) (x'_g2 : Nat) (x'_z2 : Bool) (T :
  ∃ (r1 : Bool) (y2 : PTokens), (R_Q102 x.tokens [45] r1 y2) ∧
 ((r1 = true) →
  ∃ (o3 : Option Int) (y4 : PExprs) (g5 : Nat) (z6 : Bool), (R_Q104 (PExprs.mk y2 x.out x.deep) x_g2 x_z2 [45] o3 y4 g5 z6) ∧
  (match o3 with
  | none => (∃ (o9 : Option Int) (r8 : Int) (y10 : PExprs) (g11 : Nat) (z12 : Bool), (R_Q142 y4 g5 z6 o9 r8 y10 g11 z12) ∧
   (match o9 with
   | none => ((I64 (y10.deep - 1)) ∧
    ∃ (r14 : Int) (y15 : PExprs) (g16 : Nat) (z17 : Bool), (R_Q105 (PExprs.mk y10.tokens y10.out (y10.deep - 1)) g11 z12 9 [] [r8] r14 y15 g16 z17) ∧
    none = o ∧ r14 = r ∧ y15 = x' ∧ g16 = x'_g2 ∧ z17 = x'_z2)
   | some e13 => (some e13 = o ∧ y10 = x' ∧ g11 = x'_g2 ∧ z12 = x'_z2)))
  | some e7 => (some e7 = o ∧ y4 = x' ∧ g5 = x'_g2 ∧ z6 = x'_z2))) ∧
 (¬ (r1 = true) →
  ∃ (r18 : Bool) (y19 : PTokens), (R_Q102 y2 [33] r18 y19) ∧
  ((r18 = true) →
   ∃ (o20 : Option Int) (y21 : PExprs) (g22 : Nat) (z23 : Bool), (R_Q104 (PExprs.mk y19 x.out x.deep) x_g2 x_z2 [33] o20 y21 g22 z23) ∧
   (match o20 with
   | none => (∃ (o26 : Option Int) (r25 : Int) (y27 : PExprs) (g28 : Nat) (z29 : Bool), (R_Q142 y21 g22 z23 o26 r25 y27 g28 z29) ∧
    (match o26 with
    | none => ((I64 (y27.deep - 1)) ∧
     ∃ (r31 : Int) (y32 : PExprs) (g33 : Nat) (z34 : Bool), (R_Q105 (PExprs.mk y27.tokens y27.out (y27.deep - 1)) g28 z29 8 [] [r25] r31 y32 g33 z34) ∧
     none = o ∧ r31 = r ∧ y32 = x' ∧ g33 = x'_g2 ∧ z34 = x'_z2)
    | some e30 => (some e30 = o ∧ y27 = x' ∧ g28 = x'_g2 ∧ z29 = x'_z2)))
   | some e24 => (some e24 = o ∧ y21 = x' ∧ g22 = x'_g2 ∧ z23 = x'_z2))) ∧
  (¬ (r18 = true) →
   ∃ (o36 : Option Int) (r35 : Int) (y37 : PExprs) (g38 : Nat) (z39 : Bool), (R_Q167 (PExprs.mk y19 x.out x.deep) x_g2 x_z2 o36 r35 y37 g38 z39) ∧
   (match o36 with
   | none => (none = o ∧ r35 = r ∧ y37 = x' ∧ g38 = x'_g2 ∧ z39 = x'_z2)
   | some e40 => (some e40 = o ∧ y37 = x' ∧ g38 = x'_g2 ∧ z39 = x'_z2))))) : R_Q142 x x_g2 x_z2 o r x' x'_g2 x'_z2 := by
 intro S n0 t0 H0
 obtain ⟨hb0, ha0⟩ := H0
 obtain ⟨w0, hB0⟩ := take_some hb0
 have hn0 := o_getBox_lt hB0
 rw [call_code sp_Q142 _ _ rfl]
 have F := U_Q142
 obtain ⟨r1, y2, q1, T⟩ := T
 simp only [R_Q102, le, List.cons_append, List.nil_append] at q1
 replace F := aa ha0 <| aa hB0 <| aa hn0 <| aa q1 <| F
 by_cases c2 : r1 = true
 · replace T := T.1 c2
   obtain ⟨o3, y4, g5, z6, q3, T⟩ := T
   simp only [R_Q104, le, List.cons_append, List.nil_append] at q3
   replace F := aa c2 <| aa q3 <| F
   cases o3 with
   | none =>
     dsimp only at T
     obtain ⟨o9, r8, y10, g11, z12, q4, T⟩ := T
     simp only [R_Q142, le, List.cons_append, List.nil_append] at q4
     replace F := aa q4 <| F
     cases o9 with
     | none =>
       dsimp only at T
       obtain ⟨p5, r14, y15, g16, z17, q6, rfl, rfl, rfl, rfl, rfl⟩ := T
       simp only [R_Q105, le, List.cons_append, List.nil_append] at q6
       exact fi (aa p5.wrap <| aa q6 <| F)
     | some e13 =>
       dsimp only at T
       obtain ⟨rfl, rfl, rfl, rfl⟩ := T
       exact fi F
   | some e7 =>
     dsimp only at T
     obtain ⟨rfl, rfl, rfl, rfl⟩ := T
     exact fi F
 · replace T := T.2 c2
   replace c2 := Bool.eq_false_iff.2 c2
   obtain ⟨r18, y19, q7, T⟩ := T
   simp only [R_Q102, le, List.cons_append, List.nil_append] at q7
   replace F := aa c2 <| aa q7 <| F
   by_cases c8 : r18 = true
   · replace T := T.1 c8
     obtain ⟨o20, y21, g22, z23, q9, T⟩ := T
     simp only [R_Q104, le, List.cons_append, List.nil_append] at q9
     replace F := aa c8 <| aa q9 <| F
     cases o20 with
     | none =>
       dsimp only at T
       obtain ⟨o26, r25, y27, g28, z29, q10, T⟩ := T
       simp only [R_Q142, le, List.cons_append, List.nil_append] at q10
       replace F := aa q10 <| F
       cases o26 with
       | none =>
         dsimp only at T
         obtain ⟨p11, r31, y32, g33, z34, q12, rfl, rfl, rfl, rfl, rfl⟩ := T
         simp only [R_Q105, le, List.cons_append, List.nil_append] at q12
         exact fi (aa p11.wrap <| aa q12 <| F)
       | some e30 =>
         dsimp only at T
         obtain ⟨rfl, rfl, rfl, rfl⟩ := T
         exact fi F
     | some e24 =>
       dsimp only at T
       obtain ⟨rfl, rfl, rfl, rfl⟩ := T
       exact fi F
   · replace T := T.2 c8
     replace c8 := Bool.eq_false_iff.2 c8
     obtain ⟨o36, r35, y37, g38, z39, q13, T⟩ := T
     simp only [R_Q167, le, List.cons_append, List.nil_append] at q13
     replace F := aa c8 <| aa q13 <| F
     cases o36 with
     | none =>
       dsimp only at T
       obtain ⟨rfl, rfl, rfl, rfl, rfl⟩ := T
       exact fi F
     | some e40 =>
       dsimp only at T
       obtain ⟨rfl, rfl, rfl, rfl⟩ := T
       exact fi F
theorem sp_Q167 : SP 167 = some (.code sc_Q167) := SPof_code rfl Tryz.func167 comp_Q167
def At_Q167_1 (i7 : Int) (x8 : PExprs) (g9 : Nat) (z10 : Bool) (o : Option Int) (r : Int) (x' : PExprs) (x'_g2 : Nat) (x'_z2 : Bool) : Prop := ∀ (S : Sto) (e : Nat → PV) (f : Fr) (n0 t0 : Nat), ((getBox S n0 t0).map (List.take 4) = some [.list 5 (x8.tokens.l.map eToken) false, .int .i64 x8.tokens.pos, .sl 0 (.cell t0 2) 0 x8.out.length x8.out.length g9 false, .int .i64 x8.deep] ∧ getArr S n0 (.cell t0 2) = some ⟨5, x8.out.map eNode, z10, g9⟩) → e 0 = .ptr (n0 + 1) t0 0 ∧ e 3 = .int .i64 i7 → k_Q167_1 SP (E SP (.loop b_Q167_1) ⟨e, f :: S⟩) = po 116 o (.v (.int .i64 r)) (setArr (setBox S n0 t0 ([.list 5 (x'.tokens.l.map eToken) false, .int .i64 x'.tokens.pos, .sl 0 (.cell t0 2) 0 x'.out.length x'.out.length x'_g2 false, .int .i64 x'.deep] ++ ((getBox S n0 t0).getD []).drop 4)) n0 (.cell t0 2) ⟨5, x'.out.map eNode, x'_z2, x'_g2⟩)
theorem At_Q167_1_step (i7 : Int) (x8 : PExprs) (g9 : Nat) (z10 : Bool) (o : Option Int) (r : Int) (x' : PExprs) (x'_g2 : Nat) (x'_z2 : Bool) (T :
  ∃ (r11 : Bool) (y12 : PTokens), (R_Q102 x8.tokens [91] r11 y12) ∧
 ((r11 = true) →
  ∃ (o13 : Option Int) (y14 : PExprs) (g15 : Nat) (z16 : Bool), (R_Q104 (PExprs.mk y12 x8.out x8.deep) g9 z10 [91] o13 y14 g15 z16) ∧
  (match o13 with
  | none => (∃ (o19 : Option Int) (r18 : Int) (y20 : PExprs) (g21 : Nat) (z22 : Bool), (R_Q68 y14 g15 z16 o19 r18 y20 g21 z22) ∧
   (match o19 with
   | none => (∃ (o24 : Option Int) (y25 : PExprs) (g26 : Nat) (z27 : Bool), (R_Q181 y20 g21 z22 [93] o24 y25 g26 z27) ∧
    (match o24 with
    | none => (∃ (r29 : Int) (y30 : PExprs) (g31 : Nat) (z32 : Bool), (R_Q105 y25 g26 z27 7 [] [i7, r18] r29 y30 g31 z32) ∧
     At_Q167_1 r29 y30 g31 z32 o r x' x'_g2 x'_z2)
    | some e28 => (some e28 = o ∧ y25 = x' ∧ g26 = x'_g2 ∧ z27 = x'_z2)))
   | some e23 => (some e23 = o ∧ y20 = x' ∧ g21 = x'_g2 ∧ z22 = x'_z2)))
  | some e17 => (some e17 = o ∧ y14 = x' ∧ g15 = x'_g2 ∧ z16 = x'_z2))) ∧
 (¬ (r11 = true) →
  none = o ∧ i7 = r ∧ (PExprs.mk y12 x8.out x8.deep) = x' ∧ g9 = x'_g2 ∧ z10 = x'_z2)) : At_Q167_1 i7 x8 g9 z10 o r x' x'_g2 x'_z2 := by
 intro S e f n0 t0 H0 h
 obtain ⟨hb0, ha0⟩ := H0
 obtain ⟨w0, hB0⟩ := take_some hb0
 have hn0 := o_getBox_lt hB0
 unfold k_Q167_1
 rw [E_loop]
 have F := U_Q167
 obtain ⟨r11, y12, q1, T⟩ := T
 simp only [R_Q102, le, List.cons_append, List.nil_append] at q1
 replace F := aa ha0 <| aa hB0 <| aa hn0 <| aa h <| aa q1 <| F
 by_cases c2 : r11 = true
 · replace T := T.1 c2
   obtain ⟨o13, y14, g15, z16, q3, T⟩ := T
   simp only [R_Q104, le, List.cons_append, List.nil_append] at q3
   replace F := aa c2 <| aa q3 <| F
   cases o13 with
   | none =>
     dsimp only at T
     obtain ⟨o19, r18, y20, g21, z22, q4, T⟩ := T
     simp only [R_Q68, le, List.cons_append, List.nil_append] at q4
     replace F := aa q4 <| F
     cases o19 with
     | none =>
       dsimp only at T
       obtain ⟨o24, y25, g26, z27, q5, T⟩ := T
       simp only [R_Q181, le, List.cons_append, List.nil_append] at q5
       replace F := aa q5 <| F
       cases o24 with
       | none =>
         dsimp only at T
         obtain ⟨r29, y30, g31, z32, q6, T⟩ := T
         simp only [R_Q105, le, List.cons_append, List.nil_append] at q6
         replace F := aa q6 <| F
         try simp only [F, lw, lx, le, Nat.reduceMul, UInt8.reduceToNat, reduceIte, reduceCtorEq, Nat.reduceEqDiff, Nat.reduceAdd, Nat.reduceLeDiff, Nat.reduceSub, Nat.reduceLT, Int.reduceEq, Int.reduceLT, Int.reduceLE, Int.reduceToNat, Int.reduceAdd, Int.reduceSub, Int.reduceMul, Int.reduceNeg]
         refine (T _ _ _ n0 t0 ?_ ?_).trans ?_
         all_goals exact fi F
       | some e28 =>
         dsimp only at T
         obtain ⟨rfl, rfl, rfl, rfl⟩ := T
         exact fi F
     | some e23 =>
       dsimp only at T
       obtain ⟨rfl, rfl, rfl, rfl⟩ := T
       exact fi F
   | some e17 =>
     dsimp only at T
     obtain ⟨rfl, rfl, rfl, rfl⟩ := T
     exact fi F
 · replace T := T.2 c2
   replace c2 := Bool.eq_false_iff.2 c2
   obtain ⟨rfl, rfl, rfl, rfl, rfl⟩ := T
   exact fi (aa c2 <| F)
theorem Q167_tree (x : PExprs) (x_g2 : Nat) (x_z2 : Bool) (o : Option Int) (r : Int) (x' : PExprs) (x'_g2 : Nat) (x'_z2 : Bool) (T :
  ∃ (o2 : Option Int) (r1 : Int) (y3 : PExprs) (g4 : Nat) (z5 : Bool), (R_Q180 x x_g2 x_z2 o2 r1 y3 g4 z5) ∧
 (match o2 with
 | none => (At_Q167_1 r1 y3 g4 z5 o r x' x'_g2 x'_z2)
 | some e6 => (some e6 = o ∧ y3 = x' ∧ g4 = x'_g2 ∧ z5 = x'_z2))) : R_Q167 x x_g2 x_z2 o r x' x'_g2 x'_z2 := by
 intro S n0 t0 H0
 obtain ⟨hb0, ha0⟩ := H0
 obtain ⟨w0, hB0⟩ := take_some hb0
 have hn0 := o_getBox_lt hB0
 rw [call_code sp_Q167 _ _ rfl]
 have F := U_Q167
 obtain ⟨o2, r1, y3, g4, z5, q1, T⟩ := T
 simp only [R_Q180, le, List.cons_append, List.nil_append] at q1
 replace F := aa ha0 <| aa hB0 <| aa hn0 <| aa q1 <| F
 cases o2 with
 | none =>
   dsimp only at T
   try simp only [F, lw, lx, le, Nat.reduceMul, UInt8.reduceToNat, reduceIte, reduceCtorEq, Nat.reduceEqDiff, Nat.reduceAdd, Nat.reduceLeDiff, Nat.reduceSub, Nat.reduceLT, Int.reduceEq, Int.reduceLT, Int.reduceLE, Int.reduceToNat, Int.reduceAdd, Int.reduceSub, Int.reduceMul, Int.reduceNeg]
   refine (T _ _ _ n0 t0 ?_ ?_).trans ?_
   all_goals exact fi F
 | some e6 =>
   dsimp only at T
   obtain ⟨rfl, rfl, rfl, rfl⟩ := T
   exact fi F
theorem sp_Q203 : SP 203 = some (.code sc_Q203) := SPof_code rfl Tryz.func203 comp_Q203
def At_Q203_1 (end_ : List UInt8) (l14 : List Int) (x15 : PExprs) (g16 : Nat) (z17 : Bool) (o : Option Int) (r : List Int) (x' : PExprs) (x'_g2 : Nat) (x'_z2 : Bool) : Prop := ∀ (S : Sto) (e : Nat → PV) (f : Fr) (n0 t0 : Nat), ((getBox S n0 t0).map (List.take 4) = some [.list 5 (x15.tokens.l.map eToken) false, .int .i64 x15.tokens.pos, .sl 0 (.cell t0 2) 0 x15.out.length x15.out.length g16 false, .int .i64 x15.deep] ∧ getArr S n0 (.cell t0 2) = some ⟨5, x15.out.map eNode, z17, g16⟩) → e 0 = .ptr (n0 + 1) t0 0 ∧ e 1 = .str end_ ∧ e 5 = .sl 0 (.slot 5) 0 l14.length l14.length 0 false ∧ f.arr (.slot 5) = some ⟨1, l14.map eI, false, 0⟩ → k_Q203_1 SP (E SP (.loop b_Q203_1) ⟨e, f :: S⟩) = po 116 o (.arr 1 (r.map eI) false) (setArr (setBox S n0 t0 ([.list 5 (x'.tokens.l.map eToken) false, .int .i64 x'.tokens.pos, .sl 0 (.cell t0 2) 0 x'.out.length x'.out.length x'_g2 false, .int .i64 x'.deep] ++ ((getBox S n0 t0).getD []).drop 4)) n0 (.cell t0 2) ⟨5, x'.out.map eNode, x'_z2, x'_g2⟩)
theorem At_Q203_1_step (end_ : List UInt8) (l14 : List Int) (x15 : PExprs) (g16 : Nat) (z17 : Bool) (o : Option Int) (r : List Int) (x' : PExprs) (x'_g2 : Nat) (x'_z2 : Bool) (T :
  ∃ (r18 : Bool) (y19 : PTokens), (R_Q67 x15.tokens [44] r18 y19) ∧
 ((r18 = true) →
  ∃ (o21 : Option Int) (r20 : Int) (y22 : PExprs) (g23 : Nat) (z24 : Bool), (R_Q68 (PExprs.mk y19 x15.out x15.deep) g16 z17 o21 r20 y22 g23 z24) ∧
  (match o21 with
  | none => ((bigRow (l14.length + 1) 8) ∧
   At_Q203_1 end_ (l14 ++ [r20]) y22 g23 z24 o r x' x'_g2 x'_z2)
  | some e25 => (some e25 = o ∧ y22 = x' ∧ g23 = x'_g2 ∧ z24 = x'_z2))) ∧
 (¬ (r18 = true) →
  ∃ (o26 : Option Int) (y27 : PExprs) (g28 : Nat) (z29 : Bool), (R_Q181 (PExprs.mk y19 x15.out x15.deep) g16 z17 end_ o26 y27 g28 z29) ∧
  (match o26 with
  | none => (none = o ∧ l14 = r ∧ y27 = x' ∧ g28 = x'_g2 ∧ z29 = x'_z2)
  | some e30 => (some e30 = o ∧ y27 = x' ∧ g28 = x'_g2 ∧ z29 = x'_z2)))) : At_Q203_1 end_ l14 x15 g16 z17 o r x' x'_g2 x'_z2 := by
 intro S e f n0 t0 H0 h
 obtain ⟨hb0, ha0⟩ := H0
 obtain ⟨w0, hB0⟩ := take_some hb0
 have hn0 := o_getBox_lt hB0
 unfold k_Q203_1
 rw [E_loop]
 have F := U_Q203
 obtain ⟨r18, y19, q1, T⟩ := T
 simp only [R_Q67, le, List.cons_append, List.nil_append] at q1
 replace F := aa ha0 <| aa hB0 <| aa hn0 <| aa h <| aa q1 <| F
 by_cases c2 : r18 = true
 · replace T := T.1 c2
   obtain ⟨o21, r20, y22, g23, z24, q3, T⟩ := T
   simp only [R_Q68, le, List.cons_append, List.nil_append] at q3
   replace F := aa c2 <| aa q3 <| F
   cases o21 with
   | none =>
     dsimp only at T
     obtain ⟨p4, T⟩ := T
     simp only [bigRow] at p4
     replace F := aa p4 <| F
     try simp only [F, lw, lx, le, Nat.reduceMul, UInt8.reduceToNat, reduceIte, reduceCtorEq, Nat.reduceEqDiff, Nat.reduceAdd, Nat.reduceLeDiff, Nat.reduceSub, Nat.reduceLT, Int.reduceEq, Int.reduceLT, Int.reduceLE, Int.reduceToNat, Int.reduceAdd, Int.reduceSub, Int.reduceMul, Int.reduceNeg]
     refine (T _ _ _ n0 t0 ?_ ?_).trans ?_
     all_goals exact fi F
   | some e25 =>
     dsimp only at T
     obtain ⟨rfl, rfl, rfl, rfl⟩ := T
     exact fi F
 · replace T := T.2 c2
   replace c2 := Bool.eq_false_iff.2 c2
   obtain ⟨o26, y27, g28, z29, q5, T⟩ := T
   simp only [R_Q181, le, List.cons_append, List.nil_append] at q5
   replace F := aa c2 <| aa q5 <| F
   cases o26 with
   | none =>
     dsimp only at T
     obtain ⟨rfl, rfl, rfl, rfl, rfl⟩ := T
     exact fi F
   | some e30 =>
     dsimp only at T
     obtain ⟨rfl, rfl, rfl, rfl⟩ := T
     exact fi F
theorem Q203_tree (x : PExprs) (x_g2 : Nat) (x_z2 : Bool) (end_ : List UInt8) (o : Option Int) (r : List Int) (x' : PExprs) (x'_g2 : Nat) (x'_z2 : Bool) (T :
  ∃ (r1 : Bool) (y2 : PTokens), (R_Q102 x.tokens end_ r1 y2) ∧
 ((r1 = true) →
  ∃ (o3 : Option Int) (y4 : PExprs) (g5 : Nat) (z6 : Bool), (R_Q181 (PExprs.mk y2 x.out x.deep) x_g2 x_z2 end_ o3 y4 g5 z6) ∧
  (match o3 with
  | none => (none = o ∧ [] = r ∧ y4 = x' ∧ g5 = x'_g2 ∧ z6 = x'_z2)
  | some e7 => (some e7 = o ∧ y4 = x' ∧ g5 = x'_g2 ∧ z6 = x'_z2))) ∧
 (¬ (r1 = true) →
  ∃ (o9 : Option Int) (r8 : Int) (y10 : PExprs) (g11 : Nat) (z12 : Bool), (R_Q68 (PExprs.mk y2 x.out x.deep) x_g2 x_z2 o9 r8 y10 g11 z12) ∧
  (match o9 with
  | none => (At_Q203_1 end_ [r8] y10 g11 z12 o r x' x'_g2 x'_z2)
  | some e13 => (some e13 = o ∧ y10 = x' ∧ g11 = x'_g2 ∧ z12 = x'_z2)))) : R_Q203 x x_g2 x_z2 end_ o r x' x'_g2 x'_z2 := by
 intro S n0 t0 H0
 obtain ⟨hb0, ha0⟩ := H0
 obtain ⟨w0, hB0⟩ := take_some hb0
 have hn0 := o_getBox_lt hB0
 rw [call_code sp_Q203 _ _ rfl]
 have F := U_Q203
 obtain ⟨r1, y2, q1, T⟩ := T
 simp only [R_Q102, le, List.cons_append, List.nil_append] at q1
 replace F := aa ha0 <| aa hB0 <| aa hn0 <| aa q1 <| F
 by_cases c2 : r1 = true
 · replace T := T.1 c2
   obtain ⟨o3, y4, g5, z6, q3, T⟩ := T
   simp only [R_Q181, le, List.cons_append, List.nil_append] at q3
   replace F := aa c2 <| aa q3 <| F
   cases o3 with
   | none =>
     dsimp only at T
     obtain ⟨rfl, rfl, rfl, rfl, rfl⟩ := T
     exact fi F
   | some e7 =>
     dsimp only at T
     obtain ⟨rfl, rfl, rfl, rfl⟩ := T
     exact fi F
 · replace T := T.2 c2
   replace c2 := Bool.eq_false_iff.2 c2
   obtain ⟨o9, r8, y10, g11, z12, q4, T⟩ := T
   simp only [R_Q68, le, List.cons_append, List.nil_append] at q4
   replace F := aa c2 <| aa q4 <| F
   cases o9 with
   | none =>
     dsimp only at T
     try simp only [F, lw, lx, le, Nat.reduceMul, UInt8.reduceToNat, reduceIte, reduceCtorEq, Nat.reduceEqDiff, Nat.reduceAdd, Nat.reduceLeDiff, Nat.reduceSub, Nat.reduceLT, Int.reduceEq, Int.reduceLT, Int.reduceLE, Int.reduceToNat, Int.reduceAdd, Int.reduceSub, Int.reduceMul, Int.reduceNeg]
     refine (T _ _ _ n0 t0 ?_ ?_).trans ?_
     all_goals exact fi F
   | some e13 =>
     dsimp only at T
     obtain ⟨rfl, rfl, rfl, rfl⟩ := T
     exact fi F
theorem sp_Q64 : SP 64 = some (.code sc_Q64) := SPof_code rfl Tryz.func64 comp_Q64
theorem Q64_tree (b : PBlocks) (b_g2 : Nat) (b_z2 : Bool) (o : Option Int) (r : List UInt8) (b' : PBlocks) (b'_g2 : Nat) (b'_z2 : Bool) (T :
  ∃ (r1 : Token) (y2 : PTokens), (R_Q38 b.exprs.tokens r1 y2) ∧
 ((r1.Kind = 2) →
  (((r1.Parts.length : Int) = 1) →
   ∃ (v3 : Part), (r1.Parts[0]? = some v3) ∧
   ((v3.Ref = true) →
    ∃ (o4 : Option Int) (y5 : PTokens), (R_Q42 y2 5 o4 y5) ∧
    (match o4 with
    | none => (False )
    | some e6 => (some e6 = o ∧ (PBlocks.mk (PExprs.mk y5 b.exprs.out b.exprs.deep)) = b' ∧ b_g2 = b'_g2 ∧ b_z2 = b'_z2))) ∧
   (¬ (v3.Ref = true) →
    ∃ (r7 : Bool), (R_Q81 v3.Text r7) ∧
    ((r7 = true) →
     (I64 (y2.pos + 1)) ∧
     none = o ∧ v3.Text = r ∧ (PBlocks.mk (PExprs.mk (PTokens.mk y2.l (y2.pos + 1)) b.exprs.out b.exprs.deep)) = b' ∧ b_g2 = b'_g2 ∧ b_z2 = b'_z2) ∧
    (¬ (r7 = true) →
     ∃ (o8 : Option Int) (y9 : PTokens), (R_Q42 y2 5 o8 y9) ∧
     (match o8 with
     | none => (False )
     | some e10 => (some e10 = o ∧ (PBlocks.mk (PExprs.mk y9 b.exprs.out b.exprs.deep)) = b' ∧ b_g2 = b'_g2 ∧ b_z2 = b'_z2))))) ∧
  (¬ ((r1.Parts.length : Int) = 1) →
   ∃ (o11 : Option Int) (y12 : PTokens), (R_Q42 y2 5 o11 y12) ∧
   (match o11 with
   | none => (False )
   | some e13 => (some e13 = o ∧ (PBlocks.mk (PExprs.mk y12 b.exprs.out b.exprs.deep)) = b' ∧ b_g2 = b'_g2 ∧ b_z2 = b'_z2)))) ∧
 (¬ (r1.Kind = 2) →
  ∃ (o14 : Option Int) (y15 : PTokens), (R_Q42 y2 5 o14 y15) ∧
  (match o14 with
  | none => (False )
  | some e16 => (some e16 = o ∧ (PBlocks.mk (PExprs.mk y15 b.exprs.out b.exprs.deep)) = b' ∧ b_g2 = b'_g2 ∧ b_z2 = b'_z2)))) : R_Q64 b b_g2 b_z2 o r b' b'_g2 b'_z2 := by
 intro S n0 t0 H0
 obtain ⟨hb0, ha0⟩ := H0
 obtain ⟨w0, hB0⟩ := take_some hb0
 have hn0 := o_getBox_lt hB0
 rw [call_code sp_Q64 _ _ rfl]
 have F := U_Q64
 obtain ⟨r1, y2, q1, T⟩ := T
 simp only [R_Q38, le, List.cons_append, List.nil_append] at q1
 replace F := aa ha0 <| aa hB0 <| aa hn0 <| aa q1 <| F
 by_cases c2 : r1.Kind = 2
 · replace T := T.1 c2
   replace F := aa (eq_true c2) <| F
   by_cases c3 : (r1.Parts.length : Int) = 1
   · replace T := T.1 c3
     obtain ⟨v3, q4, T⟩ := T
     replace F := aa (eq_true c3) <| aa q4 <| F
     by_cases c5 : v3.Ref = true
     · replace T := T.1 c5
       obtain ⟨o4, y5, q6, T⟩ := T
       simp only [R_Q42, le, List.cons_append, List.nil_append] at q6
       replace F := aa c5 <| aa q6 <| F
       cases o4 with
       | none => exact False.elim T
       | some e6 =>
         dsimp only at T
         obtain ⟨rfl, rfl, rfl, rfl⟩ := T
         exact fi F
     · replace T := T.2 c5
       replace c5 := Bool.eq_false_iff.2 c5
       obtain ⟨r7, q7, T⟩ := T
       simp only [R_Q81, le, List.cons_append, List.nil_append] at q7
       replace F := aa c5 <| aa q7 <| F
       by_cases c8 : r7 = true
       · replace T := T.1 c8
         obtain ⟨p9, rfl, rfl, rfl, rfl, rfl⟩ := T
         exact fi (aa c8 <| aa p9.wrap <| F)
       · replace T := T.2 c8
         replace c8 := Bool.eq_false_iff.2 c8
         obtain ⟨o8, y9, q10, T⟩ := T
         simp only [R_Q42, le, List.cons_append, List.nil_append] at q10
         replace F := aa c8 <| aa q10 <| F
         cases o8 with
         | none => exact False.elim T
         | some e10 =>
           dsimp only at T
           obtain ⟨rfl, rfl, rfl, rfl⟩ := T
           exact fi F
   · replace T := T.2 c3
     obtain ⟨o11, y12, q11, T⟩ := T
     simp only [R_Q42, le, List.cons_append, List.nil_append] at q11
     replace F := aa (eq_false c3) <| aa q11 <| F
     cases o11 with
     | none => exact False.elim T
     | some e13 =>
       dsimp only at T
       obtain ⟨rfl, rfl, rfl, rfl⟩ := T
       exact fi F
 · replace T := T.2 c2
   obtain ⟨o14, y15, q12, T⟩ := T
   simp only [R_Q42, le, List.cons_append, List.nil_append] at q12
   replace F := aa (eq_false c2) <| aa q12 <| F
   cases o14 with
   | none => exact False.elim T
   | some e16 =>
     dsimp only at T
     obtain ⟨rfl, rfl, rfl, rfl⟩ := T
     exact fi F
theorem sp_Q100 : SP 100 = some (.code sc_Q100) := SPof_code rfl Tryz.func100 comp_Q100
theorem Q100_tree (a : Attr) (c0_ : List UInt8) (r : Bool) (T :
  (decide (a.Name = c0_)) = r) : R_Q100 a c0_ r := by
 intro S n1 t1 H0
 have hb0 := H0
 obtain ⟨w0, hB0⟩ := take_some hb0
 have hn0 := o_getBox_lt hB0
 rw [call_code sp_Q100 _ _ rfl]
 have F := U_Q100
 obtain rfl := T
 exact fi (aa hB0 <| aa hn0 <| F)
theorem sp_Q65 : SP 65 = some (.code sc_Q65) := SPof_code rfl Tryz.func65 comp_Q65
theorem H_slices_ContainsFunc_api_Attr_api_Attr_parse_blocks_body_1 {xs : List Attr} {c0 : List UInt8} {p : Attr → Bool} (hl : xs.length < 9223372036854775808) (hp : ∀ x, x ∈ xs → R_Q100 x c0 (p x)) : ∀ (S : Sto) (n0 : Nat) (t0 : Nat), (getBox S n0 t0).map (List.take 1) = some [.str c0] → call SP 99 [.list 2 (xs.map eAttr) false, .func 100 [.ptr n0 t0 0]] S = .ok (.v (.bool (xs.any p))) S := by
 intro S n0 t0 h0
 refine G_slices_ContainsFunc_api_Attr_api_Attr xs 100 [.ptr n0 t0 0] p S hl (by intro S; rfl) (by rfl) (by intro a; rfl) (by intro S; rfl) (by rfl) (by intro a; rfl) ?_
 intro x hx f f'
 have := hp x hx (f :: f' :: S) (n0 + 1 + 1) t0 (by simpa only [lw] using h0)
 simpa only [PV.upL, PV.up] using this
def At_Q100 (l4 : List Attr) (b5 : PBlocks) (g6 : Nat) (z7 : Bool) (o : Option Int) (r : List Attr) (b' : PBlocks) (b'_g2 : Nat) (b'_z2 : Bool) : Prop := (∀ (S : Sto) (e : Nat → PV) (f : Fr) (n0 t0 : Nat), ((getBox S n0 t0).map (List.take 4) = some [.list 5 (b5.exprs.tokens.l.map eToken) false, .int .i64 b5.exprs.tokens.pos, .sl 0 (.cell t0 2) 0 b5.exprs.out.length b5.exprs.out.length g6 false, .int .i64 b5.exprs.deep] ∧ getArr S n0 (.cell t0 2) = some ⟨5, b5.exprs.out.map eNode, z7, g6⟩) → e 0 = .ptr (n0 + 1) t0 0 ∧ e 3 = .sl 0 (.slot 3) 0 l4.length l4.length 0 false ∧ f.arr (.slot 3) = some ⟨2, l4.map eAttr, false, 0⟩ → k_Q100 SP (E SP (.loop b_Q100) ⟨e, f :: S⟩) = po 116 o (.v (.list 2 (r.map eAttr) false)) (setArr (setBox S n0 t0 ([.list 5 (b'.exprs.tokens.l.map eToken) false, .int .i64 b'.exprs.tokens.pos, .sl 0 (.cell t0 2) 0 b'.exprs.out.length b'.exprs.out.length b'_g2 false, .int .i64 b'.exprs.deep] ++ ((getBox S n0 t0).getD []).drop 4)) n0 (.cell t0 2) ⟨5, b'.exprs.out.map eNode, b'_z2, b'_g2⟩)) ∨ (∀ (S : Sto) (e : Nat → PV) (f : Fr) (n0 t0 : Nat), ((getBox S n0 t0).map (List.take 4) = some [.list 5 (b5.exprs.tokens.l.map eToken) false, .int .i64 b5.exprs.tokens.pos, .sl 0 (.cell t0 2) 0 b5.exprs.out.length b5.exprs.out.length g6 false, .int .i64 b5.exprs.deep] ∧ getArr S n0 (.cell t0 2) = some ⟨5, b5.exprs.out.map eNode, z7, g6⟩) → e 0 = .ptr (n0 + 1) t0 0 ∧ e 3 = .sl 0 (.slot 3) 0 l4.length l4.length 0 false ∧ f.arr (.slot 3) = some ⟨2, l4.map eAttr, false, 0⟩ → k_Q100 SP (E SP (.loop b_Q100) ⟨e, f :: S⟩) = po 116 o (.arr 2 (r.map eAttr) false) (setArr (setBox S n0 t0 ([.list 5 (b'.exprs.tokens.l.map eToken) false, .int .i64 b'.exprs.tokens.pos, .sl 0 (.cell t0 2) 0 b'.exprs.out.length b'.exprs.out.length b'_g2 false, .int .i64 b'.exprs.deep] ++ ((getBox S n0 t0).getD []).drop 4)) n0 (.cell t0 2) ⟨5, b'.exprs.out.map eNode, b'_z2, b'_g2⟩))
def At_Q65_1b (l31 : List Attr) (b32 : PBlocks) (g33 : Nat) (z34 : Bool) (o : Option Int) (r : List Attr) (b' : PBlocks) (b'_g2 : Nat) (b'_z2 : Bool) : Prop := (∀ (S : Sto) (e : Nat → PV) (f : Fr) (n0 t0 : Nat), ((getBox S n0 t0).map (List.take 4) = some [.list 5 (b32.exprs.tokens.l.map eToken) false, .int .i64 b32.exprs.tokens.pos, .sl 0 (.cell t0 2) 0 b32.exprs.out.length b32.exprs.out.length g33 false, .int .i64 b32.exprs.deep] ∧ getArr S n0 (.cell t0 2) = some ⟨5, b32.exprs.out.map eNode, z34, g33⟩) → e 0 = .ptr (n0 + 1) t0 0 ∧ e 3 = .sl 0 (.slot 3) 0 l31.length l31.length 0 false ∧ f.arr (.slot 3) = some ⟨2, l31.map eAttr, true, 0⟩ → k_Q100 SP (E SP (.loop b_Q100) ⟨e, f :: S⟩) = po 116 o (.v (.list 2 (r.map eAttr) false)) (setArr (setBox S n0 t0 ([.list 5 (b'.exprs.tokens.l.map eToken) false, .int .i64 b'.exprs.tokens.pos, .sl 0 (.cell t0 2) 0 b'.exprs.out.length b'.exprs.out.length b'_g2 false, .int .i64 b'.exprs.deep] ++ ((getBox S n0 t0).getD []).drop 4)) n0 (.cell t0 2) ⟨5, b'.exprs.out.map eNode, b'_z2, b'_g2⟩)) ∨ (∀ (S : Sto) (e : Nat → PV) (f : Fr) (n0 t0 : Nat), ((getBox S n0 t0).map (List.take 4) = some [.list 5 (b32.exprs.tokens.l.map eToken) false, .int .i64 b32.exprs.tokens.pos, .sl 0 (.cell t0 2) 0 b32.exprs.out.length b32.exprs.out.length g33 false, .int .i64 b32.exprs.deep] ∧ getArr S n0 (.cell t0 2) = some ⟨5, b32.exprs.out.map eNode, z34, g33⟩) → e 0 = .ptr (n0 + 1) t0 0 ∧ e 3 = .sl 0 (.slot 3) 0 l31.length l31.length 0 false ∧ f.arr (.slot 3) = some ⟨2, l31.map eAttr, true, 0⟩ → k_Q100 SP (E SP (.loop b_Q100) ⟨e, f :: S⟩) = po 116 o (.arr 2 (r.map eAttr) false) (setArr (setBox S n0 t0 ([.list 5 (b'.exprs.tokens.l.map eToken) false, .int .i64 b'.exprs.tokens.pos, .sl 0 (.cell t0 2) 0 b'.exprs.out.length b'.exprs.out.length b'_g2 false, .int .i64 b'.exprs.deep] ++ ((getBox S n0 t0).getD []).drop 4)) n0 (.cell t0 2) ⟨5, b'.exprs.out.map eNode, b'_z2, b'_g2⟩))
theorem At_Q100_step (l4 : List Attr) (b5 : PBlocks) (g6 : Nat) (z7 : Bool) (o : Option Int) (r : List Attr) (b' : PBlocks) (b'_g2 : Nat) (b'_z2 : Bool) (T :
  ∃ (r8 : Bool) (y9 : PTokens), (R_Q67 b5.exprs.tokens [125] r8 y9) ∧
 ((r8 = true) →
  none = o ∧ l4 = r ∧ (PBlocks.mk (PExprs.mk y9 b5.exprs.out b5.exprs.deep)) = b' ∧ g6 = b'_g2 ∧ z7 = b'_z2) ∧
 (¬ (r8 = true) →
  ∃ (r10 : Token) (y11 : PTokens), (R_Q38 y9 r10 y11) ∧
  ∃ (r12 : Token) (y13 : PTokens), (R_Q38 y11 r12 y13) ∧
  ((r12.Kind = 3) →
   (l4.length < 9223372036854775808) ∧
   ∃ (pp14 : Attr → Bool), (∀ x, x ∈ l4 → R_Q100 x r10.Text (pp14 x)) ∧
   (((l4.any pp14) = true) →
    ∃ (o15 : Option Int) (y16 : PTokens), (R_Q42 y13 3 o15 y16) ∧
    (match o15 with
    | none => (False )
    | some e17 => (some e17 = o ∧ (PBlocks.mk (PExprs.mk y16 b5.exprs.out b5.exprs.deep)) = b' ∧ g6 = b'_g2 ∧ z7 = b'_z2))) ∧
   (¬ ((l4.any pp14) = true) →
    ∃ (o19 : Option Int) (r18 : List UInt8) (y20 : PTokens), (R_Q101 y13 o19 r18 y20) ∧
    (match o19 with
    | none => (∃ (o22 : Option Int) (y23 : PTokens), (R_Q66 y20 [61] o22 y23) ∧
     (match o22 with
     | none => (∃ (o26 : Option Int) (r25 : List Node) (y27 : PExprs) (g28 : Nat) (z29 : Bool), (R_Q41 (PExprs.mk y23 b5.exprs.out b5.exprs.deep) g6 z7 o26 r25 y27 g28 z29) ∧
      (match o26 with
      | none => ((bigRow (l4.length + 1) 40) ∧
       At_Q65_1b (l4 ++ [(Attr.mk r18 r25)]) (PBlocks.mk y27) g28 z29 o r b' b'_g2 b'_z2)
      | some e30 => (some e30 = o ∧ (PBlocks.mk y27) = b' ∧ g28 = b'_g2 ∧ z29 = b'_z2)))
     | some e24 => (some e24 = o ∧ (PBlocks.mk (PExprs.mk y23 b5.exprs.out b5.exprs.deep)) = b' ∧ g6 = b'_g2 ∧ z7 = b'_z2)))
    | some e21 => (some e21 = o ∧ (PBlocks.mk (PExprs.mk y20 b5.exprs.out b5.exprs.deep)) = b' ∧ g6 = b'_g2 ∧ z7 = b'_z2)))) ∧
  (¬ (r12.Kind = 3) →
   ∃ (o36 : Option Int) (r35 : List UInt8) (y37 : PTokens), (R_Q101 y13 o36 r35 y37) ∧
   (match o36 with
   | none => (∃ (o39 : Option Int) (y40 : PTokens), (R_Q66 y37 [61] o39 y40) ∧
    (match o39 with
    | none => (∃ (o43 : Option Int) (r42 : List Node) (y44 : PExprs) (g45 : Nat) (z46 : Bool), (R_Q41 (PExprs.mk y40 b5.exprs.out b5.exprs.deep) g6 z7 o43 r42 y44 g45 z46) ∧
     (match o43 with
     | none => ((bigRow (l4.length + 1) 40) ∧
      At_Q100 (l4 ++ [(Attr.mk r35 r42)]) (PBlocks.mk y44) g45 z46 o r b' b'_g2 b'_z2)
     | some e47 => (some e47 = o ∧ (PBlocks.mk y44) = b' ∧ g45 = b'_g2 ∧ z46 = b'_z2)))
    | some e41 => (some e41 = o ∧ (PBlocks.mk (PExprs.mk y40 b5.exprs.out b5.exprs.deep)) = b' ∧ g6 = b'_g2 ∧ z7 = b'_z2)))
   | some e38 => (some e38 = o ∧ (PBlocks.mk (PExprs.mk y37 b5.exprs.out b5.exprs.deep)) = b' ∧ g6 = b'_g2 ∧ z7 = b'_z2))))) : At_Q100 l4 b5 g6 z7 o r b' b'_g2 b'_z2 := by
 have F := U_Q65
 obtain ⟨r8, y9, q1, T⟩ := T
 simp only [R_Q67, le, List.cons_append, List.nil_append] at q1
 replace F := aa q1 <| F
 by_cases c2 : r8 = true
 · replace T := T.1 c2
   obtain ⟨rfl, rfl, rfl, rfl, rfl⟩ := T
   right
   intro S e f n0 t0 H0 h
   obtain ⟨hb0, ha0⟩ := H0
   obtain ⟨w0, hB0⟩ := take_some hb0
   have hn0 := o_getBox_lt hB0
   replace F := aa ha0 <| aa hB0 <| aa hn0 <| aa h <| F
   unfold k_Q100
   rw [E_loop]
   exact fi (aa c2 <| F)
 · replace T := T.2 c2
   replace c2 := Bool.eq_false_iff.2 c2
   obtain ⟨r10, y11, q3, r12, y13, q4, T⟩ := T
   simp only [R_Q38, le, List.cons_append, List.nil_append] at q3
   simp only [R_Q38, le, List.cons_append, List.nil_append] at q4
   replace F := aa c2 <| aa q3 <| aa q4 <| F
   by_cases c5 : r12.Kind = 3
   · replace T := T.1 c5
     obtain ⟨p6, pp14, q7, T⟩ := T
     have o7 := H_slices_ContainsFunc_api_Attr_api_Attr_parse_blocks_body_1  p6 q7
     try simp only [le] at o7
     replace F := aa (eq_true c5) <| aa p6 <| aa o7 <| F
     by_cases c8 : (l4.any pp14) = true
     · replace T := T.1 c8
       obtain ⟨o15, y16, q9, T⟩ := T
       simp only [R_Q42, le, List.cons_append, List.nil_append] at q9
       replace F := aa c8 <| aa q9 <| F
       cases o15 with
       | none => exact False.elim T
       | some e17 =>
         dsimp only at T
         obtain ⟨rfl, rfl, rfl, rfl⟩ := T
         right
         intro S e f n0 t0 H0 h
         obtain ⟨hb0, ha0⟩ := H0
         obtain ⟨w0, hB0⟩ := take_some hb0
         have hn0 := o_getBox_lt hB0
         replace F := aa ha0 <| aa hB0 <| aa hn0 <| aa h <| F
         unfold k_Q100
         rw [E_loop]
         exact fi F
     · replace T := T.2 c8
       replace c8 := Bool.eq_false_iff.2 c8
       obtain ⟨o19, r18, y20, q10, T⟩ := T
       simp only [R_Q101, le, List.cons_append, List.nil_append] at q10
       replace F := aa c8 <| aa q10 <| F
       cases o19 with
       | none =>
         dsimp only at T
         obtain ⟨o22, y23, q11, T⟩ := T
         simp only [R_Q66, le, List.cons_append, List.nil_append] at q11
         replace F := aa q11 <| F
         cases o22 with
         | none =>
           dsimp only at T
           obtain ⟨o26, r25, y27, g28, z29, q12, T⟩ := T
           simp only [R_Q41, le, List.cons_append, List.nil_append] at q12
           replace F := aa q12 <| F
           cases o26 with
           | none =>
             dsimp only at T
             obtain ⟨p13, T⟩ := T
             simp only [bigRow] at p13
             replace F := aa p13 <| F
             rcases T with T | T
             · left
               intro S e f n0 t0 H0 h
               obtain ⟨hb0, ha0⟩ := H0
               obtain ⟨w0, hB0⟩ := take_some hb0
               have hn0 := o_getBox_lt hB0
               replace F := aa ha0 <| aa hB0 <| aa hn0 <| aa h <| F
               unfold k_Q100
               rw [E_loop]
               try simp only [F, lw, lx, le, Nat.reduceMul, UInt8.reduceToNat, reduceIte, reduceCtorEq, Nat.reduceEqDiff, Nat.reduceAdd, Nat.reduceLeDiff, Nat.reduceSub, Nat.reduceLT, Int.reduceEq, Int.reduceLT, Int.reduceLE, Int.reduceToNat, Int.reduceAdd, Int.reduceSub, Int.reduceMul, Int.reduceNeg]
               refine (T _ _ _ n0 t0 ?_ ?_).trans ?_
               all_goals exact fi F
             · right
               intro S e f n0 t0 H0 h
               obtain ⟨hb0, ha0⟩ := H0
               obtain ⟨w0, hB0⟩ := take_some hb0
               have hn0 := o_getBox_lt hB0
               replace F := aa ha0 <| aa hB0 <| aa hn0 <| aa h <| F
               unfold k_Q100
               rw [E_loop]
               try simp only [F, lw, lx, le, Nat.reduceMul, UInt8.reduceToNat, reduceIte, reduceCtorEq, Nat.reduceEqDiff, Nat.reduceAdd, Nat.reduceLeDiff, Nat.reduceSub, Nat.reduceLT, Int.reduceEq, Int.reduceLT, Int.reduceLE, Int.reduceToNat, Int.reduceAdd, Int.reduceSub, Int.reduceMul, Int.reduceNeg]
               refine (T _ _ _ n0 t0 ?_ ?_).trans ?_
               all_goals exact fi F
           | some e30 =>
             dsimp only at T
             obtain ⟨rfl, rfl, rfl, rfl⟩ := T
             right
             intro S e f n0 t0 H0 h
             obtain ⟨hb0, ha0⟩ := H0
             obtain ⟨w0, hB0⟩ := take_some hb0
             have hn0 := o_getBox_lt hB0
             replace F := aa ha0 <| aa hB0 <| aa hn0 <| aa h <| F
             unfold k_Q100
             rw [E_loop]
             exact fi F
         | some e24 =>
           dsimp only at T
           obtain ⟨rfl, rfl, rfl, rfl⟩ := T
           right
           intro S e f n0 t0 H0 h
           obtain ⟨hb0, ha0⟩ := H0
           obtain ⟨w0, hB0⟩ := take_some hb0
           have hn0 := o_getBox_lt hB0
           replace F := aa ha0 <| aa hB0 <| aa hn0 <| aa h <| F
           unfold k_Q100
           rw [E_loop]
           exact fi F
       | some e21 =>
         dsimp only at T
         obtain ⟨rfl, rfl, rfl, rfl⟩ := T
         right
         intro S e f n0 t0 H0 h
         obtain ⟨hb0, ha0⟩ := H0
         obtain ⟨w0, hB0⟩ := take_some hb0
         have hn0 := o_getBox_lt hB0
         replace F := aa ha0 <| aa hB0 <| aa hn0 <| aa h <| F
         unfold k_Q100
         rw [E_loop]
         exact fi F
   · replace T := T.2 c5
     obtain ⟨o36, r35, y37, q14, T⟩ := T
     simp only [R_Q101, le, List.cons_append, List.nil_append] at q14
     replace F := aa (eq_false c5) <| aa q14 <| F
     cases o36 with
     | none =>
       dsimp only at T
       obtain ⟨o39, y40, q15, T⟩ := T
       simp only [R_Q66, le, List.cons_append, List.nil_append] at q15
       replace F := aa q15 <| F
       cases o39 with
       | none =>
         dsimp only at T
         obtain ⟨o43, r42, y44, g45, z46, q16, T⟩ := T
         simp only [R_Q41, le, List.cons_append, List.nil_append] at q16
         replace F := aa q16 <| F
         cases o43 with
         | none =>
           dsimp only at T
           obtain ⟨p17, T⟩ := T
           simp only [bigRow] at p17
           replace F := aa p17 <| F
           rcases T with T | T
           · left
             intro S e f n0 t0 H0 h
             obtain ⟨hb0, ha0⟩ := H0
             obtain ⟨w0, hB0⟩ := take_some hb0
             have hn0 := o_getBox_lt hB0
             replace F := aa ha0 <| aa hB0 <| aa hn0 <| aa h <| F
             unfold k_Q100
             rw [E_loop]
             try simp only [F, lw, lx, le, Nat.reduceMul, UInt8.reduceToNat, reduceIte, reduceCtorEq, Nat.reduceEqDiff, Nat.reduceAdd, Nat.reduceLeDiff, Nat.reduceSub, Nat.reduceLT, Int.reduceEq, Int.reduceLT, Int.reduceLE, Int.reduceToNat, Int.reduceAdd, Int.reduceSub, Int.reduceMul, Int.reduceNeg]
             refine (T _ _ _ n0 t0 ?_ ?_).trans ?_
             all_goals exact fi F
           · right
             intro S e f n0 t0 H0 h
             obtain ⟨hb0, ha0⟩ := H0
             obtain ⟨w0, hB0⟩ := take_some hb0
             have hn0 := o_getBox_lt hB0
             replace F := aa ha0 <| aa hB0 <| aa hn0 <| aa h <| F
             unfold k_Q100
             rw [E_loop]
             try simp only [F, lw, lx, le, Nat.reduceMul, UInt8.reduceToNat, reduceIte, reduceCtorEq, Nat.reduceEqDiff, Nat.reduceAdd, Nat.reduceLeDiff, Nat.reduceSub, Nat.reduceLT, Int.reduceEq, Int.reduceLT, Int.reduceLE, Int.reduceToNat, Int.reduceAdd, Int.reduceSub, Int.reduceMul, Int.reduceNeg]
             refine (T _ _ _ n0 t0 ?_ ?_).trans ?_
             all_goals exact fi F
         | some e47 =>
           dsimp only at T
           obtain ⟨rfl, rfl, rfl, rfl⟩ := T
           right
           intro S e f n0 t0 H0 h
           obtain ⟨hb0, ha0⟩ := H0
           obtain ⟨w0, hB0⟩ := take_some hb0
           have hn0 := o_getBox_lt hB0
           replace F := aa ha0 <| aa hB0 <| aa hn0 <| aa h <| F
           unfold k_Q100
           rw [E_loop]
           exact fi F
       | some e41 =>
         dsimp only at T
         obtain ⟨rfl, rfl, rfl, rfl⟩ := T
         right
         intro S e f n0 t0 H0 h
         obtain ⟨hb0, ha0⟩ := H0
         obtain ⟨w0, hB0⟩ := take_some hb0
         have hn0 := o_getBox_lt hB0
         replace F := aa ha0 <| aa hB0 <| aa hn0 <| aa h <| F
         unfold k_Q100
         rw [E_loop]
         exact fi F
     | some e38 =>
       dsimp only at T
       obtain ⟨rfl, rfl, rfl, rfl⟩ := T
       right
       intro S e f n0 t0 H0 h
       obtain ⟨hb0, ha0⟩ := H0
       obtain ⟨w0, hB0⟩ := take_some hb0
       have hn0 := o_getBox_lt hB0
       replace F := aa ha0 <| aa hB0 <| aa hn0 <| aa h <| F
       unfold k_Q100
       rw [E_loop]
       exact fi F
theorem At_Q65_1b_step (l31 : List Attr) (b32 : PBlocks) (g33 : Nat) (z34 : Bool) (o : Option Int) (r : List Attr) (b' : PBlocks) (b'_g2 : Nat) (b'_z2 : Bool) (T :
  ∃ (r48 : Bool) (y49 : PTokens), (R_Q67 b32.exprs.tokens [125] r48 y49) ∧
 ((r48 = true) →
  none = o ∧ l31 = r ∧ (PBlocks.mk (PExprs.mk y49 b32.exprs.out b32.exprs.deep)) = b' ∧ g33 = b'_g2 ∧ z34 = b'_z2) ∧
 (¬ (r48 = true) →
  ∃ (r50 : Token) (y51 : PTokens), (R_Q38 y49 r50 y51) ∧
  ∃ (r52 : Token) (y53 : PTokens), (R_Q38 y51 r52 y53) ∧
  ((r52.Kind = 3) →
   (l31.length < 9223372036854775808) ∧
   ∃ (pp54 : Attr → Bool), (∀ x, x ∈ l31 → R_Q100 x r50.Text (pp54 x)) ∧
   (((l31.any pp54) = true) →
    ∃ (o55 : Option Int) (y56 : PTokens), (R_Q42 y53 3 o55 y56) ∧
    (match o55 with
    | none => (False )
    | some e57 => (some e57 = o ∧ (PBlocks.mk (PExprs.mk y56 b32.exprs.out b32.exprs.deep)) = b' ∧ g33 = b'_g2 ∧ z34 = b'_z2))) ∧
   (¬ ((l31.any pp54) = true) →
    ∃ (o59 : Option Int) (r58 : List UInt8) (y60 : PTokens), (R_Q101 y53 o59 r58 y60) ∧
    (match o59 with
    | none => (∃ (o62 : Option Int) (y63 : PTokens), (R_Q66 y60 [61] o62 y63) ∧
     (match o62 with
     | none => (∃ (o66 : Option Int) (r65 : List Node) (y67 : PExprs) (g68 : Nat) (z69 : Bool), (R_Q41 (PExprs.mk y63 b32.exprs.out b32.exprs.deep) g33 z34 o66 r65 y67 g68 z69) ∧
      (match o66 with
      | none => ((bigRow (l31.length + 1) 40) ∧
       At_Q65_1b (l31 ++ [(Attr.mk r58 r65)]) (PBlocks.mk y67) g68 z69 o r b' b'_g2 b'_z2)
      | some e70 => (some e70 = o ∧ (PBlocks.mk y67) = b' ∧ g68 = b'_g2 ∧ z69 = b'_z2)))
     | some e64 => (some e64 = o ∧ (PBlocks.mk (PExprs.mk y63 b32.exprs.out b32.exprs.deep)) = b' ∧ g33 = b'_g2 ∧ z34 = b'_z2)))
    | some e61 => (some e61 = o ∧ (PBlocks.mk (PExprs.mk y60 b32.exprs.out b32.exprs.deep)) = b' ∧ g33 = b'_g2 ∧ z34 = b'_z2)))) ∧
  (¬ (r52.Kind = 3) →
   ∃ (o72 : Option Int) (r71 : List UInt8) (y73 : PTokens), (R_Q101 y53 o72 r71 y73) ∧
   (match o72 with
   | none => (∃ (o75 : Option Int) (y76 : PTokens), (R_Q66 y73 [61] o75 y76) ∧
    (match o75 with
    | none => (∃ (o79 : Option Int) (r78 : List Node) (y80 : PExprs) (g81 : Nat) (z82 : Bool), (R_Q41 (PExprs.mk y76 b32.exprs.out b32.exprs.deep) g33 z34 o79 r78 y80 g81 z82) ∧
     (match o79 with
     | none => ((bigRow (l31.length + 1) 40) ∧
      At_Q65_1b (l31 ++ [(Attr.mk r71 r78)]) (PBlocks.mk y80) g81 z82 o r b' b'_g2 b'_z2)
     | some e83 => (some e83 = o ∧ (PBlocks.mk y80) = b' ∧ g81 = b'_g2 ∧ z82 = b'_z2)))
    | some e77 => (some e77 = o ∧ (PBlocks.mk (PExprs.mk y76 b32.exprs.out b32.exprs.deep)) = b' ∧ g33 = b'_g2 ∧ z34 = b'_z2)))
   | some e74 => (some e74 = o ∧ (PBlocks.mk (PExprs.mk y73 b32.exprs.out b32.exprs.deep)) = b' ∧ g33 = b'_g2 ∧ z34 = b'_z2))))) : At_Q65_1b l31 b32 g33 z34 o r b' b'_g2 b'_z2 := by
 have F := U_Q65
 obtain ⟨r48, y49, q1, T⟩ := T
 simp only [R_Q67, le, List.cons_append, List.nil_append] at q1
 replace F := aa q1 <| F
 by_cases c2 : r48 = true
 · replace T := T.1 c2
   obtain ⟨rfl, rfl, rfl, rfl, rfl⟩ := T
   left
   intro S e f n0 t0 H0 h
   obtain ⟨hb0, ha0⟩ := H0
   obtain ⟨w0, hB0⟩ := take_some hb0
   have hn0 := o_getBox_lt hB0
   replace F := aa ha0 <| aa hB0 <| aa hn0 <| aa h <| F
   unfold k_Q100
   rw [E_loop]
   exact fi (aa c2 <| F)
 · replace T := T.2 c2
   replace c2 := Bool.eq_false_iff.2 c2
   obtain ⟨r50, y51, q3, r52, y53, q4, T⟩ := T
   simp only [R_Q38, le, List.cons_append, List.nil_append] at q3
   simp only [R_Q38, le, List.cons_append, List.nil_append] at q4
   replace F := aa c2 <| aa q3 <| aa q4 <| F
   by_cases c5 : r52.Kind = 3
   · replace T := T.1 c5
     obtain ⟨p6, pp54, q7, T⟩ := T
     have o7 := H_slices_ContainsFunc_api_Attr_api_Attr_parse_blocks_body_1  p6 q7
     try simp only [le] at o7
     replace F := aa (eq_true c5) <| aa p6 <| aa o7 <| F
     by_cases c8 : (l31.any pp54) = true
     · replace T := T.1 c8
       obtain ⟨o55, y56, q9, T⟩ := T
       simp only [R_Q42, le, List.cons_append, List.nil_append] at q9
       replace F := aa c8 <| aa q9 <| F
       cases o55 with
       | none => exact False.elim T
       | some e57 =>
         dsimp only at T
         obtain ⟨rfl, rfl, rfl, rfl⟩ := T
         right
         intro S e f n0 t0 H0 h
         obtain ⟨hb0, ha0⟩ := H0
         obtain ⟨w0, hB0⟩ := take_some hb0
         have hn0 := o_getBox_lt hB0
         replace F := aa ha0 <| aa hB0 <| aa hn0 <| aa h <| F
         unfold k_Q100
         rw [E_loop]
         exact fi F
     · replace T := T.2 c8
       replace c8 := Bool.eq_false_iff.2 c8
       obtain ⟨o59, r58, y60, q10, T⟩ := T
       simp only [R_Q101, le, List.cons_append, List.nil_append] at q10
       replace F := aa c8 <| aa q10 <| F
       cases o59 with
       | none =>
         dsimp only at T
         obtain ⟨o62, y63, q11, T⟩ := T
         simp only [R_Q66, le, List.cons_append, List.nil_append] at q11
         replace F := aa q11 <| F
         cases o62 with
         | none =>
           dsimp only at T
           obtain ⟨o66, r65, y67, g68, z69, q12, T⟩ := T
           simp only [R_Q41, le, List.cons_append, List.nil_append] at q12
           replace F := aa q12 <| F
           cases o66 with
           | none =>
             dsimp only at T
             obtain ⟨p13, T⟩ := T
             simp only [bigRow] at p13
             replace F := aa p13 <| F
             rcases T with T | T
             · left
               intro S e f n0 t0 H0 h
               obtain ⟨hb0, ha0⟩ := H0
               obtain ⟨w0, hB0⟩ := take_some hb0
               have hn0 := o_getBox_lt hB0
               replace F := aa ha0 <| aa hB0 <| aa hn0 <| aa h <| F
               unfold k_Q100
               rw [E_loop]
               try simp only [F, lw, lx, le, Nat.reduceMul, UInt8.reduceToNat, reduceIte, reduceCtorEq, Nat.reduceEqDiff, Nat.reduceAdd, Nat.reduceLeDiff, Nat.reduceSub, Nat.reduceLT, Int.reduceEq, Int.reduceLT, Int.reduceLE, Int.reduceToNat, Int.reduceAdd, Int.reduceSub, Int.reduceMul, Int.reduceNeg]
               refine (T _ _ _ n0 t0 ?_ ?_).trans ?_
               all_goals exact fi F
             · right
               intro S e f n0 t0 H0 h
               obtain ⟨hb0, ha0⟩ := H0
               obtain ⟨w0, hB0⟩ := take_some hb0
               have hn0 := o_getBox_lt hB0
               replace F := aa ha0 <| aa hB0 <| aa hn0 <| aa h <| F
               unfold k_Q100
               rw [E_loop]
               try simp only [F, lw, lx, le, Nat.reduceMul, UInt8.reduceToNat, reduceIte, reduceCtorEq, Nat.reduceEqDiff, Nat.reduceAdd, Nat.reduceLeDiff, Nat.reduceSub, Nat.reduceLT, Int.reduceEq, Int.reduceLT, Int.reduceLE, Int.reduceToNat, Int.reduceAdd, Int.reduceSub, Int.reduceMul, Int.reduceNeg]
               refine (T _ _ _ n0 t0 ?_ ?_).trans ?_
               all_goals exact fi F
           | some e70 =>
             dsimp only at T
             obtain ⟨rfl, rfl, rfl, rfl⟩ := T
             right
             intro S e f n0 t0 H0 h
             obtain ⟨hb0, ha0⟩ := H0
             obtain ⟨w0, hB0⟩ := take_some hb0
             have hn0 := o_getBox_lt hB0
             replace F := aa ha0 <| aa hB0 <| aa hn0 <| aa h <| F
             unfold k_Q100
             rw [E_loop]
             exact fi F
         | some e64 =>
           dsimp only at T
           obtain ⟨rfl, rfl, rfl, rfl⟩ := T
           right
           intro S e f n0 t0 H0 h
           obtain ⟨hb0, ha0⟩ := H0
           obtain ⟨w0, hB0⟩ := take_some hb0
           have hn0 := o_getBox_lt hB0
           replace F := aa ha0 <| aa hB0 <| aa hn0 <| aa h <| F
           unfold k_Q100
           rw [E_loop]
           exact fi F
       | some e61 =>
         dsimp only at T
         obtain ⟨rfl, rfl, rfl, rfl⟩ := T
         right
         intro S e f n0 t0 H0 h
         obtain ⟨hb0, ha0⟩ := H0
         obtain ⟨w0, hB0⟩ := take_some hb0
         have hn0 := o_getBox_lt hB0
         replace F := aa ha0 <| aa hB0 <| aa hn0 <| aa h <| F
         unfold k_Q100
         rw [E_loop]
         exact fi F
   · replace T := T.2 c5
     obtain ⟨o72, r71, y73, q14, T⟩ := T
     simp only [R_Q101, le, List.cons_append, List.nil_append] at q14
     replace F := aa (eq_false c5) <| aa q14 <| F
     cases o72 with
     | none =>
       dsimp only at T
       obtain ⟨o75, y76, q15, T⟩ := T
       simp only [R_Q66, le, List.cons_append, List.nil_append] at q15
       replace F := aa q15 <| F
       cases o75 with
       | none =>
         dsimp only at T
         obtain ⟨o79, r78, y80, g81, z82, q16, T⟩ := T
         simp only [R_Q41, le, List.cons_append, List.nil_append] at q16
         replace F := aa q16 <| F
         cases o79 with
         | none =>
           dsimp only at T
           obtain ⟨p17, T⟩ := T
           simp only [bigRow] at p17
           replace F := aa p17 <| F
           rcases T with T | T
           · left
             intro S e f n0 t0 H0 h
             obtain ⟨hb0, ha0⟩ := H0
             obtain ⟨w0, hB0⟩ := take_some hb0
             have hn0 := o_getBox_lt hB0
             replace F := aa ha0 <| aa hB0 <| aa hn0 <| aa h <| F
             unfold k_Q100
             rw [E_loop]
             try simp only [F, lw, lx, le, Nat.reduceMul, UInt8.reduceToNat, reduceIte, reduceCtorEq, Nat.reduceEqDiff, Nat.reduceAdd, Nat.reduceLeDiff, Nat.reduceSub, Nat.reduceLT, Int.reduceEq, Int.reduceLT, Int.reduceLE, Int.reduceToNat, Int.reduceAdd, Int.reduceSub, Int.reduceMul, Int.reduceNeg]
             refine (T _ _ _ n0 t0 ?_ ?_).trans ?_
             all_goals exact fi F
           · right
             intro S e f n0 t0 H0 h
             obtain ⟨hb0, ha0⟩ := H0
             obtain ⟨w0, hB0⟩ := take_some hb0
             have hn0 := o_getBox_lt hB0
             replace F := aa ha0 <| aa hB0 <| aa hn0 <| aa h <| F
             unfold k_Q100
             rw [E_loop]
             try simp only [F, lw, lx, le, Nat.reduceMul, UInt8.reduceToNat, reduceIte, reduceCtorEq, Nat.reduceEqDiff, Nat.reduceAdd, Nat.reduceLeDiff, Nat.reduceSub, Nat.reduceLT, Int.reduceEq, Int.reduceLT, Int.reduceLE, Int.reduceToNat, Int.reduceAdd, Int.reduceSub, Int.reduceMul, Int.reduceNeg]
             refine (T _ _ _ n0 t0 ?_ ?_).trans ?_
             all_goals exact fi F
         | some e83 =>
           dsimp only at T
           obtain ⟨rfl, rfl, rfl, rfl⟩ := T
           right
           intro S e f n0 t0 H0 h
           obtain ⟨hb0, ha0⟩ := H0
           obtain ⟨w0, hB0⟩ := take_some hb0
           have hn0 := o_getBox_lt hB0
           replace F := aa ha0 <| aa hB0 <| aa hn0 <| aa h <| F
           unfold k_Q100
           rw [E_loop]
           exact fi F
       | some e77 =>
         dsimp only at T
         obtain ⟨rfl, rfl, rfl, rfl⟩ := T
         right
         intro S e f n0 t0 H0 h
         obtain ⟨hb0, ha0⟩ := H0
         obtain ⟨w0, hB0⟩ := take_some hb0
         have hn0 := o_getBox_lt hB0
         replace F := aa ha0 <| aa hB0 <| aa hn0 <| aa h <| F
         unfold k_Q100
         rw [E_loop]
         exact fi F
     | some e74 =>
       dsimp only at T
       obtain ⟨rfl, rfl, rfl, rfl⟩ := T
       right
       intro S e f n0 t0 H0 h
       obtain ⟨hb0, ha0⟩ := H0
       obtain ⟨w0, hB0⟩ := take_some hb0
       have hn0 := o_getBox_lt hB0
       replace F := aa ha0 <| aa hB0 <| aa hn0 <| aa h <| F
       unfold k_Q100
       rw [E_loop]
       exact fi F
theorem Q65_tree (b : PBlocks) (b_g2 : Nat) (b_z2 : Bool) (o : Option Int) (r : List Attr) (b' : PBlocks) (b'_g2 : Nat) (b'_z2 : Bool) (T :
  ∃ (o1 : Option Int) (y2 : PTokens), (R_Q66 b.exprs.tokens [123] o1 y2) ∧
 (match o1 with
 | none => (At_Q100 [] (PBlocks.mk (PExprs.mk y2 b.exprs.out b.exprs.deep)) b_g2 b_z2 o r b' b'_g2 b'_z2)
 | some e3 => (some e3 = o ∧ (PBlocks.mk (PExprs.mk y2 b.exprs.out b.exprs.deep)) = b' ∧ b_g2 = b'_g2 ∧ b_z2 = b'_z2))) : R_Q65 b b_g2 b_z2 o r b' b'_g2 b'_z2 := by
 have F := U_Q65
 obtain ⟨o1, y2, q1, T⟩ := T
 simp only [R_Q66, le, List.cons_append, List.nil_append] at q1
 replace F := aa q1 <| F
 cases o1 with
 | none =>
   dsimp only at T
   rcases T with T | T
   · left
     intro S n0 t0 H0
     obtain ⟨hb0, ha0⟩ := H0
     obtain ⟨w0, hB0⟩ := take_some hb0
     have hn0 := o_getBox_lt hB0
     replace F := aa ha0 <| aa hB0 <| aa hn0 <| F
     rw [call_code sp_Q65 _ _ rfl]
     try simp only [F, lw, lx, le, Nat.reduceMul, UInt8.reduceToNat, reduceIte, reduceCtorEq, Nat.reduceEqDiff, Nat.reduceAdd, Nat.reduceLeDiff, Nat.reduceSub, Nat.reduceLT, Int.reduceEq, Int.reduceLT, Int.reduceLE, Int.reduceToNat, Int.reduceAdd, Int.reduceSub, Int.reduceMul, Int.reduceNeg]
     refine (T _ _ _ n0 t0 ?_ ?_).trans ?_
     all_goals exact fi F
   · right
     intro S n0 t0 H0
     obtain ⟨hb0, ha0⟩ := H0
     obtain ⟨w0, hB0⟩ := take_some hb0
     have hn0 := o_getBox_lt hB0
     replace F := aa ha0 <| aa hB0 <| aa hn0 <| F
     rw [call_code sp_Q65 _ _ rfl]
     try simp only [F, lw, lx, le, Nat.reduceMul, UInt8.reduceToNat, reduceIte, reduceCtorEq, Nat.reduceEqDiff, Nat.reduceAdd, Nat.reduceLeDiff, Nat.reduceSub, Nat.reduceLT, Int.reduceEq, Int.reduceLT, Int.reduceLE, Int.reduceToNat, Int.reduceAdd, Int.reduceSub, Int.reduceMul, Int.reduceNeg]
     refine (T _ _ _ n0 t0 ?_ ?_).trans ?_
     all_goals exact fi F
 | some e3 =>
   dsimp only at T
   obtain ⟨rfl, rfl, rfl, rfl⟩ := T
   right
   intro S n0 t0 H0
   obtain ⟨hb0, ha0⟩ := H0
   obtain ⟨w0, hB0⟩ := take_some hb0
   have hn0 := o_getBox_lt hB0
   replace F := aa ha0 <| aa hB0 <| aa hn0 <| F
   rw [call_code sp_Q65 _ _ rfl]
   exact fi F
theorem sp_Q63 : SP 63 = some (.code sc_Q63) := SPof_code rfl Tryz.func63 comp_Q63
theorem Q63_tree  (r : List (List UInt8)) (T :
  [[118, 97, 114, 105, 97, 98, 108, 101], [108, 111, 99, 97, 108, 115], [110, 111, 100, 101], [109, 111, 100, 117, 108, 101], [100, 101, 102, 105, 110, 101]] = r) : R_Q63  r := by
 intro S
 rw [call_code sp_Q63 _ _ rfl]
 have F := U_Q63
 obtain rfl := T
 exact fi F
theorem sp_Q39 : SP 39 = some (.code sc_Q39) := SPof_code rfl Tryz.func39 comp_Q39
def At_Q39_1 (r4 : Int) (r11 : List UInt8) (l20 : List Attr) (g21 : Nat) (l22 : List Block) (g23 : Nat) (b24 : PBlocks) (g25 : Nat) (z26 : Bool) (o : Option Int) (r : Block) (b' : PBlocks) (b'_g2 : Nat) (b'_z2 : Bool) : Prop := ∀ (S : Sto) (e : Nat → PV) (f : Fr) (n0 t0 : Nat), ((getBox S n0 t0).map (List.take 4) = some [.list 5 (b24.exprs.tokens.l.map eToken) false, .int .i64 b24.exprs.tokens.pos, .sl 0 (.cell t0 2) 0 b24.exprs.out.length b24.exprs.out.length g25 false, .int .i64 b24.exprs.deep] ∧ getArr S n0 (.cell t0 2) = some ⟨5, b24.exprs.out.map eNode, z26, g25⟩) → e 0 = .ptr (n0 + 1) t0 0 ∧ e 4 = .ptr 0 4 0 ∧ e 7 = .ptr 0 7 0 ∧ f.box 4 = some [.int .i64 0, .str [], .sl 0 (.cell 4 2) 0 0 0 0 false, .sl 0 (.cell 4 3) 0 0 0 0 false] ∧ f.box 7 = some [.int .i64 (1 + r4), .str r11, .sl 0 (.cell 7 2) 0 l20.length l20.length g21 false, .sl 0 (.cell 7 3) 0 l22.length l22.length g23 false] ∧ f.arr (.cell 4 2) = some ⟨2, [], false, 0⟩ ∧ f.arr (.cell 4 3) = some ⟨4, [], false, 0⟩ ∧ f.arr (.cell 7 2) = some ⟨2, l20.map eAttr, false, g21⟩ ∧ f.arr (.cell 7 3) = some ⟨4, l22.map eBlock, false, g23⟩ → k_Q39_1 SP (E SP (.loop b_Q39_1) ⟨e, f :: S⟩) = po 116 o (.v (.agg [.int .i64 r.Kind, .str r.Label, .list 2 (r.Attrs.map eAttr) false, .list 4 (r.Blocks.map eBlock) false])) (setArr (setBox S n0 t0 ([.list 5 (b'.exprs.tokens.l.map eToken) false, .int .i64 b'.exprs.tokens.pos, .sl 0 (.cell t0 2) 0 b'.exprs.out.length b'.exprs.out.length b'_g2 false, .int .i64 b'.exprs.deep] ++ ((getBox S n0 t0).getD []).drop 4)) n0 (.cell t0 2) ⟨5, b'.exprs.out.map eNode, b'_z2, b'_g2⟩)
theorem At_Q39_1_step (r4 : Int) (r11 : List UInt8) (l20 : List Attr) (g21 : Nat) (l22 : List Block) (g23 : Nat) (b24 : PBlocks) (g25 : Nat) (z26 : Bool) (o : Option Int) (r : Block) (b' : PBlocks) (b'_g2 : Nat) (b'_z2 : Bool) (T :
  ∃ (r48 : Bool) (y49 : PTokens), (R_Q67 b24.exprs.tokens [125] r48 y49) ∧
 ((r48 = true) →
  none = o ∧ (Block.mk (1 + r4) r11 l20 l22) = r ∧ (PBlocks.mk (PExprs.mk y49 b24.exprs.out b24.exprs.deep)) = b' ∧ g25 = b'_g2 ∧ z26 = b'_z2) ∧
 (¬ (r48 = true) →
  ∃ (o51 : Option Int) (r50 : Block) (y52 : PBlocks) (g53 : Nat) (z54 : Bool), (R_Q39 (PBlocks.mk (PExprs.mk y49 b24.exprs.out b24.exprs.deep)) g25 z26 true o51 r50 y52 g53 z54) ∧
  (match o51 with
  | none => ((bigRow (l22.length + 1) 72) ∧
   At_Q39_1 r4 r11 l20 g21 (l22 ++ [r50]) g23 y52 g53 z54 o r b' b'_g2 b'_z2)
  | some e55 => (some e55 = o ∧ y52 = b' ∧ g53 = b'_g2 ∧ z54 = b'_z2)))) : At_Q39_1 r4 r11 l20 g21 l22 g23 b24 g25 z26 o r b' b'_g2 b'_z2 := by
 intro S e f n0 t0 H0 h
 obtain ⟨hb0, ha0⟩ := H0
 obtain ⟨w0, hB0⟩ := take_some hb0
 have hn0 := o_getBox_lt hB0
 unfold k_Q39_1
 rw [E_loop]
 have F := U_Q39
 obtain ⟨r48, y49, q1, T⟩ := T
 simp only [R_Q67, le, List.cons_append, List.nil_append] at q1
 replace F := aa ha0 <| aa hB0 <| aa hn0 <| aa h <| aa q1 <| F
 by_cases c2 : r48 = true
 · replace T := T.1 c2
   obtain ⟨rfl, rfl, rfl, rfl, rfl⟩ := T
   exact fi (aa c2 <| F)
 · replace T := T.2 c2
   replace c2 := Bool.eq_false_iff.2 c2
   obtain ⟨o51, r50, y52, g53, z54, q3, T⟩ := T
   simp only [R_Q39, le, List.cons_append, List.nil_append] at q3
   replace F := aa c2 <| aa q3 <| F
   cases o51 with
   | none =>
     dsimp only at T
     obtain ⟨p4, T⟩ := T
     simp only [bigRow] at p4
     replace F := aa p4 <| F
     try simp only [F, lw, lx, le, Nat.reduceMul, UInt8.reduceToNat, reduceIte, reduceCtorEq, Nat.reduceEqDiff, Nat.reduceAdd, Nat.reduceLeDiff, Nat.reduceSub, Nat.reduceLT, Int.reduceEq, Int.reduceLT, Int.reduceLE, Int.reduceToNat, Int.reduceAdd, Int.reduceSub, Int.reduceMul, Int.reduceNeg]
     refine (T _ _ _ n0 t0 ?_ ?_).trans ?_
     all_goals exact fi F
   | some e55 =>
     dsimp only at T
     obtain ⟨rfl, rfl, rfl, rfl⟩ := T
     exact fi F
theorem Q39_tree (b : PBlocks) (b_g2 : Nat) (b_z2 : Bool) (within : Bool) (o : Option Int) (r : Block) (b' : PBlocks) (b'_g2 : Nat) (b'_z2 : Bool) (T :
  ∃ (r1 : Token) (y2 : PTokens), (R_Q38 b.exprs.tokens r1 y2) ∧
 ∃ (r3 : List (List UInt8)), (R_Q63 r3) ∧
 ∃ (r4 : Int), (R_slices_Index_string_string r3 r1.Text r4) ∧
 (I64 (1 + r4)) ∧
 ((r1.Kind = 3) →
  (((1 + r4) = 0) →
   ∃ (o5 : Option Int) (y6 : PTokens), (R_Q42 y2 5 o5 y6) ∧
   (match o5 with
   | none => (False )
   | some e7 => (some e7 = o ∧ (PBlocks.mk (PExprs.mk y6 b.exprs.out b.exprs.deep)) = b' ∧ b_g2 = b'_g2 ∧ b_z2 = b'_z2))) ∧
  (¬ ((1 + r4) = 0) →
   (((1 + r4) = 5) →
    ((within = true) →
     ∃ (o8 : Option Int) (y9 : PTokens), (R_Q42 y2 5 o8 y9) ∧
     (match o8 with
     | none => (False )
     | some e10 => (some e10 = o ∧ (PBlocks.mk (PExprs.mk y9 b.exprs.out b.exprs.deep)) = b' ∧ b_g2 = b'_g2 ∧ b_z2 = b'_z2))) ∧
    (¬ (within = true) →
     (I64 (y2.pos + 1)) ∧
     ∃ (o12 : Option Int) (r11 : List UInt8) (y13 : PBlocks) (g14 : Nat) (z15 : Bool), (R_Q64 (PBlocks.mk (PExprs.mk (PTokens.mk y2.l (y2.pos + 1)) b.exprs.out b.exprs.deep)) b_g2 b_z2 o12 r11 y13 g14 z15) ∧
     (match o12 with
     | none => (∃ (o17 : Option Int) (y18 : PTokens), (R_Q66 y13.exprs.tokens [123] o17 y18) ∧
      (match o17 with
      | none => (At_Q39_1 r4 r11 [] 1 [] 1 (PBlocks.mk (PExprs.mk y18 y13.exprs.out y13.exprs.deep)) g14 z15 o r b' b'_g2 b'_z2)
      | some e19 => (some e19 = o ∧ (PBlocks.mk (PExprs.mk y18 y13.exprs.out y13.exprs.deep)) = b' ∧ g14 = b'_g2 ∧ z15 = b'_z2)))
     | some e16 => (some e16 = o ∧ y13 = b' ∧ g14 = b'_g2 ∧ z15 = b'_z2)))) ∧
   (¬ ((1 + r4) = 5) →
    (I64 (y2.pos + 1)) ∧
    (((1 + r4) = 2) →
     ∃ (o28 : Option Int) (r27 : List Attr) (y29 : PBlocks) (g30 : Nat) (z31 : Bool), (R_Q65 (PBlocks.mk (PExprs.mk (PTokens.mk y2.l (y2.pos + 1)) b.exprs.out b.exprs.deep)) b_g2 b_z2 o28 r27 y29 g30 z31) ∧
     (match o28 with
     | none => ((none = o ∧ (Block.mk (1 + r4) [] r27 []) = r ∧ y29 = b' ∧ g30 = b'_g2 ∧ z31 = b'_z2) ∧
      (none = o ∧ (Block.mk (1 + r4) [] r27 []) = r ∧ y29 = b' ∧ g30 = b'_g2 ∧ z31 = b'_z2))
     | some e32 => (some e32 = o ∧ y29 = b' ∧ g30 = b'_g2 ∧ z31 = b'_z2))) ∧
    (¬ ((1 + r4) = 2) →
     ∃ (o34 : Option Int) (r33 : List UInt8) (y35 : PBlocks) (g36 : Nat) (z37 : Bool), (R_Q64 (PBlocks.mk (PExprs.mk (PTokens.mk y2.l (y2.pos + 1)) b.exprs.out b.exprs.deep)) b_g2 b_z2 o34 r33 y35 g36 z37) ∧
     (match o34 with
     | none => (∃ (o40 : Option Int) (r39 : List Attr) (y41 : PBlocks) (g42 : Nat) (z43 : Bool), (R_Q65 y35 g36 z37 o40 r39 y41 g42 z43) ∧
      (match o40 with
      | none => ((none = o ∧ (Block.mk (1 + r4) r33 r39 []) = r ∧ y41 = b' ∧ g42 = b'_g2 ∧ z43 = b'_z2) ∧
       (none = o ∧ (Block.mk (1 + r4) r33 r39 []) = r ∧ y41 = b' ∧ g42 = b'_g2 ∧ z43 = b'_z2))
      | some e44 => (some e44 = o ∧ y41 = b' ∧ g42 = b'_g2 ∧ z43 = b'_z2)))
     | some e38 => (some e38 = o ∧ y35 = b' ∧ g36 = b'_g2 ∧ z37 = b'_z2)))))) ∧
 (¬ (r1.Kind = 3) →
  ∃ (o45 : Option Int) (y46 : PTokens), (R_Q42 y2 5 o45 y46) ∧
  (match o45 with
  | none => (False )
  | some e47 => (some e47 = o ∧ (PBlocks.mk (PExprs.mk y46 b.exprs.out b.exprs.deep)) = b' ∧ b_g2 = b'_g2 ∧ b_z2 = b'_z2)))) : R_Q39 b b_g2 b_z2 within o r b' b'_g2 b'_z2 := by
 intro S n0 t0 H0
 obtain ⟨hb0, ha0⟩ := H0
 obtain ⟨w0, hB0⟩ := take_some hb0
 have hn0 := o_getBox_lt hB0
 rw [call_code sp_Q39 _ _ rfl]
 have F := U_Q39
 obtain ⟨r1, y2, q1, r3, q2, r4, q3, p4, T⟩ := T
 simp only [R_Q38, le, List.cons_append, List.nil_append] at q1
 simp only [R_Q63, le, List.cons_append, List.nil_append] at q2
 simp only [R_slices_Index_string_string, le, List.cons_append, List.nil_append] at q3
 replace F := aa ha0 <| aa hB0 <| aa hn0 <| aa q1 <| aa q2 <| aa q3 <| aa p4.wrap <| F
 by_cases c5 : r1.Kind = 3
 · replace T := T.1 c5
   replace F := aa (eq_true c5) <| F
   by_cases c6 : (1 + r4) = 0
   · replace T := T.1 c6
     obtain ⟨o5, y6, q7, T⟩ := T
     simp only [R_Q42, le, List.cons_append, List.nil_append] at q7
     replace F := aa (eq_true c6) <| aa q7 <| F
     cases o5 with
     | none => exact False.elim T
     | some e7 =>
       dsimp only at T
       obtain ⟨rfl, rfl, rfl, rfl⟩ := T
       exact fi F
   · replace T := T.2 c6
     replace F := aa (eq_false c6) <| F
     by_cases c8 : (1 + r4) = 5
     · replace T := T.1 c8
       replace F := aa (eq_true c8) <| F
       by_cases c9 : within = true
       · replace T := T.1 c9
         obtain ⟨o8, y9, q10, T⟩ := T
         simp only [R_Q42, le, List.cons_append, List.nil_append] at q10
         replace F := aa c9 <| aa q10 <| F
         cases o8 with
         | none => exact False.elim T
         | some e10 =>
           dsimp only at T
           obtain ⟨rfl, rfl, rfl, rfl⟩ := T
           exact fi F
       · replace T := T.2 c9
         replace c9 := Bool.eq_false_iff.2 c9
         obtain ⟨p11, o12, r11, y13, g14, z15, q13, T⟩ := T
         have d12 : ¬ ((1 + r4) = 2) := fun h => absurd (c8.symm.trans h) (by decide)
         simp only [R_Q64, le, List.cons_append, List.nil_append] at q13
         replace F := aa c9 <| aa p11.wrap <| aa (eq_false d12) <| aa q13 <| F
         cases o12 with
         | none =>
           dsimp only at T
           obtain ⟨o17, y18, q14, T⟩ := T
           simp only [R_Q66, le, List.cons_append, List.nil_append] at q14
           replace F := aa q14 <| F
           cases o17 with
           | none =>
             dsimp only at T
             try simp only [F, lw, lx, le, Nat.reduceMul, UInt8.reduceToNat, reduceIte, reduceCtorEq, Nat.reduceEqDiff, Nat.reduceAdd, Nat.reduceLeDiff, Nat.reduceSub, Nat.reduceLT, Int.reduceEq, Int.reduceLT, Int.reduceLE, Int.reduceToNat, Int.reduceAdd, Int.reduceSub, Int.reduceMul, Int.reduceNeg]
             refine (T _ _ _ n0 t0 ?_ ?_).trans ?_
             all_goals exact fi F
           | some e19 =>
             dsimp only at T
             obtain ⟨rfl, rfl, rfl, rfl⟩ := T
             exact fi F
         | some e16 =>
           dsimp only at T
           obtain ⟨rfl, rfl, rfl, rfl⟩ := T
           exact fi F
     · replace T := T.2 c8
       obtain ⟨p15, T⟩ := T
       replace F := aa (eq_false c8) <| aa p15.wrap <| F
       by_cases c16 : (1 + r4) = 2
       · replace T := T.1 c16
         obtain ⟨o28, r27, y29, g30, z31, q17, T⟩ := T
         simp only [R_Q65, le, List.cons_append, List.nil_append] at q17
         replace F := aa (eq_true c16) <| F
         cases o28 with
         | none =>
           dsimp only at T
           rcases q17 with q17 | q17
           · replace T := T.1
             obtain ⟨rfl, rfl, rfl, rfl, rfl⟩ := T
             exact fi (aa q17 <| F)
           · replace T := T.2
             obtain ⟨rfl, rfl, rfl, rfl, rfl⟩ := T
             exact fi (aa q17 <| F)
         | some e32 =>
           dsimp only at T
           rcases q17 with q17 | q17
           ·
             obtain ⟨rfl, rfl, rfl, rfl⟩ := T
             exact fi (aa q17 <| F)
           ·
             obtain ⟨rfl, rfl, rfl, rfl⟩ := T
             exact fi (aa q17 <| F)
       · replace T := T.2 c16
         obtain ⟨o34, r33, y35, g36, z37, q18, T⟩ := T
         simp only [R_Q64, le, List.cons_append, List.nil_append] at q18
         replace F := aa (eq_false c16) <| aa q18 <| F
         cases o34 with
         | none =>
           dsimp only at T
           obtain ⟨o40, r39, y41, g42, z43, q19, T⟩ := T
           simp only [R_Q65, le, List.cons_append, List.nil_append] at q19
           cases o40 with
           | none =>
             dsimp only at T
             rcases q19 with q19 | q19
             · replace T := T.1
               obtain ⟨rfl, rfl, rfl, rfl, rfl⟩ := T
               exact fi (aa q19 <| F)
             · replace T := T.2
               obtain ⟨rfl, rfl, rfl, rfl, rfl⟩ := T
               exact fi (aa q19 <| F)
           | some e44 =>
             dsimp only at T
             rcases q19 with q19 | q19
             ·
               obtain ⟨rfl, rfl, rfl, rfl⟩ := T
               exact fi (aa q19 <| F)
             ·
               obtain ⟨rfl, rfl, rfl, rfl⟩ := T
               exact fi (aa q19 <| F)
         | some e38 =>
           dsimp only at T
           obtain ⟨rfl, rfl, rfl, rfl⟩ := T
           exact fi F
 · replace T := T.2 c5
   obtain ⟨o45, y46, q20, T⟩ := T
   simp only [R_Q42, le, List.cons_append, List.nil_append] at q20
   replace F := aa (eq_false c5) <| aa q20 <| F
   cases o45 with
   | none => exact False.elim T
   | some e47 =>
     dsimp only at T
     obtain ⟨rfl, rfl, rfl, rfl⟩ := T
     exact fi F
end Go.Proofs.YtfbcnpbhhooapaaGreatDoor.M
