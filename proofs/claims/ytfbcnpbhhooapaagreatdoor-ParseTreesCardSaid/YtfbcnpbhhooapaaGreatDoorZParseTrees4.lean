/- Parts of a proof, one behind another: Sc4, G4, Lt10, Lt9, Sc1, Lt1, Sc2. -/
import Derived.Test.YtfbcnpbhhooapaaGreatDoorZParseTrees3
import Derived.Test.YtfbcnpbhhooapaaGreatDoorProg
import Derived.KernelRfl
set_option maxHeartbeats 4000000
namespace Go.Proofs.YtfbcnpbhhooapaaGreatDoor.M
open Go
set_option linter.unusedVariables false
def sc_Q38 : SFunc := ⟨1, 13, .seq (.reg [⟨some 2, none, .alloc [(.int .i64 0), (.str []), (.int .i64 0), (.nils 2), (.int .i64 0)]⟩]) (.seq (.dreg [⟨some 3, none, .v (.mov (.t 0))⟩, ⟨some 4, none, .v (.nchk (.t 3))⟩, ⟨some 5, none, .v (.faddr 0 (.t 4))⟩, ⟨some 6, none, .v (.load none (.t 5))⟩, ⟨some 7, none, .v (.mov (.t 0))⟩, ⟨some 8, none, .v (.nchk (.t 7))⟩, ⟨some 9, none, .v (.faddr 1 (.t 8))⟩, ⟨some 10, none, .v (.load none (.t 9))⟩, ⟨some 11, none, .v (.iaddr 5 (.t 6) (.t 10))⟩, ⟨some 12, none, .v (.load (some 5) (.t 11))⟩, ⟨none, none, .store 5 (.t 2) (.t 12)⟩] [false, false, false, false, false, false, false, false, true, true, true]) .ret), [(.cell 2 (some 5))]⟩
theorem U_Q38 : type_of% (sc_Q38.eq_1) := sc_Q38.eq_1
theorem comp_Q38 : comp Tryz.prog Tryz.f38 = some sc_Q38 := by kernel_rfl
def sc_Q42 : SFunc := ⟨2, 6, .reg [⟨some 4, none, .v (.mov (.t 1))⟩, ⟨some 5, none, .v (.mkif 116 (.t 4))⟩, ⟨none, none, .panic (.t 5)⟩], []⟩
theorem U_Q42 : type_of% (sc_Q42.eq_1) := sc_Q42.eq_1
theorem comp_Q42 : comp Tryz.prog Tryz.f42 = some sc_Q42 := by kernel_rfl
def sc_Q102 : SFunc := ⟨2, 16, .seq (.reg [⟨some 4, none, .v (.mov (.c (.bool false)))⟩]) (.seq (.reg [⟨some 5, none, .v (.mov (.t 0))⟩, ⟨some 6, none, .call (.c (.func 38 [])) [(.t 5)]⟩, ⟨some 7, none, .v (.field 0 none (.t 6))⟩, ⟨some 8, none, .v (.bin .eql (.t 7) (.c (.int .i64 4)))⟩, ⟨some 9, none, .v (.mov (.t 8))⟩, ⟨some 10, some (9, true), .v (.mov (.t 0))⟩, ⟨some 11, some (9, true), .call (.c (.func 38 [])) [(.t 10)]⟩, ⟨some 12, some (9, true), .v (.field 1 none (.t 11))⟩, ⟨some 13, some (9, true), .v (.mov (.t 1))⟩, ⟨some 14, some (9, true), .v (.bin .eql (.t 12) (.t 13))⟩, ⟨some 15, none, .v (.pick (.t 9) (.t 14) (.c (.bool false)))⟩, ⟨some 4, none, .v (.mov (.t 15))⟩]) .ret), [(.t 4)]⟩
theorem U_Q102 : type_of% (sc_Q102.eq_1) := sc_Q102.eq_1
theorem comp_Q102 : comp Tryz.prog Tryz.f102 = some sc_Q102 := by kernel_rfl
def sc_Q67 : SFunc := ⟨2, 16, .seq (.reg [⟨some 4, none, .v (.mov (.c (.bool false)))⟩]) (.seq (.seq (.reg [⟨some 5, none, .v (.mov (.t 0))⟩, ⟨some 6, none, .v (.mov (.t 1))⟩, ⟨some 7, none, .call (.c (.func 102 [])) [(.t 5), (.t 6)]⟩, ⟨some 8, none, .v (.un .not (.t 7))⟩]) (.cond (.t 8) (.seq (.reg [⟨some 4, none, .v (.mov (.c (.bool false)))⟩]) .ret) .skip)) (.seq (.reg [⟨some 9, none, .v (.mov (.t 0))⟩, ⟨some 10, none, .v (.nchk (.t 9))⟩, ⟨some 11, none, .v (.faddr 1 (.t 10))⟩, ⟨some 12, none, .v (.load none (.t 11))⟩, ⟨some 13, none, .v (.bin .add (.t 12) (.c (.int .i64 1)))⟩, ⟨some 14, none, .v (.nchk (.t 9))⟩, ⟨some 15, none, .v (.faddr 1 (.t 14))⟩, ⟨none, none, .store 1 (.t 15) (.t 13)⟩]) (.seq (.reg [⟨some 4, none, .v (.mov (.c (.bool true)))⟩]) .ret))), [(.t 4)]⟩
theorem U_Q67 : type_of% (sc_Q67.eq_1) := sc_Q67.eq_1
theorem comp_Q67 : comp Tryz.prog Tryz.f67 = some sc_Q67 := by kernel_rfl
def sc_Q66 : SFunc := ⟨2, 10, .seq (.reg [⟨some 4, none, .v (.mov (.t 0))⟩, ⟨some 5, none, .v (.mov (.t 1))⟩, ⟨some 6, none, .call (.c (.func 67 [])) [(.t 4), (.t 5)]⟩, ⟨some 7, none, .v (.un .not (.t 6))⟩]) (.cond (.t 7) (.reg [⟨some 8, none, .v (.mov (.t 0))⟩, ⟨some 9, none, .call (.c (.func 42 [])) [(.t 8), (.c (.int .i64 5))]⟩]) .skip), []⟩
theorem U_Q66 : type_of% (sc_Q66.eq_1) := sc_Q66.eq_1
theorem comp_Q66 : comp Tryz.prog Tryz.f66 = some sc_Q66 := by kernel_rfl
def sc_Q101 : SFunc := ⟨1, 20, .seq (.reg [⟨some 2, none, .v (.mov (.c (.str [])))⟩]) (.seq (.reg [⟨some 4, none, .v (.mov (.t 0))⟩, ⟨some 5, none, .call (.c (.func 38 [])) [(.t 4)]⟩, ⟨some 3, none, .alloc [(.int .i64 0), (.str []), (.int .i64 0), (.nils 2), (.int .i64 0)]⟩, ⟨none, none, .store 5 (.t 3) (.t 5)⟩]) (.seq (.seq (.reg [⟨some 6, none, .v (.faddr 0 (.t 3))⟩, ⟨some 7, none, .v (.load none (.t 6))⟩, ⟨some 8, none, .v (.bin .neq (.t 7) (.c (.int .i64 3)))⟩]) (.cond (.t 8) (.reg [⟨some 9, none, .v (.mov (.t 0))⟩, ⟨some 10, none, .call (.c (.func 42 [])) [(.t 9), (.c (.int .i64 5))]⟩]) .skip)) (.seq (.reg [⟨some 11, none, .v (.mov (.t 0))⟩, ⟨some 12, none, .v (.nchk (.t 11))⟩, ⟨some 13, none, .v (.faddr 1 (.t 12))⟩, ⟨some 14, none, .v (.load none (.t 13))⟩, ⟨some 15, none, .v (.bin .add (.t 14) (.c (.int .i64 1)))⟩, ⟨some 16, none, .v (.nchk (.t 11))⟩, ⟨some 17, none, .v (.faddr 1 (.t 16))⟩, ⟨none, none, .store 1 (.t 17) (.t 15)⟩]) (.seq (.reg [⟨some 18, none, .v (.faddr 1 (.t 3))⟩, ⟨some 19, none, .v (.load none (.t 18))⟩, ⟨some 2, none, .v (.mov (.t 19))⟩]) .ret)))), [(.t 2)]⟩
theorem U_Q101 : type_of% (sc_Q101.eq_1) := sc_Q101.eq_1
theorem comp_Q101 : comp Tryz.prog Tryz.f101 = some sc_Q101 := by kernel_rfl
def sc_Q104 : SFunc := ⟨2, 32, .seq (.seq (.reg [⟨some 4, none, .v (.mov (.t 0))⟩, ⟨some 5, none, .v (.nchk (.t 4))⟩, ⟨some 6, none, .v (.faddr 0 (.t 5))⟩, ⟨some 7, none, .v (.mov (.t 1))⟩, ⟨some 8, none, .call (.c (.func 102 [])) [(.t 6), (.t 7)]⟩, ⟨some 9, none, .v (.mov (.t 8))⟩, ⟨some 10, some (9, true), .v (.mov (.t 0))⟩, ⟨some 11, some (9, true), .v (.nchk (.t 10))⟩, ⟨some 12, some (9, true), .v (.faddr 3 (.t 11))⟩, ⟨some 13, some (9, true), .v (.load none (.t 12))⟩, ⟨some 14, some (9, true), .v (.bin .geq (.t 13) (.c (.int .i64 64)))⟩, ⟨some 15, none, .v (.pick (.t 9) (.t 14) (.c (.bool false)))⟩]) (.cond (.t 15) (.reg [⟨some 16, none, .v (.mov (.t 0))⟩, ⟨some 17, none, .v (.nchk (.t 16))⟩, ⟨some 18, none, .v (.faddr 0 (.t 17))⟩, ⟨some 19, none, .call (.c (.func 42 [])) [(.t 18), (.c (.int .i64 6))]⟩]) .skip)) (.seq (.reg [⟨some 20, none, .v (.mov (.t 0))⟩, ⟨some 21, none, .v (.nchk (.t 20))⟩, ⟨some 22, none, .v (.faddr 0 (.t 21))⟩, ⟨some 23, none, .v (.mov (.t 1))⟩, ⟨some 24, none, .call (.c (.func 66 [])) [(.t 22), (.t 23)]⟩]) (.reg [⟨some 25, none, .v (.mov (.t 0))⟩, ⟨some 26, none, .v (.nchk (.t 25))⟩, ⟨some 27, none, .v (.faddr 3 (.t 26))⟩, ⟨some 28, none, .v (.load none (.t 27))⟩, ⟨some 29, none, .v (.bin .add (.t 28) (.c (.int .i64 1)))⟩, ⟨some 30, none, .v (.nchk (.t 25))⟩, ⟨some 31, none, .v (.faddr 3 (.t 30))⟩, ⟨none, none, .store 1 (.t 31) (.t 29)⟩])), []⟩
theorem U_Q104 : type_of% (sc_Q104.eq_1) := sc_Q104.eq_1
theorem comp_Q104 : comp Tryz.prog Tryz.f104 = some sc_Q104 := by kernel_rfl
def sc_Q181 : SFunc := ⟨2, 16, .seq (.reg [⟨some 4, none, .v (.mov (.t 0))⟩, ⟨some 5, none, .v (.nchk (.t 4))⟩, ⟨some 6, none, .v (.faddr 0 (.t 5))⟩, ⟨some 7, none, .v (.mov (.t 1))⟩, ⟨some 8, none, .call (.c (.func 66 [])) [(.t 6), (.t 7)]⟩]) (.reg [⟨some 9, none, .v (.mov (.t 0))⟩, ⟨some 10, none, .v (.nchk (.t 9))⟩, ⟨some 11, none, .v (.faddr 3 (.t 10))⟩, ⟨some 12, none, .v (.load none (.t 11))⟩, ⟨some 13, none, .v (.bin .sub (.t 12) (.c (.int .i64 1)))⟩, ⟨some 14, none, .v (.nchk (.t 9))⟩, ⟨some 15, none, .v (.faddr 3 (.t 14))⟩, ⟨none, none, .store 1 (.t 15) (.t 13)⟩]), []⟩
theorem U_Q181 : type_of% (sc_Q181.eq_1) := sc_Q181.eq_1
theorem comp_Q181 : comp Tryz.prog Tryz.f181 = some sc_Q181 := by kernel_rfl
def sc_Q105 : SFunc := ⟨4, 29, .seq (.reg [⟨some 8, none, .v (.mov (.c (.int .i64 0)))⟩]) (.seq (.dreg [⟨some 9, none, .v (.mov (.t 0))⟩, ⟨some 10, none, .v (.mov (.t 0))⟩, ⟨some 11, none, .v (.nchk (.t 10))⟩, ⟨some 12, none, .v (.faddr 2 (.t 11))⟩, ⟨some 13, none, .v (.load none (.t 12))⟩, ⟨some 14, none, .v (.mov (.t 1))⟩, ⟨some 15, none, .v (.mov (.t 2))⟩, ⟨some 16, none, .v (.mov (.t 3))⟩, ⟨some 17, none, .call (.c (.func 144 [])) [(.t 16)]⟩, ⟨some 18, none, .v (.build [(.int .i64 0), (.int .i64 0), (.str []), (.nils 2), (.nils 1)] [(0, 1, (.t 14)), (2, 1, (.t 15)), (4, 1, (.t 17))])⟩, ⟨some 19, none, .bslice 5 1 [(.int .i64 0), (.int .i64 0), (.str []), (.nils 2), (.nils 1)] [(0, (.t 18))]⟩, ⟨some 20, none, .append 5 80 (.t 13) (.t 19)⟩, ⟨some 21, none, .v (.nchk (.t 9))⟩, ⟨some 22, none, .v (.faddr 2 (.t 21))⟩, ⟨none, none, .store 1 (.t 22) (.t 20)⟩] [false, false, false, false, false, false, false, false, false, false, false, true, true, true, true]) (.seq (.reg [⟨some 23, none, .v (.mov (.t 0))⟩, ⟨some 24, none, .v (.nchk (.t 23))⟩, ⟨some 25, none, .v (.faddr 2 (.t 24))⟩, ⟨some 26, none, .v (.load none (.t 25))⟩, ⟨some 27, none, .v (.len false (.t 26))⟩, ⟨some 28, none, .v (.bin .sub (.t 27) (.c (.int .i64 1)))⟩, ⟨some 8, none, .v (.mov (.t 28))⟩]) .ret)), [(.t 8)]⟩
theorem U_Q105 : type_of% (sc_Q105.eq_1) := sc_Q105.eq_1
theorem comp_Q105 : comp Tryz.prog Tryz.f105 = some sc_Q105 := by kernel_rfl
def c_Q143_1 : SC := .seq (.reg [⟨some 15, none, .bslice 1 5 [(.int .i64 0)] [(0, (.c (.int .i64 11))), (1, (.c (.int .i64 12))), (2, (.c (.int .i64 13))), (3, (.c (.int .i64 19))), (4, (.c (.int .i64 21)))]⟩, ⟨some 7, none, .v (.mov (.t 15))⟩]) (.seq (.reg [⟨some 16, none, .v (.mov (.t 6))⟩, ⟨some 17, none, .v (.mov (.t 0))⟩, ⟨some 18, none, .v (.iaddr 1 (.t 16) (.t 17))⟩, ⟨some 19, none, .v (.load none (.t 18))⟩, ⟨some 20, none, .v (.mov (.t 1))⟩, ⟨some 21, none, .call (.c (.func 62 [])) [(.t 19), (.t 20)]⟩, ⟨some 8, none, .v (.mov (.t 21))⟩]) (.seq (.reg [⟨some 22, none, .v (.mov (.t 7))⟩, ⟨some 23, none, .v (.mov (.t 0))⟩, ⟨some 24, none, .v (.iaddr 1 (.t 22) (.t 23))⟩, ⟨some 25, none, .v (.load none (.t 24))⟩, ⟨some 26, none, .v (.mov (.t 8))⟩, ⟨some 27, none, .v (.bin .add (.t 25) (.t 26))⟩, ⟨some 28, none, .v (.mov (.t 8))⟩, ⟨some 29, none, .v (.bin .geq (.t 28) (.c (.int .i64 0)))⟩, ⟨some 4, none, .v (.mov (.t 27))⟩, ⟨some 5, none, .v (.mov (.t 29))⟩]) .ret))
def c_Q143_2 : SC := .seq (.reg [⟨some 9, none, .bslice 1 1 [(.str [])] [(0, (.c (.str [124, 124])))]⟩, ⟨some 10, none, .bslice 1 1 [(.str [])] [(0, (.c (.str [38, 38])))]⟩, ⟨some 11, none, .bslice 1 6 [(.str [])] [(0, (.c (.str [61, 61]))), (1, (.c (.str [33, 61]))), (2, (.c (.str [60]))), (3, (.c (.str [60, 61]))), (4, (.c (.str [62]))), (5, (.c (.str [62, 61])))]⟩, ⟨some 12, none, .bslice 1 2 [(.str [])] [(0, (.c (.str [43]))), (1, (.c (.str [45])))]⟩, ⟨some 13, none, .bslice 1 3 [(.str [])] [(0, (.c (.str [42]))), (1, (.c (.str [47]))), (2, (.c (.str [37])))]⟩, ⟨some 14, none, .bslice 1 5 [(.nils 1)] [(0, (.t 9)), (1, (.t 10)), (2, (.t 11)), (3, (.t 12)), (4, (.t 13))]⟩, ⟨some 6, none, .v (.mov (.t 14))⟩]) c_Q143_1
def sc_Q143 : SFunc := ⟨2, 30, .seq (.reg [⟨some 4, none, .v (.mov (.c (.int .i64 0)))⟩, ⟨some 5, none, .v (.mov (.c (.bool false)))⟩]) c_Q143_2, [(.t 4), (.t 5)]⟩
theorem U_Q143 : type_of% (And.intro (ue c_Q143_1.eq_1) <| And.intro (ue c_Q143_2.eq_1) <| sc_Q143.eq_1) := And.intro (ue c_Q143_1.eq_1) <| And.intro (ue c_Q143_2.eq_1) <| sc_Q143.eq_1
theorem comp_Q143 : comp Tryz.prog Tryz.f143 = some sc_Q143 := by kernel_rfl
def c_slices_Index_string_string_1 : SC := .seq (.reg [⟨some 4, none, .v (.mov (.c (.int .i64 (-1))))⟩]) .ret
def b_slices_Index_string_string_1 : SC := .seq (.reg [⟨some 9, none, .v (.bin .lss (.t 8) (.t 7))⟩]) (.seq (.cond (.t 9) .skip (.exit 0)) (.seq (.block 1 (.seq (.reg [⟨some 10, none, .v (.mov (.t 8))⟩, ⟨some 5, none, .v (.mov (.t 10))⟩]) (.seq (.reg [⟨some 11, none, .v (.mov (.t 1))⟩, ⟨some 12, none, .v (.mov (.t 0))⟩, ⟨some 13, none, .v (.mov (.t 5))⟩, ⟨some 14, none, .v (.iaddr 1 (.t 12) (.t 13))⟩, ⟨some 15, none, .v (.load none (.t 14))⟩, ⟨some 16, none, .v (.bin .eql (.t 11) (.t 15))⟩]) (.cond (.t 16) (.seq (.reg [⟨some 17, none, .v (.mov (.t 5))⟩, ⟨some 4, none, .v (.mov (.t 17))⟩]) .ret) .skip)))) (.reg [⟨some 18, none, .v (.bin .add (.t 8) (.c (.int .i64 1)))⟩, ⟨some 8, none, .v (.mov (.t 18))⟩])))
def sc_slices_Index_string_string : SFunc := ⟨2, 19, .seq (.reg [⟨some 4, none, .v (.mov (.c (.int .i64 0)))⟩]) (.seq (.seq (.reg [⟨some 6, none, .v (.mov (.t 0))⟩, ⟨some 7, none, .v (.len false (.t 6))⟩, ⟨some 8, none, .v (.mov (.c (.int .i64 0)))⟩]) (.block 0 (.loop b_slices_Index_string_string_1))) c_slices_Index_string_string_1), [(.t 4)]⟩
noncomputable def k_slices_Index_string_string_1 (SP : Prg) (x : EO) : CO := fin [(.t 4)] (thC SP (inBlk 0 (x)) c_slices_Index_string_string_1)
theorem U_slices_Index_string_string : type_of% (And.intro (ue c_slices_Index_string_string_1.eq_1) <| And.intro (ue b_slices_Index_string_string_1.eq_1) <| sc_slices_Index_string_string.eq_1) := And.intro (ue c_slices_Index_string_string_1.eq_1) <| And.intro (ue b_slices_Index_string_string_1.eq_1) <| sc_slices_Index_string_string.eq_1
theorem comp_slices_Index_string_string : comp Tryz.prog Tryz.f62 = some sc_slices_Index_string_string := by kernel_rfl
def sc_Q202 : SFunc := ⟨3, 20, .seq (.reg [⟨some 6, none, .v (.mov (.c (.int .i64 0)))⟩]) (.seq (.reg [⟨some 8, none, .v (.mov (.t 0))⟩, ⟨some 9, none, .v (.mov (.t 1))⟩, ⟨some 10, none, .call (.c (.func 105 [])) [(.t 8), (.t 9), (.c (.str [])), (.c (.nils 1))]⟩, ⟨some 7, none, .v (.mov (.t 10))⟩]) (.seq (.reg [⟨some 11, none, .v (.mov (.t 0))⟩, ⟨some 12, none, .v (.nchk (.t 11))⟩, ⟨some 13, none, .v (.faddr 2 (.t 12))⟩, ⟨some 14, none, .v (.load none (.t 13))⟩, ⟨some 15, none, .v (.mov (.t 7))⟩, ⟨some 16, none, .v (.mov (.t 2))⟩, ⟨some 17, none, .v (.iaddr 5 (.t 14) (.t 15))⟩, ⟨some 18, none, .v (.faddr 1 (.t 17))⟩, ⟨none, none, .store 1 (.t 18) (.t 16)⟩]) (.seq (.reg [⟨some 19, none, .v (.mov (.t 7))⟩, ⟨some 6, none, .v (.mov (.t 19))⟩]) .ret))), [(.t 6)]⟩
theorem U_Q202 : type_of% (sc_Q202.eq_1) := sc_Q202.eq_1
theorem comp_Q202 : comp Tryz.prog Tryz.f202 = some sc_Q202 := by kernel_rfl
def c_Q201_1 : SC := .seq (.reg [⟨some 32, none, .v (.mov (.t 0))⟩, ⟨some 33, none, .call (.c (.func 104 [])) [(.t 32), (.c (.str [40]))]⟩]) (.seq (.reg [⟨some 34, none, .v (.mov (.t 0))⟩, ⟨some 35, none, .v (.mov (.t 3))⟩, ⟨some 36, none, .v (.mov (.t 0))⟩, ⟨some 37, none, .call (.c (.func 203 [])) [(.t 36), (.c (.str [41]))]⟩, ⟨some 38, none, .call (.c (.func 105 [])) [(.t 34), (.c (.int .i64 5)), (.t 35), (.t 37)]⟩, ⟨some 2, none, .v (.mov (.t 38))⟩]) .ret)
def c_Q201_2 : SC := .cond (.t 8) (.seq (.reg [⟨some 11, none, .v (.mov (.t 0))⟩, ⟨some 12, none, .call (.c (.func 202 [])) [(.t 11), (.c (.int .i64 3)), (.c (.int .i64 1))]⟩, ⟨some 2, none, .v (.mov (.t 12))⟩]) .ret) (.seq (.reg [⟨some 14, none, .v (.mov (.t 3))⟩, ⟨some 15, none, .v (.bin .eql (.t 14) (.c (.str [102, 97, 108, 115, 101])))⟩, ⟨some 13, none, .v (.mov (.t 15))⟩]) (.cond (.t 13) (.seq (.reg [⟨some 16, none, .v (.mov (.t 0))⟩, ⟨some 17, none, .call (.c (.func 202 [])) [(.t 16), (.c (.int .i64 3)), (.c (.int .i64 0))]⟩, ⟨some 2, none, .v (.mov (.t 17))⟩]) .ret) (.seq (.reg [⟨some 19, none, .v (.mov (.t 0))⟩, ⟨some 20, none, .v (.nchk (.t 19))⟩, ⟨some 21, none, .v (.faddr 0 (.t 20))⟩, ⟨some 22, none, .call (.c (.func 67 [])) [(.t 21), (.c (.str [46]))]⟩, ⟨some 18, none, .v (.mov (.t 22))⟩]) (.cond (.t 18) (.seq (.reg [⟨some 23, none, .v (.mov (.t 0))⟩, ⟨some 24, none, .v (.mov (.t 3))⟩, ⟨some 25, none, .v (.bin .add (.t 24) (.c (.str [46])))⟩, ⟨some 26, none, .v (.mov (.t 0))⟩, ⟨some 27, none, .v (.nchk (.t 26))⟩, ⟨some 28, none, .v (.faddr 0 (.t 27))⟩, ⟨some 29, none, .call (.c (.func 101 [])) [(.t 28)]⟩, ⟨some 30, none, .v (.bin .add (.t 25) (.t 29))⟩, ⟨some 31, none, .call (.c (.func 105 [])) [(.t 23), (.c (.int .i64 4)), (.t 30), (.c (.nils 1))]⟩, ⟨some 2, none, .v (.mov (.t 31))⟩]) .ret) .skip))))
def c_Q201_3 : SC := .seq (.block 0 (.seq (.reg [⟨some 9, none, .v (.mov (.t 3))⟩, ⟨some 10, none, .v (.bin .eql (.t 9) (.c (.str [116, 114, 117, 101])))⟩, ⟨some 8, none, .v (.mov (.t 10))⟩]) c_Q201_2)) c_Q201_1
def c_Q201_4 : SC := .seq (.reg [⟨some 4, none, .v (.mov (.t 0))⟩, ⟨some 5, none, .v (.nchk (.t 4))⟩, ⟨some 6, none, .v (.faddr 0 (.t 5))⟩, ⟨some 7, none, .call (.c (.func 101 [])) [(.t 6)]⟩, ⟨some 3, none, .v (.mov (.t 7))⟩]) c_Q201_3
def sc_Q201 : SFunc := ⟨1, 39, .seq (.reg [⟨some 2, none, .v (.mov (.c (.int .i64 0)))⟩]) c_Q201_4, [(.t 2)]⟩
theorem U_Q201 : type_of% (And.intro (ue c_Q201_1.eq_1) <| And.intro (ue c_Q201_2.eq_1) <| And.intro (ue c_Q201_3.eq_1) <| And.intro (ue c_Q201_4.eq_1) <| sc_Q201.eq_1) := And.intro (ue c_Q201_1.eq_1) <| And.intro (ue c_Q201_2.eq_1) <| And.intro (ue c_Q201_3.eq_1) <| And.intro (ue c_Q201_4.eq_1) <| sc_Q201.eq_1
theorem comp_Q201 : comp Tryz.prog Tryz.f201 = some sc_Q201 := by kernel_rfl
def c_Q180_1 : SC := .seq (.reg [⟨some 69, none, .v (.mov (.t 0))⟩, ⟨some 70, none, .call (.c (.func 104 [])) [(.t 69), (.c (.str [40]))]⟩]) (.seq (.reg [⟨some 71, none, .v (.mov (.t 0))⟩, ⟨some 72, none, .call (.c (.func 68 [])) [(.t 71)]⟩, ⟨some 5, none, .v (.mov (.t 72))⟩]) (.seq (.reg [⟨some 73, none, .v (.mov (.t 0))⟩, ⟨some 74, none, .call (.c (.func 181 [])) [(.t 73), (.c (.str [41]))]⟩]) (.seq (.reg [⟨some 75, none, .v (.mov (.t 5))⟩, ⟨some 2, none, .v (.mov (.t 75))⟩]) .ret)))
def c_Q180_2 : SC := .cond (.t 33) (.seq (.reg [⟨some 37, none, .v (.mov (.t 0))⟩, ⟨some 38, none, .v (.nchk (.t 37))⟩, ⟨some 39, none, .v (.faddr 0 (.t 38))⟩, ⟨some 40, none, .v (.faddr 1 (.t 39))⟩, ⟨some 41, none, .v (.load none (.t 40))⟩, ⟨some 42, none, .v (.bin .add (.t 41) (.c (.int .i64 1)))⟩, ⟨some 43, none, .v (.nchk (.t 37))⟩, ⟨some 44, none, .v (.faddr 0 (.t 43))⟩, ⟨some 45, none, .v (.faddr 1 (.t 44))⟩, ⟨none, none, .store 1 (.t 45) (.t 42)⟩]) (.seq (.reg [⟨some 46, none, .v (.mov (.t 0))⟩, ⟨some 47, none, .call (.c (.func 105 [])) [(.t 46), (.c (.int .i64 2)), (.c (.str [])), (.c (.nils 1))]⟩, ⟨some 4, none, .v (.mov (.t 47))⟩]) (.seq (.dreg [⟨some 48, none, .v (.mov (.t 0))⟩, ⟨some 49, none, .v (.nchk (.t 48))⟩, ⟨some 50, none, .v (.faddr 2 (.t 49))⟩, ⟨some 51, none, .v (.load none (.t 50))⟩, ⟨some 52, none, .v (.mov (.t 4))⟩, ⟨some 53, none, .v (.faddr 3 (.t 3))⟩, ⟨some 54, none, .v (.load none (.t 53))⟩, ⟨some 55, none, .v (.iaddr 5 (.t 51) (.t 52))⟩, ⟨some 56, none, .v (.faddr 3 (.t 55))⟩, ⟨none, none, .store 1 (.t 56) (.t 54)⟩] [false, false, false, false, false, false, false, true, true, true]) (.seq (.reg [⟨some 57, none, .v (.mov (.t 4))⟩, ⟨some 2, none, .v (.mov (.t 57))⟩]) .ret)))) (.seq (.reg [⟨some 59, none, .v (.mov (.t 0))⟩, ⟨some 60, none, .v (.nchk (.t 59))⟩, ⟨some 61, none, .v (.faddr 0 (.t 60))⟩, ⟨some 62, none, .call (.c (.func 102 [])) [(.t 61), (.c (.str [91]))]⟩, ⟨some 58, none, .v (.mov (.t 62))⟩]) (.cond (.t 58) (.seq (.reg [⟨some 63, none, .v (.mov (.t 0))⟩, ⟨some 64, none, .call (.c (.func 104 [])) [(.t 63), (.c (.str [91]))]⟩]) (.seq (.reg [⟨some 65, none, .v (.mov (.t 0))⟩, ⟨some 66, none, .v (.mov (.t 0))⟩, ⟨some 67, none, .call (.c (.func 203 [])) [(.t 66), (.c (.str [93]))]⟩, ⟨some 68, none, .call (.c (.func 105 [])) [(.t 65), (.c (.int .i64 6)), (.c (.str [])), (.t 67)]⟩, ⟨some 2, none, .v (.mov (.t 68))⟩]) .ret)) .skip))
def c_Q180_3 : SC := .cond (.t 16) (.seq (.reg [⟨some 20, none, .v (.mov (.t 0))⟩, ⟨some 21, none, .v (.nchk (.t 20))⟩, ⟨some 22, none, .v (.faddr 0 (.t 21))⟩, ⟨some 23, none, .v (.faddr 1 (.t 22))⟩, ⟨some 24, none, .v (.load none (.t 23))⟩, ⟨some 25, none, .v (.bin .add (.t 24) (.c (.int .i64 1)))⟩, ⟨some 26, none, .v (.nchk (.t 20))⟩, ⟨some 27, none, .v (.faddr 0 (.t 26))⟩, ⟨some 28, none, .v (.faddr 1 (.t 27))⟩, ⟨none, none, .store 1 (.t 28) (.t 25)⟩]) (.seq (.reg [⟨some 29, none, .v (.mov (.t 0))⟩, ⟨some 30, none, .v (.faddr 2 (.t 3))⟩, ⟨some 31, none, .v (.load none (.t 30))⟩, ⟨some 32, none, .call (.c (.func 202 [])) [(.t 29), (.c (.int .i64 1)), (.t 31)]⟩, ⟨some 2, none, .v (.mov (.t 32))⟩]) .ret)) (.seq (.reg [⟨some 34, none, .v (.faddr 0 (.t 3))⟩, ⟨some 35, none, .v (.load none (.t 34))⟩, ⟨some 36, none, .v (.bin .eql (.t 35) (.c (.int .i64 2)))⟩, ⟨some 33, none, .v (.mov (.t 36))⟩]) c_Q180_2)
def c_Q180_4 : SC := .cond (.t 10) (.seq (.reg [⟨some 14, none, .v (.mov (.t 0))⟩, ⟨some 15, none, .call (.c (.func 201 [])) [(.t 14)]⟩, ⟨some 2, none, .v (.mov (.t 15))⟩]) .ret) (.seq (.reg [⟨some 17, none, .v (.faddr 0 (.t 3))⟩, ⟨some 18, none, .v (.load none (.t 17))⟩, ⟨some 19, none, .v (.bin .eql (.t 18) (.c (.int .i64 1)))⟩, ⟨some 16, none, .v (.mov (.t 19))⟩]) c_Q180_3)
def c_Q180_5 : SC := .seq (.block 0 (.seq (.reg [⟨some 11, none, .v (.faddr 0 (.t 3))⟩, ⟨some 12, none, .v (.load none (.t 11))⟩, ⟨some 13, none, .v (.bin .eql (.t 12) (.c (.int .i64 3)))⟩, ⟨some 10, none, .v (.mov (.t 13))⟩]) c_Q180_4)) c_Q180_1
def c_Q180_6 : SC := .seq (.reg [⟨some 6, none, .v (.mov (.t 0))⟩, ⟨some 7, none, .v (.nchk (.t 6))⟩, ⟨some 8, none, .v (.faddr 0 (.t 7))⟩, ⟨some 9, none, .call (.c (.func 38 [])) [(.t 8)]⟩, ⟨some 3, none, .alloc [(.int .i64 0), (.str []), (.int .i64 0), (.nils 2), (.int .i64 0)]⟩, ⟨none, none, .store 5 (.t 3) (.t 9)⟩]) c_Q180_5
def sc_Q180 : SFunc := ⟨1, 76, .seq (.reg [⟨some 2, none, .v (.mov (.c (.int .i64 0)))⟩]) c_Q180_6, [(.t 2)]⟩
theorem U_Q180 : type_of% (And.intro (ue c_Q180_1.eq_1) <| And.intro (ue c_Q180_2.eq_1) <| And.intro (ue c_Q180_3.eq_1) <| And.intro (ue c_Q180_4.eq_1) <| And.intro (ue c_Q180_5.eq_1) <| And.intro (ue c_Q180_6.eq_1) <| sc_Q180.eq_1) := And.intro (ue c_Q180_1.eq_1) <| And.intro (ue c_Q180_2.eq_1) <| And.intro (ue c_Q180_3.eq_1) <| And.intro (ue c_Q180_4.eq_1) <| And.intro (ue c_Q180_5.eq_1) <| And.intro (ue c_Q180_6.eq_1) <| sc_Q180.eq_1
theorem comp_Q180 : comp Tryz.prog Tryz.f180 = some sc_Q180 := by kernel_rfl
def sc_Q41 : SFunc := ⟨1, 12, .seq (.reg [⟨some 2, none, .nilv 5⟩]) (.seq (.reg [⟨some 3, none, .v (.mov (.t 0))⟩, ⟨some 4, none, .v (.nchk (.t 3))⟩, ⟨some 5, none, .v (.faddr 2 (.t 4))⟩, ⟨none, none, .store 1 (.t 5) (.c (.nils 5))⟩]) (.seq (.reg [⟨some 6, none, .v (.mov (.t 0))⟩, ⟨some 7, none, .call (.c (.func 68 [])) [(.t 6)]⟩]) (.seq (.reg [⟨some 8, none, .v (.mov (.t 0))⟩, ⟨some 9, none, .v (.nchk (.t 8))⟩, ⟨some 10, none, .v (.faddr 2 (.t 9))⟩, ⟨some 11, none, .v (.load none (.t 10))⟩, ⟨some 2, none, .v (.mov (.t 11))⟩]) .ret))), [(.t 2)]⟩
theorem U_Q41 : type_of% (sc_Q41.eq_1) := sc_Q41.eq_1
theorem comp_Q41 : comp Tryz.prog Tryz.f41 = some sc_Q41 := by kernel_rfl
def c_Q103_1 : SC := .seq (.reg [⟨some 54, none, .v (.mov (.t 5))⟩, ⟨some 4, none, .v (.mov (.t 54))⟩]) .ret
def c_Q103_2 : SC := .seq (.seq (.reg [⟨some 32, none, .v (.mov (.t 7))⟩, ⟨some 33, none, .v (.un .not (.t 32))⟩]) (.cond (.t 33) (.exit 0) .skip)) (.seq (.reg [⟨some 34, none, .v (.mov (.t 0))⟩, ⟨some 35, none, .v (.nchk (.t 34))⟩, ⟨some 36, none, .v (.faddr 0 (.t 35))⟩, ⟨some 37, none, .v (.faddr 1 (.t 36))⟩, ⟨some 38, none, .v (.load none (.t 37))⟩, ⟨some 39, none, .v (.bin .add (.t 38) (.c (.int .i64 1)))⟩, ⟨some 40, none, .v (.nchk (.t 34))⟩, ⟨some 41, none, .v (.faddr 0 (.t 40))⟩, ⟨some 42, none, .v (.faddr 1 (.t 41))⟩, ⟨none, none, .store 1 (.t 42) (.t 39)⟩]) (.seq (.reg [⟨some 43, none, .v (.mov (.t 0))⟩, ⟨some 44, none, .v (.mov (.t 6))⟩, ⟨some 45, none, .v (.mov (.t 5))⟩, ⟨some 46, none, .v (.mov (.t 0))⟩, ⟨some 47, none, .v (.mov (.t 1))⟩, ⟨some 48, none, .v (.bin .add (.t 47) (.c (.int .i64 1)))⟩, ⟨some 49, none, .call (.c (.func 103 [])) [(.t 46), (.t 48)]⟩, ⟨some 50, none, .bslice 1 2 [(.int .i64 0)] [(0, (.t 45)), (1, (.t 49))]⟩, ⟨some 51, none, .call (.c (.func 105 [])) [(.t 43), (.t 44), (.c (.str [])), (.t 50)]⟩, ⟨some 5, none, .v (.mov (.t 51))⟩]) (.seq (.reg [⟨some 52, none, .v (.mov (.t 1))⟩, ⟨some 53, none, .v (.bin .eql (.t 52) (.c (.int .i64 2)))⟩]) (.cond (.t 53) (.exit 0) .skip))))
def c_Q103_3 : SC := .block 1 (.seq (.reg [⟨some 23, none, .v (.mov (.t 1))⟩, ⟨some 24, none, .v (.mov (.t 0))⟩, ⟨some 25, none, .v (.nchk (.t 24))⟩, ⟨some 26, none, .v (.faddr 0 (.t 25))⟩, ⟨some 27, none, .call (.c (.func 38 [])) [(.t 26)]⟩, ⟨some 28, none, .v (.field 1 none (.t 27))⟩, ⟨some 29, none, .call (.c (.func 143 [])) [(.t 23), (.t 28)]⟩, ⟨some 22, none, .v (.mov (.t 29))⟩, ⟨some 30, none, .v (.extract 0 (.t 22))⟩, ⟨some 31, none, .v (.extract 1 (.t 22))⟩, ⟨some 6, none, .v (.mov (.t 30))⟩, ⟨some 7, none, .v (.mov (.t 31))⟩]) c_Q103_2)
def b_Q103_1 : SC := .seq (.seq (.reg [⟨some 16, none, .v (.mov (.t 0))⟩, ⟨some 17, none, .v (.nchk (.t 16))⟩, ⟨some 18, none, .v (.faddr 0 (.t 17))⟩, ⟨some 19, none, .call (.c (.func 38 [])) [(.t 18)]⟩, ⟨some 20, none, .v (.field 0 none (.t 19))⟩, ⟨some 21, none, .v (.bin .eql (.t 20) (.c (.int .i64 4)))⟩]) (.cond (.t 21) .skip (.exit 0))) c_Q103_3
def c_Q103_4 : SC := .seq (.block 0 (.loop b_Q103_1)) c_Q103_1
def c_Q103_5 : SC := .seq (.reg [⟨some 12, none, .v (.mov (.t 0))⟩, ⟨some 13, none, .v (.mov (.t 1))⟩, ⟨some 14, none, .v (.bin .add (.t 13) (.c (.int .i64 1)))⟩, ⟨some 15, none, .call (.c (.func 103 [])) [(.t 12), (.t 14)]⟩, ⟨some 5, none, .v (.mov (.t 15))⟩]) c_Q103_4
def c_Q103_6 : SC := .seq (.seq (.reg [⟨some 8, none, .v (.mov (.t 1))⟩, ⟨some 9, none, .v (.bin .eql (.t 8) (.c (.int .i64 5)))⟩]) (.cond (.t 9) (.seq (.reg [⟨some 10, none, .v (.mov (.t 0))⟩, ⟨some 11, none, .call (.c (.func 142 [])) [(.t 10)]⟩, ⟨some 4, none, .v (.mov (.t 11))⟩]) .ret) .skip)) c_Q103_5
def sc_Q103 : SFunc := ⟨2, 55, .seq (.reg [⟨some 4, none, .v (.mov (.c (.int .i64 0)))⟩]) c_Q103_6, [(.t 4)]⟩
noncomputable def k_Q103_1 (SP : Prg) (x : EO) : CO := fin [(.t 4)] (thC SP (inBlk 0 (x)) c_Q103_1)
theorem U_Q103 : type_of% (And.intro (ue c_Q103_1.eq_1) <| And.intro (ue c_Q103_2.eq_1) <| And.intro (ue c_Q103_3.eq_1) <| And.intro (ue b_Q103_1.eq_1) <| And.intro (ue c_Q103_4.eq_1) <| And.intro (ue c_Q103_5.eq_1) <| And.intro (ue c_Q103_6.eq_1) <| sc_Q103.eq_1) := And.intro (ue c_Q103_1.eq_1) <| And.intro (ue c_Q103_2.eq_1) <| And.intro (ue c_Q103_3.eq_1) <| And.intro (ue b_Q103_1.eq_1) <| And.intro (ue c_Q103_4.eq_1) <| And.intro (ue c_Q103_5.eq_1) <| And.intro (ue c_Q103_6.eq_1) <| sc_Q103.eq_1
theorem comp_Q103 : comp Tryz.prog Tryz.f103 = some sc_Q103 := by kernel_rfl
def c_Q68_1 : SC := .seq (.reg [⟨some 14, none, .v (.mov (.t 0))⟩, ⟨some 15, none, .call (.c (.func 104 [])) [(.t 14), (.c (.str [63]))]⟩]) (.seq (.reg [⟨some 16, none, .v (.mov (.t 0))⟩, ⟨some 17, none, .call (.c (.func 68 [])) [(.t 16)]⟩, ⟨some 4, none, .v (.mov (.t 17))⟩]) (.seq (.reg [⟨some 18, none, .v (.mov (.t 0))⟩, ⟨some 19, none, .v (.nchk (.t 18))⟩, ⟨some 20, none, .v (.faddr 0 (.t 19))⟩, ⟨some 21, none, .call (.c (.func 66 [])) [(.t 20), (.c (.str [58]))]⟩]) (.seq (.reg [⟨some 22, none, .v (.mov (.t 0))⟩, ⟨some 23, none, .call (.c (.func 68 [])) [(.t 22)]⟩, ⟨some 5, none, .v (.mov (.t 23))⟩]) (.seq (.reg [⟨some 24, none, .v (.mov (.t 0))⟩, ⟨some 25, none, .v (.nchk (.t 24))⟩, ⟨some 26, none, .v (.faddr 3 (.t 25))⟩, ⟨some 27, none, .v (.load none (.t 26))⟩, ⟨some 28, none, .v (.bin .sub (.t 27) (.c (.int .i64 1)))⟩, ⟨some 29, none, .v (.nchk (.t 24))⟩, ⟨some 30, none, .v (.faddr 3 (.t 29))⟩, ⟨none, none, .store 1 (.t 30) (.t 28)⟩]) (.seq (.reg [⟨some 31, none, .v (.mov (.t 0))⟩, ⟨some 32, none, .v (.mov (.t 3))⟩, ⟨some 33, none, .v (.mov (.t 4))⟩, ⟨some 34, none, .v (.mov (.t 5))⟩, ⟨some 35, none, .bslice 1 3 [(.int .i64 0)] [(0, (.t 32)), (1, (.t 33)), (2, (.t 34))]⟩, ⟨some 36, none, .call (.c (.func 105 [])) [(.t 31), (.c (.int .i64 10)), (.c (.str [])), (.t 35)]⟩, ⟨some 2, none, .v (.mov (.t 36))⟩]) .ret)))))
def c_Q68_2 : SC := .seq (.seq (.reg [⟨some 8, none, .v (.mov (.t 0))⟩, ⟨some 9, none, .v (.nchk (.t 8))⟩, ⟨some 10, none, .v (.faddr 0 (.t 9))⟩, ⟨some 11, none, .call (.c (.func 102 [])) [(.t 10), (.c (.str [63]))]⟩, ⟨some 12, none, .v (.un .not (.t 11))⟩]) (.cond (.t 12) (.seq (.reg [⟨some 13, none, .v (.mov (.t 3))⟩, ⟨some 2, none, .v (.mov (.t 13))⟩]) .ret) .skip)) c_Q68_1
def c_Q68_3 : SC := .seq (.reg [⟨some 6, none, .v (.mov (.t 0))⟩, ⟨some 7, none, .call (.c (.func 103 [])) [(.t 6), (.c (.int .i64 0))]⟩, ⟨some 3, none, .v (.mov (.t 7))⟩]) c_Q68_2
def sc_Q68 : SFunc := ⟨1, 37, .seq (.reg [⟨some 2, none, .v (.mov (.c (.int .i64 0)))⟩]) c_Q68_3, [(.t 2)]⟩
theorem U_Q68 : type_of% (And.intro (ue c_Q68_1.eq_1) <| And.intro (ue c_Q68_2.eq_1) <| And.intro (ue c_Q68_3.eq_1) <| sc_Q68.eq_1) := And.intro (ue c_Q68_1.eq_1) <| And.intro (ue c_Q68_2.eq_1) <| And.intro (ue c_Q68_3.eq_1) <| sc_Q68.eq_1
theorem comp_Q68 : comp Tryz.prog Tryz.f68 = some sc_Q68 := by kernel_rfl
def c_Q142_1 : SC := .seq (.reg [⟨some 21, none, .v (.mov (.t 0))⟩, ⟨some 22, none, .call (.c (.func 142 [])) [(.t 21)]⟩, ⟨some 4, none, .v (.mov (.t 22))⟩]) (.seq (.reg [⟨some 23, none, .v (.mov (.t 0))⟩, ⟨some 24, none, .v (.nchk (.t 23))⟩, ⟨some 25, none, .v (.faddr 3 (.t 24))⟩, ⟨some 26, none, .v (.load none (.t 25))⟩, ⟨some 27, none, .v (.bin .sub (.t 26) (.c (.int .i64 1)))⟩, ⟨some 28, none, .v (.nchk (.t 23))⟩, ⟨some 29, none, .v (.faddr 3 (.t 28))⟩, ⟨none, none, .store 1 (.t 29) (.t 27)⟩]) (.seq (.reg [⟨some 30, none, .v (.mov (.t 0))⟩, ⟨some 31, none, .v (.mov (.t 3))⟩, ⟨some 32, none, .v (.mov (.t 4))⟩, ⟨some 33, none, .bslice 1 1 [(.int .i64 0)] [(0, (.t 32))]⟩, ⟨some 34, none, .call (.c (.func 105 [])) [(.t 30), (.t 31), (.c (.str [])), (.t 33)]⟩, ⟨some 2, none, .v (.mov (.t 34))⟩]) .ret))
def c_Q142_2 : SC := .seq (.block 0 (.seq (.reg [⟨some 8, none, .v (.mov (.t 0))⟩, ⟨some 9, none, .v (.nchk (.t 8))⟩, ⟨some 10, none, .v (.faddr 0 (.t 9))⟩, ⟨some 11, none, .call (.c (.func 102 [])) [(.t 10), (.c (.str [45]))]⟩, ⟨some 7, none, .v (.mov (.t 11))⟩]) (.cond (.t 7) (.reg [⟨some 12, none, .v (.mov (.t 0))⟩, ⟨some 13, none, .call (.c (.func 104 [])) [(.t 12), (.c (.str [45]))]⟩]) (.seq (.reg [⟨some 15, none, .v (.mov (.t 0))⟩, ⟨some 16, none, .v (.nchk (.t 15))⟩, ⟨some 17, none, .v (.faddr 0 (.t 16))⟩, ⟨some 18, none, .call (.c (.func 102 [])) [(.t 17), (.c (.str [33]))]⟩, ⟨some 14, none, .v (.mov (.t 18))⟩]) (.cond (.t 14) (.seq (.reg [⟨some 19, none, .v (.mov (.t 0))⟩, ⟨some 20, none, .call (.c (.func 104 [])) [(.t 19), (.c (.str [33]))]⟩]) (.reg [⟨some 3, none, .v (.mov (.c (.int .i64 8)))⟩])) (.seq (.reg [⟨some 5, none, .v (.mov (.t 0))⟩, ⟨some 6, none, .call (.c (.func 167 [])) [(.t 5)]⟩, ⟨some 2, none, .v (.mov (.t 6))⟩]) .ret)))))) c_Q142_1
def c_Q142_3 : SC := .seq (.reg [⟨some 3, none, .v (.mov (.c (.int .i64 9)))⟩]) c_Q142_2
def sc_Q142 : SFunc := ⟨1, 35, .seq (.reg [⟨some 2, none, .v (.mov (.c (.int .i64 0)))⟩]) c_Q142_3, [(.t 2)]⟩
theorem U_Q142 : type_of% (And.intro (ue c_Q142_1.eq_1) <| And.intro (ue c_Q142_2.eq_1) <| And.intro (ue c_Q142_3.eq_1) <| sc_Q142.eq_1) := And.intro (ue c_Q142_1.eq_1) <| And.intro (ue c_Q142_2.eq_1) <| And.intro (ue c_Q142_3.eq_1) <| sc_Q142.eq_1
theorem comp_Q142 : comp Tryz.prog Tryz.f142 = some sc_Q142 := by kernel_rfl
def c_Q167_1 : SC := .seq (.reg [⟨some 22, none, .v (.mov (.t 3))⟩, ⟨some 2, none, .v (.mov (.t 22))⟩]) .ret
def b_Q167_1 : SC := .seq (.seq (.reg [⟨some 7, none, .v (.mov (.t 0))⟩, ⟨some 8, none, .v (.nchk (.t 7))⟩, ⟨some 9, none, .v (.faddr 0 (.t 8))⟩, ⟨some 10, none, .call (.c (.func 102 [])) [(.t 9), (.c (.str [91]))]⟩]) (.cond (.t 10) .skip (.exit 0))) (.block 1 (.seq (.reg [⟨some 11, none, .v (.mov (.t 0))⟩, ⟨some 12, none, .call (.c (.func 104 [])) [(.t 11), (.c (.str [91]))]⟩]) (.seq (.reg [⟨some 13, none, .v (.mov (.t 0))⟩, ⟨some 14, none, .call (.c (.func 68 [])) [(.t 13)]⟩, ⟨some 4, none, .v (.mov (.t 14))⟩]) (.seq (.reg [⟨some 15, none, .v (.mov (.t 0))⟩, ⟨some 16, none, .call (.c (.func 181 [])) [(.t 15), (.c (.str [93]))]⟩]) (.reg [⟨some 17, none, .v (.mov (.t 0))⟩, ⟨some 18, none, .v (.mov (.t 3))⟩, ⟨some 19, none, .v (.mov (.t 4))⟩, ⟨some 20, none, .bslice 1 2 [(.int .i64 0)] [(0, (.t 18)), (1, (.t 19))]⟩, ⟨some 21, none, .call (.c (.func 105 [])) [(.t 17), (.c (.int .i64 7)), (.c (.str [])), (.t 20)]⟩, ⟨some 3, none, .v (.mov (.t 21))⟩])))))
def sc_Q167 : SFunc := ⟨1, 23, .seq (.reg [⟨some 2, none, .v (.mov (.c (.int .i64 0)))⟩]) (.seq (.reg [⟨some 5, none, .v (.mov (.t 0))⟩, ⟨some 6, none, .call (.c (.func 180 [])) [(.t 5)]⟩, ⟨some 3, none, .v (.mov (.t 6))⟩]) (.seq (.block 0 (.loop b_Q167_1)) c_Q167_1)), [(.t 2)]⟩
noncomputable def k_Q167_1 (SP : Prg) (x : EO) : CO := fin [(.t 2)] (thC SP (inBlk 0 (x)) c_Q167_1)
theorem U_Q167 : type_of% (And.intro (ue c_Q167_1.eq_1) <| And.intro (ue b_Q167_1.eq_1) <| sc_Q167.eq_1) := And.intro (ue c_Q167_1.eq_1) <| And.intro (ue b_Q167_1.eq_1) <| sc_Q167.eq_1
theorem comp_Q167 : comp Tryz.prog Tryz.f167 = some sc_Q167 := by kernel_rfl
def c_Q203_1 : SC := .seq (.reg [⟨some 26, none, .v (.mov (.t 0))⟩, ⟨some 27, none, .v (.mov (.t 1))⟩, ⟨some 28, none, .call (.c (.func 181 [])) [(.t 26), (.t 27)]⟩]) (.seq (.reg [⟨some 29, none, .v (.mov (.t 5))⟩, ⟨some 4, none, .v (.mov (.t 29))⟩]) .ret)
def b_Q203_1 : SC := .seq (.seq (.reg [⟨some 17, none, .v (.mov (.t 0))⟩, ⟨some 18, none, .v (.nchk (.t 17))⟩, ⟨some 19, none, .v (.faddr 0 (.t 18))⟩, ⟨some 20, none, .call (.c (.func 67 [])) [(.t 19), (.c (.str [44]))]⟩]) (.cond (.t 20) .skip (.exit 0))) (.block 1 (.reg [⟨some 21, none, .v (.mov (.t 5))⟩, ⟨some 22, none, .v (.mov (.t 0))⟩, ⟨some 23, none, .call (.c (.func 68 [])) [(.t 22)]⟩, ⟨some 24, none, .bslice 1 1 [(.int .i64 0)] [(0, (.t 23))]⟩, ⟨some 25, none, .append 1 8 (.t 21) (.t 24)⟩, ⟨some 5, none, .v (.mov (.t 25))⟩]))
def c_Q203_2 : SC := .seq (.reg [⟨some 5, none, .nilv 1⟩]) (.seq (.seq (.reg [⟨some 6, none, .v (.mov (.t 0))⟩, ⟨some 7, none, .v (.nchk (.t 6))⟩, ⟨some 8, none, .v (.faddr 0 (.t 7))⟩, ⟨some 9, none, .v (.mov (.t 1))⟩, ⟨some 10, none, .call (.c (.func 102 [])) [(.t 8), (.t 9)]⟩, ⟨some 11, none, .v (.un .not (.t 10))⟩]) (.cond (.t 11) (.seq (.reg [⟨some 12, none, .v (.mov (.t 5))⟩, ⟨some 13, none, .v (.mov (.t 0))⟩, ⟨some 14, none, .call (.c (.func 68 [])) [(.t 13)]⟩, ⟨some 15, none, .bslice 1 1 [(.int .i64 0)] [(0, (.t 14))]⟩, ⟨some 16, none, .append 1 8 (.t 12) (.t 15)⟩, ⟨some 5, none, .v (.mov (.t 16))⟩]) (.block 0 (.loop b_Q203_1))) .skip)) c_Q203_1)
def sc_Q203 : SFunc := ⟨2, 30, .seq (.reg [⟨some 4, none, .nilv 1⟩]) c_Q203_2, [(.t 4)]⟩
noncomputable def k_Q203_1 (SP : Prg) (x : EO) : CO := fin [(.t 4)] (thC SP (inBlk 0 (x)) c_Q203_1)
theorem U_Q203 : type_of% (And.intro (ue c_Q203_1.eq_1) <| And.intro (ue b_Q203_1.eq_1) <| And.intro (ue c_Q203_2.eq_1) <| sc_Q203.eq_1) := And.intro (ue c_Q203_1.eq_1) <| And.intro (ue b_Q203_1.eq_1) <| And.intro (ue c_Q203_2.eq_1) <| sc_Q203.eq_1
theorem comp_Q203 : comp Tryz.prog Tryz.f203 = some sc_Q203 := by kernel_rfl
def c_Q64_1 : SC := .seq (.reg [⟨some 39, none, .v (.mov (.t 0))⟩, ⟨some 40, none, .v (.nchk (.t 39))⟩, ⟨some 41, none, .v (.faddr 0 (.t 40))⟩, ⟨some 42, none, .v (.faddr 0 (.t 41))⟩, ⟨some 43, none, .v (.faddr 1 (.t 42))⟩, ⟨some 44, none, .v (.load none (.t 43))⟩, ⟨some 45, none, .v (.bin .add (.t 44) (.c (.int .i64 1)))⟩, ⟨some 46, none, .v (.nchk (.t 39))⟩, ⟨some 47, none, .v (.faddr 0 (.t 46))⟩, ⟨some 48, none, .v (.faddr 0 (.t 47))⟩, ⟨some 49, none, .v (.faddr 1 (.t 48))⟩, ⟨none, none, .store 1 (.t 49) (.t 45)⟩]) (.seq (.reg [⟨some 50, none, .v (.faddr 3 (.t 3))⟩, ⟨some 51, none, .v (.load none (.t 50))⟩, ⟨some 52, none, .v (.iaddr 2 (.t 51) (.c (.int .i64 0)))⟩, ⟨some 53, none, .v (.faddr 1 (.t 52))⟩, ⟨some 54, none, .v (.load none (.t 53))⟩, ⟨some 2, none, .v (.mov (.t 54))⟩]) .ret)
def c_Q64_2 : SC := .cond (.t 33) (.reg [⟨some 34, none, .v (.mov (.t 0))⟩, ⟨some 35, none, .v (.nchk (.t 34))⟩, ⟨some 36, none, .v (.faddr 0 (.t 35))⟩, ⟨some 37, none, .v (.faddr 0 (.t 36))⟩, ⟨some 38, none, .call (.c (.func 42 [])) [(.t 37), (.c (.int .i64 5))]⟩]) .skip
def c_Q64_3 : SC := .seq (.seq (.reg [⟨some 9, none, .v (.faddr 0 (.t 3))⟩, ⟨some 10, none, .v (.load none (.t 9))⟩, ⟨some 11, none, .v (.bin .neq (.t 10) (.c (.int .i64 2)))⟩, ⟨some 12, none, .v (.mov (.t 11))⟩, ⟨some 13, some (12, false), .v (.faddr 3 (.t 3))⟩, ⟨some 14, some (12, false), .v (.load none (.t 13))⟩, ⟨some 15, some (12, false), .v (.len false (.t 14))⟩, ⟨some 16, some (12, false), .v (.bin .neq (.t 15) (.c (.int .i64 1)))⟩, ⟨some 17, none, .v (.pick (.t 12) (.c (.bool true)) (.t 16))⟩, ⟨some 18, none, .v (.mov (.t 17))⟩, ⟨some 19, some (18, false), .v (.faddr 3 (.t 3))⟩, ⟨some 20, some (18, false), .v (.load none (.t 19))⟩, ⟨some 21, some (18, false), .v (.iaddr 2 (.t 20) (.c (.int .i64 0)))⟩, ⟨some 22, some (18, false), .v (.faddr 0 (.t 21))⟩, ⟨some 23, some (18, false), .v (.load none (.t 22))⟩, ⟨some 24, none, .v (.pick (.t 18) (.c (.bool true)) (.t 23))⟩, ⟨some 25, none, .v (.mov (.t 24))⟩, ⟨some 26, some (25, false), .v (.faddr 3 (.t 3))⟩, ⟨some 27, some (25, false), .v (.load none (.t 26))⟩, ⟨some 28, some (25, false), .v (.iaddr 2 (.t 27) (.c (.int .i64 0)))⟩, ⟨some 29, some (25, false), .v (.faddr 1 (.t 28))⟩, ⟨some 30, some (25, false), .v (.load none (.t 29))⟩, ⟨some 31, some (25, false), .call (.c (.func 81 [])) [(.t 30)]⟩, ⟨some 32, some (25, false), .v (.un .not (.t 31))⟩, ⟨some 33, none, .v (.pick (.t 25) (.c (.bool true)) (.t 32))⟩]) c_Q64_2) c_Q64_1
def c_Q64_4 : SC := .seq (.reg [⟨some 4, none, .v (.mov (.t 0))⟩, ⟨some 5, none, .v (.nchk (.t 4))⟩, ⟨some 6, none, .v (.faddr 0 (.t 5))⟩, ⟨some 7, none, .v (.faddr 0 (.t 6))⟩, ⟨some 8, none, .call (.c (.func 38 [])) [(.t 7)]⟩, ⟨some 3, none, .alloc [(.int .i64 0), (.str []), (.int .i64 0), (.nils 2), (.int .i64 0)]⟩, ⟨none, none, .store 5 (.t 3) (.t 8)⟩]) c_Q64_3
def sc_Q64 : SFunc := ⟨1, 55, .seq (.reg [⟨some 2, none, .v (.mov (.c (.str [])))⟩]) c_Q64_4, [(.t 2)]⟩
theorem U_Q64 : type_of% (And.intro (ue c_Q64_1.eq_1) <| And.intro (ue c_Q64_2.eq_1) <| And.intro (ue c_Q64_3.eq_1) <| And.intro (ue c_Q64_4.eq_1) <| sc_Q64.eq_1) := And.intro (ue c_Q64_1.eq_1) <| And.intro (ue c_Q64_2.eq_1) <| And.intro (ue c_Q64_3.eq_1) <| And.intro (ue c_Q64_4.eq_1) <| sc_Q64.eq_1
theorem comp_Q64 : comp Tryz.prog Tryz.f64 = some sc_Q64 := by kernel_rfl
def sc_Q100 : SFunc := ⟨2, 8, .seq (.reg [⟨some 2, none, .box (.t 0)⟩, ⟨some 3, none, .v (.mov (.c (.bool false)))⟩]) (.seq (.reg [⟨some 4, none, .v (.faddr 0 (.t 2))⟩, ⟨some 5, none, .v (.load none (.t 4))⟩, ⟨some 6, none, .v (.load none (.t 1))⟩, ⟨some 7, none, .v (.bin .eql (.t 5) (.t 6))⟩, ⟨some 3, none, .v (.mov (.t 7))⟩]) .ret), [(.t 3)]⟩
theorem U_Q100 : type_of% (sc_Q100.eq_1) := sc_Q100.eq_1
theorem comp_Q100 : comp Tryz.prog Tryz.f100 = some sc_Q100 := by kernel_rfl
def c_Q100 : SC := .seq (.reg [⟨some 60, none, .v (.mov (.t 3))⟩, ⟨some 2, none, .v (.mov (.t 60))⟩]) .ret
def c_Q65_2 : SC := .seq (.reg [⟨some 40, none, .v (.mov (.t 0))⟩, ⟨some 41, none, .v (.nchk (.t 40))⟩, ⟨some 42, none, .v (.faddr 0 (.t 41))⟩, ⟨some 43, none, .v (.faddr 0 (.t 42))⟩, ⟨some 44, none, .call (.c (.func 101 [])) [(.t 43)]⟩, ⟨some 45, none, .v (.build [(.str []), (.nils 5)] [(0, 1, (.t 44))])⟩, ⟨some 5, none, .alloc [(.str []), (.nils 5)]⟩, ⟨none, none, .store 2 (.t 5) (.t 45)⟩]) (.seq (.reg [⟨some 46, none, .v (.mov (.t 0))⟩, ⟨some 47, none, .v (.nchk (.t 46))⟩, ⟨some 48, none, .v (.faddr 0 (.t 47))⟩, ⟨some 49, none, .v (.faddr 0 (.t 48))⟩, ⟨some 50, none, .call (.c (.func 66 [])) [(.t 49), (.c (.str [61]))]⟩]) (.seq (.reg [⟨some 51, none, .v (.mov (.t 0))⟩, ⟨some 52, none, .v (.nchk (.t 51))⟩, ⟨some 53, none, .v (.faddr 0 (.t 52))⟩, ⟨some 54, none, .call (.c (.func 41 [])) [(.t 53)]⟩, ⟨some 55, none, .v (.faddr 1 (.t 5))⟩, ⟨none, none, .store 1 (.t 55) (.t 54)⟩]) (.reg [⟨some 56, none, .v (.mov (.t 3))⟩, ⟨some 57, none, .v (.load (some 2) (.t 5))⟩, ⟨some 58, none, .bslice 2 1 [(.str []), (.nils 5)] [(0, (.t 57))]⟩, ⟨some 59, none, .append 2 40 (.t 56) (.t 58)⟩, ⟨some 3, none, .v (.mov (.t 59))⟩])))
def c_Q65_3 : SC := .seq (.seq (.reg [⟨some 23, none, .v (.mov (.t 0))⟩, ⟨some 24, none, .v (.nchk (.t 23))⟩, ⟨some 25, none, .v (.faddr 0 (.t 24))⟩, ⟨some 26, none, .v (.faddr 0 (.t 25))⟩, ⟨some 27, none, .call (.c (.func 38 [])) [(.t 26)]⟩, ⟨some 28, none, .v (.field 0 none (.t 27))⟩, ⟨some 29, none, .v (.bin .eql (.t 28) (.c (.int .i64 3)))⟩, ⟨some 30, none, .v (.mov (.t 29))⟩, ⟨some 31, some (30, true), .v (.mov (.t 3))⟩, ⟨some 32, some (30, true), .v (.func 100 [(.t 4)])⟩, ⟨some 33, some (30, true), .call (.c (.func 99 [])) [(.t 31), (.t 32)]⟩, ⟨some 34, none, .v (.pick (.t 30) (.t 33) (.c (.bool false)))⟩]) (.cond (.t 34) (.reg [⟨some 35, none, .v (.mov (.t 0))⟩, ⟨some 36, none, .v (.nchk (.t 35))⟩, ⟨some 37, none, .v (.faddr 0 (.t 36))⟩, ⟨some 38, none, .v (.faddr 0 (.t 37))⟩, ⟨some 39, none, .call (.c (.func 42 [])) [(.t 38), (.c (.int .i64 3))]⟩]) .skip)) c_Q65_2
def c_Q65_4 : SC := .block 1 (.seq (.reg [⟨some 17, none, .v (.mov (.t 0))⟩, ⟨some 18, none, .v (.nchk (.t 17))⟩, ⟨some 19, none, .v (.faddr 0 (.t 18))⟩, ⟨some 20, none, .v (.faddr 0 (.t 19))⟩, ⟨some 21, none, .call (.c (.func 38 [])) [(.t 20)]⟩, ⟨some 22, none, .v (.field 1 none (.t 21))⟩, ⟨some 4, none, .alloc [(.str [])]⟩, ⟨none, none, .store 1 (.t 4) (.t 22)⟩]) c_Q65_3)
def b_Q100 : SC := .seq (.seq (.reg [⟨some 11, none, .v (.mov (.t 0))⟩, ⟨some 12, none, .v (.nchk (.t 11))⟩, ⟨some 13, none, .v (.faddr 0 (.t 12))⟩, ⟨some 14, none, .v (.faddr 0 (.t 13))⟩, ⟨some 15, none, .call (.c (.func 67 [])) [(.t 14), (.c (.str [125]))]⟩, ⟨some 16, none, .v (.un .not (.t 15))⟩]) (.cond (.t 16) .skip (.exit 0))) c_Q65_4
def c_Q65_5 : SC := .seq (.block 0 (.loop b_Q100)) c_Q100
def c_Q65_6 : SC := .seq (.reg [⟨some 6, none, .v (.mov (.t 0))⟩, ⟨some 7, none, .v (.nchk (.t 6))⟩, ⟨some 8, none, .v (.faddr 0 (.t 7))⟩, ⟨some 9, none, .v (.faddr 0 (.t 8))⟩, ⟨some 10, none, .call (.c (.func 66 [])) [(.t 9), (.c (.str [123]))]⟩]) c_Q65_5
def c_Q65_7 : SC := .seq (.reg [⟨some 3, none, .nilv 2⟩]) c_Q65_6
def sc_Q65 : SFunc := ⟨1, 61, .seq (.reg [⟨some 2, none, .nilv 2⟩]) c_Q65_7, [(.t 2)]⟩
noncomputable def k_Q100 (SP : Prg) (x : EO) : CO := fin [(.t 2)] (thC SP (inBlk 0 (x)) c_Q100)
theorem U_Q65 : type_of% (And.intro (ue c_Q100.eq_1) <| And.intro (ue c_Q65_2.eq_1) <| And.intro (ue c_Q65_3.eq_1) <| And.intro (ue c_Q65_4.eq_1) <| And.intro (ue b_Q100.eq_1) <| And.intro (ue c_Q65_5.eq_1) <| And.intro (ue c_Q65_6.eq_1) <| And.intro (ue c_Q65_7.eq_1) <| sc_Q65.eq_1) := And.intro (ue c_Q100.eq_1) <| And.intro (ue c_Q65_2.eq_1) <| And.intro (ue c_Q65_3.eq_1) <| And.intro (ue c_Q65_4.eq_1) <| And.intro (ue b_Q100.eq_1) <| And.intro (ue c_Q65_5.eq_1) <| And.intro (ue c_Q65_6.eq_1) <| And.intro (ue c_Q65_7.eq_1) <| sc_Q65.eq_1
theorem comp_Q65 : comp Tryz.prog Tryz.f65 = some sc_Q65 := by kernel_rfl
def sc_Q63 : SFunc := ⟨0, 2, .seq (.reg [⟨some 0, none, .nilv 1⟩]) (.seq (.reg [⟨some 1, none, .bslice 1 5 [(.str [])] [(0, (.c (.str [118, 97, 114, 105, 97, 98, 108, 101]))), (1, (.c (.str [108, 111, 99, 97, 108, 115]))), (2, (.c (.str [110, 111, 100, 101]))), (3, (.c (.str [109, 111, 100, 117, 108, 101]))), (4, (.c (.str [100, 101, 102, 105, 110, 101])))]⟩, ⟨some 0, none, .v (.mov (.t 1))⟩]) .ret), [(.t 0)]⟩
theorem U_Q63 : type_of% (sc_Q63.eq_1) := sc_Q63.eq_1
theorem comp_Q63 : comp Tryz.prog Tryz.f63 = some sc_Q63 := by kernel_rfl
def o_parse_blocks_block_1 : List SOper := [⟨some 72, none, .v (.faddr 3 (.t 7))⟩, ⟨some 73, none, .v (.load none (.t 72))⟩, ⟨some 74, none, .v (.mov (.t 0))⟩, ⟨some 75, none, .call (.c (.func 39 [])) [(.t 74), (.c (.bool true))]⟩, ⟨some 76, none, .bslice 4 1 [(.int .i64 0), (.str []), (.nils 2), (.nils 4)] [(0, (.t 75))]⟩, ⟨some 77, none, .append 4 72 (.t 73) (.t 76)⟩, ⟨some 78, none, .v (.faddr 3 (.t 7))⟩, ⟨none, none, .store 1 (.t 78) (.t 77)⟩]
def t_Q39_1 : BT := (.n 0 (.n 1 (.n 2 (.n 3 (.n 4 (.n 5 (.n 6 (.n 7 .e .e) .e) .e) .e) .e) .e) (.n 2 (.n 1 (.n 3 (.n 4 (.n 5 (.n 6 (.n 7 .e .e) .e) .e) .e) .e) (.n 3 (.n 1 (.n 4 (.n 5 (.n 6 (.n 7 .e .e) .e) .e) .e) (.n 4 (.n 1 (.n 5 (.n 6 (.n 7 .e .e) .e) .e) .e) .e)) .e)) .e)) (.n 2 (.n 0 (.n 1 (.n 3 (.n 4 (.n 5 (.n 6 (.n 7 .e .e) .e) .e) .e) .e) (.n 3 (.n 1 (.n 4 (.n 5 (.n 6 (.n 7 .e .e) .e) .e) .e) (.n 4 (.n 1 (.n 5 (.n 6 (.n 7 .e .e) .e) .e) .e) .e)) .e)) (.n 3 (.n 0 (.n 1 (.n 4 (.n 5 (.n 6 (.n 7 .e .e) .e) .e) .e) (.n 4 (.n 1 (.n 5 (.n 6 (.n 7 .e .e) .e) .e) .e) .e)) (.n 4 (.n 0 (.n 1 (.n 5 (.n 6 (.n 7 .e .e) .e) .e) .e) .e) .e)) .e)) .e))
theorem pr_parse_blocks_block_1 (ac : Ac) : prep o_parse_blocks_block_1 ac = ((ac.kill 75).kill 77) := rfl
theorem og_parse_blocks_block_1 : o_parse_blocks_block_1[0]? = some (⟨some 72, none, .v (.faddr 3 (.t 7))⟩) ∧ o_parse_blocks_block_1[1]? = some (⟨some 73, none, .v (.load none (.t 72))⟩) ∧ o_parse_blocks_block_1[2]? = some (⟨some 74, none, .v (.mov (.t 0))⟩) ∧ o_parse_blocks_block_1[3]? = some (⟨some 75, none, .call (.c (.func 39 [])) [(.t 74), (.c (.bool true))]⟩) ∧ o_parse_blocks_block_1[4]? = some (⟨some 76, none, .bslice 4 1 [(.int .i64 0), (.str []), (.nils 2), (.nils 4)] [(0, (.t 75))]⟩) ∧ o_parse_blocks_block_1[5]? = some (⟨some 77, none, .append 4 72 (.t 73) (.t 76)⟩) ∧ o_parse_blocks_block_1[6]? = some (⟨some 78, none, .v (.faddr 3 (.t 7))⟩) ∧ o_parse_blocks_block_1[7]? = some (⟨none, none, .store 1 (.t 78) (.t 77)⟩) := ⟨rfl, rfl, rfl, rfl, rfl, rfl, rfl, rfl⟩
def c_Q39_1 : SC := .seq (.reg [⟨some 79, none, .v (.load (some 4) (.t 7))⟩, ⟨none, none, .store 4 (.t 4) (.t 79)⟩]) .ret
def b_Q39_1 : SC := .seq (.seq (.reg [⟨some 66, none, .v (.mov (.t 0))⟩, ⟨some 67, none, .v (.nchk (.t 66))⟩, ⟨some 68, none, .v (.faddr 0 (.t 67))⟩, ⟨some 69, none, .v (.faddr 0 (.t 68))⟩, ⟨some 70, none, .call (.c (.func 67 [])) [(.t 69), (.c (.str [125]))]⟩, ⟨some 71, none, .v (.un .not (.t 70))⟩]) (.cond (.t 71) .skip (.exit 0))) (.block 1 (.treg o_parse_blocks_block_1 [72, 73, 74, 75, 76, 77, 78] t_Q39_1))
def c_Q39_2 : SC := .seq (.block 0 (.loop b_Q39_1)) c_Q39_1
def c_Q39_3 : SC := .seq (.reg [⟨some 61, none, .v (.mov (.t 0))⟩, ⟨some 62, none, .v (.nchk (.t 61))⟩, ⟨some 63, none, .v (.faddr 0 (.t 62))⟩, ⟨some 64, none, .v (.faddr 0 (.t 63))⟩, ⟨some 65, none, .call (.c (.func 66 [])) [(.t 64), (.c (.str [123]))]⟩]) c_Q39_2
def c_Q39_4 : SC := .seq (.seq (.reg [⟨some 55, none, .v (.mov (.t 6))⟩, ⟨some 56, none, .v (.bin .neq (.t 55) (.c (.int .i64 5)))⟩]) (.cond (.t 56) (.seq (.reg [⟨some 57, none, .v (.mov (.t 0))⟩, ⟨some 58, none, .call (.c (.func 65 [])) [(.t 57)]⟩, ⟨some 59, none, .v (.faddr 2 (.t 7))⟩, ⟨none, none, .store 1 (.t 59) (.t 58)⟩]) (.seq (.reg [⟨some 60, none, .v (.load (some 4) (.t 7))⟩, ⟨none, none, .store 4 (.t 4) (.t 60)⟩]) .ret)) .skip)) c_Q39_3
def c_Q39_5 : SC := .seq (.seq (.reg [⟨some 50, none, .v (.mov (.t 6))⟩, ⟨some 51, none, .v (.bin .neq (.t 50) (.c (.int .i64 2)))⟩]) (.cond (.t 51) (.reg [⟨some 52, none, .v (.mov (.t 0))⟩, ⟨some 53, none, .call (.c (.func 64 [])) [(.t 52)]⟩, ⟨some 54, none, .v (.faddr 1 (.t 7))⟩, ⟨none, none, .store 1 (.t 54) (.t 53)⟩]) .skip)) c_Q39_4
def c_Q39_6 : SC := .seq (.reg [⟨some 48, none, .v (.mov (.t 6))⟩, ⟨some 49, none, .v (.build [(.int .i64 0), (.str []), (.nils 2), (.nils 4)] [(0, 1, (.t 48))])⟩, ⟨some 7, none, .alloc [(.int .i64 0), (.str []), (.nils 2), (.nils 4)]⟩, ⟨none, none, .store 4 (.t 7) (.t 49)⟩]) c_Q39_5
def c_Q39_7 : SC := .seq (.reg [⟨some 37, none, .v (.mov (.t 0))⟩, ⟨some 38, none, .v (.nchk (.t 37))⟩, ⟨some 39, none, .v (.faddr 0 (.t 38))⟩, ⟨some 40, none, .v (.faddr 0 (.t 39))⟩, ⟨some 41, none, .v (.faddr 1 (.t 40))⟩, ⟨some 42, none, .v (.load none (.t 41))⟩, ⟨some 43, none, .v (.bin .add (.t 42) (.c (.int .i64 1)))⟩, ⟨some 44, none, .v (.nchk (.t 37))⟩, ⟨some 45, none, .v (.faddr 0 (.t 44))⟩, ⟨some 46, none, .v (.faddr 0 (.t 45))⟩, ⟨some 47, none, .v (.faddr 1 (.t 46))⟩, ⟨none, none, .store 1 (.t 47) (.t 43)⟩]) c_Q39_6
def c_Q39_8 : SC := .seq (.seq (.reg [⟨some 18, none, .v (.faddr 0 (.t 5))⟩, ⟨some 19, none, .v (.load none (.t 18))⟩, ⟨some 20, none, .v (.bin .neq (.t 19) (.c (.int .i64 3)))⟩, ⟨some 21, none, .v (.mov (.t 20))⟩, ⟨some 22, some (21, false), .v (.mov (.t 6))⟩, ⟨some 23, some (21, false), .v (.bin .eql (.t 22) (.c (.int .i64 0)))⟩, ⟨some 24, none, .v (.pick (.t 21) (.c (.bool true)) (.t 23))⟩, ⟨some 25, none, .v (.mov (.t 24))⟩, ⟨some 26, some (25, false), .v (.mov (.t 6))⟩, ⟨some 27, some (25, false), .v (.bin .eql (.t 26) (.c (.int .i64 5)))⟩, ⟨some 28, some (25, false), .v (.mov (.t 27))⟩, ⟨some 29, some (28, true), .v (.mov (.t 1))⟩, ⟨some 30, some (25, false), .v (.pick (.t 28) (.t 29) (.c (.bool false)))⟩, ⟨some 31, none, .v (.pick (.t 25) (.c (.bool true)) (.t 30))⟩]) (.cond (.t 31) (.reg [⟨some 32, none, .v (.mov (.t 0))⟩, ⟨some 33, none, .v (.nchk (.t 32))⟩, ⟨some 34, none, .v (.faddr 0 (.t 33))⟩, ⟨some 35, none, .v (.faddr 0 (.t 34))⟩, ⟨some 36, none, .call (.c (.func 42 [])) [(.t 35), (.c (.int .i64 5))]⟩]) .skip)) c_Q39_7
def c_Q39_9 : SC := .seq (.dreg [⟨some 13, none, .call (.c (.func 63 [])) []⟩, ⟨some 14, none, .v (.faddr 1 (.t 5))⟩, ⟨some 15, none, .v (.load none (.t 14))⟩, ⟨some 16, none, .call (.c (.func 62 [])) [(.t 13), (.t 15)]⟩, ⟨some 17, none, .v (.bin .add (.c (.int .i64 1)) (.t 16))⟩, ⟨some 6, none, .v (.mov (.t 17))⟩] [false, false, false, true, true, true]) c_Q39_8
def c_Q39_10 : SC := .seq (.reg [⟨some 8, none, .v (.mov (.t 0))⟩, ⟨some 9, none, .v (.nchk (.t 8))⟩, ⟨some 10, none, .v (.faddr 0 (.t 9))⟩, ⟨some 11, none, .v (.faddr 0 (.t 10))⟩, ⟨some 12, none, .call (.c (.func 38 [])) [(.t 11)]⟩, ⟨some 5, none, .alloc [(.int .i64 0), (.str []), (.int .i64 0), (.nils 2), (.int .i64 0)]⟩, ⟨none, none, .store 5 (.t 5) (.t 12)⟩]) c_Q39_9
def sc_Q39 : SFunc := ⟨2, 80, .seq (.reg [⟨some 4, none, .alloc [(.int .i64 0), (.str []), (.nils 2), (.nils 4)]⟩]) c_Q39_10, [(.cell 4 (some 4))]⟩
noncomputable def k_Q39_1 (SP : Prg) (x : EO) : CO := fin [(.cell 4 (some 4))] (thC SP (inBlk 0 (x)) c_Q39_1)
theorem U_Q39 : type_of% (And.intro (ue c_Q39_1.eq_1) <| And.intro (ue b_Q39_1.eq_1) <| And.intro (ue c_Q39_2.eq_1) <| And.intro (ue c_Q39_3.eq_1) <| And.intro (ue c_Q39_4.eq_1) <| And.intro (ue c_Q39_5.eq_1) <| And.intro (ue c_Q39_6.eq_1) <| And.intro (ue c_Q39_7.eq_1) <| And.intro (ue c_Q39_8.eq_1) <| And.intro (ue c_Q39_9.eq_1) <| And.intro (ue c_Q39_10.eq_1) <| And.intro pr_parse_blocks_block_1 <| And.intro og_parse_blocks_block_1 <| And.intro t_Q39_1.eq_1 <| sc_Q39.eq_1) := And.intro (ue c_Q39_1.eq_1) <| And.intro (ue b_Q39_1.eq_1) <| And.intro (ue c_Q39_2.eq_1) <| And.intro (ue c_Q39_3.eq_1) <| And.intro (ue c_Q39_4.eq_1) <| And.intro (ue c_Q39_5.eq_1) <| And.intro (ue c_Q39_6.eq_1) <| And.intro (ue c_Q39_7.eq_1) <| And.intro (ue c_Q39_8.eq_1) <| And.intro (ue c_Q39_9.eq_1) <| And.intro (ue c_Q39_10.eq_1) <| And.intro pr_parse_blocks_block_1 <| And.intro og_parse_blocks_block_1 <| And.intro t_Q39_1.eq_1 <| sc_Q39.eq_1
theorem comp_Q39 : comp Tryz.prog Tryz.f39 = some sc_Q39 := by kernel_rfl
def c_slices_IndexFunc_api_Attr_api_Attr_1 : SC := .seq (.reg [⟨some 4, none, .v (.mov (.c (.int .i64 (-1))))⟩]) .ret
def b_slices_IndexFunc_api_Attr_api_Attr_1 : SC := .seq (.reg [⟨some 9, none, .v (.bin .lss (.t 8) (.t 7))⟩]) (.seq (.cond (.t 9) .skip (.exit 0)) (.seq (.block 1 (.seq (.reg [⟨some 10, none, .v (.mov (.t 8))⟩, ⟨some 5, none, .v (.mov (.t 10))⟩]) (.seq (.reg [⟨some 11, none, .v (.mov (.t 1))⟩, ⟨some 12, none, .v (.mov (.t 0))⟩, ⟨some 13, none, .v (.mov (.t 5))⟩, ⟨some 14, none, .v (.iaddr 2 (.t 12) (.t 13))⟩, ⟨some 15, none, .v (.load (some 2) (.t 14))⟩, ⟨some 16, none, .call (.t 11) [(.t 15)]⟩]) (.cond (.t 16) (.seq (.reg [⟨some 17, none, .v (.mov (.t 5))⟩, ⟨some 4, none, .v (.mov (.t 17))⟩]) .ret) .skip)))) (.reg [⟨some 18, none, .v (.bin .add (.t 8) (.c (.int .i64 1)))⟩, ⟨some 8, none, .v (.mov (.t 18))⟩])))
def sc_slices_IndexFunc_api_Attr_api_Attr : SFunc := ⟨2, 19, .seq (.reg [⟨some 4, none, .v (.mov (.c (.int .i64 0)))⟩]) (.seq (.seq (.reg [⟨some 6, none, .v (.mov (.t 0))⟩, ⟨some 7, none, .v (.len false (.t 6))⟩, ⟨some 8, none, .v (.mov (.c (.int .i64 0)))⟩]) (.block 0 (.loop b_slices_IndexFunc_api_Attr_api_Attr_1))) c_slices_IndexFunc_api_Attr_api_Attr_1), [(.t 4)]⟩
noncomputable def k_slices_IndexFunc_api_Attr_api_Attr_1 (SP : Prg) (x : EO) : CO := fin [(.t 4)] (thC SP (inBlk 0 (x)) c_slices_IndexFunc_api_Attr_api_Attr_1)
theorem U_slices_IndexFunc_api_Attr_api_Attr : type_of% (And.intro (ue c_slices_IndexFunc_api_Attr_api_Attr_1.eq_1) <| And.intro (ue b_slices_IndexFunc_api_Attr_api_Attr_1.eq_1) <| sc_slices_IndexFunc_api_Attr_api_Attr.eq_1) := And.intro (ue c_slices_IndexFunc_api_Attr_api_Attr_1.eq_1) <| And.intro (ue b_slices_IndexFunc_api_Attr_api_Attr_1.eq_1) <| sc_slices_IndexFunc_api_Attr_api_Attr.eq_1
theorem comp_slices_IndexFunc_api_Attr_api_Attr : comp Tryz.prog Tryz.f141 = some sc_slices_IndexFunc_api_Attr_api_Attr := by kernel_rfl
def sc_slices_ContainsFunc_api_Attr_api_Attr : SFunc := ⟨2, 9, .seq (.reg [⟨some 4, none, .v (.mov (.c (.bool false)))⟩]) (.seq (.reg [⟨some 5, none, .v (.mov (.t 0))⟩, ⟨some 6, none, .v (.mov (.t 1))⟩, ⟨some 7, none, .call (.c (.func 141 [])) [(.t 5), (.t 6)]⟩, ⟨some 8, none, .v (.bin .geq (.t 7) (.c (.int .i64 0)))⟩, ⟨some 4, none, .v (.mov (.t 8))⟩]) .ret), [(.t 4)]⟩
theorem U_slices_ContainsFunc_api_Attr_api_Attr : type_of% (sc_slices_ContainsFunc_api_Attr_api_Attr.eq_1) := sc_slices_ContainsFunc_api_Attr_api_Attr.eq_1
theorem comp_slices_ContainsFunc_api_Attr_api_Attr : comp Tryz.prog Tryz.f99 = some sc_slices_ContainsFunc_api_Attr_api_Attr := by kernel_rfl
def o_parse_Parse_1_1 : List SOper := [⟨some 10, none, .v (.load none (.t 1))⟩, ⟨some 11, none, .v (.mov (.t 0))⟩, ⟨some 12, none, .call (.c (.func 39 [])) [(.t 11), (.c (.bool false))]⟩, ⟨some 13, none, .v (.len false (.t 10))⟩, ⟨some 14, none, .bslice 4 1 [(.int .i64 0), (.str []), (.nils 2), (.nils 4)] [(0, (.c (.agg [(.int .i64 0), (.str []), (.nils 2), (.nils 4)])))]⟩, ⟨some 15, none, .append 4 72 (.t 10) (.t 14)⟩, ⟨some 16, none, .v (.iaddr 4 (.t 15) (.t 13))⟩, ⟨none, none, .store 4 (.t 16) (.t 12)⟩, ⟨none, none, .store 1 (.t 1) (.t 15)⟩]
def t_Q37_1 : BT := (.n 0 (.n 1 (.n 2 (.n 3 (.n 4 (.n 5 (.n 6 (.n 7 (.n 8 .e .e) (.n 8 (.n 7 .e .e) .e)) (.n 8 (.n 6 (.n 7 .e .e) .e) .e)) .e) .e) (.n 4 (.n 3 (.n 5 (.n 6 (.n 7 (.n 8 .e .e) (.n 8 (.n 7 .e .e) .e)) (.n 8 (.n 6 (.n 7 .e .e) .e) .e)) .e) .e) .e)) (.n 3 (.n 2 (.n 4 (.n 5 (.n 6 (.n 7 (.n 8 .e .e) (.n 8 (.n 7 .e .e) .e)) (.n 8 (.n 6 (.n 7 .e .e) .e) .e)) .e) .e) (.n 4 (.n 2 (.n 5 (.n 6 (.n 7 (.n 8 .e .e) (.n 8 (.n 7 .e .e) .e)) (.n 8 (.n 6 (.n 7 .e .e) .e) .e)) .e) .e) .e)) (.n 4 (.n 2 (.n 3 (.n 5 (.n 6 (.n 7 (.n 8 .e .e) (.n 8 (.n 7 .e .e) .e)) (.n 8 (.n 6 (.n 7 .e .e) .e) .e)) .e) .e) (.n 3 (.n 2 (.n 5 (.n 6 (.n 7 (.n 8 .e .e) (.n 8 (.n 7 .e .e) .e)) (.n 8 (.n 6 (.n 7 .e .e) .e) .e)) .e) .e) .e)) .e))) (.n 3 (.n 1 (.n 2 (.n 4 (.n 5 (.n 6 (.n 7 (.n 8 .e .e) (.n 8 (.n 7 .e .e) .e)) (.n 8 (.n 6 (.n 7 .e .e) .e) .e)) .e) .e) (.n 4 (.n 2 (.n 5 (.n 6 (.n 7 (.n 8 .e .e) (.n 8 (.n 7 .e .e) .e)) (.n 8 (.n 6 (.n 7 .e .e) .e) .e)) .e) .e) .e)) (.n 4 (.n 1 (.n 2 (.n 5 (.n 6 (.n 7 (.n 8 .e .e) (.n 8 (.n 7 .e .e) .e)) (.n 8 (.n 6 (.n 7 .e .e) .e) .e)) .e) .e) .e) .e)) (.n 4 (.n 1 (.n 2 (.n 3 (.n 5 (.n 6 (.n 7 (.n 8 .e .e) (.n 8 (.n 7 .e .e) .e)) (.n 8 (.n 6 (.n 7 .e .e) .e) .e)) .e) .e) (.n 3 (.n 2 (.n 5 (.n 6 (.n 7 (.n 8 .e .e) (.n 8 (.n 7 .e .e) .e)) (.n 8 (.n 6 (.n 7 .e .e) .e) .e)) .e) .e) .e)) (.n 3 (.n 1 (.n 2 (.n 5 (.n 6 (.n 7 (.n 8 .e .e) (.n 8 (.n 7 .e .e) .e)) (.n 8 (.n 6 (.n 7 .e .e) .e) .e)) .e) .e) .e) .e)) .e))) (.n 1 (.n 0 (.n 2 (.n 3 (.n 4 (.n 5 (.n 6 (.n 7 (.n 8 .e .e) (.n 8 (.n 7 .e .e) .e)) (.n 8 (.n 6 (.n 7 .e .e) .e) .e)) .e) .e) (.n 4 (.n 3 (.n 5 (.n 6 (.n 7 (.n 8 .e .e) (.n 8 (.n 7 .e .e) .e)) (.n 8 (.n 6 (.n 7 .e .e) .e) .e)) .e) .e) .e)) (.n 3 (.n 2 (.n 4 (.n 5 (.n 6 (.n 7 (.n 8 .e .e) (.n 8 (.n 7 .e .e) .e)) (.n 8 (.n 6 (.n 7 .e .e) .e) .e)) .e) .e) (.n 4 (.n 2 (.n 5 (.n 6 (.n 7 (.n 8 .e .e) (.n 8 (.n 7 .e .e) .e)) (.n 8 (.n 6 (.n 7 .e .e) .e) .e)) .e) .e) .e)) (.n 4 (.n 2 (.n 3 (.n 5 (.n 6 (.n 7 (.n 8 .e .e) (.n 8 (.n 7 .e .e) .e)) (.n 8 (.n 6 (.n 7 .e .e) .e) .e)) .e) .e) (.n 3 (.n 2 (.n 5 (.n 6 (.n 7 (.n 8 .e .e) (.n 8 (.n 7 .e .e) .e)) (.n 8 (.n 6 (.n 7 .e .e) .e) .e)) .e) .e) .e)) .e))) (.n 2 (.n 0 (.n 3 (.n 4 (.n 5 (.n 6 (.n 7 (.n 8 .e .e) (.n 8 (.n 7 .e .e) .e)) (.n 8 (.n 6 (.n 7 .e .e) .e) .e)) .e) .e) (.n 4 (.n 3 (.n 5 (.n 6 (.n 7 (.n 8 .e .e) (.n 8 (.n 7 .e .e) .e)) (.n 8 (.n 6 (.n 7 .e .e) .e) .e)) .e) .e) .e)) (.n 4 (.n 0 (.n 3 (.n 5 (.n 6 (.n 7 (.n 8 .e .e) (.n 8 (.n 7 .e .e) .e)) (.n 8 (.n 6 (.n 7 .e .e) .e) .e)) .e) .e) .e) .e)) (.n 4 (.n 0 (.n 2 (.n 3 (.n 5 (.n 6 (.n 7 (.n 8 .e .e) (.n 8 (.n 7 .e .e) .e)) (.n 8 (.n 6 (.n 7 .e .e) .e) .e)) .e) .e) (.n 3 (.n 2 (.n 5 (.n 6 (.n 7 (.n 8 .e .e) (.n 8 (.n 7 .e .e) .e)) (.n 8 (.n 6 (.n 7 .e .e) .e) .e)) .e) .e) .e)) (.n 2 (.n 0 (.n 3 (.n 5 (.n 6 (.n 7 (.n 8 .e .e) (.n 8 (.n 7 .e .e) .e)) (.n 8 (.n 6 (.n 7 .e .e) .e) .e)) .e) .e) .e) .e)) .e))) (.n 4 (.n 0 (.n 1 (.n 2 (.n 3 (.n 5 (.n 6 (.n 7 (.n 8 .e .e) (.n 8 (.n 7 .e .e) .e)) (.n 8 (.n 6 (.n 7 .e .e) .e) .e)) .e) .e) (.n 3 (.n 2 (.n 5 (.n 6 (.n 7 (.n 8 .e .e) (.n 8 (.n 7 .e .e) .e)) (.n 8 (.n 6 (.n 7 .e .e) .e) .e)) .e) .e) .e)) (.n 3 (.n 1 (.n 2 (.n 5 (.n 6 (.n 7 (.n 8 .e .e) (.n 8 (.n 7 .e .e) .e)) (.n 8 (.n 6 (.n 7 .e .e) .e) .e)) .e) .e) .e) .e)) (.n 1 (.n 0 (.n 2 (.n 3 (.n 5 (.n 6 (.n 7 (.n 8 .e .e) (.n 8 (.n 7 .e .e) .e)) (.n 8 (.n 6 (.n 7 .e .e) .e) .e)) .e) .e) (.n 3 (.n 2 (.n 5 (.n 6 (.n 7 (.n 8 .e .e) (.n 8 (.n 7 .e .e) .e)) (.n 8 (.n 6 (.n 7 .e .e) .e) .e)) .e) .e) .e)) (.n 2 (.n 0 (.n 3 (.n 5 (.n 6 (.n 7 (.n 8 .e .e) (.n 8 (.n 7 .e .e) .e)) (.n 8 (.n 6 (.n 7 .e .e) .e) .e)) .e) .e) .e) .e)) .e)) .e)))
theorem pr_parse_Parse_1_1 (ac : Ac) : prep o_parse_Parse_1_1 ac = ((ac.kill 12).kill 15) := rfl
theorem og_parse_Parse_1_1 : o_parse_Parse_1_1[0]? = some (⟨some 10, none, .v (.load none (.t 1))⟩) ∧ o_parse_Parse_1_1[1]? = some (⟨some 11, none, .v (.mov (.t 0))⟩) ∧ o_parse_Parse_1_1[2]? = some (⟨some 12, none, .call (.c (.func 39 [])) [(.t 11), (.c (.bool false))]⟩) ∧ o_parse_Parse_1_1[3]? = some (⟨some 13, none, .v (.len false (.t 10))⟩) ∧ o_parse_Parse_1_1[4]? = some (⟨some 14, none, .bslice 4 1 [(.int .i64 0), (.str []), (.nils 2), (.nils 4)] [(0, (.c (.agg [(.int .i64 0), (.str []), (.nils 2), (.nils 4)])))]⟩) ∧ o_parse_Parse_1_1[5]? = some (⟨some 15, none, .append 4 72 (.t 10) (.t 14)⟩) ∧ o_parse_Parse_1_1[6]? = some (⟨some 16, none, .v (.iaddr 4 (.t 15) (.t 13))⟩) ∧ o_parse_Parse_1_1[7]? = some (⟨none, none, .store 4 (.t 16) (.t 12)⟩) ∧ o_parse_Parse_1_1[8]? = some (⟨none, none, .store 1 (.t 1) (.t 15)⟩) := ⟨rfl, rfl, rfl, rfl, rfl, rfl, rfl, rfl, rfl⟩
def c_Q37_1 : SC := .block 1 (.treg o_parse_Parse_1_1 [10, 11, 12, 13, 14, 15, 16] t_Q37_1)
def b_Q37_1 : SC := .seq (.seq (.reg [⟨some 3, none, .v (.mov (.t 0))⟩, ⟨some 4, none, .v (.nchk (.t 3))⟩, ⟨some 5, none, .v (.faddr 0 (.t 4))⟩, ⟨some 6, none, .v (.faddr 0 (.t 5))⟩, ⟨some 7, none, .call (.c (.func 38 [])) [(.t 6)]⟩, ⟨some 8, none, .v (.field 0 none (.t 7))⟩, ⟨some 9, none, .v (.bin .neq (.t 8) (.c (.int .i64 0)))⟩]) (.cond (.t 9) .skip (.exit 0))) c_Q37_1
def sc_Q37 : SFunc := ⟨2, 17, .block 0 (.loop b_Q37_1), []⟩
noncomputable def k_Q37_1 (SP : Prg) (x : EO) : CO := fin [] (inBlk 0 (x))
theorem U_Q37 : type_of% (And.intro (ue c_Q37_1.eq_1) <| And.intro (ue b_Q37_1.eq_1) <| And.intro pr_parse_Parse_1_1 <| And.intro og_parse_Parse_1_1 <| And.intro t_Q37_1.eq_1 <| sc_Q37.eq_1) := And.intro (ue c_Q37_1.eq_1) <| And.intro (ue b_Q37_1.eq_1) <| And.intro pr_parse_Parse_1_1 <| And.intro og_parse_Parse_1_1 <| And.intro t_Q37_1.eq_1 <| sc_Q37.eq_1
theorem comp_Q37 : comp Tryz.prog Tryz.f37 = some sc_Q37 := by kernel_rfl
def sc_Q17 : SFunc := ⟨1, 13, .seq (.reg [⟨some 2, none, .nilv 4⟩, ⟨some 3, none, .v (.mov (.c (.int .i64 0)))⟩]) (.seq (.reg [⟨some 4, none, .alloc [(.nils 4)]⟩]) (.seq (.reg [⟨some 6, none, .v (.mov (.t 0))⟩, ⟨some 7, none, .v (.func 37 [(.t 4)])⟩, ⟨some 8, none, .call (.c (.func 36 [])) [(.t 6), (.t 7)]⟩, ⟨some 5, none, .v (.mov (.t 8))⟩]) (.seq (.seq (.reg [⟨some 9, none, .v (.mov (.t 5))⟩, ⟨some 10, none, .v (.bin .neq (.t 9) (.c (.int .i64 0)))⟩]) (.cond (.t 10) (.seq (.reg [⟨some 11, none, .v (.mov (.t 5))⟩, ⟨some 2, none, .nilv 4⟩, ⟨some 3, none, .v (.mov (.t 11))⟩]) .ret) .skip)) (.seq (.reg [⟨some 12, none, .v (.load none (.t 4))⟩, ⟨some 2, none, .v (.mov (.t 12))⟩, ⟨some 3, none, .v (.mov (.c (.int .i64 0)))⟩]) .ret)))), [(.t 2), (.t 3)]⟩
theorem U_Q17 : type_of% (sc_Q17.eq_1) := sc_Q17.eq_1
theorem comp_Q17 : comp Tryz.prog Tryz.f17 = some sc_Q17 := by kernel_rfl
end Go.Proofs.YtfbcnpbhhooapaaGreatDoor.M
namespace Go.Proofs.YtfbcnpbhhooapaaGreatDoor.M
set_option linter.unusedSimpArgs false
set_option linter.unusedVariables false
open Go Classical
theorem sp_slices_IndexFunc_api_Attr_api_Attr : SP 141 = some (.code sc_slices_IndexFunc_api_Attr_api_Attr) := SPof_code rfl Tryz.func141 comp_slices_IndexFunc_api_Attr_api_Attr
theorem G_slices_IndexFunc_api_Attr_api_Attr (xs : List Attr) (g : Nat) (caps : List PV) (p : Attr → Bool) (S : Sto) (hl : xs.length < 9223372036854775808) (h1 : ∀ S, handA S (PV.upL caps) = some (PV.upL caps, S)) (h2 : (PV.upL caps).any PV.hasSl = false) (h3 : ∀ a, joinA a (PV.upL caps) = a ++ PV.upL caps) (hc : ∀ x, x ∈ xs → ∀ f, call SP g (.agg (eAttr x) :: PV.upL caps) (f :: S) = .ok (.v (.bool (p x))) (f :: S)) : call SP 141 [.list 2 (xs.map eAttr) false, .func g caps] S = .ok (.v (.int .i64 (findI p 0 xs))) S := by
  have loop : ∀ (k i : Nat), i + k = xs.length → ∀ (e : Nat → PV) (f : Fr), e 0 = .list 2 (xs.map eAttr) false ∧ e 1 = .func g (PV.upL caps) ∧ e 7 = .int .i64 ((xs.length : Nat) : Int) ∧ e 8 = .int .i64 ((i : Nat) : Int) → k_slices_IndexFunc_api_Attr_api_Attr_1 SP (E SP (.loop b_slices_IndexFunc_api_Attr_api_Attr_1) ⟨e, f :: S⟩) = .ok (.v (.int .i64 (findI p i (xs.drop i)))) S := by
    intro k
    induction k with
    | zero =>
      intro i hi e f h
      have hlt : ¬ (((i : Nat) : Int) < ((xs.length : Nat) : Int)) := by omega
      rw [List.drop_eq_nil_of_le (by omega)]
      unfold k_slices_IndexFunc_api_Attr_api_Attr_1 findI
      rw [E_loop]
      simp only [h, hlt, U_slices_IndexFunc_api_Attr_api_Attr, lw, lx, le, Nat.reduceMul, UInt8.reduceToNat, reduceIte, reduceCtorEq, Nat.reduceEqDiff, Nat.reduceAdd, Nat.reduceLeDiff, Nat.reduceSub, Nat.reduceLT, Int.reduceEq, Int.reduceLT, Int.reduceLE, Int.reduceToNat, Int.reduceAdd, Int.reduceSub, Int.reduceMul, Int.reduceNeg, h1, h2, h3]
    | succ k ih =>
      intro i hi e f h
      have hlt : (((i : Nat) : Int) < ((xs.length : Nat) : Int)) := by omega
      have hi' : i < xs.length := by omega
      have hv : xs[i]? = some xs[i] := List.getElem?_eq_getElem hi'
      have hcx := hc xs[i] (List.getElem_mem hi')
      have w1 : IntKind.i64.wrap ((i : Int) + 1) = ((i + 1 : Nat) : Int) := by rw [wrap_i64 (by omega) (by omega)]; omega
      rw [List.drop_eq_getElem_cons hi']
      simp only [le] at hcx
      have hi2 := ih (i + 1) (by omega)
      unfold k_slices_IndexFunc_api_Attr_api_Attr_1 at hi2 ⊢
      unfold findI
      rw [E_loop]
      cases hp : p xs[i] with
      | true =>
        rw [hp] at hcx
        simp only [h, hlt, hv, hcx, w1, nat_nonneg, Int.toNat_natCast, U_slices_IndexFunc_api_Attr_api_Attr, lw, lx, le, Nat.reduceMul, UInt8.reduceToNat, reduceIte, reduceCtorEq, Nat.reduceEqDiff, Nat.reduceAdd, Nat.reduceLeDiff, Nat.reduceSub, Nat.reduceLT, Int.reduceEq, Int.reduceLT, Int.reduceLE, Int.reduceToNat, Int.reduceAdd, Int.reduceSub, Int.reduceMul, Int.reduceNeg, h1, h2, h3]
      | false =>
        rw [hp] at hcx
        simp only [h, hlt, hv, hcx, w1, nat_nonneg, Int.toNat_natCast, U_slices_IndexFunc_api_Attr_api_Attr, lw, lx, le, Nat.reduceMul, UInt8.reduceToNat, reduceIte, reduceCtorEq, Nat.reduceEqDiff, Nat.reduceAdd, Nat.reduceLeDiff, Nat.reduceSub, Nat.reduceLT, Int.reduceEq, Int.reduceLT, Int.reduceLE, Int.reduceToNat, Int.reduceAdd, Int.reduceSub, Int.reduceMul, Int.reduceNeg, h1, h2, h3]
        rw [hi2 _ _ ?_]
        simp only [h, w1, U_slices_IndexFunc_api_Attr_api_Attr, lw, lx, le, Nat.reduceMul, UInt8.reduceToNat, reduceIte, reduceCtorEq, Nat.reduceEqDiff, Nat.reduceAdd, Nat.reduceLeDiff, Nat.reduceSub, Nat.reduceLT, Int.reduceEq, Int.reduceLT, Int.reduceLE, Int.reduceToNat, Int.reduceAdd, Int.reduceSub, Int.reduceMul, Int.reduceNeg, h1, h2, h3]
  rw [call_code sp_slices_IndexFunc_api_Attr_api_Attr _ _ rfl]
  simp only [U_slices_IndexFunc_api_Attr_api_Attr, lw, lx, le, Nat.reduceMul, UInt8.reduceToNat, reduceIte, reduceCtorEq, Nat.reduceEqDiff, Nat.reduceAdd, Nat.reduceLeDiff, Nat.reduceSub, Nat.reduceLT, Int.reduceEq, Int.reduceLT, Int.reduceLE, Int.reduceToNat, Int.reduceAdd, Int.reduceSub, Int.reduceMul, Int.reduceNeg, h1, h2, h3]
  have := loop xs.length 0 (by omega)
  unfold k_slices_IndexFunc_api_Attr_api_Attr_1 at this
  rw [this _ _ ?_]
  · rw [List.drop_zero]
  · simp only [U_slices_IndexFunc_api_Attr_api_Attr, lw, lx, le, Nat.reduceMul, UInt8.reduceToNat, reduceIte, reduceCtorEq, Nat.reduceEqDiff, Nat.reduceAdd, Nat.reduceLeDiff, Nat.reduceSub, Nat.reduceLT, Int.reduceEq, Int.reduceLT, Int.reduceLE, Int.reduceToNat, Int.reduceAdd, Int.reduceSub, Int.reduceMul, Int.reduceNeg, h1, h2, h3]
    try simp
theorem sp_slices_ContainsFunc_api_Attr_api_Attr : SP 99 = some (.code sc_slices_ContainsFunc_api_Attr_api_Attr) := SPof_code rfl Tryz.func99 comp_slices_ContainsFunc_api_Attr_api_Attr
theorem G_slices_ContainsFunc_api_Attr_api_Attr (xs : List Attr) (g : Nat) (caps : List PV) (p : Attr → Bool) (S : Sto) (hl : xs.length < 9223372036854775808) (h1 : ∀ S, handA S (PV.upL caps) = some (PV.upL caps, S)) (h2 : (PV.upL caps).any PV.hasSl = false) (h3 : ∀ a, joinA a (PV.upL caps) = a ++ PV.upL caps) (h1' : ∀ S, handA S (PV.upL (PV.upL caps)) = some (PV.upL (PV.upL caps), S)) (h2' : (PV.upL (PV.upL caps)).any PV.hasSl = false) (h3' : ∀ a, joinA a (PV.upL (PV.upL caps)) = a ++ PV.upL (PV.upL caps)) (hc : ∀ x, x ∈ xs → ∀ f f', call SP g (.agg (eAttr x) :: PV.upL (PV.upL caps)) (f :: f' :: S) = .ok (.v (.bool (p x))) (f :: f' :: S)) : call SP 99 [.list 2 (xs.map eAttr) false, .func g caps] S = .ok (.v (.bool (xs.any p))) S := by
  have ix := fun f' => G_slices_IndexFunc_api_Attr_api_Attr xs g (PV.upL caps) p (f' :: S) hl h1' h2' h3' fun x hx f => hc x hx f f'
  have hd := findI_dec p xs
  rw [call_code sp_slices_ContainsFunc_api_Attr_api_Attr _ _ rfl]
  simp only [ix, hd, U_slices_ContainsFunc_api_Attr_api_Attr, lw, lx, le, Nat.reduceMul, UInt8.reduceToNat, reduceIte, reduceCtorEq, Nat.reduceEqDiff, Nat.reduceAdd, Nat.reduceLeDiff, Nat.reduceSub, Nat.reduceLT, Int.reduceEq, Int.reduceLT, Int.reduceLE, Int.reduceToNat, Int.reduceAdd, Int.reduceSub, Int.reduceMul, Int.reduceNeg, h1, h2, h3]
theorem sp_Q30 : SP 30 = some (.code sc_Q30) := SPof_code rfl Tryz.func30 comp_Q30
theorem H_slices_ContainsFunc_api_Block_api_Block_parse_May_1 {xs : List Block}  {p : Block → Bool} (hl : xs.length < 9223372036854775808) (hp : ∀ x, x ∈ xs → R_Q51 x (p x)) : ∀ (S : Sto), call SP 50 [.list 4 (xs.map eBlock) false, .func 51 []] S = .ok (.v (.bool (xs.any p))) S := by
 intro S  
 refine G_slices_ContainsFunc_api_Block_api_Block xs 51 [] p S hl (by intro S; rfl) (by rfl) (by intro a; rfl) (by intro S; rfl) (by rfl) (by intro a; rfl) ?_
 intro x hx f f'
 have := hp x hx (f :: f' :: S)  
 simpa only [PV.upL, PV.up] using this
theorem Q30_tree (l_ : List Block) (r : Bool) (T :
  (l_.length < 9223372036854775808) ∧
 ∃ (pp1 : Block → Bool), (∀ x, x ∈ l_ → R_Q51 x (pp1 x)) ∧
 (!(l_.any pp1)) = r) : R_Q30 l_ r := by
 intro S
 rw [call_code sp_Q30 _ _ rfl]
 have F := U_Q30
 obtain ⟨p1, pp1, q2, rfl⟩ := T
 have o2 := H_slices_ContainsFunc_api_Block_api_Block_parse_May_1  p1 q2
 try simp only [le] at o2
 exact fi (aa p1 <| aa o2 <| F)
theorem sp_Q51 : SP 51 = some (.code sc_Q51) := SPof_code rfl Tryz.func51 comp_Q51
theorem Q51_tree (b : Block) (r : Bool) (T :
  ∃ (r1 : Bool), (R_Q52 b false r1) ∧
 (!r1) = r) : R_Q51 b r := by
 intro S
 rw [call_code sp_Q51 _ _ rfl]
 have F := U_Q51
 obtain ⟨r1, q1, rfl⟩ := T
 simp only [R_Q52, le, List.cons_append, List.nil_append] at q1
 exact fi (aa q1 <| F)
theorem sp_Q52 : SP 52 = some (.code sc_Q52) := SPof_code rfl Tryz.func52 comp_Q52
theorem H_slices_ContainsFunc_api_Block_api_Block_parse_may_1 {xs : List Block}  {p : Block → Bool} (hl : xs.length < 9223372036854775808) (hp : ∀ x, x ∈ xs → R_Q83 x (p x)) : ∀ (S : Sto), call SP 50 [.list 4 (xs.map eBlock) false, .func 83 []] S = .ok (.v (.bool (xs.any p))) S := by
 intro S  
 refine G_slices_ContainsFunc_api_Block_api_Block xs 83 [] p S hl (by intro S; rfl) (by rfl) (by intro a; rfl) (by intro S; rfl) (by rfl) (by intro a; rfl) ?_
 intro x hx f f'
 have := hp x hx (f :: f' :: S)  
 simpa only [PV.upL, PV.up] using this
theorem Q52_tree (b : Block) (within : Bool) (r : Bool) (T :
  ∃ (r1 : Bool), (R_Q81 b.Label r1) ∧
 ((b.Kind = 2) →
  ((b.Kind < 1) →
   false = r) ∧
  (¬ (b.Kind < 1) →
   ((5 < b.Kind) →
    false = r) ∧
   (¬ (5 < b.Kind) →
    ((b.Label = []) →
     (((b.Blocks.length : Int) = 0) →
      ∃ (r2 : Bool), (R_Q82 b.Attrs r2) ∧
      r2 = r) ∧
     (¬ ((b.Blocks.length : Int) = 0) →
      false = r)) ∧
    (¬ (b.Label = []) →
     false = r)))) ∧
 (¬ (b.Kind = 2) →
  ((b.Kind < 1) →
   false = r) ∧
  (¬ (b.Kind < 1) →
   ((5 < b.Kind) →
    false = r) ∧
   (¬ (5 < b.Kind) →
    ((r1 = true) →
     ((b.Kind = 5) →
      ((within = true) →
       false = r) ∧
      (¬ (within = true) →
       (((b.Attrs.length : Int) = 0) →
        (b.Blocks.length < 9223372036854775808) ∧
        ∃ (pp3 : Block → Bool), (∀ x, x ∈ b.Blocks → R_Q83 x (pp3 x)) ∧
        (!(b.Blocks.any pp3)) = r) ∧
       (¬ ((b.Attrs.length : Int) = 0) →
        false = r))) ∧
     (¬ (b.Kind = 5) →
      (((b.Blocks.length : Int) = 0) →
       ∃ (r4 : Bool), (R_Q82 b.Attrs r4) ∧
       r4 = r) ∧
      (¬ ((b.Blocks.length : Int) = 0) →
       false = r))) ∧
    (¬ (r1 = true) →
     false = r))))) : R_Q52 b within r := by
 intro S
 rw [call_code sp_Q52 _ _ rfl]
 have F := U_Q52
 obtain ⟨r1, q1, T⟩ := T
 simp only [R_Q81, le, List.cons_append, List.nil_append] at q1
 replace F := aa q1 <| F
 by_cases c2 : b.Kind = 2
 · replace T := T.1 c2
   replace F := aa (eq_true c2) <| F
   by_cases c3 : b.Kind < 1
   · replace T := T.1 c3
     obtain rfl := T
     exact fi (aa (eq_true c3) <| F)
   · replace T := T.2 c3
     replace F := aa (eq_false c3) <| F
     by_cases c4 : 5 < b.Kind
     · replace T := T.1 c4
       obtain rfl := T
       exact fi (aa (eq_true c4) <| F)
     · replace T := T.2 c4
       replace F := aa (eq_false c4) <| F
       by_cases c5 : b.Label = []
       · replace T := T.1 c5
         have d6 : ¬ (b.Kind = 5) := fun h => absurd (c2.symm.trans h) (by decide)
         replace F := aa (eq_true c5) <| aa (eq_false d6) <| F
         by_cases c7 : (b.Blocks.length : Int) = 0
         · replace T := T.1 c7
           obtain ⟨r2, q8, rfl⟩ := T
           simp only [R_Q82, le, List.cons_append, List.nil_append] at q8
           exact fi (aa (eq_true c7) <| aa q8 <| F)
         · replace T := T.2 c7
           obtain rfl := T
           exact fi (aa (eq_false c7) <| F)
       · replace T := T.2 c5
         obtain rfl := T
         exact fi (aa (eq_false c5) <| F)
 · replace T := T.2 c2
   replace F := aa (eq_false c2) <| F
   by_cases c9 : b.Kind < 1
   · replace T := T.1 c9
     obtain rfl := T
     exact fi (aa (eq_true c9) <| F)
   · replace T := T.2 c9
     replace F := aa (eq_false c9) <| F
     by_cases c10 : 5 < b.Kind
     · replace T := T.1 c10
       obtain rfl := T
       exact fi (aa (eq_true c10) <| F)
     · replace T := T.2 c10
       replace F := aa (eq_false c10) <| F
       by_cases c11 : r1 = true
       · replace T := T.1 c11
         replace F := aa c11 <| F
         by_cases c12 : b.Kind = 5
         · replace T := T.1 c12
           replace F := aa (eq_true c12) <| F
           by_cases c13 : within = true
           · replace T := T.1 c13
             obtain rfl := T
             exact fi (aa c13 <| F)
           · replace T := T.2 c13
             replace c13 := Bool.eq_false_iff.2 c13
             replace F := aa c13 <| F
             by_cases c14 : (b.Attrs.length : Int) = 0
             · replace T := T.1 c14
               obtain ⟨p15, pp3, q16, rfl⟩ := T
               have o16 := H_slices_ContainsFunc_api_Block_api_Block_parse_may_1  p15 q16
               try simp only [le] at o16
               exact fi (aa (eq_true c14) <| aa p15 <| aa o16 <| F)
             · replace T := T.2 c14
               obtain rfl := T
               exact fi (aa (eq_false c14) <| F)
         · replace T := T.2 c12
           replace F := aa (eq_false c12) <| F
           by_cases c17 : (b.Blocks.length : Int) = 0
           · replace T := T.1 c17
             obtain ⟨r4, q18, rfl⟩ := T
             simp only [R_Q82, le, List.cons_append, List.nil_append] at q18
             exact fi (aa (eq_true c17) <| aa q18 <| F)
           · replace T := T.2 c17
             obtain rfl := T
             exact fi (aa (eq_false c17) <| F)
       · replace T := T.2 c11
         replace c11 := Bool.eq_false_iff.2 c11
         obtain rfl := T
         exact fi (aa c11 <| F)
theorem sp_Q83 : SP 83 = some (.code sc_Q83) := SPof_code rfl Tryz.func83 comp_Q83
theorem Q83_tree (x : Block) (r : Bool) (T :
  ∃ (r1 : Bool), (R_Q52 x true r1) ∧
 (!r1) = r) : R_Q83 x r := by
 intro S
 rw [call_code sp_Q83 _ _ rfl]
 have F := U_Q83
 obtain ⟨r1, q1, rfl⟩ := T
 simp only [R_Q52, le, List.cons_append, List.nil_append] at q1
 exact fi (aa q1 <| F)
theorem sp_Q82 : SP 82 = some (.code sc_Q82) := SPof_code rfl Tryz.func82 comp_Q82
theorem H_slices_ContainsFunc_api_Attr_api_Attr_parse_attrs_1 {xs : List Attr} {c0 : Attr} {p : Attr → Bool} (hl : xs.length < 9223372036854775808) (hp : ∀ x, x ∈ xs → R_Q121 x c0 (p x)) : ∀ (S : Sto) (n0 : Nat) (t0 : Nat), (getBox S n0 t0).map (List.take 2) = some [.str c0.Name, .list 5 (c0.Expr.map eNode) false] → call SP 99 [.list 2 (xs.map eAttr) false, .func 121 [.ptr n0 t0 0]] S = .ok (.v (.bool (xs.any p))) S := by
 intro S n0 t0 h0
 refine G_slices_ContainsFunc_api_Attr_api_Attr xs 121 [.ptr n0 t0 0] p S hl (by intro S; rfl) (by rfl) (by intro a; rfl) (by intro S; rfl) (by rfl) (by intro a; rfl) ?_
 intro x hx f f'
 have := hp x hx (f :: f' :: S) (n0 + 1 + 1) t0 (by simpa only [lw] using h0)
 simpa only [PV.upL, PV.up] using this
def At_Q121 (l_ : List Attr) (i1 : Int) (r : Bool) : Prop := ∀ (S : Sto) (e : Nat → PV) (f : Fr), e 0 = .list 2 (l_.map eAttr) false ∧ e 5 = .list 2 (l_.map eAttr) false ∧ e 6 = .int .i64 (l_.length : Int) ∧ e 7 = .int .i64 i1 → k_Q121 SP (E SP (.loop b_Q121) ⟨e, f :: S⟩) = .ok (.v (.bool r)) S
theorem At_Q121_step (l_ : List Attr) (i1 : Int) (r : Bool) (T :
  ((i1 < (l_.length : Int)) →
  (0 ≤ i1) ∧
  ∃ (v2 : Attr), (l_[i1.toNat]? = some v2) ∧
  ∃ (r3 : Bool), (R_Q115 v2.Name r3) ∧
  ((r3 = true) →
   ∃ (r4 : Bool), (R_Q26 v2.Expr r4) ∧
   ((r4 = true) →
    (0 ≤ i1) ∧ (i1.toNat ≤ l_.length) ∧
    ((l_.take (i1.toNat)).length < 9223372036854775808) ∧
    ∃ (pp5 : Attr → Bool), (∀ x, x ∈ (l_.take (i1.toNat)) → R_Q121 x v2 (pp5 x)) ∧
    ((((l_.take (i1.toNat)).any pp5) = true) →
     false = r) ∧
    (¬ (((l_.take (i1.toNat)).any pp5) = true) →
     (I64 (i1 + 1)) ∧
     At_Q121 l_ (i1 + 1) r)) ∧
   (¬ (r4 = true) →
    false = r)) ∧
  (¬ (r3 = true) →
   false = r)) ∧
 (¬ (i1 < (l_.length : Int)) →
  true = r)) : At_Q121 l_ i1 r := by
 intro S e f h
 unfold k_Q121
 rw [E_loop]
 have F := U_Q82
 replace F := aa h <| F
 by_cases c1 : i1 < (l_.length : Int)
 · replace T := T.1 c1
   obtain ⟨p2, v2, q3, r3, q4, T⟩ := T
   simp only [R_Q115, le, List.cons_append, List.nil_append] at q4
   replace F := aa (eq_true c1) <| aa p2 <| aa q3 <| aa q4 <| F
   by_cases c5 : r3 = true
   · replace T := T.1 c5
     obtain ⟨r4, q6, T⟩ := T
     simp only [R_Q26, le, List.cons_append, List.nil_append] at q6
     replace F := aa c5 <| aa q6 <| F
     by_cases c7 : r4 = true
     · replace T := T.1 c7
       obtain ⟨p8, p9, p10, pp5, q11, T⟩ := T
       have o11 := H_slices_ContainsFunc_api_Attr_api_Attr_parse_attrs_1  p10 q11
       try simp only [le] at o11
       replace F := aa c7 <| aa p8 <| aa p9 <| aa p10 <| aa o11 <| F
       by_cases c12 : ((l_.take (i1.toNat)).any pp5) = true
       · replace T := T.1 c12
         obtain rfl := T
         exact fi (aa c12 <| F)
       · replace T := T.2 c12
         replace c12 := Bool.eq_false_iff.2 c12
         obtain ⟨p13, T⟩ := T
         replace F := aa c12 <| aa p13.wrap <| F
         exact lo F T
     · replace T := T.2 c7
       replace c7 := Bool.eq_false_iff.2 c7
       obtain rfl := T
       exact fi (aa c7 <| F)
   · replace T := T.2 c5
     replace c5 := Bool.eq_false_iff.2 c5
     obtain rfl := T
     exact fi (aa c5 <| F)
 · replace T := T.2 c1
   obtain rfl := T
   exact fi (aa (eq_false c1) <| F)
theorem Q82_tree (l_ : List Attr) (r : Bool) (T :
  At_Q121 l_ 0 r) : R_Q82 l_ r := by
 intro S
 rw [call_code sp_Q82 _ _ rfl]
 have F := U_Q82
 exact lo F T
theorem sp_Q121 : SP 121 = some (.code sc_Q121) := SPof_code rfl Tryz.func121 comp_Q121
theorem Q121_tree (b : Attr) (c0_ : Attr) (r : Bool) (T :
  (decide (b.Name = c0_.Name)) = r) : R_Q121 b c0_ r := by
 intro S n1 t1 H0
 have hb0 := H0
 obtain ⟨w0, hB0⟩ := take_some hb0
 have hn0 := o_getBox_lt hB0
 rw [call_code sp_Q121 _ _ rfl]
 have F := U_Q121
 obtain rfl := T
 exact fi (aa hB0 <| aa hn0 <| F)
theorem sp_Q48 : SP 48 = some (.code sc_Q48) := SPof_code rfl Tryz.func48 comp_Q48
theorem Q48_tree (kind : Int) (r : Int) (T :
  ((1 ≤ kind) →
  ((kind ≤ 4) →
   0 = r) ∧
  (¬ (kind ≤ 4) →
   ((kind = 5) →
    (-1) = r) ∧
   (¬ (kind = 5) →
    ((kind = 6) →
     (-1) = r) ∧
    (¬ (kind = 6) →
     ((kind = 8) →
      1 = r) ∧
     (¬ (kind = 8) →
      ((kind = 9) →
       1 = r) ∧
      (¬ (kind = 9) →
       ((kind = 10) →
        3 = r) ∧
       (¬ (kind = 10) →
        ((kind = 7) →
         2 = r) ∧
        (¬ (kind = 7) →
         ((11 ≤ kind) →
          ((kind ≤ 23) →
           2 = r) ∧
          (¬ (kind ≤ 23) →
           (-2) = r)) ∧
         (¬ (11 ≤ kind) →
          (-2) = r))))))))) ∧
 (¬ (1 ≤ kind) →
  ((kind = 5) →
   (-1) = r) ∧
  (¬ (kind = 5) →
   ((kind = 6) →
    (-1) = r) ∧
   (¬ (kind = 6) →
    ((kind = 8) →
     1 = r) ∧
    (¬ (kind = 8) →
     ((kind = 9) →
      1 = r) ∧
     (¬ (kind = 9) →
      ((kind = 10) →
       3 = r) ∧
      (¬ (kind = 10) →
       ((kind = 7) →
        2 = r) ∧
       (¬ (kind = 7) →
        ((11 ≤ kind) →
         ((kind ≤ 23) →
          2 = r) ∧
         (¬ (kind ≤ 23) →
          (-2) = r)) ∧
        (¬ (11 ≤ kind) →
         (-2) = r))))))))) : R_Q48 kind r := by
 intro S
 rw [call_code sp_Q48 _ _ rfl]
 have F := U_Q48
 by_cases c1 : 1 ≤ kind
 · replace T := T.1 c1
   replace F := aa (eq_true c1) <| F
   by_cases c2 : kind ≤ 4
   · replace T := T.1 c2
     obtain rfl := T
     exact fi (aa (eq_true c2) <| F)
   · replace T := T.2 c2
     replace F := aa (eq_false c2) <| F
     by_cases c3 : kind = 5
     · replace T := T.1 c3
       obtain rfl := T
       exact fi (aa (eq_true c3) <| F)
     · replace T := T.2 c3
       replace F := aa (eq_false c3) <| F
       by_cases c4 : kind = 6
       · replace T := T.1 c4
         obtain rfl := T
         exact fi (aa (eq_true c4) <| F)
       · replace T := T.2 c4
         replace F := aa (eq_false c4) <| F
         by_cases c5 : kind = 8
         · replace T := T.1 c5
           obtain rfl := T
           exact fi (aa (eq_true c5) <| F)
         · replace T := T.2 c5
           replace F := aa (eq_false c5) <| F
           by_cases c6 : kind = 9
           · replace T := T.1 c6
             obtain rfl := T
             exact fi (aa (eq_true c6) <| F)
           · replace T := T.2 c6
             replace F := aa (eq_false c6) <| F
             by_cases c7 : kind = 10
             · replace T := T.1 c7
               obtain rfl := T
               exact fi (aa (eq_true c7) <| F)
             · replace T := T.2 c7
               replace F := aa (eq_false c7) <| F
               by_cases c8 : kind = 7
               · replace T := T.1 c8
                 obtain rfl := T
                 exact fi (aa (eq_true c8) <| F)
               · replace T := T.2 c8
                 replace F := aa (eq_false c8) <| F
                 by_cases c9 : 11 ≤ kind
                 · replace T := T.1 c9
                   replace F := aa (eq_true c9) <| F
                   by_cases c10 : kind ≤ 23
                   · replace T := T.1 c10
                     obtain rfl := T
                     exact fi (aa (eq_true c10) <| F)
                   · replace T := T.2 c10
                     obtain rfl := T
                     exact fi (aa (eq_false c10) <| F)
                 · replace T := T.2 c9
                   obtain rfl := T
                   exact fi (aa (eq_false c9) <| F)
 · replace T := T.2 c1
   replace F := aa (eq_false c1) <| F
   by_cases c11 : kind = 5
   · replace T := T.1 c11
     obtain rfl := T
     exact fi (aa (eq_true c11) <| F)
   · replace T := T.2 c11
     replace F := aa (eq_false c11) <| F
     by_cases c12 : kind = 6
     · replace T := T.1 c12
       obtain rfl := T
       exact fi (aa (eq_true c12) <| F)
     · replace T := T.2 c12
       replace F := aa (eq_false c12) <| F
       by_cases c13 : kind = 8
       · replace T := T.1 c13
         obtain rfl := T
         exact fi (aa (eq_true c13) <| F)
       · replace T := T.2 c13
         replace F := aa (eq_false c13) <| F
         by_cases c14 : kind = 9
         · replace T := T.1 c14
           obtain rfl := T
           exact fi (aa (eq_true c14) <| F)
         · replace T := T.2 c14
           replace F := aa (eq_false c14) <| F
           by_cases c15 : kind = 10
           · replace T := T.1 c15
             obtain rfl := T
             exact fi (aa (eq_true c15) <| F)
           · replace T := T.2 c15
             replace F := aa (eq_false c15) <| F
             by_cases c16 : kind = 7
             · replace T := T.1 c16
               obtain rfl := T
               exact fi (aa (eq_true c16) <| F)
             · replace T := T.2 c16
               replace F := aa (eq_false c16) <| F
               by_cases c17 : 11 ≤ kind
               · replace T := T.1 c17
                 replace F := aa (eq_true c17) <| F
                 by_cases c18 : kind ≤ 23
                 · replace T := T.1 c18
                   obtain rfl := T
                   exact fi (aa (eq_true c18) <| F)
                 · replace T := T.2 c18
                   obtain rfl := T
                   exact fi (aa (eq_false c18) <| F)
               · replace T := T.2 c17
                 obtain rfl := T
                 exact fi (aa (eq_false c17) <| F)
theorem sp_Q76 : SP 76 = some (.code sc_Q76) := SPof_code rfl Tryz.func76 comp_Q76
def At_Q76_1 (l_ : List Part) (i1 : Int) (r : Bool) : Prop := ∀ (S : Sto) (e : Nat → PV) (f : Fr), e 0 = .list 2 (l_.map ePart) false ∧ e 3 = .int .i64 i1 → k_Q76_1 SP (E SP (.loop b_Q76_1) ⟨e, f :: S⟩) = .ok (.v (.bool r)) S
def At_Q76_2 (l_ : List Part) (i1 : Int) (i5 : Int) (r : Bool) : Prop := ∀ (S : Sto) (e : Nat → PV) (f : Fr), e 0 = .list 2 (l_.map ePart) false ∧ e 3 = .int .i64 i1 ∧ e 4 = .int .i64 i5 → k_Q76_2 SP (E SP (.loop b_Q76_2) ⟨e, f :: S⟩) = .ok (.v (.bool r)) S
theorem At_Q76_1_step (l_ : List Part) (i1 : Int) (r : Bool) (T :
  ((i1 < (l_.length : Int)) →
  (0 ≤ i1) ∧
  ∃ (v2 : Part), (l_[i1.toNat]? = some v2) ∧
  ((v2.Ref = true) →
   ∃ (r3 : Bool), (R_Q78 v2.Text r3) ∧
   ((r3 = true) →
    (I64 (i1 + 1)) ∧
    At_Q76_1 l_ (i1 + 1) r) ∧
   (¬ (r3 = true) →
    false = r)) ∧
  (¬ (v2.Ref = true) →
   ((v2.Text = []) →
    false = r) ∧
   (¬ (v2.Text = []) →
    ((0 < i1) →
     (I64 (i1 - 1)) ∧
     (0 ≤ (i1 - 1)) ∧
     ∃ (v4 : Part), (l_[(i1 - 1).toNat]? = some v4) ∧
     ((v4.Ref = true) →
      At_Q76_2 l_ i1 0 r) ∧
     (¬ (v4.Ref = true) →
      false = r)) ∧
    (¬ (0 < i1) →
     At_Q76_2 l_ i1 0 r)))) ∧
 (¬ (i1 < (l_.length : Int)) →
  true = r)) : At_Q76_1 l_ i1 r := by
 intro S e f h
 unfold k_Q76_1
 rw [E_loop]
 have F := U_Q76
 replace F := aa h <| F
 by_cases c1 : i1 < (l_.length : Int)
 · replace T := T.1 c1
   obtain ⟨p2, v2, q3, T⟩ := T
   replace F := aa (eq_true c1) <| aa p2 <| aa q3 <| F
   by_cases c4 : v2.Ref = true
   · replace T := T.1 c4
     obtain ⟨r3, q5, T⟩ := T
     simp only [R_Q78, le, List.cons_append, List.nil_append] at q5
     replace F := aa c4 <| aa q5 <| F
     by_cases c6 : r3 = true
     · replace T := T.1 c6
       obtain ⟨p7, T⟩ := T
       replace F := aa c6 <| aa p7.wrap <| F
       exact lo F T
     · replace T := T.2 c6
       replace c6 := Bool.eq_false_iff.2 c6
       obtain rfl := T
       exact fi (aa c6 <| F)
   · replace T := T.2 c4
     replace c4 := Bool.eq_false_iff.2 c4
     replace F := aa c4 <| F
     by_cases c8 : v2.Text = []
     · replace T := T.1 c8
       obtain rfl := T
       exact fi (aa (eq_true c8) <| F)
     · replace T := T.2 c8
       replace F := aa (eq_false c8) <| F
       by_cases c9 : 0 < i1
       · replace T := T.1 c9
         obtain ⟨p10, p11, v4, q12, T⟩ := T
         replace F := aa (eq_true c9) <| aa p10.wrap <| aa p11 <| aa q12 <| F
         by_cases c13 : v4.Ref = true
         · replace T := T.1 c13
           replace F := aa c13 <| F
           exact lo F T
         · replace T := T.2 c13
           replace c13 := Bool.eq_false_iff.2 c13
           obtain rfl := T
           exact fi (aa c13 <| F)
       · replace T := T.2 c9
         replace F := aa (eq_false c9) <| F
         exact lo F T
 · replace T := T.2 c1
   obtain rfl := T
   exact fi (aa (eq_false c1) <| F)
theorem At_Q76_2_step (l_ : List Part) (i1 : Int) (i5 : Int) (r : Bool) (T :
  (0 ≤ i1) ∧
 ∃ (v6 : Part), (l_[i1.toNat]? = some v6) ∧
 ((i5 < (v6.Text.length : Int)) →
  (0 ≤ i5) ∧
  ∃ (b7 : UInt8), (v6.Text[i5.toNat]? = some b7) ∧
  (((b7.toNat : Int) < 32) →
   (((b7.toNat : Int) = 10) →
    (I64 (i5 + 1)) ∧
    At_Q76_2 l_ i1 (i5 + 1) r) ∧
   (¬ ((b7.toNat : Int) = 10) →
    false = r)) ∧
  (¬ ((b7.toNat : Int) < 32) →
   (I64 (i5 + 1)) ∧
   At_Q76_2 l_ i1 (i5 + 1) r)) ∧
 (¬ (i5 < (v6.Text.length : Int)) →
  (I64 (i1 + 1)) ∧
  At_Q76_1 l_ (i1 + 1) r)) : At_Q76_2 l_ i1 i5 r := by
 intro S e f h
 unfold k_Q76_2
 rw [E_loop]
 have F := U_Q76
 obtain ⟨p1, v6, q2, T⟩ := T
 replace F := aa h <| aa p1 <| aa q2 <| F
 by_cases c3 : i5 < (v6.Text.length : Int)
 · replace T := T.1 c3
   obtain ⟨p4, b7, q5, T⟩ := T
   replace F := aa (eq_true c3) <| aa p4 <| aa q5 <| F
   by_cases c6 : (b7.toNat : Int) < 32
   · replace T := T.1 c6
     replace F := aa (eq_true c6) <| F
     by_cases c7 : (b7.toNat : Int) = 10
     · replace T := T.1 c7
       obtain ⟨p8, T⟩ := T
       replace F := aa (eq_true c7) <| aa p8.wrap <| F
       exact lo F T
     · replace T := T.2 c7
       obtain rfl := T
       exact fi (aa (eq_false c7) <| F)
   · replace T := T.2 c6
     obtain ⟨p9, T⟩ := T
     replace F := aa (eq_false c6) <| aa p9.wrap <| F
     exact lo F T
 · replace T := T.2 c3
   obtain ⟨p10, T⟩ := T
   replace F := aa (eq_false c3) <| aa p10.wrap <| F
   exact lo F T
theorem Q76_tree (l_ : List Part) (r : Bool) (T :
  At_Q76_1 l_ 0 r) : R_Q76 l_ r := by
 intro S
 rw [call_code sp_Q76 _ _ rfl]
 have F := U_Q76
 exact lo F T
theorem sp_Q49 : SP 49 = some (.code sc_Q49) := SPof_code rfl Tryz.func49 comp_Q49
theorem Q49_tree (n : Node) (r : Bool) (T :
  ((n.Kind = 1) →
  ((n.Text = []) →
   ((0 < (n.Parts.length : Int)) →
    false = r) ∧
   (¬ (0 < (n.Parts.length : Int)) →
    (decide (0 ≤ n.Num)) = r)) ∧
  (¬ (n.Text = []) →
   false = r)) ∧
 (¬ (n.Kind = 1) →
  ((n.Kind = 3) →
   ((n.Text = []) →
    ((0 < (n.Parts.length : Int)) →
     false = r) ∧
    (¬ (0 < (n.Parts.length : Int)) →
     ((n.Num = 0) →
      true = r) ∧
     (¬ (n.Num = 0) →
      (decide (n.Num = 1)) = r))) ∧
   (¬ (n.Text = []) →
    false = r)) ∧
  (¬ (n.Kind = 3) →
   ((n.Num = 0) →
    ((n.Kind = 4) →
     ((0 < (n.Parts.length : Int)) →
      false = r) ∧
     (¬ (0 < (n.Parts.length : Int)) →
      ∃ (r1 : Int), (R_Q77 n.Text 0 r1) ∧
      (0 ≤ r1) ∧ (r1.toNat ≤ n.Text.length) ∧
      ∃ (r2 : Bool), (R_Q78 n.Text r2) ∧
      ((r2 = true) →
       (((n.Text.take (r1.toNat)) = [116, 114, 117, 101]) →
        false = r) ∧
       (¬ ((n.Text.take (r1.toNat)) = [116, 114, 117, 101]) →
        (!(decide ((n.Text.take (r1.toNat)) = [102, 97, 108, 115, 101]))) = r)) ∧
      (¬ (r2 = true) →
       false = r))) ∧
    (¬ (n.Kind = 4) →
     ((n.Kind = 5) →
      ((0 < (n.Parts.length : Int)) →
       false = r) ∧
      (¬ (0 < (n.Parts.length : Int)) →
       ∃ (r3 : Bool), (R_Q79 n.Text r3) ∧
       ((r3 = true) →
        ((n.Text = [116, 114, 117, 101]) →
         false = r) ∧
        (¬ (n.Text = [116, 114, 117, 101]) →
         (!(decide (n.Text = [102, 97, 108, 115, 101]))) = r)) ∧
       (¬ (r3 = true) →
        false = r))) ∧
     (¬ (n.Kind = 5) →
      ((n.Text = []) →
       ((n.Kind = 2) →
        ∃ (r4 : Bool), (R_Q76 n.Parts r4) ∧
        r4 = r) ∧
       (¬ (n.Kind = 2) →
        ((0 < (n.Parts.length : Int)) →
         false = r) ∧
        (¬ (0 < (n.Parts.length : Int)) →
         true = r))) ∧
      (¬ (n.Text = []) →
       false = r)))) ∧
   (¬ (n.Num = 0) →
    false = r)))) : R_Q49 n r := by
 intro S
 rw [call_code sp_Q49 _ _ rfl]
 have F := U_Q49
 by_cases c1 : n.Kind = 1
 · replace T := T.1 c1
   have d2 : ¬ (n.Kind = 4) := fun h => absurd (c1.symm.trans h) (by decide)
   have d3 : ¬ (n.Kind = 5) := fun h => absurd (c1.symm.trans h) (by decide)
   replace F := aa (eq_true c1) <| aa (eq_false d2) <| aa (eq_false d3) <| F
   by_cases c4 : n.Text = []
   · replace T := T.1 c4
     have d5 : ¬ (n.Kind = 2) := fun h => absurd (c1.symm.trans h) (by decide)
     replace F := aa (eq_true c4) <| aa (eq_false d5) <| F
     by_cases c6 : 0 < (n.Parts.length : Int)
     · replace T := T.1 c6
       obtain rfl := T
       exact fi (aa (eq_true c6) <| F)
     · replace T := T.2 c6
       obtain rfl := T
       exact fi (aa (eq_false c6) <| F)
   · replace T := T.2 c4
     obtain rfl := T
     exact fi (aa (eq_false c4) <| F)
 · replace T := T.2 c1
   replace F := aa (eq_false c1) <| F
   by_cases c7 : n.Kind = 3
   · replace T := T.1 c7
     have d8 : ¬ (n.Kind = 4) := fun h => absurd (c7.symm.trans h) (by decide)
     have d9 : ¬ (n.Kind = 5) := fun h => absurd (c7.symm.trans h) (by decide)
     replace F := aa (eq_true c7) <| aa (eq_false d8) <| aa (eq_false d9) <| F
     by_cases c10 : n.Text = []
     · replace T := T.1 c10
       have d11 : ¬ (n.Kind = 2) := fun h => absurd (c7.symm.trans h) (by decide)
       replace F := aa (eq_true c10) <| aa (eq_false d11) <| F
       by_cases c12 : 0 < (n.Parts.length : Int)
       · replace T := T.1 c12
         obtain rfl := T
         exact fi (aa (eq_true c12) <| F)
       · replace T := T.2 c12
         replace F := aa (eq_false c12) <| F
         by_cases c13 : n.Num = 0
         · replace T := T.1 c13
           obtain rfl := T
           exact fi (aa (eq_true c13) <| F)
         · replace T := T.2 c13
           obtain rfl := T
           exact fi (aa (eq_false c13) <| F)
     · replace T := T.2 c10
       obtain rfl := T
       exact fi (aa (eq_false c10) <| F)
   · replace T := T.2 c7
     replace F := aa (eq_false c7) <| F
     by_cases c14 : n.Num = 0
     · replace T := T.1 c14
       replace F := aa (eq_true c14) <| F
       by_cases c15 : n.Kind = 4
       · replace T := T.1 c15
         have d16 : ¬ (n.Kind = 2) := fun h => absurd (c15.symm.trans h) (by decide)
         replace F := aa (eq_true c15) <| aa (eq_false d16) <| F
         by_cases c17 : 0 < (n.Parts.length : Int)
         · replace T := T.1 c17
           obtain rfl := T
           exact fi (aa (eq_true c17) <| F)
         · replace T := T.2 c17
           obtain ⟨r1, q18, p19, p20, r2, q21, T⟩ := T
           simp only [R_Q77, le, List.cons_append, List.nil_append] at q18
           simp only [R_Q78, le, List.cons_append, List.nil_append] at q21
           replace F := aa (eq_false c17) <| aa q18 <| aa p19 <| aa p20 <| aa q21 <| F
           by_cases c22 : r2 = true
           · replace T := T.1 c22
             replace F := aa c22 <| F
             by_cases c23 : (n.Text.take (r1.toNat)) = [116, 114, 117, 101]
             · replace T := T.1 c23
               obtain rfl := T
               exact fi (aa (eq_true c23) <| F)
             · replace T := T.2 c23
               obtain rfl := T
               exact fi (aa (eq_false c23) <| F)
           · replace T := T.2 c22
             replace c22 := Bool.eq_false_iff.2 c22
             obtain rfl := T
             exact fi (aa c22 <| F)
       · replace T := T.2 c15
         replace F := aa (eq_false c15) <| F
         by_cases c24 : n.Kind = 5
         · replace T := T.1 c24
           have d25 : ¬ (n.Kind = 2) := fun h => absurd (c24.symm.trans h) (by decide)
           replace F := aa (eq_true c24) <| aa (eq_false d25) <| F
           by_cases c26 : 0 < (n.Parts.length : Int)
           · replace T := T.1 c26
             obtain rfl := T
             exact fi (aa (eq_true c26) <| F)
           · replace T := T.2 c26
             obtain ⟨r3, q27, T⟩ := T
             simp only [R_Q79, le, List.cons_append, List.nil_append] at q27
             replace F := aa (eq_false c26) <| aa q27 <| F
             by_cases c28 : r3 = true
             · replace T := T.1 c28
               replace F := aa c28 <| F
               by_cases c29 : n.Text = [116, 114, 117, 101]
               · replace T := T.1 c29
                 obtain rfl := T
                 exact fi (aa (eq_true c29) <| F)
               · replace T := T.2 c29
                 obtain rfl := T
                 exact fi (aa (eq_false c29) <| F)
             · replace T := T.2 c28
               replace c28 := Bool.eq_false_iff.2 c28
               obtain rfl := T
               exact fi (aa c28 <| F)
         · replace T := T.2 c24
           replace F := aa (eq_false c24) <| F
           by_cases c30 : n.Text = []
           · replace T := T.1 c30
             replace F := aa (eq_true c30) <| F
             by_cases c31 : n.Kind = 2
             · replace T := T.1 c31
               obtain ⟨r4, q32, rfl⟩ := T
               simp only [R_Q76, le, List.cons_append, List.nil_append] at q32
               exact fi (aa (eq_true c31) <| aa q32 <| F)
             · replace T := T.2 c31
               replace F := aa (eq_false c31) <| F
               by_cases c33 : 0 < (n.Parts.length : Int)
               · replace T := T.1 c33
                 obtain rfl := T
                 exact fi (aa (eq_true c33) <| F)
               · replace T := T.2 c33
                 obtain rfl := T
                 exact fi (aa (eq_false c33) <| F)
           · replace T := T.2 c30
             obtain rfl := T
             exact fi (aa (eq_false c30) <| F)
     · replace T := T.2 c14
       obtain rfl := T
       exact fi (aa (eq_false c14) <| F)
theorem sp_Q29 : SP 29 = some (.code sc_Q29) := SPof_code rfl Tryz.func29 comp_Q29
def At_Q29_1 (l_ : List Node) (i1 : Int) (l2 : List Int) (r : Bool) : Prop := ∀ (S : Sto) (e : Nat → PV) (f : Fr), e 0 = .list 5 (l_.map eNode) false ∧ e 3 = .sl 0 (.slot 3) 0 l2.length l2.length 0 false ∧ e 4 = .int .i64 i1 ∧ f.arr (.slot 3) = some ⟨1, l2.map eI, false, 0⟩ → k_Q29_1 SP (E SP (.loop b_Q29_1) ⟨e, f :: S⟩) = .ok (.v (.bool r)) S
def At_Q29_2 (l_ : List Node) (i1 : Int) (l2 : List Int) (v3 : Node) (i6 : Int) (r : Bool) : Prop := ∀ (S : Sto) (e : Nat → PV) (f : Fr), e 0 = .list 5 (l_.map eNode) false ∧ e 3 = .sl 0 (.slot 3) 0 l2.length l2.length 0 false ∧ e 4 = .int .i64 i1 ∧ e 5 = .ptr 0 5 0 ∧ e 6 = .int .i64 (v3.Kids.length : Int) ∧ e 7 = .int .i64 i6 ∧ f.box 5 = some [.int .i64 v3.Kind, .int .i64 v3.Num, .str v3.Text, .list 2 (v3.Parts.map ePart) false, .list 1 (v3.Kids.map eI) false] ∧ f.arr (.slot 3) = some ⟨1, l2.map eI, false, 0⟩ → k_Q29_2 SP (E SP (.loop b_Q29_2) ⟨e, f :: S⟩) = .ok (.v (.bool r)) S
def At_Q29_2b (l_ : List Node) (i1 : Int) (l2 : List Int) (v3 : Node) (r4 : Int) (i8 : Int) (r : Bool) : Prop := ∀ (S : Sto) (e : Nat → PV) (f : Fr), e 0 = .list 5 (l_.map eNode) false ∧ e 3 = .sl 0 (.slot 3) 0 l2.length l2.length 0 false ∧ e 4 = .int .i64 i1 ∧ e 5 = .ptr 0 5 0 ∧ e 6 = .int .i64 r4 ∧ e 7 = .int .i64 i8 ∧ f.box 5 = some [.int .i64 v3.Kind, .int .i64 v3.Num, .str v3.Text, .list 2 (v3.Parts.map ePart) false, .list 1 (v3.Kids.map eI) false] ∧ f.arr (.slot 3) = some ⟨1, l2.map eI, false, 0⟩ → k_Q29_2 SP (E SP (.loop b_Q29_2) ⟨e, f :: S⟩) = .ok (.v (.bool r)) S
def At_Q29_1b (l_ : List Node) (i11 : Int) (l12 : List Int) (r : Bool) : Prop := ∀ (S : Sto) (e : Nat → PV) (f : Fr), e 0 = .list 5 (l_.map eNode) false ∧ e 3 = .sl 0 (.slot 78) 0 l12.length l12.length 0 false ∧ e 4 = .int .i64 i11 ∧ f.arr (.slot 78) = some ⟨1, l12.map eI, true, 0⟩ → k_Q29_1 SP (E SP (.loop b_Q29_1) ⟨e, f :: S⟩) = .ok (.v (.bool r)) S
def At_Q29_2c (l_ : List Node) (i11 : Int) (l12 : List Int) (v15 : Node) (i18 : Int) (r : Bool) : Prop := ∀ (S : Sto) (e : Nat → PV) (f : Fr), e 0 = .list 5 (l_.map eNode) false ∧ e 3 = .sl 0 (.slot 78) 0 l12.length l12.length 0 false ∧ e 4 = .int .i64 i11 ∧ e 5 = .ptr 0 5 0 ∧ e 6 = .int .i64 (v15.Kids.length : Int) ∧ e 7 = .int .i64 i18 ∧ f.box 5 = some [.int .i64 v15.Kind, .int .i64 v15.Num, .str v15.Text, .list 2 (v15.Parts.map ePart) false, .list 1 (v15.Kids.map eI) false] ∧ f.arr (.slot 78) = some ⟨1, l12.map eI, true, 0⟩ → k_Q29_2 SP (E SP (.loop b_Q29_2) ⟨e, f :: S⟩) = .ok (.v (.bool r)) S
def At_Q29_2d (l_ : List Node) (i11 : Int) (l12 : List Int) (v15 : Node) (r16 : Int) (i20 : Int) (r : Bool) : Prop := ∀ (S : Sto) (e : Nat → PV) (f : Fr), e 0 = .list 5 (l_.map eNode) false ∧ e 3 = .sl 0 (.slot 78) 0 l12.length l12.length 0 false ∧ e 4 = .int .i64 i11 ∧ e 5 = .ptr 0 5 0 ∧ e 6 = .int .i64 r16 ∧ e 7 = .int .i64 i20 ∧ f.box 5 = some [.int .i64 v15.Kind, .int .i64 v15.Num, .str v15.Text, .list 2 (v15.Parts.map ePart) false, .list 1 (v15.Kids.map eI) false] ∧ f.arr (.slot 78) = some ⟨1, l12.map eI, true, 0⟩ → k_Q29_2 SP (E SP (.loop b_Q29_2) ⟨e, f :: S⟩) = .ok (.v (.bool r)) S
theorem At_Q29_1_step (l_ : List Node) (i1 : Int) (l2 : List Int) (r : Bool) (T :
  ((i1 < (l_.length : Int)) →
  (0 ≤ i1) ∧
  ∃ (v3 : Node), (l_[i1.toNat]? = some v3) ∧
  ∃ (r4 : Int), (R_Q48 v3.Kind r4) ∧
  ((r4 = (-1)) →
   (((v3.Kids.length : Int) < 0) →
    false = r) ∧
   (¬ ((v3.Kids.length : Int) < 0) →
    (((l2.length : Int) < (v3.Kids.length : Int)) →
     false = r) ∧
    (¬ ((l2.length : Int) < (v3.Kids.length : Int)) →
     ∃ (r5 : Bool), (R_Q49 v3 r5) ∧
     ((r5 = true) →
      At_Q29_2 l_ i1 l2 v3 0 r) ∧
     (¬ (r5 = true) →
      false = r)))) ∧
  (¬ (r4 = (-1)) →
   ((r4 < 0) →
    false = r) ∧
   (¬ (r4 < 0) →
    ((r4 = (v3.Kids.length : Int)) →
     (((l2.length : Int) < r4) →
      false = r) ∧
     (¬ ((l2.length : Int) < r4) →
      ∃ (r7 : Bool), (R_Q49 v3 r7) ∧
      ((r7 = true) →
       At_Q29_2b l_ i1 l2 v3 r4 0 r) ∧
      (¬ (r7 = true) →
       false = r))) ∧
    (¬ (r4 = (v3.Kids.length : Int)) →
     false = r)))) ∧
 (¬ (i1 < (l_.length : Int)) →
  (decide ((l2.length : Int) = 1)) = r)) : At_Q29_1 l_ i1 l2 r := by
 intro S e f h
 unfold k_Q29_1
 rw [E_loop]
 have F := U_Q29
 replace F := aa h <| F
 by_cases c1 : i1 < (l_.length : Int)
 · replace T := T.1 c1
   obtain ⟨p2, v3, q3, r4, q4, T⟩ := T
   simp only [R_Q48, le, List.cons_append, List.nil_append] at q4
   replace F := aa (eq_true c1) <| aa p2 <| aa q3 <| aa q4 <| F
   by_cases c5 : r4 = (-1)
   · replace T := T.1 c5
     replace F := aa (eq_true c5) <| F
     by_cases c6 : (v3.Kids.length : Int) < 0
     · replace T := T.1 c6
       obtain rfl := T
       exact fi (aa (eq_true c6) <| F)
     · replace T := T.2 c6
       replace F := aa (eq_false c6) <| F
       by_cases c7 : (l2.length : Int) < (v3.Kids.length : Int)
       · replace T := T.1 c7
         obtain rfl := T
         exact fi (aa (eq_true c7) <| F)
       · replace T := T.2 c7
         obtain ⟨r5, q8, T⟩ := T
         simp only [R_Q49, le, List.cons_append, List.nil_append] at q8
         replace F := aa (eq_false c7) <| aa q8 <| F
         by_cases c9 : r5 = true
         · replace T := T.1 c9
           replace F := aa c9 <| F
           exact lo F T
         · replace T := T.2 c9
           replace c9 := Bool.eq_false_iff.2 c9
           obtain rfl := T
           exact fi (aa c9 <| F)
   · replace T := T.2 c5
     replace F := aa (eq_false c5) <| F
     by_cases c10 : r4 < 0
     · replace T := T.1 c10
       obtain rfl := T
       exact fi (aa (eq_true c10) <| F)
     · replace T := T.2 c10
       replace F := aa (eq_false c10) <| F
       by_cases c11 : r4 = (v3.Kids.length : Int)
       · replace T := T.1 c11
         replace F := aa (eq_true c11) <| F
         by_cases c12 : (l2.length : Int) < r4
         · replace T := T.1 c12
           obtain rfl := T
           exact fi (aa (eq_true c12) <| F)
         · replace T := T.2 c12
           obtain ⟨r7, q13, T⟩ := T
           simp only [R_Q49, le, List.cons_append, List.nil_append] at q13
           replace F := aa (eq_false c12) <| aa q13 <| F
           by_cases c14 : r7 = true
           · replace T := T.1 c14
             replace F := aa c14 <| F
             exact lo F T
           · replace T := T.2 c14
             replace c14 := Bool.eq_false_iff.2 c14
             obtain rfl := T
             exact fi (aa c14 <| F)
       · replace T := T.2 c11
         obtain rfl := T
         exact fi (aa (eq_false c11) <| F)
 · replace T := T.2 c1
   obtain rfl := T
   exact fi (aa (eq_false c1) <| F)
theorem At_Q29_2_step (l_ : List Node) (i1 : Int) (l2 : List Int) (v3 : Node) (i6 : Int) (r : Bool) (T :
  ((i6 < (v3.Kids.length : Int)) →
  (I64 ((l2.length : Int) - (v3.Kids.length : Int))) ∧
  (I64 (((l2.length : Int) - (v3.Kids.length : Int)) + i6)) ∧
  (0 ≤ (((l2.length : Int) - (v3.Kids.length : Int)) + i6)) ∧ ((((l2.length : Int) - (v3.Kids.length : Int)) + i6).toNat < l2.length) ∧
  ∃ (v9 : Int), (l2[(((l2.length : Int) - (v3.Kids.length : Int)) + i6).toNat]? = some v9) ∧
  (0 ≤ i6) ∧
  ∃ (v10 : Int), (v3.Kids[i6.toNat]? = some v10) ∧
  ((v9 = v10) →
   (I64 (i6 + 1)) ∧
   At_Q29_2 l_ i1 l2 v3 (i6 + 1) r) ∧
  (¬ (v9 = v10) →
   false = r)) ∧
 (¬ (i6 < (v3.Kids.length : Int)) →
  (I64 ((l2.length : Int) - (v3.Kids.length : Int))) ∧
  (I64 ((l2.length : Int) - (v3.Kids.length : Int))) ∧
  (0 ≤ ((l2.length : Int) - (v3.Kids.length : Int))) ∧ (((l2.length : Int) - (v3.Kids.length : Int)).toNat ≤ l2.length) ∧
  (bigRow (((l2.length : Int) - (v3.Kids.length : Int)).toNat + 1) 8) ∧
  (I64 (i1 + 1)) ∧
  At_Q29_1b l_ (i1 + 1) ((l2.take (((l2.length : Int) - (v3.Kids.length : Int)).toNat)) ++ [i1]) r)) : At_Q29_2 l_ i1 l2 v3 i6 r := by
 intro S e f h
 unfold k_Q29_2
 rw [E_loop]
 have F := U_Q29
 replace F := aa h <| F
 by_cases c1 : i6 < (v3.Kids.length : Int)
 · replace T := T.1 c1
   obtain ⟨p2, p3, p4, p5, v9, q6, p7, v10, q8, T⟩ := T
   replace F := aa (eq_true c1) <| aa p2.wrap <| aa p3.wrap <| aa p4 <| aa p5 <| aa q6 <| aa p7 <| aa q8 <| F
   by_cases c9 : v9 = v10
   · replace T := T.1 c9
     obtain ⟨p10, T⟩ := T
     replace F := aa (eq_true c9) <| aa p10.wrap <| F
     exact lo F T
   · replace T := T.2 c9
     obtain rfl := T
     exact fi (aa (eq_false c9) <| F)
 · replace T := T.2 c1
   obtain ⟨p11, p12, p13, p14, p15, p16, T⟩ := T
   simp only [bigRow] at p15
   replace F := aa (eq_false c1) <| aa p11.wrap <| aa p12.wrap <| aa p13 <| aa p14 <| aa p15 <| aa p16.wrap <| F
   exact lo F T
theorem At_Q29_2b_step (l_ : List Node) (i1 : Int) (l2 : List Int) (v3 : Node) (r4 : Int) (i8 : Int) (r : Bool) (T :
  ((i8 < r4) →
  (I64 ((l2.length : Int) - r4)) ∧
  (I64 (((l2.length : Int) - r4) + i8)) ∧
  (0 ≤ (((l2.length : Int) - r4) + i8)) ∧ ((((l2.length : Int) - r4) + i8).toNat < l2.length) ∧
  ∃ (v13 : Int), (l2[(((l2.length : Int) - r4) + i8).toNat]? = some v13) ∧
  (0 ≤ i8) ∧
  ∃ (v14 : Int), (v3.Kids[i8.toNat]? = some v14) ∧
  ((v13 = v14) →
   (I64 (i8 + 1)) ∧
   At_Q29_2b l_ i1 l2 v3 r4 (i8 + 1) r) ∧
  (¬ (v13 = v14) →
   false = r)) ∧
 (¬ (i8 < r4) →
  (I64 ((l2.length : Int) - r4)) ∧
  (I64 ((l2.length : Int) - r4)) ∧
  (0 ≤ ((l2.length : Int) - r4)) ∧ (((l2.length : Int) - r4).toNat ≤ l2.length) ∧
  (bigRow (((l2.length : Int) - r4).toNat + 1) 8) ∧
  (I64 (i1 + 1)) ∧
  At_Q29_1b l_ (i1 + 1) ((l2.take (((l2.length : Int) - r4).toNat)) ++ [i1]) r)) : At_Q29_2b l_ i1 l2 v3 r4 i8 r := by
 intro S e f h
 unfold k_Q29_2
 rw [E_loop]
 have F := U_Q29
 replace F := aa h <| F
 by_cases c1 : i8 < r4
 · replace T := T.1 c1
   obtain ⟨p2, p3, p4, p5, v13, q6, p7, v14, q8, T⟩ := T
   replace F := aa (eq_true c1) <| aa p2.wrap <| aa p3.wrap <| aa p4 <| aa p5 <| aa q6 <| aa p7 <| aa q8 <| F
   by_cases c9 : v13 = v14
   · replace T := T.1 c9
     obtain ⟨p10, T⟩ := T
     replace F := aa (eq_true c9) <| aa p10.wrap <| F
     exact lo F T
   · replace T := T.2 c9
     obtain rfl := T
     exact fi (aa (eq_false c9) <| F)
 · replace T := T.2 c1
   obtain ⟨p11, p12, p13, p14, p15, p16, T⟩ := T
   simp only [bigRow] at p15
   replace F := aa (eq_false c1) <| aa p11.wrap <| aa p12.wrap <| aa p13 <| aa p14 <| aa p15 <| aa p16.wrap <| F
   exact lo F T
theorem At_Q29_1b_step (l_ : List Node) (i11 : Int) (l12 : List Int) (r : Bool) (T :
  ((i11 < (l_.length : Int)) →
  (0 ≤ i11) ∧
  ∃ (v15 : Node), (l_[i11.toNat]? = some v15) ∧
  ∃ (r16 : Int), (R_Q48 v15.Kind r16) ∧
  ((r16 = (-1)) →
   (((v15.Kids.length : Int) < 0) →
    false = r) ∧
   (¬ ((v15.Kids.length : Int) < 0) →
    (((l12.length : Int) < (v15.Kids.length : Int)) →
     false = r) ∧
    (¬ ((l12.length : Int) < (v15.Kids.length : Int)) →
     ∃ (r17 : Bool), (R_Q49 v15 r17) ∧
     ((r17 = true) →
      At_Q29_2c l_ i11 l12 v15 0 r) ∧
     (¬ (r17 = true) →
      false = r)))) ∧
  (¬ (r16 = (-1)) →
   ((r16 < 0) →
    false = r) ∧
   (¬ (r16 < 0) →
    ((r16 = (v15.Kids.length : Int)) →
     (((l12.length : Int) < r16) →
      false = r) ∧
     (¬ ((l12.length : Int) < r16) →
      ∃ (r19 : Bool), (R_Q49 v15 r19) ∧
      ((r19 = true) →
       At_Q29_2d l_ i11 l12 v15 r16 0 r) ∧
      (¬ (r19 = true) →
       false = r))) ∧
    (¬ (r16 = (v15.Kids.length : Int)) →
     false = r)))) ∧
 (¬ (i11 < (l_.length : Int)) →
  (decide ((l12.length : Int) = 1)) = r)) : At_Q29_1b l_ i11 l12 r := by
 intro S e f h
 unfold k_Q29_1
 rw [E_loop]
 have F := U_Q29
 replace F := aa h <| F
 by_cases c1 : i11 < (l_.length : Int)
 · replace T := T.1 c1
   obtain ⟨p2, v15, q3, r16, q4, T⟩ := T
   simp only [R_Q48, le, List.cons_append, List.nil_append] at q4
   replace F := aa (eq_true c1) <| aa p2 <| aa q3 <| aa q4 <| F
   by_cases c5 : r16 = (-1)
   · replace T := T.1 c5
     replace F := aa (eq_true c5) <| F
     by_cases c6 : (v15.Kids.length : Int) < 0
     · replace T := T.1 c6
       obtain rfl := T
       exact fi (aa (eq_true c6) <| F)
     · replace T := T.2 c6
       replace F := aa (eq_false c6) <| F
       by_cases c7 : (l12.length : Int) < (v15.Kids.length : Int)
       · replace T := T.1 c7
         obtain rfl := T
         exact fi (aa (eq_true c7) <| F)
       · replace T := T.2 c7
         obtain ⟨r17, q8, T⟩ := T
         simp only [R_Q49, le, List.cons_append, List.nil_append] at q8
         replace F := aa (eq_false c7) <| aa q8 <| F
         by_cases c9 : r17 = true
         · replace T := T.1 c9
           replace F := aa c9 <| F
           exact lo F T
         · replace T := T.2 c9
           replace c9 := Bool.eq_false_iff.2 c9
           obtain rfl := T
           exact fi (aa c9 <| F)
   · replace T := T.2 c5
     replace F := aa (eq_false c5) <| F
     by_cases c10 : r16 < 0
     · replace T := T.1 c10
       obtain rfl := T
       exact fi (aa (eq_true c10) <| F)
     · replace T := T.2 c10
       replace F := aa (eq_false c10) <| F
       by_cases c11 : r16 = (v15.Kids.length : Int)
       · replace T := T.1 c11
         replace F := aa (eq_true c11) <| F
         by_cases c12 : (l12.length : Int) < r16
         · replace T := T.1 c12
           obtain rfl := T
           exact fi (aa (eq_true c12) <| F)
         · replace T := T.2 c12
           obtain ⟨r19, q13, T⟩ := T
           simp only [R_Q49, le, List.cons_append, List.nil_append] at q13
           replace F := aa (eq_false c12) <| aa q13 <| F
           by_cases c14 : r19 = true
           · replace T := T.1 c14
             replace F := aa c14 <| F
             exact lo F T
           · replace T := T.2 c14
             replace c14 := Bool.eq_false_iff.2 c14
             obtain rfl := T
             exact fi (aa c14 <| F)
       · replace T := T.2 c11
         obtain rfl := T
         exact fi (aa (eq_false c11) <| F)
 · replace T := T.2 c1
   obtain rfl := T
   exact fi (aa (eq_false c1) <| F)
theorem At_Q29_2c_step (l_ : List Node) (i11 : Int) (l12 : List Int) (v15 : Node) (i18 : Int) (r : Bool) (T :
  ((i18 < (v15.Kids.length : Int)) →
  (I64 ((l12.length : Int) - (v15.Kids.length : Int))) ∧
  (I64 (((l12.length : Int) - (v15.Kids.length : Int)) + i18)) ∧
  (0 ≤ (((l12.length : Int) - (v15.Kids.length : Int)) + i18)) ∧ ((((l12.length : Int) - (v15.Kids.length : Int)) + i18).toNat < l12.length) ∧
  ∃ (v21 : Int), (l12[(((l12.length : Int) - (v15.Kids.length : Int)) + i18).toNat]? = some v21) ∧
  (0 ≤ i18) ∧
  ∃ (v22 : Int), (v15.Kids[i18.toNat]? = some v22) ∧
  ((v21 = v22) →
   (I64 (i18 + 1)) ∧
   At_Q29_2c l_ i11 l12 v15 (i18 + 1) r) ∧
  (¬ (v21 = v22) →
   false = r)) ∧
 (¬ (i18 < (v15.Kids.length : Int)) →
  (I64 ((l12.length : Int) - (v15.Kids.length : Int))) ∧
  (I64 ((l12.length : Int) - (v15.Kids.length : Int))) ∧
  (0 ≤ ((l12.length : Int) - (v15.Kids.length : Int))) ∧ (((l12.length : Int) - (v15.Kids.length : Int)).toNat ≤ l12.length) ∧
  (bigRow (((l12.length : Int) - (v15.Kids.length : Int)).toNat + 1) 8) ∧
  (I64 (i11 + 1)) ∧
  At_Q29_1b l_ (i11 + 1) ((l12.take (((l12.length : Int) - (v15.Kids.length : Int)).toNat)) ++ [i11]) r)) : At_Q29_2c l_ i11 l12 v15 i18 r := by
 intro S e f h
 unfold k_Q29_2
 rw [E_loop]
 have F := U_Q29
 replace F := aa h <| F
 by_cases c1 : i18 < (v15.Kids.length : Int)
 · replace T := T.1 c1
   obtain ⟨p2, p3, p4, p5, v21, q6, p7, v22, q8, T⟩ := T
   replace F := aa (eq_true c1) <| aa p2.wrap <| aa p3.wrap <| aa p4 <| aa p5 <| aa q6 <| aa p7 <| aa q8 <| F
   by_cases c9 : v21 = v22
   · replace T := T.1 c9
     obtain ⟨p10, T⟩ := T
     replace F := aa (eq_true c9) <| aa p10.wrap <| F
     exact lo F T
   · replace T := T.2 c9
     obtain rfl := T
     exact fi (aa (eq_false c9) <| F)
 · replace T := T.2 c1
   obtain ⟨p11, p12, p13, p14, p15, p16, T⟩ := T
   simp only [bigRow] at p15
   replace F := aa (eq_false c1) <| aa p11.wrap <| aa p12.wrap <| aa p13 <| aa p14 <| aa p15 <| aa p16.wrap <| F
   exact lo F T
theorem At_Q29_2d_step (l_ : List Node) (i11 : Int) (l12 : List Int) (v15 : Node) (r16 : Int) (i20 : Int) (r : Bool) (T :
  ((i20 < r16) →
  (I64 ((l12.length : Int) - r16)) ∧
  (I64 (((l12.length : Int) - r16) + i20)) ∧
  (0 ≤ (((l12.length : Int) - r16) + i20)) ∧ ((((l12.length : Int) - r16) + i20).toNat < l12.length) ∧
  ∃ (v23 : Int), (l12[(((l12.length : Int) - r16) + i20).toNat]? = some v23) ∧
  (0 ≤ i20) ∧
  ∃ (v24 : Int), (v15.Kids[i20.toNat]? = some v24) ∧
  ((v23 = v24) →
   (I64 (i20 + 1)) ∧
   At_Q29_2d l_ i11 l12 v15 r16 (i20 + 1) r) ∧
  (¬ (v23 = v24) →
   false = r)) ∧
 (¬ (i20 < r16) →
  (I64 ((l12.length : Int) - r16)) ∧
  (I64 ((l12.length : Int) - r16)) ∧
  (0 ≤ ((l12.length : Int) - r16)) ∧ (((l12.length : Int) - r16).toNat ≤ l12.length) ∧
  (bigRow (((l12.length : Int) - r16).toNat + 1) 8) ∧
  (I64 (i11 + 1)) ∧
  At_Q29_1b l_ (i11 + 1) ((l12.take (((l12.length : Int) - r16).toNat)) ++ [i11]) r)) : At_Q29_2d l_ i11 l12 v15 r16 i20 r := by
 intro S e f h
 unfold k_Q29_2
 rw [E_loop]
 have F := U_Q29
 replace F := aa h <| F
 by_cases c1 : i20 < r16
 · replace T := T.1 c1
   obtain ⟨p2, p3, p4, p5, v23, q6, p7, v24, q8, T⟩ := T
   replace F := aa (eq_true c1) <| aa p2.wrap <| aa p3.wrap <| aa p4 <| aa p5 <| aa q6 <| aa p7 <| aa q8 <| F
   by_cases c9 : v23 = v24
   · replace T := T.1 c9
     obtain ⟨p10, T⟩ := T
     replace F := aa (eq_true c9) <| aa p10.wrap <| F
     exact lo F T
   · replace T := T.2 c9
     obtain rfl := T
     exact fi (aa (eq_false c9) <| F)
 · replace T := T.2 c1
   obtain ⟨p11, p12, p13, p14, p15, p16, T⟩ := T
   simp only [bigRow] at p15
   replace F := aa (eq_false c1) <| aa p11.wrap <| aa p12.wrap <| aa p13 <| aa p14 <| aa p15 <| aa p16.wrap <| F
   exact lo F T
theorem Q29_tree (l_ : List Node) (r : Bool) (T :
  At_Q29_1 l_ 0 [] r) : R_Q29 l_ r := by
 intro S
 rw [call_code sp_Q29 _ _ rfl]
 have F := U_Q29
 exact lo F T
theorem sp_Q84 : SP 84 = some (.code sc_Q84) := SPof_code rfl Tryz.func84 comp_Q84
def At_Q84_1 (b : Block) (i1 : Int) (r : Bool) : Prop := ∀ (S : Sto) (e : Nat → PV) (f : Fr), e 2 = .ptr 0 2 0 ∧ e 5 = .int .i64 i1 ∧ f.box 2 = some [.int .i64 b.Kind, .str b.Label, .list 2 (b.Attrs.map eAttr) false, .list 4 (b.Blocks.map eBlock) false] → k_Q84_1 SP (E SP (.loop b_Q84_1) ⟨e, f :: S⟩) = .ok (.v (.bool r)) S
def At_Q84_2 (b : Block) (i1 : Int) (i7 : Int) (r : Bool) : Prop := ∀ (S : Sto) (e : Nat → PV) (f : Fr), e 2 = .ptr 0 2 0 ∧ e 5 = .int .i64 i1 ∧ e 6 = .int .i64 i7 ∧ f.box 2 = some [.int .i64 b.Kind, .str b.Label, .list 2 (b.Attrs.map eAttr) false, .list 4 (b.Blocks.map eBlock) false] → k_Q84_2 SP (E SP (.loop b_Q84_2) ⟨e, f :: S⟩) = .ok (.v (.bool r)) S
theorem At_Q84_1_step (b : Block) (i1 : Int) (r : Bool) (T :
  ((i1 < (b.Attrs.length : Int)) →
  (0 ≤ i1) ∧
  ∃ (v4 : Attr), (b.Attrs[i1.toNat]? = some v4) ∧
  ∃ (r5 : Bool), (R_Q79 v4.Name r5) ∧
  ((r5 = true) →
   ∃ (r6 : Bool), (R_Q29 v4.Expr r6) ∧
   ((r6 = true) →
    At_Q84_2 b i1 0 r) ∧
   (¬ (r6 = true) →
    false = r)) ∧
  (¬ (r5 = true) →
   false = r)) ∧
 (¬ (i1 < (b.Attrs.length : Int)) →
  (decide ((b.Blocks.length : Int) = 0)) = r)) : At_Q84_1 b i1 r := by
 intro S e f h
 unfold k_Q84_1
 rw [E_loop]
 have F := U_Q84
 replace F := aa h <| F
 by_cases c1 : i1 < (b.Attrs.length : Int)
 · replace T := T.1 c1
   obtain ⟨p2, v4, q3, r5, q4, T⟩ := T
   simp only [R_Q79, le, List.cons_append, List.nil_append] at q4
   replace F := aa (eq_true c1) <| aa p2 <| aa q3 <| aa q4 <| F
   by_cases c5 : r5 = true
   · replace T := T.1 c5
     obtain ⟨r6, q6, T⟩ := T
     simp only [R_Q29, le, List.cons_append, List.nil_append] at q6
     replace F := aa c5 <| aa q6 <| F
     by_cases c7 : r6 = true
     · replace T := T.1 c7
       replace F := aa c7 <| F
       exact lo F T
     · replace T := T.2 c7
       replace c7 := Bool.eq_false_iff.2 c7
       obtain rfl := T
       exact fi (aa c7 <| F)
   · replace T := T.2 c5
     replace c5 := Bool.eq_false_iff.2 c5
     obtain rfl := T
     exact fi (aa c5 <| F)
 · replace T := T.2 c1
   obtain rfl := T
   exact fi (aa (eq_false c1) <| F)
theorem At_Q84_2_step (b : Block) (i1 : Int) (i7 : Int) (r : Bool) (T :
  ((i7 < i1) →
  (0 ≤ i7) ∧
  ∃ (v8 : Attr), (b.Attrs[i7.toNat]? = some v8) ∧
  (0 ≤ i1) ∧
  ∃ (v9 : Attr), (b.Attrs[i1.toNat]? = some v9) ∧
  ((v8.Name = v9.Name) →
   false = r) ∧
  (¬ (v8.Name = v9.Name) →
   (I64 (i7 + 1)) ∧
   At_Q84_2 b i1 (i7 + 1) r)) ∧
 (¬ (i7 < i1) →
  (I64 (i1 + 1)) ∧
  At_Q84_1 b (i1 + 1) r)) : At_Q84_2 b i1 i7 r := by
 intro S e f h
 unfold k_Q84_2
 rw [E_loop]
 have F := U_Q84
 replace F := aa h <| F
 by_cases c1 : i7 < i1
 · replace T := T.1 c1
   obtain ⟨p2, v8, q3, p4, v9, q5, T⟩ := T
   replace F := aa (eq_true c1) <| aa p2 <| aa q3 <| aa p4 <| aa q5 <| F
   by_cases c6 : v8.Name = v9.Name
   · replace T := T.1 c6
     obtain rfl := T
     exact fi (aa (eq_true c6) <| F)
   · replace T := T.2 c6
     obtain ⟨p7, T⟩ := T
     replace F := aa (eq_false c6) <| aa p7.wrap <| F
     exact lo F T
 · replace T := T.2 c1
   obtain ⟨p8, T⟩ := T
   replace F := aa (eq_false c1) <| aa p8.wrap <| F
   exact lo F T
theorem Q84_tree (b : Block) (within : Bool) (r : Bool) (T :
  ((b.Kind < 1) →
  false = r) ∧
 (¬ (b.Kind < 1) →
  ((5 < b.Kind) →
   false = r) ∧
  (¬ (5 < b.Kind) →
   ((b.Kind = 2) →
    ((b.Label = []) →
     At_Q84_1 b 0 r) ∧
    (¬ (b.Label = []) →
     false = r)) ∧
   (¬ (b.Kind = 2) →
    ∃ (r2 : Bool), (R_Q122 b.Label r2) ∧
    ((r2 = true) →
     ((b.Kind = 5) →
      ((within = true) →
       false = r) ∧
      (¬ (within = true) →
       (((b.Attrs.length : Int) = 0) →
        ∃ (r3 : Bool), (R_Q53 b.Blocks true r3) ∧
        r3 = r) ∧
       (¬ ((b.Attrs.length : Int) = 0) →
        false = r))) ∧
     (¬ (b.Kind = 5) →
      At_Q84_1 b 0 r)) ∧
    (¬ (r2 = true) →
     false = r))))) : R_Q84 b within r := by
 intro S
 rw [call_code sp_Q84 _ _ rfl]
 have F := U_Q84
 by_cases c1 : b.Kind < 1
 · replace T := T.1 c1
   obtain rfl := T
   exact fi (aa (eq_true c1) <| F)
 · replace T := T.2 c1
   replace F := aa (eq_false c1) <| F
   by_cases c2 : 5 < b.Kind
   · replace T := T.1 c2
     obtain rfl := T
     exact fi (aa (eq_true c2) <| F)
   · replace T := T.2 c2
     replace F := aa (eq_false c2) <| F
     by_cases c3 : b.Kind = 2
     · replace T := T.1 c3
       replace F := aa (eq_true c3) <| F
       by_cases c4 : b.Label = []
       · replace T := T.1 c4
         have d5 : ¬ (b.Kind = 5) := fun h => absurd (c3.symm.trans h) (by decide)
         replace F := aa (eq_true c4) <| aa (eq_false d5) <| F
         exact lo F T
       · replace T := T.2 c4
         obtain rfl := T
         exact fi (aa (eq_false c4) <| F)
     · replace T := T.2 c3
       obtain ⟨r2, q6, T⟩ := T
       simp only [R_Q122, le, List.cons_append, List.nil_append] at q6
       replace F := aa (eq_false c3) <| aa q6 <| F
       by_cases c7 : r2 = true
       · replace T := T.1 c7
         replace F := aa c7 <| F
         by_cases c8 : b.Kind = 5
         · replace T := T.1 c8
           replace F := aa (eq_true c8) <| F
           by_cases c9 : within = true
           · replace T := T.1 c9
             obtain rfl := T
             exact fi (aa c9 <| F)
           · replace T := T.2 c9
             replace c9 := Bool.eq_false_iff.2 c9
             replace F := aa c9 <| F
             by_cases c10 : (b.Attrs.length : Int) = 0
             · replace T := T.1 c10
               obtain ⟨r3, q11, rfl⟩ := T
               simp only [R_Q53, le, List.cons_append, List.nil_append] at q11
               exact fi (aa (eq_true c10) <| aa q11 <| F)
             · replace T := T.2 c10
               obtain rfl := T
               exact fi (aa (eq_false c10) <| F)
         · replace T := T.2 c8
           replace F := aa (eq_false c8) <| F
           exact lo F T
       · replace T := T.2 c7
         replace c7 := Bool.eq_false_iff.2 c7
         obtain rfl := T
         exact fi (aa c7 <| F)
theorem sp_Q53 : SP 53 = some (.code sc_Q53) := SPof_code rfl Tryz.func53 comp_Q53
def At_Q53_1 (l_ : List Block) (within : Bool) (i1 : Int) (r : Bool) : Prop := ∀ (S : Sto) (e : Nat → PV) (f : Fr), e 0 = .list 4 (l_.map eBlock) false ∧ e 1 = .bool within ∧ e 5 = .int .i64 i1 → k_Q53_1 SP (E SP (.loop b_Q53_1) ⟨e, f :: S⟩) = .ok (.v (.bool r)) S
theorem At_Q53_1_step (l_ : List Block) (within : Bool) (i1 : Int) (r : Bool) (T :
  ((i1 < (l_.length : Int)) →
  (0 ≤ i1) ∧
  ∃ (v2 : Block), (l_[i1.toNat]? = some v2) ∧
  ∃ (r3 : Bool), (R_Q84 v2 within r3) ∧
  ((r3 = true) →
   (I64 (i1 + 1)) ∧
   At_Q53_1 l_ within (i1 + 1) r) ∧
  (¬ (r3 = true) →
   false = r)) ∧
 (¬ (i1 < (l_.length : Int)) →
  true = r)) : At_Q53_1 l_ within i1 r := by
 intro S e f h
 unfold k_Q53_1
 rw [E_loop]
 have F := U_Q53
 replace F := aa h <| F
 by_cases c1 : i1 < (l_.length : Int)
 · replace T := T.1 c1
   obtain ⟨p2, v2, q3, r3, q4, T⟩ := T
   simp only [R_Q84, le, List.cons_append, List.nil_append] at q4
   replace F := aa (eq_true c1) <| aa p2 <| aa q3 <| aa q4 <| F
   by_cases c5 : r3 = true
   · replace T := T.1 c5
     obtain ⟨p6, T⟩ := T
     replace F := aa c5 <| aa p6.wrap <| F
     exact lo F T
   · replace T := T.2 c5
     replace c5 := Bool.eq_false_iff.2 c5
     obtain rfl := T
     exact fi (aa c5 <| F)
 · replace T := T.2 c1
   obtain rfl := T
   exact fi (aa (eq_false c1) <| F)
theorem Q53_tree (l_ : List Block) (within : Bool) (r : Bool) (T :
  At_Q53_1 l_ within 0 r) : R_Q53 l_ within r := by
 intro S
 rw [call_code sp_Q53 _ _ rfl]
 have F := U_Q53
 exact lo F T
theorem sp_Q31 : SP 31 = some (.code sc_Q31) := SPof_code rfl Tryz.func31 comp_Q31
theorem Q31_tree (l_ : List Block) (r : Bool) (T :
  ∃ (r1 : Bool), (R_Q53 l_ false r1) ∧
 r1 = r) : R_Q31 l_ r := by
 intro S
 rw [call_code sp_Q31 _ _ rfl]
 have F := U_Q31
 obtain ⟨r1, q1, rfl⟩ := T
 simp only [R_Q53, le, List.cons_append, List.nil_append] at q1
 exact fi (aa q1 <| F)
theorem sp_Q27 : SP 27 = some (.code sc_Q27) := SPof_code rfl Tryz.func27 comp_Q27
def At_Q27_1 (l_ : List Node) (i1 : Int) (r : Bool) : Prop := ∀ (S : Sto) (e : Nat → PV) (f : Fr), e 0 = .list 5 (l_.map eNode) false ∧ e 3 = .int .i64 i1 → k_Q27_1 SP (E SP (.loop b_Q27_1) ⟨e, f :: S⟩) = .ok (.v (.bool r)) S
def At_Q27_2 (l_ : List Node) (i1 : Int) (i3 : Int) (r : Bool) : Prop := ∀ (S : Sto) (e : Nat → PV) (f : Fr), e 0 = .list 5 (l_.map eNode) false ∧ e 3 = .int .i64 i1 ∧ e 4 = .int .i64 i3 → k_Q27_2 SP (E SP (.loop b_Q27_2) ⟨e, f :: S⟩) = .ok (.v (.bool r)) S
theorem At_Q27_1_step (l_ : List Node) (i1 : Int) (r : Bool) (T :
  ((i1 < (l_.length : Int)) →
  ((i1 < 100) →
   (0 ≤ i1) ∧
   ∃ (v2 : Node), (l_[i1.toNat]? = some v2) ∧
   ((100 < (v2.Kids.length : Int)) →
    true = r) ∧
   (¬ (100 < (v2.Kids.length : Int)) →
    ((300 < (v2.Text.length : Int)) →
     true = r) ∧
    (¬ (300 < (v2.Text.length : Int)) →
     ((60 < (v2.Parts.length : Int)) →
      true = r) ∧
     (¬ (60 < (v2.Parts.length : Int)) →
      At_Q27_2 l_ i1 0 r)))) ∧
  (¬ (i1 < 100) →
   (decide (80 < (l_.length : Int))) = r)) ∧
 (¬ (i1 < (l_.length : Int)) →
  (decide (80 < (l_.length : Int))) = r)) : At_Q27_1 l_ i1 r := by
 intro S e f h
 unfold k_Q27_1
 rw [E_loop]
 have F := U_Q27
 replace F := aa h <| F
 by_cases c1 : i1 < (l_.length : Int)
 · replace T := T.1 c1
   replace F := aa (eq_true c1) <| F
   by_cases c2 : i1 < 100
   · replace T := T.1 c2
     obtain ⟨p3, v2, q4, T⟩ := T
     replace F := aa (eq_true c2) <| aa p3 <| aa q4 <| F
     by_cases c5 : 100 < (v2.Kids.length : Int)
     · replace T := T.1 c5
       obtain rfl := T
       exact fi (aa (eq_true c5) <| F)
     · replace T := T.2 c5
       replace F := aa (eq_false c5) <| F
       by_cases c6 : 300 < (v2.Text.length : Int)
       · replace T := T.1 c6
         obtain rfl := T
         exact fi (aa (eq_true c6) <| F)
       · replace T := T.2 c6
         replace F := aa (eq_false c6) <| F
         by_cases c7 : 60 < (v2.Parts.length : Int)
         · replace T := T.1 c7
           obtain rfl := T
           exact fi (aa (eq_true c7) <| F)
         · replace T := T.2 c7
           replace F := aa (eq_false c7) <| F
           exact lo F T
   · replace T := T.2 c2
     obtain rfl := T
     exact fi (aa (eq_false c2) <| F)
 · replace T := T.2 c1
   obtain rfl := T
   exact fi (aa (eq_false c1) <| F)
theorem At_Q27_2_step (l_ : List Node) (i1 : Int) (i3 : Int) (r : Bool) (T :
  (0 ≤ i1) ∧
 ∃ (v4 : Node), (l_[i1.toNat]? = some v4) ∧
 ((i3 < (v4.Parts.length : Int)) →
  (0 ≤ i3) ∧
  ∃ (v5 : Part), (v4.Parts[i3.toNat]? = some v5) ∧
  ((300 < (v5.Text.length : Int)) →
   true = r) ∧
  (¬ (300 < (v5.Text.length : Int)) →
   (I64 (i3 + 1)) ∧
   At_Q27_2 l_ i1 (i3 + 1) r)) ∧
 (¬ (i3 < (v4.Parts.length : Int)) →
  (I64 (i1 + 1)) ∧
  At_Q27_1 l_ (i1 + 1) r)) : At_Q27_2 l_ i1 i3 r := by
 intro S e f h
 unfold k_Q27_2
 rw [E_loop]
 have F := U_Q27
 obtain ⟨p1, v4, q2, T⟩ := T
 replace F := aa h <| aa p1 <| aa q2 <| F
 by_cases c3 : i3 < (v4.Parts.length : Int)
 · replace T := T.1 c3
   obtain ⟨p4, v5, q5, T⟩ := T
   replace F := aa (eq_true c3) <| aa p4 <| aa q5 <| F
   by_cases c6 : 300 < (v5.Text.length : Int)
   · replace T := T.1 c6
     obtain rfl := T
     exact fi (aa (eq_true c6) <| F)
   · replace T := T.2 c6
     obtain ⟨p7, T⟩ := T
     replace F := aa (eq_false c6) <| aa p7.wrap <| F
     exact lo F T
 · replace T := T.2 c3
   obtain ⟨p8, T⟩ := T
   replace F := aa (eq_false c3) <| aa p8.wrap <| F
   exact lo F T
theorem Q27_tree (l_ : List Node) (r : Bool) (T :
  At_Q27_1 l_ 0 r) : R_Q27 l_ r := by
 intro S
 rw [call_code sp_Q27 _ _ rfl]
 have F := U_Q27
 exact lo F T
theorem sp_Q28 : SP 28 = some (.code sc_Q28) := SPof_code rfl Tryz.func28 comp_Q28
def At_Q28_1 (l_ : List Block) (deep_ : Int) (i1 : Int) (r : Bool) : Prop := ∀ (S : Sto) (e : Nat → PV) (f : Fr), e 0 = .list 4 (l_.map eBlock) false ∧ e 1 = .int .i64 deep_ ∧ e 5 = .int .i64 i1 → k_Q28_1 SP (E SP (.loop b_Q28_1) ⟨e, f :: S⟩) = .ok (.v (.bool r)) S
def At_Q28_2 (l_ : List Block) (deep_ : Int) (i1 : Int) (i4 : Int) (r : Bool) : Prop := ∀ (S : Sto) (e : Nat → PV) (f : Fr), e 0 = .list 4 (l_.map eBlock) false ∧ e 1 = .int .i64 deep_ ∧ e 5 = .int .i64 i1 ∧ e 6 = .int .i64 i4 → k_Q28_2 SP (E SP (.loop b_Q28_2) ⟨e, f :: S⟩) = .ok (.v (.bool r)) S
theorem At_Q28_1_step (l_ : List Block) (deep_ : Int) (i1 : Int) (r : Bool) (T :
  ((i1 < (l_.length : Int)) →
  (0 ≤ i1) ∧
  ∃ (v2 : Block), (l_[i1.toNat]? = some v2) ∧
  ((100 < (v2.Label.length : Int)) →
   true = r) ∧
  (¬ (100 < (v2.Label.length : Int)) →
   ((30 < (v2.Attrs.length : Int)) →
    true = r) ∧
   (¬ (30 < (v2.Attrs.length : Int)) →
    (I64 (deep_ + 1)) ∧
    ∃ (r3 : Bool), (R_Q28 v2.Blocks (deep_ + 1) r3) ∧
    ((r3 = true) →
     true = r) ∧
    (¬ (r3 = true) →
     At_Q28_2 l_ deep_ i1 0 r)))) ∧
 (¬ (i1 < (l_.length : Int)) →
  false = r)) : At_Q28_1 l_ deep_ i1 r := by
 intro S e f h
 unfold k_Q28_1
 rw [E_loop]
 have F := U_Q28
 replace F := aa h <| F
 by_cases c1 : i1 < (l_.length : Int)
 · replace T := T.1 c1
   obtain ⟨p2, v2, q3, T⟩ := T
   replace F := aa (eq_true c1) <| aa p2 <| aa q3 <| F
   by_cases c4 : 100 < (v2.Label.length : Int)
   · replace T := T.1 c4
     obtain rfl := T
     exact fi (aa (eq_true c4) <| F)
   · replace T := T.2 c4
     replace F := aa (eq_false c4) <| F
     by_cases c5 : 30 < (v2.Attrs.length : Int)
     · replace T := T.1 c5
       obtain rfl := T
       exact fi (aa (eq_true c5) <| F)
     · replace T := T.2 c5
       obtain ⟨p6, r3, q7, T⟩ := T
       simp only [R_Q28, le, List.cons_append, List.nil_append] at q7
       replace F := aa (eq_false c5) <| aa p6.wrap <| aa q7 <| F
       by_cases c8 : r3 = true
       · replace T := T.1 c8
         obtain rfl := T
         exact fi (aa c8 <| F)
       · replace T := T.2 c8
         replace c8 := Bool.eq_false_iff.2 c8
         replace F := aa c8 <| F
         exact lo F T
 · replace T := T.2 c1
   obtain rfl := T
   exact fi (aa (eq_false c1) <| F)
theorem At_Q28_2_step (l_ : List Block) (deep_ : Int) (i1 : Int) (i4 : Int) (r : Bool) (T :
  (0 ≤ i1) ∧
 ∃ (v5 : Block), (l_[i1.toNat]? = some v5) ∧
 ((i4 < (v5.Attrs.length : Int)) →
  (0 ≤ i4) ∧
  ∃ (v6 : Attr), (v5.Attrs[i4.toNat]? = some v6) ∧
  ((100 < (v6.Name.length : Int)) →
   true = r) ∧
  (¬ (100 < (v6.Name.length : Int)) →
   ∃ (r7 : Bool), (R_Q27 v6.Expr r7) ∧
   ((r7 = true) →
    true = r) ∧
   (¬ (r7 = true) →
    (I64 (i4 + 1)) ∧
    At_Q28_2 l_ deep_ i1 (i4 + 1) r))) ∧
 (¬ (i4 < (v5.Attrs.length : Int)) →
  (I64 (i1 + 1)) ∧
  At_Q28_1 l_ deep_ (i1 + 1) r)) : At_Q28_2 l_ deep_ i1 i4 r := by
 intro S e f h
 unfold k_Q28_2
 rw [E_loop]
 have F := U_Q28
 obtain ⟨p1, v5, q2, T⟩ := T
 replace F := aa h <| aa p1 <| aa q2 <| F
 by_cases c3 : i4 < (v5.Attrs.length : Int)
 · replace T := T.1 c3
   obtain ⟨p4, v6, q5, T⟩ := T
   replace F := aa (eq_true c3) <| aa p4 <| aa q5 <| F
   by_cases c6 : 100 < (v6.Name.length : Int)
   · replace T := T.1 c6
     obtain rfl := T
     exact fi (aa (eq_true c6) <| F)
   · replace T := T.2 c6
     obtain ⟨r7, q7, T⟩ := T
     simp only [R_Q27, le, List.cons_append, List.nil_append] at q7
     replace F := aa (eq_false c6) <| aa q7 <| F
     by_cases c8 : r7 = true
     · replace T := T.1 c8
       obtain rfl := T
       exact fi (aa c8 <| F)
     · replace T := T.2 c8
       replace c8 := Bool.eq_false_iff.2 c8
       obtain ⟨p9, T⟩ := T
       replace F := aa c8 <| aa p9.wrap <| F
       exact lo F T
 · replace T := T.2 c3
   obtain ⟨p10, T⟩ := T
   replace F := aa (eq_false c3) <| aa p10.wrap <| F
   exact lo F T
theorem Q28_tree (l_ : List Block) (deep_ : Int) (r : Bool) (T :
  ((20 < (l_.length : Int)) →
  true = r) ∧
 (¬ (20 < (l_.length : Int)) →
  ((6 < deep_) →
   true = r) ∧
  (¬ (6 < deep_) →
   At_Q28_1 l_ deep_ 0 r))) : R_Q28 l_ deep_ r := by
 intro S
 rw [call_code sp_Q28 _ _ rfl]
 have F := U_Q28
 by_cases c1 : 20 < (l_.length : Int)
 · replace T := T.1 c1
   obtain rfl := T
   exact fi (aa (eq_true c1) <| F)
 · replace T := T.2 c1
   replace F := aa (eq_false c1) <| F
   by_cases c2 : 6 < deep_
   · replace T := T.1 c2
     obtain rfl := T
     exact fi (aa (eq_true c2) <| F)
   · replace T := T.2 c2
     replace F := aa (eq_false c2) <| F
     exact lo F T
theorem sp_Q10 : SP 10 = some (.code sc_Q10) := SPof_code rfl Tryz.func10 comp_Q10
theorem Q10_tree (l_ : List Node) (b : List Block) (r : Bool) (T :
  ∃ (r1 : Bool), (R_Q27 l_ r1) ∧
 ((r1 = true) →
  ∃ (r2 : Bool), (R_Q15 r2) ∧
  r2 = r) ∧
 (¬ (r1 = true) →
  ∃ (r3 : Bool), (R_Q28 b 0 r3) ∧
  ((r3 = true) →
   ∃ (r4 : Bool), (R_Q15 r4) ∧
   r4 = r) ∧
  (¬ (r3 = true) →
   ∃ (r5 : Bool), (R_Q26 l_ r5) ∧
   ∃ (r6 : Bool), (R_Q29 l_ r6) ∧
   ((r5 = r6) →
    ∃ (r7 : Bool), (R_Q30 b r7) ∧
    ∃ (r8 : Bool), (R_Q31 b r8) ∧
    ((r7 = r8) →
     ∃ (r9 : Bool), (R_Q15 r9) ∧
     r9 = r) ∧
    (¬ (r7 = r8) →
     false = r)) ∧
   (¬ (r5 = r6) →
    false = r)))) : R_Q10 l_ b r := by
 intro S
 rw [call_code sp_Q10 _ _ rfl]
 have F := U_Q10
 obtain ⟨r1, q1, T⟩ := T
 simp only [R_Q27, le, List.cons_append, List.nil_append] at q1
 replace F := aa q1 <| F
 by_cases c2 : r1 = true
 · replace T := T.1 c2
   obtain ⟨r2, q3, rfl⟩ := T
   simp only [R_Q15, le, List.cons_append, List.nil_append] at q3
   exact fi (aa c2 <| aa q3 <| F)
 · replace T := T.2 c2
   replace c2 := Bool.eq_false_iff.2 c2
   obtain ⟨r3, q4, T⟩ := T
   simp only [R_Q28, le, List.cons_append, List.nil_append] at q4
   replace F := aa c2 <| aa q4 <| F
   by_cases c5 : r3 = true
   · replace T := T.1 c5
     obtain ⟨r4, q6, rfl⟩ := T
     simp only [R_Q15, le, List.cons_append, List.nil_append] at q6
     exact fi (aa c5 <| aa q6 <| F)
   · replace T := T.2 c5
     replace c5 := Bool.eq_false_iff.2 c5
     obtain ⟨r5, q7, r6, q8, T⟩ := T
     simp only [R_Q26, le, List.cons_append, List.nil_append] at q7
     simp only [R_Q29, le, List.cons_append, List.nil_append] at q8
     replace F := aa c5 <| aa q7 <| aa q8 <| F
     by_cases c9 : r5 = r6
     · replace T := T.1 c9
       obtain ⟨r7, q10, r8, q11, T⟩ := T
       simp only [R_Q30, le, List.cons_append, List.nil_append] at q10
       simp only [R_Q31, le, List.cons_append, List.nil_append] at q11
       replace F := aa c9 <| aa q10 <| aa q11 <| F
       by_cases c12 : r7 = r8
       · replace T := T.1 c12
         obtain ⟨r9, q13, rfl⟩ := T
         simp only [R_Q15, le, List.cons_append, List.nil_append] at q13
         exact fi (aa c12 <| aa q13 <| F)
       · replace T := T.2 c12
         obtain rfl := T
         exact fi (aa (eq_false c12) <| F)
     · replace T := T.2 c9
       obtain rfl := T
       exact fi (aa (eq_false c9) <| F)
theorem sp_Q73 : SP 73 = some (.code sc_Q73) := SPof_code rfl Tryz.func73 comp_Q73
theorem Q73_tree (kind : Int) (r : Int) (T :
  ((kind < 1) →
  (-2) = r) ∧
 (¬ (kind < 1) →
  ((23 < kind) →
   (-2) = r) ∧
  (¬ (23 < kind) →
   ((kind ≤ 4) →
    0 = r) ∧
   (¬ (kind ≤ 4) →
    ((kind = 5) →
     (-1) = r) ∧
    (¬ (kind = 5) →
     ((kind = 6) →
      (-1) = r) ∧
     (¬ (kind = 6) →
      ((kind = 8) →
       1 = r) ∧
      (¬ (kind = 8) →
       ((kind = 9) →
        1 = r) ∧
       (¬ (kind = 9) →
        ((kind = 10) →
         3 = r) ∧
        (¬ (kind = 10) →
         2 = r))))))))) : R_Q73 kind r := by
 intro S
 rw [call_code sp_Q73 _ _ rfl]
 have F := U_Q73
 by_cases c1 : kind < 1
 · replace T := T.1 c1
   obtain rfl := T
   exact fi (aa (eq_true c1) <| F)
 · replace T := T.2 c1
   replace F := aa (eq_false c1) <| F
   by_cases c2 : 23 < kind
   · replace T := T.1 c2
     obtain rfl := T
     exact fi (aa (eq_true c2) <| F)
   · replace T := T.2 c2
     replace F := aa (eq_false c2) <| F
     by_cases c3 : kind ≤ 4
     · replace T := T.1 c3
       obtain rfl := T
       exact fi (aa (eq_true c3) <| F)
     · replace T := T.2 c3
       replace F := aa (eq_false c3) <| F
       by_cases c4 : kind = 5
       · replace T := T.1 c4
         obtain rfl := T
         exact fi (aa (eq_true c4) <| F)
       · replace T := T.2 c4
         replace F := aa (eq_false c4) <| F
         by_cases c5 : kind = 6
         · replace T := T.1 c5
           obtain rfl := T
           exact fi (aa (eq_true c5) <| F)
         · replace T := T.2 c5
           replace F := aa (eq_false c5) <| F
           by_cases c6 : kind = 8
           · replace T := T.1 c6
             obtain rfl := T
             exact fi (aa (eq_true c6) <| F)
           · replace T := T.2 c6
             replace F := aa (eq_false c6) <| F
             by_cases c7 : kind = 9
             · replace T := T.1 c7
               obtain rfl := T
               exact fi (aa (eq_true c7) <| F)
             · replace T := T.2 c7
               replace F := aa (eq_false c7) <| F
               by_cases c8 : kind = 10
               · replace T := T.1 c8
                 obtain rfl := T
                 exact fi (aa (eq_true c8) <| F)
               · replace T := T.2 c8
                 obtain rfl := T
                 exact fi (aa (eq_false c8) <| F)
theorem sp_Q114 : SP 114 = some (.code sc_Q114) := SPof_code rfl Tryz.func114 comp_Q114
theorem Q114_tree (s : List UInt8) (r : Bool) (T :
  ((s = [116, 114, 117, 101]) →
  true = r) ∧
 (¬ (s = [116, 114, 117, 101]) →
  (decide (s = [102, 97, 108, 115, 101])) = r)) : R_Q114 s r := by
 intro S
 rw [call_code sp_Q114 _ _ rfl]
 have F := U_Q114
 by_cases c1 : s = [116, 114, 117, 101]
 · replace T := T.1 c1
   obtain rfl := T
   exact fi (aa (eq_true c1) <| F)
 · replace T := T.2 c1
   obtain rfl := T
   exact fi (aa (eq_false c1) <| F)
theorem sp_Q113 : SP 113 = some (.code sc_Q113) := SPof_code rfl Tryz.func113 comp_Q113
theorem Q113_tree (s : List UInt8) (r : Bool) (T :
  ∃ (r1 : List UInt8) (r2 : List UInt8) (r3 : Bool), (R_strings_Cut s [46] r1 r2 r3) ∧
 ((r3 = true) →
  ∃ (r4 : Bool), (R_Q115 r1 r4) ∧
  ((r4 = true) →
   ∃ (r5 : Bool), (R_Q115 r2 r5) ∧
   r5 = r) ∧
  (¬ (r4 = true) →
   false = r)) ∧
 (¬ (r3 = true) →
  false = r)) : R_Q113 s r := by
 intro S
 rw [call_code sp_Q113 _ _ rfl]
 have F := U_Q113
 obtain ⟨r1, r2, r3, q1, T⟩ := T
 simp only [R_strings_Cut, le, List.cons_append, List.nil_append] at q1
 replace F := aa q1 <| F
 by_cases c2 : r3 = true
 · replace T := T.1 c2
   obtain ⟨r4, q3, T⟩ := T
   simp only [R_Q115, le, List.cons_append, List.nil_append] at q3
   replace F := aa c2 <| aa q3 <| F
   by_cases c4 : r4 = true
   · replace T := T.1 c4
     obtain ⟨r5, q5, rfl⟩ := T
     simp only [R_Q115, le, List.cons_append, List.nil_append] at q5
     exact fi (aa c4 <| aa q5 <| F)
   · replace T := T.2 c4
     replace c4 := Bool.eq_false_iff.2 c4
     obtain rfl := T
     exact fi (aa c4 <| F)
 · replace T := T.2 c2
   replace c2 := Bool.eq_false_iff.2 c2
   obtain rfl := T
   exact fi (aa c2 <| F)
theorem sp_Q152 : SP 152 = some (.code sc_Q152) := SPof_code rfl Tryz.func152 comp_Q152
def At_Q152_1 (s : List UInt8) (i1 : Int) (r : Bool) : Prop := ∀ (S : Sto) (e : Nat → PV) (f : Fr), e 0 = .str s ∧ e 5 = .int .i64 (s.length : Int) ∧ e 6 = .int .i64 i1 → k_Q152_1 SP (E SP (.loop b_Q152_1) ⟨e, f :: S⟩) = .ok (.v (.bool r)) S
theorem At_Q152_1_step (s : List UInt8) (i1 : Int) (r : Bool) (T :
  ((i1 < (s.length : Int)) →
  (0 ≤ i1) ∧
  ∃ (b2 : UInt8), (s[i1.toNat]? = some b2) ∧
  (((b2.toNat : Int) < 32) →
   (((b2.toNat : Int) = 10) →
    (I64 (i1 + 1)) ∧
    At_Q152_1 s (i1 + 1) r) ∧
   (¬ ((b2.toNat : Int) = 10) →
    false = r)) ∧
  (¬ ((b2.toNat : Int) < 32) →
   (I64 (i1 + 1)) ∧
   At_Q152_1 s (i1 + 1) r)) ∧
 (¬ (i1 < (s.length : Int)) →
  true = r)) : At_Q152_1 s i1 r := by
 intro S e f h
 unfold k_Q152_1
 rw [E_loop]
 have F := U_Q152
 replace F := aa h <| F
 by_cases c1 : i1 < (s.length : Int)
 · replace T := T.1 c1
   obtain ⟨p2, b2, q3, T⟩ := T
   replace F := aa (eq_true c1) <| aa p2 <| aa q3 <| F
   by_cases c4 : (b2.toNat : Int) < 32
   · replace T := T.1 c4
     replace F := aa (eq_true c4) <| F
     by_cases c5 : (b2.toNat : Int) = 10
     · replace T := T.1 c5
       obtain ⟨p6, T⟩ := T
       replace F := aa (eq_true c5) <| aa p6.wrap <| F
       exact lo F T
     · replace T := T.2 c5
       obtain rfl := T
       exact fi (aa (eq_false c5) <| F)
   · replace T := T.2 c4
     obtain ⟨p7, T⟩ := T
     replace F := aa (eq_false c4) <| aa p7.wrap <| F
     exact lo F T
 · replace T := T.2 c1
   obtain rfl := T
   exact fi (aa (eq_false c1) <| F)
theorem Q152_tree (s : List UInt8) (r : Bool) (T :
  At_Q152_1 s 0 r) : R_Q152 s r := by
 intro S
 rw [call_code sp_Q152 _ _ rfl]
 have F := U_Q152
 exact lo F T
theorem sp_Q116 : SP 116 = some (.code sc_Q116) := SPof_code rfl Tryz.func116 comp_Q116
def At_Q116_1 (l_ : List Part) (i1 : Int) (r : Bool) : Prop := ∀ (S : Sto) (e : Nat → PV) (f : Fr), e 0 = .list 2 (l_.map ePart) false ∧ e 5 = .list 2 (l_.map ePart) false ∧ e 6 = .int .i64 (l_.length : Int) ∧ e 7 = .int .i64 i1 → k_Q116_1 SP (E SP (.loop b_Q116_1) ⟨e, f :: S⟩) = .ok (.v (.bool r)) S
theorem At_Q116_1_step (l_ : List Part) (i1 : Int) (r : Bool) (T :
  ((i1 < (l_.length : Int)) →
  (0 ≤ i1) ∧
  ∃ (v2 : Part), (l_[i1.toNat]? = some v2) ∧
  ((v2.Ref = true) →
   ∃ (r3 : Bool), (R_Q113 v2.Text r3) ∧
   ((r3 = true) →
    (I64 (i1 + 1)) ∧
    At_Q116_1 l_ (i1 + 1) r) ∧
   (¬ (r3 = true) →
    false = r)) ∧
  (¬ (v2.Ref = true) →
   ((v2.Text = []) →
    false = r) ∧
   (¬ (v2.Text = []) →
    ((0 < i1) →
     (I64 (i1 - 1)) ∧
     (0 ≤ (i1 - 1)) ∧
     ∃ (v4 : Part), (l_[(i1 - 1).toNat]? = some v4) ∧
     ((v4.Ref = true) →
      ∃ (r5 : Bool), (R_Q152 v2.Text r5) ∧
      ((r5 = true) →
       (I64 (i1 + 1)) ∧
       At_Q116_1 l_ (i1 + 1) r) ∧
      (¬ (r5 = true) →
       false = r)) ∧
     (¬ (v4.Ref = true) →
      false = r)) ∧
    (¬ (0 < i1) →
     ∃ (r6 : Bool), (R_Q152 v2.Text r6) ∧
     ((r6 = true) →
      (I64 (i1 + 1)) ∧
      At_Q116_1 l_ (i1 + 1) r) ∧
     (¬ (r6 = true) →
      false = r))))) ∧
 (¬ (i1 < (l_.length : Int)) →
  true = r)) : At_Q116_1 l_ i1 r := by
 intro S e f h
 unfold k_Q116_1
 rw [E_loop]
 have F := U_Q116
 replace F := aa h <| F
 by_cases c1 : i1 < (l_.length : Int)
 · replace T := T.1 c1
   obtain ⟨p2, v2, q3, T⟩ := T
   replace F := aa (eq_true c1) <| aa p2 <| aa q3 <| F
   by_cases c4 : v2.Ref = true
   · replace T := T.1 c4
     obtain ⟨r3, q5, T⟩ := T
     simp only [R_Q113, le, List.cons_append, List.nil_append] at q5
     replace F := aa c4 <| aa q5 <| F
     by_cases c6 : r3 = true
     · replace T := T.1 c6
       obtain ⟨p7, T⟩ := T
       replace F := aa c6 <| aa p7.wrap <| F
       exact lo F T
     · replace T := T.2 c6
       replace c6 := Bool.eq_false_iff.2 c6
       obtain rfl := T
       exact fi (aa c6 <| F)
   · replace T := T.2 c4
     replace c4 := Bool.eq_false_iff.2 c4
     replace F := aa c4 <| F
     by_cases c8 : v2.Text = []
     · replace T := T.1 c8
       obtain rfl := T
       exact fi (aa (eq_true c8) <| F)
     · replace T := T.2 c8
       replace F := aa (eq_false c8) <| F
       by_cases c9 : 0 < i1
       · replace T := T.1 c9
         obtain ⟨p10, p11, v4, q12, T⟩ := T
         replace F := aa (eq_true c9) <| aa p10.wrap <| aa p11 <| aa q12 <| F
         by_cases c13 : v4.Ref = true
         · replace T := T.1 c13
           obtain ⟨r5, q14, T⟩ := T
           simp only [R_Q152, le, List.cons_append, List.nil_append] at q14
           replace F := aa c13 <| aa q14 <| F
           by_cases c15 : r5 = true
           · replace T := T.1 c15
             obtain ⟨p16, T⟩ := T
             replace F := aa c15 <| aa p16.wrap <| F
             exact lo F T
           · replace T := T.2 c15
             replace c15 := Bool.eq_false_iff.2 c15
             obtain rfl := T
             exact fi (aa c15 <| F)
         · replace T := T.2 c13
           replace c13 := Bool.eq_false_iff.2 c13
           obtain rfl := T
           exact fi (aa c13 <| F)
       · replace T := T.2 c9
         obtain ⟨r6, q17, T⟩ := T
         simp only [R_Q152, le, List.cons_append, List.nil_append] at q17
         replace F := aa (eq_false c9) <| aa q17 <| F
         by_cases c18 : r6 = true
         · replace T := T.1 c18
           obtain ⟨p19, T⟩ := T
           replace F := aa c18 <| aa p19.wrap <| F
           exact lo F T
         · replace T := T.2 c18
           replace c18 := Bool.eq_false_iff.2 c18
           obtain rfl := T
           exact fi (aa c18 <| F)
 · replace T := T.2 c1
   obtain rfl := T
   exact fi (aa (eq_false c1) <| F)
theorem Q116_tree (l_ : List Part) (r : Bool) (T :
  At_Q116_1 l_ 0 r) : R_Q116 l_ r := by
 intro S
 rw [call_code sp_Q116 _ _ rfl]
 have F := U_Q116
 exact lo F T
theorem sp_Q74 : SP 74 = some (.code sc_Q74) := SPof_code rfl Tryz.func74 comp_Q74
theorem Q74_tree (n : Node) (r : Bool) (T :
  ((n.Kind = 1) →
  ((0 ≤ n.Num) →
   ((n.Text = []) →
    (decide ((n.Parts.length : Int) = 0)) = r) ∧
   (¬ (n.Text = []) →
    false = r)) ∧
  (¬ (0 ≤ n.Num) →
   false = r)) ∧
 (¬ (n.Kind = 1) →
  ((n.Kind = 3) →
   ((n.Num = 0) →
    ((n.Text = []) →
     (decide ((n.Parts.length : Int) = 0)) = r) ∧
    (¬ (n.Text = []) →
     false = r)) ∧
   (¬ (n.Num = 0) →
    ((n.Num = 1) →
     ((n.Text = []) →
      (decide ((n.Parts.length : Int) = 0)) = r) ∧
     (¬ (n.Text = []) →
      false = r)) ∧
    (¬ (n.Num = 1) →
     false = r))) ∧
  (¬ (n.Kind = 3) →
   ((n.Kind = 4) →
    ∃ (r1 : List UInt8) (r2 : List UInt8) (r3 : Bool), (R_strings_Cut n.Text [46] r1 r2 r3) ∧
    ∃ (r4 : Bool), (R_Q113 n.Text r4) ∧
    ((r4 = true) →
     ∃ (r5 : Bool), (R_Q114 r1 r5) ∧
     ((n.Num = 0) →
      ((r5 = true) →
       false = r) ∧
      (¬ (r5 = true) →
       (decide ((n.Parts.length : Int) = 0)) = r)) ∧
     (¬ (n.Num = 0) →
      false = r)) ∧
    (¬ (r4 = true) →
     ((n.Num = 0) →
      false = r) ∧
     (¬ (n.Num = 0) →
      false = r))) ∧
   (¬ (n.Kind = 4) →
    ((n.Kind = 5) →
     ∃ (r6 : Bool), (R_Q115 n.Text r6) ∧
     ((r6 = true) →
      ∃ (r7 : Bool), (R_Q114 n.Text r7) ∧
      ((n.Num = 0) →
       ((r7 = true) →
        false = r) ∧
       (¬ (r7 = true) →
        (decide ((n.Parts.length : Int) = 0)) = r)) ∧
      (¬ (n.Num = 0) →
       false = r)) ∧
     (¬ (r6 = true) →
      ((n.Num = 0) →
       false = r) ∧
      (¬ (n.Num = 0) →
       false = r))) ∧
    (¬ (n.Kind = 5) →
     ((n.Kind = 2) →
      ∃ (r8 : Bool), (R_Q116 n.Parts r8) ∧
      ((n.Num = 0) →
       ((n.Text = []) →
        r8 = r) ∧
       (¬ (n.Text = []) →
        false = r)) ∧
      (¬ (n.Num = 0) →
       false = r)) ∧
     (¬ (n.Kind = 2) →
      ((n.Num = 0) →
       ((n.Text = []) →
        (decide ((n.Parts.length : Int) = 0)) = r) ∧
       (¬ (n.Text = []) →
        false = r)) ∧
      (¬ (n.Num = 0) →
       false = r))))))) : R_Q74 n r := by
 intro S
 rw [call_code sp_Q74 _ _ rfl]
 have F := U_Q74
 by_cases c1 : n.Kind = 1
 · replace T := T.1 c1
   replace F := aa (eq_true c1) <| F
   by_cases c2 : 0 ≤ n.Num
   · replace T := T.1 c2
     replace F := aa (eq_true c2) <| F
     by_cases c3 : n.Text = []
     · replace T := T.1 c3
       obtain rfl := T
       exact fi (aa (eq_true c3) <| F)
     · replace T := T.2 c3
       obtain rfl := T
       exact fi (aa (eq_false c3) <| F)
   · replace T := T.2 c2
     obtain rfl := T
     exact fi (aa (eq_false c2) <| F)
 · replace T := T.2 c1
   replace F := aa (eq_false c1) <| F
   by_cases c4 : n.Kind = 3
   · replace T := T.1 c4
     replace F := aa (eq_true c4) <| F
     by_cases c5 : n.Num = 0
     · replace T := T.1 c5
       replace F := aa (eq_true c5) <| F
       by_cases c6 : n.Text = []
       · replace T := T.1 c6
         obtain rfl := T
         exact fi (aa (eq_true c6) <| F)
       · replace T := T.2 c6
         obtain rfl := T
         exact fi (aa (eq_false c6) <| F)
     · replace T := T.2 c5
       replace F := aa (eq_false c5) <| F
       by_cases c7 : n.Num = 1
       · replace T := T.1 c7
         replace F := aa (eq_true c7) <| F
         by_cases c8 : n.Text = []
         · replace T := T.1 c8
           obtain rfl := T
           exact fi (aa (eq_true c8) <| F)
         · replace T := T.2 c8
           obtain rfl := T
           exact fi (aa (eq_false c8) <| F)
       · replace T := T.2 c7
         obtain rfl := T
         exact fi (aa (eq_false c7) <| F)
   · replace T := T.2 c4
     replace F := aa (eq_false c4) <| F
     by_cases c9 : n.Kind = 4
     · replace T := T.1 c9
       obtain ⟨r1, r2, r3, q10, r4, q11, T⟩ := T
       simp only [R_strings_Cut, le, List.cons_append, List.nil_append] at q10
       simp only [R_Q113, le, List.cons_append, List.nil_append] at q11
       replace F := aa (eq_true c9) <| aa q10 <| aa q11 <| F
       by_cases c12 : r4 = true
       · replace T := T.1 c12
         obtain ⟨r5, q13, T⟩ := T
         simp only [R_Q114, le, List.cons_append, List.nil_append] at q13
         replace F := aa c12 <| aa q13 <| F
         by_cases c14 : n.Num = 0
         · replace T := T.1 c14
           replace F := aa (eq_true c14) <| F
           by_cases c15 : r5 = true
           · replace T := T.1 c15
             obtain rfl := T
             exact fi (aa c15 <| F)
           · replace T := T.2 c15
             replace c15 := Bool.eq_false_iff.2 c15
             obtain rfl := T
             exact fi (aa c15 <| F)
         · replace T := T.2 c14
           obtain rfl := T
           exact fi (aa (eq_false c14) <| F)
       · replace T := T.2 c12
         replace c12 := Bool.eq_false_iff.2 c12
         replace F := aa c12 <| F
         by_cases c16 : n.Num = 0
         · replace T := T.1 c16
           obtain rfl := T
           exact fi (aa (eq_true c16) <| F)
         · replace T := T.2 c16
           obtain rfl := T
           exact fi (aa (eq_false c16) <| F)
     · replace T := T.2 c9
       replace F := aa (eq_false c9) <| F
       by_cases c17 : n.Kind = 5
       · replace T := T.1 c17
         obtain ⟨r6, q18, T⟩ := T
         simp only [R_Q115, le, List.cons_append, List.nil_append] at q18
         replace F := aa (eq_true c17) <| aa q18 <| F
         by_cases c19 : r6 = true
         · replace T := T.1 c19
           obtain ⟨r7, q20, T⟩ := T
           simp only [R_Q114, le, List.cons_append, List.nil_append] at q20
           replace F := aa c19 <| aa q20 <| F
           by_cases c21 : n.Num = 0
           · replace T := T.1 c21
             replace F := aa (eq_true c21) <| F
             by_cases c22 : r7 = true
             · replace T := T.1 c22
               obtain rfl := T
               exact fi (aa c22 <| F)
             · replace T := T.2 c22
               replace c22 := Bool.eq_false_iff.2 c22
               obtain rfl := T
               exact fi (aa c22 <| F)
           · replace T := T.2 c21
             obtain rfl := T
             exact fi (aa (eq_false c21) <| F)
         · replace T := T.2 c19
           replace c19 := Bool.eq_false_iff.2 c19
           replace F := aa c19 <| F
           by_cases c23 : n.Num = 0
           · replace T := T.1 c23
             obtain rfl := T
             exact fi (aa (eq_true c23) <| F)
           · replace T := T.2 c23
             obtain rfl := T
             exact fi (aa (eq_false c23) <| F)
       · replace T := T.2 c17
         replace F := aa (eq_false c17) <| F
         by_cases c24 : n.Kind = 2
         · replace T := T.1 c24
           obtain ⟨r8, q25, T⟩ := T
           simp only [R_Q116, le, List.cons_append, List.nil_append] at q25
           replace F := aa (eq_true c24) <| aa q25 <| F
           by_cases c26 : n.Num = 0
           · replace T := T.1 c26
             replace F := aa (eq_true c26) <| F
             by_cases c27 : n.Text = []
             · replace T := T.1 c27
               obtain rfl := T
               exact fi (aa (eq_true c27) <| F)
             · replace T := T.2 c27
               obtain rfl := T
               exact fi (aa (eq_false c27) <| F)
           · replace T := T.2 c26
             obtain rfl := T
             exact fi (aa (eq_false c26) <| F)
         · replace T := T.2 c24
           replace F := aa (eq_false c24) <| F
           by_cases c28 : n.Num = 0
           · replace T := T.1 c28
             replace F := aa (eq_true c28) <| F
             by_cases c29 : n.Text = []
             · replace T := T.1 c29
               obtain rfl := T
               exact fi (aa (eq_true c29) <| F)
             · replace T := T.2 c29
               obtain rfl := T
               exact fi (aa (eq_false c29) <| F)
           · replace T := T.2 c28
             obtain rfl := T
             exact fi (aa (eq_false c28) <| F)
theorem sp_Q26 : SP 26 = some (.code sc_Q26) := SPof_code rfl Tryz.func26 comp_Q26
theorem Q26_tree (l_ : List Node) (r : Bool) (T :
  ((0 < (l_.length : Int)) →
  (I64 ((l_.length : Int) - 1)) ∧
  ∃ (r1 : Int), (R_Q47 l_ ((l_.length : Int) - 1) r1) ∧
  (decide (r1 = 0)) = r) ∧
 (¬ (0 < (l_.length : Int)) →
  false = r)) : R_Q26 l_ r := by
 intro S
 rw [call_code sp_Q26 _ _ rfl]
 have F := U_Q26
 by_cases c1 : 0 < (l_.length : Int)
 · replace T := T.1 c1
   obtain ⟨p2, r1, q3, rfl⟩ := T
   simp only [R_Q47, le, List.cons_append, List.nil_append] at q3
   exact fi (aa (eq_true c1) <| aa p2.wrap <| aa q3 <| F)
 · replace T := T.2 c1
   obtain rfl := T
   exact fi (aa (eq_false c1) <| F)
end Go.Proofs.YtfbcnpbhhooapaaGreatDoor.M
namespace Go.Proofs.YtfbcnpbhhooapaaGreatDoor.M
open Go
set_option linter.unusedVariables false
def c_Q137_1 : SC := .seq (.reg [⟨some 2, none, .v (.mov (.c (.int .i64 0)))⟩]) .ret
def c_Q137_2 : SC := .cond (.t 10) (.seq (.reg [⟨some 2, none, .v (.mov (.c (.int .i64 2)))⟩]) .ret) (.seq (.reg [⟨some 22, none, .v (.mov (.t 0))⟩, ⟨some 23, none, .v (.bin .leq (.c (.int .u8 48)) (.t 22))⟩, ⟨some 24, none, .v (.mov (.t 23))⟩, ⟨some 25, some (24, true), .v (.mov (.t 0))⟩, ⟨some 26, some (24, true), .v (.bin .leq (.t 25) (.c (.int .u8 57)))⟩, ⟨some 27, none, .v (.pick (.t 24) (.t 26) (.c (.bool false)))⟩, ⟨some 21, none, .v (.mov (.t 27))⟩]) (.cond (.t 21) (.seq (.reg [⟨some 2, none, .v (.mov (.c (.int .i64 3)))⟩]) .ret) (.seq (.reg [⟨some 29, none, .v (.mov (.t 0))⟩, ⟨some 30, none, .v (.bin .eql (.t 29) (.c (.int .u8 34)))⟩, ⟨some 28, none, .v (.mov (.t 30))⟩]) (.cond (.t 28) (.seq (.reg [⟨some 2, none, .v (.mov (.c (.int .i64 4)))⟩]) .ret) (.seq (.reg [⟨some 32, none, .v (.mov (.t 0))⟩, ⟨some 33, none, .v (.bin .eql (.t 32) (.c (.int .u8 35)))⟩, ⟨some 31, none, .v (.mov (.t 33))⟩]) (.cond (.t 31) (.seq (.reg [⟨some 2, none, .v (.mov (.c (.int .i64 5)))⟩]) .ret) .skip))))))
def c_Q137_3 : SC := .cond (.t 3) (.seq (.reg [⟨some 2, none, .v (.mov (.c (.int .i64 1)))⟩]) .ret) (.seq (.reg [⟨some 11, none, .v (.mov (.t 0))⟩, ⟨some 12, none, .v (.bin .eql (.t 11) (.c (.int .u8 95)))⟩, ⟨some 13, none, .v (.mov (.t 12))⟩, ⟨some 14, some (13, false), .v (.mov (.t 0))⟩, ⟨some 15, some (13, false), .v (.bin .leq (.c (.int .u8 97)) (.t 14))⟩, ⟨some 16, some (13, false), .v (.mov (.t 15))⟩, ⟨some 17, some (16, true), .v (.mov (.t 0))⟩, ⟨some 18, some (16, true), .v (.bin .leq (.t 17) (.c (.int .u8 122)))⟩, ⟨some 19, some (13, false), .v (.pick (.t 16) (.t 18) (.c (.bool false)))⟩, ⟨some 20, none, .v (.pick (.t 13) (.c (.bool true)) (.t 19))⟩, ⟨some 10, none, .v (.mov (.t 20))⟩]) c_Q137_2)
def c_Q137_4 : SC := .seq (.block 0 (.seq (.reg [⟨some 4, none, .v (.mov (.t 0))⟩, ⟨some 5, none, .v (.bin .eql (.t 4) (.c (.int .u8 32)))⟩, ⟨some 6, none, .v (.mov (.t 5))⟩, ⟨some 7, some (6, false), .v (.mov (.t 0))⟩, ⟨some 8, some (6, false), .v (.bin .eql (.t 7) (.c (.int .u8 10)))⟩, ⟨some 9, none, .v (.pick (.t 6) (.c (.bool true)) (.t 8))⟩, ⟨some 3, none, .v (.mov (.t 9))⟩]) c_Q137_3)) c_Q137_1
def sc_Q137 : SFunc := ⟨1, 34, .seq (.reg [⟨some 2, none, .v (.mov (.c (.int .i64 0)))⟩]) c_Q137_4, [(.t 2)]⟩
theorem U_Q137 : type_of% (And.intro (ue c_Q137_1.eq_1) <| And.intro (ue c_Q137_2.eq_1) <| And.intro (ue c_Q137_3.eq_1) <| And.intro (ue c_Q137_4.eq_1) <| sc_Q137.eq_1) := And.intro (ue c_Q137_1.eq_1) <| And.intro (ue c_Q137_2.eq_1) <| And.intro (ue c_Q137_3.eq_1) <| And.intro (ue c_Q137_4.eq_1) <| sc_Q137.eq_1
theorem comp_Q137 : comp Tryz.prog Tryz.f137 = some sc_Q137 := by kernel_rfl
def c_Q151_1 : SC := .seq (.reg [⟨some 20, none, .v (.mov (.t 0))⟩, ⟨some 21, none, .v (.len true (.t 20))⟩, ⟨some 4, none, .v (.mov (.t 21))⟩]) .ret
def b_Q151_1 : SC := .seq (.reg [⟨some 9, none, .v (.bin .lss (.t 8) (.t 7))⟩]) (.seq (.cond (.t 9) .skip (.exit 0)) (.seq (.block 1 (.seq (.reg [⟨some 10, none, .v (.mov (.t 8))⟩, ⟨some 5, none, .v (.mov (.t 10))⟩]) (.seq (.reg [⟨some 11, none, .v (.mov (.t 1))⟩, ⟨some 12, none, .v (.mov (.t 0))⟩, ⟨some 13, none, .v (.mov (.t 5))⟩, ⟨some 14, none, .v (.istr (.t 12) (.t 13))⟩, ⟨some 15, none, .call (.c (.func 137 [])) [(.t 14)]⟩, ⟨some 16, none, .call (.c (.func 170 [])) [(.t 11), (.t 15)]⟩, ⟨some 17, none, .v (.un .not (.t 16))⟩]) (.cond (.t 17) (.seq (.reg [⟨some 18, none, .v (.mov (.t 5))⟩, ⟨some 4, none, .v (.mov (.t 18))⟩]) .ret) .skip)))) (.reg [⟨some 19, none, .v (.bin .add (.t 8) (.c (.int .i64 1)))⟩, ⟨some 8, none, .v (.mov (.t 19))⟩])))
def sc_Q151 : SFunc := ⟨2, 22, .seq (.reg [⟨some 4, none, .v (.mov (.c (.int .i64 0)))⟩]) (.seq (.seq (.reg [⟨some 6, none, .v (.mov (.t 0))⟩, ⟨some 7, none, .v (.len true (.t 6))⟩, ⟨some 8, none, .v (.mov (.c (.int .i64 0)))⟩]) (.block 0 (.loop b_Q151_1))) c_Q151_1), [(.t 4)]⟩
noncomputable def k_Q151_1 (SP : Prg) (x : EO) : CO := fin [(.t 4)] (thC SP (inBlk 0 (x)) c_Q151_1)
theorem U_Q151 : type_of% (And.intro (ue c_Q151_1.eq_1) <| And.intro (ue b_Q151_1.eq_1) <| sc_Q151.eq_1) := And.intro (ue c_Q151_1.eq_1) <| And.intro (ue b_Q151_1.eq_1) <| sc_Q151.eq_1
theorem comp_Q151 : comp Tryz.prog Tryz.f151 = some sc_Q151 := by kernel_rfl
def sc_Q135 : SFunc := ⟨2, 31, .seq (.reg [⟨some 4, none, .v (.mov (.c (.str [])))⟩]) (.seq (.reg [⟨some 6, none, .v (.mov (.t 0))⟩, ⟨some 7, none, .v (.nchk (.t 6))⟩, ⟨some 8, none, .v (.faddr 0 (.t 7))⟩, ⟨some 9, none, .v (.load none (.t 8))⟩, ⟨some 10, none, .v (.mov (.t 1))⟩, ⟨some 11, none, .v (.sls (.t 9) none (some (.t 10)))⟩, ⟨some 5, none, .v (.mov (.t 11))⟩]) (.seq (.dreg [⟨some 12, none, .v (.mov (.t 0))⟩, ⟨some 13, none, .v (.mov (.t 0))⟩, ⟨some 14, none, .v (.mov (.t 0))⟩, ⟨some 15, none, .v (.nchk (.t 14))⟩, ⟨some 16, none, .v (.faddr 0 (.t 15))⟩, ⟨some 17, none, .v (.load none (.t 16))⟩, ⟨some 18, none, .v (.mov (.t 1))⟩, ⟨some 19, none, .v (.sls (.t 17) (some (.t 18)) none)⟩, ⟨some 20, none, .v (.mov (.t 0))⟩, ⟨some 21, none, .v (.nchk (.t 20))⟩, ⟨some 22, none, .v (.faddr 1 (.t 21))⟩, ⟨some 23, none, .v (.load none (.t 22))⟩, ⟨some 24, none, .v (.mov (.t 1))⟩, ⟨some 25, none, .v (.bin .add (.t 23) (.t 24))⟩, ⟨some 26, none, .v (.nchk (.t 12))⟩, ⟨some 27, none, .v (.faddr 0 (.t 26))⟩, ⟨none, none, .store 1 (.t 27) (.t 19)⟩, ⟨some 28, none, .v (.nchk (.t 13))⟩, ⟨some 29, none, .v (.faddr 1 (.t 28))⟩, ⟨none, none, .store 1 (.t 29) (.t 25)⟩] [false, false, false, false, false, false, false, false, false, false, false, false, false, false, true, true, true, true, true, true]) (.seq (.reg [⟨some 30, none, .v (.mov (.t 5))⟩, ⟨some 4, none, .v (.mov (.t 30))⟩]) .ret))), [(.t 4)]⟩
theorem U_Q135 : type_of% (sc_Q135.eq_1) := sc_Q135.eq_1
theorem comp_Q135 : comp Tryz.prog Tryz.f135 = some sc_Q135 := by kernel_rfl
def sc_Q134 : SFunc := ⟨2, 13, .seq (.reg [⟨some 4, none, .v (.mov (.c (.str [])))⟩]) (.seq (.reg [⟨some 5, none, .v (.mov (.t 0))⟩, ⟨some 6, none, .v (.mov (.t 0))⟩, ⟨some 7, none, .v (.nchk (.t 6))⟩, ⟨some 8, none, .v (.faddr 0 (.t 7))⟩, ⟨some 9, none, .v (.load none (.t 8))⟩, ⟨some 10, none, .v (.mov (.t 1))⟩, ⟨some 11, none, .call (.c (.func 151 [])) [(.t 9), (.t 10)]⟩, ⟨some 12, none, .call (.c (.func 135 [])) [(.t 5), (.t 11)]⟩, ⟨some 4, none, .v (.mov (.t 12))⟩]) .ret), [(.t 4)]⟩
theorem U_Q134 : type_of% (sc_Q134.eq_1) := sc_Q134.eq_1
theorem comp_Q134 : comp Tryz.prog Tryz.f134 = some sc_Q134 := by kernel_rfl
def c_Q165_1 : SC := .dreg [⟨some 31, none, .v (.mov (.t 0))⟩, ⟨some 32, none, .v (.nchk (.t 31))⟩, ⟨some 33, none, .v (.load none (.t 32))⟩, ⟨some 34, none, .v (.mov (.t 4))⟩, ⟨some 35, none, .v (.bin .sub (.t 34) (.c (.int .i64 1)))⟩, ⟨some 36, none, .v (.iaddr 2 (.t 33) (.t 35))⟩, ⟨some 37, none, .v (.faddr 1 (.t 36))⟩, ⟨some 38, none, .v (.load none (.t 37))⟩, ⟨some 39, none, .v (.mov (.t 1))⟩, ⟨some 40, none, .bslice 1 1 [(.int .u8 0)] [(0, (.t 39))]⟩, ⟨some 41, none, .v (.conv .bytes (.t 40))⟩, ⟨some 42, none, .v (.bin .add (.t 38) (.t 41))⟩, ⟨some 43, none, .v (.iaddr 2 (.t 33) (.t 35))⟩, ⟨some 44, none, .v (.faddr 1 (.t 43))⟩, ⟨none, none, .store 1 (.t 44) (.t 42)⟩] [false, false, false, false, false, false, false, false, false, false, false, true, true, true, true]
def c_Q165_2 : SC := .seq (.seq (.reg [⟨some 9, none, .v (.mov (.t 4))⟩, ⟨some 10, none, .v (.bin .eql (.t 9) (.c (.int .i64 0)))⟩, ⟨some 11, none, .v (.mov (.t 10))⟩, ⟨some 12, some (11, false), .v (.mov (.t 0))⟩, ⟨some 13, some (11, false), .v (.nchk (.t 12))⟩, ⟨some 14, some (11, false), .v (.load none (.t 13))⟩, ⟨some 15, some (11, false), .v (.mov (.t 4))⟩, ⟨some 16, some (11, false), .v (.bin .sub (.t 15) (.c (.int .i64 1)))⟩, ⟨some 17, some (11, false), .v (.iaddr 2 (.t 14) (.t 16))⟩, ⟨some 18, some (11, false), .v (.faddr 0 (.t 17))⟩, ⟨some 19, some (11, false), .v (.load none (.t 18))⟩, ⟨some 20, none, .v (.pick (.t 11) (.c (.bool true)) (.t 19))⟩]) (.cond (.t 20) (.seq (.reg [⟨some 21, none, .v (.mov (.t 0))⟩, ⟨some 22, none, .v (.mov (.t 0))⟩, ⟨some 23, none, .v (.nchk (.t 22))⟩, ⟨some 24, none, .v (.load none (.t 23))⟩, ⟨some 25, none, .v (.build [(.bool false), (.str [])] [])⟩, ⟨some 26, none, .bslice 2 1 [(.bool false), (.str [])] [(0, (.t 25))]⟩, ⟨some 27, none, .append 2 24 (.t 24) (.t 26)⟩, ⟨some 28, none, .v (.nchk (.t 21))⟩, ⟨none, none, .store 1 (.t 28) (.t 27)⟩]) (.reg [⟨some 29, none, .v (.mov (.t 4))⟩, ⟨some 30, none, .v (.bin .add (.t 29) (.c (.int .i64 1)))⟩, ⟨some 4, none, .v (.mov (.t 30))⟩])) .skip)) c_Q165_1
def sc_Q165 : SFunc := ⟨2, 45, .seq (.reg [⟨some 5, none, .v (.mov (.t 0))⟩, ⟨some 6, none, .v (.nchk (.t 5))⟩, ⟨some 7, none, .v (.load none (.t 6))⟩, ⟨some 8, none, .v (.len false (.t 7))⟩, ⟨some 4, none, .v (.mov (.t 8))⟩]) c_Q165_2, []⟩
theorem U_Q165 : type_of% (And.intro (ue c_Q165_1.eq_1) <| And.intro (ue c_Q165_2.eq_1) <| sc_Q165.eq_1) := And.intro (ue c_Q165_1.eq_1) <| And.intro (ue c_Q165_2.eq_1) <| sc_Q165.eq_1
theorem comp_Q165 : comp Tryz.prog Tryz.f165 = some sc_Q165 := by kernel_rfl
def sc_Q164 : SFunc := ⟨1, 15, .seq (.reg [⟨some 2, none, .v (.mov (.c (.int .u8 0)))⟩, ⟨some 3, none, .v (.mov (.c (.bool false)))⟩]) (.seq (.seq (.reg [⟨some 5, none, .v (.mov (.t 0))⟩, ⟨some 6, none, .v (.len true (.t 5))⟩, ⟨some 7, none, .v (.bin .lss (.t 6) (.c (.int .i64 2)))⟩]) (.cond (.t 7) (.seq (.reg [⟨some 2, none, .v (.mov (.c (.int .u8 0)))⟩, ⟨some 3, none, .v (.mov (.c (.bool false)))⟩]) .ret) .skip)) (.seq (.reg [⟨some 8, none, .v (.mov (.t 0))⟩, ⟨some 9, none, .v (.istr (.t 8) (.c (.int .i64 1)))⟩, ⟨some 10, none, .call (.c (.func 179 [])) [(.c (.str [34, 92, 36, 110])), (.t 9)]⟩, ⟨some 4, none, .v (.mov (.t 10))⟩]) (.seq (.seq (.reg [⟨some 11, none, .v (.mov (.t 4))⟩, ⟨some 12, none, .v (.bin .lss (.t 11) (.c (.int .i64 0)))⟩]) (.cond (.t 12) (.seq (.reg [⟨some 2, none, .v (.mov (.c (.int .u8 0)))⟩, ⟨some 3, none, .v (.mov (.c (.bool false)))⟩]) .ret) .skip)) (.seq (.reg [⟨some 13, none, .v (.mov (.t 4))⟩, ⟨some 14, none, .v (.istr (.c (.str [34, 92, 36, 10])) (.t 13))⟩, ⟨some 2, none, .v (.mov (.t 14))⟩, ⟨some 3, none, .v (.mov (.c (.bool true)))⟩]) .ret)))), [(.t 2), (.t 3)]⟩
theorem U_Q164 : type_of% (sc_Q164.eq_1) := sc_Q164.eq_1
theorem comp_Q164 : comp Tryz.prog Tryz.f164 = some sc_Q164 := by kernel_rfl
def c_Q166_1 : SC := .seq (.reg [⟨some 18, none, .v (.mov (.t 4))⟩, ⟨some 19, none, .call (.c (.func 112 [])) [(.t 18), (.c (.str [46]))]⟩, ⟨some 17, none, .v (.mov (.t 19))⟩, ⟨some 20, none, .v (.extract 0 (.t 17))⟩, ⟨some 21, none, .v (.extract 1 (.t 17))⟩, ⟨some 22, none, .v (.extract 2 (.t 17))⟩, ⟨some 7, none, .v (.mov (.t 20))⟩, ⟨some 8, none, .v (.mov (.t 21))⟩, ⟨some 9, none, .v (.mov (.t 22))⟩]) (.seq (.reg [⟨some 23, none, .v (.mov (.t 4))⟩, ⟨some 24, none, .v (.mov (.t 6))⟩, ⟨some 25, none, .v (.mov (.t 24))⟩, ⟨some 26, some (25, true), .v (.mov (.t 9))⟩, ⟨some 27, none, .v (.pick (.t 25) (.t 26) (.c (.bool false)))⟩, ⟨some 28, none, .v (.mov (.t 27))⟩, ⟨some 29, some (28, true), .v (.mov (.t 7))⟩, ⟨some 30, some (28, true), .call (.c (.func 115 [])) [(.t 29)]⟩, ⟨some 31, none, .v (.pick (.t 28) (.t 30) (.c (.bool false)))⟩, ⟨some 32, none, .v (.mov (.t 31))⟩, ⟨some 33, some (32, true), .v (.mov (.t 8))⟩, ⟨some 34, some (32, true), .call (.c (.func 115 [])) [(.t 33)]⟩, ⟨some 35, none, .v (.pick (.t 32) (.t 34) (.c (.bool false)))⟩, ⟨some 2, none, .v (.mov (.t 23))⟩, ⟨some 3, none, .v (.mov (.t 35))⟩]) .ret)
def c_Q166_2 : SC := .seq (.reg [⟨some 11, none, .v (.mov (.t 0))⟩, ⟨some 12, none, .v (.sls (.t 11) (some (.c (.int .i64 2))) none)⟩, ⟨some 13, none, .call (.c (.func 112 [])) [(.t 12), (.c (.str [125]))]⟩, ⟨some 10, none, .v (.mov (.t 13))⟩, ⟨some 14, none, .v (.extract 0 (.t 10))⟩, ⟨some 15, none, .v (.extract 1 (.t 10))⟩, ⟨some 16, none, .v (.extract 2 (.t 10))⟩, ⟨some 4, none, .v (.mov (.t 14))⟩, ⟨some 5, none, .v (.mov (.t 15))⟩, ⟨some 6, none, .v (.mov (.t 16))⟩]) c_Q166_1
def sc_Q166 : SFunc := ⟨1, 36, .seq (.reg [⟨some 2, none, .v (.mov (.c (.str [])))⟩, ⟨some 3, none, .v (.mov (.c (.bool false)))⟩]) c_Q166_2, [(.t 2), (.t 3)]⟩
theorem U_Q166 : type_of% (And.intro (ue c_Q166_1.eq_1) <| And.intro (ue c_Q166_2.eq_1) <| sc_Q166.eq_1) := And.intro (ue c_Q166_1.eq_1) <| And.intro (ue c_Q166_2.eq_1) <| sc_Q166.eq_1
theorem comp_Q166 : comp Tryz.prog Tryz.f166 = some sc_Q166 := by kernel_rfl
def sc_Q115 : SFunc := ⟨1, 24, .seq (.reg [⟨some 2, none, .v (.mov (.c (.bool false)))⟩]) (.seq (.reg [⟨some 3, none, .v (.mov (.t 0))⟩, ⟨some 4, none, .v (.bin .neq (.t 3) (.c (.str [])))⟩, ⟨some 5, none, .v (.mov (.t 4))⟩, ⟨some 6, some (5, true), .v (.mov (.t 0))⟩, ⟨some 7, some (5, true), .v (.len true (.t 6))⟩, ⟨some 8, some (5, true), .v (.bin .leq (.t 7) (.c (.int .i64 24)))⟩, ⟨some 9, none, .v (.pick (.t 5) (.t 8) (.c (.bool false)))⟩, ⟨some 10, none, .v (.mov (.t 9))⟩, ⟨some 11, some (10, true), .v (.mov (.t 0))⟩, ⟨some 12, some (10, true), .v (.istr (.t 11) (.c (.int .i64 0)))⟩, ⟨some 13, some (10, true), .call (.c (.func 137 [])) [(.t 12)]⟩, ⟨some 14, some (10, true), .v (.bin .eql (.t 13) (.c (.int .i64 2)))⟩, ⟨some 15, none, .v (.pick (.t 10) (.t 14) (.c (.bool false)))⟩, ⟨some 16, none, .v (.mov (.t 15))⟩, ⟨some 17, some (16, true), .v (.mov (.t 0))⟩, ⟨some 18, some (16, true), .bslice 1 2 [(.int .i64 0)] [(0, (.c (.int .i64 2))), (1, (.c (.int .i64 3)))]⟩, ⟨some 19, some (16, true), .call (.c (.func 151 [])) [(.t 17), (.t 18)]⟩, ⟨some 20, some (16, true), .v (.mov (.t 0))⟩, ⟨some 21, some (16, true), .v (.len true (.t 20))⟩, ⟨some 22, some (16, true), .v (.bin .eql (.t 19) (.t 21))⟩, ⟨some 23, none, .v (.pick (.t 16) (.t 22) (.c (.bool false)))⟩, ⟨some 2, none, .v (.mov (.t 23))⟩]) .ret), [(.t 2)]⟩
theorem U_Q115 : type_of% (sc_Q115.eq_1) := sc_Q115.eq_1
theorem comp_Q115 : comp Tryz.prog Tryz.f115 = some sc_Q115 := by kernel_rfl
def sc_Q119 : SFunc := ⟨1, 9, .seq (.reg [⟨some 2, none, .v (.mov (.c (.bool false)))⟩]) (.seq (.reg [⟨some 3, none, .v (.mov (.t 0))⟩, ⟨some 4, none, .v (.bin .geq (.t 3) (.c (.int .u8 48)))⟩, ⟨some 5, none, .v (.mov (.t 4))⟩, ⟨some 6, some (5, true), .v (.mov (.t 0))⟩, ⟨some 7, some (5, true), .v (.bin .leq (.t 6) (.c (.int .u8 57)))⟩, ⟨some 8, none, .v (.pick (.t 5) (.t 7) (.c (.bool false)))⟩, ⟨some 2, none, .v (.mov (.t 8))⟩]) .ret), [(.t 2)]⟩
theorem U_Q119 : type_of% (sc_Q119.eq_1) := sc_Q119.eq_1
theorem comp_Q119 : comp Tryz.prog Tryz.f119 = some sc_Q119 := by kernel_rfl
def sc_Q118 : SFunc := ⟨1, 13, .seq (.reg [⟨some 2, none, .v (.mov (.c (.bool false)))⟩]) (.seq (.reg [⟨some 3, none, .v (.mov (.t 0))⟩, ⟨some 4, none, .v (.bin .geq (.t 3) (.c (.int .u8 97)))⟩, ⟨some 5, none, .v (.mov (.t 4))⟩, ⟨some 6, some (5, true), .v (.mov (.t 0))⟩, ⟨some 7, some (5, true), .v (.bin .leq (.t 6) (.c (.int .u8 122)))⟩, ⟨some 8, none, .v (.pick (.t 5) (.t 7) (.c (.bool false)))⟩, ⟨some 9, none, .v (.mov (.t 8))⟩, ⟨some 10, some (9, false), .v (.mov (.t 0))⟩, ⟨some 11, some (9, false), .v (.bin .eql (.t 10) (.c (.int .u8 95)))⟩, ⟨some 12, none, .v (.pick (.t 9) (.c (.bool true)) (.t 11))⟩, ⟨some 2, none, .v (.mov (.t 12))⟩]) .ret), [(.t 2)]⟩
theorem U_Q118 : type_of% (sc_Q118.eq_1) := sc_Q118.eq_1
theorem comp_Q118 : comp Tryz.prog Tryz.f118 = some sc_Q118 := by kernel_rfl
def c_Q77_1 : SC := .seq (.reg [⟨some 37, none, .v (.mov (.t 5))⟩, ⟨some 4, none, .v (.mov (.t 37))⟩]) .ret
def b_Q77_1 : SC := .seq (.seq (.reg [⟨some 19, none, .v (.mov (.t 5))⟩, ⟨some 20, none, .v (.mov (.t 0))⟩, ⟨some 21, none, .v (.len true (.t 20))⟩, ⟨some 22, none, .v (.bin .lss (.t 19) (.t 21))⟩, ⟨some 23, none, .v (.mov (.t 22))⟩, ⟨some 24, some (23, true), .v (.mov (.t 0))⟩, ⟨some 25, some (23, true), .v (.mov (.t 5))⟩, ⟨some 26, some (23, true), .v (.istr (.t 24) (.t 25))⟩, ⟨some 27, some (23, true), .call (.c (.func 118 [])) [(.t 26)]⟩, ⟨some 28, some (23, true), .v (.mov (.t 27))⟩, ⟨some 29, some (28, false), .v (.mov (.t 0))⟩, ⟨some 30, some (28, false), .v (.mov (.t 5))⟩, ⟨some 31, some (28, false), .v (.istr (.t 29) (.t 30))⟩, ⟨some 32, some (28, false), .call (.c (.func 119 [])) [(.t 31)]⟩, ⟨some 33, some (23, true), .v (.pick (.t 28) (.c (.bool true)) (.t 32))⟩, ⟨some 34, none, .v (.pick (.t 23) (.t 33) (.c (.bool false)))⟩]) (.cond (.t 34) .skip (.exit 0))) (.block 1 (.reg [⟨some 35, none, .v (.mov (.t 5))⟩, ⟨some 36, none, .v (.bin .add (.t 35) (.c (.int .i64 1)))⟩, ⟨some 5, none, .v (.mov (.t 36))⟩]))
def c_Q77_2 : SC := .seq (.reg [⟨some 18, none, .v (.mov (.t 1))⟩, ⟨some 5, none, .v (.mov (.t 18))⟩]) (.seq (.block 0 (.loop b_Q77_1)) c_Q77_1)
def c_Q77_3 : SC := .seq (.seq (.reg [⟨some 6, none, .v (.mov (.t 1))⟩, ⟨some 7, none, .v (.mov (.t 0))⟩, ⟨some 8, none, .v (.len true (.t 7))⟩, ⟨some 9, none, .v (.bin .geq (.t 6) (.t 8))⟩, ⟨some 10, none, .v (.mov (.t 9))⟩, ⟨some 11, some (10, false), .v (.mov (.t 0))⟩, ⟨some 12, some (10, false), .v (.mov (.t 1))⟩, ⟨some 13, some (10, false), .v (.istr (.t 11) (.t 12))⟩, ⟨some 14, some (10, false), .call (.c (.func 118 [])) [(.t 13)]⟩, ⟨some 15, some (10, false), .v (.un .not (.t 14))⟩, ⟨some 16, none, .v (.pick (.t 10) (.c (.bool true)) (.t 15))⟩]) (.cond (.t 16) (.seq (.reg [⟨some 17, none, .v (.mov (.t 1))⟩, ⟨some 4, none, .v (.mov (.t 17))⟩]) .ret) .skip)) c_Q77_2
def sc_Q77 : SFunc := ⟨2, 38, .seq (.reg [⟨some 4, none, .v (.mov (.c (.int .i64 0)))⟩]) c_Q77_3, [(.t 4)]⟩
noncomputable def k_Q77_1 (SP : Prg) (x : EO) : CO := fin [(.t 4)] (thC SP (inBlk 0 (x)) c_Q77_1)
theorem U_Q77 : type_of% (And.intro (ue c_Q77_1.eq_1) <| And.intro (ue b_Q77_1.eq_1) <| And.intro (ue c_Q77_2.eq_1) <| And.intro (ue c_Q77_3.eq_1) <| sc_Q77.eq_1) := And.intro (ue c_Q77_1.eq_1) <| And.intro (ue b_Q77_1.eq_1) <| And.intro (ue c_Q77_2.eq_1) <| And.intro (ue c_Q77_3.eq_1) <| sc_Q77.eq_1
theorem comp_Q77 : comp Tryz.prog Tryz.f77 = some sc_Q77 := by kernel_rfl
def sc_Q79 : SFunc := ⟨1, 17, .seq (.reg [⟨some 2, none, .v (.mov (.c (.bool false)))⟩]) (.seq (.reg [⟨some 3, none, .v (.mov (.t 0))⟩, ⟨some 4, none, .v (.bin .neq (.t 3) (.c (.str [])))⟩, ⟨some 5, none, .v (.mov (.t 4))⟩, ⟨some 6, some (5, true), .v (.mov (.t 0))⟩, ⟨some 7, some (5, true), .v (.len true (.t 6))⟩, ⟨some 8, some (5, true), .v (.bin .leq (.t 7) (.c (.int .i64 24)))⟩, ⟨some 9, none, .v (.pick (.t 5) (.t 8) (.c (.bool false)))⟩, ⟨some 10, none, .v (.mov (.t 9))⟩, ⟨some 11, some (10, true), .v (.mov (.t 0))⟩, ⟨some 12, some (10, true), .call (.c (.func 77 [])) [(.t 11), (.c (.int .i64 0))]⟩, ⟨some 13, some (10, true), .v (.mov (.t 0))⟩, ⟨some 14, some (10, true), .v (.len true (.t 13))⟩, ⟨some 15, some (10, true), .v (.bin .eql (.t 12) (.t 14))⟩, ⟨some 16, none, .v (.pick (.t 10) (.t 15) (.c (.bool false)))⟩, ⟨some 2, none, .v (.mov (.t 16))⟩]) .ret), [(.t 2)]⟩
theorem U_Q79 : type_of% (sc_Q79.eq_1) := sc_Q79.eq_1
theorem comp_Q79 : comp Tryz.prog Tryz.f79 = some sc_Q79 := by kernel_rfl
def c_Q78_1 : SC := .seq (.reg [⟨some 6, none, .v (.mov (.t 3))⟩, ⟨some 7, none, .v (.bin .gtr (.t 6) (.c (.int .i64 0)))⟩, ⟨some 8, none, .v (.mov (.t 7))⟩, ⟨some 9, some (8, true), .v (.mov (.t 3))⟩, ⟨some 10, some (8, true), .v (.mov (.t 0))⟩, ⟨some 11, some (8, true), .v (.len true (.t 10))⟩, ⟨some 12, some (8, true), .v (.bin .lss (.t 9) (.t 11))⟩, ⟨some 13, none, .v (.pick (.t 8) (.t 12) (.c (.bool false)))⟩, ⟨some 14, none, .v (.mov (.t 13))⟩, ⟨some 15, some (14, true), .v (.mov (.t 0))⟩, ⟨some 16, some (14, true), .v (.mov (.t 3))⟩, ⟨some 17, some (14, true), .v (.istr (.t 15) (.t 16))⟩, ⟨some 18, some (14, true), .v (.bin .eql (.t 17) (.c (.int .u8 46)))⟩, ⟨some 19, none, .v (.pick (.t 14) (.t 18) (.c (.bool false)))⟩, ⟨some 20, none, .v (.mov (.t 19))⟩, ⟨some 21, some (20, true), .v (.mov (.t 0))⟩, ⟨some 22, some (20, true), .v (.mov (.t 3))⟩, ⟨some 23, some (20, true), .v (.sls (.t 21) none (some (.t 22)))⟩, ⟨some 24, some (20, true), .call (.c (.func 79 [])) [(.t 23)]⟩, ⟨some 25, none, .v (.pick (.t 20) (.t 24) (.c (.bool false)))⟩, ⟨some 26, none, .v (.mov (.t 25))⟩, ⟨some 27, some (26, true), .v (.mov (.t 0))⟩, ⟨some 28, some (26, true), .v (.mov (.t 3))⟩, ⟨some 29, some (26, true), .v (.bin .add (.t 28) (.c (.int .i64 1)))⟩, ⟨some 30, some (26, true), .v (.sls (.t 27) (some (.t 29)) none)⟩, ⟨some 31, some (26, true), .call (.c (.func 79 [])) [(.t 30)]⟩, ⟨some 32, none, .v (.pick (.t 26) (.t 31) (.c (.bool false)))⟩, ⟨some 2, none, .v (.mov (.t 32))⟩]) .ret
def c_Q78_2 : SC := .seq (.reg [⟨some 4, none, .v (.mov (.t 0))⟩, ⟨some 5, none, .call (.c (.func 77 [])) [(.t 4), (.c (.int .i64 0))]⟩, ⟨some 3, none, .v (.mov (.t 5))⟩]) c_Q78_1
def sc_Q78 : SFunc := ⟨1, 33, .seq (.reg [⟨some 2, none, .v (.mov (.c (.bool false)))⟩]) c_Q78_2, [(.t 2)]⟩
theorem U_Q78 : type_of% (And.intro (ue c_Q78_1.eq_1) <| And.intro (ue c_Q78_2.eq_1) <| sc_Q78.eq_1) := And.intro (ue c_Q78_1.eq_1) <| And.intro (ue c_Q78_2.eq_1) <| sc_Q78.eq_1
theorem comp_Q78 : comp Tryz.prog Tryz.f78 = some sc_Q78 := by kernel_rfl
def c_ref1_text_1 : SC := .seq (.reg [⟨some 126, none, .v (.build [(.int .i64 0), (.str []), (.int .i64 0), (.nils 2), (.int .i64 0)] [])⟩, ⟨none, none, .store 5 (.t 4) (.t 126)⟩, ⟨some 5, none, .v (.mov (.c (.int .i64 0)))⟩]) .ret
def c_ref1_text_2 : SC := .reg [⟨some 17, none, .v (.mov (.t 8))⟩, ⟨some 18, none, .v (.bin .add (.t 17) (.c (.int .i64 1)))⟩, ⟨some 8, none, .v (.mov (.t 18))⟩]
def c_ref1_text_3 : SC := .seq (.reg [⟨some 59, none, .v (.mov (.t 0))⟩, ⟨some 60, none, .v (.mov (.t 8))⟩, ⟨some 61, none, .v (.istr (.t 59) (.t 60))⟩]) (.block 3 (.seq (.seq (.reg [⟨some 64, none, .v (.bin .eql (.t 61) (.c (.int .u8 34)))⟩, ⟨some 63, none, .v (.mov (.t 64))⟩]) (.cond (.t 63) .skip (.seq (.reg [⟨some 65, none, .v (.bin .eql (.t 61) (.c (.int .u8 92)))⟩, ⟨some 63, none, .v (.mov (.t 65))⟩]) (.cond (.t 63) .skip (.reg [⟨some 66, none, .v (.bin .eql (.t 61) (.c (.int .u8 36)))⟩, ⟨some 63, none, .v (.mov (.t 66))⟩]))))) (.cond (.t 63) (.reg [⟨some 67, none, .v (.mov (.t 7))⟩, ⟨some 68, none, .v (.mov (.t 0))⟩, ⟨some 69, none, .v (.mov (.t 8))⟩, ⟨some 70, none, .v (.istr (.t 68) (.t 69))⟩, ⟨some 71, none, .bslice 1 1 [(.int .u8 0)] [(0, (.t 70))]⟩, ⟨some 72, none, .append 1 1 (.t 67) (.t 71)⟩, ⟨some 7, none, .v (.mov (.t 72))⟩]) (.seq (.reg [⟨some 74, none, .v (.bin .eql (.t 61) (.c (.int .u8 110)))⟩, ⟨some 73, none, .v (.mov (.t 74))⟩]) (.cond (.t 73) (.reg [⟨some 75, none, .v (.mov (.t 7))⟩, ⟨some 76, none, .bslice 1 1 [(.int .u8 0)] [(0, (.c (.int .u8 10)))]⟩, ⟨some 77, none, .append 1 1 (.t 75) (.t 76)⟩, ⟨some 7, none, .v (.mov (.t 77))⟩]) (.seq (.reg [⟨some 62, none, .v (.build [(.int .i64 0), (.str []), (.int .i64 0), (.nils 2), (.int .i64 0)] [])⟩, ⟨none, none, .store 5 (.t 4) (.t 62)⟩, ⟨some 5, none, .v (.mov (.c (.int .i64 0)))⟩]) .ret))))))
def c_ref1_text_4 : SC := .seq (.seq (.reg [⟨some 54, none, .v (.mov (.t 8))⟩, ⟨some 55, none, .v (.mov (.t 0))⟩, ⟨some 56, none, .v (.len true (.t 55))⟩, ⟨some 57, none, .v (.bin .geq (.t 54) (.t 56))⟩]) (.cond (.t 57) (.seq (.reg [⟨some 58, none, .v (.build [(.int .i64 0), (.str []), (.int .i64 0), (.nils 2), (.int .i64 0)] [])⟩, ⟨none, none, .store 5 (.t 4) (.t 58)⟩, ⟨some 5, none, .v (.mov (.c (.int .i64 0)))⟩]) .ret) .skip)) c_ref1_text_3
def c_ref1_text_5 : SC := .seq (.reg [⟨some 110, none, .v (.mov (.t 6))⟩, ⟨some 111, none, .v (.mov (.t 0))⟩, ⟨some 112, none, .v (.mov (.t 8))⟩, ⟨some 113, none, .v (.bin .add (.t 112) (.c (.int .i64 2)))⟩, ⟨some 114, none, .v (.mov (.t 8))⟩, ⟨some 115, none, .v (.mov (.t 10))⟩, ⟨some 116, none, .v (.bin .add (.t 114) (.t 115))⟩, ⟨some 117, none, .v (.bin .sub (.t 116) (.c (.int .i64 1)))⟩, ⟨some 118, none, .v (.sls (.t 111) (some (.t 113)) (some (.t 117)))⟩, ⟨some 119, none, .v (.build [(.bool false), (.str [])] [(0, 1, (.c (.bool true))), (1, 1, (.t 118))])⟩, ⟨some 120, none, .bslice 2 1 [(.bool false), (.str [])] [(0, (.t 119))]⟩, ⟨some 121, none, .append 2 24 (.t 110) (.t 120)⟩, ⟨some 6, none, .v (.mov (.t 121))⟩]) (.reg [⟨some 122, none, .v (.mov (.t 8))⟩, ⟨some 123, none, .v (.mov (.t 10))⟩, ⟨some 124, none, .v (.bin .add (.t 122) (.t 123))⟩, ⟨some 125, none, .v (.bin .sub (.t 124) (.c (.int .i64 1)))⟩, ⟨some 8, none, .v (.mov (.t 125))⟩])
def c_ref1_text_6 : SC := .seq (.seq (.reg [⟨some 101, none, .v (.mov (.t 7))⟩, ⟨some 102, none, .v (.len false (.t 101))⟩, ⟨some 103, none, .v (.bin .gtr (.t 102) (.c (.int .i64 0)))⟩]) (.cond (.t 103) (.seq (.reg [⟨some 104, none, .v (.mov (.t 6))⟩, ⟨some 105, none, .v (.mov (.t 7))⟩, ⟨some 106, none, .v (.conv .bytes (.t 105))⟩, ⟨some 107, none, .v (.build [(.bool false), (.str [])] [(1, 1, (.t 106))])⟩, ⟨some 108, none, .bslice 2 1 [(.bool false), (.str [])] [(0, (.t 107))]⟩, ⟨some 109, none, .append 2 24 (.t 104) (.t 108)⟩, ⟨some 6, none, .v (.mov (.t 109))⟩]) (.reg [⟨some 7, none, .nilv 1⟩])) .skip)) c_ref1_text_5
def c_ref1_text_7 : SC := .seq (.seq (.reg [⟨some 98, none, .v (.mov (.t 10))⟩, ⟨some 99, none, .v (.bin .eql (.t 98) (.c (.int .i64 0)))⟩]) (.cond (.t 99) (.seq (.reg [⟨some 100, none, .v (.build [(.int .i64 0), (.str []), (.int .i64 0), (.nils 2), (.int .i64 0)] [])⟩, ⟨none, none, .store 5 (.t 4) (.t 100)⟩, ⟨some 5, none, .v (.mov (.c (.int .i64 0)))⟩]) .ret) .skip)) c_ref1_text_6
def c_ref1_text_8 : SC := .cond (.t 78) (.seq (.reg [⟨some 95, none, .v (.mov (.t 0))⟩, ⟨some 96, none, .v (.mov (.t 8))⟩, ⟨some 97, none, .call (.c (.func 154 [])) [(.t 95), (.t 96)]⟩, ⟨some 10, none, .v (.mov (.t 97))⟩]) c_ref1_text_7) (.reg [⟨some 22, none, .v (.mov (.t 7))⟩, ⟨some 23, none, .v (.mov (.t 9))⟩, ⟨some 24, none, .bslice 1 1 [(.int .u8 0)] [(0, (.t 23))]⟩, ⟨some 25, none, .append 1 1 (.t 22) (.t 24)⟩, ⟨some 7, none, .v (.mov (.t 25))⟩])
def c_ref1_text_9 : SC := .cond (.t 49) (.seq (.reg [⟨some 52, none, .v (.mov (.t 8))⟩, ⟨some 53, none, .v (.bin .add (.t 52) (.c (.int .i64 1)))⟩, ⟨some 8, none, .v (.mov (.t 53))⟩]) c_ref1_text_4) (.seq (.reg [⟨some 79, none, .v (.mov (.t 9))⟩, ⟨some 80, none, .v (.bin .eql (.t 79) (.c (.int .u8 36)))⟩, ⟨some 81, none, .v (.mov (.t 80))⟩, ⟨some 82, some (81, true), .v (.mov (.t 8))⟩, ⟨some 83, some (81, true), .v (.bin .add (.t 82) (.c (.int .i64 1)))⟩, ⟨some 84, some (81, true), .v (.mov (.t 0))⟩, ⟨some 85, some (81, true), .v (.len true (.t 84))⟩, ⟨some 86, some (81, true), .v (.bin .lss (.t 83) (.t 85))⟩, ⟨some 87, none, .v (.pick (.t 81) (.t 86) (.c (.bool false)))⟩, ⟨some 88, none, .v (.mov (.t 87))⟩, ⟨some 89, some (88, true), .v (.mov (.t 0))⟩, ⟨some 90, some (88, true), .v (.mov (.t 8))⟩, ⟨some 91, some (88, true), .v (.bin .add (.t 90) (.c (.int .i64 1)))⟩, ⟨some 92, some (88, true), .v (.istr (.t 89) (.t 91))⟩, ⟨some 93, some (88, true), .v (.bin .eql (.t 92) (.c (.int .u8 123)))⟩, ⟨some 94, none, .v (.pick (.t 88) (.t 93) (.c (.bool false)))⟩, ⟨some 78, none, .v (.mov (.t 94))⟩]) c_ref1_text_8)
def c_ref1_text_10 : SC := .cond (.t 45) (.seq (.reg [⟨some 48, none, .v (.build [(.int .i64 0), (.str []), (.int .i64 0), (.nils 2), (.int .i64 0)] [])⟩, ⟨none, none, .store 5 (.t 4) (.t 48)⟩, ⟨some 5, none, .v (.mov (.c (.int .i64 0)))⟩]) .ret) (.seq (.reg [⟨some 50, none, .v (.mov (.t 9))⟩, ⟨some 51, none, .v (.bin .eql (.t 50) (.c (.int .u8 92)))⟩, ⟨some 49, none, .v (.mov (.t 51))⟩]) c_ref1_text_9)
def c_ref1_text_11 : SC := .cond (.t 26) (.seq (.seq (.reg [⟨some 29, none, .v (.mov (.t 7))⟩, ⟨some 30, none, .v (.len false (.t 29))⟩, ⟨some 31, none, .v (.bin .gtr (.t 30) (.c (.int .i64 0)))⟩]) (.cond (.t 31) (.reg [⟨some 32, none, .v (.mov (.t 6))⟩, ⟨some 33, none, .v (.mov (.t 7))⟩, ⟨some 34, none, .v (.conv .bytes (.t 33))⟩, ⟨some 35, none, .v (.build [(.bool false), (.str [])] [(1, 1, (.t 34))])⟩, ⟨some 36, none, .bslice 2 1 [(.bool false), (.str [])] [(0, (.t 35))]⟩, ⟨some 37, none, .append 2 24 (.t 32) (.t 36)⟩, ⟨some 6, none, .v (.mov (.t 37))⟩]) .skip)) (.seq (.reg [⟨some 38, none, .v (.mov (.t 6))⟩, ⟨some 39, none, .v (.mov (.t 1))⟩, ⟨some 40, none, .v (.build [(.int .i64 0), (.str []), (.int .i64 0), (.nils 2), (.int .i64 0)] [(0, 1, (.c (.int .i64 2))), (3, 1, (.t 38)), (4, 1, (.t 39))])⟩, ⟨some 41, none, .v (.mov (.t 8))⟩, ⟨some 42, none, .v (.bin .add (.t 41) (.c (.int .i64 1)))⟩, ⟨some 43, none, .v (.mov (.t 1))⟩, ⟨some 44, none, .v (.bin .sub (.t 42) (.t 43))⟩, ⟨none, none, .store 5 (.t 4) (.t 40)⟩, ⟨some 5, none, .v (.mov (.t 44))⟩]) .ret)) (.seq (.reg [⟨some 46, none, .v (.mov (.t 9))⟩, ⟨some 47, none, .v (.bin .lss (.t 46) (.c (.int .u8 32)))⟩, ⟨some 45, none, .v (.mov (.t 47))⟩]) c_ref1_text_10)
def c_ref1_text_12 : SC := .block 2 (.seq (.reg [⟨some 27, none, .v (.mov (.t 9))⟩, ⟨some 28, none, .v (.bin .eql (.t 27) (.c (.int .u8 34)))⟩, ⟨some 26, none, .v (.mov (.t 28))⟩]) c_ref1_text_11)
def c_ref1_text_13 : SC := .seq (.block 1 (.seq (.reg [⟨some 19, none, .v (.mov (.t 0))⟩, ⟨some 20, none, .v (.mov (.t 8))⟩, ⟨some 21, none, .v (.istr (.t 19) (.t 20))⟩, ⟨some 9, none, .v (.mov (.t 21))⟩]) c_ref1_text_12)) c_ref1_text_2
def b_ref1_text_1 : SC := .seq (.seq (.reg [⟨some 13, none, .v (.mov (.t 8))⟩, ⟨some 14, none, .v (.mov (.t 0))⟩, ⟨some 15, none, .v (.len true (.t 14))⟩, ⟨some 16, none, .v (.bin .lss (.t 13) (.t 15))⟩]) (.cond (.t 16) .skip (.exit 0))) c_ref1_text_13
noncomputable def k_ref1_text_1 (SP : Prg) (x : EO) : CO := fin [(.cell 4 (some 5)), (.t 5)] (thC SP (inBlk 0 (x)) c_ref1_text_1)
end Go.Proofs.YtfbcnpbhhooapaaGreatDoor.M
namespace Go.Proofs.YtfbcnpbhhooapaaGreatDoor.M
set_option linter.unusedSimpArgs false
set_option linter.unusedVariables false
open Go Classical
theorem sp_Q137 : SP 137 = some (.code sc_Q137) := SPof_code rfl Tryz.func137 comp_Q137
theorem Q137_tree (c : UInt8) (r : Int) (T :
  (((c.toNat : Int) = 32) →
  1 = r) ∧
 (¬ ((c.toNat : Int) = 32) →
  (((c.toNat : Int) = 10) →
   1 = r) ∧
  (¬ ((c.toNat : Int) = 10) →
   (((c.toNat : Int) = 95) →
    2 = r) ∧
   (¬ ((c.toNat : Int) = 95) →
    ((97 ≤ (c.toNat : Int)) →
     (((c.toNat : Int) ≤ 122) →
      2 = r) ∧
     (¬ ((c.toNat : Int) ≤ 122) →
      ((48 ≤ (c.toNat : Int)) →
       (((c.toNat : Int) ≤ 57) →
        3 = r) ∧
       (¬ ((c.toNat : Int) ≤ 57) →
        (((c.toNat : Int) = 34) →
         4 = r) ∧
        (¬ ((c.toNat : Int) = 34) →
         (((c.toNat : Int) = 35) →
          5 = r) ∧
         (¬ ((c.toNat : Int) = 35) →
          0 = r)))) ∧
      (¬ (48 ≤ (c.toNat : Int)) →
       (((c.toNat : Int) = 34) →
        4 = r) ∧
       (¬ ((c.toNat : Int) = 34) →
        (((c.toNat : Int) = 35) →
         5 = r) ∧
        (¬ ((c.toNat : Int) = 35) →
         0 = r))))) ∧
    (¬ (97 ≤ (c.toNat : Int)) →
     ((48 ≤ (c.toNat : Int)) →
      (((c.toNat : Int) ≤ 57) →
       3 = r) ∧
      (¬ ((c.toNat : Int) ≤ 57) →
       (((c.toNat : Int) = 34) →
        4 = r) ∧
       (¬ ((c.toNat : Int) = 34) →
        (((c.toNat : Int) = 35) →
         5 = r) ∧
        (¬ ((c.toNat : Int) = 35) →
         0 = r)))) ∧
     (¬ (48 ≤ (c.toNat : Int)) →
      (((c.toNat : Int) = 34) →
       4 = r) ∧
      (¬ ((c.toNat : Int) = 34) →
       (((c.toNat : Int) = 35) →
        5 = r) ∧
       (¬ ((c.toNat : Int) = 35) →
        0 = r)))))))) : R_Q137 c r := by
 intro S
 rw [call_code sp_Q137 _ _ rfl]
 have F := U_Q137
 by_cases c1 : (c.toNat : Int) = 32
 · replace T := T.1 c1
   obtain rfl := T
   exact fi (aa (eq_true c1) <| F)
 · replace T := T.2 c1
   replace F := aa (eq_false c1) <| F
   by_cases c2 : (c.toNat : Int) = 10
   · replace T := T.1 c2
     obtain rfl := T
     exact fi (aa (eq_true c2) <| F)
   · replace T := T.2 c2
     replace F := aa (eq_false c2) <| F
     by_cases c3 : (c.toNat : Int) = 95
     · replace T := T.1 c3
       obtain rfl := T
       exact fi (aa (eq_true c3) <| F)
     · replace T := T.2 c3
       replace F := aa (eq_false c3) <| F
       by_cases c4 : 97 ≤ (c.toNat : Int)
       · replace T := T.1 c4
         replace F := aa (eq_true c4) <| F
         by_cases c5 : (c.toNat : Int) ≤ 122
         · replace T := T.1 c5
           obtain rfl := T
           exact fi (aa (eq_true c5) <| F)
         · replace T := T.2 c5
           replace F := aa (eq_false c5) <| F
           by_cases c6 : 48 ≤ (c.toNat : Int)
           · replace T := T.1 c6
             replace F := aa (eq_true c6) <| F
             by_cases c7 : (c.toNat : Int) ≤ 57
             · replace T := T.1 c7
               obtain rfl := T
               exact fi (aa (eq_true c7) <| F)
             · replace T := T.2 c7
               replace F := aa (eq_false c7) <| F
               by_cases c8 : (c.toNat : Int) = 34
               · replace T := T.1 c8
                 obtain rfl := T
                 exact fi (aa (eq_true c8) <| F)
               · replace T := T.2 c8
                 replace F := aa (eq_false c8) <| F
                 by_cases c9 : (c.toNat : Int) = 35
                 · replace T := T.1 c9
                   obtain rfl := T
                   exact fi (aa (eq_true c9) <| F)
                 · replace T := T.2 c9
                   obtain rfl := T
                   exact fi (aa (eq_false c9) <| F)
           · replace T := T.2 c6
             replace F := aa (eq_false c6) <| F
             by_cases c10 : (c.toNat : Int) = 34
             · replace T := T.1 c10
               obtain rfl := T
               exact fi (aa (eq_true c10) <| F)
             · replace T := T.2 c10
               replace F := aa (eq_false c10) <| F
               by_cases c11 : (c.toNat : Int) = 35
               · replace T := T.1 c11
                 obtain rfl := T
                 exact fi (aa (eq_true c11) <| F)
               · replace T := T.2 c11
                 obtain rfl := T
                 exact fi (aa (eq_false c11) <| F)
       · replace T := T.2 c4
         replace F := aa (eq_false c4) <| F
         by_cases c12 : 48 ≤ (c.toNat : Int)
         · replace T := T.1 c12
           replace F := aa (eq_true c12) <| F
           by_cases c13 : (c.toNat : Int) ≤ 57
           · replace T := T.1 c13
             obtain rfl := T
             exact fi (aa (eq_true c13) <| F)
           · replace T := T.2 c13
             replace F := aa (eq_false c13) <| F
             by_cases c14 : (c.toNat : Int) = 34
             · replace T := T.1 c14
               obtain rfl := T
               exact fi (aa (eq_true c14) <| F)
             · replace T := T.2 c14
               replace F := aa (eq_false c14) <| F
               by_cases c15 : (c.toNat : Int) = 35
               · replace T := T.1 c15
                 obtain rfl := T
                 exact fi (aa (eq_true c15) <| F)
               · replace T := T.2 c15
                 obtain rfl := T
                 exact fi (aa (eq_false c15) <| F)
         · replace T := T.2 c12
           replace F := aa (eq_false c12) <| F
           by_cases c16 : (c.toNat : Int) = 34
           · replace T := T.1 c16
             obtain rfl := T
             exact fi (aa (eq_true c16) <| F)
           · replace T := T.2 c16
             replace F := aa (eq_false c16) <| F
             by_cases c17 : (c.toNat : Int) = 35
             · replace T := T.1 c17
               obtain rfl := T
               exact fi (aa (eq_true c17) <| F)
             · replace T := T.2 c17
               obtain rfl := T
               exact fi (aa (eq_false c17) <| F)
theorem sp_Q151 : SP 151 = some (.code sc_Q151) := SPof_code rfl Tryz.func151 comp_Q151
def At_Q151_1 (s : List UInt8) (classes : List Int) (i1 : Int) (r : Int) : Prop := ∀ (S : Sto) (e : Nat → PV) (f : Fr), e 0 = .str s ∧ e 1 = .list 1 (classes.map eI) false ∧ e 7 = .int .i64 (s.length : Int) ∧ e 8 = .int .i64 i1 → k_Q151_1 SP (E SP (.loop b_Q151_1) ⟨e, f :: S⟩) = .ok (.v (.int .i64 r)) S
theorem At_Q151_1_step (s : List UInt8) (classes : List Int) (i1 : Int) (r : Int) (T :
  ((i1 < (s.length : Int)) →
  (0 ≤ i1) ∧
  ∃ (b2 : UInt8), (s[i1.toNat]? = some b2) ∧
  ∃ (r3 : Int), (R_Q137 b2 r3) ∧
  ∃ (r4 : Bool), (R_slices_Contains_int_int classes r3 r4) ∧
  ((r4 = true) →
   (I64 (i1 + 1)) ∧
   At_Q151_1 s classes (i1 + 1) r) ∧
  (¬ (r4 = true) →
   i1 = r)) ∧
 (¬ (i1 < (s.length : Int)) →
  (s.length : Int) = r)) : At_Q151_1 s classes i1 r := by
 intro S e f h
 unfold k_Q151_1
 rw [E_loop]
 have F := U_Q151
 replace F := aa h <| F
 by_cases c1 : i1 < (s.length : Int)
 · replace T := T.1 c1
   obtain ⟨p2, b2, q3, r3, q4, r4, q5, T⟩ := T
   simp only [R_Q137, le, List.cons_append, List.nil_append] at q4
   simp only [R_slices_Contains_int_int, le, List.cons_append, List.nil_append] at q5
   replace F := aa (eq_true c1) <| aa p2 <| aa q3 <| aa q4 <| aa q5 <| F
   by_cases c6 : r4 = true
   · replace T := T.1 c6
     obtain ⟨p7, T⟩ := T
     replace F := aa c6 <| aa p7.wrap <| F
     exact lo F T
   · replace T := T.2 c6
     replace c6 := Bool.eq_false_iff.2 c6
     obtain rfl := T
     exact fi (aa c6 <| F)
 · replace T := T.2 c1
   obtain rfl := T
   exact fi (aa (eq_false c1) <| F)
theorem Q151_tree (s : List UInt8) (classes : List Int) (r : Int) (T :
  At_Q151_1 s classes 0 r) : R_Q151 s classes r := by
 intro S
 rw [call_code sp_Q151 _ _ rfl]
 have F := U_Q151
 exact lo F T
theorem sp_Q135 : SP 135 = some (.code sc_Q135) := SPof_code rfl Tryz.func135 comp_Q135
theorem Q135_tree (t : LText) (n : Int) (r : List UInt8) (t' : LText) (T :
  (0 ≤ n) ∧ (n.toNat ≤ t.left.length) ∧
 (0 ≤ n) ∧ (n.toNat ≤ t.left.length) ∧
 (I64 (t.pos + n)) ∧
 (t.left.take (n.toNat)) = r ∧ (LText.mk ((t.left.drop n.toNat).take (t.left.length - n.toNat)) (t.pos + n)) = t') : R_Q135 t n r t' := by
 intro S n0 t0 H0
 have hb0 := H0
 obtain ⟨w0, hB0⟩ := take_some hb0
 have hn0 := o_getBox_lt hB0
 rw [call_code sp_Q135 _ _ rfl]
 have F := U_Q135
 obtain ⟨p1, p2, p3, p4, p5, rfl, rfl⟩ := T
 exact fi (aa hB0 <| aa hn0 <| aa p1 <| aa p2 <| aa p3 <| aa p4 <| aa p5.wrap <| F)
theorem sp_Q134 : SP 134 = some (.code sc_Q134) := SPof_code rfl Tryz.func134 comp_Q134
theorem Q134_tree (t : LText) (classes : List Int) (r : List UInt8) (t' : LText) (T :
  ∃ (r1 : Int), (R_Q151 t.left classes r1) ∧
 ∃ (r2 : List UInt8) (y3 : LText), (R_Q135 t r1 r2 y3) ∧
 r2 = r ∧ y3 = t') : R_Q134 t classes r t' := by
 intro S n0 t0 H0
 have hb0 := H0
 obtain ⟨w0, hB0⟩ := take_some hb0
 have hn0 := o_getBox_lt hB0
 rw [call_code sp_Q134 _ _ rfl]
 have F := U_Q134
 obtain ⟨r1, q1, r2, y3, q2, rfl, rfl⟩ := T
 simp only [R_Q151, le, List.cons_append, List.nil_append] at q1
 simp only [R_Q135, le, List.cons_append, List.nil_append] at q2
 exact fi (aa hB0 <| aa hn0 <| aa q1 <| aa q2 <| F)
theorem sp_Q165 : SP 165 = some (.code sc_Q165) := SPof_code rfl Tryz.func165 comp_Q165
theorem Q165_tree (p : List Part) (p_g0 : Nat) (p_z0 : Bool) (c : UInt8) (p' : List Part) (p'_g0 : Nat) (p'_z0 : Bool) (T :
  (((p.length : Int) = 0) →
  (bigRow (p.length + 1) 24) ∧
  (I64 ((p.length : Int) + 1)) ∧
  (I64 (((p.length : Int) + 1) - 1)) ∧
  (0 ≤ (((p.length : Int) + 1) - 1)) ∧ ((((p.length : Int) + 1) - 1).toNat < p.length + 1) ∧
  ∃ (v1 : Part), ((p ++ [(Part.mk false [])])[(((p.length : Int) + 1) - 1).toNat]? = some v1) ∧
  (v1.Text.length + 1 ≤ maxInt) ∧
  (0 ≤ (((p.length : Int) + 1) - 1)) ∧ ((((p.length : Int) + 1) - 1).toNat < p.length + 1) ∧
  (p_z0 = false) ∧
  ((p ++ [(Part.mk false [])]).set ((((p.length : Int) + 1) - 1).toNat) (Part.mk v1.Ref (v1.Text ++ [c]))) = p' ∧ p_g0 = p'_g0 ∧ p_z0 = p'_z0) ∧
 (¬ ((p.length : Int) = 0) →
  (I64 ((p.length : Int) - 1)) ∧
  (0 ≤ ((p.length : Int) - 1)) ∧ (((p.length : Int) - 1).toNat < p.length) ∧
  ∃ (v2 : Part), (p[((p.length : Int) - 1).toNat]? = some v2) ∧
  ((v2.Ref = true) →
   (bigRow (p.length + 1) 24) ∧
   (I64 ((p.length : Int) + 1)) ∧
   (I64 (((p.length : Int) + 1) - 1)) ∧
   (0 ≤ (((p.length : Int) + 1) - 1)) ∧ ((((p.length : Int) + 1) - 1).toNat < p.length + 1) ∧
   ∃ (v3 : Part), ((p ++ [(Part.mk false [])])[(((p.length : Int) + 1) - 1).toNat]? = some v3) ∧
   (v3.Text.length + 1 ≤ maxInt) ∧
   (0 ≤ (((p.length : Int) + 1) - 1)) ∧ ((((p.length : Int) + 1) - 1).toNat < p.length + 1) ∧
   (p_z0 = false) ∧
   ((p ++ [(Part.mk false [])]).set ((((p.length : Int) + 1) - 1).toNat) (Part.mk v3.Ref (v3.Text ++ [c]))) = p' ∧ p_g0 = p'_g0 ∧ p_z0 = p'_z0) ∧
  (¬ (v2.Ref = true) →
   (I64 ((p.length : Int) - 1)) ∧
   (0 ≤ ((p.length : Int) - 1)) ∧ (((p.length : Int) - 1).toNat < p.length) ∧
   (v2.Text.length + 1 ≤ maxInt) ∧
   (0 ≤ ((p.length : Int) - 1)) ∧ (((p.length : Int) - 1).toNat < p.length) ∧
   (p_z0 = false) ∧
   (p.set (((p.length : Int) - 1).toNat) (Part.mk v2.Ref (v2.Text ++ [c]))) = p' ∧ p_g0 = p'_g0 ∧ p_z0 = p'_z0))) : R_Q165 p p_g0 p_z0 c p' p'_g0 p'_z0 := by
 intro S n0 t0 H0
 obtain ⟨hb0, ha0⟩ := H0
 obtain ⟨w0, hB0⟩ := take_some hb0
 have hn0 := o_getBox_lt hB0
 rw [call_code sp_Q165 _ _ rfl]
 have F := U_Q165
 replace F := aa ha0 <| aa hB0 <| aa hn0 <| F
 by_cases c1 : (p.length : Int) = 0
 · replace T := T.1 c1
   obtain ⟨p2, p3, p4, p5, p6, v1, q7, p8, p9, p10, p11, rfl, rfl, rfl⟩ := T
   simp only [bigRow] at p2
   replace q7 := congrArg (Option.map ePart) q7
   rw [← List.getElem?_map] at q7
   simp only [le, List.map_append, Option.map_some] at q7
   exact fi (aa (eq_true c1) <| aa p2 <| aa p3.wrap <| aa p4.wrap <| aa p5 <| aa p6 <| aa q7 <| aa p8 <| aa p9 <| aa p10 <| aa p11 <| F)
 · replace T := T.2 c1
   obtain ⟨p12, p13, p14, v2, q15, T⟩ := T
   replace F := aa (eq_false c1) <| aa p12.wrap <| aa p13 <| aa p14 <| aa q15 <| F
   by_cases c16 : v2.Ref = true
   · replace T := T.1 c16
     obtain ⟨p17, p18, p19, p20, p21, v3, q22, p23, p24, p25, p26, rfl, rfl, rfl⟩ := T
     simp only [bigRow] at p17
     replace q22 := congrArg (Option.map ePart) q22
     rw [← List.getElem?_map] at q22
     simp only [le, List.map_append, Option.map_some] at q22
     exact fi (aa c16 <| aa p17 <| aa p18.wrap <| aa p19.wrap <| aa p20 <| aa p21 <| aa q22 <| aa p23 <| aa p24 <| aa p25 <| aa p26 <| F)
   · replace T := T.2 c16
     replace c16 := Bool.eq_false_iff.2 c16
     obtain ⟨p27, p28, p29, p30, p31, p32, p33, rfl, rfl, rfl⟩ := T
     exact fi (aa c16 <| aa p27.wrap <| aa p28 <| aa p29 <| aa p30 <| aa p31 <| aa p32 <| aa p33 <| F)
theorem sp_Q164 : SP 164 = some (.code sc_Q164) := SPof_code rfl Tryz.func164 comp_Q164
theorem Q164_tree (s : List UInt8) (ra : UInt8) (rb : Bool) (T :
  (((s.length : Int) < 2) →
  (0 : UInt8) = ra ∧ false = rb) ∧
 (¬ ((s.length : Int) < 2) →
  ∃ (b1 : UInt8), (s[1]? = some b1) ∧
  ∃ (r2 : Int), (R_strings_IndexByte [34, 92, 36, 110] b1 r2) ∧
  ((r2 < 0) →
   (0 : UInt8) = ra ∧ false = rb) ∧
  (¬ (r2 < 0) →
   (0 ≤ r2) ∧
   ∃ (b3 : UInt8), ([34, 92, 36, 10][r2.toNat]? = some b3) ∧
   b3 = ra ∧ true = rb))) : R_Q164 s ra rb := by
 intro S
 rw [call_code sp_Q164 _ _ rfl]
 have F := U_Q164
 by_cases c1 : (s.length : Int) < 2
 · replace T := T.1 c1
   obtain ⟨rfl, rfl⟩ := T
   exact fi (aa (eq_true c1) <| F)
 · replace T := T.2 c1
   obtain ⟨b1, q2, r2, q3, T⟩ := T
   simp only [R_strings_IndexByte, le, List.cons_append, List.nil_append] at q3
   replace F := aa (eq_false c1) <| aa q2 <| aa q3 <| F
   by_cases c4 : r2 < 0
   · replace T := T.1 c4
     obtain ⟨rfl, rfl⟩ := T
     exact fi (aa (eq_true c4) <| F)
   · replace T := T.2 c4
     obtain ⟨p5, b3, q6, rfl, rfl⟩ := T
     exact fi (aa (eq_false c4) <| aa p5 <| aa q6 <| F)
theorem sp_Q166 : SP 166 = some (.code sc_Q166) := SPof_code rfl Tryz.func166 comp_Q166
theorem Q166_tree (s : List UInt8) (ra : List UInt8) (rb : Bool) (T :
  (2 ≤ s.length) ∧
 ∃ (r1 : List UInt8) (r2 : List UInt8) (r3 : Bool), (R_strings_Cut ((s.drop 2).take (s.length - 2)) [125] r1 r2 r3) ∧
 ∃ (r4 : List UInt8) (r5 : List UInt8) (r6 : Bool), (R_strings_Cut r1 [46] r4 r5 r6) ∧
 ((r3 = true) →
  ((r6 = true) →
   ∃ (r7 : Bool), (R_Q115 r4 r7) ∧
   ((r7 = true) →
    ∃ (r8 : Bool), (R_Q115 r5 r8) ∧
    r1 = ra ∧ r8 = rb) ∧
   (¬ (r7 = true) →
    r1 = ra ∧ false = rb)) ∧
  (¬ (r6 = true) →
   r1 = ra ∧ false = rb)) ∧
 (¬ (r3 = true) →
  r1 = ra ∧ false = rb)) : R_Q166 s ra rb := by
 intro S
 rw [call_code sp_Q166 _ _ rfl]
 have F := U_Q166
 obtain ⟨p1, r1, r2, r3, q2, r4, r5, r6, q3, T⟩ := T
 simp only [R_strings_Cut, le, List.cons_append, List.nil_append] at q2
 simp only [R_strings_Cut, le, List.cons_append, List.nil_append] at q3
 replace F := aa p1 <| aa q2 <| aa q3 <| F
 by_cases c4 : r3 = true
 · replace T := T.1 c4
   replace F := aa c4 <| F
   by_cases c5 : r6 = true
   · replace T := T.1 c5
     obtain ⟨r7, q6, T⟩ := T
     simp only [R_Q115, le, List.cons_append, List.nil_append] at q6
     replace F := aa c5 <| aa q6 <| F
     by_cases c7 : r7 = true
     · replace T := T.1 c7
       obtain ⟨r8, q8, rfl, rfl⟩ := T
       simp only [R_Q115, le, List.cons_append, List.nil_append] at q8
       exact fi (aa c7 <| aa q8 <| F)
     · replace T := T.2 c7
       replace c7 := Bool.eq_false_iff.2 c7
       obtain ⟨rfl, rfl⟩ := T
       exact fi (aa c7 <| F)
   · replace T := T.2 c5
     replace c5 := Bool.eq_false_iff.2 c5
     obtain ⟨rfl, rfl⟩ := T
     exact fi (aa c5 <| F)
 · replace T := T.2 c4
   replace c4 := Bool.eq_false_iff.2 c4
   obtain ⟨rfl, rfl⟩ := T
   exact fi (aa c4 <| F)
theorem sp_Q115 : SP 115 = some (.code sc_Q115) := SPof_code rfl Tryz.func115 comp_Q115
theorem Q115_tree (s : List UInt8) (r : Bool) (T :
  ((s = []) →
  false = r) ∧
 (¬ (s = []) →
  (((s.length : Int) ≤ 24) →
   ∃ (b1 : UInt8), (s[0]? = some b1) ∧
   ∃ (r2 : Int), (R_Q137 b1 r2) ∧
   ((r2 = 2) →
    ∃ (r3 : Int), (R_Q151 s [2, 3] r3) ∧
    (decide (r3 = (s.length : Int))) = r) ∧
   (¬ (r2 = 2) →
    false = r)) ∧
  (¬ ((s.length : Int) ≤ 24) →
   false = r))) : R_Q115 s r := by
 intro S
 rw [call_code sp_Q115 _ _ rfl]
 have F := U_Q115
 by_cases c1 : s = []
 · replace T := T.1 c1
   obtain rfl := T
   exact fi (aa (eq_true c1) <| F)
 · replace T := T.2 c1
   replace F := aa (eq_false c1) <| F
   by_cases c2 : (s.length : Int) ≤ 24
   · replace T := T.1 c2
     obtain ⟨b1, q3, r2, q4, T⟩ := T
     simp only [R_Q137, le, List.cons_append, List.nil_append] at q4
     replace F := aa (eq_true c2) <| aa q3 <| aa q4 <| F
     by_cases c5 : r2 = 2
     · replace T := T.1 c5
       obtain ⟨r3, q6, rfl⟩ := T
       simp only [R_Q151, le, List.cons_append, List.nil_append] at q6
       exact fi (aa (eq_true c5) <| aa q6 <| F)
     · replace T := T.2 c5
       obtain rfl := T
       exact fi (aa (eq_false c5) <| F)
   · replace T := T.2 c2
     obtain rfl := T
     exact fi (aa (eq_false c2) <| F)
theorem sp_Q119 : SP 119 = some (.code sc_Q119) := SPof_code rfl Tryz.func119 comp_Q119
theorem Q119_tree (c : UInt8) (r : Bool) (T :
  ((48 ≤ (c.toNat : Int)) →
  (decide ((c.toNat : Int) ≤ 57)) = r) ∧
 (¬ (48 ≤ (c.toNat : Int)) →
  false = r)) : R_Q119 c r := by
 intro S
 rw [call_code sp_Q119 _ _ rfl]
 have F := U_Q119
 by_cases c1 : 48 ≤ (c.toNat : Int)
 · replace T := T.1 c1
   obtain rfl := T
   exact fi (aa (eq_true c1) <| F)
 · replace T := T.2 c1
   obtain rfl := T
   exact fi (aa (eq_false c1) <| F)
theorem sp_Q118 : SP 118 = some (.code sc_Q118) := SPof_code rfl Tryz.func118 comp_Q118
theorem Q118_tree (c : UInt8) (r : Bool) (T :
  ((97 ≤ (c.toNat : Int)) →
  (((c.toNat : Int) ≤ 122) →
   true = r) ∧
  (¬ ((c.toNat : Int) ≤ 122) →
   (decide ((c.toNat : Int) = 95)) = r)) ∧
 (¬ (97 ≤ (c.toNat : Int)) →
  (decide ((c.toNat : Int) = 95)) = r)) : R_Q118 c r := by
 intro S
 rw [call_code sp_Q118 _ _ rfl]
 have F := U_Q118
 by_cases c1 : 97 ≤ (c.toNat : Int)
 · replace T := T.1 c1
   replace F := aa (eq_true c1) <| F
   by_cases c2 : (c.toNat : Int) ≤ 122
   · replace T := T.1 c2
     obtain rfl := T
     exact fi (aa (eq_true c2) <| F)
   · replace T := T.2 c2
     obtain rfl := T
     exact fi (aa (eq_false c2) <| F)
 · replace T := T.2 c1
   obtain rfl := T
   exact fi (aa (eq_false c1) <| F)
theorem sp_Q77 : SP 77 = some (.code sc_Q77) := SPof_code rfl Tryz.func77 comp_Q77
def At_Q77_1 (s : List UInt8) (i3 : Int) (r : Int) : Prop := ∀ (S : Sto) (e : Nat → PV) (f : Fr), e 0 = .str s ∧ e 5 = .int .i64 i3 → k_Q77_1 SP (E SP (.loop b_Q77_1) ⟨e, f :: S⟩) = .ok (.v (.int .i64 r)) S
theorem At_Q77_1_step (s : List UInt8) (i3 : Int) (r : Int) (T :
  ((i3 < (s.length : Int)) →
  (0 ≤ i3) ∧
  ∃ (b4 : UInt8), (s[i3.toNat]? = some b4) ∧
  ∃ (r5 : Bool), (R_Q118 b4 r5) ∧
  ((r5 = true) →
   (I64 (i3 + 1)) ∧
   At_Q77_1 s (i3 + 1) r) ∧
  (¬ (r5 = true) →
   ∃ (r6 : Bool), (R_Q119 b4 r6) ∧
   ((r6 = true) →
    (I64 (i3 + 1)) ∧
    At_Q77_1 s (i3 + 1) r) ∧
   (¬ (r6 = true) →
    i3 = r))) ∧
 (¬ (i3 < (s.length : Int)) →
  i3 = r)) : At_Q77_1 s i3 r := by
 intro S e f h
 unfold k_Q77_1
 rw [E_loop]
 have F := U_Q77
 replace F := aa h <| F
 by_cases c1 : i3 < (s.length : Int)
 · replace T := T.1 c1
   obtain ⟨p2, b4, q3, r5, q4, T⟩ := T
   simp only [R_Q118, le, List.cons_append, List.nil_append] at q4
   replace F := aa (eq_true c1) <| aa p2 <| aa q3 <| aa q4 <| F
   by_cases c5 : r5 = true
   · replace T := T.1 c5
     obtain ⟨p6, T⟩ := T
     replace F := aa c5 <| aa p6.wrap <| F
     exact lo F T
   · replace T := T.2 c5
     replace c5 := Bool.eq_false_iff.2 c5
     obtain ⟨r6, q7, T⟩ := T
     simp only [R_Q119, le, List.cons_append, List.nil_append] at q7
     replace F := aa c5 <| aa q7 <| F
     by_cases c8 : r6 = true
     · replace T := T.1 c8
       obtain ⟨p9, T⟩ := T
       replace F := aa c8 <| aa p9.wrap <| F
       exact lo F T
     · replace T := T.2 c8
       replace c8 := Bool.eq_false_iff.2 c8
       obtain rfl := T
       exact fi (aa c8 <| F)
 · replace T := T.2 c1
   obtain rfl := T
   exact fi (aa (eq_false c1) <| F)
theorem Q77_tree (s : List UInt8) (i : Int) (r : Int) (T :
  (((s.length : Int) ≤ i) →
  i = r) ∧
 (¬ ((s.length : Int) ≤ i) →
  (0 ≤ i) ∧
  ∃ (b1 : UInt8), (s[i.toNat]? = some b1) ∧
  ∃ (r2 : Bool), (R_Q118 b1 r2) ∧
  ((r2 = true) →
   At_Q77_1 s i r) ∧
  (¬ (r2 = true) →
   i = r))) : R_Q77 s i r := by
 intro S
 rw [call_code sp_Q77 _ _ rfl]
 have F := U_Q77
 by_cases c1 : (s.length : Int) ≤ i
 · replace T := T.1 c1
   obtain rfl := T
   exact fi (aa (eq_true c1) <| F)
 · replace T := T.2 c1
   obtain ⟨p2, b1, q3, r2, q4, T⟩ := T
   simp only [R_Q118, le, List.cons_append, List.nil_append] at q4
   replace F := aa (eq_false c1) <| aa p2 <| aa q3 <| aa q4 <| F
   by_cases c5 : r2 = true
   · replace T := T.1 c5
     replace F := aa c5 <| F
     exact lo F T
   · replace T := T.2 c5
     replace c5 := Bool.eq_false_iff.2 c5
     obtain rfl := T
     exact fi (aa c5 <| F)
theorem sp_Q79 : SP 79 = some (.code sc_Q79) := SPof_code rfl Tryz.func79 comp_Q79
theorem Q79_tree (s : List UInt8) (r : Bool) (T :
  ((s = []) →
  false = r) ∧
 (¬ (s = []) →
  (((s.length : Int) ≤ 24) →
   ∃ (r1 : Int), (R_Q77 s 0 r1) ∧
   (decide (r1 = (s.length : Int))) = r) ∧
  (¬ ((s.length : Int) ≤ 24) →
   false = r))) : R_Q79 s r := by
 intro S
 rw [call_code sp_Q79 _ _ rfl]
 have F := U_Q79
 by_cases c1 : s = []
 · replace T := T.1 c1
   obtain rfl := T
   exact fi (aa (eq_true c1) <| F)
 · replace T := T.2 c1
   replace F := aa (eq_false c1) <| F
   by_cases c2 : (s.length : Int) ≤ 24
   · replace T := T.1 c2
     obtain ⟨r1, q3, rfl⟩ := T
     simp only [R_Q77, le, List.cons_append, List.nil_append] at q3
     exact fi (aa (eq_true c2) <| aa q3 <| F)
   · replace T := T.2 c2
     obtain rfl := T
     exact fi (aa (eq_false c2) <| F)
theorem sp_Q78 : SP 78 = some (.code sc_Q78) := SPof_code rfl Tryz.func78 comp_Q78
theorem Q78_tree (s : List UInt8) (r : Bool) (T :
  ∃ (r1 : Int), (R_Q77 s 0 r1) ∧
 ((0 < r1) →
  ((r1 < (s.length : Int)) →
   (0 ≤ r1) ∧
   ∃ (b2 : UInt8), (s[r1.toNat]? = some b2) ∧
   (((b2.toNat : Int) = 46) →
    (0 ≤ r1) ∧ (r1.toNat ≤ s.length) ∧
    ∃ (r3 : Bool), (R_Q79 (s.take (r1.toNat)) r3) ∧
    ((r3 = true) →
     (I64 (r1 + 1)) ∧
     (0 ≤ (r1 + 1)) ∧ ((r1 + 1).toNat ≤ s.length) ∧
     ∃ (r4 : Bool), (R_Q79 ((s.drop ((r1 + 1).toNat)).take (s.length - ((r1 + 1).toNat))) r4) ∧
     r4 = r) ∧
    (¬ (r3 = true) →
     false = r)) ∧
   (¬ ((b2.toNat : Int) = 46) →
    false = r)) ∧
  (¬ (r1 < (s.length : Int)) →
   false = r)) ∧
 (¬ (0 < r1) →
  false = r)) : R_Q78 s r := by
 intro S
 rw [call_code sp_Q78 _ _ rfl]
 have F := U_Q78
 obtain ⟨r1, q1, T⟩ := T
 simp only [R_Q77, le, List.cons_append, List.nil_append] at q1
 replace F := aa q1 <| F
 by_cases c2 : 0 < r1
 · replace T := T.1 c2
   replace F := aa (eq_true c2) <| F
   by_cases c3 : r1 < (s.length : Int)
   · replace T := T.1 c3
     obtain ⟨p4, b2, q5, T⟩ := T
     replace F := aa (eq_true c3) <| aa p4 <| aa q5 <| F
     by_cases c6 : (b2.toNat : Int) = 46
     · replace T := T.1 c6
       obtain ⟨p7, p8, r3, q9, T⟩ := T
       simp only [R_Q79, le, List.cons_append, List.nil_append] at q9
       replace F := aa (eq_true c6) <| aa p7 <| aa p8 <| aa q9 <| F
       by_cases c10 : r3 = true
       · replace T := T.1 c10
         obtain ⟨p11, p12, p13, r4, q14, rfl⟩ := T
         simp only [R_Q79, le, List.cons_append, List.nil_append] at q14
         exact fi (aa c10 <| aa p11.wrap <| aa p12 <| aa p13 <| aa q14 <| F)
       · replace T := T.2 c10
         replace c10 := Bool.eq_false_iff.2 c10
         obtain rfl := T
         exact fi (aa c10 <| F)
     · replace T := T.2 c6
       obtain rfl := T
       exact fi (aa (eq_false c6) <| F)
   · replace T := T.2 c3
     obtain rfl := T
     exact fi (aa (eq_false c3) <| F)
 · replace T := T.2 c2
   obtain rfl := T
   exact fi (aa (eq_false c2) <| F)
def At_ref1_text_1 (s : List UInt8) (i : Int) (i1 : Int) (i2 : Int) (s3 : List UInt8) (i4 : Int) (i5 : Int) (l6 : List Part) (g7 : Nat) (l8 : List Part) (l9 : List UInt8) (ra : Token) (rb : Int) : Prop := ∀ (S : Sto) (e : Nat → PV) (f : Fr), e 0 = .str s ∧ e 1 = .int .i64 i ∧ e 4 = .ptr 0 4 0 ∧ e 6 = .sl 0 (.slot 6) 0 l8.length l8.length 0 false ∧ e 7 = .sl 0 (.slot 7) 0 l9.length l9.length 0 false ∧ e 8 = .int .i64 i1 ∧ f.box 4 = some [.int .i64 i2, .str s3, .int .i64 i4, .sl 0 (.cell 4 3) 0 l6.length l6.length g7 false, .int .i64 i5] ∧ f.arr (.cell 4 3) = some ⟨2, l6.map ePart, false, g7⟩ ∧ f.arr (.slot 6) = some ⟨2, l8.map ePart, false, 0⟩ ∧ f.arr (.slot 7) = some ⟨1, l9.map eB, false, 0⟩ → k_ref1_text_1 SP (E SP (.loop b_ref1_text_1) ⟨e, f :: S⟩) = .ok (.v (.tup [.agg [.int .i64 ra.Kind, .str ra.Text, .int .i64 ra.Num, .list 2 (ra.Parts.map ePart) false, .int .i64 ra.At], .int .i64 rb])) S
end Go.Proofs.YtfbcnpbhhooapaaGreatDoor.M
namespace Go.Proofs.YtfbcnpbhhooapaaGreatDoor.M
open Go
set_option linter.unusedVariables false
def c_Q97_1 : SC := .block 1 (.seq (.reg [⟨some 17, none, .v (.mov (.t 0))⟩, ⟨some 18, none, .v (.nchk (.t 17))⟩, ⟨some 19, none, .v (.faddr 0 (.t 18))⟩, ⟨some 20, none, .v (.faddr 0 (.t 19))⟩, ⟨some 21, none, .v (.load none (.t 20))⟩, ⟨some 22, none, .call (.c (.func 112 [])) [(.t 21), (.c (.str [10]))]⟩, ⟨some 16, none, .v (.mov (.t 22))⟩, ⟨some 23, none, .v (.extract 0 (.t 16))⟩, ⟨some 24, none, .v (.extract 1 (.t 16))⟩, ⟨some 25, none, .v (.extract 2 (.t 16))⟩, ⟨some 2, none, .v (.mov (.t 23))⟩, ⟨some 3, none, .v (.mov (.t 24))⟩, ⟨some 4, none, .v (.mov (.t 25))⟩]) (.seq (.reg [⟨some 26, none, .v (.mov (.t 0))⟩, ⟨some 27, none, .v (.nchk (.t 26))⟩, ⟨some 28, none, .v (.faddr 0 (.t 27))⟩, ⟨some 29, none, .v (.mov (.t 2))⟩, ⟨some 30, none, .v (.len true (.t 29))⟩, ⟨some 31, none, .call (.c (.func 135 [])) [(.t 28), (.t 30)]⟩]) (.reg [⟨some 32, none, .v (.mov (.t 0))⟩, ⟨some 33, none, .v (.nchk (.t 32))⟩, ⟨some 34, none, .v (.faddr 0 (.t 33))⟩, ⟨some 35, none, .bslice 1 1 [(.int .i64 0)] [(0, (.c (.int .i64 1)))]⟩, ⟨some 36, none, .call (.c (.func 134 [])) [(.t 34), (.t 35)]⟩])))
def b_Q97_1 : SC := .seq (.seq (.reg [⟨some 10, none, .v (.mov (.t 0))⟩, ⟨some 11, none, .v (.nchk (.t 10))⟩, ⟨some 12, none, .v (.faddr 0 (.t 11))⟩, ⟨some 13, none, .v (.faddr 0 (.t 12))⟩, ⟨some 14, none, .v (.load none (.t 13))⟩, ⟨some 15, none, .call (.c (.func 129 [])) [(.t 14), (.c (.str [35]))]⟩]) (.cond (.t 15) .skip (.exit 0))) c_Q97_1
def c_Q97_2 : SC := .block 0 (.loop b_Q97_1)
def sc_Q97 : SFunc := ⟨1, 37, .seq (.reg [⟨some 5, none, .v (.mov (.t 0))⟩, ⟨some 6, none, .v (.nchk (.t 5))⟩, ⟨some 7, none, .v (.faddr 0 (.t 6))⟩, ⟨some 8, none, .bslice 1 1 [(.int .i64 0)] [(0, (.c (.int .i64 1)))]⟩, ⟨some 9, none, .call (.c (.func 134 [])) [(.t 7), (.t 8)]⟩]) c_Q97_2, []⟩
noncomputable def k_Q97_1 (SP : Prg) (x : EO) : CO := fin [] (inBlk 0 (x))
theorem U_Q97 : type_of% (And.intro (ue c_Q97_1.eq_1) <| And.intro (ue b_Q97_1.eq_1) <| And.intro (ue c_Q97_2.eq_1) <| sc_Q97.eq_1) := And.intro (ue c_Q97_1.eq_1) <| And.intro (ue b_Q97_1.eq_1) <| And.intro (ue c_Q97_2.eq_1) <| sc_Q97.eq_1
theorem comp_Q97 : comp Tryz.prog Tryz.f97 = some sc_Q97 := by kernel_rfl
def sc_Q138 : SFunc := ⟨1, 14, .seq (.reg [⟨some 2, none, .alloc [(.int .i64 0), (.str []), (.int .i64 0), (.nils 2), (.int .i64 0)]⟩, ⟨some 3, none, .v (.mov (.c (.bool false)))⟩]) (.seq (.reg [⟨some 5, none, .v (.mov (.t 0))⟩, ⟨some 6, none, .v (.nchk (.t 5))⟩, ⟨some 7, none, .v (.faddr 0 (.t 6))⟩, ⟨some 8, none, .bslice 1 2 [(.int .i64 0)] [(0, (.c (.int .i64 2))), (1, (.c (.int .i64 3)))]⟩, ⟨some 9, none, .call (.c (.func 134 [])) [(.t 7), (.t 8)]⟩, ⟨some 4, none, .v (.mov (.t 9))⟩]) (.seq (.reg [⟨some 10, none, .v (.mov (.t 4))⟩, ⟨some 11, none, .v (.build [(.int .i64 0), (.str []), (.int .i64 0), (.nils 2), (.int .i64 0)] [(0, 1, (.c (.int .i64 3))), (1, 1, (.t 10))])⟩, ⟨some 12, none, .v (.mov (.t 4))⟩, ⟨some 13, none, .call (.c (.func 115 [])) [(.t 12)]⟩, ⟨none, none, .store 5 (.t 2) (.t 11)⟩, ⟨some 3, none, .v (.mov (.t 13))⟩]) .ret)), [(.cell 2 (some 5)), (.t 3)]⟩
theorem U_Q138 : type_of% (sc_Q138.eq_1) := sc_Q138.eq_1
theorem comp_Q138 : comp Tryz.prog Tryz.f138 = some sc_Q138 := by kernel_rfl
def c_Q139_1 : SC := .seq (.reg [⟨some 7, none, .v (.mov (.t 0))⟩, ⟨some 8, none, .v (.nchk (.t 7))⟩, ⟨some 9, none, .v (.faddr 0 (.t 8))⟩, ⟨some 10, none, .bslice 1 1 [(.int .i64 0)] [(0, (.c (.int .i64 3)))]⟩, ⟨some 11, none, .call (.c (.func 134 [])) [(.t 9), (.t 10)]⟩, ⟨some 4, none, .v (.mov (.t 11))⟩]) (.seq (.reg [⟨some 13, none, .v (.mov (.t 4))⟩, ⟨some 14, none, .call (.c (.func 163 [])) [(.t 13)]⟩, ⟨some 12, none, .v (.mov (.t 14))⟩, ⟨some 15, none, .v (.extract 0 (.t 12))⟩, ⟨some 16, none, .v (.extract 1 (.t 12))⟩, ⟨some 5, none, .v (.mov (.t 15))⟩, ⟨some 6, none, .v (.mov (.t 16))⟩]) (.seq (.reg [⟨some 17, none, .v (.mov (.t 5))⟩, ⟨some 18, none, .v (.build [(.int .i64 0), (.str []), (.int .i64 0), (.nils 2), (.int .i64 0)] [(0, 1, (.c (.int .i64 1))), (2, 1, (.t 17))])⟩, ⟨some 19, none, .v (.mov (.t 6))⟩, ⟨some 20, none, .v (.isnile false (.t 19))⟩, ⟨some 21, none, .v (.mov (.t 20))⟩, ⟨some 22, some (21, true), .v (.mov (.t 5))⟩, ⟨some 23, some (21, true), .call (.c (.func 106 [])) [(.t 22)]⟩, ⟨some 24, some (21, true), .v (.mov (.t 4))⟩, ⟨some 25, some (21, true), .v (.bin .eql (.t 23) (.t 24))⟩, ⟨some 26, none, .v (.pick (.t 21) (.t 25) (.c (.bool false)))⟩, ⟨none, none, .store 5 (.t 2) (.t 18)⟩, ⟨some 3, none, .v (.mov (.t 26))⟩]) .ret))
def sc_Q139 : SFunc := ⟨1, 27, .seq (.reg [⟨some 2, none, .alloc [(.int .i64 0), (.str []), (.int .i64 0), (.nils 2), (.int .i64 0)]⟩, ⟨some 3, none, .v (.mov (.c (.bool false)))⟩]) c_Q139_1, [(.cell 2 (some 5)), (.t 3)]⟩
theorem U_Q139 : type_of% (And.intro (ue c_Q139_1.eq_1) <| sc_Q139.eq_1) := And.intro (ue c_Q139_1.eq_1) <| sc_Q139.eq_1
theorem comp_Q139 : comp Tryz.prog Tryz.f139 = some sc_Q139 := by kernel_rfl
def c_Q140_1 : SC := .seq (.reg [⟨some 98, none, .v (.build [(.int .i64 0), (.str []), (.int .i64 0), (.nils 2), (.int .i64 0)] [])⟩, ⟨none, none, .store 5 (.t 2) (.t 98)⟩, ⟨some 3, none, .v (.mov (.c (.bool false)))⟩]) .ret
def c_Q140_2 : SC := .seq (.seq (.reg [⟨some 83, none, .v (.mov (.t 9))⟩, ⟨some 84, none, .v (.un .not (.t 83))⟩]) (.cond (.t 84) (.seq (.reg [⟨some 85, none, .v (.build [(.int .i64 0), (.str []), (.int .i64 0), (.nils 2), (.int .i64 0)] [])⟩, ⟨none, none, .store 5 (.t 2) (.t 85)⟩, ⟨some 3, none, .v (.mov (.c (.bool false)))⟩]) .ret) .skip)) (.seq (.reg [⟨some 86, none, .v (.load none (.t 4))⟩, ⟨some 87, none, .v (.mov (.t 8))⟩, ⟨some 88, none, .v (.build [(.bool false), (.str [])] [(0, 1, (.c (.bool true))), (1, 1, (.t 87))])⟩, ⟨some 89, none, .bslice 2 1 [(.bool false), (.str [])] [(0, (.t 88))]⟩, ⟨some 90, none, .append 2 24 (.t 86) (.t 89)⟩, ⟨none, none, .store 1 (.t 4) (.t 90)⟩]) (.reg [⟨some 91, none, .v (.mov (.t 0))⟩, ⟨some 92, none, .v (.nchk (.t 91))⟩, ⟨some 93, none, .v (.faddr 0 (.t 92))⟩, ⟨some 94, none, .v (.mov (.t 8))⟩, ⟨some 95, none, .v (.len true (.t 94))⟩, ⟨some 96, none, .v (.bin .add (.c (.int .i64 3)) (.t 95))⟩, ⟨some 97, none, .call (.c (.func 135 [])) [(.t 93), (.t 96)]⟩]))
def c_Q140_3 : SC := .cond (.t 67) (.seq (.reg [⟨some 75, none, .v (.mov (.t 0))⟩, ⟨some 76, none, .v (.nchk (.t 75))⟩, ⟨some 77, none, .v (.faddr 0 (.t 76))⟩, ⟨some 78, none, .v (.faddr 0 (.t 77))⟩, ⟨some 79, none, .v (.load none (.t 78))⟩, ⟨some 80, none, .call (.c (.func 166 [])) [(.t 79)]⟩, ⟨some 74, none, .v (.mov (.t 80))⟩, ⟨some 81, none, .v (.extract 0 (.t 74))⟩, ⟨some 82, none, .v (.extract 1 (.t 74))⟩, ⟨some 8, none, .v (.mov (.t 81))⟩, ⟨some 9, none, .v (.mov (.t 82))⟩]) c_Q140_2) (.seq (.reg [⟨some 26, none, .v (.mov (.t 5))⟩, ⟨some 27, none, .call (.c (.func 165 [])) [(.t 4), (.t 26)]⟩]) (.reg [⟨some 28, none, .v (.mov (.t 0))⟩, ⟨some 29, none, .v (.nchk (.t 28))⟩, ⟨some 30, none, .v (.faddr 0 (.t 29))⟩, ⟨some 31, none, .call (.c (.func 135 [])) [(.t 30), (.c (.int .i64 1))]⟩]))
def c_Q140_4 : SC := .cond (.t 46) (.seq (.reg [⟨some 50, none, .v (.mov (.t 0))⟩, ⟨some 51, none, .v (.nchk (.t 50))⟩, ⟨some 52, none, .v (.faddr 0 (.t 51))⟩, ⟨some 53, none, .v (.faddr 0 (.t 52))⟩, ⟨some 54, none, .v (.load none (.t 53))⟩, ⟨some 55, none, .call (.c (.func 164 [])) [(.t 54)]⟩, ⟨some 49, none, .v (.mov (.t 55))⟩, ⟨some 56, none, .v (.extract 0 (.t 49))⟩, ⟨some 57, none, .v (.extract 1 (.t 49))⟩, ⟨some 6, none, .v (.mov (.t 56))⟩, ⟨some 7, none, .v (.mov (.t 57))⟩]) (.seq (.seq (.reg [⟨some 58, none, .v (.mov (.t 7))⟩, ⟨some 59, none, .v (.un .not (.t 58))⟩]) (.cond (.t 59) (.seq (.reg [⟨some 60, none, .v (.build [(.int .i64 0), (.str []), (.int .i64 0), (.nils 2), (.int .i64 0)] [])⟩, ⟨none, none, .store 5 (.t 2) (.t 60)⟩, ⟨some 3, none, .v (.mov (.c (.bool false)))⟩]) .ret) .skip)) (.seq (.reg [⟨some 61, none, .v (.mov (.t 6))⟩, ⟨some 62, none, .call (.c (.func 165 [])) [(.t 4), (.t 61)]⟩]) (.reg [⟨some 63, none, .v (.mov (.t 0))⟩, ⟨some 64, none, .v (.nchk (.t 63))⟩, ⟨some 65, none, .v (.faddr 0 (.t 64))⟩, ⟨some 66, none, .call (.c (.func 135 [])) [(.t 65), (.c (.int .i64 2))]⟩])))) (.seq (.reg [⟨some 68, none, .v (.mov (.t 0))⟩, ⟨some 69, none, .v (.nchk (.t 68))⟩, ⟨some 70, none, .v (.faddr 0 (.t 69))⟩, ⟨some 71, none, .v (.faddr 0 (.t 70))⟩, ⟨some 72, none, .v (.load none (.t 71))⟩, ⟨some 73, none, .call (.c (.func 129 [])) [(.t 72), (.c (.str [36, 123]))]⟩, ⟨some 67, none, .v (.mov (.t 73))⟩]) c_Q140_3)
def c_Q140_5 : SC := .cond (.t 42) (.seq (.reg [⟨some 45, none, .v (.build [(.int .i64 0), (.str []), (.int .i64 0), (.nils 2), (.int .i64 0)] [])⟩, ⟨none, none, .store 5 (.t 2) (.t 45)⟩, ⟨some 3, none, .v (.mov (.c (.bool false)))⟩]) .ret) (.seq (.reg [⟨some 47, none, .v (.mov (.t 5))⟩, ⟨some 48, none, .v (.bin .eql (.t 47) (.c (.int .u8 92)))⟩, ⟨some 46, none, .v (.mov (.t 48))⟩]) c_Q140_4)
def c_Q140_6 : SC := .cond (.t 32) (.seq (.reg [⟨some 36, none, .v (.mov (.t 0))⟩, ⟨some 37, none, .v (.nchk (.t 36))⟩, ⟨some 38, none, .v (.faddr 0 (.t 37))⟩, ⟨some 39, none, .call (.c (.func 135 [])) [(.t 38), (.c (.int .i64 1))]⟩]) (.seq (.reg [⟨some 40, none, .v (.load none (.t 4))⟩, ⟨some 41, none, .v (.build [(.int .i64 0), (.str []), (.int .i64 0), (.nils 2), (.int .i64 0)] [(0, 1, (.c (.int .i64 2))), (3, 1, (.t 40))])⟩, ⟨none, none, .store 5 (.t 2) (.t 41)⟩, ⟨some 3, none, .v (.mov (.c (.bool true)))⟩]) .ret)) (.seq (.reg [⟨some 43, none, .v (.mov (.t 5))⟩, ⟨some 44, none, .v (.bin .lss (.t 43) (.c (.int .u8 32)))⟩, ⟨some 42, none, .v (.mov (.t 44))⟩]) c_Q140_5)
def c_Q140_7 : SC := .block 2 (.seq (.reg [⟨some 33, none, .v (.mov (.t 5))⟩, ⟨some 34, none, .call (.c (.func 137 [])) [(.t 33)]⟩, ⟨some 35, none, .v (.bin .eql (.t 34) (.c (.int .i64 4)))⟩, ⟨some 32, none, .v (.mov (.t 35))⟩]) c_Q140_6)
def c_Q140_8 : SC := .block 1 (.seq (.reg [⟨some 20, none, .v (.mov (.t 0))⟩, ⟨some 21, none, .v (.nchk (.t 20))⟩, ⟨some 22, none, .v (.faddr 0 (.t 21))⟩, ⟨some 23, none, .v (.faddr 0 (.t 22))⟩, ⟨some 24, none, .v (.load none (.t 23))⟩, ⟨some 25, none, .v (.istr (.t 24) (.c (.int .i64 0)))⟩, ⟨some 5, none, .v (.mov (.t 25))⟩]) c_Q140_7)
def b_Q140_1 : SC := .seq (.seq (.reg [⟨some 14, none, .v (.mov (.t 0))⟩, ⟨some 15, none, .v (.nchk (.t 14))⟩, ⟨some 16, none, .v (.faddr 0 (.t 15))⟩, ⟨some 17, none, .v (.faddr 0 (.t 16))⟩, ⟨some 18, none, .v (.load none (.t 17))⟩, ⟨some 19, none, .v (.bin .neq (.t 18) (.c (.str [])))⟩]) (.cond (.t 19) .skip (.exit 0))) c_Q140_8
def c_Q140_9 : SC := .seq (.block 0 (.loop b_Q140_1)) c_Q140_1
def c_Q140_10 : SC := .seq (.reg [⟨some 10, none, .v (.mov (.t 0))⟩, ⟨some 11, none, .v (.nchk (.t 10))⟩, ⟨some 12, none, .v (.faddr 0 (.t 11))⟩, ⟨some 13, none, .call (.c (.func 135 [])) [(.t 12), (.c (.int .i64 1))]⟩]) c_Q140_9
def c_Q140_11 : SC := .seq (.reg [⟨some 4, none, .alloc [(.nils 2)]⟩]) c_Q140_10
def sc_Q140 : SFunc := ⟨1, 99, .seq (.reg [⟨some 2, none, .alloc [(.int .i64 0), (.str []), (.int .i64 0), (.nils 2), (.int .i64 0)]⟩, ⟨some 3, none, .v (.mov (.c (.bool false)))⟩]) c_Q140_11, [(.cell 2 (some 5)), (.t 3)]⟩
noncomputable def k_Q140_1 (SP : Prg) (x : EO) : CO := fin [(.cell 2 (some 5)), (.t 3)] (thC SP (inBlk 0 (x)) c_Q140_1)
theorem U_Q140 : type_of% (And.intro (ue c_Q140_1.eq_1) <| And.intro (ue c_Q140_2.eq_1) <| And.intro (ue c_Q140_3.eq_1) <| And.intro (ue c_Q140_4.eq_1) <| And.intro (ue c_Q140_5.eq_1) <| And.intro (ue c_Q140_6.eq_1) <| And.intro (ue c_Q140_7.eq_1) <| And.intro (ue c_Q140_8.eq_1) <| And.intro (ue b_Q140_1.eq_1) <| And.intro (ue c_Q140_9.eq_1) <| And.intro (ue c_Q140_10.eq_1) <| And.intro (ue c_Q140_11.eq_1) <| sc_Q140.eq_1) := And.intro (ue c_Q140_1.eq_1) <| And.intro (ue c_Q140_2.eq_1) <| And.intro (ue c_Q140_3.eq_1) <| And.intro (ue c_Q140_4.eq_1) <| And.intro (ue c_Q140_5.eq_1) <| And.intro (ue c_Q140_6.eq_1) <| And.intro (ue c_Q140_7.eq_1) <| And.intro (ue c_Q140_8.eq_1) <| And.intro (ue b_Q140_1.eq_1) <| And.intro (ue c_Q140_9.eq_1) <| And.intro (ue c_Q140_10.eq_1) <| And.intro (ue c_Q140_11.eq_1) <| sc_Q140.eq_1
theorem comp_Q140 : comp Tryz.prog Tryz.f140 = some sc_Q140 := by kernel_rfl
def c_Q136_1 : SC := .seq (.reg [⟨some 28, none, .v (.mov (.t 0))⟩, ⟨some 29, none, .v (.nchk (.t 28))⟩, ⟨some 30, none, .v (.faddr 0 (.t 29))⟩, ⟨some 31, none, .v (.mov (.t 4))⟩, ⟨some 32, none, .v (.len true (.t 31))⟩, ⟨some 33, none, .call (.c (.func 135 [])) [(.t 30), (.t 32)]⟩, ⟨some 34, none, .v (.build [(.int .i64 0), (.str []), (.int .i64 0), (.nils 2), (.int .i64 0)] [(0, 1, (.c (.int .i64 4))), (1, 1, (.t 33))])⟩, ⟨none, none, .store 5 (.t 2) (.t 34)⟩, ⟨some 3, none, .v (.mov (.c (.bool true)))⟩]) .ret
def c_Q136_2 : SC := .seq (.seq (.reg [⟨some 18, none, .bslice 1 6 [(.str [])] [(0, (.c (.str [61, 61]))), (1, (.c (.str [33, 61]))), (2, (.c (.str [60, 61]))), (3, (.c (.str [62, 61]))), (4, (.c (.str [38, 38]))), (5, (.c (.str [124, 124])))]⟩, ⟨some 19, none, .v (.mov (.t 4))⟩, ⟨some 20, none, .call (.c (.func 161 [])) [(.t 18), (.t 19)]⟩, ⟨some 21, none, .v (.un .not (.t 20))⟩]) (.cond (.t 21) (.seq (.reg [⟨some 22, none, .v (.mov (.t 4))⟩, ⟨some 23, none, .v (.sls (.t 22) none (some (.c (.int .i64 1))))⟩, ⟨some 4, none, .v (.mov (.t 23))⟩]) (.seq (.reg [⟨some 24, none, .v (.mov (.t 4))⟩, ⟨some 25, none, .call (.c (.func 162 [])) [(.c (.str [123, 125, 91, 93, 40, 41, 61, 44, 46, 43, 45, 42, 47, 37, 60, 62, 33, 63, 58])), (.t 24)]⟩, ⟨some 26, none, .v (.un .not (.t 25))⟩]) (.cond (.t 26) (.seq (.reg [⟨some 27, none, .v (.build [(.int .i64 0), (.str []), (.int .i64 0), (.nils 2), (.int .i64 0)] [])⟩, ⟨none, none, .store 5 (.t 2) (.t 27)⟩, ⟨some 3, none, .v (.mov (.c (.bool false)))⟩]) .ret) .skip))) .skip)) c_Q136_1
def c_Q136_3 : SC := .seq (.dreg [⟨some 5, none, .v (.mov (.t 0))⟩, ⟨some 6, none, .v (.nchk (.t 5))⟩, ⟨some 7, none, .v (.faddr 0 (.t 6))⟩, ⟨some 8, none, .v (.faddr 0 (.t 7))⟩, ⟨some 9, none, .v (.load none (.t 8))⟩, ⟨some 10, none, .v (.mov (.t 0))⟩, ⟨some 11, none, .v (.nchk (.t 10))⟩, ⟨some 12, none, .v (.faddr 0 (.t 11))⟩, ⟨some 13, none, .v (.faddr 0 (.t 12))⟩, ⟨some 14, none, .v (.load none (.t 13))⟩, ⟨some 15, none, .v (.len true (.t 14))⟩, ⟨some 16, none, .v (.mm false (.c (.int .i64 2)) (.t 15))⟩, ⟨some 17, none, .v (.sls (.t 9) none (some (.t 16)))⟩, ⟨some 4, none, .v (.mov (.t 17))⟩] [false, false, false, false, false, false, false, false, false, false, false, false, true, true]) c_Q136_2
def sc_Q136 : SFunc := ⟨1, 35, .seq (.reg [⟨some 2, none, .alloc [(.int .i64 0), (.str []), (.int .i64 0), (.nils 2), (.int .i64 0)]⟩, ⟨some 3, none, .v (.mov (.c (.bool false)))⟩]) c_Q136_3, [(.cell 2 (some 5)), (.t 3)]⟩
theorem U_Q136 : type_of% (And.intro (ue c_Q136_1.eq_1) <| And.intro (ue c_Q136_2.eq_1) <| And.intro (ue c_Q136_3.eq_1) <| sc_Q136.eq_1) := And.intro (ue c_Q136_1.eq_1) <| And.intro (ue c_Q136_2.eq_1) <| And.intro (ue c_Q136_3.eq_1) <| sc_Q136.eq_1
theorem comp_Q136 : comp Tryz.prog Tryz.f136 = some sc_Q136 := by kernel_rfl
def c_Q98_1 : SC := .seq (.reg [⟨some 34, none, .v (.mov (.t 4))⟩, ⟨some 35, none, .call (.t 34) []⟩, ⟨some 33, none, .v (.mov (.t 35))⟩, ⟨some 36, none, .v (.extract 0 (.t 33))⟩, ⟨some 37, none, .v (.extract 1 (.t 33))⟩, ⟨some 5, none, .alloc [(.int .i64 0), (.str []), (.int .i64 0), (.nils 2), (.int .i64 0)]⟩, ⟨none, none, .store 5 (.t 5) (.t 36)⟩, ⟨some 6, none, .v (.mov (.t 37))⟩]) (.seq (.reg [⟨some 38, none, .v (.mov (.t 3))⟩, ⟨some 39, none, .v (.faddr 4 (.t 5))⟩, ⟨none, none, .store 1 (.t 39) (.t 38)⟩]) (.seq (.dreg [⟨some 40, none, .v (.mov (.t 0))⟩, ⟨some 41, none, .v (.mov (.t 0))⟩, ⟨some 42, none, .v (.nchk (.t 41))⟩, ⟨some 43, none, .v (.faddr 2 (.t 42))⟩, ⟨some 44, none, .v (.load none (.t 43))⟩, ⟨some 45, none, .v (.load (some 5) (.t 5))⟩, ⟨some 46, none, .bslice 5 1 [(.int .i64 0), (.str []), (.int .i64 0), (.nils 2), (.int .i64 0)] [(0, (.t 45))]⟩, ⟨some 47, none, .append 5 64 (.t 44) (.t 46)⟩, ⟨some 48, none, .v (.nchk (.t 40))⟩, ⟨some 49, none, .v (.faddr 2 (.t 48))⟩, ⟨none, none, .store 1 (.t 49) (.t 47)⟩] [false, false, false, false, false, false, false, true, true, true, true]) (.seq (.reg [⟨some 50, none, .v (.mov (.t 6))⟩, ⟨some 2, none, .v (.mov (.t 50))⟩]) .ret)))
def c_Q98_2 : SC := .seq (.seq (.reg [⟨some 14, none, .v (.mov (.t 0))⟩, ⟨some 15, none, .v (.nchk (.t 14))⟩, ⟨some 16, none, .v (.faddr 0 (.t 15))⟩, ⟨some 17, none, .v (.faddr 0 (.t 16))⟩, ⟨some 18, none, .v (.load none (.t 17))⟩, ⟨some 19, none, .v (.istr (.t 18) (.c (.int .i64 0)))⟩, ⟨some 20, none, .call (.c (.func 137 [])) [(.t 19)]⟩]) (.block 0 (.seq (.reg [⟨some 22, none, .v (.bin .eql (.t 20) (.c (.int .i64 2)))⟩, ⟨some 21, none, .v (.mov (.t 22))⟩]) (.cond (.t 21) (.reg [⟨some 23, none, .v (.mov (.t 0))⟩, ⟨some 24, none, .v (.meth 138 [(.t 23)])⟩, ⟨some 4, none, .v (.mov (.t 24))⟩]) (.seq (.reg [⟨some 26, none, .v (.bin .eql (.t 20) (.c (.int .i64 3)))⟩, ⟨some 25, none, .v (.mov (.t 26))⟩]) (.cond (.t 25) (.reg [⟨some 27, none, .v (.mov (.t 0))⟩, ⟨some 28, none, .v (.meth 139 [(.t 27)])⟩, ⟨some 4, none, .v (.mov (.t 28))⟩]) (.seq (.reg [⟨some 30, none, .v (.bin .eql (.t 20) (.c (.int .i64 4)))⟩, ⟨some 29, none, .v (.mov (.t 30))⟩]) (.cond (.t 29) (.reg [⟨some 31, none, .v (.mov (.t 0))⟩, ⟨some 32, none, .v (.meth 140 [(.t 31)])⟩, ⟨some 4, none, .v (.mov (.t 32))⟩]) .skip)))))))) c_Q98_1
def c_Q98_3 : SC := .seq (.reg [⟨some 12, none, .v (.mov (.t 0))⟩, ⟨some 13, none, .v (.meth 136 [(.t 12)])⟩, ⟨some 4, none, .v (.mov (.t 13))⟩]) c_Q98_2
def c_Q98_4 : SC := .seq (.reg [⟨some 7, none, .v (.mov (.t 0))⟩, ⟨some 8, none, .v (.nchk (.t 7))⟩, ⟨some 9, none, .v (.faddr 0 (.t 8))⟩, ⟨some 10, none, .v (.faddr 1 (.t 9))⟩, ⟨some 11, none, .v (.load none (.t 10))⟩, ⟨some 3, none, .v (.mov (.t 11))⟩]) c_Q98_3
def sc_Q98 : SFunc := ⟨1, 51, .seq (.reg [⟨some 2, none, .v (.mov (.c (.bool false)))⟩]) c_Q98_4, [(.t 2)]⟩
theorem U_Q98 : type_of% (And.intro (ue c_Q98_1.eq_1) <| And.intro (ue c_Q98_2.eq_1) <| And.intro (ue c_Q98_3.eq_1) <| And.intro (ue c_Q98_4.eq_1) <| sc_Q98.eq_1) := And.intro (ue c_Q98_1.eq_1) <| And.intro (ue c_Q98_2.eq_1) <| And.intro (ue c_Q98_3.eq_1) <| And.intro (ue c_Q98_4.eq_1) <| sc_Q98.eq_1
theorem comp_Q98 : comp Tryz.prog Tryz.f98 = some sc_Q98 := by kernel_rfl
def c_Q60_1 : SC := .seq (.dreg [⟨some 25, none, .v (.mov (.t 4))⟩, ⟨some 26, none, .v (.nchk (.t 25))⟩, ⟨some 27, none, .v (.faddr 2 (.t 26))⟩, ⟨some 28, none, .v (.load none (.t 27))⟩, ⟨some 29, none, .v (.mov (.t 4))⟩, ⟨some 30, none, .v (.nchk (.t 29))⟩, ⟨some 31, none, .v (.faddr 0 (.t 30))⟩, ⟨some 32, none, .v (.faddr 1 (.t 31))⟩, ⟨some 33, none, .v (.load none (.t 32))⟩, ⟨some 34, none, .v (.build [(.int .i64 0), (.str []), (.int .i64 0), (.nils 2), (.int .i64 0)] [(0, 1, (.c (.int .i64 0))), (4, 1, (.t 33))])⟩, ⟨some 35, none, .bslice 5 1 [(.int .i64 0), (.str []), (.int .i64 0), (.nils 2), (.int .i64 0)] [(0, (.t 34))]⟩, ⟨some 36, none, .append 5 64 (.t 28) (.t 35)⟩, ⟨some 2, none, .v (.mov (.t 36))⟩, ⟨some 3, none, .v (.mov (.c (.int .i64 0)))⟩] [false, false, false, false, false, false, false, false, false, false, false, true, true, true]) .ret
def b_Q60_1 : SC := .seq (.seq (.reg [⟨some 14, none, .v (.mov (.t 4))⟩, ⟨some 15, none, .v (.nchk (.t 14))⟩, ⟨some 16, none, .v (.faddr 0 (.t 15))⟩, ⟨some 17, none, .v (.faddr 0 (.t 16))⟩, ⟨some 18, none, .v (.load none (.t 17))⟩, ⟨some 19, none, .v (.bin .neq (.t 18) (.c (.str [])))⟩]) (.cond (.t 19) .skip (.exit 0))) (.seq (.block 1 (.seq (.reg [⟨some 22, none, .v (.mov (.t 4))⟩, ⟨some 23, none, .call (.c (.func 98 [])) [(.t 22)]⟩, ⟨some 24, none, .v (.un .not (.t 23))⟩]) (.cond (.t 24) (.seq (.reg [⟨some 2, none, .nilv 5⟩, ⟨some 3, none, .v (.mov (.c (.int .i64 5)))⟩]) .ret) .skip))) (.reg [⟨some 20, none, .v (.mov (.t 4))⟩, ⟨some 21, none, .call (.c (.func 97 [])) [(.t 20)]⟩]))
def c_Q60_2 : SC := .seq (.seq (.reg [⟨some 12, none, .v (.mov (.t 4))⟩, ⟨some 13, none, .call (.c (.func 97 [])) [(.t 12)]⟩]) (.block 0 (.loop b_Q60_1))) c_Q60_1
def c_Q60_3 : SC := .seq (.reg [⟨some 8, none, .v (.mov (.t 0))⟩, ⟨some 9, none, .v (.build [(.str []), (.int .i64 0)] [(0, 1, (.t 8))])⟩, ⟨some 10, none, .v (.build [(.str []), (.int .i64 0), (.nils 5)] [(0, 2, (.t 9))])⟩, ⟨some 11, none, .box (.t 10)⟩, ⟨some 4, none, .v (.mov (.t 11))⟩]) c_Q60_2
def c_Q60_4 : SC := .seq (.seq (.reg [⟨some 5, none, .v (.mov (.t 0))⟩, ⟨some 6, none, .v (.len true (.t 5))⟩, ⟨some 7, none, .v (.bin .gtr (.t 6) (.c (.int .i64 6000)))⟩]) (.cond (.t 7) (.seq (.reg [⟨some 2, none, .nilv 5⟩, ⟨some 3, none, .v (.mov (.c (.int .i64 4)))⟩]) .ret) .skip)) c_Q60_3
def sc_Q60 : SFunc := ⟨1, 37, .seq (.reg [⟨some 2, none, .nilv 5⟩, ⟨some 3, none, .v (.mov (.c (.int .i64 0)))⟩]) c_Q60_4, [(.t 2), (.t 3)]⟩
noncomputable def k_Q60_1 (SP : Prg) (x : EO) : CO := fin [(.t 2), (.t 3)] (thC SP (inBlk 0 (x)) c_Q60_1)
theorem U_Q60 : type_of% (And.intro (ue c_Q60_1.eq_1) <| And.intro (ue b_Q60_1.eq_1) <| And.intro (ue c_Q60_2.eq_1) <| And.intro (ue c_Q60_3.eq_1) <| And.intro (ue c_Q60_4.eq_1) <| sc_Q60.eq_1) := And.intro (ue c_Q60_1.eq_1) <| And.intro (ue b_Q60_1.eq_1) <| And.intro (ue c_Q60_2.eq_1) <| And.intro (ue c_Q60_3.eq_1) <| And.intro (ue c_Q60_4.eq_1) <| sc_Q60.eq_1
theorem comp_Q60 : comp Tryz.prog Tryz.f60 = some sc_Q60 := by kernel_rfl
def sc_Q81 : SFunc := ⟨1, 16, .seq (.reg [⟨some 2, none, .v (.mov (.c (.bool false)))⟩]) (.seq (.reg [⟨some 3, none, .v (.mov (.t 0))⟩, ⟨some 4, none, .call (.c (.func 120 [])) [(.t 3), (.c (.str [45])), (.c (.str [95]))]⟩, ⟨some 5, none, .call (.c (.func 115 [])) [(.t 4)]⟩, ⟨some 6, none, .v (.mov (.t 5))⟩, ⟨some 7, some (6, true), .v (.mov (.t 0))⟩, ⟨some 8, some (6, true), .v (.istr (.t 7) (.c (.int .i64 0)))⟩, ⟨some 9, some (6, true), .v (.bin .neq (.t 8) (.c (.int .u8 45)))⟩, ⟨some 10, none, .v (.pick (.t 6) (.t 9) (.c (.bool false)))⟩, ⟨some 11, none, .v (.mov (.t 10))⟩, ⟨some 12, some (11, true), .v (.mov (.t 0))⟩, ⟨some 13, some (11, true), .v (.istr (.t 12) (.c (.int .i64 0)))⟩, ⟨some 14, some (11, true), .v (.bin .neq (.t 13) (.c (.int .u8 95)))⟩, ⟨some 15, none, .v (.pick (.t 11) (.t 14) (.c (.bool false)))⟩, ⟨some 2, none, .v (.mov (.t 15))⟩]) .ret), [(.t 2)]⟩
theorem U_Q81 : type_of% (sc_Q81.eq_1) := sc_Q81.eq_1
theorem comp_Q81 : comp Tryz.prog Tryz.f81 = some sc_Q81 := by kernel_rfl
def c_Q122_1 : SC := .seq (.reg [⟨some 38, none, .v (.mov (.t 0))⟩, ⟨some 39, none, .v (.len true (.t 38))⟩, ⟨some 40, none, .v (.bin .geq (.t 39) (.c (.int .i64 1)))⟩, ⟨some 41, none, .v (.mov (.t 40))⟩, ⟨some 42, some (41, true), .v (.mov (.t 0))⟩, ⟨some 43, some (41, true), .v (.len true (.t 42))⟩, ⟨some 44, some (41, true), .v (.bin .leq (.t 43) (.c (.int .i64 24)))⟩, ⟨some 45, none, .v (.pick (.t 41) (.t 44) (.c (.bool false)))⟩, ⟨some 2, none, .v (.mov (.t 45))⟩]) .ret
def c_Q122_2 : SC := .reg [⟨some 9, none, .v (.mov (.t 3))⟩, ⟨some 10, none, .v (.bin .add (.t 9) (.c (.int .i64 1)))⟩, ⟨some 3, none, .v (.mov (.t 10))⟩]
def c_Q122_3 : SC := .cond (.t 37) (.seq (.reg [⟨some 2, none, .v (.mov (.c (.bool false)))⟩]) .ret) .skip
def c_Q122_4 : SC := .seq (.reg [⟨some 14, none, .v (.mov (.t 4))⟩, ⟨some 15, none, .v (.bin .geq (.t 14) (.c (.int .u8 97)))⟩, ⟨some 16, none, .v (.mov (.t 15))⟩, ⟨some 17, some (16, true), .v (.mov (.t 4))⟩, ⟨some 18, some (16, true), .v (.bin .leq (.t 17) (.c (.int .u8 122)))⟩, ⟨some 19, none, .v (.pick (.t 16) (.t 18) (.c (.bool false)))⟩, ⟨some 20, none, .v (.un .not (.t 19))⟩, ⟨some 21, none, .v (.mov (.t 20))⟩, ⟨some 22, some (21, true), .v (.mov (.t 3))⟩, ⟨some 23, some (21, true), .v (.bin .gtr (.t 22) (.c (.int .i64 0)))⟩, ⟨some 24, some (21, true), .v (.mov (.t 23))⟩, ⟨some 25, some (24, true), .v (.mov (.t 4))⟩, ⟨some 26, some (24, true), .call (.c (.func 119 [])) [(.t 25)]⟩, ⟨some 27, some (24, true), .v (.mov (.t 26))⟩, ⟨some 28, some (27, false), .v (.mov (.t 4))⟩, ⟨some 29, some (27, false), .v (.bin .eql (.t 28) (.c (.int .u8 45)))⟩, ⟨some 30, some (24, true), .v (.pick (.t 27) (.c (.bool true)) (.t 29))⟩, ⟨some 31, some (24, true), .v (.mov (.t 30))⟩, ⟨some 32, some (31, false), .v (.mov (.t 4))⟩, ⟨some 33, some (31, false), .v (.bin .eql (.t 32) (.c (.int .u8 95)))⟩, ⟨some 34, some (24, true), .v (.pick (.t 31) (.c (.bool true)) (.t 33))⟩, ⟨some 35, some (21, true), .v (.pick (.t 24) (.t 34) (.c (.bool false)))⟩, ⟨some 36, some (21, true), .v (.un .not (.t 35))⟩, ⟨some 37, none, .v (.pick (.t 21) (.t 36) (.c (.bool false)))⟩]) c_Q122_3
def c_Q122_5 : SC := .seq (.block 1 (.seq (.reg [⟨some 11, none, .v (.mov (.t 0))⟩, ⟨some 12, none, .v (.mov (.t 3))⟩, ⟨some 13, none, .v (.istr (.t 11) (.t 12))⟩, ⟨some 4, none, .v (.mov (.t 13))⟩]) c_Q122_4)) c_Q122_2
def b_Q122_1 : SC := .seq (.seq (.reg [⟨some 5, none, .v (.mov (.t 3))⟩, ⟨some 6, none, .v (.mov (.t 0))⟩, ⟨some 7, none, .v (.len true (.t 6))⟩, ⟨some 8, none, .v (.bin .lss (.t 5) (.t 7))⟩]) (.cond (.t 8) .skip (.exit 0))) c_Q122_5
def c_Q122_6 : SC := .block 0 (.loop b_Q122_1)
def c_Q122_7 : SC := .seq (.seq (.reg [⟨some 3, none, .v (.mov (.c (.int .i64 0)))⟩]) c_Q122_6) c_Q122_1
def sc_Q122 : SFunc := ⟨1, 46, .seq (.reg [⟨some 2, none, .v (.mov (.c (.bool false)))⟩]) c_Q122_7, [(.t 2)]⟩
noncomputable def k_Q122_1 (SP : Prg) (x : EO) : CO := fin [(.t 2)] (thC SP (inBlk 0 (x)) c_Q122_1)
theorem U_Q122 : type_of% (And.intro (ue c_Q122_1.eq_1) <| And.intro (ue c_Q122_2.eq_1) <| And.intro (ue c_Q122_3.eq_1) <| And.intro (ue c_Q122_4.eq_1) <| And.intro (ue c_Q122_5.eq_1) <| And.intro (ue b_Q122_1.eq_1) <| And.intro (ue c_Q122_6.eq_1) <| And.intro (ue c_Q122_7.eq_1) <| sc_Q122.eq_1) := And.intro (ue c_Q122_1.eq_1) <| And.intro (ue c_Q122_2.eq_1) <| And.intro (ue c_Q122_3.eq_1) <| And.intro (ue c_Q122_4.eq_1) <| And.intro (ue c_Q122_5.eq_1) <| And.intro (ue b_Q122_1.eq_1) <| And.intro (ue c_Q122_6.eq_1) <| And.intro (ue c_Q122_7.eq_1) <| sc_Q122.eq_1
theorem comp_Q122 : comp Tryz.prog Tryz.f122 = some sc_Q122 := by kernel_rfl
def sc_slices_Contains_int_int : SFunc := ⟨2, 9, .seq (.reg [⟨some 4, none, .v (.mov (.c (.bool false)))⟩]) (.seq (.reg [⟨some 5, none, .v (.mov (.t 0))⟩, ⟨some 6, none, .v (.mov (.t 1))⟩, ⟨some 7, none, .call (.c (.func 190 [])) [(.t 5), (.t 6)]⟩, ⟨some 8, none, .v (.bin .geq (.t 7) (.c (.int .i64 0)))⟩, ⟨some 4, none, .v (.mov (.t 8))⟩]) .ret), [(.t 4)]⟩
theorem U_slices_Contains_int_int : type_of% (sc_slices_Contains_int_int.eq_1) := sc_slices_Contains_int_int.eq_1
theorem comp_slices_Contains_int_int : comp Tryz.prog Tryz.f170 = some sc_slices_Contains_int_int := by kernel_rfl
def c_slices_Index_int_int_1 : SC := .seq (.reg [⟨some 4, none, .v (.mov (.c (.int .i64 (-1))))⟩]) .ret
def b_slices_Index_int_int_1 : SC := .seq (.reg [⟨some 9, none, .v (.bin .lss (.t 8) (.t 7))⟩]) (.seq (.cond (.t 9) .skip (.exit 0)) (.seq (.block 1 (.seq (.reg [⟨some 10, none, .v (.mov (.t 8))⟩, ⟨some 5, none, .v (.mov (.t 10))⟩]) (.seq (.reg [⟨some 11, none, .v (.mov (.t 1))⟩, ⟨some 12, none, .v (.mov (.t 0))⟩, ⟨some 13, none, .v (.mov (.t 5))⟩, ⟨some 14, none, .v (.iaddr 1 (.t 12) (.t 13))⟩, ⟨some 15, none, .v (.load none (.t 14))⟩, ⟨some 16, none, .v (.bin .eql (.t 11) (.t 15))⟩]) (.cond (.t 16) (.seq (.reg [⟨some 17, none, .v (.mov (.t 5))⟩, ⟨some 4, none, .v (.mov (.t 17))⟩]) .ret) .skip)))) (.reg [⟨some 18, none, .v (.bin .add (.t 8) (.c (.int .i64 1)))⟩, ⟨some 8, none, .v (.mov (.t 18))⟩])))
def sc_slices_Index_int_int : SFunc := ⟨2, 19, .seq (.reg [⟨some 4, none, .v (.mov (.c (.int .i64 0)))⟩]) (.seq (.seq (.reg [⟨some 6, none, .v (.mov (.t 0))⟩, ⟨some 7, none, .v (.len false (.t 6))⟩, ⟨some 8, none, .v (.mov (.c (.int .i64 0)))⟩]) (.block 0 (.loop b_slices_Index_int_int_1))) c_slices_Index_int_int_1), [(.t 4)]⟩
noncomputable def k_slices_Index_int_int_1 (SP : Prg) (x : EO) : CO := fin [(.t 4)] (thC SP (inBlk 0 (x)) c_slices_Index_int_int_1)
theorem U_slices_Index_int_int : type_of% (And.intro (ue c_slices_Index_int_int_1.eq_1) <| And.intro (ue b_slices_Index_int_int_1.eq_1) <| sc_slices_Index_int_int.eq_1) := And.intro (ue c_slices_Index_int_int_1.eq_1) <| And.intro (ue b_slices_Index_int_int_1.eq_1) <| sc_slices_Index_int_int.eq_1
theorem comp_slices_Index_int_int : comp Tryz.prog Tryz.f190 = some sc_slices_Index_int_int := by kernel_rfl
def sc_slices_Contains_string_string : SFunc := ⟨2, 9, .seq (.reg [⟨some 4, none, .v (.mov (.c (.bool false)))⟩]) (.seq (.reg [⟨some 5, none, .v (.mov (.t 0))⟩, ⟨some 6, none, .v (.mov (.t 1))⟩, ⟨some 7, none, .call (.c (.func 62 [])) [(.t 5), (.t 6)]⟩, ⟨some 8, none, .v (.bin .geq (.t 7) (.c (.int .i64 0)))⟩, ⟨some 4, none, .v (.mov (.t 8))⟩]) .ret), [(.t 4)]⟩
theorem U_slices_Contains_string_string : type_of% (sc_slices_Contains_string_string.eq_1) := sc_slices_Contains_string_string.eq_1
theorem comp_slices_Contains_string_string : comp Tryz.prog Tryz.f161 = some sc_slices_Contains_string_string := by kernel_rfl
end Go.Proofs.YtfbcnpbhhooapaaGreatDoor.M
