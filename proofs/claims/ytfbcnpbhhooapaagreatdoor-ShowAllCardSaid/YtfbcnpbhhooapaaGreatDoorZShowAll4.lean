/- Parts of a proof, one behind another: Sc1, Lt1, Sc2, Sc4, Lt4, Lt2, Wl1, Wl2, Wl3, Wl4, Wl5, Wl6, Wl7, Wl8, Wl9, Wl10, WlD, Wu1, Wu2, Sc9, Lt9. -/
import Derived.Test.YtfbcnpbhhooapaaGreatDoorZShowAll3
import Derived.Test.YtfbcnpbhhooapaaGreatDoorProg
import Derived.KernelRfl
import Derived.Lib.ItoaLen
set_option maxHeartbeats 4000000
namespace Go.Proofs.YtfbcnpbhhooapaaGreatDoor.M
open Go
set_option linter.unusedVariables false
def c_Q137_1:SC:=.seq (.reg [⟨some 2,none,.v (.mov (.c (.int .i64 0)))⟩]) .ret
def c_Q137_2:SC:=.cond (.t 10) (.seq (.reg [⟨some 2,none,.v (.mov (.c (.int .i64 2)))⟩]) .ret) (.seq (.reg [⟨some 22,none,.v (.mov (.t 0))⟩,⟨some 23,none,.v (.bin .leq (.c (.int .u8 48)) (.t 22))⟩,⟨some 24,none,.v (.mov (.t 23))⟩,⟨some 25,some (24,true),.v (.mov (.t 0))⟩,⟨some 26,some (24,true),.v (.bin .leq (.t 25) (.c (.int .u8 57)))⟩,⟨some 27,none,.v (.pick (.t 24) (.t 26) (.c (.bool false)))⟩,⟨some 21,none,.v (.mov (.t 27))⟩]) (.cond (.t 21) (.seq (.reg [⟨some 2,none,.v (.mov (.c (.int .i64 3)))⟩]) .ret) (.seq (.reg [⟨some 29,none,.v (.mov (.t 0))⟩,⟨some 30,none,.v (.bin .eql (.t 29) (.c (.int .u8 34)))⟩,⟨some 28,none,.v (.mov (.t 30))⟩]) (.cond (.t 28) (.seq (.reg [⟨some 2,none,.v (.mov (.c (.int .i64 4)))⟩]) .ret) (.seq (.reg [⟨some 32,none,.v (.mov (.t 0))⟩,⟨some 33,none,.v (.bin .eql (.t 32) (.c (.int .u8 35)))⟩,⟨some 31,none,.v (.mov (.t 33))⟩]) (.cond (.t 31) (.seq (.reg [⟨some 2,none,.v (.mov (.c (.int .i64 5)))⟩]) .ret) .skip))))))
def c_Q137_3:SC:=.cond (.t 3) (.seq (.reg [⟨some 2,none,.v (.mov (.c (.int .i64 1)))⟩]) .ret) (.seq (.reg [⟨some 11,none,.v (.mov (.t 0))⟩,⟨some 12,none,.v (.bin .eql (.t 11) (.c (.int .u8 95)))⟩,⟨some 13,none,.v (.mov (.t 12))⟩,⟨some 14,some (13,false),.v (.mov (.t 0))⟩,⟨some 15,some (13,false),.v (.bin .leq (.c (.int .u8 97)) (.t 14))⟩,⟨some 16,some (13,false),.v (.mov (.t 15))⟩,⟨some 17,some (16,true),.v (.mov (.t 0))⟩,⟨some 18,some (16,true),.v (.bin .leq (.t 17) (.c (.int .u8 122)))⟩,⟨some 19,some (13,false),.v (.pick (.t 16) (.t 18) (.c (.bool false)))⟩,⟨some 20,none,.v (.pick (.t 13) (.c (.bool true)) (.t 19))⟩,⟨some 10,none,.v (.mov (.t 20))⟩]) c_Q137_2)
def c_Q137_4:SC:=.seq (.block 0 (.seq (.reg [⟨some 4,none,.v (.mov (.t 0))⟩,⟨some 5,none,.v (.bin .eql (.t 4) (.c (.int .u8 32)))⟩,⟨some 6,none,.v (.mov (.t 5))⟩,⟨some 7,some (6,false),.v (.mov (.t 0))⟩,⟨some 8,some (6,false),.v (.bin .eql (.t 7) (.c (.int .u8 10)))⟩,⟨some 9,none,.v (.pick (.t 6) (.c (.bool true)) (.t 8))⟩,⟨some 3,none,.v (.mov (.t 9))⟩]) c_Q137_3)) c_Q137_1
def sc_Q137:SFunc:=⟨1,34,.seq (.reg [⟨some 2,none,.v (.mov (.c (.int .i64 0)))⟩]) c_Q137_4,[(.t 2)]⟩
theorem U_Q137:type_of% (aI (ue c_Q137_1.eq_1)<|aI (ue c_Q137_2.eq_1)<|aI (ue c_Q137_3.eq_1)<|aI (ue c_Q137_4.eq_1)<|sc_Q137.eq_1):=aI (ue c_Q137_1.eq_1)<|aI (ue c_Q137_2.eq_1)<|aI (ue c_Q137_3.eq_1)<|aI (ue c_Q137_4.eq_1)<|sc_Q137.eq_1
theorem comp_Q137:comp Tryz.prog Tryz.f137=some sc_Q137:=by kernel_rfl
def c_Q151_1:SC:=.seq (.reg [⟨some 20,none,.v (.mov (.t 0))⟩,⟨some 21,none,.v (.len true (.t 20))⟩,⟨some 4,none,.v (.mov (.t 21))⟩]) .ret
def b_Q151_1:SC:=.seq (.reg [⟨some 9,none,.v (.bin .lss (.t 8) (.t 7))⟩]) (.seq (.cond (.t 9) .skip (.exit 0)) (.seq (.block 1 (.seq (.reg [⟨some 10,none,.v (.mov (.t 8))⟩,⟨some 5,none,.v (.mov (.t 10))⟩]) (.seq (.reg [⟨some 11,none,.v (.mov (.t 1))⟩,⟨some 12,none,.v (.mov (.t 0))⟩,⟨some 13,none,.v (.mov (.t 5))⟩,⟨some 14,none,.v (.istr (.t 12) (.t 13))⟩,⟨some 15,none,.call (.c (.func 137 [])) [(.t 14)]⟩,⟨some 16,none,.call (.c (.func 170 [])) [(.t 11),(.t 15)]⟩,⟨some 17,none,.v (.un .not (.t 16))⟩]) (.cond (.t 17) (.seq (.reg [⟨some 18,none,.v (.mov (.t 5))⟩,⟨some 4,none,.v (.mov (.t 18))⟩]) .ret) .skip)))) (.reg [⟨some 19,none,.v (.bin .add (.t 8) (.c (.int .i64 1)))⟩,⟨some 8,none,.v (.mov (.t 19))⟩])))
def sc_Q151:SFunc:=⟨2,22,.seq (.reg [⟨some 4,none,.v (.mov (.c (.int .i64 0)))⟩]) (.seq (.seq (.reg [⟨some 6,none,.v (.mov (.t 0))⟩,⟨some 7,none,.v (.len true (.t 6))⟩,⟨some 8,none,.v (.mov (.c (.int .i64 0)))⟩]) (.block 0 (.loop b_Q151_1))) c_Q151_1),[(.t 4)]⟩
noncomputable def k_Q151_1 (SP:Prg) (x:EO):CO:=fin [(.t 4)] (thC SP (inBlk 0 (x)) c_Q151_1)
theorem U_Q151:type_of% (aI (ue c_Q151_1.eq_1)<|aI (ue b_Q151_1.eq_1)<|sc_Q151.eq_1):=aI (ue c_Q151_1.eq_1)<|aI (ue b_Q151_1.eq_1)<|sc_Q151.eq_1
theorem comp_Q151:comp Tryz.prog Tryz.f151=some sc_Q151:=by kernel_rfl
def sc_Q135:SFunc:=⟨2,31,.seq (.reg [⟨some 4,none,.v (.mov (.c (.str [])))⟩]) (.seq (.reg [⟨some 6,none,.v (.mov (.t 0))⟩,⟨some 7,none,.v (.nchk (.t 6))⟩,⟨some 8,none,.v (.faddr 0 (.t 7))⟩,⟨some 9,none,.v (.load none (.t 8))⟩,⟨some 10,none,.v (.mov (.t 1))⟩,⟨some 11,none,.v (.sls (.t 9) none (some (.t 10)))⟩,⟨some 5,none,.v (.mov (.t 11))⟩]) (.seq (.dreg [⟨some 12,none,.v (.mov (.t 0))⟩,⟨some 13,none,.v (.mov (.t 0))⟩,⟨some 14,none,.v (.mov (.t 0))⟩,⟨some 15,none,.v (.nchk (.t 14))⟩,⟨some 16,none,.v (.faddr 0 (.t 15))⟩,⟨some 17,none,.v (.load none (.t 16))⟩,⟨some 18,none,.v (.mov (.t 1))⟩,⟨some 19,none,.v (.sls (.t 17) (some (.t 18)) none)⟩,⟨some 20,none,.v (.mov (.t 0))⟩,⟨some 21,none,.v (.nchk (.t 20))⟩,⟨some 22,none,.v (.faddr 1 (.t 21))⟩,⟨some 23,none,.v (.load none (.t 22))⟩,⟨some 24,none,.v (.mov (.t 1))⟩,⟨some 25,none,.v (.bin .add (.t 23) (.t 24))⟩,⟨some 26,none,.v (.nchk (.t 12))⟩,⟨some 27,none,.v (.faddr 0 (.t 26))⟩,⟨none,none,.store 1 (.t 27) (.t 19)⟩,⟨some 28,none,.v (.nchk (.t 13))⟩,⟨some 29,none,.v (.faddr 1 (.t 28))⟩,⟨none,none,.store 1 (.t 29) (.t 25)⟩] [false,false,false,false,false,false,false,false,false,false,false,false,false,false,true,true,true,true,true,true]) (.seq (.reg [⟨some 30,none,.v (.mov (.t 5))⟩,⟨some 4,none,.v (.mov (.t 30))⟩]) .ret))),[(.t 4)]⟩
theorem U_Q135:type_of% (sc_Q135.eq_1):=sc_Q135.eq_1
theorem comp_Q135:comp Tryz.prog Tryz.f135=some sc_Q135:=by kernel_rfl
def sc_Q134:SFunc:=⟨2,13,.seq (.reg [⟨some 4,none,.v (.mov (.c (.str [])))⟩]) (.seq (.reg [⟨some 5,none,.v (.mov (.t 0))⟩,⟨some 6,none,.v (.mov (.t 0))⟩,⟨some 7,none,.v (.nchk (.t 6))⟩,⟨some 8,none,.v (.faddr 0 (.t 7))⟩,⟨some 9,none,.v (.load none (.t 8))⟩,⟨some 10,none,.v (.mov (.t 1))⟩,⟨some 11,none,.call (.c (.func 151 [])) [(.t 9),(.t 10)]⟩,⟨some 12,none,.call (.c (.func 135 [])) [(.t 5),(.t 11)]⟩,⟨some 4,none,.v (.mov (.t 12))⟩]) .ret),[(.t 4)]⟩
theorem U_Q134:type_of% (sc_Q134.eq_1):=sc_Q134.eq_1
theorem comp_Q134:comp Tryz.prog Tryz.f134=some sc_Q134:=by kernel_rfl
def c_Q165_1:SC:=.dreg [⟨some 31,none,.v (.mov (.t 0))⟩,⟨some 32,none,.v (.nchk (.t 31))⟩,⟨some 33,none,.v (.load none (.t 32))⟩,⟨some 34,none,.v (.mov (.t 4))⟩,⟨some 35,none,.v (.bin .sub (.t 34) (.c (.int .i64 1)))⟩,⟨some 36,none,.v (.iaddr 2 (.t 33) (.t 35))⟩,⟨some 37,none,.v (.faddr 1 (.t 36))⟩,⟨some 38,none,.v (.load none (.t 37))⟩,⟨some 39,none,.v (.mov (.t 1))⟩,⟨some 40,none,.bslice 1 1 [(.int .u8 0)] [(0,(.t 39))]⟩,⟨some 41,none,.v (.conv .bytes (.t 40))⟩,⟨some 42,none,.v (.bin .add (.t 38) (.t 41))⟩,⟨some 43,none,.v (.iaddr 2 (.t 33) (.t 35))⟩,⟨some 44,none,.v (.faddr 1 (.t 43))⟩,⟨none,none,.store 1 (.t 44) (.t 42)⟩] [false,false,false,false,false,false,false,false,false,false,false,true,true,true,true]
def c_Q165_2:SC:=.seq (.seq (.reg [⟨some 9,none,.v (.mov (.t 4))⟩,⟨some 10,none,.v (.bin .eql (.t 9) (.c (.int .i64 0)))⟩,⟨some 11,none,.v (.mov (.t 10))⟩,⟨some 12,some (11,false),.v (.mov (.t 0))⟩,⟨some 13,some (11,false),.v (.nchk (.t 12))⟩,⟨some 14,some (11,false),.v (.load none (.t 13))⟩,⟨some 15,some (11,false),.v (.mov (.t 4))⟩,⟨some 16,some (11,false),.v (.bin .sub (.t 15) (.c (.int .i64 1)))⟩,⟨some 17,some (11,false),.v (.iaddr 2 (.t 14) (.t 16))⟩,⟨some 18,some (11,false),.v (.faddr 0 (.t 17))⟩,⟨some 19,some (11,false),.v (.load none (.t 18))⟩,⟨some 20,none,.v (.pick (.t 11) (.c (.bool true)) (.t 19))⟩]) (.cond (.t 20) (.seq (.reg [⟨some 21,none,.v (.mov (.t 0))⟩,⟨some 22,none,.v (.mov (.t 0))⟩,⟨some 23,none,.v (.nchk (.t 22))⟩,⟨some 24,none,.v (.load none (.t 23))⟩,⟨some 25,none,.v (.build [(.bool false),(.str [])] [])⟩,⟨some 26,none,.bslice 2 1 [(.bool false),(.str [])] [(0,(.t 25))]⟩,⟨some 27,none,.append 2 24 (.t 24) (.t 26)⟩,⟨some 28,none,.v (.nchk (.t 21))⟩,⟨none,none,.store 1 (.t 28) (.t 27)⟩]) (.reg [⟨some 29,none,.v (.mov (.t 4))⟩,⟨some 30,none,.v (.bin .add (.t 29) (.c (.int .i64 1)))⟩,⟨some 4,none,.v (.mov (.t 30))⟩])) .skip)) c_Q165_1
def sc_Q165:SFunc:=⟨2,45,.seq (.reg [⟨some 5,none,.v (.mov (.t 0))⟩,⟨some 6,none,.v (.nchk (.t 5))⟩,⟨some 7,none,.v (.load none (.t 6))⟩,⟨some 8,none,.v (.len false (.t 7))⟩,⟨some 4,none,.v (.mov (.t 8))⟩]) c_Q165_2,[]⟩
theorem U_Q165:type_of% (aI (ue c_Q165_1.eq_1)<|aI (ue c_Q165_2.eq_1)<|sc_Q165.eq_1):=aI (ue c_Q165_1.eq_1)<|aI (ue c_Q165_2.eq_1)<|sc_Q165.eq_1
theorem comp_Q165:comp Tryz.prog Tryz.f165=some sc_Q165:=by kernel_rfl
def sc_Q164:SFunc:=⟨1,15,.seq (.reg [⟨some 2,none,.v (.mov (.c (.int .u8 0)))⟩,⟨some 3,none,.v (.mov (.c (.bool false)))⟩]) (.seq (.seq (.reg [⟨some 5,none,.v (.mov (.t 0))⟩,⟨some 6,none,.v (.len true (.t 5))⟩,⟨some 7,none,.v (.bin .lss (.t 6) (.c (.int .i64 2)))⟩]) (.cond (.t 7) (.seq (.reg [⟨some 2,none,.v (.mov (.c (.int .u8 0)))⟩,⟨some 3,none,.v (.mov (.c (.bool false)))⟩]) .ret) .skip)) (.seq (.reg [⟨some 8,none,.v (.mov (.t 0))⟩,⟨some 9,none,.v (.istr (.t 8) (.c (.int .i64 1)))⟩,⟨some 10,none,.call (.c (.func 179 [])) [(.c (.str [34,92,36,110])),(.t 9)]⟩,⟨some 4,none,.v (.mov (.t 10))⟩]) (.seq (.seq (.reg [⟨some 11,none,.v (.mov (.t 4))⟩,⟨some 12,none,.v (.bin .lss (.t 11) (.c (.int .i64 0)))⟩]) (.cond (.t 12) (.seq (.reg [⟨some 2,none,.v (.mov (.c (.int .u8 0)))⟩,⟨some 3,none,.v (.mov (.c (.bool false)))⟩]) .ret) .skip)) (.seq (.reg [⟨some 13,none,.v (.mov (.t 4))⟩,⟨some 14,none,.v (.istr (.c (.str [34,92,36,10])) (.t 13))⟩,⟨some 2,none,.v (.mov (.t 14))⟩,⟨some 3,none,.v (.mov (.c (.bool true)))⟩]) .ret)))),[(.t 2),(.t 3)]⟩
theorem U_Q164:type_of% (sc_Q164.eq_1):=sc_Q164.eq_1
theorem comp_Q164:comp Tryz.prog Tryz.f164=some sc_Q164:=by kernel_rfl
def c_Q166_1:SC:=.seq (.reg [⟨some 18,none,.v (.mov (.t 4))⟩,⟨some 19,none,.call (.c (.func 112 [])) [(.t 18),(.c (.str [46]))]⟩,⟨some 17,none,.v (.mov (.t 19))⟩,⟨some 20,none,.v (.extract 0 (.t 17))⟩,⟨some 21,none,.v (.extract 1 (.t 17))⟩,⟨some 22,none,.v (.extract 2 (.t 17))⟩,⟨some 7,none,.v (.mov (.t 20))⟩,⟨some 8,none,.v (.mov (.t 21))⟩,⟨some 9,none,.v (.mov (.t 22))⟩]) (.seq (.reg [⟨some 23,none,.v (.mov (.t 4))⟩,⟨some 24,none,.v (.mov (.t 6))⟩,⟨some 25,none,.v (.mov (.t 24))⟩,⟨some 26,some (25,true),.v (.mov (.t 9))⟩,⟨some 27,none,.v (.pick (.t 25) (.t 26) (.c (.bool false)))⟩,⟨some 28,none,.v (.mov (.t 27))⟩,⟨some 29,some (28,true),.v (.mov (.t 7))⟩,⟨some 30,some (28,true),.call (.c (.func 115 [])) [(.t 29)]⟩,⟨some 31,none,.v (.pick (.t 28) (.t 30) (.c (.bool false)))⟩,⟨some 32,none,.v (.mov (.t 31))⟩,⟨some 33,some (32,true),.v (.mov (.t 8))⟩,⟨some 34,some (32,true),.call (.c (.func 115 [])) [(.t 33)]⟩,⟨some 35,none,.v (.pick (.t 32) (.t 34) (.c (.bool false)))⟩,⟨some 2,none,.v (.mov (.t 23))⟩,⟨some 3,none,.v (.mov (.t 35))⟩]) .ret)
def c_Q166_2:SC:=.seq (.reg [⟨some 11,none,.v (.mov (.t 0))⟩,⟨some 12,none,.v (.sls (.t 11) (some (.c (.int .i64 2))) none)⟩,⟨some 13,none,.call (.c (.func 112 [])) [(.t 12),(.c (.str [125]))]⟩,⟨some 10,none,.v (.mov (.t 13))⟩,⟨some 14,none,.v (.extract 0 (.t 10))⟩,⟨some 15,none,.v (.extract 1 (.t 10))⟩,⟨some 16,none,.v (.extract 2 (.t 10))⟩,⟨some 4,none,.v (.mov (.t 14))⟩,⟨some 5,none,.v (.mov (.t 15))⟩,⟨some 6,none,.v (.mov (.t 16))⟩]) c_Q166_1
def sc_Q166:SFunc:=⟨1,36,.seq (.reg [⟨some 2,none,.v (.mov (.c (.str [])))⟩,⟨some 3,none,.v (.mov (.c (.bool false)))⟩]) c_Q166_2,[(.t 2),(.t 3)]⟩
theorem U_Q166:type_of% (aI (ue c_Q166_1.eq_1)<|aI (ue c_Q166_2.eq_1)<|sc_Q166.eq_1):=aI (ue c_Q166_1.eq_1)<|aI (ue c_Q166_2.eq_1)<|sc_Q166.eq_1
theorem comp_Q166:comp Tryz.prog Tryz.f166=some sc_Q166:=by kernel_rfl
def sc_Q115:SFunc:=⟨1,24,.seq (.reg [⟨some 2,none,.v (.mov (.c (.bool false)))⟩]) (.seq (.reg [⟨some 3,none,.v (.mov (.t 0))⟩,⟨some 4,none,.v (.bin .neq (.t 3) (.c (.str [])))⟩,⟨some 5,none,.v (.mov (.t 4))⟩,⟨some 6,some (5,true),.v (.mov (.t 0))⟩,⟨some 7,some (5,true),.v (.len true (.t 6))⟩,⟨some 8,some (5,true),.v (.bin .leq (.t 7) (.c (.int .i64 24)))⟩,⟨some 9,none,.v (.pick (.t 5) (.t 8) (.c (.bool false)))⟩,⟨some 10,none,.v (.mov (.t 9))⟩,⟨some 11,some (10,true),.v (.mov (.t 0))⟩,⟨some 12,some (10,true),.v (.istr (.t 11) (.c (.int .i64 0)))⟩,⟨some 13,some (10,true),.call (.c (.func 137 [])) [(.t 12)]⟩,⟨some 14,some (10,true),.v (.bin .eql (.t 13) (.c (.int .i64 2)))⟩,⟨some 15,none,.v (.pick (.t 10) (.t 14) (.c (.bool false)))⟩,⟨some 16,none,.v (.mov (.t 15))⟩,⟨some 17,some (16,true),.v (.mov (.t 0))⟩,⟨some 18,some (16,true),.bslice 1 2 [(.int .i64 0)] [(0,(.c (.int .i64 2))),(1,(.c (.int .i64 3)))]⟩,⟨some 19,some (16,true),.call (.c (.func 151 [])) [(.t 17),(.t 18)]⟩,⟨some 20,some (16,true),.v (.mov (.t 0))⟩,⟨some 21,some (16,true),.v (.len true (.t 20))⟩,⟨some 22,some (16,true),.v (.bin .eql (.t 19) (.t 21))⟩,⟨some 23,none,.v (.pick (.t 16) (.t 22) (.c (.bool false)))⟩,⟨some 2,none,.v (.mov (.t 23))⟩]) .ret),[(.t 2)]⟩
theorem U_Q115:type_of% (sc_Q115.eq_1):=sc_Q115.eq_1
theorem comp_Q115:comp Tryz.prog Tryz.f115=some sc_Q115:=by kernel_rfl
def sc_Q119:SFunc:=⟨1,9,.seq (.reg [⟨some 2,none,.v (.mov (.c (.bool false)))⟩]) (.seq (.reg [⟨some 3,none,.v (.mov (.t 0))⟩,⟨some 4,none,.v (.bin .geq (.t 3) (.c (.int .u8 48)))⟩,⟨some 5,none,.v (.mov (.t 4))⟩,⟨some 6,some (5,true),.v (.mov (.t 0))⟩,⟨some 7,some (5,true),.v (.bin .leq (.t 6) (.c (.int .u8 57)))⟩,⟨some 8,none,.v (.pick (.t 5) (.t 7) (.c (.bool false)))⟩,⟨some 2,none,.v (.mov (.t 8))⟩]) .ret),[(.t 2)]⟩
theorem U_Q119:type_of% (sc_Q119.eq_1):=sc_Q119.eq_1
theorem comp_Q119:comp Tryz.prog Tryz.f119=some sc_Q119:=by kernel_rfl
def sc_Q118:SFunc:=⟨1,13,.seq (.reg [⟨some 2,none,.v (.mov (.c (.bool false)))⟩]) (.seq (.reg [⟨some 3,none,.v (.mov (.t 0))⟩,⟨some 4,none,.v (.bin .geq (.t 3) (.c (.int .u8 97)))⟩,⟨some 5,none,.v (.mov (.t 4))⟩,⟨some 6,some (5,true),.v (.mov (.t 0))⟩,⟨some 7,some (5,true),.v (.bin .leq (.t 6) (.c (.int .u8 122)))⟩,⟨some 8,none,.v (.pick (.t 5) (.t 7) (.c (.bool false)))⟩,⟨some 9,none,.v (.mov (.t 8))⟩,⟨some 10,some (9,false),.v (.mov (.t 0))⟩,⟨some 11,some (9,false),.v (.bin .eql (.t 10) (.c (.int .u8 95)))⟩,⟨some 12,none,.v (.pick (.t 9) (.c (.bool true)) (.t 11))⟩,⟨some 2,none,.v (.mov (.t 12))⟩]) .ret),[(.t 2)]⟩
theorem U_Q118:type_of% (sc_Q118.eq_1):=sc_Q118.eq_1
theorem comp_Q118:comp Tryz.prog Tryz.f118=some sc_Q118:=by kernel_rfl
def c_Q77_1:SC:=.seq (.reg [⟨some 37,none,.v (.mov (.t 5))⟩,⟨some 4,none,.v (.mov (.t 37))⟩]) .ret
def b_Q77_1:SC:=.seq (.seq (.reg [⟨some 19,none,.v (.mov (.t 5))⟩,⟨some 20,none,.v (.mov (.t 0))⟩,⟨some 21,none,.v (.len true (.t 20))⟩,⟨some 22,none,.v (.bin .lss (.t 19) (.t 21))⟩,⟨some 23,none,.v (.mov (.t 22))⟩,⟨some 24,some (23,true),.v (.mov (.t 0))⟩,⟨some 25,some (23,true),.v (.mov (.t 5))⟩,⟨some 26,some (23,true),.v (.istr (.t 24) (.t 25))⟩,⟨some 27,some (23,true),.call (.c (.func 118 [])) [(.t 26)]⟩,⟨some 28,some (23,true),.v (.mov (.t 27))⟩,⟨some 29,some (28,false),.v (.mov (.t 0))⟩,⟨some 30,some (28,false),.v (.mov (.t 5))⟩,⟨some 31,some (28,false),.v (.istr (.t 29) (.t 30))⟩,⟨some 32,some (28,false),.call (.c (.func 119 [])) [(.t 31)]⟩,⟨some 33,some (23,true),.v (.pick (.t 28) (.c (.bool true)) (.t 32))⟩,⟨some 34,none,.v (.pick (.t 23) (.t 33) (.c (.bool false)))⟩]) (.cond (.t 34) .skip (.exit 0))) (.block 1 (.reg [⟨some 35,none,.v (.mov (.t 5))⟩,⟨some 36,none,.v (.bin .add (.t 35) (.c (.int .i64 1)))⟩,⟨some 5,none,.v (.mov (.t 36))⟩]))
def c_Q77_2:SC:=.seq (.reg [⟨some 18,none,.v (.mov (.t 1))⟩,⟨some 5,none,.v (.mov (.t 18))⟩]) (.seq (.block 0 (.loop b_Q77_1)) c_Q77_1)
def c_Q77_3:SC:=.seq (.seq (.reg [⟨some 6,none,.v (.mov (.t 1))⟩,⟨some 7,none,.v (.mov (.t 0))⟩,⟨some 8,none,.v (.len true (.t 7))⟩,⟨some 9,none,.v (.bin .geq (.t 6) (.t 8))⟩,⟨some 10,none,.v (.mov (.t 9))⟩,⟨some 11,some (10,false),.v (.mov (.t 0))⟩,⟨some 12,some (10,false),.v (.mov (.t 1))⟩,⟨some 13,some (10,false),.v (.istr (.t 11) (.t 12))⟩,⟨some 14,some (10,false),.call (.c (.func 118 [])) [(.t 13)]⟩,⟨some 15,some (10,false),.v (.un .not (.t 14))⟩,⟨some 16,none,.v (.pick (.t 10) (.c (.bool true)) (.t 15))⟩]) (.cond (.t 16) (.seq (.reg [⟨some 17,none,.v (.mov (.t 1))⟩,⟨some 4,none,.v (.mov (.t 17))⟩]) .ret) .skip)) c_Q77_2
def sc_Q77:SFunc:=⟨2,38,.seq (.reg [⟨some 4,none,.v (.mov (.c (.int .i64 0)))⟩]) c_Q77_3,[(.t 4)]⟩
noncomputable def k_Q77_1 (SP:Prg) (x:EO):CO:=fin [(.t 4)] (thC SP (inBlk 0 (x)) c_Q77_1)
theorem U_Q77:type_of% (aI (ue c_Q77_1.eq_1)<|aI (ue b_Q77_1.eq_1)<|aI (ue c_Q77_2.eq_1)<|aI (ue c_Q77_3.eq_1)<|sc_Q77.eq_1):=aI (ue c_Q77_1.eq_1)<|aI (ue b_Q77_1.eq_1)<|aI (ue c_Q77_2.eq_1)<|aI (ue c_Q77_3.eq_1)<|sc_Q77.eq_1
theorem comp_Q77:comp Tryz.prog Tryz.f77=some sc_Q77:=by kernel_rfl
def sc_Q79:SFunc:=⟨1,17,.seq (.reg [⟨some 2,none,.v (.mov (.c (.bool false)))⟩]) (.seq (.reg [⟨some 3,none,.v (.mov (.t 0))⟩,⟨some 4,none,.v (.bin .neq (.t 3) (.c (.str [])))⟩,⟨some 5,none,.v (.mov (.t 4))⟩,⟨some 6,some (5,true),.v (.mov (.t 0))⟩,⟨some 7,some (5,true),.v (.len true (.t 6))⟩,⟨some 8,some (5,true),.v (.bin .leq (.t 7) (.c (.int .i64 24)))⟩,⟨some 9,none,.v (.pick (.t 5) (.t 8) (.c (.bool false)))⟩,⟨some 10,none,.v (.mov (.t 9))⟩,⟨some 11,some (10,true),.v (.mov (.t 0))⟩,⟨some 12,some (10,true),.call (.c (.func 77 [])) [(.t 11),(.c (.int .i64 0))]⟩,⟨some 13,some (10,true),.v (.mov (.t 0))⟩,⟨some 14,some (10,true),.v (.len true (.t 13))⟩,⟨some 15,some (10,true),.v (.bin .eql (.t 12) (.t 14))⟩,⟨some 16,none,.v (.pick (.t 10) (.t 15) (.c (.bool false)))⟩,⟨some 2,none,.v (.mov (.t 16))⟩]) .ret),[(.t 2)]⟩
theorem U_Q79:type_of% (sc_Q79.eq_1):=sc_Q79.eq_1
theorem comp_Q79:comp Tryz.prog Tryz.f79=some sc_Q79:=by kernel_rfl
def c_Q78_1:SC:=.seq (.reg [⟨some 6,none,.v (.mov (.t 3))⟩,⟨some 7,none,.v (.bin .gtr (.t 6) (.c (.int .i64 0)))⟩,⟨some 8,none,.v (.mov (.t 7))⟩,⟨some 9,some (8,true),.v (.mov (.t 3))⟩,⟨some 10,some (8,true),.v (.mov (.t 0))⟩,⟨some 11,some (8,true),.v (.len true (.t 10))⟩,⟨some 12,some (8,true),.v (.bin .lss (.t 9) (.t 11))⟩,⟨some 13,none,.v (.pick (.t 8) (.t 12) (.c (.bool false)))⟩,⟨some 14,none,.v (.mov (.t 13))⟩,⟨some 15,some (14,true),.v (.mov (.t 0))⟩,⟨some 16,some (14,true),.v (.mov (.t 3))⟩,⟨some 17,some (14,true),.v (.istr (.t 15) (.t 16))⟩,⟨some 18,some (14,true),.v (.bin .eql (.t 17) (.c (.int .u8 46)))⟩,⟨some 19,none,.v (.pick (.t 14) (.t 18) (.c (.bool false)))⟩,⟨some 20,none,.v (.mov (.t 19))⟩,⟨some 21,some (20,true),.v (.mov (.t 0))⟩,⟨some 22,some (20,true),.v (.mov (.t 3))⟩,⟨some 23,some (20,true),.v (.sls (.t 21) none (some (.t 22)))⟩,⟨some 24,some (20,true),.call (.c (.func 79 [])) [(.t 23)]⟩,⟨some 25,none,.v (.pick (.t 20) (.t 24) (.c (.bool false)))⟩,⟨some 26,none,.v (.mov (.t 25))⟩,⟨some 27,some (26,true),.v (.mov (.t 0))⟩,⟨some 28,some (26,true),.v (.mov (.t 3))⟩,⟨some 29,some (26,true),.v (.bin .add (.t 28) (.c (.int .i64 1)))⟩,⟨some 30,some (26,true),.v (.sls (.t 27) (some (.t 29)) none)⟩,⟨some 31,some (26,true),.call (.c (.func 79 [])) [(.t 30)]⟩,⟨some 32,none,.v (.pick (.t 26) (.t 31) (.c (.bool false)))⟩,⟨some 2,none,.v (.mov (.t 32))⟩]) .ret
def c_Q78_2:SC:=.seq (.reg [⟨some 4,none,.v (.mov (.t 0))⟩,⟨some 5,none,.call (.c (.func 77 [])) [(.t 4),(.c (.int .i64 0))]⟩,⟨some 3,none,.v (.mov (.t 5))⟩]) c_Q78_1
def sc_Q78:SFunc:=⟨1,33,.seq (.reg [⟨some 2,none,.v (.mov (.c (.bool false)))⟩]) c_Q78_2,[(.t 2)]⟩
theorem U_Q78:type_of% (aI (ue c_Q78_1.eq_1)<|aI (ue c_Q78_2.eq_1)<|sc_Q78.eq_1):=aI (ue c_Q78_1.eq_1)<|aI (ue c_Q78_2.eq_1)<|sc_Q78.eq_1
theorem comp_Q78:comp Tryz.prog Tryz.f78=some sc_Q78:=by kernel_rfl
def c_ref1_text_1:SC:=.seq (.reg [⟨some 126,none,.v (.build [(.int .i64 0),(.str []),(.int .i64 0),(.nils 2),(.int .i64 0)] [])⟩,⟨none,none,.store 5 (.t 4) (.t 126)⟩,⟨some 5,none,.v (.mov (.c (.int .i64 0)))⟩]) .ret
def c_ref1_text_2:SC:=.reg [⟨some 17,none,.v (.mov (.t 8))⟩,⟨some 18,none,.v (.bin .add (.t 17) (.c (.int .i64 1)))⟩,⟨some 8,none,.v (.mov (.t 18))⟩]
def c_ref1_text_3:SC:=.seq (.reg [⟨some 59,none,.v (.mov (.t 0))⟩,⟨some 60,none,.v (.mov (.t 8))⟩,⟨some 61,none,.v (.istr (.t 59) (.t 60))⟩]) (.block 3 (.seq (.seq (.reg [⟨some 64,none,.v (.bin .eql (.t 61) (.c (.int .u8 34)))⟩,⟨some 63,none,.v (.mov (.t 64))⟩]) (.cond (.t 63) .skip (.seq (.reg [⟨some 65,none,.v (.bin .eql (.t 61) (.c (.int .u8 92)))⟩,⟨some 63,none,.v (.mov (.t 65))⟩]) (.cond (.t 63) .skip (.reg [⟨some 66,none,.v (.bin .eql (.t 61) (.c (.int .u8 36)))⟩,⟨some 63,none,.v (.mov (.t 66))⟩]))))) (.cond (.t 63) (.reg [⟨some 67,none,.v (.mov (.t 7))⟩,⟨some 68,none,.v (.mov (.t 0))⟩,⟨some 69,none,.v (.mov (.t 8))⟩,⟨some 70,none,.v (.istr (.t 68) (.t 69))⟩,⟨some 71,none,.bslice 1 1 [(.int .u8 0)] [(0,(.t 70))]⟩,⟨some 72,none,.append 1 1 (.t 67) (.t 71)⟩,⟨some 7,none,.v (.mov (.t 72))⟩]) (.seq (.reg [⟨some 74,none,.v (.bin .eql (.t 61) (.c (.int .u8 110)))⟩,⟨some 73,none,.v (.mov (.t 74))⟩]) (.cond (.t 73) (.reg [⟨some 75,none,.v (.mov (.t 7))⟩,⟨some 76,none,.bslice 1 1 [(.int .u8 0)] [(0,(.c (.int .u8 10)))]⟩,⟨some 77,none,.append 1 1 (.t 75) (.t 76)⟩,⟨some 7,none,.v (.mov (.t 77))⟩]) (.seq (.reg [⟨some 62,none,.v (.build [(.int .i64 0),(.str []),(.int .i64 0),(.nils 2),(.int .i64 0)] [])⟩,⟨none,none,.store 5 (.t 4) (.t 62)⟩,⟨some 5,none,.v (.mov (.c (.int .i64 0)))⟩]) .ret))))))
def c_ref1_text_4:SC:=.seq (.seq (.reg [⟨some 54,none,.v (.mov (.t 8))⟩,⟨some 55,none,.v (.mov (.t 0))⟩,⟨some 56,none,.v (.len true (.t 55))⟩,⟨some 57,none,.v (.bin .geq (.t 54) (.t 56))⟩]) (.cond (.t 57) (.seq (.reg [⟨some 58,none,.v (.build [(.int .i64 0),(.str []),(.int .i64 0),(.nils 2),(.int .i64 0)] [])⟩,⟨none,none,.store 5 (.t 4) (.t 58)⟩,⟨some 5,none,.v (.mov (.c (.int .i64 0)))⟩]) .ret) .skip)) c_ref1_text_3
def c_ref1_text_5:SC:=.seq (.reg [⟨some 110,none,.v (.mov (.t 6))⟩,⟨some 111,none,.v (.mov (.t 0))⟩,⟨some 112,none,.v (.mov (.t 8))⟩,⟨some 113,none,.v (.bin .add (.t 112) (.c (.int .i64 2)))⟩,⟨some 114,none,.v (.mov (.t 8))⟩,⟨some 115,none,.v (.mov (.t 10))⟩,⟨some 116,none,.v (.bin .add (.t 114) (.t 115))⟩,⟨some 117,none,.v (.bin .sub (.t 116) (.c (.int .i64 1)))⟩,⟨some 118,none,.v (.sls (.t 111) (some (.t 113)) (some (.t 117)))⟩,⟨some 119,none,.v (.build [(.bool false),(.str [])] [(0,1,(.c (.bool true))),(1,1,(.t 118))])⟩,⟨some 120,none,.bslice 2 1 [(.bool false),(.str [])] [(0,(.t 119))]⟩,⟨some 121,none,.append 2 24 (.t 110) (.t 120)⟩,⟨some 6,none,.v (.mov (.t 121))⟩]) (.reg [⟨some 122,none,.v (.mov (.t 8))⟩,⟨some 123,none,.v (.mov (.t 10))⟩,⟨some 124,none,.v (.bin .add (.t 122) (.t 123))⟩,⟨some 125,none,.v (.bin .sub (.t 124) (.c (.int .i64 1)))⟩,⟨some 8,none,.v (.mov (.t 125))⟩])
def c_ref1_text_6:SC:=.seq (.seq (.reg [⟨some 101,none,.v (.mov (.t 7))⟩,⟨some 102,none,.v (.len false (.t 101))⟩,⟨some 103,none,.v (.bin .gtr (.t 102) (.c (.int .i64 0)))⟩]) (.cond (.t 103) (.seq (.reg [⟨some 104,none,.v (.mov (.t 6))⟩,⟨some 105,none,.v (.mov (.t 7))⟩,⟨some 106,none,.v (.conv .bytes (.t 105))⟩,⟨some 107,none,.v (.build [(.bool false),(.str [])] [(1,1,(.t 106))])⟩,⟨some 108,none,.bslice 2 1 [(.bool false),(.str [])] [(0,(.t 107))]⟩,⟨some 109,none,.append 2 24 (.t 104) (.t 108)⟩,⟨some 6,none,.v (.mov (.t 109))⟩]) (.reg [⟨some 7,none,.nilv 1⟩])) .skip)) c_ref1_text_5
def c_ref1_text_7:SC:=.seq (.seq (.reg [⟨some 98,none,.v (.mov (.t 10))⟩,⟨some 99,none,.v (.bin .eql (.t 98) (.c (.int .i64 0)))⟩]) (.cond (.t 99) (.seq (.reg [⟨some 100,none,.v (.build [(.int .i64 0),(.str []),(.int .i64 0),(.nils 2),(.int .i64 0)] [])⟩,⟨none,none,.store 5 (.t 4) (.t 100)⟩,⟨some 5,none,.v (.mov (.c (.int .i64 0)))⟩]) .ret) .skip)) c_ref1_text_6
def c_ref1_text_8:SC:=.cond (.t 78) (.seq (.reg [⟨some 95,none,.v (.mov (.t 0))⟩,⟨some 96,none,.v (.mov (.t 8))⟩,⟨some 97,none,.call (.c (.func 154 [])) [(.t 95),(.t 96)]⟩,⟨some 10,none,.v (.mov (.t 97))⟩]) c_ref1_text_7) (.reg [⟨some 22,none,.v (.mov (.t 7))⟩,⟨some 23,none,.v (.mov (.t 9))⟩,⟨some 24,none,.bslice 1 1 [(.int .u8 0)] [(0,(.t 23))]⟩,⟨some 25,none,.append 1 1 (.t 22) (.t 24)⟩,⟨some 7,none,.v (.mov (.t 25))⟩])
def c_ref1_text_9:SC:=.cond (.t 49) (.seq (.reg [⟨some 52,none,.v (.mov (.t 8))⟩,⟨some 53,none,.v (.bin .add (.t 52) (.c (.int .i64 1)))⟩,⟨some 8,none,.v (.mov (.t 53))⟩]) c_ref1_text_4) (.seq (.reg [⟨some 79,none,.v (.mov (.t 9))⟩,⟨some 80,none,.v (.bin .eql (.t 79) (.c (.int .u8 36)))⟩,⟨some 81,none,.v (.mov (.t 80))⟩,⟨some 82,some (81,true),.v (.mov (.t 8))⟩,⟨some 83,some (81,true),.v (.bin .add (.t 82) (.c (.int .i64 1)))⟩,⟨some 84,some (81,true),.v (.mov (.t 0))⟩,⟨some 85,some (81,true),.v (.len true (.t 84))⟩,⟨some 86,some (81,true),.v (.bin .lss (.t 83) (.t 85))⟩,⟨some 87,none,.v (.pick (.t 81) (.t 86) (.c (.bool false)))⟩,⟨some 88,none,.v (.mov (.t 87))⟩,⟨some 89,some (88,true),.v (.mov (.t 0))⟩,⟨some 90,some (88,true),.v (.mov (.t 8))⟩,⟨some 91,some (88,true),.v (.bin .add (.t 90) (.c (.int .i64 1)))⟩,⟨some 92,some (88,true),.v (.istr (.t 89) (.t 91))⟩,⟨some 93,some (88,true),.v (.bin .eql (.t 92) (.c (.int .u8 123)))⟩,⟨some 94,none,.v (.pick (.t 88) (.t 93) (.c (.bool false)))⟩,⟨some 78,none,.v (.mov (.t 94))⟩]) c_ref1_text_8)
def c_ref1_text_10:SC:=.cond (.t 45) (.seq (.reg [⟨some 48,none,.v (.build [(.int .i64 0),(.str []),(.int .i64 0),(.nils 2),(.int .i64 0)] [])⟩,⟨none,none,.store 5 (.t 4) (.t 48)⟩,⟨some 5,none,.v (.mov (.c (.int .i64 0)))⟩]) .ret) (.seq (.reg [⟨some 50,none,.v (.mov (.t 9))⟩,⟨some 51,none,.v (.bin .eql (.t 50) (.c (.int .u8 92)))⟩,⟨some 49,none,.v (.mov (.t 51))⟩]) c_ref1_text_9)
def c_ref1_text_11:SC:=.cond (.t 26) (.seq (.seq (.reg [⟨some 29,none,.v (.mov (.t 7))⟩,⟨some 30,none,.v (.len false (.t 29))⟩,⟨some 31,none,.v (.bin .gtr (.t 30) (.c (.int .i64 0)))⟩]) (.cond (.t 31) (.reg [⟨some 32,none,.v (.mov (.t 6))⟩,⟨some 33,none,.v (.mov (.t 7))⟩,⟨some 34,none,.v (.conv .bytes (.t 33))⟩,⟨some 35,none,.v (.build [(.bool false),(.str [])] [(1,1,(.t 34))])⟩,⟨some 36,none,.bslice 2 1 [(.bool false),(.str [])] [(0,(.t 35))]⟩,⟨some 37,none,.append 2 24 (.t 32) (.t 36)⟩,⟨some 6,none,.v (.mov (.t 37))⟩]) .skip)) (.seq (.reg [⟨some 38,none,.v (.mov (.t 6))⟩,⟨some 39,none,.v (.mov (.t 1))⟩,⟨some 40,none,.v (.build [(.int .i64 0),(.str []),(.int .i64 0),(.nils 2),(.int .i64 0)] [(0,1,(.c (.int .i64 2))),(3,1,(.t 38)),(4,1,(.t 39))])⟩,⟨some 41,none,.v (.mov (.t 8))⟩,⟨some 42,none,.v (.bin .add (.t 41) (.c (.int .i64 1)))⟩,⟨some 43,none,.v (.mov (.t 1))⟩,⟨some 44,none,.v (.bin .sub (.t 42) (.t 43))⟩,⟨none,none,.store 5 (.t 4) (.t 40)⟩,⟨some 5,none,.v (.mov (.t 44))⟩]) .ret)) (.seq (.reg [⟨some 46,none,.v (.mov (.t 9))⟩,⟨some 47,none,.v (.bin .lss (.t 46) (.c (.int .u8 32)))⟩,⟨some 45,none,.v (.mov (.t 47))⟩]) c_ref1_text_10)
def c_ref1_text_12:SC:=.block 2 (.seq (.reg [⟨some 27,none,.v (.mov (.t 9))⟩,⟨some 28,none,.v (.bin .eql (.t 27) (.c (.int .u8 34)))⟩,⟨some 26,none,.v (.mov (.t 28))⟩]) c_ref1_text_11)
def c_ref1_text_13:SC:=.seq (.block 1 (.seq (.reg [⟨some 19,none,.v (.mov (.t 0))⟩,⟨some 20,none,.v (.mov (.t 8))⟩,⟨some 21,none,.v (.istr (.t 19) (.t 20))⟩,⟨some 9,none,.v (.mov (.t 21))⟩]) c_ref1_text_12)) c_ref1_text_2
def b_ref1_text_1:SC:=.seq (.seq (.reg [⟨some 13,none,.v (.mov (.t 8))⟩,⟨some 14,none,.v (.mov (.t 0))⟩,⟨some 15,none,.v (.len true (.t 14))⟩,⟨some 16,none,.v (.bin .lss (.t 13) (.t 15))⟩]) (.cond (.t 16) .skip (.exit 0))) c_ref1_text_13
noncomputable def k_ref1_text_1 (SP:Prg) (x:EO):CO:=fin [(.cell 4 (some 5)),(.t 5)] (thC SP (inBlk 0 (x)) c_ref1_text_1)
def c_Q16_1:SC:=.seq (.reg [⟨some 23,none,.v (.mov (.t 3))⟩,⟨some 24,none,.v (.bin .add (.c (.int .u64 48)) (.t 23))⟩,⟨some 25,none,.v (.conv (.int .u8) (.t 24))⟩,⟨some 26,none,.bslice 1 1 [(.int .u8 0)] [(0,(.t 25))]⟩,⟨some 27,none,.v (.conv .bytes (.t 26))⟩,⟨some 28,none,.v (.mov (.t 4))⟩,⟨some 29,none,.v (.bin .add (.t 27) (.t 28))⟩,⟨some 4,none,.v (.mov (.t 29))⟩]) (.seq (.seq (.reg [⟨some 30,none,.v (.mov (.t 0))⟩,⟨some 31,none,.v (.bin .lss (.t 30) (.c (.int .i64 0)))⟩]) (.cond (.t 31) (.seq (.reg [⟨some 32,none,.v (.mov (.t 4))⟩,⟨some 33,none,.v (.bin .add (.c (.str [45])) (.t 32))⟩,⟨some 2,none,.v (.mov (.t 33))⟩]) .ret) .skip)) (.seq (.reg [⟨some 34,none,.v (.mov (.t 4))⟩,⟨some 2,none,.v (.mov (.t 34))⟩]) .ret))
def b_Q16_1:SC:=.seq (.seq (.reg [⟨some 11,none,.v (.mov (.t 3))⟩,⟨some 12,none,.v (.bin .geq (.t 11) (.c (.int .u64 10)))⟩]) (.cond (.t 12) .skip (.exit 0))) (.block 1 (.seq (.reg [⟨some 13,none,.v (.mov (.t 3))⟩,⟨some 14,none,.v (.bin .rem (.t 13) (.c (.int .u64 10)))⟩,⟨some 15,none,.v (.bin .add (.c (.int .u64 48)) (.t 14))⟩,⟨some 16,none,.v (.conv (.int .u8) (.t 15))⟩,⟨some 17,none,.bslice 1 1 [(.int .u8 0)] [(0,(.t 16))]⟩,⟨some 18,none,.v (.conv .bytes (.t 17))⟩,⟨some 19,none,.v (.mov (.t 4))⟩,⟨some 20,none,.v (.bin .add (.t 18) (.t 19))⟩,⟨some 4,none,.v (.mov (.t 20))⟩]) (.reg [⟨some 21,none,.v (.mov (.t 3))⟩,⟨some 22,none,.v (.bin .quo (.t 21) (.c (.int .u64 10)))⟩,⟨some 3,none,.v (.mov (.t 22))⟩])))
def c_Q16_2:SC:=.seq (.block 0 (.loop b_Q16_1)) c_Q16_1
def c_Q16_3:SC:=.seq (.seq (.reg [⟨some 7,none,.v (.mov (.t 0))⟩,⟨some 8,none,.v (.bin .lss (.t 7) (.c (.int .i64 0)))⟩]) (.cond (.t 8) (.reg [⟨some 9,none,.v (.mov (.t 3))⟩,⟨some 10,none,.v (.un .neg (.t 9))⟩,⟨some 3,none,.v (.mov (.t 10))⟩]) .skip)) c_Q16_2
def c_Q16_4:SC:=.seq (.reg [⟨some 5,none,.v (.mov (.t 0))⟩,⟨some 6,none,.v (.conv (.int .u64) (.t 5))⟩,⟨some 3,none,.v (.mov (.t 6))⟩,⟨some 4,none,.v (.mov (.c (.str [])))⟩]) c_Q16_3
def sc_Q16:SFunc:=⟨1,35,.seq (.reg [⟨some 2,none,.v (.mov (.c (.str [])))⟩]) c_Q16_4,[(.t 2)]⟩
noncomputable def k_Q16_1 (SP:Prg) (x:EO):CO:=fin [(.t 2)] (thC SP (inBlk 0 (x)) c_Q16_1)
theorem U_Q16:type_of% (aI (ue c_Q16_1.eq_1)<|aI (ue b_Q16_1.eq_1)<|aI (ue c_Q16_2.eq_1)<|aI (ue c_Q16_3.eq_1)<|aI (ue c_Q16_4.eq_1)<|sc_Q16.eq_1):=aI (ue c_Q16_1.eq_1)<|aI (ue b_Q16_1.eq_1)<|aI (ue c_Q16_2.eq_1)<|aI (ue c_Q16_3.eq_1)<|aI (ue c_Q16_4.eq_1)<|sc_Q16.eq_1
theorem comp_Q16:comp Tryz.prog Tryz.f16=some sc_Q16:=by kernel_rfl
end Go.Proofs.YtfbcnpbhhooapaaGreatDoor.M
namespace Go.Proofs.YtfbcnpbhhooapaaGreatDoor.M
set_option linter.unusedSimpArgs false
set_option linter.unusedVariables false
open Go Classical
theorem sp_Q137:SP 137=some (.code sc_Q137):=SPof_code rfl Tryz.func137 comp_Q137
theorem Q137_tree (c:UInt8) (r:Int) (T :
  (((c.toNat:Int)=32) →
  1=r) ∧
 (¬ ((c.toNat:Int)=32) →
  (((c.toNat:Int)=10) →
   1=r) ∧
  (¬ ((c.toNat:Int)=10) →
   (((c.toNat:Int)=95) →
    2=r) ∧
   (¬ ((c.toNat:Int)=95) →
    ((97≤(c.toNat:Int)) →
     (((c.toNat:Int)≤122) →
      2=r) ∧
     (¬ ((c.toNat:Int)≤122) →
      ((48≤(c.toNat:Int)) →
       (((c.toNat:Int)≤57) →
        3=r) ∧
       (¬ ((c.toNat:Int)≤57) →
        (((c.toNat:Int)=34) →
         4=r) ∧
        (¬ ((c.toNat:Int)=34) →
         (((c.toNat:Int)=35) →
          5=r) ∧
         (¬ ((c.toNat:Int)=35) →
          0=r)))) ∧
      (¬ (48≤(c.toNat:Int)) →
       (((c.toNat:Int)=34) →
        4=r) ∧
       (¬ ((c.toNat:Int)=34) →
        (((c.toNat:Int)=35) →
         5=r) ∧
        (¬ ((c.toNat:Int)=35) →
         0=r))))) ∧
    (¬ (97≤(c.toNat:Int)) →
     ((48≤(c.toNat:Int)) →
      (((c.toNat:Int)≤57) →
       3=r) ∧
      (¬ ((c.toNat:Int)≤57) →
       (((c.toNat:Int)=34) →
        4=r) ∧
       (¬ ((c.toNat:Int)=34) →
        (((c.toNat:Int)=35) →
         5=r) ∧
        (¬ ((c.toNat:Int)=35) →
         0=r)))) ∧
     (¬ (48≤(c.toNat:Int)) →
      (((c.toNat:Int)=34) →
       4=r) ∧
      (¬ ((c.toNat:Int)=34) →
       (((c.toNat:Int)=35) →
        5=r) ∧
       (¬ ((c.toNat:Int)=35) →
        0=r)))))))):R_Q137 c r:=by
 intro S
 rw[call_code sp_Q137 _ _ rfl]
 have F:=U_Q137
 by_cases c1:(c.toNat:Int)=32
 ·replace T:=T.1 c1
  obtain rfl:=T
  exact fi (aa (eq_true c1)<|F)
 replace T:=T.2 c1
 replace F:=aa (eq_false c1)<|F
 by_cases c2:(c.toNat:Int)=10
 ·replace T:=T.1 c2
  obtain rfl:=T
  exact fi (aa (eq_true c2)<|F)
 replace T:=T.2 c2
 replace F:=aa (eq_false c2)<|F
 by_cases c3:(c.toNat:Int)=95
 ·replace T:=T.1 c3
  obtain rfl:=T
  exact fi (aa (eq_true c3)<|F)
 replace T:=T.2 c3
 replace F:=aa (eq_false c3)<|F
 by_cases c4:97≤(c.toNat:Int)
 ·replace T:=T.1 c4
  replace F:=aa (eq_true c4)<|F
  by_cases c5:(c.toNat:Int)≤122
  ·replace T:=T.1 c5
   obtain rfl:=T
   exact fi (aa (eq_true c5)<|F)
  replace T:=T.2 c5
  replace F:=aa (eq_false c5)<|F
  by_cases c6:48≤(c.toNat:Int)
  ·replace T:=T.1 c6
   replace F:=aa (eq_true c6)<|F
   by_cases c7:(c.toNat:Int)≤57
   ·replace T:=T.1 c7
    obtain rfl:=T
    exact fi (aa (eq_true c7)<|F)
   replace T:=T.2 c7
   replace F:=aa (eq_false c7)<|F
   by_cases c8:(c.toNat:Int)=34
   ·replace T:=T.1 c8
    obtain rfl:=T
    exact fi (aa (eq_true c8)<|F)
   replace T:=T.2 c8
   replace F:=aa (eq_false c8)<|F
   by_cases c9:(c.toNat:Int)=35
   ·replace T:=T.1 c9
    obtain rfl:=T
    exact fi (aa (eq_true c9)<|F)
   replace T:=T.2 c9
   obtain rfl:=T
   exact fi (aa (eq_false c9)<|F)
  replace T:=T.2 c6
  replace F:=aa (eq_false c6)<|F
  by_cases c10:(c.toNat:Int)=34
  ·replace T:=T.1 c10
   obtain rfl:=T
   exact fi (aa (eq_true c10)<|F)
  replace T:=T.2 c10
  replace F:=aa (eq_false c10)<|F
  by_cases c11:(c.toNat:Int)=35
  ·replace T:=T.1 c11
   obtain rfl:=T
   exact fi (aa (eq_true c11)<|F)
  replace T:=T.2 c11
  obtain rfl:=T
  exact fi (aa (eq_false c11)<|F)
 replace T:=T.2 c4
 replace F:=aa (eq_false c4)<|F
 by_cases c12:48≤(c.toNat:Int)
 ·replace T:=T.1 c12
  replace F:=aa (eq_true c12)<|F
  by_cases c13:(c.toNat:Int)≤57
  ·replace T:=T.1 c13
   obtain rfl:=T
   exact fi (aa (eq_true c13)<|F)
  replace T:=T.2 c13
  replace F:=aa (eq_false c13)<|F
  by_cases c14:(c.toNat:Int)=34
  ·replace T:=T.1 c14
   obtain rfl:=T
   exact fi (aa (eq_true c14)<|F)
  replace T:=T.2 c14
  replace F:=aa (eq_false c14)<|F
  by_cases c15:(c.toNat:Int)=35
  ·replace T:=T.1 c15
   obtain rfl:=T
   exact fi (aa (eq_true c15)<|F)
  replace T:=T.2 c15
  obtain rfl:=T
  exact fi (aa (eq_false c15)<|F)
 replace T:=T.2 c12
 replace F:=aa (eq_false c12)<|F
 by_cases c16:(c.toNat:Int)=34
 ·replace T:=T.1 c16
  obtain rfl:=T
  exact fi (aa (eq_true c16)<|F)
 replace T:=T.2 c16
 replace F:=aa (eq_false c16)<|F
 by_cases c17:(c.toNat:Int)=35
 ·replace T:=T.1 c17
  obtain rfl:=T
  exact fi (aa (eq_true c17)<|F)
 replace T:=T.2 c17
 obtain rfl:=T
 exact fi (aa (eq_false c17)<|F)
theorem sp_Q151:SP 151=some (.code sc_Q151):=SPof_code rfl Tryz.func151 comp_Q151
def At_Q151_1 (s:List UInt8) (classes:List Int) (i1:Int) (r:Int):Prop:=∀ (S:Sto) (e:Nat→PV) (f:Fr),e 0=.str s∧e 1=.list 1 (classes.map eI) false∧e 7=.int .i64 (s.length:Int)∧e 8=.int .i64 i1→k_Q151_1 SP (E SP (.loop b_Q151_1) ⟨e,f::S⟩)=.ok (.v (.int .i64 r)) S
theorem At_Q151_1_step (s:List UInt8) (classes:List Int) (i1:Int) (r:Int) (T :
  ((i1 < (s.length:Int)) →
  (0≤i1) ∧
  ∃ (b2:UInt8),(s[i1.toNat]?=some b2) ∧
  ∃ (r3:Int),(R_Q137 b2 r3) ∧
  ∃ (r4:Bool),(R_slices_Contains_int_int classes r3 r4) ∧
  ((r4=true) →
   (I64 (i1+1)) ∧
   At_Q151_1 s classes (i1+1) r) ∧
  (¬ (r4=true) →
   i1=r)) ∧
 (¬ (i1 < (s.length:Int)) →
  (s.length:Int)=r)):At_Q151_1 s classes i1 r:=by
 intro S e f h
 unfold k_Q151_1
 rw[E_loop]
 have F:=U_Q151
 replace F:=aa h<|F
 by_cases c1:i1 < (s.length:Int)
 ·replace T:=T.1 c1
  obtain⟨p2,b2,q3,r3,q4,r4,q5,T⟩:=T
  simp only[R_Q137,lF] at q4
  simp only[R_slices_Contains_int_int,lF] at q5
  replace F:=aa (eq_true c1)<|aa p2<|aa q3<|aa q4<|aa q5<|F
  by_cases c6:r4=true
  ·replace T:=T.1 c6
   obtain⟨p7,T⟩:=T
   replace F:=aa c6<|aa p7.wrap<|F
   exact lo F T
  replace T:=T.2 c6
  replace c6:=Bool.eq_false_iff.2 c6
  obtain rfl:=T
  exact fi (aa c6<|F)
 replace T:=T.2 c1
 obtain rfl:=T
 exact fi (aa (eq_false c1)<|F)
theorem Q151_tree (s:List UInt8) (classes:List Int) (r:Int) (T :
  At_Q151_1 s classes 0 r):R_Q151 s classes r:=by
 intro S
 rw[call_code sp_Q151 _ _ rfl]
 have F:=U_Q151
 exact lo F T
theorem sp_Q135:SP 135=some (.code sc_Q135):=SPof_code rfl Tryz.func135 comp_Q135
theorem Q135_tree (t:LText) (n:Int) (r:List UInt8) (t':LText) (T :
  (0≤n)∧(n.toNat≤t.left.length) ∧
 (0≤n)∧(n.toNat≤t.left.length) ∧
 (I64 (t.pos+n)) ∧
 (t.left.take (n.toNat))=r∧(LText.mk ((t.left.drop n.toNat).take (t.left.length - n.toNat)) (t.pos+n))=t'):R_Q135 t n r t':=by
 intro S n0 t0 H0
 have hb0:=H0
 obtain⟨w0,hB0⟩:=take_some hb0
 have hn0:=o_getBox_lt hB0
 rw[call_code sp_Q135 _ _ rfl]
 have F:=U_Q135
 obtain⟨p1,p2,p3,p4,p5,rfl,rfl⟩:=T
 exact fi (aa hB0<|aa hn0<|aa p1<|aa p2<|aa p3<|aa p4<|aa p5.wrap<|F)
theorem sp_Q134:SP 134=some (.code sc_Q134):=SPof_code rfl Tryz.func134 comp_Q134
theorem Q134_tree (t:LText) (classes:List Int) (r:List UInt8) (t':LText) (T :
  ∃ (r1:Int),(R_Q151 t.left classes r1) ∧
 ∃ (r2:List UInt8) (y3:LText),(R_Q135 t r1 r2 y3) ∧
 r2=r∧y3=t'):R_Q134 t classes r t':=by
 intro S n0 t0 H0
 have hb0:=H0
 obtain⟨w0,hB0⟩:=take_some hb0
 have hn0:=o_getBox_lt hB0
 rw[call_code sp_Q134 _ _ rfl]
 have F:=U_Q134
 obtain⟨r1,q1,r2,y3,q2,rfl,rfl⟩:=T
 simp only[R_Q151,lF] at q1
 simp only[R_Q135,lF] at q2
 exact fi (aa hB0<|aa hn0<|aa q1<|aa q2<|F)
theorem sp_Q165:SP 165=some (.code sc_Q165):=SPof_code rfl Tryz.func165 comp_Q165
theorem Q165_tree (p:List Part) (p_g0:Nat) (p_z0:Bool) (c:UInt8) (p':List Part) (p'_g0:Nat) (p'_z0:Bool) (T :
  (((p.length:Int)=0) →
  (bigRow (p.length+1) 24) ∧
  (I64 ((p.length:Int)+1)) ∧
  (I64 (((p.length:Int)+1) - 1)) ∧
  (0≤(((p.length:Int)+1) - 1))∧((((p.length:Int)+1) - 1).toNat < p.length+1) ∧
  ∃ (v1:Part),((p++[(Part.mk false [])])[(((p.length:Int)+1) - 1).toNat]?=some v1) ∧
  (v1.Text.length+1≤maxInt) ∧
  (0≤(((p.length:Int)+1) - 1))∧((((p.length:Int)+1) - 1).toNat < p.length+1) ∧
  (p_z0=false) ∧
  ((p++[(Part.mk false [])]).set ((((p.length:Int)+1) - 1).toNat) (Part.mk v1.Ref (v1.Text++[c])))=p'∧p_g0=p'_g0∧p_z0=p'_z0) ∧
 (¬ ((p.length:Int)=0) →
  (I64 ((p.length:Int) - 1)) ∧
  (0≤((p.length:Int) - 1))∧(((p.length:Int) - 1).toNat < p.length) ∧
  ∃ (v2:Part),(p[((p.length:Int) - 1).toNat]?=some v2) ∧
  ((v2.Ref=true) →
   (bigRow (p.length+1) 24) ∧
   (I64 ((p.length:Int)+1)) ∧
   (I64 (((p.length:Int)+1) - 1)) ∧
   (0≤(((p.length:Int)+1) - 1))∧((((p.length:Int)+1) - 1).toNat < p.length+1) ∧
   ∃ (v3:Part),((p++[(Part.mk false [])])[(((p.length:Int)+1) - 1).toNat]?=some v3) ∧
   (v3.Text.length+1≤maxInt) ∧
   (0≤(((p.length:Int)+1) - 1))∧((((p.length:Int)+1) - 1).toNat < p.length+1) ∧
   (p_z0=false) ∧
   ((p++[(Part.mk false [])]).set ((((p.length:Int)+1) - 1).toNat) (Part.mk v3.Ref (v3.Text++[c])))=p'∧p_g0=p'_g0∧p_z0=p'_z0) ∧
  (¬ (v2.Ref=true) →
   (I64 ((p.length:Int) - 1)) ∧
   (0≤((p.length:Int) - 1))∧(((p.length:Int) - 1).toNat < p.length) ∧
   (v2.Text.length+1≤maxInt) ∧
   (0≤((p.length:Int) - 1))∧(((p.length:Int) - 1).toNat < p.length) ∧
   (p_z0=false) ∧
   (p.set (((p.length:Int) - 1).toNat) (Part.mk v2.Ref (v2.Text++[c])))=p'∧p_g0=p'_g0∧p_z0=p'_z0))):R_Q165 p p_g0 p_z0 c p' p'_g0 p'_z0:=by
 intro S n0 t0 H0
 obtain⟨hb0,ha0⟩:=H0
 obtain⟨w0,hB0⟩:=take_some hb0
 have hn0:=o_getBox_lt hB0
 rw[call_code sp_Q165 _ _ rfl]
 have F:=U_Q165
 replace F:=aa ha0<|aa hB0<|aa hn0<|F
 by_cases c1:(p.length:Int)=0
 ·replace T:=T.1 c1
  obtain⟨p2,p3,p4,p5,p6,v1,q7,p8,p9,p10,p11,rfl,rfl,rfl⟩:=T
  simp only[bigRow] at p2
  replace q7:=congrArg (Option.map ePart) q7
  rw[←List.getElem?_map] at q7
  simp only[le,List.map_append,Option.map_some] at q7
  exact fi (aa (eq_true c1)<|aa p2<|aa p3.wrap<|aa p4.wrap<|aa p5<|aa p6<|aa q7<|aa p8<|aa p9<|aa p10<|aa p11<|F)
 replace T:=T.2 c1
 obtain⟨p12,p13,p14,v2,q15,T⟩:=T
 replace F:=aa (eq_false c1)<|aa p12.wrap<|aa p13<|aa p14<|aa q15<|F
 by_cases c16:v2.Ref=true
 ·replace T:=T.1 c16
  obtain⟨p17,p18,p19,p20,p21,v3,q22,p23,p24,p25,p26,rfl,rfl,rfl⟩:=T
  simp only[bigRow] at p17
  replace q22:=congrArg (Option.map ePart) q22
  rw[←List.getElem?_map] at q22
  simp only[le,List.map_append,Option.map_some] at q22
  exact fi (aa c16<|aa p17<|aa p18.wrap<|aa p19.wrap<|aa p20<|aa p21<|aa q22<|aa p23<|aa p24<|aa p25<|aa p26<|F)
 replace T:=T.2 c16
 replace c16:=Bool.eq_false_iff.2 c16
 obtain⟨p27,p28,p29,p30,p31,p32,p33,rfl,rfl,rfl⟩:=T
 exact fi (aa c16<|aa p27.wrap<|aa p28<|aa p29<|aa p30<|aa p31<|aa p32<|aa p33<|F)
theorem sp_Q164:SP 164=some (.code sc_Q164):=SPof_code rfl Tryz.func164 comp_Q164
theorem Q164_tree (s:List UInt8) (ra:UInt8) (rb:Bool) (T :
  (((s.length:Int) < 2) →
  (0:UInt8)=ra∧false=rb) ∧
 (¬ ((s.length:Int) < 2) →
  ∃ (b1:UInt8),(s[1]?=some b1) ∧
  ∃ (r2:Int),(R_strings_IndexByte [34,92,36,110] b1 r2) ∧
  ((r2 < 0) →
   (0:UInt8)=ra∧false=rb) ∧
  (¬ (r2 < 0) →
   (0≤r2) ∧
   ∃ (b3:UInt8),([34,92,36,10][r2.toNat]?=some b3) ∧
   b3=ra∧true=rb))):R_Q164 s ra rb:=by
 intro S
 rw[call_code sp_Q164 _ _ rfl]
 have F:=U_Q164
 by_cases c1:(s.length:Int) < 2
 ·replace T:=T.1 c1
  obtain⟨rfl,rfl⟩:=T
  exact fi (aa (eq_true c1)<|F)
 replace T:=T.2 c1
 obtain⟨b1,q2,r2,q3,T⟩:=T
 simp only[R_strings_IndexByte,lF] at q3
 replace F:=aa (eq_false c1)<|aa q2<|aa q3<|F
 by_cases c4:r2 < 0
 ·replace T:=T.1 c4
  obtain⟨rfl,rfl⟩:=T
  exact fi (aa (eq_true c4)<|F)
 replace T:=T.2 c4
 obtain⟨p5,b3,q6,rfl,rfl⟩:=T
 exact fi (aa (eq_false c4)<|aa p5<|aa q6<|F)
theorem sp_Q166:SP 166=some (.code sc_Q166):=SPof_code rfl Tryz.func166 comp_Q166
theorem Q166_tree (s:List UInt8) (ra:List UInt8) (rb:Bool) (T :
  (2≤s.length) ∧
 ∃ (r1:List UInt8) (r2:List UInt8) (r3:Bool),(R_strings_Cut ((s.drop 2).take (s.length - 2)) [125] r1 r2 r3) ∧
 ∃ (r4:List UInt8) (r5:List UInt8) (r6:Bool),(R_strings_Cut r1 [46] r4 r5 r6) ∧
 ((r3=true) →
  ((r6=true) →
   ∃ (r7:Bool),(R_Q115 r4 r7) ∧
   ((r7=true) →
    ∃ (r8:Bool),(R_Q115 r5 r8) ∧
    r1=ra∧r8=rb) ∧
   (¬ (r7=true) →
    r1=ra∧false=rb)) ∧
  (¬ (r6=true) →
   r1=ra∧false=rb)) ∧
 (¬ (r3=true) →
  r1=ra∧false=rb)):R_Q166 s ra rb:=by
 intro S
 rw[call_code sp_Q166 _ _ rfl]
 have F:=U_Q166
 obtain⟨p1,r1,r2,r3,q2,r4,r5,r6,q3,T⟩:=T
 simp only[R_strings_Cut,lF] at q2
 simp only[R_strings_Cut,lF] at q3
 replace F:=aa p1<|aa q2<|aa q3<|F
 by_cases c4:r3=true
 ·replace T:=T.1 c4
  replace F:=aa c4<|F
  by_cases c5:r6=true
  ·replace T:=T.1 c5
   obtain⟨r7,q6,T⟩:=T
   simp only[R_Q115,lF] at q6
   replace F:=aa c5<|aa q6<|F
   by_cases c7:r7=true
   ·replace T:=T.1 c7
    obtain⟨r8,q8,rfl,rfl⟩:=T
    simp only[R_Q115,lF] at q8
    exact fi (aa c7<|aa q8<|F)
   replace T:=T.2 c7
   replace c7:=Bool.eq_false_iff.2 c7
   obtain⟨rfl,rfl⟩:=T
   exact fi (aa c7<|F)
  replace T:=T.2 c5
  replace c5:=Bool.eq_false_iff.2 c5
  obtain⟨rfl,rfl⟩:=T
  exact fi (aa c5<|F)
 replace T:=T.2 c4
 replace c4:=Bool.eq_false_iff.2 c4
 obtain⟨rfl,rfl⟩:=T
 exact fi (aa c4<|F)
theorem sp_Q115:SP 115=some (.code sc_Q115):=SPof_code rfl Tryz.func115 comp_Q115
theorem Q115_tree (s:List UInt8) (r:Bool) (T :
  ((s=[]) →
  false=r) ∧
 (¬ (s=[]) →
  (((s.length:Int)≤24) →
   ∃ (b1:UInt8),(s[0]?=some b1) ∧
   ∃ (r2:Int),(R_Q137 b1 r2) ∧
   ((r2=2) →
    ∃ (r3:Int),(R_Q151 s [2,3] r3) ∧
    (decide (r3=(s.length:Int)))=r) ∧
   (¬ (r2=2) →
    false=r)) ∧
  (¬ ((s.length:Int)≤24) →
   false=r))):R_Q115 s r:=by
 intro S
 rw[call_code sp_Q115 _ _ rfl]
 have F:=U_Q115
 by_cases c1:s=[]
 ·replace T:=T.1 c1
  obtain rfl:=T
  exact fi (aa (eq_true c1)<|F)
 replace T:=T.2 c1
 replace F:=aa (eq_false c1)<|F
 by_cases c2:(s.length:Int)≤24
 ·replace T:=T.1 c2
  obtain⟨b1,q3,r2,q4,T⟩:=T
  simp only[R_Q137,lF] at q4
  replace F:=aa (eq_true c2)<|aa q3<|aa q4<|F
  by_cases c5:r2=2
  ·replace T:=T.1 c5
   obtain⟨r3,q6,rfl⟩:=T
   simp only[R_Q151,lF] at q6
   exact fi (aa (eq_true c5)<|aa q6<|F)
  replace T:=T.2 c5
  obtain rfl:=T
  exact fi (aa (eq_false c5)<|F)
 replace T:=T.2 c2
 obtain rfl:=T
 exact fi (aa (eq_false c2)<|F)
theorem sp_Q119:SP 119=some (.code sc_Q119):=SPof_code rfl Tryz.func119 comp_Q119
theorem Q119_tree (c:UInt8) (r:Bool) (T :
  ((48≤(c.toNat:Int)) →
  (decide ((c.toNat:Int)≤57))=r) ∧
 (¬ (48≤(c.toNat:Int)) →
  false=r)):R_Q119 c r:=by
 intro S
 rw[call_code sp_Q119 _ _ rfl]
 have F:=U_Q119
 by_cases c1:48≤(c.toNat:Int)
 ·replace T:=T.1 c1
  obtain rfl:=T
  exact fi (aa (eq_true c1)<|F)
 replace T:=T.2 c1
 obtain rfl:=T
 exact fi (aa (eq_false c1)<|F)
theorem sp_Q118:SP 118=some (.code sc_Q118):=SPof_code rfl Tryz.func118 comp_Q118
theorem Q118_tree (c:UInt8) (r:Bool) (T :
  ((97≤(c.toNat:Int)) →
  (((c.toNat:Int)≤122) →
   true=r) ∧
  (¬ ((c.toNat:Int)≤122) →
   (decide ((c.toNat:Int)=95))=r)) ∧
 (¬ (97≤(c.toNat:Int)) →
  (decide ((c.toNat:Int)=95))=r)):R_Q118 c r:=by
 intro S
 rw[call_code sp_Q118 _ _ rfl]
 have F:=U_Q118
 by_cases c1:97≤(c.toNat:Int)
 ·replace T:=T.1 c1
  replace F:=aa (eq_true c1)<|F
  by_cases c2:(c.toNat:Int)≤122
  ·replace T:=T.1 c2
   obtain rfl:=T
   exact fi (aa (eq_true c2)<|F)
  replace T:=T.2 c2
  obtain rfl:=T
  exact fi (aa (eq_false c2)<|F)
 replace T:=T.2 c1
 obtain rfl:=T
 exact fi (aa (eq_false c1)<|F)
theorem sp_Q77:SP 77=some (.code sc_Q77):=SPof_code rfl Tryz.func77 comp_Q77
def At_Q77_1 (s:List UInt8) (i3:Int) (r:Int):Prop:=∀ (S:Sto) (e:Nat→PV) (f:Fr),e 0=.str s∧e 5=.int .i64 i3→k_Q77_1 SP (E SP (.loop b_Q77_1) ⟨e,f::S⟩)=.ok (.v (.int .i64 r)) S
theorem At_Q77_1_step (s:List UInt8) (i3:Int) (r:Int) (T :
  ((i3 < (s.length:Int)) →
  (0≤i3) ∧
  ∃ (b4:UInt8),(s[i3.toNat]?=some b4) ∧
  ∃ (r5:Bool),(R_Q118 b4 r5) ∧
  ((r5=true) →
   (I64 (i3+1)) ∧
   At_Q77_1 s (i3+1) r) ∧
  (¬ (r5=true) →
   ∃ (r6:Bool),(R_Q119 b4 r6) ∧
   ((r6=true) →
    (I64 (i3+1)) ∧
    At_Q77_1 s (i3+1) r) ∧
   (¬ (r6=true) →
    i3=r))) ∧
 (¬ (i3 < (s.length:Int)) →
  i3=r)):At_Q77_1 s i3 r:=by
 intro S e f h
 unfold k_Q77_1
 rw[E_loop]
 have F:=U_Q77
 replace F:=aa h<|F
 by_cases c1:i3 < (s.length:Int)
 ·replace T:=T.1 c1
  obtain⟨p2,b4,q3,r5,q4,T⟩:=T
  simp only[R_Q118,lF] at q4
  replace F:=aa (eq_true c1)<|aa p2<|aa q3<|aa q4<|F
  by_cases c5:r5=true
  ·replace T:=T.1 c5
   obtain⟨p6,T⟩:=T
   replace F:=aa c5<|aa p6.wrap<|F
   exact lo F T
  replace T:=T.2 c5
  replace c5:=Bool.eq_false_iff.2 c5
  obtain⟨r6,q7,T⟩:=T
  simp only[R_Q119,lF] at q7
  replace F:=aa c5<|aa q7<|F
  by_cases c8:r6=true
  ·replace T:=T.1 c8
   obtain⟨p9,T⟩:=T
   replace F:=aa c8<|aa p9.wrap<|F
   exact lo F T
  replace T:=T.2 c8
  replace c8:=Bool.eq_false_iff.2 c8
  obtain rfl:=T
  exact fi (aa c8<|F)
 replace T:=T.2 c1
 obtain rfl:=T
 exact fi (aa (eq_false c1)<|F)
theorem Q77_tree (s:List UInt8) (i:Int) (r:Int) (T :
  (((s.length:Int)≤i) →
  i=r) ∧
 (¬ ((s.length:Int)≤i) →
  (0≤i) ∧
  ∃ (b1:UInt8),(s[i.toNat]?=some b1) ∧
  ∃ (r2:Bool),(R_Q118 b1 r2) ∧
  ((r2=true) →
   At_Q77_1 s i r) ∧
  (¬ (r2=true) →
   i=r))):R_Q77 s i r:=by
 intro S
 rw[call_code sp_Q77 _ _ rfl]
 have F:=U_Q77
 by_cases c1:(s.length:Int)≤i
 ·replace T:=T.1 c1
  obtain rfl:=T
  exact fi (aa (eq_true c1)<|F)
 replace T:=T.2 c1
 obtain⟨p2,b1,q3,r2,q4,T⟩:=T
 simp only[R_Q118,lF] at q4
 replace F:=aa (eq_false c1)<|aa p2<|aa q3<|aa q4<|F
 by_cases c5:r2=true
 ·replace T:=T.1 c5
  replace F:=aa c5<|F
  exact lo F T
 replace T:=T.2 c5
 replace c5:=Bool.eq_false_iff.2 c5
 obtain rfl:=T
 exact fi (aa c5<|F)
theorem sp_Q79:SP 79=some (.code sc_Q79):=SPof_code rfl Tryz.func79 comp_Q79
theorem Q79_tree (s:List UInt8) (r:Bool) (T :
  ((s=[]) →
  false=r) ∧
 (¬ (s=[]) →
  (((s.length:Int)≤24) →
   ∃ (r1:Int),(R_Q77 s 0 r1) ∧
   (decide (r1=(s.length:Int)))=r) ∧
  (¬ ((s.length:Int)≤24) →
   false=r))):R_Q79 s r:=by
 intro S
 rw[call_code sp_Q79 _ _ rfl]
 have F:=U_Q79
 by_cases c1:s=[]
 ·replace T:=T.1 c1
  obtain rfl:=T
  exact fi (aa (eq_true c1)<|F)
 replace T:=T.2 c1
 replace F:=aa (eq_false c1)<|F
 by_cases c2:(s.length:Int)≤24
 ·replace T:=T.1 c2
  obtain⟨r1,q3,rfl⟩:=T
  simp only[R_Q77,lF] at q3
  exact fi (aa (eq_true c2)<|aa q3<|F)
 replace T:=T.2 c2
 obtain rfl:=T
 exact fi (aa (eq_false c2)<|F)
theorem sp_Q78:SP 78=some (.code sc_Q78):=SPof_code rfl Tryz.func78 comp_Q78
theorem Q78_tree (s:List UInt8) (r:Bool) (T :
  ∃ (r1:Int),(R_Q77 s 0 r1) ∧
 ((0 < r1) →
  ((r1 < (s.length:Int)) →
   (0≤r1) ∧
   ∃ (b2:UInt8),(s[r1.toNat]?=some b2) ∧
   (((b2.toNat:Int)=46) →
    (0≤r1)∧(r1.toNat≤s.length) ∧
    ∃ (r3:Bool),(R_Q79 (s.take (r1.toNat)) r3) ∧
    ((r3=true) →
     (I64 (r1+1)) ∧
     (0≤(r1+1))∧((r1+1).toNat≤s.length) ∧
     ∃ (r4:Bool),(R_Q79 ((s.drop ((r1+1).toNat)).take (s.length - ((r1+1).toNat))) r4) ∧
     r4=r) ∧
    (¬ (r3=true) →
     false=r)) ∧
   (¬ ((b2.toNat:Int)=46) →
    false=r)) ∧
  (¬ (r1 < (s.length:Int)) →
   false=r)) ∧
 (¬ (0 < r1) →
  false=r)):R_Q78 s r:=by
 intro S
 rw[call_code sp_Q78 _ _ rfl]
 have F:=U_Q78
 obtain⟨r1,q1,T⟩:=T
 simp only[R_Q77,lF] at q1
 replace F:=aa q1<|F
 by_cases c2:0 < r1
 ·replace T:=T.1 c2
  replace F:=aa (eq_true c2)<|F
  by_cases c3:r1 < (s.length:Int)
  ·replace T:=T.1 c3
   obtain⟨p4,b2,q5,T⟩:=T
   replace F:=aa (eq_true c3)<|aa p4<|aa q5<|F
   by_cases c6:(b2.toNat:Int)=46
   ·replace T:=T.1 c6
    obtain⟨p7,p8,r3,q9,T⟩:=T
    simp only[R_Q79,lF] at q9
    replace F:=aa (eq_true c6)<|aa p7<|aa p8<|aa q9<|F
    by_cases c10:r3=true
    ·replace T:=T.1 c10
     obtain⟨p11,p12,p13,r4,q14,rfl⟩:=T
     simp only[R_Q79,lF] at q14
     exact fi (aa c10<|aa p11.wrap<|aa p12<|aa p13<|aa q14<|F)
    replace T:=T.2 c10
    replace c10:=Bool.eq_false_iff.2 c10
    obtain rfl:=T
    exact fi (aa c10<|F)
   replace T:=T.2 c6
   obtain rfl:=T
   exact fi (aa (eq_false c6)<|F)
  replace T:=T.2 c3
  obtain rfl:=T
  exact fi (aa (eq_false c3)<|F)
 replace T:=T.2 c2
 obtain rfl:=T
 exact fi (aa (eq_false c2)<|F)
def At_ref1_text_1 (s:List UInt8) (i:Int) (i1:Int) (i2:Int) (s3:List UInt8) (i4:Int) (i5:Int) (l6:List Part) (g7:Nat) (l8:List Part) (l9:List UInt8) (ra:Token) (rb:Int):Prop:=∀ (S:Sto) (e:Nat→PV) (f:Fr),e 0=.str s∧e 1=.int .i64 i∧e 4=.ptr 0 4 0∧e 6=.sl 0 (.slot 6) 0 l8.length l8.length 0 false∧e 7=.sl 0 (.slot 7) 0 l9.length l9.length 0 false∧e 8=.int .i64 i1∧f.box 4=some [.int .i64 i2,.str s3,.int .i64 i4,.sl 0 (.cell 4 3) 0 l6.length l6.length g7 false,.int .i64 i5]∧f.arr (.cell 4 3)=some ⟨2,l6.map ePart,false,g7⟩∧f.arr (.slot 6)=some ⟨2,l8.map ePart,false,0⟩∧f.arr (.slot 7)=some ⟨1,l9.map eB,false,0⟩→k_ref1_text_1 SP (E SP (.loop b_ref1_text_1) ⟨e,f::S⟩)=.ok (.v (.tup [.agg [.int .i64 ra.Kind,.str ra.Text,.int .i64 ra.Num,.list 2 (ra.Parts.map ePart) false,.int .i64 ra.At],.int .i64 rb])) S
theorem sp_Q16:SP 16=some (.code sc_Q16):=SPof_code rfl Tryz.func16 comp_Q16
def At_Q16_1 (n:Int) (i1:Int) (s2:List UInt8) (r:List UInt8):Prop:=∀ (S:Sto) (e:Nat→PV) (f:Fr),e 0=.int .i64 n∧e 3=.int .u64 i1∧e 4=.str s2→k_Q16_1 SP (E SP (.loop b_Q16_1) ⟨e,f::S⟩)=.ok (.v (.str r)) S
theorem At_Q16_1_step (n:Int) (i1:Int) (s2:List UInt8) (r:List UInt8) (T :
  ((10≤i1) →
  (U64 (48+(i1.tmod 10))) ∧
  (U8 ((48+(i1.tmod 10)))) ∧
  (1+s2.length≤maxInt) ∧
  (U64 (i1.tdiv 10)) ∧
  At_Q16_1 n (i1.tdiv 10) ([(UInt8.ofNat ((48+(i1.tmod 10))).toNat)]++s2) r) ∧
 (¬ (10≤i1) →
  (U64 (48+i1)) ∧
  (U8 ((48+i1))) ∧
  (1+s2.length≤maxInt) ∧
  ((n < 0) →
   (1+(s2.length+1)≤maxInt) ∧
   ([45]++([(UInt8.ofNat ((48+i1)).toNat)]++s2))=r) ∧
  (¬ (n < 0) →
   ([(UInt8.ofNat ((48+i1)).toNat)]++s2)=r))):At_Q16_1 n i1 s2 r:=by
 intro S e f h
 unfold k_Q16_1
 rw[E_loop]
 have F:=U_Q16
 replace F:=aa h<|F
 by_cases c1:10≤i1
 ·replace T:=T.1 c1
  obtain⟨p2,p3,p4,p5,T⟩:=T
  replace F:=aa (eq_true c1)<|aa p2.wrap<|aa p3.wrap<|aa p4<|aa p5.wrap<|F
  exact lo F T
 replace T:=T.2 c1
 obtain⟨p6,p7,p8,T⟩:=T
 replace F:=aa (eq_false c1)<|aa p6.wrap<|aa p7.wrap<|aa p8<|F
 by_cases c9:n < 0
 ·replace T:=T.1 c9
  obtain⟨p10,rfl⟩:=T
  exact fi (aa (eq_true c9)<|aa p10<|F)
 replace T:=T.2 c9
 obtain rfl:=T
 exact fi (aa (eq_false c9)<|F)
theorem Q16_tree (n:Int) (r:List UInt8) (T :
  ((n < 0) →
  At_Q16_1 n (IntKind.u64.wrap (0 - (IntKind.u64.wrap n))) [] r) ∧
 (¬ (n < 0) →
  At_Q16_1 n (IntKind.u64.wrap n) [] r)):R_Q16 n r:=by
 intro S
 rw[call_code sp_Q16 _ _ rfl]
 have F:=U_Q16
 by_cases c1:n < 0
 ·replace T:=T.1 c1
  replace F:=aa (eq_true c1)<|F
  exact lo F T
 replace T:=T.2 c1
 replace F:=aa (eq_false c1)<|F
 exact lo F T
end Go.Proofs.YtfbcnpbhhooapaaGreatDoor.M
namespace Go.Proofs.YtfbcnpbhhooapaaGreatDoor.M
open Go
set_option linter.unusedVariables false
def c_Q97_1:SC:=.block 1 (.seq (.reg [⟨some 17,none,.v (.mov (.t 0))⟩,⟨some 18,none,.v (.nchk (.t 17))⟩,⟨some 19,none,.v (.faddr 0 (.t 18))⟩,⟨some 20,none,.v (.faddr 0 (.t 19))⟩,⟨some 21,none,.v (.load none (.t 20))⟩,⟨some 22,none,.call (.c (.func 112 [])) [(.t 21),(.c (.str [10]))]⟩,⟨some 16,none,.v (.mov (.t 22))⟩,⟨some 23,none,.v (.extract 0 (.t 16))⟩,⟨some 24,none,.v (.extract 1 (.t 16))⟩,⟨some 25,none,.v (.extract 2 (.t 16))⟩,⟨some 2,none,.v (.mov (.t 23))⟩,⟨some 3,none,.v (.mov (.t 24))⟩,⟨some 4,none,.v (.mov (.t 25))⟩]) (.seq (.reg [⟨some 26,none,.v (.mov (.t 0))⟩,⟨some 27,none,.v (.nchk (.t 26))⟩,⟨some 28,none,.v (.faddr 0 (.t 27))⟩,⟨some 29,none,.v (.mov (.t 2))⟩,⟨some 30,none,.v (.len true (.t 29))⟩,⟨some 31,none,.call (.c (.func 135 [])) [(.t 28),(.t 30)]⟩]) (.reg [⟨some 32,none,.v (.mov (.t 0))⟩,⟨some 33,none,.v (.nchk (.t 32))⟩,⟨some 34,none,.v (.faddr 0 (.t 33))⟩,⟨some 35,none,.bslice 1 1 [(.int .i64 0)] [(0,(.c (.int .i64 1)))]⟩,⟨some 36,none,.call (.c (.func 134 [])) [(.t 34),(.t 35)]⟩])))
def b_Q97_1:SC:=.seq (.seq (.reg [⟨some 10,none,.v (.mov (.t 0))⟩,⟨some 11,none,.v (.nchk (.t 10))⟩,⟨some 12,none,.v (.faddr 0 (.t 11))⟩,⟨some 13,none,.v (.faddr 0 (.t 12))⟩,⟨some 14,none,.v (.load none (.t 13))⟩,⟨some 15,none,.call (.c (.func 129 [])) [(.t 14),(.c (.str [35]))]⟩]) (.cond (.t 15) .skip (.exit 0))) c_Q97_1
def c_Q97_2:SC:=.block 0 (.loop b_Q97_1)
def sc_Q97:SFunc:=⟨1,37,.seq (.reg [⟨some 5,none,.v (.mov (.t 0))⟩,⟨some 6,none,.v (.nchk (.t 5))⟩,⟨some 7,none,.v (.faddr 0 (.t 6))⟩,⟨some 8,none,.bslice 1 1 [(.int .i64 0)] [(0,(.c (.int .i64 1)))]⟩,⟨some 9,none,.call (.c (.func 134 [])) [(.t 7),(.t 8)]⟩]) c_Q97_2,[]⟩
noncomputable def k_Q97_1 (SP:Prg) (x:EO):CO:=fin [] (inBlk 0 (x))
theorem U_Q97:type_of% (aI (ue c_Q97_1.eq_1)<|aI (ue b_Q97_1.eq_1)<|aI (ue c_Q97_2.eq_1)<|sc_Q97.eq_1):=aI (ue c_Q97_1.eq_1)<|aI (ue b_Q97_1.eq_1)<|aI (ue c_Q97_2.eq_1)<|sc_Q97.eq_1
theorem comp_Q97:comp Tryz.prog Tryz.f97=some sc_Q97:=by kernel_rfl
def sc_Q138:SFunc:=⟨1,14,.seq (.reg [⟨some 2,none,.alloc [(.int .i64 0),(.str []),(.int .i64 0),(.nils 2),(.int .i64 0)]⟩,⟨some 3,none,.v (.mov (.c (.bool false)))⟩]) (.seq (.reg [⟨some 5,none,.v (.mov (.t 0))⟩,⟨some 6,none,.v (.nchk (.t 5))⟩,⟨some 7,none,.v (.faddr 0 (.t 6))⟩,⟨some 8,none,.bslice 1 2 [(.int .i64 0)] [(0,(.c (.int .i64 2))),(1,(.c (.int .i64 3)))]⟩,⟨some 9,none,.call (.c (.func 134 [])) [(.t 7),(.t 8)]⟩,⟨some 4,none,.v (.mov (.t 9))⟩]) (.seq (.reg [⟨some 10,none,.v (.mov (.t 4))⟩,⟨some 11,none,.v (.build [(.int .i64 0),(.str []),(.int .i64 0),(.nils 2),(.int .i64 0)] [(0,1,(.c (.int .i64 3))),(1,1,(.t 10))])⟩,⟨some 12,none,.v (.mov (.t 4))⟩,⟨some 13,none,.call (.c (.func 115 [])) [(.t 12)]⟩,⟨none,none,.store 5 (.t 2) (.t 11)⟩,⟨some 3,none,.v (.mov (.t 13))⟩]) .ret)),[(.cell 2 (some 5)),(.t 3)]⟩
theorem U_Q138:type_of% (sc_Q138.eq_1):=sc_Q138.eq_1
theorem comp_Q138:comp Tryz.prog Tryz.f138=some sc_Q138:=by kernel_rfl
def c_Q139_1:SC:=.seq (.reg [⟨some 7,none,.v (.mov (.t 0))⟩,⟨some 8,none,.v (.nchk (.t 7))⟩,⟨some 9,none,.v (.faddr 0 (.t 8))⟩,⟨some 10,none,.bslice 1 1 [(.int .i64 0)] [(0,(.c (.int .i64 3)))]⟩,⟨some 11,none,.call (.c (.func 134 [])) [(.t 9),(.t 10)]⟩,⟨some 4,none,.v (.mov (.t 11))⟩]) (.seq (.reg [⟨some 13,none,.v (.mov (.t 4))⟩,⟨some 14,none,.call (.c (.func 163 [])) [(.t 13)]⟩,⟨some 12,none,.v (.mov (.t 14))⟩,⟨some 15,none,.v (.extract 0 (.t 12))⟩,⟨some 16,none,.v (.extract 1 (.t 12))⟩,⟨some 5,none,.v (.mov (.t 15))⟩,⟨some 6,none,.v (.mov (.t 16))⟩]) (.seq (.reg [⟨some 17,none,.v (.mov (.t 5))⟩,⟨some 18,none,.v (.build [(.int .i64 0),(.str []),(.int .i64 0),(.nils 2),(.int .i64 0)] [(0,1,(.c (.int .i64 1))),(2,1,(.t 17))])⟩,⟨some 19,none,.v (.mov (.t 6))⟩,⟨some 20,none,.v (.isnile false (.t 19))⟩,⟨some 21,none,.v (.mov (.t 20))⟩,⟨some 22,some (21,true),.v (.mov (.t 5))⟩,⟨some 23,some (21,true),.call (.c (.func 106 [])) [(.t 22)]⟩,⟨some 24,some (21,true),.v (.mov (.t 4))⟩,⟨some 25,some (21,true),.v (.bin .eql (.t 23) (.t 24))⟩,⟨some 26,none,.v (.pick (.t 21) (.t 25) (.c (.bool false)))⟩,⟨none,none,.store 5 (.t 2) (.t 18)⟩,⟨some 3,none,.v (.mov (.t 26))⟩]) .ret))
def sc_Q139:SFunc:=⟨1,27,.seq (.reg [⟨some 2,none,.alloc [(.int .i64 0),(.str []),(.int .i64 0),(.nils 2),(.int .i64 0)]⟩,⟨some 3,none,.v (.mov (.c (.bool false)))⟩]) c_Q139_1,[(.cell 2 (some 5)),(.t 3)]⟩
theorem U_Q139:type_of% (aI (ue c_Q139_1.eq_1)<|sc_Q139.eq_1):=aI (ue c_Q139_1.eq_1)<|sc_Q139.eq_1
theorem comp_Q139:comp Tryz.prog Tryz.f139=some sc_Q139:=by kernel_rfl
def c_Q140_1:SC:=.seq (.reg [⟨some 98,none,.v (.build [(.int .i64 0),(.str []),(.int .i64 0),(.nils 2),(.int .i64 0)] [])⟩,⟨none,none,.store 5 (.t 2) (.t 98)⟩,⟨some 3,none,.v (.mov (.c (.bool false)))⟩]) .ret
def c_Q140_2:SC:=.seq (.seq (.reg [⟨some 83,none,.v (.mov (.t 9))⟩,⟨some 84,none,.v (.un .not (.t 83))⟩]) (.cond (.t 84) (.seq (.reg [⟨some 85,none,.v (.build [(.int .i64 0),(.str []),(.int .i64 0),(.nils 2),(.int .i64 0)] [])⟩,⟨none,none,.store 5 (.t 2) (.t 85)⟩,⟨some 3,none,.v (.mov (.c (.bool false)))⟩]) .ret) .skip)) (.seq (.reg [⟨some 86,none,.v (.load none (.t 4))⟩,⟨some 87,none,.v (.mov (.t 8))⟩,⟨some 88,none,.v (.build [(.bool false),(.str [])] [(0,1,(.c (.bool true))),(1,1,(.t 87))])⟩,⟨some 89,none,.bslice 2 1 [(.bool false),(.str [])] [(0,(.t 88))]⟩,⟨some 90,none,.append 2 24 (.t 86) (.t 89)⟩,⟨none,none,.store 1 (.t 4) (.t 90)⟩]) (.reg [⟨some 91,none,.v (.mov (.t 0))⟩,⟨some 92,none,.v (.nchk (.t 91))⟩,⟨some 93,none,.v (.faddr 0 (.t 92))⟩,⟨some 94,none,.v (.mov (.t 8))⟩,⟨some 95,none,.v (.len true (.t 94))⟩,⟨some 96,none,.v (.bin .add (.c (.int .i64 3)) (.t 95))⟩,⟨some 97,none,.call (.c (.func 135 [])) [(.t 93),(.t 96)]⟩]))
def c_Q140_3:SC:=.cond (.t 67) (.seq (.reg [⟨some 75,none,.v (.mov (.t 0))⟩,⟨some 76,none,.v (.nchk (.t 75))⟩,⟨some 77,none,.v (.faddr 0 (.t 76))⟩,⟨some 78,none,.v (.faddr 0 (.t 77))⟩,⟨some 79,none,.v (.load none (.t 78))⟩,⟨some 80,none,.call (.c (.func 166 [])) [(.t 79)]⟩,⟨some 74,none,.v (.mov (.t 80))⟩,⟨some 81,none,.v (.extract 0 (.t 74))⟩,⟨some 82,none,.v (.extract 1 (.t 74))⟩,⟨some 8,none,.v (.mov (.t 81))⟩,⟨some 9,none,.v (.mov (.t 82))⟩]) c_Q140_2) (.seq (.reg [⟨some 26,none,.v (.mov (.t 5))⟩,⟨some 27,none,.call (.c (.func 165 [])) [(.t 4),(.t 26)]⟩]) (.reg [⟨some 28,none,.v (.mov (.t 0))⟩,⟨some 29,none,.v (.nchk (.t 28))⟩,⟨some 30,none,.v (.faddr 0 (.t 29))⟩,⟨some 31,none,.call (.c (.func 135 [])) [(.t 30),(.c (.int .i64 1))]⟩]))
def c_Q140_4:SC:=.cond (.t 46) (.seq (.reg [⟨some 50,none,.v (.mov (.t 0))⟩,⟨some 51,none,.v (.nchk (.t 50))⟩,⟨some 52,none,.v (.faddr 0 (.t 51))⟩,⟨some 53,none,.v (.faddr 0 (.t 52))⟩,⟨some 54,none,.v (.load none (.t 53))⟩,⟨some 55,none,.call (.c (.func 164 [])) [(.t 54)]⟩,⟨some 49,none,.v (.mov (.t 55))⟩,⟨some 56,none,.v (.extract 0 (.t 49))⟩,⟨some 57,none,.v (.extract 1 (.t 49))⟩,⟨some 6,none,.v (.mov (.t 56))⟩,⟨some 7,none,.v (.mov (.t 57))⟩]) (.seq (.seq (.reg [⟨some 58,none,.v (.mov (.t 7))⟩,⟨some 59,none,.v (.un .not (.t 58))⟩]) (.cond (.t 59) (.seq (.reg [⟨some 60,none,.v (.build [(.int .i64 0),(.str []),(.int .i64 0),(.nils 2),(.int .i64 0)] [])⟩,⟨none,none,.store 5 (.t 2) (.t 60)⟩,⟨some 3,none,.v (.mov (.c (.bool false)))⟩]) .ret) .skip)) (.seq (.reg [⟨some 61,none,.v (.mov (.t 6))⟩,⟨some 62,none,.call (.c (.func 165 [])) [(.t 4),(.t 61)]⟩]) (.reg [⟨some 63,none,.v (.mov (.t 0))⟩,⟨some 64,none,.v (.nchk (.t 63))⟩,⟨some 65,none,.v (.faddr 0 (.t 64))⟩,⟨some 66,none,.call (.c (.func 135 [])) [(.t 65),(.c (.int .i64 2))]⟩])))) (.seq (.reg [⟨some 68,none,.v (.mov (.t 0))⟩,⟨some 69,none,.v (.nchk (.t 68))⟩,⟨some 70,none,.v (.faddr 0 (.t 69))⟩,⟨some 71,none,.v (.faddr 0 (.t 70))⟩,⟨some 72,none,.v (.load none (.t 71))⟩,⟨some 73,none,.call (.c (.func 129 [])) [(.t 72),(.c (.str [36,123]))]⟩,⟨some 67,none,.v (.mov (.t 73))⟩]) c_Q140_3)
def c_Q140_5:SC:=.cond (.t 42) (.seq (.reg [⟨some 45,none,.v (.build [(.int .i64 0),(.str []),(.int .i64 0),(.nils 2),(.int .i64 0)] [])⟩,⟨none,none,.store 5 (.t 2) (.t 45)⟩,⟨some 3,none,.v (.mov (.c (.bool false)))⟩]) .ret) (.seq (.reg [⟨some 47,none,.v (.mov (.t 5))⟩,⟨some 48,none,.v (.bin .eql (.t 47) (.c (.int .u8 92)))⟩,⟨some 46,none,.v (.mov (.t 48))⟩]) c_Q140_4)
def c_Q140_6:SC:=.cond (.t 32) (.seq (.reg [⟨some 36,none,.v (.mov (.t 0))⟩,⟨some 37,none,.v (.nchk (.t 36))⟩,⟨some 38,none,.v (.faddr 0 (.t 37))⟩,⟨some 39,none,.call (.c (.func 135 [])) [(.t 38),(.c (.int .i64 1))]⟩]) (.seq (.reg [⟨some 40,none,.v (.load none (.t 4))⟩,⟨some 41,none,.v (.build [(.int .i64 0),(.str []),(.int .i64 0),(.nils 2),(.int .i64 0)] [(0,1,(.c (.int .i64 2))),(3,1,(.t 40))])⟩,⟨none,none,.store 5 (.t 2) (.t 41)⟩,⟨some 3,none,.v (.mov (.c (.bool true)))⟩]) .ret)) (.seq (.reg [⟨some 43,none,.v (.mov (.t 5))⟩,⟨some 44,none,.v (.bin .lss (.t 43) (.c (.int .u8 32)))⟩,⟨some 42,none,.v (.mov (.t 44))⟩]) c_Q140_5)
def c_Q140_7:SC:=.block 2 (.seq (.reg [⟨some 33,none,.v (.mov (.t 5))⟩,⟨some 34,none,.call (.c (.func 137 [])) [(.t 33)]⟩,⟨some 35,none,.v (.bin .eql (.t 34) (.c (.int .i64 4)))⟩,⟨some 32,none,.v (.mov (.t 35))⟩]) c_Q140_6)
def c_Q140_8:SC:=.block 1 (.seq (.reg [⟨some 20,none,.v (.mov (.t 0))⟩,⟨some 21,none,.v (.nchk (.t 20))⟩,⟨some 22,none,.v (.faddr 0 (.t 21))⟩,⟨some 23,none,.v (.faddr 0 (.t 22))⟩,⟨some 24,none,.v (.load none (.t 23))⟩,⟨some 25,none,.v (.istr (.t 24) (.c (.int .i64 0)))⟩,⟨some 5,none,.v (.mov (.t 25))⟩]) c_Q140_7)
def b_Q140_1:SC:=.seq (.seq (.reg [⟨some 14,none,.v (.mov (.t 0))⟩,⟨some 15,none,.v (.nchk (.t 14))⟩,⟨some 16,none,.v (.faddr 0 (.t 15))⟩,⟨some 17,none,.v (.faddr 0 (.t 16))⟩,⟨some 18,none,.v (.load none (.t 17))⟩,⟨some 19,none,.v (.bin .neq (.t 18) (.c (.str [])))⟩]) (.cond (.t 19) .skip (.exit 0))) c_Q140_8
def c_Q140_9:SC:=.seq (.block 0 (.loop b_Q140_1)) c_Q140_1
def c_Q140_10:SC:=.seq (.reg [⟨some 10,none,.v (.mov (.t 0))⟩,⟨some 11,none,.v (.nchk (.t 10))⟩,⟨some 12,none,.v (.faddr 0 (.t 11))⟩,⟨some 13,none,.call (.c (.func 135 [])) [(.t 12),(.c (.int .i64 1))]⟩]) c_Q140_9
def c_Q140_11:SC:=.seq (.reg [⟨some 4,none,.alloc [(.nils 2)]⟩]) c_Q140_10
def sc_Q140:SFunc:=⟨1,99,.seq (.reg [⟨some 2,none,.alloc [(.int .i64 0),(.str []),(.int .i64 0),(.nils 2),(.int .i64 0)]⟩,⟨some 3,none,.v (.mov (.c (.bool false)))⟩]) c_Q140_11,[(.cell 2 (some 5)),(.t 3)]⟩
noncomputable def k_Q140_1 (SP:Prg) (x:EO):CO:=fin [(.cell 2 (some 5)),(.t 3)] (thC SP (inBlk 0 (x)) c_Q140_1)
theorem U_Q140:type_of% (aI (ue c_Q140_1.eq_1)<|aI (ue c_Q140_2.eq_1)<|aI (ue c_Q140_3.eq_1)<|aI (ue c_Q140_4.eq_1)<|aI (ue c_Q140_5.eq_1)<|aI (ue c_Q140_6.eq_1)<|aI (ue c_Q140_7.eq_1)<|aI (ue c_Q140_8.eq_1)<|aI (ue b_Q140_1.eq_1)<|aI (ue c_Q140_9.eq_1)<|aI (ue c_Q140_10.eq_1)<|aI (ue c_Q140_11.eq_1)<|sc_Q140.eq_1):=aI (ue c_Q140_1.eq_1)<|aI (ue c_Q140_2.eq_1)<|aI (ue c_Q140_3.eq_1)<|aI (ue c_Q140_4.eq_1)<|aI (ue c_Q140_5.eq_1)<|aI (ue c_Q140_6.eq_1)<|aI (ue c_Q140_7.eq_1)<|aI (ue c_Q140_8.eq_1)<|aI (ue b_Q140_1.eq_1)<|aI (ue c_Q140_9.eq_1)<|aI (ue c_Q140_10.eq_1)<|aI (ue c_Q140_11.eq_1)<|sc_Q140.eq_1
theorem comp_Q140:comp Tryz.prog Tryz.f140=some sc_Q140:=by kernel_rfl
def c_Q136_1:SC:=.seq (.reg [⟨some 28,none,.v (.mov (.t 0))⟩,⟨some 29,none,.v (.nchk (.t 28))⟩,⟨some 30,none,.v (.faddr 0 (.t 29))⟩,⟨some 31,none,.v (.mov (.t 4))⟩,⟨some 32,none,.v (.len true (.t 31))⟩,⟨some 33,none,.call (.c (.func 135 [])) [(.t 30),(.t 32)]⟩,⟨some 34,none,.v (.build [(.int .i64 0),(.str []),(.int .i64 0),(.nils 2),(.int .i64 0)] [(0,1,(.c (.int .i64 4))),(1,1,(.t 33))])⟩,⟨none,none,.store 5 (.t 2) (.t 34)⟩,⟨some 3,none,.v (.mov (.c (.bool true)))⟩]) .ret
def c_Q136_2:SC:=.seq (.seq (.reg [⟨some 18,none,.bslice 1 6 [(.str [])] [(0,(.c (.str [61,61]))),(1,(.c (.str [33,61]))),(2,(.c (.str [60,61]))),(3,(.c (.str [62,61]))),(4,(.c (.str [38,38]))),(5,(.c (.str [124,124])))]⟩,⟨some 19,none,.v (.mov (.t 4))⟩,⟨some 20,none,.call (.c (.func 161 [])) [(.t 18),(.t 19)]⟩,⟨some 21,none,.v (.un .not (.t 20))⟩]) (.cond (.t 21) (.seq (.reg [⟨some 22,none,.v (.mov (.t 4))⟩,⟨some 23,none,.v (.sls (.t 22) none (some (.c (.int .i64 1))))⟩,⟨some 4,none,.v (.mov (.t 23))⟩]) (.seq (.reg [⟨some 24,none,.v (.mov (.t 4))⟩,⟨some 25,none,.call (.c (.func 162 [])) [(.c (.str [123,125,91,93,40,41,61,44,46,43,45,42,47,37,60,62,33,63,58])),(.t 24)]⟩,⟨some 26,none,.v (.un .not (.t 25))⟩]) (.cond (.t 26) (.seq (.reg [⟨some 27,none,.v (.build [(.int .i64 0),(.str []),(.int .i64 0),(.nils 2),(.int .i64 0)] [])⟩,⟨none,none,.store 5 (.t 2) (.t 27)⟩,⟨some 3,none,.v (.mov (.c (.bool false)))⟩]) .ret) .skip))) .skip)) c_Q136_1
def c_Q136_3:SC:=.seq (.dreg [⟨some 5,none,.v (.mov (.t 0))⟩,⟨some 6,none,.v (.nchk (.t 5))⟩,⟨some 7,none,.v (.faddr 0 (.t 6))⟩,⟨some 8,none,.v (.faddr 0 (.t 7))⟩,⟨some 9,none,.v (.load none (.t 8))⟩,⟨some 10,none,.v (.mov (.t 0))⟩,⟨some 11,none,.v (.nchk (.t 10))⟩,⟨some 12,none,.v (.faddr 0 (.t 11))⟩,⟨some 13,none,.v (.faddr 0 (.t 12))⟩,⟨some 14,none,.v (.load none (.t 13))⟩,⟨some 15,none,.v (.len true (.t 14))⟩,⟨some 16,none,.v (.mm false (.c (.int .i64 2)) (.t 15))⟩,⟨some 17,none,.v (.sls (.t 9) none (some (.t 16)))⟩,⟨some 4,none,.v (.mov (.t 17))⟩] [false,false,false,false,false,false,false,false,false,false,false,false,true,true]) c_Q136_2
def sc_Q136:SFunc:=⟨1,35,.seq (.reg [⟨some 2,none,.alloc [(.int .i64 0),(.str []),(.int .i64 0),(.nils 2),(.int .i64 0)]⟩,⟨some 3,none,.v (.mov (.c (.bool false)))⟩]) c_Q136_3,[(.cell 2 (some 5)),(.t 3)]⟩
theorem U_Q136:type_of% (aI (ue c_Q136_1.eq_1)<|aI (ue c_Q136_2.eq_1)<|aI (ue c_Q136_3.eq_1)<|sc_Q136.eq_1):=aI (ue c_Q136_1.eq_1)<|aI (ue c_Q136_2.eq_1)<|aI (ue c_Q136_3.eq_1)<|sc_Q136.eq_1
theorem comp_Q136:comp Tryz.prog Tryz.f136=some sc_Q136:=by kernel_rfl
def c_Q98_1:SC:=.seq (.reg [⟨some 34,none,.v (.mov (.t 4))⟩,⟨some 35,none,.call (.t 34) []⟩,⟨some 33,none,.v (.mov (.t 35))⟩,⟨some 36,none,.v (.extract 0 (.t 33))⟩,⟨some 37,none,.v (.extract 1 (.t 33))⟩,⟨some 5,none,.alloc [(.int .i64 0),(.str []),(.int .i64 0),(.nils 2),(.int .i64 0)]⟩,⟨none,none,.store 5 (.t 5) (.t 36)⟩,⟨some 6,none,.v (.mov (.t 37))⟩]) (.seq (.reg [⟨some 38,none,.v (.mov (.t 3))⟩,⟨some 39,none,.v (.faddr 4 (.t 5))⟩,⟨none,none,.store 1 (.t 39) (.t 38)⟩]) (.seq (.dreg [⟨some 40,none,.v (.mov (.t 0))⟩,⟨some 41,none,.v (.mov (.t 0))⟩,⟨some 42,none,.v (.nchk (.t 41))⟩,⟨some 43,none,.v (.faddr 2 (.t 42))⟩,⟨some 44,none,.v (.load none (.t 43))⟩,⟨some 45,none,.v (.load (some 5) (.t 5))⟩,⟨some 46,none,.bslice 5 1 [(.int .i64 0),(.str []),(.int .i64 0),(.nils 2),(.int .i64 0)] [(0,(.t 45))]⟩,⟨some 47,none,.append 5 64 (.t 44) (.t 46)⟩,⟨some 48,none,.v (.nchk (.t 40))⟩,⟨some 49,none,.v (.faddr 2 (.t 48))⟩,⟨none,none,.store 1 (.t 49) (.t 47)⟩] [false,false,false,false,false,false,false,true,true,true,true]) (.seq (.reg [⟨some 50,none,.v (.mov (.t 6))⟩,⟨some 2,none,.v (.mov (.t 50))⟩]) .ret)))
def c_Q98_2:SC:=.seq (.seq (.reg [⟨some 14,none,.v (.mov (.t 0))⟩,⟨some 15,none,.v (.nchk (.t 14))⟩,⟨some 16,none,.v (.faddr 0 (.t 15))⟩,⟨some 17,none,.v (.faddr 0 (.t 16))⟩,⟨some 18,none,.v (.load none (.t 17))⟩,⟨some 19,none,.v (.istr (.t 18) (.c (.int .i64 0)))⟩,⟨some 20,none,.call (.c (.func 137 [])) [(.t 19)]⟩]) (.block 0 (.seq (.reg [⟨some 22,none,.v (.bin .eql (.t 20) (.c (.int .i64 2)))⟩,⟨some 21,none,.v (.mov (.t 22))⟩]) (.cond (.t 21) (.reg [⟨some 23,none,.v (.mov (.t 0))⟩,⟨some 24,none,.v (.meth 138 [(.t 23)])⟩,⟨some 4,none,.v (.mov (.t 24))⟩]) (.seq (.reg [⟨some 26,none,.v (.bin .eql (.t 20) (.c (.int .i64 3)))⟩,⟨some 25,none,.v (.mov (.t 26))⟩]) (.cond (.t 25) (.reg [⟨some 27,none,.v (.mov (.t 0))⟩,⟨some 28,none,.v (.meth 139 [(.t 27)])⟩,⟨some 4,none,.v (.mov (.t 28))⟩]) (.seq (.reg [⟨some 30,none,.v (.bin .eql (.t 20) (.c (.int .i64 4)))⟩,⟨some 29,none,.v (.mov (.t 30))⟩]) (.cond (.t 29) (.reg [⟨some 31,none,.v (.mov (.t 0))⟩,⟨some 32,none,.v (.meth 140 [(.t 31)])⟩,⟨some 4,none,.v (.mov (.t 32))⟩]) .skip)))))))) c_Q98_1
def c_Q98_3:SC:=.seq (.reg [⟨some 12,none,.v (.mov (.t 0))⟩,⟨some 13,none,.v (.meth 136 [(.t 12)])⟩,⟨some 4,none,.v (.mov (.t 13))⟩]) c_Q98_2
def c_Q98_4:SC:=.seq (.reg [⟨some 7,none,.v (.mov (.t 0))⟩,⟨some 8,none,.v (.nchk (.t 7))⟩,⟨some 9,none,.v (.faddr 0 (.t 8))⟩,⟨some 10,none,.v (.faddr 1 (.t 9))⟩,⟨some 11,none,.v (.load none (.t 10))⟩,⟨some 3,none,.v (.mov (.t 11))⟩]) c_Q98_3
def sc_Q98:SFunc:=⟨1,51,.seq (.reg [⟨some 2,none,.v (.mov (.c (.bool false)))⟩]) c_Q98_4,[(.t 2)]⟩
theorem U_Q98:type_of% (aI (ue c_Q98_1.eq_1)<|aI (ue c_Q98_2.eq_1)<|aI (ue c_Q98_3.eq_1)<|aI (ue c_Q98_4.eq_1)<|sc_Q98.eq_1):=aI (ue c_Q98_1.eq_1)<|aI (ue c_Q98_2.eq_1)<|aI (ue c_Q98_3.eq_1)<|aI (ue c_Q98_4.eq_1)<|sc_Q98.eq_1
theorem comp_Q98:comp Tryz.prog Tryz.f98=some sc_Q98:=by kernel_rfl
def c_Q60_1:SC:=.seq (.dreg [⟨some 25,none,.v (.mov (.t 4))⟩,⟨some 26,none,.v (.nchk (.t 25))⟩,⟨some 27,none,.v (.faddr 2 (.t 26))⟩,⟨some 28,none,.v (.load none (.t 27))⟩,⟨some 29,none,.v (.mov (.t 4))⟩,⟨some 30,none,.v (.nchk (.t 29))⟩,⟨some 31,none,.v (.faddr 0 (.t 30))⟩,⟨some 32,none,.v (.faddr 1 (.t 31))⟩,⟨some 33,none,.v (.load none (.t 32))⟩,⟨some 34,none,.v (.build [(.int .i64 0),(.str []),(.int .i64 0),(.nils 2),(.int .i64 0)] [(0,1,(.c (.int .i64 0))),(4,1,(.t 33))])⟩,⟨some 35,none,.bslice 5 1 [(.int .i64 0),(.str []),(.int .i64 0),(.nils 2),(.int .i64 0)] [(0,(.t 34))]⟩,⟨some 36,none,.append 5 64 (.t 28) (.t 35)⟩,⟨some 2,none,.v (.mov (.t 36))⟩,⟨some 3,none,.v (.mov (.c (.int .i64 0)))⟩] [false,false,false,false,false,false,false,false,false,false,false,true,true,true]) .ret
def b_Q60_1:SC:=.seq (.seq (.reg [⟨some 14,none,.v (.mov (.t 4))⟩,⟨some 15,none,.v (.nchk (.t 14))⟩,⟨some 16,none,.v (.faddr 0 (.t 15))⟩,⟨some 17,none,.v (.faddr 0 (.t 16))⟩,⟨some 18,none,.v (.load none (.t 17))⟩,⟨some 19,none,.v (.bin .neq (.t 18) (.c (.str [])))⟩]) (.cond (.t 19) .skip (.exit 0))) (.seq (.block 1 (.seq (.reg [⟨some 22,none,.v (.mov (.t 4))⟩,⟨some 23,none,.call (.c (.func 98 [])) [(.t 22)]⟩,⟨some 24,none,.v (.un .not (.t 23))⟩]) (.cond (.t 24) (.seq (.reg [⟨some 2,none,.nilv 5⟩,⟨some 3,none,.v (.mov (.c (.int .i64 5)))⟩]) .ret) .skip))) (.reg [⟨some 20,none,.v (.mov (.t 4))⟩,⟨some 21,none,.call (.c (.func 97 [])) [(.t 20)]⟩]))
def c_Q60_2:SC:=.seq (.seq (.reg [⟨some 12,none,.v (.mov (.t 4))⟩,⟨some 13,none,.call (.c (.func 97 [])) [(.t 12)]⟩]) (.block 0 (.loop b_Q60_1))) c_Q60_1
def c_Q60_3:SC:=.seq (.reg [⟨some 8,none,.v (.mov (.t 0))⟩,⟨some 9,none,.v (.build [(.str []),(.int .i64 0)] [(0,1,(.t 8))])⟩,⟨some 10,none,.v (.build [(.str []),(.int .i64 0),(.nils 5)] [(0,2,(.t 9))])⟩,⟨some 11,none,.box (.t 10)⟩,⟨some 4,none,.v (.mov (.t 11))⟩]) c_Q60_2
def c_Q60_4:SC:=.seq (.seq (.reg [⟨some 5,none,.v (.mov (.t 0))⟩,⟨some 6,none,.v (.len true (.t 5))⟩,⟨some 7,none,.v (.bin .gtr (.t 6) (.c (.int .i64 6000)))⟩]) (.cond (.t 7) (.seq (.reg [⟨some 2,none,.nilv 5⟩,⟨some 3,none,.v (.mov (.c (.int .i64 4)))⟩]) .ret) .skip)) c_Q60_3
def sc_Q60:SFunc:=⟨1,37,.seq (.reg [⟨some 2,none,.nilv 5⟩,⟨some 3,none,.v (.mov (.c (.int .i64 0)))⟩]) c_Q60_4,[(.t 2),(.t 3)]⟩
noncomputable def k_Q60_1 (SP:Prg) (x:EO):CO:=fin [(.t 2),(.t 3)] (thC SP (inBlk 0 (x)) c_Q60_1)
theorem U_Q60:type_of% (aI (ue c_Q60_1.eq_1)<|aI (ue b_Q60_1.eq_1)<|aI (ue c_Q60_2.eq_1)<|aI (ue c_Q60_3.eq_1)<|aI (ue c_Q60_4.eq_1)<|sc_Q60.eq_1):=aI (ue c_Q60_1.eq_1)<|aI (ue b_Q60_1.eq_1)<|aI (ue c_Q60_2.eq_1)<|aI (ue c_Q60_3.eq_1)<|aI (ue c_Q60_4.eq_1)<|sc_Q60.eq_1
theorem comp_Q60:comp Tryz.prog Tryz.f60=some sc_Q60:=by kernel_rfl
def sc_Q81:SFunc:=⟨1,16,.seq (.reg [⟨some 2,none,.v (.mov (.c (.bool false)))⟩]) (.seq (.reg [⟨some 3,none,.v (.mov (.t 0))⟩,⟨some 4,none,.call (.c (.func 120 [])) [(.t 3),(.c (.str [45])),(.c (.str [95]))]⟩,⟨some 5,none,.call (.c (.func 115 [])) [(.t 4)]⟩,⟨some 6,none,.v (.mov (.t 5))⟩,⟨some 7,some (6,true),.v (.mov (.t 0))⟩,⟨some 8,some (6,true),.v (.istr (.t 7) (.c (.int .i64 0)))⟩,⟨some 9,some (6,true),.v (.bin .neq (.t 8) (.c (.int .u8 45)))⟩,⟨some 10,none,.v (.pick (.t 6) (.t 9) (.c (.bool false)))⟩,⟨some 11,none,.v (.mov (.t 10))⟩,⟨some 12,some (11,true),.v (.mov (.t 0))⟩,⟨some 13,some (11,true),.v (.istr (.t 12) (.c (.int .i64 0)))⟩,⟨some 14,some (11,true),.v (.bin .neq (.t 13) (.c (.int .u8 95)))⟩,⟨some 15,none,.v (.pick (.t 11) (.t 14) (.c (.bool false)))⟩,⟨some 2,none,.v (.mov (.t 15))⟩]) .ret),[(.t 2)]⟩
theorem U_Q81:type_of% (sc_Q81.eq_1):=sc_Q81.eq_1
theorem comp_Q81:comp Tryz.prog Tryz.f81=some sc_Q81:=by kernel_rfl
def c_Q122_1:SC:=.seq (.reg [⟨some 38,none,.v (.mov (.t 0))⟩,⟨some 39,none,.v (.len true (.t 38))⟩,⟨some 40,none,.v (.bin .geq (.t 39) (.c (.int .i64 1)))⟩,⟨some 41,none,.v (.mov (.t 40))⟩,⟨some 42,some (41,true),.v (.mov (.t 0))⟩,⟨some 43,some (41,true),.v (.len true (.t 42))⟩,⟨some 44,some (41,true),.v (.bin .leq (.t 43) (.c (.int .i64 24)))⟩,⟨some 45,none,.v (.pick (.t 41) (.t 44) (.c (.bool false)))⟩,⟨some 2,none,.v (.mov (.t 45))⟩]) .ret
def c_Q122_2:SC:=.reg [⟨some 9,none,.v (.mov (.t 3))⟩,⟨some 10,none,.v (.bin .add (.t 9) (.c (.int .i64 1)))⟩,⟨some 3,none,.v (.mov (.t 10))⟩]
def c_Q122_3:SC:=.cond (.t 37) (.seq (.reg [⟨some 2,none,.v (.mov (.c (.bool false)))⟩]) .ret) .skip
def c_Q122_4:SC:=.seq (.reg [⟨some 14,none,.v (.mov (.t 4))⟩,⟨some 15,none,.v (.bin .geq (.t 14) (.c (.int .u8 97)))⟩,⟨some 16,none,.v (.mov (.t 15))⟩,⟨some 17,some (16,true),.v (.mov (.t 4))⟩,⟨some 18,some (16,true),.v (.bin .leq (.t 17) (.c (.int .u8 122)))⟩,⟨some 19,none,.v (.pick (.t 16) (.t 18) (.c (.bool false)))⟩,⟨some 20,none,.v (.un .not (.t 19))⟩,⟨some 21,none,.v (.mov (.t 20))⟩,⟨some 22,some (21,true),.v (.mov (.t 3))⟩,⟨some 23,some (21,true),.v (.bin .gtr (.t 22) (.c (.int .i64 0)))⟩,⟨some 24,some (21,true),.v (.mov (.t 23))⟩,⟨some 25,some (24,true),.v (.mov (.t 4))⟩,⟨some 26,some (24,true),.call (.c (.func 119 [])) [(.t 25)]⟩,⟨some 27,some (24,true),.v (.mov (.t 26))⟩,⟨some 28,some (27,false),.v (.mov (.t 4))⟩,⟨some 29,some (27,false),.v (.bin .eql (.t 28) (.c (.int .u8 45)))⟩,⟨some 30,some (24,true),.v (.pick (.t 27) (.c (.bool true)) (.t 29))⟩,⟨some 31,some (24,true),.v (.mov (.t 30))⟩,⟨some 32,some (31,false),.v (.mov (.t 4))⟩,⟨some 33,some (31,false),.v (.bin .eql (.t 32) (.c (.int .u8 95)))⟩,⟨some 34,some (24,true),.v (.pick (.t 31) (.c (.bool true)) (.t 33))⟩,⟨some 35,some (21,true),.v (.pick (.t 24) (.t 34) (.c (.bool false)))⟩,⟨some 36,some (21,true),.v (.un .not (.t 35))⟩,⟨some 37,none,.v (.pick (.t 21) (.t 36) (.c (.bool false)))⟩]) c_Q122_3
def c_Q122_5:SC:=.seq (.block 1 (.seq (.reg [⟨some 11,none,.v (.mov (.t 0))⟩,⟨some 12,none,.v (.mov (.t 3))⟩,⟨some 13,none,.v (.istr (.t 11) (.t 12))⟩,⟨some 4,none,.v (.mov (.t 13))⟩]) c_Q122_4)) c_Q122_2
def b_Q122_1:SC:=.seq (.seq (.reg [⟨some 5,none,.v (.mov (.t 3))⟩,⟨some 6,none,.v (.mov (.t 0))⟩,⟨some 7,none,.v (.len true (.t 6))⟩,⟨some 8,none,.v (.bin .lss (.t 5) (.t 7))⟩]) (.cond (.t 8) .skip (.exit 0))) c_Q122_5
def c_Q122_6:SC:=.block 0 (.loop b_Q122_1)
def c_Q122_7:SC:=.seq (.seq (.reg [⟨some 3,none,.v (.mov (.c (.int .i64 0)))⟩]) c_Q122_6) c_Q122_1
def sc_Q122:SFunc:=⟨1,46,.seq (.reg [⟨some 2,none,.v (.mov (.c (.bool false)))⟩]) c_Q122_7,[(.t 2)]⟩
noncomputable def k_Q122_1 (SP:Prg) (x:EO):CO:=fin [(.t 2)] (thC SP (inBlk 0 (x)) c_Q122_1)
theorem U_Q122:type_of% (aI (ue c_Q122_1.eq_1)<|aI (ue c_Q122_2.eq_1)<|aI (ue c_Q122_3.eq_1)<|aI (ue c_Q122_4.eq_1)<|aI (ue c_Q122_5.eq_1)<|aI (ue b_Q122_1.eq_1)<|aI (ue c_Q122_6.eq_1)<|aI (ue c_Q122_7.eq_1)<|sc_Q122.eq_1):=aI (ue c_Q122_1.eq_1)<|aI (ue c_Q122_2.eq_1)<|aI (ue c_Q122_3.eq_1)<|aI (ue c_Q122_4.eq_1)<|aI (ue c_Q122_5.eq_1)<|aI (ue b_Q122_1.eq_1)<|aI (ue c_Q122_6.eq_1)<|aI (ue c_Q122_7.eq_1)<|sc_Q122.eq_1
theorem comp_Q122:comp Tryz.prog Tryz.f122=some sc_Q122:=by kernel_rfl
def sc_slices_Contains_int_int:SFunc:=⟨2,9,.seq (.reg [⟨some 4,none,.v (.mov (.c (.bool false)))⟩]) (.seq (.reg [⟨some 5,none,.v (.mov (.t 0))⟩,⟨some 6,none,.v (.mov (.t 1))⟩,⟨some 7,none,.call (.c (.func 190 [])) [(.t 5),(.t 6)]⟩,⟨some 8,none,.v (.bin .geq (.t 7) (.c (.int .i64 0)))⟩,⟨some 4,none,.v (.mov (.t 8))⟩]) .ret),[(.t 4)]⟩
theorem U_slices_Contains_int_int:type_of% (sc_slices_Contains_int_int.eq_1):=sc_slices_Contains_int_int.eq_1
theorem comp_slices_Contains_int_int:comp Tryz.prog Tryz.f170=some sc_slices_Contains_int_int:=by kernel_rfl
def c_slices_Index_int_int_1:SC:=.seq (.reg [⟨some 4,none,.v (.mov (.c (.int .i64 (-1))))⟩]) .ret
def b_slices_Index_int_int_1:SC:=.seq (.reg [⟨some 9,none,.v (.bin .lss (.t 8) (.t 7))⟩]) (.seq (.cond (.t 9) .skip (.exit 0)) (.seq (.block 1 (.seq (.reg [⟨some 10,none,.v (.mov (.t 8))⟩,⟨some 5,none,.v (.mov (.t 10))⟩]) (.seq (.reg [⟨some 11,none,.v (.mov (.t 1))⟩,⟨some 12,none,.v (.mov (.t 0))⟩,⟨some 13,none,.v (.mov (.t 5))⟩,⟨some 14,none,.v (.iaddr 1 (.t 12) (.t 13))⟩,⟨some 15,none,.v (.load none (.t 14))⟩,⟨some 16,none,.v (.bin .eql (.t 11) (.t 15))⟩]) (.cond (.t 16) (.seq (.reg [⟨some 17,none,.v (.mov (.t 5))⟩,⟨some 4,none,.v (.mov (.t 17))⟩]) .ret) .skip)))) (.reg [⟨some 18,none,.v (.bin .add (.t 8) (.c (.int .i64 1)))⟩,⟨some 8,none,.v (.mov (.t 18))⟩])))
def sc_slices_Index_int_int:SFunc:=⟨2,19,.seq (.reg [⟨some 4,none,.v (.mov (.c (.int .i64 0)))⟩]) (.seq (.seq (.reg [⟨some 6,none,.v (.mov (.t 0))⟩,⟨some 7,none,.v (.len false (.t 6))⟩,⟨some 8,none,.v (.mov (.c (.int .i64 0)))⟩]) (.block 0 (.loop b_slices_Index_int_int_1))) c_slices_Index_int_int_1),[(.t 4)]⟩
noncomputable def k_slices_Index_int_int_1 (SP:Prg) (x:EO):CO:=fin [(.t 4)] (thC SP (inBlk 0 (x)) c_slices_Index_int_int_1)
theorem U_slices_Index_int_int:type_of% (aI (ue c_slices_Index_int_int_1.eq_1)<|aI (ue b_slices_Index_int_int_1.eq_1)<|sc_slices_Index_int_int.eq_1):=aI (ue c_slices_Index_int_int_1.eq_1)<|aI (ue b_slices_Index_int_int_1.eq_1)<|sc_slices_Index_int_int.eq_1
theorem comp_slices_Index_int_int:comp Tryz.prog Tryz.f190=some sc_slices_Index_int_int:=by kernel_rfl
def sc_slices_Contains_string_string:SFunc:=⟨2,9,.seq (.reg [⟨some 4,none,.v (.mov (.c (.bool false)))⟩]) (.seq (.reg [⟨some 5,none,.v (.mov (.t 0))⟩,⟨some 6,none,.v (.mov (.t 1))⟩,⟨some 7,none,.call (.c (.func 62 [])) [(.t 5),(.t 6)]⟩,⟨some 8,none,.v (.bin .geq (.t 7) (.c (.int .i64 0)))⟩,⟨some 4,none,.v (.mov (.t 8))⟩]) .ret),[(.t 4)]⟩
theorem U_slices_Contains_string_string:type_of% (sc_slices_Contains_string_string.eq_1):=sc_slices_Contains_string_string.eq_1
theorem comp_slices_Contains_string_string:comp Tryz.prog Tryz.f161=some sc_slices_Contains_string_string:=by kernel_rfl
def sc_Q38:SFunc:=⟨1,13,.seq (.reg [⟨some 2,none,.alloc [(.int .i64 0),(.str []),(.int .i64 0),(.nils 2),(.int .i64 0)]⟩]) (.seq (.dreg [⟨some 3,none,.v (.mov (.t 0))⟩,⟨some 4,none,.v (.nchk (.t 3))⟩,⟨some 5,none,.v (.faddr 0 (.t 4))⟩,⟨some 6,none,.v (.load none (.t 5))⟩,⟨some 7,none,.v (.mov (.t 0))⟩,⟨some 8,none,.v (.nchk (.t 7))⟩,⟨some 9,none,.v (.faddr 1 (.t 8))⟩,⟨some 10,none,.v (.load none (.t 9))⟩,⟨some 11,none,.v (.iaddr 5 (.t 6) (.t 10))⟩,⟨some 12,none,.v (.load (some 5) (.t 11))⟩,⟨none,none,.store 5 (.t 2) (.t 12)⟩] [false,false,false,false,false,false,false,false,true,true,true]) .ret),[(.cell 2 (some 5))]⟩
theorem U_Q38:type_of% (sc_Q38.eq_1):=sc_Q38.eq_1
theorem comp_Q38:comp Tryz.prog Tryz.f38=some sc_Q38:=by kernel_rfl
def sc_Q42:SFunc:=⟨2,6,.reg [⟨some 4,none,.v (.mov (.t 1))⟩,⟨some 5,none,.v (.mkif 116 (.t 4))⟩,⟨none,none,.panic (.t 5)⟩],[]⟩
theorem U_Q42:type_of% (sc_Q42.eq_1):=sc_Q42.eq_1
theorem comp_Q42:comp Tryz.prog Tryz.f42=some sc_Q42:=by kernel_rfl
def sc_Q102:SFunc:=⟨2,16,.seq (.reg [⟨some 4,none,.v (.mov (.c (.bool false)))⟩]) (.seq (.reg [⟨some 5,none,.v (.mov (.t 0))⟩,⟨some 6,none,.call (.c (.func 38 [])) [(.t 5)]⟩,⟨some 7,none,.v (.field 0 none (.t 6))⟩,⟨some 8,none,.v (.bin .eql (.t 7) (.c (.int .i64 4)))⟩,⟨some 9,none,.v (.mov (.t 8))⟩,⟨some 10,some (9,true),.v (.mov (.t 0))⟩,⟨some 11,some (9,true),.call (.c (.func 38 [])) [(.t 10)]⟩,⟨some 12,some (9,true),.v (.field 1 none (.t 11))⟩,⟨some 13,some (9,true),.v (.mov (.t 1))⟩,⟨some 14,some (9,true),.v (.bin .eql (.t 12) (.t 13))⟩,⟨some 15,none,.v (.pick (.t 9) (.t 14) (.c (.bool false)))⟩,⟨some 4,none,.v (.mov (.t 15))⟩]) .ret),[(.t 4)]⟩
theorem U_Q102:type_of% (sc_Q102.eq_1):=sc_Q102.eq_1
theorem comp_Q102:comp Tryz.prog Tryz.f102=some sc_Q102:=by kernel_rfl
def sc_Q67:SFunc:=⟨2,16,.seq (.reg [⟨some 4,none,.v (.mov (.c (.bool false)))⟩]) (.seq (.seq (.reg [⟨some 5,none,.v (.mov (.t 0))⟩,⟨some 6,none,.v (.mov (.t 1))⟩,⟨some 7,none,.call (.c (.func 102 [])) [(.t 5),(.t 6)]⟩,⟨some 8,none,.v (.un .not (.t 7))⟩]) (.cond (.t 8) (.seq (.reg [⟨some 4,none,.v (.mov (.c (.bool false)))⟩]) .ret) .skip)) (.seq (.reg [⟨some 9,none,.v (.mov (.t 0))⟩,⟨some 10,none,.v (.nchk (.t 9))⟩,⟨some 11,none,.v (.faddr 1 (.t 10))⟩,⟨some 12,none,.v (.load none (.t 11))⟩,⟨some 13,none,.v (.bin .add (.t 12) (.c (.int .i64 1)))⟩,⟨some 14,none,.v (.nchk (.t 9))⟩,⟨some 15,none,.v (.faddr 1 (.t 14))⟩,⟨none,none,.store 1 (.t 15) (.t 13)⟩]) (.seq (.reg [⟨some 4,none,.v (.mov (.c (.bool true)))⟩]) .ret))),[(.t 4)]⟩
theorem U_Q67:type_of% (sc_Q67.eq_1):=sc_Q67.eq_1
theorem comp_Q67:comp Tryz.prog Tryz.f67=some sc_Q67:=by kernel_rfl
def sc_Q66:SFunc:=⟨2,10,.seq (.reg [⟨some 4,none,.v (.mov (.t 0))⟩,⟨some 5,none,.v (.mov (.t 1))⟩,⟨some 6,none,.call (.c (.func 67 [])) [(.t 4),(.t 5)]⟩,⟨some 7,none,.v (.un .not (.t 6))⟩]) (.cond (.t 7) (.reg [⟨some 8,none,.v (.mov (.t 0))⟩,⟨some 9,none,.call (.c (.func 42 [])) [(.t 8),(.c (.int .i64 5))]⟩]) .skip),[]⟩
theorem U_Q66:type_of% (sc_Q66.eq_1):=sc_Q66.eq_1
theorem comp_Q66:comp Tryz.prog Tryz.f66=some sc_Q66:=by kernel_rfl
def sc_Q101:SFunc:=⟨1,20,.seq (.reg [⟨some 2,none,.v (.mov (.c (.str [])))⟩]) (.seq (.reg [⟨some 4,none,.v (.mov (.t 0))⟩,⟨some 5,none,.call (.c (.func 38 [])) [(.t 4)]⟩,⟨some 3,none,.alloc [(.int .i64 0),(.str []),(.int .i64 0),(.nils 2),(.int .i64 0)]⟩,⟨none,none,.store 5 (.t 3) (.t 5)⟩]) (.seq (.seq (.reg [⟨some 6,none,.v (.faddr 0 (.t 3))⟩,⟨some 7,none,.v (.load none (.t 6))⟩,⟨some 8,none,.v (.bin .neq (.t 7) (.c (.int .i64 3)))⟩]) (.cond (.t 8) (.reg [⟨some 9,none,.v (.mov (.t 0))⟩,⟨some 10,none,.call (.c (.func 42 [])) [(.t 9),(.c (.int .i64 5))]⟩]) .skip)) (.seq (.reg [⟨some 11,none,.v (.mov (.t 0))⟩,⟨some 12,none,.v (.nchk (.t 11))⟩,⟨some 13,none,.v (.faddr 1 (.t 12))⟩,⟨some 14,none,.v (.load none (.t 13))⟩,⟨some 15,none,.v (.bin .add (.t 14) (.c (.int .i64 1)))⟩,⟨some 16,none,.v (.nchk (.t 11))⟩,⟨some 17,none,.v (.faddr 1 (.t 16))⟩,⟨none,none,.store 1 (.t 17) (.t 15)⟩]) (.seq (.reg [⟨some 18,none,.v (.faddr 1 (.t 3))⟩,⟨some 19,none,.v (.load none (.t 18))⟩,⟨some 2,none,.v (.mov (.t 19))⟩]) .ret)))),[(.t 2)]⟩
theorem U_Q101:type_of% (sc_Q101.eq_1):=sc_Q101.eq_1
theorem comp_Q101:comp Tryz.prog Tryz.f101=some sc_Q101:=by kernel_rfl
def sc_Q104:SFunc:=⟨2,32,.seq (.seq (.reg [⟨some 4,none,.v (.mov (.t 0))⟩,⟨some 5,none,.v (.nchk (.t 4))⟩,⟨some 6,none,.v (.faddr 0 (.t 5))⟩,⟨some 7,none,.v (.mov (.t 1))⟩,⟨some 8,none,.call (.c (.func 102 [])) [(.t 6),(.t 7)]⟩,⟨some 9,none,.v (.mov (.t 8))⟩,⟨some 10,some (9,true),.v (.mov (.t 0))⟩,⟨some 11,some (9,true),.v (.nchk (.t 10))⟩,⟨some 12,some (9,true),.v (.faddr 3 (.t 11))⟩,⟨some 13,some (9,true),.v (.load none (.t 12))⟩,⟨some 14,some (9,true),.v (.bin .geq (.t 13) (.c (.int .i64 64)))⟩,⟨some 15,none,.v (.pick (.t 9) (.t 14) (.c (.bool false)))⟩]) (.cond (.t 15) (.reg [⟨some 16,none,.v (.mov (.t 0))⟩,⟨some 17,none,.v (.nchk (.t 16))⟩,⟨some 18,none,.v (.faddr 0 (.t 17))⟩,⟨some 19,none,.call (.c (.func 42 [])) [(.t 18),(.c (.int .i64 6))]⟩]) .skip)) (.seq (.reg [⟨some 20,none,.v (.mov (.t 0))⟩,⟨some 21,none,.v (.nchk (.t 20))⟩,⟨some 22,none,.v (.faddr 0 (.t 21))⟩,⟨some 23,none,.v (.mov (.t 1))⟩,⟨some 24,none,.call (.c (.func 66 [])) [(.t 22),(.t 23)]⟩]) (.reg [⟨some 25,none,.v (.mov (.t 0))⟩,⟨some 26,none,.v (.nchk (.t 25))⟩,⟨some 27,none,.v (.faddr 3 (.t 26))⟩,⟨some 28,none,.v (.load none (.t 27))⟩,⟨some 29,none,.v (.bin .add (.t 28) (.c (.int .i64 1)))⟩,⟨some 30,none,.v (.nchk (.t 25))⟩,⟨some 31,none,.v (.faddr 3 (.t 30))⟩,⟨none,none,.store 1 (.t 31) (.t 29)⟩])),[]⟩
theorem U_Q104:type_of% (sc_Q104.eq_1):=sc_Q104.eq_1
theorem comp_Q104:comp Tryz.prog Tryz.f104=some sc_Q104:=by kernel_rfl
def sc_Q181:SFunc:=⟨2,16,.seq (.reg [⟨some 4,none,.v (.mov (.t 0))⟩,⟨some 5,none,.v (.nchk (.t 4))⟩,⟨some 6,none,.v (.faddr 0 (.t 5))⟩,⟨some 7,none,.v (.mov (.t 1))⟩,⟨some 8,none,.call (.c (.func 66 [])) [(.t 6),(.t 7)]⟩]) (.reg [⟨some 9,none,.v (.mov (.t 0))⟩,⟨some 10,none,.v (.nchk (.t 9))⟩,⟨some 11,none,.v (.faddr 3 (.t 10))⟩,⟨some 12,none,.v (.load none (.t 11))⟩,⟨some 13,none,.v (.bin .sub (.t 12) (.c (.int .i64 1)))⟩,⟨some 14,none,.v (.nchk (.t 9))⟩,⟨some 15,none,.v (.faddr 3 (.t 14))⟩,⟨none,none,.store 1 (.t 15) (.t 13)⟩]),[]⟩
theorem U_Q181:type_of% (sc_Q181.eq_1):=sc_Q181.eq_1
theorem comp_Q181:comp Tryz.prog Tryz.f181=some sc_Q181:=by kernel_rfl
def sc_Q105:SFunc:=⟨4,29,.seq (.reg [⟨some 8,none,.v (.mov (.c (.int .i64 0)))⟩]) (.seq (.dreg [⟨some 9,none,.v (.mov (.t 0))⟩,⟨some 10,none,.v (.mov (.t 0))⟩,⟨some 11,none,.v (.nchk (.t 10))⟩,⟨some 12,none,.v (.faddr 2 (.t 11))⟩,⟨some 13,none,.v (.load none (.t 12))⟩,⟨some 14,none,.v (.mov (.t 1))⟩,⟨some 15,none,.v (.mov (.t 2))⟩,⟨some 16,none,.v (.mov (.t 3))⟩,⟨some 17,none,.call (.c (.func 144 [])) [(.t 16)]⟩,⟨some 18,none,.v (.build [(.int .i64 0),(.int .i64 0),(.str []),(.nils 2),(.nils 1)] [(0,1,(.t 14)),(2,1,(.t 15)),(4,1,(.t 17))])⟩,⟨some 19,none,.bslice 5 1 [(.int .i64 0),(.int .i64 0),(.str []),(.nils 2),(.nils 1)] [(0,(.t 18))]⟩,⟨some 20,none,.append 5 80 (.t 13) (.t 19)⟩,⟨some 21,none,.v (.nchk (.t 9))⟩,⟨some 22,none,.v (.faddr 2 (.t 21))⟩,⟨none,none,.store 1 (.t 22) (.t 20)⟩] [false,false,false,false,false,false,false,false,false,false,false,true,true,true,true]) (.seq (.reg [⟨some 23,none,.v (.mov (.t 0))⟩,⟨some 24,none,.v (.nchk (.t 23))⟩,⟨some 25,none,.v (.faddr 2 (.t 24))⟩,⟨some 26,none,.v (.load none (.t 25))⟩,⟨some 27,none,.v (.len false (.t 26))⟩,⟨some 28,none,.v (.bin .sub (.t 27) (.c (.int .i64 1)))⟩,⟨some 8,none,.v (.mov (.t 28))⟩]) .ret)),[(.t 8)]⟩
theorem U_Q105:type_of% (sc_Q105.eq_1):=sc_Q105.eq_1
theorem comp_Q105:comp Tryz.prog Tryz.f105=some sc_Q105:=by kernel_rfl
def c_Q143_1:SC:=.seq (.reg [⟨some 15,none,.bslice 1 5 [(.int .i64 0)] [(0,(.c (.int .i64 11))),(1,(.c (.int .i64 12))),(2,(.c (.int .i64 13))),(3,(.c (.int .i64 19))),(4,(.c (.int .i64 21)))]⟩,⟨some 7,none,.v (.mov (.t 15))⟩]) (.seq (.reg [⟨some 16,none,.v (.mov (.t 6))⟩,⟨some 17,none,.v (.mov (.t 0))⟩,⟨some 18,none,.v (.iaddr 1 (.t 16) (.t 17))⟩,⟨some 19,none,.v (.load none (.t 18))⟩,⟨some 20,none,.v (.mov (.t 1))⟩,⟨some 21,none,.call (.c (.func 62 [])) [(.t 19),(.t 20)]⟩,⟨some 8,none,.v (.mov (.t 21))⟩]) (.seq (.reg [⟨some 22,none,.v (.mov (.t 7))⟩,⟨some 23,none,.v (.mov (.t 0))⟩,⟨some 24,none,.v (.iaddr 1 (.t 22) (.t 23))⟩,⟨some 25,none,.v (.load none (.t 24))⟩,⟨some 26,none,.v (.mov (.t 8))⟩,⟨some 27,none,.v (.bin .add (.t 25) (.t 26))⟩,⟨some 28,none,.v (.mov (.t 8))⟩,⟨some 29,none,.v (.bin .geq (.t 28) (.c (.int .i64 0)))⟩,⟨some 4,none,.v (.mov (.t 27))⟩,⟨some 5,none,.v (.mov (.t 29))⟩]) .ret))
def c_Q143_2:SC:=.seq (.reg [⟨some 9,none,.bslice 1 1 [(.str [])] [(0,(.c (.str [124,124])))]⟩,⟨some 10,none,.bslice 1 1 [(.str [])] [(0,(.c (.str [38,38])))]⟩,⟨some 11,none,.bslice 1 6 [(.str [])] [(0,(.c (.str [61,61]))),(1,(.c (.str [33,61]))),(2,(.c (.str [60]))),(3,(.c (.str [60,61]))),(4,(.c (.str [62]))),(5,(.c (.str [62,61])))]⟩,⟨some 12,none,.bslice 1 2 [(.str [])] [(0,(.c (.str [43]))),(1,(.c (.str [45])))]⟩,⟨some 13,none,.bslice 1 3 [(.str [])] [(0,(.c (.str [42]))),(1,(.c (.str [47]))),(2,(.c (.str [37])))]⟩,⟨some 14,none,.bslice 1 5 [(.nils 1)] [(0,(.t 9)),(1,(.t 10)),(2,(.t 11)),(3,(.t 12)),(4,(.t 13))]⟩,⟨some 6,none,.v (.mov (.t 14))⟩]) c_Q143_1
def sc_Q143:SFunc:=⟨2,30,.seq (.reg [⟨some 4,none,.v (.mov (.c (.int .i64 0)))⟩,⟨some 5,none,.v (.mov (.c (.bool false)))⟩]) c_Q143_2,[(.t 4),(.t 5)]⟩
theorem U_Q143:type_of% (aI (ue c_Q143_1.eq_1)<|aI (ue c_Q143_2.eq_1)<|sc_Q143.eq_1):=aI (ue c_Q143_1.eq_1)<|aI (ue c_Q143_2.eq_1)<|sc_Q143.eq_1
theorem comp_Q143:comp Tryz.prog Tryz.f143=some sc_Q143:=by kernel_rfl
def c_slices_Index_string_string_1:SC:=.seq (.reg [⟨some 4,none,.v (.mov (.c (.int .i64 (-1))))⟩]) .ret
def b_slices_Index_string_string_1:SC:=.seq (.reg [⟨some 9,none,.v (.bin .lss (.t 8) (.t 7))⟩]) (.seq (.cond (.t 9) .skip (.exit 0)) (.seq (.block 1 (.seq (.reg [⟨some 10,none,.v (.mov (.t 8))⟩,⟨some 5,none,.v (.mov (.t 10))⟩]) (.seq (.reg [⟨some 11,none,.v (.mov (.t 1))⟩,⟨some 12,none,.v (.mov (.t 0))⟩,⟨some 13,none,.v (.mov (.t 5))⟩,⟨some 14,none,.v (.iaddr 1 (.t 12) (.t 13))⟩,⟨some 15,none,.v (.load none (.t 14))⟩,⟨some 16,none,.v (.bin .eql (.t 11) (.t 15))⟩]) (.cond (.t 16) (.seq (.reg [⟨some 17,none,.v (.mov (.t 5))⟩,⟨some 4,none,.v (.mov (.t 17))⟩]) .ret) .skip)))) (.reg [⟨some 18,none,.v (.bin .add (.t 8) (.c (.int .i64 1)))⟩,⟨some 8,none,.v (.mov (.t 18))⟩])))
def sc_slices_Index_string_string:SFunc:=⟨2,19,.seq (.reg [⟨some 4,none,.v (.mov (.c (.int .i64 0)))⟩]) (.seq (.seq (.reg [⟨some 6,none,.v (.mov (.t 0))⟩,⟨some 7,none,.v (.len false (.t 6))⟩,⟨some 8,none,.v (.mov (.c (.int .i64 0)))⟩]) (.block 0 (.loop b_slices_Index_string_string_1))) c_slices_Index_string_string_1),[(.t 4)]⟩
noncomputable def k_slices_Index_string_string_1 (SP:Prg) (x:EO):CO:=fin [(.t 4)] (thC SP (inBlk 0 (x)) c_slices_Index_string_string_1)
theorem U_slices_Index_string_string:type_of% (aI (ue c_slices_Index_string_string_1.eq_1)<|aI (ue b_slices_Index_string_string_1.eq_1)<|sc_slices_Index_string_string.eq_1):=aI (ue c_slices_Index_string_string_1.eq_1)<|aI (ue b_slices_Index_string_string_1.eq_1)<|sc_slices_Index_string_string.eq_1
theorem comp_slices_Index_string_string:comp Tryz.prog Tryz.f62=some sc_slices_Index_string_string:=by kernel_rfl
def sc_Q202:SFunc:=⟨3,20,.seq (.reg [⟨some 6,none,.v (.mov (.c (.int .i64 0)))⟩]) (.seq (.reg [⟨some 8,none,.v (.mov (.t 0))⟩,⟨some 9,none,.v (.mov (.t 1))⟩,⟨some 10,none,.call (.c (.func 105 [])) [(.t 8),(.t 9),(.c (.str [])),(.c (.nils 1))]⟩,⟨some 7,none,.v (.mov (.t 10))⟩]) (.seq (.reg [⟨some 11,none,.v (.mov (.t 0))⟩,⟨some 12,none,.v (.nchk (.t 11))⟩,⟨some 13,none,.v (.faddr 2 (.t 12))⟩,⟨some 14,none,.v (.load none (.t 13))⟩,⟨some 15,none,.v (.mov (.t 7))⟩,⟨some 16,none,.v (.mov (.t 2))⟩,⟨some 17,none,.v (.iaddr 5 (.t 14) (.t 15))⟩,⟨some 18,none,.v (.faddr 1 (.t 17))⟩,⟨none,none,.store 1 (.t 18) (.t 16)⟩]) (.seq (.reg [⟨some 19,none,.v (.mov (.t 7))⟩,⟨some 6,none,.v (.mov (.t 19))⟩]) .ret))),[(.t 6)]⟩
theorem U_Q202:type_of% (sc_Q202.eq_1):=sc_Q202.eq_1
theorem comp_Q202:comp Tryz.prog Tryz.f202=some sc_Q202:=by kernel_rfl
def c_Q201_1:SC:=.seq (.reg [⟨some 32,none,.v (.mov (.t 0))⟩,⟨some 33,none,.call (.c (.func 104 [])) [(.t 32),(.c (.str [40]))]⟩]) (.seq (.reg [⟨some 34,none,.v (.mov (.t 0))⟩,⟨some 35,none,.v (.mov (.t 3))⟩,⟨some 36,none,.v (.mov (.t 0))⟩,⟨some 37,none,.call (.c (.func 203 [])) [(.t 36),(.c (.str [41]))]⟩,⟨some 38,none,.call (.c (.func 105 [])) [(.t 34),(.c (.int .i64 5)),(.t 35),(.t 37)]⟩,⟨some 2,none,.v (.mov (.t 38))⟩]) .ret)
def c_Q201_2:SC:=.cond (.t 8) (.seq (.reg [⟨some 11,none,.v (.mov (.t 0))⟩,⟨some 12,none,.call (.c (.func 202 [])) [(.t 11),(.c (.int .i64 3)),(.c (.int .i64 1))]⟩,⟨some 2,none,.v (.mov (.t 12))⟩]) .ret) (.seq (.reg [⟨some 14,none,.v (.mov (.t 3))⟩,⟨some 15,none,.v (.bin .eql (.t 14) (.c (.str [102,97,108,115,101])))⟩,⟨some 13,none,.v (.mov (.t 15))⟩]) (.cond (.t 13) (.seq (.reg [⟨some 16,none,.v (.mov (.t 0))⟩,⟨some 17,none,.call (.c (.func 202 [])) [(.t 16),(.c (.int .i64 3)),(.c (.int .i64 0))]⟩,⟨some 2,none,.v (.mov (.t 17))⟩]) .ret) (.seq (.reg [⟨some 19,none,.v (.mov (.t 0))⟩,⟨some 20,none,.v (.nchk (.t 19))⟩,⟨some 21,none,.v (.faddr 0 (.t 20))⟩,⟨some 22,none,.call (.c (.func 67 [])) [(.t 21),(.c (.str [46]))]⟩,⟨some 18,none,.v (.mov (.t 22))⟩]) (.cond (.t 18) (.seq (.reg [⟨some 23,none,.v (.mov (.t 0))⟩,⟨some 24,none,.v (.mov (.t 3))⟩,⟨some 25,none,.v (.bin .add (.t 24) (.c (.str [46])))⟩,⟨some 26,none,.v (.mov (.t 0))⟩,⟨some 27,none,.v (.nchk (.t 26))⟩,⟨some 28,none,.v (.faddr 0 (.t 27))⟩,⟨some 29,none,.call (.c (.func 101 [])) [(.t 28)]⟩,⟨some 30,none,.v (.bin .add (.t 25) (.t 29))⟩,⟨some 31,none,.call (.c (.func 105 [])) [(.t 23),(.c (.int .i64 4)),(.t 30),(.c (.nils 1))]⟩,⟨some 2,none,.v (.mov (.t 31))⟩]) .ret) .skip))))
def c_Q201_3:SC:=.seq (.block 0 (.seq (.reg [⟨some 9,none,.v (.mov (.t 3))⟩,⟨some 10,none,.v (.bin .eql (.t 9) (.c (.str [116,114,117,101])))⟩,⟨some 8,none,.v (.mov (.t 10))⟩]) c_Q201_2)) c_Q201_1
def c_Q201_4:SC:=.seq (.reg [⟨some 4,none,.v (.mov (.t 0))⟩,⟨some 5,none,.v (.nchk (.t 4))⟩,⟨some 6,none,.v (.faddr 0 (.t 5))⟩,⟨some 7,none,.call (.c (.func 101 [])) [(.t 6)]⟩,⟨some 3,none,.v (.mov (.t 7))⟩]) c_Q201_3
def sc_Q201:SFunc:=⟨1,39,.seq (.reg [⟨some 2,none,.v (.mov (.c (.int .i64 0)))⟩]) c_Q201_4,[(.t 2)]⟩
theorem U_Q201:type_of% (aI (ue c_Q201_1.eq_1)<|aI (ue c_Q201_2.eq_1)<|aI (ue c_Q201_3.eq_1)<|aI (ue c_Q201_4.eq_1)<|sc_Q201.eq_1):=aI (ue c_Q201_1.eq_1)<|aI (ue c_Q201_2.eq_1)<|aI (ue c_Q201_3.eq_1)<|aI (ue c_Q201_4.eq_1)<|sc_Q201.eq_1
theorem comp_Q201:comp Tryz.prog Tryz.f201=some sc_Q201:=by kernel_rfl
def c_Q180_1:SC:=.seq (.reg [⟨some 69,none,.v (.mov (.t 0))⟩,⟨some 70,none,.call (.c (.func 104 [])) [(.t 69),(.c (.str [40]))]⟩]) (.seq (.reg [⟨some 71,none,.v (.mov (.t 0))⟩,⟨some 72,none,.call (.c (.func 68 [])) [(.t 71)]⟩,⟨some 5,none,.v (.mov (.t 72))⟩]) (.seq (.reg [⟨some 73,none,.v (.mov (.t 0))⟩,⟨some 74,none,.call (.c (.func 181 [])) [(.t 73),(.c (.str [41]))]⟩]) (.seq (.reg [⟨some 75,none,.v (.mov (.t 5))⟩,⟨some 2,none,.v (.mov (.t 75))⟩]) .ret)))
def c_Q180_2:SC:=.cond (.t 33) (.seq (.reg [⟨some 37,none,.v (.mov (.t 0))⟩,⟨some 38,none,.v (.nchk (.t 37))⟩,⟨some 39,none,.v (.faddr 0 (.t 38))⟩,⟨some 40,none,.v (.faddr 1 (.t 39))⟩,⟨some 41,none,.v (.load none (.t 40))⟩,⟨some 42,none,.v (.bin .add (.t 41) (.c (.int .i64 1)))⟩,⟨some 43,none,.v (.nchk (.t 37))⟩,⟨some 44,none,.v (.faddr 0 (.t 43))⟩,⟨some 45,none,.v (.faddr 1 (.t 44))⟩,⟨none,none,.store 1 (.t 45) (.t 42)⟩]) (.seq (.reg [⟨some 46,none,.v (.mov (.t 0))⟩,⟨some 47,none,.call (.c (.func 105 [])) [(.t 46),(.c (.int .i64 2)),(.c (.str [])),(.c (.nils 1))]⟩,⟨some 4,none,.v (.mov (.t 47))⟩]) (.seq (.dreg [⟨some 48,none,.v (.mov (.t 0))⟩,⟨some 49,none,.v (.nchk (.t 48))⟩,⟨some 50,none,.v (.faddr 2 (.t 49))⟩,⟨some 51,none,.v (.load none (.t 50))⟩,⟨some 52,none,.v (.mov (.t 4))⟩,⟨some 53,none,.v (.faddr 3 (.t 3))⟩,⟨some 54,none,.v (.load none (.t 53))⟩,⟨some 55,none,.v (.iaddr 5 (.t 51) (.t 52))⟩,⟨some 56,none,.v (.faddr 3 (.t 55))⟩,⟨none,none,.store 1 (.t 56) (.t 54)⟩] [false,false,false,false,false,false,false,true,true,true]) (.seq (.reg [⟨some 57,none,.v (.mov (.t 4))⟩,⟨some 2,none,.v (.mov (.t 57))⟩]) .ret)))) (.seq (.reg [⟨some 59,none,.v (.mov (.t 0))⟩,⟨some 60,none,.v (.nchk (.t 59))⟩,⟨some 61,none,.v (.faddr 0 (.t 60))⟩,⟨some 62,none,.call (.c (.func 102 [])) [(.t 61),(.c (.str [91]))]⟩,⟨some 58,none,.v (.mov (.t 62))⟩]) (.cond (.t 58) (.seq (.reg [⟨some 63,none,.v (.mov (.t 0))⟩,⟨some 64,none,.call (.c (.func 104 [])) [(.t 63),(.c (.str [91]))]⟩]) (.seq (.reg [⟨some 65,none,.v (.mov (.t 0))⟩,⟨some 66,none,.v (.mov (.t 0))⟩,⟨some 67,none,.call (.c (.func 203 [])) [(.t 66),(.c (.str [93]))]⟩,⟨some 68,none,.call (.c (.func 105 [])) [(.t 65),(.c (.int .i64 6)),(.c (.str [])),(.t 67)]⟩,⟨some 2,none,.v (.mov (.t 68))⟩]) .ret)) .skip))
def c_Q180_3:SC:=.cond (.t 16) (.seq (.reg [⟨some 20,none,.v (.mov (.t 0))⟩,⟨some 21,none,.v (.nchk (.t 20))⟩,⟨some 22,none,.v (.faddr 0 (.t 21))⟩,⟨some 23,none,.v (.faddr 1 (.t 22))⟩,⟨some 24,none,.v (.load none (.t 23))⟩,⟨some 25,none,.v (.bin .add (.t 24) (.c (.int .i64 1)))⟩,⟨some 26,none,.v (.nchk (.t 20))⟩,⟨some 27,none,.v (.faddr 0 (.t 26))⟩,⟨some 28,none,.v (.faddr 1 (.t 27))⟩,⟨none,none,.store 1 (.t 28) (.t 25)⟩]) (.seq (.reg [⟨some 29,none,.v (.mov (.t 0))⟩,⟨some 30,none,.v (.faddr 2 (.t 3))⟩,⟨some 31,none,.v (.load none (.t 30))⟩,⟨some 32,none,.call (.c (.func 202 [])) [(.t 29),(.c (.int .i64 1)),(.t 31)]⟩,⟨some 2,none,.v (.mov (.t 32))⟩]) .ret)) (.seq (.reg [⟨some 34,none,.v (.faddr 0 (.t 3))⟩,⟨some 35,none,.v (.load none (.t 34))⟩,⟨some 36,none,.v (.bin .eql (.t 35) (.c (.int .i64 2)))⟩,⟨some 33,none,.v (.mov (.t 36))⟩]) c_Q180_2)
def c_Q180_4:SC:=.cond (.t 10) (.seq (.reg [⟨some 14,none,.v (.mov (.t 0))⟩,⟨some 15,none,.call (.c (.func 201 [])) [(.t 14)]⟩,⟨some 2,none,.v (.mov (.t 15))⟩]) .ret) (.seq (.reg [⟨some 17,none,.v (.faddr 0 (.t 3))⟩,⟨some 18,none,.v (.load none (.t 17))⟩,⟨some 19,none,.v (.bin .eql (.t 18) (.c (.int .i64 1)))⟩,⟨some 16,none,.v (.mov (.t 19))⟩]) c_Q180_3)
def c_Q180_5:SC:=.seq (.block 0 (.seq (.reg [⟨some 11,none,.v (.faddr 0 (.t 3))⟩,⟨some 12,none,.v (.load none (.t 11))⟩,⟨some 13,none,.v (.bin .eql (.t 12) (.c (.int .i64 3)))⟩,⟨some 10,none,.v (.mov (.t 13))⟩]) c_Q180_4)) c_Q180_1
def c_Q180_6:SC:=.seq (.reg [⟨some 6,none,.v (.mov (.t 0))⟩,⟨some 7,none,.v (.nchk (.t 6))⟩,⟨some 8,none,.v (.faddr 0 (.t 7))⟩,⟨some 9,none,.call (.c (.func 38 [])) [(.t 8)]⟩,⟨some 3,none,.alloc [(.int .i64 0),(.str []),(.int .i64 0),(.nils 2),(.int .i64 0)]⟩,⟨none,none,.store 5 (.t 3) (.t 9)⟩]) c_Q180_5
def sc_Q180:SFunc:=⟨1,76,.seq (.reg [⟨some 2,none,.v (.mov (.c (.int .i64 0)))⟩]) c_Q180_6,[(.t 2)]⟩
theorem U_Q180:type_of% (aI (ue c_Q180_1.eq_1)<|aI (ue c_Q180_2.eq_1)<|aI (ue c_Q180_3.eq_1)<|aI (ue c_Q180_4.eq_1)<|aI (ue c_Q180_5.eq_1)<|aI (ue c_Q180_6.eq_1)<|sc_Q180.eq_1):=aI (ue c_Q180_1.eq_1)<|aI (ue c_Q180_2.eq_1)<|aI (ue c_Q180_3.eq_1)<|aI (ue c_Q180_4.eq_1)<|aI (ue c_Q180_5.eq_1)<|aI (ue c_Q180_6.eq_1)<|sc_Q180.eq_1
theorem comp_Q180:comp Tryz.prog Tryz.f180=some sc_Q180:=by kernel_rfl
def sc_Q41:SFunc:=⟨1,12,.seq (.reg [⟨some 2,none,.nilv 5⟩]) (.seq (.reg [⟨some 3,none,.v (.mov (.t 0))⟩,⟨some 4,none,.v (.nchk (.t 3))⟩,⟨some 5,none,.v (.faddr 2 (.t 4))⟩,⟨none,none,.store 1 (.t 5) (.c (.nils 5))⟩]) (.seq (.reg [⟨some 6,none,.v (.mov (.t 0))⟩,⟨some 7,none,.call (.c (.func 68 [])) [(.t 6)]⟩]) (.seq (.reg [⟨some 8,none,.v (.mov (.t 0))⟩,⟨some 9,none,.v (.nchk (.t 8))⟩,⟨some 10,none,.v (.faddr 2 (.t 9))⟩,⟨some 11,none,.v (.load none (.t 10))⟩,⟨some 2,none,.v (.mov (.t 11))⟩]) .ret))),[(.t 2)]⟩
theorem U_Q41:type_of% (sc_Q41.eq_1):=sc_Q41.eq_1
theorem comp_Q41:comp Tryz.prog Tryz.f41=some sc_Q41:=by kernel_rfl
def c_Q103_1:SC:=.seq (.reg [⟨some 54,none,.v (.mov (.t 5))⟩,⟨some 4,none,.v (.mov (.t 54))⟩]) .ret
def c_Q103_2:SC:=.seq (.seq (.reg [⟨some 32,none,.v (.mov (.t 7))⟩,⟨some 33,none,.v (.un .not (.t 32))⟩]) (.cond (.t 33) (.exit 0) .skip)) (.seq (.reg [⟨some 34,none,.v (.mov (.t 0))⟩,⟨some 35,none,.v (.nchk (.t 34))⟩,⟨some 36,none,.v (.faddr 0 (.t 35))⟩,⟨some 37,none,.v (.faddr 1 (.t 36))⟩,⟨some 38,none,.v (.load none (.t 37))⟩,⟨some 39,none,.v (.bin .add (.t 38) (.c (.int .i64 1)))⟩,⟨some 40,none,.v (.nchk (.t 34))⟩,⟨some 41,none,.v (.faddr 0 (.t 40))⟩,⟨some 42,none,.v (.faddr 1 (.t 41))⟩,⟨none,none,.store 1 (.t 42) (.t 39)⟩]) (.seq (.reg [⟨some 43,none,.v (.mov (.t 0))⟩,⟨some 44,none,.v (.mov (.t 6))⟩,⟨some 45,none,.v (.mov (.t 5))⟩,⟨some 46,none,.v (.mov (.t 0))⟩,⟨some 47,none,.v (.mov (.t 1))⟩,⟨some 48,none,.v (.bin .add (.t 47) (.c (.int .i64 1)))⟩,⟨some 49,none,.call (.c (.func 103 [])) [(.t 46),(.t 48)]⟩,⟨some 50,none,.bslice 1 2 [(.int .i64 0)] [(0,(.t 45)),(1,(.t 49))]⟩,⟨some 51,none,.call (.c (.func 105 [])) [(.t 43),(.t 44),(.c (.str [])),(.t 50)]⟩,⟨some 5,none,.v (.mov (.t 51))⟩]) (.seq (.reg [⟨some 52,none,.v (.mov (.t 1))⟩,⟨some 53,none,.v (.bin .eql (.t 52) (.c (.int .i64 2)))⟩]) (.cond (.t 53) (.exit 0) .skip))))
def c_Q103_3:SC:=.block 1 (.seq (.reg [⟨some 23,none,.v (.mov (.t 1))⟩,⟨some 24,none,.v (.mov (.t 0))⟩,⟨some 25,none,.v (.nchk (.t 24))⟩,⟨some 26,none,.v (.faddr 0 (.t 25))⟩,⟨some 27,none,.call (.c (.func 38 [])) [(.t 26)]⟩,⟨some 28,none,.v (.field 1 none (.t 27))⟩,⟨some 29,none,.call (.c (.func 143 [])) [(.t 23),(.t 28)]⟩,⟨some 22,none,.v (.mov (.t 29))⟩,⟨some 30,none,.v (.extract 0 (.t 22))⟩,⟨some 31,none,.v (.extract 1 (.t 22))⟩,⟨some 6,none,.v (.mov (.t 30))⟩,⟨some 7,none,.v (.mov (.t 31))⟩]) c_Q103_2)
def b_Q103_1:SC:=.seq (.seq (.reg [⟨some 16,none,.v (.mov (.t 0))⟩,⟨some 17,none,.v (.nchk (.t 16))⟩,⟨some 18,none,.v (.faddr 0 (.t 17))⟩,⟨some 19,none,.call (.c (.func 38 [])) [(.t 18)]⟩,⟨some 20,none,.v (.field 0 none (.t 19))⟩,⟨some 21,none,.v (.bin .eql (.t 20) (.c (.int .i64 4)))⟩]) (.cond (.t 21) .skip (.exit 0))) c_Q103_3
def c_Q103_4:SC:=.seq (.block 0 (.loop b_Q103_1)) c_Q103_1
def c_Q103_5:SC:=.seq (.reg [⟨some 12,none,.v (.mov (.t 0))⟩,⟨some 13,none,.v (.mov (.t 1))⟩,⟨some 14,none,.v (.bin .add (.t 13) (.c (.int .i64 1)))⟩,⟨some 15,none,.call (.c (.func 103 [])) [(.t 12),(.t 14)]⟩,⟨some 5,none,.v (.mov (.t 15))⟩]) c_Q103_4
def c_Q103_6:SC:=.seq (.seq (.reg [⟨some 8,none,.v (.mov (.t 1))⟩,⟨some 9,none,.v (.bin .eql (.t 8) (.c (.int .i64 5)))⟩]) (.cond (.t 9) (.seq (.reg [⟨some 10,none,.v (.mov (.t 0))⟩,⟨some 11,none,.call (.c (.func 142 [])) [(.t 10)]⟩,⟨some 4,none,.v (.mov (.t 11))⟩]) .ret) .skip)) c_Q103_5
def sc_Q103:SFunc:=⟨2,55,.seq (.reg [⟨some 4,none,.v (.mov (.c (.int .i64 0)))⟩]) c_Q103_6,[(.t 4)]⟩
noncomputable def k_Q103_1 (SP:Prg) (x:EO):CO:=fin [(.t 4)] (thC SP (inBlk 0 (x)) c_Q103_1)
theorem U_Q103:type_of% (aI (ue c_Q103_1.eq_1)<|aI (ue c_Q103_2.eq_1)<|aI (ue c_Q103_3.eq_1)<|aI (ue b_Q103_1.eq_1)<|aI (ue c_Q103_4.eq_1)<|aI (ue c_Q103_5.eq_1)<|aI (ue c_Q103_6.eq_1)<|sc_Q103.eq_1):=aI (ue c_Q103_1.eq_1)<|aI (ue c_Q103_2.eq_1)<|aI (ue c_Q103_3.eq_1)<|aI (ue b_Q103_1.eq_1)<|aI (ue c_Q103_4.eq_1)<|aI (ue c_Q103_5.eq_1)<|aI (ue c_Q103_6.eq_1)<|sc_Q103.eq_1
theorem comp_Q103:comp Tryz.prog Tryz.f103=some sc_Q103:=by kernel_rfl
def c_Q68_1:SC:=.seq (.reg [⟨some 14,none,.v (.mov (.t 0))⟩,⟨some 15,none,.call (.c (.func 104 [])) [(.t 14),(.c (.str [63]))]⟩]) (.seq (.reg [⟨some 16,none,.v (.mov (.t 0))⟩,⟨some 17,none,.call (.c (.func 68 [])) [(.t 16)]⟩,⟨some 4,none,.v (.mov (.t 17))⟩]) (.seq (.reg [⟨some 18,none,.v (.mov (.t 0))⟩,⟨some 19,none,.v (.nchk (.t 18))⟩,⟨some 20,none,.v (.faddr 0 (.t 19))⟩,⟨some 21,none,.call (.c (.func 66 [])) [(.t 20),(.c (.str [58]))]⟩]) (.seq (.reg [⟨some 22,none,.v (.mov (.t 0))⟩,⟨some 23,none,.call (.c (.func 68 [])) [(.t 22)]⟩,⟨some 5,none,.v (.mov (.t 23))⟩]) (.seq (.reg [⟨some 24,none,.v (.mov (.t 0))⟩,⟨some 25,none,.v (.nchk (.t 24))⟩,⟨some 26,none,.v (.faddr 3 (.t 25))⟩,⟨some 27,none,.v (.load none (.t 26))⟩,⟨some 28,none,.v (.bin .sub (.t 27) (.c (.int .i64 1)))⟩,⟨some 29,none,.v (.nchk (.t 24))⟩,⟨some 30,none,.v (.faddr 3 (.t 29))⟩,⟨none,none,.store 1 (.t 30) (.t 28)⟩]) (.seq (.reg [⟨some 31,none,.v (.mov (.t 0))⟩,⟨some 32,none,.v (.mov (.t 3))⟩,⟨some 33,none,.v (.mov (.t 4))⟩,⟨some 34,none,.v (.mov (.t 5))⟩,⟨some 35,none,.bslice 1 3 [(.int .i64 0)] [(0,(.t 32)),(1,(.t 33)),(2,(.t 34))]⟩,⟨some 36,none,.call (.c (.func 105 [])) [(.t 31),(.c (.int .i64 10)),(.c (.str [])),(.t 35)]⟩,⟨some 2,none,.v (.mov (.t 36))⟩]) .ret)))))
def c_Q68_2:SC:=.seq (.seq (.reg [⟨some 8,none,.v (.mov (.t 0))⟩,⟨some 9,none,.v (.nchk (.t 8))⟩,⟨some 10,none,.v (.faddr 0 (.t 9))⟩,⟨some 11,none,.call (.c (.func 102 [])) [(.t 10),(.c (.str [63]))]⟩,⟨some 12,none,.v (.un .not (.t 11))⟩]) (.cond (.t 12) (.seq (.reg [⟨some 13,none,.v (.mov (.t 3))⟩,⟨some 2,none,.v (.mov (.t 13))⟩]) .ret) .skip)) c_Q68_1
def c_Q68_3:SC:=.seq (.reg [⟨some 6,none,.v (.mov (.t 0))⟩,⟨some 7,none,.call (.c (.func 103 [])) [(.t 6),(.c (.int .i64 0))]⟩,⟨some 3,none,.v (.mov (.t 7))⟩]) c_Q68_2
def sc_Q68:SFunc:=⟨1,37,.seq (.reg [⟨some 2,none,.v (.mov (.c (.int .i64 0)))⟩]) c_Q68_3,[(.t 2)]⟩
theorem U_Q68:type_of% (aI (ue c_Q68_1.eq_1)<|aI (ue c_Q68_2.eq_1)<|aI (ue c_Q68_3.eq_1)<|sc_Q68.eq_1):=aI (ue c_Q68_1.eq_1)<|aI (ue c_Q68_2.eq_1)<|aI (ue c_Q68_3.eq_1)<|sc_Q68.eq_1
theorem comp_Q68:comp Tryz.prog Tryz.f68=some sc_Q68:=by kernel_rfl
def c_Q142_1:SC:=.seq (.reg [⟨some 21,none,.v (.mov (.t 0))⟩,⟨some 22,none,.call (.c (.func 142 [])) [(.t 21)]⟩,⟨some 4,none,.v (.mov (.t 22))⟩]) (.seq (.reg [⟨some 23,none,.v (.mov (.t 0))⟩,⟨some 24,none,.v (.nchk (.t 23))⟩,⟨some 25,none,.v (.faddr 3 (.t 24))⟩,⟨some 26,none,.v (.load none (.t 25))⟩,⟨some 27,none,.v (.bin .sub (.t 26) (.c (.int .i64 1)))⟩,⟨some 28,none,.v (.nchk (.t 23))⟩,⟨some 29,none,.v (.faddr 3 (.t 28))⟩,⟨none,none,.store 1 (.t 29) (.t 27)⟩]) (.seq (.reg [⟨some 30,none,.v (.mov (.t 0))⟩,⟨some 31,none,.v (.mov (.t 3))⟩,⟨some 32,none,.v (.mov (.t 4))⟩,⟨some 33,none,.bslice 1 1 [(.int .i64 0)] [(0,(.t 32))]⟩,⟨some 34,none,.call (.c (.func 105 [])) [(.t 30),(.t 31),(.c (.str [])),(.t 33)]⟩,⟨some 2,none,.v (.mov (.t 34))⟩]) .ret))
def c_Q142_2:SC:=.seq (.block 0 (.seq (.reg [⟨some 8,none,.v (.mov (.t 0))⟩,⟨some 9,none,.v (.nchk (.t 8))⟩,⟨some 10,none,.v (.faddr 0 (.t 9))⟩,⟨some 11,none,.call (.c (.func 102 [])) [(.t 10),(.c (.str [45]))]⟩,⟨some 7,none,.v (.mov (.t 11))⟩]) (.cond (.t 7) (.reg [⟨some 12,none,.v (.mov (.t 0))⟩,⟨some 13,none,.call (.c (.func 104 [])) [(.t 12),(.c (.str [45]))]⟩]) (.seq (.reg [⟨some 15,none,.v (.mov (.t 0))⟩,⟨some 16,none,.v (.nchk (.t 15))⟩,⟨some 17,none,.v (.faddr 0 (.t 16))⟩,⟨some 18,none,.call (.c (.func 102 [])) [(.t 17),(.c (.str [33]))]⟩,⟨some 14,none,.v (.mov (.t 18))⟩]) (.cond (.t 14) (.seq (.reg [⟨some 19,none,.v (.mov (.t 0))⟩,⟨some 20,none,.call (.c (.func 104 [])) [(.t 19),(.c (.str [33]))]⟩]) (.reg [⟨some 3,none,.v (.mov (.c (.int .i64 8)))⟩])) (.seq (.reg [⟨some 5,none,.v (.mov (.t 0))⟩,⟨some 6,none,.call (.c (.func 167 [])) [(.t 5)]⟩,⟨some 2,none,.v (.mov (.t 6))⟩]) .ret)))))) c_Q142_1
def c_Q142_3:SC:=.seq (.reg [⟨some 3,none,.v (.mov (.c (.int .i64 9)))⟩]) c_Q142_2
def sc_Q142:SFunc:=⟨1,35,.seq (.reg [⟨some 2,none,.v (.mov (.c (.int .i64 0)))⟩]) c_Q142_3,[(.t 2)]⟩
theorem U_Q142:type_of% (aI (ue c_Q142_1.eq_1)<|aI (ue c_Q142_2.eq_1)<|aI (ue c_Q142_3.eq_1)<|sc_Q142.eq_1):=aI (ue c_Q142_1.eq_1)<|aI (ue c_Q142_2.eq_1)<|aI (ue c_Q142_3.eq_1)<|sc_Q142.eq_1
theorem comp_Q142:comp Tryz.prog Tryz.f142=some sc_Q142:=by kernel_rfl
def c_Q167_1:SC:=.seq (.reg [⟨some 22,none,.v (.mov (.t 3))⟩,⟨some 2,none,.v (.mov (.t 22))⟩]) .ret
def b_Q167_1:SC:=.seq (.seq (.reg [⟨some 7,none,.v (.mov (.t 0))⟩,⟨some 8,none,.v (.nchk (.t 7))⟩,⟨some 9,none,.v (.faddr 0 (.t 8))⟩,⟨some 10,none,.call (.c (.func 102 [])) [(.t 9),(.c (.str [91]))]⟩]) (.cond (.t 10) .skip (.exit 0))) (.block 1 (.seq (.reg [⟨some 11,none,.v (.mov (.t 0))⟩,⟨some 12,none,.call (.c (.func 104 [])) [(.t 11),(.c (.str [91]))]⟩]) (.seq (.reg [⟨some 13,none,.v (.mov (.t 0))⟩,⟨some 14,none,.call (.c (.func 68 [])) [(.t 13)]⟩,⟨some 4,none,.v (.mov (.t 14))⟩]) (.seq (.reg [⟨some 15,none,.v (.mov (.t 0))⟩,⟨some 16,none,.call (.c (.func 181 [])) [(.t 15),(.c (.str [93]))]⟩]) (.reg [⟨some 17,none,.v (.mov (.t 0))⟩,⟨some 18,none,.v (.mov (.t 3))⟩,⟨some 19,none,.v (.mov (.t 4))⟩,⟨some 20,none,.bslice 1 2 [(.int .i64 0)] [(0,(.t 18)),(1,(.t 19))]⟩,⟨some 21,none,.call (.c (.func 105 [])) [(.t 17),(.c (.int .i64 7)),(.c (.str [])),(.t 20)]⟩,⟨some 3,none,.v (.mov (.t 21))⟩])))))
def sc_Q167:SFunc:=⟨1,23,.seq (.reg [⟨some 2,none,.v (.mov (.c (.int .i64 0)))⟩]) (.seq (.reg [⟨some 5,none,.v (.mov (.t 0))⟩,⟨some 6,none,.call (.c (.func 180 [])) [(.t 5)]⟩,⟨some 3,none,.v (.mov (.t 6))⟩]) (.seq (.block 0 (.loop b_Q167_1)) c_Q167_1)),[(.t 2)]⟩
noncomputable def k_Q167_1 (SP:Prg) (x:EO):CO:=fin [(.t 2)] (thC SP (inBlk 0 (x)) c_Q167_1)
theorem U_Q167:type_of% (aI (ue c_Q167_1.eq_1)<|aI (ue b_Q167_1.eq_1)<|sc_Q167.eq_1):=aI (ue c_Q167_1.eq_1)<|aI (ue b_Q167_1.eq_1)<|sc_Q167.eq_1
theorem comp_Q167:comp Tryz.prog Tryz.f167=some sc_Q167:=by kernel_rfl
def c_Q203_1:SC:=.seq (.reg [⟨some 26,none,.v (.mov (.t 0))⟩,⟨some 27,none,.v (.mov (.t 1))⟩,⟨some 28,none,.call (.c (.func 181 [])) [(.t 26),(.t 27)]⟩]) (.seq (.reg [⟨some 29,none,.v (.mov (.t 5))⟩,⟨some 4,none,.v (.mov (.t 29))⟩]) .ret)
def b_Q203_1:SC:=.seq (.seq (.reg [⟨some 17,none,.v (.mov (.t 0))⟩,⟨some 18,none,.v (.nchk (.t 17))⟩,⟨some 19,none,.v (.faddr 0 (.t 18))⟩,⟨some 20,none,.call (.c (.func 67 [])) [(.t 19),(.c (.str [44]))]⟩]) (.cond (.t 20) .skip (.exit 0))) (.block 1 (.reg [⟨some 21,none,.v (.mov (.t 5))⟩,⟨some 22,none,.v (.mov (.t 0))⟩,⟨some 23,none,.call (.c (.func 68 [])) [(.t 22)]⟩,⟨some 24,none,.bslice 1 1 [(.int .i64 0)] [(0,(.t 23))]⟩,⟨some 25,none,.append 1 8 (.t 21) (.t 24)⟩,⟨some 5,none,.v (.mov (.t 25))⟩]))
def c_Q203_2:SC:=.seq (.reg [⟨some 5,none,.nilv 1⟩]) (.seq (.seq (.reg [⟨some 6,none,.v (.mov (.t 0))⟩,⟨some 7,none,.v (.nchk (.t 6))⟩,⟨some 8,none,.v (.faddr 0 (.t 7))⟩,⟨some 9,none,.v (.mov (.t 1))⟩,⟨some 10,none,.call (.c (.func 102 [])) [(.t 8),(.t 9)]⟩,⟨some 11,none,.v (.un .not (.t 10))⟩]) (.cond (.t 11) (.seq (.reg [⟨some 12,none,.v (.mov (.t 5))⟩,⟨some 13,none,.v (.mov (.t 0))⟩,⟨some 14,none,.call (.c (.func 68 [])) [(.t 13)]⟩,⟨some 15,none,.bslice 1 1 [(.int .i64 0)] [(0,(.t 14))]⟩,⟨some 16,none,.append 1 8 (.t 12) (.t 15)⟩,⟨some 5,none,.v (.mov (.t 16))⟩]) (.block 0 (.loop b_Q203_1))) .skip)) c_Q203_1)
def sc_Q203:SFunc:=⟨2,30,.seq (.reg [⟨some 4,none,.nilv 1⟩]) c_Q203_2,[(.t 4)]⟩
noncomputable def k_Q203_1 (SP:Prg) (x:EO):CO:=fin [(.t 4)] (thC SP (inBlk 0 (x)) c_Q203_1)
theorem U_Q203:type_of% (aI (ue c_Q203_1.eq_1)<|aI (ue b_Q203_1.eq_1)<|aI (ue c_Q203_2.eq_1)<|sc_Q203.eq_1):=aI (ue c_Q203_1.eq_1)<|aI (ue b_Q203_1.eq_1)<|aI (ue c_Q203_2.eq_1)<|sc_Q203.eq_1
theorem comp_Q203:comp Tryz.prog Tryz.f203=some sc_Q203:=by kernel_rfl
def c_slices_IndexFunc_api_Attr_api_Attr_1:SC:=.seq (.reg [⟨some 4,none,.v (.mov (.c (.int .i64 (-1))))⟩]) .ret
def b_slices_IndexFunc_api_Attr_api_Attr_1:SC:=.seq (.reg [⟨some 9,none,.v (.bin .lss (.t 8) (.t 7))⟩]) (.seq (.cond (.t 9) .skip (.exit 0)) (.seq (.block 1 (.seq (.reg [⟨some 10,none,.v (.mov (.t 8))⟩,⟨some 5,none,.v (.mov (.t 10))⟩]) (.seq (.reg [⟨some 11,none,.v (.mov (.t 1))⟩,⟨some 12,none,.v (.mov (.t 0))⟩,⟨some 13,none,.v (.mov (.t 5))⟩,⟨some 14,none,.v (.iaddr 2 (.t 12) (.t 13))⟩,⟨some 15,none,.v (.load (some 2) (.t 14))⟩,⟨some 16,none,.call (.t 11) [(.t 15)]⟩]) (.cond (.t 16) (.seq (.reg [⟨some 17,none,.v (.mov (.t 5))⟩,⟨some 4,none,.v (.mov (.t 17))⟩]) .ret) .skip)))) (.reg [⟨some 18,none,.v (.bin .add (.t 8) (.c (.int .i64 1)))⟩,⟨some 8,none,.v (.mov (.t 18))⟩])))
def sc_slices_IndexFunc_api_Attr_api_Attr:SFunc:=⟨2,19,.seq (.reg [⟨some 4,none,.v (.mov (.c (.int .i64 0)))⟩]) (.seq (.seq (.reg [⟨some 6,none,.v (.mov (.t 0))⟩,⟨some 7,none,.v (.len false (.t 6))⟩,⟨some 8,none,.v (.mov (.c (.int .i64 0)))⟩]) (.block 0 (.loop b_slices_IndexFunc_api_Attr_api_Attr_1))) c_slices_IndexFunc_api_Attr_api_Attr_1),[(.t 4)]⟩
noncomputable def k_slices_IndexFunc_api_Attr_api_Attr_1 (SP:Prg) (x:EO):CO:=fin [(.t 4)] (thC SP (inBlk 0 (x)) c_slices_IndexFunc_api_Attr_api_Attr_1)
theorem U_slices_IndexFunc_api_Attr_api_Attr:type_of% (aI (ue c_slices_IndexFunc_api_Attr_api_Attr_1.eq_1)<|aI (ue b_slices_IndexFunc_api_Attr_api_Attr_1.eq_1)<|sc_slices_IndexFunc_api_Attr_api_Attr.eq_1):=aI (ue c_slices_IndexFunc_api_Attr_api_Attr_1.eq_1)<|aI (ue b_slices_IndexFunc_api_Attr_api_Attr_1.eq_1)<|sc_slices_IndexFunc_api_Attr_api_Attr.eq_1
theorem comp_slices_IndexFunc_api_Attr_api_Attr:comp Tryz.prog Tryz.f141=some sc_slices_IndexFunc_api_Attr_api_Attr:=by kernel_rfl
def sc_slices_ContainsFunc_api_Attr_api_Attr:SFunc:=⟨2,9,.seq (.reg [⟨some 4,none,.v (.mov (.c (.bool false)))⟩]) (.seq (.reg [⟨some 5,none,.v (.mov (.t 0))⟩,⟨some 6,none,.v (.mov (.t 1))⟩,⟨some 7,none,.call (.c (.func 141 [])) [(.t 5),(.t 6)]⟩,⟨some 8,none,.v (.bin .geq (.t 7) (.c (.int .i64 0)))⟩,⟨some 4,none,.v (.mov (.t 8))⟩]) .ret),[(.t 4)]⟩
theorem U_slices_ContainsFunc_api_Attr_api_Attr:type_of% (sc_slices_ContainsFunc_api_Attr_api_Attr.eq_1):=sc_slices_ContainsFunc_api_Attr_api_Attr.eq_1
theorem comp_slices_ContainsFunc_api_Attr_api_Attr:comp Tryz.prog Tryz.f99=some sc_slices_ContainsFunc_api_Attr_api_Attr:=by kernel_rfl
def sc_Q40:SFunc:=⟨2,19,.seq (.reg [⟨some 3,none,.v (.mov (.t 0))⟩,⟨some 4,none,.v (.nchk (.t 3))⟩,⟨some 5,none,.v (.faddr 0 (.t 4))⟩,⟨some 6,none,.call (.c (.func 41 [])) [(.t 5)]⟩,⟨none,none,.store 1 (.t 1) (.t 6)⟩]) (.seq (.reg [⟨some 7,none,.v (.mov (.t 0))⟩,⟨some 8,none,.v (.nchk (.t 7))⟩,⟨some 9,none,.v (.faddr 0 (.t 8))⟩,⟨some 10,none,.v (.faddr 0 (.t 9))⟩,⟨some 11,none,.call (.c (.func 38 [])) [(.t 10)]⟩,⟨some 12,none,.v (.field 0 none (.t 11))⟩,⟨some 13,none,.v (.bin .neq (.t 12) (.c (.int .i64 0)))⟩]) (.cond (.t 13) (.reg [⟨some 14,none,.v (.mov (.t 0))⟩,⟨some 15,none,.v (.nchk (.t 14))⟩,⟨some 16,none,.v (.faddr 0 (.t 15))⟩,⟨some 17,none,.v (.faddr 0 (.t 16))⟩,⟨some 18,none,.call (.c (.func 42 [])) [(.t 17),(.c (.int .i64 5))]⟩]) .skip)),[]⟩
theorem U_Q40:type_of% (sc_Q40.eq_1):=sc_Q40.eq_1
theorem comp_Q40:comp Tryz.prog Tryz.f40=some sc_Q40:=by kernel_rfl
def sc_Q20:SFunc:=⟨1,13,.seq (.reg [⟨some 2,none,.nilv 5⟩,⟨some 3,none,.v (.mov (.c (.int .i64 0)))⟩]) (.seq (.reg [⟨some 4,none,.alloc [(.nils 5)]⟩]) (.seq (.reg [⟨some 6,none,.v (.mov (.t 0))⟩,⟨some 7,none,.v (.func 40 [(.t 4)])⟩,⟨some 8,none,.call (.c (.func 36 [])) [(.t 6),(.t 7)]⟩,⟨some 5,none,.v (.mov (.t 8))⟩]) (.seq (.seq (.reg [⟨some 9,none,.v (.mov (.t 5))⟩,⟨some 10,none,.v (.bin .neq (.t 9) (.c (.int .i64 0)))⟩]) (.cond (.t 10) (.seq (.reg [⟨some 11,none,.v (.mov (.t 5))⟩,⟨some 2,none,.nilv 5⟩,⟨some 3,none,.v (.mov (.t 11))⟩]) .ret) .skip)) (.seq (.reg [⟨some 12,none,.v (.load none (.t 4))⟩,⟨some 2,none,.v (.mov (.t 12))⟩,⟨some 3,none,.v (.mov (.c (.int .i64 0)))⟩]) .ret)))),[(.t 2),(.t 3)]⟩
theorem U_Q20:type_of% (sc_Q20.eq_1):=sc_Q20.eq_1
theorem comp_Q20:comp Tryz.prog Tryz.f20=some sc_Q20:=by kernel_rfl
end Go.Proofs.YtfbcnpbhhooapaaGreatDoor.M
namespace Go.Proofs.YtfbcnpbhhooapaaGreatDoor.M
set_option linter.unusedSimpArgs false
set_option linter.unusedVariables false
open Go Classical
theorem sp_Q38:SP 38=some (.code sc_Q38):=SPof_code rfl Tryz.func38 comp_Q38
theorem Q38_tree (t:PTokens) (r:Token) (t':PTokens) (T :
  (0≤t.pos) ∧
 ∃ (v1:Token),(t.l[t.pos.toNat]?=some v1) ∧
 v1=r∧t=t'):R_Q38 t r t':=by
 intro S n0 t0 H0
 have hb0:=H0
 obtain⟨w0,hB0⟩:=take_some hb0
 have hn0:=o_getBox_lt hB0
 rw[call_code sp_Q38 _ _ rfl]
 have F:=U_Q38
 obtain⟨p1,v1,q2,rfl,rfl⟩:=T
 exact fi (aa hB0<|aa hn0<|aa p1<|aa q2<|F)
theorem sp_Q42:SP 42=some (.code sc_Q42):=SPof_code rfl Tryz.func42 comp_Q42
theorem Q42_tree (t:PTokens) (e_:Int) (o:Option Int) (t':PTokens) (T :
  some e_=o∧t=t'):R_Q42 t e_ o t':=by
 intro S n0 t0 H0
 have hb0:=H0
 obtain⟨w0,hB0⟩:=take_some hb0
 have hn0:=o_getBox_lt hB0
 rw[call_code sp_Q42 _ _ rfl]
 have F:=U_Q42
 obtain⟨rfl,rfl⟩:=T
 exact fi (aa hB0<|aa hn0<|F)
theorem sp_Q102:SP 102=some (.code sc_Q102):=SPof_code rfl Tryz.func102 comp_Q102
theorem Q102_tree (t:PTokens) (s:List UInt8) (r:Bool) (t':PTokens) (T :
  ∃ (r1:Token) (y2:PTokens),(R_Q38 t r1 y2) ∧
 ((r1.Kind=4) →
  ∃ (r3:Token) (y4:PTokens),(R_Q38 y2 r3 y4) ∧
  (decide (r3.Text=s))=r∧y4=t') ∧
 (¬ (r1.Kind=4) →
  false=r∧y2=t')):R_Q102 t s r t':=by
 intro S n0 t0 H0
 have hb0:=H0
 obtain⟨w0,hB0⟩:=take_some hb0
 have hn0:=o_getBox_lt hB0
 rw[call_code sp_Q102 _ _ rfl]
 have F:=U_Q102
 obtain⟨r1,y2,q1,T⟩:=T
 simp only[R_Q38,lF] at q1
 replace F:=aa hB0<|aa hn0<|aa q1<|F
 by_cases c2:r1.Kind=4
 ·replace T:=T.1 c2
  obtain⟨r3,y4,q3,rfl,rfl⟩:=T
  simp only[R_Q38,lF] at q3
  exact fi (aa (eq_true c2)<|aa q3<|F)
 replace T:=T.2 c2
 obtain⟨rfl,rfl⟩:=T
 exact fi (aa (eq_false c2)<|F)
theorem sp_Q67:SP 67=some (.code sc_Q67):=SPof_code rfl Tryz.func67 comp_Q67
theorem Q67_tree (t:PTokens) (s:List UInt8) (r:Bool) (t':PTokens) (T :
  ∃ (r1:Bool) (y2:PTokens),(R_Q102 t s r1 y2) ∧
 ((r1=true) →
  (I64 (y2.pos+1)) ∧
  true=r∧(PTokens.mk y2.l (y2.pos+1))=t') ∧
 (¬ (r1=true) →
  false=r∧y2=t')):R_Q67 t s r t':=by
 intro S n0 t0 H0
 have hb0:=H0
 obtain⟨w0,hB0⟩:=take_some hb0
 have hn0:=o_getBox_lt hB0
 rw[call_code sp_Q67 _ _ rfl]
 have F:=U_Q67
 obtain⟨r1,y2,q1,T⟩:=T
 simp only[R_Q102,lF] at q1
 replace F:=aa hB0<|aa hn0<|aa q1<|F
 by_cases c2:r1=true
 ·replace T:=T.1 c2
  obtain⟨p3,rfl,rfl⟩:=T
  exact fi (aa c2<|aa p3.wrap<|F)
 replace T:=T.2 c2
 replace c2:=Bool.eq_false_iff.2 c2
 obtain⟨rfl,rfl⟩:=T
 exact fi (aa c2<|F)
theorem sp_Q66:SP 66=some (.code sc_Q66):=SPof_code rfl Tryz.func66 comp_Q66
theorem Q66_tree (t:PTokens) (s:List UInt8) (o:Option Int) (t':PTokens) (T :
  ∃ (r1:Bool) (y2:PTokens),(R_Q67 t s r1 y2) ∧
 ((r1=true) →
  none=o∧y2=t') ∧
 (¬ (r1=true) →
  ∃ (o3:Option Int) (y4:PTokens),(R_Q42 y2 5 o3 y4) ∧
  (match o3 with
  | none=>(False )
  | some e5=>(some e5=o∧y4=t')))):R_Q66 t s o t':=by
 intro S n0 t0 H0
 have hb0:=H0
 obtain⟨w0,hB0⟩:=take_some hb0
 have hn0:=o_getBox_lt hB0
 rw[call_code sp_Q66 _ _ rfl]
 have F:=U_Q66
 obtain⟨r1,y2,q1,T⟩:=T
 simp only[R_Q67,lF] at q1
 replace F:=aa hB0<|aa hn0<|aa q1<|F
 by_cases c2:r1=true
 ·replace T:=T.1 c2
  obtain⟨rfl,rfl⟩:=T
  exact fi (aa c2<|F)
 replace T:=T.2 c2
 replace c2:=Bool.eq_false_iff.2 c2
 obtain⟨o3,y4,q3,T⟩:=T
 simp only[R_Q42,lF] at q3
 replace F:=aa c2<|aa q3<|F
 cases o3 with
 | none=>exact False.elim T
 | some e5 =>
   dsimp only at T
   obtain⟨rfl,rfl⟩:=T
   exact fi F
theorem sp_Q101:SP 101=some (.code sc_Q101):=SPof_code rfl Tryz.func101 comp_Q101
theorem Q101_tree (t:PTokens) (o:Option Int) (r:List UInt8) (t':PTokens) (T :
  ∃ (r1:Token) (y2:PTokens),(R_Q38 t r1 y2) ∧
 ((r1.Kind=3) →
  (I64 (y2.pos+1)) ∧
  none=o∧r1.Text=r∧(PTokens.mk y2.l (y2.pos+1))=t') ∧
 (¬ (r1.Kind=3) →
  ∃ (o3:Option Int) (y4:PTokens),(R_Q42 y2 5 o3 y4) ∧
  (match o3 with
  | none=>(False )
  | some e5=>(some e5=o∧y4=t')))):R_Q101 t o r t':=by
 intro S n0 t0 H0
 have hb0:=H0
 obtain⟨w0,hB0⟩:=take_some hb0
 have hn0:=o_getBox_lt hB0
 rw[call_code sp_Q101 _ _ rfl]
 have F:=U_Q101
 obtain⟨r1,y2,q1,T⟩:=T
 simp only[R_Q38,lF] at q1
 replace F:=aa hB0<|aa hn0<|aa q1<|F
 by_cases c2:r1.Kind=3
 ·replace T:=T.1 c2
  obtain⟨p3,rfl,rfl,rfl⟩:=T
  exact fi (aa (eq_true c2)<|aa p3.wrap<|F)
 replace T:=T.2 c2
 obtain⟨o3,y4,q4,T⟩:=T
 simp only[R_Q42,lF] at q4
 replace F:=aa (eq_false c2)<|aa q4<|F
 cases o3 with
 | none=>exact False.elim T
 | some e5 =>
   dsimp only at T
   obtain⟨rfl,rfl⟩:=T
   exact fi F
theorem sp_Q104:SP 104=some (.code sc_Q104):=SPof_code rfl Tryz.func104 comp_Q104
theorem Q104_tree (x:PExprs) (x_g2:Nat) (x_z2:Bool) (s:List UInt8) (o:Option Int) (x':PExprs) (x'_g2:Nat) (x'_z2:Bool) (T :
  ∃ (r1:Bool) (y2:PTokens),(R_Q102 x.tokens s r1 y2) ∧
 ((r1=true) →
  ((64≤x.deep) →
   ∃ (o3:Option Int) (y4:PTokens),(R_Q42 y2 6 o3 y4) ∧
   (match o3 with
   | none=>(False )
   | some e5=>(some e5=o∧(PExprs.mk y4 x.out x.deep)=x'∧x_g2=x'_g2∧x_z2=x'_z2))) ∧
  (¬ (64≤x.deep) →
   ∃ (o6:Option Int) (y7:PTokens),(R_Q66 y2 s o6 y7) ∧
   (match o6 with
   | none=>((I64 (x.deep+1)) ∧
    none=o∧(PExprs.mk y7 x.out (x.deep+1))=x'∧x_g2=x'_g2∧x_z2=x'_z2)
   | some e8=>(some e8=o∧(PExprs.mk y7 x.out x.deep)=x'∧x_g2=x'_g2∧x_z2=x'_z2)))) ∧
 (¬ (r1=true) →
  ∃ (o9:Option Int) (y10:PTokens),(R_Q66 y2 s o9 y10) ∧
  (match o9 with
  | none=>((I64 (x.deep+1)) ∧
   none=o∧(PExprs.mk y10 x.out (x.deep+1))=x'∧x_g2=x'_g2∧x_z2=x'_z2)
  | some e11=>(some e11=o∧(PExprs.mk y10 x.out x.deep)=x'∧x_g2=x'_g2∧x_z2=x'_z2)))):R_Q104 x x_g2 x_z2 s o x' x'_g2 x'_z2:=by
 intro S n0 t0 H0
 obtain⟨hb0,ha0⟩:=H0
 obtain⟨w0,hB0⟩:=take_some hb0
 have hn0:=o_getBox_lt hB0
 rw[call_code sp_Q104 _ _ rfl]
 have F:=U_Q104
 obtain⟨r1,y2,q1,T⟩:=T
 simp only[R_Q102,lF] at q1
 replace F:=aa ha0<|aa hB0<|aa hn0<|aa q1<|F
 by_cases c2:r1=true
 ·replace T:=T.1 c2
  replace F:=aa c2<|F
  by_cases c3:64≤x.deep
  ·replace T:=T.1 c3
   obtain⟨o3,y4,q4,T⟩:=T
   simp only[R_Q42,lF] at q4
   replace F:=aa (eq_true c3)<|aa q4<|F
   cases o3 with
   | none=>exact False.elim T
   | some e5 =>
     dsimp only at T
     obtain⟨rfl,rfl,rfl,rfl⟩:=T
     exact fi F
  replace T:=T.2 c3
  obtain⟨o6,y7,q5,T⟩:=T
  simp only[R_Q66,lF] at q5
  replace F:=aa (eq_false c3)<|aa q5<|F
  cases o6 with
  | none =>
    dsimp only at T
    obtain⟨p6,rfl,rfl,rfl,rfl⟩:=T
    exact fi (aa p6.wrap<|F)
  | some e8 =>
    dsimp only at T
    obtain⟨rfl,rfl,rfl,rfl⟩:=T
    exact fi F
 replace T:=T.2 c2
 replace c2:=Bool.eq_false_iff.2 c2
 obtain⟨o9,y10,q7,T⟩:=T
 simp only[R_Q66,lF] at q7
 replace F:=aa c2<|aa q7<|F
 cases o9 with
 | none =>
   dsimp only at T
   obtain⟨p8,rfl,rfl,rfl,rfl⟩:=T
   exact fi (aa p8.wrap<|F)
 | some e11 =>
   dsimp only at T
   obtain⟨rfl,rfl,rfl,rfl⟩:=T
   exact fi F
theorem sp_Q181:SP 181=some (.code sc_Q181):=SPof_code rfl Tryz.func181 comp_Q181
theorem Q181_tree (x:PExprs) (x_g2:Nat) (x_z2:Bool) (s:List UInt8) (o:Option Int) (x':PExprs) (x'_g2:Nat) (x'_z2:Bool) (T :
  ∃ (o1:Option Int) (y2:PTokens),(R_Q66 x.tokens s o1 y2) ∧
 (match o1 with
 | none=>((I64 (x.deep - 1)) ∧
  none=o∧(PExprs.mk y2 x.out (x.deep - 1))=x'∧x_g2=x'_g2∧x_z2=x'_z2)
 | some e3=>(some e3=o∧(PExprs.mk y2 x.out x.deep)=x'∧x_g2=x'_g2∧x_z2=x'_z2))):R_Q181 x x_g2 x_z2 s o x' x'_g2 x'_z2:=by
 intro S n0 t0 H0
 obtain⟨hb0,ha0⟩:=H0
 obtain⟨w0,hB0⟩:=take_some hb0
 have hn0:=o_getBox_lt hB0
 rw[call_code sp_Q181 _ _ rfl]
 have F:=U_Q181
 obtain⟨o1,y2,q1,T⟩:=T
 simp only[R_Q66,lF] at q1
 replace F:=aa ha0<|aa hB0<|aa hn0<|aa q1<|F
 cases o1 with
 | none =>
   dsimp only at T
   obtain⟨p2,rfl,rfl,rfl,rfl⟩:=T
   exact fi (aa p2.wrap<|F)
 | some e3 =>
   dsimp only at T
   obtain⟨rfl,rfl,rfl,rfl⟩:=T
   exact fi F
theorem sp_Q105:SP 105=some (.code sc_Q105):=SPof_code rfl Tryz.func105 comp_Q105
theorem Q105_tree (x:PExprs) (x_g2:Nat) (x_z2:Bool) (kind:Int) (text:List UInt8) (kids:List Int) (r:Int) (x':PExprs) (x'_g2:Nat) (x'_z2:Bool) (T :
  ∃ (r1:List Int),(R_slices_Clone_int_int kids r1) ∧
 (bigRow (x.out.length+1) 80) ∧
 (I64 (((x.out.length+1:Nat):Int) - 1)) ∧
 (((x.out.length+1:Nat):Int) - 1)=r∧(PExprs.mk x.tokens (x.out++[(Node.mk kind 0 text [] r1)]) x.deep)=x'∧x_g2=x'_g2∧x_z2=x'_z2):R_Q105 x x_g2 x_z2 kind text kids r x' x'_g2 x'_z2:=by
 intro S n0 t0 H0
 obtain⟨hb0,ha0⟩:=H0
 obtain⟨w0,hB0⟩:=take_some hb0
 have hn0:=o_getBox_lt hB0
 rw[call_code sp_Q105 _ _ rfl]
 have F:=U_Q105
 obtain⟨r1,q1,p2,p3,rfl,rfl,rfl,rfl⟩:=T
 simp only[R_slices_Clone_int_int,lF] at q1
 simp only[bigRow] at p2
 exact fi (aa ha0<|aa hB0<|aa hn0<|aa q1<|aa p2<|aa p3.wrap<|F)
theorem sp_Q143:SP 143=some (.code sc_Q143):=SPof_code rfl Tryz.func143 comp_Q143
theorem Q143_tree (rank:Int) (s:List UInt8) (ra:Int) (rb:Bool) (T :
  (0≤rank) ∧
 ∃ (v1:List (List UInt8)),(([[[124,124]],[[38,38]],[[61,61],[33,61],[60],[60,61],[62],[62,61]],[[43],[45]],[[42],[47],[37]]]:List (List (List UInt8)))[rank.toNat]?=some v1) ∧
 ∃ (r2:Int),(R_slices_Index_string_string v1 s r2) ∧
 (0≤rank) ∧
 ∃ (v3:Int),(([11,12,13,19,21]:List Int)[rank.toNat]?=some v3) ∧
 (I64 (v3+r2)) ∧
 (v3+r2)=ra∧(decide (0≤r2))=rb):R_Q143 rank s ra rb:=by
 intro S
 rw[call_code sp_Q143 _ _ rfl]
 have F:=U_Q143
 obtain⟨p1,v1,q2,r2,q3,p4,v3,q5,p6,rfl,rfl⟩:=T
 replace q2:=congrArg (Option.map eLS) q2
 rw[←List.getElem?_map] at q2
 simp only[le,List.map_append,Option.map_some] at q2
 simp only[R_slices_Index_string_string,lF] at q3
 replace q5:=congrArg (Option.map eI) q5
 rw[←List.getElem?_map] at q5
 simp only[le,List.map_append,Option.map_some] at q5
 exact fi (aa p1<|aa q2<|aa q3<|aa p4<|aa q5<|aa p6.wrap<|F)
theorem sp_slices_Index_string_string:SP 62=some (.code sc_slices_Index_string_string):=SPof_code rfl Tryz.func62 comp_slices_Index_string_string
def At_slices_Index_string_string_1 (s:List (List UInt8)) (v:List UInt8) (i1:Int) (r:Int):Prop:=∀ (S:Sto) (e:Nat→PV) (f:Fr),e 0=.list 1 (s.map eS) false∧e 1=.str v∧e 7=.int .i64 (s.length:Int)∧e 8=.int .i64 i1→k_slices_Index_string_string_1 SP (E SP (.loop b_slices_Index_string_string_1) ⟨e,f::S⟩)=.ok (.v (.int .i64 r)) S
theorem At_slices_Index_string_string_1_step (s:List (List UInt8)) (v:List UInt8) (i1:Int) (r:Int) (T :
  ((i1 < (s.length:Int)) →
  (0≤i1) ∧
  ∃ (v2:List UInt8),(s[i1.toNat]?=some v2) ∧
  ((v=v2) →
   i1=r) ∧
  (¬ (v=v2) →
   (I64 (i1+1)) ∧
   At_slices_Index_string_string_1 s v (i1+1) r)) ∧
 (¬ (i1 < (s.length:Int)) →
  (-1)=r)):At_slices_Index_string_string_1 s v i1 r:=by
 intro S e f h
 unfold k_slices_Index_string_string_1
 rw[E_loop]
 have F:=U_slices_Index_string_string
 replace F:=aa h<|F
 by_cases c1:i1 < (s.length:Int)
 ·replace T:=T.1 c1
  obtain⟨p2,v2,q3,T⟩:=T
  replace F:=aa (eq_true c1)<|aa p2<|aa q3<|F
  by_cases c4:v=v2
  ·replace T:=T.1 c4
   obtain rfl:=T
   exact fi (aa (eq_true c4)<|F)
  replace T:=T.2 c4
  obtain⟨p5,T⟩:=T
  replace F:=aa (eq_false c4)<|aa p5.wrap<|F
  exact lo F T
 replace T:=T.2 c1
 obtain rfl:=T
 exact fi (aa (eq_false c1)<|F)
theorem slices_Index_string_string_tree (s:List (List UInt8)) (v:List UInt8) (r:Int) (T :
  At_slices_Index_string_string_1 s v 0 r):R_slices_Index_string_string s v r:=by
 intro S
 rw[call_code sp_slices_Index_string_string _ _ rfl]
 have F:=U_slices_Index_string_string
 exact lo F T
theorem sp_Q202:SP 202=some (.code sc_Q202):=SPof_code rfl Tryz.func202 comp_Q202
theorem Q202_tree (x:PExprs) (x_g2:Nat) (x_z2:Bool) (kind:Int) (n:Int) (r:Int) (x':PExprs) (x'_g2:Nat) (x'_z2:Bool) (T :
  ∃ (r1:Int) (y2:PExprs) (g3:Nat) (z4:Bool),(R_Q105 x x_g2 x_z2 kind [] [] r1 y2 g3 z4) ∧
 (0≤r1)∧(r1.toNat < y2.out.length) ∧
 (z4=false) ∧
 ∃ (v5:Node),(y2.out[r1.toNat]?=some v5) ∧
 r1=r∧(PExprs.mk y2.tokens (y2.out.set r1.toNat (Node.mk v5.Kind n v5.Text v5.Parts v5.Kids)) y2.deep)=x'∧g3=x'_g2∧z4=x'_z2):R_Q202 x x_g2 x_z2 kind n r x' x'_g2 x'_z2:=by
 intro S n0 t0 H0
 obtain⟨hb0,ha0⟩:=H0
 obtain⟨w0,hB0⟩:=take_some hb0
 have hn0:=o_getBox_lt hB0
 rw[call_code sp_Q202 _ _ rfl]
 have F:=U_Q202
 obtain⟨r1,y2,g3,z4,q1,p2,p3,p4,v5,q5,rfl,rfl,rfl,rfl⟩:=T
 simp only[R_Q105,lF] at q1
 exact fi (aa ha0<|aa hB0<|aa hn0<|aa q1<|aa p2<|aa p3<|aa p4<|aa q5<|F)
theorem sp_Q201:SP 201=some (.code sc_Q201):=SPof_code rfl Tryz.func201 comp_Q201
theorem Q201_tree (x:PExprs) (x_g2:Nat) (x_z2:Bool) (o:Option Int) (r:Int) (x':PExprs) (x'_g2:Nat) (x'_z2:Bool) (T :
  ∃ (o2:Option Int) (r1:List UInt8) (y3:PTokens),(R_Q101 x.tokens o2 r1 y3) ∧
 (match o2 with
 | none=>(((r1=[116,114,117,101]) →
   ∃ (r5:Int) (y6:PExprs) (g7:Nat) (z8:Bool),(R_Q202 (PExprs.mk y3 x.out x.deep) x_g2 x_z2 3 1 r5 y6 g7 z8) ∧
   none=o∧r5=r∧y6=x'∧g7=x'_g2∧z8=x'_z2) ∧
  (¬ (r1=[116,114,117,101]) →
   ((r1=[102,97,108,115,101]) →
    ∃ (r9:Int) (y10:PExprs) (g11:Nat) (z12:Bool),(R_Q202 (PExprs.mk y3 x.out x.deep) x_g2 x_z2 3 0 r9 y10 g11 z12) ∧
    none=o∧r9=r∧y10=x'∧g11=x'_g2∧z12=x'_z2) ∧
   (¬ (r1=[102,97,108,115,101]) →
    ∃ (r13:Bool) (y14:PTokens),(R_Q67 y3 [46] r13 y14) ∧
    ((r13=true) →
     (r1.length+1≤maxInt) ∧
     ∃ (o16:Option Int) (r15:List UInt8) (y17:PTokens),(R_Q101 y14 o16 r15 y17) ∧
     (match o16 with
     | none=>((r1.length+1+r15.length≤maxInt) ∧
      ∃ (r19:Int) (y20:PExprs) (g21:Nat) (z22:Bool),(R_Q105 (PExprs.mk y17 x.out x.deep) x_g2 x_z2 4 ((r1++[46])++r15) [] r19 y20 g21 z22) ∧
      none=o∧r19=r∧y20=x'∧g21=x'_g2∧z22=x'_z2)
     | some e18=>(some e18=o∧(PExprs.mk y17 x.out x.deep)=x'∧x_g2=x'_g2∧x_z2=x'_z2))) ∧
    (¬ (r13=true) →
     ∃ (o23:Option Int) (y24:PExprs) (g25:Nat) (z26:Bool),(R_Q104 (PExprs.mk y14 x.out x.deep) x_g2 x_z2 [40] o23 y24 g25 z26) ∧
     (match o23 with
     | none=>(∃ (o29:Option Int) (r28:List Int) (y30:PExprs) (g31:Nat) (z32:Bool),(R_Q203 y24 g25 z26 [41] o29 r28 y30 g31 z32) ∧
      (match o29 with
      | none=>(∃ (r34:Int) (y35:PExprs) (g36:Nat) (z37:Bool),(R_Q105 y30 g31 z32 5 r1 r28 r34 y35 g36 z37) ∧
       none=o∧r34=r∧y35=x'∧g36=x'_g2∧z37=x'_z2)
      | some e33=>(some e33=o∧y30=x'∧g31=x'_g2∧z32=x'_z2)))
     | some e27=>(some e27=o∧y24=x'∧g25=x'_g2∧z26=x'_z2))))))
 | some e4=>(some e4=o∧(PExprs.mk y3 x.out x.deep)=x'∧x_g2=x'_g2∧x_z2=x'_z2))):R_Q201 x x_g2 x_z2 o r x' x'_g2 x'_z2:=by
 intro S n0 t0 H0
 obtain⟨hb0,ha0⟩:=H0
 obtain⟨w0,hB0⟩:=take_some hb0
 have hn0:=o_getBox_lt hB0
 rw[call_code sp_Q201 _ _ rfl]
 have F:=U_Q201
 obtain⟨o2,r1,y3,q1,T⟩:=T
 simp only[R_Q101,lF] at q1
 replace F:=aa ha0<|aa hB0<|aa hn0<|aa q1<|F
 cases o2 with
 | none =>
   dsimp only at T
   by_cases c2:r1=[116,114,117,101]
   ·replace T:=T.1 c2
    obtain⟨r5,y6,g7,z8,q3,rfl,rfl,rfl,rfl,rfl⟩:=T
    simp only[R_Q202,lF] at q3
    exact fi (aa (eq_true c2)<|aa q3<|F)
   replace T:=T.2 c2
   replace F:=aa (eq_false c2)<|F
   by_cases c4:r1=[102,97,108,115,101]
   ·replace T:=T.1 c4
    obtain⟨r9,y10,g11,z12,q5,rfl,rfl,rfl,rfl,rfl⟩:=T
    simp only[R_Q202,lF] at q5
    exact fi (aa (eq_true c4)<|aa q5<|F)
   replace T:=T.2 c4
   obtain⟨r13,y14,q6,T⟩:=T
   simp only[R_Q67,lF] at q6
   replace F:=aa (eq_false c4)<|aa q6<|F
   by_cases c7:r13=true
   ·replace T:=T.1 c7
    obtain⟨p8,o16,r15,y17,q9,T⟩:=T
    simp only[R_Q101,lF] at q9
    replace F:=aa c7<|aa p8<|aa q9<|F
    cases o16 with
    | none =>
      dsimp only at T
      obtain⟨p10,r19,y20,g21,z22,q11,rfl,rfl,rfl,rfl,rfl⟩:=T
      simp only[R_Q105,lF] at q11
      exact fi (aa p10<|aa q11<|F)
    | some e18 =>
      dsimp only at T
      obtain⟨rfl,rfl,rfl,rfl⟩:=T
      exact fi F
   replace T:=T.2 c7
   replace c7:=Bool.eq_false_iff.2 c7
   obtain⟨o23,y24,g25,z26,q12,T⟩:=T
   simp only[R_Q104,lF] at q12
   replace F:=aa c7<|aa q12<|F
   cases o23 with
   | none =>
     dsimp only at T
     obtain⟨o29,r28,y30,g31,z32,q13,T⟩:=T
     simp only[R_Q203,lF] at q13
     replace F:=aa q13<|F
     cases o29 with
     | none =>
       dsimp only at T
       obtain⟨r34,y35,g36,z37,q14,rfl,rfl,rfl,rfl,rfl⟩:=T
       simp only[R_Q105,lF] at q14
       exact fi (aa q14<|F)
     | some e33 =>
       dsimp only at T
       obtain⟨rfl,rfl,rfl,rfl⟩:=T
       exact fi F
   | some e27 =>
     dsimp only at T
     obtain⟨rfl,rfl,rfl,rfl⟩:=T
     exact fi F
 | some e4 =>
   dsimp only at T
   obtain⟨rfl,rfl,rfl,rfl⟩:=T
   exact fi F
theorem sp_Q180:SP 180=some (.code sc_Q180):=SPof_code rfl Tryz.func180 comp_Q180
theorem Q180_tree (x:PExprs) (x_g2:Nat) (x_z2:Bool) (o:Option Int) (r:Int) (x':PExprs) (x'_g2:Nat) (x'_z2:Bool) (T :
  ∃ (r1:Token) (y2:PTokens),(R_Q38 x.tokens r1 y2) ∧
 ((r1.Kind=3) →
  ∃ (o4:Option Int) (r3:Int) (y5:PExprs) (g6:Nat) (z7:Bool),(R_Q201 (PExprs.mk y2 x.out x.deep) x_g2 x_z2 o4 r3 y5 g6 z7) ∧
  (match o4 with
  | none=>(none=o∧r3=r∧y5=x'∧g6=x'_g2∧z7=x'_z2)
  | some e8=>(some e8=o∧y5=x'∧g6=x'_g2∧z7=x'_z2))) ∧
 (¬ (r1.Kind=3) →
  ((r1.Kind=1) →
   (I64 (y2.pos+1)) ∧
   ∃ (r9:Int) (y10:PExprs) (g11:Nat) (z12:Bool),(R_Q202 (PExprs.mk (PTokens.mk y2.l (y2.pos+1)) x.out x.deep) x_g2 x_z2 1 r1.Num r9 y10 g11 z12) ∧
   none=o∧r9=r∧y10=x'∧g11=x'_g2∧z12=x'_z2) ∧
  (¬ (r1.Kind=1) →
   ((r1.Kind=2) →
    (I64 (y2.pos+1)) ∧
    ∃ (r13:Int) (y14:PExprs) (g15:Nat) (z16:Bool),(R_Q105 (PExprs.mk (PTokens.mk y2.l (y2.pos+1)) x.out x.deep) x_g2 x_z2 2 [] [] r13 y14 g15 z16) ∧
    (0≤r13)∧(r13.toNat < y14.out.length) ∧
    (z16=false) ∧
    ∃ (v17:Node),(y14.out[r13.toNat]?=some v17) ∧
    none=o∧r13=r∧(PExprs.mk y14.tokens (y14.out.set r13.toNat (Node.mk v17.Kind v17.Num v17.Text r1.Parts v17.Kids)) y14.deep)=x'∧g15=x'_g2∧z16=x'_z2) ∧
   (¬ (r1.Kind=2) →
    ∃ (r18:Bool) (y19:PTokens),(R_Q102 y2 [91] r18 y19) ∧
    ((r18=true) →
     ∃ (o20:Option Int) (y21:PExprs) (g22:Nat) (z23:Bool),(R_Q104 (PExprs.mk y19 x.out x.deep) x_g2 x_z2 [91] o20 y21 g22 z23) ∧
     (match o20 with
     | none=>(∃ (o26:Option Int) (r25:List Int) (y27:PExprs) (g28:Nat) (z29:Bool),(R_Q203 y21 g22 z23 [93] o26 r25 y27 g28 z29) ∧
      (match o26 with
      | none=>(∃ (r31:Int) (y32:PExprs) (g33:Nat) (z34:Bool),(R_Q105 y27 g28 z29 6 [] r25 r31 y32 g33 z34) ∧
       none=o∧r31=r∧y32=x'∧g33=x'_g2∧z34=x'_z2)
      | some e30=>(some e30=o∧y27=x'∧g28=x'_g2∧z29=x'_z2)))
     | some e24=>(some e24=o∧y21=x'∧g22=x'_g2∧z23=x'_z2))) ∧
    (¬ (r18=true) →
     ∃ (o35:Option Int) (y36:PExprs) (g37:Nat) (z38:Bool),(R_Q104 (PExprs.mk y19 x.out x.deep) x_g2 x_z2 [40] o35 y36 g37 z38) ∧
     (match o35 with
     | none=>(∃ (o41:Option Int) (r40:Int) (y42:PExprs) (g43:Nat) (z44:Bool),(R_Q68 y36 g37 z38 o41 r40 y42 g43 z44) ∧
      (match o41 with
      | none=>(∃ (o46:Option Int) (y47:PExprs) (g48:Nat) (z49:Bool),(R_Q181 y42 g43 z44 [41] o46 y47 g48 z49) ∧
       (match o46 with
       | none=>(none=o∧r40=r∧y47=x'∧g48=x'_g2∧z49=x'_z2)
       | some e50=>(some e50=o∧y47=x'∧g48=x'_g2∧z49=x'_z2)))
      | some e45=>(some e45=o∧y42=x'∧g43=x'_g2∧z44=x'_z2)))
     | some e39=>(some e39=o∧y36=x'∧g37=x'_g2∧z38=x'_z2))))))):R_Q180 x x_g2 x_z2 o r x' x'_g2 x'_z2:=by
 intro S n0 t0 H0
 obtain⟨hb0,ha0⟩:=H0
 obtain⟨w0,hB0⟩:=take_some hb0
 have hn0:=o_getBox_lt hB0
 rw[call_code sp_Q180 _ _ rfl]
 have F:=U_Q180
 obtain⟨r1,y2,q1,T⟩:=T
 simp only[R_Q38,lF] at q1
 replace F:=aa ha0<|aa hB0<|aa hn0<|aa q1<|F
 by_cases c2:r1.Kind=3
 ·replace T:=T.1 c2
  obtain⟨o4,r3,y5,g6,z7,q3,T⟩:=T
  simp only[R_Q201,lF] at q3
  replace F:=aa (eq_true c2)<|aa q3<|F
  cases o4 with
  | none =>
    dsimp only at T
    obtain⟨rfl,rfl,rfl,rfl,rfl⟩:=T
    exact fi F
  | some e8 =>
    dsimp only at T
    obtain⟨rfl,rfl,rfl,rfl⟩:=T
    exact fi F
 replace T:=T.2 c2
 replace F:=aa (eq_false c2)<|F
 by_cases c4:r1.Kind=1
 ·replace T:=T.1 c4
  obtain⟨p5,r9,y10,g11,z12,q6,rfl,rfl,rfl,rfl,rfl⟩:=T
  simp only[R_Q202,lF] at q6
  exact fi (aa (eq_true c4)<|aa p5.wrap<|aa q6<|F)
 replace T:=T.2 c4
 replace F:=aa (eq_false c4)<|F
 by_cases c7:r1.Kind=2
 ·replace T:=T.1 c7
  obtain⟨p8,r13,y14,g15,z16,q9,p10,p11,p12,v17,q13,rfl,rfl,rfl,rfl,rfl⟩:=T
  simp only[R_Q105,lF] at q9
  exact fi (aa (eq_true c7)<|aa p8.wrap<|aa q9<|aa p10<|aa p11<|aa p12<|aa q13<|F)
 replace T:=T.2 c7
 obtain⟨r18,y19,q14,T⟩:=T
 simp only[R_Q102,lF] at q14
 replace F:=aa (eq_false c7)<|aa q14<|F
 by_cases c15:r18=true
 ·replace T:=T.1 c15
  obtain⟨o20,y21,g22,z23,q16,T⟩:=T
  simp only[R_Q104,lF] at q16
  replace F:=aa c15<|aa q16<|F
  cases o20 with
  | none =>
    dsimp only at T
    obtain⟨o26,r25,y27,g28,z29,q17,T⟩:=T
    simp only[R_Q203,lF] at q17
    replace F:=aa q17<|F
    cases o26 with
    | none =>
      dsimp only at T
      obtain⟨r31,y32,g33,z34,q18,rfl,rfl,rfl,rfl,rfl⟩:=T
      simp only[R_Q105,lF] at q18
      exact fi (aa q18<|F)
    | some e30 =>
      dsimp only at T
      obtain⟨rfl,rfl,rfl,rfl⟩:=T
      exact fi F
  | some e24 =>
    dsimp only at T
    obtain⟨rfl,rfl,rfl,rfl⟩:=T
    exact fi F
 replace T:=T.2 c15
 replace c15:=Bool.eq_false_iff.2 c15
 obtain⟨o35,y36,g37,z38,q19,T⟩:=T
 simp only[R_Q104,lF] at q19
 replace F:=aa c15<|aa q19<|F
 cases o35 with
 | none =>
   dsimp only at T
   obtain⟨o41,r40,y42,g43,z44,q20,T⟩:=T
   simp only[R_Q68,lF] at q20
   replace F:=aa q20<|F
   cases o41 with
   | none =>
     dsimp only at T
     obtain⟨o46,y47,g48,z49,q21,T⟩:=T
     simp only[R_Q181,lF] at q21
     replace F:=aa q21<|F
     cases o46 with
     | none =>
       dsimp only at T
       obtain⟨rfl,rfl,rfl,rfl,rfl⟩:=T
       exact fi F
     | some e50 =>
       dsimp only at T
       obtain⟨rfl,rfl,rfl,rfl⟩:=T
       exact fi F
   | some e45 =>
     dsimp only at T
     obtain⟨rfl,rfl,rfl,rfl⟩:=T
     exact fi F
 | some e39 =>
   dsimp only at T
   obtain⟨rfl,rfl,rfl,rfl⟩:=T
   exact fi F
theorem sp_Q41:SP 41=some (.code sc_Q41):=SPof_code rfl Tryz.func41 comp_Q41
theorem Q41_tree (x:PExprs) (x_g2:Nat) (x_z2:Bool) (o:Option Int) (r:List Node) (x':PExprs) (x'_g2:Nat) (x'_z2:Bool) (T :
  ∃ (o2:Option Int) (r1:Int) (y3:PExprs) (g4:Nat) (z5:Bool),(R_Q68 (PExprs.mk x.tokens [] x.deep) (x_g2+1) false o2 r1 y3 g4 z5) ∧
 (match o2 with
 | none=>(none=o∧y3.out=r∧y3=x'∧g4=x'_g2∧true=x'_z2)
 | some e6=>(some e6=o∧y3=x'∧g4=x'_g2∧z5=x'_z2))):R_Q41 x x_g2 x_z2 o r x' x'_g2 x'_z2:=by
 intro S n0 t0 H0
 obtain⟨hb0,ha0⟩:=H0
 obtain⟨w0,hB0⟩:=take_some hb0
 have hn0:=o_getBox_lt hB0
 rw[call_code sp_Q41 _ _ rfl]
 have F:=U_Q41
 obtain⟨o2,r1,y3,g4,z5,q1,T⟩:=T
 simp only[R_Q68,lF] at q1
 replace F:=aa ha0<|aa hB0<|aa hn0<|aa q1<|F
 cases o2 with
 | none =>
   dsimp only at T
   obtain⟨rfl,rfl,rfl,rfl,rfl⟩:=T
   exact fi F
 | some e6 =>
   dsimp only at T
   obtain⟨rfl,rfl,rfl,rfl⟩:=T
   exact fi F
theorem sp_Q97:SP 97=some (.code sc_Q97):=SPof_code rfl Tryz.func97 comp_Q97
def At_Q97_1 (t3:LTokens) (g4:Nat) (z5:Bool) (t':LTokens) (t'_g2:Nat) (t'_z2:Bool):Prop:=∀ (S:Sto) (e:Nat→PV) (f:Fr) (n0 t0:Nat),((getBox S n0 t0).map (List.take 3)=some [.str t3.text.left,.int .i64 t3.text.pos,.sl 0 (.cell t0 2) 0 t3.out.length t3.out.length g4 false]∧getArr S n0 (.cell t0 2)=some ⟨5,t3.out.map eToken,z5,g4⟩)→e 0=.ptr (n0+1) t0 0→k_Q97_1 SP (E SP (.loop b_Q97_1) ⟨e,f::S⟩)=.ok (.v (.tup [])) (setArr (setBox S n0 t0 ([.str t'.text.left,.int .i64 t'.text.pos,.sl 0 (.cell t0 2) 0 t'.out.length t'.out.length t'_g2 false]++((getBox S n0 t0).getD []).drop 3)) n0 (.cell t0 2) ⟨5,t'.out.map eToken,t'_z2,t'_g2⟩)
theorem At_Q97_1_step (t3:LTokens) (g4:Nat) (z5:Bool) (t':LTokens) (t'_g2:Nat) (t'_z2:Bool) (T :
  ∃ (r6:Bool),(R_strings_HasPrefix t3.text.left [35] r6) ∧
 ((r6=true) →
  ∃ (r7:List UInt8) (r8:List UInt8) (r9:Bool),(R_strings_Cut t3.text.left [10] r7 r8 r9) ∧
  ∃ (r10:List UInt8) (y11:LText),(R_Q135 t3.text (r7.length:Int) r10 y11) ∧
  ∃ (r12:List UInt8) (y13:LText),(R_Q134 y11 [1] r12 y13) ∧
  At_Q97_1 (LTokens.mk y13 t3.out) g4 z5 t' t'_g2 t'_z2) ∧
 (¬ (r6=true) →
  t3=t'∧g4=t'_g2∧z5=t'_z2)):At_Q97_1 t3 g4 z5 t' t'_g2 t'_z2:=by
 intro S e f n0 t0 H0 h
 obtain⟨hb0,ha0⟩:=H0
 obtain⟨w0,hB0⟩:=take_some hb0
 have hn0:=o_getBox_lt hB0
 unfold k_Q97_1
 rw[E_loop]
 have F:=U_Q97
 obtain⟨r6,q1,T⟩:=T
 simp only[R_strings_HasPrefix,lF] at q1
 replace F:=aa ha0<|aa hB0<|aa hn0<|aa h<|aa q1<|F
 by_cases c2:r6=true
 ·replace T:=T.1 c2
  obtain⟨r7,r8,r9,q3,r10,y11,q4,r12,y13,q5,T⟩:=T
  simp only[R_strings_Cut,lF] at q3
  simp only[R_Q135,lF] at q4
  simp only[R_Q134,lF] at q5
  replace F:=aa c2<|aa q3<|aa q4<|aa q5<|F
  try simp only[F,lw,lx,le,Nat.reduceMul,UInt8.reduceToNat,reduceIte,reduceCtorEq,Nat.reduceEqDiff,Nat.reduceAdd,Nat.reduceLeDiff,Nat.reduceSub,Nat.reduceLT,Int.reduceEq,Int.reduceLT,Int.reduceLE,Int.reduceToNat,Int.reduceAdd,Int.reduceSub,Int.reduceMul,Int.reduceNeg]
  refine (T _ _ _ n0 t0 ?_ ?_).trans ?_
  all_goals exact fi F
 replace T:=T.2 c2
 replace c2:=Bool.eq_false_iff.2 c2
 obtain⟨rfl,rfl,rfl⟩:=T
 exact fi (aa c2<|F)
theorem Q97_tree (t:LTokens) (t_g2:Nat) (t_z2:Bool) (t':LTokens) (t'_g2:Nat) (t'_z2:Bool) (T :
  ∃ (r1:List UInt8) (y2:LText),(R_Q134 t.text [1] r1 y2) ∧
 At_Q97_1 (LTokens.mk y2 t.out) t_g2 t_z2 t' t'_g2 t'_z2):R_Q97 t t_g2 t_z2 t' t'_g2 t'_z2:=by
 intro S n0 t0 H0
 obtain⟨hb0,ha0⟩:=H0
 obtain⟨w0,hB0⟩:=take_some hb0
 have hn0:=o_getBox_lt hB0
 rw[call_code sp_Q97 _ _ rfl]
 have F:=U_Q97
 obtain⟨r1,y2,q1,T⟩:=T
 simp only[R_Q134,lF] at q1
 replace F:=aa ha0<|aa hB0<|aa hn0<|aa q1<|F
 try simp only[F,lw,lx,le,Nat.reduceMul,UInt8.reduceToNat,reduceIte,reduceCtorEq,Nat.reduceEqDiff,Nat.reduceAdd,Nat.reduceLeDiff,Nat.reduceSub,Nat.reduceLT,Int.reduceEq,Int.reduceLT,Int.reduceLE,Int.reduceToNat,Int.reduceAdd,Int.reduceSub,Int.reduceMul,Int.reduceNeg]
 refine (T _ _ _ n0 t0 ?_ ?_).trans ?_
 all_goals exact fi F
theorem sp_Q138:SP 138=some (.code sc_Q138):=SPof_code rfl Tryz.func138 comp_Q138
theorem Q138_tree (t:LTokens) (t_g2:Nat) (t_z2:Bool) (ra:Token) (rb:Bool) (t':LTokens) (t'_g2:Nat) (t'_z2:Bool) (T :
  ∃ (r1:List UInt8) (y2:LText),(R_Q134 t.text [2,3] r1 y2) ∧
 ∃ (r3:Bool),(R_Q115 r1 r3) ∧
 (Token.mk 3 r1 0 [] 0)=ra∧r3=rb∧(LTokens.mk y2 t.out)=t'∧t_g2=t'_g2∧t_z2=t'_z2):R_Q138 t t_g2 t_z2 ra rb t' t'_g2 t'_z2:=by
 intro S n0 t0 H0
 obtain⟨hb0,ha0⟩:=H0
 obtain⟨w0,hB0⟩:=take_some hb0
 have hn0:=o_getBox_lt hB0
 rw[call_code sp_Q138 _ _ rfl]
 have F:=U_Q138
 obtain⟨r1,y2,q1,r3,q2,rfl,rfl,rfl,rfl,rfl⟩:=T
 simp only[R_Q134,lF] at q1
 simp only[R_Q115,lF] at q2
 exact fi (aa ha0<|aa hB0<|aa hn0<|aa q1<|aa q2<|F)
theorem sp_Q139:SP 139=some (.code sc_Q139):=SPof_code rfl Tryz.func139 comp_Q139
theorem Q139_tree (t:LTokens) (t_g2:Nat) (t_z2:Bool) (ra:Token) (rb:Bool) (t':LTokens) (t'_g2:Nat) (t'_z2:Bool) (T :
  ∃ (r1:List UInt8) (y2:LText),(R_Q134 t.text [3] r1 y2) ∧
 ∃ (r3:Int) (r4:Bool),(R_strconv_Atoi r1 r3 r4) ∧
 ((r4=true) →
  (Token.mk 1 [] r3 [] 0)=ra∧false=rb∧(LTokens.mk y2 t.out)=t'∧t_g2=t'_g2∧t_z2=t'_z2) ∧
 (¬ (r4=true) →
  ∃ (r5:List UInt8),(R_strconv_Itoa r3 r5) ∧
  (Token.mk 1 [] r3 [] 0)=ra∧(decide (r5=r1))=rb∧(LTokens.mk y2 t.out)=t'∧t_g2=t'_g2∧t_z2=t'_z2)):R_Q139 t t_g2 t_z2 ra rb t' t'_g2 t'_z2:=by
 intro S n0 t0 H0
 obtain⟨hb0,ha0⟩:=H0
 obtain⟨w0,hB0⟩:=take_some hb0
 have hn0:=o_getBox_lt hB0
 rw[call_code sp_Q139 _ _ rfl]
 have F:=U_Q139
 obtain⟨r1,y2,q1,r3,r4,q2,T⟩:=T
 simp only[R_Q134,lF] at q1
 simp only[R_strconv_Atoi,lF] at q2
 replace F:=aa ha0<|aa hB0<|aa hn0<|aa q1<|aa q2<|F
 by_cases c3:r4=true
 ·replace T:=T.1 c3
  obtain⟨rfl,rfl,rfl,rfl,rfl⟩:=T
  exact fi (aa c3<|F)
 replace T:=T.2 c3
 replace c3:=Bool.eq_false_iff.2 c3
 obtain⟨r5,q4,rfl,rfl,rfl,rfl,rfl⟩:=T
 simp only[R_strconv_Itoa,lF] at q4
 exact fi (aa c3<|aa q4<|F)
theorem sp_Q140:SP 140=some (.code sc_Q140):=SPof_code rfl Tryz.func140 comp_Q140
def At_Q140_1 (i3:Int) (s4:List UInt8) (i5:Int) (i6:Int) (l7:List Attr) (g8:Nat) (l9:List Part) (g10:Nat) (z11:Bool) (t12:LTokens) (g13:Nat) (z14:Bool) (ra:Token) (rb:Bool) (t':LTokens) (t'_g2:Nat) (t'_z2:Bool):Prop:=∀ (S:Sto) (e:Nat→PV) (f:Fr) (n0 t0:Nat),((getBox S n0 t0).map (List.take 3)=some [.str t12.text.left,.int .i64 t12.text.pos,.sl 0 (.cell t0 2) 0 t12.out.length t12.out.length g13 false]∧getArr S n0 (.cell t0 2)=some ⟨5,t12.out.map eToken,z14,g13⟩)→e 0=.ptr (n0+1) t0 0∧e 2=.ptr 0 2 0∧e 4=.ptr 0 4 0∧f.box 2=some [.int .i64 i3,.str s4,.int .i64 i5,.sl 0 (.cell 2 3) 0 l7.length l7.length g8 false,.int .i64 i6]∧f.box 4=some [.sl 0 (.cell 4 0) 0 l9.length l9.length g10 false]∧f.arr (.cell 2 3)=some ⟨2,l7.map eAttr,false,g8⟩∧f.arr (.cell 4 0)=some ⟨2,l9.map ePart,z11,g10⟩→k_Q140_1 SP (E SP (.loop b_Q140_1) ⟨e,f::S⟩)=.ok (.v (.tup [.agg [.int .i64 ra.Kind,.str ra.Text,.int .i64 ra.Num,.list 2 (ra.Parts.map ePart) false,.int .i64 ra.At],.bool rb])) (setArr (setBox S n0 t0 ([.str t'.text.left,.int .i64 t'.text.pos,.sl 0 (.cell t0 2) 0 t'.out.length t'.out.length t'_g2 false]++((getBox S n0 t0).getD []).drop 3)) n0 (.cell t0 2) ⟨5,t'.out.map eToken,t'_z2,t'_g2⟩)
theorem At_Q140_1_step (i3:Int) (s4:List UInt8) (i5:Int) (i6:Int) (l7:List Attr) (g8:Nat) (l9:List Part) (g10:Nat) (z11:Bool) (t12:LTokens) (g13:Nat) (z14:Bool) (ra:Token) (rb:Bool) (t':LTokens) (t'_g2:Nat) (t'_z2:Bool) (T :
  ((t12.text.left=[]) →
  (Token.mk 0 [] 0 [] 0)=ra∧false=rb∧t12=t'∧g13=t'_g2∧z14=t'_z2) ∧
 (¬ (t12.text.left=[]) →
  ∃ (b15:UInt8),(t12.text.left[0]?=some b15) ∧
  ∃ (r16:Int),(R_Q137 b15 r16) ∧
  ((r16=4) →
   ∃ (r17:List UInt8) (y18:LText),(R_Q135 t12.text 1 r17 y18) ∧
   (Token.mk 2 [] 0 l9 0)=ra∧true=rb∧(LTokens.mk y18 t12.out)=t'∧g13=t'_g2∧z14=t'_z2) ∧
  (¬ (r16=4) →
   (((b15.toNat:Int) < 32) →
    (Token.mk 0 [] 0 [] 0)=ra∧false=rb∧t12=t'∧g13=t'_g2∧z14=t'_z2) ∧
   (¬ ((b15.toNat:Int) < 32) →
    (((b15.toNat:Int)=92) →
     ∃ (r19:UInt8) (r20:Bool),(R_Q164 t12.text.left r19 r20) ∧
     ((r20=true) →
      ∃ (y21:List Part) (g22:Nat) (z23:Bool),(R_Q165 l9 g10 z11 r19 y21 g22 z23) ∧
      ∃ (r24:List UInt8) (y25:LText),(R_Q135 t12.text 2 r24 y25) ∧
      At_Q140_1 i3 s4 i5 i6 l7 g8 y21 g22 z23 (LTokens.mk y25 t12.out) g13 z14 ra rb t' t'_g2 t'_z2) ∧
     (¬ (r20=true) →
      (Token.mk 0 [] 0 [] 0)=ra∧false=rb∧t12=t'∧g13=t'_g2∧z14=t'_z2)) ∧
    (¬ ((b15.toNat:Int)=92) →
     ∃ (r26:Bool),(R_strings_HasPrefix t12.text.left [36,123] r26) ∧
     ((r26=true) →
      ∃ (r27:List UInt8) (r28:Bool),(R_Q166 t12.text.left r27 r28) ∧
      ((r28=true) →
       (bigRow (l9.length+1) 24) ∧
       (I64 (3+(r27.length:Int))) ∧
       ∃ (r29:List UInt8) (y30:LText),(R_Q135 t12.text (3+(r27.length:Int)) r29 y30) ∧
       At_Q140_1 i3 s4 i5 i6 l7 g8 (l9++[(Part.mk true r27)]) g10 z11 (LTokens.mk y30 t12.out) g13 z14 ra rb t' t'_g2 t'_z2) ∧
      (¬ (r28=true) →
       (Token.mk 0 [] 0 [] 0)=ra∧false=rb∧t12=t'∧g13=t'_g2∧z14=t'_z2)) ∧
     (¬ (r26=true) →
      ∃ (y31:List Part) (g32:Nat) (z33:Bool),(R_Q165 l9 g10 z11 b15 y31 g32 z33) ∧
      ∃ (r34:List UInt8) (y35:LText),(R_Q135 t12.text 1 r34 y35) ∧
      At_Q140_1 i3 s4 i5 i6 l7 g8 y31 g32 z33 (LTokens.mk y35 t12.out) g13 z14 ra rb t' t'_g2 t'_z2)))))):At_Q140_1 i3 s4 i5 i6 l7 g8 l9 g10 z11 t12 g13 z14 ra rb t' t'_g2 t'_z2:=by
 intro S e f n0 t0 H0 h
 obtain⟨hb0,ha0⟩:=H0
 obtain⟨w0,hB0⟩:=take_some hb0
 have hn0:=o_getBox_lt hB0
 unfold k_Q140_1
 rw[E_loop]
 have F:=U_Q140
 replace F:=aa ha0<|aa hB0<|aa hn0<|aa h<|F
 by_cases c1:t12.text.left=[]
 ·replace T:=T.1 c1
  obtain⟨rfl,rfl,rfl,rfl,rfl⟩:=T
  exact fi (aa (eq_true c1)<|F)
 replace T:=T.2 c1
 obtain⟨b15,q2,r16,q3,T⟩:=T
 simp only[R_Q137,lF] at q3
 replace F:=aa (eq_false c1)<|aa q2<|aa q3<|F
 by_cases c4:r16=4
 ·replace T:=T.1 c4
  obtain⟨r17,y18,q5,rfl,rfl,rfl,rfl,rfl⟩:=T
  simp only[R_Q135,lF] at q5
  exact fi (aa (eq_true c4)<|aa q5<|F)
 replace T:=T.2 c4
 replace F:=aa (eq_false c4)<|F
 by_cases c6:(b15.toNat:Int) < 32
 ·replace T:=T.1 c6
  obtain⟨rfl,rfl,rfl,rfl,rfl⟩:=T
  exact fi (aa (eq_true c6)<|F)
 replace T:=T.2 c6
 replace F:=aa (eq_false c6)<|F
 by_cases c7:(b15.toNat:Int)=92
 ·replace T:=T.1 c7
  obtain⟨r19,r20,q8,T⟩:=T
  simp only[R_Q164,lF] at q8
  replace F:=aa (eq_true c7)<|aa q8<|F
  by_cases c9:r20=true
  ·replace T:=T.1 c9
   obtain⟨y21,g22,z23,q10,r24,y25,q11,T⟩:=T
   simp only[R_Q165,lF] at q10
   simp only[R_Q135,lF] at q11
   replace F:=aa c9<|aa q10<|aa q11<|F
   try simp only[F,lw,lx,le,Nat.reduceMul,UInt8.reduceToNat,reduceIte,reduceCtorEq,Nat.reduceEqDiff,Nat.reduceAdd,Nat.reduceLeDiff,Nat.reduceSub,Nat.reduceLT,Int.reduceEq,Int.reduceLT,Int.reduceLE,Int.reduceToNat,Int.reduceAdd,Int.reduceSub,Int.reduceMul,Int.reduceNeg]
   refine (T _ _ _ n0 t0 ?_ ?_).trans ?_
   all_goals exact fi F
  replace T:=T.2 c9
  replace c9:=Bool.eq_false_iff.2 c9
  obtain⟨rfl,rfl,rfl,rfl,rfl⟩:=T
  exact fi (aa c9<|F)
 replace T:=T.2 c7
 obtain⟨r26,q12,T⟩:=T
 simp only[R_strings_HasPrefix,lF] at q12
 replace F:=aa (eq_false c7)<|aa q12<|F
 by_cases c13:r26=true
 ·replace T:=T.1 c13
  obtain⟨r27,r28,q14,T⟩:=T
  simp only[R_Q166,lF] at q14
  replace F:=aa c13<|aa q14<|F
  by_cases c15:r28=true
  ·replace T:=T.1 c15
   obtain⟨p16,p17,r29,y30,q18,T⟩:=T
   simp only[bigRow] at p16
   simp only[R_Q135,lF] at q18
   replace F:=aa c15<|aa p16<|aa p17.wrap<|aa q18<|F
   try simp only[F,lw,lx,le,Nat.reduceMul,UInt8.reduceToNat,reduceIte,reduceCtorEq,Nat.reduceEqDiff,Nat.reduceAdd,Nat.reduceLeDiff,Nat.reduceSub,Nat.reduceLT,Int.reduceEq,Int.reduceLT,Int.reduceLE,Int.reduceToNat,Int.reduceAdd,Int.reduceSub,Int.reduceMul,Int.reduceNeg]
   refine (T _ _ _ n0 t0 ?_ ?_).trans ?_
   all_goals exact fi F
  replace T:=T.2 c15
  replace c15:=Bool.eq_false_iff.2 c15
  obtain⟨rfl,rfl,rfl,rfl,rfl⟩:=T
  exact fi (aa c15<|F)
 replace T:=T.2 c13
 replace c13:=Bool.eq_false_iff.2 c13
 obtain⟨y31,g32,z33,q19,r34,y35,q20,T⟩:=T
 simp only[R_Q165,lF] at q19
 simp only[R_Q135,lF] at q20
 replace F:=aa c13<|aa q19<|aa q20<|F
 try simp only[F,lw,lx,le,Nat.reduceMul,UInt8.reduceToNat,reduceIte,reduceCtorEq,Nat.reduceEqDiff,Nat.reduceAdd,Nat.reduceLeDiff,Nat.reduceSub,Nat.reduceLT,Int.reduceEq,Int.reduceLT,Int.reduceLE,Int.reduceToNat,Int.reduceAdd,Int.reduceSub,Int.reduceMul,Int.reduceNeg]
 refine (T _ _ _ n0 t0 ?_ ?_).trans ?_
 all_goals exact fi F
theorem Q140_tree (t:LTokens) (t_g2:Nat) (t_z2:Bool) (ra:Token) (rb:Bool) (t':LTokens) (t'_g2:Nat) (t'_z2:Bool) (T :
  ∃ (r1:List UInt8) (y2:LText),(R_Q135 t.text 1 r1 y2) ∧
 At_Q140_1 0 [] 0 0 [] 0 [] 0 false (LTokens.mk y2 t.out) t_g2 t_z2 ra rb t' t'_g2 t'_z2):R_Q140 t t_g2 t_z2 ra rb t' t'_g2 t'_z2:=by
 intro S n0 t0 H0
 obtain⟨hb0,ha0⟩:=H0
 obtain⟨w0,hB0⟩:=take_some hb0
 have hn0:=o_getBox_lt hB0
 rw[call_code sp_Q140 _ _ rfl]
 have F:=U_Q140
 obtain⟨r1,y2,q1,T⟩:=T
 simp only[R_Q135,lF] at q1
 replace F:=aa ha0<|aa hB0<|aa hn0<|aa q1<|F
 try simp only[F,lw,lx,le,Nat.reduceMul,UInt8.reduceToNat,reduceIte,reduceCtorEq,Nat.reduceEqDiff,Nat.reduceAdd,Nat.reduceLeDiff,Nat.reduceSub,Nat.reduceLT,Int.reduceEq,Int.reduceLT,Int.reduceLE,Int.reduceToNat,Int.reduceAdd,Int.reduceSub,Int.reduceMul,Int.reduceNeg]
 refine (T _ _ _ n0 t0 ?_ ?_).trans ?_
 all_goals exact fi F
theorem sp_Q136:SP 136=some (.code sc_Q136):=SPof_code rfl Tryz.func136 comp_Q136
theorem Q136_tree (t:LTokens) (t_g2:Nat) (t_z2:Bool) (ra:Token) (rb:Bool) (t':LTokens) (t'_g2:Nat) (t'_z2:Bool) (T :
  (0≤(if (t.text.left.length:Int) < 2 then (t.text.left.length:Int) else 2))∧((if (t.text.left.length:Int) < 2 then (t.text.left.length:Int) else 2).toNat≤t.text.left.length) ∧
 ∃ (r1:Bool),(R_slices_Contains_string_string [[61,61],[33,61],[60,61],[62,61],[38,38],[124,124]] (t.text.left.take ((if (t.text.left.length:Int) < 2 then (t.text.left.length:Int) else 2).toNat)) r1) ∧
 ((r1=true) →
  ∃ (r2:List UInt8) (y3:LText),(R_Q135 t.text (((t.text.left.take ((if (t.text.left.length:Int) < 2 then (t.text.left.length:Int) else 2).toNat)).length:Nat):Int) r2 y3) ∧
  (Token.mk 4 r2 0 [] 0)=ra∧true=rb∧(LTokens.mk y3 t.out)=t'∧t_g2=t'_g2∧t_z2=t'_z2) ∧
 (¬ (r1=true) →
  (1≤(t.text.left.take ((if (t.text.left.length:Int) < 2 then (t.text.left.length:Int) else 2).toNat)).length) ∧
  ∃ (r4:Bool),(R_strings_Contains [123,125,91,93,40,41,61,44,46,43,45,42,47,37,60,62,33,63,58] ((t.text.left.take ((if (t.text.left.length:Int) < 2 then (t.text.left.length:Int) else 2).toNat)).take (1)) r4) ∧
  ((r4=true) →
   ∃ (r5:List UInt8) (y6:LText),(R_Q135 t.text ((((t.text.left.take ((if (t.text.left.length:Int) < 2 then (t.text.left.length:Int) else 2).toNat)).take (1)).length:Nat):Int) r5 y6) ∧
   (Token.mk 4 r5 0 [] 0)=ra∧true=rb∧(LTokens.mk y6 t.out)=t'∧t_g2=t'_g2∧t_z2=t'_z2) ∧
  (¬ (r4=true) →
   (Token.mk 0 [] 0 [] 0)=ra∧false=rb∧t=t'∧t_g2=t'_g2∧t_z2=t'_z2))):R_Q136 t t_g2 t_z2 ra rb t' t'_g2 t'_z2:=by
 intro S n0 t0 H0
 obtain⟨hb0,ha0⟩:=H0
 obtain⟨w0,hB0⟩:=take_some hb0
 have hn0:=o_getBox_lt hB0
 rw[call_code sp_Q136 _ _ rfl]
 have F:=U_Q136
 obtain⟨p1,p2,r1,q3,T⟩:=T
 simp only[R_slices_Contains_string_string,lF] at q3
 replace F:=aa ha0<|aa hB0<|aa hn0<|aa p1<|aa p2<|aa q3<|F
 by_cases c4:r1=true
 ·replace T:=T.1 c4
  obtain⟨r2,y3,q5,rfl,rfl,rfl,rfl,rfl⟩:=T
  simp only[R_Q135,lF] at q5
  exact fi (aa c4<|aa q5<|F)
 replace T:=T.2 c4
 replace c4:=Bool.eq_false_iff.2 c4
 obtain⟨p6,r4,q7,T⟩:=T
 simp only[R_strings_Contains,lF] at q7
 replace F:=aa c4<|aa p6<|aa q7<|F
 by_cases c8:r4=true
 ·replace T:=T.1 c8
  obtain⟨r5,y6,q9,rfl,rfl,rfl,rfl,rfl⟩:=T
  simp only[R_Q135,lF] at q9
  exact fi (aa c8<|aa q9<|F)
 replace T:=T.2 c8
 replace c8:=Bool.eq_false_iff.2 c8
 obtain⟨rfl,rfl,rfl,rfl,rfl⟩:=T
 exact fi (aa c8<|F)
theorem sp_Q98:SP 98=some (.code sc_Q98):=SPof_code rfl Tryz.func98 comp_Q98
theorem Q98_tree (t:LTokens) (t_g2:Nat) (t_z2:Bool) (r:Bool) (t':LTokens) (t'_g2:Nat) (t'_z2:Bool) (T :
  ∃ (b1:UInt8),(t.text.left[0]?=some b1) ∧
 ∃ (r2:Int),(R_Q137 b1 r2) ∧
 ((r2=2) →
  ∃ (r3:Token) (r4:Bool) (y5:LTokens) (g6:Nat) (z7:Bool),(R_Q138 t t_g2 t_z2 r3 r4 y5 g6 z7) ∧
  (bigRow (y5.out.length+1) 64) ∧
  r4=r∧(LTokens.mk y5.text (y5.out++[(Token.mk r3.Kind r3.Text r3.Num r3.Parts t.text.pos)]))=t'∧g6=t'_g2∧z7=t'_z2) ∧
 (¬ (r2=2) →
  ((r2=3) →
   ∃ (r8:Token) (r9:Bool) (y10:LTokens) (g11:Nat) (z12:Bool),(R_Q139 t t_g2 t_z2 r8 r9 y10 g11 z12) ∧
   (bigRow (y10.out.length+1) 64) ∧
   r9=r∧(LTokens.mk y10.text (y10.out++[(Token.mk r8.Kind r8.Text r8.Num r8.Parts t.text.pos)]))=t'∧g11=t'_g2∧z12=t'_z2) ∧
  (¬ (r2=3) →
   ((r2=4) →
    ∃ (r13:Token) (r14:Bool) (y15:LTokens) (g16:Nat) (z17:Bool),(R_Q140 t t_g2 t_z2 r13 r14 y15 g16 z17) ∧
    (bigRow (y15.out.length+1) 64) ∧
    r14=r∧(LTokens.mk y15.text (y15.out++[(Token.mk r13.Kind r13.Text r13.Num r13.Parts t.text.pos)]))=t'∧g16=t'_g2∧z17=t'_z2) ∧
   (¬ (r2=4) →
    ∃ (r18:Token) (r19:Bool) (y20:LTokens) (g21:Nat) (z22:Bool),(R_Q136 t t_g2 t_z2 r18 r19 y20 g21 z22) ∧
    (bigRow (y20.out.length+1) 64) ∧
    r19=r∧(LTokens.mk y20.text (y20.out++[(Token.mk r18.Kind r18.Text r18.Num r18.Parts t.text.pos)]))=t'∧g21=t'_g2∧z22=t'_z2)))):R_Q98 t t_g2 t_z2 r t' t'_g2 t'_z2:=by
 intro S n0 t0 H0
 obtain⟨hb0,ha0⟩:=H0
 obtain⟨w0,hB0⟩:=take_some hb0
 have hn0:=o_getBox_lt hB0
 rw[call_code sp_Q98 _ _ rfl]
 have F:=U_Q98
 obtain⟨b1,q1,r2,q2,T⟩:=T
 simp only[R_Q137,lF] at q2
 replace F:=aa ha0<|aa hB0<|aa hn0<|aa q1<|aa q2<|F
 by_cases c3:r2=2
 ·replace T:=T.1 c3
  obtain⟨r3,r4,y5,g6,z7,q4,p5,rfl,rfl,rfl,rfl⟩:=T
  simp only[R_Q138,lF] at q4
  simp only[bigRow] at p5
  exact fi (aa (eq_true c3)<|aa q4<|aa p5<|F)
 replace T:=T.2 c3
 replace F:=aa (eq_false c3)<|F
 by_cases c6:r2=3
 ·replace T:=T.1 c6
  obtain⟨r8,r9,y10,g11,z12,q7,p8,rfl,rfl,rfl,rfl⟩:=T
  simp only[R_Q139,lF] at q7
  simp only[bigRow] at p8
  exact fi (aa (eq_true c6)<|aa q7<|aa p8<|F)
 replace T:=T.2 c6
 replace F:=aa (eq_false c6)<|F
 by_cases c9:r2=4
 ·replace T:=T.1 c9
  obtain⟨r13,r14,y15,g16,z17,q10,p11,rfl,rfl,rfl,rfl⟩:=T
  simp only[R_Q140,lF] at q10
  simp only[bigRow] at p11
  exact fi (aa (eq_true c9)<|aa q10<|aa p11<|F)
 replace T:=T.2 c9
 obtain⟨r18,r19,y20,g21,z22,q12,p13,rfl,rfl,rfl,rfl⟩:=T
 simp only[R_Q136,lF] at q12
 simp only[bigRow] at p13
 exact fi (aa (eq_false c9)<|aa q12<|aa p13<|F)
theorem sp_Q60:SP 60=some (.code sc_Q60):=SPof_code rfl Tryz.func60 comp_Q60
def At_Q60_1 (s4:List UInt8) (i5:Int) (l6:List Token) (g7:Nat) (z8:Bool) (ra:List Token) (rb:Int):Prop:=∀ (S:Sto) (e:Nat→PV) (f:Fr),e 4=.ptr 0 11 0∧f.box 11=some [.str s4,.int .i64 i5,.sl 0 (.cell 11 2) 0 l6.length l6.length g7 false]∧f.arr (.cell 11 2)=some ⟨5,l6.map eToken,z8,g7⟩→k_Q60_1 SP (E SP (.loop b_Q60_1) ⟨e,f::S⟩)=.ok (.v (.tup [.list 5 (ra.map eToken) false,.int .i64 rb])) S
theorem At_Q60_1_step (s4:List UInt8) (i5:Int) (l6:List Token) (g7:Nat) (z8:Bool) (ra:List Token) (rb:Int) (T :
  ((s4=[]) →
  (bigRow (l6.length+1) 64) ∧
  (l6++[(Token.mk 0 [] 0 [] i5)])=ra∧0=rb) ∧
 (¬ (s4=[]) →
  ∃ (r9:Bool) (y10:LTokens) (g11:Nat) (z12:Bool),(R_Q98 (LTokens.mk (LText.mk s4 i5) l6) g7 z8 r9 y10 g11 z12) ∧
  ((r9=true) →
   ∃ (y13:LTokens) (g14:Nat) (z15:Bool),(R_Q97 y10 g11 z12 y13 g14 z15) ∧
   At_Q60_1 y13.text.left y13.text.pos y13.out g14 z15 ra rb) ∧
  (¬ (r9=true) →
   []=ra∧5=rb))):At_Q60_1 s4 i5 l6 g7 z8 ra rb:=by
 intro S e f h
 unfold k_Q60_1
 rw[E_loop]
 have F:=U_Q60
 replace F:=aa h<|F
 by_cases c1:s4=[]
 ·replace T:=T.1 c1
  obtain⟨p2,rfl,rfl⟩:=T
  simp only[bigRow] at p2
  exact fi (aa (eq_true c1)<|aa p2<|F)
 replace T:=T.2 c1
 obtain⟨r9,y10,g11,z12,q3,T⟩:=T
 simp only[R_Q98,lF] at q3
 replace F:=aa (eq_false c1)<|aa q3<|F
 by_cases c4:r9=true
 ·replace T:=T.1 c4
  obtain⟨y13,g14,z15,q5,T⟩:=T
  simp only[R_Q97,lF] at q5
  replace F:=aa c4<|aa q5<|F
  exact lo F T
 replace T:=T.2 c4
 replace c4:=Bool.eq_false_iff.2 c4
 obtain⟨rfl,rfl⟩:=T
 exact fi (aa c4<|F)
theorem Q60_tree (s:List UInt8) (ra:List Token) (rb:Int) (T :
  ((6000 < (s.length:Int)) →
  []=ra∧4=rb) ∧
 (¬ (6000 < (s.length:Int)) →
  ∃ (y1:LTokens) (g2:Nat) (z3:Bool),(R_Q97 (LTokens.mk (LText.mk s 0) []) 0 false y1 g2 z3) ∧
  At_Q60_1 y1.text.left y1.text.pos y1.out g2 z3 ra rb)):R_Q60 s ra rb:=by
 intro S
 rw[call_code sp_Q60 _ _ rfl]
 have F:=U_Q60
 by_cases c1:6000 < (s.length:Int)
 ·replace T:=T.1 c1
  obtain⟨rfl,rfl⟩:=T
  exact fi (aa (eq_true c1)<|F)
 replace T:=T.2 c1
 obtain⟨y1,g2,z3,q2,T⟩:=T
 simp only[R_Q97,lF] at q2
 replace F:=aa (eq_false c1)<|aa q2<|F
 exact lo F T
theorem sp_Q81:SP 81=some (.code sc_Q81):=SPof_code rfl Tryz.func81 comp_Q81
theorem Q81_tree (s:List UInt8) (r:Bool) (T :
  ∃ (r1:List UInt8),(R_strings_ReplaceAll s [45] [95] r1) ∧
 ∃ (r2:Bool),(R_Q115 r1 r2) ∧
 ((r2=true) →
  ∃ (b3:UInt8),(s[0]?=some b3) ∧
  (((b3.toNat:Int)=45) →
   false=r) ∧
  (¬ ((b3.toNat:Int)=45) →
   (!(decide ((b3.toNat:Int)=95)))=r)) ∧
 (¬ (r2=true) →
  false=r)):R_Q81 s r:=by
 intro S
 rw[call_code sp_Q81 _ _ rfl]
 have F:=U_Q81
 obtain⟨r1,q1,r2,q2,T⟩:=T
 simp only[R_strings_ReplaceAll,lF] at q1
 simp only[R_Q115,lF] at q2
 replace F:=aa q1<|aa q2<|F
 by_cases c3:r2=true
 ·replace T:=T.1 c3
  obtain⟨b3,q4,T⟩:=T
  replace F:=aa c3<|aa q4<|F
  by_cases c5:(b3.toNat:Int)=45
  ·replace T:=T.1 c5
   obtain rfl:=T
   exact fi (aa (eq_true c5)<|F)
  replace T:=T.2 c5
  obtain rfl:=T
  exact fi (aa (eq_false c5)<|F)
 replace T:=T.2 c3
 replace c3:=Bool.eq_false_iff.2 c3
 obtain rfl:=T
 exact fi (aa c3<|F)
theorem sp_Q122:SP 122=some (.code sc_Q122):=SPof_code rfl Tryz.func122 comp_Q122
def At_Q122_1 (s:List UInt8) (i1:Int) (r:Bool):Prop:=∀ (S:Sto) (e:Nat→PV) (f:Fr),e 0=.str s∧e 3=.int .i64 i1→k_Q122_1 SP (E SP (.loop b_Q122_1) ⟨e,f::S⟩)=.ok (.v (.bool r)) S
theorem At_Q122_1_step (s:List UInt8) (i1:Int) (r:Bool) (T :
  ((i1 < (s.length:Int)) →
  (0≤i1) ∧
  ∃ (b2:UInt8),(s[i1.toNat]?=some b2) ∧
  ((97≤(b2.toNat:Int)) →
   (((b2.toNat:Int)≤122) →
    (I64 (i1+1)) ∧
    At_Q122_1 s (i1+1) r) ∧
   (¬ ((b2.toNat:Int)≤122) →
    ((0 < i1) →
     ∃ (r3:Bool),(R_Q119 b2 r3) ∧
     ((r3=true) →
      (I64 (i1+1)) ∧
      At_Q122_1 s (i1+1) r) ∧
     (¬ (r3=true) →
      (((b2.toNat:Int)=45) →
       (I64 (i1+1)) ∧
       At_Q122_1 s (i1+1) r) ∧
      (¬ ((b2.toNat:Int)=45) →
       (((b2.toNat:Int)=95) →
        (I64 (i1+1)) ∧
        At_Q122_1 s (i1+1) r) ∧
       (¬ ((b2.toNat:Int)=95) →
        false=r)))) ∧
    (¬ (0 < i1) →
     false=r))) ∧
  (¬ (97≤(b2.toNat:Int)) →
   ((0 < i1) →
    ∃ (r4:Bool),(R_Q119 b2 r4) ∧
    ((r4=true) →
     (I64 (i1+1)) ∧
     At_Q122_1 s (i1+1) r) ∧
    (¬ (r4=true) →
     (((b2.toNat:Int)=45) →
      (I64 (i1+1)) ∧
      At_Q122_1 s (i1+1) r) ∧
     (¬ ((b2.toNat:Int)=45) →
      (((b2.toNat:Int)=95) →
       (I64 (i1+1)) ∧
       At_Q122_1 s (i1+1) r) ∧
      (¬ ((b2.toNat:Int)=95) →
       false=r)))) ∧
   (¬ (0 < i1) →
    false=r))) ∧
 (¬ (i1 < (s.length:Int)) →
  ((1≤(s.length:Int)) →
   (decide ((s.length:Int)≤24))=r) ∧
  (¬ (1≤(s.length:Int)) →
   false=r))):At_Q122_1 s i1 r:=by
 intro S e f h
 unfold k_Q122_1
 rw[E_loop]
 have F:=U_Q122
 replace F:=aa h<|F
 by_cases c1:i1 < (s.length:Int)
 ·replace T:=T.1 c1
  obtain⟨p2,b2,q3,T⟩:=T
  replace F:=aa (eq_true c1)<|aa p2<|aa q3<|F
  by_cases c4:97≤(b2.toNat:Int)
  ·replace T:=T.1 c4
   replace F:=aa (eq_true c4)<|F
   by_cases c5:(b2.toNat:Int)≤122
   ·replace T:=T.1 c5
    obtain⟨p6,T⟩:=T
    replace F:=aa (eq_true c5)<|aa p6.wrap<|F
    exact lo F T
   replace T:=T.2 c5
   replace F:=aa (eq_false c5)<|F
   by_cases c7:0 < i1
   ·replace T:=T.1 c7
    obtain⟨r3,q8,T⟩:=T
    simp only[R_Q119,lF] at q8
    replace F:=aa (eq_true c7)<|aa q8<|F
    by_cases c9:r3=true
    ·replace T:=T.1 c9
     obtain⟨p10,T⟩:=T
     replace F:=aa c9<|aa p10.wrap<|F
     exact lo F T
    replace T:=T.2 c9
    replace c9:=Bool.eq_false_iff.2 c9
    replace F:=aa c9<|F
    by_cases c11:(b2.toNat:Int)=45
    ·replace T:=T.1 c11
     obtain⟨p12,T⟩:=T
     replace F:=aa (eq_true c11)<|aa p12.wrap<|F
     exact lo F T
    replace T:=T.2 c11
    replace F:=aa (eq_false c11)<|F
    by_cases c13:(b2.toNat:Int)=95
    ·replace T:=T.1 c13
     obtain⟨p14,T⟩:=T
     replace F:=aa (eq_true c13)<|aa p14.wrap<|F
     exact lo F T
    replace T:=T.2 c13
    obtain rfl:=T
    exact fi (aa (eq_false c13)<|F)
   replace T:=T.2 c7
   obtain rfl:=T
   exact fi (aa (eq_false c7)<|F)
  replace T:=T.2 c4
  replace F:=aa (eq_false c4)<|F
  by_cases c15:0 < i1
  ·replace T:=T.1 c15
   obtain⟨r4,q16,T⟩:=T
   simp only[R_Q119,lF] at q16
   replace F:=aa (eq_true c15)<|aa q16<|F
   by_cases c17:r4=true
   ·replace T:=T.1 c17
    obtain⟨p18,T⟩:=T
    replace F:=aa c17<|aa p18.wrap<|F
    exact lo F T
   replace T:=T.2 c17
   replace c17:=Bool.eq_false_iff.2 c17
   replace F:=aa c17<|F
   by_cases c19:(b2.toNat:Int)=45
   ·replace T:=T.1 c19
    obtain⟨p20,T⟩:=T
    replace F:=aa (eq_true c19)<|aa p20.wrap<|F
    exact lo F T
   replace T:=T.2 c19
   replace F:=aa (eq_false c19)<|F
   by_cases c21:(b2.toNat:Int)=95
   ·replace T:=T.1 c21
    obtain⟨p22,T⟩:=T
    replace F:=aa (eq_true c21)<|aa p22.wrap<|F
    exact lo F T
   replace T:=T.2 c21
   obtain rfl:=T
   exact fi (aa (eq_false c21)<|F)
  replace T:=T.2 c15
  obtain rfl:=T
  exact fi (aa (eq_false c15)<|F)
 replace T:=T.2 c1
 replace F:=aa (eq_false c1)<|F
 by_cases c23:1≤(s.length:Int)
 ·replace T:=T.1 c23
  obtain rfl:=T
  exact fi (aa (eq_true c23)<|F)
 replace T:=T.2 c23
 obtain rfl:=T
 exact fi (aa (eq_false c23)<|F)
theorem Q122_tree (s:List UInt8) (r:Bool) (T :
  At_Q122_1 s 0 r):R_Q122 s r:=by
 intro S
 rw[call_code sp_Q122 _ _ rfl]
 have F:=U_Q122
 exact lo F T
theorem sp_slices_Contains_int_int:SP 170=some (.code sc_slices_Contains_int_int):=SPof_code rfl Tryz.func170 comp_slices_Contains_int_int
theorem slices_Contains_int_int_tree (s:List Int) (v:Int) (r:Bool) (T :
  ∃ (r1:Int),(R_slices_Index_int_int s v r1) ∧
 (decide (0≤r1))=r):R_slices_Contains_int_int s v r:=by
 intro S
 rw[call_code sp_slices_Contains_int_int _ _ rfl]
 have F:=U_slices_Contains_int_int
 obtain⟨r1,q1,rfl⟩:=T
 simp only[R_slices_Index_int_int,lF] at q1
 exact fi (aa q1<|F)
theorem sp_slices_Index_int_int:SP 190=some (.code sc_slices_Index_int_int):=SPof_code rfl Tryz.func190 comp_slices_Index_int_int
def At_slices_Index_int_int_1 (s:List Int) (v:Int) (i1:Int) (r:Int):Prop:=∀ (S:Sto) (e:Nat→PV) (f:Fr),e 0=.list 1 (s.map eI) false∧e 1=.int .i64 v∧e 7=.int .i64 (s.length:Int)∧e 8=.int .i64 i1→k_slices_Index_int_int_1 SP (E SP (.loop b_slices_Index_int_int_1) ⟨e,f::S⟩)=.ok (.v (.int .i64 r)) S
theorem At_slices_Index_int_int_1_step (s:List Int) (v:Int) (i1:Int) (r:Int) (T :
  ((i1 < (s.length:Int)) →
  (0≤i1) ∧
  ∃ (v2:Int),(s[i1.toNat]?=some v2) ∧
  ((v=v2) →
   i1=r) ∧
  (¬ (v=v2) →
   (I64 (i1+1)) ∧
   At_slices_Index_int_int_1 s v (i1+1) r)) ∧
 (¬ (i1 < (s.length:Int)) →
  (-1)=r)):At_slices_Index_int_int_1 s v i1 r:=by
 intro S e f h
 unfold k_slices_Index_int_int_1
 rw[E_loop]
 have F:=U_slices_Index_int_int
 replace F:=aa h<|F
 by_cases c1:i1 < (s.length:Int)
 ·replace T:=T.1 c1
  obtain⟨p2,v2,q3,T⟩:=T
  replace F:=aa (eq_true c1)<|aa p2<|aa q3<|F
  by_cases c4:v=v2
  ·replace T:=T.1 c4
   obtain rfl:=T
   exact fi (aa (eq_true c4)<|F)
  replace T:=T.2 c4
  obtain⟨p5,T⟩:=T
  replace F:=aa (eq_false c4)<|aa p5.wrap<|F
  exact lo F T
 replace T:=T.2 c1
 obtain rfl:=T
 exact fi (aa (eq_false c1)<|F)
theorem slices_Index_int_int_tree (s:List Int) (v:Int) (r:Int) (T :
  At_slices_Index_int_int_1 s v 0 r):R_slices_Index_int_int s v r:=by
 intro S
 rw[call_code sp_slices_Index_int_int _ _ rfl]
 have F:=U_slices_Index_int_int
 exact lo F T
theorem sp_slices_Contains_string_string:SP 161=some (.code sc_slices_Contains_string_string):=SPof_code rfl Tryz.func161 comp_slices_Contains_string_string
theorem slices_Contains_string_string_tree (s:List (List UInt8)) (v:List UInt8) (r:Bool) (T :
  ∃ (r1:Int),(R_slices_Index_string_string s v r1) ∧
 (decide (0≤r1))=r):R_slices_Contains_string_string s v r:=by
 intro S
 rw[call_code sp_slices_Contains_string_string _ _ rfl]
 have F:=U_slices_Contains_string_string
 obtain⟨r1,q1,rfl⟩:=T
 simp only[R_slices_Index_string_string,lF] at q1
 exact fi (aa q1<|F)
def clsS (c:UInt8):Int :=
 if c.toNat=32∨c.toNat=10 then 1 else if c.toNat=95∨(97≤c.toNat∧c.toNat≤122) then 2
 else if 48≤c.toNat∧c.toNat≤57 then 3 else if c.toNat=34 then 4 else if c.toNat=35 then 5 else 0
theorem r_class (c:UInt8):R_Q137 c (clsS c):=by
 apply Q137_tree
 unfold clsS
 repeat' first
  | refine⟨fun h=>?_,fun h=>?_⟩
  | ((repeat' split) <;> omega)
theorem r_idxI (s:List Int) (v:Int) (hs:s.length < 1000000):∀ (k i:Nat),i+k=s.length→∃ r:Int,At_slices_Index_int_int_1 s v i r∧(0≤r↔v ∈ s.drop i)
 | 0,i,h=>⟨-1,by
   apply At_slices_Index_int_int_1_step
   exact⟨fun h=>by omega,fun _=>rfl⟩,by rw[List.drop_eq_nil_of_le (by omega)];simp⟩
 | k+1,i,h=>by
  have hi:i < s.length:=by omega
  have hg:s[((i:Nat):Int).toNat]?=some s[i]:=by rw[Int.toNat_natCast];exact List.getElem?_eq_getElem hi
  have hd:s.drop i=s[i]::s.drop (i+1):=List.drop_eq_getElem_cons hi
  by_cases c:v=s[i]
  ·refine⟨i,?_,?_⟩
   ·apply At_slices_Index_int_int_1_step
    exact⟨fun _=>⟨by omega,s[i],hg,fun _=>rfl,fun h=>absurd c h⟩,fun h=>by omega⟩
   rw[hd,←c];simp
  obtain⟨r,h1,h2⟩:=r_idxI s v hs k (i+1) (by omega)
  refine⟨r,?_,?_⟩
  ·apply At_slices_Index_int_int_1_step
   exact⟨fun _=>⟨by omega,s[i],hg,fun h=>absurd h c,fun _=>⟨⟨by omega,by omega⟩,h1⟩⟩,fun h=>by omega⟩
  rw[hd,h2,List.mem_cons];simp[c]
theorem r_containsI (s:List Int) (v:Int) (hs:s.length < 1000000):R_slices_Contains_int_int s v (decide (v ∈ s)):=by
 apply slices_Contains_int_int_tree
 obtain⟨r,h1,h2⟩:=r_idxI s v hs s.length 0 (by omega)
 refine⟨r,slices_Index_int_int_tree s v r h1,?_⟩
 rw[List.drop_zero] at h2
 exact decide_eq_decide.2 h2
theorem r_idxS (s:List (List UInt8)) (v:List UInt8) (hs:s.length < 1000000):∀ (k i:Nat),i+k=s.length→∃ r:Int,At_slices_Index_string_string_1 s v i r∧(0≤r↔v ∈ s.drop i)
 | 0,i,h=>⟨-1,by
   apply At_slices_Index_string_string_1_step
   exact⟨fun h=>by omega,fun _=>rfl⟩,by rw[List.drop_eq_nil_of_le (by omega)];simp⟩
 | k+1,i,h=>by
  have hi:i < s.length:=by omega
  have hg:s[((i:Nat):Int).toNat]?=some s[i]:=by rw[Int.toNat_natCast];exact List.getElem?_eq_getElem hi
  have hd:s.drop i=s[i]::s.drop (i+1):=List.drop_eq_getElem_cons hi
  by_cases c:v=s[i]
  ·refine⟨i,?_,?_⟩
   ·apply At_slices_Index_string_string_1_step
    exact⟨fun _=>⟨by omega,s[i],hg,fun _=>rfl,fun h=>absurd c h⟩,fun h=>by omega⟩
   rw[hd,←c];simp
  obtain⟨r,h1,h2⟩:=r_idxS s v hs k (i+1) (by omega)
  refine⟨r,?_,?_⟩
  ·apply At_slices_Index_string_string_1_step
   exact⟨fun _=>⟨by omega,s[i],hg,fun h=>absurd h c,fun _=>⟨⟨by omega,by omega⟩,h1⟩⟩,fun h=>by omega⟩
  rw[hd,h2,List.mem_cons];simp[c]
theorem r_containsS (s:List (List UInt8)) (v:List UInt8) (hs:s.length < 1000000):R_slices_Contains_string_string s v (decide (v ∈ s)):=by
 apply slices_Contains_string_string_tree
 obtain⟨r,h1,h2⟩:=r_idxS s v hs s.length 0 (by omega)
 refine⟨r,slices_Index_string_string_tree s v r h1,?_⟩
 rw[List.drop_zero] at h2
 exact decide_eq_decide.2 h2
def inC (cl:List Int) (c:UInt8):Bool:=decide (clsS c ∈ cl)
def spanS (cl:List Int) (s:List UInt8):Nat:=(s.takeWhile (inC cl)).length
theorem spanS_le (cl:List Int):∀ s:List UInt8,spanS cl s≤s.length
 | []=>Nat.le_refl _
 | c::s=>by
  unfold spanS
  rw[List.takeWhile_cons]
  split
  ·have:=spanS_le cl s;unfold spanS at this;simp only[List.length_cons];omega
  simp
theorem r_span_loop (s:List UInt8) (cl:List Int) (hc:cl.length < 1000000) (hs:s.length≤1000000):∀ (k i:Nat),i+k=s.length→∀ r:Int,r=(i:Int)+spanS cl (s.drop i)→At_Q151_1 s cl i r:=by
 intro k
 induction k with
 | zero =>
  intro i hi r hr
  apply At_Q151_1_step
  rw[List.drop_eq_nil_of_le (by omega)] at hr
  exact⟨fun h=>by omega,fun _=>by rw[hr];simp[spanS];omega⟩
 | succ k ih =>
  intro i hi r hr
  have hlt:i < s.length:=by omega
  have hg:s[((i:Nat):Int).toNat]?=some s[i]:=by rw[Int.toNat_natCast];exact List.getElem?_eq_getElem hlt
  have hd:s.drop i=s[i]::s.drop (i+1):=List.drop_eq_getElem_cons hlt
  rw[hd,spanS,List.takeWhile_cons] at hr
  apply At_Q151_1_step
  refine⟨fun _=>⟨by omega,s[i],hg,_,r_class _,_,r_containsI cl _ hc,fun h=>?_,fun h=>?_⟩,fun h=>by omega⟩
  ·refine⟨⟨by omega,by omega⟩,ih (i+1) (by omega) r ?_⟩
   have h':inC cl s[i]=true:=h
   rw[hr,if_pos h',spanS]
   simp only[List.length_cons]
   omega
  have h':¬ inC cl s[i]=true:=h
  rw[hr,if_neg h']
  simp
theorem r_span (s:List UInt8) (cl:List Int) (hc:cl.length < 1000000) (hs:s.length≤1000000):R_Q151 s cl (spanS cl s):=by
 apply Q151_tree
 exact r_span_loop s cl hc hs s.length 0 (by omega) _ (by simp)
theorem r_begins (c:UInt8):R_Q118 c (decide (clsS c=2)):=by
 apply Q118_tree
 have hc:clsS c=2↔(c.toNat=95∨(97≤c.toNat∧c.toNat≤122)):=by
  unfold clsS
  repeat' split
  all_goals (first | omega | (constructor <;> intro h <;> first | omega | exact absurd h (by decide)))
 refine⟨fun h1=>⟨fun h2=>?_,fun h2=>?_⟩,fun h1=>?_⟩
 ·exact (decide_eq_true (hc.2 (by omega))).symm
 ·exact decide_eq_decide.2 (by rw[hc];omega)
 exact decide_eq_decide.2 (by rw[hc];omega)
theorem r_digit (c:UInt8):R_Q119 c (decide (clsS c=3)):=by
 apply Q119_tree
 have hc:clsS c=3↔(48≤c.toNat∧c.toNat≤57):=by
  unfold clsS
  repeat' split
  all_goals (first | omega | (constructor <;> intro h <;> first | omega | exact absurd h (by decide)))
 refine⟨fun h1=>?_,fun h1=>?_⟩
 ·exact decide_eq_decide.2 (by rw[hc];omega)
 exact (decide_eq_false (by rw[hc];omega)).symm
theorem inC23 (c:UInt8):inC [2,3] c=true↔clsS c=2∨clsS c=3:=by
 unfold inC
 simp
theorem r_nameEnd_loop (s:List UInt8) (hs:s.length≤1000000):∀ (k i:Nat),i+k=s.length→∀ r:Int,r=(i:Int)+spanS [2,3] (s.drop i)→At_Q77_1 s i r:=by
 intro k
 induction k with
 | zero =>
  intro i hi r hr
  apply At_Q77_1_step
  rw[List.drop_eq_nil_of_le (by omega)] at hr
  exact⟨fun h=>by omega,fun _=>by rw[hr];simp[spanS]⟩
 | succ k ih =>
  intro i hi r hr
  have hlt:i < s.length:=by omega
  have hg:s[((i:Nat):Int).toNat]?=some s[i]:=by rw[Int.toNat_natCast];exact List.getElem?_eq_getElem hlt
  have hd:s.drop i=s[i]::s.drop (i+1):=List.drop_eq_getElem_cons hlt
  rw[hd,spanS,List.takeWhile_cons] at hr
  have next:(clsS s[i]=2∨clsS s[i]=3)→At_Q77_1 s ((i+1:Nat):Int) r:=fun h=>ih (i+1) (by omega) r (by
   rw[hr,if_pos ((inC23 _).2 h),spanS]
   simp only[List.length_cons]
   omega)
  apply At_Q77_1_step
  refine⟨fun _=>⟨by omega,s[i],hg,_,r_begins _,fun h=>⟨⟨by omega,by omega⟩,next (.inl (of_decide_eq_true h))⟩,fun h1=>⟨_,r_digit _,fun h=>⟨⟨by omega,by omega⟩,next (.inr (of_decide_eq_true h))⟩,fun h2=>?_⟩⟩,fun h=>by omega⟩
  rw[hr,if_neg]
  ·simp
  rw[inC23]
  simp only[decide_eq_true_eq] at h1 h2
  omega
def endS (s:List UInt8):Nat:=match s with
 | []=>0
 | c::_=>if clsS c=2 then spanS [2,3] s else 0
theorem r_nameEnd (s:List UInt8) (hs:s.length≤1000000) (i:Nat):R_Q77 s i ((i:Int)+endS (s.drop i)):=by
 apply Q77_tree
 refine⟨fun h=>?_,fun h=>?_⟩
 ·rw[List.drop_eq_nil_of_le (by omega)]
  simp[endS]
 have hlt:i < s.length:=by omega
 have hg:s[((i:Nat):Int).toNat]?=some s[i]:=by rw[Int.toNat_natCast];exact List.getElem?_eq_getElem hlt
 have hd:s.drop i=s[i]::s.drop (i+1):=List.drop_eq_getElem_cons hlt
 refine⟨by omega,s[i],hg,_,r_begins _,fun h=>?_,fun h=>?_⟩
 ·refine r_nameEnd_loop s hs (s.length - i) i (by omega) _ ?_
  rw[hd,endS,if_pos (of_decide_eq_true h)]
 rw[hd,endS,if_neg (fun e=>h (decide_eq_true e))]
 simp
def nameS (s:List UInt8):Bool:=decide (s≠[]∧s.length≤24∧endS s=s.length)
theorem r_lexName (s:List UInt8) (hs:s.length≤1000000):R_Q115 s (nameS s):=by
 apply Q115_tree
 refine⟨fun h=>?_,fun h=>⟨fun h2=>?_,fun h2=>?_⟩⟩
 ·simp[nameS,h]
 ·cases s with
  | nil=>exact absurd rfl h
  | cons c t =>
   refine⟨c,rfl,_,r_class c,fun h3=>⟨_,r_span _ _ (by decide) hs,?_⟩,fun h3=>?_⟩
   ·refine decide_eq_decide.2 ?_
    rw[endS,if_pos h3]
    constructor
    ·intro e;exact⟨by simp,by omega,by omega⟩
    intro e;have:=e.2.2;omega
   refine (decide_eq_false ?_).symm
   rw[endS,if_neg h3]
   intro e
   have:=e.2.2
   simp at this
 refine (decide_eq_false fun e=>?_).symm
 have:=e.2.1
 omega
theorem index1 (b:UInt8):∀ s:List UInt8,Lib.index s [b]=if b ∈ s then ((s.takeWhile (· != b)).length:Int) else -1
 | []=>by simp[Lib.index]
 | c::l=>by
  unfold Lib.index
  rw[index1 b l]
  by_cases h:b=c
  ·subst h
   simp[List.takeWhile_cons]
  have h':¬ c=b:=fun e=>h e.symm
  by_cases hm:b ∈ l
  ·simp[List.takeWhile_cons,h,h',hm]
  simp[h,hm]
theorem take_while_len (p:UInt8→Bool):∀ s:List UInt8,s.take (s.takeWhile p).length=s.takeWhile p
 | []=>rfl
 | c::s=>by
  rw[List.takeWhile_cons]
  split
  ·simp[take_while_len p s]
  rfl
theorem drop_while_len (p:UInt8→Bool):∀ s:List UInt8,s.drop (s.takeWhile p).length=s.dropWhile p
 | []=>rfl
 | c::s=>by
  rw[List.takeWhile_cons,List.dropWhile_cons]
  split
  ·simp[drop_while_len p s]
  rfl
theorem cut1 (b:UInt8) (s:List UInt8):Lib.cut s [b]=if b ∈ s then (s.takeWhile (· != b),(s.dropWhile (· != b)).drop 1,true) else (s,[],false):=by
 unfold Lib.cut
 rw[index1]
 by_cases h:b ∈ s
 ·simp only[h,if_true]
  rw[if_pos (by omega)]
  simp only[Int.toNat_natCast,List.length_cons,List.length_nil,Nat.zero_add]
  rw[take_while_len,←drop_while_len,List.drop_drop]
 simp[h]
theorem r_Cut (s p:List UInt8) (hs:s.length≤1000000):R_strings_Cut s p (Lib.cut s p).1 (Lib.cut s p).2.1 (Lib.cut s p).2.2:=fun S=>call_ext sp_strings_Cut S (if_pos (by omega))
theorem r_HasPrefix (s p:List UInt8):R_strings_HasPrefix s p (Lib.hasPrefix s p):=fun S=>call_ext sp_strings_HasPrefix S rfl
theorem r_SContains (s p:List UInt8) (hs:s.length≤1000000):R_strings_Contains s p (Lib.contains s p):=fun S=>call_ext sp_strings_Contains S (if_pos (by omega))
theorem r_refName (s:List UInt8) (hs:s.length≤1000000):R_Q79 s (nameS s):=by
 apply Q79_tree
 refine⟨fun h=>?_,fun h=>⟨fun h2=>⟨_,r_nameEnd s hs 0,?_⟩,fun h2=>?_⟩⟩
 ·simp[nameS,h]
 ·refine decide_eq_decide.2 ?_
  rw[List.drop_zero]
  constructor
  ·intro e;exact⟨h,by omega,by omega⟩
  intro e;have:=e.2.2;omega
 refine (decide_eq_false fun e=>?_).symm
 have:=e.2.1
 omega
def dottedS (s:List UInt8):Bool:=(Lib.cut s [46]).2.2 && nameS (Lib.cut s [46]).1 && nameS (Lib.cut s [46]).2.1
def refS (s:List UInt8):List UInt8 × Bool:=((Lib.cut s [125]).1,(Lib.cut s [125]).2.2 && dottedS (Lib.cut s [125]).1)
theorem cut_len1 (s p:List UInt8):(Lib.cut s p).1.length≤s.length:=by
 unfold Lib.cut
 split
 ·simp;omega
 simp
theorem cut_len2 (s p:List UInt8):(Lib.cut s p).2.1.length≤s.length:=by
 unfold Lib.cut
 split
 ·simp
 simp
theorem r_reference (s:List UInt8) (h2:2≤s.length) (hs:s.length≤1000000):R_Q166 s (refS (s.drop 2)).1 (refS (s.drop 2)).2:=by
 apply Q166_tree
 have e:(s.drop 2).take (s.length - 2)=s.drop 2:=List.take_of_length_le (by simp)
 rw[e]
 have l0:(s.drop 2).length≤1000000:=by simp;omega
 generalize s.drop 2=t at l0
 have l1:=cut_len1 t [125]
 have l2:=cut_len1 (Lib.cut t [125]).1 [46]
 have l3:=cut_len2 (Lib.cut t [125]).1 [46]
 refine⟨h2,_,_,_,r_Cut t [125] l0,_,_,_,r_Cut _ [46] (by omega),fun h3=>⟨fun h6=>⟨_,r_lexName _ (by omega),fun h7=>⟨_,r_lexName _ (by omega),rfl,?_⟩,fun h7=>⟨rfl,?_⟩⟩,fun h6=>⟨rfl,?_⟩⟩,fun h3=>⟨rfl,?_⟩⟩
 ·simp[refS,dottedS,h3,h6,h7]
 ·simp[refS,dottedS,h7]
 ·simp[refS,dottedS,h6]
 simp[refS,h3]
theorem takeWhile_stop (p:UInt8→Bool):∀ (u:List UInt8) (c:UInt8) (v:List UInt8),(∀ x ∈ u,p x=true)→p c=false→(u++c::v).takeWhile p=u
 | [],c,v,_,hc=>by simp[List.takeWhile_cons,hc]
 | x::u,c,v,h,hc=>by
  rw[List.cons_append,List.takeWhile_cons,if_pos (h x (by simp)),takeWhile_stop p u c v (fun y hy=>h y (by simp[hy])) hc]
theorem cut_split (b:UInt8) (u v:List UInt8) (h:b ∉ u):Lib.cut (u++b::v) [b]=(u,v,true):=by
 have h1:(u++b::v).takeWhile (· != b)=u:=takeWhile_stop _ u b v (fun x hx=>by simp;intro e;exact h (e ▸ hx)) (by simp)
 rw[cut1,if_pos (by simp),←drop_while_len,h1]
 simp
theorem cut_none (b:UInt8) (s:List UInt8) (h:b ∉ s):Lib.cut s [b]=(s,[],false):=by rw[cut1,if_neg h]
theorem splitAt_first (b:UInt8):∀ s:List UInt8,b ∈ s→∃ u v,s=u++b::v∧b ∉ u
 | [],h=>by cases h
 | c::s,h=>by
  by_cases e:b=c
  ·exact⟨[],s,by rw[e];rfl,by simp⟩
  obtain⟨u,v,h1,h2⟩:=splitAt_first b s (by rcases List.mem_cons.1 h with h | h;exact absurd h e;exact h)
  exact⟨c::u,v,by rw[h1];rfl,by simp[e,h2]⟩
theorem endS_le (s:List UInt8):endS s≤s.length:=by
 unfold endS
 split
 ·exact Nat.zero_le _
 split
 ·exact spanS_le _ _
 exact Nat.zero_le _
theorem span_in (cl:List Int):∀ (s:List UInt8) (x:UInt8),x ∈ s.take (spanS cl s)→inC cl x=true:=fun s x h=>by
 unfold spanS at h
 rw[take_while_len] at h
 exact List.all_eq_true.1 List.all_takeWhile x h
theorem endS_in (s:List UInt8) (x:UInt8) (h:x ∈ s.take (endS s)):inC [2,3] x=true:=by
 unfold endS at h
 split at h
 ·simp at h
 split at h
 ·exact span_in _ _ x h
 simp at h
theorem name_in {s:List UInt8} (h:nameS s=true) (x:UInt8) (hx:x ∈ s):inC [2,3] x=true:=by
 obtain⟨_,_,h3⟩:=of_decide_eq_true h
 refine endS_in s x ?_
 rw[h3,List.take_length]
 exact hx
theorem endS_app {u:List UInt8} (h:nameS u=true) (c:UInt8) (v:List UInt8) (hc:inC [2,3] c=false):endS (u++c::v)=u.length:=by
 obtain⟨h1,_,h3⟩:=of_decide_eq_true h
 cases u with
 | nil=>exact absurd rfl h1
 | cons a u =>
  have ha:clsS a=2:=by
   rw[endS] at h3
   split at h3
   ·assumption
   simp at h3
  rw[List.cons_append,endS,if_pos ha,spanS,←List.cons_append,takeWhile_stop _ (a::u) c v (fun x hx=>name_in h x hx) hc]
theorem in46:inC [2,3] 46=false:=by
 rw[←Bool.not_eq_true,inC23]
 decide
theorem r_Dotted (s:List UInt8) (hs:s.length≤1000000):R_Q78 s (dottedS s):=by
 apply Q78_tree
 have hle:=endS_le s
 refine⟨_,r_nameEnd s hs 0,?_⟩
 rw[List.drop_zero]
 by_cases hm:(46:UInt8) ∈ s
 ·obtain⟨u,v,rfl,hu⟩:=splitAt_first 46 s hm
  have hd:dottedS (u++46::v)=(nameS u && nameS v):=by unfold dottedS;rw[cut_split 46 u v hu];simp
  rw[hd]
  by_cases hn:nameS u=true
  ·have he:=endS_app hn 46 v in46
   obtain⟨h1,_,_⟩:=of_decide_eq_true hn
   have hpos:0 < u.length:=List.length_pos_iff.2 h1
   rw[he]
   simp only[List.length_append,List.length_cons] at hs
   refine⟨fun _=>⟨fun _=>⟨by omega,46,by simp,fun _=>⟨by omega,by rw[List.length_append,List.length_cons];omega,nameS u,?_,fun _=>⟨⟨by omega,by omega⟩,by omega,by rw[List.length_append,List.length_cons];omega,nameS v,?_,by simp[hn]⟩,fun h=>absurd hn h⟩,fun h=>absurd (by decide) h⟩,fun h=>absurd (by simp;omega) h⟩,fun h=>absurd (by omega) h⟩
   ·have e:(u++46::v).take ((0:Nat)+(u.length:Nat):Int).toNat=u:=by
     rw[show (((0:Nat):Int)+((u.length:Nat):Int)).toNat=u.length by omega];simp
    rw[e]
    exact r_refName u (by omega)
   have e1:(((0:Nat):Int)+((u.length:Nat):Int)+1).toNat=u.length+1:=by omega
   rw[e1]
   have e2:(u++46::v).drop (u.length+1)=v:=by rw[List.drop_append];simp
   rw[e2,List.take_of_length_le (by rw[List.length_append,List.length_cons];omega)]
   exact r_refName v (by omega)
  have hnf:nameS u=false:=by simpa using hn
  rw[hnf,Bool.false_and]
  refine⟨fun h1=>⟨fun h2=>?_,fun _=>rfl⟩,fun _=>rfl⟩
  have hlt:endS (u++46::v) < (u++46::v).length:=by omega
  have et:(((0:Nat):Int)+((endS (u++46::v):Nat):Int)).toNat=endS (u++46::v):=by omega
  rw[et]
  refine⟨by omega,_,List.getElem?_eq_getElem hlt,fun h3=>?_,fun _=>rfl⟩
  have h46:(u++46::v)[endS (u++46::v)]=46:=by
   apply UInt8.toNat_inj.1
   exact Int.ofNat.inj h3
  have he:endS (u++46::v)=u.length:=by
   rcases Nat.lt_trichotomy (endS (u++46::v)) u.length with h | h | h
   ·exfalso
    rw[List.getElem_append_left h] at h46
    exact hu (h46 ▸ List.getElem_mem h)
   ·exact h
   exfalso
   have:(46:UInt8) ∈ (u++46::v).take (endS (u++46::v)):=by
    rw[List.take_append]
    refine List.mem_append.2 (.inr ?_)
    obtain⟨k,hk⟩:∃ k,endS (u++46::v) - u.length=k+1:=⟨endS (u++46::v) - u.length - 1,by omega⟩
    rw[hk]
    simp
   have:=endS_in _ _ this
   rw[in46] at this
   cases this
  have e:(u++46::v).take (endS (u++46::v))=u:=by rw[he];simp
  rw[e]
  have hs2:u.length≤1000000:=by simp at hs;omega
  exact⟨by omega,by omega,nameS u,r_refName u hs2,fun h=>absurd h hn,fun _=>rfl⟩
 have hd:dottedS s=false:=by unfold dottedS;rw[cut_none 46 s hm];rfl
 rw[hd]
 refine⟨fun h1=>⟨fun h2=>?_,fun _=>rfl⟩,fun _=>rfl⟩
 have hlt:endS s < s.length:=by omega
 have et:(((0:Nat):Int)+((endS s:Nat):Int)).toNat=endS s:=by omega
 rw[et]
 refine⟨by omega,_,List.getElem?_eq_getElem hlt,fun h3=>?_,fun _=>rfl⟩
 exfalso
 have h46:s[endS s]=46:=by
  apply UInt8.toNat_inj.1
  exact Int.ofNat.inj h3
 exact hm (h46 ▸ List.getElem_mem hlt)
theorem dotted_split {s:List UInt8} (h:dottedS s=true):∃ x y,s=x++46::y∧nameS x=true∧nameS y=true:=by
 unfold dottedS at h
 by_cases hm:(46:UInt8) ∈ s
 ·obtain⟨u,v,rfl,hu⟩:=splitAt_first 46 s hm
  rw[cut_split 46 u v hu] at h
  simp only[Bool.and_eq_true] at h
  exact⟨u,v,rfl,h.1.2,h.2⟩
 rw[cut_none 46 s hm] at h
 cases h
theorem ref_split {t:List UInt8} (h:(refS t).2=true):∃ x y v,t=x++46::(y++125::v)∧nameS x=true∧nameS y=true∧(refS t).1=x++46::y:=by
 unfold refS at h ⊢
 by_cases hm:(125:UInt8) ∈ t
 ·obtain⟨u,v,rfl,hu⟩:=splitAt_first 125 t hm
  rw[cut_split 125 u v hu] at h ⊢
  obtain⟨x,y,rfl,hx,hy⟩:=dotted_split (by simpa using h)
  exact⟨x,y,v,by simp,hx,hy,rfl⟩
 rw[cut_none 125 t hm] at h
 cases h
theorem drop_mid (b:UInt8) (x w:List UInt8):(x++b::w).drop (x.length+1)=w:=by rw[List.drop_append];simp
def ones:List Int:=[123,125,91,93,40,41,61,44,46,43,45,42,47,37,60,62,33,63,58]
def twos:List (List UInt8):=[[61,61],[33,61],[60,61],[62,61],[38,38],[124,124]]
def sign1 (a:UInt8):List UInt8:=if ((a.toNat:Nat):Int) ∈ ones then [a] else []
def sign2 (a b:UInt8):List UInt8:=if [a,b] ∈ twos then [a,b] else sign1 a
def signS:List UInt8→List UInt8
 | []=>[]
 | [a]=>sign1 a
 | a::b::_=>sign2 a b
def TI (t:LText):Prop:=t.left.length≤6000∧0≤t.pos∧t.pos+(t.left.length:Nat)≤6000
def takeT (t:LText) (n:Nat):LText:=⟨t.left.drop n,t.pos+n⟩
theorem TI.take {t:LText} (h:TI t) {n:Nat} (hn:n≤t.left.length):TI (takeT t n):=by
 obtain⟨h1,h2,h3⟩:=h
 refine⟨?_,?_,?_⟩ <;> simp only[takeT,List.length_drop] <;> omega
theorem r_take {t:LText} (h:TI t) {n:Nat} (hn:n≤t.left.length):R_Q135 t n (t.left.take n) (takeT t n):=by
 apply Q135_tree
 obtain⟨h1,h2,h3⟩:=h
 rw[Int.toNat_natCast]
 refine⟨by omega,hn,by omega,hn,⟨by omega,by omega⟩,rfl,?_⟩
 rw[List.take_of_length_le (by simp)]
 rfl
theorem r_word {t:LText} (h:TI t) (cl:List Int) (hc:cl.length < 1000000):R_Q134 t cl (t.left.takeWhile (inC cl)) (takeT t (spanS cl t.left)):=by
 apply Q134_tree
 have h1:=h.1
 refine⟨_,r_span t.left cl hc (by omega),_,_,r_take h (spanS_le cl t.left),?_,rfl⟩
 exact take_while_len _ _
theorem r_name (t:LTokens) (g:Nat) (z:Bool) (h:TI t.text):R_Q138 t g z (Token.mk 3 (t.text.left.takeWhile (inC [2,3])) 0 [] 0) (nameS (t.text.left.takeWhile (inC [2,3]))) (LTokens.mk (takeT t.text (spanS [2,3] t.text.left)) t.out) g z:=by
 apply Q138_tree
 have h1:=h.1
 have h2:=spanS_le [2,3] t.text.left
 exact⟨_,_,r_word h [2,3] (by decide),_,r_lexName _ (by unfold spanS at h2;omega),rfl,rfl,rfl,rfl,rfl⟩
theorem has_ones (a:UInt8):Lib.contains [123,125,91,93,40,41,61,44,46,43,45,42,47,37,60,62,33,63,58] [a]=decide (((a.toNat:Nat):Int) ∈ ones):=by
 unfold Lib.contains
 rw[index1]
 refine decide_eq_decide.2 ?_
 have e:a ∈ ([123,125,91,93,40,41,61,44,46,43,45,42,47,37,60,62,33,63,58]:List UInt8)↔((a.toNat:Nat):Int) ∈ ones:=by
  simp only[ones,List.mem_cons,List.not_mem_nil,or_false,←UInt8.toNat_inj,UInt8.reduceToNat]
  omega
 rw[←e]
 split
 ·rename_i h;simp only[h,iff_true];omega
 rename_i h;simp only[h,iff_false];omega
theorem r_sign (t:LTokens) (g:Nat) (z:Bool) (h:TI t.text) (hne:t.text.left≠[]):R_Q136 t g z (if signS t.text.left=[] then Token.mk 0 [] 0 [] 0 else Token.mk 4 (signS t.text.left) 0 [] 0) (decide (signS t.text.left≠[])) (if signS t.text.left=[] then t else LTokens.mk (takeT t.text (signS t.text.left).length) t.out) g z:=by
 apply Q136_tree
 obtain⟨⟨left,pos⟩,out⟩:=t
 have h1:=h.1
 simp only at h1 hne ⊢
 match left,hne,h1,h with
 | [a],hne,h1,h =>
  have hn:¬ [a] ∈ twos:=by unfold twos;simp
  have e0:(if (([a].length:Nat):Int) < 2 then (([a].length:Nat):Int) else 2).toNat=1:=by simp
  rw[e0]
  simp only[List.take_succ_cons,List.take_zero,List.length_cons,List.length_nil]
  refine⟨by simp,by omega,_,r_containsS twos [a] (by decide),fun hq=>absurd (of_decide_eq_true hq) hn,fun _=>⟨by omega,_,r_SContains _ [a] (by simp),fun hq=>?_,fun hq=>?_⟩⟩
  ·rw[has_ones] at hq
   have hq:=of_decide_eq_true hq
   have hs:signS [a]=[a]:=by simp[signS,sign1,hq]
   rw[hs]
   exact⟨_,_,r_take h (n:=1) (by simp),by simp⟩
  rw[has_ones] at hq
  have hq:¬ ((a.toNat:Nat):Int) ∈ ones:=fun e=>hq (decide_eq_true e)
  have hs:signS [a]=[]:=by simp[signS,sign1,hq]
  rw[hs]
  simp
 | a::b::u,hne,h1,h =>
  have e0:(if (((a::b::u).length:Nat):Int) < 2 then (((a::b::u).length:Nat):Int) else 2)=2:=by
   rw[if_neg];simp only[List.length_cons];omega
  have e00:(2:Int).toNat=2:=rfl
  rw[e0,e00]
  simp only[List.take_succ_cons,List.take_zero,List.length_cons,List.length_nil]
  refine⟨by simp,by omega,_,r_containsS twos [a,b] (by decide),fun hq=>?_,fun hn=>⟨by omega,_,r_SContains _ [a] (by simp),fun hq=>?_,fun hq=>?_⟩⟩
  ·have hq:=of_decide_eq_true hq
   have hs:signS (a::b::u)=[a,b]:=by simp[signS,sign2,hq]
   rw[hs]
   exact⟨_,_,r_take h (n:=2) (by simp),by simp⟩
  ·have hn:¬ [a,b] ∈ twos:=fun e=>hn (decide_eq_true e)
   rw[has_ones] at hq
   have hq:=of_decide_eq_true hq
   have hs:signS (a::b::u)=[a]:=by simp[signS,sign2,sign1,hn,hq]
   rw[hs]
   exact⟨_,_,r_take h (n:=1) (by simp),by simp⟩
  have hn:¬ [a,b] ∈ twos:=fun e=>hn (decide_eq_true e)
  rw[has_ones] at hq
  have hq:¬ ((a.toNat:Nat):Int) ∈ ones:=fun e=>hq (decide_eq_true e)
  have hs:signS (a::b::u)=[]:=by simp[signS,sign2,sign1,hn,hq]
  rw[hs]
  simp
def escS (x:UInt8):Option UInt8:=if x=34∨x=92∨x=36 then some x else if x=110 then some 10 else none
theorem r_IndexByte (s:List UInt8) (c:UInt8):R_strings_IndexByte s c (Lib.indexByte s c):=fun S=>call_ext sp_strings_IndexByte S (by simp[indexX])
theorem r_escaped (y x:UInt8) (u:List UInt8):R_Q164 (y::x::u) ((escS x).getD 0) (escS x).isSome:=by
 apply Q164_tree
 refine⟨fun h=>absurd h (by simp;omega),fun _=>⟨x,rfl,_,r_IndexByte _ x,?_⟩⟩
 unfold escS
 by_cases h1:x=34
 ·subst h1
  exact⟨fun h=>absurd h (by decide),fun _=>⟨by decide,34,rfl,rfl,rfl⟩⟩
 by_cases h2:x=92
 ·subst h2
  exact⟨fun h=>absurd h (by decide),fun _=>⟨by decide,92,rfl,rfl,rfl⟩⟩
 by_cases h3:x=36
 ·subst h3
  exact⟨fun h=>absurd h (by decide),fun _=>⟨by decide,36,rfl,rfl,rfl⟩⟩
 by_cases h4:x=110
 ·subst h4
  exact⟨fun h=>absurd h (by decide),fun _=>⟨by decide,10,rfl,rfl,rfl⟩⟩
 have e:Lib.indexByte [34,92,36,110] x=-1:=by
  have:=Lib.indexByte_ge [34,92,36,110] x
  simp[Lib.indexByte,Ne.symm h1,Ne.symm h2,Ne.symm h3,Ne.symm h4]
 rw[e]
 simp[h1,h2,h3,h4]
def joinP (l:List Part) (b:List UInt8):List Part:=l++(if b=[] then [] else [Part.mk false b])
def okP (l:List Part):Prop:=l=[]∨∃ l0 q,l=l0++[Part.mk true q]
theorem set_last {α:Type} (l:List α) (x y:α):(l++[x]).set l.length y=l++[y]:=by simp
theorem r_plain (l:List Part) (b:List UInt8) (c:UInt8) (g:Nat) (hl:okP l) (h1:l.length≤10000) (h2:b.length≤10000):R_Q165 (joinP l b) g false c (joinP l (b++[c])) g false:=by
 apply Q165_tree
 have hb:b++[c]≠[]:=by simp
 by_cases e:b=[]
 ·subst e
  have e1:joinP l []=l:=by simp[joinP]
  have e2:joinP l ([]++[c])=l++[Part.mk false [c]]:=by simp[joinP]
  have e3:(((l.length:Nat):Int)+1 - 1).toNat=l.length:=by omega
  have big:bigRow (l.length+1) 24:=⟨by omega,by omega,by decide⟩
  rw[e1,e2,e3]
  refine⟨fun h=>⟨big,⟨by omega,by omega⟩,⟨by omega,by omega⟩,by omega,by omega,Part.mk false [],by simp,by simp[maxInt],by omega,by omega,rfl,?_,rfl,rfl⟩,fun h=>?_⟩
  ·rw[set_last];rfl
  rcases hl with rfl | ⟨l0,q,rfl⟩
  ·exact absurd rfl h
  have e4:((((l0++[Part.mk true q]).length:Nat):Int) - 1).toNat=l0.length:=by simp
  have hlen:(l0++[Part.mk true q]).length=l0.length+1:=by simp
  rw[e4]
  refine⟨⟨by omega,by omega⟩,by omega,by omega,Part.mk true q,by simp,fun _=>⟨big,⟨by omega,by omega⟩,⟨by omega,by omega⟩,by omega,by omega,Part.mk false [],by simp,by simp[maxInt],by omega,by omega,rfl,?_,rfl,rfl⟩,fun h=>absurd rfl h⟩
  rw[set_last];rfl
 have e1:joinP l b=l++[Part.mk false b]:=by simp[joinP,e]
 have e2:joinP l (b++[c])=l++[Part.mk false (b++[c])]:=by simp[joinP]
 have hlen:(l++[Part.mk false b]).length=l.length+1:=by simp
 have e3:((((l++[Part.mk false b]).length:Nat):Int) - 1).toNat=l.length:=by omega
 rw[e1,e2]
 refine⟨fun h=>by omega,fun h=>?_⟩
 rw[e3]
 refine⟨⟨by omega,by omega⟩,by omega,by omega,Part.mk false b,by simp,fun h=>by simp at h,fun _=>⟨⟨by omega,by omega⟩,by omega,by omega,by simp only[maxInt];omega,by omega,by omega,rfl,?_,rfl,rfl⟩⟩
 rw[set_last]
inductive Qx:List UInt8→List Part→List UInt8→Option (List Part × Nat)→Prop
 | nil (l b):Qx [] l b none
 | shut (t l b):Qx (34::t) l b (some (joinP l b,1))
 | low (c t l b) (h1:c≠34) (h2:c.toNat < 32):Qx (c::t) l b none
 | esc (x y t l b r) (h1:escS x=some y) (h:Qx t l (b++[y]) r):Qx (92::x::t) l b (r.map fun q=>(q.1,q.2+2))
 | esc0 (l b):Qx [92] l b none
 | escbad (x t l b) (h1:escS x=none):Qx (92::x::t) l b none
 | ref (t l b r) (h1:(refS t).2=true) (h:Qx (t.drop ((refS t).1.length+1)) (joinP l b++[Part.mk true (refS t).1]) [] r):Qx (36::123::t) l b (r.map fun q=>(q.1,q.2+(3+(refS t).1.length)))
 | refbad (t l b) (h1:(refS t).2=false):Qx (36::123::t) l b none
 | plain (c t l b r) (h1:c≠34) (h2:¬ c.toNat < 32) (h3:c≠92) (h4:c=36→t.head?≠some 123) (h:Qx t l (b++[c]) r):Qx (c::t) l b (r.map fun q=>(q.1,q.2+1))
theorem refS_len {t:List UInt8} (h:(refS t).2=true):(refS t).1.length+1≤t.length:=by
 obtain⟨x,y,v,e,_,_,e2⟩:=ref_split h
 rw[e2,e]
 simp
 omega
theorem cls4 (c:UInt8):clsS c=4↔c=34:=by
 have e:c=34↔c.toNat=34:=by rw[←UInt8.toNat_inj];rfl
 rw[e]
 unfold clsS
 repeat' split
 all_goals (first | omega | (constructor <;> intro h <;> first | omega | exact absurd h (by decide)))
theorem takeT_takeT (t:LText) (a b:Nat):takeT (takeT t a) b=takeT t (a+b):=by
 unfold takeT
 simp only[LText.mk.injEq,List.drop_drop]
 exact⟨trivial,by omega⟩
theorem head_left {t:LText} {c:UInt8} {u:List UInt8} (h:t.left=c::u):¬ t.left=[]∧t.left[0]?=some c:=by rw[h];simp
def QOut (gp:Nat) (lt:LTokens) (g:Nat) (z:Bool) (l:List Part) (b:List UInt8):Option (List Part × Nat)→Prop
 | none=>∃ t':LTokens,t'.out=lt.out∧At_Q140_1 0 [] 0 0 [] 0 (joinP l b) gp false lt g z (Token.mk 0 [] 0 [] 0) false t' g z
 | some (ps,n)=>n≤lt.text.left.length∧At_Q140_1 0 [] 0 0 [] 0 (joinP l b) gp false lt g z (Token.mk 2 [] 0 ps 0) true (LTokens.mk (takeT lt.text n) lt.out) g z
theorem joinP_len (l:List Part) (b:List UInt8):(joinP l b).length≤l.length+1:=by
 unfold joinP
 split <;> simp
theorem joinP_ref (l:List Part) (q:List UInt8):joinP (l++[Part.mk true q]) []=l++[Part.mk true q]:=by simp[joinP]
theorem QOut.next {gp:Nat} {lt:LTokens} {g:Nat} {z:Bool} {l:List Part} {b:List UInt8} {l2:List Part} {b2:List UInt8} {m:Nat} (hm:m≤lt.text.left.length)
  (step:∀ ra rb t' , At_Q140_1 0 [] 0 0 [] 0 (joinP l2 b2) gp false (LTokens.mk (takeT lt.text m) lt.out) g z ra rb t' g z→At_Q140_1 0 [] 0 0 [] 0 (joinP l b) gp false lt g z ra rb t' g z) {r:Option (List Part × Nat)}
  (h:QOut gp (LTokens.mk (takeT lt.text m) lt.out) g z l2 b2 r):QOut gp lt g z l b (r.map fun q=>(q.1,q.2+m)):=by
 cases r with
 | none=>obtain⟨t',ho,h⟩:=h;exact⟨t',ho,step _ _ _ h⟩
 | some q =>
  obtain⟨ps,n⟩:=q
  obtain⟨h1,h2⟩:=h
  simp only[takeT,List.length_drop] at h1
  refine⟨by omega,?_⟩
  have:=step _ _ _ h2
  simp only[takeT_takeT] at this
  rw[Nat.add_comm] at this
  exact this
theorem r_quoted_loop {t:List UInt8} {l:List Part} {b:List UInt8} {r:Option (List Part × Nat)} (h:Qx t l b r):∀ (gp:Nat) (lt:LTokens) (g:Nat) (z:Bool),lt.text.left=t→TI lt.text→okP l→l.length+t.length≤7000→b.length+t.length≤7000→QOut gp lt g z l b r:=by
 induction h with
 | nil l b =>
  intro gp lt g z e hT hl h1 h2
  refine⟨lt,rfl,?_⟩
  apply At_Q140_1_step
  exact⟨fun _=>⟨rfl,rfl,rfl,rfl,rfl⟩,fun h=>absurd e h⟩
 | shut t l b =>
  intro gp lt g z e hT hl h1 h2
  obtain⟨e1,e2⟩:=head_left e
  have hlen:1≤lt.text.left.length:=by rw[e];simp
  refine⟨hlen,?_⟩
  apply At_Q140_1_step
  exact⟨fun h=>absurd h e1,fun _=>⟨34,e2,_,r_class 34,fun _=>⟨_,_,r_take hT hlen,rfl,rfl,rfl,rfl,rfl⟩,fun h=>absurd ((cls4 34).2 rfl) h⟩⟩
 | low c t l b c1 c2 =>
  intro gp lt g z e hT hl h1 h2
  obtain⟨e1,e2⟩:=head_left e
  refine⟨lt,rfl,?_⟩
  apply At_Q140_1_step
  exact⟨fun h=>absurd h e1,fun _=>⟨c,e2,_,r_class c,fun h=>absurd ((cls4 c).1 h) c1,fun _=>⟨fun _=>⟨rfl,rfl,rfl,rfl,rfl⟩,fun h=>absurd (by omega) h⟩⟩⟩
 | esc x y t l b r hx _ ih =>
  intro gp lt g z e hT hl h1 h2
  obtain⟨e1,e2⟩:=head_left e
  simp only[List.length_cons] at h1 h2
  have hlen:2≤lt.text.left.length:=by rw[e];simp
  refine QOut.next (m:=2) hlen (fun ra rb t' hA=>?_) (ih gp _ g z (by simp only[takeT,e];rfl) (hT.take hlen) hl (by omega) (by simp;omega))
  apply At_Q140_1_step
  refine⟨fun h=>absurd h e1,fun _=>⟨92,e2,_,r_class 92,fun h=>absurd ((cls4 92).1 h) (by decide),fun _=>⟨fun h=>absurd h (by decide),fun _=>⟨fun _=>?_,fun h=>absurd (by decide) h⟩⟩⟩⟩
  rw[e]
  refine⟨_,_,r_escaped 92 x t,fun _=>⟨_,_,_,?_,_,_,r_take hT hlen,hA⟩,fun h=>absurd (by rw[hx];rfl) h⟩
  rw[hx]
  exact r_plain l b y gp hl (by omega) (by omega)
 | esc0 l b =>
  intro gp lt g z e hT hl h1 h2
  obtain⟨e1,e2⟩:=head_left e
  refine⟨lt,rfl,?_⟩
  apply At_Q140_1_step
  refine⟨fun h=>absurd h e1,fun _=>⟨92,e2,_,r_class 92,fun h=>absurd ((cls4 92).1 h) (by decide),fun _=>⟨fun h=>absurd h (by decide),fun _=>⟨fun _=>?_,fun h=>absurd (by decide) h⟩⟩⟩⟩
  rw[e]
  refine⟨0,false,?_,fun h=>(by cases h),fun _=>⟨rfl,rfl,rfl,rfl,rfl⟩⟩
  apply Q164_tree
  exact⟨fun _=>⟨rfl,rfl⟩,fun h=>absurd (by decide) h⟩
 | escbad x t l b hx =>
  intro gp lt g z e hT hl h1 h2
  obtain⟨e1,e2⟩:=head_left e
  refine⟨lt,rfl,?_⟩
  apply At_Q140_1_step
  refine⟨fun h=>absurd h e1,fun _=>⟨92,e2,_,r_class 92,fun h=>absurd ((cls4 92).1 h) (by decide),fun _=>⟨fun h=>absurd h (by decide),fun _=>⟨fun _=>?_,fun h=>absurd (by decide) h⟩⟩⟩⟩
  rw[e]
  exact⟨_,_,r_escaped 92 x t,fun h=>(by rw[hx] at h;cases h),fun _=>⟨rfl,rfl,rfl,rfl,rfl⟩⟩
 | ref t l b r hr _ ih =>
  intro gp lt g z e hT hl h1 h2
  obtain⟨e1,e2⟩:=head_left e
  simp only[List.length_cons] at h1 h2
  have hrl:=refS_len hr
  have hj:=joinP_len l b
  have hlen:3+(refS t).1.length≤lt.text.left.length:=by rw[e];simp only[List.length_cons];omega
  have hT1:=hT.1
  refine QOut.next (m:=3+(refS t).1.length) hlen (fun ra rb t' hA=>?_) (ih gp _ g z ?_ (hT.take hlen) (.inr ⟨_,_,rfl⟩) ?_ ?_)
  ·apply At_Q140_1_step
   have hR:R_Q166 lt.text.left (refS t).1 (refS t).2:=by
    have:=r_reference lt.text.left (by omega) (by omega)
    rw[e] at this ⊢
    exact this
   have hTake:R_Q135 lt.text (3+(((refS t).1.length:Nat):Int)) (lt.text.left.take (3+(refS t).1.length)) (takeT lt.text (3+(refS t).1.length)):=by
    have:=r_take hT hlen
    rw[Int.natCast_add] at this
    exact this
   rw[joinP_ref] at hA
   exact⟨fun h=>absurd h e1,fun _=>⟨36,e2,_,r_class 36,fun h=>absurd ((cls4 36).1 h) (by decide),fun _=>⟨fun h=>absurd h (by decide),fun _=>⟨fun h=>absurd h (by decide),fun _=>⟨_,r_HasPrefix _ _,fun _=>⟨_,_,hR,fun _=>⟨⟨by omega,by omega,by decide⟩,⟨by omega,by omega⟩,_,_,hTake,hA⟩,fun h=>absurd hr h⟩,fun h=>absurd (by rw[e];simp[Lib.hasPrefix]) h⟩⟩⟩⟩⟩
  ·simp only[takeT,e]
   rw[show 3+(refS t).1.length=((refS t).1.length+1)+1+1 by omega]
   rfl
  ·simp;omega
  simp;omega
 | refbad t l b hr =>
  intro gp lt g z e hT hl h1 h2
  obtain⟨e1,e2⟩:=head_left e
  have hT1:=hT.1
  refine⟨lt,rfl,?_⟩
  apply At_Q140_1_step
  have hR:R_Q166 lt.text.left (refS t).1 (refS t).2:=by
   have:=r_reference lt.text.left (by rw[e];simp) (by omega)
   rw[e] at this ⊢
   exact this
  exact⟨fun h=>absurd h e1,fun _=>⟨36,e2,_,r_class 36,fun h=>absurd ((cls4 36).1 h) (by decide),fun _=>⟨fun h=>absurd h (by decide),fun _=>⟨fun h=>absurd h (by decide),fun _=>⟨_,r_HasPrefix _ _,fun _=>⟨_,_,hR,fun h=>(by rw[hr] at h;cases h),fun _=>⟨rfl,rfl,rfl,rfl,rfl⟩⟩,fun h=>absurd (by rw[e];simp[Lib.hasPrefix]) h⟩⟩⟩⟩⟩
 | plain c t l b r c1 c2 c3 c4 _ ih =>
  intro gp lt g z e hT hl h1 h2
  obtain⟨e1,e2⟩:=head_left e
  simp only[List.length_cons] at h1 h2
  have hlen:1≤lt.text.left.length:=by rw[e];simp
  have hp:¬ Lib.hasPrefix lt.text.left [36,123]=true:=by
   rw[e]
   unfold Lib.hasPrefix
   intro h
   cases t with
   | nil=>simp at h
   | cons x t =>
    simp at h
    exact c4 h.1.symm (by rw[←h.2];rfl)
  have hc3:¬ ((c.toNat:Nat):Int)=92:=fun h=>c3 (by apply UInt8.toNat_inj.1;exact Int.ofNat.inj h)
  refine QOut.next (m:=1) hlen (fun ra rb t' hA=>?_) (ih gp _ g z (by simp only[takeT,e];rfl) (hT.take hlen) hl (by omega) (by simp;omega))
  apply At_Q140_1_step
  exact⟨fun h=>absurd h e1,fun _=>⟨c,e2,_,r_class c,fun h=>absurd ((cls4 c).1 h) c1,fun _=>⟨fun h=>absurd h (by omega),fun _=>⟨fun h=>absurd h hc3,fun _=>⟨_,r_HasPrefix _ _,fun h=>absurd h hp,fun _=>⟨_,_,_,r_plain l b c gp hl (by omega) (by omega),_,_,r_take hT hlen,hA⟩⟩⟩⟩⟩⟩
theorem u64_nat (n:Nat) (h:n < 18446744073709551616):IntKind.u64.wrap (n:Int)=n:=U64.wrap ⟨by omega,by omega⟩
theorem tdivN (a:Nat) (b:Nat):((a:Nat):Int).tdiv (b:Int)=((a / b:Nat):Int):=by
 rw[Int.tdiv_eq_ediv_of_nonneg (by omega)];simp
theorem tmodN (a:Nat) (b:Nat):((a:Nat):Int).tmod (b:Int)=((a % b:Nat):Int):=by
 rw[Int.tmod_eq_emod_of_nonneg (by omega)];simp
theorem r_Digits_loop (n:Int):∀ (j u:Nat) (s:List UInt8),Lib.nDigits u≤j→u < 18446744073709551616→s.length+j≤1000→At_Q16_1 n u s ((if n < 0 then [45] else [])++(Lib.decDigits u++s))
 | 0,u,s,h,_,_=>by have:=Lib.nDigits_pos u;omega
 | j+1,u,s,h,hu,hs=>by
  apply At_Q16_1_step
  have d10:((u:Nat):Int).tdiv 10=((u / 10:Nat):Int):=tdivN u 10
  have m10:((u:Nat):Int).tmod 10=((u % 10:Nat):Int):=tmodN u 10
  have e48:∀ x:Nat,(48+((x:Nat):Int)).toNat=48+x:=fun x=>by omega
  refine⟨fun h10=>?_,fun h10=>?_⟩
  ·have hu10:¬ u < 10:=by omega
   rw[d10,m10,e48]
   have hn:Lib.nDigits u=Lib.nDigits (u / 10)+1:=Lib.nDigits_big hu10
   refine⟨⟨by omega,by omega⟩,⟨by omega,by omega⟩,by simp[maxInt];omega,⟨by omega,by omega⟩,?_⟩
   have:=r_Digits_loop n j (u / 10) ([UInt8.ofNat (48+u % 10)]++s) (by omega) (by omega) (by simp;omega)
   rw[show Lib.decDigits u=Lib.decDigits (u / 10)++[UInt8.ofNat (48+u % 10)] from by rw[Lib.decDigits,dif_neg hu10],List.append_assoc]
   exact this
  have hu10:u < 10:=by omega
  rw[e48,show Lib.decDigits u=[UInt8.ofNat (48+u)] from by rw[Lib.decDigits,dif_pos hu10]]
  refine⟨⟨by omega,by omega⟩,⟨by omega,by omega⟩,by simp[maxInt];omega,fun hn=>⟨by simp[maxInt];omega,by simp[hn]⟩,fun hn=>by simp[hn]⟩
theorem wrap_u64_neg {n:Int} (h0:-9223372036854775808≤n) (h:n < 0):IntKind.u64.wrap (0 - (IntKind.u64.wrap n))=((n.natAbs:Nat):Int):=by
 have e1:IntKind.u64.wrap n=n % 18446744073709551616:=by
  simp[IntKind.wrap,IntKind.signed,IntKind.bits]
 rw[e1]
 have e2:∀ x:Int,IntKind.u64.wrap x=x % 18446744073709551616:=fun x=>by
  simp[IntKind.wrap,IntKind.signed,IntKind.bits]
 rw[e2]
 omega
theorem r_Digits (n:Int) (h:I64 n):R_Q16 n (Lib.itoa n):=by
 obtain⟨h0,h1⟩:=h
 apply Q16_tree
 refine⟨fun hn=>?_,fun hn=>?_⟩
 ·rw[wrap_u64_neg h0 hn]
  have:=r_Digits_loop n 20 n.natAbs [] (Lib.nDigits_le20 _ (by omega)) (by omega) (by simp)
  simpa [Lib.itoa,hn] using this
 obtain⟨m,rfl⟩:∃ m:Nat,n=m:=⟨n.toNat,by omega⟩
 rw[u64_nat m (by omega)]
 have:=r_Digits_loop m 20 m [] (Lib.nDigits_le20 _ (by omega)) (by omega) (by simp)
 simpa [Lib.itoa,hn] using this
theorem r_Itoa (n:Int) (h:I64 n):R_strconv_Itoa n (Lib.itoa n):=fun S=>call_ext sp_strconv_Itoa S (if_pos h)
end Go.Proofs.YtfbcnpbhhooapaaGreatDoor.M
namespace Go.Proofs.YtfbcnpbhhooapaaGreatDoor.M
set_option linter.unusedSimpArgs false
set_option linter.unusedVariables false
set_option linter.unusedSectionVars false
open Go Classical
theorem big1 {n:Nat} (h:n≤1000000000000):bigRow n 1:=⟨by omega,by omega,by decide⟩
def rkS (k:Int):Int:=if k=10 then 0 else if k=11 then 1 else if k=12 then 2 else if 13≤k∧k≤18 then 3 else if k=19∨k=20 then 4 else if 21≤k then 5 else if k=8∨k=9 then 6 else 7
theorem r_showRank (k:Int):R_Q148 k (rkS k):=by
 apply Q148_tree
 unfold rkS
 repeat' first | (refine⟨fun h=>?_,fun h=>?_⟩) | omega | (split <;> try omega)
theorem r_refRank (k:Int) (hk:k≤23):R_Q72 k (rkS k):=by
 apply Q72_tree
 unfold rkS
 repeat' first | (refine⟨fun h=>?_,fun h=>?_⟩) | omega | (split <;> try omega)
theorem rk_range (k:Int):0≤rkS k∧rkS k≤7:=by
 unfold rkS
 repeat' first | omega | split
def signs:List (List UInt8):=[[124,124],[38,38],[61,61],[33,61],[60],[60,61],[62],[62,61],[43],[45],[42],[47],[37]]
def sgnS (k:Int):List UInt8:=(signs[(k - 11).toNat]?).getD []
theorem sgn_get {k:Int} (h0:11≤k) (h1:k≤23):signs[(k - 11).toNat]?=some (sgnS k):=by
 have h:(k - 11).toNat < signs.length:=by simp[signs];omega
 rw[sgnS,List.getElem?_eq_getElem h]
 rfl
theorem sgn_len (k:Int):(sgnS k).length≤2:=by
 unfold sgnS
 have h:∀ x ∈ signs,x.length≤2:=by decide
 cases e:signs[(k - 11).toNat]? with
 | none=>simp
 | some v=>exact h v (List.mem_of_getElem? e)
theorem r_showSign {k:Int} (h0:11≤k) (h1:k≤23):R_Q149 k (sgnS k) :=
 Q149_tree k _ ⟨⟨by omega,by omega⟩,by omega,_,sgn_get h0 h1,rfl⟩
theorem r_putW (w:SWriter) (g:Nat) (z:Bool) (l:List (List UInt8)) (hl:l.length≤1000000) (h:w.out.length+l.flatten.length≤1000000000000):R_Q95 w g z l ⟨w.out++l.flatten⟩ g z:=by
 have loop:∀ (m i:Nat) (w:SWriter),i+m=l.length→w.out.length+(l.drop i).flatten.length≤1000000000000→At_Q95_1 l i w g z ⟨w.out++(l.drop i).flatten⟩ g z:=by
  intro m
  induction m with
  | zero =>
   intro i w hi hw
   apply At_Q95_1_step
   exact⟨fun h=>by omega,fun _=>by rw[List.drop_of_length_le (by omega),List.flatten_nil,List.append_nil];exact⟨rfl,rfl,rfl⟩⟩
  | succ m ih =>
   intro i w hi hw
   have hlt:i < l.length:=by omega
   have hg:l[((i:Nat):Int).toNat]?=some l[i]:=by rw[Int.toNat_natCast];exact List.getElem?_eq_getElem hlt
   have hd:l.drop i=l[i]::l.drop (i+1):=List.drop_eq_getElem_cons hlt
   rw[hd,List.flatten_cons,List.length_append] at hw
   apply At_Q95_1_step
   refine⟨fun _=>⟨by omega,_,hg,big1 (by omega),⟨by omega,by omega⟩,?_⟩,fun h=>by omega⟩
   have:=ih (i+1) ⟨w.out++l[i]⟩ (by omega) (by simp only[List.length_append];omega)
   rw[hd,List.flatten_cons,←List.append_assoc]
   exact this
 have:=loop l.length 0 w (by omega) h
 exact Q95_tree _ _ _ _ _ _ _ this
def qC (c:UInt8):List UInt8:=if c.toNat=34∨c.toNat=92∨c.toNat=36 then [92,c] else if c.toNat=10 then [92,110] else [c]
def qS (s:List UInt8):List UInt8:=s.flatMap qC
theorem qC_len (c:UInt8):(qC c).length≤2:=by
 unfold qC
 split
 ·simp
 split <;> simp
theorem qS_len:∀ s:List UInt8,(qS s).length≤2*s.length
 | []=>Nat.le_refl _
 | c::s=>by
  have:=qS_len s
  have:=qC_len c
  unfold qS at *
  rw[List.flatMap_cons,List.length_append,List.length_cons]
  omega
theorem i32w {n:Nat} (h:n < 256):IntKind.i32.wrap (n:Int)=n:=by
 simp only[IntKind.wrap,IntKind.signed,IntKind.bits]
 simp
 omega
theorem r_showQuote (w:SWriter) (g:Nat) (z:Bool) (s:List UInt8) (hs:s.length≤1000000) (h:w.out.length+2*s.length≤999000000000):R_Q146 w g z s ⟨w.out++qS s⟩ g z:=by
 have loop:∀ (m i:Nat) (w:SWriter),i+m=s.length→w.out.length+2*m≤999000000000→At_Q146_1 s i w g z ⟨w.out++qS (s.drop i)⟩ g z:=by
  intro m
  induction m with
  | zero =>
   intro i w hi hw
   apply At_Q146_1_step
   exact⟨fun h=>by omega,fun _=>by rw[List.drop_of_length_le (by omega)];simp[qS]⟩
  | succ m ih =>
   intro i w hi hw
   have hlt:i < s.length:=by omega
   have hg:s[((i:Nat):Int).toNat]?=some s[i]:=by rw[Int.toNat_natCast];exact List.getElem?_eq_getElem hlt
   have hd:s.drop i=s[i]::s.drop (i+1):=List.drop_eq_getElem_cons hlt
   have hc:=s[i].toNat_lt
   generalize s[i]=c at *
   have e:=i32w (show c.toNat < 256 by omega)
   have ec:UInt8.ofNat ((c.toNat:Int)).toNat=c:=by simp
   have key:∀ t:List UInt8,qC c=t→At_Q146_1 s ((i:Int)+1) ⟨w.out++t⟩ g z ⟨w.out++qS (s.drop i)⟩ g z:=by
    intro t ht
    have h2:=qC_len c
    have:=ih (i+1) ⟨w.out++t⟩ (by omega) (by rw[←ht];simp only[List.length_append];omega)
    rw[hd,qS,List.flatMap_cons,ht,←List.append_assoc]
    exact this
   have p1:R_Q95 w g z [[92],[UInt8.ofNat (IntKind.i32.wrap (c.toNat:Int)).toNat]] ⟨w.out++[92,c]⟩ g z:=by
    rw[e,ec]
    exact r_putW w g z [[92],[c]] (by simp) (by simp;omega)
   have p2:R_Q95 w g z [[92,110]] ⟨w.out++[92,110]⟩ g z:=r_putW w g z [[92,110]] (by decide) (by simp;omega)
   apply At_Q146_1_step
   refine⟨fun _=>⟨by omega,_,hg,fun h=>⟨by rw[e];omega,by rw[e];omega,_,_,_,p1,⟨by omega,by omega⟩,key _ ?_⟩,fun h=>⟨fun h2=>⟨by rw[e];omega,by rw[e];omega,_,_,_,p1,⟨by omega,by omega⟩,key _ ?_⟩,fun h2=>⟨fun h3=>⟨by rw[e];omega,by rw[e];omega,_,_,_,p1,⟨by omega,by omega⟩,key _ ?_⟩,fun h3=>⟨fun h4=>⟨_,_,_,p2,⟨by omega,by omega⟩,key _ ?_⟩,fun h4=>⟨big1 (by omega),⟨by omega,by omega⟩,key _ ?_⟩⟩⟩⟩⟩,fun h=>by omega⟩
   ·rw[qC,if_pos (by omega)]
   ·rw[qC,if_pos (by omega)]
   ·rw[qC,if_pos (by omega)]
   ·rw[qC,if_neg (by omega),if_pos (by omega)]
   rw[qC,if_neg (by omega),if_neg (by omega)]
 have:=loop s.length 0 w (by omega) h
 exact Q146_tree _ _ _ _ _ _ _ this
def ptS (p:Part):List UInt8:=if p.Ref=true then [36,123]++p.Text++[125] else qS p.Text
def qtS (l:List Part):List UInt8:=[34]++(l.flatMap ptS++[34])
def QB (l:List Part):Prop:=l.length≤60∧∀ p ∈ l,p.Text.length≤300
theorem ptS_len {p:Part} (h:p.Text.length≤300):(ptS p).length≤603:=by
 unfold ptS
 split
 ·simp only[List.length_append,List.length_cons,List.length_nil];omega
 have:=qS_len p.Text;omega
theorem pts_len:∀ {l:List Part},(∀ p ∈ l,p.Text.length≤300)→(l.flatMap ptS).length≤603*l.length
 | [],_=>Nat.le_refl _
 | p::l,h=>by
  have h1:=pts_len (l:=l) fun q hq=>h q (List.mem_cons_of_mem _ hq)
  have h2:=ptS_len (h p (List.mem_cons_self ..))
  rw[List.flatMap_cons,List.length_append,List.length_cons]
  omega
theorem qtS_len {l:List Part} (h:QB l):(qtS l).length≤36200:=by
 have h1:=pts_len h.2
 have h2:=h.1
 simp only[qtS,List.length_append,List.length_cons,List.length_nil]
 omega
theorem r_showText (x:SWriter) (g:Nat) (z:Bool) (xl:List Node) (l:List Part) (hl:QB l) (h:x.out.length≤900000000000):R_Q107 x g z xl l ⟨x.out++qtS l⟩ g z:=by
 have loop:∀ (m i:Nat) (w:SWriter),i+m=l.length→w.out.length+603*m≤900000100000→At_Q107_1 xl l i w g z ⟨w.out++((l.drop i).flatMap ptS++[34])⟩ g z:=by
  intro m
  induction m with
  | zero =>
   intro i w hi hw
   apply At_Q107_1_step
   refine⟨fun h=>by omega,fun _=>⟨_,_,_,r_putW w g z [[34]] (by decide) (by simp;omega),?_,rfl,rfl⟩⟩
   rw[List.drop_of_length_le (by omega)]
   rfl
  | succ m ih =>
   intro i w hi hw
   have hlt:i < l.length:=by omega
   have hg:l[((i:Nat):Int).toNat]?=some l[i]:=by rw[Int.toNat_natCast];exact List.getElem?_eq_getElem hlt
   have hd:l.drop i=l[i]::l.drop (i+1):=List.drop_eq_getElem_cons hlt
   have hp:=hl.2 _ (List.getElem_mem hlt)
   have h60:=hl.1
   generalize l[i]=p at *
   have key:∀ t:List UInt8,ptS p=t→At_Q107_1 xl l ((i:Int)+1) ⟨w.out++t⟩ g z ⟨w.out++((l.drop i).flatMap ptS++[34])⟩ g z:=by
    intro t ht
    have h2:=ptS_len hp
    have:=ih (i+1) ⟨w.out++t⟩ (by omega) (by rw[←ht];simp only[List.length_append];omega)
    rw[hd,List.flatMap_cons,ht,List.append_assoc,←List.append_assoc]
    exact this
   apply At_Q107_1_step
   refine⟨fun _=>⟨by omega,_,hg,fun hr=>⟨_,_,_,r_putW w g z [[36,123],p.Text,[125]] (by simp) (by simp;omega),⟨by omega,by omega⟩,key _ ?_⟩,fun hr=>⟨_,_,_,r_showQuote w g z p.Text (by omega) (by omega),⟨by omega,by omega⟩,key _ ?_⟩⟩,fun h=>by omega⟩
   ·rw[ptS,if_pos hr];simp
   rw[ptS,if_neg hr]
 have h60:=hl.1
 have:=loop l.length 0 ⟨x.out++[34]⟩ (by omega) (by simp only[List.length_append,List.length_cons,List.length_nil];omega)
 refine Q107_tree _ _ _ _ _ _ _ _ ⟨_,_,_,r_putW x g z [[34]] (by decide) (by simp;omega),?_⟩
 rw[qtS,←List.append_assoc]
 exact this
def T1Q (l:List Part) (P1 P2:Int→List UInt8→List UInt8→Prop) (i:Int) (b r:List UInt8):Prop :=
 ((i < (l.length:Int))→(0≤i)∧∃ (v:Part),(l[i.toNat]?=some v) ∧
  ((v.Ref=true)→(bigRow (b.length+2) 1)∧(bigRow (b.length+2+v.Text.length) 1)∧(bigRow (b.length+2+v.Text.length+1) 1)∧(I64 (i+1))∧P1 (i+1) (b++[36,123]++v.Text++[(125:UInt8)]) r) ∧
  (¬ (v.Ref=true)→P2 i b r)) ∧
 (¬ (i < (l.length:Int))→(bigRow (b.length+1) 1)∧(b++[(34:UInt8)])=r)
def T2Q (l:List Part) (P1:Int→List UInt8→List UInt8→Prop) (Pe Pn Po:Int→Int→List UInt8→List UInt8→Prop) (i k:Int) (b r:List UInt8):Prop :=
 (0≤i)∧∃ (v:Part),(l[i.toNat]?=some v) ∧
  ((k < (v.Text.length:Int))→(0≤k)∧∃ (c:UInt8),(v.Text[k.toNat]?=some c) ∧
   (((c.toNat:Int)=34)→(bigRow (b.length+2) 1)∧(I64 (k+1))∧Pe i (k+1) (b++[(92:UInt8),c]) r) ∧
   (¬ ((c.toNat:Int)=34) →
    (((c.toNat:Int)=92)→(bigRow (b.length+2) 1)∧(I64 (k+1))∧Pe i (k+1) (b++[(92:UInt8),c]) r) ∧
    (¬ ((c.toNat:Int)=92) →
     (((c.toNat:Int)=36)→(bigRow (b.length+2) 1)∧(I64 (k+1))∧Pe i (k+1) (b++[(92:UInt8),c]) r) ∧
     (¬ ((c.toNat:Int)=36) →
      (((c.toNat:Int)=10)→(bigRow (b.length+2) 1)∧(I64 (k+1))∧Pn i (k+1) (b++[(92:UInt8),(110:UInt8)]) r) ∧
      (¬ ((c.toNat:Int)=10)→(bigRow (b.length+1) 1)∧(I64 (k+1))∧Po i (k+1) (b++[c]) r))))) ∧
  (¬ (k < (v.Text.length:Int))→(I64 (i+1))∧P1 (i+1) b r)
theorem T2Q_in {l:List Part} {P1:Int→List UInt8→List UInt8→Prop} {Pe Pn Po:Int→Int→List UInt8→List UInt8→Prop} {i k:Nat} {b R:List UInt8} (hi:i < l.length) (hl:l.length≤60) (ht:l[i].Text.length≤300) (hb:b.length≤1000000) (hk:k≤l[i].Text.length)
  (he:∀ t,t.length≤2→k < l[i].Text.length→Pe i ((k:Int)+1) (b++t) (b++t++qS (l[i].Text.drop (k+1))++R))
  (hn:∀ t,t.length≤2→k < l[i].Text.length→Pn i ((k:Int)+1) (b++t) (b++t++qS (l[i].Text.drop (k+1))++R))
  (ho:∀ t,t.length≤2→k < l[i].Text.length→Po i ((k:Int)+1) (b++t) (b++t++qS (l[i].Text.drop (k+1))++R))
  (h1:P1 ((i:Int)+1) b (b++R)):T2Q l P1 Pe Pn Po i k b (b++qS (l[i].Text.drop k)++R):=by
 have hgi:l[((i:Nat):Int).toNat]?=some l[i]:=by rw[Int.toNat_natCast];exact List.getElem?_eq_getElem hi
 refine⟨by omega,_,hgi,fun hlt=>?_,fun hge=>⟨⟨by omega,by omega⟩,?_⟩⟩
 ·have hlt:k < l[i].Text.length:=by omega
  have hg:l[i].Text[((k:Nat):Int).toNat]?=some l[i].Text[k]:=by rw[Int.toNat_natCast];exact List.getElem?_eq_getElem hlt
  have hd:l[i].Text.drop k=l[i].Text[k]::l[i].Text.drop (k+1):=List.drop_eq_getElem_cons hlt
  rw[hd,qS,List.flatMap_cons]
  generalize l[i].Text[k]=c at *
  refine⟨by omega,_,hg,fun h=>⟨big1 (by omega),⟨by omega,by omega⟩,?_⟩,fun h=>⟨fun h2=>⟨big1 (by omega),⟨by omega,by omega⟩,?_⟩,fun h2=>⟨fun h3=>⟨big1 (by omega),⟨by omega,by omega⟩,?_⟩,fun h3=>⟨fun h4=>⟨big1 (by omega),⟨by omega,by omega⟩,?_⟩,fun h4=>⟨big1 (by omega),⟨by omega,by omega⟩,?_⟩⟩⟩⟩⟩
  ·rw[qC,if_pos (by omega),←List.append_assoc];exact he _ (by simp) hlt
  ·rw[qC,if_pos (by omega),←List.append_assoc];exact he _ (by simp) hlt
  ·rw[qC,if_pos (by omega),←List.append_assoc];exact he _ (by simp) hlt
  ·rw[qC,if_neg (by omega),if_pos (by omega),←List.append_assoc];exact hn _ (by simp) hlt
  rw[qC,if_neg (by omega),if_neg (by omega),←List.append_assoc];exact ho _ (by simp) hlt
 rw[List.drop_of_length_le (by omega)]
 simpa [qS] using h1
theorem text_gen {l:List Part} {P1:Int→List UInt8→List UInt8→Prop} {P:Int→Int→List UInt8→List UInt8→Prop} (hs:∀ i k b r,T2Q l P1 P P P i k b r→P i k b r) {i:Nat} (hi:i < l.length) (hl:l.length≤60) (ht:l[i].Text.length≤300) (R:List UInt8):∀ (m k:Nat) (b:List UInt8),k+m=l[i].Text.length→b.length+2*m≤1000000→(∀ b':List UInt8,b'.length≤b.length+2*m→P1 ((i:Int)+1) b' (b'++R))→P i k b (b++qS (l[i].Text.drop k)++R)
 | 0,k,b,hk,hb,h1=>hs _ _ _ _ (T2Q_in hi hl ht (by omega) (by omega) (fun t _ h=>by omega) (fun t _ h=>by omega) (fun t _ h=>by omega) (h1 b (by omega)))
 | m+1,k,b,hk,hb,h1=>by
  have st:∀ t:List UInt8,t.length≤2→k < l[i].Text.length→P i ((k:Int)+1) (b++t) (b++t++qS (l[i].Text.drop (k+1))++R):=fun t h2 h =>
   text_gen hs hi hl ht R m (k+1) (b++t) (by omega) (by rw[List.length_append];omega) fun b' h'=>h1 b' (by rw[List.length_append] at h';omega)
  exact hs _ _ _ _ (T2Q_in hi hl ht (by omega) (by omega) st st st (h1 b (by omega)))
theorem T1Q_in {l:List Part} {P1 P2:Int→List UInt8→List UInt8→Prop} {i:Nat} {b:List UInt8} (hl:QB l) (hi:i≤l.length) (hb:b.length≤1000000)
  (h1:∀ hlt:i < l.length,∀ t,t.length≤603→P1 ((i:Int)+1) (b++t) (b++t++((l.drop (i+1)).flatMap ptS++[34])))
  (h2:∀ hlt:i < l.length,P2 i b (b++qS l[i].Text++((l.drop (i+1)).flatMap ptS++[34]))):T1Q l P1 P2 i b (b++((l.drop i).flatMap ptS++[34])):=by
 have h60:=hl.1
 refine⟨fun hlt=>?_,fun hge=>⟨big1 (by omega),by rw[List.drop_of_length_le (by omega)];rfl⟩⟩
 have hlt:i < l.length:=by omega
 have hg:l[((i:Nat):Int).toNat]?=some l[i]:=by rw[Int.toNat_natCast];exact List.getElem?_eq_getElem hlt
 have hd:l.drop i=l[i]::l.drop (i+1):=List.drop_eq_getElem_cons hlt
 have hp:=hl.2 _ (List.getElem_mem hlt)
 have h1:=h1 hlt
 have h2:=h2 hlt
 rw[hd,List.flatMap_cons]
 generalize l[i]=p at *
 refine⟨by omega,_,hg,fun hr=>⟨big1 (by omega),big1 (by omega),big1 (by omega),⟨by omega,by omega⟩,?_⟩,fun hr=>?_⟩
 ·have:=h1 ([36,123]++p.Text++[125]) (by simp;omega)
  rw[ptS,if_pos hr]
  simpa using this
 rw[ptS,if_neg hr]
 simpa using h2
theorem quote_gen {l:List Part} (hl:QB l) {P1:Int→List UInt8→List UInt8→Prop} {P:Int→Int→List UInt8→List UInt8→Prop} (h1:∀ i b r,T1Q l P1 (fun i b r=>P i 0 b r) i b r→P1 i b r) (hs:∀ i k b r,T2Q l P1 P P P i k b r→P i k b r):∀ (m i:Nat) (b:List UInt8),i+m=l.length→b.length+603*m≤900000→P1 i b (b++((l.drop i).flatMap ptS++[34]))
 | 0,i,b,hi,hb=>h1 _ _ _ (T1Q_in hl (by omega) (by omega) (fun h=>by omega) (fun h=>by omega))
 | m+1,i,b,hi,hb=>by
  have hlt:i < l.length:=by omega
  have hp:=hl.2 _ (List.getElem_mem hlt)
  refine h1 _ _ _ (T1Q_in hl (by omega) (by omega) (fun _ t ht=>?_) (fun _=>?_))
  ·exact quote_gen hl h1 hs m (i+1) (b++t) (by omega) (by rw[List.length_append];omega)
  refine text_gen hs hlt hl.1 hp _ l[i].Text.length 0 b (by omega) (by omega) fun b' hb'=>?_
  exact quote_gen hl h1 hs m (i+1) b' (by omega) (by omega)
theorem r_refQuote (l:List Part) (hl:QB l):R_Q70 l (qtS l):=by
 have h60:=hl.1
 have b1:=quote_gen hl (fun i b r h=>At_Q70_1b_step l i b r h) (fun i k b r h=>At_Q70_2b_step l i k b r h)
 have c1:=quote_gen hl (fun i b r h=>At_Q70_1c_step l i b r h) (fun i k b r h=>At_Q70_2f_step l i k b r h)
 have d1:=quote_gen hl (fun i b r h=>At_Q70_1d_step l i b r h) (fun i k b r h=>At_Q70_2g_step l i k b r h)
 have e1:=quote_gen hl (fun i b r h=>At_Q70_1e_step l i b r h) (fun i k b r h=>At_Q70_2h_step l i k b r h)
 have loop:∀ (m i:Nat) (b:List UInt8),i+m=l.length→b.length+603*m≤900000→At_Q70_1 l b i (b++((l.drop i).flatMap ptS++[34])):=by
  intro m
  induction m with
  | zero=>exact fun i b hi hb=>At_Q70_1_step _ _ _ _ (T1Q_in (P1:=fun i b r=>At_Q70_1b l i b r) (P2:=fun i b r=>At_Q70_2 l i b 0 r) hl (by omega) (by omega) (fun h=>by omega) (fun h=>by omega))
  | succ m ih =>
   intro i b hi hb
   have hlt:i < l.length:=by omega
   have hp:=hl.2 _ (List.getElem_mem hlt)
   refine At_Q70_1_step _ _ _ _ (T1Q_in (P1:=fun i b r=>At_Q70_1b l i b r) (P2:=fun i b r=>At_Q70_2 l i b 0 r) hl (by omega) (by omega) (fun _ t ht=>?_) (fun _=>?_))
   ·exact b1 m (i+1) (b++t) (by omega) (by rw[List.length_append];omega)
   have hz:l[i].Text=l[i].Text.drop 0:=rfl
   rw[hz]
   refine At_Q70_2_step l i b 0 _ (T2Q_in (P1:=fun i b r=>At_Q70_1 l b i r) (Pe:=fun i k b r=>At_Q70_2c l i k b r) (Pn:=fun i k b r=>At_Q70_2d l i k b r) (Po:=fun i k b r=>At_Q70_2e l i k b r) (k:=0) hlt hl.1 hp (by omega) (by omega) (fun t ht h0=>?_) (fun t ht h0=>?_) (fun t ht h0=>?_) ?_)
   ·exact text_gen (P1:=fun i b r=>At_Q70_1c l i b r) (P:=fun i k b r=>At_Q70_2c l i k b r) (fun i k b r h=>At_Q70_2c_step l i k b r h) hlt hl.1 hp _ (l[i].Text.length - 1) 1 (b++t) (by omega) (by rw[List.length_append];omega) fun b' hb'=>c1 m (i+1) b' (by omega) (by rw[List.length_append] at hb';omega)
   ·exact text_gen (P1:=fun i b r=>At_Q70_1d l i b r) (P:=fun i k b r=>At_Q70_2d l i k b r) (fun i k b r h=>At_Q70_2d_step l i k b r h) hlt hl.1 hp _ (l[i].Text.length - 1) 1 (b++t) (by omega) (by rw[List.length_append];omega) fun b' hb'=>d1 m (i+1) b' (by omega) (by rw[List.length_append] at hb';omega)
   ·exact text_gen (P1:=fun i b r=>At_Q70_1e l i b r) (P:=fun i k b r=>At_Q70_2e l i k b r) (fun i k b r h=>At_Q70_2e_step l i k b r h) hlt hl.1 hp _ (l[i].Text.length - 1) 1 (b++t) (by omega) (by rw[List.length_append];omega) fun b' hb'=>e1 m (i+1) b' (by omega) (by rw[List.length_append] at hb';omega)
   exact ih (i+1) b (by omega) (by omega)
 have:=loop l.length 0 [34] (by omega) (by simp;omega)
 exact Q70_tree _ _ this
end Go.Proofs.YtfbcnpbhhooapaaGreatDoor.M
namespace Go.Proofs.YtfbcnpbhhooapaaGreatDoor.M
open Go
set_option linter.unusedVariables false
def c_Q73_1:SC:=.seq (.reg [⟨some 2,none,.v (.mov (.c (.int .i64 2)))⟩]) .ret
def c_Q73_2:SC:=.cond (.t 3) (.seq (.reg [⟨some 2,none,.v (.mov (.c (.int .i64 (-2))))⟩]) .ret) (.seq (.reg [⟨some 11,none,.v (.mov (.t 0))⟩,⟨some 12,none,.v (.bin .leq (.t 11) (.c (.int .i64 4)))⟩,⟨some 10,none,.v (.mov (.t 12))⟩]) (.cond (.t 10) (.seq (.reg [⟨some 2,none,.v (.mov (.c (.int .i64 0)))⟩]) .ret) (.seq (.reg [⟨some 14,none,.v (.mov (.t 0))⟩,⟨some 15,none,.v (.bin .eql (.t 14) (.c (.int .i64 5)))⟩,⟨some 16,none,.v (.mov (.t 15))⟩,⟨some 17,some (16,false),.v (.mov (.t 0))⟩,⟨some 18,some (16,false),.v (.bin .eql (.t 17) (.c (.int .i64 6)))⟩,⟨some 19,none,.v (.pick (.t 16) (.c (.bool true)) (.t 18))⟩,⟨some 13,none,.v (.mov (.t 19))⟩]) (.cond (.t 13) (.seq (.reg [⟨some 2,none,.v (.mov (.c (.int .i64 (-1))))⟩]) .ret) (.seq (.reg [⟨some 21,none,.v (.mov (.t 0))⟩,⟨some 22,none,.v (.bin .eql (.t 21) (.c (.int .i64 8)))⟩,⟨some 23,none,.v (.mov (.t 22))⟩,⟨some 24,some (23,false),.v (.mov (.t 0))⟩,⟨some 25,some (23,false),.v (.bin .eql (.t 24) (.c (.int .i64 9)))⟩,⟨some 26,none,.v (.pick (.t 23) (.c (.bool true)) (.t 25))⟩,⟨some 20,none,.v (.mov (.t 26))⟩]) (.cond (.t 20) (.seq (.reg [⟨some 2,none,.v (.mov (.c (.int .i64 1)))⟩]) .ret) (.seq (.reg [⟨some 28,none,.v (.mov (.t 0))⟩,⟨some 29,none,.v (.bin .eql (.t 28) (.c (.int .i64 10)))⟩,⟨some 27,none,.v (.mov (.t 29))⟩]) (.cond (.t 27) (.seq (.reg [⟨some 2,none,.v (.mov (.c (.int .i64 3)))⟩]) .ret) .skip))))))))
def c_Q73_3:SC:=.seq (.block 0 (.seq (.reg [⟨some 4,none,.v (.mov (.t 0))⟩,⟨some 5,none,.v (.bin .lss (.t 4) (.c (.int .i64 1)))⟩,⟨some 6,none,.v (.mov (.t 5))⟩,⟨some 7,some (6,false),.v (.mov (.t 0))⟩,⟨some 8,some (6,false),.v (.bin .gtr (.t 7) (.c (.int .i64 23)))⟩,⟨some 9,none,.v (.pick (.t 6) (.c (.bool true)) (.t 8))⟩,⟨some 3,none,.v (.mov (.t 9))⟩]) c_Q73_2)) c_Q73_1
def sc_Q73:SFunc:=⟨1,30,.seq (.reg [⟨some 2,none,.v (.mov (.c (.int .i64 0)))⟩]) c_Q73_3,[(.t 2)]⟩
theorem U_Q73:type_of% (aI (ue c_Q73_1.eq_1)<|aI (ue c_Q73_2.eq_1)<|aI (ue c_Q73_3.eq_1)<|sc_Q73.eq_1):=aI (ue c_Q73_1.eq_1)<|aI (ue c_Q73_2.eq_1)<|aI (ue c_Q73_3.eq_1)<|sc_Q73.eq_1
theorem comp_Q73:comp Tryz.prog Tryz.f73=some sc_Q73:=by kernel_rfl
def sc_Q114:SFunc:=⟨1,9,.seq (.reg [⟨some 2,none,.v (.mov (.c (.bool false)))⟩]) (.seq (.reg [⟨some 3,none,.v (.mov (.t 0))⟩,⟨some 4,none,.v (.bin .eql (.t 3) (.c (.str [116,114,117,101])))⟩,⟨some 5,none,.v (.mov (.t 4))⟩,⟨some 6,some (5,false),.v (.mov (.t 0))⟩,⟨some 7,some (5,false),.v (.bin .eql (.t 6) (.c (.str [102,97,108,115,101])))⟩,⟨some 8,none,.v (.pick (.t 5) (.c (.bool true)) (.t 7))⟩,⟨some 2,none,.v (.mov (.t 8))⟩]) .ret),[(.t 2)]⟩
theorem U_Q114:type_of% (sc_Q114.eq_1):=sc_Q114.eq_1
theorem comp_Q114:comp Tryz.prog Tryz.f114=some sc_Q114:=by kernel_rfl
def sc_Q113:SFunc:=⟨1,21,.seq (.reg [⟨some 2,none,.v (.mov (.c (.bool false)))⟩]) (.seq (.reg [⟨some 7,none,.v (.mov (.t 0))⟩,⟨some 8,none,.call (.c (.func 112 [])) [(.t 7),(.c (.str [46]))]⟩,⟨some 6,none,.v (.mov (.t 8))⟩,⟨some 9,none,.v (.extract 0 (.t 6))⟩,⟨some 10,none,.v (.extract 1 (.t 6))⟩,⟨some 11,none,.v (.extract 2 (.t 6))⟩,⟨some 3,none,.v (.mov (.t 9))⟩,⟨some 4,none,.v (.mov (.t 10))⟩,⟨some 5,none,.v (.mov (.t 11))⟩]) (.seq (.reg [⟨some 12,none,.v (.mov (.t 5))⟩,⟨some 13,none,.v (.mov (.t 12))⟩,⟨some 14,some (13,true),.v (.mov (.t 3))⟩,⟨some 15,some (13,true),.call (.c (.func 115 [])) [(.t 14)]⟩,⟨some 16,none,.v (.pick (.t 13) (.t 15) (.c (.bool false)))⟩,⟨some 17,none,.v (.mov (.t 16))⟩,⟨some 18,some (17,true),.v (.mov (.t 4))⟩,⟨some 19,some (17,true),.call (.c (.func 115 [])) [(.t 18)]⟩,⟨some 20,none,.v (.pick (.t 17) (.t 19) (.c (.bool false)))⟩,⟨some 2,none,.v (.mov (.t 20))⟩]) .ret)),[(.t 2)]⟩
theorem U_Q113:type_of% (sc_Q113.eq_1):=sc_Q113.eq_1
theorem comp_Q113:comp Tryz.prog Tryz.f113=some sc_Q113:=by kernel_rfl
def c_Q152_1:SC:=.seq (.reg [⟨some 2,none,.v (.mov (.c (.bool true)))⟩]) .ret
def b_Q152_1:SC:=.seq (.reg [⟨some 7,none,.v (.bin .lss (.t 6) (.t 5))⟩]) (.seq (.cond (.t 7) .skip (.exit 0)) (.seq (.block 1 (.seq (.reg [⟨some 8,none,.v (.mov (.t 6))⟩,⟨some 3,none,.v (.mov (.t 8))⟩]) (.seq (.reg [⟨some 9,none,.v (.mov (.t 0))⟩,⟨some 10,none,.v (.mov (.t 3))⟩,⟨some 11,none,.v (.istr (.t 9) (.t 10))⟩,⟨some 12,none,.v (.bin .lss (.t 11) (.c (.int .u8 32)))⟩,⟨some 13,none,.v (.mov (.t 12))⟩,⟨some 14,some (13,true),.v (.mov (.t 0))⟩,⟨some 15,some (13,true),.v (.mov (.t 3))⟩,⟨some 16,some (13,true),.v (.istr (.t 14) (.t 15))⟩,⟨some 17,some (13,true),.v (.bin .neq (.t 16) (.c (.int .u8 10)))⟩,⟨some 18,none,.v (.pick (.t 13) (.t 17) (.c (.bool false)))⟩]) (.cond (.t 18) (.seq (.reg [⟨some 2,none,.v (.mov (.c (.bool false)))⟩]) .ret) .skip)))) (.reg [⟨some 19,none,.v (.bin .add (.t 6) (.c (.int .i64 1)))⟩,⟨some 6,none,.v (.mov (.t 19))⟩])))
def sc_Q152:SFunc:=⟨1,20,.seq (.reg [⟨some 2,none,.v (.mov (.c (.bool false)))⟩]) (.seq (.seq (.reg [⟨some 4,none,.v (.mov (.t 0))⟩,⟨some 5,none,.v (.len true (.t 4))⟩,⟨some 6,none,.v (.mov (.c (.int .i64 0)))⟩]) (.block 0 (.loop b_Q152_1))) c_Q152_1),[(.t 2)]⟩
noncomputable def k_Q152_1 (SP:Prg) (x:EO):CO:=fin [(.t 2)] (thC SP (inBlk 0 (x)) c_Q152_1)
theorem U_Q152:type_of% (aI (ue c_Q152_1.eq_1)<|aI (ue b_Q152_1.eq_1)<|sc_Q152.eq_1):=aI (ue c_Q152_1.eq_1)<|aI (ue b_Q152_1.eq_1)<|sc_Q152.eq_1
theorem comp_Q152:comp Tryz.prog Tryz.f152=some sc_Q152:=by kernel_rfl
def c_Q116_1:SC:=.seq (.reg [⟨some 2,none,.v (.mov (.c (.bool true)))⟩]) .ret
def c_Q116_2:SC:=.reg [⟨some 40,none,.v (.bin .add (.t 7) (.c (.int .i64 1)))⟩,⟨some 7,none,.v (.mov (.t 40))⟩]
def c_Q116_3:SC:=.seq (.reg [⟨some 18,none,.v (.faddr 1 (.t 4))⟩,⟨some 19,none,.v (.load none (.t 18))⟩,⟨some 20,none,.v (.bin .eql (.t 19) (.c (.str [])))⟩,⟨some 21,none,.v (.mov (.t 20))⟩,⟨some 22,some (21,false),.v (.mov (.t 3))⟩,⟨some 23,some (21,false),.v (.bin .gtr (.t 22) (.c (.int .i64 0)))⟩,⟨some 24,some (21,false),.v (.mov (.t 23))⟩,⟨some 25,some (24,true),.v (.mov (.t 0))⟩,⟨some 26,some (24,true),.v (.mov (.t 3))⟩,⟨some 27,some (24,true),.v (.bin .sub (.t 26) (.c (.int .i64 1)))⟩,⟨some 28,some (24,true),.v (.iaddr 2 (.t 25) (.t 27))⟩,⟨some 29,some (24,true),.v (.faddr 0 (.t 28))⟩,⟨some 30,some (24,true),.v (.load none (.t 29))⟩,⟨some 31,some (24,true),.v (.un .not (.t 30))⟩,⟨some 32,some (21,false),.v (.pick (.t 24) (.t 31) (.c (.bool false)))⟩,⟨some 33,none,.v (.pick (.t 21) (.c (.bool true)) (.t 32))⟩,⟨some 34,none,.v (.mov (.t 33))⟩,⟨some 35,some (34,false),.v (.faddr 1 (.t 4))⟩,⟨some 36,some (34,false),.v (.load none (.t 35))⟩,⟨some 37,some (34,false),.call (.c (.func 152 [])) [(.t 36)]⟩,⟨some 38,some (34,false),.v (.un .not (.t 37))⟩,⟨some 39,none,.v (.pick (.t 34) (.c (.bool true)) (.t 38))⟩]) (.cond (.t 39) (.seq (.reg [⟨some 2,none,.v (.mov (.c (.bool false)))⟩]) .ret) .skip)
def c_Q116_4:SC:=.seq (.seq (.reg [⟨some 12,none,.v (.faddr 0 (.t 4))⟩,⟨some 13,none,.v (.load none (.t 12))⟩]) (.cond (.t 13) (.seq (.seq (.reg [⟨some 14,none,.v (.faddr 1 (.t 4))⟩,⟨some 15,none,.v (.load none (.t 14))⟩,⟨some 16,none,.call (.c (.func 113 [])) [(.t 15)]⟩,⟨some 17,none,.v (.un .not (.t 16))⟩]) (.cond (.t 17) (.seq (.reg [⟨some 2,none,.v (.mov (.c (.bool false)))⟩]) .ret) .skip)) (.exit 1)) .skip)) c_Q116_3
def c_Q116_5:SC:=.seq (.block 1 (.seq (.reg [⟨some 9,none,.v (.mov (.t 7))⟩,⟨some 10,none,.v (.iaddr 2 (.t 5) (.t 7))⟩,⟨some 11,none,.v (.load (some 2) (.t 10))⟩,⟨some 4,none,.alloc [(.bool false),(.str [])]⟩,⟨some 3,none,.v (.mov (.t 9))⟩,⟨none,none,.store 2 (.t 4) (.t 11)⟩]) c_Q116_4)) c_Q116_2
def c_Q116_6:SC:=.seq (.cond (.t 8) .skip (.exit 0)) c_Q116_5
def b_Q116_1:SC:=.seq (.reg [⟨some 8,none,.v (.bin .lss (.t 7) (.t 6))⟩]) c_Q116_6
def c_Q116_7:SC:=.block 0 (.loop b_Q116_1)
def c_Q116_8:SC:=.seq (.seq (.reg [⟨some 5,none,.v (.mov (.t 0))⟩,⟨some 6,none,.v (.len false (.t 5))⟩,⟨some 7,none,.v (.mov (.c (.int .i64 0)))⟩]) c_Q116_7) c_Q116_1
def sc_Q116:SFunc:=⟨1,41,.seq (.reg [⟨some 2,none,.v (.mov (.c (.bool false)))⟩]) c_Q116_8,[(.t 2)]⟩
noncomputable def k_Q116_1 (SP:Prg) (x:EO):CO:=fin [(.t 2)] (thC SP (inBlk 0 (x)) c_Q116_1)
theorem U_Q116:type_of% (aI (ue c_Q116_1.eq_1)<|aI (ue c_Q116_2.eq_1)<|aI (ue c_Q116_3.eq_1)<|aI (ue c_Q116_4.eq_1)<|aI (ue c_Q116_5.eq_1)<|aI (ue c_Q116_6.eq_1)<|aI (ue b_Q116_1.eq_1)<|aI (ue c_Q116_7.eq_1)<|aI (ue c_Q116_8.eq_1)<|sc_Q116.eq_1):=aI (ue c_Q116_1.eq_1)<|aI (ue c_Q116_2.eq_1)<|aI (ue c_Q116_3.eq_1)<|aI (ue c_Q116_4.eq_1)<|aI (ue c_Q116_5.eq_1)<|aI (ue c_Q116_6.eq_1)<|aI (ue b_Q116_1.eq_1)<|aI (ue c_Q116_7.eq_1)<|aI (ue c_Q116_8.eq_1)<|sc_Q116.eq_1
theorem comp_Q116:comp Tryz.prog Tryz.f116=some sc_Q116:=by kernel_rfl
def c_Q74_1:SC:=.seq (.reg [⟨some 69,none,.v (.mov (.t 3))⟩,⟨some 70,none,.v (.mov (.t 69))⟩,⟨some 71,some (70,true),.v (.mov (.t 4))⟩,⟨some 72,none,.v (.pick (.t 70) (.t 71) (.c (.bool false)))⟩,⟨some 73,none,.v (.mov (.t 72))⟩,⟨some 74,some (73,true),.v (.mov (.t 5))⟩,⟨some 75,none,.v (.pick (.t 73) (.t 74) (.c (.bool false)))⟩,⟨some 2,none,.v (.mov (.t 75))⟩]) .ret
def c_Q74_2:SC:=.cond (.t 36) (.seq (.reg [⟨some 39,none,.v (.faddr 2 (.t 1))⟩,⟨some 40,none,.v (.load none (.t 39))⟩,⟨some 41,none,.call (.c (.func 112 [])) [(.t 40),(.c (.str [46]))]⟩,⟨some 38,none,.v (.mov (.t 41))⟩,⟨some 42,none,.v (.extract 0 (.t 38))⟩,⟨some 43,none,.v (.extract 1 (.t 38))⟩,⟨some 44,none,.v (.extract 2 (.t 38))⟩,⟨some 6,none,.v (.mov (.t 42))⟩,⟨some 7,none,.v (.mov (.t 43))⟩,⟨some 8,none,.v (.mov (.t 44))⟩]) (.reg [⟨some 45,none,.v (.faddr 2 (.t 1))⟩,⟨some 46,none,.v (.load none (.t 45))⟩,⟨some 47,none,.call (.c (.func 113 [])) [(.t 46)]⟩,⟨some 48,none,.v (.mov (.t 47))⟩,⟨some 49,some (48,true),.v (.mov (.t 6))⟩,⟨some 50,some (48,true),.call (.c (.func 114 [])) [(.t 49)]⟩,⟨some 51,some (48,true),.v (.un .not (.t 50))⟩,⟨some 52,none,.v (.pick (.t 48) (.t 51) (.c (.bool false)))⟩,⟨some 4,none,.v (.mov (.t 52))⟩])) (.seq (.reg [⟨some 54,none,.v (.bin .eql (.t 20) (.c (.int .i64 5)))⟩,⟨some 53,none,.v (.mov (.t 54))⟩]) (.cond (.t 53) (.reg [⟨some 55,none,.v (.faddr 2 (.t 1))⟩,⟨some 56,none,.v (.load none (.t 55))⟩,⟨some 57,none,.call (.c (.func 115 [])) [(.t 56)]⟩,⟨some 58,none,.v (.mov (.t 57))⟩,⟨some 59,some (58,true),.v (.faddr 2 (.t 1))⟩,⟨some 60,some (58,true),.v (.load none (.t 59))⟩,⟨some 61,some (58,true),.call (.c (.func 114 [])) [(.t 60)]⟩,⟨some 62,some (58,true),.v (.un .not (.t 61))⟩,⟨some 63,none,.v (.pick (.t 58) (.t 62) (.c (.bool false)))⟩,⟨some 4,none,.v (.mov (.t 63))⟩]) (.seq (.reg [⟨some 65,none,.v (.bin .eql (.t 20) (.c (.int .i64 2)))⟩,⟨some 64,none,.v (.mov (.t 65))⟩]) (.cond (.t 64) (.reg [⟨some 66,none,.v (.faddr 3 (.t 1))⟩,⟨some 67,none,.v (.load none (.t 66))⟩,⟨some 68,none,.call (.c (.func 116 [])) [(.t 67)]⟩,⟨some 5,none,.v (.mov (.t 68))⟩]) .skip))))
def c_Q74_3:SC:=.cond (.t 26) (.reg [⟨some 28,none,.v (.faddr 1 (.t 1))⟩,⟨some 29,none,.v (.load none (.t 28))⟩,⟨some 30,none,.v (.bin .eql (.t 29) (.c (.int .i64 0)))⟩,⟨some 31,none,.v (.mov (.t 30))⟩,⟨some 32,some (31,false),.v (.faddr 1 (.t 1))⟩,⟨some 33,some (31,false),.v (.load none (.t 32))⟩,⟨some 34,some (31,false),.v (.bin .eql (.t 33) (.c (.int .i64 1)))⟩,⟨some 35,none,.v (.pick (.t 31) (.c (.bool true)) (.t 34))⟩,⟨some 3,none,.v (.mov (.t 35))⟩]) (.seq (.reg [⟨some 37,none,.v (.bin .eql (.t 20) (.c (.int .i64 4)))⟩,⟨some 36,none,.v (.mov (.t 37))⟩]) c_Q74_2)
def c_Q74_4:SC:=.cond (.t 21) (.reg [⟨some 23,none,.v (.faddr 1 (.t 1))⟩,⟨some 24,none,.v (.load none (.t 23))⟩,⟨some 25,none,.v (.bin .geq (.t 24) (.c (.int .i64 0)))⟩,⟨some 3,none,.v (.mov (.t 25))⟩]) (.seq (.reg [⟨some 27,none,.v (.bin .eql (.t 20) (.c (.int .i64 3)))⟩,⟨some 26,none,.v (.mov (.t 27))⟩]) c_Q74_3)
def c_Q74_5:SC:=.block 0 (.seq (.reg [⟨some 22,none,.v (.bin .eql (.t 20) (.c (.int .i64 1)))⟩,⟨some 21,none,.v (.mov (.t 22))⟩]) c_Q74_4)
def c_Q74_6:SC:=.seq (.seq (.reg [⟨some 19,none,.v (.faddr 0 (.t 1))⟩,⟨some 20,none,.v (.load none (.t 19))⟩]) c_Q74_5) c_Q74_1
def c_Q74_7:SC:=.seq (.dreg [⟨some 9,none,.v (.faddr 1 (.t 1))⟩,⟨some 10,none,.v (.load none (.t 9))⟩,⟨some 11,none,.v (.bin .eql (.t 10) (.c (.int .i64 0)))⟩,⟨some 12,none,.v (.faddr 2 (.t 1))⟩,⟨some 13,none,.v (.load none (.t 12))⟩,⟨some 14,none,.v (.bin .eql (.t 13) (.c (.str [])))⟩,⟨some 15,none,.v (.faddr 3 (.t 1))⟩,⟨some 16,none,.v (.load none (.t 15))⟩,⟨some 17,none,.v (.len false (.t 16))⟩,⟨some 18,none,.v (.bin .eql (.t 17) (.c (.int .i64 0)))⟩,⟨some 3,none,.v (.mov (.t 11))⟩,⟨some 4,none,.v (.mov (.t 14))⟩,⟨some 5,none,.v (.mov (.t 18))⟩] [false,false,false,false,false,false,false,false,false,false,false,false,true]) c_Q74_6
def sc_Q74:SFunc:=⟨1,76,.seq (.reg [⟨some 1,none,.box (.t 0)⟩,⟨some 2,none,.v (.mov (.c (.bool false)))⟩]) c_Q74_7,[(.t 2)]⟩
theorem U_Q74:type_of% (aI (ue c_Q74_1.eq_1)<|aI (ue c_Q74_2.eq_1)<|aI (ue c_Q74_3.eq_1)<|aI (ue c_Q74_4.eq_1)<|aI (ue c_Q74_5.eq_1)<|aI (ue c_Q74_6.eq_1)<|aI (ue c_Q74_7.eq_1)<|sc_Q74.eq_1):=aI (ue c_Q74_1.eq_1)<|aI (ue c_Q74_2.eq_1)<|aI (ue c_Q74_3.eq_1)<|aI (ue c_Q74_4.eq_1)<|aI (ue c_Q74_5.eq_1)<|aI (ue c_Q74_6.eq_1)<|aI (ue c_Q74_7.eq_1)<|sc_Q74.eq_1
theorem comp_Q74:comp Tryz.prog Tryz.f74=some sc_Q74:=by kernel_rfl
def sc_Q26:SFunc:=⟨1,14,.seq (.reg [⟨some 2,none,.v (.mov (.c (.bool false)))⟩]) (.seq (.reg [⟨some 3,none,.v (.mov (.t 0))⟩,⟨some 4,none,.v (.len false (.t 3))⟩,⟨some 5,none,.v (.bin .gtr (.t 4) (.c (.int .i64 0)))⟩,⟨some 6,none,.v (.mov (.t 5))⟩,⟨some 7,some (6,true),.v (.mov (.t 0))⟩,⟨some 8,some (6,true),.v (.mov (.t 0))⟩,⟨some 9,some (6,true),.v (.len false (.t 8))⟩,⟨some 10,some (6,true),.v (.bin .sub (.t 9) (.c (.int .i64 1)))⟩,⟨some 11,some (6,true),.call (.c (.func 47 [])) [(.t 7),(.t 10)]⟩,⟨some 12,some (6,true),.v (.bin .eql (.t 11) (.c (.int .i64 0)))⟩,⟨some 13,none,.v (.pick (.t 6) (.t 12) (.c (.bool false)))⟩,⟨some 2,none,.v (.mov (.t 13))⟩]) .ret),[(.t 2)]⟩
theorem U_Q26:type_of% (sc_Q26.eq_1):=sc_Q26.eq_1
theorem comp_Q26:comp Tryz.prog Tryz.f26=some sc_Q26:=by kernel_rfl
end Go.Proofs.YtfbcnpbhhooapaaGreatDoor.M
namespace Go.Proofs.YtfbcnpbhhooapaaGreatDoor.M
set_option linter.unusedSimpArgs false
set_option linter.unusedVariables false
open Go Classical
theorem sp_Q73:SP 73=some (.code sc_Q73):=SPof_code rfl Tryz.func73 comp_Q73
theorem Q73_tree (kind:Int) (r:Int) (T :
  ((kind < 1) →
  (-2)=r) ∧
 (¬ (kind < 1) →
  ((23 < kind) →
   (-2)=r) ∧
  (¬ (23 < kind) →
   ((kind≤4) →
    0=r) ∧
   (¬ (kind≤4) →
    ((kind=5) →
     (-1)=r) ∧
    (¬ (kind=5) →
     ((kind=6) →
      (-1)=r) ∧
     (¬ (kind=6) →
      ((kind=8) →
       1=r) ∧
      (¬ (kind=8) →
       ((kind=9) →
        1=r) ∧
       (¬ (kind=9) →
        ((kind=10) →
         3=r) ∧
        (¬ (kind=10) →
         2=r))))))))):R_Q73 kind r:=by
 intro S
 rw[call_code sp_Q73 _ _ rfl]
 have F:=U_Q73
 by_cases c1:kind < 1
 ·replace T:=T.1 c1
  obtain rfl:=T
  exact fi (aa (eq_true c1)<|F)
 replace T:=T.2 c1
 replace F:=aa (eq_false c1)<|F
 by_cases c2:23 < kind
 ·replace T:=T.1 c2
  obtain rfl:=T
  exact fi (aa (eq_true c2)<|F)
 replace T:=T.2 c2
 replace F:=aa (eq_false c2)<|F
 by_cases c3:kind≤4
 ·replace T:=T.1 c3
  obtain rfl:=T
  exact fi (aa (eq_true c3)<|F)
 replace T:=T.2 c3
 replace F:=aa (eq_false c3)<|F
 by_cases c4:kind=5
 ·replace T:=T.1 c4
  obtain rfl:=T
  exact fi (aa (eq_true c4)<|F)
 replace T:=T.2 c4
 replace F:=aa (eq_false c4)<|F
 by_cases c5:kind=6
 ·replace T:=T.1 c5
  obtain rfl:=T
  exact fi (aa (eq_true c5)<|F)
 replace T:=T.2 c5
 replace F:=aa (eq_false c5)<|F
 by_cases c6:kind=8
 ·replace T:=T.1 c6
  obtain rfl:=T
  exact fi (aa (eq_true c6)<|F)
 replace T:=T.2 c6
 replace F:=aa (eq_false c6)<|F
 by_cases c7:kind=9
 ·replace T:=T.1 c7
  obtain rfl:=T
  exact fi (aa (eq_true c7)<|F)
 replace T:=T.2 c7
 replace F:=aa (eq_false c7)<|F
 by_cases c8:kind=10
 ·replace T:=T.1 c8
  obtain rfl:=T
  exact fi (aa (eq_true c8)<|F)
 replace T:=T.2 c8
 obtain rfl:=T
 exact fi (aa (eq_false c8)<|F)
theorem sp_Q114:SP 114=some (.code sc_Q114):=SPof_code rfl Tryz.func114 comp_Q114
theorem Q114_tree (s:List UInt8) (r:Bool) (T :
  ((s=[116,114,117,101]) →
  true=r) ∧
 (¬ (s=[116,114,117,101]) →
  (decide (s=[102,97,108,115,101]))=r)):R_Q114 s r:=by
 intro S
 rw[call_code sp_Q114 _ _ rfl]
 have F:=U_Q114
 by_cases c1:s=[116,114,117,101]
 ·replace T:=T.1 c1
  obtain rfl:=T
  exact fi (aa (eq_true c1)<|F)
 replace T:=T.2 c1
 obtain rfl:=T
 exact fi (aa (eq_false c1)<|F)
theorem sp_Q113:SP 113=some (.code sc_Q113):=SPof_code rfl Tryz.func113 comp_Q113
theorem Q113_tree (s:List UInt8) (r:Bool) (T :
  ∃ (r1:List UInt8) (r2:List UInt8) (r3:Bool),(R_strings_Cut s [46] r1 r2 r3) ∧
 ((r3=true) →
  ∃ (r4:Bool),(R_Q115 r1 r4) ∧
  ((r4=true) →
   ∃ (r5:Bool),(R_Q115 r2 r5) ∧
   r5=r) ∧
  (¬ (r4=true) →
   false=r)) ∧
 (¬ (r3=true) →
  false=r)):R_Q113 s r:=by
 intro S
 rw[call_code sp_Q113 _ _ rfl]
 have F:=U_Q113
 obtain⟨r1,r2,r3,q1,T⟩:=T
 simp only[R_strings_Cut,lF] at q1
 replace F:=aa q1<|F
 by_cases c2:r3=true
 ·replace T:=T.1 c2
  obtain⟨r4,q3,T⟩:=T
  simp only[R_Q115,lF] at q3
  replace F:=aa c2<|aa q3<|F
  by_cases c4:r4=true
  ·replace T:=T.1 c4
   obtain⟨r5,q5,rfl⟩:=T
   simp only[R_Q115,lF] at q5
   exact fi (aa c4<|aa q5<|F)
  replace T:=T.2 c4
  replace c4:=Bool.eq_false_iff.2 c4
  obtain rfl:=T
  exact fi (aa c4<|F)
 replace T:=T.2 c2
 replace c2:=Bool.eq_false_iff.2 c2
 obtain rfl:=T
 exact fi (aa c2<|F)
theorem sp_Q152:SP 152=some (.code sc_Q152):=SPof_code rfl Tryz.func152 comp_Q152
def At_Q152_1 (s:List UInt8) (i1:Int) (r:Bool):Prop:=∀ (S:Sto) (e:Nat→PV) (f:Fr),e 0=.str s∧e 5=.int .i64 (s.length:Int)∧e 6=.int .i64 i1→k_Q152_1 SP (E SP (.loop b_Q152_1) ⟨e,f::S⟩)=.ok (.v (.bool r)) S
theorem At_Q152_1_step (s:List UInt8) (i1:Int) (r:Bool) (T :
  ((i1 < (s.length:Int)) →
  (0≤i1) ∧
  ∃ (b2:UInt8),(s[i1.toNat]?=some b2) ∧
  (((b2.toNat:Int) < 32) →
   (((b2.toNat:Int)=10) →
    (I64 (i1+1)) ∧
    At_Q152_1 s (i1+1) r) ∧
   (¬ ((b2.toNat:Int)=10) →
    false=r)) ∧
  (¬ ((b2.toNat:Int) < 32) →
   (I64 (i1+1)) ∧
   At_Q152_1 s (i1+1) r)) ∧
 (¬ (i1 < (s.length:Int)) →
  true=r)):At_Q152_1 s i1 r:=by
 intro S e f h
 unfold k_Q152_1
 rw[E_loop]
 have F:=U_Q152
 replace F:=aa h<|F
 by_cases c1:i1 < (s.length:Int)
 ·replace T:=T.1 c1
  obtain⟨p2,b2,q3,T⟩:=T
  replace F:=aa (eq_true c1)<|aa p2<|aa q3<|F
  by_cases c4:(b2.toNat:Int) < 32
  ·replace T:=T.1 c4
   replace F:=aa (eq_true c4)<|F
   by_cases c5:(b2.toNat:Int)=10
   ·replace T:=T.1 c5
    obtain⟨p6,T⟩:=T
    replace F:=aa (eq_true c5)<|aa p6.wrap<|F
    exact lo F T
   replace T:=T.2 c5
   obtain rfl:=T
   exact fi (aa (eq_false c5)<|F)
  replace T:=T.2 c4
  obtain⟨p7,T⟩:=T
  replace F:=aa (eq_false c4)<|aa p7.wrap<|F
  exact lo F T
 replace T:=T.2 c1
 obtain rfl:=T
 exact fi (aa (eq_false c1)<|F)
theorem Q152_tree (s:List UInt8) (r:Bool) (T :
  At_Q152_1 s 0 r):R_Q152 s r:=by
 intro S
 rw[call_code sp_Q152 _ _ rfl]
 have F:=U_Q152
 exact lo F T
theorem sp_Q116:SP 116=some (.code sc_Q116):=SPof_code rfl Tryz.func116 comp_Q116
def At_Q116_1 (l_:List Part) (i1:Int) (r:Bool):Prop:=∀ (S:Sto) (e:Nat→PV) (f:Fr),e 0=.list 2 (l_.map ePart) false∧e 5=.list 2 (l_.map ePart) false∧e 6=.int .i64 (l_.length:Int)∧e 7=.int .i64 i1→k_Q116_1 SP (E SP (.loop b_Q116_1) ⟨e,f::S⟩)=.ok (.v (.bool r)) S
theorem At_Q116_1_step (l_:List Part) (i1:Int) (r:Bool) (T :
  ((i1 < (l_.length:Int)) →
  (0≤i1) ∧
  ∃ (v2:Part),(l_[i1.toNat]?=some v2) ∧
  ((v2.Ref=true) →
   ∃ (r3:Bool),(R_Q113 v2.Text r3) ∧
   ((r3=true) →
    (I64 (i1+1)) ∧
    At_Q116_1 l_ (i1+1) r) ∧
   (¬ (r3=true) →
    false=r)) ∧
  (¬ (v2.Ref=true) →
   ((v2.Text=[]) →
    false=r) ∧
   (¬ (v2.Text=[]) →
    ((0 < i1) →
     (I64 (i1 - 1)) ∧
     (0≤(i1 - 1)) ∧
     ∃ (v4:Part),(l_[(i1 - 1).toNat]?=some v4) ∧
     ((v4.Ref=true) →
      ∃ (r5:Bool),(R_Q152 v2.Text r5) ∧
      ((r5=true) →
       (I64 (i1+1)) ∧
       At_Q116_1 l_ (i1+1) r) ∧
      (¬ (r5=true) →
       false=r)) ∧
     (¬ (v4.Ref=true) →
      false=r)) ∧
    (¬ (0 < i1) →
     ∃ (r6:Bool),(R_Q152 v2.Text r6) ∧
     ((r6=true) →
      (I64 (i1+1)) ∧
      At_Q116_1 l_ (i1+1) r) ∧
     (¬ (r6=true) →
      false=r))))) ∧
 (¬ (i1 < (l_.length:Int)) →
  true=r)):At_Q116_1 l_ i1 r:=by
 intro S e f h
 unfold k_Q116_1
 rw[E_loop]
 have F:=U_Q116
 replace F:=aa h<|F
 by_cases c1:i1 < (l_.length:Int)
 ·replace T:=T.1 c1
  obtain⟨p2,v2,q3,T⟩:=T
  replace F:=aa (eq_true c1)<|aa p2<|aa q3<|F
  by_cases c4:v2.Ref=true
  ·replace T:=T.1 c4
   obtain⟨r3,q5,T⟩:=T
   simp only[R_Q113,lF] at q5
   replace F:=aa c4<|aa q5<|F
   by_cases c6:r3=true
   ·replace T:=T.1 c6
    obtain⟨p7,T⟩:=T
    replace F:=aa c6<|aa p7.wrap<|F
    exact lo F T
   replace T:=T.2 c6
   replace c6:=Bool.eq_false_iff.2 c6
   obtain rfl:=T
   exact fi (aa c6<|F)
  replace T:=T.2 c4
  replace c4:=Bool.eq_false_iff.2 c4
  replace F:=aa c4<|F
  by_cases c8:v2.Text=[]
  ·replace T:=T.1 c8
   obtain rfl:=T
   exact fi (aa (eq_true c8)<|F)
  replace T:=T.2 c8
  replace F:=aa (eq_false c8)<|F
  by_cases c9:0 < i1
  ·replace T:=T.1 c9
   obtain⟨p10,p11,v4,q12,T⟩:=T
   replace F:=aa (eq_true c9)<|aa p10.wrap<|aa p11<|aa q12<|F
   by_cases c13:v4.Ref=true
   ·replace T:=T.1 c13
    obtain⟨r5,q14,T⟩:=T
    simp only[R_Q152,lF] at q14
    replace F:=aa c13<|aa q14<|F
    by_cases c15:r5=true
    ·replace T:=T.1 c15
     obtain⟨p16,T⟩:=T
     replace F:=aa c15<|aa p16.wrap<|F
     exact lo F T
    replace T:=T.2 c15
    replace c15:=Bool.eq_false_iff.2 c15
    obtain rfl:=T
    exact fi (aa c15<|F)
   replace T:=T.2 c13
   replace c13:=Bool.eq_false_iff.2 c13
   obtain rfl:=T
   exact fi (aa c13<|F)
  replace T:=T.2 c9
  obtain⟨r6,q17,T⟩:=T
  simp only[R_Q152,lF] at q17
  replace F:=aa (eq_false c9)<|aa q17<|F
  by_cases c18:r6=true
  ·replace T:=T.1 c18
   obtain⟨p19,T⟩:=T
   replace F:=aa c18<|aa p19.wrap<|F
   exact lo F T
  replace T:=T.2 c18
  replace c18:=Bool.eq_false_iff.2 c18
  obtain rfl:=T
  exact fi (aa c18<|F)
 replace T:=T.2 c1
 obtain rfl:=T
 exact fi (aa (eq_false c1)<|F)
theorem Q116_tree (l_:List Part) (r:Bool) (T :
  At_Q116_1 l_ 0 r):R_Q116 l_ r:=by
 intro S
 rw[call_code sp_Q116 _ _ rfl]
 have F:=U_Q116
 exact lo F T
theorem sp_Q74:SP 74=some (.code sc_Q74):=SPof_code rfl Tryz.func74 comp_Q74
theorem Q74_tree (n:Node) (r:Bool) (T :
  ((n.Kind=1) →
  ((0≤n.Num) →
   ((n.Text=[]) →
    (decide ((n.Parts.length:Int)=0))=r) ∧
   (¬ (n.Text=[]) →
    false=r)) ∧
  (¬ (0≤n.Num) →
   false=r)) ∧
 (¬ (n.Kind=1) →
  ((n.Kind=3) →
   ((n.Num=0) →
    ((n.Text=[]) →
     (decide ((n.Parts.length:Int)=0))=r) ∧
    (¬ (n.Text=[]) →
     false=r)) ∧
   (¬ (n.Num=0) →
    ((n.Num=1) →
     ((n.Text=[]) →
      (decide ((n.Parts.length:Int)=0))=r) ∧
     (¬ (n.Text=[]) →
      false=r)) ∧
    (¬ (n.Num=1) →
     false=r))) ∧
  (¬ (n.Kind=3) →
   ((n.Kind=4) →
    ∃ (r1:List UInt8) (r2:List UInt8) (r3:Bool),(R_strings_Cut n.Text [46] r1 r2 r3) ∧
    ∃ (r4:Bool),(R_Q113 n.Text r4) ∧
    ((r4=true) →
     ∃ (r5:Bool),(R_Q114 r1 r5) ∧
     ((n.Num=0) →
      ((r5=true) →
       false=r) ∧
      (¬ (r5=true) →
       (decide ((n.Parts.length:Int)=0))=r)) ∧
     (¬ (n.Num=0) →
      false=r)) ∧
    (¬ (r4=true) →
     ((n.Num=0) →
      false=r) ∧
     (¬ (n.Num=0) →
      false=r))) ∧
   (¬ (n.Kind=4) →
    ((n.Kind=5) →
     ∃ (r6:Bool),(R_Q115 n.Text r6) ∧
     ((r6=true) →
      ∃ (r7:Bool),(R_Q114 n.Text r7) ∧
      ((n.Num=0) →
       ((r7=true) →
        false=r) ∧
       (¬ (r7=true) →
        (decide ((n.Parts.length:Int)=0))=r)) ∧
      (¬ (n.Num=0) →
       false=r)) ∧
     (¬ (r6=true) →
      ((n.Num=0) →
       false=r) ∧
      (¬ (n.Num=0) →
       false=r))) ∧
    (¬ (n.Kind=5) →
     ((n.Kind=2) →
      ∃ (r8:Bool),(R_Q116 n.Parts r8) ∧
      ((n.Num=0) →
       ((n.Text=[]) →
        r8=r) ∧
       (¬ (n.Text=[]) →
        false=r)) ∧
      (¬ (n.Num=0) →
       false=r)) ∧
     (¬ (n.Kind=2) →
      ((n.Num=0) →
       ((n.Text=[]) →
        (decide ((n.Parts.length:Int)=0))=r) ∧
       (¬ (n.Text=[]) →
        false=r)) ∧
      (¬ (n.Num=0) →
       false=r))))))):R_Q74 n r:=by
 intro S
 rw[call_code sp_Q74 _ _ rfl]
 have F:=U_Q74
 by_cases c1:n.Kind=1
 ·replace T:=T.1 c1
  replace F:=aa (eq_true c1)<|F
  by_cases c2:0≤n.Num
  ·replace T:=T.1 c2
   replace F:=aa (eq_true c2)<|F
   by_cases c3:n.Text=[]
   ·replace T:=T.1 c3
    obtain rfl:=T
    exact fi (aa (eq_true c3)<|F)
   replace T:=T.2 c3
   obtain rfl:=T
   exact fi (aa (eq_false c3)<|F)
  replace T:=T.2 c2
  obtain rfl:=T
  exact fi (aa (eq_false c2)<|F)
 replace T:=T.2 c1
 replace F:=aa (eq_false c1)<|F
 by_cases c4:n.Kind=3
 ·replace T:=T.1 c4
  replace F:=aa (eq_true c4)<|F
  by_cases c5:n.Num=0
  ·replace T:=T.1 c5
   replace F:=aa (eq_true c5)<|F
   by_cases c6:n.Text=[]
   ·replace T:=T.1 c6
    obtain rfl:=T
    exact fi (aa (eq_true c6)<|F)
   replace T:=T.2 c6
   obtain rfl:=T
   exact fi (aa (eq_false c6)<|F)
  replace T:=T.2 c5
  replace F:=aa (eq_false c5)<|F
  by_cases c7:n.Num=1
  ·replace T:=T.1 c7
   replace F:=aa (eq_true c7)<|F
   by_cases c8:n.Text=[]
   ·replace T:=T.1 c8
    obtain rfl:=T
    exact fi (aa (eq_true c8)<|F)
   replace T:=T.2 c8
   obtain rfl:=T
   exact fi (aa (eq_false c8)<|F)
  replace T:=T.2 c7
  obtain rfl:=T
  exact fi (aa (eq_false c7)<|F)
 replace T:=T.2 c4
 replace F:=aa (eq_false c4)<|F
 by_cases c9:n.Kind=4
 ·replace T:=T.1 c9
  obtain⟨r1,r2,r3,q10,r4,q11,T⟩:=T
  simp only[R_strings_Cut,lF] at q10
  simp only[R_Q113,lF] at q11
  replace F:=aa (eq_true c9)<|aa q10<|aa q11<|F
  by_cases c12:r4=true
  ·replace T:=T.1 c12
   obtain⟨r5,q13,T⟩:=T
   simp only[R_Q114,lF] at q13
   replace F:=aa c12<|aa q13<|F
   by_cases c14:n.Num=0
   ·replace T:=T.1 c14
    replace F:=aa (eq_true c14)<|F
    by_cases c15:r5=true
    ·replace T:=T.1 c15
     obtain rfl:=T
     exact fi (aa c15<|F)
    replace T:=T.2 c15
    replace c15:=Bool.eq_false_iff.2 c15
    obtain rfl:=T
    exact fi (aa c15<|F)
   replace T:=T.2 c14
   obtain rfl:=T
   exact fi (aa (eq_false c14)<|F)
  replace T:=T.2 c12
  replace c12:=Bool.eq_false_iff.2 c12
  replace F:=aa c12<|F
  by_cases c16:n.Num=0
  ·replace T:=T.1 c16
   obtain rfl:=T
   exact fi (aa (eq_true c16)<|F)
  replace T:=T.2 c16
  obtain rfl:=T
  exact fi (aa (eq_false c16)<|F)
 replace T:=T.2 c9
 replace F:=aa (eq_false c9)<|F
 by_cases c17:n.Kind=5
 ·replace T:=T.1 c17
  obtain⟨r6,q18,T⟩:=T
  simp only[R_Q115,lF] at q18
  replace F:=aa (eq_true c17)<|aa q18<|F
  by_cases c19:r6=true
  ·replace T:=T.1 c19
   obtain⟨r7,q20,T⟩:=T
   simp only[R_Q114,lF] at q20
   replace F:=aa c19<|aa q20<|F
   by_cases c21:n.Num=0
   ·replace T:=T.1 c21
    replace F:=aa (eq_true c21)<|F
    by_cases c22:r7=true
    ·replace T:=T.1 c22
     obtain rfl:=T
     exact fi (aa c22<|F)
    replace T:=T.2 c22
    replace c22:=Bool.eq_false_iff.2 c22
    obtain rfl:=T
    exact fi (aa c22<|F)
   replace T:=T.2 c21
   obtain rfl:=T
   exact fi (aa (eq_false c21)<|F)
  replace T:=T.2 c19
  replace c19:=Bool.eq_false_iff.2 c19
  replace F:=aa c19<|F
  by_cases c23:n.Num=0
  ·replace T:=T.1 c23
   obtain rfl:=T
   exact fi (aa (eq_true c23)<|F)
  replace T:=T.2 c23
  obtain rfl:=T
  exact fi (aa (eq_false c23)<|F)
 replace T:=T.2 c17
 replace F:=aa (eq_false c17)<|F
 by_cases c24:n.Kind=2
 ·replace T:=T.1 c24
  obtain⟨r8,q25,T⟩:=T
  simp only[R_Q116,lF] at q25
  replace F:=aa (eq_true c24)<|aa q25<|F
  by_cases c26:n.Num=0
  ·replace T:=T.1 c26
   replace F:=aa (eq_true c26)<|F
   by_cases c27:n.Text=[]
   ·replace T:=T.1 c27
    obtain rfl:=T
    exact fi (aa (eq_true c27)<|F)
   replace T:=T.2 c27
   obtain rfl:=T
   exact fi (aa (eq_false c27)<|F)
  replace T:=T.2 c26
  obtain rfl:=T
  exact fi (aa (eq_false c26)<|F)
 replace T:=T.2 c24
 replace F:=aa (eq_false c24)<|F
 by_cases c28:n.Num=0
 ·replace T:=T.1 c28
  replace F:=aa (eq_true c28)<|F
  by_cases c29:n.Text=[]
  ·replace T:=T.1 c29
   obtain rfl:=T
   exact fi (aa (eq_true c29)<|F)
  replace T:=T.2 c29
  obtain rfl:=T
  exact fi (aa (eq_false c29)<|F)
 replace T:=T.2 c28
 obtain rfl:=T
 exact fi (aa (eq_false c28)<|F)
theorem sp_Q26:SP 26=some (.code sc_Q26):=SPof_code rfl Tryz.func26 comp_Q26
theorem Q26_tree (l_:List Node) (r:Bool) (T :
  ((0 < (l_.length:Int)) →
  (I64 ((l_.length:Int) - 1)) ∧
  ∃ (r1:Int),(R_Q47 l_ ((l_.length:Int) - 1) r1) ∧
  (decide (r1=0))=r) ∧
 (¬ (0 < (l_.length:Int)) →
  false=r)):R_Q26 l_ r:=by
 intro S
 rw[call_code sp_Q26 _ _ rfl]
 have F:=U_Q26
 by_cases c1:0 < (l_.length:Int)
 ·replace T:=T.1 c1
  obtain⟨p2,r1,q3,rfl⟩:=T
  simp only[R_Q47,lF] at q3
  exact fi (aa (eq_true c1)<|aa p2.wrap<|aa q3<|F)
 replace T:=T.2 c1
 obtain rfl:=T
 exact fi (aa (eq_false c1)<|F)
end Go.Proofs.YtfbcnpbhhooapaaGreatDoor.M
