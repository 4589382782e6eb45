/- Parts of a proof, one behind another: Sc2, Lt0, Q1, Q2, Q3, Q4, Exts, SpecValMade. -/
import Derived.Test.YtebflncfgjnkkaaZValMade4
import Derived.Test.YtebflncfgjnkkaaProg
import Derived.KernelRfl
/- The machine's code of the functions, printed by a program of this session (sc2.py) out of the translation. Not trusted: Lean checks each by its own computation. -/
namespace Go.Proofs.Ytebflncfgjnkkaa.M
open Go
set_option linter.unusedVariables false
/-- doorkeeper/doorkeeperref4.Two -/
def c_ref4_Two_1 : SC := .seq (.reg [⟨(some 120), none, (.v (.mov (.t 0)))⟩, ⟨(some 121), none, (.v (.faddr 1 (.t 4)))⟩, ⟨(some 122), none, (.v (.load none (.t 121)))⟩, ⟨(some 123), none, (.v (.faddr 1 (.t 5)))⟩, ⟨(some 124), none, (.v (.load none (.t 123)))⟩, ⟨(some 125), none, (.call (.c (.func 34 [])) [(.t 120), (.t 122), (.t 124)])⟩, ⟨none, none, (.store 5 (.t 6) (.t 125))⟩]) .ret
theorem c_ref4_Two_1_E {SP : Prg} (ac : Ac) : E SP c_ref4_Two_1 ac = E SP (.seq (.reg [⟨(some 120), none, (.v (.mov (.t 0)))⟩, ⟨(some 121), none, (.v (.faddr 1 (.t 4)))⟩, ⟨(some 122), none, (.v (.load none (.t 121)))⟩, ⟨(some 123), none, (.v (.faddr 1 (.t 5)))⟩, ⟨(some 124), none, (.v (.load none (.t 123)))⟩, ⟨(some 125), none, (.call (.c (.func 34 [])) [(.t 120), (.t 122), (.t 124)])⟩, ⟨none, none, (.store 5 (.t 6) (.t 125))⟩]) .ret) ac := rfl
def c_ref4_Two_2 : SC := .seq (.seq (.reg [⟨(some 40), none, (.v (.mov (.t 0)))⟩, ⟨(some 41), none, (.v (.bin .eql (.t 40) (.c (.int .i64 11))))⟩]) (.cond (.t 41) (.seq (.reg [⟨(some 42), none, (.v (.faddr 1 (.t 4)))⟩, ⟨(some 43), none, (.v (.load none (.t 42)))⟩, ⟨(some 44), none, (.v (.bin .eql (.t 43) (.c (.int .i64 1))))⟩, ⟨(some 45), none, (.v (.mov (.t 44)))⟩, ⟨(some 46), (some (45, false)), (.v (.faddr 1 (.t 5)))⟩, ⟨(some 47), (some (45, false)), (.v (.load none (.t 46)))⟩, ⟨(some 48), (some (45, false)), (.v (.bin .eql (.t 47) (.c (.int .i64 1))))⟩, ⟨(some 49), none, (.v (.pick (.t 45) (.c (.bool true)) (.t 48)))⟩, ⟨(some 50), none, (.call (.c (.func 32 [])) [(.t 49)])⟩, ⟨none, none, (.store 5 (.t 6) (.t 50))⟩]) .ret) .skip)) (.seq (.reg [⟨(some 51), none, (.v (.faddr 1 (.t 4)))⟩, ⟨(some 52), none, (.v (.load none (.t 51)))⟩, ⟨(some 53), none, (.v (.bin .eql (.t 52) (.c (.int .i64 1))))⟩, ⟨(some 54), none, (.v (.mov (.t 53)))⟩, ⟨(some 55), (some (54, true)), (.v (.faddr 1 (.t 5)))⟩, ⟨(some 56), (some (54, true)), (.v (.load none (.t 55)))⟩, ⟨(some 57), (some (54, true)), (.v (.bin .eql (.t 56) (.c (.int .i64 1))))⟩, ⟨(some 58), none, (.v (.pick (.t 54) (.t 57) (.c (.bool false))))⟩, ⟨(some 59), none, (.call (.c (.func 32 [])) [(.t 58)])⟩, ⟨none, none, (.store 5 (.t 6) (.t 59))⟩]) .ret)
theorem c_ref4_Two_2_E {SP : Prg} (ac : Ac) : E SP c_ref4_Two_2 ac = E SP (.seq (.seq (.reg [⟨(some 40), none, (.v (.mov (.t 0)))⟩, ⟨(some 41), none, (.v (.bin .eql (.t 40) (.c (.int .i64 11))))⟩]) (.cond (.t 41) (.seq (.reg [⟨(some 42), none, (.v (.faddr 1 (.t 4)))⟩, ⟨(some 43), none, (.v (.load none (.t 42)))⟩, ⟨(some 44), none, (.v (.bin .eql (.t 43) (.c (.int .i64 1))))⟩, ⟨(some 45), none, (.v (.mov (.t 44)))⟩, ⟨(some 46), (some (45, false)), (.v (.faddr 1 (.t 5)))⟩, ⟨(some 47), (some (45, false)), (.v (.load none (.t 46)))⟩, ⟨(some 48), (some (45, false)), (.v (.bin .eql (.t 47) (.c (.int .i64 1))))⟩, ⟨(some 49), none, (.v (.pick (.t 45) (.c (.bool true)) (.t 48)))⟩, ⟨(some 50), none, (.call (.c (.func 32 [])) [(.t 49)])⟩, ⟨none, none, (.store 5 (.t 6) (.t 50))⟩]) .ret) .skip)) (.seq (.reg [⟨(some 51), none, (.v (.faddr 1 (.t 4)))⟩, ⟨(some 52), none, (.v (.load none (.t 51)))⟩, ⟨(some 53), none, (.v (.bin .eql (.t 52) (.c (.int .i64 1))))⟩, ⟨(some 54), none, (.v (.mov (.t 53)))⟩, ⟨(some 55), (some (54, true)), (.v (.faddr 1 (.t 5)))⟩, ⟨(some 56), (some (54, true)), (.v (.load none (.t 55)))⟩, ⟨(some 57), (some (54, true)), (.v (.bin .eql (.t 56) (.c (.int .i64 1))))⟩, ⟨(some 58), none, (.v (.pick (.t 54) (.t 57) (.c (.bool false))))⟩, ⟨(some 59), none, (.call (.c (.func 32 [])) [(.t 58)])⟩, ⟨none, none, (.store 5 (.t 6) (.t 59))⟩]) .ret)) ac := rfl
def c_ref4_Two_3 : SC := .cond (.t 93) (.seq (.reg [⟨(some 96), none, (.v (.faddr 1 (.t 4)))⟩, ⟨(some 97), none, (.v (.load none (.t 96)))⟩, ⟨(some 98), none, (.v (.faddr 1 (.t 5)))⟩, ⟨(some 99), none, (.v (.load none (.t 98)))⟩, ⟨(some 100), none, (.v (.bin .leq (.t 97) (.t 99)))⟩, ⟨(some 101), none, (.call (.c (.func 32 [])) [(.t 100)])⟩, ⟨none, none, (.store 5 (.t 6) (.t 101))⟩]) .ret) (.seq (.reg [⟨(some 103), none, (.v (.mov (.t 0)))⟩, ⟨(some 104), none, (.v (.bin .eql (.t 103) (.c (.int .i64 17))))⟩, ⟨(some 102), none, (.v (.mov (.t 104)))⟩]) (.cond (.t 102) (.seq (.reg [⟨(some 105), none, (.v (.faddr 1 (.t 4)))⟩, ⟨(some 106), none, (.v (.load none (.t 105)))⟩, ⟨(some 107), none, (.v (.faddr 1 (.t 5)))⟩, ⟨(some 108), none, (.v (.load none (.t 107)))⟩, ⟨(some 109), none, (.v (.bin .gtr (.t 106) (.t 108)))⟩, ⟨(some 110), none, (.call (.c (.func 32 [])) [(.t 109)])⟩, ⟨none, none, (.store 5 (.t 6) (.t 110))⟩]) .ret) (.seq (.reg [⟨(some 112), none, (.v (.mov (.t 0)))⟩, ⟨(some 113), none, (.v (.bin .eql (.t 112) (.c (.int .i64 18))))⟩, ⟨(some 111), none, (.v (.mov (.t 113)))⟩]) (.cond (.t 111) (.seq (.reg [⟨(some 114), none, (.v (.faddr 1 (.t 4)))⟩, ⟨(some 115), none, (.v (.load none (.t 114)))⟩, ⟨(some 116), none, (.v (.faddr 1 (.t 5)))⟩, ⟨(some 117), none, (.v (.load none (.t 116)))⟩, ⟨(some 118), none, (.v (.bin .geq (.t 115) (.t 117)))⟩, ⟨(some 119), none, (.call (.c (.func 32 [])) [(.t 118)])⟩, ⟨none, none, (.store 5 (.t 6) (.t 119))⟩]) .ret) .skip))))
theorem c_ref4_Two_3_E {SP : Prg} (ac : Ac) : E SP c_ref4_Two_3 ac = E SP (.cond (.t 93) (.seq (.reg [⟨(some 96), none, (.v (.faddr 1 (.t 4)))⟩, ⟨(some 97), none, (.v (.load none (.t 96)))⟩, ⟨(some 98), none, (.v (.faddr 1 (.t 5)))⟩, ⟨(some 99), none, (.v (.load none (.t 98)))⟩, ⟨(some 100), none, (.v (.bin .leq (.t 97) (.t 99)))⟩, ⟨(some 101), none, (.call (.c (.func 32 [])) [(.t 100)])⟩, ⟨none, none, (.store 5 (.t 6) (.t 101))⟩]) .ret) (.seq (.reg [⟨(some 103), none, (.v (.mov (.t 0)))⟩, ⟨(some 104), none, (.v (.bin .eql (.t 103) (.c (.int .i64 17))))⟩, ⟨(some 102), none, (.v (.mov (.t 104)))⟩]) (.cond (.t 102) (.seq (.reg [⟨(some 105), none, (.v (.faddr 1 (.t 4)))⟩, ⟨(some 106), none, (.v (.load none (.t 105)))⟩, ⟨(some 107), none, (.v (.faddr 1 (.t 5)))⟩, ⟨(some 108), none, (.v (.load none (.t 107)))⟩, ⟨(some 109), none, (.v (.bin .gtr (.t 106) (.t 108)))⟩, ⟨(some 110), none, (.call (.c (.func 32 [])) [(.t 109)])⟩, ⟨none, none, (.store 5 (.t 6) (.t 110))⟩]) .ret) (.seq (.reg [⟨(some 112), none, (.v (.mov (.t 0)))⟩, ⟨(some 113), none, (.v (.bin .eql (.t 112) (.c (.int .i64 18))))⟩, ⟨(some 111), none, (.v (.mov (.t 113)))⟩]) (.cond (.t 111) (.seq (.reg [⟨(some 114), none, (.v (.faddr 1 (.t 4)))⟩, ⟨(some 115), none, (.v (.load none (.t 114)))⟩, ⟨(some 116), none, (.v (.faddr 1 (.t 5)))⟩, ⟨(some 117), none, (.v (.load none (.t 116)))⟩, ⟨(some 118), none, (.v (.bin .geq (.t 115) (.t 117)))⟩, ⟨(some 119), none, (.call (.c (.func 32 [])) [(.t 118)])⟩, ⟨none, none, (.store 5 (.t 6) (.t 119))⟩]) .ret) .skip))))) ac := rfl
def c_ref4_Two_4 : SC := .cond (.t 84) (.seq (.reg [⟨(some 87), none, (.v (.faddr 1 (.t 4)))⟩, ⟨(some 88), none, (.v (.load none (.t 87)))⟩, ⟨(some 89), none, (.v (.faddr 1 (.t 5)))⟩, ⟨(some 90), none, (.v (.load none (.t 89)))⟩, ⟨(some 91), none, (.v (.bin .lss (.t 88) (.t 90)))⟩, ⟨(some 92), none, (.call (.c (.func 32 [])) [(.t 91)])⟩, ⟨none, none, (.store 5 (.t 6) (.t 92))⟩]) .ret) (.seq (.reg [⟨(some 94), none, (.v (.mov (.t 0)))⟩, ⟨(some 95), none, (.v (.bin .eql (.t 94) (.c (.int .i64 16))))⟩, ⟨(some 93), none, (.v (.mov (.t 95)))⟩]) c_ref4_Two_3)
theorem c_ref4_Two_4_E {SP : Prg} (ac : Ac) : E SP c_ref4_Two_4 ac = E SP (.cond (.t 84) (.seq (.reg [⟨(some 87), none, (.v (.faddr 1 (.t 4)))⟩, ⟨(some 88), none, (.v (.load none (.t 87)))⟩, ⟨(some 89), none, (.v (.faddr 1 (.t 5)))⟩, ⟨(some 90), none, (.v (.load none (.t 89)))⟩, ⟨(some 91), none, (.v (.bin .lss (.t 88) (.t 90)))⟩, ⟨(some 92), none, (.call (.c (.func 32 [])) [(.t 91)])⟩, ⟨none, none, (.store 5 (.t 6) (.t 92))⟩]) .ret) (.seq (.reg [⟨(some 94), none, (.v (.mov (.t 0)))⟩, ⟨(some 95), none, (.v (.bin .eql (.t 94) (.c (.int .i64 16))))⟩, ⟨(some 93), none, (.v (.mov (.t 95)))⟩]) c_ref4_Two_3)) ac := rfl
def c_ref4_Two_5 : SC := .cond (.t 80) (.seq (.reg [⟨(some 83), none, (.call (.c (.func 31 [])) [(.c (.int .i64 7))])⟩, ⟨none, none, (.store 5 (.t 6) (.t 83))⟩]) .ret) (.seq (.reg [⟨(some 85), none, (.v (.mov (.t 0)))⟩, ⟨(some 86), none, (.v (.bin .eql (.t 85) (.c (.int .i64 15))))⟩, ⟨(some 84), none, (.v (.mov (.t 86)))⟩]) c_ref4_Two_4)
theorem c_ref4_Two_5_E {SP : Prg} (ac : Ac) : E SP c_ref4_Two_5 ac = E SP (.cond (.t 80) (.seq (.reg [⟨(some 83), none, (.call (.c (.func 31 [])) [(.c (.int .i64 7))])⟩, ⟨none, none, (.store 5 (.t 6) (.t 83))⟩]) .ret) (.seq (.reg [⟨(some 85), none, (.v (.mov (.t 0)))⟩, ⟨(some 86), none, (.v (.bin .eql (.t 85) (.c (.int .i64 15))))⟩, ⟨(some 84), none, (.v (.mov (.t 86)))⟩]) c_ref4_Two_4)) ac := rfl
def c_ref4_Two_6 : SC := .cond (.t 60) (.seq (.seq (.reg [⟨(some 67), none, (.v (.faddr 0 (.t 4)))⟩, ⟨(some 68), none, (.v (.load none (.t 67)))⟩, ⟨(some 69), none, (.v (.faddr 0 (.t 5)))⟩, ⟨(some 70), none, (.v (.load none (.t 69)))⟩, ⟨(some 71), none, (.v (.bin .neq (.t 68) (.t 70)))⟩]) (.cond (.t 71) (.seq (.reg [⟨(some 72), none, (.call (.c (.func 31 [])) [(.c (.int .i64 7))])⟩, ⟨none, none, (.store 5 (.t 6) (.t 72))⟩]) .ret) .skip)) (.seq (.reg [⟨(some 73), none, (.v (.load (some 4) (.t 4)))⟩, ⟨(some 74), none, (.v (.load (some 4) (.t 5)))⟩, ⟨(some 75), none, (.call (.c (.func 30 [])) [(.t 73), (.t 74)])⟩, ⟨(some 76), none, (.v (.mov (.t 0)))⟩, ⟨(some 77), none, (.v (.bin .eql (.t 76) (.c (.int .i64 13))))⟩, ⟨(some 78), none, (.v (.binb false (.t 75) (.t 77)))⟩, ⟨(some 79), none, (.call (.c (.func 32 [])) [(.t 78)])⟩, ⟨none, none, (.store 5 (.t 6) (.t 79))⟩]) .ret)) (.seq (.reg [⟨(some 81), none, (.v (.mov (.t 7)))⟩, ⟨(some 82), none, (.v (.un .not (.t 81)))⟩, ⟨(some 80), none, (.v (.mov (.t 82)))⟩]) c_ref4_Two_5)
theorem c_ref4_Two_6_E {SP : Prg} (ac : Ac) : E SP c_ref4_Two_6 ac = E SP (.cond (.t 60) (.seq (.seq (.reg [⟨(some 67), none, (.v (.faddr 0 (.t 4)))⟩, ⟨(some 68), none, (.v (.load none (.t 67)))⟩, ⟨(some 69), none, (.v (.faddr 0 (.t 5)))⟩, ⟨(some 70), none, (.v (.load none (.t 69)))⟩, ⟨(some 71), none, (.v (.bin .neq (.t 68) (.t 70)))⟩]) (.cond (.t 71) (.seq (.reg [⟨(some 72), none, (.call (.c (.func 31 [])) [(.c (.int .i64 7))])⟩, ⟨none, none, (.store 5 (.t 6) (.t 72))⟩]) .ret) .skip)) (.seq (.reg [⟨(some 73), none, (.v (.load (some 4) (.t 4)))⟩, ⟨(some 74), none, (.v (.load (some 4) (.t 5)))⟩, ⟨(some 75), none, (.call (.c (.func 30 [])) [(.t 73), (.t 74)])⟩, ⟨(some 76), none, (.v (.mov (.t 0)))⟩, ⟨(some 77), none, (.v (.bin .eql (.t 76) (.c (.int .i64 13))))⟩, ⟨(some 78), none, (.v (.binb false (.t 75) (.t 77)))⟩, ⟨(some 79), none, (.call (.c (.func 32 [])) [(.t 78)])⟩, ⟨none, none, (.store 5 (.t 6) (.t 79))⟩]) .ret)) (.seq (.reg [⟨(some 81), none, (.v (.mov (.t 7)))⟩, ⟨(some 82), none, (.v (.un .not (.t 81)))⟩, ⟨(some 80), none, (.v (.mov (.t 82)))⟩]) c_ref4_Two_5)) ac := rfl
def c_ref4_Two_7 : SC := .cond (.t 24) (.seq (.seq (.reg [⟨(some 31), none, (.v (.faddr 0 (.t 4)))⟩, ⟨(some 32), none, (.v (.load none (.t 31)))⟩, ⟨(some 33), none, (.v (.bin .neq (.t 32) (.c (.int .i64 3))))⟩, ⟨(some 34), none, (.v (.mov (.t 33)))⟩, ⟨(some 35), (some (34, false)), (.v (.faddr 0 (.t 5)))⟩, ⟨(some 36), (some (34, false)), (.v (.load none (.t 35)))⟩, ⟨(some 37), (some (34, false)), (.v (.bin .neq (.t 36) (.c (.int .i64 3))))⟩, ⟨(some 38), none, (.v (.pick (.t 34) (.c (.bool true)) (.t 37)))⟩]) (.cond (.t 38) (.seq (.reg [⟨(some 39), none, (.call (.c (.func 31 [])) [(.c (.int .i64 7))])⟩, ⟨none, none, (.store 5 (.t 6) (.t 39))⟩]) .ret) .skip)) c_ref4_Two_2) (.seq (.reg [⟨(some 61), none, (.v (.mov (.t 0)))⟩, ⟨(some 62), none, (.v (.bin .eql (.t 61) (.c (.int .i64 13))))⟩, ⟨(some 63), none, (.v (.mov (.t 62)))⟩, ⟨(some 64), (some (63, false)), (.v (.mov (.t 0)))⟩, ⟨(some 65), (some (63, false)), (.v (.bin .eql (.t 64) (.c (.int .i64 14))))⟩, ⟨(some 66), none, (.v (.pick (.t 63) (.c (.bool true)) (.t 65)))⟩, ⟨(some 60), none, (.v (.mov (.t 66)))⟩]) c_ref4_Two_6)
theorem c_ref4_Two_7_E {SP : Prg} (ac : Ac) : E SP c_ref4_Two_7 ac = E SP (.cond (.t 24) (.seq (.seq (.reg [⟨(some 31), none, (.v (.faddr 0 (.t 4)))⟩, ⟨(some 32), none, (.v (.load none (.t 31)))⟩, ⟨(some 33), none, (.v (.bin .neq (.t 32) (.c (.int .i64 3))))⟩, ⟨(some 34), none, (.v (.mov (.t 33)))⟩, ⟨(some 35), (some (34, false)), (.v (.faddr 0 (.t 5)))⟩, ⟨(some 36), (some (34, false)), (.v (.load none (.t 35)))⟩, ⟨(some 37), (some (34, false)), (.v (.bin .neq (.t 36) (.c (.int .i64 3))))⟩, ⟨(some 38), none, (.v (.pick (.t 34) (.c (.bool true)) (.t 37)))⟩]) (.cond (.t 38) (.seq (.reg [⟨(some 39), none, (.call (.c (.func 31 [])) [(.c (.int .i64 7))])⟩, ⟨none, none, (.store 5 (.t 6) (.t 39))⟩]) .ret) .skip)) c_ref4_Two_2) (.seq (.reg [⟨(some 61), none, (.v (.mov (.t 0)))⟩, ⟨(some 62), none, (.v (.bin .eql (.t 61) (.c (.int .i64 13))))⟩, ⟨(some 63), none, (.v (.mov (.t 62)))⟩, ⟨(some 64), (some (63, false)), (.v (.mov (.t 0)))⟩, ⟨(some 65), (some (63, false)), (.v (.bin .eql (.t 64) (.c (.int .i64 14))))⟩, ⟨(some 66), none, (.v (.pick (.t 63) (.c (.bool true)) (.t 65)))⟩, ⟨(some 60), none, (.v (.mov (.t 66)))⟩]) c_ref4_Two_6)) ac := rfl
def c_ref4_Two_8 : SC := .cond (.t 16) (.seq (.reg [⟨(some 23), none, (.call (.c (.func 31 [])) [(.c (.int .i64 1))])⟩, ⟨none, none, (.store 5 (.t 6) (.t 23))⟩]) .ret) (.seq (.reg [⟨(some 25), none, (.v (.mov (.t 0)))⟩, ⟨(some 26), none, (.v (.bin .eql (.t 25) (.c (.int .i64 11))))⟩, ⟨(some 27), none, (.v (.mov (.t 26)))⟩, ⟨(some 28), (some (27, false)), (.v (.mov (.t 0)))⟩, ⟨(some 29), (some (27, false)), (.v (.bin .eql (.t 28) (.c (.int .i64 12))))⟩, ⟨(some 30), none, (.v (.pick (.t 27) (.c (.bool true)) (.t 29)))⟩, ⟨(some 24), none, (.v (.mov (.t 30)))⟩]) c_ref4_Two_7)
theorem c_ref4_Two_8_E {SP : Prg} (ac : Ac) : E SP c_ref4_Two_8 ac = E SP (.cond (.t 16) (.seq (.reg [⟨(some 23), none, (.call (.c (.func 31 [])) [(.c (.int .i64 1))])⟩, ⟨none, none, (.store 5 (.t 6) (.t 23))⟩]) .ret) (.seq (.reg [⟨(some 25), none, (.v (.mov (.t 0)))⟩, ⟨(some 26), none, (.v (.bin .eql (.t 25) (.c (.int .i64 11))))⟩, ⟨(some 27), none, (.v (.mov (.t 26)))⟩, ⟨(some 28), (some (27, false)), (.v (.mov (.t 0)))⟩, ⟨(some 29), (some (27, false)), (.v (.bin .eql (.t 28) (.c (.int .i64 12))))⟩, ⟨(some 30), none, (.v (.pick (.t 27) (.c (.bool true)) (.t 29)))⟩, ⟨(some 24), none, (.v (.mov (.t 30)))⟩]) c_ref4_Two_7)) ac := rfl
def c_ref4_Two_9 : SC := .seq (.block 0 (.seq (.reg [⟨(some 17), none, (.v (.mov (.t 0)))⟩, ⟨(some 18), none, (.v (.bin .lss (.t 17) (.c (.int .i64 11))))⟩, ⟨(some 19), none, (.v (.mov (.t 18)))⟩, ⟨(some 20), (some (19, false)), (.v (.mov (.t 0)))⟩, ⟨(some 21), (some (19, false)), (.v (.bin .gtr (.t 20) (.c (.int .i64 23))))⟩, ⟨(some 22), none, (.v (.pick (.t 19) (.c (.bool true)) (.t 21)))⟩, ⟨(some 16), none, (.v (.mov (.t 22)))⟩]) c_ref4_Two_8)) c_ref4_Two_1
theorem c_ref4_Two_9_E {SP : Prg} (ac : Ac) : E SP c_ref4_Two_9 ac = E SP (.seq (.block 0 (.seq (.reg [⟨(some 17), none, (.v (.mov (.t 0)))⟩, ⟨(some 18), none, (.v (.bin .lss (.t 17) (.c (.int .i64 11))))⟩, ⟨(some 19), none, (.v (.mov (.t 18)))⟩, ⟨(some 20), (some (19, false)), (.v (.mov (.t 0)))⟩, ⟨(some 21), (some (19, false)), (.v (.bin .gtr (.t 20) (.c (.int .i64 23))))⟩, ⟨(some 22), none, (.v (.pick (.t 19) (.c (.bool true)) (.t 21)))⟩, ⟨(some 16), none, (.v (.mov (.t 22)))⟩]) c_ref4_Two_8)) c_ref4_Two_1) ac := rfl
def c_ref4_Two_10 : SC := .seq (.reg [⟨(some 8), none, (.v (.faddr 0 (.t 4)))⟩, ⟨(some 9), none, (.v (.load none (.t 8)))⟩, ⟨(some 10), none, (.v (.bin .eql (.t 9) (.c (.int .i64 1))))⟩, ⟨(some 11), none, (.v (.mov (.t 10)))⟩, ⟨(some 12), (some (11, true)), (.v (.faddr 0 (.t 5)))⟩, ⟨(some 13), (some (11, true)), (.v (.load none (.t 12)))⟩, ⟨(some 14), (some (11, true)), (.v (.bin .eql (.t 13) (.c (.int .i64 1))))⟩, ⟨(some 15), none, (.v (.pick (.t 11) (.t 14) (.c (.bool false))))⟩, ⟨(some 7), none, (.v (.mov (.t 15)))⟩]) c_ref4_Two_9
theorem c_ref4_Two_10_E {SP : Prg} (ac : Ac) : E SP c_ref4_Two_10 ac = E SP (.seq (.reg [⟨(some 8), none, (.v (.faddr 0 (.t 4)))⟩, ⟨(some 9), none, (.v (.load none (.t 8)))⟩, ⟨(some 10), none, (.v (.bin .eql (.t 9) (.c (.int .i64 1))))⟩, ⟨(some 11), none, (.v (.mov (.t 10)))⟩, ⟨(some 12), (some (11, true)), (.v (.faddr 0 (.t 5)))⟩, ⟨(some 13), (some (11, true)), (.v (.load none (.t 12)))⟩, ⟨(some 14), (some (11, true)), (.v (.bin .eql (.t 13) (.c (.int .i64 1))))⟩, ⟨(some 15), none, (.v (.pick (.t 11) (.t 14) (.c (.bool false))))⟩, ⟨(some 7), none, (.v (.mov (.t 15)))⟩]) c_ref4_Two_9) ac := rfl
def sc_ref4_Two : SFunc := ⟨3, 126, .seq (.reg [⟨(some 4), none, (.box (.t 1))⟩, ⟨(some 5), none, (.box (.t 2))⟩, ⟨(some 6), none, (.alloc [(.int .i64 0), (.int .i64 0), (.str []), (.nils 4), (.int .i64 0)])⟩]) c_ref4_Two_10, [(.cell 6 (some 5))]⟩
theorem U_ref4_Two : type_of% (And.intro @c_ref4_Two_1_E <| And.intro @c_ref4_Two_2_E <| And.intro @c_ref4_Two_3_E <| And.intro @c_ref4_Two_4_E <| And.intro @c_ref4_Two_5_E <| And.intro @c_ref4_Two_6_E <| And.intro @c_ref4_Two_7_E <| And.intro @c_ref4_Two_8_E <| And.intro @c_ref4_Two_9_E <| @c_ref4_Two_10_E) := And.intro @c_ref4_Two_1_E <| And.intro @c_ref4_Two_2_E <| And.intro @c_ref4_Two_3_E <| And.intro @c_ref4_Two_4_E <| And.intro @c_ref4_Two_5_E <| And.intro @c_ref4_Two_6_E <| And.intro @c_ref4_Two_7_E <| And.intro @c_ref4_Two_8_E <| And.intro @c_ref4_Two_9_E <| @c_ref4_Two_10_E
theorem comp_ref4_Two : comp Try.prog Try.f18 = some sc_ref4_Two := by kernel_rfl
/-- doorkeeper/doorkeeperref4.Index -/
def c_ref4_Index_1 : SC := .seq (.reg [⟨(some 28), none, (.v (.faddr 3 (.t 2)))⟩, ⟨(some 29), none, (.v (.load none (.t 28)))⟩, ⟨(some 30), none, (.v (.faddr 1 (.t 3)))⟩, ⟨(some 31), none, (.v (.load none (.t 30)))⟩, ⟨(some 32), none, (.v (.iaddr 4 (.t 29) (.t 31)))⟩, ⟨(some 33), none, (.v (.load (some 4) (.t 32)))⟩, ⟨(some 34), none, (.v (.build [(.int .i64 0), (.int .i64 0), (.str []), (.nils 4), (.int .i64 0)] [(0, 4, (.t 33))]))⟩, ⟨none, none, (.store 5 (.t 4) (.t 34))⟩]) .ret
theorem c_ref4_Index_1_E {SP : Prg} (ac : Ac) : E SP c_ref4_Index_1 ac = E SP (.seq (.reg [⟨(some 28), none, (.v (.faddr 3 (.t 2)))⟩, ⟨(some 29), none, (.v (.load none (.t 28)))⟩, ⟨(some 30), none, (.v (.faddr 1 (.t 3)))⟩, ⟨(some 31), none, (.v (.load none (.t 30)))⟩, ⟨(some 32), none, (.v (.iaddr 4 (.t 29) (.t 31)))⟩, ⟨(some 33), none, (.v (.load (some 4) (.t 32)))⟩, ⟨(some 34), none, (.v (.build [(.int .i64 0), (.int .i64 0), (.str []), (.nils 4), (.int .i64 0)] [(0, 4, (.t 33))]))⟩, ⟨none, none, (.store 5 (.t 4) (.t 34))⟩]) .ret) ac := rfl
def c_ref4_Index_2 : SC := .seq (.block 0 (.seq (.reg [⟨(some 6), none, (.v (.faddr 0 (.t 2)))⟩, ⟨(some 7), none, (.v (.load none (.t 6)))⟩, ⟨(some 8), none, (.v (.bin .neq (.t 7) (.c (.int .i64 4))))⟩, ⟨(some 9), none, (.v (.mov (.t 8)))⟩, ⟨(some 10), (some (9, false)), (.v (.faddr 0 (.t 3)))⟩, ⟨(some 11), (some (9, false)), (.v (.load none (.t 10)))⟩, ⟨(some 12), (some (9, false)), (.v (.bin .neq (.t 11) (.c (.int .i64 1))))⟩, ⟨(some 13), none, (.v (.pick (.t 9) (.c (.bool true)) (.t 12)))⟩, ⟨(some 5), none, (.v (.mov (.t 13)))⟩]) (.cond (.t 5) (.seq (.reg [⟨(some 14), none, (.call (.c (.func 31 [])) [(.c (.int .i64 7))])⟩, ⟨none, none, (.store 5 (.t 4) (.t 14))⟩]) .ret) (.seq (.reg [⟨(some 16), none, (.v (.faddr 1 (.t 3)))⟩, ⟨(some 17), none, (.v (.load none (.t 16)))⟩, ⟨(some 18), none, (.v (.bin .lss (.t 17) (.c (.int .i64 0))))⟩, ⟨(some 19), none, (.v (.mov (.t 18)))⟩, ⟨(some 20), (some (19, false)), (.v (.faddr 1 (.t 3)))⟩, ⟨(some 21), (some (19, false)), (.v (.load none (.t 20)))⟩, ⟨(some 22), (some (19, false)), (.v (.faddr 3 (.t 2)))⟩, ⟨(some 23), (some (19, false)), (.v (.load none (.t 22)))⟩, ⟨(some 24), (some (19, false)), (.v (.len false (.t 23)))⟩, ⟨(some 25), (some (19, false)), (.v (.bin .geq (.t 21) (.t 24)))⟩, ⟨(some 26), none, (.v (.pick (.t 19) (.c (.bool true)) (.t 25)))⟩, ⟨(some 15), none, (.v (.mov (.t 26)))⟩]) (.cond (.t 15) (.seq (.reg [⟨(some 27), none, (.call (.c (.func 31 [])) [(.c (.int .i64 2))])⟩, ⟨none, none, (.store 5 (.t 4) (.t 27))⟩]) .ret) .skip))))) c_ref4_Index_1
theorem c_ref4_Index_2_E {SP : Prg} (ac : Ac) : E SP c_ref4_Index_2 ac = E SP (.seq (.block 0 (.seq (.reg [⟨(some 6), none, (.v (.faddr 0 (.t 2)))⟩, ⟨(some 7), none, (.v (.load none (.t 6)))⟩, ⟨(some 8), none, (.v (.bin .neq (.t 7) (.c (.int .i64 4))))⟩, ⟨(some 9), none, (.v (.mov (.t 8)))⟩, ⟨(some 10), (some (9, false)), (.v (.faddr 0 (.t 3)))⟩, ⟨(some 11), (some (9, false)), (.v (.load none (.t 10)))⟩, ⟨(some 12), (some (9, false)), (.v (.bin .neq (.t 11) (.c (.int .i64 1))))⟩, ⟨(some 13), none, (.v (.pick (.t 9) (.c (.bool true)) (.t 12)))⟩, ⟨(some 5), none, (.v (.mov (.t 13)))⟩]) (.cond (.t 5) (.seq (.reg [⟨(some 14), none, (.call (.c (.func 31 [])) [(.c (.int .i64 7))])⟩, ⟨none, none, (.store 5 (.t 4) (.t 14))⟩]) .ret) (.seq (.reg [⟨(some 16), none, (.v (.faddr 1 (.t 3)))⟩, ⟨(some 17), none, (.v (.load none (.t 16)))⟩, ⟨(some 18), none, (.v (.bin .lss (.t 17) (.c (.int .i64 0))))⟩, ⟨(some 19), none, (.v (.mov (.t 18)))⟩, ⟨(some 20), (some (19, false)), (.v (.faddr 1 (.t 3)))⟩, ⟨(some 21), (some (19, false)), (.v (.load none (.t 20)))⟩, ⟨(some 22), (some (19, false)), (.v (.faddr 3 (.t 2)))⟩, ⟨(some 23), (some (19, false)), (.v (.load none (.t 22)))⟩, ⟨(some 24), (some (19, false)), (.v (.len false (.t 23)))⟩, ⟨(some 25), (some (19, false)), (.v (.bin .geq (.t 21) (.t 24)))⟩, ⟨(some 26), none, (.v (.pick (.t 19) (.c (.bool true)) (.t 25)))⟩, ⟨(some 15), none, (.v (.mov (.t 26)))⟩]) (.cond (.t 15) (.seq (.reg [⟨(some 27), none, (.call (.c (.func 31 [])) [(.c (.int .i64 2))])⟩, ⟨none, none, (.store 5 (.t 4) (.t 27))⟩]) .ret) .skip))))) c_ref4_Index_1) ac := rfl
def sc_ref4_Index : SFunc := ⟨2, 35, .seq (.reg [⟨(some 2), none, (.box (.t 0))⟩, ⟨(some 3), none, (.box (.t 1))⟩, ⟨(some 4), none, (.alloc [(.int .i64 0), (.int .i64 0), (.str []), (.nils 4), (.int .i64 0)])⟩]) c_ref4_Index_2, [(.cell 4 (some 5))]⟩
theorem U_ref4_Index : type_of% (And.intro @c_ref4_Index_1_E <| @c_ref4_Index_2_E) := And.intro @c_ref4_Index_1_E <| @c_ref4_Index_2_E
theorem comp_ref4_Index : comp Try.prog Try.f19 = some sc_ref4_Index := by kernel_rfl
/-- doorkeeper/doorkeeperref4.List -/
def sc_ref4_List : SFunc := ⟨1, 19, .seq (.reg [⟨(some 2), none, (.alloc [(.int .i64 0), (.int .i64 0), (.str []), (.nils 4), (.int .i64 0)])⟩]) (.seq (.reg [⟨(some 4), none, (.bslice 4 0 [(.int .i64 0), (.int .i64 0), (.str []), (.nils 4)] [])⟩, ⟨(some 5), none, (.v (.mov (.t 0)))⟩, ⟨(some 6), none, (.append 4 56 (.t 4) (.t 5))⟩, ⟨(some 7), none, (.v (.build [(.int .i64 0), (.int .i64 0), (.str []), (.nils 4)] [(0, 1, (.c (.int .i64 4))), (3, 1, (.t 6))]))⟩, ⟨(some 3), none, (.alloc [(.int .i64 0), (.int .i64 0), (.str []), (.nils 4)])⟩, ⟨none, none, (.store 4 (.t 3) (.t 7))⟩]) (.seq (.seq (.reg [⟨(some 8), none, (.v (.mov (.t 0)))⟩, ⟨(some 9), none, (.v (.len false (.t 8)))⟩, ⟨(some 10), none, (.v (.bin .gtr (.t 9) (.c (.int .i64 64))))⟩, ⟨(some 11), none, (.v (.mov (.t 10)))⟩, ⟨(some 12), (some (11, false)), (.v (.load (some 4) (.t 3)))⟩, ⟨(some 13), (some (11, false)), (.call (.c (.func 35 [])) [(.t 12), (.c (.int .i64 64))])⟩, ⟨(some 14), (some (11, false)), (.v (.bin .gtr (.t 13) (.c (.int .i64 64))))⟩, ⟨(some 15), none, (.v (.pick (.t 11) (.c (.bool true)) (.t 14)))⟩]) (.cond (.t 15) (.seq (.reg [⟨(some 16), none, (.call (.c (.func 31 [])) [(.c (.int .i64 4))])⟩, ⟨none, none, (.store 5 (.t 2) (.t 16))⟩]) .ret) .skip)) (.seq (.reg [⟨(some 17), none, (.v (.load (some 4) (.t 3)))⟩, ⟨(some 18), none, (.v (.build [(.int .i64 0), (.int .i64 0), (.str []), (.nils 4), (.int .i64 0)] [(0, 4, (.t 17))]))⟩, ⟨none, none, (.store 5 (.t 2) (.t 18))⟩]) .ret))), [(.cell 2 (some 5))]⟩
theorem comp_ref4_List : comp Try.prog Try.f20 = some sc_ref4_List := by kernel_rfl
/-- doorkeeper/doorkeeperref4.deep -/
def c_ref4_deep_1 : SC := .seq (.reg [⟨(some 29), none, (.v (.mov (.t 5)))⟩, ⟨(some 30), none, (.v (.bin .add (.t 29) (.c (.int .i64 1))))⟩, ⟨(some 4), none, (.v (.mov (.t 30)))⟩]) .ret
theorem c_ref4_deep_1_E {SP : Prg} (ac : Ac) : E SP c_ref4_deep_1 ac = E SP (.seq (.reg [⟨(some 29), none, (.v (.mov (.t 5)))⟩, ⟨(some 30), none, (.v (.bin .add (.t 29) (.c (.int .i64 1))))⟩, ⟨(some 4), none, (.v (.mov (.t 30)))⟩]) .ret) ac := rfl
def b_ref4_deep_1 : SC := .seq (.seq (.reg [⟨(some 12), none, (.v (.mov (.t 6)))⟩, ⟨(some 13), none, (.v (.faddr 3 (.t 2)))⟩, ⟨(some 14), none, (.v (.load none (.t 13)))⟩, ⟨(some 15), none, (.v (.len false (.t 14)))⟩, ⟨(some 16), none, (.v (.bin .lss (.t 12) (.t 15)))⟩]) (.cond (.t 16) .skip (.exit 0))) (.seq (.block 1 (.reg [⟨(some 19), none, (.v (.mov (.t 5)))⟩, ⟨(some 20), none, (.v (.faddr 3 (.t 2)))⟩, ⟨(some 21), none, (.v (.load none (.t 20)))⟩, ⟨(some 22), none, (.v (.mov (.t 6)))⟩, ⟨(some 23), none, (.v (.iaddr 4 (.t 21) (.t 22)))⟩, ⟨(some 24), none, (.v (.load (some 4) (.t 23)))⟩, ⟨(some 25), none, (.v (.mov (.t 1)))⟩, ⟨(some 26), none, (.v (.bin .sub (.t 25) (.c (.int .i64 1))))⟩, ⟨(some 27), none, (.call (.c (.func 35 [])) [(.t 24), (.t 26)])⟩, ⟨(some 28), none, (.v (.mm true (.t 19) (.t 27)))⟩, ⟨(some 5), none, (.v (.mov (.t 28)))⟩])) (.reg [⟨(some 17), none, (.v (.mov (.t 6)))⟩, ⟨(some 18), none, (.v (.bin .add (.t 17) (.c (.int .i64 1))))⟩, ⟨(some 6), none, (.v (.mov (.t 18)))⟩]))
theorem b_ref4_deep_1_E {SP : Prg} (ac : Ac) : E SP b_ref4_deep_1 ac = E SP (.seq (.seq (.reg [⟨(some 12), none, (.v (.mov (.t 6)))⟩, ⟨(some 13), none, (.v (.faddr 3 (.t 2)))⟩, ⟨(some 14), none, (.v (.load none (.t 13)))⟩, ⟨(some 15), none, (.v (.len false (.t 14)))⟩, ⟨(some 16), none, (.v (.bin .lss (.t 12) (.t 15)))⟩]) (.cond (.t 16) .skip (.exit 0))) (.seq (.block 1 (.reg [⟨(some 19), none, (.v (.mov (.t 5)))⟩, ⟨(some 20), none, (.v (.faddr 3 (.t 2)))⟩, ⟨(some 21), none, (.v (.load none (.t 20)))⟩, ⟨(some 22), none, (.v (.mov (.t 6)))⟩, ⟨(some 23), none, (.v (.iaddr 4 (.t 21) (.t 22)))⟩, ⟨(some 24), none, (.v (.load (some 4) (.t 23)))⟩, ⟨(some 25), none, (.v (.mov (.t 1)))⟩, ⟨(some 26), none, (.v (.bin .sub (.t 25) (.c (.int .i64 1))))⟩, ⟨(some 27), none, (.call (.c (.func 35 [])) [(.t 24), (.t 26)])⟩, ⟨(some 28), none, (.v (.mm true (.t 19) (.t 27)))⟩, ⟨(some 5), none, (.v (.mov (.t 28)))⟩])) (.reg [⟨(some 17), none, (.v (.mov (.t 6)))⟩, ⟨(some 18), none, (.v (.bin .add (.t 17) (.c (.int .i64 1))))⟩, ⟨(some 6), none, (.v (.mov (.t 18)))⟩]))) ac := rfl
def c_ref4_deep_2 : SC := .seq (.reg [⟨(some 5), none, (.v (.mov (.c (.int .i64 0))))⟩]) (.seq (.seq (.reg [⟨(some 6), none, (.v (.mov (.c (.int .i64 0))))⟩]) (.block 0 (.loop b_ref4_deep_1))) c_ref4_deep_1)
theorem c_ref4_deep_2_E {SP : Prg} (ac : Ac) : E SP c_ref4_deep_2 ac = E SP (.seq (.reg [⟨(some 5), none, (.v (.mov (.c (.int .i64 0))))⟩]) (.seq (.seq (.reg [⟨(some 6), none, (.v (.mov (.c (.int .i64 0))))⟩]) (.block 0 (.loop b_ref4_deep_1))) c_ref4_deep_1)) ac := rfl
def c_ref4_deep_3 : SC := .seq (.seq (.reg [⟨(some 10), none, (.v (.mov (.t 1)))⟩, ⟨(some 11), none, (.v (.bin .leq (.t 10) (.c (.int .i64 0))))⟩]) (.cond (.t 11) (.seq (.reg [⟨(some 4), none, (.v (.mov (.c (.int .i64 1000))))⟩]) .ret) .skip)) c_ref4_deep_2
theorem c_ref4_deep_3_E {SP : Prg} (ac : Ac) : E SP c_ref4_deep_3 ac = E SP (.seq (.seq (.reg [⟨(some 10), none, (.v (.mov (.t 1)))⟩, ⟨(some 11), none, (.v (.bin .leq (.t 10) (.c (.int .i64 0))))⟩]) (.cond (.t 11) (.seq (.reg [⟨(some 4), none, (.v (.mov (.c (.int .i64 1000))))⟩]) .ret) .skip)) c_ref4_deep_2) ac := rfl
def c_ref4_deep_4 : SC := .seq (.seq (.reg [⟨(some 7), none, (.v (.faddr 0 (.t 2)))⟩, ⟨(some 8), none, (.v (.load none (.t 7)))⟩, ⟨(some 9), none, (.v (.bin .neq (.t 8) (.c (.int .i64 4))))⟩]) (.cond (.t 9) (.seq (.reg [⟨(some 4), none, (.v (.mov (.c (.int .i64 0))))⟩]) .ret) .skip)) c_ref4_deep_3
theorem c_ref4_deep_4_E {SP : Prg} (ac : Ac) : E SP c_ref4_deep_4 ac = E SP (.seq (.seq (.reg [⟨(some 7), none, (.v (.faddr 0 (.t 2)))⟩, ⟨(some 8), none, (.v (.load none (.t 7)))⟩, ⟨(some 9), none, (.v (.bin .neq (.t 8) (.c (.int .i64 4))))⟩]) (.cond (.t 9) (.seq (.reg [⟨(some 4), none, (.v (.mov (.c (.int .i64 0))))⟩]) .ret) .skip)) c_ref4_deep_3) ac := rfl
def sc_ref4_deep : SFunc := ⟨2, 31, .seq (.reg [⟨(some 2), none, (.box (.t 0))⟩, ⟨(some 4), none, (.v (.mov (.c (.int .i64 0))))⟩]) c_ref4_deep_4, [(.t 4)]⟩
noncomputable def k_ref4_deep_1 (SP : Prg) (x : EO) : CO := fin [(.t 4)] (thC SP (inBlk 0 (x)) c_ref4_deep_1)
theorem U_ref4_deep : type_of% (And.intro @c_ref4_deep_1_E <| And.intro @b_ref4_deep_1_E <| And.intro @c_ref4_deep_2_E <| And.intro @c_ref4_deep_3_E <| @c_ref4_deep_4_E) := And.intro @c_ref4_deep_1_E <| And.intro @b_ref4_deep_1_E <| And.intro @c_ref4_deep_2_E <| And.intro @c_ref4_deep_3_E <| @c_ref4_deep_4_E
theorem comp_ref4_deep : comp Try.prog Try.f35 = some sc_ref4_deep := by kernel_rfl
/-- doorkeeper/doorkeeperref1.Digits -/
def c_ref1_Digits_1 : SC := .seq (.reg [⟨(some 23), none, (.v (.mov (.t 3)))⟩, ⟨(some 24), none, (.v (.bin .add (.c (.int .u64 48)) (.t 23)))⟩, ⟨(some 25), none, (.v (.conv (.int .u8) (.t 24)))⟩, ⟨(some 26), none, (.bslice 1 1 [(.int .u8 0)] [(0, (.t 25))])⟩, ⟨(some 27), none, (.v (.conv .bytes (.t 26)))⟩, ⟨(some 28), none, (.v (.mov (.t 4)))⟩, ⟨(some 29), none, (.v (.bin .add (.t 27) (.t 28)))⟩, ⟨(some 4), none, (.v (.mov (.t 29)))⟩]) (.seq (.seq (.reg [⟨(some 30), none, (.v (.mov (.t 0)))⟩, ⟨(some 31), none, (.v (.bin .lss (.t 30) (.c (.int .i64 0))))⟩]) (.cond (.t 31) (.seq (.reg [⟨(some 32), none, (.v (.mov (.t 4)))⟩, ⟨(some 33), none, (.v (.bin .add (.c (.str [45])) (.t 32)))⟩, ⟨(some 2), none, (.v (.mov (.t 33)))⟩]) .ret) .skip)) (.seq (.reg [⟨(some 34), none, (.v (.mov (.t 4)))⟩, ⟨(some 2), none, (.v (.mov (.t 34)))⟩]) .ret))
theorem c_ref1_Digits_1_E {SP : Prg} (ac : Ac) : E SP c_ref1_Digits_1 ac = E SP (.seq (.reg [⟨(some 23), none, (.v (.mov (.t 3)))⟩, ⟨(some 24), none, (.v (.bin .add (.c (.int .u64 48)) (.t 23)))⟩, ⟨(some 25), none, (.v (.conv (.int .u8) (.t 24)))⟩, ⟨(some 26), none, (.bslice 1 1 [(.int .u8 0)] [(0, (.t 25))])⟩, ⟨(some 27), none, (.v (.conv .bytes (.t 26)))⟩, ⟨(some 28), none, (.v (.mov (.t 4)))⟩, ⟨(some 29), none, (.v (.bin .add (.t 27) (.t 28)))⟩, ⟨(some 4), none, (.v (.mov (.t 29)))⟩]) (.seq (.seq (.reg [⟨(some 30), none, (.v (.mov (.t 0)))⟩, ⟨(some 31), none, (.v (.bin .lss (.t 30) (.c (.int .i64 0))))⟩]) (.cond (.t 31) (.seq (.reg [⟨(some 32), none, (.v (.mov (.t 4)))⟩, ⟨(some 33), none, (.v (.bin .add (.c (.str [45])) (.t 32)))⟩, ⟨(some 2), none, (.v (.mov (.t 33)))⟩]) .ret) .skip)) (.seq (.reg [⟨(some 34), none, (.v (.mov (.t 4)))⟩, ⟨(some 2), none, (.v (.mov (.t 34)))⟩]) .ret))) ac := rfl
def b_ref1_Digits_1 : SC := .seq (.seq (.reg [⟨(some 11), none, (.v (.mov (.t 3)))⟩, ⟨(some 12), none, (.v (.bin .geq (.t 11) (.c (.int .u64 10))))⟩]) (.cond (.t 12) .skip (.exit 0))) (.block 1 (.seq (.reg [⟨(some 13), none, (.v (.mov (.t 3)))⟩, ⟨(some 14), none, (.v (.bin .rem (.t 13) (.c (.int .u64 10))))⟩, ⟨(some 15), none, (.v (.bin .add (.c (.int .u64 48)) (.t 14)))⟩, ⟨(some 16), none, (.v (.conv (.int .u8) (.t 15)))⟩, ⟨(some 17), none, (.bslice 1 1 [(.int .u8 0)] [(0, (.t 16))])⟩, ⟨(some 18), none, (.v (.conv .bytes (.t 17)))⟩, ⟨(some 19), none, (.v (.mov (.t 4)))⟩, ⟨(some 20), none, (.v (.bin .add (.t 18) (.t 19)))⟩, ⟨(some 4), none, (.v (.mov (.t 20)))⟩]) (.reg [⟨(some 21), none, (.v (.mov (.t 3)))⟩, ⟨(some 22), none, (.v (.bin .quo (.t 21) (.c (.int .u64 10))))⟩, ⟨(some 3), none, (.v (.mov (.t 22)))⟩])))
theorem b_ref1_Digits_1_E {SP : Prg} (ac : Ac) : E SP b_ref1_Digits_1 ac = E SP (.seq (.seq (.reg [⟨(some 11), none, (.v (.mov (.t 3)))⟩, ⟨(some 12), none, (.v (.bin .geq (.t 11) (.c (.int .u64 10))))⟩]) (.cond (.t 12) .skip (.exit 0))) (.block 1 (.seq (.reg [⟨(some 13), none, (.v (.mov (.t 3)))⟩, ⟨(some 14), none, (.v (.bin .rem (.t 13) (.c (.int .u64 10))))⟩, ⟨(some 15), none, (.v (.bin .add (.c (.int .u64 48)) (.t 14)))⟩, ⟨(some 16), none, (.v (.conv (.int .u8) (.t 15)))⟩, ⟨(some 17), none, (.bslice 1 1 [(.int .u8 0)] [(0, (.t 16))])⟩, ⟨(some 18), none, (.v (.conv .bytes (.t 17)))⟩, ⟨(some 19), none, (.v (.mov (.t 4)))⟩, ⟨(some 20), none, (.v (.bin .add (.t 18) (.t 19)))⟩, ⟨(some 4), none, (.v (.mov (.t 20)))⟩]) (.reg [⟨(some 21), none, (.v (.mov (.t 3)))⟩, ⟨(some 22), none, (.v (.bin .quo (.t 21) (.c (.int .u64 10))))⟩, ⟨(some 3), none, (.v (.mov (.t 22)))⟩])))) ac := rfl
def c_ref1_Digits_2 : SC := .seq (.block 0 (.loop b_ref1_Digits_1)) c_ref1_Digits_1
theorem c_ref1_Digits_2_E {SP : Prg} (ac : Ac) : E SP c_ref1_Digits_2 ac = E SP (.seq (.block 0 (.loop b_ref1_Digits_1)) c_ref1_Digits_1) ac := rfl
def c_ref1_Digits_3 : SC := .seq (.seq (.reg [⟨(some 7), none, (.v (.mov (.t 0)))⟩, ⟨(some 8), none, (.v (.bin .lss (.t 7) (.c (.int .i64 0))))⟩]) (.cond (.t 8) (.reg [⟨(some 9), none, (.v (.mov (.t 3)))⟩, ⟨(some 10), none, (.v (.un .neg (.t 9)))⟩, ⟨(some 3), none, (.v (.mov (.t 10)))⟩]) .skip)) c_ref1_Digits_2
theorem c_ref1_Digits_3_E {SP : Prg} (ac : Ac) : E SP c_ref1_Digits_3 ac = E SP (.seq (.seq (.reg [⟨(some 7), none, (.v (.mov (.t 0)))⟩, ⟨(some 8), none, (.v (.bin .lss (.t 7) (.c (.int .i64 0))))⟩]) (.cond (.t 8) (.reg [⟨(some 9), none, (.v (.mov (.t 3)))⟩, ⟨(some 10), none, (.v (.un .neg (.t 9)))⟩, ⟨(some 3), none, (.v (.mov (.t 10)))⟩]) .skip)) c_ref1_Digits_2) ac := rfl
def c_ref1_Digits_4 : SC := .seq (.reg [⟨(some 5), none, (.v (.mov (.t 0)))⟩, ⟨(some 6), none, (.v (.conv (.int .u64) (.t 5)))⟩, ⟨(some 3), none, (.v (.mov (.t 6)))⟩, ⟨(some 4), none, (.v (.mov (.c (.str []))))⟩]) c_ref1_Digits_3
theorem c_ref1_Digits_4_E {SP : Prg} (ac : Ac) : E SP c_ref1_Digits_4 ac = E SP (.seq (.reg [⟨(some 5), none, (.v (.mov (.t 0)))⟩, ⟨(some 6), none, (.v (.conv (.int .u64) (.t 5)))⟩, ⟨(some 3), none, (.v (.mov (.t 6)))⟩, ⟨(some 4), none, (.v (.mov (.c (.str []))))⟩]) c_ref1_Digits_3) ac := rfl
def sc_ref1_Digits : SFunc := ⟨1, 35, .seq (.reg [⟨(some 2), none, (.v (.mov (.c (.str []))))⟩]) c_ref1_Digits_4, [(.t 2)]⟩
noncomputable def k_ref1_Digits_1 (SP : Prg) (x : EO) : CO := fin [(.t 2)] (thC SP (inBlk 0 (x)) c_ref1_Digits_1)
theorem U_ref1_Digits : type_of% (And.intro @c_ref1_Digits_1_E <| And.intro @b_ref1_Digits_1_E <| And.intro @c_ref1_Digits_2_E <| And.intro @c_ref1_Digits_3_E <| @c_ref1_Digits_4_E) := And.intro @c_ref1_Digits_1_E <| And.intro @b_ref1_Digits_1_E <| And.intro @c_ref1_Digits_2_E <| And.intro @c_ref1_Digits_3_E <| @c_ref1_Digits_4_E
theorem comp_ref1_Digits : comp Try.prog Try.f29 = some sc_ref1_Digits := by kernel_rfl
/-- doorkeeper/doorkeeperlaw4.Make -/
def c_law4_Make_1 : SC := .seq (.reg [⟨(some 72), none, (.v (.mov (.t 5)))⟩, ⟨(some 73), none, (.v (.bin .quo (.t 72) (.c (.int .i64 5))))⟩, ⟨(some 74), none, (.v (.bin .sub (.t 73) (.c (.int .i64 20))))⟩, ⟨(some 75), none, (.v (.build [(.int .i64 0), (.int .i64 0), (.str []), (.nils 4)] [(0, 1, (.c (.int .i64 1))), (1, 1, (.t 74))]))⟩, ⟨none, none, (.store 4 (.t 4) (.t 75))⟩]) .ret
theorem c_law4_Make_1_E {SP : Prg} (ac : Ac) : E SP c_law4_Make_1 ac = E SP (.seq (.reg [⟨(some 72), none, (.v (.mov (.t 5)))⟩, ⟨(some 73), none, (.v (.bin .quo (.t 72) (.c (.int .i64 5))))⟩, ⟨(some 74), none, (.v (.bin .sub (.t 73) (.c (.int .i64 20))))⟩, ⟨(some 75), none, (.v (.build [(.int .i64 0), (.int .i64 0), (.str []), (.nils 4)] [(0, 1, (.c (.int .i64 1))), (1, 1, (.t 74))]))⟩, ⟨none, none, (.store 4 (.t 4) (.t 75))⟩]) .ret) ac := rfl
def c_law4_Make_2 : SC := .seq (.reg [⟨(some 71), none, (.v (.load (some 4) (.t 6)))⟩, ⟨none, none, (.store 4 (.t 4) (.t 71))⟩]) .ret
theorem c_law4_Make_2_E {SP : Prg} (ac : Ac) : E SP c_law4_Make_2 ac = E SP (.seq (.reg [⟨(some 71), none, (.v (.load (some 4) (.t 6)))⟩, ⟨none, none, (.store 4 (.t 4) (.t 71))⟩]) .ret) ac := rfl
def c_law4_Make_3 : SC := .seq (.block 2 (.dreg [⟨(some 52), none, (.v (.faddr 3 (.t 6)))⟩, ⟨(some 53), none, (.v (.load none (.t 52)))⟩, ⟨(some 54), none, (.v (.mov (.t 0)))⟩, ⟨(some 55), none, (.v (.mov (.t 7)))⟩, ⟨(some 56), none, (.v (.mov (.t 0)))⟩, ⟨(some 57), none, (.v (.len false (.t 56)))⟩, ⟨(some 58), none, (.v (.mov (.t 7)))⟩, ⟨(some 59), none, (.v (.mov (.t 5)))⟩, ⟨(some 60), none, (.v (.bin .quo (.t 59) (.c (.int .i64 30))))⟩, ⟨(some 61), none, (.v (.bin .rem (.t 60) (.c (.int .i64 3))))⟩, ⟨(some 62), none, (.v (.bin .add (.t 58) (.t 61)))⟩, ⟨(some 63), none, (.v (.bin .add (.t 62) (.c (.int .i64 1))))⟩, ⟨(some 64), none, (.v (.mm false (.t 57) (.t 63)))⟩, ⟨(some 65), none, (.v (.slc 1 (.t 54) (some (.t 55)) (some (.t 64)) none))⟩, ⟨(some 66), none, (.v (.mov (.t 1)))⟩, ⟨(some 67), none, (.call (.c (.func 15 [])) [(.t 65), (.t 66)])⟩, ⟨(some 68), none, (.bslice 4 1 [(.int .i64 0), (.int .i64 0), (.str []), (.nils 4)] [(0, (.t 67))])⟩, ⟨(some 69), none, (.append 4 56 (.t 53) (.t 68))⟩, ⟨(some 70), none, (.v (.faddr 3 (.t 6)))⟩, ⟨none, none, (.store 1 (.t 70) (.t 69))⟩] [false, false, false, false, false, false, false, false, false, false, false, false, false, false, false, false, false, true, true, true])) (.reg [⟨(some 50), none, (.v (.mov (.t 7)))⟩, ⟨(some 51), none, (.v (.bin .add (.t 50) (.c (.int .i64 1))))⟩, ⟨(some 7), none, (.v (.mov (.t 51)))⟩])
theorem c_law4_Make_3_E {SP : Prg} (ac : Ac) : E SP c_law4_Make_3 ac = E SP (.seq (.block 2 (.dreg [⟨(some 52), none, (.v (.faddr 3 (.t 6)))⟩, ⟨(some 53), none, (.v (.load none (.t 52)))⟩, ⟨(some 54), none, (.v (.mov (.t 0)))⟩, ⟨(some 55), none, (.v (.mov (.t 7)))⟩, ⟨(some 56), none, (.v (.mov (.t 0)))⟩, ⟨(some 57), none, (.v (.len false (.t 56)))⟩, ⟨(some 58), none, (.v (.mov (.t 7)))⟩, ⟨(some 59), none, (.v (.mov (.t 5)))⟩, ⟨(some 60), none, (.v (.bin .quo (.t 59) (.c (.int .i64 30))))⟩, ⟨(some 61), none, (.v (.bin .rem (.t 60) (.c (.int .i64 3))))⟩, ⟨(some 62), none, (.v (.bin .add (.t 58) (.t 61)))⟩, ⟨(some 63), none, (.v (.bin .add (.t 62) (.c (.int .i64 1))))⟩, ⟨(some 64), none, (.v (.mm false (.t 57) (.t 63)))⟩, ⟨(some 65), none, (.v (.slc 1 (.t 54) (some (.t 55)) (some (.t 64)) none))⟩, ⟨(some 66), none, (.v (.mov (.t 1)))⟩, ⟨(some 67), none, (.call (.c (.func 15 [])) [(.t 65), (.t 66)])⟩, ⟨(some 68), none, (.bslice 4 1 [(.int .i64 0), (.int .i64 0), (.str []), (.nils 4)] [(0, (.t 67))])⟩, ⟨(some 69), none, (.append 4 56 (.t 53) (.t 68))⟩, ⟨(some 70), none, (.v (.faddr 3 (.t 6)))⟩, ⟨none, none, (.store 1 (.t 70) (.t 69))⟩] [false, false, false, false, false, false, false, false, false, false, false, false, false, false, false, false, false, true, true, true])) (.reg [⟨(some 50), none, (.v (.mov (.t 7)))⟩, ⟨(some 51), none, (.v (.bin .add (.t 50) (.c (.int .i64 1))))⟩, ⟨(some 7), none, (.v (.mov (.t 51)))⟩])) ac := rfl
def b_law4_Make_1 : SC := .seq (.seq (.reg [⟨(some 39), none, (.v (.mov (.t 7)))⟩, ⟨(some 40), none, (.v (.mov (.t 0)))⟩, ⟨(some 41), none, (.v (.len false (.t 40)))⟩, ⟨(some 42), none, (.v (.bin .lss (.t 39) (.t 41)))⟩, ⟨(some 43), none, (.v (.mov (.t 42)))⟩, ⟨(some 44), (some (43, true)), (.v (.mov (.t 7)))⟩, ⟨(some 45), (some (43, true)), (.v (.mov (.t 5)))⟩, ⟨(some 46), (some (43, true)), (.v (.bin .quo (.t 45) (.c (.int .i64 5))))⟩, ⟨(some 47), (some (43, true)), (.v (.bin .rem (.t 46) (.c (.int .i64 6))))⟩, ⟨(some 48), (some (43, true)), (.v (.bin .leq (.t 44) (.t 47)))⟩, ⟨(some 49), none, (.v (.pick (.t 43) (.t 48) (.c (.bool false))))⟩]) (.cond (.t 49) .skip (.exit 1))) c_law4_Make_3
theorem b_law4_Make_1_E {SP : Prg} (ac : Ac) : E SP b_law4_Make_1 ac = E SP (.seq (.seq (.reg [⟨(some 39), none, (.v (.mov (.t 7)))⟩, ⟨(some 40), none, (.v (.mov (.t 0)))⟩, ⟨(some 41), none, (.v (.len false (.t 40)))⟩, ⟨(some 42), none, (.v (.bin .lss (.t 39) (.t 41)))⟩, ⟨(some 43), none, (.v (.mov (.t 42)))⟩, ⟨(some 44), (some (43, true)), (.v (.mov (.t 7)))⟩, ⟨(some 45), (some (43, true)), (.v (.mov (.t 5)))⟩, ⟨(some 46), (some (43, true)), (.v (.bin .quo (.t 45) (.c (.int .i64 5))))⟩, ⟨(some 47), (some (43, true)), (.v (.bin .rem (.t 46) (.c (.int .i64 6))))⟩, ⟨(some 48), (some (43, true)), (.v (.bin .leq (.t 44) (.t 47)))⟩, ⟨(some 49), none, (.v (.pick (.t 43) (.t 48) (.c (.bool false))))⟩]) (.cond (.t 49) .skip (.exit 1))) c_law4_Make_3) ac := rfl
def c_law4_Make_4 : SC := .block 1 (.loop b_law4_Make_1)
theorem c_law4_Make_4_E {SP : Prg} (ac : Ac) : E SP c_law4_Make_4 ac = E SP (.block 1 (.loop b_law4_Make_1)) ac := rfl
def c_law4_Make_5 : SC := .seq (.seq (.reg [⟨(some 7), none, (.v (.mov (.c (.int .i64 1))))⟩]) c_law4_Make_4) c_law4_Make_2
theorem c_law4_Make_5_E {SP : Prg} (ac : Ac) : E SP c_law4_Make_5 ac = E SP (.seq (.seq (.reg [⟨(some 7), none, (.v (.mov (.c (.int .i64 1))))⟩]) c_law4_Make_4) c_law4_Make_2) ac := rfl
def c_law4_Make_6 : SC := .cond (.t 36) (.seq (.reg [⟨(some 38), none, (.v (.build [(.int .i64 0), (.int .i64 0), (.str []), (.nils 4)] [(0, 1, (.c (.int .i64 4)))]))⟩, ⟨(some 6), none, (.alloc [(.int .i64 0), (.int .i64 0), (.str []), (.nils 4)])⟩, ⟨none, none, (.store 4 (.t 6) (.t 38))⟩]) c_law4_Make_5) .skip
theorem c_law4_Make_6_E {SP : Prg} (ac : Ac) : E SP c_law4_Make_6 ac = E SP (.cond (.t 36) (.seq (.reg [⟨(some 38), none, (.v (.build [(.int .i64 0), (.int .i64 0), (.str []), (.nils 4)] [(0, 1, (.c (.int .i64 4)))]))⟩, ⟨(some 6), none, (.alloc [(.int .i64 0), (.int .i64 0), (.str []), (.nils 4)])⟩, ⟨none, none, (.store 4 (.t 6) (.t 38))⟩]) c_law4_Make_5) .skip) ac := rfl
def c_law4_Make_7 : SC := .cond (.t 30) (.seq (.reg [⟨(some 32), none, (.v (.mov (.t 5)))⟩, ⟨(some 33), none, (.v (.bin .quo (.t 32) (.c (.int .i64 5))))⟩, ⟨(some 34), none, (.v (.bin .rem (.t 33) (.c (.int .i64 2))))⟩, ⟨(some 35), none, (.v (.build [(.int .i64 0), (.int .i64 0), (.str []), (.nils 4)] [(0, 1, (.c (.int .i64 3))), (1, 1, (.t 34))]))⟩, ⟨none, none, (.store 4 (.t 4) (.t 35))⟩]) .ret) (.seq (.reg [⟨(some 37), none, (.v (.bin .eql (.t 17) (.c (.int .i64 2))))⟩, ⟨(some 36), none, (.v (.mov (.t 37)))⟩]) c_law4_Make_6)
theorem c_law4_Make_7_E {SP : Prg} (ac : Ac) : E SP c_law4_Make_7 ac = E SP (.cond (.t 30) (.seq (.reg [⟨(some 32), none, (.v (.mov (.t 5)))⟩, ⟨(some 33), none, (.v (.bin .quo (.t 32) (.c (.int .i64 5))))⟩, ⟨(some 34), none, (.v (.bin .rem (.t 33) (.c (.int .i64 2))))⟩, ⟨(some 35), none, (.v (.build [(.int .i64 0), (.int .i64 0), (.str []), (.nils 4)] [(0, 1, (.c (.int .i64 3))), (1, 1, (.t 34))]))⟩, ⟨none, none, (.store 4 (.t 4) (.t 35))⟩]) .ret) (.seq (.reg [⟨(some 37), none, (.v (.bin .eql (.t 17) (.c (.int .i64 2))))⟩, ⟨(some 36), none, (.v (.mov (.t 37)))⟩]) c_law4_Make_6)) ac := rfl
def c_law4_Make_8 : SC := .cond (.t 18) (.seq (.reg [⟨(some 20), none, (.v (.mov (.t 1)))⟩, ⟨(some 21), none, (.v (.len true (.t 20)))⟩, ⟨(some 22), none, (.v (.bin .leq (.t 21) (.c (.int .i64 60))))⟩]) (.cond (.t 22) (.seq (.reg [⟨(some 23), none, (.v (.mov (.t 1)))⟩, ⟨(some 24), none, (.v (.mov (.t 5)))⟩, ⟨(some 25), none, (.v (.bin .quo (.t 24) (.c (.int .i64 5))))⟩, ⟨(some 26), none, (.v (.bin .rem (.t 25) (.c (.int .i64 3))))⟩, ⟨(some 27), none, (.call (.c (.func 29 [])) [(.t 26)])⟩, ⟨(some 28), none, (.v (.bin .add (.t 23) (.t 27)))⟩, ⟨(some 29), none, (.v (.build [(.int .i64 0), (.int .i64 0), (.str []), (.nils 4)] [(0, 1, (.c (.int .i64 2))), (2, 1, (.t 28))]))⟩, ⟨none, none, (.store 4 (.t 4) (.t 29))⟩]) .ret) .skip)) (.seq (.reg [⟨(some 31), none, (.v (.bin .eql (.t 17) (.c (.int .i64 1))))⟩, ⟨(some 30), none, (.v (.mov (.t 31)))⟩]) c_law4_Make_7)
theorem c_law4_Make_8_E {SP : Prg} (ac : Ac) : E SP c_law4_Make_8 ac = E SP (.cond (.t 18) (.seq (.reg [⟨(some 20), none, (.v (.mov (.t 1)))⟩, ⟨(some 21), none, (.v (.len true (.t 20)))⟩, ⟨(some 22), none, (.v (.bin .leq (.t 21) (.c (.int .i64 60))))⟩]) (.cond (.t 22) (.seq (.reg [⟨(some 23), none, (.v (.mov (.t 1)))⟩, ⟨(some 24), none, (.v (.mov (.t 5)))⟩, ⟨(some 25), none, (.v (.bin .quo (.t 24) (.c (.int .i64 5))))⟩, ⟨(some 26), none, (.v (.bin .rem (.t 25) (.c (.int .i64 3))))⟩, ⟨(some 27), none, (.call (.c (.func 29 [])) [(.t 26)])⟩, ⟨(some 28), none, (.v (.bin .add (.t 23) (.t 27)))⟩, ⟨(some 29), none, (.v (.build [(.int .i64 0), (.int .i64 0), (.str []), (.nils 4)] [(0, 1, (.c (.int .i64 2))), (2, 1, (.t 28))]))⟩, ⟨none, none, (.store 4 (.t 4) (.t 29))⟩]) .ret) .skip)) (.seq (.reg [⟨(some 31), none, (.v (.bin .eql (.t 17) (.c (.int .i64 1))))⟩, ⟨(some 30), none, (.v (.mov (.t 31)))⟩]) c_law4_Make_7)) ac := rfl
def c_law4_Make_9 : SC := .block 0 (.seq (.reg [⟨(some 19), none, (.v (.bin .eql (.t 17) (.c (.int .i64 0))))⟩, ⟨(some 18), none, (.v (.mov (.t 19)))⟩]) c_law4_Make_8)
theorem c_law4_Make_9_E {SP : Prg} (ac : Ac) : E SP c_law4_Make_9 ac = E SP (.block 0 (.seq (.reg [⟨(some 19), none, (.v (.bin .eql (.t 17) (.c (.int .i64 0))))⟩, ⟨(some 18), none, (.v (.mov (.t 19)))⟩]) c_law4_Make_8)) ac := rfl
def c_law4_Make_10 : SC := .seq (.seq (.reg [⟨(some 16), none, (.v (.mov (.t 5)))⟩, ⟨(some 17), none, (.v (.bin .rem (.t 16) (.c (.int .i64 5))))⟩]) c_law4_Make_9) c_law4_Make_1
theorem c_law4_Make_10_E {SP : Prg} (ac : Ac) : E SP c_law4_Make_10 ac = E SP (.seq (.seq (.reg [⟨(some 16), none, (.v (.mov (.t 5)))⟩, ⟨(some 17), none, (.v (.bin .rem (.t 16) (.c (.int .i64 5))))⟩]) c_law4_Make_9) c_law4_Make_1) ac := rfl
def c_law4_Make_11 : SC := .seq (.reg [⟨(some 12), none, (.v (.mov (.t 0)))⟩, ⟨(some 13), none, (.v (.iaddr 1 (.t 12) (.c (.int .i64 0))))⟩, ⟨(some 14), none, (.v (.load none (.t 13)))⟩, ⟨(some 15), none, (.v (.conv (.int .i64) (.t 14)))⟩, ⟨(some 5), none, (.v (.mov (.t 15)))⟩]) c_law4_Make_10
theorem c_law4_Make_11_E {SP : Prg} (ac : Ac) : E SP c_law4_Make_11 ac = E SP (.seq (.reg [⟨(some 12), none, (.v (.mov (.t 0)))⟩, ⟨(some 13), none, (.v (.iaddr 1 (.t 12) (.c (.int .i64 0))))⟩, ⟨(some 14), none, (.v (.load none (.t 13)))⟩, ⟨(some 15), none, (.v (.conv (.int .i64) (.t 14)))⟩, ⟨(some 5), none, (.v (.mov (.t 15)))⟩]) c_law4_Make_10) ac := rfl
def c_law4_Make_12 : SC := .seq (.seq (.reg [⟨(some 8), none, (.v (.mov (.t 0)))⟩, ⟨(some 9), none, (.v (.len false (.t 8)))⟩, ⟨(some 10), none, (.v (.bin .eql (.t 9) (.c (.int .i64 0))))⟩]) (.cond (.t 10) (.seq (.reg [⟨(some 11), none, (.v (.build [(.int .i64 0), (.int .i64 0), (.str []), (.nils 4)] [(0, 1, (.c (.int .i64 1)))]))⟩, ⟨none, none, (.store 4 (.t 4) (.t 11))⟩]) .ret) .skip)) c_law4_Make_11
theorem c_law4_Make_12_E {SP : Prg} (ac : Ac) : E SP c_law4_Make_12 ac = E SP (.seq (.seq (.reg [⟨(some 8), none, (.v (.mov (.t 0)))⟩, ⟨(some 9), none, (.v (.len false (.t 8)))⟩, ⟨(some 10), none, (.v (.bin .eql (.t 9) (.c (.int .i64 0))))⟩]) (.cond (.t 10) (.seq (.reg [⟨(some 11), none, (.v (.build [(.int .i64 0), (.int .i64 0), (.str []), (.nils 4)] [(0, 1, (.c (.int .i64 1)))]))⟩, ⟨none, none, (.store 4 (.t 4) (.t 11))⟩]) .ret) .skip)) c_law4_Make_11) ac := rfl
def sc_law4_Make : SFunc := ⟨2, 76, .seq (.reg [⟨(some 4), none, (.alloc [(.int .i64 0), (.int .i64 0), (.str []), (.nils 4)])⟩]) c_law4_Make_12, [(.cell 4 (some 4))]⟩
noncomputable def k_law4_Make_1 (SP : Prg) (x : EO) : CO := fin [(.cell 4 (some 4))] (thC SP (inBlk 0 (thC SP (inBlk 1 (x)) c_law4_Make_2)) c_law4_Make_1)
theorem U_law4_Make : type_of% (And.intro @c_law4_Make_1_E <| And.intro @c_law4_Make_2_E <| And.intro @c_law4_Make_3_E <| And.intro @b_law4_Make_1_E <| And.intro @c_law4_Make_4_E <| And.intro @c_law4_Make_5_E <| And.intro @c_law4_Make_6_E <| And.intro @c_law4_Make_7_E <| And.intro @c_law4_Make_8_E <| And.intro @c_law4_Make_9_E <| And.intro @c_law4_Make_10_E <| And.intro @c_law4_Make_11_E <| @c_law4_Make_12_E) := And.intro @c_law4_Make_1_E <| And.intro @c_law4_Make_2_E <| And.intro @c_law4_Make_3_E <| And.intro @b_law4_Make_1_E <| And.intro @c_law4_Make_4_E <| And.intro @c_law4_Make_5_E <| And.intro @c_law4_Make_6_E <| And.intro @c_law4_Make_7_E <| And.intro @c_law4_Make_8_E <| And.intro @c_law4_Make_9_E <| And.intro @c_law4_Make_10_E <| And.intro @c_law4_Make_11_E <| @c_law4_Make_12_E
theorem comp_law4_Make : comp Try.prog Try.f15 = some sc_law4_Make := by kernel_rfl
/-- doorkeeper/doorkeeperlaw4.is -/
def sc_law4_is : SFunc := ⟨3, 18, .seq (.reg [⟨(some 3), none, (.box (.t 0))⟩, ⟨(some 5), none, (.box (.t 2))⟩, ⟨(some 6), none, (.v (.mov (.c (.bool false))))⟩]) (.seq (.dreg [⟨(some 7), none, (.v (.load (some 4) (.t 3)))⟩, ⟨(some 8), none, (.v (.faddr 0 (.t 5)))⟩, ⟨(some 9), none, (.v (.load (some 4) (.t 8)))⟩, ⟨(some 10), none, (.call (.c (.func 30 [])) [(.t 7), (.t 9)])⟩, ⟨(some 11), none, (.v (.mov (.t 10)))⟩, ⟨(some 12), (some (11, true)), (.v (.mov (.t 1)))⟩, ⟨(some 13), (some (11, true)), (.call (.c (.func 10 [])) [(.t 12)])⟩, ⟨(some 14), (some (11, true)), (.v (.faddr 4 (.t 5)))⟩, ⟨(some 15), (some (11, true)), (.v (.load none (.t 14)))⟩, ⟨(some 16), (some (11, true)), (.v (.bin .eql (.t 13) (.t 15)))⟩, ⟨(some 17), none, (.v (.pick (.t 11) (.t 16) (.c (.bool false))))⟩, ⟨(some 6), none, (.v (.mov (.t 17)))⟩] [false, false, false, true, true, false, false, false, false, true, true, true]) .ret), [(.t 6)]⟩
theorem comp_law4_is : comp Try.prog Try.f16 = some sc_law4_is := by kernel_rfl
/-- doorkeeper/doorkeeperlaw4.ValMade -/
def c_law4_ValMade_1 : SC := .seq (.dreg [⟨(some 71), none, (.v (.load (some 4) (.t 12)))⟩, ⟨(some 72), none, (.v (.mov (.t 13)))⟩, ⟨(some 73), none, (.v (.mov (.t 11)))⟩, ⟨(some 74), none, (.v (.load (some 4) (.t 9)))⟩, ⟨(some 75), none, (.call (.c (.func 17 [])) [(.t 73), (.t 74)])⟩, ⟨(some 76), none, (.call (.c (.func 16 [])) [(.t 71), (.t 72), (.t 75)])⟩, ⟨(some 77), none, (.v (.mov (.t 76)))⟩, ⟨(some 78), (some (77, true)), (.v (.load (some 4) (.t 14)))⟩, ⟨(some 79), (some (77, true)), (.v (.mov (.t 15)))⟩, ⟨(some 80), (some (77, true)), (.v (.mov (.t 11)))⟩, ⟨(some 81), (some (77, true)), (.v (.load (some 4) (.t 9)))⟩, ⟨(some 82), (some (77, true)), (.v (.load (some 4) (.t 10)))⟩, ⟨(some 83), (some (77, true)), (.call (.c (.func 18 [])) [(.t 80), (.t 81), (.t 82)])⟩, ⟨(some 84), (some (77, true)), (.call (.c (.func 16 [])) [(.t 78), (.t 79), (.t 83)])⟩, ⟨(some 85), none, (.v (.pick (.t 77) (.t 84) (.c (.bool false))))⟩, ⟨(some 86), none, (.v (.mov (.t 85)))⟩, ⟨(some 87), (some (86, true)), (.v (.load (some 4) (.t 16)))⟩, ⟨(some 88), (some (86, true)), (.v (.mov (.t 17)))⟩, ⟨(some 89), (some (86, true)), (.v (.load (some 4) (.t 9)))⟩, ⟨(some 90), (some (86, true)), (.v (.load (some 4) (.t 10)))⟩, ⟨(some 91), (some (86, true)), (.call (.c (.func 19 [])) [(.t 89), (.t 90)])⟩, ⟨(some 92), (some (86, true)), (.call (.c (.func 16 [])) [(.t 87), (.t 88), (.t 91)])⟩, ⟨(some 93), none, (.v (.pick (.t 86) (.t 92) (.c (.bool false))))⟩, ⟨(some 94), none, (.v (.mov (.t 93)))⟩, ⟨(some 95), (some (94, true)), (.v (.load (some 4) (.t 18)))⟩, ⟨(some 96), (some (94, true)), (.v (.mov (.t 19)))⟩, ⟨(some 97), (some (94, true)), (.v (.load (some 4) (.t 9)))⟩, ⟨(some 98), (some (94, true)), (.v (.load (some 4) (.t 10)))⟩, ⟨(some 99), (some (94, true)), (.v (.load (some 4) (.t 9)))⟩, ⟨(some 100), (some (94, true)), (.bslice 4 3 [(.int .i64 0), (.int .i64 0), (.str []), (.nils 4)] [(0, (.t 97)), (1, (.t 98)), (2, (.t 99))])⟩, ⟨(some 101), (some (94, true)), (.call (.c (.func 20 [])) [(.t 100)])⟩, ⟨(some 102), (some (94, true)), (.call (.c (.func 16 [])) [(.t 95), (.t 96), (.t 101)])⟩, ⟨(some 103), none, (.v (.pick (.t 94) (.t 102) (.c (.bool false))))⟩, ⟨(some 104), none, (.v (.mov (.t 103)))⟩, ⟨(some 105), (some (104, true)), (.v (.mov (.t 15)))⟩, ⟨(some 106), (some (104, true)), (.call (.c (.func 10 [])) [(.t 105)])⟩, ⟨(some 107), (some (104, true)), (.v (.bin .neq (.t 106) (.c (.int .i64 0))))⟩, ⟨(some 108), (some (104, true)), (.v (.mov (.t 107)))⟩, ⟨(some 109), (some (108, false)), (.v (.load (some 4) (.t 14)))⟩, ⟨(some 110), (some (108, false)), (.call (.c (.func 14 [])) [(.t 109)])⟩, ⟨(some 111), (some (104, true)), (.v (.pick (.t 108) (.c (.bool true)) (.t 110)))⟩, ⟨(some 112), none, (.v (.pick (.t 104) (.t 111) (.c (.bool false))))⟩, ⟨(some 113), none, (.v (.mov (.t 112)))⟩, ⟨(some 114), (some (113, true)), (.v (.load (some 4) (.t 9)))⟩, ⟨(some 115), (some (113, true)), (.call (.c (.func 14 [])) [(.t 114)])⟩, ⟨(some 116), none, (.v (.pick (.t 113) (.t 115) (.c (.bool false))))⟩, ⟨(some 117), none, (.v (.mov (.t 116)))⟩, ⟨(some 118), (some (117, true)), (.call (.c (.func 7 [])) [])⟩, ⟨(some 119), none, (.v (.pick (.t 117) (.t 118) (.c (.bool false))))⟩, ⟨(some 8), none, (.v (.mov (.t 119)))⟩] [false, false, false, false, false, true, true, false, false, false, false, false, false, true, true, true, false, false, false, false, false, true, true, true, false, false, false, false, false, false, false, true, true, true, true, true, true, true, true, true, true, true, true, true, true, true, true, true, true, true]) .ret
theorem c_law4_ValMade_1_E {SP : Prg} (ac : Ac) : E SP c_law4_ValMade_1 ac = E SP (.seq (.dreg [⟨(some 71), none, (.v (.load (some 4) (.t 12)))⟩, ⟨(some 72), none, (.v (.mov (.t 13)))⟩, ⟨(some 73), none, (.v (.mov (.t 11)))⟩, ⟨(some 74), none, (.v (.load (some 4) (.t 9)))⟩, ⟨(some 75), none, (.call (.c (.func 17 [])) [(.t 73), (.t 74)])⟩, ⟨(some 76), none, (.call (.c (.func 16 [])) [(.t 71), (.t 72), (.t 75)])⟩, ⟨(some 77), none, (.v (.mov (.t 76)))⟩, ⟨(some 78), (some (77, true)), (.v (.load (some 4) (.t 14)))⟩, ⟨(some 79), (some (77, true)), (.v (.mov (.t 15)))⟩, ⟨(some 80), (some (77, true)), (.v (.mov (.t 11)))⟩, ⟨(some 81), (some (77, true)), (.v (.load (some 4) (.t 9)))⟩, ⟨(some 82), (some (77, true)), (.v (.load (some 4) (.t 10)))⟩, ⟨(some 83), (some (77, true)), (.call (.c (.func 18 [])) [(.t 80), (.t 81), (.t 82)])⟩, ⟨(some 84), (some (77, true)), (.call (.c (.func 16 [])) [(.t 78), (.t 79), (.t 83)])⟩, ⟨(some 85), none, (.v (.pick (.t 77) (.t 84) (.c (.bool false))))⟩, ⟨(some 86), none, (.v (.mov (.t 85)))⟩, ⟨(some 87), (some (86, true)), (.v (.load (some 4) (.t 16)))⟩, ⟨(some 88), (some (86, true)), (.v (.mov (.t 17)))⟩, ⟨(some 89), (some (86, true)), (.v (.load (some 4) (.t 9)))⟩, ⟨(some 90), (some (86, true)), (.v (.load (some 4) (.t 10)))⟩, ⟨(some 91), (some (86, true)), (.call (.c (.func 19 [])) [(.t 89), (.t 90)])⟩, ⟨(some 92), (some (86, true)), (.call (.c (.func 16 [])) [(.t 87), (.t 88), (.t 91)])⟩, ⟨(some 93), none, (.v (.pick (.t 86) (.t 92) (.c (.bool false))))⟩, ⟨(some 94), none, (.v (.mov (.t 93)))⟩, ⟨(some 95), (some (94, true)), (.v (.load (some 4) (.t 18)))⟩, ⟨(some 96), (some (94, true)), (.v (.mov (.t 19)))⟩, ⟨(some 97), (some (94, true)), (.v (.load (some 4) (.t 9)))⟩, ⟨(some 98), (some (94, true)), (.v (.load (some 4) (.t 10)))⟩, ⟨(some 99), (some (94, true)), (.v (.load (some 4) (.t 9)))⟩, ⟨(some 100), (some (94, true)), (.bslice 4 3 [(.int .i64 0), (.int .i64 0), (.str []), (.nils 4)] [(0, (.t 97)), (1, (.t 98)), (2, (.t 99))])⟩, ⟨(some 101), (some (94, true)), (.call (.c (.func 20 [])) [(.t 100)])⟩, ⟨(some 102), (some (94, true)), (.call (.c (.func 16 [])) [(.t 95), (.t 96), (.t 101)])⟩, ⟨(some 103), none, (.v (.pick (.t 94) (.t 102) (.c (.bool false))))⟩, ⟨(some 104), none, (.v (.mov (.t 103)))⟩, ⟨(some 105), (some (104, true)), (.v (.mov (.t 15)))⟩, ⟨(some 106), (some (104, true)), (.call (.c (.func 10 [])) [(.t 105)])⟩, ⟨(some 107), (some (104, true)), (.v (.bin .neq (.t 106) (.c (.int .i64 0))))⟩, ⟨(some 108), (some (104, true)), (.v (.mov (.t 107)))⟩, ⟨(some 109), (some (108, false)), (.v (.load (some 4) (.t 14)))⟩, ⟨(some 110), (some (108, false)), (.call (.c (.func 14 [])) [(.t 109)])⟩, ⟨(some 111), (some (104, true)), (.v (.pick (.t 108) (.c (.bool true)) (.t 110)))⟩, ⟨(some 112), none, (.v (.pick (.t 104) (.t 111) (.c (.bool false))))⟩, ⟨(some 113), none, (.v (.mov (.t 112)))⟩, ⟨(some 114), (some (113, true)), (.v (.load (some 4) (.t 9)))⟩, ⟨(some 115), (some (113, true)), (.call (.c (.func 14 [])) [(.t 114)])⟩, ⟨(some 116), none, (.v (.pick (.t 113) (.t 115) (.c (.bool false))))⟩, ⟨(some 117), none, (.v (.mov (.t 116)))⟩, ⟨(some 118), (some (117, true)), (.call (.c (.func 7 [])) [])⟩, ⟨(some 119), none, (.v (.pick (.t 117) (.t 118) (.c (.bool false))))⟩, ⟨(some 8), none, (.v (.mov (.t 119)))⟩] [false, false, false, false, false, true, true, false, false, false, false, false, false, true, true, true, false, false, false, false, false, true, true, true, false, false, false, false, false, false, false, true, true, true, true, true, true, true, true, true, true, true, true, true, true, true, true, true, true, true]) .ret) ac := rfl
def c_law4_ValMade_2 : SC := .seq (.reg [⟨(some 64), none, (.v (.load (some 4) (.t 9)))⟩, ⟨(some 65), none, (.v (.load (some 4) (.t 10)))⟩, ⟨(some 66), none, (.v (.load (some 4) (.t 9)))⟩, ⟨(some 67), none, (.bslice 4 3 [(.int .i64 0), (.int .i64 0), (.str []), (.nils 4)] [(0, (.t 64)), (1, (.t 65)), (2, (.t 66))])⟩, ⟨(some 68), none, (.call (.c (.func 12 [])) [(.t 67)])⟩, ⟨(some 63), none, (.v (.mov (.t 68)))⟩, ⟨(some 69), none, (.v (.extract 0 (.t 63)))⟩, ⟨(some 70), none, (.v (.extract 1 (.t 63)))⟩, ⟨(some 18), none, (.alloc [(.int .i64 0), (.int .i64 0), (.str []), (.nils 4)])⟩, ⟨none, none, (.store 4 (.t 18) (.t 69))⟩, ⟨(some 19), none, (.v (.mov (.t 70)))⟩]) c_law4_ValMade_1
theorem c_law4_ValMade_2_E {SP : Prg} (ac : Ac) : E SP c_law4_ValMade_2 ac = E SP (.seq (.reg [⟨(some 64), none, (.v (.load (some 4) (.t 9)))⟩, ⟨(some 65), none, (.v (.load (some 4) (.t 10)))⟩, ⟨(some 66), none, (.v (.load (some 4) (.t 9)))⟩, ⟨(some 67), none, (.bslice 4 3 [(.int .i64 0), (.int .i64 0), (.str []), (.nils 4)] [(0, (.t 64)), (1, (.t 65)), (2, (.t 66))])⟩, ⟨(some 68), none, (.call (.c (.func 12 [])) [(.t 67)])⟩, ⟨(some 63), none, (.v (.mov (.t 68)))⟩, ⟨(some 69), none, (.v (.extract 0 (.t 63)))⟩, ⟨(some 70), none, (.v (.extract 1 (.t 63)))⟩, ⟨(some 18), none, (.alloc [(.int .i64 0), (.int .i64 0), (.str []), (.nils 4)])⟩, ⟨none, none, (.store 4 (.t 18) (.t 69))⟩, ⟨(some 19), none, (.v (.mov (.t 70)))⟩]) c_law4_ValMade_1) ac := rfl
def c_law4_ValMade_3 : SC := .seq (.reg [⟨(some 58), none, (.v (.load (some 4) (.t 9)))⟩, ⟨(some 59), none, (.v (.load (some 4) (.t 10)))⟩, ⟨(some 60), none, (.call (.c (.func 13 [])) [(.t 58), (.t 59)])⟩, ⟨(some 57), none, (.v (.mov (.t 60)))⟩, ⟨(some 61), none, (.v (.extract 0 (.t 57)))⟩, ⟨(some 62), none, (.v (.extract 1 (.t 57)))⟩, ⟨(some 16), none, (.alloc [(.int .i64 0), (.int .i64 0), (.str []), (.nils 4)])⟩, ⟨none, none, (.store 4 (.t 16) (.t 61))⟩, ⟨(some 17), none, (.v (.mov (.t 62)))⟩]) c_law4_ValMade_2
theorem c_law4_ValMade_3_E {SP : Prg} (ac : Ac) : E SP c_law4_ValMade_3 ac = E SP (.seq (.reg [⟨(some 58), none, (.v (.load (some 4) (.t 9)))⟩, ⟨(some 59), none, (.v (.load (some 4) (.t 10)))⟩, ⟨(some 60), none, (.call (.c (.func 13 [])) [(.t 58), (.t 59)])⟩, ⟨(some 57), none, (.v (.mov (.t 60)))⟩, ⟨(some 61), none, (.v (.extract 0 (.t 57)))⟩, ⟨(some 62), none, (.v (.extract 1 (.t 57)))⟩, ⟨(some 16), none, (.alloc [(.int .i64 0), (.int .i64 0), (.str []), (.nils 4)])⟩, ⟨none, none, (.store 4 (.t 16) (.t 61))⟩, ⟨(some 17), none, (.v (.mov (.t 62)))⟩]) c_law4_ValMade_2) ac := rfl
def c_law4_ValMade_4 : SC := .seq (.reg [⟨(some 51), none, (.v (.mov (.t 11)))⟩, ⟨(some 52), none, (.v (.load (some 4) (.t 9)))⟩, ⟨(some 53), none, (.v (.load (some 4) (.t 10)))⟩, ⟨(some 54), none, (.call (.c (.func 9 [])) [(.t 51), (.t 52), (.t 53)])⟩, ⟨(some 50), none, (.v (.mov (.t 54)))⟩, ⟨(some 55), none, (.v (.extract 0 (.t 50)))⟩, ⟨(some 56), none, (.v (.extract 1 (.t 50)))⟩, ⟨(some 14), none, (.alloc [(.int .i64 0), (.int .i64 0), (.str []), (.nils 4)])⟩, ⟨none, none, (.store 4 (.t 14) (.t 55))⟩, ⟨(some 15), none, (.v (.mov (.t 56)))⟩]) c_law4_ValMade_3
theorem c_law4_ValMade_4_E {SP : Prg} (ac : Ac) : E SP c_law4_ValMade_4 ac = E SP (.seq (.reg [⟨(some 51), none, (.v (.mov (.t 11)))⟩, ⟨(some 52), none, (.v (.load (some 4) (.t 9)))⟩, ⟨(some 53), none, (.v (.load (some 4) (.t 10)))⟩, ⟨(some 54), none, (.call (.c (.func 9 [])) [(.t 51), (.t 52), (.t 53)])⟩, ⟨(some 50), none, (.v (.mov (.t 54)))⟩, ⟨(some 55), none, (.v (.extract 0 (.t 50)))⟩, ⟨(some 56), none, (.v (.extract 1 (.t 50)))⟩, ⟨(some 14), none, (.alloc [(.int .i64 0), (.int .i64 0), (.str []), (.nils 4)])⟩, ⟨none, none, (.store 4 (.t 14) (.t 55))⟩, ⟨(some 15), none, (.v (.mov (.t 56)))⟩]) c_law4_ValMade_3) ac := rfl
def c_law4_ValMade_5 : SC := .seq (.reg [⟨(some 45), none, (.v (.mov (.t 11)))⟩, ⟨(some 46), none, (.v (.load (some 4) (.t 9)))⟩, ⟨(some 47), none, (.call (.c (.func 11 [])) [(.t 45), (.t 46)])⟩, ⟨(some 44), none, (.v (.mov (.t 47)))⟩, ⟨(some 48), none, (.v (.extract 0 (.t 44)))⟩, ⟨(some 49), none, (.v (.extract 1 (.t 44)))⟩, ⟨(some 12), none, (.alloc [(.int .i64 0), (.int .i64 0), (.str []), (.nils 4)])⟩, ⟨none, none, (.store 4 (.t 12) (.t 48))⟩, ⟨(some 13), none, (.v (.mov (.t 49)))⟩]) c_law4_ValMade_4
theorem c_law4_ValMade_5_E {SP : Prg} (ac : Ac) : E SP c_law4_ValMade_5 ac = E SP (.seq (.reg [⟨(some 45), none, (.v (.mov (.t 11)))⟩, ⟨(some 46), none, (.v (.load (some 4) (.t 9)))⟩, ⟨(some 47), none, (.call (.c (.func 11 [])) [(.t 45), (.t 46)])⟩, ⟨(some 44), none, (.v (.mov (.t 47)))⟩, ⟨(some 48), none, (.v (.extract 0 (.t 44)))⟩, ⟨(some 49), none, (.v (.extract 1 (.t 44)))⟩, ⟨(some 12), none, (.alloc [(.int .i64 0), (.int .i64 0), (.str []), (.nils 4)])⟩, ⟨none, none, (.store 4 (.t 12) (.t 48))⟩, ⟨(some 13), none, (.v (.mov (.t 49)))⟩]) c_law4_ValMade_4) ac := rfl
def c_law4_ValMade_6 : SC := .seq (.reg [⟨(some 40), none, (.v (.mov (.t 0)))⟩, ⟨(some 41), none, (.v (.conv (.int .i64) (.t 40)))⟩, ⟨(some 42), none, (.v (.bin .rem (.t 41) (.c (.int .i64 16))))⟩, ⟨(some 43), none, (.v (.bin .add (.c (.int .i64 8)) (.t 42)))⟩, ⟨(some 11), none, (.v (.mov (.t 43)))⟩]) c_law4_ValMade_5
theorem c_law4_ValMade_6_E {SP : Prg} (ac : Ac) : E SP c_law4_ValMade_6 ac = E SP (.seq (.reg [⟨(some 40), none, (.v (.mov (.t 0)))⟩, ⟨(some 41), none, (.v (.conv (.int .i64) (.t 40)))⟩, ⟨(some 42), none, (.v (.bin .rem (.t 41) (.c (.int .i64 16))))⟩, ⟨(some 43), none, (.v (.bin .add (.c (.int .i64 8)) (.t 42)))⟩, ⟨(some 11), none, (.v (.mov (.t 43)))⟩]) c_law4_ValMade_5) ac := rfl
def c_law4_ValMade_7 : SC := .seq (.reg [⟨(some 34), none, (.v (.mov (.t 1)))⟩, ⟨(some 35), none, (.v (.mov (.t 3)))⟩, ⟨(some 36), none, (.call (.c (.func 15 [])) [(.t 34), (.t 35)])⟩, ⟨(some 37), none, (.v (.mov (.t 2)))⟩, ⟨(some 38), none, (.v (.mov (.t 3)))⟩, ⟨(some 39), none, (.call (.c (.func 15 [])) [(.t 37), (.t 38)])⟩, ⟨(some 9), none, (.alloc [(.int .i64 0), (.int .i64 0), (.str []), (.nils 4)])⟩, ⟨(some 10), none, (.alloc [(.int .i64 0), (.int .i64 0), (.str []), (.nils 4)])⟩, ⟨none, none, (.store 4 (.t 9) (.t 36))⟩, ⟨none, none, (.store 4 (.t 10) (.t 39))⟩]) c_law4_ValMade_6
theorem c_law4_ValMade_7_E {SP : Prg} (ac : Ac) : E SP c_law4_ValMade_7 ac = E SP (.seq (.reg [⟨(some 34), none, (.v (.mov (.t 1)))⟩, ⟨(some 35), none, (.v (.mov (.t 3)))⟩, ⟨(some 36), none, (.call (.c (.func 15 [])) [(.t 34), (.t 35)])⟩, ⟨(some 37), none, (.v (.mov (.t 2)))⟩, ⟨(some 38), none, (.v (.mov (.t 3)))⟩, ⟨(some 39), none, (.call (.c (.func 15 [])) [(.t 37), (.t 38)])⟩, ⟨(some 9), none, (.alloc [(.int .i64 0), (.int .i64 0), (.str []), (.nils 4)])⟩, ⟨(some 10), none, (.alloc [(.int .i64 0), (.int .i64 0), (.str []), (.nils 4)])⟩, ⟨none, none, (.store 4 (.t 9) (.t 36))⟩, ⟨none, none, (.store 4 (.t 10) (.t 39))⟩]) c_law4_ValMade_6) ac := rfl
def c_law4_ValMade_8 : SC := .seq (.seq (.reg [⟨(some 20), none, (.v (.mov (.t 1)))⟩, ⟨(some 21), none, (.v (.len false (.t 20)))⟩, ⟨(some 22), none, (.v (.bin .gtr (.t 21) (.c (.int .i64 20))))⟩, ⟨(some 23), none, (.v (.mov (.t 22)))⟩, ⟨(some 24), (some (23, false)), (.v (.mov (.t 2)))⟩, ⟨(some 25), (some (23, false)), (.v (.len false (.t 24)))⟩, ⟨(some 26), (some (23, false)), (.v (.bin .gtr (.t 25) (.c (.int .i64 20))))⟩, ⟨(some 27), none, (.v (.pick (.t 23) (.c (.bool true)) (.t 26)))⟩, ⟨(some 28), none, (.v (.mov (.t 27)))⟩, ⟨(some 29), (some (28, false)), (.v (.mov (.t 3)))⟩, ⟨(some 30), (some (28, false)), (.v (.len true (.t 29)))⟩, ⟨(some 31), (some (28, false)), (.v (.bin .gtr (.t 30) (.c (.int .i64 100))))⟩, ⟨(some 32), none, (.v (.pick (.t 28) (.c (.bool true)) (.t 31)))⟩]) (.cond (.t 32) (.seq (.reg [⟨(some 33), none, (.call (.c (.func 7 [])) [])⟩, ⟨(some 8), none, (.v (.mov (.t 33)))⟩]) .ret) .skip)) c_law4_ValMade_7
theorem c_law4_ValMade_8_E {SP : Prg} (ac : Ac) : E SP c_law4_ValMade_8 ac = E SP (.seq (.seq (.reg [⟨(some 20), none, (.v (.mov (.t 1)))⟩, ⟨(some 21), none, (.v (.len false (.t 20)))⟩, ⟨(some 22), none, (.v (.bin .gtr (.t 21) (.c (.int .i64 20))))⟩, ⟨(some 23), none, (.v (.mov (.t 22)))⟩, ⟨(some 24), (some (23, false)), (.v (.mov (.t 2)))⟩, ⟨(some 25), (some (23, false)), (.v (.len false (.t 24)))⟩, ⟨(some 26), (some (23, false)), (.v (.bin .gtr (.t 25) (.c (.int .i64 20))))⟩, ⟨(some 27), none, (.v (.pick (.t 23) (.c (.bool true)) (.t 26)))⟩, ⟨(some 28), none, (.v (.mov (.t 27)))⟩, ⟨(some 29), (some (28, false)), (.v (.mov (.t 3)))⟩, ⟨(some 30), (some (28, false)), (.v (.len true (.t 29)))⟩, ⟨(some 31), (some (28, false)), (.v (.bin .gtr (.t 30) (.c (.int .i64 100))))⟩, ⟨(some 32), none, (.v (.pick (.t 28) (.c (.bool true)) (.t 31)))⟩]) (.cond (.t 32) (.seq (.reg [⟨(some 33), none, (.call (.c (.func 7 [])) [])⟩, ⟨(some 8), none, (.v (.mov (.t 33)))⟩]) .ret) .skip)) c_law4_ValMade_7) ac := rfl
def sc_law4_ValMade : SFunc := ⟨4, 120, .seq (.reg [⟨(some 8), none, (.v (.mov (.c (.bool false))))⟩]) c_law4_ValMade_8, [(.t 8)]⟩
theorem U_law4_ValMade : type_of% (And.intro @c_law4_ValMade_1_E <| And.intro @c_law4_ValMade_2_E <| And.intro @c_law4_ValMade_3_E <| And.intro @c_law4_ValMade_4_E <| And.intro @c_law4_ValMade_5_E <| And.intro @c_law4_ValMade_6_E <| And.intro @c_law4_ValMade_7_E <| @c_law4_ValMade_8_E) := And.intro @c_law4_ValMade_1_E <| And.intro @c_law4_ValMade_2_E <| And.intro @c_law4_ValMade_3_E <| And.intro @c_law4_ValMade_4_E <| And.intro @c_law4_ValMade_5_E <| And.intro @c_law4_ValMade_6_E <| And.intro @c_law4_ValMade_7_E <| @c_law4_ValMade_8_E
theorem comp_law4_ValMade : comp Try.prog Try.f6 = some sc_law4_ValMade := by kernel_rfl
end Go.Proofs.Ytebflncfgjnkkaa.M

/- Trees of functions, printed by a program of this session (lift.py): what a run asks, over plain data. Lean proves each. -/
namespace Go.Proofs.Ytebflncfgjnkkaa.M
set_option linter.unusedSimpArgs false
set_option linter.unusedVariables false
open Go Classical
theorem sp_ref4_deep : SP 35 = some (.code sc_ref4_deep) := SPof_code rfl Try.func35 comp_ref4_deep
/-! doorkeeper/doorkeeperref4.deep -/
def At_ref4_deep_1 (v : V) (left : Int) (i1 : Int) (i2 : Int) (r : Int) : Prop := ∀ (S : Sto) (e : Nat → PV) (f : Fr), e 1 = .int .i64 left → e 2 = .ptr 0 2 0 → e 5 = .int .i64 i1 → e 6 = .int .i64 i2 → f.box 2 = some [.int .i64 v.k, .int .i64 v.n, .str v.s, .list 4 (encL v.l) false] →  k_ref4_deep_1 SP (E SP (.loop b_ref4_deep_1) ⟨e, f :: S⟩) = .ok (.v (.int .i64 r)) S
set_option maxHeartbeats 4000000 in
theorem At_ref4_deep_1_step (v : V) (left : Int) (i1 : Int) (i2 : Int) (r : Int) (T :
  ((i2 < ((v.l.length : Nat) : Int)) →
    (0 ≤ i2) ∧
    ∃ (v3 : V), (v.l[i2.toNat]? = some v3) ∧
    (I64 (left - 1)) ∧
    ∃ (r4 : Int), (R_ref4_deep v3 (left - 1) r4) ∧
    (I64 (i2 + 1)) ∧
    At_ref4_deep_1 v left (if i1 < r4 then r4 else i1) (i2 + 1) r) ∧
  (¬ (i2 < ((v.l.length : Nat) : Int)) →
    (I64 (i1 + 1)) ∧
    (i1 + 1) = r)) : At_ref4_deep_1 v left i1 i2 r := by
  intro S e f h0 h1 h2 h3 h4
  unfold k_ref4_deep_1
  rw [E_loop]
  try simp only [h0, h1, h2, h3, h4, sc_ref4_deep, U_ref4_deep, ac0, lw, le, Nat.reduceEqDiff, reduceIte, reduceCtorEq, Nat.reduceAdd, Nat.reduceLeDiff, Nat.reduceSub, Nat.reduceMul, Int.reduceEq, Int.reduceNe, Int.reduceLT, Int.reduceLE, Int.reduceAdd, Int.reduceSub, Int.reduceMul, Int.reduceNeg, Nat.reduceLT, Nat.reduceDiv, Int.reduceToNat]
  by_cases c1 : i2 < ((v.l.length : Nat) : Int)
  · replace T := T.1 c1
    obtain ⟨p2, T⟩ := T
    obtain ⟨v3, q3, T⟩ := T
    obtain ⟨p4, T⟩ := T
    have w4 := p4.wrap
    obtain ⟨r4, q5, T⟩ := T
    simp only [R_ref4_deep, le] at q5
    obtain ⟨p6, T⟩ := T
    have w6 := p6.wrap
    try simp only [h0, h1, h2, h3, h4, eq_true c1, p2, q3, w4, q5, w6, sc_ref4_deep, U_ref4_deep, ac0, lw, le, Nat.reduceEqDiff, reduceIte, reduceCtorEq, Nat.reduceAdd, Nat.reduceLeDiff, Nat.reduceSub, Nat.reduceMul, Int.reduceEq, Int.reduceNe, Int.reduceLT, Int.reduceLE, Int.reduceAdd, Int.reduceSub, Int.reduceMul, Int.reduceNeg, Nat.reduceLT, Nat.reduceDiv, Int.reduceToNat]
    refine T S _ _ ?_ ?_ ?_ ?_ ?_
    all_goals first | rfl | (simp only [h0, h1, h2, h3, h4, eq_true c1, p2, q3, w4, q5, w6, sc_ref4_deep, U_ref4_deep, ac0, le, lw, le, Nat.reduceEqDiff, reduceIte, reduceCtorEq, Nat.reduceAdd, Nat.reduceLeDiff, Nat.reduceSub, Nat.reduceMul, Int.reduceEq, Int.reduceNe, Int.reduceLT, Int.reduceLE, Int.reduceAdd, Int.reduceSub, Int.reduceMul, Int.reduceNeg, Nat.reduceLT, Nat.reduceDiv, Int.reduceToNat]; done) | (simp only [h0, h1, h2, h3, h4, eq_true c1, p2, q3, w4, q5, w6, sc_ref4_deep, U_ref4_deep, ac0, le, lw, le, Nat.reduceEqDiff, reduceIte, reduceCtorEq, Nat.reduceAdd, Nat.reduceLeDiff, Nat.reduceSub, Nat.reduceMul, Int.reduceEq, Int.reduceNe, Int.reduceLT, Int.reduceLE, Int.reduceAdd, Int.reduceSub, Int.reduceMul, Int.reduceNeg, Nat.reduceLT, Nat.reduceDiv, Int.reduceToNat]; rfl)
  · replace T := T.2 c1
    obtain ⟨p7, T⟩ := T
    have w7 := p7.wrap
    subst T
    try simp only [h0, h1, h2, h3, h4, eq_false c1, w7, le, sc_ref4_deep, U_ref4_deep, ac0, lw, le, Nat.reduceEqDiff, reduceIte, reduceCtorEq, Nat.reduceAdd, Nat.reduceLeDiff, Nat.reduceSub, Nat.reduceMul, Int.reduceEq, Int.reduceNe, Int.reduceLT, Int.reduceLE, Int.reduceAdd, Int.reduceSub, Int.reduceMul, Int.reduceNeg, Nat.reduceLT, Nat.reduceDiv, Int.reduceToNat]
    all_goals first | done | rfl
set_option maxHeartbeats 4000000 in
theorem ref4_deep_tree (v : V) (left : Int) (r : Int) (T :
  ((v.k = 4) →
    ((left ≤ 0) →
      1000 = r) ∧
    (¬ (left ≤ 0) →
      At_ref4_deep_1 v left 0 0 r)) ∧
  (¬ (v.k = 4) →
    0 = r)) : R_ref4_deep v left r := by
  unfold R_ref4_deep
  intro S
  rw [call_code sp_ref4_deep _ _ rfl]
  simp only [le]
  try simp only [sc_ref4_deep, U_ref4_deep, ac0, lw, le, Nat.reduceEqDiff, reduceIte, reduceCtorEq, Nat.reduceAdd, Nat.reduceLeDiff, Nat.reduceSub, Nat.reduceMul, Int.reduceEq, Int.reduceNe, Int.reduceLT, Int.reduceLE, Int.reduceAdd, Int.reduceSub, Int.reduceMul, Int.reduceNeg, Nat.reduceLT, Nat.reduceDiv, Int.reduceToNat]
  by_cases c1 : v.k = 4
  · replace T := T.1 c1
    try simp only [eq_true c1, sc_ref4_deep, U_ref4_deep, ac0, lw, le, Nat.reduceEqDiff, reduceIte, reduceCtorEq, Nat.reduceAdd, Nat.reduceLeDiff, Nat.reduceSub, Nat.reduceMul, Int.reduceEq, Int.reduceNe, Int.reduceLT, Int.reduceLE, Int.reduceAdd, Int.reduceSub, Int.reduceMul, Int.reduceNeg, Nat.reduceLT, Nat.reduceDiv, Int.reduceToNat]
    by_cases c2 : left ≤ 0
    · replace T := T.1 c2
      subst T
      try simp only [eq_true c1, eq_true c2, le, sc_ref4_deep, U_ref4_deep, ac0, lw, le, Nat.reduceEqDiff, reduceIte, reduceCtorEq, Nat.reduceAdd, Nat.reduceLeDiff, Nat.reduceSub, Nat.reduceMul, Int.reduceEq, Int.reduceNe, Int.reduceLT, Int.reduceLE, Int.reduceAdd, Int.reduceSub, Int.reduceMul, Int.reduceNeg, Nat.reduceLT, Nat.reduceDiv, Int.reduceToNat]
      all_goals first | done | rfl
    · replace T := T.2 c2
      try simp only [eq_true c1, eq_false c2, sc_ref4_deep, U_ref4_deep, ac0, lw, le, Nat.reduceEqDiff, reduceIte, reduceCtorEq, Nat.reduceAdd, Nat.reduceLeDiff, Nat.reduceSub, Nat.reduceMul, Int.reduceEq, Int.reduceNe, Int.reduceLT, Int.reduceLE, Int.reduceAdd, Int.reduceSub, Int.reduceMul, Int.reduceNeg, Nat.reduceLT, Nat.reduceDiv, Int.reduceToNat]
      refine T S _ _ ?_ ?_ ?_ ?_ ?_
      all_goals first | rfl | (simp only [eq_true c1, eq_false c2, sc_ref4_deep, U_ref4_deep, ac0, le, lw, le, Nat.reduceEqDiff, reduceIte, reduceCtorEq, Nat.reduceAdd, Nat.reduceLeDiff, Nat.reduceSub, Nat.reduceMul, Int.reduceEq, Int.reduceNe, Int.reduceLT, Int.reduceLE, Int.reduceAdd, Int.reduceSub, Int.reduceMul, Int.reduceNeg, Nat.reduceLT, Nat.reduceDiv, Int.reduceToNat]; done) | (simp only [eq_true c1, eq_false c2, sc_ref4_deep, U_ref4_deep, ac0, le, lw, le, Nat.reduceEqDiff, reduceIte, reduceCtorEq, Nat.reduceAdd, Nat.reduceLeDiff, Nat.reduceSub, Nat.reduceMul, Int.reduceEq, Int.reduceNe, Int.reduceLT, Int.reduceLE, Int.reduceAdd, Int.reduceSub, Int.reduceMul, Int.reduceNeg, Nat.reduceLT, Nat.reduceDiv, Int.reduceToNat]; rfl)
  · replace T := T.2 c1
    subst T
    try simp only [eq_false c1, le, sc_ref4_deep, U_ref4_deep, ac0, lw, le, Nat.reduceEqDiff, reduceIte, reduceCtorEq, Nat.reduceAdd, Nat.reduceLeDiff, Nat.reduceSub, Nat.reduceMul, Int.reduceEq, Int.reduceNe, Int.reduceLT, Int.reduceLE, Int.reduceAdd, Int.reduceSub, Int.reduceMul, Int.reduceNeg, Nat.reduceLT, Nat.reduceDiv, Int.reduceToNat]
    all_goals first | done | rfl
theorem sp_ref4_Index : SP 19 = some (.code sc_ref4_Index) := SPof_code rfl Try.func19 comp_ref4_Index
/-! doorkeeper/doorkeeperref4.Index -/
set_option maxHeartbeats 4000000 in
theorem ref4_Index_tree (a : V) (b : V) (r : Got) (T :
  ((a.k = 4) →
    ((b.k = 1) →
      ((b.n < 0) →
        ∃ (r1 : Got), (R_ref4_bad 2 r1) ∧
        r1 = r) ∧
      (¬ (b.n < 0) →
        ((((a.l.length : Nat) : Int) ≤ b.n) →
          ∃ (r2 : Got), (R_ref4_bad 2 r2) ∧
          r2 = r) ∧
        (¬ (((a.l.length : Nat) : Int) ≤ b.n) →
          (0 ≤ b.n) ∧
          ∃ (v3 : V), (a.l[b.n.toNat]? = some v3) ∧
          (Got.mk v3 0) = r))) ∧
    (¬ (b.k = 1) →
      ∃ (r4 : Got), (R_ref4_bad 7 r4) ∧
      r4 = r)) ∧
  (¬ (a.k = 4) →
    ∃ (r5 : Got), (R_ref4_bad 7 r5) ∧
    r5 = r)) : R_ref4_Index a b r := by
  unfold R_ref4_Index
  intro S
  rw [call_code sp_ref4_Index _ _ rfl]
  simp only [le]
  try simp only [sc_ref4_Index, U_ref4_Index, ac0, lw, le, Nat.reduceEqDiff, reduceIte, reduceCtorEq, Nat.reduceAdd, Nat.reduceLeDiff, Nat.reduceSub, Nat.reduceMul, Int.reduceEq, Int.reduceNe, Int.reduceLT, Int.reduceLE, Int.reduceAdd, Int.reduceSub, Int.reduceMul, Int.reduceNeg, Nat.reduceLT, Nat.reduceDiv, Int.reduceToNat]
  by_cases c1 : a.k = 4
  · replace T := T.1 c1
    try simp only [eq_true c1, sc_ref4_Index, U_ref4_Index, ac0, lw, le, Nat.reduceEqDiff, reduceIte, reduceCtorEq, Nat.reduceAdd, Nat.reduceLeDiff, Nat.reduceSub, Nat.reduceMul, Int.reduceEq, Int.reduceNe, Int.reduceLT, Int.reduceLE, Int.reduceAdd, Int.reduceSub, Int.reduceMul, Int.reduceNeg, Nat.reduceLT, Nat.reduceDiv, Int.reduceToNat]
    by_cases c2 : b.k = 1
    · replace T := T.1 c2
      try simp only [eq_true c1, eq_true c2, sc_ref4_Index, U_ref4_Index, ac0, lw, le, Nat.reduceEqDiff, reduceIte, reduceCtorEq, Nat.reduceAdd, Nat.reduceLeDiff, Nat.reduceSub, Nat.reduceMul, Int.reduceEq, Int.reduceNe, Int.reduceLT, Int.reduceLE, Int.reduceAdd, Int.reduceSub, Int.reduceMul, Int.reduceNeg, Nat.reduceLT, Nat.reduceDiv, Int.reduceToNat]
      by_cases c3 : b.n < 0
      · replace T := T.1 c3
        obtain ⟨r1, q4, T⟩ := T
        simp only [R_ref4_bad, le] at q4
        subst T
        try simp only [eq_true c1, eq_true c2, eq_true c3, q4, le, sc_ref4_Index, U_ref4_Index, ac0, lw, le, Nat.reduceEqDiff, reduceIte, reduceCtorEq, Nat.reduceAdd, Nat.reduceLeDiff, Nat.reduceSub, Nat.reduceMul, Int.reduceEq, Int.reduceNe, Int.reduceLT, Int.reduceLE, Int.reduceAdd, Int.reduceSub, Int.reduceMul, Int.reduceNeg, Nat.reduceLT, Nat.reduceDiv, Int.reduceToNat]
        all_goals first | done | rfl
      · replace T := T.2 c3
        try simp only [eq_true c1, eq_true c2, eq_false c3, sc_ref4_Index, U_ref4_Index, ac0, lw, le, Nat.reduceEqDiff, reduceIte, reduceCtorEq, Nat.reduceAdd, Nat.reduceLeDiff, Nat.reduceSub, Nat.reduceMul, Int.reduceEq, Int.reduceNe, Int.reduceLT, Int.reduceLE, Int.reduceAdd, Int.reduceSub, Int.reduceMul, Int.reduceNeg, Nat.reduceLT, Nat.reduceDiv, Int.reduceToNat]
        by_cases c5 : ((a.l.length : Nat) : Int) ≤ b.n
        · replace T := T.1 c5
          obtain ⟨r2, q6, T⟩ := T
          simp only [R_ref4_bad, le] at q6
          subst T
          try simp only [eq_true c1, eq_true c2, eq_false c3, eq_true c5, q6, le, sc_ref4_Index, U_ref4_Index, ac0, lw, le, Nat.reduceEqDiff, reduceIte, reduceCtorEq, Nat.reduceAdd, Nat.reduceLeDiff, Nat.reduceSub, Nat.reduceMul, Int.reduceEq, Int.reduceNe, Int.reduceLT, Int.reduceLE, Int.reduceAdd, Int.reduceSub, Int.reduceMul, Int.reduceNeg, Nat.reduceLT, Nat.reduceDiv, Int.reduceToNat]
          all_goals first | done | rfl
        · replace T := T.2 c5
          obtain ⟨p7, T⟩ := T
          obtain ⟨v3, q8, T⟩ := T
          subst T
          try simp only [eq_true c1, eq_true c2, eq_false c3, eq_false c5, p7, q8, le, sc_ref4_Index, U_ref4_Index, ac0, lw, le, Nat.reduceEqDiff, reduceIte, reduceCtorEq, Nat.reduceAdd, Nat.reduceLeDiff, Nat.reduceSub, Nat.reduceMul, Int.reduceEq, Int.reduceNe, Int.reduceLT, Int.reduceLE, Int.reduceAdd, Int.reduceSub, Int.reduceMul, Int.reduceNeg, Nat.reduceLT, Nat.reduceDiv, Int.reduceToNat]
          all_goals first | done | rfl
    · replace T := T.2 c2
      obtain ⟨r4, q9, T⟩ := T
      simp only [R_ref4_bad, le] at q9
      subst T
      try simp only [eq_true c1, eq_false c2, q9, le, sc_ref4_Index, U_ref4_Index, ac0, lw, le, Nat.reduceEqDiff, reduceIte, reduceCtorEq, Nat.reduceAdd, Nat.reduceLeDiff, Nat.reduceSub, Nat.reduceMul, Int.reduceEq, Int.reduceNe, Int.reduceLT, Int.reduceLE, Int.reduceAdd, Int.reduceSub, Int.reduceMul, Int.reduceNeg, Nat.reduceLT, Nat.reduceDiv, Int.reduceToNat]
      all_goals first | done | rfl
  · replace T := T.2 c1
    obtain ⟨r5, q10, T⟩ := T
    simp only [R_ref4_bad, le] at q10
    subst T
    try simp only [eq_false c1, q10, le, sc_ref4_Index, U_ref4_Index, ac0, lw, le, Nat.reduceEqDiff, reduceIte, reduceCtorEq, Nat.reduceAdd, Nat.reduceLeDiff, Nat.reduceSub, Nat.reduceMul, Int.reduceEq, Int.reduceNe, Int.reduceLT, Int.reduceLE, Int.reduceAdd, Int.reduceSub, Int.reduceMul, Int.reduceNeg, Nat.reduceLT, Nat.reduceDiv, Int.reduceToNat]
    all_goals first | done | rfl
theorem sp_ref4_List : SP 20 = some (.code sc_ref4_List) := SPof_code rfl Try.func20 comp_ref4_List
/-! doorkeeper/doorkeeperref4.List -/
set_option maxHeartbeats 4000000 in
theorem ref4_List_tree (l_ : List V) (r : Got) (T :
  (bigRow (l_.length) 56) ∧
  ((64 < ((l_.length : Nat) : Int)) →
    ∃ (r1 : Got), (R_ref4_bad 4 r1) ∧
    r1 = r) ∧
  (¬ (64 < ((l_.length : Nat) : Int)) →
    ∃ (r2 : Int), (R_ref4_deep (V.mk 4 0 [] l_) 64 r2) ∧
    ((64 < r2) →
      ∃ (r3 : Got), (R_ref4_bad 4 r3) ∧
      r3 = r) ∧
    (¬ (64 < r2) →
      (Got.mk (V.mk 4 0 [] l_) 0) = r))) : R_ref4_List l_ r := by
  unfold R_ref4_List
  intro S
  rw [call_code sp_ref4_List _ _ rfl]
  obtain ⟨p1, T⟩ := T
  simp only [bigRow] at p1
  try simp only [p1, sc_ref4_List, ac0, lw, le, Nat.reduceEqDiff, reduceIte, reduceCtorEq, Nat.reduceAdd, Nat.reduceLeDiff, Nat.reduceSub, Nat.reduceMul, Int.reduceEq, Int.reduceNe, Int.reduceLT, Int.reduceLE, Int.reduceAdd, Int.reduceSub, Int.reduceMul, Int.reduceNeg, Nat.reduceLT, Nat.reduceDiv, Int.reduceToNat]
  by_cases c2 : 64 < ((l_.length : Nat) : Int)
  · replace T := T.1 c2
    obtain ⟨r1, q3, T⟩ := T
    simp only [R_ref4_bad, le] at q3
    subst T
    try simp only [p1, eq_true c2, q3, le, sc_ref4_List, ac0, lw, le, Nat.reduceEqDiff, reduceIte, reduceCtorEq, Nat.reduceAdd, Nat.reduceLeDiff, Nat.reduceSub, Nat.reduceMul, Int.reduceEq, Int.reduceNe, Int.reduceLT, Int.reduceLE, Int.reduceAdd, Int.reduceSub, Int.reduceMul, Int.reduceNeg, Nat.reduceLT, Nat.reduceDiv, Int.reduceToNat]
    all_goals first | done | rfl
  · replace T := T.2 c2
    obtain ⟨r2, q4, T⟩ := T
    simp only [R_ref4_deep, le] at q4
    try simp only [p1, eq_false c2, q4, sc_ref4_List, ac0, lw, le, Nat.reduceEqDiff, reduceIte, reduceCtorEq, Nat.reduceAdd, Nat.reduceLeDiff, Nat.reduceSub, Nat.reduceMul, Int.reduceEq, Int.reduceNe, Int.reduceLT, Int.reduceLE, Int.reduceAdd, Int.reduceSub, Int.reduceMul, Int.reduceNeg, Nat.reduceLT, Nat.reduceDiv, Int.reduceToNat]
    by_cases c5 : 64 < r2
    · replace T := T.1 c5
      obtain ⟨r3, q6, T⟩ := T
      simp only [R_ref4_bad, le] at q6
      subst T
      try simp only [p1, eq_false c2, q4, eq_true c5, q6, le, sc_ref4_List, ac0, lw, le, Nat.reduceEqDiff, reduceIte, reduceCtorEq, Nat.reduceAdd, Nat.reduceLeDiff, Nat.reduceSub, Nat.reduceMul, Int.reduceEq, Int.reduceNe, Int.reduceLT, Int.reduceLE, Int.reduceAdd, Int.reduceSub, Int.reduceMul, Int.reduceNeg, Nat.reduceLT, Nat.reduceDiv, Int.reduceToNat]
      all_goals first | done | rfl
    · replace T := T.2 c5
      subst T
      try simp only [p1, eq_false c2, q4, eq_false c5, le, sc_ref4_List, ac0, lw, le, Nat.reduceEqDiff, reduceIte, reduceCtorEq, Nat.reduceAdd, Nat.reduceLeDiff, Nat.reduceSub, Nat.reduceMul, Int.reduceEq, Int.reduceNe, Int.reduceLT, Int.reduceLE, Int.reduceAdd, Int.reduceSub, Int.reduceMul, Int.reduceNeg, Nat.reduceLT, Nat.reduceDiv, Int.reduceToNat]
      all_goals first | done | rfl
theorem sp_ref1_Digits : SP 29 = some (.code sc_ref1_Digits) := SPof_code rfl Try.func29 comp_ref1_Digits
/-! doorkeeper/doorkeeperref1.Digits -/
def At_ref1_Digits_1 (n : Int) (i1 : Int) (s2 : List UInt8) (r : List UInt8) : Prop := ∀ (S : Sto) (e : Nat → PV) (f : Fr), e 0 = .int .i64 n → e 3 = .int .u64 i1 → e 4 = .str s2 →  k_ref1_Digits_1 SP (E SP (.loop b_ref1_Digits_1) ⟨e, f :: S⟩) = .ok (.v (.str r)) S
set_option maxHeartbeats 4000000 in
theorem At_ref1_Digits_1_step (n : Int) (i1 : Int) (s2 : List UInt8) (r : List UInt8) (T :
  ((10 ≤ i1) →
    (U64 (48 + (i1.tmod 10))) ∧
    (U8 ((48 + (i1.tmod 10)))) ∧
    (1 + s2.length ≤ maxInt) ∧
    (U64 (i1.tdiv 10)) ∧
    At_ref1_Digits_1 n (i1.tdiv 10) ([(UInt8.ofNat ((48 + (i1.tmod 10))).toNat)] ++ s2) r) ∧
  (¬ (10 ≤ i1) →
    (U64 (48 + i1)) ∧
    (U8 ((48 + i1))) ∧
    (1 + s2.length ≤ maxInt) ∧
    ((n < 0) →
      (1 + (s2.length + 1) ≤ maxInt) ∧
      ([45] ++ ([(UInt8.ofNat ((48 + i1)).toNat)] ++ s2)) = r) ∧
    (¬ (n < 0) →
      ([(UInt8.ofNat ((48 + i1)).toNat)] ++ s2) = r))) : At_ref1_Digits_1 n i1 s2 r := by
  intro S e f h0 h1 h2
  unfold k_ref1_Digits_1
  rw [E_loop]
  try simp only [h0, h1, h2, sc_ref1_Digits, U_ref1_Digits, ac0, lw, le, Nat.reduceEqDiff, reduceIte, reduceCtorEq, Nat.reduceAdd, Nat.reduceLeDiff, Nat.reduceSub, Nat.reduceMul, Int.reduceEq, Int.reduceNe, Int.reduceLT, Int.reduceLE, Int.reduceAdd, Int.reduceSub, Int.reduceMul, Int.reduceNeg, Nat.reduceLT, Nat.reduceDiv, Int.reduceToNat]
  by_cases c1 : 10 ≤ i1
  · replace T := T.1 c1
    obtain ⟨p2, T⟩ := T
    have w2 := p2.wrap
    obtain ⟨p3, T⟩ := T
    have w3 := p3.wrap
    obtain ⟨p4, T⟩ := T
    obtain ⟨p5, T⟩ := T
    have w5 := p5.wrap
    try simp only [h0, h1, h2, eq_true c1, w2, w3, p4, w5, sc_ref1_Digits, U_ref1_Digits, ac0, lw, le, Nat.reduceEqDiff, reduceIte, reduceCtorEq, Nat.reduceAdd, Nat.reduceLeDiff, Nat.reduceSub, Nat.reduceMul, Int.reduceEq, Int.reduceNe, Int.reduceLT, Int.reduceLE, Int.reduceAdd, Int.reduceSub, Int.reduceMul, Int.reduceNeg, Nat.reduceLT, Nat.reduceDiv, Int.reduceToNat]
    refine T S _ _ ?_ ?_ ?_
    all_goals first | rfl | (simp only [h0, h1, h2, eq_true c1, w2, w3, p4, w5, sc_ref1_Digits, U_ref1_Digits, ac0, le, lw, le, Nat.reduceEqDiff, reduceIte, reduceCtorEq, Nat.reduceAdd, Nat.reduceLeDiff, Nat.reduceSub, Nat.reduceMul, Int.reduceEq, Int.reduceNe, Int.reduceLT, Int.reduceLE, Int.reduceAdd, Int.reduceSub, Int.reduceMul, Int.reduceNeg, Nat.reduceLT, Nat.reduceDiv, Int.reduceToNat]; done) | (simp only [h0, h1, h2, eq_true c1, w2, w3, p4, w5, sc_ref1_Digits, U_ref1_Digits, ac0, le, lw, le, Nat.reduceEqDiff, reduceIte, reduceCtorEq, Nat.reduceAdd, Nat.reduceLeDiff, Nat.reduceSub, Nat.reduceMul, Int.reduceEq, Int.reduceNe, Int.reduceLT, Int.reduceLE, Int.reduceAdd, Int.reduceSub, Int.reduceMul, Int.reduceNeg, Nat.reduceLT, Nat.reduceDiv, Int.reduceToNat]; rfl)
  · replace T := T.2 c1
    obtain ⟨p6, T⟩ := T
    have w6 := p6.wrap
    obtain ⟨p7, T⟩ := T
    have w7 := p7.wrap
    obtain ⟨p8, T⟩ := T
    try simp only [h0, h1, h2, eq_false c1, w6, w7, p8, sc_ref1_Digits, U_ref1_Digits, ac0, lw, le, Nat.reduceEqDiff, reduceIte, reduceCtorEq, Nat.reduceAdd, Nat.reduceLeDiff, Nat.reduceSub, Nat.reduceMul, Int.reduceEq, Int.reduceNe, Int.reduceLT, Int.reduceLE, Int.reduceAdd, Int.reduceSub, Int.reduceMul, Int.reduceNeg, Nat.reduceLT, Nat.reduceDiv, Int.reduceToNat]
    by_cases c9 : n < 0
    · replace T := T.1 c9
      obtain ⟨p10, T⟩ := T
      subst T
      try simp only [h0, h1, h2, eq_false c1, w6, w7, p8, eq_true c9, p10, le, sc_ref1_Digits, U_ref1_Digits, ac0, lw, le, Nat.reduceEqDiff, reduceIte, reduceCtorEq, Nat.reduceAdd, Nat.reduceLeDiff, Nat.reduceSub, Nat.reduceMul, Int.reduceEq, Int.reduceNe, Int.reduceLT, Int.reduceLE, Int.reduceAdd, Int.reduceSub, Int.reduceMul, Int.reduceNeg, Nat.reduceLT, Nat.reduceDiv, Int.reduceToNat]
      all_goals first | done | rfl
    · replace T := T.2 c9
      subst T
      try simp only [h0, h1, h2, eq_false c1, w6, w7, p8, eq_false c9, le, sc_ref1_Digits, U_ref1_Digits, ac0, lw, le, Nat.reduceEqDiff, reduceIte, reduceCtorEq, Nat.reduceAdd, Nat.reduceLeDiff, Nat.reduceSub, Nat.reduceMul, Int.reduceEq, Int.reduceNe, Int.reduceLT, Int.reduceLE, Int.reduceAdd, Int.reduceSub, Int.reduceMul, Int.reduceNeg, Nat.reduceLT, Nat.reduceDiv, Int.reduceToNat]
      all_goals first | done | rfl
set_option maxHeartbeats 4000000 in
theorem ref1_Digits_tree (n : Int) (r : List UInt8) (T :
  (U64 (n)) ∧
  ((n < 0) →
    (U64 (0 - n)) ∧
    At_ref1_Digits_1 n (0 - n) [] r) ∧
  (¬ (n < 0) →
    At_ref1_Digits_1 n n [] r)) : R_ref1_Digits n r := by
  unfold R_ref1_Digits
  intro S
  rw [call_code sp_ref1_Digits _ _ rfl]
  obtain ⟨p1, T⟩ := T
  have w1 := p1.wrap
  try simp only [w1, sc_ref1_Digits, U_ref1_Digits, ac0, lw, le, Nat.reduceEqDiff, reduceIte, reduceCtorEq, Nat.reduceAdd, Nat.reduceLeDiff, Nat.reduceSub, Nat.reduceMul, Int.reduceEq, Int.reduceNe, Int.reduceLT, Int.reduceLE, Int.reduceAdd, Int.reduceSub, Int.reduceMul, Int.reduceNeg, Nat.reduceLT, Nat.reduceDiv, Int.reduceToNat]
  by_cases c2 : n < 0
  · replace T := T.1 c2
    obtain ⟨p3, T⟩ := T
    have w3 := p3.wrap
    try simp only [w1, eq_true c2, w3, sc_ref1_Digits, U_ref1_Digits, ac0, lw, le, Nat.reduceEqDiff, reduceIte, reduceCtorEq, Nat.reduceAdd, Nat.reduceLeDiff, Nat.reduceSub, Nat.reduceMul, Int.reduceEq, Int.reduceNe, Int.reduceLT, Int.reduceLE, Int.reduceAdd, Int.reduceSub, Int.reduceMul, Int.reduceNeg, Nat.reduceLT, Nat.reduceDiv, Int.reduceToNat]
    refine T S _ _ ?_ ?_ ?_
    all_goals first | rfl | (simp only [w1, eq_true c2, w3, sc_ref1_Digits, U_ref1_Digits, ac0, le, lw, le, Nat.reduceEqDiff, reduceIte, reduceCtorEq, Nat.reduceAdd, Nat.reduceLeDiff, Nat.reduceSub, Nat.reduceMul, Int.reduceEq, Int.reduceNe, Int.reduceLT, Int.reduceLE, Int.reduceAdd, Int.reduceSub, Int.reduceMul, Int.reduceNeg, Nat.reduceLT, Nat.reduceDiv, Int.reduceToNat]; done) | (simp only [w1, eq_true c2, w3, sc_ref1_Digits, U_ref1_Digits, ac0, le, lw, le, Nat.reduceEqDiff, reduceIte, reduceCtorEq, Nat.reduceAdd, Nat.reduceLeDiff, Nat.reduceSub, Nat.reduceMul, Int.reduceEq, Int.reduceNe, Int.reduceLT, Int.reduceLE, Int.reduceAdd, Int.reduceSub, Int.reduceMul, Int.reduceNeg, Nat.reduceLT, Nat.reduceDiv, Int.reduceToNat]; rfl)
  · replace T := T.2 c2
    try simp only [w1, eq_false c2, sc_ref1_Digits, U_ref1_Digits, ac0, lw, le, Nat.reduceEqDiff, reduceIte, reduceCtorEq, Nat.reduceAdd, Nat.reduceLeDiff, Nat.reduceSub, Nat.reduceMul, Int.reduceEq, Int.reduceNe, Int.reduceLT, Int.reduceLE, Int.reduceAdd, Int.reduceSub, Int.reduceMul, Int.reduceNeg, Nat.reduceLT, Nat.reduceDiv, Int.reduceToNat]
    refine T S _ _ ?_ ?_ ?_
    all_goals first | rfl | (simp only [w1, eq_false c2, sc_ref1_Digits, U_ref1_Digits, ac0, le, lw, le, Nat.reduceEqDiff, reduceIte, reduceCtorEq, Nat.reduceAdd, Nat.reduceLeDiff, Nat.reduceSub, Nat.reduceMul, Int.reduceEq, Int.reduceNe, Int.reduceLT, Int.reduceLE, Int.reduceAdd, Int.reduceSub, Int.reduceMul, Int.reduceNeg, Nat.reduceLT, Nat.reduceDiv, Int.reduceToNat]; done) | (simp only [w1, eq_false c2, sc_ref1_Digits, U_ref1_Digits, ac0, le, lw, le, Nat.reduceEqDiff, reduceIte, reduceCtorEq, Nat.reduceAdd, Nat.reduceLeDiff, Nat.reduceSub, Nat.reduceMul, Int.reduceEq, Int.reduceNe, Int.reduceLT, Int.reduceLE, Int.reduceAdd, Int.reduceSub, Int.reduceMul, Int.reduceNeg, Nat.reduceLT, Nat.reduceDiv, Int.reduceToNat]; rfl)
theorem sp_law4_Make : SP 15 = some (.code sc_law4_Make) := SPof_code rfl Try.func15 comp_law4_Make
/-! doorkeeper/doorkeeperlaw4.Make -/
def At_law4_Make_1 (ns : List UInt8) (s : List UInt8) (v1 : UInt8) (i3 : Int) (l4 : List V) (g5 : Nat) (r : V) : Prop := ∀ (S : Sto) (e : Nat → PV) (f : Fr), e 0 = .list 1 (ns.map eB) false → e 1 = .str s → e 4 = .ptr 0 4 0 → e 5 = .int .i64 ((v1.toNat : Nat) : Int) → e 6 = .ptr 0 6 0 → e 7 = .int .i64 i3 → f.box 4 = some [.int .i64 0, .int .i64 0, .str [], .sl 0 (.cell 4 3) 0 0 0 0 false] → f.box 6 = some [.int .i64 4, .int .i64 0, .str [], .sl 0 (.cell 6 3) 0 l4.length l4.length g5 false] → f.arr (.cell 4 3) = some ⟨4, [], false, 0⟩ → f.arr (.cell 6 3) = some ⟨4, encL l4, false, g5⟩ →  k_law4_Make_1 SP (E SP (.loop b_law4_Make_1) ⟨e, f :: S⟩) = .ok (.v (.agg [.int .i64 r.k, .int .i64 r.n, .str r.s, .list 4 (encL r.l) false])) S
set_option maxHeartbeats 4000000 in
theorem At_law4_Make_1_step (ns : List UInt8) (s : List UInt8) (v1 : UInt8) (i3 : Int) (l4 : List V) (g5 : Nat) (r : V) (T :
  ((i3 < ((ns.length : Nat) : Int)) →
    (I64 (((v1.toNat : Nat) : Int).tdiv 5)) ∧
    ((i3 ≤ ((((v1.toNat : Nat) : Int).tdiv 5).tmod 6)) →
      (I64 (((v1.toNat : Nat) : Int).tdiv 30)) ∧
      (I64 (i3 + ((((v1.toNat : Nat) : Int).tdiv 30).tmod 3))) ∧
      (I64 ((i3 + ((((v1.toNat : Nat) : Int).tdiv 30).tmod 3)) + 1)) ∧
      (0 ≤ i3) ∧ (0 ≤ (if ((i3 + ((((v1.toNat : Nat) : Int).tdiv 30).tmod 3)) + 1) < ((ns.length : Nat) : Int) then ((i3 + ((((v1.toNat : Nat) : Int).tdiv 30).tmod 3)) + 1) else ((ns.length : Nat) : Int))) ∧ (i3.toNat ≤ (if ((i3 + ((((v1.toNat : Nat) : Int).tdiv 30).tmod 3)) + 1) < ((ns.length : Nat) : Int) then ((i3 + ((((v1.toNat : Nat) : Int).tdiv 30).tmod 3)) + 1) else ((ns.length : Nat) : Int)).toNat) ∧ ((if ((i3 + ((((v1.toNat : Nat) : Int).tdiv 30).tmod 3)) + 1) < ((ns.length : Nat) : Int) then ((i3 + ((((v1.toNat : Nat) : Int).tdiv 30).tmod 3)) + 1) else ((ns.length : Nat) : Int)).toNat ≤ ns.length) ∧
      ∃ (r6 : V), (R_law4_Make ((ns.drop i3.toNat).take ((if ((i3 + ((((v1.toNat : Nat) : Int).tdiv 30).tmod 3)) + 1) < ((ns.length : Nat) : Int) then ((i3 + ((((v1.toNat : Nat) : Int).tdiv 30).tmod 3)) + 1) else ((ns.length : Nat) : Int)).toNat - i3.toNat)) s r6) ∧
      (bigRow (l4.length + 1) 56) ∧
      (I64 (i3 + 1)) ∧
      At_law4_Make_1 ns s v1 (i3 + 1) (l4 ++ [r6]) g5 r) ∧
    (¬ (i3 ≤ ((((v1.toNat : Nat) : Int).tdiv 5).tmod 6)) →
      (V.mk 4 0 [] l4) = r)) ∧
  (¬ (i3 < ((ns.length : Nat) : Int)) →
    (V.mk 4 0 [] l4) = r)) : At_law4_Make_1 ns s v1 i3 l4 g5 r := by
  intro S e f h0 h1 h2 h3 h4 h5 h6 h7 h8 h9
  unfold k_law4_Make_1
  rw [E_loop]
  try simp only [h0, h1, h2, h3, h4, h5, h6, h7, h8, h9, sc_law4_Make, U_law4_Make, ac0, lw, le, Nat.reduceEqDiff, reduceIte, reduceCtorEq, Nat.reduceAdd, Nat.reduceLeDiff, Nat.reduceSub, Nat.reduceMul, Int.reduceEq, Int.reduceNe, Int.reduceLT, Int.reduceLE, Int.reduceAdd, Int.reduceSub, Int.reduceMul, Int.reduceNeg, Nat.reduceLT, Nat.reduceDiv, Int.reduceToNat]
  by_cases c1 : i3 < ((ns.length : Nat) : Int)
  · replace T := T.1 c1
    obtain ⟨p2, T⟩ := T
    have w2 := p2.wrap
    try simp only [h0, h1, h2, h3, h4, h5, h6, h7, h8, h9, eq_true c1, w2, sc_law4_Make, U_law4_Make, ac0, lw, le, Nat.reduceEqDiff, reduceIte, reduceCtorEq, Nat.reduceAdd, Nat.reduceLeDiff, Nat.reduceSub, Nat.reduceMul, Int.reduceEq, Int.reduceNe, Int.reduceLT, Int.reduceLE, Int.reduceAdd, Int.reduceSub, Int.reduceMul, Int.reduceNeg, Nat.reduceLT, Nat.reduceDiv, Int.reduceToNat]
    by_cases c3 : i3 ≤ ((((v1.toNat : Nat) : Int).tdiv 5).tmod 6)
    · replace T := T.1 c3
      obtain ⟨p4, T⟩ := T
      have w4 := p4.wrap
      obtain ⟨p5, T⟩ := T
      have w5 := p5.wrap
      obtain ⟨p6, T⟩ := T
      have w6 := p6.wrap
      obtain ⟨p7, T⟩ := T
      obtain ⟨p8, T⟩ := T
      obtain ⟨p9, T⟩ := T
      obtain ⟨p10, T⟩ := T
      obtain ⟨r6, q11, T⟩ := T
      simp only [R_law4_Make, le] at q11
      obtain ⟨p12, T⟩ := T
      simp only [bigRow] at p12
      obtain ⟨p13, T⟩ := T
      have w13 := p13.wrap
      try simp only [h0, h1, h2, h3, h4, h5, h6, h7, h8, h9, eq_true c1, w2, eq_true c3, w4, w5, w6, p7, p8, p9, p10, q11, p12, w13, sc_law4_Make, U_law4_Make, ac0, lw, le, Nat.reduceEqDiff, reduceIte, reduceCtorEq, Nat.reduceAdd, Nat.reduceLeDiff, Nat.reduceSub, Nat.reduceMul, Int.reduceEq, Int.reduceNe, Int.reduceLT, Int.reduceLE, Int.reduceAdd, Int.reduceSub, Int.reduceMul, Int.reduceNeg, Nat.reduceLT, Nat.reduceDiv, Int.reduceToNat]
      refine T S _ _ ?_ ?_ ?_ ?_ ?_ ?_ ?_ ?_ ?_ ?_
      all_goals first | rfl | (simp only [h0, h1, h2, h3, h4, h5, h6, h7, h8, h9, eq_true c1, w2, eq_true c3, w4, w5, w6, p7, p8, p9, p10, q11, p12, w13, sc_law4_Make, U_law4_Make, ac0, le, lw, le, Nat.reduceEqDiff, reduceIte, reduceCtorEq, Nat.reduceAdd, Nat.reduceLeDiff, Nat.reduceSub, Nat.reduceMul, Int.reduceEq, Int.reduceNe, Int.reduceLT, Int.reduceLE, Int.reduceAdd, Int.reduceSub, Int.reduceMul, Int.reduceNeg, Nat.reduceLT, Nat.reduceDiv, Int.reduceToNat]; done) | (simp only [h0, h1, h2, h3, h4, h5, h6, h7, h8, h9, eq_true c1, w2, eq_true c3, w4, w5, w6, p7, p8, p9, p10, q11, p12, w13, sc_law4_Make, U_law4_Make, ac0, le, lw, le, Nat.reduceEqDiff, reduceIte, reduceCtorEq, Nat.reduceAdd, Nat.reduceLeDiff, Nat.reduceSub, Nat.reduceMul, Int.reduceEq, Int.reduceNe, Int.reduceLT, Int.reduceLE, Int.reduceAdd, Int.reduceSub, Int.reduceMul, Int.reduceNeg, Nat.reduceLT, Nat.reduceDiv, Int.reduceToNat]; rfl)
    · replace T := T.2 c3
      subst T
      try simp only [h0, h1, h2, h3, h4, h5, h6, h7, h8, h9, eq_true c1, w2, eq_false c3, le, sc_law4_Make, U_law4_Make, ac0, lw, le, Nat.reduceEqDiff, reduceIte, reduceCtorEq, Nat.reduceAdd, Nat.reduceLeDiff, Nat.reduceSub, Nat.reduceMul, Int.reduceEq, Int.reduceNe, Int.reduceLT, Int.reduceLE, Int.reduceAdd, Int.reduceSub, Int.reduceMul, Int.reduceNeg, Nat.reduceLT, Nat.reduceDiv, Int.reduceToNat]
      all_goals first | done | rfl
  · replace T := T.2 c1
    subst T
    try simp only [h0, h1, h2, h3, h4, h5, h6, h7, h8, h9, eq_false c1, le, sc_law4_Make, U_law4_Make, ac0, lw, le, Nat.reduceEqDiff, reduceIte, reduceCtorEq, Nat.reduceAdd, Nat.reduceLeDiff, Nat.reduceSub, Nat.reduceMul, Int.reduceEq, Int.reduceNe, Int.reduceLT, Int.reduceLE, Int.reduceAdd, Int.reduceSub, Int.reduceMul, Int.reduceNeg, Nat.reduceLT, Nat.reduceDiv, Int.reduceToNat]
    all_goals first | done | rfl
set_option maxHeartbeats 4000000 in
theorem law4_Make_tree (ns : List UInt8) (s : List UInt8) (r : V) (T :
  ((((ns.length : Nat) : Int) = 0) →
    (V.mk 1 0 [] []) = r) ∧
  (¬ (((ns.length : Nat) : Int) = 0) →
    ∃ (v1 : UInt8), (ns[0]? = some v1) ∧
    (I64 (((v1.toNat : Nat) : Int))) ∧
    (((((v1.toNat : Nat) : Int).tmod 5) = 0) →
      ((((s.length : Nat) : Int) ≤ 60) →
        (I64 (((v1.toNat : Nat) : Int).tdiv 5)) ∧
        ∃ (r2 : List UInt8), (R_ref1_Digits ((((v1.toNat : Nat) : Int).tdiv 5).tmod 3) r2) ∧
        (s.length + r2.length ≤ maxInt) ∧
        (V.mk 2 0 (s ++ r2) []) = r) ∧
      (¬ (((s.length : Nat) : Int) ≤ 60) →
        (I64 (((v1.toNat : Nat) : Int).tdiv 5)) ∧
        (I64 ((((v1.toNat : Nat) : Int).tdiv 5) - 20)) ∧
        (V.mk 1 ((((v1.toNat : Nat) : Int).tdiv 5) - 20) [] []) = r)) ∧
    (¬ ((((v1.toNat : Nat) : Int).tmod 5) = 0) →
      (((((v1.toNat : Nat) : Int).tmod 5) = 1) →
        (I64 (((v1.toNat : Nat) : Int).tdiv 5)) ∧
        (V.mk 3 ((((v1.toNat : Nat) : Int).tdiv 5).tmod 2) [] []) = r) ∧
      (¬ ((((v1.toNat : Nat) : Int).tmod 5) = 1) →
        (((((v1.toNat : Nat) : Int).tmod 5) = 2) →
          At_law4_Make_1 ns s v1 1 [] 1 r) ∧
        (¬ ((((v1.toNat : Nat) : Int).tmod 5) = 2) →
          (I64 (((v1.toNat : Nat) : Int).tdiv 5)) ∧
          (I64 ((((v1.toNat : Nat) : Int).tdiv 5) - 20)) ∧
          (V.mk 1 ((((v1.toNat : Nat) : Int).tdiv 5) - 20) [] []) = r))))) : R_law4_Make ns s r := by
  unfold R_law4_Make
  intro S
  rw [call_code sp_law4_Make _ _ rfl]
  try simp only [sc_law4_Make, U_law4_Make, ac0, lw, le, Nat.reduceEqDiff, reduceIte, reduceCtorEq, Nat.reduceAdd, Nat.reduceLeDiff, Nat.reduceSub, Nat.reduceMul, Int.reduceEq, Int.reduceNe, Int.reduceLT, Int.reduceLE, Int.reduceAdd, Int.reduceSub, Int.reduceMul, Int.reduceNeg, Nat.reduceLT, Nat.reduceDiv, Int.reduceToNat]
  by_cases c1 : ((ns.length : Nat) : Int) = 0
  · replace T := T.1 c1
    subst T
    try simp only [eq_true c1, le, sc_law4_Make, U_law4_Make, ac0, lw, le, Nat.reduceEqDiff, reduceIte, reduceCtorEq, Nat.reduceAdd, Nat.reduceLeDiff, Nat.reduceSub, Nat.reduceMul, Int.reduceEq, Int.reduceNe, Int.reduceLT, Int.reduceLE, Int.reduceAdd, Int.reduceSub, Int.reduceMul, Int.reduceNeg, Nat.reduceLT, Nat.reduceDiv, Int.reduceToNat]
    all_goals first | done | rfl
  · replace T := T.2 c1
    obtain ⟨v1, q2, T⟩ := T
    obtain ⟨p3, T⟩ := T
    have w3 := p3.wrap
    try simp only [eq_false c1, q2, w3, sc_law4_Make, U_law4_Make, ac0, lw, le, Nat.reduceEqDiff, reduceIte, reduceCtorEq, Nat.reduceAdd, Nat.reduceLeDiff, Nat.reduceSub, Nat.reduceMul, Int.reduceEq, Int.reduceNe, Int.reduceLT, Int.reduceLE, Int.reduceAdd, Int.reduceSub, Int.reduceMul, Int.reduceNeg, Nat.reduceLT, Nat.reduceDiv, Int.reduceToNat]
    by_cases c4 : (((v1.toNat : Nat) : Int).tmod 5) = 0
    · replace T := T.1 c4
      try simp only [eq_false c1, q2, w3, eq_true c4, sc_law4_Make, U_law4_Make, ac0, lw, le, Nat.reduceEqDiff, reduceIte, reduceCtorEq, Nat.reduceAdd, Nat.reduceLeDiff, Nat.reduceSub, Nat.reduceMul, Int.reduceEq, Int.reduceNe, Int.reduceLT, Int.reduceLE, Int.reduceAdd, Int.reduceSub, Int.reduceMul, Int.reduceNeg, Nat.reduceLT, Nat.reduceDiv, Int.reduceToNat]
      by_cases c5 : ((s.length : Nat) : Int) ≤ 60
      · replace T := T.1 c5
        obtain ⟨p6, T⟩ := T
        have w6 := p6.wrap
        obtain ⟨r2, q7, T⟩ := T
        simp only [R_ref1_Digits, le] at q7
        obtain ⟨p8, T⟩ := T
        subst T
        try simp only [eq_false c1, q2, w3, eq_true c4, eq_true c5, w6, q7, p8, le, sc_law4_Make, U_law4_Make, ac0, lw, le, Nat.reduceEqDiff, reduceIte, reduceCtorEq, Nat.reduceAdd, Nat.reduceLeDiff, Nat.reduceSub, Nat.reduceMul, Int.reduceEq, Int.reduceNe, Int.reduceLT, Int.reduceLE, Int.reduceAdd, Int.reduceSub, Int.reduceMul, Int.reduceNeg, Nat.reduceLT, Nat.reduceDiv, Int.reduceToNat]
        all_goals first | done | rfl
      · replace T := T.2 c5
        obtain ⟨p9, T⟩ := T
        have w9 := p9.wrap
        obtain ⟨p10, T⟩ := T
        have w10 := p10.wrap
        subst T
        try simp only [eq_false c1, q2, w3, eq_true c4, eq_false c5, w9, w10, le, sc_law4_Make, U_law4_Make, ac0, lw, le, Nat.reduceEqDiff, reduceIte, reduceCtorEq, Nat.reduceAdd, Nat.reduceLeDiff, Nat.reduceSub, Nat.reduceMul, Int.reduceEq, Int.reduceNe, Int.reduceLT, Int.reduceLE, Int.reduceAdd, Int.reduceSub, Int.reduceMul, Int.reduceNeg, Nat.reduceLT, Nat.reduceDiv, Int.reduceToNat]
        all_goals first | done | rfl
    · replace T := T.2 c4
      try simp only [eq_false c1, q2, w3, eq_false c4, sc_law4_Make, U_law4_Make, ac0, lw, le, Nat.reduceEqDiff, reduceIte, reduceCtorEq, Nat.reduceAdd, Nat.reduceLeDiff, Nat.reduceSub, Nat.reduceMul, Int.reduceEq, Int.reduceNe, Int.reduceLT, Int.reduceLE, Int.reduceAdd, Int.reduceSub, Int.reduceMul, Int.reduceNeg, Nat.reduceLT, Nat.reduceDiv, Int.reduceToNat]
      by_cases c11 : (((v1.toNat : Nat) : Int).tmod 5) = 1
      · replace T := T.1 c11
        obtain ⟨p12, T⟩ := T
        have w12 := p12.wrap
        subst T
        try simp only [eq_false c1, q2, w3, eq_false c4, eq_true c11, w12, le, sc_law4_Make, U_law4_Make, ac0, lw, le, Nat.reduceEqDiff, reduceIte, reduceCtorEq, Nat.reduceAdd, Nat.reduceLeDiff, Nat.reduceSub, Nat.reduceMul, Int.reduceEq, Int.reduceNe, Int.reduceLT, Int.reduceLE, Int.reduceAdd, Int.reduceSub, Int.reduceMul, Int.reduceNeg, Nat.reduceLT, Nat.reduceDiv, Int.reduceToNat]
        all_goals first | done | rfl
      · replace T := T.2 c11
        try simp only [eq_false c1, q2, w3, eq_false c4, eq_false c11, sc_law4_Make, U_law4_Make, ac0, lw, le, Nat.reduceEqDiff, reduceIte, reduceCtorEq, Nat.reduceAdd, Nat.reduceLeDiff, Nat.reduceSub, Nat.reduceMul, Int.reduceEq, Int.reduceNe, Int.reduceLT, Int.reduceLE, Int.reduceAdd, Int.reduceSub, Int.reduceMul, Int.reduceNeg, Nat.reduceLT, Nat.reduceDiv, Int.reduceToNat]
        by_cases c13 : (((v1.toNat : Nat) : Int).tmod 5) = 2
        · replace T := T.1 c13
          try simp only [eq_false c1, q2, w3, eq_false c4, eq_false c11, eq_true c13, sc_law4_Make, U_law4_Make, ac0, lw, le, Nat.reduceEqDiff, reduceIte, reduceCtorEq, Nat.reduceAdd, Nat.reduceLeDiff, Nat.reduceSub, Nat.reduceMul, Int.reduceEq, Int.reduceNe, Int.reduceLT, Int.reduceLE, Int.reduceAdd, Int.reduceSub, Int.reduceMul, Int.reduceNeg, Nat.reduceLT, Nat.reduceDiv, Int.reduceToNat]
          refine T S _ _ ?_ ?_ ?_ ?_ ?_ ?_ ?_ ?_ ?_ ?_
          all_goals first | rfl | (simp only [eq_false c1, q2, w3, eq_false c4, eq_false c11, eq_true c13, sc_law4_Make, U_law4_Make, ac0, le, lw, le, Nat.reduceEqDiff, reduceIte, reduceCtorEq, Nat.reduceAdd, Nat.reduceLeDiff, Nat.reduceSub, Nat.reduceMul, Int.reduceEq, Int.reduceNe, Int.reduceLT, Int.reduceLE, Int.reduceAdd, Int.reduceSub, Int.reduceMul, Int.reduceNeg, Nat.reduceLT, Nat.reduceDiv, Int.reduceToNat]; done) | (simp only [eq_false c1, q2, w3, eq_false c4, eq_false c11, eq_true c13, sc_law4_Make, U_law4_Make, ac0, le, lw, le, Nat.reduceEqDiff, reduceIte, reduceCtorEq, Nat.reduceAdd, Nat.reduceLeDiff, Nat.reduceSub, Nat.reduceMul, Int.reduceEq, Int.reduceNe, Int.reduceLT, Int.reduceLE, Int.reduceAdd, Int.reduceSub, Int.reduceMul, Int.reduceNeg, Nat.reduceLT, Nat.reduceDiv, Int.reduceToNat]; rfl)
        · replace T := T.2 c13
          obtain ⟨p14, T⟩ := T
          have w14 := p14.wrap
          obtain ⟨p15, T⟩ := T
          have w15 := p15.wrap
          subst T
          try simp only [eq_false c1, q2, w3, eq_false c4, eq_false c11, eq_false c13, w14, w15, le, sc_law4_Make, U_law4_Make, ac0, lw, le, Nat.reduceEqDiff, reduceIte, reduceCtorEq, Nat.reduceAdd, Nat.reduceLeDiff, Nat.reduceSub, Nat.reduceMul, Int.reduceEq, Int.reduceNe, Int.reduceLT, Int.reduceLE, Int.reduceAdd, Int.reduceSub, Int.reduceMul, Int.reduceNeg, Nat.reduceLT, Nat.reduceDiv, Int.reduceToNat]
          all_goals first | done | rfl
theorem sp_law4_is : SP 16 = some (.code sc_law4_is) := SPof_code rfl Try.func16 comp_law4_is
/-! doorkeeper/doorkeeperlaw4.is -/
set_option maxHeartbeats 4000000 in
theorem law4_is_tree (v : V) (e_ : Int) (g : Got) (r : Bool) (T :
  ∃ (r1 : Bool), (R_ref4_SameVal v g.V r1) ∧
  ((r1 = true) →
    ∃ (r2 : Int), (R_law1_Num e_ r2) ∧
    (decide (r2 = g.E)) = r) ∧
  (¬ (r1 = true) →
    false = r)) : R_law4_is v e_ g r := by
  unfold R_law4_is
  intro S
  rw [call_code sp_law4_is _ _ rfl]
  simp only [le]
  obtain ⟨r1, q1, T⟩ := T
  simp only [R_ref4_SameVal, le] at q1
  try simp only [q1, sc_law4_is, ac0, lw, le, Nat.reduceEqDiff, reduceIte, reduceCtorEq, Nat.reduceAdd, Nat.reduceLeDiff, Nat.reduceSub, Nat.reduceMul, Int.reduceEq, Int.reduceNe, Int.reduceLT, Int.reduceLE, Int.reduceAdd, Int.reduceSub, Int.reduceMul, Int.reduceNeg, Nat.reduceLT, Nat.reduceDiv, Int.reduceToNat]
  by_cases c2 : r1 = true
  · replace T := T.1 c2
    obtain ⟨r2, q3, T⟩ := T
    simp only [R_law1_Num, le] at q3
    subst T
    try simp only [q1, c2, q3, le, sc_law4_is, ac0, lw, le, Nat.reduceEqDiff, reduceIte, reduceCtorEq, Nat.reduceAdd, Nat.reduceLeDiff, Nat.reduceSub, Nat.reduceMul, Int.reduceEq, Int.reduceNe, Int.reduceLT, Int.reduceLE, Int.reduceAdd, Int.reduceSub, Int.reduceMul, Int.reduceNeg, Nat.reduceLT, Nat.reduceDiv, Int.reduceToNat]
    all_goals first | done | rfl
  · replace T := T.2 c2
    replace c2 := Bool.eq_false_iff.2 c2
    subst T
    try simp only [q1, c2, le, sc_law4_is, ac0, lw, le, Nat.reduceEqDiff, reduceIte, reduceCtorEq, Nat.reduceAdd, Nat.reduceLeDiff, Nat.reduceSub, Nat.reduceMul, Int.reduceEq, Int.reduceNe, Int.reduceLT, Int.reduceLE, Int.reduceAdd, Int.reduceSub, Int.reduceMul, Int.reduceNeg, Nat.reduceLT, Nat.reduceDiv, Int.reduceToNat]
    all_goals first | done | rfl
theorem sp_law4_ValMade : SP 6 = some (.code sc_law4_ValMade) := SPof_code rfl Try.func6 comp_law4_ValMade
/-! doorkeeper/doorkeeperlaw4.ValMade -/
set_option maxHeartbeats 4000000 in
theorem law4_ValMade_tree (op : UInt8) (as_ : List UInt8) (bs : List UInt8) (s : List UInt8) (r : Bool) (T :
  ((20 < ((as_.length : Nat) : Int)) →
    ∃ (r1 : Bool), (R_law4_awake r1) ∧
    r1 = r) ∧
  (¬ (20 < ((as_.length : Nat) : Int)) →
    ((20 < ((bs.length : Nat) : Int)) →
      ∃ (r2 : Bool), (R_law4_awake r2) ∧
      r2 = r) ∧
    (¬ (20 < ((bs.length : Nat) : Int)) →
      ((100 < ((s.length : Nat) : Int)) →
        ∃ (r3 : Bool), (R_law4_awake r3) ∧
        r3 = r) ∧
      (¬ (100 < ((s.length : Nat) : Int)) →
        ∃ (r4 : V), (R_law4_Make as_ s r4) ∧
        ∃ (r5 : V), (R_law4_Make bs s r5) ∧
        (I64 (((op.toNat : Nat) : Int))) ∧
        (I64 (8 + (((op.toNat : Nat) : Int).tmod 16))) ∧
        ∃ (r6 : V) (r7 : Int), (R_val_One (8 + (((op.toNat : Nat) : Int).tmod 16)) r4 r6 r7) ∧
        ∃ (r8 : V) (r9 : Int), (R_val_Two (8 + (((op.toNat : Nat) : Int).tmod 16)) r4 r5 r8 r9) ∧
        ∃ (r10 : V) (r11 : Int), (R_val_Index r4 r5 r10 r11) ∧
        ∃ (r12 : V) (r13 : Int), (R_val_List [r4, r5, r4] r12 r13) ∧
        ∃ (r14 : Got), (R_ref4_One (8 + (((op.toNat : Nat) : Int).tmod 16)) r4 r14) ∧
        ∃ (r15 : Bool), (R_law4_is r6 r7 r14 r15) ∧
        ((r15 = true) →
          ∃ (r16 : Got), (R_ref4_Two (8 + (((op.toNat : Nat) : Int).tmod 16)) r4 r5 r16) ∧
          ∃ (r17 : Bool), (R_law4_is r8 r9 r16 r17) ∧
          ((r17 = true) →
            ∃ (r18 : Got), (R_ref4_Index r4 r5 r18) ∧
            ∃ (r19 : Bool), (R_law4_is r10 r11 r18 r19) ∧
            ((r19 = true) →
              ∃ (r20 : Got), (R_ref4_List [r4, r5, r4] r20) ∧
              ∃ (r21 : Bool), (R_law4_is r12 r13 r20 r21) ∧
              ((r21 = true) →
                ∃ (r22 : Int), (R_law1_Num r9 r22) ∧
                ((r22 = 0) →
                  ∃ (r23 : Bool), (R_val_May r8 r23) ∧
                  ((r23 = true) →
                    ∃ (r24 : Bool), (R_val_May r4 r24) ∧
                    ((r24 = true) →
                      ∃ (r25 : Bool), (R_law4_awake r25) ∧
                      r25 = r) ∧
                    (¬ (r24 = true) →
                      false = r)) ∧
                  (¬ (r23 = true) →
                    false = r)) ∧
                (¬ (r22 = 0) →
                  ∃ (r26 : Bool), (R_val_May r4 r26) ∧
                  ((r26 = true) →
                    ∃ (r27 : Bool), (R_law4_awake r27) ∧
                    r27 = r) ∧
                  (¬ (r26 = true) →
                    false = r))) ∧
              (¬ (r21 = true) →
                false = r)) ∧
            (¬ (r19 = true) →
              false = r)) ∧
          (¬ (r17 = true) →
            false = r)) ∧
        (¬ (r15 = true) →
          false = r))))) : R_law4_ValMade op as_ bs s r := by
  unfold R_law4_ValMade
  intro S
  rw [call_code sp_law4_ValMade _ _ rfl]
  try simp only [sc_law4_ValMade, U_law4_ValMade, ac0, lw, le, Nat.reduceEqDiff, reduceIte, reduceCtorEq, Nat.reduceAdd, Nat.reduceLeDiff, Nat.reduceSub, Nat.reduceMul, Int.reduceEq, Int.reduceNe, Int.reduceLT, Int.reduceLE, Int.reduceAdd, Int.reduceSub, Int.reduceMul, Int.reduceNeg, Nat.reduceLT, Nat.reduceDiv, Int.reduceToNat]
  by_cases c1 : 20 < ((as_.length : Nat) : Int)
  · replace T := T.1 c1
    obtain ⟨r1, q2, T⟩ := T
    simp only [R_law4_awake, le] at q2
    subst T
    try simp only [eq_true c1, q2, le, sc_law4_ValMade, U_law4_ValMade, ac0, lw, le, Nat.reduceEqDiff, reduceIte, reduceCtorEq, Nat.reduceAdd, Nat.reduceLeDiff, Nat.reduceSub, Nat.reduceMul, Int.reduceEq, Int.reduceNe, Int.reduceLT, Int.reduceLE, Int.reduceAdd, Int.reduceSub, Int.reduceMul, Int.reduceNeg, Nat.reduceLT, Nat.reduceDiv, Int.reduceToNat]
    all_goals first | done | rfl
  · replace T := T.2 c1
    try simp only [eq_false c1, sc_law4_ValMade, U_law4_ValMade, ac0, lw, le, Nat.reduceEqDiff, reduceIte, reduceCtorEq, Nat.reduceAdd, Nat.reduceLeDiff, Nat.reduceSub, Nat.reduceMul, Int.reduceEq, Int.reduceNe, Int.reduceLT, Int.reduceLE, Int.reduceAdd, Int.reduceSub, Int.reduceMul, Int.reduceNeg, Nat.reduceLT, Nat.reduceDiv, Int.reduceToNat]
    by_cases c3 : 20 < ((bs.length : Nat) : Int)
    · replace T := T.1 c3
      obtain ⟨r2, q4, T⟩ := T
      simp only [R_law4_awake, le] at q4
      subst T
      try simp only [eq_false c1, eq_true c3, q4, le, sc_law4_ValMade, U_law4_ValMade, ac0, lw, le, Nat.reduceEqDiff, reduceIte, reduceCtorEq, Nat.reduceAdd, Nat.reduceLeDiff, Nat.reduceSub, Nat.reduceMul, Int.reduceEq, Int.reduceNe, Int.reduceLT, Int.reduceLE, Int.reduceAdd, Int.reduceSub, Int.reduceMul, Int.reduceNeg, Nat.reduceLT, Nat.reduceDiv, Int.reduceToNat]
      all_goals first | done | rfl
    · replace T := T.2 c3
      try simp only [eq_false c1, eq_false c3, sc_law4_ValMade, U_law4_ValMade, ac0, lw, le, Nat.reduceEqDiff, reduceIte, reduceCtorEq, Nat.reduceAdd, Nat.reduceLeDiff, Nat.reduceSub, Nat.reduceMul, Int.reduceEq, Int.reduceNe, Int.reduceLT, Int.reduceLE, Int.reduceAdd, Int.reduceSub, Int.reduceMul, Int.reduceNeg, Nat.reduceLT, Nat.reduceDiv, Int.reduceToNat]
      by_cases c5 : 100 < ((s.length : Nat) : Int)
      · replace T := T.1 c5
        obtain ⟨r3, q6, T⟩ := T
        simp only [R_law4_awake, le] at q6
        subst T
        try simp only [eq_false c1, eq_false c3, eq_true c5, q6, le, sc_law4_ValMade, U_law4_ValMade, ac0, lw, le, Nat.reduceEqDiff, reduceIte, reduceCtorEq, Nat.reduceAdd, Nat.reduceLeDiff, Nat.reduceSub, Nat.reduceMul, Int.reduceEq, Int.reduceNe, Int.reduceLT, Int.reduceLE, Int.reduceAdd, Int.reduceSub, Int.reduceMul, Int.reduceNeg, Nat.reduceLT, Nat.reduceDiv, Int.reduceToNat]
        all_goals first | done | rfl
      · replace T := T.2 c5
        obtain ⟨r4, q7, T⟩ := T
        simp only [R_law4_Make, le] at q7
        obtain ⟨r5, q8, T⟩ := T
        simp only [R_law4_Make, le] at q8
        obtain ⟨p9, T⟩ := T
        have w9 := p9.wrap
        obtain ⟨p10, T⟩ := T
        have w10 := p10.wrap
        obtain ⟨r6, r7, q11, T⟩ := T
        simp only [R_val_One, le] at q11
        obtain ⟨r8, r9, q12, T⟩ := T
        simp only [R_val_Two, le] at q12
        obtain ⟨r10, r11, q13, T⟩ := T
        simp only [R_val_Index, le] at q13
        obtain ⟨r12, r13, q14, T⟩ := T
        simp only [R_val_List, le] at q14
        obtain ⟨r14, q15, T⟩ := T
        simp only [R_ref4_One, le] at q15
        obtain ⟨r15, q16, T⟩ := T
        simp only [R_law4_is, le] at q16
        try simp only [eq_false c1, eq_false c3, eq_false c5, q7, q8, w9, w10, q11, q12, q13, q14, q15, q16, sc_law4_ValMade, U_law4_ValMade, ac0, lw, le, Nat.reduceEqDiff, reduceIte, reduceCtorEq, Nat.reduceAdd, Nat.reduceLeDiff, Nat.reduceSub, Nat.reduceMul, Int.reduceEq, Int.reduceNe, Int.reduceLT, Int.reduceLE, Int.reduceAdd, Int.reduceSub, Int.reduceMul, Int.reduceNeg, Nat.reduceLT, Nat.reduceDiv, Int.reduceToNat]
        by_cases c17 : r15 = true
        · replace T := T.1 c17
          obtain ⟨r16, q18, T⟩ := T
          simp only [R_ref4_Two, le] at q18
          obtain ⟨r17, q19, T⟩ := T
          simp only [R_law4_is, le] at q19
          try simp only [eq_false c1, eq_false c3, eq_false c5, q7, q8, w9, w10, q11, q12, q13, q14, q15, q16, c17, q18, q19, sc_law4_ValMade, U_law4_ValMade, ac0, lw, le, Nat.reduceEqDiff, reduceIte, reduceCtorEq, Nat.reduceAdd, Nat.reduceLeDiff, Nat.reduceSub, Nat.reduceMul, Int.reduceEq, Int.reduceNe, Int.reduceLT, Int.reduceLE, Int.reduceAdd, Int.reduceSub, Int.reduceMul, Int.reduceNeg, Nat.reduceLT, Nat.reduceDiv, Int.reduceToNat]
          by_cases c20 : r17 = true
          · replace T := T.1 c20
            obtain ⟨r18, q21, T⟩ := T
            simp only [R_ref4_Index, le] at q21
            obtain ⟨r19, q22, T⟩ := T
            simp only [R_law4_is, le] at q22
            try simp only [eq_false c1, eq_false c3, eq_false c5, q7, q8, w9, w10, q11, q12, q13, q14, q15, q16, c17, q18, q19, c20, q21, q22, sc_law4_ValMade, U_law4_ValMade, ac0, lw, le, Nat.reduceEqDiff, reduceIte, reduceCtorEq, Nat.reduceAdd, Nat.reduceLeDiff, Nat.reduceSub, Nat.reduceMul, Int.reduceEq, Int.reduceNe, Int.reduceLT, Int.reduceLE, Int.reduceAdd, Int.reduceSub, Int.reduceMul, Int.reduceNeg, Nat.reduceLT, Nat.reduceDiv, Int.reduceToNat]
            by_cases c23 : r19 = true
            · replace T := T.1 c23
              obtain ⟨r20, q24, T⟩ := T
              simp only [R_ref4_List, le] at q24
              obtain ⟨r21, q25, T⟩ := T
              simp only [R_law4_is, le] at q25
              try simp only [eq_false c1, eq_false c3, eq_false c5, q7, q8, w9, w10, q11, q12, q13, q14, q15, q16, c17, q18, q19, c20, q21, q22, c23, q24, q25, sc_law4_ValMade, U_law4_ValMade, ac0, lw, le, Nat.reduceEqDiff, reduceIte, reduceCtorEq, Nat.reduceAdd, Nat.reduceLeDiff, Nat.reduceSub, Nat.reduceMul, Int.reduceEq, Int.reduceNe, Int.reduceLT, Int.reduceLE, Int.reduceAdd, Int.reduceSub, Int.reduceMul, Int.reduceNeg, Nat.reduceLT, Nat.reduceDiv, Int.reduceToNat]
              by_cases c26 : r21 = true
              · replace T := T.1 c26
                obtain ⟨r22, q27, T⟩ := T
                simp only [R_law1_Num, le] at q27
                try simp only [eq_false c1, eq_false c3, eq_false c5, q7, q8, w9, w10, q11, q12, q13, q14, q15, q16, c17, q18, q19, c20, q21, q22, c23, q24, q25, c26, q27, sc_law4_ValMade, U_law4_ValMade, ac0, lw, le, Nat.reduceEqDiff, reduceIte, reduceCtorEq, Nat.reduceAdd, Nat.reduceLeDiff, Nat.reduceSub, Nat.reduceMul, Int.reduceEq, Int.reduceNe, Int.reduceLT, Int.reduceLE, Int.reduceAdd, Int.reduceSub, Int.reduceMul, Int.reduceNeg, Nat.reduceLT, Nat.reduceDiv, Int.reduceToNat]
                by_cases c28 : r22 = 0
                · replace T := T.1 c28
                  obtain ⟨r23, q29, T⟩ := T
                  simp only [R_val_May, le] at q29
                  try simp only [eq_false c1, eq_false c3, eq_false c5, q7, q8, w9, w10, q11, q12, q13, q14, q15, q16, c17, q18, q19, c20, q21, q22, c23, q24, q25, c26, q27, eq_true c28, q29, sc_law4_ValMade, U_law4_ValMade, ac0, lw, le, Nat.reduceEqDiff, reduceIte, reduceCtorEq, Nat.reduceAdd, Nat.reduceLeDiff, Nat.reduceSub, Nat.reduceMul, Int.reduceEq, Int.reduceNe, Int.reduceLT, Int.reduceLE, Int.reduceAdd, Int.reduceSub, Int.reduceMul, Int.reduceNeg, Nat.reduceLT, Nat.reduceDiv, Int.reduceToNat]
                  by_cases c30 : r23 = true
                  · replace T := T.1 c30
                    obtain ⟨r24, q31, T⟩ := T
                    simp only [R_val_May, le] at q31
                    try simp only [eq_false c1, eq_false c3, eq_false c5, q7, q8, w9, w10, q11, q12, q13, q14, q15, q16, c17, q18, q19, c20, q21, q22, c23, q24, q25, c26, q27, eq_true c28, q29, c30, q31, sc_law4_ValMade, U_law4_ValMade, ac0, lw, le, Nat.reduceEqDiff, reduceIte, reduceCtorEq, Nat.reduceAdd, Nat.reduceLeDiff, Nat.reduceSub, Nat.reduceMul, Int.reduceEq, Int.reduceNe, Int.reduceLT, Int.reduceLE, Int.reduceAdd, Int.reduceSub, Int.reduceMul, Int.reduceNeg, Nat.reduceLT, Nat.reduceDiv, Int.reduceToNat]
                    by_cases c32 : r24 = true
                    · replace T := T.1 c32
                      obtain ⟨r25, q33, T⟩ := T
                      simp only [R_law4_awake, le] at q33
                      subst T
                      try simp only [eq_false c1, eq_false c3, eq_false c5, q7, q8, w9, w10, q11, q12, q13, q14, q15, q16, c17, q18, q19, c20, q21, q22, c23, q24, q25, c26, q27, eq_true c28, q29, c30, q31, c32, q33, le, sc_law4_ValMade, U_law4_ValMade, ac0, lw, le, Nat.reduceEqDiff, reduceIte, reduceCtorEq, Nat.reduceAdd, Nat.reduceLeDiff, Nat.reduceSub, Nat.reduceMul, Int.reduceEq, Int.reduceNe, Int.reduceLT, Int.reduceLE, Int.reduceAdd, Int.reduceSub, Int.reduceMul, Int.reduceNeg, Nat.reduceLT, Nat.reduceDiv, Int.reduceToNat]
                      all_goals first | done | rfl
                    · replace T := T.2 c32
                      replace c32 := Bool.eq_false_iff.2 c32
                      subst T
                      try simp only [eq_false c1, eq_false c3, eq_false c5, q7, q8, w9, w10, q11, q12, q13, q14, q15, q16, c17, q18, q19, c20, q21, q22, c23, q24, q25, c26, q27, eq_true c28, q29, c30, q31, c32, le, sc_law4_ValMade, U_law4_ValMade, ac0, lw, le, Nat.reduceEqDiff, reduceIte, reduceCtorEq, Nat.reduceAdd, Nat.reduceLeDiff, Nat.reduceSub, Nat.reduceMul, Int.reduceEq, Int.reduceNe, Int.reduceLT, Int.reduceLE, Int.reduceAdd, Int.reduceSub, Int.reduceMul, Int.reduceNeg, Nat.reduceLT, Nat.reduceDiv, Int.reduceToNat]
                      all_goals first | done | rfl
                  · replace T := T.2 c30
                    replace c30 := Bool.eq_false_iff.2 c30
                    subst T
                    try simp only [eq_false c1, eq_false c3, eq_false c5, q7, q8, w9, w10, q11, q12, q13, q14, q15, q16, c17, q18, q19, c20, q21, q22, c23, q24, q25, c26, q27, eq_true c28, q29, c30, le, sc_law4_ValMade, U_law4_ValMade, ac0, lw, le, Nat.reduceEqDiff, reduceIte, reduceCtorEq, Nat.reduceAdd, Nat.reduceLeDiff, Nat.reduceSub, Nat.reduceMul, Int.reduceEq, Int.reduceNe, Int.reduceLT, Int.reduceLE, Int.reduceAdd, Int.reduceSub, Int.reduceMul, Int.reduceNeg, Nat.reduceLT, Nat.reduceDiv, Int.reduceToNat]
                    all_goals first | done | rfl
                · replace T := T.2 c28
                  obtain ⟨r26, q34, T⟩ := T
                  simp only [R_val_May, le] at q34
                  try simp only [eq_false c1, eq_false c3, eq_false c5, q7, q8, w9, w10, q11, q12, q13, q14, q15, q16, c17, q18, q19, c20, q21, q22, c23, q24, q25, c26, q27, eq_false c28, q34, sc_law4_ValMade, U_law4_ValMade, ac0, lw, le, Nat.reduceEqDiff, reduceIte, reduceCtorEq, Nat.reduceAdd, Nat.reduceLeDiff, Nat.reduceSub, Nat.reduceMul, Int.reduceEq, Int.reduceNe, Int.reduceLT, Int.reduceLE, Int.reduceAdd, Int.reduceSub, Int.reduceMul, Int.reduceNeg, Nat.reduceLT, Nat.reduceDiv, Int.reduceToNat]
                  by_cases c35 : r26 = true
                  · replace T := T.1 c35
                    obtain ⟨r27, q36, T⟩ := T
                    simp only [R_law4_awake, le] at q36
                    subst T
                    try simp only [eq_false c1, eq_false c3, eq_false c5, q7, q8, w9, w10, q11, q12, q13, q14, q15, q16, c17, q18, q19, c20, q21, q22, c23, q24, q25, c26, q27, eq_false c28, q34, c35, q36, le, sc_law4_ValMade, U_law4_ValMade, ac0, lw, le, Nat.reduceEqDiff, reduceIte, reduceCtorEq, Nat.reduceAdd, Nat.reduceLeDiff, Nat.reduceSub, Nat.reduceMul, Int.reduceEq, Int.reduceNe, Int.reduceLT, Int.reduceLE, Int.reduceAdd, Int.reduceSub, Int.reduceMul, Int.reduceNeg, Nat.reduceLT, Nat.reduceDiv, Int.reduceToNat]
                    all_goals first | done | rfl
                  · replace T := T.2 c35
                    replace c35 := Bool.eq_false_iff.2 c35
                    subst T
                    try simp only [eq_false c1, eq_false c3, eq_false c5, q7, q8, w9, w10, q11, q12, q13, q14, q15, q16, c17, q18, q19, c20, q21, q22, c23, q24, q25, c26, q27, eq_false c28, q34, c35, le, sc_law4_ValMade, U_law4_ValMade, ac0, lw, le, Nat.reduceEqDiff, reduceIte, reduceCtorEq, Nat.reduceAdd, Nat.reduceLeDiff, Nat.reduceSub, Nat.reduceMul, Int.reduceEq, Int.reduceNe, Int.reduceLT, Int.reduceLE, Int.reduceAdd, Int.reduceSub, Int.reduceMul, Int.reduceNeg, Nat.reduceLT, Nat.reduceDiv, Int.reduceToNat]
                    all_goals first | done | rfl
              · replace T := T.2 c26
                replace c26 := Bool.eq_false_iff.2 c26
                subst T
                try simp only [eq_false c1, eq_false c3, eq_false c5, q7, q8, w9, w10, q11, q12, q13, q14, q15, q16, c17, q18, q19, c20, q21, q22, c23, q24, q25, c26, le, sc_law4_ValMade, U_law4_ValMade, ac0, lw, le, Nat.reduceEqDiff, reduceIte, reduceCtorEq, Nat.reduceAdd, Nat.reduceLeDiff, Nat.reduceSub, Nat.reduceMul, Int.reduceEq, Int.reduceNe, Int.reduceLT, Int.reduceLE, Int.reduceAdd, Int.reduceSub, Int.reduceMul, Int.reduceNeg, Nat.reduceLT, Nat.reduceDiv, Int.reduceToNat]
                all_goals first | done | rfl
            · replace T := T.2 c23
              replace c23 := Bool.eq_false_iff.2 c23
              subst T
              try simp only [eq_false c1, eq_false c3, eq_false c5, q7, q8, w9, w10, q11, q12, q13, q14, q15, q16, c17, q18, q19, c20, q21, q22, c23, le, sc_law4_ValMade, U_law4_ValMade, ac0, lw, le, Nat.reduceEqDiff, reduceIte, reduceCtorEq, Nat.reduceAdd, Nat.reduceLeDiff, Nat.reduceSub, Nat.reduceMul, Int.reduceEq, Int.reduceNe, Int.reduceLT, Int.reduceLE, Int.reduceAdd, Int.reduceSub, Int.reduceMul, Int.reduceNeg, Nat.reduceLT, Nat.reduceDiv, Int.reduceToNat]
              all_goals first | done | rfl
          · replace T := T.2 c20
            replace c20 := Bool.eq_false_iff.2 c20
            subst T
            try simp only [eq_false c1, eq_false c3, eq_false c5, q7, q8, w9, w10, q11, q12, q13, q14, q15, q16, c17, q18, q19, c20, le, sc_law4_ValMade, U_law4_ValMade, ac0, lw, le, Nat.reduceEqDiff, reduceIte, reduceCtorEq, Nat.reduceAdd, Nat.reduceLeDiff, Nat.reduceSub, Nat.reduceMul, Int.reduceEq, Int.reduceNe, Int.reduceLT, Int.reduceLE, Int.reduceAdd, Int.reduceSub, Int.reduceMul, Int.reduceNeg, Nat.reduceLT, Nat.reduceDiv, Int.reduceToNat]
            all_goals first | done | rfl
        · replace T := T.2 c17
          replace c17 := Bool.eq_false_iff.2 c17
          subst T
          try simp only [eq_false c1, eq_false c3, eq_false c5, q7, q8, w9, w10, q11, q12, q13, q14, q15, q16, c17, le, sc_law4_ValMade, U_law4_ValMade, ac0, lw, le, Nat.reduceEqDiff, reduceIte, reduceCtorEq, Nat.reduceAdd, Nat.reduceLeDiff, Nat.reduceSub, Nat.reduceMul, Int.reduceEq, Int.reduceNe, Int.reduceLT, Int.reduceLE, Int.reduceAdd, Int.reduceSub, Int.reduceMul, Int.reduceNeg, Nat.reduceLT, Nat.reduceDiv, Int.reduceToNat]
          all_goals first | done | rfl
theorem sp_ref4_Two : SP 18 = some (.code sc_ref4_Two) := SPof_code rfl Try.func18 comp_ref4_Two
/-! doorkeeper/doorkeeperref4.Two -/
set_option maxHeartbeats 4000000 in
theorem ref4_Two_tree (kind : Int) (a : V) (b : V) (r : Got) (T :
  ((a.k = 1) →
    ((kind < 11) →
      ∃ (r1 : Got), (R_ref4_bad 1 r1) ∧
      r1 = r) ∧
    (¬ (kind < 11) →
      ((23 < kind) →
        ∃ (r2 : Got), (R_ref4_bad 1 r2) ∧
        r2 = r) ∧
      (¬ (23 < kind) →
        ((kind = 11) →
          ((a.k = 3) →
            ((b.k = 3) →
              ((a.n = 1) →
                ∃ (r3 : Got), (R_ref4_truth true r3) ∧
                r3 = r) ∧
              (¬ (a.n = 1) →
                ∃ (r4 : Got), (R_ref4_truth (decide (b.n = 1)) r4) ∧
                r4 = r)) ∧
            (¬ (b.k = 3) →
              ∃ (r5 : Got), (R_ref4_bad 7 r5) ∧
              r5 = r)) ∧
          (¬ (a.k = 3) →
            ∃ (r6 : Got), (R_ref4_bad 7 r6) ∧
            r6 = r)) ∧
        (¬ (kind = 11) →
          ((kind = 12) →
            ((a.k = 3) →
              ((b.k = 3) →
                ((a.n = 1) →
                  ∃ (r7 : Got), (R_ref4_truth (decide (b.n = 1)) r7) ∧
                  r7 = r) ∧
                (¬ (a.n = 1) →
                  ∃ (r8 : Got), (R_ref4_truth false r8) ∧
                  r8 = r)) ∧
              (¬ (b.k = 3) →
                ∃ (r9 : Got), (R_ref4_bad 7 r9) ∧
                r9 = r)) ∧
            (¬ (a.k = 3) →
              ∃ (r10 : Got), (R_ref4_bad 7 r10) ∧
              r10 = r)) ∧
          (¬ (kind = 12) →
            ((kind = 13) →
              ((a.k = b.k) →
                ∃ (r11 : Bool), (R_ref4_SameVal a b r11) ∧
                ((r11 = true) →
                  ∃ (r12 : Got), (R_ref4_truth true r12) ∧
                  r12 = r) ∧
                (¬ (r11 = true) →
                  ∃ (r13 : Got), (R_ref4_truth false r13) ∧
                  r13 = r)) ∧
              (¬ (a.k = b.k) →
                ∃ (r14 : Got), (R_ref4_bad 7 r14) ∧
                r14 = r)) ∧
            (¬ (kind = 13) →
              ((kind = 14) →
                ((a.k = b.k) →
                  ∃ (r15 : Bool), (R_ref4_SameVal a b r15) ∧
                  ((r15 = true) →
                    ∃ (r16 : Got), (R_ref4_truth false r16) ∧
                    r16 = r) ∧
                  (¬ (r15 = true) →
                    ∃ (r17 : Got), (R_ref4_truth true r17) ∧
                    r17 = r)) ∧
                (¬ (a.k = b.k) →
                  ∃ (r18 : Got), (R_ref4_bad 7 r18) ∧
                  r18 = r)) ∧
              (¬ (kind = 14) →
                ((b.k = 1) →
                  ((kind = 15) →
                    ∃ (r19 : Got), (R_ref4_truth (decide (a.n < b.n)) r19) ∧
                    r19 = r) ∧
                  (¬ (kind = 15) →
                    ((kind = 16) →
                      ∃ (r20 : Got), (R_ref4_truth (decide (a.n ≤ b.n)) r20) ∧
                      r20 = r) ∧
                    (¬ (kind = 16) →
                      ((kind = 17) →
                        ∃ (r21 : Got), (R_ref4_truth (decide (b.n < a.n)) r21) ∧
                        r21 = r) ∧
                      (¬ (kind = 17) →
                        ((kind = 18) →
                          ∃ (r22 : Got), (R_ref4_truth (decide (b.n ≤ a.n)) r22) ∧
                          r22 = r) ∧
                        (¬ (kind = 18) →
                          ∃ (r23 : Got), (R_ref4_reckon kind a.n b.n r23) ∧
                          r23 = r))))) ∧
                (¬ (b.k = 1) →
                  ∃ (r24 : Got), (R_ref4_bad 7 r24) ∧
                  r24 = r)))))))) ∧
  (¬ (a.k = 1) →
    ((kind < 11) →
      ∃ (r25 : Got), (R_ref4_bad 1 r25) ∧
      r25 = r) ∧
    (¬ (kind < 11) →
      ((23 < kind) →
        ∃ (r26 : Got), (R_ref4_bad 1 r26) ∧
        r26 = r) ∧
      (¬ (23 < kind) →
        ((kind = 11) →
          ((a.k = 3) →
            ((b.k = 3) →
              ((a.n = 1) →
                ∃ (r27 : Got), (R_ref4_truth true r27) ∧
                r27 = r) ∧
              (¬ (a.n = 1) →
                ∃ (r28 : Got), (R_ref4_truth (decide (b.n = 1)) r28) ∧
                r28 = r)) ∧
            (¬ (b.k = 3) →
              ∃ (r29 : Got), (R_ref4_bad 7 r29) ∧
              r29 = r)) ∧
          (¬ (a.k = 3) →
            ∃ (r30 : Got), (R_ref4_bad 7 r30) ∧
            r30 = r)) ∧
        (¬ (kind = 11) →
          ((kind = 12) →
            ((a.k = 3) →
              ((b.k = 3) →
                ((a.n = 1) →
                  ∃ (r31 : Got), (R_ref4_truth (decide (b.n = 1)) r31) ∧
                  r31 = r) ∧
                (¬ (a.n = 1) →
                  ∃ (r32 : Got), (R_ref4_truth false r32) ∧
                  r32 = r)) ∧
              (¬ (b.k = 3) →
                ∃ (r33 : Got), (R_ref4_bad 7 r33) ∧
                r33 = r)) ∧
            (¬ (a.k = 3) →
              ∃ (r34 : Got), (R_ref4_bad 7 r34) ∧
              r34 = r)) ∧
          (¬ (kind = 12) →
            ((kind = 13) →
              ((a.k = b.k) →
                ∃ (r35 : Bool), (R_ref4_SameVal a b r35) ∧
                ((r35 = true) →
                  ∃ (r36 : Got), (R_ref4_truth true r36) ∧
                  r36 = r) ∧
                (¬ (r35 = true) →
                  ∃ (r37 : Got), (R_ref4_truth false r37) ∧
                  r37 = r)) ∧
              (¬ (a.k = b.k) →
                ∃ (r38 : Got), (R_ref4_bad 7 r38) ∧
                r38 = r)) ∧
            (¬ (kind = 13) →
              ((kind = 14) →
                ((a.k = b.k) →
                  ∃ (r39 : Bool), (R_ref4_SameVal a b r39) ∧
                  ((r39 = true) →
                    ∃ (r40 : Got), (R_ref4_truth false r40) ∧
                    r40 = r) ∧
                  (¬ (r39 = true) →
                    ∃ (r41 : Got), (R_ref4_truth true r41) ∧
                    r41 = r)) ∧
                (¬ (a.k = b.k) →
                  ∃ (r42 : Got), (R_ref4_bad 7 r42) ∧
                  r42 = r)) ∧
              (¬ (kind = 14) →
                ∃ (r43 : Got), (R_ref4_bad 7 r43) ∧
                r43 = r)))))))) : R_ref4_Two kind a b r := by
  unfold R_ref4_Two
  intro S
  rw [call_code sp_ref4_Two _ _ rfl]
  simp only [le]
  try simp only [sc_ref4_Two, U_ref4_Two, ac0, lw, le, Nat.reduceEqDiff, reduceIte, reduceCtorEq, Nat.reduceAdd, Nat.reduceLeDiff, Nat.reduceSub, Nat.reduceMul, Int.reduceEq, Int.reduceNe, Int.reduceLT, Int.reduceLE, Int.reduceAdd, Int.reduceSub, Int.reduceMul, Int.reduceNeg, Nat.reduceLT, Nat.reduceDiv, Int.reduceToNat]
  by_cases c1 : a.k = 1
  · replace T := T.1 c1
    try simp only [eq_true c1, sc_ref4_Two, U_ref4_Two, ac0, lw, le, Nat.reduceEqDiff, reduceIte, reduceCtorEq, Nat.reduceAdd, Nat.reduceLeDiff, Nat.reduceSub, Nat.reduceMul, Int.reduceEq, Int.reduceNe, Int.reduceLT, Int.reduceLE, Int.reduceAdd, Int.reduceSub, Int.reduceMul, Int.reduceNeg, Nat.reduceLT, Nat.reduceDiv, Int.reduceToNat]
    by_cases c2 : kind < 11
    · replace T := T.1 c2
      obtain ⟨r1, q3, T⟩ := T
      simp only [R_ref4_bad, le] at q3
      subst T
      try simp only [eq_true c1, eq_true c2, q3, le, sc_ref4_Two, U_ref4_Two, ac0, lw, le, Nat.reduceEqDiff, reduceIte, reduceCtorEq, Nat.reduceAdd, Nat.reduceLeDiff, Nat.reduceSub, Nat.reduceMul, Int.reduceEq, Int.reduceNe, Int.reduceLT, Int.reduceLE, Int.reduceAdd, Int.reduceSub, Int.reduceMul, Int.reduceNeg, Nat.reduceLT, Nat.reduceDiv, Int.reduceToNat]
      all_goals first | done | rfl
    · replace T := T.2 c2
      try simp only [eq_true c1, eq_false c2, sc_ref4_Two, U_ref4_Two, ac0, lw, le, Nat.reduceEqDiff, reduceIte, reduceCtorEq, Nat.reduceAdd, Nat.reduceLeDiff, Nat.reduceSub, Nat.reduceMul, Int.reduceEq, Int.reduceNe, Int.reduceLT, Int.reduceLE, Int.reduceAdd, Int.reduceSub, Int.reduceMul, Int.reduceNeg, Nat.reduceLT, Nat.reduceDiv, Int.reduceToNat]
      by_cases c4 : 23 < kind
      · replace T := T.1 c4
        obtain ⟨r2, q5, T⟩ := T
        simp only [R_ref4_bad, le] at q5
        subst T
        try simp only [eq_true c1, eq_false c2, eq_true c4, q5, le, sc_ref4_Two, U_ref4_Two, ac0, lw, le, Nat.reduceEqDiff, reduceIte, reduceCtorEq, Nat.reduceAdd, Nat.reduceLeDiff, Nat.reduceSub, Nat.reduceMul, Int.reduceEq, Int.reduceNe, Int.reduceLT, Int.reduceLE, Int.reduceAdd, Int.reduceSub, Int.reduceMul, Int.reduceNeg, Nat.reduceLT, Nat.reduceDiv, Int.reduceToNat]
        all_goals first | done | rfl
      · replace T := T.2 c4
        try simp only [eq_true c1, eq_false c2, eq_false c4, sc_ref4_Two, U_ref4_Two, ac0, lw, le, Nat.reduceEqDiff, reduceIte, reduceCtorEq, Nat.reduceAdd, Nat.reduceLeDiff, Nat.reduceSub, Nat.reduceMul, Int.reduceEq, Int.reduceNe, Int.reduceLT, Int.reduceLE, Int.reduceAdd, Int.reduceSub, Int.reduceMul, Int.reduceNeg, Nat.reduceLT, Nat.reduceDiv, Int.reduceToNat]
        by_cases c6 : kind = 11
        · replace T := T.1 c6
          try simp only [eq_true c1, eq_false c2, eq_false c4, eq_true c6, sc_ref4_Two, U_ref4_Two, ac0, lw, le, Nat.reduceEqDiff, reduceIte, reduceCtorEq, Nat.reduceAdd, Nat.reduceLeDiff, Nat.reduceSub, Nat.reduceMul, Int.reduceEq, Int.reduceNe, Int.reduceLT, Int.reduceLE, Int.reduceAdd, Int.reduceSub, Int.reduceMul, Int.reduceNeg, Nat.reduceLT, Nat.reduceDiv, Int.reduceToNat]
          by_cases c7 : a.k = 3
          · replace T := T.1 c7
            try simp only [eq_true c1, eq_false c2, eq_false c4, eq_true c6, eq_true c7, sc_ref4_Two, U_ref4_Two, ac0, lw, le, Nat.reduceEqDiff, reduceIte, reduceCtorEq, Nat.reduceAdd, Nat.reduceLeDiff, Nat.reduceSub, Nat.reduceMul, Int.reduceEq, Int.reduceNe, Int.reduceLT, Int.reduceLE, Int.reduceAdd, Int.reduceSub, Int.reduceMul, Int.reduceNeg, Nat.reduceLT, Nat.reduceDiv, Int.reduceToNat]
            by_cases c8 : b.k = 3
            · replace T := T.1 c8
              try simp only [eq_true c1, eq_false c2, eq_false c4, eq_true c6, eq_true c7, eq_true c8, sc_ref4_Two, U_ref4_Two, ac0, lw, le, Nat.reduceEqDiff, reduceIte, reduceCtorEq, Nat.reduceAdd, Nat.reduceLeDiff, Nat.reduceSub, Nat.reduceMul, Int.reduceEq, Int.reduceNe, Int.reduceLT, Int.reduceLE, Int.reduceAdd, Int.reduceSub, Int.reduceMul, Int.reduceNeg, Nat.reduceLT, Nat.reduceDiv, Int.reduceToNat]
              by_cases c9 : a.n = 1
              · replace T := T.1 c9
                obtain ⟨r3, q10, T⟩ := T
                simp only [R_ref4_truth, le] at q10
                subst T
                try simp only [eq_true c1, eq_false c2, eq_false c4, eq_true c6, eq_true c7, eq_true c8, eq_true c9, q10, le, sc_ref4_Two, U_ref4_Two, ac0, lw, le, Nat.reduceEqDiff, reduceIte, reduceCtorEq, Nat.reduceAdd, Nat.reduceLeDiff, Nat.reduceSub, Nat.reduceMul, Int.reduceEq, Int.reduceNe, Int.reduceLT, Int.reduceLE, Int.reduceAdd, Int.reduceSub, Int.reduceMul, Int.reduceNeg, Nat.reduceLT, Nat.reduceDiv, Int.reduceToNat]
                all_goals first | done | rfl
              · replace T := T.2 c9
                obtain ⟨r4, q11, T⟩ := T
                simp only [R_ref4_truth, le] at q11
                subst T
                try simp only [eq_true c1, eq_false c2, eq_false c4, eq_true c6, eq_true c7, eq_true c8, eq_false c9, q11, le, sc_ref4_Two, U_ref4_Two, ac0, lw, le, Nat.reduceEqDiff, reduceIte, reduceCtorEq, Nat.reduceAdd, Nat.reduceLeDiff, Nat.reduceSub, Nat.reduceMul, Int.reduceEq, Int.reduceNe, Int.reduceLT, Int.reduceLE, Int.reduceAdd, Int.reduceSub, Int.reduceMul, Int.reduceNeg, Nat.reduceLT, Nat.reduceDiv, Int.reduceToNat]
                all_goals first | done | rfl
            · replace T := T.2 c8
              obtain ⟨r5, q12, T⟩ := T
              simp only [R_ref4_bad, le] at q12
              subst T
              try simp only [eq_true c1, eq_false c2, eq_false c4, eq_true c6, eq_true c7, eq_false c8, q12, le, sc_ref4_Two, U_ref4_Two, ac0, lw, le, Nat.reduceEqDiff, reduceIte, reduceCtorEq, Nat.reduceAdd, Nat.reduceLeDiff, Nat.reduceSub, Nat.reduceMul, Int.reduceEq, Int.reduceNe, Int.reduceLT, Int.reduceLE, Int.reduceAdd, Int.reduceSub, Int.reduceMul, Int.reduceNeg, Nat.reduceLT, Nat.reduceDiv, Int.reduceToNat]
              all_goals first | done | rfl
          · replace T := T.2 c7
            obtain ⟨r6, q13, T⟩ := T
            simp only [R_ref4_bad, le] at q13
            subst T
            try simp only [eq_true c1, eq_false c2, eq_false c4, eq_true c6, eq_false c7, q13, le, sc_ref4_Two, U_ref4_Two, ac0, lw, le, Nat.reduceEqDiff, reduceIte, reduceCtorEq, Nat.reduceAdd, Nat.reduceLeDiff, Nat.reduceSub, Nat.reduceMul, Int.reduceEq, Int.reduceNe, Int.reduceLT, Int.reduceLE, Int.reduceAdd, Int.reduceSub, Int.reduceMul, Int.reduceNeg, Nat.reduceLT, Nat.reduceDiv, Int.reduceToNat]
            all_goals first | done | rfl
        · replace T := T.2 c6
          try simp only [eq_true c1, eq_false c2, eq_false c4, eq_false c6, sc_ref4_Two, U_ref4_Two, ac0, lw, le, Nat.reduceEqDiff, reduceIte, reduceCtorEq, Nat.reduceAdd, Nat.reduceLeDiff, Nat.reduceSub, Nat.reduceMul, Int.reduceEq, Int.reduceNe, Int.reduceLT, Int.reduceLE, Int.reduceAdd, Int.reduceSub, Int.reduceMul, Int.reduceNeg, Nat.reduceLT, Nat.reduceDiv, Int.reduceToNat]
          by_cases c14 : kind = 12
          · replace T := T.1 c14
            try simp only [eq_true c1, eq_false c2, eq_false c4, eq_false c6, eq_true c14, sc_ref4_Two, U_ref4_Two, ac0, lw, le, Nat.reduceEqDiff, reduceIte, reduceCtorEq, Nat.reduceAdd, Nat.reduceLeDiff, Nat.reduceSub, Nat.reduceMul, Int.reduceEq, Int.reduceNe, Int.reduceLT, Int.reduceLE, Int.reduceAdd, Int.reduceSub, Int.reduceMul, Int.reduceNeg, Nat.reduceLT, Nat.reduceDiv, Int.reduceToNat]
            by_cases c15 : a.k = 3
            · replace T := T.1 c15
              try simp only [eq_true c1, eq_false c2, eq_false c4, eq_false c6, eq_true c14, eq_true c15, sc_ref4_Two, U_ref4_Two, ac0, lw, le, Nat.reduceEqDiff, reduceIte, reduceCtorEq, Nat.reduceAdd, Nat.reduceLeDiff, Nat.reduceSub, Nat.reduceMul, Int.reduceEq, Int.reduceNe, Int.reduceLT, Int.reduceLE, Int.reduceAdd, Int.reduceSub, Int.reduceMul, Int.reduceNeg, Nat.reduceLT, Nat.reduceDiv, Int.reduceToNat]
              by_cases c16 : b.k = 3
              · replace T := T.1 c16
                try simp only [eq_true c1, eq_false c2, eq_false c4, eq_false c6, eq_true c14, eq_true c15, eq_true c16, sc_ref4_Two, U_ref4_Two, ac0, lw, le, Nat.reduceEqDiff, reduceIte, reduceCtorEq, Nat.reduceAdd, Nat.reduceLeDiff, Nat.reduceSub, Nat.reduceMul, Int.reduceEq, Int.reduceNe, Int.reduceLT, Int.reduceLE, Int.reduceAdd, Int.reduceSub, Int.reduceMul, Int.reduceNeg, Nat.reduceLT, Nat.reduceDiv, Int.reduceToNat]
                by_cases c17 : a.n = 1
                · replace T := T.1 c17
                  obtain ⟨r7, q18, T⟩ := T
                  simp only [R_ref4_truth, le] at q18
                  subst T
                  try simp only [eq_true c1, eq_false c2, eq_false c4, eq_false c6, eq_true c14, eq_true c15, eq_true c16, eq_true c17, q18, le, sc_ref4_Two, U_ref4_Two, ac0, lw, le, Nat.reduceEqDiff, reduceIte, reduceCtorEq, Nat.reduceAdd, Nat.reduceLeDiff, Nat.reduceSub, Nat.reduceMul, Int.reduceEq, Int.reduceNe, Int.reduceLT, Int.reduceLE, Int.reduceAdd, Int.reduceSub, Int.reduceMul, Int.reduceNeg, Nat.reduceLT, Nat.reduceDiv, Int.reduceToNat]
                  all_goals first | done | rfl
                · replace T := T.2 c17
                  obtain ⟨r8, q19, T⟩ := T
                  simp only [R_ref4_truth, le] at q19
                  subst T
                  try simp only [eq_true c1, eq_false c2, eq_false c4, eq_false c6, eq_true c14, eq_true c15, eq_true c16, eq_false c17, q19, le, sc_ref4_Two, U_ref4_Two, ac0, lw, le, Nat.reduceEqDiff, reduceIte, reduceCtorEq, Nat.reduceAdd, Nat.reduceLeDiff, Nat.reduceSub, Nat.reduceMul, Int.reduceEq, Int.reduceNe, Int.reduceLT, Int.reduceLE, Int.reduceAdd, Int.reduceSub, Int.reduceMul, Int.reduceNeg, Nat.reduceLT, Nat.reduceDiv, Int.reduceToNat]
                  all_goals first | done | rfl
              · replace T := T.2 c16
                obtain ⟨r9, q20, T⟩ := T
                simp only [R_ref4_bad, le] at q20
                subst T
                try simp only [eq_true c1, eq_false c2, eq_false c4, eq_false c6, eq_true c14, eq_true c15, eq_false c16, q20, le, sc_ref4_Two, U_ref4_Two, ac0, lw, le, Nat.reduceEqDiff, reduceIte, reduceCtorEq, Nat.reduceAdd, Nat.reduceLeDiff, Nat.reduceSub, Nat.reduceMul, Int.reduceEq, Int.reduceNe, Int.reduceLT, Int.reduceLE, Int.reduceAdd, Int.reduceSub, Int.reduceMul, Int.reduceNeg, Nat.reduceLT, Nat.reduceDiv, Int.reduceToNat]
                all_goals first | done | rfl
            · replace T := T.2 c15
              obtain ⟨r10, q21, T⟩ := T
              simp only [R_ref4_bad, le] at q21
              subst T
              try simp only [eq_true c1, eq_false c2, eq_false c4, eq_false c6, eq_true c14, eq_false c15, q21, le, sc_ref4_Two, U_ref4_Two, ac0, lw, le, Nat.reduceEqDiff, reduceIte, reduceCtorEq, Nat.reduceAdd, Nat.reduceLeDiff, Nat.reduceSub, Nat.reduceMul, Int.reduceEq, Int.reduceNe, Int.reduceLT, Int.reduceLE, Int.reduceAdd, Int.reduceSub, Int.reduceMul, Int.reduceNeg, Nat.reduceLT, Nat.reduceDiv, Int.reduceToNat]
              all_goals first | done | rfl
          · replace T := T.2 c14
            try simp only [eq_true c1, eq_false c2, eq_false c4, eq_false c6, eq_false c14, sc_ref4_Two, U_ref4_Two, ac0, lw, le, Nat.reduceEqDiff, reduceIte, reduceCtorEq, Nat.reduceAdd, Nat.reduceLeDiff, Nat.reduceSub, Nat.reduceMul, Int.reduceEq, Int.reduceNe, Int.reduceLT, Int.reduceLE, Int.reduceAdd, Int.reduceSub, Int.reduceMul, Int.reduceNeg, Nat.reduceLT, Nat.reduceDiv, Int.reduceToNat]
            by_cases c22 : kind = 13
            · replace T := T.1 c22
              try simp only [eq_true c1, eq_false c2, eq_false c4, eq_false c6, eq_false c14, eq_true c22, sc_ref4_Two, U_ref4_Two, ac0, lw, le, Nat.reduceEqDiff, reduceIte, reduceCtorEq, Nat.reduceAdd, Nat.reduceLeDiff, Nat.reduceSub, Nat.reduceMul, Int.reduceEq, Int.reduceNe, Int.reduceLT, Int.reduceLE, Int.reduceAdd, Int.reduceSub, Int.reduceMul, Int.reduceNeg, Nat.reduceLT, Nat.reduceDiv, Int.reduceToNat]
              by_cases c23 : a.k = b.k
              · replace T := T.1 c23
                obtain ⟨r11, q24, T⟩ := T
                simp only [R_ref4_SameVal, le] at q24
                try simp only [eq_true c1, eq_false c2, eq_false c4, eq_false c6, eq_false c14, eq_true c22, eq_true c23, q24, sc_ref4_Two, U_ref4_Two, ac0, lw, le, Nat.reduceEqDiff, reduceIte, reduceCtorEq, Nat.reduceAdd, Nat.reduceLeDiff, Nat.reduceSub, Nat.reduceMul, Int.reduceEq, Int.reduceNe, Int.reduceLT, Int.reduceLE, Int.reduceAdd, Int.reduceSub, Int.reduceMul, Int.reduceNeg, Nat.reduceLT, Nat.reduceDiv, Int.reduceToNat]
                by_cases c25 : r11 = true
                · replace T := T.1 c25
                  obtain ⟨r12, q26, T⟩ := T
                  simp only [R_ref4_truth, le] at q26
                  subst T
                  try simp only [eq_true c1, eq_false c2, eq_false c4, eq_false c6, eq_false c14, eq_true c22, eq_true c23, q24, c25, q26, le, sc_ref4_Two, U_ref4_Two, ac0, lw, le, Nat.reduceEqDiff, reduceIte, reduceCtorEq, Nat.reduceAdd, Nat.reduceLeDiff, Nat.reduceSub, Nat.reduceMul, Int.reduceEq, Int.reduceNe, Int.reduceLT, Int.reduceLE, Int.reduceAdd, Int.reduceSub, Int.reduceMul, Int.reduceNeg, Nat.reduceLT, Nat.reduceDiv, Int.reduceToNat]
                  all_goals first | done | rfl
                · replace T := T.2 c25
                  replace c25 := Bool.eq_false_iff.2 c25
                  obtain ⟨r13, q27, T⟩ := T
                  simp only [R_ref4_truth, le] at q27
                  subst T
                  try simp only [eq_true c1, eq_false c2, eq_false c4, eq_false c6, eq_false c14, eq_true c22, eq_true c23, q24, c25, q27, le, sc_ref4_Two, U_ref4_Two, ac0, lw, le, Nat.reduceEqDiff, reduceIte, reduceCtorEq, Nat.reduceAdd, Nat.reduceLeDiff, Nat.reduceSub, Nat.reduceMul, Int.reduceEq, Int.reduceNe, Int.reduceLT, Int.reduceLE, Int.reduceAdd, Int.reduceSub, Int.reduceMul, Int.reduceNeg, Nat.reduceLT, Nat.reduceDiv, Int.reduceToNat]
                  all_goals first | done | rfl
              · replace T := T.2 c23
                obtain ⟨r14, q28, T⟩ := T
                simp only [R_ref4_bad, le] at q28
                subst T
                try simp only [eq_true c1, eq_false c2, eq_false c4, eq_false c6, eq_false c14, eq_true c22, eq_false c23, q28, le, sc_ref4_Two, U_ref4_Two, ac0, lw, le, Nat.reduceEqDiff, reduceIte, reduceCtorEq, Nat.reduceAdd, Nat.reduceLeDiff, Nat.reduceSub, Nat.reduceMul, Int.reduceEq, Int.reduceNe, Int.reduceLT, Int.reduceLE, Int.reduceAdd, Int.reduceSub, Int.reduceMul, Int.reduceNeg, Nat.reduceLT, Nat.reduceDiv, Int.reduceToNat]
                all_goals first | done | rfl
            · replace T := T.2 c22
              try simp only [eq_true c1, eq_false c2, eq_false c4, eq_false c6, eq_false c14, eq_false c22, sc_ref4_Two, U_ref4_Two, ac0, lw, le, Nat.reduceEqDiff, reduceIte, reduceCtorEq, Nat.reduceAdd, Nat.reduceLeDiff, Nat.reduceSub, Nat.reduceMul, Int.reduceEq, Int.reduceNe, Int.reduceLT, Int.reduceLE, Int.reduceAdd, Int.reduceSub, Int.reduceMul, Int.reduceNeg, Nat.reduceLT, Nat.reduceDiv, Int.reduceToNat]
              by_cases c29 : kind = 14
              · replace T := T.1 c29
                try simp only [eq_true c1, eq_false c2, eq_false c4, eq_false c6, eq_false c14, eq_false c22, eq_true c29, sc_ref4_Two, U_ref4_Two, ac0, lw, le, Nat.reduceEqDiff, reduceIte, reduceCtorEq, Nat.reduceAdd, Nat.reduceLeDiff, Nat.reduceSub, Nat.reduceMul, Int.reduceEq, Int.reduceNe, Int.reduceLT, Int.reduceLE, Int.reduceAdd, Int.reduceSub, Int.reduceMul, Int.reduceNeg, Nat.reduceLT, Nat.reduceDiv, Int.reduceToNat]
                by_cases c30 : a.k = b.k
                · replace T := T.1 c30
                  obtain ⟨r15, q31, T⟩ := T
                  simp only [R_ref4_SameVal, le] at q31
                  try simp only [eq_true c1, eq_false c2, eq_false c4, eq_false c6, eq_false c14, eq_false c22, eq_true c29, eq_true c30, q31, sc_ref4_Two, U_ref4_Two, ac0, lw, le, Nat.reduceEqDiff, reduceIte, reduceCtorEq, Nat.reduceAdd, Nat.reduceLeDiff, Nat.reduceSub, Nat.reduceMul, Int.reduceEq, Int.reduceNe, Int.reduceLT, Int.reduceLE, Int.reduceAdd, Int.reduceSub, Int.reduceMul, Int.reduceNeg, Nat.reduceLT, Nat.reduceDiv, Int.reduceToNat]
                  by_cases c32 : r15 = true
                  · replace T := T.1 c32
                    obtain ⟨r16, q33, T⟩ := T
                    simp only [R_ref4_truth, le] at q33
                    subst T
                    try simp only [eq_true c1, eq_false c2, eq_false c4, eq_false c6, eq_false c14, eq_false c22, eq_true c29, eq_true c30, q31, c32, q33, le, sc_ref4_Two, U_ref4_Two, ac0, lw, le, Nat.reduceEqDiff, reduceIte, reduceCtorEq, Nat.reduceAdd, Nat.reduceLeDiff, Nat.reduceSub, Nat.reduceMul, Int.reduceEq, Int.reduceNe, Int.reduceLT, Int.reduceLE, Int.reduceAdd, Int.reduceSub, Int.reduceMul, Int.reduceNeg, Nat.reduceLT, Nat.reduceDiv, Int.reduceToNat]
                    all_goals first | done | rfl
                  · replace T := T.2 c32
                    replace c32 := Bool.eq_false_iff.2 c32
                    obtain ⟨r17, q34, T⟩ := T
                    simp only [R_ref4_truth, le] at q34
                    subst T
                    try simp only [eq_true c1, eq_false c2, eq_false c4, eq_false c6, eq_false c14, eq_false c22, eq_true c29, eq_true c30, q31, c32, q34, le, sc_ref4_Two, U_ref4_Two, ac0, lw, le, Nat.reduceEqDiff, reduceIte, reduceCtorEq, Nat.reduceAdd, Nat.reduceLeDiff, Nat.reduceSub, Nat.reduceMul, Int.reduceEq, Int.reduceNe, Int.reduceLT, Int.reduceLE, Int.reduceAdd, Int.reduceSub, Int.reduceMul, Int.reduceNeg, Nat.reduceLT, Nat.reduceDiv, Int.reduceToNat]
                    all_goals first | done | rfl
                · replace T := T.2 c30
                  obtain ⟨r18, q35, T⟩ := T
                  simp only [R_ref4_bad, le] at q35
                  subst T
                  try simp only [eq_true c1, eq_false c2, eq_false c4, eq_false c6, eq_false c14, eq_false c22, eq_true c29, eq_false c30, q35, le, sc_ref4_Two, U_ref4_Two, ac0, lw, le, Nat.reduceEqDiff, reduceIte, reduceCtorEq, Nat.reduceAdd, Nat.reduceLeDiff, Nat.reduceSub, Nat.reduceMul, Int.reduceEq, Int.reduceNe, Int.reduceLT, Int.reduceLE, Int.reduceAdd, Int.reduceSub, Int.reduceMul, Int.reduceNeg, Nat.reduceLT, Nat.reduceDiv, Int.reduceToNat]
                  all_goals first | done | rfl
              · replace T := T.2 c29
                try simp only [eq_true c1, eq_false c2, eq_false c4, eq_false c6, eq_false c14, eq_false c22, eq_false c29, sc_ref4_Two, U_ref4_Two, ac0, lw, le, Nat.reduceEqDiff, reduceIte, reduceCtorEq, Nat.reduceAdd, Nat.reduceLeDiff, Nat.reduceSub, Nat.reduceMul, Int.reduceEq, Int.reduceNe, Int.reduceLT, Int.reduceLE, Int.reduceAdd, Int.reduceSub, Int.reduceMul, Int.reduceNeg, Nat.reduceLT, Nat.reduceDiv, Int.reduceToNat]
                by_cases c36 : b.k = 1
                · replace T := T.1 c36
                  try simp only [eq_true c1, eq_false c2, eq_false c4, eq_false c6, eq_false c14, eq_false c22, eq_false c29, eq_true c36, sc_ref4_Two, U_ref4_Two, ac0, lw, le, Nat.reduceEqDiff, reduceIte, reduceCtorEq, Nat.reduceAdd, Nat.reduceLeDiff, Nat.reduceSub, Nat.reduceMul, Int.reduceEq, Int.reduceNe, Int.reduceLT, Int.reduceLE, Int.reduceAdd, Int.reduceSub, Int.reduceMul, Int.reduceNeg, Nat.reduceLT, Nat.reduceDiv, Int.reduceToNat]
                  by_cases c37 : kind = 15
                  · replace T := T.1 c37
                    obtain ⟨r19, q38, T⟩ := T
                    simp only [R_ref4_truth, le] at q38
                    subst T
                    try simp only [eq_true c1, eq_false c2, eq_false c4, eq_false c6, eq_false c14, eq_false c22, eq_false c29, eq_true c36, eq_true c37, q38, le, sc_ref4_Two, U_ref4_Two, ac0, lw, le, Nat.reduceEqDiff, reduceIte, reduceCtorEq, Nat.reduceAdd, Nat.reduceLeDiff, Nat.reduceSub, Nat.reduceMul, Int.reduceEq, Int.reduceNe, Int.reduceLT, Int.reduceLE, Int.reduceAdd, Int.reduceSub, Int.reduceMul, Int.reduceNeg, Nat.reduceLT, Nat.reduceDiv, Int.reduceToNat]
                    all_goals first | done | rfl
                  · replace T := T.2 c37
                    try simp only [eq_true c1, eq_false c2, eq_false c4, eq_false c6, eq_false c14, eq_false c22, eq_false c29, eq_true c36, eq_false c37, sc_ref4_Two, U_ref4_Two, ac0, lw, le, Nat.reduceEqDiff, reduceIte, reduceCtorEq, Nat.reduceAdd, Nat.reduceLeDiff, Nat.reduceSub, Nat.reduceMul, Int.reduceEq, Int.reduceNe, Int.reduceLT, Int.reduceLE, Int.reduceAdd, Int.reduceSub, Int.reduceMul, Int.reduceNeg, Nat.reduceLT, Nat.reduceDiv, Int.reduceToNat]
                    by_cases c39 : kind = 16
                    · replace T := T.1 c39
                      obtain ⟨r20, q40, T⟩ := T
                      simp only [R_ref4_truth, le] at q40
                      subst T
                      try simp only [eq_true c1, eq_false c2, eq_false c4, eq_false c6, eq_false c14, eq_false c22, eq_false c29, eq_true c36, eq_false c37, eq_true c39, q40, le, sc_ref4_Two, U_ref4_Two, ac0, lw, le, Nat.reduceEqDiff, reduceIte, reduceCtorEq, Nat.reduceAdd, Nat.reduceLeDiff, Nat.reduceSub, Nat.reduceMul, Int.reduceEq, Int.reduceNe, Int.reduceLT, Int.reduceLE, Int.reduceAdd, Int.reduceSub, Int.reduceMul, Int.reduceNeg, Nat.reduceLT, Nat.reduceDiv, Int.reduceToNat]
                      all_goals first | done | rfl
                    · replace T := T.2 c39
                      try simp only [eq_true c1, eq_false c2, eq_false c4, eq_false c6, eq_false c14, eq_false c22, eq_false c29, eq_true c36, eq_false c37, eq_false c39, sc_ref4_Two, U_ref4_Two, ac0, lw, le, Nat.reduceEqDiff, reduceIte, reduceCtorEq, Nat.reduceAdd, Nat.reduceLeDiff, Nat.reduceSub, Nat.reduceMul, Int.reduceEq, Int.reduceNe, Int.reduceLT, Int.reduceLE, Int.reduceAdd, Int.reduceSub, Int.reduceMul, Int.reduceNeg, Nat.reduceLT, Nat.reduceDiv, Int.reduceToNat]
                      by_cases c41 : kind = 17
                      · replace T := T.1 c41
                        obtain ⟨r21, q42, T⟩ := T
                        simp only [R_ref4_truth, le] at q42
                        subst T
                        try simp only [eq_true c1, eq_false c2, eq_false c4, eq_false c6, eq_false c14, eq_false c22, eq_false c29, eq_true c36, eq_false c37, eq_false c39, eq_true c41, q42, le, sc_ref4_Two, U_ref4_Two, ac0, lw, le, Nat.reduceEqDiff, reduceIte, reduceCtorEq, Nat.reduceAdd, Nat.reduceLeDiff, Nat.reduceSub, Nat.reduceMul, Int.reduceEq, Int.reduceNe, Int.reduceLT, Int.reduceLE, Int.reduceAdd, Int.reduceSub, Int.reduceMul, Int.reduceNeg, Nat.reduceLT, Nat.reduceDiv, Int.reduceToNat]
                        all_goals first | done | rfl
                      · replace T := T.2 c41
                        try simp only [eq_true c1, eq_false c2, eq_false c4, eq_false c6, eq_false c14, eq_false c22, eq_false c29, eq_true c36, eq_false c37, eq_false c39, eq_false c41, sc_ref4_Two, U_ref4_Two, ac0, lw, le, Nat.reduceEqDiff, reduceIte, reduceCtorEq, Nat.reduceAdd, Nat.reduceLeDiff, Nat.reduceSub, Nat.reduceMul, Int.reduceEq, Int.reduceNe, Int.reduceLT, Int.reduceLE, Int.reduceAdd, Int.reduceSub, Int.reduceMul, Int.reduceNeg, Nat.reduceLT, Nat.reduceDiv, Int.reduceToNat]
                        by_cases c43 : kind = 18
                        · replace T := T.1 c43
                          obtain ⟨r22, q44, T⟩ := T
                          simp only [R_ref4_truth, le] at q44
                          subst T
                          try simp only [eq_true c1, eq_false c2, eq_false c4, eq_false c6, eq_false c14, eq_false c22, eq_false c29, eq_true c36, eq_false c37, eq_false c39, eq_false c41, eq_true c43, q44, le, sc_ref4_Two, U_ref4_Two, ac0, lw, le, Nat.reduceEqDiff, reduceIte, reduceCtorEq, Nat.reduceAdd, Nat.reduceLeDiff, Nat.reduceSub, Nat.reduceMul, Int.reduceEq, Int.reduceNe, Int.reduceLT, Int.reduceLE, Int.reduceAdd, Int.reduceSub, Int.reduceMul, Int.reduceNeg, Nat.reduceLT, Nat.reduceDiv, Int.reduceToNat]
                          all_goals first | done | rfl
                        · replace T := T.2 c43
                          obtain ⟨r23, q45, T⟩ := T
                          simp only [R_ref4_reckon, le] at q45
                          subst T
                          try simp only [eq_true c1, eq_false c2, eq_false c4, eq_false c6, eq_false c14, eq_false c22, eq_false c29, eq_true c36, eq_false c37, eq_false c39, eq_false c41, eq_false c43, q45, le, sc_ref4_Two, U_ref4_Two, ac0, lw, le, Nat.reduceEqDiff, reduceIte, reduceCtorEq, Nat.reduceAdd, Nat.reduceLeDiff, Nat.reduceSub, Nat.reduceMul, Int.reduceEq, Int.reduceNe, Int.reduceLT, Int.reduceLE, Int.reduceAdd, Int.reduceSub, Int.reduceMul, Int.reduceNeg, Nat.reduceLT, Nat.reduceDiv, Int.reduceToNat]
                          all_goals first | done | rfl
                · replace T := T.2 c36
                  obtain ⟨r24, q46, T⟩ := T
                  simp only [R_ref4_bad, le] at q46
                  subst T
                  try simp only [eq_true c1, eq_false c2, eq_false c4, eq_false c6, eq_false c14, eq_false c22, eq_false c29, eq_false c36, q46, le, sc_ref4_Two, U_ref4_Two, ac0, lw, le, Nat.reduceEqDiff, reduceIte, reduceCtorEq, Nat.reduceAdd, Nat.reduceLeDiff, Nat.reduceSub, Nat.reduceMul, Int.reduceEq, Int.reduceNe, Int.reduceLT, Int.reduceLE, Int.reduceAdd, Int.reduceSub, Int.reduceMul, Int.reduceNeg, Nat.reduceLT, Nat.reduceDiv, Int.reduceToNat]
                  all_goals first | done | rfl
  · replace T := T.2 c1
    try simp only [eq_false c1, sc_ref4_Two, U_ref4_Two, ac0, lw, le, Nat.reduceEqDiff, reduceIte, reduceCtorEq, Nat.reduceAdd, Nat.reduceLeDiff, Nat.reduceSub, Nat.reduceMul, Int.reduceEq, Int.reduceNe, Int.reduceLT, Int.reduceLE, Int.reduceAdd, Int.reduceSub, Int.reduceMul, Int.reduceNeg, Nat.reduceLT, Nat.reduceDiv, Int.reduceToNat]
    by_cases c47 : kind < 11
    · replace T := T.1 c47
      obtain ⟨r25, q48, T⟩ := T
      simp only [R_ref4_bad, le] at q48
      subst T
      try simp only [eq_false c1, eq_true c47, q48, le, sc_ref4_Two, U_ref4_Two, ac0, lw, le, Nat.reduceEqDiff, reduceIte, reduceCtorEq, Nat.reduceAdd, Nat.reduceLeDiff, Nat.reduceSub, Nat.reduceMul, Int.reduceEq, Int.reduceNe, Int.reduceLT, Int.reduceLE, Int.reduceAdd, Int.reduceSub, Int.reduceMul, Int.reduceNeg, Nat.reduceLT, Nat.reduceDiv, Int.reduceToNat]
      all_goals first | done | rfl
    · replace T := T.2 c47
      try simp only [eq_false c1, eq_false c47, sc_ref4_Two, U_ref4_Two, ac0, lw, le, Nat.reduceEqDiff, reduceIte, reduceCtorEq, Nat.reduceAdd, Nat.reduceLeDiff, Nat.reduceSub, Nat.reduceMul, Int.reduceEq, Int.reduceNe, Int.reduceLT, Int.reduceLE, Int.reduceAdd, Int.reduceSub, Int.reduceMul, Int.reduceNeg, Nat.reduceLT, Nat.reduceDiv, Int.reduceToNat]
      by_cases c49 : 23 < kind
      · replace T := T.1 c49
        obtain ⟨r26, q50, T⟩ := T
        simp only [R_ref4_bad, le] at q50
        subst T
        try simp only [eq_false c1, eq_false c47, eq_true c49, q50, le, sc_ref4_Two, U_ref4_Two, ac0, lw, le, Nat.reduceEqDiff, reduceIte, reduceCtorEq, Nat.reduceAdd, Nat.reduceLeDiff, Nat.reduceSub, Nat.reduceMul, Int.reduceEq, Int.reduceNe, Int.reduceLT, Int.reduceLE, Int.reduceAdd, Int.reduceSub, Int.reduceMul, Int.reduceNeg, Nat.reduceLT, Nat.reduceDiv, Int.reduceToNat]
        all_goals first | done | rfl
      · replace T := T.2 c49
        try simp only [eq_false c1, eq_false c47, eq_false c49, sc_ref4_Two, U_ref4_Two, ac0, lw, le, Nat.reduceEqDiff, reduceIte, reduceCtorEq, Nat.reduceAdd, Nat.reduceLeDiff, Nat.reduceSub, Nat.reduceMul, Int.reduceEq, Int.reduceNe, Int.reduceLT, Int.reduceLE, Int.reduceAdd, Int.reduceSub, Int.reduceMul, Int.reduceNeg, Nat.reduceLT, Nat.reduceDiv, Int.reduceToNat]
        by_cases c51 : kind = 11
        · replace T := T.1 c51
          try simp only [eq_false c1, eq_false c47, eq_false c49, eq_true c51, sc_ref4_Two, U_ref4_Two, ac0, lw, le, Nat.reduceEqDiff, reduceIte, reduceCtorEq, Nat.reduceAdd, Nat.reduceLeDiff, Nat.reduceSub, Nat.reduceMul, Int.reduceEq, Int.reduceNe, Int.reduceLT, Int.reduceLE, Int.reduceAdd, Int.reduceSub, Int.reduceMul, Int.reduceNeg, Nat.reduceLT, Nat.reduceDiv, Int.reduceToNat]
          by_cases c52 : a.k = 3
          · replace T := T.1 c52
            try simp only [eq_false c1, eq_false c47, eq_false c49, eq_true c51, eq_true c52, sc_ref4_Two, U_ref4_Two, ac0, lw, le, Nat.reduceEqDiff, reduceIte, reduceCtorEq, Nat.reduceAdd, Nat.reduceLeDiff, Nat.reduceSub, Nat.reduceMul, Int.reduceEq, Int.reduceNe, Int.reduceLT, Int.reduceLE, Int.reduceAdd, Int.reduceSub, Int.reduceMul, Int.reduceNeg, Nat.reduceLT, Nat.reduceDiv, Int.reduceToNat]
            by_cases c53 : b.k = 3
            · replace T := T.1 c53
              try simp only [eq_false c1, eq_false c47, eq_false c49, eq_true c51, eq_true c52, eq_true c53, sc_ref4_Two, U_ref4_Two, ac0, lw, le, Nat.reduceEqDiff, reduceIte, reduceCtorEq, Nat.reduceAdd, Nat.reduceLeDiff, Nat.reduceSub, Nat.reduceMul, Int.reduceEq, Int.reduceNe, Int.reduceLT, Int.reduceLE, Int.reduceAdd, Int.reduceSub, Int.reduceMul, Int.reduceNeg, Nat.reduceLT, Nat.reduceDiv, Int.reduceToNat]
              by_cases c54 : a.n = 1
              · replace T := T.1 c54
                obtain ⟨r27, q55, T⟩ := T
                simp only [R_ref4_truth, le] at q55
                subst T
                try simp only [eq_false c1, eq_false c47, eq_false c49, eq_true c51, eq_true c52, eq_true c53, eq_true c54, q55, le, sc_ref4_Two, U_ref4_Two, ac0, lw, le, Nat.reduceEqDiff, reduceIte, reduceCtorEq, Nat.reduceAdd, Nat.reduceLeDiff, Nat.reduceSub, Nat.reduceMul, Int.reduceEq, Int.reduceNe, Int.reduceLT, Int.reduceLE, Int.reduceAdd, Int.reduceSub, Int.reduceMul, Int.reduceNeg, Nat.reduceLT, Nat.reduceDiv, Int.reduceToNat]
                all_goals first | done | rfl
              · replace T := T.2 c54
                obtain ⟨r28, q56, T⟩ := T
                simp only [R_ref4_truth, le] at q56
                subst T
                try simp only [eq_false c1, eq_false c47, eq_false c49, eq_true c51, eq_true c52, eq_true c53, eq_false c54, q56, le, sc_ref4_Two, U_ref4_Two, ac0, lw, le, Nat.reduceEqDiff, reduceIte, reduceCtorEq, Nat.reduceAdd, Nat.reduceLeDiff, Nat.reduceSub, Nat.reduceMul, Int.reduceEq, Int.reduceNe, Int.reduceLT, Int.reduceLE, Int.reduceAdd, Int.reduceSub, Int.reduceMul, Int.reduceNeg, Nat.reduceLT, Nat.reduceDiv, Int.reduceToNat]
                all_goals first | done | rfl
            · replace T := T.2 c53
              obtain ⟨r29, q57, T⟩ := T
              simp only [R_ref4_bad, le] at q57
              subst T
              try simp only [eq_false c1, eq_false c47, eq_false c49, eq_true c51, eq_true c52, eq_false c53, q57, le, sc_ref4_Two, U_ref4_Two, ac0, lw, le, Nat.reduceEqDiff, reduceIte, reduceCtorEq, Nat.reduceAdd, Nat.reduceLeDiff, Nat.reduceSub, Nat.reduceMul, Int.reduceEq, Int.reduceNe, Int.reduceLT, Int.reduceLE, Int.reduceAdd, Int.reduceSub, Int.reduceMul, Int.reduceNeg, Nat.reduceLT, Nat.reduceDiv, Int.reduceToNat]
              all_goals first | done | rfl
          · replace T := T.2 c52
            obtain ⟨r30, q58, T⟩ := T
            simp only [R_ref4_bad, le] at q58
            subst T
            try simp only [eq_false c1, eq_false c47, eq_false c49, eq_true c51, eq_false c52, q58, le, sc_ref4_Two, U_ref4_Two, ac0, lw, le, Nat.reduceEqDiff, reduceIte, reduceCtorEq, Nat.reduceAdd, Nat.reduceLeDiff, Nat.reduceSub, Nat.reduceMul, Int.reduceEq, Int.reduceNe, Int.reduceLT, Int.reduceLE, Int.reduceAdd, Int.reduceSub, Int.reduceMul, Int.reduceNeg, Nat.reduceLT, Nat.reduceDiv, Int.reduceToNat]
            all_goals first | done | rfl
        · replace T := T.2 c51
          try simp only [eq_false c1, eq_false c47, eq_false c49, eq_false c51, sc_ref4_Two, U_ref4_Two, ac0, lw, le, Nat.reduceEqDiff, reduceIte, reduceCtorEq, Nat.reduceAdd, Nat.reduceLeDiff, Nat.reduceSub, Nat.reduceMul, Int.reduceEq, Int.reduceNe, Int.reduceLT, Int.reduceLE, Int.reduceAdd, Int.reduceSub, Int.reduceMul, Int.reduceNeg, Nat.reduceLT, Nat.reduceDiv, Int.reduceToNat]
          by_cases c59 : kind = 12
          · replace T := T.1 c59
            try simp only [eq_false c1, eq_false c47, eq_false c49, eq_false c51, eq_true c59, sc_ref4_Two, U_ref4_Two, ac0, lw, le, Nat.reduceEqDiff, reduceIte, reduceCtorEq, Nat.reduceAdd, Nat.reduceLeDiff, Nat.reduceSub, Nat.reduceMul, Int.reduceEq, Int.reduceNe, Int.reduceLT, Int.reduceLE, Int.reduceAdd, Int.reduceSub, Int.reduceMul, Int.reduceNeg, Nat.reduceLT, Nat.reduceDiv, Int.reduceToNat]
            by_cases c60 : a.k = 3
            · replace T := T.1 c60
              try simp only [eq_false c1, eq_false c47, eq_false c49, eq_false c51, eq_true c59, eq_true c60, sc_ref4_Two, U_ref4_Two, ac0, lw, le, Nat.reduceEqDiff, reduceIte, reduceCtorEq, Nat.reduceAdd, Nat.reduceLeDiff, Nat.reduceSub, Nat.reduceMul, Int.reduceEq, Int.reduceNe, Int.reduceLT, Int.reduceLE, Int.reduceAdd, Int.reduceSub, Int.reduceMul, Int.reduceNeg, Nat.reduceLT, Nat.reduceDiv, Int.reduceToNat]
              by_cases c61 : b.k = 3
              · replace T := T.1 c61
                try simp only [eq_false c1, eq_false c47, eq_false c49, eq_false c51, eq_true c59, eq_true c60, eq_true c61, sc_ref4_Two, U_ref4_Two, ac0, lw, le, Nat.reduceEqDiff, reduceIte, reduceCtorEq, Nat.reduceAdd, Nat.reduceLeDiff, Nat.reduceSub, Nat.reduceMul, Int.reduceEq, Int.reduceNe, Int.reduceLT, Int.reduceLE, Int.reduceAdd, Int.reduceSub, Int.reduceMul, Int.reduceNeg, Nat.reduceLT, Nat.reduceDiv, Int.reduceToNat]
                by_cases c62 : a.n = 1
                · replace T := T.1 c62
                  obtain ⟨r31, q63, T⟩ := T
                  simp only [R_ref4_truth, le] at q63
                  subst T
                  try simp only [eq_false c1, eq_false c47, eq_false c49, eq_false c51, eq_true c59, eq_true c60, eq_true c61, eq_true c62, q63, le, sc_ref4_Two, U_ref4_Two, ac0, lw, le, Nat.reduceEqDiff, reduceIte, reduceCtorEq, Nat.reduceAdd, Nat.reduceLeDiff, Nat.reduceSub, Nat.reduceMul, Int.reduceEq, Int.reduceNe, Int.reduceLT, Int.reduceLE, Int.reduceAdd, Int.reduceSub, Int.reduceMul, Int.reduceNeg, Nat.reduceLT, Nat.reduceDiv, Int.reduceToNat]
                  all_goals first | done | rfl
                · replace T := T.2 c62
                  obtain ⟨r32, q64, T⟩ := T
                  simp only [R_ref4_truth, le] at q64
                  subst T
                  try simp only [eq_false c1, eq_false c47, eq_false c49, eq_false c51, eq_true c59, eq_true c60, eq_true c61, eq_false c62, q64, le, sc_ref4_Two, U_ref4_Two, ac0, lw, le, Nat.reduceEqDiff, reduceIte, reduceCtorEq, Nat.reduceAdd, Nat.reduceLeDiff, Nat.reduceSub, Nat.reduceMul, Int.reduceEq, Int.reduceNe, Int.reduceLT, Int.reduceLE, Int.reduceAdd, Int.reduceSub, Int.reduceMul, Int.reduceNeg, Nat.reduceLT, Nat.reduceDiv, Int.reduceToNat]
                  all_goals first | done | rfl
              · replace T := T.2 c61
                obtain ⟨r33, q65, T⟩ := T
                simp only [R_ref4_bad, le] at q65
                subst T
                try simp only [eq_false c1, eq_false c47, eq_false c49, eq_false c51, eq_true c59, eq_true c60, eq_false c61, q65, le, sc_ref4_Two, U_ref4_Two, ac0, lw, le, Nat.reduceEqDiff, reduceIte, reduceCtorEq, Nat.reduceAdd, Nat.reduceLeDiff, Nat.reduceSub, Nat.reduceMul, Int.reduceEq, Int.reduceNe, Int.reduceLT, Int.reduceLE, Int.reduceAdd, Int.reduceSub, Int.reduceMul, Int.reduceNeg, Nat.reduceLT, Nat.reduceDiv, Int.reduceToNat]
                all_goals first | done | rfl
            · replace T := T.2 c60
              obtain ⟨r34, q66, T⟩ := T
              simp only [R_ref4_bad, le] at q66
              subst T
              try simp only [eq_false c1, eq_false c47, eq_false c49, eq_false c51, eq_true c59, eq_false c60, q66, le, sc_ref4_Two, U_ref4_Two, ac0, lw, le, Nat.reduceEqDiff, reduceIte, reduceCtorEq, Nat.reduceAdd, Nat.reduceLeDiff, Nat.reduceSub, Nat.reduceMul, Int.reduceEq, Int.reduceNe, Int.reduceLT, Int.reduceLE, Int.reduceAdd, Int.reduceSub, Int.reduceMul, Int.reduceNeg, Nat.reduceLT, Nat.reduceDiv, Int.reduceToNat]
              all_goals first | done | rfl
          · replace T := T.2 c59
            try simp only [eq_false c1, eq_false c47, eq_false c49, eq_false c51, eq_false c59, sc_ref4_Two, U_ref4_Two, ac0, lw, le, Nat.reduceEqDiff, reduceIte, reduceCtorEq, Nat.reduceAdd, Nat.reduceLeDiff, Nat.reduceSub, Nat.reduceMul, Int.reduceEq, Int.reduceNe, Int.reduceLT, Int.reduceLE, Int.reduceAdd, Int.reduceSub, Int.reduceMul, Int.reduceNeg, Nat.reduceLT, Nat.reduceDiv, Int.reduceToNat]
            by_cases c67 : kind = 13
            · replace T := T.1 c67
              try simp only [eq_false c1, eq_false c47, eq_false c49, eq_false c51, eq_false c59, eq_true c67, sc_ref4_Two, U_ref4_Two, ac0, lw, le, Nat.reduceEqDiff, reduceIte, reduceCtorEq, Nat.reduceAdd, Nat.reduceLeDiff, Nat.reduceSub, Nat.reduceMul, Int.reduceEq, Int.reduceNe, Int.reduceLT, Int.reduceLE, Int.reduceAdd, Int.reduceSub, Int.reduceMul, Int.reduceNeg, Nat.reduceLT, Nat.reduceDiv, Int.reduceToNat]
              by_cases c68 : a.k = b.k
              · replace T := T.1 c68
                obtain ⟨r35, q69, T⟩ := T
                simp only [R_ref4_SameVal, le] at q69
                try simp only [eq_false c1, eq_false c47, eq_false c49, eq_false c51, eq_false c59, eq_true c67, eq_true c68, q69, sc_ref4_Two, U_ref4_Two, ac0, lw, le, Nat.reduceEqDiff, reduceIte, reduceCtorEq, Nat.reduceAdd, Nat.reduceLeDiff, Nat.reduceSub, Nat.reduceMul, Int.reduceEq, Int.reduceNe, Int.reduceLT, Int.reduceLE, Int.reduceAdd, Int.reduceSub, Int.reduceMul, Int.reduceNeg, Nat.reduceLT, Nat.reduceDiv, Int.reduceToNat]
                by_cases c70 : r35 = true
                · replace T := T.1 c70
                  obtain ⟨r36, q71, T⟩ := T
                  simp only [R_ref4_truth, le] at q71
                  subst T
                  try simp only [eq_false c1, eq_false c47, eq_false c49, eq_false c51, eq_false c59, eq_true c67, eq_true c68, q69, c70, q71, le, sc_ref4_Two, U_ref4_Two, ac0, lw, le, Nat.reduceEqDiff, reduceIte, reduceCtorEq, Nat.reduceAdd, Nat.reduceLeDiff, Nat.reduceSub, Nat.reduceMul, Int.reduceEq, Int.reduceNe, Int.reduceLT, Int.reduceLE, Int.reduceAdd, Int.reduceSub, Int.reduceMul, Int.reduceNeg, Nat.reduceLT, Nat.reduceDiv, Int.reduceToNat]
                  all_goals first | done | rfl
                · replace T := T.2 c70
                  replace c70 := Bool.eq_false_iff.2 c70
                  obtain ⟨r37, q72, T⟩ := T
                  simp only [R_ref4_truth, le] at q72
                  subst T
                  try simp only [eq_false c1, eq_false c47, eq_false c49, eq_false c51, eq_false c59, eq_true c67, eq_true c68, q69, c70, q72, le, sc_ref4_Two, U_ref4_Two, ac0, lw, le, Nat.reduceEqDiff, reduceIte, reduceCtorEq, Nat.reduceAdd, Nat.reduceLeDiff, Nat.reduceSub, Nat.reduceMul, Int.reduceEq, Int.reduceNe, Int.reduceLT, Int.reduceLE, Int.reduceAdd, Int.reduceSub, Int.reduceMul, Int.reduceNeg, Nat.reduceLT, Nat.reduceDiv, Int.reduceToNat]
                  all_goals first | done | rfl
              · replace T := T.2 c68
                obtain ⟨r38, q73, T⟩ := T
                simp only [R_ref4_bad, le] at q73
                subst T
                try simp only [eq_false c1, eq_false c47, eq_false c49, eq_false c51, eq_false c59, eq_true c67, eq_false c68, q73, le, sc_ref4_Two, U_ref4_Two, ac0, lw, le, Nat.reduceEqDiff, reduceIte, reduceCtorEq, Nat.reduceAdd, Nat.reduceLeDiff, Nat.reduceSub, Nat.reduceMul, Int.reduceEq, Int.reduceNe, Int.reduceLT, Int.reduceLE, Int.reduceAdd, Int.reduceSub, Int.reduceMul, Int.reduceNeg, Nat.reduceLT, Nat.reduceDiv, Int.reduceToNat]
                all_goals first | done | rfl
            · replace T := T.2 c67
              try simp only [eq_false c1, eq_false c47, eq_false c49, eq_false c51, eq_false c59, eq_false c67, sc_ref4_Two, U_ref4_Two, ac0, lw, le, Nat.reduceEqDiff, reduceIte, reduceCtorEq, Nat.reduceAdd, Nat.reduceLeDiff, Nat.reduceSub, Nat.reduceMul, Int.reduceEq, Int.reduceNe, Int.reduceLT, Int.reduceLE, Int.reduceAdd, Int.reduceSub, Int.reduceMul, Int.reduceNeg, Nat.reduceLT, Nat.reduceDiv, Int.reduceToNat]
              by_cases c74 : kind = 14
              · replace T := T.1 c74
                try simp only [eq_false c1, eq_false c47, eq_false c49, eq_false c51, eq_false c59, eq_false c67, eq_true c74, sc_ref4_Two, U_ref4_Two, ac0, lw, le, Nat.reduceEqDiff, reduceIte, reduceCtorEq, Nat.reduceAdd, Nat.reduceLeDiff, Nat.reduceSub, Nat.reduceMul, Int.reduceEq, Int.reduceNe, Int.reduceLT, Int.reduceLE, Int.reduceAdd, Int.reduceSub, Int.reduceMul, Int.reduceNeg, Nat.reduceLT, Nat.reduceDiv, Int.reduceToNat]
                by_cases c75 : a.k = b.k
                · replace T := T.1 c75
                  obtain ⟨r39, q76, T⟩ := T
                  simp only [R_ref4_SameVal, le] at q76
                  try simp only [eq_false c1, eq_false c47, eq_false c49, eq_false c51, eq_false c59, eq_false c67, eq_true c74, eq_true c75, q76, sc_ref4_Two, U_ref4_Two, ac0, lw, le, Nat.reduceEqDiff, reduceIte, reduceCtorEq, Nat.reduceAdd, Nat.reduceLeDiff, Nat.reduceSub, Nat.reduceMul, Int.reduceEq, Int.reduceNe, Int.reduceLT, Int.reduceLE, Int.reduceAdd, Int.reduceSub, Int.reduceMul, Int.reduceNeg, Nat.reduceLT, Nat.reduceDiv, Int.reduceToNat]
                  by_cases c77 : r39 = true
                  · replace T := T.1 c77
                    obtain ⟨r40, q78, T⟩ := T
                    simp only [R_ref4_truth, le] at q78
                    subst T
                    try simp only [eq_false c1, eq_false c47, eq_false c49, eq_false c51, eq_false c59, eq_false c67, eq_true c74, eq_true c75, q76, c77, q78, le, sc_ref4_Two, U_ref4_Two, ac0, lw, le, Nat.reduceEqDiff, reduceIte, reduceCtorEq, Nat.reduceAdd, Nat.reduceLeDiff, Nat.reduceSub, Nat.reduceMul, Int.reduceEq, Int.reduceNe, Int.reduceLT, Int.reduceLE, Int.reduceAdd, Int.reduceSub, Int.reduceMul, Int.reduceNeg, Nat.reduceLT, Nat.reduceDiv, Int.reduceToNat]
                    all_goals first | done | rfl
                  · replace T := T.2 c77
                    replace c77 := Bool.eq_false_iff.2 c77
                    obtain ⟨r41, q79, T⟩ := T
                    simp only [R_ref4_truth, le] at q79
                    subst T
                    try simp only [eq_false c1, eq_false c47, eq_false c49, eq_false c51, eq_false c59, eq_false c67, eq_true c74, eq_true c75, q76, c77, q79, le, sc_ref4_Two, U_ref4_Two, ac0, lw, le, Nat.reduceEqDiff, reduceIte, reduceCtorEq, Nat.reduceAdd, Nat.reduceLeDiff, Nat.reduceSub, Nat.reduceMul, Int.reduceEq, Int.reduceNe, Int.reduceLT, Int.reduceLE, Int.reduceAdd, Int.reduceSub, Int.reduceMul, Int.reduceNeg, Nat.reduceLT, Nat.reduceDiv, Int.reduceToNat]
                    all_goals first | done | rfl
                · replace T := T.2 c75
                  obtain ⟨r42, q80, T⟩ := T
                  simp only [R_ref4_bad, le] at q80
                  subst T
                  try simp only [eq_false c1, eq_false c47, eq_false c49, eq_false c51, eq_false c59, eq_false c67, eq_true c74, eq_false c75, q80, le, sc_ref4_Two, U_ref4_Two, ac0, lw, le, Nat.reduceEqDiff, reduceIte, reduceCtorEq, Nat.reduceAdd, Nat.reduceLeDiff, Nat.reduceSub, Nat.reduceMul, Int.reduceEq, Int.reduceNe, Int.reduceLT, Int.reduceLE, Int.reduceAdd, Int.reduceSub, Int.reduceMul, Int.reduceNeg, Nat.reduceLT, Nat.reduceDiv, Int.reduceToNat]
                  all_goals first | done | rfl
              · replace T := T.2 c74
                obtain ⟨r43, q81, T⟩ := T
                simp only [R_ref4_bad, le] at q81
                subst T
                try simp only [eq_false c1, eq_false c47, eq_false c49, eq_false c51, eq_false c59, eq_false c67, eq_false c74, q81, le, sc_ref4_Two, U_ref4_Two, ac0, lw, le, Nat.reduceEqDiff, reduceIte, reduceCtorEq, Nat.reduceAdd, Nat.reduceLeDiff, Nat.reduceSub, Nat.reduceMul, Int.reduceEq, Int.reduceNe, Int.reduceLT, Int.reduceLE, Int.reduceAdd, Int.reduceSub, Int.reduceMul, Int.reduceNeg, Nat.reduceLT, Nat.reduceDiv, Int.reduceToNat]
                all_goals first | done | rfl
end Go.Proofs.Ytebflncfgjnkkaa.M

/- What is known of package val's functions, and of the document's, as facts over plain data. -/
namespace Go.Proofs.Ytebflncfgjnkkaa.M
set_option linter.unusedSimpArgs false
set_option linter.unusedVariables false
open Go Classical
/-- A value's numbers are numbers of 64 bits, and no row is too long, within too. -/
def okV (v : V) : Prop := -9223372036854775808 ≤ v.n ∧ v.n ≤ 9223372036854775807
theorem r_Num (n : Int) : R_law1_Num n n := fun S => Num_ok n S
theorem r_num (n : Int) : R_law4_num n (numV n) := fun S => num_ok n S
theorem r_awake : R_law4_awake true := awake_ok
theorem r_bad (n : Int) : R_ref4_bad n ⟨zeroV, n⟩ := fun S => rbad_ok n S
theorem r_rnum (n : Int) : R_ref4_num n ⟨numV n, 0⟩ := fun S => rnum_ok n S
theorem r_truth (b : Bool) : R_ref4_truth b ⟨truthV (b = true), 0⟩ := fun S => by
  have h := rtruth_ok (b = true) S
  rw [Bool.decide_eq_true] at h
  rw [h]
  simp [truthV, V.k, V.n, V.s, V.l, encL]
theorem r_SameVal (v u : V) (h : small v) : R_ref4_SameVal v u (sameV v u) := fun S => SameVal_ok v u h S
theorem r_One (k : Int) (v : V) : R_val_One k v (oneS k v).1 (oneS k v).2 := fun S => by
  rw [One_ok, enc_eq]
theorem r_rOne (k : Int) (v : V) : R_ref4_One k v ⟨(oneS k v).1, (oneS k v).2⟩ := fun S => by
  rw [rOne_ok, enc_eq]
  rfl
theorem r_Two (k : Int) (a b : V) (h : small a) : R_val_Two k a b (twoS k a b).1 (twoS k a b).2 := fun S => by
  rw [Two_ok k a b h, enc_eq]
theorem r_reckon (k a b : Int) (ha : I64 a) (hb : I64 b) : R_ref4_reckon k a b (if (reckonS k a b).2 = 0 then ⟨numV (reckonS k a b).1, 0⟩ else ⟨zeroV, (reckonS k a b).2⟩) := fun S => by
  rw [rreckon_ok, reckon_same ha.1 ha.2 hb.1 hb.2]
  split
  · simp [numV, V.k, V.n, V.s, V.l, encL]
  · simp [zeroV, V.k, V.n, V.s, V.l, encL]
theorem r_May (v : V) (hs : small v) (hd : deep v < 4611686018427387904) : R_val_May v (plainV v && decide (deep v ≤ 64)) := fun S => May_ok v hs hd S
/-- A truth is 0 or 1. -/
def okT (v : V) : Prop := v.k = 3 → v.n = 0 ∨ v.n = 1
theorem truth_eq {p q : Prop} [Decidable p] [Decidable q] (h : p ↔ q) : truthV p = truthV q := by simp [truthV, h]
theorem r_rTwo (k : Int) (a b : V) (h : small a) (ha : okV a) (hb : okV b) (ta : okT a) (tb : okT b) : R_ref4_Two k a b ⟨(twoS k a b).1, (twoS k a b).2⟩ := by
  apply ref4_Two_tree
  have e1 := r_bad 1
  have e7 := r_bad 7
  have eS := r_SameVal a b h
  have eR := r_reckon k a.n b.n ha hb
  have et : ∀ b : Bool, R_ref4_truth b ⟨truthV (b = true), 0⟩ := r_truth
  have w1 : IntKind.i64.wrap 1 = 1 := wrap_i64 (by omega) (by omega)
  have w0 : IntKind.i64.wrap 0 = 0 := wrap_i64 (by omega) (by omega)
  have w2 : IntKind.i64.wrap 2 = 2 := wrap_i64 (by omega) (by omega)
  unfold okT at ta tb
  unfold twoS cmpS
  repeat' first
    | (refine ⟨_, e1, ?_⟩)
    | (refine ⟨_, e7, ?_⟩)
    | (refine ⟨_, eS, ?_⟩)
    | (refine ⟨_, et _, ?_⟩)
    | (refine ⟨_, eR, ?_⟩)
    | (intro _)
    | (apply And.intro)
  all_goals try (exfalso; omega)
  all_goals clear e1 e7 eS eR et h ha hb
  all_goals try (have k1 : ¬ k < 11 := by omega)
  all_goals try (have k2 : ¬ 23 < k := by omega)
  all_goals try (have k3 : ¬ k ≤ 12 := by omega)
  all_goals try (have k3 : k ≤ 12 := by omega)
  all_goals try (have k4 : ¬ k = 13 := by omega)
  all_goals try (have k5 : ¬ k = 14 := by omega)
  all_goals try (have k6 : ¬ k ≤ 18 := by omega)
  all_goals try (have k6 : k ≤ 18 := by omega)
  all_goals try (have k7 : ¬ a.k = b.k := by omega)
  all_goals try (have k7 : a.k = b.k := by omega)
  all_goals try (simp [truthV, *]; done)
  all_goals try ((have a3 : a.k = 3 := by omega); (have b3 : b.k = 3 := by omega); rcases ta a3 with h1 | h1 <;> rcases tb b3 with h2 | h2 <;> simp [truthV, *]; done)
  all_goals (clear w0 w1 w2; simp_all [truthV])
  all_goals first
    | (simp only [show ¬ k < 11 by omega, show ¬ 23 < k by omega, show ¬ k ≤ 12 by omega, show ¬ k ≤ 18 by omega, if_false]; split <;> simp_all; done)
    | (simp only [show ¬ k < 11 by omega, show ¬ 23 < k by omega, if_false]; simp; done)
    | (rcases tb with h | h <;> simp only [h] <;> decide)
/-- What stands in a list. -/
def indexS (a b : V) : V × Int :=
  if a.k = 4 then (if b.k = 1 then (if b.n < 0 then (zeroV, 2) else if (a.l.length : Int) ≤ b.n then (zeroV, 2) else ((a.l[b.n.toNat]?).getD zeroV, 0)) else (zeroV, 7)) else (zeroV, 7)
/-- A list of values. -/
def listS (l : List V) : V × Int := if 64 < l.length ∨ 64 ≤ deepL l then (zeroV, 4) else (.mk 4 0 [] l, 0)
theorem r_List (l : List V) (hb : deepL l < 4611686018427387904) (hs : smallL l) : R_val_List l (listS l).1 (listS l).2 := fun S => by
  unfold listS
  split
  · rename_i h
    rw [List_large l hb hs h]
    simp [zeroV, V.k, V.n, V.s, V.l, encL]
  · rename_i h
    rw [List_fits l (by omega) hs (by omega)]
    simp [V.k, V.n, V.s, V.l]
theorem r_rIndex (a b : V) : R_ref4_Index a b ⟨(indexS a b).1, (indexS a b).2⟩ := by
  apply ref4_Index_tree
  have e2 := r_bad 2
  have e7 := r_bad 7
  unfold indexS
  repeat' first
    | (refine ⟨_, e2, ?_⟩)
    | (refine ⟨_, e7, ?_⟩)
    | (intro _)
    | (apply And.intro)
  all_goals try (simp [*]; done)
  · omega
  · rename_i h1 h2 h3 h4
    have hlt : b.n.toNat < a.l.length := by omega
    exact ⟨a.l[b.n.toNat], List.getElem?_eq_getElem hlt, by simp [*]⟩
/-- How deep, with so much left. -/
def rdeep : Nat → V → Nat
  | 0, v => if v.k = 4 then 1000 else 0
  | n + 1, v => if v.k = 4 then (v.l.map (rdeep n)).foldr max 0 + 1 else 0
theorem rdeep_le : ∀ n v, rdeep n v ≤ 1000 + n
  | 0, v => by simp only [rdeep]; split <;> omega
  | n + 1, v => by
    simp only [rdeep]
    split
    · have : ∀ l : List V, (l.map (rdeep n)).foldr max 0 ≤ 1000 + n := by
        intro l
        induction l with
        | nil => simp
        | cons x l ih => simp only [List.map_cons, List.foldr_cons]; have := rdeep_le n x; omega
      have := this v.l
      omega
    · omega
theorem rdeep_big : ∀ n v, n < deep v → 1000 ≤ rdeep n v
  | 0, v, h => by
    rw [deep_eq] at h
    simp only [rdeep]
    split at h
    · rename_i h4; simp [h4]
    · omega
  | n + 1, v, h => by
    rw [deep_eq] at h
    simp only [rdeep]
    split at h
    · rename_i h4
      rw [if_pos h4]
      have : ∀ l : List V, n < deepL l → 1000 ≤ (l.map (rdeep n)).foldr max 0 := by
        intro l
        induction l with
        | nil => intro h; simp [deepL] at h
        | cons x l ih =>
          intro h
          simp only [deepL] at h
          simp only [List.map_cons, List.foldr_cons]
          rcases Nat.lt_or_ge n (deep x) with h1 | h1
          · have := rdeep_big n x h1; omega
          · have := ih (by omega); omega
      have := this v.l (by omega)
      omega
    · omega
theorem rdeep_small : ∀ n v, deep v ≤ n → rdeep n v = deep v
  | 0, v, h => by
    rw [deep_eq] at h ⊢
    simp only [rdeep]
    split at h
    · omega
    · rename_i h4; simp [h4]
  | n + 1, v, h => by
    rw [deep_eq] at h ⊢
    simp only [rdeep]
    split at h
    · rename_i h4
      rw [if_pos h4, if_pos h4]
      have : ∀ l : List V, deepL l ≤ n → (l.map (rdeep n)).foldr max 0 = deepL l := by
        intro l
        induction l with
        | nil => intro h; simp [deepL]
        | cons x l ih =>
          intro h
          simp only [deepL] at h ⊢
          simp only [List.map_cons, List.foldr_cons]
          rw [rdeep_small n x (by omega), ih (by omega)]
      rw [this v.l (by omega)]
      omega
    · rename_i h4; simp [h4]
theorem r_rdeep_loop (n : Nat) (hn : n < 100000) (ih : ∀ v, small v → R_ref4_deep v (n : Nat) (rdeep n v : Nat)) (v : V) (hs : small v) : ∀ (k i : Nat), i + k = v.l.length → ∀ m : Nat, m ≤ 1000 + n → At_ref4_deep_1 v ((n + 1 : Nat) : Int) m i ((max m (((v.l.drop i).map (rdeep n)).foldr max 0) + 1 : Nat) : Int) := by
  have hl := small_l hs
  have hlen : v.l.length < 4611686018427387904 := hl.1
  intro k
  induction k with
  | zero =>
    intro i hi m hm
    apply At_ref4_deep_1_step
    refine ⟨fun h => by omega, fun h => ⟨⟨by omega, by omega⟩, ?_⟩⟩
    rw [List.drop_eq_nil_of_le (by omega)]
    simp
  | succ k ihk =>
    intro i hi m hm
    apply At_ref4_deep_1_step
    refine ⟨fun h => ⟨by omega, ?_⟩, fun h => by omega⟩
    have hlt : i < v.l.length := by omega
    refine ⟨v.l[i], by simp, ⟨by omega, by omega⟩, (rdeep n v.l[i] : Nat), ?_, ⟨by omega, by omega⟩, ?_⟩
    · have := ih v.l[i] (smallA_mem hl.2 _ (List.getElem_mem hlt))
      have e : (((n + 1 : Nat) : Int) - 1) = (n : Nat) := by omega
      rw [e]
      exact this
    · have hr := rdeep_le n v.l[i]
      have := ihk (i + 1) (by omega) (max m (rdeep n v.l[i])) (by omega)
      rw [List.drop_eq_getElem_cons hlt]
      simp only [List.map_cons, List.foldr_cons]
      rw [← Nat.max_assoc]
      have e : (if (m : Int) < (rdeep n v.l[i] : Nat) then ((rdeep n v.l[i] : Nat) : Int) else (m : Int)) = ((max m (rdeep n v.l[i]) : Nat) : Int) := by split <;> omega
      rw [e]
      exact this
theorem r_rdeep : ∀ n : Nat, n < 100000 → ∀ v, small v → R_ref4_deep v (n : Nat) (rdeep n v : Nat) := by
  intro n
  induction n with
  | zero =>
    intro hn v hs
    apply ref4_deep_tree
    simp only [rdeep]
    refine ⟨fun h => ⟨fun _ => by simp [h], fun h => by simp at h⟩, fun h => by simp [h]⟩
  | succ n ih =>
    intro hn v hs
    apply ref4_deep_tree
    simp only [rdeep]
    refine ⟨fun h => ⟨fun h => by omega, fun _ => ?_⟩, fun h => by simp [h]⟩
    have := r_rdeep_loop n (by omega) (ih (by omega)) v hs v.l.length 0 (by omega) 0 (by omega)
    simp only [List.drop_zero, Nat.zero_max] at this
    rw [if_pos h]
    exact this
end Go.Proofs.Ytebflncfgjnkkaa.M

/- ValMade: its parts. -/
namespace Go.Proofs.Ytebflncfgjnkkaa.M
set_option linter.unusedSimpArgs false
set_option linter.unusedVariables false
open Go Classical
theorem r_Index (a b : V) : R_val_Index a b (indexS a b).1 (indexS a b).2 := by
  apply val_Index_tree
  unfold indexS
  repeat' first
    | (intro _)
    | (apply And.intro)
  all_goals try (simp [zeroV, *]; done)
  · omega
  · rename_i h1 h2 h3 h4
    have hlt : b.n.toNat < a.l.length := by omega
    exact ⟨a.l[b.n.toNat], List.getElem?_eq_getElem hlt, by simp [*]⟩
theorem rdeep_list (l : List V) : (64 < (rdeep 64 (.mk 4 0 [] l) : Nat)) ↔ 64 ≤ deepL l := by
  have hd : deep (.mk 4 0 [] l) = 1 + deepL l := by simp [deep]
  constructor
  · intro h
    rcases Nat.lt_or_ge 64 (deep (.mk 4 0 [] l)) with h1 | h1
    · omega
    · rw [rdeep_small 64 _ h1] at h; omega
  · intro h
    have := rdeep_big 64 (.mk 4 0 [] l) (by omega)
    omega
theorem r_rList (l : List V) (hs : smallL l) (hb : l.length ≤ 1000000) : R_ref4_List l ⟨(listS l).1, (listS l).2⟩ := by
  apply ref4_List_tree
  have e4 := r_bad 4
  have hd := r_rdeep 64 (by omega) (.mk 4 0 [] l) (by simp only [small]; exact hs)
  have hl := rdeep_list l
  unfold listS
  refine ⟨by simp only [bigRow]; omega, fun h => ⟨_, e4, ?_⟩, fun h => ⟨_, hd, fun h2 => ⟨_, e4, ?_⟩, fun h2 => ?_⟩⟩
  · simp [show 64 < l.length by omega]
  · simp [show 64 ≤ deepL l from hl.1 (by omega)]
  · have h3 : ¬ (64 ≤ deepL l) := fun h => h2 (by have := hl.2 h; omega)
    have h4 : ¬ 64 < l.length := by omega
    simp [h3, h4]
theorem sameV_refl (v : V) : sameV v v = true := by
  have h : ∀ l : List V, (∀ x ∈ l, sameV x x = true) → sameV.sameA l l = true := by
    intro l
    induction l with
    | nil => intro _; rfl
    | cons x l ih =>
      intro h
      simp only [sameV.sameA, Bool.and_eq_true]
      exact ⟨h x (by simp), ih fun y hy => h y (by simp [hy])⟩
  rw [sameV_eq, h v.l (fun x hx => sameV_refl x)]
  simp
termination_by SizeOf.sizeOf v
decreasing_by
  have h1 := List.sizeOf_lt_of_mem hx
  have h2 : SizeOf.sizeOf v.l < SizeOf.sizeOf v := by cases v; simp [V.l]; omega
  omega
theorem r_is (v : V) (e : Int) (h : small v) : R_law4_is v e ⟨v, e⟩ true := by
  apply law4_is_tree
  refine ⟨true, ?_, fun _ => ⟨e, r_Num e, by simp⟩, fun h => by simp at h⟩
  have := r_SameVal v v h
  rwa [sameV_refl] at this
/-- One digit. -/
theorem r_Digits1 (n : Int) (h : 0 ≤ n ∧ n < 10) : R_ref1_Digits n [UInt8.ofNat (48 + n).toNat] := by
  apply ref1_Digits_tree
  refine ⟨⟨h.1, by omega⟩, fun h2 => by omega, fun _ => ?_⟩
  apply At_ref1_Digits_1_step
  refine ⟨fun h2 => by omega, fun _ => ⟨⟨by omega, by omega⟩, ⟨by omega, by omega⟩, ?_, fun h2 => by omega, fun _ => rfl⟩⟩
  simp [maxInt]
/-- A value by numbers: where it stops being told: 'made' as a relation would do; it is told by its length. -/
def makeV (s : List UInt8) : Nat → List UInt8 → V
  | 0, _ => numV 0
  | f + 1, [] => numV 0
  | f + 1, b :: ns =>
    let n := b.toNat
    if n % 5 = 0 then (if s.length ≤ 60 then .mk 2 0 (s ++ [UInt8.ofNat (48 + n / 5 % 3)]) [] else numV (n / 5 - 20))
    else if n % 5 = 1 then .mk 3 (n / 5 % 2 : Nat) [] []
    else if n % 5 = 2 then .mk 4 0 [] ((List.range (min (ns.length) (n / 5 % 6))).map fun i => makeV s f (((b :: ns).drop (i + 1)).take (min (ns.length + 1) (i + 1 + n / 30 % 3 + 1) - (i + 1))))
    else numV (n / 5 - 20)
end Go.Proofs.Ytebflncfgjnkkaa.M

/- ValMade: values made by numbers. -/
namespace Go.Proofs.Ytebflncfgjnkkaa.M
set_option linter.unusedSimpArgs false
set_option linter.unusedVariables false
open Go Classical
theorem tdivN (a : Nat) (b : Nat) : ((a : Nat) : Int).tdiv (b : Int) = ((a / b : Nat) : Int) := by
  rw [Int.tdiv_eq_ediv_of_nonneg (by omega)]; simp
theorem tmodN (a : Nat) (b : Nat) : ((a : Nat) : Int).tmod (b : Int) = ((a % b : Nat) : Int) := by
  rw [Int.tmod_eq_emod_of_nonneg (by omega)]; simp
/-- A value by numbers. -/
def mkV (s : List UInt8) : Nat → List UInt8 → V
  | 0, _ => numV 0
  | f + 1, [] => numV 0
  | f + 1, b :: ns =>
    if b.toNat % 5 = 0 then (if s.length ≤ 60 then .mk 2 0 (s ++ [UInt8.ofNat (48 + ((b.toNat / 5 % 3 : Nat) : Int)).toNat]) [] else numV (((b.toNat / 5 : Nat) : Int) - 20))
    else if b.toNat % 5 = 1 then .mk 3 ((b.toNat / 5 % 2 : Nat) : Int) [] []
    else if b.toNat % 5 = 2 then .mk 4 0 [] ((List.range' 0 (min ns.length (b.toNat / 5 % 6))).map fun i => mkV s f (((b :: ns).drop (i + 1)).take (min (ns.length + 1) (i + 1 + b.toNat / 30 % 3 + 1) - (i + 1))))
    else numV (((b.toNat / 5 : Nat) : Int) - 20)
theorem r_Make_loop (s : List UInt8) (f : Nat) (b : UInt8) (ns : List UInt8) (hn : ns.length ≤ 100) (ih : ∀ ms : List UInt8, ms.length ≤ f → ms.length ≤ 100 → R_law4_Make ms s (mkV s f ms)) (hf : ns.length ≤ f) (g : Nat) :
    ∀ (k i : Nat), i + k = min ns.length (b.toNat / 5 % 6) → ∀ l : List V, l.length = i → At_law4_Make_1 (b :: ns) s b ((i + 1 : Nat) : Int) l g (.mk 4 0 [] (l ++ (List.range' i k).map fun i => mkV s f (((b :: ns).drop (i + 1)).take (min (ns.length + 1) (i + 1 + b.toNat / 30 % 3 + 1) - (i + 1))))) := by
  have hb : b.toNat < 256 := b.toNat_lt
  have d5 := tdivN b.toNat 5
  have d30 := tdivN b.toNat 30
  have m6 := tmodN (b.toNat / 5) 6
  have m3 := tmodN (b.toNat / 30) 3
  simp only [Int.cast_ofNat_Int] at d5 d30 m6 m3
  intro k
  induction k with
  | zero =>
    intro i hi l hl
    apply At_law4_Make_1_step
    simp only [d5, d30, m6, m3, List.length_cons]
    refine ⟨fun h => ⟨⟨by omega, by omega⟩, fun h2 => by omega, fun _ => by simp⟩, fun _ => by simp⟩
  | succ k ihk =>
    intro i hi l hl
    apply At_law4_Make_1_step
    simp only [d5, d30, m6, m3, List.length_cons]
    refine ⟨fun h => ⟨⟨by omega, by omega⟩, fun h2 => ?_, fun h2 => by omega⟩, fun h => by omega⟩
    have e : (if (((i + 1 : Nat) : Int) + ((b.toNat / 30 % 3 : Nat) : Int)) + 1 < ((ns.length + 1 : Nat) : Int) then ((((i + 1 : Nat) : Int) + ((b.toNat / 30 % 3 : Nat) : Int)) + 1) else ((ns.length + 1 : Nat) : Int)) = ((min (ns.length + 1) (i + 1 + b.toNat / 30 % 3 + 1) : Nat) : Int) := by split <;> omega
    simp only [e, Int.toNat_natCast]
    refine ⟨⟨by omega, by omega⟩, ⟨by omega, by omega⟩, ⟨by omega, by omega⟩, by omega, by omega, by omega, by omega, _, ih _ ?_ ?_, by simp only [bigRow]; omega, ⟨by omega, by omega⟩, ?_⟩
    · simp only [List.length_take, List.length_drop, List.length_cons]; omega
    · simp only [List.length_take, List.length_drop, List.length_cons]; omega
    · have := ihk (i + 1) (by omega) (l ++ [mkV s f (((b :: ns).drop (i + 1)).take (min (ns.length + 1) (i + 1 + b.toNat / 30 % 3 + 1) - (i + 1)))]) (by simp [hl])
      simp only [List.range'_succ, List.map_cons]
      rw [List.append_assoc] at this
      exact this
theorem r_Make (s : List UInt8) (hs : s.length ≤ 1000) : ∀ (f : Nat) (ns : List UInt8), ns.length ≤ f → ns.length ≤ 100 → R_law4_Make ns s (mkV s f ns) := by
  intro f
  induction f with
  | zero =>
    intro ns h h2
    obtain rfl : ns = [] := List.eq_nil_of_length_eq_zero (by omega)
    apply law4_Make_tree
    exact ⟨fun _ => rfl, fun h => by simp at h⟩
  | succ f ih =>
    intro ns h h2
    apply law4_Make_tree
    cases ns with
    | nil => exact ⟨fun _ => rfl, fun h => by simp at h⟩
    | cons b ns =>
      have hb : b.toNat < 256 := b.toNat_lt
      have d5 := tdivN b.toNat 5
      have m5 := tmodN b.toNat 5
      have m2 := tmodN (b.toNat / 5) 2
      have m3 := tmodN (b.toNat / 5) 3
      simp only [Int.cast_ofNat_Int] at d5 m5 m2 m3
      simp only [mkV]
      simp only [List.length_cons] at h h2 ⊢
      refine ⟨fun h => by omega, fun _ => ⟨b, by simp, ⟨by omega, by omega⟩, ?_⟩⟩
      simp only [d5, m5, m2, m3]
      refine ⟨fun h0 => ⟨fun hl => ⟨⟨by omega, by omega⟩, _, r_Digits1 _ ⟨by omega, by omega⟩, by simp [maxInt]; omega, ?_⟩, fun hl => ⟨⟨by omega, by omega⟩, ⟨by omega, by omega⟩, ?_⟩⟩, fun h0 => ⟨fun h1 => ⟨⟨by omega, by omega⟩, ?_⟩, fun h1 => ⟨fun h2 => ?_, fun h2 => ⟨⟨by omega, by omega⟩, ⟨by omega, by omega⟩, ?_⟩⟩⟩⟩
      · rw [if_pos (by omega), if_pos (by omega)]
      · rw [if_pos (by omega), if_neg (by omega)]; rfl
      · rw [if_neg (by omega), if_pos (by omega)]
      · rw [if_neg (by omega), if_neg (by omega), if_pos (by omega)]
        have := r_Make_loop s f b ns (by omega) ih (by omega) 1 (min ns.length (b.toNat / 5 % 6)) 0 (by omega) [] rfl
        simpa using this
      · rw [if_neg (by omega), if_neg (by omega), if_neg (by omega)]; rfl
end Go.Proofs.Ytebflncfgjnkkaa.M

/- ValMade. -/
namespace Go.Proofs.Ytebflncfgjnkkaa.M
set_option linter.unusedSimpArgs false
set_option linter.unusedVariables false
open Go Classical
/-- A value made by numbers: all that is asked. -/
def good (d : Nat) (v : V) : Prop := small v ∧ okV v ∧ okT v ∧ plainV v = true ∧ deep v ≤ d
theorem good_num {d : Nat} {x : Int} (h : I64 x) : good d (numV x) := by
  refine ⟨by simp [numV, small, smallA], h, fun h => by simp [numV, V.k] at h, by simp [numV, plainV], by simp [numV, deep]⟩
theorem goodL {d : Nat} : ∀ {l : List V}, (∀ x ∈ l, good d x) → smallA l ∧ plainV.plainA l = true ∧ deepL l ≤ d
  | [], _ => ⟨trivial, rfl, by simp [deepL]⟩
  | x :: l, h => by
    obtain ⟨h1, h2, h3, h4, h5⟩ := h x (by simp)
    obtain ⟨g1, g2, g3⟩ := goodL (d := d) (l := l) fun y hy => h y (by simp [hy])
    refine ⟨⟨h1, g1⟩, by simp [plainV.plainA, h4, g2], by simp only [deepL]; omega⟩
theorem mkV_good (s : List UInt8) (hs : s.length ≤ 300) : ∀ (f : Nat) (ns : List UInt8), good f (mkV s f ns)
  | 0, _ => by simp only [mkV]; exact good_num ⟨by omega, by omega⟩
  | f + 1, [] => by simp only [mkV]; exact good_num ⟨by omega, by omega⟩
  | f + 1, b :: ns => by
    have hb : b.toNat < 256 := b.toNat_lt
    simp only [mkV]
    split
    · split
      · refine ⟨by simp [small, smallA], ⟨by simp [V.n], by simp [V.n]⟩, fun h => by simp [V.k] at h, by simp [plainV]; omega, by simp [deep]⟩
      · exact good_num ⟨by omega, by omega⟩
    · split
      · refine ⟨by simp [small, smallA], ⟨by simp only [V.n]; omega, by simp only [V.n]; omega⟩, fun h => by simp only [V.n]; omega, ?_, by simp [deep]⟩
        simp only [plainV]
        simp
        omega
      · split
        · generalize hg : (List.range' 0 (min ns.length (b.toNat / 5 % 6))).map (fun i => mkV s f (((b :: ns).drop (i + 1)).take (min (ns.length + 1) (i + 1 + b.toNat / 30 % 3 + 1) - (i + 1)))) = l
          have hl : l.length ≤ 5 := by rw [← hg]; simp only [List.length_map, List.length_range']; omega
          obtain ⟨g1, g2, g3⟩ := goodL (d := f) (l := l) fun x hx => by
            rw [← hg] at hx
            obtain ⟨i, _, rfl⟩ := List.mem_map.1 hx
            exact mkV_good s hs f _
          refine ⟨by simp only [small]; exact ⟨by omega, g1⟩, ⟨by simp [V.n], by simp [V.n]⟩, fun h => by simp [V.k] at h, by simp [plainV, g2]; omega, by simp only [deep, if_true]; omega⟩
        · exact good_num ⟨by omega, by omega⟩
theorem plain_truth (p : Prop) [Decidable p] : plainV (truthV p) = true := by
  unfold truthV
  split <;> simp [plainV]
theorem plain_num (x : Int) : plainV (numV x) = true := by simp [numV, plainV]
theorem twoS_plain (k : Int) (a b : V) : (twoS k a b).2 = 0 → plainV (twoS k a b).1 = true := by
  unfold twoS
  repeat' split
  all_goals first
    | (intro _; exact plain_truth _)
    | (intro _; exact plain_num _)
    | (intro h; simp at h; done)
    | (intro h; exact absurd h (by assumption))
theorem twoS_small (k : Int) (a b : V) : small (twoS k a b).1 ∧ deep (twoS k a b).1 = 0 := by
  unfold twoS
  repeat' split
  all_goals simp [truthV, numV, zeroV, small, smallA, deep]
theorem oneS_small (k : Int) (v : V) : small (oneS k v).1 := by
  unfold oneS
  repeat' split
  all_goals simp [truthV, numV, zeroV, small, smallA]
theorem indexS_small (a b : V) (h : small a) : small (indexS a b).1 := by
  have hl := small_l h
  unfold indexS
  repeat' split
  all_goals try (simp [zeroV, small, smallA]; done)
  rename_i h1 h2 h3 h4
  have hlt : b.n.toNat < a.l.length := by omega
  rw [List.getElem?_eq_getElem hlt]
  exact smallA_mem hl.2 _ (List.getElem_mem hlt)
theorem listS_small (l : List V) (h : smallL l) : small (listS l).1 := by
  unfold listS
  split
  · simp [zeroV, small, smallA]
  · simp only [small]; exact h
theorem r_ValMade (op : UInt8) (as_ bs s : List UInt8) : R_law4_ValMade op as_ bs s true := by
  apply law4_ValMade_tree
  have hop : op.toNat < 256 := op.toNat_lt
  refine ⟨fun _ => ⟨_, r_awake, rfl⟩, fun ha => ⟨fun _ => ⟨_, r_awake, rfl⟩, fun hb => ⟨fun _ => ⟨_, r_awake, rfl⟩, fun hs => ?_⟩⟩⟩
  have m16 := tmodN op.toNat 16
  simp only [Int.cast_ofNat_Int] at m16
  simp only [m16]
  obtain ⟨k, hk⟩ : ∃ k : Int, k = 8 + ((op.toNat % 16 : Nat) : Int) := ⟨_, rfl⟩
  rw [← hk]
  have gA := mkV_good s (by omega) as_.length as_
  have gB := mkV_good s (by omega) bs.length bs
  have rA := r_Make s (by omega) as_.length as_ (Nat.le_refl _) (by omega)
  have rB := r_Make s (by omega) bs.length bs (Nat.le_refl _) (by omega)
  generalize mkV s as_.length as_ = a at *
  generalize mkV s bs.length bs = b at *
  obtain ⟨a1, a2, a3, a4, a5⟩ := gA
  obtain ⟨b1, b2, b3, b4, b5⟩ := gB
  have hL : smallL [a, b, a] := ⟨by simp, a1, b1, a1, trivial⟩
  have hD : deepL [a, b, a] < 4611686018427387904 := by simp only [deepL]; omega
  have hMa := r_May a a1 (by omega)
  have hMt := r_May (twoS k a b).1 (twoS_small k a b).1 (by rw [(twoS_small k a b).2]; omega)
  rw [a4] at hMa
  have ea : decide (deep a ≤ 64) = true := by simp; omega
  rw [ea] at hMa
  refine ⟨a, rA, b, rB, ⟨by omega, by omega⟩, ⟨by omega, by omega⟩, _, _, r_One k a, _, _, r_Two k a b a1, _, _, r_Index a b, _, _, r_List _ hD hL, _, r_rOne k a, true, r_is _ _ (oneS_small k a), fun _ => ⟨_, r_rTwo k a b a1 a2 b2 a3 b3, true, r_is _ _ (twoS_small k a b).1, fun _ => ⟨_, r_rIndex a b, true, r_is _ _ (indexS_small a b a1), fun _ => ⟨_, r_rList _ hL (by simp), true, r_is _ _ (listS_small _ hL), fun _ => ⟨_, r_Num _, fun h0 => ⟨_, hMt, ?_, ?_⟩, fun _ => ⟨_, hMa, fun _ => ⟨_, r_awake, rfl⟩, fun h => by simp at h⟩⟩, fun h => by simp at h⟩, fun h => by simp at h⟩, fun h => by simp at h⟩, fun h => by simp at h⟩
  · exact fun _ => ⟨_, hMa, fun _ => ⟨_, r_awake, rfl⟩, fun h => by simp at h⟩
  · intro h
    rw [twoS_plain k a b h0, (twoS_small k a b).2] at h
    simp at h
end Go.Proofs.Ytebflncfgjnkkaa.M

/- What is told of Go's library by contracts: it holds. -/
namespace Go.Proofs.Ytebflncfgjnkkaa.M
set_option linter.unusedSimpArgs false
set_option linter.unusedVariables false
open Go
theorem comp27' : comp Try.prog Try.f27 = some ⟨1, 8, cloneC 4 56 [.int .i64 0, .int .i64 0, .str [], .nils 4], [.t 2]⟩ := comp27
theorem extsOk : ∀ (f : Nat) (y : List PV → Option PV), exts f = some y → ExtOk Try.prog f y := fun f y h => by
  unfold exts at h
  split at h
  · rename_i e
    subst e
    obtain rfl := Option.some.inj h
    exact clone_ext (by kernel_rfl) Try.func27 comp27' (by decide)
  · cases h
end Go.Proofs.Ytebflncfgjnkkaa.M

/- ValMade, of all that its parameters' types allow. -/
namespace Go.Proofs.Ytebflncfgjnkkaa.M
set_option linter.unusedSimpArgs false
set_option linter.unusedVariables false
open Go
theorem byte_of {x : Int} (h : (Lit.int .u8 x).wf = true) : ∃ b : UInt8, x = ((b.toNat : Nat) : Int) := by
  have r := range h
  simp [IntKind.min, IntKind.max, IntKind.signed, IntKind.bits] at r
  refine ⟨UInt8.ofNat x.toNat, ?_⟩
  simp
  omega
theorem bytes_of : ∀ xs : List Int, (∀ x ∈ xs, (Lit.int .u8 x).wf = true) → ∃ bs : List UInt8, xs.map (fun x => [PV.int .u8 x]) = bs.map eB
  | [], _ => ⟨[], rfl⟩
  | x :: xs, h => by
    obtain ⟨b, rfl⟩ := byte_of (h x (by simp))
    obtain ⟨bs, hb⟩ := bytes_of xs fun y hy => h y (by simp [hy])
    exact ⟨b :: bs, by simp [hb, eB]⟩
theorem cells5 : Try.prog.cellsOf 5 = 1 := by kernel_rfl
theorem specValMade : ∀ pvs, HasAll Try.prog [5, 40, 40, 9] pvs → call (SPof Try.prog exts) 6 pvs [] = .ok (.v (.bool true)) [] := by
  intro pvs h
  obtain ⟨v0, r0, rfl, h0, h⟩ := h.cons_inv
  obtain ⟨v1, r1, rfl, h1, h⟩ := h.cons_inv
  obtain ⟨v2, r2, rfl, h2, h⟩ := h.cons_inv
  obtain ⟨v3, r3, rfl, h3, h⟩ := h.cons_inv
  obtain rfl := h.nil_inv
  obtain ⟨n, rfl, wn⟩ := h0.int Try.underlying5
  obtain ⟨op, rfl⟩ := byte_of wn
  obtain ⟨rows1, m1, rfl, hl1, hr1⟩ := h1.slice Try.underlying40
  obtain ⟨xs1, rfl, hx1⟩ := ints_of Try.underlying5 rows1 hr1
  obtain ⟨bs1, e1⟩ := bytes_of xs1 hx1
  obtain ⟨rows2, m2, rfl, hl2, hr2⟩ := h2.slice Try.underlying40
  obtain ⟨xs2, rfl, hx2⟩ := ints_of Try.underlying5 rows2 hr2
  obtain ⟨bs2, e2⟩ := bytes_of xs2 hx2
  obtain ⟨s, rfl, hs⟩ := h3.str Try.underlying9
  rw [e1, e2, cells5]
  exact r_ValMade op bs1 bs2 s []
end Go.Proofs.Ytebflncfgjnkkaa.M
