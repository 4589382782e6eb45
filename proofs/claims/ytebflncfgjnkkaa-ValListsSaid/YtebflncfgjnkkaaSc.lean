/- The machine's code of the functions, printed by a program of this session (sc.py) out of the translation. Not trusted: Lean checks each by its own computation. -/
import Derived.Test.YtebflncfgjnkkaaMa3
import Derived.Test.YtebflncfgjnkkaaProg
import Derived.KernelRfl
namespace Go.Proofs.Ytebflncfgjnkkaa.M
open Go
/-- doorkeeper/doorkeeperlaw4.ValSums -/
def sc4 : SFunc := ⟨3, 219,
  (.seq
  (.reg [
    ⟨(some 6), none, (.v (.mov (.c (.bool false))))⟩])
  (.seq
  (.reg [
    ⟨(some 34), none, (.v (.mov (.t 0)))⟩,
    ⟨(some 35), none, (.v (.conv (.int .i64) (.t 34)))⟩,
    ⟨(some 36), none, (.call (.c (.func 8 [])) [(.t 35)])⟩,
    ⟨(some 37), none, (.v (.mov (.t 1)))⟩,
    ⟨(some 38), none, (.v (.conv (.int .i64) (.t 37)))⟩,
    ⟨(some 39), none, (.call (.c (.func 8 [])) [(.t 38)])⟩,
    ⟨(some 7), none, (.alloc [(.int .i64 0), (.int .i64 0), (.str []), (.nils 4)])⟩,
    ⟨(some 8), none, (.alloc [(.int .i64 0), (.int .i64 0), (.str []), (.nils 4)])⟩,
    ⟨none, none, (.store 4 (.t 7) (.t 36))⟩,
    ⟨none, none, (.store 4 (.t 8) (.t 39))⟩])
  (.seq
  (.reg [
    ⟨(some 41), none, (.v (.load (some 4) (.t 7)))⟩,
    ⟨(some 42), none, (.v (.load (some 4) (.t 8)))⟩,
    ⟨(some 43), none, (.call (.c (.func 9 [])) [(.c (.int .i64 19)), (.t 41), (.t 42)])⟩,
    ⟨(some 40), none, (.v (.mov (.t 43)))⟩,
    ⟨(some 44), none, (.v (.extract 0 (.t 40)))⟩,
    ⟨(some 45), none, (.v (.extract 1 (.t 40)))⟩,
    ⟨(some 9), none, (.alloc [(.int .i64 0), (.int .i64 0), (.str []), (.nils 4)])⟩,
    ⟨none, none, (.store 4 (.t 9) (.t 44))⟩,
    ⟨(some 10), none, (.v (.mov (.t 45)))⟩])
  (.seq
  (.reg [
    ⟨(some 47), none, (.v (.load (some 4) (.t 7)))⟩,
    ⟨(some 48), none, (.v (.load (some 4) (.t 8)))⟩,
    ⟨(some 49), none, (.call (.c (.func 9 [])) [(.c (.int .i64 20)), (.t 47), (.t 48)])⟩,
    ⟨(some 46), none, (.v (.mov (.t 49)))⟩,
    ⟨(some 50), none, (.v (.extract 0 (.t 46)))⟩,
    ⟨(some 51), none, (.v (.extract 1 (.t 46)))⟩,
    ⟨(some 11), none, (.alloc [(.int .i64 0), (.int .i64 0), (.str []), (.nils 4)])⟩,
    ⟨none, none, (.store 4 (.t 11) (.t 50))⟩,
    ⟨(some 12), none, (.v (.mov (.t 51)))⟩])
  (.seq
  (.reg [
    ⟨(some 53), none, (.v (.load (some 4) (.t 7)))⟩,
    ⟨(some 54), none, (.v (.load (some 4) (.t 8)))⟩,
    ⟨(some 55), none, (.call (.c (.func 9 [])) [(.c (.int .i64 21)), (.t 53), (.t 54)])⟩,
    ⟨(some 52), none, (.v (.mov (.t 55)))⟩,
    ⟨(some 56), none, (.v (.extract 0 (.t 52)))⟩,
    ⟨(some 57), none, (.v (.extract 1 (.t 52)))⟩,
    ⟨(some 13), none, (.alloc [(.int .i64 0), (.int .i64 0), (.str []), (.nils 4)])⟩,
    ⟨none, none, (.store 4 (.t 13) (.t 56))⟩,
    ⟨(some 14), none, (.v (.mov (.t 57)))⟩])
  (.seq
  (.reg [
    ⟨(some 59), none, (.v (.load (some 4) (.t 7)))⟩,
    ⟨(some 60), none, (.v (.load (some 4) (.t 8)))⟩,
    ⟨(some 61), none, (.call (.c (.func 9 [])) [(.c (.int .i64 22)), (.t 59), (.t 60)])⟩,
    ⟨(some 58), none, (.v (.mov (.t 61)))⟩,
    ⟨(some 62), none, (.v (.extract 0 (.t 58)))⟩,
    ⟨(some 63), none, (.v (.extract 1 (.t 58)))⟩,
    ⟨(some 15), none, (.alloc [(.int .i64 0), (.int .i64 0), (.str []), (.nils 4)])⟩,
    ⟨none, none, (.store 4 (.t 15) (.t 62))⟩,
    ⟨(some 16), none, (.v (.mov (.t 63)))⟩])
  (.seq
  (.reg [
    ⟨(some 65), none, (.v (.load (some 4) (.t 7)))⟩,
    ⟨(some 66), none, (.v (.load (some 4) (.t 8)))⟩,
    ⟨(some 67), none, (.call (.c (.func 9 [])) [(.c (.int .i64 23)), (.t 65), (.t 66)])⟩,
    ⟨(some 64), none, (.v (.mov (.t 67)))⟩,
    ⟨(some 68), none, (.v (.extract 0 (.t 64)))⟩,
    ⟨(some 69), none, (.v (.extract 1 (.t 64)))⟩,
    ⟨(some 17), none, (.alloc [(.int .i64 0), (.int .i64 0), (.str []), (.nils 4)])⟩,
    ⟨none, none, (.store 4 (.t 17) (.t 68))⟩,
    ⟨(some 18), none, (.v (.mov (.t 69)))⟩])
  (.seq
  (.seq
  (.reg [
    ⟨(some 70), none, (.v (.faddr 1 (.t 9)))⟩,
    ⟨(some 71), none, (.v (.load none (.t 70)))⟩,
    ⟨(some 72), none, (.v (.mov (.t 0)))⟩,
    ⟨(some 73), none, (.v (.conv (.int .i64) (.t 72)))⟩,
    ⟨(some 74), none, (.v (.mov (.t 1)))⟩,
    ⟨(some 75), none, (.v (.conv (.int .i64) (.t 74)))⟩,
    ⟨(some 76), none, (.v (.bin .add (.t 73) (.t 75)))⟩,
    ⟨(some 77), none, (.v (.bin .neq (.t 71) (.t 76)))⟩,
    ⟨(some 78), none, (.v (.mov (.t 77)))⟩,
    ⟨(some 79), (some (78, false)), (.v (.faddr 1 (.t 11)))⟩,
    ⟨(some 80), (some (78, false)), (.v (.load none (.t 79)))⟩,
    ⟨(some 81), (some (78, false)), (.v (.mov (.t 0)))⟩,
    ⟨(some 82), (some (78, false)), (.v (.conv (.int .i64) (.t 81)))⟩,
    ⟨(some 83), (some (78, false)), (.v (.mov (.t 1)))⟩,
    ⟨(some 84), (some (78, false)), (.v (.conv (.int .i64) (.t 83)))⟩,
    ⟨(some 85), (some (78, false)), (.v (.bin .sub (.t 82) (.t 84)))⟩,
    ⟨(some 86), (some (78, false)), (.v (.bin .neq (.t 80) (.t 85)))⟩,
    ⟨(some 87), none, (.v (.pick (.t 78) (.c (.bool true)) (.t 86)))⟩,
    ⟨(some 88), none, (.v (.mov (.t 87)))⟩,
    ⟨(some 89), (some (88, false)), (.v (.faddr 1 (.t 13)))⟩,
    ⟨(some 90), (some (88, false)), (.v (.load none (.t 89)))⟩,
    ⟨(some 91), (some (88, false)), (.v (.mov (.t 0)))⟩,
    ⟨(some 92), (some (88, false)), (.v (.conv (.int .i64) (.t 91)))⟩,
    ⟨(some 93), (some (88, false)), (.v (.mov (.t 1)))⟩,
    ⟨(some 94), (some (88, false)), (.v (.conv (.int .i64) (.t 93)))⟩,
    ⟨(some 95), (some (88, false)), (.v (.bin .mul (.t 92) (.t 94)))⟩,
    ⟨(some 96), (some (88, false)), (.v (.bin .neq (.t 90) (.t 95)))⟩,
    ⟨(some 97), none, (.v (.pick (.t 88) (.c (.bool true)) (.t 96)))⟩])
  (.cond (.t 97)
  (.seq
  (.reg [
    ⟨(some 6), none, (.v (.mov (.c (.bool false))))⟩])
  .ret)
  .skip))
  (.seq
  (.seq
  (.dreg [
    ⟨(some 98), none, (.v (.mov (.t 1)))⟩,
    ⟨(some 99), none, (.v (.bin .eql (.t 98) (.c (.int .i32 0))))⟩,
    ⟨(some 100), none, (.v (.mov (.t 99)))⟩,
    ⟨(some 101), (some (100, true)), (.v (.mov (.t 16)))⟩,
    ⟨(some 102), (some (100, true)), (.call (.c (.func 10 [])) [(.t 101)])⟩,
    ⟨(some 103), (some (100, true)), (.v (.bin .neq (.t 102) (.c (.int .i64 9))))⟩,
    ⟨(some 104), (some (100, true)), (.v (.mov (.t 103)))⟩,
    ⟨(some 105), (some (104, false)), (.v (.mov (.t 18)))⟩,
    ⟨(some 106), (some (104, false)), (.call (.c (.func 10 [])) [(.t 105)])⟩,
    ⟨(some 107), (some (104, false)), (.v (.bin .neq (.t 106) (.c (.int .i64 9))))⟩,
    ⟨(some 108), (some (100, true)), (.v (.pick (.t 104) (.c (.bool true)) (.t 107)))⟩,
    ⟨(some 109), none, (.v (.pick (.t 100) (.t 108) (.c (.bool false))))⟩,
    ⟨(some 110), none, (.v (.mov (.t 109)))⟩,
    ⟨(some 111), (some (110, false)), (.v (.mov (.t 1)))⟩,
    ⟨(some 112), (some (110, false)), (.v (.bin .neq (.t 111) (.c (.int .i32 0))))⟩,
    ⟨(some 113), (some (110, false)), (.v (.mov (.t 112)))⟩,
    ⟨(some 114), (some (113, true)), (.v (.faddr 1 (.t 15)))⟩,
    ⟨(some 115), (some (113, true)), (.v (.load none (.t 114)))⟩,
    ⟨(some 116), (some (113, true)), (.v (.mov (.t 0)))⟩,
    ⟨(some 117), (some (113, true)), (.v (.conv (.int .i64) (.t 116)))⟩,
    ⟨(some 118), (some (113, true)), (.v (.mov (.t 1)))⟩,
    ⟨(some 119), (some (113, true)), (.v (.conv (.int .i64) (.t 118)))⟩,
    ⟨(some 120), (some (113, true)), (.v (.bin .quo (.t 117) (.t 119)))⟩,
    ⟨(some 121), (some (113, true)), (.v (.bin .neq (.t 115) (.t 120)))⟩,
    ⟨(some 122), (some (113, true)), (.v (.mov (.t 121)))⟩,
    ⟨(some 123), (some (122, false)), (.v (.faddr 1 (.t 17)))⟩,
    ⟨(some 124), (some (122, false)), (.v (.load none (.t 123)))⟩,
    ⟨(some 125), (some (122, false)), (.v (.mov (.t 0)))⟩,
    ⟨(some 126), (some (122, false)), (.v (.conv (.int .i64) (.t 125)))⟩,
    ⟨(some 127), (some (122, false)), (.v (.mov (.t 1)))⟩,
    ⟨(some 128), (some (122, false)), (.v (.conv (.int .i64) (.t 127)))⟩,
    ⟨(some 129), (some (122, false)), (.v (.bin .rem (.t 126) (.t 128)))⟩,
    ⟨(some 130), (some (122, false)), (.v (.bin .neq (.t 124) (.t 129)))⟩,
    ⟨(some 131), (some (113, true)), (.v (.pick (.t 122) (.c (.bool true)) (.t 130)))⟩,
    ⟨(some 132), (some (113, true)), (.v (.mov (.t 131)))⟩,
    ⟨(some 133), (some (132, false)), (.v (.mov (.t 16)))⟩,
    ⟨(some 134), (some (132, false)), (.call (.c (.func 10 [])) [(.t 133)])⟩,
    ⟨(some 135), (some (132, false)), (.v (.bin .neq (.t 134) (.c (.int .i64 0))))⟩,
    ⟨(some 136), (some (113, true)), (.v (.pick (.t 132) (.c (.bool true)) (.t 135)))⟩,
    ⟨(some 137), (some (113, true)), (.v (.mov (.t 136)))⟩,
    ⟨(some 138), (some (137, false)), (.v (.mov (.t 18)))⟩,
    ⟨(some 139), (some (137, false)), (.call (.c (.func 10 [])) [(.t 138)])⟩,
    ⟨(some 140), (some (137, false)), (.v (.bin .neq (.t 139) (.c (.int .i64 0))))⟩,
    ⟨(some 141), (some (113, true)), (.v (.pick (.t 137) (.c (.bool true)) (.t 140)))⟩,
    ⟨(some 142), (some (110, false)), (.v (.pick (.t 113) (.t 141) (.c (.bool false))))⟩,
    ⟨(some 143), none, (.v (.pick (.t 110) (.c (.bool true)) (.t 142)))⟩] [true, true, true, true, true, true, true, true, true, true, true, true, true, true, true, true, true, true, false, false, false, false, false, true, true, true, true, false, false, false, false, false, true, true, true, true, true, true, true, true, true, true, true, true, true, true])
  (.cond (.t 143)
  (.seq
  (.reg [
    ⟨(some 6), none, (.v (.mov (.c (.bool false))))⟩])
  .ret)
  .skip))
  (.seq
  (.reg [
    ⟨(some 144), none, (.v (.mov (.t 2)))⟩,
    ⟨(some 145), none, (.v (.conv (.int .i64) (.t 144)))⟩,
    ⟨(some 146), none, (.v (.bin .add (.c (.int .i64 1)) (.t 145)))⟩,
    ⟨(some 147), none, (.call (.c (.func 8 [])) [(.t 146)])⟩,
    ⟨(some 148), none, (.call (.c (.func 8 [])) [(.c (.int .i64 (-9223372036854775808)))])⟩,
    ⟨(some 149), none, (.call (.c (.func 8 [])) [(.c (.int .i64 9223372036854775807))])⟩,
    ⟨(some 19), none, (.alloc [(.int .i64 0), (.int .i64 0), (.str []), (.nils 4)])⟩,
    ⟨(some 20), none, (.alloc [(.int .i64 0), (.int .i64 0), (.str []), (.nils 4)])⟩,
    ⟨(some 21), none, (.alloc [(.int .i64 0), (.int .i64 0), (.str []), (.nils 4)])⟩,
    ⟨none, none, (.store 4 (.t 19) (.t 147))⟩,
    ⟨none, none, (.store 4 (.t 20) (.t 148))⟩,
    ⟨none, none, (.store 4 (.t 21) (.t 149))⟩])
  (.seq
  (.reg [
    ⟨(some 151), none, (.v (.load (some 4) (.t 21)))⟩,
    ⟨(some 152), none, (.v (.load (some 4) (.t 19)))⟩,
    ⟨(some 153), none, (.call (.c (.func 9 [])) [(.c (.int .i64 19)), (.t 151), (.t 152)])⟩,
    ⟨(some 150), none, (.v (.mov (.t 153)))⟩,
    ⟨(some 154), none, (.v (.extract 0 (.t 150)))⟩,
    ⟨(some 155), none, (.v (.extract 1 (.t 150)))⟩,
    ⟨(some 22), none, (.alloc [(.int .i64 0), (.int .i64 0), (.str []), (.nils 4)])⟩,
    ⟨none, none, (.store 4 (.t 22) (.t 154))⟩,
    ⟨(some 23), none, (.v (.mov (.t 155)))⟩])
  (.seq
  (.reg [
    ⟨(some 157), none, (.v (.load (some 4) (.t 20)))⟩,
    ⟨(some 158), none, (.v (.load (some 4) (.t 19)))⟩,
    ⟨(some 159), none, (.call (.c (.func 9 [])) [(.c (.int .i64 20)), (.t 157), (.t 158)])⟩,
    ⟨(some 156), none, (.v (.mov (.t 159)))⟩,
    ⟨(some 160), none, (.v (.extract 0 (.t 156)))⟩,
    ⟨(some 161), none, (.v (.extract 1 (.t 156)))⟩,
    ⟨(some 24), none, (.alloc [(.int .i64 0), (.int .i64 0), (.str []), (.nils 4)])⟩,
    ⟨none, none, (.store 4 (.t 24) (.t 160))⟩,
    ⟨(some 25), none, (.v (.mov (.t 161)))⟩])
  (.seq
  (.dreg [
    ⟨(some 163), none, (.v (.load (some 4) (.t 21)))⟩,
    ⟨(some 164), none, (.v (.mov (.t 2)))⟩,
    ⟨(some 165), none, (.v (.conv (.int .i64) (.t 164)))⟩,
    ⟨(some 166), none, (.v (.bin .add (.c (.int .i64 2)) (.t 165)))⟩,
    ⟨(some 167), none, (.call (.c (.func 8 [])) [(.t 166)])⟩,
    ⟨(some 168), none, (.call (.c (.func 9 [])) [(.c (.int .i64 21)), (.t 163), (.t 167)])⟩,
    ⟨(some 162), none, (.v (.mov (.t 168)))⟩,
    ⟨(some 169), none, (.v (.extract 0 (.t 162)))⟩,
    ⟨(some 170), none, (.v (.extract 1 (.t 162)))⟩,
    ⟨(some 26), none, (.alloc [(.int .i64 0), (.int .i64 0), (.str []), (.nils 4)])⟩,
    ⟨none, none, (.store 4 (.t 26) (.t 169))⟩,
    ⟨(some 27), none, (.v (.mov (.t 170)))⟩] [false, false, false, false, false, false, false, false, false, false, true, true])
  (.seq
  (.reg [
    ⟨(some 172), none, (.v (.load (some 4) (.t 20)))⟩,
    ⟨(some 173), none, (.call (.c (.func 11 [])) [(.c (.int .i64 9)), (.t 172)])⟩,
    ⟨(some 171), none, (.v (.mov (.t 173)))⟩,
    ⟨(some 174), none, (.v (.extract 0 (.t 171)))⟩,
    ⟨(some 175), none, (.v (.extract 1 (.t 171)))⟩,
    ⟨(some 28), none, (.alloc [(.int .i64 0), (.int .i64 0), (.str []), (.nils 4)])⟩,
    ⟨none, none, (.store 4 (.t 28) (.t 174))⟩,
    ⟨(some 29), none, (.v (.mov (.t 175)))⟩])
  (.seq
  (.dreg [
    ⟨(some 177), none, (.v (.load (some 4) (.t 20)))⟩,
    ⟨(some 178), none, (.call (.c (.func 8 [])) [(.c (.int .i64 (-1)))])⟩,
    ⟨(some 179), none, (.call (.c (.func 9 [])) [(.c (.int .i64 22)), (.t 177), (.t 178)])⟩,
    ⟨(some 176), none, (.v (.mov (.t 179)))⟩,
    ⟨(some 180), none, (.v (.extract 0 (.t 176)))⟩,
    ⟨(some 181), none, (.v (.extract 1 (.t 176)))⟩,
    ⟨(some 30), none, (.alloc [(.int .i64 0), (.int .i64 0), (.str []), (.nils 4)])⟩,
    ⟨none, none, (.store 4 (.t 30) (.t 180))⟩,
    ⟨(some 31), none, (.v (.mov (.t 181)))⟩] [false, false, false, false, false, false, false, true, true])
  (.seq
  (.dreg [
    ⟨(some 183), none, (.call (.c (.func 8 [])) [(.c (.int .i64 (-1)))])⟩,
    ⟨(some 184), none, (.v (.load (some 4) (.t 20)))⟩,
    ⟨(some 185), none, (.call (.c (.func 9 [])) [(.c (.int .i64 21)), (.t 183), (.t 184)])⟩,
    ⟨(some 182), none, (.v (.mov (.t 185)))⟩,
    ⟨(some 186), none, (.v (.extract 0 (.t 182)))⟩,
    ⟨(some 187), none, (.v (.extract 1 (.t 182)))⟩,
    ⟨(some 32), none, (.alloc [(.int .i64 0), (.int .i64 0), (.str []), (.nils 4)])⟩,
    ⟨none, none, (.store 4 (.t 32) (.t 186))⟩,
    ⟨(some 33), none, (.v (.mov (.t 187)))⟩] [false, false, false, false, false, false, false, true, true])
  (.seq
  (.reg [
    ⟨(some 188), none, (.v (.mov (.t 23)))⟩,
    ⟨(some 189), none, (.call (.c (.func 10 [])) [(.t 188)])⟩,
    ⟨(some 190), none, (.v (.bin .eql (.t 189) (.c (.int .i64 8))))⟩,
    ⟨(some 191), none, (.v (.mov (.t 190)))⟩,
    ⟨(some 192), (some (191, true)), (.v (.mov (.t 25)))⟩,
    ⟨(some 193), (some (191, true)), (.call (.c (.func 10 [])) [(.t 192)])⟩,
    ⟨(some 194), (some (191, true)), (.v (.bin .eql (.t 193) (.c (.int .i64 8))))⟩,
    ⟨(some 195), none, (.v (.pick (.t 191) (.t 194) (.c (.bool false))))⟩,
    ⟨(some 196), none, (.v (.mov (.t 195)))⟩,
    ⟨(some 197), (some (196, true)), (.v (.mov (.t 27)))⟩,
    ⟨(some 198), (some (196, true)), (.call (.c (.func 10 [])) [(.t 197)])⟩,
    ⟨(some 199), (some (196, true)), (.v (.bin .eql (.t 198) (.c (.int .i64 8))))⟩,
    ⟨(some 200), none, (.v (.pick (.t 196) (.t 199) (.c (.bool false))))⟩,
    ⟨(some 201), none, (.v (.mov (.t 200)))⟩,
    ⟨(some 202), (some (201, true)), (.v (.mov (.t 29)))⟩,
    ⟨(some 203), (some (201, true)), (.call (.c (.func 10 [])) [(.t 202)])⟩,
    ⟨(some 204), (some (201, true)), (.v (.bin .eql (.t 203) (.c (.int .i64 8))))⟩,
    ⟨(some 205), none, (.v (.pick (.t 201) (.t 204) (.c (.bool false))))⟩,
    ⟨(some 206), none, (.v (.mov (.t 205)))⟩,
    ⟨(some 207), (some (206, true)), (.v (.mov (.t 31)))⟩,
    ⟨(some 208), (some (206, true)), (.call (.c (.func 10 [])) [(.t 207)])⟩,
    ⟨(some 209), (some (206, true)), (.v (.bin .eql (.t 208) (.c (.int .i64 8))))⟩,
    ⟨(some 210), none, (.v (.pick (.t 206) (.t 209) (.c (.bool false))))⟩,
    ⟨(some 211), none, (.v (.mov (.t 210)))⟩,
    ⟨(some 212), (some (211, true)), (.v (.mov (.t 33)))⟩,
    ⟨(some 213), (some (211, true)), (.call (.c (.func 10 [])) [(.t 212)])⟩,
    ⟨(some 214), (some (211, true)), (.v (.bin .eql (.t 213) (.c (.int .i64 8))))⟩,
    ⟨(some 215), none, (.v (.pick (.t 211) (.t 214) (.c (.bool false))))⟩,
    ⟨(some 216), none, (.v (.mov (.t 215)))⟩,
    ⟨(some 217), (some (216, true)), (.call (.c (.func 7 [])) [])⟩,
    ⟨(some 218), none, (.v (.pick (.t 216) (.t 217) (.c (.bool false))))⟩,
    ⟨(some 6), none, (.v (.mov (.t 218)))⟩])
  .ret))))))))))))))))),
  [(.t 6)]⟩
theorem comp4 : comp Try.prog Try.f4 = some sc4 := by kernel_rfl
/-- doorkeeper/doorkeeperlaw4.ValLists -/
def sc5 : SFunc := ⟨3, 135,
  (.seq
  (.reg [
    ⟨(some 6), none, (.v (.mov (.c (.bool false))))⟩])
  (.seq
  (.seq
  (.reg [
    ⟨(some 17), none, (.v (.mov (.t 0)))⟩,
    ⟨(some 18), none, (.v (.len false (.t 17)))⟩,
    ⟨(some 19), none, (.v (.bin .gtr (.t 18) (.c (.int .i64 80))))⟩])
  (.cond (.t 19)
  (.seq
  (.reg [
    ⟨(some 20), none, (.call (.c (.func 7 [])) [])⟩,
    ⟨(some 6), none, (.v (.mov (.t 20)))⟩])
  .ret)
  .skip))
  (.seq
  (.reg [
    ⟨(some 7), none, (.nilv 4)⟩])
  (.seq
  (.seq
  (.reg [
    ⟨(some 8), none, (.v (.mov (.c (.int .i64 0))))⟩])
  (.block 0
  (.loop
  (.seq
  (.seq
  (.reg [
    ⟨(some 21), none, (.v (.mov (.t 8)))⟩,
    ⟨(some 22), none, (.v (.mov (.t 0)))⟩,
    ⟨(some 23), none, (.v (.len false (.t 22)))⟩,
    ⟨(some 24), none, (.v (.bin .lss (.t 21) (.t 23)))⟩])
  (.cond (.t 24)
  .skip
  (.exit 0)))
  (.seq
  (.block 1
  (.reg [
    ⟨(some 27), none, (.v (.mov (.t 7)))⟩,
    ⟨(some 28), none, (.v (.mov (.t 0)))⟩,
    ⟨(some 29), none, (.v (.mov (.t 8)))⟩,
    ⟨(some 30), none, (.v (.iaddr 1 (.t 28) (.t 29)))⟩,
    ⟨(some 31), none, (.v (.load none (.t 30)))⟩,
    ⟨(some 32), none, (.v (.conv (.int .i64) (.t 31)))⟩,
    ⟨(some 33), none, (.call (.c (.func 8 [])) [(.t 32)])⟩,
    ⟨(some 34), none, (.bslice 4 1 [(.int .i64 0), (.int .i64 0), (.str []), (.nils 4)] [(0, (.t 33))])⟩,
    ⟨(some 35), none, (.append 4 56 (.t 27) (.t 34))⟩,
    ⟨(some 7), none, (.v (.mov (.t 35)))⟩]))
  (.reg [
    ⟨(some 25), none, (.v (.mov (.t 8)))⟩,
    ⟨(some 26), none, (.v (.bin .add (.t 25) (.c (.int .i64 1))))⟩,
    ⟨(some 8), none, (.v (.mov (.t 26)))⟩]))))))
  (.seq
  (.reg [
    ⟨(some 37), none, (.v (.mov (.t 7)))⟩,
    ⟨(some 38), none, (.call (.c (.func 12 [])) [(.t 37)])⟩,
    ⟨(some 36), none, (.v (.mov (.t 38)))⟩,
    ⟨(some 39), none, (.v (.extract 0 (.t 36)))⟩,
    ⟨(some 40), none, (.v (.extract 1 (.t 36)))⟩,
    ⟨(some 9), none, (.alloc [(.int .i64 0), (.int .i64 0), (.str []), (.nils 4)])⟩,
    ⟨none, none, (.store 4 (.t 9) (.t 39))⟩,
    ⟨(some 10), none, (.v (.mov (.t 40)))⟩])
  (.seq
  (.seq
  (.reg [
    ⟨(some 41), none, (.v (.mov (.t 0)))⟩,
    ⟨(some 42), none, (.v (.len false (.t 41)))⟩,
    ⟨(some 43), none, (.v (.bin .gtr (.t 42) (.c (.int .i64 64))))⟩])
  (.cond (.t 43)
  (.seq
  (.reg [
    ⟨(some 44), none, (.v (.mov (.t 10)))⟩,
    ⟨(some 45), none, (.call (.c (.func 10 [])) [(.t 44)])⟩,
    ⟨(some 46), none, (.v (.bin .eql (.t 45) (.c (.int .i64 4))))⟩,
    ⟨(some 47), none, (.v (.mov (.t 46)))⟩,
    ⟨(some 48), (some (47, true)), (.call (.c (.func 7 [])) [])⟩,
    ⟨(some 49), none, (.v (.pick (.t 47) (.t 48) (.c (.bool false))))⟩,
    ⟨(some 6), none, (.v (.mov (.t 49)))⟩])
  .ret)
  .skip))
  (.seq
  (.dreg [
    ⟨(some 51), none, (.v (.load (some 4) (.t 9)))⟩,
    ⟨(some 52), none, (.v (.mov (.t 1)))⟩,
    ⟨(some 53), none, (.call (.c (.func 8 [])) [(.t 52)])⟩,
    ⟨(some 54), none, (.call (.c (.func 13 [])) [(.t 51), (.t 53)])⟩,
    ⟨(some 50), none, (.v (.mov (.t 54)))⟩,
    ⟨(some 55), none, (.v (.extract 0 (.t 50)))⟩,
    ⟨(some 56), none, (.v (.extract 1 (.t 50)))⟩,
    ⟨(some 11), none, (.alloc [(.int .i64 0), (.int .i64 0), (.str []), (.nils 4)])⟩,
    ⟨none, none, (.store 4 (.t 11) (.t 55))⟩,
    ⟨(some 12), none, (.v (.mov (.t 56)))⟩] [false, false, false, false, false, false, false, false, true, true])
  (.seq
  (.seq
  (.reg [
    ⟨(some 57), none, (.v (.mov (.t 10)))⟩,
    ⟨(some 58), none, (.call (.c (.func 10 [])) [(.t 57)])⟩,
    ⟨(some 59), none, (.v (.bin .neq (.t 58) (.c (.int .i64 0))))⟩,
    ⟨(some 60), none, (.v (.mov (.t 59)))⟩,
    ⟨(some 61), (some (60, false)), (.v (.faddr 3 (.t 9)))⟩,
    ⟨(some 62), (some (60, false)), (.v (.load none (.t 61)))⟩,
    ⟨(some 63), (some (60, false)), (.v (.len false (.t 62)))⟩,
    ⟨(some 64), (some (60, false)), (.v (.mov (.t 0)))⟩,
    ⟨(some 65), (some (60, false)), (.v (.len false (.t 64)))⟩,
    ⟨(some 66), (some (60, false)), (.v (.bin .neq (.t 63) (.t 65)))⟩,
    ⟨(some 67), none, (.v (.pick (.t 60) (.c (.bool true)) (.t 66)))⟩])
  (.cond (.t 67)
  (.seq
  (.reg [
    ⟨(some 6), none, (.v (.mov (.c (.bool false))))⟩])
  .ret)
  .skip))
  (.seq
  (.seq
  (.reg [
    ⟨(some 68), none, (.v (.mov (.t 1)))⟩,
    ⟨(some 69), none, (.v (.bin .geq (.t 68) (.c (.int .i64 0))))⟩,
    ⟨(some 70), none, (.v (.mov (.t 69)))⟩,
    ⟨(some 71), (some (70, true)), (.v (.mov (.t 1)))⟩,
    ⟨(some 72), (some (70, true)), (.v (.mov (.t 0)))⟩,
    ⟨(some 73), (some (70, true)), (.v (.len false (.t 72)))⟩,
    ⟨(some 74), (some (70, true)), (.v (.bin .lss (.t 71) (.t 73)))⟩,
    ⟨(some 75), none, (.v (.pick (.t 70) (.t 74) (.c (.bool false))))⟩])
  (.cond (.t 75)
  (.seq
  (.dreg [
    ⟨(some 76), none, (.v (.mov (.t 12)))⟩,
    ⟨(some 77), none, (.call (.c (.func 10 [])) [(.t 76)])⟩,
    ⟨(some 78), none, (.v (.bin .neq (.t 77) (.c (.int .i64 0))))⟩,
    ⟨(some 79), none, (.v (.mov (.t 78)))⟩,
    ⟨(some 80), (some (79, false)), (.v (.faddr 1 (.t 11)))⟩,
    ⟨(some 81), (some (79, false)), (.v (.load none (.t 80)))⟩,
    ⟨(some 82), (some (79, false)), (.v (.mov (.t 0)))⟩,
    ⟨(some 83), (some (79, false)), (.v (.mov (.t 1)))⟩,
    ⟨(some 84), (some (79, false)), (.v (.iaddr 1 (.t 82) (.t 83)))⟩,
    ⟨(some 85), (some (79, false)), (.v (.load none (.t 84)))⟩,
    ⟨(some 86), (some (79, false)), (.v (.conv (.int .i64) (.t 85)))⟩,
    ⟨(some 87), (some (79, false)), (.v (.bin .neq (.t 81) (.t 86)))⟩,
    ⟨(some 88), none, (.v (.pick (.t 79) (.c (.bool true)) (.t 87)))⟩] [true, true, true, true, false, false, false, false, false, false, false, true, true])
  (.cond (.t 88)
  (.seq
  (.reg [
    ⟨(some 6), none, (.v (.mov (.c (.bool false))))⟩])
  .ret)
  .skip))
  (.seq
  (.reg [
    ⟨(some 89), none, (.v (.mov (.t 12)))⟩,
    ⟨(some 90), none, (.call (.c (.func 10 [])) [(.t 89)])⟩,
    ⟨(some 91), none, (.v (.bin .neq (.t 90) (.c (.int .i64 2))))⟩])
  (.cond (.t 91)
  (.seq
  (.reg [
    ⟨(some 6), none, (.v (.mov (.c (.bool false))))⟩])
  .ret)
  .skip))))
  (.seq
  (.reg [
    ⟨(some 92), none, (.v (.build [(.int .i64 0), (.int .i64 0), (.str []), (.nils 4)] [(0, 1, (.c (.int .i64 4)))]))⟩,
    ⟨(some 13), none, (.alloc [(.int .i64 0), (.int .i64 0), (.str []), (.nils 4)])⟩,
    ⟨none, none, (.store 4 (.t 13) (.t 92))⟩])
  (.seq
  (.seq
  (.reg [
    ⟨(some 14), none, (.v (.mov (.c (.int .i64 1))))⟩])
  (.block 2
  (.loop
  (.seq
  (.seq
  (.reg [
    ⟨(some 93), none, (.v (.mov (.t 14)))⟩,
    ⟨(some 94), none, (.v (.mov (.t 2)))⟩,
    ⟨(some 95), none, (.v (.conv (.int .i64) (.t 94)))⟩,
    ⟨(some 96), none, (.v (.bin .rem (.t 95) (.c (.int .i64 70))))⟩,
    ⟨(some 97), none, (.v (.bin .lss (.t 93) (.t 96)))⟩])
  (.cond (.t 97)
  .skip
  (.exit 2)))
  (.seq
  (.block 3
  (.reg [
    ⟨(some 100), none, (.v (.load (some 4) (.t 13)))⟩,
    ⟨(some 101), none, (.bslice 4 1 [(.int .i64 0), (.int .i64 0), (.str []), (.nils 4)] [(0, (.t 100))])⟩,
    ⟨(some 102), none, (.v (.build [(.int .i64 0), (.int .i64 0), (.str []), (.nils 4)] [(0, 1, (.c (.int .i64 4))), (3, 1, (.t 101))]))⟩,
    ⟨none, none, (.store 4 (.t 13) (.t 102))⟩]))
  (.reg [
    ⟨(some 98), none, (.v (.mov (.t 14)))⟩,
    ⟨(some 99), none, (.v (.bin .add (.t 98) (.c (.int .i64 1))))⟩,
    ⟨(some 14), none, (.v (.mov (.t 99)))⟩]))))))
  (.seq
  (.seq
  (.reg [
    ⟨(some 103), none, (.v (.mov (.t 2)))⟩,
    ⟨(some 104), none, (.v (.conv (.int .i64) (.t 103)))⟩,
    ⟨(some 105), none, (.v (.bin .rem (.t 104) (.c (.int .i64 70))))⟩,
    ⟨(some 106), none, (.v (.bin .gtr (.t 105) (.c (.int .i64 64))))⟩])
  (.cond (.t 106)
  (.seq
  (.reg [
    ⟨(some 107), none, (.v (.load (some 4) (.t 13)))⟩,
    ⟨(some 108), none, (.call (.c (.func 14 [])) [(.t 107)])⟩,
    ⟨(some 109), none, (.v (.un .not (.t 108)))⟩,
    ⟨(some 110), none, (.v (.mov (.t 109)))⟩,
    ⟨(some 111), (some (110, true)), (.call (.c (.func 7 [])) [])⟩,
    ⟨(some 112), none, (.v (.pick (.t 110) (.t 111) (.c (.bool false))))⟩,
    ⟨(some 6), none, (.v (.mov (.t 112)))⟩])
  .ret)
  .skip))
  (.seq
  (.reg [
    ⟨(some 114), none, (.v (.load (some 4) (.t 13)))⟩,
    ⟨(some 115), none, (.bslice 4 1 [(.int .i64 0), (.int .i64 0), (.str []), (.nils 4)] [(0, (.t 114))])⟩,
    ⟨(some 116), none, (.call (.c (.func 12 [])) [(.t 115)])⟩,
    ⟨(some 113), none, (.v (.mov (.t 116)))⟩,
    ⟨(some 117), none, (.v (.extract 0 (.t 113)))⟩,
    ⟨(some 118), none, (.v (.extract 1 (.t 113)))⟩,
    ⟨(some 15), none, (.alloc [(.int .i64 0), (.int .i64 0), (.str []), (.nils 4)])⟩,
    ⟨none, none, (.store 4 (.t 15) (.t 117))⟩,
    ⟨(some 16), none, (.v (.mov (.t 118)))⟩])
  (.seq
  (.reg [
    ⟨(some 119), none, (.v (.load (some 4) (.t 13)))⟩,
    ⟨(some 120), none, (.call (.c (.func 14 [])) [(.t 119)])⟩,
    ⟨(some 121), none, (.v (.mov (.t 120)))⟩,
    ⟨(some 122), (some (121, true)), (.v (.mov (.t 16)))⟩,
    ⟨(some 123), (some (121, true)), (.call (.c (.func 10 [])) [(.t 122)])⟩,
    ⟨(some 124), (some (121, true)), (.v (.bin .eql (.t 123) (.c (.int .i64 0))))⟩,
    ⟨(some 125), (some (121, true)), (.v (.mov (.t 2)))⟩,
    ⟨(some 126), (some (121, true)), (.v (.conv (.int .i64) (.t 125)))⟩,
    ⟨(some 127), (some (121, true)), (.v (.bin .rem (.t 126) (.c (.int .i64 70))))⟩,
    ⟨(some 128), (some (121, true)), (.v (.mm true (.c (.int .i64 1)) (.t 127)))⟩,
    ⟨(some 129), (some (121, true)), (.v (.bin .lss (.t 128) (.c (.int .i64 64))))⟩,
    ⟨(some 130), (some (121, true)), (.v (.binb false (.t 124) (.t 129)))⟩,
    ⟨(some 131), none, (.v (.pick (.t 121) (.t 130) (.c (.bool false))))⟩,
    ⟨(some 132), none, (.v (.mov (.t 131)))⟩,
    ⟨(some 133), (some (132, true)), (.call (.c (.func 7 [])) [])⟩,
    ⟨(some 134), none, (.v (.pick (.t 132) (.t 133) (.c (.bool false))))⟩,
    ⟨(some 6), none, (.v (.mov (.t 134)))⟩])
  .ret)))))))))))))),
  [(.t 6)]⟩
theorem comp5 : comp Try.prog Try.f5 = some sc5 := by kernel_rfl
/-- doorkeeper/doorkeeperlaw4.awake -/
def sc7 : SFunc := ⟨0, 22,
  (.seq
  (.reg [
    ⟨(some 0), none, (.v (.mov (.c (.bool false))))⟩])
  (.seq
  (.reg [
    ⟨(some 4), none, (.v (.build [(.int .i64 0), (.int .i64 0), (.str []), (.nils 4)] [(0, 1, (.c (.int .i64 1))), (1, 1, (.c (.int .i64 1)))]))⟩,
    ⟨(some 5), none, (.v (.build [(.int .i64 0), (.int .i64 0), (.str []), (.nils 4)] [(0, 1, (.c (.int .i64 1))), (1, 1, (.c (.int .i64 2)))]))⟩,
    ⟨(some 6), none, (.call (.c (.func 9 [])) [(.c (.int .i64 19)), (.t 4), (.t 5)])⟩,
    ⟨(some 3), none, (.v (.mov (.t 6)))⟩,
    ⟨(some 7), none, (.v (.extract 0 (.t 3)))⟩,
    ⟨(some 8), none, (.v (.extract 1 (.t 3)))⟩,
    ⟨(some 1), none, (.alloc [(.int .i64 0), (.int .i64 0), (.str []), (.nils 4)])⟩,
    ⟨none, none, (.store 4 (.t 1) (.t 7))⟩,
    ⟨(some 2), none, (.v (.mov (.t 8)))⟩])
  (.seq
  (.reg [
    ⟨(some 9), none, (.v (.mov (.t 2)))⟩,
    ⟨(some 10), none, (.call (.c (.func 10 [])) [(.t 9)])⟩,
    ⟨(some 11), none, (.v (.bin .eql (.t 10) (.c (.int .i64 0))))⟩,
    ⟨(some 12), none, (.v (.mov (.t 11)))⟩,
    ⟨(some 13), (some (12, true)), (.v (.faddr 0 (.t 1)))⟩,
    ⟨(some 14), (some (12, true)), (.v (.load none (.t 13)))⟩,
    ⟨(some 15), (some (12, true)), (.v (.bin .eql (.t 14) (.c (.int .i64 1))))⟩,
    ⟨(some 16), none, (.v (.pick (.t 12) (.t 15) (.c (.bool false))))⟩,
    ⟨(some 17), none, (.v (.mov (.t 16)))⟩,
    ⟨(some 18), (some (17, true)), (.v (.faddr 1 (.t 1)))⟩,
    ⟨(some 19), (some (17, true)), (.v (.load none (.t 18)))⟩,
    ⟨(some 20), (some (17, true)), (.v (.bin .eql (.t 19) (.c (.int .i64 3))))⟩,
    ⟨(some 21), none, (.v (.pick (.t 17) (.t 20) (.c (.bool false))))⟩,
    ⟨(some 0), none, (.v (.mov (.t 21)))⟩])
  .ret))),
  [(.t 0)]⟩
theorem comp7 : comp Try.prog Try.f7 = some sc7 := by kernel_rfl
/-- doorkeeper/doorkeeperlaw4.num -/
def sc8 : SFunc := ⟨1, 5,
  (.seq
  (.reg [
    ⟨(some 2), none, (.alloc [(.int .i64 0), (.int .i64 0), (.str []), (.nils 4)])⟩])
  (.seq
  (.reg [
    ⟨(some 3), none, (.v (.mov (.t 0)))⟩,
    ⟨(some 4), none, (.v (.build [(.int .i64 0), (.int .i64 0), (.str []), (.nils 4)] [(0, 1, (.c (.int .i64 1))), (1, 1, (.t 3))]))⟩,
    ⟨none, none, (.store 4 (.t 2) (.t 4))⟩])
  .ret)),
  [(.cell 2 (some 4))]⟩
theorem comp8 : comp Try.prog Try.f8 = some sc8 := by kernel_rfl
/-- doorkeeper/val.Two -/
def sc9 : SFunc := ⟨3, 106,
  (.seq
  (.reg [
    ⟨(some 4), none, (.box (.t 1))⟩,
    ⟨(some 5), none, (.box (.t 2))⟩,
    ⟨(some 6), none, (.alloc [(.int .i64 0), (.int .i64 0), (.str []), (.nils 4)])⟩,
    ⟨(some 7), none, (.v (.mov (.c (.int .i64 0))))⟩])
  (.seq
  (.reg [
    ⟨(some 11), none, (.v (.faddr 0 (.t 4)))⟩,
    ⟨(some 12), none, (.v (.load none (.t 11)))⟩,
    ⟨(some 13), none, (.v (.faddr 0 (.t 5)))⟩,
    ⟨(some 14), none, (.v (.load none (.t 13)))⟩,
    ⟨(some 15), none, (.v (.bin .eql (.t 12) (.t 14)))⟩,
    ⟨(some 8), none, (.v (.mov (.t 15)))⟩])
  (.seq
  (.block 0
  (.seq
  (.reg [
    ⟨(some 17), none, (.v (.mov (.t 0)))⟩,
    ⟨(some 18), none, (.v (.bin .lss (.t 17) (.c (.int .i64 11))))⟩,
    ⟨(some 19), none, (.v (.mov (.t 18)))⟩,
    ⟨(some 20), (some (19, false)), (.v (.mov (.t 0)))⟩,
    ⟨(some 21), (some (19, false)), (.v (.bin .gtr (.t 20) (.c (.int .i64 23))))⟩,
    ⟨(some 22), none, (.v (.pick (.t 19) (.c (.bool true)) (.t 21)))⟩,
    ⟨(some 16), none, (.v (.mov (.t 22)))⟩])
  (.cond (.t 16)
  (.seq
  (.reg [
    ⟨(some 23), none, (.v (.build [(.int .i64 0), (.int .i64 0), (.str []), (.nils 4)] []))⟩,
    ⟨none, none, (.store 4 (.t 6) (.t 23))⟩,
    ⟨(some 7), none, (.v (.mov (.c (.int .i64 1))))⟩])
  .ret)
  (.seq
  (.reg [
    ⟨(some 25), none, (.v (.mov (.t 0)))⟩,
    ⟨(some 26), none, (.v (.bin .leq (.t 25) (.c (.int .i64 12))))⟩,
    ⟨(some 27), none, (.v (.mov (.t 26)))⟩,
    ⟨(some 28), (some (27, true)), (.v (.mov (.t 8)))⟩,
    ⟨(some 29), none, (.v (.pick (.t 27) (.t 28) (.c (.bool false))))⟩,
    ⟨(some 30), none, (.v (.mov (.t 29)))⟩,
    ⟨(some 31), (some (30, true)), (.v (.faddr 0 (.t 4)))⟩,
    ⟨(some 32), (some (30, true)), (.v (.load none (.t 31)))⟩,
    ⟨(some 33), (some (30, true)), (.v (.bin .eql (.t 32) (.c (.int .i64 3))))⟩,
    ⟨(some 34), none, (.v (.pick (.t 30) (.t 33) (.c (.bool false))))⟩,
    ⟨(some 24), none, (.v (.mov (.t 34)))⟩])
  (.cond (.t 24)
  (.seq
  (.seq
  (.reg [
    ⟨(some 35), none, (.v (.mov (.t 0)))⟩,
    ⟨(some 36), none, (.v (.bin .eql (.t 35) (.c (.int .i64 11))))⟩])
  (.cond (.t 36)
  (.seq
  (.reg [
    ⟨(some 37), none, (.v (.faddr 1 (.t 4)))⟩,
    ⟨(some 38), none, (.v (.load none (.t 37)))⟩,
    ⟨(some 39), none, (.v (.faddr 1 (.t 5)))⟩,
    ⟨(some 40), none, (.v (.load none (.t 39)))⟩,
    ⟨(some 41), none, (.v (.bin .add (.t 38) (.t 40)))⟩,
    ⟨(some 42), none, (.v (.bin .gtr (.t 41) (.c (.int .i64 0))))⟩,
    ⟨(some 43), none, (.call (.c (.func 21 [])) [(.t 42)])⟩,
    ⟨none, none, (.store 4 (.t 6) (.t 43))⟩,
    ⟨(some 7), none, (.v (.mov (.c (.int .i64 0))))⟩])
  .ret)
  .skip))
  (.seq
  (.reg [
    ⟨(some 44), none, (.v (.faddr 1 (.t 4)))⟩,
    ⟨(some 45), none, (.v (.load none (.t 44)))⟩,
    ⟨(some 46), none, (.v (.faddr 1 (.t 5)))⟩,
    ⟨(some 47), none, (.v (.load none (.t 46)))⟩,
    ⟨(some 48), none, (.v (.bin .add (.t 45) (.t 47)))⟩,
    ⟨(some 49), none, (.v (.bin .eql (.t 48) (.c (.int .i64 2))))⟩,
    ⟨(some 50), none, (.call (.c (.func 21 [])) [(.t 49)])⟩,
    ⟨none, none, (.store 4 (.t 6) (.t 50))⟩,
    ⟨(some 7), none, (.v (.mov (.c (.int .i64 0))))⟩])
  .ret))
  (.seq
  (.reg [
    ⟨(some 52), none, (.v (.mov (.t 0)))⟩,
    ⟨(some 53), none, (.v (.bin .eql (.t 52) (.c (.int .i64 13))))⟩,
    ⟨(some 54), none, (.v (.mov (.t 53)))⟩,
    ⟨(some 55), (some (54, false)), (.v (.mov (.t 0)))⟩,
    ⟨(some 56), (some (54, false)), (.v (.bin .eql (.t 55) (.c (.int .i64 14))))⟩,
    ⟨(some 57), none, (.v (.pick (.t 54) (.c (.bool true)) (.t 56)))⟩,
    ⟨(some 58), none, (.v (.mov (.t 57)))⟩,
    ⟨(some 59), (some (58, true)), (.v (.mov (.t 8)))⟩,
    ⟨(some 60), none, (.v (.pick (.t 58) (.t 59) (.c (.bool false))))⟩,
    ⟨(some 51), none, (.v (.mov (.t 60)))⟩])
  (.cond (.t 51)
  (.seq
  (.reg [
    ⟨(some 61), none, (.v (.load (some 4) (.t 4)))⟩,
    ⟨(some 62), none, (.v (.load (some 4) (.t 5)))⟩,
    ⟨(some 63), none, (.call (.c (.func 22 [])) [(.t 61), (.t 62)])⟩,
    ⟨(some 64), none, (.v (.mov (.t 0)))⟩,
    ⟨(some 65), none, (.v (.bin .eql (.t 64) (.c (.int .i64 13))))⟩,
    ⟨(some 66), none, (.v (.binb false (.t 63) (.t 65)))⟩,
    ⟨(some 67), none, (.call (.c (.func 21 [])) [(.t 66)])⟩,
    ⟨none, none, (.store 4 (.t 6) (.t 67))⟩,
    ⟨(some 7), none, (.v (.mov (.c (.int .i64 0))))⟩])
  .ret)
  (.seq
  (.reg [
    ⟨(some 69), none, (.v (.mov (.t 0)))⟩,
    ⟨(some 70), none, (.v (.bin .leq (.t 69) (.c (.int .i64 14))))⟩,
    ⟨(some 71), none, (.v (.mov (.t 70)))⟩,
    ⟨(some 72), (some (71, false)), (.v (.mov (.t 8)))⟩,
    ⟨(some 73), (some (71, false)), (.v (.un .not (.t 72)))⟩,
    ⟨(some 74), none, (.v (.pick (.t 71) (.c (.bool true)) (.t 73)))⟩,
    ⟨(some 75), none, (.v (.mov (.t 74)))⟩,
    ⟨(some 76), (some (75, false)), (.v (.faddr 0 (.t 4)))⟩,
    ⟨(some 77), (some (75, false)), (.v (.load none (.t 76)))⟩,
    ⟨(some 78), (some (75, false)), (.v (.bin .neq (.t 77) (.c (.int .i64 1))))⟩,
    ⟨(some 79), none, (.v (.pick (.t 75) (.c (.bool true)) (.t 78)))⟩,
    ⟨(some 68), none, (.v (.mov (.t 79)))⟩])
  (.cond (.t 68)
  (.seq
  (.reg [
    ⟨(some 80), none, (.v (.build [(.int .i64 0), (.int .i64 0), (.str []), (.nils 4)] []))⟩,
    ⟨none, none, (.store 4 (.t 6) (.t 80))⟩,
    ⟨(some 7), none, (.v (.mov (.c (.int .i64 7))))⟩])
  .ret)
  (.seq
  (.reg [
    ⟨(some 82), none, (.v (.mov (.t 0)))⟩,
    ⟨(some 83), none, (.v (.bin .leq (.t 82) (.c (.int .i64 18))))⟩,
    ⟨(some 81), none, (.v (.mov (.t 83)))⟩])
  (.cond (.t 81)
  (.seq
  (.reg [
    ⟨(some 84), none, (.v (.mov (.t 0)))⟩,
    ⟨(some 85), none, (.v (.faddr 1 (.t 4)))⟩,
    ⟨(some 86), none, (.v (.load none (.t 85)))⟩,
    ⟨(some 87), none, (.v (.faddr 1 (.t 5)))⟩,
    ⟨(some 88), none, (.v (.load none (.t 87)))⟩,
    ⟨(some 89), none, (.call (.c (.func 23 [])) [(.t 84), (.t 86), (.t 88)])⟩,
    ⟨(some 90), none, (.call (.c (.func 21 [])) [(.t 89)])⟩,
    ⟨none, none, (.store 4 (.t 6) (.t 90))⟩,
    ⟨(some 7), none, (.v (.mov (.c (.int .i64 0))))⟩])
  .ret)
  .skip)))))))))))
  (.seq
  (.reg [
    ⟨(some 92), none, (.v (.mov (.t 0)))⟩,
    ⟨(some 93), none, (.v (.faddr 1 (.t 4)))⟩,
    ⟨(some 94), none, (.v (.load none (.t 93)))⟩,
    ⟨(some 95), none, (.v (.faddr 1 (.t 5)))⟩,
    ⟨(some 96), none, (.v (.load none (.t 95)))⟩,
    ⟨(some 97), none, (.call (.c (.func 24 [])) [(.t 92), (.t 94), (.t 96)])⟩,
    ⟨(some 91), none, (.v (.mov (.t 97)))⟩,
    ⟨(some 98), none, (.v (.extract 0 (.t 91)))⟩,
    ⟨(some 99), none, (.v (.extract 1 (.t 91)))⟩,
    ⟨(some 9), none, (.v (.mov (.t 98)))⟩,
    ⟨(some 10), none, (.v (.mov (.t 99)))⟩])
  (.seq
  (.seq
  (.reg [
    ⟨(some 100), none, (.v (.mov (.t 10)))⟩,
    ⟨(some 101), none, (.v (.bin .neq (.t 100) (.c (.int .i64 0))))⟩])
  (.cond (.t 101)
  (.seq
  (.reg [
    ⟨(some 102), none, (.v (.build [(.int .i64 0), (.int .i64 0), (.str []), (.nils 4)] []))⟩,
    ⟨(some 103), none, (.v (.mov (.t 10)))⟩,
    ⟨none, none, (.store 4 (.t 6) (.t 102))⟩,
    ⟨(some 7), none, (.v (.mov (.t 103)))⟩])
  .ret)
  .skip))
  (.seq
  (.reg [
    ⟨(some 104), none, (.v (.mov (.t 9)))⟩,
    ⟨(some 105), none, (.call (.c (.func 25 [])) [(.t 104)])⟩,
    ⟨none, none, (.store 4 (.t 6) (.t 105))⟩,
    ⟨(some 7), none, (.v (.mov (.c (.int .i64 0))))⟩])
  .ret)))))),
  [(.cell 6 (some 4)), (.t 7)]⟩
theorem comp9 : comp Try.prog Try.f9 = some sc9 := by kernel_rfl
/-- doorkeeper/doorkeeperlaw1.Num -/
def sc10 : SFunc := ⟨1, 4,
  (.seq
  (.reg [
    ⟨(some 2), none, (.v (.mov (.c (.int .i64 0))))⟩])
  (.seq
  (.reg [
    ⟨(some 3), none, (.v (.mov (.t 0)))⟩,
    ⟨(some 2), none, (.v (.mov (.t 3)))⟩])
  .ret)),
  [(.t 2)]⟩
theorem comp10 : comp Try.prog Try.f10 = some sc10 := by kernel_rfl
/-- doorkeeper/val.One -/
def sc11 : SFunc := ⟨2, 44,
  (.seq
  (.reg [
    ⟨(some 3), none, (.box (.t 1))⟩,
    ⟨(some 4), none, (.alloc [(.int .i64 0), (.int .i64 0), (.str []), (.nils 4)])⟩,
    ⟨(some 5), none, (.v (.mov (.c (.int .i64 0))))⟩])
  (.seq
  (.block 0
  (.seq
  (.reg [
    ⟨(some 7), none, (.v (.mov (.t 0)))⟩,
    ⟨(some 8), none, (.v (.bin .neq (.t 7) (.c (.int .i64 8))))⟩,
    ⟨(some 9), none, (.v (.mov (.t 8)))⟩,
    ⟨(some 10), (some (9, true)), (.v (.mov (.t 0)))⟩,
    ⟨(some 11), (some (9, true)), (.v (.bin .neq (.t 10) (.c (.int .i64 9))))⟩,
    ⟨(some 12), none, (.v (.pick (.t 9) (.t 11) (.c (.bool false))))⟩,
    ⟨(some 6), none, (.v (.mov (.t 12)))⟩])
  (.cond (.t 6)
  (.seq
  (.reg [
    ⟨(some 13), none, (.v (.build [(.int .i64 0), (.int .i64 0), (.str []), (.nils 4)] []))⟩,
    ⟨none, none, (.store 4 (.t 4) (.t 13))⟩,
    ⟨(some 5), none, (.v (.mov (.c (.int .i64 1))))⟩])
  .ret)
  (.seq
  (.reg [
    ⟨(some 15), none, (.v (.mov (.t 0)))⟩,
    ⟨(some 16), none, (.v (.bin .eql (.t 15) (.c (.int .i64 8))))⟩,
    ⟨(some 17), none, (.v (.mov (.t 16)))⟩,
    ⟨(some 18), (some (17, true)), (.v (.faddr 0 (.t 3)))⟩,
    ⟨(some 19), (some (17, true)), (.v (.load none (.t 18)))⟩,
    ⟨(some 20), (some (17, true)), (.v (.bin .eql (.t 19) (.c (.int .i64 3))))⟩,
    ⟨(some 21), none, (.v (.pick (.t 17) (.t 20) (.c (.bool false))))⟩,
    ⟨(some 14), none, (.v (.mov (.t 21)))⟩])
  (.cond (.t 14)
  (.seq
  (.reg [
    ⟨(some 22), none, (.v (.faddr 1 (.t 3)))⟩,
    ⟨(some 23), none, (.v (.load none (.t 22)))⟩,
    ⟨(some 24), none, (.v (.bin .eql (.t 23) (.c (.int .i64 0))))⟩,
    ⟨(some 25), none, (.call (.c (.func 21 [])) [(.t 24)])⟩,
    ⟨none, none, (.store 4 (.t 4) (.t 25))⟩,
    ⟨(some 5), none, (.v (.mov (.c (.int .i64 0))))⟩])
  .ret)
  (.seq
  (.reg [
    ⟨(some 27), none, (.v (.mov (.t 0)))⟩,
    ⟨(some 28), none, (.v (.bin .eql (.t 27) (.c (.int .i64 8))))⟩,
    ⟨(some 29), none, (.v (.mov (.t 28)))⟩,
    ⟨(some 30), (some (29, false)), (.v (.faddr 0 (.t 3)))⟩,
    ⟨(some 31), (some (29, false)), (.v (.load none (.t 30)))⟩,
    ⟨(some 32), (some (29, false)), (.v (.bin .neq (.t 31) (.c (.int .i64 1))))⟩,
    ⟨(some 33), none, (.v (.pick (.t 29) (.c (.bool true)) (.t 32)))⟩,
    ⟨(some 26), none, (.v (.mov (.t 33)))⟩])
  (.cond (.t 26)
  (.seq
  (.reg [
    ⟨(some 34), none, (.v (.build [(.int .i64 0), (.int .i64 0), (.str []), (.nils 4)] []))⟩,
    ⟨none, none, (.store 4 (.t 4) (.t 34))⟩,
    ⟨(some 5), none, (.v (.mov (.c (.int .i64 7))))⟩])
  .ret)
  (.seq
  (.reg [
    ⟨(some 36), none, (.v (.faddr 1 (.t 3)))⟩,
    ⟨(some 37), none, (.v (.load none (.t 36)))⟩,
    ⟨(some 38), none, (.v (.bin .eql (.t 37) (.c (.int .i64 (-9223372036854775808)))))⟩,
    ⟨(some 35), none, (.v (.mov (.t 38)))⟩])
  (.cond (.t 35)
  (.seq
  (.reg [
    ⟨(some 39), none, (.v (.build [(.int .i64 0), (.int .i64 0), (.str []), (.nils 4)] []))⟩,
    ⟨none, none, (.store 4 (.t 4) (.t 39))⟩,
    ⟨(some 5), none, (.v (.mov (.c (.int .i64 8))))⟩])
  .ret)
  .skip)))))))))
  (.seq
  (.reg [
    ⟨(some 40), none, (.v (.faddr 1 (.t 3)))⟩,
    ⟨(some 41), none, (.v (.load none (.t 40)))⟩,
    ⟨(some 42), none, (.v (.un .neg (.t 41)))⟩,
    ⟨(some 43), none, (.call (.c (.func 25 [])) [(.t 42)])⟩,
    ⟨none, none, (.store 4 (.t 4) (.t 43))⟩,
    ⟨(some 5), none, (.v (.mov (.c (.int .i64 0))))⟩])
  .ret))),
  [(.cell 4 (some 4)), (.t 5)]⟩
theorem comp11 : comp Try.prog Try.f11 = some sc11 := by kernel_rfl
/-- doorkeeper/val.List -/
def sc12 : SFunc := ⟨1, 16,
  (.seq
  (.reg [
    ⟨(some 2), none, (.alloc [(.int .i64 0), (.int .i64 0), (.str []), (.nils 4)])⟩,
    ⟨(some 3), none, (.v (.mov (.c (.int .i64 0))))⟩])
  (.seq
  (.seq
  (.reg [
    ⟨(some 4), none, (.v (.mov (.t 0)))⟩,
    ⟨(some 5), none, (.v (.len false (.t 4)))⟩,
    ⟨(some 6), none, (.v (.bin .gtr (.t 5) (.c (.int .i64 64))))⟩,
    ⟨(some 7), none, (.v (.mov (.t 6)))⟩,
    ⟨(some 8), (some (7, false)), (.v (.mov (.t 0)))⟩,
    ⟨(some 9), (some (7, false)), (.call (.c (.func 26 [])) [(.t 8)])⟩,
    ⟨(some 10), (some (7, false)), (.v (.bin .geq (.t 9) (.c (.int .i64 64))))⟩,
    ⟨(some 11), none, (.v (.pick (.t 7) (.c (.bool true)) (.t 10)))⟩])
  (.cond (.t 11)
  (.seq
  (.reg [
    ⟨(some 12), none, (.v (.build [(.int .i64 0), (.int .i64 0), (.str []), (.nils 4)] []))⟩,
    ⟨none, none, (.store 4 (.t 2) (.t 12))⟩,
    ⟨(some 3), none, (.v (.mov (.c (.int .i64 4))))⟩])
  .ret)
  .skip))
  (.seq
  (.reg [
    ⟨(some 13), none, (.v (.mov (.t 0)))⟩,
    ⟨(some 14), none, (.call (.c (.func 27 [])) [(.t 13)])⟩,
    ⟨(some 15), none, (.v (.build [(.int .i64 0), (.int .i64 0), (.str []), (.nils 4)] [(0, 1, (.c (.int .i64 4))), (3, 1, (.t 14))]))⟩,
    ⟨none, none, (.store 4 (.t 2) (.t 15))⟩,
    ⟨(some 3), none, (.v (.mov (.c (.int .i64 0))))⟩])
  .ret))),
  [(.cell 2 (some 4)), (.t 3)]⟩
theorem comp12 : comp Try.prog Try.f12 = some sc12 := by kernel_rfl
/-- doorkeeper/val.Index -/
def sc13 : SFunc := ⟨2, 35,
  (.seq
  (.reg [
    ⟨(some 2), none, (.box (.t 0))⟩,
    ⟨(some 3), none, (.box (.t 1))⟩,
    ⟨(some 4), none, (.alloc [(.int .i64 0), (.int .i64 0), (.str []), (.nils 4)])⟩,
    ⟨(some 5), none, (.v (.mov (.c (.int .i64 0))))⟩])
  (.seq
  (.block 0
  (.seq
  (.reg [
    ⟨(some 7), none, (.v (.faddr 0 (.t 2)))⟩,
    ⟨(some 8), none, (.v (.load none (.t 7)))⟩,
    ⟨(some 9), none, (.v (.bin .neq (.t 8) (.c (.int .i64 4))))⟩,
    ⟨(some 10), none, (.v (.mov (.t 9)))⟩,
    ⟨(some 11), (some (10, false)), (.v (.faddr 0 (.t 3)))⟩,
    ⟨(some 12), (some (10, false)), (.v (.load none (.t 11)))⟩,
    ⟨(some 13), (some (10, false)), (.v (.bin .neq (.t 12) (.c (.int .i64 1))))⟩,
    ⟨(some 14), none, (.v (.pick (.t 10) (.c (.bool true)) (.t 13)))⟩,
    ⟨(some 6), none, (.v (.mov (.t 14)))⟩])
  (.cond (.t 6)
  (.seq
  (.reg [
    ⟨(some 15), none, (.v (.build [(.int .i64 0), (.int .i64 0), (.str []), (.nils 4)] []))⟩,
    ⟨none, none, (.store 4 (.t 4) (.t 15))⟩,
    ⟨(some 5), none, (.v (.mov (.c (.int .i64 7))))⟩])
  .ret)
  (.seq
  (.reg [
    ⟨(some 17), none, (.v (.faddr 1 (.t 3)))⟩,
    ⟨(some 18), none, (.v (.load none (.t 17)))⟩,
    ⟨(some 19), none, (.v (.bin .lss (.t 18) (.c (.int .i64 0))))⟩,
    ⟨(some 20), none, (.v (.mov (.t 19)))⟩,
    ⟨(some 21), (some (20, false)), (.v (.faddr 1 (.t 3)))⟩,
    ⟨(some 22), (some (20, false)), (.v (.load none (.t 21)))⟩,
    ⟨(some 23), (some (20, false)), (.v (.faddr 3 (.t 2)))⟩,
    ⟨(some 24), (some (20, false)), (.v (.load none (.t 23)))⟩,
    ⟨(some 25), (some (20, false)), (.v (.len false (.t 24)))⟩,
    ⟨(some 26), (some (20, false)), (.v (.bin .geq (.t 22) (.t 25)))⟩,
    ⟨(some 27), none, (.v (.pick (.t 20) (.c (.bool true)) (.t 26)))⟩,
    ⟨(some 16), none, (.v (.mov (.t 27)))⟩])
  (.cond (.t 16)
  (.seq
  (.reg [
    ⟨(some 28), none, (.v (.build [(.int .i64 0), (.int .i64 0), (.str []), (.nils 4)] []))⟩,
    ⟨none, none, (.store 4 (.t 4) (.t 28))⟩,
    ⟨(some 5), none, (.v (.mov (.c (.int .i64 2))))⟩])
  .ret)
  .skip)))))
  (.seq
  (.reg [
    ⟨(some 29), none, (.v (.faddr 3 (.t 2)))⟩,
    ⟨(some 30), none, (.v (.load none (.t 29)))⟩,
    ⟨(some 31), none, (.v (.faddr 1 (.t 3)))⟩,
    ⟨(some 32), none, (.v (.load none (.t 31)))⟩,
    ⟨(some 33), none, (.v (.iaddr 4 (.t 30) (.t 32)))⟩,
    ⟨(some 34), none, (.v (.load (some 4) (.t 33)))⟩,
    ⟨none, none, (.store 4 (.t 4) (.t 34))⟩,
    ⟨(some 5), none, (.v (.mov (.c (.int .i64 0))))⟩])
  .ret))),
  [(.cell 4 (some 4)), (.t 5)]⟩
theorem comp13 : comp Try.prog Try.f13 = some sc13 := by kernel_rfl
/-- doorkeeper/val.May -/
def sc14 : SFunc := ⟨1, 11,
  (.seq
  (.reg [
    ⟨(some 1), none, (.box (.t 0))⟩,
    ⟨(some 2), none, (.v (.mov (.c (.bool false))))⟩])
  (.seq
  (.reg [
    ⟨(some 3), none, (.v (.load (some 4) (.t 1)))⟩,
    ⟨(some 4), none, (.call (.c (.func 28 [])) [(.t 3)])⟩,
    ⟨(some 5), none, (.v (.mov (.t 4)))⟩,
    ⟨(some 6), (some (5, true)), (.v (.load (some 4) (.t 1)))⟩,
    ⟨(some 7), (some (5, true)), (.bslice 4 1 [(.int .i64 0), (.int .i64 0), (.str []), (.nils 4)] [(0, (.t 6))])⟩,
    ⟨(some 8), (some (5, true)), (.call (.c (.func 26 [])) [(.t 7)])⟩,
    ⟨(some 9), (some (5, true)), (.v (.bin .leq (.t 8) (.c (.int .i64 64))))⟩,
    ⟨(some 10), none, (.v (.pick (.t 5) (.t 9) (.c (.bool false))))⟩,
    ⟨(some 2), none, (.v (.mov (.t 10)))⟩])
  .ret)),
  [(.t 2)]⟩
theorem comp14 : comp Try.prog Try.f14 = some sc14 := by kernel_rfl
/-- doorkeeper/val.Bool -/
def sc21 : SFunc := ⟨1, 6,
  (.seq
  (.reg [
    ⟨(some 2), none, (.alloc [(.int .i64 0), (.int .i64 0), (.str []), (.nils 4)])⟩])
  (.seq
  (.seq
  (.reg [
    ⟨(some 3), none, (.v (.mov (.t 0)))⟩])
  (.cond (.t 3)
  (.seq
  (.reg [
    ⟨(some 4), none, (.v (.build [(.int .i64 0), (.int .i64 0), (.str []), (.nils 4)] [(0, 1, (.c (.int .i64 3))), (1, 1, (.c (.int .i64 1)))]))⟩,
    ⟨none, none, (.store 4 (.t 2) (.t 4))⟩])
  .ret)
  .skip))
  (.seq
  (.reg [
    ⟨(some 5), none, (.v (.build [(.int .i64 0), (.int .i64 0), (.str []), (.nils 4)] [(0, 1, (.c (.int .i64 3)))]))⟩,
    ⟨none, none, (.store 4 (.t 2) (.t 5))⟩])
  .ret))),
  [(.cell 2 (some 4))]⟩
theorem comp21 : comp Try.prog Try.f21 = some sc21 := by kernel_rfl
/-- doorkeeper/val.Same -/
def sc22 : SFunc := ⟨2, 31,
  (.seq
  (.reg [
    ⟨(some 2), none, (.box (.t 0))⟩,
    ⟨(some 3), none, (.box (.t 1))⟩,
    ⟨(some 4), none, (.v (.mov (.c (.bool false))))⟩])
  (.seq
  (.reg [
    ⟨(some 5), none, (.v (.faddr 0 (.t 2)))⟩,
    ⟨(some 6), none, (.v (.load none (.t 5)))⟩,
    ⟨(some 7), none, (.v (.faddr 0 (.t 3)))⟩,
    ⟨(some 8), none, (.v (.load none (.t 7)))⟩,
    ⟨(some 9), none, (.v (.bin .eql (.t 6) (.t 8)))⟩,
    ⟨(some 10), none, (.v (.mov (.t 9)))⟩,
    ⟨(some 11), (some (10, true)), (.v (.faddr 1 (.t 2)))⟩,
    ⟨(some 12), (some (10, true)), (.v (.load none (.t 11)))⟩,
    ⟨(some 13), (some (10, true)), (.v (.faddr 1 (.t 3)))⟩,
    ⟨(some 14), (some (10, true)), (.v (.load none (.t 13)))⟩,
    ⟨(some 15), (some (10, true)), (.v (.bin .eql (.t 12) (.t 14)))⟩,
    ⟨(some 16), none, (.v (.pick (.t 10) (.t 15) (.c (.bool false))))⟩,
    ⟨(some 17), none, (.v (.mov (.t 16)))⟩,
    ⟨(some 18), (some (17, true)), (.v (.faddr 2 (.t 2)))⟩,
    ⟨(some 19), (some (17, true)), (.v (.load none (.t 18)))⟩,
    ⟨(some 20), (some (17, true)), (.v (.faddr 2 (.t 3)))⟩,
    ⟨(some 21), (some (17, true)), (.v (.load none (.t 20)))⟩,
    ⟨(some 22), (some (17, true)), (.v (.bin .eql (.t 19) (.t 21)))⟩,
    ⟨(some 23), none, (.v (.pick (.t 17) (.t 22) (.c (.bool false))))⟩,
    ⟨(some 24), none, (.v (.mov (.t 23)))⟩,
    ⟨(some 25), (some (24, true)), (.v (.faddr 3 (.t 2)))⟩,
    ⟨(some 26), (some (24, true)), (.v (.load none (.t 25)))⟩,
    ⟨(some 27), (some (24, true)), (.v (.faddr 3 (.t 3)))⟩,
    ⟨(some 28), (some (24, true)), (.v (.load none (.t 27)))⟩,
    ⟨(some 29), (some (24, true)), (.call (.c (.func 36 [])) [(.t 26), (.t 28), (.c (.func 22 []))])⟩,
    ⟨(some 30), none, (.v (.pick (.t 24) (.t 29) (.c (.bool false))))⟩,
    ⟨(some 4), none, (.v (.mov (.t 30)))⟩])
  .ret)),
  [(.t 4)]⟩
theorem comp22 : comp Try.prog Try.f22 = some sc22 := by kernel_rfl
/-- doorkeeper/val.compare -/
def sc23 : SFunc := ⟨3, 26,
  (.seq
  (.reg [
    ⟨(some 6), none, (.v (.mov (.c (.bool false))))⟩])
  (.seq
  (.seq
  (.reg [
    ⟨(some 7), none, (.v (.mov (.t 0)))⟩])
  (.block 0
  (.seq
  (.reg [
    ⟨(some 9), none, (.v (.bin .eql (.t 7) (.c (.int .i64 15))))⟩,
    ⟨(some 8), none, (.v (.mov (.t 9)))⟩])
  (.cond (.t 8)
  (.seq
  (.reg [
    ⟨(some 10), none, (.v (.mov (.t 1)))⟩,
    ⟨(some 11), none, (.v (.mov (.t 2)))⟩,
    ⟨(some 12), none, (.v (.bin .lss (.t 10) (.t 11)))⟩,
    ⟨(some 6), none, (.v (.mov (.t 12)))⟩])
  .ret)
  (.seq
  (.reg [
    ⟨(some 14), none, (.v (.bin .eql (.t 7) (.c (.int .i64 16))))⟩,
    ⟨(some 13), none, (.v (.mov (.t 14)))⟩])
  (.cond (.t 13)
  (.seq
  (.reg [
    ⟨(some 15), none, (.v (.mov (.t 1)))⟩,
    ⟨(some 16), none, (.v (.mov (.t 2)))⟩,
    ⟨(some 17), none, (.v (.bin .leq (.t 15) (.t 16)))⟩,
    ⟨(some 6), none, (.v (.mov (.t 17)))⟩])
  .ret)
  (.seq
  (.reg [
    ⟨(some 19), none, (.v (.bin .eql (.t 7) (.c (.int .i64 17))))⟩,
    ⟨(some 18), none, (.v (.mov (.t 19)))⟩])
  (.cond (.t 18)
  (.seq
  (.reg [
    ⟨(some 20), none, (.v (.mov (.t 1)))⟩,
    ⟨(some 21), none, (.v (.mov (.t 2)))⟩,
    ⟨(some 22), none, (.v (.bin .gtr (.t 20) (.t 21)))⟩,
    ⟨(some 6), none, (.v (.mov (.t 22)))⟩])
  .ret)
  .skip))))))))
  (.seq
  (.reg [
    ⟨(some 23), none, (.v (.mov (.t 1)))⟩,
    ⟨(some 24), none, (.v (.mov (.t 2)))⟩,
    ⟨(some 25), none, (.v (.bin .geq (.t 23) (.t 24)))⟩,
    ⟨(some 6), none, (.v (.mov (.t 25)))⟩])
  .ret))),
  [(.t 6)]⟩
theorem comp23 : comp Try.prog Try.f23 = some sc23 := by kernel_rfl
/-- doorkeeper/val.reckon -/
def sc24 : SFunc := ⟨3, 75,
  (.seq
  (.reg [
    ⟨(some 6), none, (.v (.mov (.c (.int .i64 0))))⟩,
    ⟨(some 7), none, (.v (.mov (.c (.int .i64 0))))⟩])
  (.seq
  (.reg [
    ⟨(some 8), none, (.v (.mov (.c (.int .i64 0))))⟩,
    ⟨(some 9), none, (.v (.mov (.c (.bool true))))⟩])
  (.seq
  (.seq
  (.reg [
    ⟨(some 10), none, (.v (.mov (.t 0)))⟩])
  (.block 0
  (.seq
  (.reg [
    ⟨(some 28), none, (.v (.bin .eql (.t 10) (.c (.int .i64 19))))⟩,
    ⟨(some 27), none, (.v (.mov (.t 28)))⟩])
  (.cond (.t 27)
  (.seq
  (.reg [
    ⟨(some 29), none, (.v (.mov (.t 1)))⟩,
    ⟨(some 30), none, (.v (.mov (.t 2)))⟩,
    ⟨(some 31), none, (.v (.bin .add (.t 29) (.t 30)))⟩,
    ⟨(some 8), none, (.v (.mov (.t 31)))⟩])
  (.reg [
    ⟨(some 32), none, (.v (.mov (.t 8)))⟩,
    ⟨(some 33), none, (.v (.mov (.t 1)))⟩,
    ⟨(some 34), none, (.v (.bin .gtr (.t 32) (.t 33)))⟩,
    ⟨(some 35), none, (.v (.mov (.t 2)))⟩,
    ⟨(some 36), none, (.v (.bin .gtr (.t 35) (.c (.int .i64 0))))⟩,
    ⟨(some 37), none, (.v (.binb false (.t 34) (.t 36)))⟩,
    ⟨(some 9), none, (.v (.mov (.t 37)))⟩]))
  (.seq
  (.reg [
    ⟨(some 39), none, (.v (.bin .eql (.t 10) (.c (.int .i64 20))))⟩,
    ⟨(some 38), none, (.v (.mov (.t 39)))⟩])
  (.cond (.t 38)
  (.seq
  (.reg [
    ⟨(some 40), none, (.v (.mov (.t 1)))⟩,
    ⟨(some 41), none, (.v (.mov (.t 2)))⟩,
    ⟨(some 42), none, (.v (.bin .sub (.t 40) (.t 41)))⟩,
    ⟨(some 8), none, (.v (.mov (.t 42)))⟩])
  (.reg [
    ⟨(some 43), none, (.v (.mov (.t 8)))⟩,
    ⟨(some 44), none, (.v (.mov (.t 1)))⟩,
    ⟨(some 45), none, (.v (.bin .lss (.t 43) (.t 44)))⟩,
    ⟨(some 46), none, (.v (.mov (.t 2)))⟩,
    ⟨(some 47), none, (.v (.bin .gtr (.t 46) (.c (.int .i64 0))))⟩,
    ⟨(some 48), none, (.v (.binb false (.t 45) (.t 47)))⟩,
    ⟨(some 9), none, (.v (.mov (.t 48)))⟩]))
  (.seq
  (.reg [
    ⟨(some 50), none, (.v (.bin .eql (.t 10) (.c (.int .i64 21))))⟩,
    ⟨(some 49), none, (.v (.mov (.t 50)))⟩])
  (.cond (.t 49)
  (.seq
  (.reg [
    ⟨(some 51), none, (.v (.mov (.t 1)))⟩,
    ⟨(some 52), none, (.v (.mov (.t 2)))⟩,
    ⟨(some 53), none, (.v (.bin .mul (.t 51) (.t 52)))⟩,
    ⟨(some 8), none, (.v (.mov (.t 53)))⟩])
  (.reg [
    ⟨(some 54), none, (.v (.mov (.t 1)))⟩,
    ⟨(some 55), none, (.v (.bin .eql (.t 54) (.c (.int .i64 0))))⟩,
    ⟨(some 56), none, (.v (.mov (.t 55)))⟩,
    ⟨(some 57), (some (56, false)), (.v (.mov (.t 8)))⟩,
    ⟨(some 58), (some (56, false)), (.v (.mov (.t 1)))⟩,
    ⟨(some 59), (some (56, false)), (.v (.bin .quo (.t 57) (.t 58)))⟩,
    ⟨(some 60), (some (56, false)), (.v (.mov (.t 2)))⟩,
    ⟨(some 61), (some (56, false)), (.v (.bin .eql (.t 59) (.t 60)))⟩,
    ⟨(some 62), (some (56, false)), (.v (.mov (.t 61)))⟩,
    ⟨(some 63), (some (62, true)), (.v (.mov (.t 1)))⟩,
    ⟨(some 64), (some (62, true)), (.v (.bin .eql (.t 63) (.c (.int .i64 (-1)))))⟩,
    ⟨(some 65), (some (62, true)), (.v (.mov (.t 64)))⟩,
    ⟨(some 66), (some (65, true)), (.v (.mov (.t 2)))⟩,
    ⟨(some 67), (some (65, true)), (.v (.bin .eql (.t 66) (.c (.int .i64 (-9223372036854775808)))))⟩,
    ⟨(some 68), (some (62, true)), (.v (.pick (.t 65) (.t 67) (.c (.bool false))))⟩,
    ⟨(some 69), (some (62, true)), (.v (.un .not (.t 68)))⟩,
    ⟨(some 70), (some (56, false)), (.v (.pick (.t 62) (.t 69) (.c (.bool false))))⟩,
    ⟨(some 71), none, (.v (.pick (.t 56) (.c (.bool true)) (.t 70)))⟩,
    ⟨(some 9), none, (.v (.mov (.t 71)))⟩]))
  (.seq
  (.seq
  (.reg [
    ⟨(some 11), none, (.v (.mov (.t 2)))⟩,
    ⟨(some 12), none, (.v (.bin .eql (.t 11) (.c (.int .i64 0))))⟩])
  (.cond (.t 12)
  (.seq
  (.reg [
    ⟨(some 6), none, (.v (.mov (.c (.int .i64 0))))⟩,
    ⟨(some 7), none, (.v (.mov (.c (.int .i64 9))))⟩])
  .ret)
  .skip))
  (.seq
  (.seq
  (.reg [
    ⟨(some 13), none, (.v (.mov (.t 0)))⟩,
    ⟨(some 14), none, (.v (.bin .eql (.t 13) (.c (.int .i64 23))))⟩])
  (.cond (.t 14)
  (.seq
  (.reg [
    ⟨(some 15), none, (.v (.mov (.t 1)))⟩,
    ⟨(some 16), none, (.v (.mov (.t 2)))⟩,
    ⟨(some 17), none, (.v (.bin .rem (.t 15) (.t 16)))⟩,
    ⟨(some 6), none, (.v (.mov (.t 17)))⟩,
    ⟨(some 7), none, (.v (.mov (.c (.int .i64 0))))⟩])
  .ret)
  .skip))
  (.seq
  (.reg [
    ⟨(some 18), none, (.v (.mov (.t 1)))⟩,
    ⟨(some 19), none, (.v (.mov (.t 2)))⟩,
    ⟨(some 20), none, (.v (.bin .quo (.t 18) (.t 19)))⟩,
    ⟨(some 8), none, (.v (.mov (.t 20)))⟩])
  (.reg [
    ⟨(some 21), none, (.v (.mov (.t 1)))⟩,
    ⟨(some 22), none, (.v (.bin .neq (.t 21) (.c (.int .i64 (-9223372036854775808)))))⟩,
    ⟨(some 23), none, (.v (.mov (.t 22)))⟩,
    ⟨(some 24), (some (23, false)), (.v (.mov (.t 2)))⟩,
    ⟨(some 25), (some (23, false)), (.v (.bin .neq (.t 24) (.c (.int .i64 (-1)))))⟩,
    ⟨(some 26), none, (.v (.pick (.t 23) (.c (.bool true)) (.t 25)))⟩,
    ⟨(some 9), none, (.v (.mov (.t 26)))⟩]))))))))))))
  (.seq
  (.seq
  (.reg [
    ⟨(some 72), none, (.v (.mov (.t 9)))⟩,
    ⟨(some 73), none, (.v (.un .not (.t 72)))⟩])
  (.cond (.t 73)
  (.seq
  (.reg [
    ⟨(some 6), none, (.v (.mov (.c (.int .i64 0))))⟩,
    ⟨(some 7), none, (.v (.mov (.c (.int .i64 8))))⟩])
  .ret)
  .skip))
  (.seq
  (.reg [
    ⟨(some 74), none, (.v (.mov (.t 8)))⟩,
    ⟨(some 6), none, (.v (.mov (.t 74)))⟩,
    ⟨(some 7), none, (.v (.mov (.c (.int .i64 0))))⟩])
  .ret))))),
  [(.t 6), (.t 7)]⟩
theorem comp24 : comp Try.prog Try.f24 = some sc24 := by kernel_rfl
/-- doorkeeper/val.Int -/
def sc25 : SFunc := ⟨1, 5,
  (.seq
  (.reg [
    ⟨(some 2), none, (.alloc [(.int .i64 0), (.int .i64 0), (.str []), (.nils 4)])⟩])
  (.seq
  (.reg [
    ⟨(some 3), none, (.v (.mov (.t 0)))⟩,
    ⟨(some 4), none, (.v (.build [(.int .i64 0), (.int .i64 0), (.str []), (.nils 4)] [(0, 1, (.c (.int .i64 1))), (1, 1, (.t 3))]))⟩,
    ⟨none, none, (.store 4 (.t 2) (.t 4))⟩])
  .ret)),
  [(.cell 2 (some 4))]⟩
theorem comp25 : comp Try.prog Try.f25 = some sc25 := by kernel_rfl
/-- doorkeeper/val.deep -/
def sc26 : SFunc := ⟨1, 23,
  (.seq
  (.reg [
    ⟨(some 2), none, (.v (.mov (.c (.int .i64 0))))⟩])
  (.seq
  (.reg [
    ⟨(some 3), none, (.v (.mov (.c (.int .i64 0))))⟩])
  (.seq
  (.seq
  (.reg [
    ⟨(some 6), none, (.v (.mov (.t 0)))⟩,
    ⟨(some 7), none, (.v (.len false (.t 6)))⟩,
    ⟨(some 8), none, (.v (.mov (.c (.int .i64 0))))⟩])
  (.block 0
  (.loop
  (.seq
  (.reg [
    ⟨(some 9), none, (.v (.bin .lss (.t 8) (.t 7)))⟩])
  (.seq
  (.cond (.t 9)
  .skip
  (.exit 0))
  (.seq
  (.block 1
  (.seq
  (.reg [
    ⟨(some 10), none, (.v (.iaddr 4 (.t 6) (.t 8)))⟩,
    ⟨(some 11), none, (.v (.load (some 4) (.t 10)))⟩,
    ⟨(some 5), none, (.alloc [(.int .i64 0), (.int .i64 0), (.str []), (.nils 4)])⟩,
    ⟨none, none, (.store 4 (.t 5) (.t 11))⟩])
  (.seq
  (.reg [
    ⟨(some 12), none, (.v (.faddr 0 (.t 5)))⟩,
    ⟨(some 13), none, (.v (.load none (.t 12)))⟩,
    ⟨(some 14), none, (.v (.bin .eql (.t 13) (.c (.int .i64 4))))⟩])
  (.cond (.t 14)
  (.reg [
    ⟨(some 15), none, (.v (.mov (.t 3)))⟩,
    ⟨(some 16), none, (.v (.faddr 3 (.t 5)))⟩,
    ⟨(some 17), none, (.v (.load none (.t 16)))⟩,
    ⟨(some 18), none, (.call (.c (.func 26 [])) [(.t 17)])⟩,
    ⟨(some 19), none, (.v (.bin .add (.c (.int .i64 1)) (.t 18)))⟩,
    ⟨(some 20), none, (.v (.mm true (.t 15) (.t 19)))⟩,
    ⟨(some 3), none, (.v (.mov (.t 20)))⟩])
  .skip))))
  (.reg [
    ⟨(some 21), none, (.v (.bin .add (.t 8) (.c (.int .i64 1))))⟩,
    ⟨(some 8), none, (.v (.mov (.t 21)))⟩])))))))
  (.seq
  (.reg [
    ⟨(some 22), none, (.v (.mov (.t 3)))⟩,
    ⟨(some 2), none, (.v (.mov (.t 22)))⟩])
  .ret)))),
  [(.t 2)]⟩
theorem comp26 : comp Try.prog Try.f26 = some sc26 := by kernel_rfl
/-- slices.Clone[[]doorkeeper/api.Val,doorkeeper/api.Val] -/
def sc27 : SFunc := ⟨1, 8,
  (.seq
  (.reg [
    ⟨(some 2), none, (.nilv 4)⟩])
  (.seq
  (.seq
  (.reg [
    ⟨(some 3), none, (.v (.mov (.t 0)))⟩,
    ⟨(some 4), none, (.v (.isnil false (.t 3)))⟩])
  (.cond (.t 4)
  (.seq
  (.reg [
    ⟨(some 2), none, (.nilv 4)⟩])
  .ret)
  .skip))
  (.seq
  (.reg [
    ⟨(some 5), none, (.bslice 4 0 [(.int .i64 0), (.int .i64 0), (.str []), (.nils 4)] [])⟩,
    ⟨(some 6), none, (.v (.mov (.t 0)))⟩,
    ⟨(some 7), none, (.append 4 56 (.t 5) (.t 6))⟩,
    ⟨(some 2), none, (.v (.mov (.t 7)))⟩])
  .ret))),
  [(.t 2)]⟩
theorem comp27 : comp Try.prog Try.f27 = some sc27 := by kernel_rfl
/-- doorkeeper/val.plain -/
def sc28 : SFunc := ⟨1, 76,
  (.seq
  (.reg [
    ⟨(some 1), none, (.box (.t 0))⟩,
    ⟨(some 2), none, (.v (.mov (.c (.bool false))))⟩])
  (.seq
  (.seq
  (.reg [
    ⟨(some 3), none, (.v (.faddr 0 (.t 1)))⟩,
    ⟨(some 4), none, (.v (.load none (.t 3)))⟩])
  (.block 0
  (.seq
  (.reg [
    ⟨(some 6), none, (.v (.bin .eql (.t 4) (.c (.int .i64 1))))⟩,
    ⟨(some 5), none, (.v (.mov (.t 6)))⟩])
  (.cond (.t 5)
  (.seq
  (.reg [
    ⟨(some 7), none, (.v (.faddr 2 (.t 1)))⟩,
    ⟨(some 8), none, (.v (.load none (.t 7)))⟩,
    ⟨(some 9), none, (.v (.bin .eql (.t 8) (.c (.str []))))⟩,
    ⟨(some 10), none, (.v (.mov (.t 9)))⟩,
    ⟨(some 11), (some (10, true)), (.v (.faddr 3 (.t 1)))⟩,
    ⟨(some 12), (some (10, true)), (.v (.load none (.t 11)))⟩,
    ⟨(some 13), (some (10, true)), (.v (.len false (.t 12)))⟩,
    ⟨(some 14), (some (10, true)), (.v (.bin .eql (.t 13) (.c (.int .i64 0))))⟩,
    ⟨(some 15), none, (.v (.pick (.t 10) (.t 14) (.c (.bool false))))⟩,
    ⟨(some 2), none, (.v (.mov (.t 15)))⟩])
  .ret)
  (.seq
  (.reg [
    ⟨(some 17), none, (.v (.bin .eql (.t 4) (.c (.int .i64 2))))⟩,
    ⟨(some 16), none, (.v (.mov (.t 17)))⟩])
  (.cond (.t 16)
  (.seq
  (.reg [
    ⟨(some 18), none, (.v (.faddr 1 (.t 1)))⟩,
    ⟨(some 19), none, (.v (.load none (.t 18)))⟩,
    ⟨(some 20), none, (.v (.bin .eql (.t 19) (.c (.int .i64 0))))⟩,
    ⟨(some 21), none, (.v (.mov (.t 20)))⟩,
    ⟨(some 22), (some (21, true)), (.v (.faddr 2 (.t 1)))⟩,
    ⟨(some 23), (some (21, true)), (.v (.load none (.t 22)))⟩,
    ⟨(some 24), (some (21, true)), (.v (.len true (.t 23)))⟩,
    ⟨(some 25), (some (21, true)), (.v (.bin .leq (.t 24) (.c (.int .i64 400))))⟩,
    ⟨(some 26), none, (.v (.pick (.t 21) (.t 25) (.c (.bool false))))⟩,
    ⟨(some 27), none, (.v (.mov (.t 26)))⟩,
    ⟨(some 28), (some (27, true)), (.v (.faddr 3 (.t 1)))⟩,
    ⟨(some 29), (some (27, true)), (.v (.load none (.t 28)))⟩,
    ⟨(some 30), (some (27, true)), (.v (.len false (.t 29)))⟩,
    ⟨(some 31), (some (27, true)), (.v (.bin .eql (.t 30) (.c (.int .i64 0))))⟩,
    ⟨(some 32), none, (.v (.pick (.t 27) (.t 31) (.c (.bool false))))⟩,
    ⟨(some 2), none, (.v (.mov (.t 32)))⟩])
  .ret)
  (.seq
  (.reg [
    ⟨(some 34), none, (.v (.bin .eql (.t 4) (.c (.int .i64 3))))⟩,
    ⟨(some 33), none, (.v (.mov (.t 34)))⟩])
  (.cond (.t 33)
  (.seq
  (.reg [
    ⟨(some 35), none, (.v (.faddr 1 (.t 1)))⟩,
    ⟨(some 36), none, (.v (.load none (.t 35)))⟩,
    ⟨(some 37), none, (.v (.bin .eql (.t 36) (.c (.int .i64 0))))⟩,
    ⟨(some 38), none, (.v (.mov (.t 37)))⟩,
    ⟨(some 39), (some (38, false)), (.v (.faddr 1 (.t 1)))⟩,
    ⟨(some 40), (some (38, false)), (.v (.load none (.t 39)))⟩,
    ⟨(some 41), (some (38, false)), (.v (.bin .eql (.t 40) (.c (.int .i64 1))))⟩,
    ⟨(some 42), none, (.v (.pick (.t 38) (.c (.bool true)) (.t 41)))⟩,
    ⟨(some 43), none, (.v (.mov (.t 42)))⟩,
    ⟨(some 44), (some (43, true)), (.v (.faddr 2 (.t 1)))⟩,
    ⟨(some 45), (some (43, true)), (.v (.load none (.t 44)))⟩,
    ⟨(some 46), (some (43, true)), (.v (.bin .eql (.t 45) (.c (.str []))))⟩,
    ⟨(some 47), none, (.v (.pick (.t 43) (.t 46) (.c (.bool false))))⟩,
    ⟨(some 48), none, (.v (.mov (.t 47)))⟩,
    ⟨(some 49), (some (48, true)), (.v (.faddr 3 (.t 1)))⟩,
    ⟨(some 50), (some (48, true)), (.v (.load none (.t 49)))⟩,
    ⟨(some 51), (some (48, true)), (.v (.len false (.t 50)))⟩,
    ⟨(some 52), (some (48, true)), (.v (.bin .eql (.t 51) (.c (.int .i64 0))))⟩,
    ⟨(some 53), none, (.v (.pick (.t 48) (.t 52) (.c (.bool false))))⟩,
    ⟨(some 2), none, (.v (.mov (.t 53)))⟩])
  .ret)
  (.seq
  (.reg [
    ⟨(some 55), none, (.v (.bin .eql (.t 4) (.c (.int .i64 4))))⟩,
    ⟨(some 54), none, (.v (.mov (.t 55)))⟩])
  (.cond (.t 54)
  (.seq
  (.reg [
    ⟨(some 56), none, (.v (.faddr 1 (.t 1)))⟩,
    ⟨(some 57), none, (.v (.load none (.t 56)))⟩,
    ⟨(some 58), none, (.v (.bin .eql (.t 57) (.c (.int .i64 0))))⟩,
    ⟨(some 59), none, (.v (.mov (.t 58)))⟩,
    ⟨(some 60), (some (59, true)), (.v (.faddr 2 (.t 1)))⟩,
    ⟨(some 61), (some (59, true)), (.v (.load none (.t 60)))⟩,
    ⟨(some 62), (some (59, true)), (.v (.bin .eql (.t 61) (.c (.str []))))⟩,
    ⟨(some 63), none, (.v (.pick (.t 59) (.t 62) (.c (.bool false))))⟩,
    ⟨(some 64), none, (.v (.mov (.t 63)))⟩,
    ⟨(some 65), (some (64, true)), (.v (.faddr 3 (.t 1)))⟩,
    ⟨(some 66), (some (64, true)), (.v (.load none (.t 65)))⟩,
    ⟨(some 67), (some (64, true)), (.v (.len false (.t 66)))⟩,
    ⟨(some 68), (some (64, true)), (.v (.bin .leq (.t 67) (.c (.int .i64 64))))⟩,
    ⟨(some 69), none, (.v (.pick (.t 64) (.t 68) (.c (.bool false))))⟩,
    ⟨(some 70), none, (.v (.mov (.t 69)))⟩,
    ⟨(some 71), (some (70, true)), (.v (.faddr 3 (.t 1)))⟩,
    ⟨(some 72), (some (70, true)), (.v (.load none (.t 71)))⟩,
    ⟨(some 73), (some (70, true)), (.call (.c (.func 37 [])) [(.t 72), (.c (.func 38 []))])⟩,
    ⟨(some 74), (some (70, true)), (.v (.un .not (.t 73)))⟩,
    ⟨(some 75), none, (.v (.pick (.t 70) (.t 74) (.c (.bool false))))⟩,
    ⟨(some 2), none, (.v (.mov (.t 75)))⟩])
  .ret)
  .skip))))))))))
  (.seq
  (.reg [
    ⟨(some 2), none, (.v (.mov (.c (.bool false))))⟩])
  .ret))),
  [(.t 2)]⟩
theorem comp28 : comp Try.prog Try.f28 = some sc28 := by kernel_rfl
/-- slices.EqualFunc[[]doorkeeper/api.Val,[]doorkeeper/api.Val,doorkeeper/api.Val,doorkeeper/api.Val] -/
def sc36 : SFunc := ⟨3, 32,
  (.seq
  (.reg [
    ⟨(some 6), none, (.v (.mov (.c (.bool false))))⟩])
  (.seq
  (.seq
  (.reg [
    ⟨(some 10), none, (.v (.mov (.t 0)))⟩,
    ⟨(some 11), none, (.v (.len false (.t 10)))⟩,
    ⟨(some 12), none, (.v (.mov (.t 1)))⟩,
    ⟨(some 13), none, (.v (.len false (.t 12)))⟩,
    ⟨(some 14), none, (.v (.bin .neq (.t 11) (.t 13)))⟩])
  (.cond (.t 14)
  (.seq
  (.reg [
    ⟨(some 6), none, (.v (.mov (.c (.bool false))))⟩])
  .ret)
  .skip))
  (.seq
  (.seq
  (.reg [
    ⟨(some 15), none, (.v (.mov (.t 0)))⟩,
    ⟨(some 16), none, (.v (.len false (.t 15)))⟩,
    ⟨(some 17), none, (.v (.mov (.c (.int .i64 0))))⟩])
  (.block 0
  (.loop
  (.seq
  (.reg [
    ⟨(some 18), none, (.v (.bin .lss (.t 17) (.t 16)))⟩])
  (.seq
  (.cond (.t 18)
  .skip
  (.exit 0))
  (.seq
  (.block 1
  (.seq
  (.reg [
    ⟨(some 19), none, (.v (.mov (.t 17)))⟩,
    ⟨(some 20), none, (.v (.iaddr 4 (.t 15) (.t 17)))⟩,
    ⟨(some 21), none, (.v (.load (some 4) (.t 20)))⟩,
    ⟨(some 8), none, (.alloc [(.int .i64 0), (.int .i64 0), (.str []), (.nils 4)])⟩,
    ⟨(some 7), none, (.v (.mov (.t 19)))⟩,
    ⟨none, none, (.store 4 (.t 8) (.t 21))⟩])
  (.seq
  (.reg [
    ⟨(some 22), none, (.v (.mov (.t 1)))⟩,
    ⟨(some 23), none, (.v (.mov (.t 7)))⟩,
    ⟨(some 24), none, (.v (.iaddr 4 (.t 22) (.t 23)))⟩,
    ⟨(some 25), none, (.v (.load (some 4) (.t 24)))⟩,
    ⟨(some 9), none, (.alloc [(.int .i64 0), (.int .i64 0), (.str []), (.nils 4)])⟩,
    ⟨none, none, (.store 4 (.t 9) (.t 25))⟩])
  (.seq
  (.reg [
    ⟨(some 26), none, (.v (.mov (.t 2)))⟩,
    ⟨(some 27), none, (.v (.load (some 4) (.t 8)))⟩,
    ⟨(some 28), none, (.v (.load (some 4) (.t 9)))⟩,
    ⟨(some 29), none, (.call (.t 26) [(.t 27), (.t 28)])⟩,
    ⟨(some 30), none, (.v (.un .not (.t 29)))⟩])
  (.cond (.t 30)
  (.seq
  (.reg [
    ⟨(some 6), none, (.v (.mov (.c (.bool false))))⟩])
  .ret)
  .skip)))))
  (.reg [
    ⟨(some 31), none, (.v (.bin .add (.t 17) (.c (.int .i64 1))))⟩,
    ⟨(some 17), none, (.v (.mov (.t 31)))⟩])))))))
  (.seq
  (.reg [
    ⟨(some 6), none, (.v (.mov (.c (.bool true))))⟩])
  .ret)))),
  [(.t 6)]⟩
theorem comp36 : comp Try.prog Try.f36 = some sc36 := by kernel_rfl
/-- slices.ContainsFunc[[]doorkeeper/api.Val,doorkeeper/api.Val] -/
def sc37 : SFunc := ⟨2, 9,
  (.seq
  (.reg [
    ⟨(some 4), none, (.v (.mov (.c (.bool false))))⟩])
  (.seq
  (.reg [
    ⟨(some 5), none, (.v (.mov (.t 0)))⟩,
    ⟨(some 6), none, (.v (.mov (.t 1)))⟩,
    ⟨(some 7), none, (.call (.c (.func 39 [])) [(.t 5), (.t 6)])⟩,
    ⟨(some 8), none, (.v (.bin .geq (.t 7) (.c (.int .i64 0))))⟩,
    ⟨(some 4), none, (.v (.mov (.t 8)))⟩])
  .ret)),
  [(.t 4)]⟩
theorem comp37 : comp Try.prog Try.f37 = some sc37 := by kernel_rfl
/-- doorkeeper/val.plain$1 -/
def sc38 : SFunc := ⟨1, 6,
  (.seq
  (.reg [
    ⟨(some 1), none, (.box (.t 0))⟩,
    ⟨(some 2), none, (.v (.mov (.c (.bool false))))⟩])
  (.seq
  (.reg [
    ⟨(some 3), none, (.v (.load (some 4) (.t 1)))⟩,
    ⟨(some 4), none, (.call (.c (.func 28 [])) [(.t 3)])⟩,
    ⟨(some 5), none, (.v (.un .not (.t 4)))⟩,
    ⟨(some 2), none, (.v (.mov (.t 5)))⟩])
  .ret)),
  [(.t 2)]⟩
theorem comp38 : comp Try.prog Try.f38 = some sc38 := by kernel_rfl
/-- slices.IndexFunc[[]doorkeeper/api.Val,doorkeeper/api.Val] -/
def sc39 : SFunc := ⟨2, 19,
  (.seq
  (.reg [
    ⟨(some 4), none, (.v (.mov (.c (.int .i64 0))))⟩])
  (.seq
  (.seq
  (.reg [
    ⟨(some 6), none, (.v (.mov (.t 0)))⟩,
    ⟨(some 7), none, (.v (.len false (.t 6)))⟩,
    ⟨(some 8), none, (.v (.mov (.c (.int .i64 0))))⟩])
  (.block 0
  (.loop
  (.seq
  (.reg [
    ⟨(some 9), none, (.v (.bin .lss (.t 8) (.t 7)))⟩])
  (.seq
  (.cond (.t 9)
  .skip
  (.exit 0))
  (.seq
  (.block 1
  (.seq
  (.reg [
    ⟨(some 10), none, (.v (.mov (.t 8)))⟩,
    ⟨(some 5), none, (.v (.mov (.t 10)))⟩])
  (.seq
  (.reg [
    ⟨(some 11), none, (.v (.mov (.t 1)))⟩,
    ⟨(some 12), none, (.v (.mov (.t 0)))⟩,
    ⟨(some 13), none, (.v (.mov (.t 5)))⟩,
    ⟨(some 14), none, (.v (.iaddr 4 (.t 12) (.t 13)))⟩,
    ⟨(some 15), none, (.v (.load (some 4) (.t 14)))⟩,
    ⟨(some 16), none, (.call (.t 11) [(.t 15)])⟩])
  (.cond (.t 16)
  (.seq
  (.reg [
    ⟨(some 17), none, (.v (.mov (.t 5)))⟩,
    ⟨(some 4), none, (.v (.mov (.t 17)))⟩])
  .ret)
  .skip))))
  (.reg [
    ⟨(some 18), none, (.v (.bin .add (.t 8) (.c (.int .i64 1))))⟩,
    ⟨(some 8), none, (.v (.mov (.t 18)))⟩])))))))
  (.seq
  (.reg [
    ⟨(some 4), none, (.v (.mov (.c (.int .i64 (-1)))))⟩])
  .ret))),
  [(.t 4)]⟩
theorem comp39 : comp Try.prog Try.f39 = some sc39 := by kernel_rfl
end Go.Proofs.Ytebflncfgjnkkaa.M
