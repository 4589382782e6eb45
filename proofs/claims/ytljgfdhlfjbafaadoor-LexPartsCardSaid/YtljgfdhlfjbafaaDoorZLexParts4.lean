/- Parts of a proof, one behind another: Sc2, Lt2, Wl1, Wl2, Wl3, Wl4, Wl5, Wl6, Wl7, Wl8, Wl9, Wl10, WlD, Wl11, Wl12, Wl13, Wl14, Sc3. -/
import Derived.Test.YtljgfdhlfjbafaaDoorZLexParts3
import Derived.Test.YtljgfdhlfjbafaaDoorProg
import Derived.KernelRfl
import Derived.Lib.ItoaLen
/- The machine's code of the functions, printed by a program of this session (sc2.py) out of the translation. Not trusted: Lean checks each by its own computation. -/
namespace Go.Proofs.YtljgfdhlfjbafaaDoor.M
open Go
set_option linter.unusedVariables false
/-- (doorkeeper/lex.tokens).skip -/
def c_lex_tokens_skip_1 : SC := .block 1 (.seq (.reg [⟨(some 17), none, (.v (.mov (.t 0)))⟩, ⟨(some 18), none, (.v (.nchk (.t 17)))⟩, ⟨(some 19), none, (.v (.faddr 0 (.t 18)))⟩, ⟨(some 20), none, (.v (.faddr 0 (.t 19)))⟩, ⟨(some 21), none, (.v (.load none (.t 20)))⟩, ⟨(some 22), none, (.call (.c (.func 26 [])) [(.t 21), (.c (.str [10]))])⟩, ⟨(some 16), none, (.v (.mov (.t 22)))⟩, ⟨(some 23), none, (.v (.extract 0 (.t 16)))⟩, ⟨(some 24), none, (.v (.extract 1 (.t 16)))⟩, ⟨(some 25), none, (.v (.extract 2 (.t 16)))⟩, ⟨(some 2), none, (.v (.mov (.t 23)))⟩, ⟨(some 3), none, (.v (.mov (.t 24)))⟩, ⟨(some 4), none, (.v (.mov (.t 25)))⟩]) (.seq (.reg [⟨(some 26), none, (.v (.mov (.t 0)))⟩, ⟨(some 27), none, (.v (.nchk (.t 26)))⟩, ⟨(some 28), none, (.v (.faddr 0 (.t 27)))⟩, ⟨(some 29), none, (.v (.mov (.t 2)))⟩, ⟨(some 30), none, (.v (.len true (.t 29)))⟩, ⟨(some 31), none, (.call (.c (.func 27 [])) [(.t 28), (.t 30)])⟩]) (.reg [⟨(some 32), none, (.v (.mov (.t 0)))⟩, ⟨(some 33), none, (.v (.nchk (.t 32)))⟩, ⟨(some 34), none, (.v (.faddr 0 (.t 33)))⟩, ⟨(some 35), none, (.bslice 1 1 [(.int .i64 0)] [(0, (.c (.int .i64 1)))])⟩, ⟨(some 36), none, (.call (.c (.func 24 [])) [(.t 34), (.t 35)])⟩])))
def b_lex_tokens_skip_1 : SC := .seq (.seq (.reg [⟨(some 10), none, (.v (.mov (.t 0)))⟩, ⟨(some 11), none, (.v (.nchk (.t 10)))⟩, ⟨(some 12), none, (.v (.faddr 0 (.t 11)))⟩, ⟨(some 13), none, (.v (.faddr 0 (.t 12)))⟩, ⟨(some 14), none, (.v (.load none (.t 13)))⟩, ⟨(some 15), none, (.call (.c (.func 25 [])) [(.t 14), (.c (.str [35]))])⟩]) (.cond (.t 15) .skip (.exit 0))) c_lex_tokens_skip_1
def c_lex_tokens_skip_2 : SC := .block 0 (.loop b_lex_tokens_skip_1)
def sc_lex_tokens_skip : SFunc := ⟨1, 37, .seq (.reg [⟨(some 5), none, (.v (.mov (.t 0)))⟩, ⟨(some 6), none, (.v (.nchk (.t 5)))⟩, ⟨(some 7), none, (.v (.faddr 0 (.t 6)))⟩, ⟨(some 8), none, (.bslice 1 1 [(.int .i64 0)] [(0, (.c (.int .i64 1)))])⟩, ⟨(some 9), none, (.call (.c (.func 24 [])) [(.t 7), (.t 8)])⟩]) c_lex_tokens_skip_2, []⟩
noncomputable def k_lex_tokens_skip_1 (SP : Prg) (x : EO) : CO := fin [] (inBlk 0 (x))
theorem U_lex_tokens_skip : type_of% (And.intro (fun (SP : Prg) (ac : Ac) => congrFun (congrArg (E SP) c_lex_tokens_skip_1.eq_1) ac) <| And.intro (fun (SP : Prg) (ac : Ac) => congrFun (congrArg (E SP) b_lex_tokens_skip_1.eq_1) ac) <| And.intro (fun (SP : Prg) (ac : Ac) => congrFun (congrArg (E SP) c_lex_tokens_skip_2.eq_1) ac) <| sc_lex_tokens_skip.eq_1) := And.intro (fun (SP : Prg) (ac : Ac) => congrFun (congrArg (E SP) c_lex_tokens_skip_1.eq_1) ac) <| And.intro (fun (SP : Prg) (ac : Ac) => congrFun (congrArg (E SP) b_lex_tokens_skip_1.eq_1) ac) <| And.intro (fun (SP : Prg) (ac : Ac) => congrFun (congrArg (E SP) c_lex_tokens_skip_2.eq_1) ac) <| sc_lex_tokens_skip.eq_1
theorem comp_lex_tokens_skip : comp Tryd.prog Tryd.f18 = some sc_lex_tokens_skip := by kernel_rfl
/-- (doorkeeper/lex.tokens).name -/
def sc_lex_tokens_name : SFunc := ⟨1, 14, .seq (.reg [⟨(some 2), none, (.alloc [(.int .i64 0), (.str []), (.int .i64 0), (.nils 2), (.int .i64 0)])⟩, ⟨(some 3), none, (.v (.mov (.c (.bool false))))⟩]) (.seq (.reg [⟨(some 5), none, (.v (.mov (.t 0)))⟩, ⟨(some 6), none, (.v (.nchk (.t 5)))⟩, ⟨(some 7), none, (.v (.faddr 0 (.t 6)))⟩, ⟨(some 8), none, (.bslice 1 2 [(.int .i64 0)] [(0, (.c (.int .i64 2))), (1, (.c (.int .i64 3)))])⟩, ⟨(some 9), none, (.call (.c (.func 24 [])) [(.t 7), (.t 8)])⟩, ⟨(some 4), none, (.v (.mov (.t 9)))⟩]) (.seq (.reg [⟨(some 10), none, (.v (.mov (.t 4)))⟩, ⟨(some 11), none, (.v (.build [(.int .i64 0), (.str []), (.int .i64 0), (.nils 2), (.int .i64 0)] [(0, 1, (.c (.int .i64 3))), (1, 1, (.t 10))]))⟩, ⟨(some 12), none, (.v (.mov (.t 4)))⟩, ⟨(some 13), none, (.call (.c (.func 21 [])) [(.t 12)])⟩, ⟨none, none, (.store 5 (.t 2) (.t 11))⟩, ⟨(some 3), none, (.v (.mov (.t 13)))⟩]) .ret)), [(.cell 2 (some 5)), (.t 3)]⟩
theorem U_lex_tokens_name : type_of% (sc_lex_tokens_name.eq_1) := sc_lex_tokens_name.eq_1
theorem comp_lex_tokens_name : comp Tryd.prog Tryd.f30 = some sc_lex_tokens_name := by kernel_rfl
/-- (doorkeeper/lex.tokens).number -/
def c_lex_tokens_number_1 : SC := .seq (.reg [⟨(some 7), none, (.v (.mov (.t 0)))⟩, ⟨(some 8), none, (.v (.nchk (.t 7)))⟩, ⟨(some 9), none, (.v (.faddr 0 (.t 8)))⟩, ⟨(some 10), none, (.bslice 1 1 [(.int .i64 0)] [(0, (.c (.int .i64 3)))])⟩, ⟨(some 11), none, (.call (.c (.func 24 [])) [(.t 9), (.t 10)])⟩, ⟨(some 4), none, (.v (.mov (.t 11)))⟩]) (.seq (.reg [⟨(some 13), none, (.v (.mov (.t 4)))⟩, ⟨(some 14), none, (.call (.c (.func 44 [])) [(.t 13)])⟩, ⟨(some 12), none, (.v (.mov (.t 14)))⟩, ⟨(some 15), none, (.v (.extract 0 (.t 12)))⟩, ⟨(some 16), none, (.v (.extract 1 (.t 12)))⟩, ⟨(some 5), none, (.v (.mov (.t 15)))⟩, ⟨(some 6), none, (.v (.mov (.t 16)))⟩]) (.seq (.reg [⟨(some 17), none, (.v (.mov (.t 5)))⟩, ⟨(some 18), none, (.v (.build [(.int .i64 0), (.str []), (.int .i64 0), (.nils 2), (.int .i64 0)] [(0, 1, (.c (.int .i64 1))), (2, 1, (.t 17))]))⟩, ⟨(some 19), none, (.v (.mov (.t 6)))⟩, ⟨(some 20), none, (.v (.isnile false (.t 19)))⟩, ⟨(some 21), none, (.v (.mov (.t 20)))⟩, ⟨(some 22), (some (21, true)), (.v (.mov (.t 5)))⟩, ⟨(some 23), (some (21, true)), (.call (.c (.func 45 [])) [(.t 22)])⟩, ⟨(some 24), (some (21, true)), (.v (.mov (.t 4)))⟩, ⟨(some 25), (some (21, true)), (.v (.bin .eql (.t 23) (.t 24)))⟩, ⟨(some 26), none, (.v (.pick (.t 21) (.t 25) (.c (.bool false))))⟩, ⟨none, none, (.store 5 (.t 2) (.t 18))⟩, ⟨(some 3), none, (.v (.mov (.t 26)))⟩]) .ret))
def sc_lex_tokens_number : SFunc := ⟨1, 27, .seq (.reg [⟨(some 2), none, (.alloc [(.int .i64 0), (.str []), (.int .i64 0), (.nils 2), (.int .i64 0)])⟩, ⟨(some 3), none, (.v (.mov (.c (.bool false))))⟩]) c_lex_tokens_number_1, [(.cell 2 (some 5)), (.t 3)]⟩
theorem U_lex_tokens_number : type_of% (And.intro (fun (SP : Prg) (ac : Ac) => congrFun (congrArg (E SP) c_lex_tokens_number_1.eq_1) ac) <| sc_lex_tokens_number.eq_1) := And.intro (fun (SP : Prg) (ac : Ac) => congrFun (congrArg (E SP) c_lex_tokens_number_1.eq_1) ac) <| sc_lex_tokens_number.eq_1
theorem comp_lex_tokens_number : comp Tryd.prog Tryd.f31 = some sc_lex_tokens_number := by kernel_rfl
/-- (doorkeeper/lex.tokens).quoted -/
def c_lex_tokens_quoted_1 : SC := .seq (.reg [⟨(some 98), none, (.v (.build [(.int .i64 0), (.str []), (.int .i64 0), (.nils 2), (.int .i64 0)] []))⟩, ⟨none, none, (.store 5 (.t 2) (.t 98))⟩, ⟨(some 3), none, (.v (.mov (.c (.bool false))))⟩]) .ret
def c_lex_tokens_quoted_2 : SC := .seq (.seq (.reg [⟨(some 83), none, (.v (.mov (.t 9)))⟩, ⟨(some 84), none, (.v (.un .not (.t 83)))⟩]) (.cond (.t 84) (.seq (.reg [⟨(some 85), none, (.v (.build [(.int .i64 0), (.str []), (.int .i64 0), (.nils 2), (.int .i64 0)] []))⟩, ⟨none, none, (.store 5 (.t 2) (.t 85))⟩, ⟨(some 3), none, (.v (.mov (.c (.bool false))))⟩]) .ret) .skip)) (.seq (.reg [⟨(some 86), none, (.v (.load none (.t 4)))⟩, ⟨(some 87), none, (.v (.mov (.t 8)))⟩, ⟨(some 88), none, (.v (.build [(.bool false), (.str [])] [(0, 1, (.c (.bool true))), (1, 1, (.t 87))]))⟩, ⟨(some 89), none, (.bslice 2 1 [(.bool false), (.str [])] [(0, (.t 88))])⟩, ⟨(some 90), none, (.append 2 24 (.t 86) (.t 89))⟩, ⟨none, none, (.store 1 (.t 4) (.t 90))⟩]) (.reg [⟨(some 91), none, (.v (.mov (.t 0)))⟩, ⟨(some 92), none, (.v (.nchk (.t 91)))⟩, ⟨(some 93), none, (.v (.faddr 0 (.t 92)))⟩, ⟨(some 94), none, (.v (.mov (.t 8)))⟩, ⟨(some 95), none, (.v (.len true (.t 94)))⟩, ⟨(some 96), none, (.v (.bin .add (.c (.int .i64 3)) (.t 95)))⟩, ⟨(some 97), none, (.call (.c (.func 27 [])) [(.t 93), (.t 96)])⟩]))
def c_lex_tokens_quoted_3 : SC := .cond (.t 67) (.seq (.reg [⟨(some 75), none, (.v (.mov (.t 0)))⟩, ⟨(some 76), none, (.v (.nchk (.t 75)))⟩, ⟨(some 77), none, (.v (.faddr 0 (.t 76)))⟩, ⟨(some 78), none, (.v (.faddr 0 (.t 77)))⟩, ⟨(some 79), none, (.v (.load none (.t 78)))⟩, ⟨(some 80), none, (.call (.c (.func 48 [])) [(.t 79)])⟩, ⟨(some 74), none, (.v (.mov (.t 80)))⟩, ⟨(some 81), none, (.v (.extract 0 (.t 74)))⟩, ⟨(some 82), none, (.v (.extract 1 (.t 74)))⟩, ⟨(some 8), none, (.v (.mov (.t 81)))⟩, ⟨(some 9), none, (.v (.mov (.t 82)))⟩]) c_lex_tokens_quoted_2) (.seq (.reg [⟨(some 26), none, (.v (.mov (.t 5)))⟩, ⟨(some 27), none, (.call (.c (.func 47 [])) [(.t 4), (.t 26)])⟩]) (.reg [⟨(some 28), none, (.v (.mov (.t 0)))⟩, ⟨(some 29), none, (.v (.nchk (.t 28)))⟩, ⟨(some 30), none, (.v (.faddr 0 (.t 29)))⟩, ⟨(some 31), none, (.call (.c (.func 27 [])) [(.t 30), (.c (.int .i64 1))])⟩]))
def c_lex_tokens_quoted_4 : SC := .cond (.t 46) (.seq (.reg [⟨(some 50), none, (.v (.mov (.t 0)))⟩, ⟨(some 51), none, (.v (.nchk (.t 50)))⟩, ⟨(some 52), none, (.v (.faddr 0 (.t 51)))⟩, ⟨(some 53), none, (.v (.faddr 0 (.t 52)))⟩, ⟨(some 54), none, (.v (.load none (.t 53)))⟩, ⟨(some 55), none, (.call (.c (.func 46 [])) [(.t 54)])⟩, ⟨(some 49), none, (.v (.mov (.t 55)))⟩, ⟨(some 56), none, (.v (.extract 0 (.t 49)))⟩, ⟨(some 57), none, (.v (.extract 1 (.t 49)))⟩, ⟨(some 6), none, (.v (.mov (.t 56)))⟩, ⟨(some 7), none, (.v (.mov (.t 57)))⟩]) (.seq (.seq (.reg [⟨(some 58), none, (.v (.mov (.t 7)))⟩, ⟨(some 59), none, (.v (.un .not (.t 58)))⟩]) (.cond (.t 59) (.seq (.reg [⟨(some 60), none, (.v (.build [(.int .i64 0), (.str []), (.int .i64 0), (.nils 2), (.int .i64 0)] []))⟩, ⟨none, none, (.store 5 (.t 2) (.t 60))⟩, ⟨(some 3), none, (.v (.mov (.c (.bool false))))⟩]) .ret) .skip)) (.seq (.reg [⟨(some 61), none, (.v (.mov (.t 6)))⟩, ⟨(some 62), none, (.call (.c (.func 47 [])) [(.t 4), (.t 61)])⟩]) (.reg [⟨(some 63), none, (.v (.mov (.t 0)))⟩, ⟨(some 64), none, (.v (.nchk (.t 63)))⟩, ⟨(some 65), none, (.v (.faddr 0 (.t 64)))⟩, ⟨(some 66), none, (.call (.c (.func 27 [])) [(.t 65), (.c (.int .i64 2))])⟩])))) (.seq (.reg [⟨(some 68), none, (.v (.mov (.t 0)))⟩, ⟨(some 69), none, (.v (.nchk (.t 68)))⟩, ⟨(some 70), none, (.v (.faddr 0 (.t 69)))⟩, ⟨(some 71), none, (.v (.faddr 0 (.t 70)))⟩, ⟨(some 72), none, (.v (.load none (.t 71)))⟩, ⟨(some 73), none, (.call (.c (.func 25 [])) [(.t 72), (.c (.str [36, 123]))])⟩, ⟨(some 67), none, (.v (.mov (.t 73)))⟩]) c_lex_tokens_quoted_3)
def c_lex_tokens_quoted_5 : SC := .cond (.t 42) (.seq (.reg [⟨(some 45), none, (.v (.build [(.int .i64 0), (.str []), (.int .i64 0), (.nils 2), (.int .i64 0)] []))⟩, ⟨none, none, (.store 5 (.t 2) (.t 45))⟩, ⟨(some 3), none, (.v (.mov (.c (.bool false))))⟩]) .ret) (.seq (.reg [⟨(some 47), none, (.v (.mov (.t 5)))⟩, ⟨(some 48), none, (.v (.bin .eql (.t 47) (.c (.int .u8 92))))⟩, ⟨(some 46), none, (.v (.mov (.t 48)))⟩]) c_lex_tokens_quoted_4)
def c_lex_tokens_quoted_6 : SC := .cond (.t 32) (.seq (.reg [⟨(some 36), none, (.v (.mov (.t 0)))⟩, ⟨(some 37), none, (.v (.nchk (.t 36)))⟩, ⟨(some 38), none, (.v (.faddr 0 (.t 37)))⟩, ⟨(some 39), none, (.call (.c (.func 27 [])) [(.t 38), (.c (.int .i64 1))])⟩]) (.seq (.reg [⟨(some 40), none, (.v (.load none (.t 4)))⟩, ⟨(some 41), none, (.v (.build [(.int .i64 0), (.str []), (.int .i64 0), (.nils 2), (.int .i64 0)] [(0, 1, (.c (.int .i64 2))), (3, 1, (.t 40))]))⟩, ⟨none, none, (.store 5 (.t 2) (.t 41))⟩, ⟨(some 3), none, (.v (.mov (.c (.bool true))))⟩]) .ret)) (.seq (.reg [⟨(some 43), none, (.v (.mov (.t 5)))⟩, ⟨(some 44), none, (.v (.bin .lss (.t 43) (.c (.int .u8 32))))⟩, ⟨(some 42), none, (.v (.mov (.t 44)))⟩]) c_lex_tokens_quoted_5)
def c_lex_tokens_quoted_7 : SC := .block 2 (.seq (.reg [⟨(some 33), none, (.v (.mov (.t 5)))⟩, ⟨(some 34), none, (.call (.c (.func 29 [])) [(.t 33)])⟩, ⟨(some 35), none, (.v (.bin .eql (.t 34) (.c (.int .i64 4))))⟩, ⟨(some 32), none, (.v (.mov (.t 35)))⟩]) c_lex_tokens_quoted_6)
def c_lex_tokens_quoted_8 : SC := .block 1 (.seq (.reg [⟨(some 20), none, (.v (.mov (.t 0)))⟩, ⟨(some 21), none, (.v (.nchk (.t 20)))⟩, ⟨(some 22), none, (.v (.faddr 0 (.t 21)))⟩, ⟨(some 23), none, (.v (.faddr 0 (.t 22)))⟩, ⟨(some 24), none, (.v (.load none (.t 23)))⟩, ⟨(some 25), none, (.v (.istr (.t 24) (.c (.int .i64 0))))⟩, ⟨(some 5), none, (.v (.mov (.t 25)))⟩]) c_lex_tokens_quoted_7)
def b_lex_tokens_quoted_1 : SC := .seq (.seq (.reg [⟨(some 14), none, (.v (.mov (.t 0)))⟩, ⟨(some 15), none, (.v (.nchk (.t 14)))⟩, ⟨(some 16), none, (.v (.faddr 0 (.t 15)))⟩, ⟨(some 17), none, (.v (.faddr 0 (.t 16)))⟩, ⟨(some 18), none, (.v (.load none (.t 17)))⟩, ⟨(some 19), none, (.v (.bin .neq (.t 18) (.c (.str []))))⟩]) (.cond (.t 19) .skip (.exit 0))) c_lex_tokens_quoted_8
def c_lex_tokens_quoted_9 : SC := .seq (.block 0 (.loop b_lex_tokens_quoted_1)) c_lex_tokens_quoted_1
def c_lex_tokens_quoted_10 : SC := .seq (.reg [⟨(some 10), none, (.v (.mov (.t 0)))⟩, ⟨(some 11), none, (.v (.nchk (.t 10)))⟩, ⟨(some 12), none, (.v (.faddr 0 (.t 11)))⟩, ⟨(some 13), none, (.call (.c (.func 27 [])) [(.t 12), (.c (.int .i64 1))])⟩]) c_lex_tokens_quoted_9
def c_lex_tokens_quoted_11 : SC := .seq (.reg [⟨(some 4), none, (.alloc [(.nils 2)])⟩]) c_lex_tokens_quoted_10
def sc_lex_tokens_quoted : SFunc := ⟨1, 99, .seq (.reg [⟨(some 2), none, (.alloc [(.int .i64 0), (.str []), (.int .i64 0), (.nils 2), (.int .i64 0)])⟩, ⟨(some 3), none, (.v (.mov (.c (.bool false))))⟩]) c_lex_tokens_quoted_11, [(.cell 2 (some 5)), (.t 3)]⟩
noncomputable def k_lex_tokens_quoted_1 (SP : Prg) (x : EO) : CO := fin [(.cell 2 (some 5)), (.t 3)] (thC SP (inBlk 0 (x)) c_lex_tokens_quoted_1)
theorem U_lex_tokens_quoted : type_of% (And.intro (fun (SP : Prg) (ac : Ac) => congrFun (congrArg (E SP) c_lex_tokens_quoted_1.eq_1) ac) <| And.intro (fun (SP : Prg) (ac : Ac) => congrFun (congrArg (E SP) c_lex_tokens_quoted_2.eq_1) ac) <| And.intro (fun (SP : Prg) (ac : Ac) => congrFun (congrArg (E SP) c_lex_tokens_quoted_3.eq_1) ac) <| And.intro (fun (SP : Prg) (ac : Ac) => congrFun (congrArg (E SP) c_lex_tokens_quoted_4.eq_1) ac) <| And.intro (fun (SP : Prg) (ac : Ac) => congrFun (congrArg (E SP) c_lex_tokens_quoted_5.eq_1) ac) <| And.intro (fun (SP : Prg) (ac : Ac) => congrFun (congrArg (E SP) c_lex_tokens_quoted_6.eq_1) ac) <| And.intro (fun (SP : Prg) (ac : Ac) => congrFun (congrArg (E SP) c_lex_tokens_quoted_7.eq_1) ac) <| And.intro (fun (SP : Prg) (ac : Ac) => congrFun (congrArg (E SP) c_lex_tokens_quoted_8.eq_1) ac) <| And.intro (fun (SP : Prg) (ac : Ac) => congrFun (congrArg (E SP) b_lex_tokens_quoted_1.eq_1) ac) <| And.intro (fun (SP : Prg) (ac : Ac) => congrFun (congrArg (E SP) c_lex_tokens_quoted_9.eq_1) ac) <| And.intro (fun (SP : Prg) (ac : Ac) => congrFun (congrArg (E SP) c_lex_tokens_quoted_10.eq_1) ac) <| And.intro (fun (SP : Prg) (ac : Ac) => congrFun (congrArg (E SP) c_lex_tokens_quoted_11.eq_1) ac) <| sc_lex_tokens_quoted.eq_1) := And.intro (fun (SP : Prg) (ac : Ac) => congrFun (congrArg (E SP) c_lex_tokens_quoted_1.eq_1) ac) <| And.intro (fun (SP : Prg) (ac : Ac) => congrFun (congrArg (E SP) c_lex_tokens_quoted_2.eq_1) ac) <| And.intro (fun (SP : Prg) (ac : Ac) => congrFun (congrArg (E SP) c_lex_tokens_quoted_3.eq_1) ac) <| And.intro (fun (SP : Prg) (ac : Ac) => congrFun (congrArg (E SP) c_lex_tokens_quoted_4.eq_1) ac) <| And.intro (fun (SP : Prg) (ac : Ac) => congrFun (congrArg (E SP) c_lex_tokens_quoted_5.eq_1) ac) <| And.intro (fun (SP : Prg) (ac : Ac) => congrFun (congrArg (E SP) c_lex_tokens_quoted_6.eq_1) ac) <| And.intro (fun (SP : Prg) (ac : Ac) => congrFun (congrArg (E SP) c_lex_tokens_quoted_7.eq_1) ac) <| And.intro (fun (SP : Prg) (ac : Ac) => congrFun (congrArg (E SP) c_lex_tokens_quoted_8.eq_1) ac) <| And.intro (fun (SP : Prg) (ac : Ac) => congrFun (congrArg (E SP) b_lex_tokens_quoted_1.eq_1) ac) <| And.intro (fun (SP : Prg) (ac : Ac) => congrFun (congrArg (E SP) c_lex_tokens_quoted_9.eq_1) ac) <| And.intro (fun (SP : Prg) (ac : Ac) => congrFun (congrArg (E SP) c_lex_tokens_quoted_10.eq_1) ac) <| And.intro (fun (SP : Prg) (ac : Ac) => congrFun (congrArg (E SP) c_lex_tokens_quoted_11.eq_1) ac) <| sc_lex_tokens_quoted.eq_1
theorem comp_lex_tokens_quoted : comp Tryd.prog Tryd.f32 = some sc_lex_tokens_quoted := by kernel_rfl
/-- (doorkeeper/lex.tokens).sign -/
def c_lex_tokens_sign_1 : SC := .seq (.reg [⟨(some 28), none, (.v (.mov (.t 0)))⟩, ⟨(some 29), none, (.v (.nchk (.t 28)))⟩, ⟨(some 30), none, (.v (.faddr 0 (.t 29)))⟩, ⟨(some 31), none, (.v (.mov (.t 4)))⟩, ⟨(some 32), none, (.v (.len true (.t 31)))⟩, ⟨(some 33), none, (.call (.c (.func 27 [])) [(.t 30), (.t 32)])⟩, ⟨(some 34), none, (.v (.build [(.int .i64 0), (.str []), (.int .i64 0), (.nils 2), (.int .i64 0)] [(0, 1, (.c (.int .i64 4))), (1, 1, (.t 33))]))⟩, ⟨none, none, (.store 5 (.t 2) (.t 34))⟩, ⟨(some 3), none, (.v (.mov (.c (.bool true))))⟩]) .ret
def c_lex_tokens_sign_2 : SC := .seq (.seq (.reg [⟨(some 18), none, (.bslice 1 6 [(.str [])] [(0, (.c (.str [61, 61]))), (1, (.c (.str [33, 61]))), (2, (.c (.str [60, 61]))), (3, (.c (.str [62, 61]))), (4, (.c (.str [38, 38]))), (5, (.c (.str [124, 124])))])⟩, ⟨(some 19), none, (.v (.mov (.t 4)))⟩, ⟨(some 20), none, (.call (.c (.func 42 [])) [(.t 18), (.t 19)])⟩, ⟨(some 21), none, (.v (.un .not (.t 20)))⟩]) (.cond (.t 21) (.seq (.reg [⟨(some 22), none, (.v (.mov (.t 4)))⟩, ⟨(some 23), none, (.v (.sls (.t 22) none (some (.c (.int .i64 1)))))⟩, ⟨(some 4), none, (.v (.mov (.t 23)))⟩]) (.seq (.reg [⟨(some 24), none, (.v (.mov (.t 4)))⟩, ⟨(some 25), none, (.call (.c (.func 43 [])) [(.c (.str [123, 125, 91, 93, 40, 41, 61, 44, 46, 43, 45, 42, 47, 37, 60, 62, 33, 63, 58])), (.t 24)])⟩, ⟨(some 26), none, (.v (.un .not (.t 25)))⟩]) (.cond (.t 26) (.seq (.reg [⟨(some 27), none, (.v (.build [(.int .i64 0), (.str []), (.int .i64 0), (.nils 2), (.int .i64 0)] []))⟩, ⟨none, none, (.store 5 (.t 2) (.t 27))⟩, ⟨(some 3), none, (.v (.mov (.c (.bool false))))⟩]) .ret) .skip))) .skip)) c_lex_tokens_sign_1
def c_lex_tokens_sign_3 : SC := .seq (.dreg [⟨(some 5), none, (.v (.mov (.t 0)))⟩, ⟨(some 6), none, (.v (.nchk (.t 5)))⟩, ⟨(some 7), none, (.v (.faddr 0 (.t 6)))⟩, ⟨(some 8), none, (.v (.faddr 0 (.t 7)))⟩, ⟨(some 9), none, (.v (.load none (.t 8)))⟩, ⟨(some 10), none, (.v (.mov (.t 0)))⟩, ⟨(some 11), none, (.v (.nchk (.t 10)))⟩, ⟨(some 12), none, (.v (.faddr 0 (.t 11)))⟩, ⟨(some 13), none, (.v (.faddr 0 (.t 12)))⟩, ⟨(some 14), none, (.v (.load none (.t 13)))⟩, ⟨(some 15), none, (.v (.len true (.t 14)))⟩, ⟨(some 16), none, (.v (.mm false (.c (.int .i64 2)) (.t 15)))⟩, ⟨(some 17), none, (.v (.sls (.t 9) none (some (.t 16))))⟩, ⟨(some 4), none, (.v (.mov (.t 17)))⟩] [false, false, false, false, false, false, false, false, false, false, false, false, true, true]) c_lex_tokens_sign_2
def sc_lex_tokens_sign : SFunc := ⟨1, 35, .seq (.reg [⟨(some 2), none, (.alloc [(.int .i64 0), (.str []), (.int .i64 0), (.nils 2), (.int .i64 0)])⟩, ⟨(some 3), none, (.v (.mov (.c (.bool false))))⟩]) c_lex_tokens_sign_3, [(.cell 2 (some 5)), (.t 3)]⟩
theorem U_lex_tokens_sign : type_of% (And.intro (fun (SP : Prg) (ac : Ac) => congrFun (congrArg (E SP) c_lex_tokens_sign_1.eq_1) ac) <| And.intro (fun (SP : Prg) (ac : Ac) => congrFun (congrArg (E SP) c_lex_tokens_sign_2.eq_1) ac) <| And.intro (fun (SP : Prg) (ac : Ac) => congrFun (congrArg (E SP) c_lex_tokens_sign_3.eq_1) ac) <| sc_lex_tokens_sign.eq_1) := And.intro (fun (SP : Prg) (ac : Ac) => congrFun (congrArg (E SP) c_lex_tokens_sign_1.eq_1) ac) <| And.intro (fun (SP : Prg) (ac : Ac) => congrFun (congrArg (E SP) c_lex_tokens_sign_2.eq_1) ac) <| And.intro (fun (SP : Prg) (ac : Ac) => congrFun (congrArg (E SP) c_lex_tokens_sign_3.eq_1) ac) <| sc_lex_tokens_sign.eq_1
theorem comp_lex_tokens_sign : comp Tryd.prog Tryd.f28 = some sc_lex_tokens_sign := by kernel_rfl
/-- (doorkeeper/lex.tokens).next -/
def c_lex_tokens_next_1 : SC := .seq (.reg [⟨(some 34), none, (.v (.mov (.t 4)))⟩, ⟨(some 35), none, (.call (.t 34) [])⟩, ⟨(some 33), none, (.v (.mov (.t 35)))⟩, ⟨(some 36), none, (.v (.extract 0 (.t 33)))⟩, ⟨(some 37), none, (.v (.extract 1 (.t 33)))⟩, ⟨(some 5), none, (.alloc [(.int .i64 0), (.str []), (.int .i64 0), (.nils 2), (.int .i64 0)])⟩, ⟨none, none, (.store 5 (.t 5) (.t 36))⟩, ⟨(some 6), none, (.v (.mov (.t 37)))⟩]) (.seq (.reg [⟨(some 38), none, (.v (.mov (.t 3)))⟩, ⟨(some 39), none, (.v (.faddr 4 (.t 5)))⟩, ⟨none, none, (.store 1 (.t 39) (.t 38))⟩]) (.seq (.dreg [⟨(some 40), none, (.v (.mov (.t 0)))⟩, ⟨(some 41), none, (.v (.mov (.t 0)))⟩, ⟨(some 42), none, (.v (.nchk (.t 41)))⟩, ⟨(some 43), none, (.v (.faddr 2 (.t 42)))⟩, ⟨(some 44), none, (.v (.load none (.t 43)))⟩, ⟨(some 45), none, (.v (.load (some 5) (.t 5)))⟩, ⟨(some 46), none, (.bslice 5 1 [(.int .i64 0), (.str []), (.int .i64 0), (.nils 2), (.int .i64 0)] [(0, (.t 45))])⟩, ⟨(some 47), none, (.append 5 64 (.t 44) (.t 46))⟩, ⟨(some 48), none, (.v (.nchk (.t 40)))⟩, ⟨(some 49), none, (.v (.faddr 2 (.t 48)))⟩, ⟨none, none, (.store 1 (.t 49) (.t 47))⟩] [false, false, false, false, false, false, false, true, true, true, true]) (.seq (.reg [⟨(some 50), none, (.v (.mov (.t 6)))⟩, ⟨(some 2), none, (.v (.mov (.t 50)))⟩]) .ret)))
def c_lex_tokens_next_2 : SC := .seq (.seq (.reg [⟨(some 14), none, (.v (.mov (.t 0)))⟩, ⟨(some 15), none, (.v (.nchk (.t 14)))⟩, ⟨(some 16), none, (.v (.faddr 0 (.t 15)))⟩, ⟨(some 17), none, (.v (.faddr 0 (.t 16)))⟩, ⟨(some 18), none, (.v (.load none (.t 17)))⟩, ⟨(some 19), none, (.v (.istr (.t 18) (.c (.int .i64 0))))⟩, ⟨(some 20), none, (.call (.c (.func 29 [])) [(.t 19)])⟩]) (.block 0 (.seq (.reg [⟨(some 22), none, (.v (.bin .eql (.t 20) (.c (.int .i64 2))))⟩, ⟨(some 21), none, (.v (.mov (.t 22)))⟩]) (.cond (.t 21) (.reg [⟨(some 23), none, (.v (.mov (.t 0)))⟩, ⟨(some 24), none, (.v (.meth 30 [(.t 23)]))⟩, ⟨(some 4), none, (.v (.mov (.t 24)))⟩]) (.seq (.reg [⟨(some 26), none, (.v (.bin .eql (.t 20) (.c (.int .i64 3))))⟩, ⟨(some 25), none, (.v (.mov (.t 26)))⟩]) (.cond (.t 25) (.reg [⟨(some 27), none, (.v (.mov (.t 0)))⟩, ⟨(some 28), none, (.v (.meth 31 [(.t 27)]))⟩, ⟨(some 4), none, (.v (.mov (.t 28)))⟩]) (.seq (.reg [⟨(some 30), none, (.v (.bin .eql (.t 20) (.c (.int .i64 4))))⟩, ⟨(some 29), none, (.v (.mov (.t 30)))⟩]) (.cond (.t 29) (.reg [⟨(some 31), none, (.v (.mov (.t 0)))⟩, ⟨(some 32), none, (.v (.meth 32 [(.t 31)]))⟩, ⟨(some 4), none, (.v (.mov (.t 32)))⟩]) .skip)))))))) c_lex_tokens_next_1
def c_lex_tokens_next_3 : SC := .seq (.reg [⟨(some 12), none, (.v (.mov (.t 0)))⟩, ⟨(some 13), none, (.v (.meth 28 [(.t 12)]))⟩, ⟨(some 4), none, (.v (.mov (.t 13)))⟩]) c_lex_tokens_next_2
def c_lex_tokens_next_4 : SC := .seq (.reg [⟨(some 7), none, (.v (.mov (.t 0)))⟩, ⟨(some 8), none, (.v (.nchk (.t 7)))⟩, ⟨(some 9), none, (.v (.faddr 0 (.t 8)))⟩, ⟨(some 10), none, (.v (.faddr 1 (.t 9)))⟩, ⟨(some 11), none, (.v (.load none (.t 10)))⟩, ⟨(some 3), none, (.v (.mov (.t 11)))⟩]) c_lex_tokens_next_3
def sc_lex_tokens_next : SFunc := ⟨1, 51, .seq (.reg [⟨(some 2), none, (.v (.mov (.c (.bool false))))⟩]) c_lex_tokens_next_4, [(.t 2)]⟩
theorem U_lex_tokens_next : type_of% (And.intro (fun (SP : Prg) (ac : Ac) => congrFun (congrArg (E SP) c_lex_tokens_next_1.eq_1) ac) <| And.intro (fun (SP : Prg) (ac : Ac) => congrFun (congrArg (E SP) c_lex_tokens_next_2.eq_1) ac) <| And.intro (fun (SP : Prg) (ac : Ac) => congrFun (congrArg (E SP) c_lex_tokens_next_3.eq_1) ac) <| And.intro (fun (SP : Prg) (ac : Ac) => congrFun (congrArg (E SP) c_lex_tokens_next_4.eq_1) ac) <| sc_lex_tokens_next.eq_1) := And.intro (fun (SP : Prg) (ac : Ac) => congrFun (congrArg (E SP) c_lex_tokens_next_1.eq_1) ac) <| And.intro (fun (SP : Prg) (ac : Ac) => congrFun (congrArg (E SP) c_lex_tokens_next_2.eq_1) ac) <| And.intro (fun (SP : Prg) (ac : Ac) => congrFun (congrArg (E SP) c_lex_tokens_next_3.eq_1) ac) <| And.intro (fun (SP : Prg) (ac : Ac) => congrFun (congrArg (E SP) c_lex_tokens_next_4.eq_1) ac) <| sc_lex_tokens_next.eq_1
theorem comp_lex_tokens_next : comp Tryd.prog Tryd.f19 = some sc_lex_tokens_next := by kernel_rfl
/-- doorkeeper/lex.Lex -/
def c_lex_Lex_1 : SC := .seq (.dreg [⟨(some 25), none, (.v (.mov (.t 4)))⟩, ⟨(some 26), none, (.v (.nchk (.t 25)))⟩, ⟨(some 27), none, (.v (.faddr 2 (.t 26)))⟩, ⟨(some 28), none, (.v (.load none (.t 27)))⟩, ⟨(some 29), none, (.v (.mov (.t 4)))⟩, ⟨(some 30), none, (.v (.nchk (.t 29)))⟩, ⟨(some 31), none, (.v (.faddr 0 (.t 30)))⟩, ⟨(some 32), none, (.v (.faddr 1 (.t 31)))⟩, ⟨(some 33), none, (.v (.load none (.t 32)))⟩, ⟨(some 34), none, (.v (.build [(.int .i64 0), (.str []), (.int .i64 0), (.nils 2), (.int .i64 0)] [(0, 1, (.c (.int .i64 0))), (4, 1, (.t 33))]))⟩, ⟨(some 35), none, (.bslice 5 1 [(.int .i64 0), (.str []), (.int .i64 0), (.nils 2), (.int .i64 0)] [(0, (.t 34))])⟩, ⟨(some 36), none, (.append 5 64 (.t 28) (.t 35))⟩, ⟨(some 2), none, (.v (.mov (.t 36)))⟩, ⟨(some 3), none, (.v (.mov (.c (.int .i64 0))))⟩] [false, false, false, false, false, false, false, false, false, false, false, true, true, true]) .ret
def b_lex_Lex_1 : SC := .seq (.seq (.reg [⟨(some 14), none, (.v (.mov (.t 4)))⟩, ⟨(some 15), none, (.v (.nchk (.t 14)))⟩, ⟨(some 16), none, (.v (.faddr 0 (.t 15)))⟩, ⟨(some 17), none, (.v (.faddr 0 (.t 16)))⟩, ⟨(some 18), none, (.v (.load none (.t 17)))⟩, ⟨(some 19), none, (.v (.bin .neq (.t 18) (.c (.str []))))⟩]) (.cond (.t 19) .skip (.exit 0))) (.seq (.block 1 (.seq (.reg [⟨(some 22), none, (.v (.mov (.t 4)))⟩, ⟨(some 23), none, (.call (.c (.func 19 [])) [(.t 22)])⟩, ⟨(some 24), none, (.v (.un .not (.t 23)))⟩]) (.cond (.t 24) (.seq (.reg [⟨(some 2), none, (.nilv 5)⟩, ⟨(some 3), none, (.v (.mov (.c (.int .i64 5))))⟩]) .ret) .skip))) (.reg [⟨(some 20), none, (.v (.mov (.t 4)))⟩, ⟨(some 21), none, (.call (.c (.func 18 [])) [(.t 20)])⟩]))
def c_lex_Lex_2 : SC := .seq (.seq (.reg [⟨(some 12), none, (.v (.mov (.t 4)))⟩, ⟨(some 13), none, (.call (.c (.func 18 [])) [(.t 12)])⟩]) (.block 0 (.loop b_lex_Lex_1))) c_lex_Lex_1
def c_lex_Lex_3 : SC := .seq (.reg [⟨(some 8), none, (.v (.mov (.t 0)))⟩, ⟨(some 9), none, (.v (.build [(.str []), (.int .i64 0)] [(0, 1, (.t 8))]))⟩, ⟨(some 10), none, (.v (.build [(.str []), (.int .i64 0), (.nils 5)] [(0, 2, (.t 9))]))⟩, ⟨(some 11), none, (.box (.t 10))⟩, ⟨(some 4), none, (.v (.mov (.t 11)))⟩]) c_lex_Lex_2
def c_lex_Lex_4 : SC := .seq (.seq (.reg [⟨(some 5), none, (.v (.mov (.t 0)))⟩, ⟨(some 6), none, (.v (.len true (.t 5)))⟩, ⟨(some 7), none, (.v (.bin .gtr (.t 6) (.c (.int .i64 6000))))⟩]) (.cond (.t 7) (.seq (.reg [⟨(some 2), none, (.nilv 5)⟩, ⟨(some 3), none, (.v (.mov (.c (.int .i64 4))))⟩]) .ret) .skip)) c_lex_Lex_3
def sc_lex_Lex : SFunc := ⟨1, 37, .seq (.reg [⟨(some 2), none, (.nilv 5)⟩, ⟨(some 3), none, (.v (.mov (.c (.int .i64 0))))⟩]) c_lex_Lex_4, [(.t 2), (.t 3)]⟩
noncomputable def k_lex_Lex_1 (SP : Prg) (x : EO) : CO := fin [(.t 2), (.t 3)] (thC SP (inBlk 0 (x)) c_lex_Lex_1)
theorem U_lex_Lex : type_of% (And.intro (fun (SP : Prg) (ac : Ac) => congrFun (congrArg (E SP) c_lex_Lex_1.eq_1) ac) <| And.intro (fun (SP : Prg) (ac : Ac) => congrFun (congrArg (E SP) b_lex_Lex_1.eq_1) ac) <| And.intro (fun (SP : Prg) (ac : Ac) => congrFun (congrArg (E SP) c_lex_Lex_2.eq_1) ac) <| And.intro (fun (SP : Prg) (ac : Ac) => congrFun (congrArg (E SP) c_lex_Lex_3.eq_1) ac) <| And.intro (fun (SP : Prg) (ac : Ac) => congrFun (congrArg (E SP) c_lex_Lex_4.eq_1) ac) <| sc_lex_Lex.eq_1) := And.intro (fun (SP : Prg) (ac : Ac) => congrFun (congrArg (E SP) c_lex_Lex_1.eq_1) ac) <| And.intro (fun (SP : Prg) (ac : Ac) => congrFun (congrArg (E SP) b_lex_Lex_1.eq_1) ac) <| And.intro (fun (SP : Prg) (ac : Ac) => congrFun (congrArg (E SP) c_lex_Lex_2.eq_1) ac) <| And.intro (fun (SP : Prg) (ac : Ac) => congrFun (congrArg (E SP) c_lex_Lex_3.eq_1) ac) <| And.intro (fun (SP : Prg) (ac : Ac) => congrFun (congrArg (E SP) c_lex_Lex_4.eq_1) ac) <| sc_lex_Lex.eq_1
theorem comp_lex_Lex : comp Tryd.prog Tryd.f10 = some sc_lex_Lex := by kernel_rfl
/-- doorkeeper/lex.Label -/
def sc_lex_Label : SFunc := ⟨1, 16, .seq (.reg [⟨(some 2), none, (.v (.mov (.c (.bool false))))⟩]) (.seq (.reg [⟨(some 3), none, (.v (.mov (.t 0)))⟩, ⟨(some 4), none, (.call (.c (.func 22 [])) [(.t 3), (.c (.str [45])), (.c (.str [95]))])⟩, ⟨(some 5), none, (.call (.c (.func 21 [])) [(.t 4)])⟩, ⟨(some 6), none, (.v (.mov (.t 5)))⟩, ⟨(some 7), (some (6, true)), (.v (.mov (.t 0)))⟩, ⟨(some 8), (some (6, true)), (.v (.istr (.t 7) (.c (.int .i64 0))))⟩, ⟨(some 9), (some (6, true)), (.v (.bin .neq (.t 8) (.c (.int .u8 45))))⟩, ⟨(some 10), none, (.v (.pick (.t 6) (.t 9) (.c (.bool false))))⟩, ⟨(some 11), none, (.v (.mov (.t 10)))⟩, ⟨(some 12), (some (11, true)), (.v (.mov (.t 0)))⟩, ⟨(some 13), (some (11, true)), (.v (.istr (.t 12) (.c (.int .i64 0))))⟩, ⟨(some 14), (some (11, true)), (.v (.bin .neq (.t 13) (.c (.int .u8 95))))⟩, ⟨(some 15), none, (.v (.pick (.t 11) (.t 14) (.c (.bool false))))⟩, ⟨(some 2), none, (.v (.mov (.t 15)))⟩]) .ret), [(.t 2)]⟩
theorem U_lex_Label : type_of% (sc_lex_Label.eq_1) := sc_lex_Label.eq_1
theorem comp_lex_Label : comp Tryd.prog Tryd.f16 = some sc_lex_Label := by kernel_rfl
/-- doorkeeper/doorkeeperref1.Label -/
def c_ref1_Label_1 : SC := .seq (.reg [⟨(some 38), none, (.v (.mov (.t 0)))⟩, ⟨(some 39), none, (.v (.len true (.t 38)))⟩, ⟨(some 40), none, (.v (.bin .geq (.t 39) (.c (.int .i64 1))))⟩, ⟨(some 41), none, (.v (.mov (.t 40)))⟩, ⟨(some 42), (some (41, true)), (.v (.mov (.t 0)))⟩, ⟨(some 43), (some (41, true)), (.v (.len true (.t 42)))⟩, ⟨(some 44), (some (41, true)), (.v (.bin .leq (.t 43) (.c (.int .i64 24))))⟩, ⟨(some 45), none, (.v (.pick (.t 41) (.t 44) (.c (.bool false))))⟩, ⟨(some 2), none, (.v (.mov (.t 45)))⟩]) .ret
def c_ref1_Label_2 : SC := .reg [⟨(some 9), none, (.v (.mov (.t 3)))⟩, ⟨(some 10), none, (.v (.bin .add (.t 9) (.c (.int .i64 1))))⟩, ⟨(some 3), none, (.v (.mov (.t 10)))⟩]
def c_ref1_Label_3 : SC := .cond (.t 37) (.seq (.reg [⟨(some 2), none, (.v (.mov (.c (.bool false))))⟩]) .ret) .skip
def c_ref1_Label_4 : SC := .seq (.reg [⟨(some 14), none, (.v (.mov (.t 4)))⟩, ⟨(some 15), none, (.v (.bin .geq (.t 14) (.c (.int .u8 97))))⟩, ⟨(some 16), none, (.v (.mov (.t 15)))⟩, ⟨(some 17), (some (16, true)), (.v (.mov (.t 4)))⟩, ⟨(some 18), (some (16, true)), (.v (.bin .leq (.t 17) (.c (.int .u8 122))))⟩, ⟨(some 19), none, (.v (.pick (.t 16) (.t 18) (.c (.bool false))))⟩, ⟨(some 20), none, (.v (.un .not (.t 19)))⟩, ⟨(some 21), none, (.v (.mov (.t 20)))⟩, ⟨(some 22), (some (21, true)), (.v (.mov (.t 3)))⟩, ⟨(some 23), (some (21, true)), (.v (.bin .gtr (.t 22) (.c (.int .i64 0))))⟩, ⟨(some 24), (some (21, true)), (.v (.mov (.t 23)))⟩, ⟨(some 25), (some (24, true)), (.v (.mov (.t 4)))⟩, ⟨(some 26), (some (24, true)), (.call (.c (.func 23 [])) [(.t 25)])⟩, ⟨(some 27), (some (24, true)), (.v (.mov (.t 26)))⟩, ⟨(some 28), (some (27, false)), (.v (.mov (.t 4)))⟩, ⟨(some 29), (some (27, false)), (.v (.bin .eql (.t 28) (.c (.int .u8 45))))⟩, ⟨(some 30), (some (24, true)), (.v (.pick (.t 27) (.c (.bool true)) (.t 29)))⟩, ⟨(some 31), (some (24, true)), (.v (.mov (.t 30)))⟩, ⟨(some 32), (some (31, false)), (.v (.mov (.t 4)))⟩, ⟨(some 33), (some (31, false)), (.v (.bin .eql (.t 32) (.c (.int .u8 95))))⟩, ⟨(some 34), (some (24, true)), (.v (.pick (.t 31) (.c (.bool true)) (.t 33)))⟩, ⟨(some 35), (some (21, true)), (.v (.pick (.t 24) (.t 34) (.c (.bool false))))⟩, ⟨(some 36), (some (21, true)), (.v (.un .not (.t 35)))⟩, ⟨(some 37), none, (.v (.pick (.t 21) (.t 36) (.c (.bool false))))⟩]) c_ref1_Label_3
def c_ref1_Label_5 : SC := .seq (.block 1 (.seq (.reg [⟨(some 11), none, (.v (.mov (.t 0)))⟩, ⟨(some 12), none, (.v (.mov (.t 3)))⟩, ⟨(some 13), none, (.v (.istr (.t 11) (.t 12)))⟩, ⟨(some 4), none, (.v (.mov (.t 13)))⟩]) c_ref1_Label_4)) c_ref1_Label_2
def b_ref1_Label_1 : SC := .seq (.seq (.reg [⟨(some 5), none, (.v (.mov (.t 3)))⟩, ⟨(some 6), none, (.v (.mov (.t 0)))⟩, ⟨(some 7), none, (.v (.len true (.t 6)))⟩, ⟨(some 8), none, (.v (.bin .lss (.t 5) (.t 7)))⟩]) (.cond (.t 8) .skip (.exit 0))) c_ref1_Label_5
def c_ref1_Label_6 : SC := .block 0 (.loop b_ref1_Label_1)
def c_ref1_Label_7 : SC := .seq (.seq (.reg [⟨(some 3), none, (.v (.mov (.c (.int .i64 0))))⟩]) c_ref1_Label_6) c_ref1_Label_1
def sc_ref1_Label : SFunc := ⟨1, 46, .seq (.reg [⟨(some 2), none, (.v (.mov (.c (.bool false))))⟩]) c_ref1_Label_7, [(.t 2)]⟩
noncomputable def k_ref1_Label_1 (SP : Prg) (x : EO) : CO := fin [(.t 2)] (thC SP (inBlk 0 (x)) c_ref1_Label_1)
theorem U_ref1_Label : type_of% (And.intro (fun (SP : Prg) (ac : Ac) => congrFun (congrArg (E SP) c_ref1_Label_1.eq_1) ac) <| And.intro (fun (SP : Prg) (ac : Ac) => congrFun (congrArg (E SP) c_ref1_Label_2.eq_1) ac) <| And.intro (fun (SP : Prg) (ac : Ac) => congrFun (congrArg (E SP) c_ref1_Label_3.eq_1) ac) <| And.intro (fun (SP : Prg) (ac : Ac) => congrFun (congrArg (E SP) c_ref1_Label_4.eq_1) ac) <| And.intro (fun (SP : Prg) (ac : Ac) => congrFun (congrArg (E SP) c_ref1_Label_5.eq_1) ac) <| And.intro (fun (SP : Prg) (ac : Ac) => congrFun (congrArg (E SP) b_ref1_Label_1.eq_1) ac) <| And.intro (fun (SP : Prg) (ac : Ac) => congrFun (congrArg (E SP) c_ref1_Label_6.eq_1) ac) <| And.intro (fun (SP : Prg) (ac : Ac) => congrFun (congrArg (E SP) c_ref1_Label_7.eq_1) ac) <| sc_ref1_Label.eq_1) := And.intro (fun (SP : Prg) (ac : Ac) => congrFun (congrArg (E SP) c_ref1_Label_1.eq_1) ac) <| And.intro (fun (SP : Prg) (ac : Ac) => congrFun (congrArg (E SP) c_ref1_Label_2.eq_1) ac) <| And.intro (fun (SP : Prg) (ac : Ac) => congrFun (congrArg (E SP) c_ref1_Label_3.eq_1) ac) <| And.intro (fun (SP : Prg) (ac : Ac) => congrFun (congrArg (E SP) c_ref1_Label_4.eq_1) ac) <| And.intro (fun (SP : Prg) (ac : Ac) => congrFun (congrArg (E SP) c_ref1_Label_5.eq_1) ac) <| And.intro (fun (SP : Prg) (ac : Ac) => congrFun (congrArg (E SP) b_ref1_Label_1.eq_1) ac) <| And.intro (fun (SP : Prg) (ac : Ac) => congrFun (congrArg (E SP) c_ref1_Label_6.eq_1) ac) <| And.intro (fun (SP : Prg) (ac : Ac) => congrFun (congrArg (E SP) c_ref1_Label_7.eq_1) ac) <| sc_ref1_Label.eq_1
theorem comp_ref1_Label : comp Tryd.prog Tryd.f17 = some sc_ref1_Label := by kernel_rfl
/-- slices.Contains[[]int,int] -/
def sc_slices_Contains_int_int : SFunc := ⟨2, 9, .seq (.reg [⟨(some 4), none, (.v (.mov (.c (.bool false))))⟩]) (.seq (.reg [⟨(some 5), none, (.v (.mov (.t 0)))⟩, ⟨(some 6), none, (.v (.mov (.t 1)))⟩, ⟨(some 7), none, (.call (.c (.func 64 [])) [(.t 5), (.t 6)])⟩, ⟨(some 8), none, (.v (.bin .geq (.t 7) (.c (.int .i64 0))))⟩, ⟨(some 4), none, (.v (.mov (.t 8)))⟩]) .ret), [(.t 4)]⟩
theorem U_slices_Contains_int_int : type_of% (sc_slices_Contains_int_int.eq_1) := sc_slices_Contains_int_int.eq_1
theorem comp_slices_Contains_int_int : comp Tryd.prog Tryd.f50 = some sc_slices_Contains_int_int := by kernel_rfl
/-- slices.Index[[]int,int] -/
def c_slices_Index_int_int_1 : SC := .seq (.reg [⟨(some 4), none, (.v (.mov (.c (.int .i64 (-1)))))⟩]) .ret
def b_slices_Index_int_int_1 : SC := .seq (.reg [⟨(some 9), none, (.v (.bin .lss (.t 8) (.t 7)))⟩]) (.seq (.cond (.t 9) .skip (.exit 0)) (.seq (.block 1 (.seq (.reg [⟨(some 10), none, (.v (.mov (.t 8)))⟩, ⟨(some 5), none, (.v (.mov (.t 10)))⟩]) (.seq (.reg [⟨(some 11), none, (.v (.mov (.t 1)))⟩, ⟨(some 12), none, (.v (.mov (.t 0)))⟩, ⟨(some 13), none, (.v (.mov (.t 5)))⟩, ⟨(some 14), none, (.v (.iaddr 1 (.t 12) (.t 13)))⟩, ⟨(some 15), none, (.v (.load none (.t 14)))⟩, ⟨(some 16), none, (.v (.bin .eql (.t 11) (.t 15)))⟩]) (.cond (.t 16) (.seq (.reg [⟨(some 17), none, (.v (.mov (.t 5)))⟩, ⟨(some 4), none, (.v (.mov (.t 17)))⟩]) .ret) .skip)))) (.reg [⟨(some 18), none, (.v (.bin .add (.t 8) (.c (.int .i64 1))))⟩, ⟨(some 8), none, (.v (.mov (.t 18)))⟩])))
def sc_slices_Index_int_int : SFunc := ⟨2, 19, .seq (.reg [⟨(some 4), none, (.v (.mov (.c (.int .i64 0))))⟩]) (.seq (.seq (.reg [⟨(some 6), none, (.v (.mov (.t 0)))⟩, ⟨(some 7), none, (.v (.len false (.t 6)))⟩, ⟨(some 8), none, (.v (.mov (.c (.int .i64 0))))⟩]) (.block 0 (.loop b_slices_Index_int_int_1))) c_slices_Index_int_int_1), [(.t 4)]⟩
noncomputable def k_slices_Index_int_int_1 (SP : Prg) (x : EO) : CO := fin [(.t 4)] (thC SP (inBlk 0 (x)) c_slices_Index_int_int_1)
theorem U_slices_Index_int_int : type_of% (And.intro (fun (SP : Prg) (ac : Ac) => congrFun (congrArg (E SP) c_slices_Index_int_int_1.eq_1) ac) <| And.intro (fun (SP : Prg) (ac : Ac) => congrFun (congrArg (E SP) b_slices_Index_int_int_1.eq_1) ac) <| sc_slices_Index_int_int.eq_1) := And.intro (fun (SP : Prg) (ac : Ac) => congrFun (congrArg (E SP) c_slices_Index_int_int_1.eq_1) ac) <| And.intro (fun (SP : Prg) (ac : Ac) => congrFun (congrArg (E SP) b_slices_Index_int_int_1.eq_1) ac) <| sc_slices_Index_int_int.eq_1
theorem comp_slices_Index_int_int : comp Tryd.prog Tryd.f64 = some sc_slices_Index_int_int := by kernel_rfl
/-- slices.Contains[[]string,string] -/
def sc_slices_Contains_string_string : SFunc := ⟨2, 9, .seq (.reg [⟨(some 4), none, (.v (.mov (.c (.bool false))))⟩]) (.seq (.reg [⟨(some 5), none, (.v (.mov (.t 0)))⟩, ⟨(some 6), none, (.v (.mov (.t 1)))⟩, ⟨(some 7), none, (.call (.c (.func 58 [])) [(.t 5), (.t 6)])⟩, ⟨(some 8), none, (.v (.bin .geq (.t 7) (.c (.int .i64 0))))⟩, ⟨(some 4), none, (.v (.mov (.t 8)))⟩]) .ret), [(.t 4)]⟩
theorem U_slices_Contains_string_string : type_of% (sc_slices_Contains_string_string.eq_1) := sc_slices_Contains_string_string.eq_1
theorem comp_slices_Contains_string_string : comp Tryd.prog Tryd.f42 = some sc_slices_Contains_string_string := by kernel_rfl
/-- slices.Index[[]string,string] -/
def c_slices_Index_string_string_1 : SC := .seq (.reg [⟨(some 4), none, (.v (.mov (.c (.int .i64 (-1)))))⟩]) .ret
def b_slices_Index_string_string_1 : SC := .seq (.reg [⟨(some 9), none, (.v (.bin .lss (.t 8) (.t 7)))⟩]) (.seq (.cond (.t 9) .skip (.exit 0)) (.seq (.block 1 (.seq (.reg [⟨(some 10), none, (.v (.mov (.t 8)))⟩, ⟨(some 5), none, (.v (.mov (.t 10)))⟩]) (.seq (.reg [⟨(some 11), none, (.v (.mov (.t 1)))⟩, ⟨(some 12), none, (.v (.mov (.t 0)))⟩, ⟨(some 13), none, (.v (.mov (.t 5)))⟩, ⟨(some 14), none, (.v (.iaddr 1 (.t 12) (.t 13)))⟩, ⟨(some 15), none, (.v (.load none (.t 14)))⟩, ⟨(some 16), none, (.v (.bin .eql (.t 11) (.t 15)))⟩]) (.cond (.t 16) (.seq (.reg [⟨(some 17), none, (.v (.mov (.t 5)))⟩, ⟨(some 4), none, (.v (.mov (.t 17)))⟩]) .ret) .skip)))) (.reg [⟨(some 18), none, (.v (.bin .add (.t 8) (.c (.int .i64 1))))⟩, ⟨(some 8), none, (.v (.mov (.t 18)))⟩])))
def sc_slices_Index_string_string : SFunc := ⟨2, 19, .seq (.reg [⟨(some 4), none, (.v (.mov (.c (.int .i64 0))))⟩]) (.seq (.seq (.reg [⟨(some 6), none, (.v (.mov (.t 0)))⟩, ⟨(some 7), none, (.v (.len false (.t 6)))⟩, ⟨(some 8), none, (.v (.mov (.c (.int .i64 0))))⟩]) (.block 0 (.loop b_slices_Index_string_string_1))) c_slices_Index_string_string_1), [(.t 4)]⟩
noncomputable def k_slices_Index_string_string_1 (SP : Prg) (x : EO) : CO := fin [(.t 4)] (thC SP (inBlk 0 (x)) c_slices_Index_string_string_1)
theorem U_slices_Index_string_string : type_of% (And.intro (fun (SP : Prg) (ac : Ac) => congrFun (congrArg (E SP) c_slices_Index_string_string_1.eq_1) ac) <| And.intro (fun (SP : Prg) (ac : Ac) => congrFun (congrArg (E SP) b_slices_Index_string_string_1.eq_1) ac) <| sc_slices_Index_string_string.eq_1) := And.intro (fun (SP : Prg) (ac : Ac) => congrFun (congrArg (E SP) c_slices_Index_string_string_1.eq_1) ac) <| And.intro (fun (SP : Prg) (ac : Ac) => congrFun (congrArg (E SP) b_slices_Index_string_string_1.eq_1) ac) <| sc_slices_Index_string_string.eq_1
theorem comp_slices_Index_string_string : comp Tryd.prog Tryd.f58 = some sc_slices_Index_string_string := by kernel_rfl
end Go.Proofs.YtljgfdhlfjbafaaDoor.M

/- Trees of functions, printed by a program of this session (lift.py): what a run asks, over plain data. Lean proves each. -/
namespace Go.Proofs.YtljgfdhlfjbafaaDoor.M
set_option linter.unusedSimpArgs false
set_option linter.unusedVariables false
open Go Classical
theorem sp_lex_tokens_skip : SP 18 = some (.code sc_lex_tokens_skip) := SPof_code rfl Tryd.func18 comp_lex_tokens_skip
/-! (*doorkeeper/lex.tokens).skip -/
def At_lex_tokens_skip_1 (t3 : LTokens) (g4 : Nat) (z5 : Bool) (t' : LTokens) (t'_g2 : Nat) (t'_z2 : Bool) : Prop := ∀ (S : Sto) (e : Nat → PV) (f : Fr) (n0 t0 : Nat), ((getBox S n0 t0).map (List.take 3) = some [.str t3.text.left, .int .i64 t3.text.pos, .sl 0 (.cell t0 2) 0 t3.out.length t3.out.length g4 false] ∧ getArr S n0 (.cell t0 2) = some ⟨5, t3.out.map eToken, z5, g4⟩) → e 0 = .ptr (n0 + 1) t0 0 → k_lex_tokens_skip_1 SP (E SP (.loop b_lex_tokens_skip_1) ⟨e, f :: S⟩) = .ok (.v (.tup [])) (setArr (setBox S n0 t0 ([.str t'.text.left, .int .i64 t'.text.pos, .sl 0 (.cell t0 2) 0 t'.out.length t'.out.length t'_g2 false] ++ ((getBox S n0 t0).getD []).drop 3)) n0 (.cell t0 2) ⟨5, t'.out.map eToken, t'_z2, t'_g2⟩)
set_option maxHeartbeats 4000000 in
theorem At_lex_tokens_skip_1_step (t3 : LTokens) (g4 : Nat) (z5 : Bool) (t' : LTokens) (t'_g2 : Nat) (t'_z2 : Bool) (T :
  ∃ (r6 : Bool), (R_strings_HasPrefix t3.text.left [35] r6) ∧
 ((r6 = true) →
  ∃ (r7 : List UInt8) (r8 : List UInt8) (r9 : Bool), (R_strings_Cut t3.text.left [10] r7 r8 r9) ∧
  ∃ (r10 : List UInt8) (y11 : LText), (R_lex_text_take t3.text (r7.length : Int) r10 y11) ∧
  ∃ (r12 : List UInt8) (y13 : LText), (R_lex_text_word y11 [1] r12 y13) ∧
  At_lex_tokens_skip_1 (LTokens.mk y13 t3.out) g4 z5 t' t'_g2 t'_z2) ∧
 (¬ (r6 = true) →
  t3 = t' ∧ g4 = t'_g2 ∧ z5 = t'_z2)) : At_lex_tokens_skip_1 t3 g4 z5 t' t'_g2 t'_z2 := by
 intro S e f n0 t0 H0 h
 obtain ⟨hb0, ha0⟩ := H0
 obtain ⟨w0, hB0⟩ := take_some hb0
 have hn0 := o_getBox_lt hB0
 unfold k_lex_tokens_skip_1
 rw [E_loop]
 have F := U_lex_tokens_skip
 obtain ⟨r6, q1, T⟩ := T
 simp only [R_strings_HasPrefix, le, List.cons_append, List.nil_append] at q1
 replace F := aa ha0 <| aa hB0 <| aa hn0 <| aa h <| aa q1 <| F
 by_cases c2 : r6 = true
 · replace T := T.1 c2
   obtain ⟨r7, r8, r9, q3, r10, y11, q4, r12, y13, q5, T⟩ := T
   simp only [R_strings_Cut, le, List.cons_append, List.nil_append] at q3
   simp only [R_lex_text_take, le, List.cons_append, List.nil_append] at q4
   simp only [R_lex_text_word, le, List.cons_append, List.nil_append] at q5
   replace F := aa c2 <| aa q3 <| aa q4 <| aa q5 <| F
   try simp only [F, lw, lx, le, Nat.reduceMul, UInt8.reduceToNat, reduceIte, reduceCtorEq, Nat.reduceEqDiff, Nat.reduceAdd, Nat.reduceLeDiff, Nat.reduceSub, Nat.reduceLT, Int.reduceEq, Int.reduceLT, Int.reduceLE, Int.reduceToNat, Int.reduceAdd, Int.reduceSub, Int.reduceMul, Int.reduceNeg]
   refine (T _ _ _ n0 t0 ?_ ?_).trans ?_
   all_goals exact fi F
 · replace T := T.2 c2
   replace c2 := Bool.eq_false_iff.2 c2
   obtain ⟨rfl, rfl, rfl⟩ := T
   exact fi (aa c2 <| F)
set_option maxHeartbeats 4000000 in
theorem lex_tokens_skip_tree (t : LTokens) (t_g2 : Nat) (t_z2 : Bool) (t' : LTokens) (t'_g2 : Nat) (t'_z2 : Bool) (T :
  ∃ (r1 : List UInt8) (y2 : LText), (R_lex_text_word t.text [1] r1 y2) ∧
 At_lex_tokens_skip_1 (LTokens.mk y2 t.out) t_g2 t_z2 t' t'_g2 t'_z2) : R_lex_tokens_skip t t_g2 t_z2 t' t'_g2 t'_z2 := by
 intro S n0 t0 H0
 obtain ⟨hb0, ha0⟩ := H0
 obtain ⟨w0, hB0⟩ := take_some hb0
 have hn0 := o_getBox_lt hB0
 rw [call_code sp_lex_tokens_skip _ _ rfl]
 have F := U_lex_tokens_skip
 obtain ⟨r1, y2, q1, T⟩ := T
 simp only [R_lex_text_word, le, List.cons_append, List.nil_append] at q1
 replace F := aa ha0 <| aa hB0 <| aa hn0 <| aa q1 <| F
 try simp only [F, lw, lx, le, Nat.reduceMul, UInt8.reduceToNat, reduceIte, reduceCtorEq, Nat.reduceEqDiff, Nat.reduceAdd, Nat.reduceLeDiff, Nat.reduceSub, Nat.reduceLT, Int.reduceEq, Int.reduceLT, Int.reduceLE, Int.reduceToNat, Int.reduceAdd, Int.reduceSub, Int.reduceMul, Int.reduceNeg]
 refine (T _ _ _ n0 t0 ?_ ?_).trans ?_
 all_goals exact fi F
theorem sp_lex_tokens_name : SP 30 = some (.code sc_lex_tokens_name) := SPof_code rfl Tryd.func30 comp_lex_tokens_name
/-! (*doorkeeper/lex.tokens).name -/
set_option maxHeartbeats 4000000 in
theorem lex_tokens_name_tree (t : LTokens) (t_g2 : Nat) (t_z2 : Bool) (ra : Token) (rb : Bool) (t' : LTokens) (t'_g2 : Nat) (t'_z2 : Bool) (T :
  ∃ (r1 : List UInt8) (y2 : LText), (R_lex_text_word t.text [2, 3] r1 y2) ∧
 ∃ (r3 : Bool), (R_lex_Name r1 r3) ∧
 (Token.mk 3 r1 0 [] 0) = ra ∧ r3 = rb ∧ (LTokens.mk y2 t.out) = t' ∧ t_g2 = t'_g2 ∧ t_z2 = t'_z2) : R_lex_tokens_name t t_g2 t_z2 ra rb t' t'_g2 t'_z2 := by
 intro S n0 t0 H0
 obtain ⟨hb0, ha0⟩ := H0
 obtain ⟨w0, hB0⟩ := take_some hb0
 have hn0 := o_getBox_lt hB0
 rw [call_code sp_lex_tokens_name _ _ rfl]
 have F := U_lex_tokens_name
 obtain ⟨r1, y2, q1, r3, q2, rfl, rfl, rfl, rfl, rfl⟩ := T
 simp only [R_lex_text_word, le, List.cons_append, List.nil_append] at q1
 simp only [R_lex_Name, le, List.cons_append, List.nil_append] at q2
 exact fi (aa ha0 <| aa hB0 <| aa hn0 <| aa q1 <| aa q2 <| F)
theorem sp_lex_tokens_number : SP 31 = some (.code sc_lex_tokens_number) := SPof_code rfl Tryd.func31 comp_lex_tokens_number
/-! (*doorkeeper/lex.tokens).number -/
set_option maxHeartbeats 4000000 in
theorem lex_tokens_number_tree (t : LTokens) (t_g2 : Nat) (t_z2 : Bool) (ra : Token) (rb : Bool) (t' : LTokens) (t'_g2 : Nat) (t'_z2 : Bool) (T :
  ∃ (r1 : List UInt8) (y2 : LText), (R_lex_text_word t.text [3] r1 y2) ∧
 ∃ (r3 : Int) (r4 : Bool), (R_strconv_Atoi r1 r3 r4) ∧
 ((r4 = true) →
  (Token.mk 1 [] r3 [] 0) = ra ∧ false = rb ∧ (LTokens.mk y2 t.out) = t' ∧ t_g2 = t'_g2 ∧ t_z2 = t'_z2) ∧
 (¬ (r4 = true) →
  ∃ (r5 : List UInt8), (R_strconv_Itoa r3 r5) ∧
  (Token.mk 1 [] r3 [] 0) = ra ∧ (decide (r5 = r1)) = rb ∧ (LTokens.mk y2 t.out) = t' ∧ t_g2 = t'_g2 ∧ t_z2 = t'_z2)) : R_lex_tokens_number t t_g2 t_z2 ra rb t' t'_g2 t'_z2 := by
 intro S n0 t0 H0
 obtain ⟨hb0, ha0⟩ := H0
 obtain ⟨w0, hB0⟩ := take_some hb0
 have hn0 := o_getBox_lt hB0
 rw [call_code sp_lex_tokens_number _ _ rfl]
 have F := U_lex_tokens_number
 obtain ⟨r1, y2, q1, r3, r4, q2, T⟩ := T
 simp only [R_lex_text_word, le, List.cons_append, List.nil_append] at q1
 simp only [R_strconv_Atoi, le, List.cons_append, List.nil_append] at q2
 replace F := aa ha0 <| aa hB0 <| aa hn0 <| aa q1 <| aa q2 <| F
 by_cases c3 : r4 = true
 · replace T := T.1 c3
   obtain ⟨rfl, rfl, rfl, rfl, rfl⟩ := T
   exact fi (aa c3 <| F)
 · replace T := T.2 c3
   replace c3 := Bool.eq_false_iff.2 c3
   obtain ⟨r5, q4, rfl, rfl, rfl, rfl, rfl⟩ := T
   simp only [R_strconv_Itoa, le, List.cons_append, List.nil_append] at q4
   exact fi (aa c3 <| aa q4 <| F)
theorem sp_lex_tokens_quoted : SP 32 = some (.code sc_lex_tokens_quoted) := SPof_code rfl Tryd.func32 comp_lex_tokens_quoted
/-! (*doorkeeper/lex.tokens).quoted -/
def At_lex_tokens_quoted_1 (i3 : Int) (s4 : List UInt8) (i5 : Int) (i6 : Int) (l7 : List Tokens) (g8 : Nat) (l9 : List Part) (g10 : Nat) (z11 : Bool) (t12 : LTokens) (g13 : Nat) (z14 : Bool) (ra : Token) (rb : Bool) (t' : LTokens) (t'_g2 : Nat) (t'_z2 : Bool) : Prop := ∀ (S : Sto) (e : Nat → PV) (f : Fr) (n0 t0 : Nat), ((getBox S n0 t0).map (List.take 3) = some [.str t12.text.left, .int .i64 t12.text.pos, .sl 0 (.cell t0 2) 0 t12.out.length t12.out.length g13 false] ∧ getArr S n0 (.cell t0 2) = some ⟨5, t12.out.map eToken, z14, g13⟩) → e 0 = .ptr (n0 + 1) t0 0 ∧ e 2 = .ptr 0 2 0 ∧ e 4 = .ptr 0 4 0 ∧ f.box 2 = some [.int .i64 i3, .str s4, .int .i64 i5, .sl 0 (.cell 2 3) 0 l7.length l7.length g8 false, .int .i64 i6] ∧ f.box 4 = some [.sl 0 (.cell 4 0) 0 l9.length l9.length g10 false] ∧ f.arr (.cell 2 3) = some ⟨2, l7.map eTokens, false, g8⟩ ∧ f.arr (.cell 4 0) = some ⟨2, l9.map ePart, z11, g10⟩ → k_lex_tokens_quoted_1 SP (E SP (.loop b_lex_tokens_quoted_1) ⟨e, f :: S⟩) = .ok (.v (.tup [.agg [.int .i64 ra.Kind, .str ra.Text, .int .i64 ra.Num, .list 2 (ra.Parts.map ePart) false, .int .i64 ra.At], .bool rb])) (setArr (setBox S n0 t0 ([.str t'.text.left, .int .i64 t'.text.pos, .sl 0 (.cell t0 2) 0 t'.out.length t'.out.length t'_g2 false] ++ ((getBox S n0 t0).getD []).drop 3)) n0 (.cell t0 2) ⟨5, t'.out.map eToken, t'_z2, t'_g2⟩)
set_option maxHeartbeats 4000000 in
theorem At_lex_tokens_quoted_1_step (i3 : Int) (s4 : List UInt8) (i5 : Int) (i6 : Int) (l7 : List Tokens) (g8 : Nat) (l9 : List Part) (g10 : Nat) (z11 : Bool) (t12 : LTokens) (g13 : Nat) (z14 : Bool) (ra : Token) (rb : Bool) (t' : LTokens) (t'_g2 : Nat) (t'_z2 : Bool) (T :
  ((t12.text.left = []) →
  (Token.mk 0 [] 0 [] 0) = ra ∧ false = rb ∧ t12 = t' ∧ g13 = t'_g2 ∧ z14 = t'_z2) ∧
 (¬ (t12.text.left = []) →
  ∃ (b15 : UInt8), (t12.text.left[0]? = some b15) ∧
  ∃ (r16 : Int), (R_lex_class b15 r16) ∧
  ((r16 = 4) →
   ∃ (r17 : List UInt8) (y18 : LText), (R_lex_text_take t12.text 1 r17 y18) ∧
   (Token.mk 2 [] 0 l9 0) = ra ∧ true = rb ∧ (LTokens.mk y18 t12.out) = t' ∧ g13 = t'_g2 ∧ z14 = t'_z2) ∧
  (¬ (r16 = 4) →
   (((b15.toNat : Int) < 32) →
    (Token.mk 0 [] 0 [] 0) = ra ∧ false = rb ∧ t12 = t' ∧ g13 = t'_g2 ∧ z14 = t'_z2) ∧
   (¬ ((b15.toNat : Int) < 32) →
    (((b15.toNat : Int) = 92) →
     ∃ (r19 : UInt8) (r20 : Bool), (R_lex_escaped t12.text.left r19 r20) ∧
     ((r20 = true) →
      ∃ (y21 : List Part) (g22 : Nat) (z23 : Bool), (R_lex_parts_plain l9 g10 z11 r19 y21 g22 z23) ∧
      ∃ (r24 : List UInt8) (y25 : LText), (R_lex_text_take t12.text 2 r24 y25) ∧
      At_lex_tokens_quoted_1 i3 s4 i5 i6 l7 g8 y21 g22 z23 (LTokens.mk y25 t12.out) g13 z14 ra rb t' t'_g2 t'_z2) ∧
     (¬ (r20 = true) →
      (Token.mk 0 [] 0 [] 0) = ra ∧ false = rb ∧ t12 = t' ∧ g13 = t'_g2 ∧ z14 = t'_z2)) ∧
    (¬ ((b15.toNat : Int) = 92) →
     ∃ (r26 : Bool), (R_strings_HasPrefix t12.text.left [36, 123] r26) ∧
     ((r26 = true) →
      ∃ (r27 : List UInt8) (r28 : Bool), (R_lex_reference t12.text.left r27 r28) ∧
      ((r28 = true) →
       (bigRow (l9.length + 1) 24) ∧
       (I64 (3 + (r27.length : Int))) ∧
       ∃ (r29 : List UInt8) (y30 : LText), (R_lex_text_take t12.text (3 + (r27.length : Int)) r29 y30) ∧
       At_lex_tokens_quoted_1 i3 s4 i5 i6 l7 g8 (l9 ++ [(Part.mk true r27)]) g10 z11 (LTokens.mk y30 t12.out) g13 z14 ra rb t' t'_g2 t'_z2) ∧
      (¬ (r28 = true) →
       (Token.mk 0 [] 0 [] 0) = ra ∧ false = rb ∧ t12 = t' ∧ g13 = t'_g2 ∧ z14 = t'_z2)) ∧
     (¬ (r26 = true) →
      ∃ (y31 : List Part) (g32 : Nat) (z33 : Bool), (R_lex_parts_plain l9 g10 z11 b15 y31 g32 z33) ∧
      ∃ (r34 : List UInt8) (y35 : LText), (R_lex_text_take t12.text 1 r34 y35) ∧
      At_lex_tokens_quoted_1 i3 s4 i5 i6 l7 g8 y31 g32 z33 (LTokens.mk y35 t12.out) g13 z14 ra rb t' t'_g2 t'_z2)))))) : At_lex_tokens_quoted_1 i3 s4 i5 i6 l7 g8 l9 g10 z11 t12 g13 z14 ra rb t' t'_g2 t'_z2 := by
 intro S e f n0 t0 H0 h
 obtain ⟨hb0, ha0⟩ := H0
 obtain ⟨w0, hB0⟩ := take_some hb0
 have hn0 := o_getBox_lt hB0
 unfold k_lex_tokens_quoted_1
 rw [E_loop]
 have F := U_lex_tokens_quoted
 replace F := aa ha0 <| aa hB0 <| aa hn0 <| aa h <| F
 by_cases c1 : t12.text.left = []
 · replace T := T.1 c1
   obtain ⟨rfl, rfl, rfl, rfl, rfl⟩ := T
   exact fi (aa (eq_true c1) <| F)
 · replace T := T.2 c1
   obtain ⟨b15, q2, r16, q3, T⟩ := T
   simp only [R_lex_class, le, List.cons_append, List.nil_append] at q3
   replace F := aa (eq_false c1) <| aa q2 <| aa q3 <| F
   by_cases c4 : r16 = 4
   · replace T := T.1 c4
     obtain ⟨r17, y18, q5, rfl, rfl, rfl, rfl, rfl⟩ := T
     simp only [R_lex_text_take, le, List.cons_append, List.nil_append] at q5
     exact fi (aa (eq_true c4) <| aa q5 <| F)
   · replace T := T.2 c4
     replace F := aa (eq_false c4) <| F
     by_cases c6 : (b15.toNat : Int) < 32
     · replace T := T.1 c6
       obtain ⟨rfl, rfl, rfl, rfl, rfl⟩ := T
       exact fi (aa (eq_true c6) <| F)
     · replace T := T.2 c6
       replace F := aa (eq_false c6) <| F
       by_cases c7 : (b15.toNat : Int) = 92
       · replace T := T.1 c7
         obtain ⟨r19, r20, q8, T⟩ := T
         simp only [R_lex_escaped, le, List.cons_append, List.nil_append] at q8
         replace F := aa (eq_true c7) <| aa q8 <| F
         by_cases c9 : r20 = true
         · replace T := T.1 c9
           obtain ⟨y21, g22, z23, q10, r24, y25, q11, T⟩ := T
           simp only [R_lex_parts_plain, le, List.cons_append, List.nil_append] at q10
           simp only [R_lex_text_take, le, List.cons_append, List.nil_append] at q11
           replace F := aa c9 <| aa q10 <| aa q11 <| F
           try simp only [F, lw, lx, le, Nat.reduceMul, UInt8.reduceToNat, reduceIte, reduceCtorEq, Nat.reduceEqDiff, Nat.reduceAdd, Nat.reduceLeDiff, Nat.reduceSub, Nat.reduceLT, Int.reduceEq, Int.reduceLT, Int.reduceLE, Int.reduceToNat, Int.reduceAdd, Int.reduceSub, Int.reduceMul, Int.reduceNeg]
           refine (T _ _ _ n0 t0 ?_ ?_).trans ?_
           all_goals exact fi F
         · replace T := T.2 c9
           replace c9 := Bool.eq_false_iff.2 c9
           obtain ⟨rfl, rfl, rfl, rfl, rfl⟩ := T
           exact fi (aa c9 <| F)
       · replace T := T.2 c7
         obtain ⟨r26, q12, T⟩ := T
         simp only [R_strings_HasPrefix, le, List.cons_append, List.nil_append] at q12
         replace F := aa (eq_false c7) <| aa q12 <| F
         by_cases c13 : r26 = true
         · replace T := T.1 c13
           obtain ⟨r27, r28, q14, T⟩ := T
           simp only [R_lex_reference, le, List.cons_append, List.nil_append] at q14
           replace F := aa c13 <| aa q14 <| F
           by_cases c15 : r28 = true
           · replace T := T.1 c15
             obtain ⟨p16, p17, r29, y30, q18, T⟩ := T
             simp only [bigRow] at p16
             simp only [R_lex_text_take, le, List.cons_append, List.nil_append] at q18
             replace F := aa c15 <| aa p16 <| aa p17.wrap <| aa q18 <| F
             try simp only [F, lw, lx, le, Nat.reduceMul, UInt8.reduceToNat, reduceIte, reduceCtorEq, Nat.reduceEqDiff, Nat.reduceAdd, Nat.reduceLeDiff, Nat.reduceSub, Nat.reduceLT, Int.reduceEq, Int.reduceLT, Int.reduceLE, Int.reduceToNat, Int.reduceAdd, Int.reduceSub, Int.reduceMul, Int.reduceNeg]
             refine (T _ _ _ n0 t0 ?_ ?_).trans ?_
             all_goals exact fi F
           · replace T := T.2 c15
             replace c15 := Bool.eq_false_iff.2 c15
             obtain ⟨rfl, rfl, rfl, rfl, rfl⟩ := T
             exact fi (aa c15 <| F)
         · replace T := T.2 c13
           replace c13 := Bool.eq_false_iff.2 c13
           obtain ⟨y31, g32, z33, q19, r34, y35, q20, T⟩ := T
           simp only [R_lex_parts_plain, le, List.cons_append, List.nil_append] at q19
           simp only [R_lex_text_take, le, List.cons_append, List.nil_append] at q20
           replace F := aa c13 <| aa q19 <| aa q20 <| F
           try simp only [F, lw, lx, le, Nat.reduceMul, UInt8.reduceToNat, reduceIte, reduceCtorEq, Nat.reduceEqDiff, Nat.reduceAdd, Nat.reduceLeDiff, Nat.reduceSub, Nat.reduceLT, Int.reduceEq, Int.reduceLT, Int.reduceLE, Int.reduceToNat, Int.reduceAdd, Int.reduceSub, Int.reduceMul, Int.reduceNeg]
           refine (T _ _ _ n0 t0 ?_ ?_).trans ?_
           all_goals exact fi F
set_option maxHeartbeats 4000000 in
theorem lex_tokens_quoted_tree (t : LTokens) (t_g2 : Nat) (t_z2 : Bool) (ra : Token) (rb : Bool) (t' : LTokens) (t'_g2 : Nat) (t'_z2 : Bool) (T :
  ∃ (r1 : List UInt8) (y2 : LText), (R_lex_text_take t.text 1 r1 y2) ∧
 At_lex_tokens_quoted_1 0 [] 0 0 [] 0 [] 0 false (LTokens.mk y2 t.out) t_g2 t_z2 ra rb t' t'_g2 t'_z2) : R_lex_tokens_quoted t t_g2 t_z2 ra rb t' t'_g2 t'_z2 := by
 intro S n0 t0 H0
 obtain ⟨hb0, ha0⟩ := H0
 obtain ⟨w0, hB0⟩ := take_some hb0
 have hn0 := o_getBox_lt hB0
 rw [call_code sp_lex_tokens_quoted _ _ rfl]
 have F := U_lex_tokens_quoted
 obtain ⟨r1, y2, q1, T⟩ := T
 simp only [R_lex_text_take, le, List.cons_append, List.nil_append] at q1
 replace F := aa ha0 <| aa hB0 <| aa hn0 <| aa q1 <| F
 try simp only [F, lw, lx, le, Nat.reduceMul, UInt8.reduceToNat, reduceIte, reduceCtorEq, Nat.reduceEqDiff, Nat.reduceAdd, Nat.reduceLeDiff, Nat.reduceSub, Nat.reduceLT, Int.reduceEq, Int.reduceLT, Int.reduceLE, Int.reduceToNat, Int.reduceAdd, Int.reduceSub, Int.reduceMul, Int.reduceNeg]
 refine (T _ _ _ n0 t0 ?_ ?_).trans ?_
 all_goals exact fi F
theorem sp_lex_tokens_sign : SP 28 = some (.code sc_lex_tokens_sign) := SPof_code rfl Tryd.func28 comp_lex_tokens_sign
/-! (*doorkeeper/lex.tokens).sign -/
set_option maxHeartbeats 4000000 in
theorem lex_tokens_sign_tree (t : LTokens) (t_g2 : Nat) (t_z2 : Bool) (ra : Token) (rb : Bool) (t' : LTokens) (t'_g2 : Nat) (t'_z2 : Bool) (T :
  (0 ≤ (if (t.text.left.length : Int) < 2 then (t.text.left.length : Int) else 2)) ∧ ((if (t.text.left.length : Int) < 2 then (t.text.left.length : Int) else 2).toNat ≤ t.text.left.length) ∧
 ∃ (r1 : Bool), (R_slices_Contains_string_string [[61, 61], [33, 61], [60, 61], [62, 61], [38, 38], [124, 124]] (t.text.left.take ((if (t.text.left.length : Int) < 2 then (t.text.left.length : Int) else 2).toNat)) r1) ∧
 ((r1 = true) →
  ∃ (r2 : List UInt8) (y3 : LText), (R_lex_text_take t.text (((t.text.left.take ((if (t.text.left.length : Int) < 2 then (t.text.left.length : Int) else 2).toNat)).length : Nat) : Int) r2 y3) ∧
  (Token.mk 4 r2 0 [] 0) = ra ∧ true = rb ∧ (LTokens.mk y3 t.out) = t' ∧ t_g2 = t'_g2 ∧ t_z2 = t'_z2) ∧
 (¬ (r1 = true) →
  (1 ≤ (t.text.left.take ((if (t.text.left.length : Int) < 2 then (t.text.left.length : Int) else 2).toNat)).length) ∧
  ∃ (r4 : Bool), (R_strings_Contains [123, 125, 91, 93, 40, 41, 61, 44, 46, 43, 45, 42, 47, 37, 60, 62, 33, 63, 58] ((t.text.left.take ((if (t.text.left.length : Int) < 2 then (t.text.left.length : Int) else 2).toNat)).take (1)) r4) ∧
  ((r4 = true) →
   ∃ (r5 : List UInt8) (y6 : LText), (R_lex_text_take t.text ((((t.text.left.take ((if (t.text.left.length : Int) < 2 then (t.text.left.length : Int) else 2).toNat)).take (1)).length : Nat) : Int) r5 y6) ∧
   (Token.mk 4 r5 0 [] 0) = ra ∧ true = rb ∧ (LTokens.mk y6 t.out) = t' ∧ t_g2 = t'_g2 ∧ t_z2 = t'_z2) ∧
  (¬ (r4 = true) →
   (Token.mk 0 [] 0 [] 0) = ra ∧ false = rb ∧ t = t' ∧ t_g2 = t'_g2 ∧ t_z2 = t'_z2))) : R_lex_tokens_sign t t_g2 t_z2 ra rb t' t'_g2 t'_z2 := by
 intro S n0 t0 H0
 obtain ⟨hb0, ha0⟩ := H0
 obtain ⟨w0, hB0⟩ := take_some hb0
 have hn0 := o_getBox_lt hB0
 rw [call_code sp_lex_tokens_sign _ _ rfl]
 have F := U_lex_tokens_sign
 obtain ⟨p1, p2, r1, q3, T⟩ := T
 simp only [R_slices_Contains_string_string, le, List.cons_append, List.nil_append] at q3
 replace F := aa ha0 <| aa hB0 <| aa hn0 <| aa p1 <| aa p2 <| aa q3 <| F
 by_cases c4 : r1 = true
 · replace T := T.1 c4
   obtain ⟨r2, y3, q5, rfl, rfl, rfl, rfl, rfl⟩ := T
   simp only [R_lex_text_take, le, List.cons_append, List.nil_append] at q5
   exact fi (aa c4 <| aa q5 <| F)
 · replace T := T.2 c4
   replace c4 := Bool.eq_false_iff.2 c4
   obtain ⟨p6, r4, q7, T⟩ := T
   simp only [R_strings_Contains, le, List.cons_append, List.nil_append] at q7
   replace F := aa c4 <| aa p6 <| aa q7 <| F
   by_cases c8 : r4 = true
   · replace T := T.1 c8
     obtain ⟨r5, y6, q9, rfl, rfl, rfl, rfl, rfl⟩ := T
     simp only [R_lex_text_take, le, List.cons_append, List.nil_append] at q9
     exact fi (aa c8 <| aa q9 <| F)
   · replace T := T.2 c8
     replace c8 := Bool.eq_false_iff.2 c8
     obtain ⟨rfl, rfl, rfl, rfl, rfl⟩ := T
     exact fi (aa c8 <| F)
theorem sp_lex_tokens_next : SP 19 = some (.code sc_lex_tokens_next) := SPof_code rfl Tryd.func19 comp_lex_tokens_next
/-! (*doorkeeper/lex.tokens).next -/
set_option maxHeartbeats 4000000 in
theorem lex_tokens_next_tree (t : LTokens) (t_g2 : Nat) (t_z2 : Bool) (r : Bool) (t' : LTokens) (t'_g2 : Nat) (t'_z2 : Bool) (T :
  ∃ (b1 : UInt8), (t.text.left[0]? = some b1) ∧
 ∃ (r2 : Int), (R_lex_class b1 r2) ∧
 ((r2 = 2) →
  ∃ (r3 : Token) (r4 : Bool) (y5 : LTokens) (g6 : Nat) (z7 : Bool), (R_lex_tokens_name t t_g2 t_z2 r3 r4 y5 g6 z7) ∧
  (bigRow (y5.out.length + 1) 64) ∧
  r4 = r ∧ (LTokens.mk y5.text (y5.out ++ [(Token.mk r3.Kind r3.Text r3.Num r3.Parts t.text.pos)])) = t' ∧ g6 = t'_g2 ∧ z7 = t'_z2) ∧
 (¬ (r2 = 2) →
  ((r2 = 3) →
   ∃ (r8 : Token) (r9 : Bool) (y10 : LTokens) (g11 : Nat) (z12 : Bool), (R_lex_tokens_number t t_g2 t_z2 r8 r9 y10 g11 z12) ∧
   (bigRow (y10.out.length + 1) 64) ∧
   r9 = r ∧ (LTokens.mk y10.text (y10.out ++ [(Token.mk r8.Kind r8.Text r8.Num r8.Parts t.text.pos)])) = t' ∧ g11 = t'_g2 ∧ z12 = t'_z2) ∧
  (¬ (r2 = 3) →
   ((r2 = 4) →
    ∃ (r13 : Token) (r14 : Bool) (y15 : LTokens) (g16 : Nat) (z17 : Bool), (R_lex_tokens_quoted t t_g2 t_z2 r13 r14 y15 g16 z17) ∧
    (bigRow (y15.out.length + 1) 64) ∧
    r14 = r ∧ (LTokens.mk y15.text (y15.out ++ [(Token.mk r13.Kind r13.Text r13.Num r13.Parts t.text.pos)])) = t' ∧ g16 = t'_g2 ∧ z17 = t'_z2) ∧
   (¬ (r2 = 4) →
    ∃ (r18 : Token) (r19 : Bool) (y20 : LTokens) (g21 : Nat) (z22 : Bool), (R_lex_tokens_sign t t_g2 t_z2 r18 r19 y20 g21 z22) ∧
    (bigRow (y20.out.length + 1) 64) ∧
    r19 = r ∧ (LTokens.mk y20.text (y20.out ++ [(Token.mk r18.Kind r18.Text r18.Num r18.Parts t.text.pos)])) = t' ∧ g21 = t'_g2 ∧ z22 = t'_z2)))) : R_lex_tokens_next t t_g2 t_z2 r t' t'_g2 t'_z2 := by
 intro S n0 t0 H0
 obtain ⟨hb0, ha0⟩ := H0
 obtain ⟨w0, hB0⟩ := take_some hb0
 have hn0 := o_getBox_lt hB0
 rw [call_code sp_lex_tokens_next _ _ rfl]
 have F := U_lex_tokens_next
 obtain ⟨b1, q1, r2, q2, T⟩ := T
 simp only [R_lex_class, le, List.cons_append, List.nil_append] at q2
 replace F := aa ha0 <| aa hB0 <| aa hn0 <| aa q1 <| aa q2 <| F
 by_cases c3 : r2 = 2
 · replace T := T.1 c3
   obtain ⟨r3, r4, y5, g6, z7, q4, p5, rfl, rfl, rfl, rfl⟩ := T
   simp only [R_lex_tokens_name, le, List.cons_append, List.nil_append] at q4
   simp only [bigRow] at p5
   exact fi (aa (eq_true c3) <| aa q4 <| aa p5 <| F)
 · replace T := T.2 c3
   replace F := aa (eq_false c3) <| F
   by_cases c6 : r2 = 3
   · replace T := T.1 c6
     obtain ⟨r8, r9, y10, g11, z12, q7, p8, rfl, rfl, rfl, rfl⟩ := T
     simp only [R_lex_tokens_number, le, List.cons_append, List.nil_append] at q7
     simp only [bigRow] at p8
     exact fi (aa (eq_true c6) <| aa q7 <| aa p8 <| F)
   · replace T := T.2 c6
     replace F := aa (eq_false c6) <| F
     by_cases c9 : r2 = 4
     · replace T := T.1 c9
       obtain ⟨r13, r14, y15, g16, z17, q10, p11, rfl, rfl, rfl, rfl⟩ := T
       simp only [R_lex_tokens_quoted, le, List.cons_append, List.nil_append] at q10
       simp only [bigRow] at p11
       exact fi (aa (eq_true c9) <| aa q10 <| aa p11 <| F)
     · replace T := T.2 c9
       obtain ⟨r18, r19, y20, g21, z22, q12, p13, rfl, rfl, rfl, rfl⟩ := T
       simp only [R_lex_tokens_sign, le, List.cons_append, List.nil_append] at q12
       simp only [bigRow] at p13
       exact fi (aa (eq_false c9) <| aa q12 <| aa p13 <| F)
theorem sp_lex_Lex : SP 10 = some (.code sc_lex_Lex) := SPof_code rfl Tryd.func10 comp_lex_Lex
/-! doorkeeper/lex.Lex -/
def At_lex_Lex_1 (s4 : List UInt8) (i5 : Int) (l6 : List Token) (g7 : Nat) (z8 : Bool) (ra : List Token) (rb : Int) : Prop := ∀ (S : Sto) (e : Nat → PV) (f : Fr), e 4 = .ptr 0 11 0 ∧ f.box 11 = some [.str s4, .int .i64 i5, .sl 0 (.cell 11 2) 0 l6.length l6.length g7 false] ∧ f.arr (.cell 11 2) = some ⟨5, l6.map eToken, z8, g7⟩ → k_lex_Lex_1 SP (E SP (.loop b_lex_Lex_1) ⟨e, f :: S⟩) = .ok (.v (.tup [.list 5 (ra.map eToken) false, .int .i64 rb])) S
set_option maxHeartbeats 4000000 in
theorem At_lex_Lex_1_step (s4 : List UInt8) (i5 : Int) (l6 : List Token) (g7 : Nat) (z8 : Bool) (ra : List Token) (rb : Int) (T :
  ((s4 = []) →
  (bigRow (l6.length + 1) 64) ∧
  (l6 ++ [(Token.mk 0 [] 0 [] i5)]) = ra ∧ 0 = rb) ∧
 (¬ (s4 = []) →
  ∃ (r9 : Bool) (y10 : LTokens) (g11 : Nat) (z12 : Bool), (R_lex_tokens_next (LTokens.mk (LText.mk s4 i5) l6) g7 z8 r9 y10 g11 z12) ∧
  ((r9 = true) →
   ∃ (y13 : LTokens) (g14 : Nat) (z15 : Bool), (R_lex_tokens_skip y10 g11 z12 y13 g14 z15) ∧
   At_lex_Lex_1 y13.text.left y13.text.pos y13.out g14 z15 ra rb) ∧
  (¬ (r9 = true) →
   [] = ra ∧ 5 = rb))) : At_lex_Lex_1 s4 i5 l6 g7 z8 ra rb := by
 intro S e f h
 unfold k_lex_Lex_1
 rw [E_loop]
 have F := U_lex_Lex
 replace F := aa h <| F
 by_cases c1 : s4 = []
 · replace T := T.1 c1
   obtain ⟨p2, rfl, rfl⟩ := T
   simp only [bigRow] at p2
   exact fi (aa (eq_true c1) <| aa p2 <| F)
 · replace T := T.2 c1
   obtain ⟨r9, y10, g11, z12, q3, T⟩ := T
   simp only [R_lex_tokens_next, le, List.cons_append, List.nil_append] at q3
   replace F := aa (eq_false c1) <| aa q3 <| F
   by_cases c4 : r9 = true
   · replace T := T.1 c4
     obtain ⟨y13, g14, z15, q5, T⟩ := T
     simp only [R_lex_tokens_skip, le, List.cons_append, List.nil_append] at q5
     replace F := aa c4 <| aa q5 <| F
     try simp only [F, lw, lx, le, Nat.reduceMul, UInt8.reduceToNat, reduceIte, reduceCtorEq, Nat.reduceEqDiff, Nat.reduceAdd, Nat.reduceLeDiff, Nat.reduceSub, Nat.reduceLT, Int.reduceEq, Int.reduceLT, Int.reduceLE, Int.reduceToNat, Int.reduceAdd, Int.reduceSub, Int.reduceMul, Int.reduceNeg]
     refine T S _ _ ?_
     exact fi F
   · replace T := T.2 c4
     replace c4 := Bool.eq_false_iff.2 c4
     obtain ⟨rfl, rfl⟩ := T
     exact fi (aa c4 <| F)
set_option maxHeartbeats 4000000 in
theorem lex_Lex_tree (s : List UInt8) (ra : List Token) (rb : Int) (T :
  ((6000 < (s.length : Int)) →
  [] = ra ∧ 4 = rb) ∧
 (¬ (6000 < (s.length : Int)) →
  ∃ (y1 : LTokens) (g2 : Nat) (z3 : Bool), (R_lex_tokens_skip (LTokens.mk (LText.mk s 0) []) 0 false y1 g2 z3) ∧
  At_lex_Lex_1 y1.text.left y1.text.pos y1.out g2 z3 ra rb)) : R_lex_Lex s ra rb := by
 intro S
 rw [call_code sp_lex_Lex _ _ rfl]
 have F := U_lex_Lex
 by_cases c1 : 6000 < (s.length : Int)
 · replace T := T.1 c1
   obtain ⟨rfl, rfl⟩ := T
   exact fi (aa (eq_true c1) <| F)
 · replace T := T.2 c1
   obtain ⟨y1, g2, z3, q2, T⟩ := T
   simp only [R_lex_tokens_skip, le, List.cons_append, List.nil_append] at q2
   replace F := aa (eq_false c1) <| aa q2 <| F
   try simp only [F, lw, lx, le, Nat.reduceMul, UInt8.reduceToNat, reduceIte, reduceCtorEq, Nat.reduceEqDiff, Nat.reduceAdd, Nat.reduceLeDiff, Nat.reduceSub, Nat.reduceLT, Int.reduceEq, Int.reduceLT, Int.reduceLE, Int.reduceToNat, Int.reduceAdd, Int.reduceSub, Int.reduceMul, Int.reduceNeg]
   refine T S _ _ ?_
   exact fi F
theorem sp_lex_Label : SP 16 = some (.code sc_lex_Label) := SPof_code rfl Tryd.func16 comp_lex_Label
/-! doorkeeper/lex.Label -/
set_option maxHeartbeats 4000000 in
theorem lex_Label_tree (s : List UInt8) (r : Bool) (T :
  ∃ (r1 : List UInt8), (R_strings_ReplaceAll s [45] [95] r1) ∧
 ∃ (r2 : Bool), (R_lex_Name r1 r2) ∧
 ((r2 = true) →
  ∃ (b3 : UInt8), (s[0]? = some b3) ∧
  (((b3.toNat : Int) = 45) →
   false = r) ∧
  (¬ ((b3.toNat : Int) = 45) →
   (!(decide ((b3.toNat : Int) = 95))) = r)) ∧
 (¬ (r2 = true) →
  false = r)) : R_lex_Label s r := by
 intro S
 rw [call_code sp_lex_Label _ _ rfl]
 have F := U_lex_Label
 obtain ⟨r1, q1, r2, q2, T⟩ := T
 simp only [R_strings_ReplaceAll, le, List.cons_append, List.nil_append] at q1
 simp only [R_lex_Name, le, List.cons_append, List.nil_append] at q2
 replace F := aa q1 <| aa q2 <| F
 by_cases c3 : r2 = true
 · replace T := T.1 c3
   obtain ⟨b3, q4, T⟩ := T
   replace F := aa c3 <| aa q4 <| F
   by_cases c5 : (b3.toNat : Int) = 45
   · replace T := T.1 c5
     obtain rfl := T
     exact fi (aa (eq_true c5) <| F)
   · replace T := T.2 c5
     obtain rfl := T
     exact fi (aa (eq_false c5) <| F)
 · replace T := T.2 c3
   replace c3 := Bool.eq_false_iff.2 c3
   obtain rfl := T
   exact fi (aa c3 <| F)
theorem sp_ref1_Label : SP 17 = some (.code sc_ref1_Label) := SPof_code rfl Tryd.func17 comp_ref1_Label
/-! doorkeeper/doorkeeperref1.Label -/
def At_ref1_Label_1 (s : List UInt8) (i1 : Int) (r : Bool) : Prop := ∀ (S : Sto) (e : Nat → PV) (f : Fr), e 0 = .str s ∧ e 3 = .int .i64 i1 → k_ref1_Label_1 SP (E SP (.loop b_ref1_Label_1) ⟨e, f :: S⟩) = .ok (.v (.bool r)) S
set_option maxHeartbeats 4000000 in
theorem At_ref1_Label_1_step (s : List UInt8) (i1 : Int) (r : Bool) (T :
  ((i1 < (s.length : Int)) →
  (0 ≤ i1) ∧
  ∃ (b2 : UInt8), (s[i1.toNat]? = some b2) ∧
  ((97 ≤ (b2.toNat : Int)) →
   (((b2.toNat : Int) ≤ 122) →
    (I64 (i1 + 1)) ∧
    At_ref1_Label_1 s (i1 + 1) r) ∧
   (¬ ((b2.toNat : Int) ≤ 122) →
    ((0 < i1) →
     ∃ (r3 : Bool), (R_ref1_digit b2 r3) ∧
     ((r3 = true) →
      (I64 (i1 + 1)) ∧
      At_ref1_Label_1 s (i1 + 1) r) ∧
     (¬ (r3 = true) →
      (((b2.toNat : Int) = 45) →
       (I64 (i1 + 1)) ∧
       At_ref1_Label_1 s (i1 + 1) r) ∧
      (¬ ((b2.toNat : Int) = 45) →
       (((b2.toNat : Int) = 95) →
        (I64 (i1 + 1)) ∧
        At_ref1_Label_1 s (i1 + 1) r) ∧
       (¬ ((b2.toNat : Int) = 95) →
        false = r)))) ∧
    (¬ (0 < i1) →
     false = r))) ∧
  (¬ (97 ≤ (b2.toNat : Int)) →
   ((0 < i1) →
    ∃ (r4 : Bool), (R_ref1_digit b2 r4) ∧
    ((r4 = true) →
     (I64 (i1 + 1)) ∧
     At_ref1_Label_1 s (i1 + 1) r) ∧
    (¬ (r4 = true) →
     (((b2.toNat : Int) = 45) →
      (I64 (i1 + 1)) ∧
      At_ref1_Label_1 s (i1 + 1) r) ∧
     (¬ ((b2.toNat : Int) = 45) →
      (((b2.toNat : Int) = 95) →
       (I64 (i1 + 1)) ∧
       At_ref1_Label_1 s (i1 + 1) r) ∧
      (¬ ((b2.toNat : Int) = 95) →
       false = r)))) ∧
   (¬ (0 < i1) →
    false = r))) ∧
 (¬ (i1 < (s.length : Int)) →
  ((1 ≤ (s.length : Int)) →
   (decide ((s.length : Int) ≤ 24)) = r) ∧
  (¬ (1 ≤ (s.length : Int)) →
   false = r))) : At_ref1_Label_1 s i1 r := by
 intro S e f h
 unfold k_ref1_Label_1
 rw [E_loop]
 have F := U_ref1_Label
 replace F := aa h <| F
 by_cases c1 : i1 < (s.length : Int)
 · replace T := T.1 c1
   obtain ⟨p2, b2, q3, T⟩ := T
   replace F := aa (eq_true c1) <| aa p2 <| aa q3 <| F
   by_cases c4 : 97 ≤ (b2.toNat : Int)
   · replace T := T.1 c4
     replace F := aa (eq_true c4) <| F
     by_cases c5 : (b2.toNat : Int) ≤ 122
     · replace T := T.1 c5
       obtain ⟨p6, T⟩ := T
       replace F := aa (eq_true c5) <| aa p6.wrap <| F
       try simp only [F, lw, lx, le, Nat.reduceMul, UInt8.reduceToNat, reduceIte, reduceCtorEq, Nat.reduceEqDiff, Nat.reduceAdd, Nat.reduceLeDiff, Nat.reduceSub, Nat.reduceLT, Int.reduceEq, Int.reduceLT, Int.reduceLE, Int.reduceToNat, Int.reduceAdd, Int.reduceSub, Int.reduceMul, Int.reduceNeg]
       refine T S _ _ ?_
       exact fi F
     · replace T := T.2 c5
       replace F := aa (eq_false c5) <| F
       by_cases c7 : 0 < i1
       · replace T := T.1 c7
         obtain ⟨r3, q8, T⟩ := T
         simp only [R_ref1_digit, le, List.cons_append, List.nil_append] at q8
         replace F := aa (eq_true c7) <| aa q8 <| F
         by_cases c9 : r3 = true
         · replace T := T.1 c9
           obtain ⟨p10, T⟩ := T
           replace F := aa c9 <| aa p10.wrap <| F
           try simp only [F, lw, lx, le, Nat.reduceMul, UInt8.reduceToNat, reduceIte, reduceCtorEq, Nat.reduceEqDiff, Nat.reduceAdd, Nat.reduceLeDiff, Nat.reduceSub, Nat.reduceLT, Int.reduceEq, Int.reduceLT, Int.reduceLE, Int.reduceToNat, Int.reduceAdd, Int.reduceSub, Int.reduceMul, Int.reduceNeg]
           refine T S _ _ ?_
           exact fi F
         · replace T := T.2 c9
           replace c9 := Bool.eq_false_iff.2 c9
           replace F := aa c9 <| F
           by_cases c11 : (b2.toNat : Int) = 45
           · replace T := T.1 c11
             obtain ⟨p12, T⟩ := T
             replace F := aa (eq_true c11) <| aa p12.wrap <| F
             try simp only [F, lw, lx, le, Nat.reduceMul, UInt8.reduceToNat, reduceIte, reduceCtorEq, Nat.reduceEqDiff, Nat.reduceAdd, Nat.reduceLeDiff, Nat.reduceSub, Nat.reduceLT, Int.reduceEq, Int.reduceLT, Int.reduceLE, Int.reduceToNat, Int.reduceAdd, Int.reduceSub, Int.reduceMul, Int.reduceNeg]
             refine T S _ _ ?_
             exact fi F
           · replace T := T.2 c11
             replace F := aa (eq_false c11) <| F
             by_cases c13 : (b2.toNat : Int) = 95
             · replace T := T.1 c13
               obtain ⟨p14, T⟩ := T
               replace F := aa (eq_true c13) <| aa p14.wrap <| F
               try simp only [F, lw, lx, le, Nat.reduceMul, UInt8.reduceToNat, reduceIte, reduceCtorEq, Nat.reduceEqDiff, Nat.reduceAdd, Nat.reduceLeDiff, Nat.reduceSub, Nat.reduceLT, Int.reduceEq, Int.reduceLT, Int.reduceLE, Int.reduceToNat, Int.reduceAdd, Int.reduceSub, Int.reduceMul, Int.reduceNeg]
               refine T S _ _ ?_
               exact fi F
             · replace T := T.2 c13
               obtain rfl := T
               exact fi (aa (eq_false c13) <| F)
       · replace T := T.2 c7
         obtain rfl := T
         exact fi (aa (eq_false c7) <| F)
   · replace T := T.2 c4
     replace F := aa (eq_false c4) <| F
     by_cases c15 : 0 < i1
     · replace T := T.1 c15
       obtain ⟨r4, q16, T⟩ := T
       simp only [R_ref1_digit, le, List.cons_append, List.nil_append] at q16
       replace F := aa (eq_true c15) <| aa q16 <| F
       by_cases c17 : r4 = true
       · replace T := T.1 c17
         obtain ⟨p18, T⟩ := T
         replace F := aa c17 <| aa p18.wrap <| F
         try simp only [F, lw, lx, le, Nat.reduceMul, UInt8.reduceToNat, reduceIte, reduceCtorEq, Nat.reduceEqDiff, Nat.reduceAdd, Nat.reduceLeDiff, Nat.reduceSub, Nat.reduceLT, Int.reduceEq, Int.reduceLT, Int.reduceLE, Int.reduceToNat, Int.reduceAdd, Int.reduceSub, Int.reduceMul, Int.reduceNeg]
         refine T S _ _ ?_
         exact fi F
       · replace T := T.2 c17
         replace c17 := Bool.eq_false_iff.2 c17
         replace F := aa c17 <| F
         by_cases c19 : (b2.toNat : Int) = 45
         · replace T := T.1 c19
           obtain ⟨p20, T⟩ := T
           replace F := aa (eq_true c19) <| aa p20.wrap <| F
           try simp only [F, lw, lx, le, Nat.reduceMul, UInt8.reduceToNat, reduceIte, reduceCtorEq, Nat.reduceEqDiff, Nat.reduceAdd, Nat.reduceLeDiff, Nat.reduceSub, Nat.reduceLT, Int.reduceEq, Int.reduceLT, Int.reduceLE, Int.reduceToNat, Int.reduceAdd, Int.reduceSub, Int.reduceMul, Int.reduceNeg]
           refine T S _ _ ?_
           exact fi F
         · replace T := T.2 c19
           replace F := aa (eq_false c19) <| F
           by_cases c21 : (b2.toNat : Int) = 95
           · replace T := T.1 c21
             obtain ⟨p22, T⟩ := T
             replace F := aa (eq_true c21) <| aa p22.wrap <| F
             try simp only [F, lw, lx, le, Nat.reduceMul, UInt8.reduceToNat, reduceIte, reduceCtorEq, Nat.reduceEqDiff, Nat.reduceAdd, Nat.reduceLeDiff, Nat.reduceSub, Nat.reduceLT, Int.reduceEq, Int.reduceLT, Int.reduceLE, Int.reduceToNat, Int.reduceAdd, Int.reduceSub, Int.reduceMul, Int.reduceNeg]
             refine T S _ _ ?_
             exact fi F
           · replace T := T.2 c21
             obtain rfl := T
             exact fi (aa (eq_false c21) <| F)
     · replace T := T.2 c15
       obtain rfl := T
       exact fi (aa (eq_false c15) <| F)
 · replace T := T.2 c1
   replace F := aa (eq_false c1) <| F
   by_cases c23 : 1 ≤ (s.length : Int)
   · replace T := T.1 c23
     obtain rfl := T
     exact fi (aa (eq_true c23) <| F)
   · replace T := T.2 c23
     obtain rfl := T
     exact fi (aa (eq_false c23) <| F)
set_option maxHeartbeats 4000000 in
theorem ref1_Label_tree (s : List UInt8) (r : Bool) (T :
  At_ref1_Label_1 s 0 r) : R_ref1_Label s r := by
 intro S
 rw [call_code sp_ref1_Label _ _ rfl]
 have F := U_ref1_Label
 try simp only [F, lw, lx, le, Nat.reduceMul, UInt8.reduceToNat, reduceIte, reduceCtorEq, Nat.reduceEqDiff, Nat.reduceAdd, Nat.reduceLeDiff, Nat.reduceSub, Nat.reduceLT, Int.reduceEq, Int.reduceLT, Int.reduceLE, Int.reduceToNat, Int.reduceAdd, Int.reduceSub, Int.reduceMul, Int.reduceNeg]
 refine T S _ _ ?_
 exact fi F
theorem sp_slices_Contains_int_int : SP 50 = some (.code sc_slices_Contains_int_int) := SPof_code rfl Tryd.func50 comp_slices_Contains_int_int
/-! slices.Contains[[]int,int] -/
set_option maxHeartbeats 4000000 in
theorem slices_Contains_int_int_tree (s : List Int) (v : Int) (r : Bool) (T :
  ∃ (r1 : Int), (R_slices_Index_int_int s v r1) ∧
 (decide (0 ≤ r1)) = r) : R_slices_Contains_int_int s v r := by
 intro S
 rw [call_code sp_slices_Contains_int_int _ _ rfl]
 have F := U_slices_Contains_int_int
 obtain ⟨r1, q1, rfl⟩ := T
 simp only [R_slices_Index_int_int, le, List.cons_append, List.nil_append] at q1
 exact fi (aa q1 <| F)
theorem sp_slices_Index_int_int : SP 64 = some (.code sc_slices_Index_int_int) := SPof_code rfl Tryd.func64 comp_slices_Index_int_int
/-! slices.Index[[]int,int] -/
def At_slices_Index_int_int_1 (s : List Int) (v : Int) (i1 : Int) (r : Int) : Prop := ∀ (S : Sto) (e : Nat → PV) (f : Fr), e 0 = .list 1 (s.map eI) false ∧ e 1 = .int .i64 v ∧ e 7 = .int .i64 (s.length : Int) ∧ e 8 = .int .i64 i1 → k_slices_Index_int_int_1 SP (E SP (.loop b_slices_Index_int_int_1) ⟨e, f :: S⟩) = .ok (.v (.int .i64 r)) S
set_option maxHeartbeats 4000000 in
theorem At_slices_Index_int_int_1_step (s : List Int) (v : Int) (i1 : Int) (r : Int) (T :
  ((i1 < (s.length : Int)) →
  (0 ≤ i1) ∧
  ∃ (v2 : Int), (s[i1.toNat]? = some v2) ∧
  ((v = v2) →
   i1 = r) ∧
  (¬ (v = v2) →
   (I64 (i1 + 1)) ∧
   At_slices_Index_int_int_1 s v (i1 + 1) r)) ∧
 (¬ (i1 < (s.length : Int)) →
  (-1) = r)) : At_slices_Index_int_int_1 s v i1 r := by
 intro S e f h
 unfold k_slices_Index_int_int_1
 rw [E_loop]
 have F := U_slices_Index_int_int
 replace F := aa h <| F
 by_cases c1 : i1 < (s.length : Int)
 · replace T := T.1 c1
   obtain ⟨p2, v2, q3, T⟩ := T
   replace F := aa (eq_true c1) <| aa p2 <| aa q3 <| F
   by_cases c4 : v = v2
   · replace T := T.1 c4
     obtain rfl := T
     exact fi (aa (eq_true c4) <| F)
   · replace T := T.2 c4
     obtain ⟨p5, T⟩ := T
     replace F := aa (eq_false c4) <| aa p5.wrap <| F
     try simp only [F, lw, lx, le, Nat.reduceMul, UInt8.reduceToNat, reduceIte, reduceCtorEq, Nat.reduceEqDiff, Nat.reduceAdd, Nat.reduceLeDiff, Nat.reduceSub, Nat.reduceLT, Int.reduceEq, Int.reduceLT, Int.reduceLE, Int.reduceToNat, Int.reduceAdd, Int.reduceSub, Int.reduceMul, Int.reduceNeg]
     refine T S _ _ ?_
     exact fi F
 · replace T := T.2 c1
   obtain rfl := T
   exact fi (aa (eq_false c1) <| F)
set_option maxHeartbeats 4000000 in
theorem slices_Index_int_int_tree (s : List Int) (v : Int) (r : Int) (T :
  At_slices_Index_int_int_1 s v 0 r) : R_slices_Index_int_int s v r := by
 intro S
 rw [call_code sp_slices_Index_int_int _ _ rfl]
 have F := U_slices_Index_int_int
 try simp only [F, lw, lx, le, Nat.reduceMul, UInt8.reduceToNat, reduceIte, reduceCtorEq, Nat.reduceEqDiff, Nat.reduceAdd, Nat.reduceLeDiff, Nat.reduceSub, Nat.reduceLT, Int.reduceEq, Int.reduceLT, Int.reduceLE, Int.reduceToNat, Int.reduceAdd, Int.reduceSub, Int.reduceMul, Int.reduceNeg]
 refine T S _ _ ?_
 exact fi F
theorem sp_slices_Contains_string_string : SP 42 = some (.code sc_slices_Contains_string_string) := SPof_code rfl Tryd.func42 comp_slices_Contains_string_string
/-! slices.Contains[[]string,string] -/
set_option maxHeartbeats 4000000 in
theorem slices_Contains_string_string_tree (s : List (List UInt8)) (v : List UInt8) (r : Bool) (T :
  ∃ (r1 : Int), (R_slices_Index_string_string s v r1) ∧
 (decide (0 ≤ r1)) = r) : R_slices_Contains_string_string s v r := by
 intro S
 rw [call_code sp_slices_Contains_string_string _ _ rfl]
 have F := U_slices_Contains_string_string
 obtain ⟨r1, q1, rfl⟩ := T
 simp only [R_slices_Index_string_string, le, List.cons_append, List.nil_append] at q1
 exact fi (aa q1 <| F)
theorem sp_slices_Index_string_string : SP 58 = some (.code sc_slices_Index_string_string) := SPof_code rfl Tryd.func58 comp_slices_Index_string_string
/-! slices.Index[[]string,string] -/
def At_slices_Index_string_string_1 (s : List (List UInt8)) (v : List UInt8) (i1 : Int) (r : Int) : Prop := ∀ (S : Sto) (e : Nat → PV) (f : Fr), e 0 = .list 1 (s.map eS) false ∧ e 1 = .str v ∧ e 7 = .int .i64 (s.length : Int) ∧ e 8 = .int .i64 i1 → k_slices_Index_string_string_1 SP (E SP (.loop b_slices_Index_string_string_1) ⟨e, f :: S⟩) = .ok (.v (.int .i64 r)) S
set_option maxHeartbeats 4000000 in
theorem At_slices_Index_string_string_1_step (s : List (List UInt8)) (v : List UInt8) (i1 : Int) (r : Int) (T :
  ((i1 < (s.length : Int)) →
  (0 ≤ i1) ∧
  ∃ (v2 : List UInt8), (s[i1.toNat]? = some v2) ∧
  ((v = v2) →
   i1 = r) ∧
  (¬ (v = v2) →
   (I64 (i1 + 1)) ∧
   At_slices_Index_string_string_1 s v (i1 + 1) r)) ∧
 (¬ (i1 < (s.length : Int)) →
  (-1) = r)) : At_slices_Index_string_string_1 s v i1 r := by
 intro S e f h
 unfold k_slices_Index_string_string_1
 rw [E_loop]
 have F := U_slices_Index_string_string
 replace F := aa h <| F
 by_cases c1 : i1 < (s.length : Int)
 · replace T := T.1 c1
   obtain ⟨p2, v2, q3, T⟩ := T
   replace F := aa (eq_true c1) <| aa p2 <| aa q3 <| F
   by_cases c4 : v = v2
   · replace T := T.1 c4
     obtain rfl := T
     exact fi (aa (eq_true c4) <| F)
   · replace T := T.2 c4
     obtain ⟨p5, T⟩ := T
     replace F := aa (eq_false c4) <| aa p5.wrap <| F
     try simp only [F, lw, lx, le, Nat.reduceMul, UInt8.reduceToNat, reduceIte, reduceCtorEq, Nat.reduceEqDiff, Nat.reduceAdd, Nat.reduceLeDiff, Nat.reduceSub, Nat.reduceLT, Int.reduceEq, Int.reduceLT, Int.reduceLE, Int.reduceToNat, Int.reduceAdd, Int.reduceSub, Int.reduceMul, Int.reduceNeg]
     refine T S _ _ ?_
     exact fi F
 · replace T := T.2 c1
   obtain rfl := T
   exact fi (aa (eq_false c1) <| F)
set_option maxHeartbeats 4000000 in
theorem slices_Index_string_string_tree (s : List (List UInt8)) (v : List UInt8) (r : Int) (T :
  At_slices_Index_string_string_1 s v 0 r) : R_slices_Index_string_string s v r := by
 intro S
 rw [call_code sp_slices_Index_string_string _ _ rfl]
 have F := U_slices_Index_string_string
 try simp only [F, lw, lx, le, Nat.reduceMul, UInt8.reduceToNat, reduceIte, reduceCtorEq, Nat.reduceEqDiff, Nat.reduceAdd, Nat.reduceLeDiff, Nat.reduceSub, Nat.reduceLT, Int.reduceEq, Int.reduceLT, Int.reduceLE, Int.reduceToNat, Int.reduceAdd, Int.reduceSub, Int.reduceMul, Int.reduceNeg]
 refine T S _ _ ?_
 exact fi F
end Go.Proofs.YtljgfdhlfjbafaaDoor.M

/- Lex: classes, spans, what is in a list; what a name is. -/
namespace Go.Proofs.YtljgfdhlfjbafaaDoor.M
set_option linter.unusedSimpArgs false
set_option linter.unusedVariables false
open Go Classical
def clsS (c : UInt8) : Int :=
  if c.toNat = 32 ∨ c.toNat = 10 then 1 else if c.toNat = 95 ∨ (97 ≤ c.toNat ∧ c.toNat ≤ 122) then 2
  else if 48 ≤ c.toNat ∧ c.toNat ≤ 57 then 3 else if c.toNat = 34 then 4 else if c.toNat = 35 then 5 else 0
theorem r_class (c : UInt8) : R_lex_class c (clsS c) := by
  apply lex_class_tree
  unfold clsS
  repeat' first
    | refine ⟨fun h => ?_, fun h => ?_⟩
    | ((repeat' split) <;> omega)
theorem r_idxI (s : List Int) (v : Int) (hs : s.length < 1000000) : ∀ (k i : Nat), i + k = s.length → ∃ r : Int, At_slices_Index_int_int_1 s v i r ∧ (0 ≤ r ↔ v ∈ s.drop i)
  | 0, i, h => ⟨-1, by
      apply At_slices_Index_int_int_1_step
      exact ⟨fun h => by omega, fun _ => rfl⟩, by rw [List.drop_eq_nil_of_le (by omega)]; simp⟩
  | k + 1, i, h => by
    have hi : i < s.length := by omega
    have hg : s[((i : Nat) : Int).toNat]? = some s[i] := by rw [Int.toNat_natCast]; exact List.getElem?_eq_getElem hi
    have hd : s.drop i = s[i] :: s.drop (i + 1) := List.drop_eq_getElem_cons hi
    by_cases c : v = s[i]
    · refine ⟨i, ?_, ?_⟩
      · apply At_slices_Index_int_int_1_step
        exact ⟨fun _ => ⟨by omega, s[i], hg, fun _ => rfl, fun h => absurd c h⟩, fun h => by omega⟩
      · rw [hd, ← c]; simp
    · obtain ⟨r, h1, h2⟩ := r_idxI s v hs k (i + 1) (by omega)
      refine ⟨r, ?_, ?_⟩
      · apply At_slices_Index_int_int_1_step
        exact ⟨fun _ => ⟨by omega, s[i], hg, fun h => absurd h c, fun _ => ⟨⟨by omega, by omega⟩, h1⟩⟩, fun h => by omega⟩
      · rw [hd, h2, List.mem_cons]; simp [c]
theorem r_containsI (s : List Int) (v : Int) (hs : s.length < 1000000) : R_slices_Contains_int_int s v (decide (v ∈ s)) := by
  apply slices_Contains_int_int_tree
  obtain ⟨r, h1, h2⟩ := r_idxI s v hs s.length 0 (by omega)
  refine ⟨r, slices_Index_int_int_tree s v r h1, ?_⟩
  rw [List.drop_zero] at h2
  exact decide_eq_decide.2 h2
theorem r_idxS (s : List (List UInt8)) (v : List UInt8) (hs : s.length < 1000000) : ∀ (k i : Nat), i + k = s.length → ∃ r : Int, At_slices_Index_string_string_1 s v i r ∧ (0 ≤ r ↔ v ∈ s.drop i)
  | 0, i, h => ⟨-1, by
      apply At_slices_Index_string_string_1_step
      exact ⟨fun h => by omega, fun _ => rfl⟩, by rw [List.drop_eq_nil_of_le (by omega)]; simp⟩
  | k + 1, i, h => by
    have hi : i < s.length := by omega
    have hg : s[((i : Nat) : Int).toNat]? = some s[i] := by rw [Int.toNat_natCast]; exact List.getElem?_eq_getElem hi
    have hd : s.drop i = s[i] :: s.drop (i + 1) := List.drop_eq_getElem_cons hi
    by_cases c : v = s[i]
    · refine ⟨i, ?_, ?_⟩
      · apply At_slices_Index_string_string_1_step
        exact ⟨fun _ => ⟨by omega, s[i], hg, fun _ => rfl, fun h => absurd c h⟩, fun h => by omega⟩
      · rw [hd, ← c]; simp
    · obtain ⟨r, h1, h2⟩ := r_idxS s v hs k (i + 1) (by omega)
      refine ⟨r, ?_, ?_⟩
      · apply At_slices_Index_string_string_1_step
        exact ⟨fun _ => ⟨by omega, s[i], hg, fun h => absurd h c, fun _ => ⟨⟨by omega, by omega⟩, h1⟩⟩, fun h => by omega⟩
      · rw [hd, h2, List.mem_cons]; simp [c]
theorem r_containsS (s : List (List UInt8)) (v : List UInt8) (hs : s.length < 1000000) : R_slices_Contains_string_string s v (decide (v ∈ s)) := by
  apply slices_Contains_string_string_tree
  obtain ⟨r, h1, h2⟩ := r_idxS s v hs s.length 0 (by omega)
  refine ⟨r, slices_Index_string_string_tree s v r h1, ?_⟩
  rw [List.drop_zero] at h2
  exact decide_eq_decide.2 h2
/-! ### Spans -/
def inC (cl : List Int) (c : UInt8) : Bool := decide (clsS c ∈ cl)
def spanS (cl : List Int) (s : List UInt8) : Nat := (s.takeWhile (inC cl)).length
theorem spanS_le (cl : List Int) : ∀ s : List UInt8, spanS cl s ≤ s.length
  | [] => Nat.le_refl _
  | c :: s => by
    unfold spanS
    rw [List.takeWhile_cons]
    split
    · have := spanS_le cl s; unfold spanS at this; simp only [List.length_cons]; omega
    · simp
theorem r_span_loop (s : List UInt8) (cl : List Int) (hc : cl.length < 1000000) (hs : s.length ≤ 1000000) : ∀ (k i : Nat), i + k = s.length → ∀ r : Int, r = (i : Int) + spanS cl (s.drop i) → At_lex_span_1 s cl i r := by
  intro k
  induction k with
  | zero =>
    intro i hi r hr
    apply At_lex_span_1_step
    rw [List.drop_eq_nil_of_le (by omega)] at hr
    exact ⟨fun h => by omega, fun _ => by rw [hr]; simp [spanS]; omega⟩
  | succ k ih =>
    intro i hi r hr
    have hlt : i < s.length := by omega
    have hg : s[((i : Nat) : Int).toNat]? = some s[i] := by rw [Int.toNat_natCast]; exact List.getElem?_eq_getElem hlt
    have hd : s.drop i = s[i] :: s.drop (i + 1) := List.drop_eq_getElem_cons hlt
    rw [hd, spanS, List.takeWhile_cons] at hr
    apply At_lex_span_1_step
    refine ⟨fun _ => ⟨by omega, s[i], hg, _, r_class _, _, r_containsI cl _ hc, fun h => ?_, fun h => ?_⟩, fun h => by omega⟩
    · refine ⟨⟨by omega, by omega⟩, ih (i + 1) (by omega) r ?_⟩
      have h' : inC cl s[i] = true := h
      rw [hr, if_pos h', spanS]
      simp only [List.length_cons]
      omega
    · have h' : ¬ inC cl s[i] = true := h
      rw [hr, if_neg h']
      simp
theorem r_span (s : List UInt8) (cl : List Int) (hc : cl.length < 1000000) (hs : s.length ≤ 1000000) : R_lex_span s cl (spanS cl s) := by
  apply lex_span_tree
  exact r_span_loop s cl hc hs s.length 0 (by omega) _ (by simp)
end Go.Proofs.YtljgfdhlfjbafaaDoor.M

/- Lex: what a name is, on both sides; where a name ends. -/
namespace Go.Proofs.YtljgfdhlfjbafaaDoor.M
set_option linter.unusedSimpArgs false
set_option linter.unusedVariables false
open Go Classical
theorem r_begins (c : UInt8) : R_ref1_begins c (decide (clsS c = 2)) := by
  apply ref1_begins_tree
  have hc : clsS c = 2 ↔ (c.toNat = 95 ∨ (97 ≤ c.toNat ∧ c.toNat ≤ 122)) := by
    unfold clsS
    repeat' split
    all_goals (first | omega | (constructor <;> intro h <;> first | omega | exact absurd h (by decide)))
  refine ⟨fun h1 => ⟨fun h2 => ?_, fun h2 => ?_⟩, fun h1 => ?_⟩
  · exact (decide_eq_true (hc.2 (by omega))).symm
  · exact decide_eq_decide.2 (by rw [hc]; omega)
  · exact decide_eq_decide.2 (by rw [hc]; omega)
theorem r_digit (c : UInt8) : R_ref1_digit c (decide (clsS c = 3)) := by
  apply ref1_digit_tree
  have hc : clsS c = 3 ↔ (48 ≤ c.toNat ∧ c.toNat ≤ 57) := by
    unfold clsS
    repeat' split
    all_goals (first | omega | (constructor <;> intro h <;> first | omega | exact absurd h (by decide)))
  refine ⟨fun h1 => ?_, fun h1 => ?_⟩
  · exact decide_eq_decide.2 (by rw [hc]; omega)
  · exact (decide_eq_false (by rw [hc]; omega)).symm
theorem inC23 (c : UInt8) : inC [2, 3] c = true ↔ clsS c = 2 ∨ clsS c = 3 := by
  unfold inC
  simp
theorem r_nameEnd_loop (s : List UInt8) (hs : s.length ≤ 1000000) : ∀ (k i : Nat), i + k = s.length → ∀ r : Int, r = (i : Int) + spanS [2, 3] (s.drop i) → At_ref1_nameEnd_1 s i r := by
  intro k
  induction k with
  | zero =>
    intro i hi r hr
    apply At_ref1_nameEnd_1_step
    rw [List.drop_eq_nil_of_le (by omega)] at hr
    exact ⟨fun h => by omega, fun _ => by rw [hr]; simp [spanS]⟩
  | succ k ih =>
    intro i hi r hr
    have hlt : i < s.length := by omega
    have hg : s[((i : Nat) : Int).toNat]? = some s[i] := by rw [Int.toNat_natCast]; exact List.getElem?_eq_getElem hlt
    have hd : s.drop i = s[i] :: s.drop (i + 1) := List.drop_eq_getElem_cons hlt
    rw [hd, spanS, List.takeWhile_cons] at hr
    have next : (clsS s[i] = 2 ∨ clsS s[i] = 3) → At_ref1_nameEnd_1 s ((i + 1 : Nat) : Int) r := fun h => ih (i + 1) (by omega) r (by
      rw [hr, if_pos ((inC23 _).2 h), spanS]
      simp only [List.length_cons]
      omega)
    apply At_ref1_nameEnd_1_step
    refine ⟨fun _ => ⟨by omega, s[i], hg, _, r_begins _, fun h => ⟨⟨by omega, by omega⟩, next (.inl (of_decide_eq_true h))⟩, fun h1 => ⟨_, r_digit _, fun h => ⟨⟨by omega, by omega⟩, next (.inr (of_decide_eq_true h))⟩, fun h2 => ?_⟩⟩, fun h => by omega⟩
    rw [hr, if_neg]
    · simp
    · rw [inC23]
      simp only [decide_eq_true_eq] at h1 h2
      omega
/-- How long the name is that stands at the beginning. -/
def endS (s : List UInt8) : Nat := match s with
  | [] => 0
  | c :: _ => if clsS c = 2 then spanS [2, 3] s else 0
theorem r_nameEnd (s : List UInt8) (hs : s.length ≤ 1000000) (i : Nat) : R_ref1_nameEnd s i ((i : Int) + endS (s.drop i)) := by
  apply ref1_nameEnd_tree
  refine ⟨fun h => ?_, fun h => ?_⟩
  · rw [List.drop_eq_nil_of_le (by omega)]
    simp [endS]
  · have hlt : i < s.length := by omega
    have hg : s[((i : Nat) : Int).toNat]? = some s[i] := by rw [Int.toNat_natCast]; exact List.getElem?_eq_getElem hlt
    have hd : s.drop i = s[i] :: s.drop (i + 1) := List.drop_eq_getElem_cons hlt
    refine ⟨by omega, s[i], hg, _, r_begins _, fun h => ?_, fun h => ?_⟩
    · refine r_nameEnd_loop s hs (s.length - i) i (by omega) _ ?_
      rw [hd, endS, if_pos (of_decide_eq_true h)]
    · rw [hd, endS, if_neg (fun e => h (decide_eq_true e))]
      simp
/-- Is a text a name? -/
def nameS (s : List UInt8) : Bool := decide (s ≠ [] ∧ s.length ≤ 24 ∧ endS s = s.length)
theorem r_lexName (s : List UInt8) (hs : s.length ≤ 1000000) : R_lex_Name s (nameS s) := by
  apply lex_Name_tree
  refine ⟨fun h => ?_, fun h => ⟨fun h2 => ?_, fun h2 => ?_⟩⟩
  · simp [nameS, h]
  · cases s with
    | nil => exact absurd rfl h
    | cons c t =>
      refine ⟨c, rfl, _, r_class c, fun h3 => ⟨_, r_span _ _ (by decide) hs, ?_⟩, fun h3 => ?_⟩
      · refine decide_eq_decide.2 ?_
        rw [endS, if_pos h3]
        constructor
        · intro e; exact ⟨by simp, by omega, by omega⟩
        · intro e; have := e.2.2; omega
      · refine (decide_eq_false ?_).symm
        rw [endS, if_neg h3]
        intro e
        have := e.2.2
        simp at this
  · refine (decide_eq_false fun e => ?_).symm
    have := e.2.1
    omega
end Go.Proofs.YtljgfdhlfjbafaaDoor.M

/- Lex: a text cut at one byte; names on the other side. -/
namespace Go.Proofs.YtljgfdhlfjbafaaDoor.M
set_option linter.unusedSimpArgs false
set_option linter.unusedVariables false
open Go Classical
theorem index1 (b : UInt8) : ∀ s : List UInt8, Lib.index s [b] = if b ∈ s then ((s.takeWhile (· != b)).length : Int) else -1
  | [] => by simp [Lib.index]
  | c :: l => by
    unfold Lib.index
    rw [index1 b l]
    by_cases h : b = c
    · subst h
      simp [List.takeWhile_cons]
    · have h' : ¬ c = b := fun e => h e.symm
      by_cases hm : b ∈ l
      · simp [List.takeWhile_cons, h, h', hm]
      · simp [h, hm]
theorem take_while_len (p : UInt8 → Bool) : ∀ s : List UInt8, s.take (s.takeWhile p).length = s.takeWhile p
  | [] => rfl
  | c :: s => by
    rw [List.takeWhile_cons]
    split
    · simp [take_while_len p s]
    · rfl
theorem drop_while_len (p : UInt8 → Bool) : ∀ s : List UInt8, s.drop (s.takeWhile p).length = s.dropWhile p
  | [] => rfl
  | c :: s => by
    rw [List.takeWhile_cons, List.dropWhile_cons]
    split
    · simp [drop_while_len p s]
    · rfl
theorem cut1 (b : UInt8) (s : List UInt8) : Lib.cut s [b] = if b ∈ s then (s.takeWhile (· != b), (s.dropWhile (· != b)).drop 1, true) else (s, [], false) := by
  unfold Lib.cut
  rw [index1]
  by_cases h : b ∈ s
  · simp only [h, if_true]
    rw [if_pos (by omega)]
    simp only [Int.toNat_natCast, List.length_cons, List.length_nil, Nat.zero_add]
    rw [take_while_len, ← drop_while_len, List.drop_drop]
  · simp [h]
theorem r_Cut (s p : List UInt8) (hs : s.length ≤ 1000000) : R_strings_Cut s p (Lib.cut s p).1 (Lib.cut s p).2.1 (Lib.cut s p).2.2 := fun S => call_ext sp_strings_Cut S (if_pos (by omega))
theorem r_HasPrefix (s p : List UInt8) : R_strings_HasPrefix s p (Lib.hasPrefix s p) := fun S => call_ext sp_strings_HasPrefix S rfl
theorem r_SContains (s p : List UInt8) (hs : s.length ≤ 1000000) : R_strings_Contains s p (Lib.contains s p) := fun S => call_ext sp_strings_Contains S (if_pos (by omega))
theorem r_refName (s : List UInt8) (hs : s.length ≤ 1000000) : R_ref1_Name s (nameS s) := by
  apply ref1_Name_tree
  refine ⟨fun h => ?_, fun h => ⟨fun h2 => ⟨_, r_nameEnd s hs 0, ?_⟩, fun h2 => ?_⟩⟩
  · simp [nameS, h]
  · refine decide_eq_decide.2 ?_
    rw [List.drop_zero]
    constructor
    · intro e; exact ⟨h, by omega, by omega⟩
    · intro e; have := e.2.2; omega
  · refine (decide_eq_false fun e => ?_).symm
    have := e.2.1
    omega
end Go.Proofs.YtljgfdhlfjbafaaDoor.M

/- Lex: what stands between '${' and '}'. -/
namespace Go.Proofs.YtljgfdhlfjbafaaDoor.M
set_option linter.unusedSimpArgs false
set_option linter.unusedVariables false
open Go Classical
/-- Two names with a dot between. -/
def dottedS (s : List UInt8) : Bool := (Lib.cut s [46]).2.2 && nameS (Lib.cut s [46]).1 && nameS (Lib.cut s [46]).2.1
/-- The reference that a text (behind '${') begins with, and whether there is one. -/
def refS (s : List UInt8) : List UInt8 × Bool := ((Lib.cut s [125]).1, (Lib.cut s [125]).2.2 && dottedS (Lib.cut s [125]).1)
theorem cut_len1 (s p : List UInt8) : (Lib.cut s p).1.length ≤ s.length := by
  unfold Lib.cut
  split
  · simp; omega
  · simp
theorem cut_len2 (s p : List UInt8) : (Lib.cut s p).2.1.length ≤ s.length := by
  unfold Lib.cut
  split
  · simp
  · simp
theorem r_reference (s : List UInt8) (h2 : 2 ≤ s.length) (hs : s.length ≤ 1000000) : R_lex_reference s (refS (s.drop 2)).1 (refS (s.drop 2)).2 := by
  apply lex_reference_tree
  have e : (s.drop 2).take (s.length - 2) = s.drop 2 := List.take_of_length_le (by simp)
  rw [e]
  have l0 : (s.drop 2).length ≤ 1000000 := by simp; omega
  generalize s.drop 2 = t at l0
  have l1 := cut_len1 t [125]
  have l2 := cut_len1 (Lib.cut t [125]).1 [46]
  have l3 := cut_len2 (Lib.cut t [125]).1 [46]
  refine ⟨h2, _, _, _, r_Cut t [125] l0, _, _, _, r_Cut _ [46] (by omega), fun h3 => ⟨fun h6 => ⟨_, r_lexName _ (by omega), fun h7 => ⟨_, r_lexName _ (by omega), rfl, ?_⟩, fun h7 => ⟨rfl, ?_⟩⟩, fun h6 => ⟨rfl, ?_⟩⟩, fun h3 => ⟨rfl, ?_⟩⟩
  · simp [refS, dottedS, h3, h6, h7]
  · simp [refS, dottedS, h7]
  · simp [refS, dottedS, h6]
  · simp [refS, h3]
end Go.Proofs.YtljgfdhlfjbafaaDoor.M

/- Lex: two names with a dot, on the other side. -/
namespace Go.Proofs.YtljgfdhlfjbafaaDoor.M
set_option linter.unusedSimpArgs false
set_option linter.unusedVariables false
open Go Classical
theorem takeWhile_stop (p : UInt8 → Bool) : ∀ (u : List UInt8) (c : UInt8) (v : List UInt8), (∀ x ∈ u, p x = true) → p c = false → (u ++ c :: v).takeWhile p = u
  | [], c, v, _, hc => by simp [List.takeWhile_cons, hc]
  | x :: u, c, v, h, hc => by
    rw [List.cons_append, List.takeWhile_cons, if_pos (h x (by simp)), takeWhile_stop p u c v (fun y hy => h y (by simp [hy])) hc]
theorem cut_split (b : UInt8) (u v : List UInt8) (h : b ∉ u) : Lib.cut (u ++ b :: v) [b] = (u, v, true) := by
  have h1 : (u ++ b :: v).takeWhile (· != b) = u := takeWhile_stop _ u b v (fun x hx => by simp; intro e; exact h (e ▸ hx)) (by simp)
  rw [cut1, if_pos (by simp), ← drop_while_len, h1]
  simp
theorem cut_none (b : UInt8) (s : List UInt8) (h : b ∉ s) : Lib.cut s [b] = (s, [], false) := by rw [cut1, if_neg h]
theorem splitAt_first (b : UInt8) : ∀ s : List UInt8, b ∈ s → ∃ u v, s = u ++ b :: v ∧ b ∉ u
  | [], h => by cases h
  | c :: s, h => by
    by_cases e : b = c
    · exact ⟨[], s, by rw [e]; rfl, by simp⟩
    · obtain ⟨u, v, h1, h2⟩ := splitAt_first b s (by rcases List.mem_cons.1 h with h | h; exact absurd h e; exact h)
      exact ⟨c :: u, v, by rw [h1]; rfl, by simp [e, h2]⟩
theorem endS_le (s : List UInt8) : endS s ≤ s.length := by
  unfold endS
  split
  · exact Nat.zero_le _
  · split
    · exact spanS_le _ _
    · exact Nat.zero_le _
theorem span_in (cl : List Int) : ∀ (s : List UInt8) (x : UInt8), x ∈ s.take (spanS cl s) → inC cl x = true := fun s x h => by
  unfold spanS at h
  rw [take_while_len] at h
  exact List.all_eq_true.1 List.all_takeWhile x h
theorem endS_in (s : List UInt8) (x : UInt8) (h : x ∈ s.take (endS s)) : inC [2, 3] x = true := by
  unfold endS at h
  split at h
  · simp at h
  · split at h
    · exact span_in _ _ x h
    · simp at h
theorem name_in {s : List UInt8} (h : nameS s = true) (x : UInt8) (hx : x ∈ s) : inC [2, 3] x = true := by
  obtain ⟨_, _, h3⟩ := of_decide_eq_true h
  refine endS_in s x ?_
  rw [h3, List.take_length]
  exact hx
theorem endS_app {u : List UInt8} (h : nameS u = true) (c : UInt8) (v : List UInt8) (hc : inC [2, 3] c = false) : endS (u ++ c :: v) = u.length := by
  obtain ⟨h1, _, h3⟩ := of_decide_eq_true h
  cases u with
  | nil => exact absurd rfl h1
  | cons a u =>
    have ha : clsS a = 2 := by
      rw [endS] at h3
      split at h3
      · assumption
      · simp at h3
    rw [List.cons_append, endS, if_pos ha, spanS, ← List.cons_append, takeWhile_stop _ (a :: u) c v (fun x hx => name_in h x hx) hc]
theorem in46 : inC [2, 3] 46 = false := by
  rw [← Bool.not_eq_true, inC23]
  decide
theorem r_Dotted (s : List UInt8) (hs : s.length ≤ 1000000) : R_ref1_Dotted s (dottedS s) := by
  apply ref1_Dotted_tree
  have hle := endS_le s
  refine ⟨_, r_nameEnd s hs 0, ?_⟩
  rw [List.drop_zero]
  by_cases hm : (46 : UInt8) ∈ s
  · obtain ⟨u, v, rfl, hu⟩ := splitAt_first 46 s hm
    have hd : dottedS (u ++ 46 :: v) = (nameS u && nameS v) := by unfold dottedS; rw [cut_split 46 u v hu]; simp
    rw [hd]
    by_cases hn : nameS u = true
    · have he := endS_app hn 46 v in46
      obtain ⟨h1, _, _⟩ := of_decide_eq_true hn
      have hpos : 0 < u.length := List.length_pos_iff.2 h1
      rw [he]
      simp only [List.length_append, List.length_cons] at hs
      refine ⟨fun _ => ⟨fun _ => ⟨by omega, 46, by simp, fun _ => ⟨by omega, by rw [List.length_append, List.length_cons]; omega, nameS u, ?_, fun _ => ⟨⟨by omega, by omega⟩, by omega, by rw [List.length_append, List.length_cons]; omega, nameS v, ?_, by simp [hn]⟩, fun h => absurd hn h⟩, fun h => absurd (by decide) h⟩, fun h => absurd (by simp; omega) h⟩, fun h => absurd (by omega) h⟩
      · have e : (u ++ 46 :: v).take ((0 : Nat) + (u.length : Nat) : Int).toNat = u := by
          rw [show (((0 : Nat) : Int) + ((u.length : Nat) : Int)).toNat = u.length by omega]; simp
        rw [e]
        exact r_refName u (by omega)
      · have e1 : (((0 : Nat) : Int) + ((u.length : Nat) : Int) + 1).toNat = u.length + 1 := by omega
        rw [e1]
        have e2 : (u ++ 46 :: v).drop (u.length + 1) = v := by rw [List.drop_append]; simp
        rw [e2, List.take_of_length_le (by rw [List.length_append, List.length_cons]; omega)]
        exact r_refName v (by omega)
    · have hnf : nameS u = false := by simpa using hn
      rw [hnf, Bool.false_and]
      refine ⟨fun h1 => ⟨fun h2 => ?_, fun _ => rfl⟩, fun _ => rfl⟩
      have hlt : endS (u ++ 46 :: v) < (u ++ 46 :: v).length := by omega
      have et : (((0 : Nat) : Int) + ((endS (u ++ 46 :: v) : Nat) : Int)).toNat = endS (u ++ 46 :: v) := by omega
      rw [et]
      refine ⟨by omega, _, List.getElem?_eq_getElem hlt, fun h3 => ?_, fun _ => rfl⟩
      have h46 : (u ++ 46 :: v)[endS (u ++ 46 :: v)] = 46 := by
        apply UInt8.toNat_inj.1
        exact Int.ofNat.inj h3
      have he : endS (u ++ 46 :: v) = u.length := by
        rcases Nat.lt_trichotomy (endS (u ++ 46 :: v)) u.length with h | h | h
        · exfalso
          rw [List.getElem_append_left h] at h46
          exact hu (h46 ▸ List.getElem_mem h)
        · exact h
        · exfalso
          have : (46 : UInt8) ∈ (u ++ 46 :: v).take (endS (u ++ 46 :: v)) := by
            rw [List.take_append]
            refine List.mem_append.2 (.inr ?_)
            obtain ⟨k, hk⟩ : ∃ k, endS (u ++ 46 :: v) - u.length = k + 1 := ⟨endS (u ++ 46 :: v) - u.length - 1, by omega⟩
            rw [hk]
            simp
          have := endS_in _ _ this
          rw [in46] at this
          cases this
      have e : (u ++ 46 :: v).take (endS (u ++ 46 :: v)) = u := by rw [he]; simp
      rw [e]
      have hs2 : u.length ≤ 1000000 := by simp at hs; omega
      exact ⟨by omega, by omega, nameS u, r_refName u hs2, fun h => absurd h hn, fun _ => rfl⟩
  · have hd : dottedS s = false := by unfold dottedS; rw [cut_none 46 s hm]; rfl
    rw [hd]
    refine ⟨fun h1 => ⟨fun h2 => ?_, fun _ => rfl⟩, fun _ => rfl⟩
    have hlt : endS s < s.length := by omega
    have et : (((0 : Nat) : Int) + ((endS s : Nat) : Int)).toNat = endS s := by omega
    rw [et]
    refine ⟨by omega, _, List.getElem?_eq_getElem hlt, fun h3 => ?_, fun _ => rfl⟩
    exfalso
    have h46 : s[endS s] = 46 := by
      apply UInt8.toNat_inj.1
      exact Int.ofNat.inj h3
    exact hm (h46 ▸ List.getElem_mem hlt)
end Go.Proofs.YtljgfdhlfjbafaaDoor.M

/- Lex: references on the other side. -/
namespace Go.Proofs.YtljgfdhlfjbafaaDoor.M
set_option linter.unusedSimpArgs false
set_option linter.unusedVariables false
open Go Classical
theorem in125 : inC [2, 3] 125 = false := by
  rw [← Bool.not_eq_true, inC23]
  decide
theorem dotted_split {s : List UInt8} (h : dottedS s = true) : ∃ x y, s = x ++ 46 :: y ∧ nameS x = true ∧ nameS y = true := by
  unfold dottedS at h
  by_cases hm : (46 : UInt8) ∈ s
  · obtain ⟨u, v, rfl, hu⟩ := splitAt_first 46 s hm
    rw [cut_split 46 u v hu] at h
    simp only [Bool.and_eq_true] at h
    exact ⟨u, v, rfl, h.1.2, h.2⟩
  · rw [cut_none 46 s hm] at h
    cases h
theorem ref_split {t : List UInt8} (h : (refS t).2 = true) : ∃ x y v, t = x ++ 46 :: (y ++ 125 :: v) ∧ nameS x = true ∧ nameS y = true ∧ (refS t).1 = x ++ 46 :: y := by
  unfold refS at h ⊢
  by_cases hm : (125 : UInt8) ∈ t
  · obtain ⟨u, v, rfl, hu⟩ := splitAt_first 125 t hm
    rw [cut_split 125 u v hu] at h ⊢
    obtain ⟨x, y, rfl, hx, hy⟩ := dotted_split (by simpa using h)
    exact ⟨x, y, v, by simp, hx, hy, rfl⟩
  · rw [cut_none 125 t hm] at h
    cases h
theorem drop_mid (b : UInt8) (x w : List UInt8) : (x ++ b :: w).drop (x.length + 1) = w := by rw [List.drop_append]; simp
theorem name_pos {s : List UInt8} (h : nameS s = true) : 0 < s.length := List.length_pos_iff.2 (of_decide_eq_true h).1
def refLen (t : List UInt8) : Int := if (refS t).2 = true then ((refS t).1.length : Int) + 3 else 0
theorem r_refReference (s : List UInt8) (hs : s.length ≤ 1000000) (i : Nat) (hi : i + 2 ≤ s.length) : R_ref1_reference s i (refLen (s.drop (i + 2))) := by
  apply ref1_reference_tree
  have hN : R_ref1_nameEnd s ((i : Int) + 2) (((i + 2 : Nat) : Int) + endS (s.drop (i + 2))) := r_nameEnd s hs (i + 2)
  have hgen : ∀ a : Nat, i + 2 + a < s.length → s[i + 2 + a]? = (s.drop (i + 2))[a]? := fun a _ => by rw [List.getElem?_drop]
  have hlen : (s.drop (i + 2)).length = s.length - (i + 2) := List.length_drop
  have hdd : ∀ a : Nat, s.drop (i + 2 + a) = (s.drop (i + 2)).drop a := fun a => by rw [List.drop_drop]
  generalize ht : s.drop (i + 2) = t at *
  have hle := endS_le t
  refine ⟨⟨by omega, by omega⟩, _, hN, ⟨by omega, by omega⟩, fun h1 => ?_, fun h1 => ⟨fun h2 => ?_, fun h2 => ?_⟩⟩
  · -- no name ahead
    have h0 : endS t = 0 := by omega
    rw [refLen, if_neg]
    intro h
    obtain ⟨x, y, v, rfl, hx, hy, _⟩ := ref_split h
    rw [endS_app hx 46 _ in46] at h0
    have := name_pos hx
    omega
  · rw [refLen, if_neg]
    intro h
    obtain ⟨x, y, v, rfl, hx, hy, _⟩ := ref_split h
    rw [endS_app hx 46 _ in46] at h2
    simp only [List.length_append, List.length_cons] at hlen
    omega
  · have e1 : (((i + 2 : Nat) : Int) + ((endS t : Nat) : Int)).toNat = i + 2 + endS t := by omega
    have hlt : i + 2 + endS t < s.length := by omega
    have hlt' : endS t < t.length := by omega
    rw [e1, hgen _ hlt]
    refine ⟨by omega, _, List.getElem?_eq_getElem hlt', fun h3 => ?_, fun h3 => ?_⟩
    · have hN2 : R_ref1_nameEnd s (((i + 2 : Nat) : Int) + ((endS t : Nat) : Int) + 1) (((i + 2 + (endS t + 1) : Nat) : Int) + endS (t.drop (endS t + 1))) := by
        have := r_nameEnd s hs (i + 2 + (endS t + 1))
        rw [hdd] at this
        exact this
      have hle2 := endS_le (t.drop (endS t + 1))
      have hl2 : (t.drop (endS t + 1)).length = t.length - (endS t + 1) := List.length_drop
      have h46 : t[endS t] = 46 := by
        apply UInt8.toNat_inj.1
        exact Int.ofNat.inj h3
      have hsplit : t = t.take (endS t) ++ 46 :: t.drop (endS t + 1) := by
        rw [← h46, ← List.drop_eq_getElem_cons hlt', List.take_append_drop]
      refine ⟨⟨by omega, by omega⟩, _, hN2, ⟨by omega, by omega⟩, fun h4 => ?_, fun h4 => ⟨fun h5 => ?_, fun h5 => ?_⟩⟩
      · have h0 : endS (t.drop (endS t + 1)) = 0 := by omega
        rw [refLen, if_neg]
        intro h
        obtain ⟨x, y, v, rfl, hx, hy, _⟩ := ref_split h
        rw [endS_app hx 46 _ in46, drop_mid, endS_app hy 125 _ in125] at h0
        have := name_pos hy
        omega
      · rw [refLen, if_neg]
        intro h
        obtain ⟨x, y, v, rfl, hx, hy, _⟩ := ref_split h
        rw [endS_app hx 46 _ in46, drop_mid, endS_app hy 125 _ in125] at h5
        simp only [List.length_append, List.length_cons] at hlen
        omega
      · have e2 : (((i + 2 + (endS t + 1) : Nat) : Int) + ((endS (t.drop (endS t + 1)) : Nat) : Int)).toNat = i + 2 + (endS t + 1 + endS (t.drop (endS t + 1))) := by omega
        have hlt2 : endS t + 1 + endS (t.drop (endS t + 1)) < t.length := by omega
        rw [e2, hgen _ (by omega)]
        obtain ⟨b4, hb4⟩ : ∃ b, t[endS t + 1 + endS (t.drop (endS t + 1))]? = some b := ⟨_, List.getElem?_eq_getElem hlt2⟩
        refine ⟨by omega, b4, hb4, fun h6 => ?_, fun h6 => ?_⟩
        · have h125 : b4 = 125 := by
            apply UInt8.toNat_inj.1
            exact Int.ofNat.inj h6
          subst h125
          have e3 : ((i : Int) + 2).toNat = i + 2 := by omega
          rw [e3, ht]
          have e4 : i + 2 + (endS t + 1 + endS (t.drop (endS t + 1))) - (i + 2) = endS t + 1 + endS (t.drop (endS t + 1)) := by omega
          rw [e4]
          have hsp2 : t.drop (endS t + 1) = (t.drop (endS t + 1)).take (endS (t.drop (endS t + 1))) ++ 125 :: (t.drop (endS t + 1)).drop (endS (t.drop (endS t + 1)) + 1) := by
            have hlt3 : endS (t.drop (endS t + 1)) < (t.drop (endS t + 1)).length := by omega
            have : (t.drop (endS t + 1))[endS (t.drop (endS t + 1))] = 125 := by
              have h7 := List.getElem?_eq_getElem hlt3
              rw [List.getElem?_drop, hb4] at h7
              exact (Option.some.inj h7).symm
            rw [← this, ← List.drop_eq_getElem_cons hlt3, List.take_append_drop]
          generalize hx : t.take (endS t) = x at *
          have hxl : x.length = endS t := by rw [← hx]; simp; omega
          have hxi : ∀ c ∈ x, inC [2, 3] c = true := fun c hc => endS_in t c (by rw [hx]; exact hc)
          generalize hd : t.drop (endS t + 1) = d at *
          generalize hy : d.take (endS d) = y at *
          have hyl : y.length = endS d := by rw [← hy]; simp; omega
          have hyi : ∀ c ∈ y, inC [2, 3] c = true := fun c hc => endS_in d c (by rw [hy]; exact hc)
          generalize d.drop (endS d + 1) = v at *
          have htt : t = (x ++ 46 :: y) ++ 125 :: v := by rw [hsplit, hsp2]; simp
          have hno : (125 : UInt8) ∉ x ++ 46 :: y := by
            intro h
            rcases List.mem_append.1 h with h | h
            · have := hxi _ h; rw [in125] at this; cases this
            · rcases List.mem_cons.1 h with h | h
              · exact absurd h (by decide)
              · have := hyi _ h; rw [in125] at this; cases this
          have hcut : Lib.cut t [125] = (x ++ 46 :: y, v, true) := by rw [htt]; exact cut_split 125 _ _ hno
          have htake : t.take (endS t + 1 + endS d) = x ++ 46 :: y := by
            rw [← hxl, ← hyl, htt]
            rw [List.take_append_of_le_length (by simp; omega), List.take_of_length_le (by simp; omega)]
          rw [htake]
          have hr : refS t = (x ++ 46 :: y, dottedS (x ++ 46 :: y)) := by unfold refS; rw [hcut]; simp
          refine ⟨⟨by omega, by omega⟩, by omega, by omega, by omega, by omega, dottedS (x ++ 46 :: y), r_Dotted _ (by simp; omega), fun h7 => ?_, fun h7 => ?_⟩
          · refine ⟨⟨by omega, by omega⟩, ⟨by omega, by omega⟩, ?_⟩
            rw [refLen, hr, if_pos h7]
            simp only [List.length_append, List.length_cons]
            omega
          · rw [refLen, hr, if_neg h7]
        · rw [refLen, if_neg]
          intro h
          obtain ⟨x, y, v, rfl, hx, hy, _⟩ := ref_split h
          apply h6
          have e3 : endS (x ++ 46 :: (y ++ 125 :: v)) = x.length := endS_app hx 46 _ in46
          rw [e3, drop_mid, endS_app hy 125 _ in125] at hb4
          have e5 : (x ++ 46 :: (y ++ 125 :: v))[x.length + 1 + y.length]? = some 125 := by
            rw [← List.getElem?_drop, drop_mid]
            simp
          rw [e5] at hb4
          rw [← Option.some.inj hb4]
          rfl
    · rw [refLen, if_neg]
      intro h
      obtain ⟨x, y, v, rfl, hx, hy, _⟩ := ref_split h
      apply h3
      simp [endS_app hx 46 _ in46]
end Go.Proofs.YtljgfdhlfjbafaaDoor.M

/- Lex: signs. -/
namespace Go.Proofs.YtljgfdhlfjbafaaDoor.M
set_option linter.unusedSimpArgs false
set_option linter.unusedVariables false
open Go Classical
def ones : List Int := [123, 125, 91, 93, 40, 41, 61, 44, 46, 43, 45, 42, 47, 37, 60, 62, 33, 63, 58]
def twos : List (List UInt8) := [[61, 61], [33, 61], [60, 61], [62, 61], [38, 38], [124, 124]]
def sign1 (a : UInt8) : List UInt8 := if ((a.toNat : Nat) : Int) ∈ ones then [a] else []
def sign2 (a b : UInt8) : List UInt8 := if [a, b] ∈ twos then [a, b] else sign1 a
/-- A tree that asks one value after the other. -/
def TB {β : Type} (x : List UInt8) (c : β) (r : List UInt8) (B : Prop) : List β → Prop
  | [] => B
  | k :: ks => (c = k → x = r) ∧ (¬ c = k → TB x c r B ks)
theorem tb {β : Type} {x : List UInt8} {c : β} {r : List UInt8} {B : Prop} : ∀ {ks : List β}, (c ∈ ks → x = r) → (c ∉ ks → B) → TB x c r B ks
  | [], _, h => h (by simp)
  | k :: ks, h1, h2 => ⟨fun e => h1 (by simp [e]), fun e => tb (fun h => h1 (by simp [h])) (fun h => h2 (by simp [e, h]))⟩
/-- The longest sign that stands at the beginning; none: nothing. -/
def signS : List UInt8 → List UInt8
  | [] => []
  | [a] => sign1 a
  | a :: b :: _ => sign2 a b
theorem r_refSign (s : List UInt8) (hs : s.length ≤ 1000000) (i : Nat) (hi : i < s.length) : R_ref1_sign s i (signS (s.drop i)) := by
  apply ref1_sign_tree
  have hg : s[((i : Nat) : Int).toNat]? = some s[i] := by rw [Int.toNat_natCast]; exact List.getElem?_eq_getElem hi
  have hd : s.drop i = s[i] :: s.drop (i + 1) := List.drop_eq_getElem_cons hi
  have e1 : (((i : Nat) : Int) + 1).toNat - ((i : Nat) : Int).toNat = 1 := by omega
  have e2 : (((i : Nat) : Int) + 2).toNat - ((i : Nat) : Int).toNat = 2 := by omega
  have o1 : I64 (((i : Nat) : Int) + 1) := ⟨by omega, by omega⟩
  have o2 : I64 (((i : Nat) : Int) + 2) := ⟨by omega, by omega⟩
  have o3 : (0 : Int) ≤ ((i : Nat) : Int) := by omega
  have o4 : (0 : Int) ≤ ((i : Nat) : Int) + 1 := by omega
  have o5 : (0 : Int) ≤ ((i : Nat) : Int) + 2 := by omega
  have o6 : ((i : Nat) : Int).toNat ≤ (((i : Nat) : Int) + 1).toNat := by omega
  have o7 : ((i : Nat) : Int).toNat ≤ (((i : Nat) : Int) + 2).toNat := by omega
  have o8 : (((i : Nat) : Int) + 1).toNat ≤ s.length := by omega
  refine ⟨o1, fun h => ?_, fun h => ?_⟩
  · have o9 : (((i : Nat) : Int) + 2).toNat ≤ s.length := by omega
    have hd2 : s.drop (i + 1) = s[i + 1] :: s.drop (i + 2) := List.drop_eq_getElem_cons (by omega)
    rw [e1, e2, Int.toNat_natCast, hd, hd2]
    simp only [List.take_succ_cons, List.take_zero]
    generalize s[i + 1] = b
    rw [Int.toNat_natCast] at hg
    generalize s[i] = a at *
    rw [Int.toNat_natCast] at o6 o7
    simp only [o1, o2, o3, o4, o5, o6, o7, o8, o9, hg, true_and, Option.some.injEq, exists_eq_left', signS, sign2, sign1]
    refine tb (ks := twos) (fun h => by rw [if_pos h]) (fun h => ?_)
    rw [if_neg h]
    exact tb (ks := ones) (B := [] = _) (fun h => by rw [if_pos h]) (fun h => by rw [if_neg h])
  · have hd2 : s.drop (i + 1) = [] := List.drop_eq_nil_of_le (by omega)
    rw [e1, Int.toNat_natCast, hd, hd2]
    simp only [List.take_succ_cons, List.take_zero]
    rw [Int.toNat_natCast] at hg
    generalize s[i] = a at *
    rw [Int.toNat_natCast] at o6
    simp only [o1, o3, o4, o6, o8, hg, true_and, Option.some.injEq, exists_eq_left', signS, sign1]
    exact tb (ks := ones) (B := [] = _) (fun h => by rw [if_pos h]) (fun h => by rw [if_neg h])
end Go.Proofs.YtljgfdhlfjbafaaDoor.M

/- Lex: taking; names and signs as tokens; a byte behind parts. -/
namespace Go.Proofs.YtljgfdhlfjbafaaDoor.M
set_option linter.unusedSimpArgs false
set_option linter.unusedVariables false
open Go Classical
/-- What is left, and where: all within bounds. -/
def TI (t : LText) : Prop := t.left.length ≤ 6000 ∧ 0 ≤ t.pos ∧ t.pos + (t.left.length : Nat) ≤ 6000
def takeT (t : LText) (n : Nat) : LText := ⟨t.left.drop n, t.pos + n⟩
theorem TI.take {t : LText} (h : TI t) {n : Nat} (hn : n ≤ t.left.length) : TI (takeT t n) := by
  obtain ⟨h1, h2, h3⟩ := h
  refine ⟨?_, ?_, ?_⟩ <;> simp only [takeT, List.length_drop] <;> omega
theorem r_take {t : LText} (h : TI t) {n : Nat} (hn : n ≤ t.left.length) : R_lex_text_take t n (t.left.take n) (takeT t n) := by
  apply lex_text_take_tree
  obtain ⟨h1, h2, h3⟩ := h
  rw [Int.toNat_natCast]
  refine ⟨by omega, hn, by omega, hn, ⟨by omega, by omega⟩, rfl, ?_⟩
  rw [List.take_of_length_le (by simp)]
  rfl
theorem r_word {t : LText} (h : TI t) (cl : List Int) (hc : cl.length < 1000000) : R_lex_text_word t cl (t.left.takeWhile (inC cl)) (takeT t (spanS cl t.left)) := by
  apply lex_text_word_tree
  have h1 := h.1
  refine ⟨_, r_span t.left cl hc (by omega), _, _, r_take h (spanS_le cl t.left), ?_, rfl⟩
  exact take_while_len _ _
theorem r_name (t : LTokens) (g : Nat) (z : Bool) (h : TI t.text) : R_lex_tokens_name t g z (Token.mk 3 (t.text.left.takeWhile (inC [2, 3])) 0 [] 0) (nameS (t.text.left.takeWhile (inC [2, 3]))) (LTokens.mk (takeT t.text (spanS [2, 3] t.text.left)) t.out) g z := by
  apply lex_tokens_name_tree
  have h1 := h.1
  have h2 := spanS_le [2, 3] t.text.left
  exact ⟨_, _, r_word h [2, 3] (by decide), _, r_lexName _ (by unfold spanS at h2; omega), rfl, rfl, rfl, rfl, rfl⟩
theorem u8i {a : UInt8} {n : Nat} (hn : n < 256) : ((a.toNat : Nat) : Int) = (n : Nat) ↔ a = UInt8.ofNat n := by
  constructor
  · intro h
    apply UInt8.toNat_inj.1
    simp
    omega
  · intro h
    subst h
    simp
    omega
theorem has_ones (a : UInt8) : Lib.contains [123, 125, 91, 93, 40, 41, 61, 44, 46, 43, 45, 42, 47, 37, 60, 62, 33, 63, 58] [a] = decide (((a.toNat : Nat) : Int) ∈ ones) := by
  unfold Lib.contains
  rw [index1]
  refine decide_eq_decide.2 ?_
  have e : a ∈ ([123, 125, 91, 93, 40, 41, 61, 44, 46, 43, 45, 42, 47, 37, 60, 62, 33, 63, 58] : List UInt8) ↔ ((a.toNat : Nat) : Int) ∈ ones := by
    simp only [ones, List.mem_cons, List.not_mem_nil, or_false, ← UInt8.toNat_inj, UInt8.reduceToNat]
    omega
  rw [← e]
  split
  · rename_i h; simp only [h, iff_true]; omega
  · rename_i h; simp only [h, iff_false]; omega
/-- A sign taken. -/
theorem r_sign (t : LTokens) (g : Nat) (z : Bool) (h : TI t.text) (hne : t.text.left ≠ []) : R_lex_tokens_sign t g z (if signS t.text.left = [] then Token.mk 0 [] 0 [] 0 else Token.mk 4 (signS t.text.left) 0 [] 0) (decide (signS t.text.left ≠ [])) (if signS t.text.left = [] then t else LTokens.mk (takeT t.text (signS t.text.left).length) t.out) g z := by
  apply lex_tokens_sign_tree
  obtain ⟨⟨left, pos⟩, out⟩ := t
  have h1 := h.1
  simp only at h1 hne ⊢
  match left, hne, h1, h with
  | [a], hne, h1, h =>
    have hn : ¬ [a] ∈ twos := by unfold twos; simp
    have e0 : (if (([a].length : Nat) : Int) < 2 then (([a].length : Nat) : Int) else 2).toNat = 1 := by simp
    rw [e0]
    simp only [List.take_succ_cons, List.take_zero, List.length_cons, List.length_nil]
    refine ⟨by simp, by omega, _, r_containsS twos [a] (by decide), fun hq => absurd (of_decide_eq_true hq) hn, fun _ => ⟨by omega, _, r_SContains _ [a] (by simp), fun hq => ?_, fun hq => ?_⟩⟩
    · rw [has_ones] at hq
      have hq := of_decide_eq_true hq
      have hs : signS [a] = [a] := by simp [signS, sign1, hq]
      rw [hs]
      exact ⟨_, _, r_take h (n := 1) (by simp), by simp⟩
    · rw [has_ones] at hq
      have hq : ¬ ((a.toNat : Nat) : Int) ∈ ones := fun e => hq (decide_eq_true e)
      have hs : signS [a] = [] := by simp [signS, sign1, hq]
      rw [hs]
      simp
  | a :: b :: u, hne, h1, h =>
    have e0 : (if (((a :: b :: u).length : Nat) : Int) < 2 then (((a :: b :: u).length : Nat) : Int) else 2) = 2 := by
      rw [if_neg]; simp only [List.length_cons]; omega
    have e00 : (2 : Int).toNat = 2 := rfl
    rw [e0, e00]
    simp only [List.take_succ_cons, List.take_zero, List.length_cons, List.length_nil]
    refine ⟨by simp, by omega, _, r_containsS twos [a, b] (by decide), fun hq => ?_, fun hn => ⟨by omega, _, r_SContains _ [a] (by simp), fun hq => ?_, fun hq => ?_⟩⟩
    · have hq := of_decide_eq_true hq
      have hs : signS (a :: b :: u) = [a, b] := by simp [signS, sign2, hq]
      rw [hs]
      exact ⟨_, _, r_take h (n := 2) (by simp), by simp⟩
    · have hn : ¬ [a, b] ∈ twos := fun e => hn (decide_eq_true e)
      rw [has_ones] at hq
      have hq := of_decide_eq_true hq
      have hs : signS (a :: b :: u) = [a] := by simp [signS, sign2, sign1, hn, hq]
      rw [hs]
      exact ⟨_, _, r_take h (n := 1) (by simp), by simp⟩
    · have hn : ¬ [a, b] ∈ twos := fun e => hn (decide_eq_true e)
      rw [has_ones] at hq
      have hq : ¬ ((a.toNat : Nat) : Int) ∈ ones := fun e => hq (decide_eq_true e)
      have hs : signS (a :: b :: u) = [] := by simp [signS, sign2, sign1, hn, hq]
      rw [hs]
      simp
end Go.Proofs.YtljgfdhlfjbafaaDoor.M

/- Lex: quoted texts: what they are (Qx), and that lex.quoted takes them so. -/
namespace Go.Proofs.YtljgfdhlfjbafaaDoor.M
set_option linter.unusedSimpArgs false
set_option linter.unusedVariables false
open Go Classical
def escS (x : UInt8) : Option UInt8 := if x = 34 ∨ x = 92 ∨ x = 36 then some x else if x = 110 then some 10 else none
theorem r_IndexByte (s : List UInt8) (c : UInt8) : R_strings_IndexByte s c (Lib.indexByte s c) := fun S => call_ext sp_strings_IndexByte S (by simp [indexX])
theorem r_escaped (y x : UInt8) (u : List UInt8) : R_lex_escaped (y :: x :: u) ((escS x).getD 0) (escS x).isSome := by
  apply lex_escaped_tree
  refine ⟨fun h => absurd h (by simp; omega), fun _ => ⟨x, rfl, _, r_IndexByte _ x, ?_⟩⟩
  unfold escS
  by_cases h1 : x = 34
  · subst h1
    exact ⟨fun h => absurd h (by decide), fun _ => ⟨by decide, 34, rfl, rfl, rfl⟩⟩
  · by_cases h2 : x = 92
    · subst h2
      exact ⟨fun h => absurd h (by decide), fun _ => ⟨by decide, 92, rfl, rfl, rfl⟩⟩
    · by_cases h3 : x = 36
      · subst h3
        exact ⟨fun h => absurd h (by decide), fun _ => ⟨by decide, 36, rfl, rfl, rfl⟩⟩
      · by_cases h4 : x = 110
        · subst h4
          exact ⟨fun h => absurd h (by decide), fun _ => ⟨by decide, 10, rfl, rfl, rfl⟩⟩
        · have e : Lib.indexByte [34, 92, 36, 110] x = -1 := by
            have := Lib.indexByte_ge [34, 92, 36, 110] x
            simp [Lib.indexByte, Ne.symm h1, Ne.symm h2, Ne.symm h3, Ne.symm h4]
          rw [e]
          simp [h1, h2, h3, h4]
/-- Parts, and a text that grows behind them. -/
def joinP (l : List Part) (b : List UInt8) : List Part := l ++ (if b = [] then [] else [Part.mk false b])
def okP (l : List Part) : Prop := l = [] ∨ ∃ l0 q, l = l0 ++ [Part.mk true q]
theorem set_last {α : Type} (l : List α) (x y : α) : (l ++ [x]).set l.length y = l ++ [y] := by simp
theorem r_plain (l : List Part) (b : List UInt8) (c : UInt8) (g : Nat) (hl : okP l) (h1 : l.length ≤ 10000) (h2 : b.length ≤ 10000) : R_lex_parts_plain (joinP l b) g false c (joinP l (b ++ [c])) g false := by
  apply lex_parts_plain_tree
  have hb : b ++ [c] ≠ [] := by simp
  by_cases e : b = []
  · subst e
    have e1 : joinP l [] = l := by simp [joinP]
    have e2 : joinP l ([] ++ [c]) = l ++ [Part.mk false [c]] := by simp [joinP]
    have e3 : (((l.length : Nat) : Int) + 1 - 1).toNat = l.length := by omega
    have big : bigRow (l.length + 1) 24 := ⟨by omega, by omega, by decide⟩
    rw [e1, e2, e3]
    refine ⟨fun h => ⟨big, ⟨by omega, by omega⟩, ⟨by omega, by omega⟩, by omega, by omega, Part.mk false [], by simp, by simp [maxInt], by omega, by omega, rfl, ?_, rfl, rfl⟩, fun h => ?_⟩
    · rw [set_last]; rfl
    · rcases hl with rfl | ⟨l0, q, rfl⟩
      · exact absurd rfl h
      · have e4 : ((((l0 ++ [Part.mk true q]).length : Nat) : Int) - 1).toNat = l0.length := by simp
        have hlen : (l0 ++ [Part.mk true q]).length = l0.length + 1 := by simp
        rw [e4]
        refine ⟨⟨by omega, by omega⟩, by omega, by omega, Part.mk true q, by simp, fun _ => ⟨big, ⟨by omega, by omega⟩, ⟨by omega, by omega⟩, by omega, by omega, Part.mk false [], by simp, by simp [maxInt], by omega, by omega, rfl, ?_, rfl, rfl⟩, fun h => absurd rfl h⟩
        rw [set_last]; rfl
  · have e1 : joinP l b = l ++ [Part.mk false b] := by simp [joinP, e]
    have e2 : joinP l (b ++ [c]) = l ++ [Part.mk false (b ++ [c])] := by simp [joinP]
    have hlen : (l ++ [Part.mk false b]).length = l.length + 1 := by simp
    have e3 : ((((l ++ [Part.mk false b]).length : Nat) : Int) - 1).toNat = l.length := by omega
    rw [e1, e2]
    refine ⟨fun h => by omega, fun h => ?_⟩
    rw [e3]
    refine ⟨⟨by omega, by omega⟩, by omega, by omega, Part.mk false b, by simp, fun h => by simp at h, fun _ => ⟨⟨by omega, by omega⟩, by omega, by omega, by simp only [maxInt]; omega, by omega, by omega, rfl, ?_, rfl, rfl⟩⟩
    rw [set_last]
/-- A quoted text, behind its first sign: parts so far (l, and b behind them); what comes of it: none, or the parts and how long it is. -/
inductive Qx : List UInt8 → List Part → List UInt8 → Option (List Part × Nat) → Prop
  | nil (l b) : Qx [] l b none
  | shut (t l b) : Qx (34 :: t) l b (some (joinP l b, 1))
  | low (c t l b) (h1 : c ≠ 34) (h2 : c.toNat < 32) : Qx (c :: t) l b none
  | esc (x y t l b r) (h1 : escS x = some y) (h : Qx t l (b ++ [y]) r) : Qx (92 :: x :: t) l b (r.map fun q => (q.1, q.2 + 2))
  | esc0 (l b) : Qx [92] l b none
  | escbad (x t l b) (h1 : escS x = none) : Qx (92 :: x :: t) l b none
  | ref (t l b r) (h1 : (refS t).2 = true) (h : Qx (t.drop ((refS t).1.length + 1)) (joinP l b ++ [Part.mk true (refS t).1]) [] r) : Qx (36 :: 123 :: t) l b (r.map fun q => (q.1, q.2 + (3 + (refS t).1.length)))
  | refbad (t l b) (h1 : (refS t).2 = false) : Qx (36 :: 123 :: t) l b none
  | plain (c t l b r) (h1 : c ≠ 34) (h2 : ¬ c.toNat < 32) (h3 : c ≠ 92) (h4 : c = 36 → t.head? ≠ some 123) (h : Qx t l (b ++ [c]) r) : Qx (c :: t) l b (r.map fun q => (q.1, q.2 + 1))
theorem refS_len {t : List UInt8} (h : (refS t).2 = true) : (refS t).1.length + 1 ≤ t.length := by
  obtain ⟨x, y, v, e, _, _, e2⟩ := ref_split h
  rw [e2, e]
  simp
  omega
/-- Each has one. -/
theorem Qx_total : ∀ (n : Nat) (t : List UInt8), t.length ≤ n → ∀ l b, ∃ r, Qx t l b r
  | _, [], _, l, b => ⟨_, .nil l b⟩
  | 0, c :: t, h, l, b => by simp at h
  | n + 1, c :: t, h, l, b => by
    simp only [List.length_cons] at h
    by_cases h1 : c = 34
    · subst h1; exact ⟨_, .shut t l b⟩
    by_cases h2 : c.toNat < 32
    · exact ⟨_, .low c t l b h1 h2⟩
    by_cases h3 : c = 92
    · subst h3
      cases t with
      | nil => exact ⟨_, .esc0 l b⟩
      | cons x t =>
        cases hx : escS x with
        | none => exact ⟨_, .escbad x t l b hx⟩
        | some y =>
          obtain ⟨r, hr⟩ := Qx_total n t (by simp only [List.length_cons] at h; omega) l (b ++ [y])
          exact ⟨_, .esc x y t l b r hx hr⟩
    by_cases h4 : c = 36 ∧ t.head? = some 123
    · obtain ⟨rfl, h5⟩ := h4
      cases t with
      | nil => cases h5
      | cons x t =>
        obtain rfl : x = 123 := Option.some.inj h5
        cases hx : (refS t).2 with
        | false => exact ⟨_, .refbad t l b hx⟩
        | true =>
          obtain ⟨r, hr⟩ := Qx_total n (t.drop ((refS t).1.length + 1)) (by simp only [List.length_cons] at h; simp; omega) (joinP l b ++ [Part.mk true (refS t).1]) []
          exact ⟨_, .ref t l b r hx hr⟩
    · obtain ⟨r, hr⟩ := Qx_total n t (by omega) l (b ++ [c])
      exact ⟨_, .plain c t l b r h1 h2 h3 (fun e e2 => h4 ⟨e, e2⟩) hr⟩
end Go.Proofs.YtljgfdhlfjbafaaDoor.M

/- Lex: lex.quoted takes what Qx tells. -/
namespace Go.Proofs.YtljgfdhlfjbafaaDoor.M
set_option linter.unusedSimpArgs false
set_option linter.unusedVariables false
open Go Classical
theorem cls4 (c : UInt8) : clsS c = 4 ↔ c = 34 := by
  have e : c = 34 ↔ c.toNat = 34 := by rw [← UInt8.toNat_inj]; rfl
  rw [e]
  unfold clsS
  repeat' split
  all_goals (first | omega | (constructor <;> intro h <;> first | omega | exact absurd h (by decide)))
theorem takeT_takeT (t : LText) (a b : Nat) : takeT (takeT t a) b = takeT t (a + b) := by
  unfold takeT
  simp only [LText.mk.injEq, List.drop_drop]
  exact ⟨trivial, by omega⟩
theorem head_left {t : LText} {c : UInt8} {u : List UInt8} (h : t.left = c :: u) : ¬ t.left = [] ∧ t.left[0]? = some c := by rw [h]; simp
def QOut (gp : Nat) (lt : LTokens) (g : Nat) (z : Bool) (l : List Part) (b : List UInt8) : Option (List Part × Nat) → Prop
  | none => ∃ t' : LTokens, t'.out = lt.out ∧ At_lex_tokens_quoted_1 0 [] 0 0 [] 0 (joinP l b) gp false lt g z (Token.mk 0 [] 0 [] 0) false t' g z
  | some (ps, n) => n ≤ lt.text.left.length ∧ At_lex_tokens_quoted_1 0 [] 0 0 [] 0 (joinP l b) gp false lt g z (Token.mk 2 [] 0 ps 0) true (LTokens.mk (takeT lt.text n) lt.out) g z
theorem joinP_len (l : List Part) (b : List UInt8) : (joinP l b).length ≤ l.length + 1 := by
  unfold joinP
  split <;> simp
theorem joinP_ref (l : List Part) (q : List UInt8) : joinP (l ++ [Part.mk true q]) [] = l ++ [Part.mk true q] := by simp [joinP]
/-- A step that goes on: what comes behind m bytes comes of the whole. -/
theorem QOut.next {gp : Nat} {lt : LTokens} {g : Nat} {z : Bool} {l : List Part} {b : List UInt8} {l2 : List Part} {b2 : List UInt8} {m : Nat} (hm : m ≤ lt.text.left.length)
    (step : ∀ ra rb t' , At_lex_tokens_quoted_1 0 [] 0 0 [] 0 (joinP l2 b2) gp false (LTokens.mk (takeT lt.text m) lt.out) g z ra rb t' g z → At_lex_tokens_quoted_1 0 [] 0 0 [] 0 (joinP l b) gp false lt g z ra rb t' g z) {r : Option (List Part × Nat)}
    (h : QOut gp (LTokens.mk (takeT lt.text m) lt.out) g z l2 b2 r) : QOut gp lt g z l b (r.map fun q => (q.1, q.2 + m)) := by
  cases r with
  | none => obtain ⟨t', ho, h⟩ := h; exact ⟨t', ho, step _ _ _ h⟩
  | some q =>
    obtain ⟨ps, n⟩ := q
    obtain ⟨h1, h2⟩ := h
    simp only [takeT, List.length_drop] at h1
    refine ⟨by omega, ?_⟩
    have := step _ _ _ h2
    simp only [takeT_takeT] at this
    rw [Nat.add_comm] at this
    exact this
theorem r_quoted_loop {t : List UInt8} {l : List Part} {b : List UInt8} {r : Option (List Part × Nat)} (h : Qx t l b r) : ∀ (gp : Nat) (lt : LTokens) (g : Nat) (z : Bool), lt.text.left = t → TI lt.text → okP l → l.length + t.length ≤ 7000 → b.length + t.length ≤ 7000 → QOut gp lt g z l b r := by
  induction h with
  | nil l b =>
    intro gp lt g z e hT hl h1 h2
    refine ⟨lt, rfl, ?_⟩
    apply At_lex_tokens_quoted_1_step
    exact ⟨fun _ => ⟨rfl, rfl, rfl, rfl, rfl⟩, fun h => absurd e h⟩
  | shut t l b =>
    intro gp lt g z e hT hl h1 h2
    obtain ⟨e1, e2⟩ := head_left e
    have hlen : 1 ≤ lt.text.left.length := by rw [e]; simp
    refine ⟨hlen, ?_⟩
    apply At_lex_tokens_quoted_1_step
    exact ⟨fun h => absurd h e1, fun _ => ⟨34, e2, _, r_class 34, fun _ => ⟨_, _, r_take hT hlen, rfl, rfl, rfl, rfl, rfl⟩, fun h => absurd ((cls4 34).2 rfl) h⟩⟩
  | low c t l b c1 c2 =>
    intro gp lt g z e hT hl h1 h2
    obtain ⟨e1, e2⟩ := head_left e
    refine ⟨lt, rfl, ?_⟩
    apply At_lex_tokens_quoted_1_step
    exact ⟨fun h => absurd h e1, fun _ => ⟨c, e2, _, r_class c, fun h => absurd ((cls4 c).1 h) c1, fun _ => ⟨fun _ => ⟨rfl, rfl, rfl, rfl, rfl⟩, fun h => absurd (by omega) h⟩⟩⟩
  | esc x y t l b r hx _ ih =>
    intro gp lt g z e hT hl h1 h2
    obtain ⟨e1, e2⟩ := head_left e
    simp only [List.length_cons] at h1 h2
    have hlen : 2 ≤ lt.text.left.length := by rw [e]; simp
    refine QOut.next (m := 2) hlen (fun ra rb t' hA => ?_) (ih gp _ g z (by simp only [takeT, e]; rfl) (hT.take hlen) hl (by omega) (by simp; omega))
    apply At_lex_tokens_quoted_1_step
    refine ⟨fun h => absurd h e1, fun _ => ⟨92, e2, _, r_class 92, fun h => absurd ((cls4 92).1 h) (by decide), fun _ => ⟨fun h => absurd h (by decide), fun _ => ⟨fun _ => ?_, fun h => absurd (by decide) h⟩⟩⟩⟩
    rw [e]
    refine ⟨_, _, r_escaped 92 x t, fun _ => ⟨_, _, _, ?_, _, _, r_take hT hlen, hA⟩, fun h => absurd (by rw [hx]; rfl) h⟩
    rw [hx]
    exact r_plain l b y gp hl (by omega) (by omega)
  | esc0 l b =>
    intro gp lt g z e hT hl h1 h2
    obtain ⟨e1, e2⟩ := head_left e
    refine ⟨lt, rfl, ?_⟩
    apply At_lex_tokens_quoted_1_step
    refine ⟨fun h => absurd h e1, fun _ => ⟨92, e2, _, r_class 92, fun h => absurd ((cls4 92).1 h) (by decide), fun _ => ⟨fun h => absurd h (by decide), fun _ => ⟨fun _ => ?_, fun h => absurd (by decide) h⟩⟩⟩⟩
    rw [e]
    refine ⟨0, false, ?_, fun h => (by cases h), fun _ => ⟨rfl, rfl, rfl, rfl, rfl⟩⟩
    apply lex_escaped_tree
    exact ⟨fun _ => ⟨rfl, rfl⟩, fun h => absurd (by decide) h⟩
  | escbad x t l b hx =>
    intro gp lt g z e hT hl h1 h2
    obtain ⟨e1, e2⟩ := head_left e
    refine ⟨lt, rfl, ?_⟩
    apply At_lex_tokens_quoted_1_step
    refine ⟨fun h => absurd h e1, fun _ => ⟨92, e2, _, r_class 92, fun h => absurd ((cls4 92).1 h) (by decide), fun _ => ⟨fun h => absurd h (by decide), fun _ => ⟨fun _ => ?_, fun h => absurd (by decide) h⟩⟩⟩⟩
    rw [e]
    exact ⟨_, _, r_escaped 92 x t, fun h => (by rw [hx] at h; cases h), fun _ => ⟨rfl, rfl, rfl, rfl, rfl⟩⟩
  | ref t l b r hr _ ih =>
    intro gp lt g z e hT hl h1 h2
    obtain ⟨e1, e2⟩ := head_left e
    simp only [List.length_cons] at h1 h2
    have hrl := refS_len hr
    have hj := joinP_len l b
    have hlen : 3 + (refS t).1.length ≤ lt.text.left.length := by rw [e]; simp only [List.length_cons]; omega
    have hT1 := hT.1
    refine QOut.next (m := 3 + (refS t).1.length) hlen (fun ra rb t' hA => ?_) (ih gp _ g z ?_ (hT.take hlen) (.inr ⟨_, _, rfl⟩) ?_ ?_)
    · apply At_lex_tokens_quoted_1_step
      have hR : R_lex_reference lt.text.left (refS t).1 (refS t).2 := by
        have := r_reference lt.text.left (by omega) (by omega)
        rw [e] at this ⊢
        exact this
      have hTake : R_lex_text_take lt.text (3 + (((refS t).1.length : Nat) : Int)) (lt.text.left.take (3 + (refS t).1.length)) (takeT lt.text (3 + (refS t).1.length)) := by
        have := r_take hT hlen
        rw [Int.natCast_add] at this
        exact this
      rw [joinP_ref] at hA
      exact ⟨fun h => absurd h e1, fun _ => ⟨36, e2, _, r_class 36, fun h => absurd ((cls4 36).1 h) (by decide), fun _ => ⟨fun h => absurd h (by decide), fun _ => ⟨fun h => absurd h (by decide), fun _ => ⟨_, r_HasPrefix _ _, fun _ => ⟨_, _, hR, fun _ => ⟨⟨by omega, by omega, by decide⟩, ⟨by omega, by omega⟩, _, _, hTake, hA⟩, fun h => absurd hr h⟩, fun h => absurd (by rw [e]; simp [Lib.hasPrefix]) h⟩⟩⟩⟩⟩
    · simp only [takeT, e]
      rw [show 3 + (refS t).1.length = ((refS t).1.length + 1) + 1 + 1 by omega]
      rfl
    · simp; omega
    · simp; omega
  | refbad t l b hr =>
    intro gp lt g z e hT hl h1 h2
    obtain ⟨e1, e2⟩ := head_left e
    have hT1 := hT.1
    refine ⟨lt, rfl, ?_⟩
    apply At_lex_tokens_quoted_1_step
    have hR : R_lex_reference lt.text.left (refS t).1 (refS t).2 := by
      have := r_reference lt.text.left (by rw [e]; simp) (by omega)
      rw [e] at this ⊢
      exact this
    exact ⟨fun h => absurd h e1, fun _ => ⟨36, e2, _, r_class 36, fun h => absurd ((cls4 36).1 h) (by decide), fun _ => ⟨fun h => absurd h (by decide), fun _ => ⟨fun h => absurd h (by decide), fun _ => ⟨_, r_HasPrefix _ _, fun _ => ⟨_, _, hR, fun h => (by rw [hr] at h; cases h), fun _ => ⟨rfl, rfl, rfl, rfl, rfl⟩⟩, fun h => absurd (by rw [e]; simp [Lib.hasPrefix]) h⟩⟩⟩⟩⟩
  | plain c t l b r c1 c2 c3 c4 _ ih =>
    intro gp lt g z e hT hl h1 h2
    obtain ⟨e1, e2⟩ := head_left e
    simp only [List.length_cons] at h1 h2
    have hlen : 1 ≤ lt.text.left.length := by rw [e]; simp
    have hp : ¬ Lib.hasPrefix lt.text.left [36, 123] = true := by
      rw [e]
      unfold Lib.hasPrefix
      intro h
      cases t with
      | nil => simp at h
      | cons x t =>
        simp at h
        exact c4 h.1.symm (by rw [← h.2]; rfl)
    have hc3 : ¬ ((c.toNat : Nat) : Int) = 92 := fun h => c3 (by apply UInt8.toNat_inj.1; exact Int.ofNat.inj h)
    refine QOut.next (m := 1) hlen (fun ra rb t' hA => ?_) (ih gp _ g z (by simp only [takeT, e]; rfl) (hT.take hlen) hl (by omega) (by simp; omega))
    apply At_lex_tokens_quoted_1_step
    exact ⟨fun h => absurd h e1, fun _ => ⟨c, e2, _, r_class c, fun h => absurd ((cls4 c).1 h) c1, fun _ => ⟨fun h => absurd h (by omega), fun _ => ⟨fun h => absurd h hc3, fun _ => ⟨_, r_HasPrefix _ _, fun h => absurd h hp, fun _ => ⟨_, _, _, r_plain l b c gp hl (by omega) (by omega), _, _, r_take hT hlen, hA⟩⟩⟩⟩⟩⟩
end Go.Proofs.YtljgfdhlfjbafaaDoor.M

/- Digits: the library of Go, and the document. -/
namespace Go.Proofs.YtljgfdhlfjbafaaDoor.M
set_option linter.unusedSimpArgs false
set_option linter.unusedVariables false
open Go Classical
theorem u64_nat (n : Nat) (h : n < 18446744073709551616) : IntKind.u64.wrap (n : Int) = n := U64.wrap ⟨by omega, by omega⟩
theorem tdivN (a : Nat) (b : Nat) : ((a : Nat) : Int).tdiv (b : Int) = ((a / b : Nat) : Int) := by
  rw [Int.tdiv_eq_ediv_of_nonneg (by omega)]; simp
theorem tmodN (a : Nat) (b : Nat) : ((a : Nat) : Int).tmod (b : Int) = ((a % b : Nat) : Int) := by
  rw [Int.tmod_eq_emod_of_nonneg (by omega)]; simp
theorem r_Digits_loop (n : Int) : ∀ (j u : Nat) (s : List UInt8), Lib.nDigits u ≤ j → u < 18446744073709551616 → s.length + j ≤ 1000 → At_ref1_Digits_1 n u s ((if n < 0 then [45] else []) ++ (Lib.decDigits u ++ s))
  | 0, u, s, h, _, _ => by have := Lib.nDigits_pos u; omega
  | j + 1, u, s, h, hu, hs => by
    apply At_ref1_Digits_1_step
    have d10 : ((u : Nat) : Int).tdiv 10 = ((u / 10 : Nat) : Int) := tdivN u 10
    have m10 : ((u : Nat) : Int).tmod 10 = ((u % 10 : Nat) : Int) := tmodN u 10
    have e48 : ∀ x : Nat, (48 + ((x : Nat) : Int)).toNat = 48 + x := fun x => by omega
    refine ⟨fun h10 => ?_, fun h10 => ?_⟩
    · have hu10 : ¬ u < 10 := by omega
      rw [d10, m10, e48]
      have hn : Lib.nDigits u = Lib.nDigits (u / 10) + 1 := Lib.nDigits_big hu10
      refine ⟨⟨by omega, by omega⟩, ⟨by omega, by omega⟩, by simp [maxInt]; omega, ⟨by omega, by omega⟩, ?_⟩
      have := r_Digits_loop n j (u / 10) ([UInt8.ofNat (48 + u % 10)] ++ s) (by omega) (by omega) (by simp; omega)
      rw [show Lib.decDigits u = Lib.decDigits (u / 10) ++ [UInt8.ofNat (48 + u % 10)] from by rw [Lib.decDigits, dif_neg hu10], List.append_assoc]
      exact this
    · have hu10 : u < 10 := by omega
      rw [e48, show Lib.decDigits u = [UInt8.ofNat (48 + u)] from by rw [Lib.decDigits, dif_pos hu10]]
      refine ⟨⟨by omega, by omega⟩, ⟨by omega, by omega⟩, by simp [maxInt]; omega, fun hn => ⟨by simp [maxInt]; omega, by simp [hn]⟩, fun hn => by simp [hn]⟩
theorem wrap_u64_neg {n : Int} (h0 : -9223372036854775808 ≤ n) (h : n < 0) : IntKind.u64.wrap (0 - (IntKind.u64.wrap n)) = ((n.natAbs : Nat) : Int) := by
  have e1 : IntKind.u64.wrap n = n % 18446744073709551616 := by
    simp [IntKind.wrap, IntKind.signed, IntKind.bits]
  rw [e1]
  have e2 : ∀ x : Int, IntKind.u64.wrap x = x % 18446744073709551616 := fun x => by
    simp [IntKind.wrap, IntKind.signed, IntKind.bits]
  rw [e2]
  omega
theorem r_Digits (n : Int) (h : I64 n) : R_ref1_Digits n (Lib.itoa n) := by
  obtain ⟨h0, h1⟩ := h
  apply ref1_Digits_tree
  refine ⟨fun hn => ?_, fun hn => ?_⟩
  · rw [wrap_u64_neg h0 hn]
    have := r_Digits_loop n 20 n.natAbs [] (Lib.nDigits_le20 _ (by omega)) (by omega) (by simp)
    simpa [Lib.itoa, hn] using this
  · obtain ⟨m, rfl⟩ : ∃ m : Nat, n = m := ⟨n.toNat, by omega⟩
    rw [u64_nat m (by omega)]
    have := r_Digits_loop m 20 m [] (Lib.nDigits_le20 _ (by omega)) (by omega) (by simp)
    simpa [Lib.itoa, hn] using this
theorem r_Itoa (n : Int) (h : I64 n) : R_strconv_Itoa n (Lib.itoa n) := fun S => call_ext sp_strconv_Itoa S (if_pos h)
end Go.Proofs.YtljgfdhlfjbafaaDoor.M

/- Lex: numbers, on both sides. -/
namespace Go.Proofs.YtljgfdhlfjbafaaDoor.M
set_option linter.unusedSimpArgs false
set_option linter.unusedVariables false
open Go Classical
def Dg (l : List UInt8) : Prop := ∀ c ∈ l, 48 ≤ c.toNat ∧ c.toNat ≤ 57
theorem inC3 (c : UInt8) : inC [3] c = true ↔ 48 ≤ c.toNat ∧ c.toNat ≤ 57 := by
  unfold inC clsS
  simp only [List.mem_singleton, decide_eq_true_eq]
  repeat' split
  all_goals (first | omega | (constructor <;> intro h <;> first | omega | exact absurd h (by decide)))
theorem Dg_take (t : List UInt8) : Dg (t.takeWhile (inC [3])) := fun c hc => (inC3 c).1 (List.all_eq_true.1 List.all_takeWhile c hc)
/-- The number that digits spell, behind a number. -/
def digV (acc : Nat) (l : List UInt8) : Nat := l.foldl (fun a c => a * 10 + (c.toNat - 48)) acc
theorem digV_cons (acc : Nat) (c : UInt8) (r : List UInt8) : digV acc (c :: r) = digV (acc * 10 + (c.toNat - 48)) r := by
  unfold digV
  rw [List.foldl_cons]
theorem digV_nil (acc : Nat) : digV acc [] = acc := by
  unfold digV
  rw [List.foldl_nil]
theorem digV_ge : ∀ (l : List UInt8) (acc : Nat), acc ≤ digV acc l
  | [], acc => by rw [digV_nil]; exact Nat.le_refl _
  | c :: r, acc => by
    rw [digV_cons]
    have := digV_ge r (acc * 10 + (c.toNat - 48))
    omega
theorem parse_num (l : List UInt8) : ∀ (acc : Nat), Dg l → acc < 18446744073709551616 → Lib.parseUint10 acc l = if digV acc l < 18446744073709551616 then .ok (digV acc l) else .range := by
  induction l with
  | nil => intro acc _ h; rw [digV_nil, if_pos h, Lib.parseUint10]
  | cons c r ih =>
    intro acc hd h
    have hc := hd c (by simp)
    have hge := digV_ge r (acc * 10 + (c.toNat - 48))
    rw [digV_cons]
    unfold Lib.parseUint10
    rw [if_pos hc]
    by_cases h1 : 1844674407370955162 ≤ acc
    · rw [if_pos h1, if_neg (by omega)]
    · rw [if_neg h1]
      by_cases h2 : 18446744073709551616 ≤ acc * 10 + (c.toNat - 48)
      · rw [if_pos h2, if_neg (by omega)]
      · rw [if_neg h2]
        exact ih _ (fun x hx => hd x (by simp [hx])) (by omega)
theorem atoi_num {l : List UInt8} (hd : Dg l) (hne : l ≠ []) : Lib.atoiAll l = if digV 0 l < 9223372036854775808 then .ok (digV 0 l : Int) else .range := by
  cases l with
  | nil => exact absurd rfl hne
  | cons c r =>
    have hc := hd c (by simp)
    rw [Lib.atoiAll_plain c r (by omega) (by omega), Lib.parseMag, if_neg (by simp), parse_num _ 0 hd (by omega)]
    by_cases h : digV 0 (c :: r) < 18446744073709551616
    · rw [if_pos h]
      by_cases h2 : digV 0 (c :: r) < 9223372036854775808
      · simp only [Lib.signless, if_pos h2, if_neg (show ¬ 9223372036854775808 ≤ digV 0 (c :: r) by omega)]
      · simp only [Lib.signless, if_neg h2, if_pos (show 9223372036854775808 ≤ digV 0 (c :: r) by omega)]
    · rw [if_neg h, if_neg (show ¬ digV 0 (c :: r) < 9223372036854775808 by omega)]
      rfl
theorem dec_step {a d : Nat} (ha : 0 < a) (hd : d < 10) : Lib.decDigits (a * 10 + d) = Lib.decDigits a ++ [UInt8.ofNat (48 + d)] := by
  rw [Lib.decDigits, dif_neg (by omega), show (a * 10 + d) / 10 = a by omega, show (a * 10 + d) % 10 = d by omega]
theorem dec_num : ∀ (l : List UInt8) (acc : Nat), 0 < acc → Dg l → Lib.decDigits (digV acc l) = Lib.decDigits acc ++ l
  | [], acc, _, _ => by rw [digV_nil, List.append_nil]
  | c :: r, acc, h, hd => by
    have hc := hd c (by simp)
    rw [digV_cons, dec_num r _ (by omega) (fun x hx => hd x (by simp [hx])), dec_step h (by omega)]
    have : UInt8.ofNat (48 + (c.toNat - 48)) = c := by
      rw [show 48 + (c.toNat - 48) = c.toNat by omega]; simp
    rw [this]
    simp
theorem dec_first {c : UInt8} {r : List UInt8} (hd : Dg (c :: r)) (h : c.toNat ≠ 48) : Lib.decDigits (digV 0 (c :: r)) = c :: r := by
  have hc := hd c (by simp)
  rw [digV_cons, dec_num r _ (by omega) (fun x hx => hd x (by simp [hx])), Nat.zero_mul, Nat.zero_add, Lib.decDigits_one (by omega)]
  have : UInt8.ofNat (48 + (c.toNat - 48)) = c := by
    rw [show 48 + (c.toNat - 48) = c.toNat by omega]; simp
  rw [this]
  rfl
theorem dec_len : ∀ (r : List UInt8), Dg r → r ≠ [] → (Lib.decDigits (digV 0 r)).length ≤ r.length
  | [], _, h => absurd rfl h
  | c :: r, hd, _ => by
    by_cases h : c.toNat = 48
    · rw [digV_cons, h]
      cases r with
      | nil => simp [digV_nil, Lib.decDigits_one (show 0 < 10 by omega)]
      | cons b r =>
        have := dec_len (b :: r) (fun x hx => hd x (by simp at hx ⊢; exact .inr hx)) (by simp)
        simp only [Nat.zero_mul, Nat.sub_self, Nat.add_zero, List.length_cons] at this ⊢
        omega
    · rw [dec_first hd h]
      exact Nat.le_refl _
/-- Digits are a number: within 64 bits, and no nought ahead. -/
def numOk (d : List UInt8) : Prop := digV 0 d < 9223372036854775808 ∧ (d.head? = some 48 → d.length = 1)
instance (d : List UInt8) : Decidable (numOk d) := by unfold numOk; infer_instance
theorem itoa_num {d : List UInt8} (hd : Dg d) (hne : d ≠ []) : Lib.itoa ((digV 0 d : Nat) : Int) = d ↔ (d.head? = some 48 → d.length = 1) := by
  have e : Lib.itoa ((digV 0 d : Nat) : Int) = Lib.decDigits (digV 0 d) := by
    unfold Lib.itoa
    rw [if_neg (by omega)]
    rfl
  rw [e]
  cases d with
  | nil => exact absurd rfl hne
  | cons c r =>
    by_cases h : c.toNat = 48
    · have hc : c = 48 := UInt8.toNat_inj.1 h
      subst hc
      simp only [List.head?_cons, List.length_cons, forall_const]
      cases r with
      | nil =>
        have h0 : digV 0 [48] = 0 := by rw [digV_cons, digV_nil]; rfl
        rw [h0, Lib.decDigits_one (show 0 < 10 by omega)]
        simp
      | cons b r =>
        have := dec_len (b :: r) (fun x hx => hd x (by simp at hx ⊢; exact .inr hx)) (by simp)
        constructor
        · intro h2
          have h3 : digV 0 (48 :: b :: r) = digV 0 (b :: r) := by rw [digV_cons]; rfl
          rw [← h3, h2] at this
          simp at this
          omega
        · intro h2
          simp at h2
    · rw [dec_first hd h]
      simp only [List.head?_cons, Option.some.injEq, true_iff]
      intro e
      exact absurd (by rw [e]; rfl) h
def numS (t : List UInt8) : Option (Token × Nat) := if numOk (t.takeWhile (inC [3])) then some (Token.mk 1 [] (digV 0 (t.takeWhile (inC [3])) : Nat) [] 0, (t.takeWhile (inC [3])).length) else none
theorem r_Atoi {l : List UInt8} (hd : Dg l) (hne : l ≠ []) (hl : l.length ≤ 1000000) : ∃ v : Int, R_strconv_Atoi l v (decide (¬ digV 0 l < 9223372036854775808)) ∧ (digV 0 l < 9223372036854775808 → v = (digV 0 l : Nat)) := by
  have ha := atoi_num hd hne
  by_cases h : digV 0 l < 9223372036854775808
  · rw [if_pos h] at ha
    exact ⟨_, fun S => call_ext sp_strconv_Atoi S (by simp only [atoiX, ha]; rw [if_pos (by omega)]; simp [h]), fun _ => rfl⟩
  · rw [if_neg h] at ha
    exact ⟨Lib.atoiSat l, fun S => call_ext sp_strconv_Atoi S (by simp only [atoiX, ha]; rw [if_pos (by omega)]; simp [h]), fun e => absurd e h⟩
/-- lex.number: what numS tells. -/
theorem r_number (t : LTokens) (g : Nat) (z : Bool) (h : TI t.text) (hne : t.text.left.takeWhile (inC [3]) ≠ []) : match numS t.text.left with
    | none => ∃ (x : Token) (t' : LTokens), t'.out = t.out ∧ R_lex_tokens_number t g z x false t' g z
    | some (x, n) => R_lex_tokens_number t g z x true (LTokens.mk (takeT t.text n) t.out) g z := by
  have h1 := h.1
  have hd := Dg_take t.text.left
  have hw := r_word h [3] (by decide)
  have hl := spanS_le [3] t.text.left
  unfold spanS at hw hl
  unfold numS
  generalize t.text.left.takeWhile (inC [3]) = d at *
  obtain ⟨v, ha, hv⟩ := r_Atoi hd hne (by omega)
  by_cases hb : digV 0 d < 9223372036854775808
  · obtain rfl := hv hb
    have hi := itoa_num hd hne
    by_cases h0 : d.head? = some 48 → d.length = 1
    · rw [if_pos ⟨hb, h0⟩]
      apply lex_tokens_number_tree
      refine ⟨_, _, hw, _, _, ha, fun e => ?_, fun _ => ⟨_, r_Itoa _ ⟨by omega, by omega⟩, rfl, ?_, rfl, rfl, rfl⟩⟩
      · simp [hb] at e
      · exact decide_eq_true (hi.2 h0)
    · rw [if_neg (fun e => h0 e.2)]
      refine ⟨_, LTokens.mk (takeT t.text d.length) t.out, rfl, lex_tokens_number_tree _ _ _ _ _ _ _ _ ⟨_, _, hw, _, _, ha, fun e => ?_, fun _ => ⟨_, r_Itoa _ ⟨by omega, by omega⟩, rfl, ?_, rfl, rfl, rfl⟩⟩⟩
      · simp [hb] at e
      · exact decide_eq_false (fun e => h0 (hi.1 e))
  · rw [if_neg (fun e => hb e.1)]
    exact ⟨_, LTokens.mk (takeT t.text d.length) t.out, rfl, lex_tokens_number_tree _ _ _ _ _ _ _ _ ⟨_, _, hw, _, _, ha, fun _ => ⟨rfl, rfl, rfl, rfl, rfl⟩, fun e => absurd (decide_eq_true hb) e⟩⟩
/-! ### The other side -/
def refNum (first : Bool) (n : Nat) : List UInt8 → Option Nat
  | [] => some n
  | c :: r => if ¬ n * 10 + (c.toNat - 48) < 9223372036854775808 then none else if first = false ∧ n = 0 then none else refNum false (n * 10 + (c.toNat - 48)) r
theorem refNum_pos (l : List UInt8) : ∀ (n : Nat), 0 < n → n < 9223372036854775808 → refNum false n l = if digV n l < 9223372036854775808 then some (digV n l) else none := by
  induction l with
  | nil => intro n _ h; rw [digV_nil, if_pos h, refNum]
  | cons c r ih =>
    intro n h0 h
    have hge := digV_ge r (n * 10 + (c.toNat - 48))
    rw [digV_cons]
    unfold refNum
    by_cases h1 : n * 10 + (c.toNat - 48) < 9223372036854775808
    · rw [if_neg (fun e => e h1), if_neg (by omega)]
      exact ih _ (by omega) h1
    · rw [if_pos h1, if_neg (by omega)]
theorem refNum_first {d : List UInt8} (hd : Dg d) (hne : d ≠ []) : refNum true 0 d = if numOk d then some (digV 0 d) else none := by
  cases d with
  | nil => exact absurd rfl hne
  | cons c r =>
    have hc := hd c (by simp)
    unfold refNum
    rw [if_neg (by omega), if_neg (by simp)]
    by_cases h : c.toNat = 48
    · have hc : c = 48 := UInt8.toNat_inj.1 h
      subst hc
      cases r with
      | nil => rw [if_pos (show numOk [48] from ⟨by decide, fun _ => rfl⟩)]; rfl
      | cons b r =>
        have hb := hd b (by simp)
        have hno : ¬ numOk (48 :: b :: r) := fun e => by have := e.2 rfl; simp at this
        rw [if_neg hno]
        unfold refNum
        have e0 : 0 * 10 + ((48 : UInt8).toNat - 48) = 0 := rfl
        rw [e0, if_neg (by omega), if_pos ⟨rfl, rfl⟩]
    · rw [refNum_pos r _ (by omega) (by omega), ← digV_cons]
      have e : (List.head? (c :: r) = some 48 → (c :: r).length = 1) := fun e => absurd (by rw [Option.some.inj e]; rfl) h
      by_cases h2 : digV 0 (c :: r) < 9223372036854775808
      · rw [if_pos h2, if_pos (show numOk (c :: r) from ⟨h2, e⟩)]
      · rw [if_neg h2, if_neg (show ¬ numOk (c :: r) from fun e => h2 e.1)]
theorem r_number_loop (s : List UInt8) (hs : s.length ≤ 1000000) (i : Nat) : ∀ (m k n : Nat), k + m = s.length → i ≤ k → n < 9223372036854775808 → match refNum (decide (i = k)) n ((s.drop k).takeWhile (inC [3])) with
    | none => At_ref1_number_1 s i n k 0 [] 0 0 [] 0 (Token.mk 0 [] 0 [] 0) 0
    | some v => At_ref1_number_1 s i n k 0 [] 0 0 [] 0 (Token.mk 1 [] (v : Nat) [] i) ((k + ((s.drop k).takeWhile (inC [3])).length : Nat) - (i : Nat) : Int) := by
  intro m
  induction m with
  | zero =>
    intro k n hk hi hn
    rw [List.drop_eq_nil_of_le (by omega)]
    simp only [List.takeWhile_nil, refNum, List.length_nil, Nat.add_zero]
    apply At_ref1_number_1_step
    exact ⟨fun h => by omega, fun _ => ⟨⟨by omega, by omega⟩, rfl, rfl⟩⟩
  | succ m ih =>
    intro k n hk hi hn
    have hlt : k < s.length := by omega
    have hg : s[((k : Nat) : Int).toNat]? = some s[k] := by rw [Int.toNat_natCast]; exact List.getElem?_eq_getElem hlt
    have hd : s.drop k = s[k] :: s.drop (k + 1) := List.drop_eq_getElem_cons hlt
    rw [hd, List.takeWhile_cons]
    generalize s[k] = c at hg
    by_cases hc : inC [3] c = true
    · rw [if_pos hc]
      have hc2 := (inC3 c).1 hc
      have hdig : R_ref1_digit c true := by
        have := r_digit c
        rwa [decide_eq_true (by unfold inC at hc; simpa using hc)] at this
      have e10 : (9223372036854775807 - (((c.toNat : Nat) : Int) - 48)).tdiv 10 = (((9223372036854775807 - (c.toNat - 48)) / 10 : Nat) : Int) := by
        rw [show 9223372036854775807 - (((c.toNat : Nat) : Int) - 48) = ((9223372036854775807 - (c.toNat - 48) : Nat) : Int) by omega]
        exact tdivN _ 10
      have eacc : 10 * ((n : Nat) : Int) + (((c.toNat : Nat) : Int) - 48) = ((n * 10 + (c.toNat - 48) : Nat) : Int) := by omega
      have ek : ((k : Nat) : Int) + 1 = ((k + 1 : Nat) : Int) := rfl
      unfold refNum
      by_cases h1 : n * 10 + (c.toNat - 48) < 9223372036854775808
      · rw [if_neg (fun e => e h1)]
        by_cases h2 : decide (i = k) = false ∧ n = 0
        · rw [if_pos h2]
          have hik : ¬ i = k := of_decide_eq_false h2.1
          apply At_ref1_number_1_step
          refine ⟨fun _ => ⟨by omega, c, hg, true, hdig, fun _ => ?_, fun h => absurd rfl h⟩, fun h => by omega⟩
          rw [e10]
          exact ⟨⟨by omega, by omega⟩, ⟨by omega, by omega⟩, ⟨by omega, by omega⟩, ⟨by omega, by omega⟩, fun h => by omega, fun _ => ⟨fun _ => ⟨fun _ => ⟨rfl, rfl⟩, fun h => absurd (by omega) h⟩, fun h => by omega⟩⟩
        · rw [if_neg h2]
          have key := ih (k + 1) (n * 10 + (c.toNat - 48)) (by omega) (by omega) h1
          rw [decide_eq_false (show ¬ i = k + 1 by omega)] at key
          have step : ∀ ra rb, At_ref1_number_1 s i ((n * 10 + (c.toNat - 48) : Nat) : Int) ((k + 1 : Nat) : Int) 0 [] 0 0 [] 0 ra rb → At_ref1_number_1 s i n k 0 [] 0 0 [] 0 ra rb := by
            intro ra rb hA
            apply At_ref1_number_1_step
            refine ⟨fun _ => ⟨by omega, c, hg, true, hdig, fun _ => ?_, fun h => absurd rfl h⟩, fun h => by omega⟩
            rw [e10, eacc, ek]
            refine ⟨⟨by omega, by omega⟩, ⟨by omega, by omega⟩, ⟨by omega, by omega⟩, ⟨by omega, by omega⟩, fun h => by omega, fun _ => ⟨fun h3 => ⟨fun h4 => ?_, fun _ => ⟨⟨by omega, by omega⟩, ⟨by omega, by omega⟩, ⟨by omega, by omega⟩, hA⟩⟩, fun h => ⟨⟨by omega, by omega⟩, ⟨by omega, by omega⟩, ⟨by omega, by omega⟩, hA⟩⟩⟩
            exact absurd ⟨decide_eq_false (by omega), by omega⟩ h2
          split at key
          · exact step _ _ key
          · refine step _ _ ?_
            rw [List.length_cons, show k + (((s.drop (k + 1)).takeWhile (inC [3])).length + 1) = k + 1 + ((s.drop (k + 1)).takeWhile (inC [3])).length by omega]
            exact key
      · rw [if_pos h1]
        apply At_ref1_number_1_step
        refine ⟨fun _ => ⟨by omega, c, hg, true, hdig, fun _ => ?_, fun h => absurd rfl h⟩, fun h => by omega⟩
        rw [e10]
        exact ⟨⟨by omega, by omega⟩, ⟨by omega, by omega⟩, ⟨by omega, by omega⟩, ⟨by omega, by omega⟩, fun _ => ⟨rfl, rfl⟩, fun h => absurd (by omega) h⟩
    · rw [if_neg hc]
      have hdig : R_ref1_digit c false := by
        have := r_digit c
        rwa [decide_eq_false (by unfold inC at hc; simpa using hc)] at this
      simp only [refNum, List.length_nil, Nat.add_zero]
      apply At_ref1_number_1_step
      exact ⟨fun _ => ⟨by omega, c, hg, false, hdig, fun h => (by cases h), fun _ => ⟨⟨by omega, by omega⟩, rfl, rfl⟩⟩, fun h => by omega⟩
def atT (x : Token) (i : Int) : Token := ⟨x.Kind, x.Text, x.Num, x.Parts, i⟩
theorem r_refNumber (s : List UInt8) (hs : s.length ≤ 1000000) (i : Nat) (hi : i ≤ s.length) (hne : (s.drop i).takeWhile (inC [3]) ≠ []) : match numS (s.drop i) with
    | none => ∃ x, R_ref1_number s i x 0
    | some (x, n) => R_ref1_number s i (atT x i) n := by
  have key := r_number_loop s hs i (s.length - i) i 0 (by omega) (Nat.le_refl _) (by omega)
  rw [decide_eq_true rfl, refNum_first (Dg_take _) hne] at key
  unfold numS
  by_cases h : numOk ((s.drop i).takeWhile (inC [3]))
  · rw [if_pos h] at key ⊢
    apply ref1_number_tree
    have e : ((i + ((s.drop i).takeWhile (inC [3])).length : Nat) - (i : Nat) : Int) = (((s.drop i).takeWhile (inC [3])).length : Nat) := by omega
    simp only at key
    rw [e] at key
    exact key
  · rw [if_neg h] at key ⊢
    exact ⟨_, ref1_number_tree _ _ _ _ key⟩
end Go.Proofs.YtljgfdhlfjbafaaDoor.M

/- Lex: quoted texts: the whole of lex.quoted; and ref1.text follows Qx. -/
namespace Go.Proofs.YtljgfdhlfjbafaaDoor.M
set_option linter.unusedSimpArgs false
set_option linter.unusedVariables false
open Go Classical
theorem joinP_nil : joinP [] [] = [] := rfl
/-- lex.quoted: what Qx tells, behind the first sign. -/
theorem r_quoted (t : LTokens) (g : Nat) (z : Bool) (h : TI t.text) {u : List UInt8} (e : t.text.left = 34 :: u) {r : Option (List Part × Nat)} (hq : Qx u [] [] r) : match r with
    | none => ∃ t' : LTokens, t'.out = t.out ∧ R_lex_tokens_quoted t g z (Token.mk 0 [] 0 [] 0) false t' g z
    | some (ps, n) => n + 1 ≤ t.text.left.length ∧ R_lex_tokens_quoted t g z (Token.mk 2 [] 0 ps 0) true (LTokens.mk (takeT t.text (n + 1)) t.out) g z := by
  have hlen : 1 ≤ t.text.left.length := by rw [e]; simp
  have h1 := h.1
  have hu : u.length ≤ 6000 := by rw [e] at h1; simp at h1; omega
  have hl : (takeT t.text 1).left = u := by simp only [takeT, e]; rfl
  have key := r_quoted_loop hq 0 (LTokens.mk (takeT t.text 1) t.out) g z hl (h.take hlen) (.inl rfl) (by simp; omega) (by simp; omega)
  cases r with
  | none =>
    obtain ⟨t', ho, hA⟩ := key
    exact ⟨t', ho, lex_tokens_quoted_tree _ _ _ _ _ _ _ _ ⟨_, _, r_take h hlen, hA⟩⟩
  | some q =>
    obtain ⟨ps, n⟩ := q
    obtain ⟨hn, hA⟩ := key
    simp only [takeT_takeT] at hA
    simp only at hn
    rw [hl] at hn
    refine ⟨by rw [e]; simp; omega, lex_tokens_quoted_tree _ _ _ _ _ _ _ _ ⟨_, _, r_take h hlen, ?_⟩⟩
    rw [Nat.add_comm n 1]
    exact hA
/-! ### The other side -/
def TOut (s : List UInt8) (i k : Nat) (l : List Part) (b : List UInt8) : Option (List Part × Nat) → Prop
  | none => At_ref1_text_1 s i k 0 [] 0 0 [] 0 l b (Token.mk 0 [] 0 [] 0) 0
  | some (ps, n) => At_ref1_text_1 s i k 0 [] 0 0 [] 0 l b (Token.mk 2 [] 0 ps i) ((k : Int) + n - i)
theorem TOut.next {s : List UInt8} {i k : Nat} {l l2 : List Part} {b b2 : List UInt8} {m : Nat} (step : ∀ ra rb, At_ref1_text_1 s i ((k + m : Nat) : Int) 0 [] 0 0 [] 0 l2 b2 ra rb → At_ref1_text_1 s i k 0 [] 0 0 [] 0 l b ra rb) {r : Option (List Part × Nat)} (h : TOut s i (k + m) l2 b2 r) : TOut s i k l b (r.map fun q => (q.1, q.2 + m)) := by
  cases r with
  | none => exact step _ _ h
  | some q =>
    obtain ⟨ps, n⟩ := q
    have := step _ _ h
    simp only [TOut, Option.map_some]
    rw [show (k : Int) + ((n + m : Nat) : Int) - (i : Int) = ((k + m : Nat) : Int) + (n : Int) - (i : Int) by omega]
    exact this
theorem u8n {a : UInt8} (n : Nat) : ((a.toNat : Nat) : Int) = (n : Nat) ↔ a.toNat = n := by omega
theorem ne_u8 {a b : UInt8} (h : a ≠ b) : a.toNat ≠ b.toNat := fun e => h (UInt8.toNat_inj.1 e)
theorem esc_cases {x y : UInt8} (h : escS x = some y) : (x = 34 ∧ y = 34) ∨ (x = 92 ∧ y = 92) ∨ (x = 36 ∧ y = 36) ∨ (x = 110 ∧ y = 10) := by
  unfold escS at h
  split at h
  · rename_i c
    obtain rfl := Option.some.inj h
    rcases c with rfl | rfl | rfl <;> simp
  · split at h
    · rename_i c
      obtain rfl := Option.some.inj h
      subst c
      simp
    · cases h
theorem esc_none {x : UInt8} (h : escS x = none) : x.toNat ≠ 34 ∧ x.toNat ≠ 92 ∧ x.toNat ≠ 36 ∧ x.toNat ≠ 110 := by
  unfold escS at h
  split at h
  · cases h
  · rename_i c1
    split at h
    · cases h
    · rename_i c2
      refine ⟨fun e => c1 (.inl (UInt8.toNat_inj.1 e)), fun e => c1 (.inr (.inl (UInt8.toNat_inj.1 e))), fun e => c1 (.inr (.inr (UInt8.toNat_inj.1 e))), fun e => c2 (UInt8.toNat_inj.1 e)⟩
theorem r_refText_loop {t : List UInt8} {l : List Part} {b : List UInt8} {r : Option (List Part × Nat)} (h : Qx t l b r) : ∀ (s : List UInt8) (i k : Nat), s.drop k = t → i ≤ k → k ≤ s.length → s.length ≤ 100000 → l.length + t.length ≤ 200000 → b.length + t.length ≤ 200000 → TOut s i k l b r := by
  induction h with
  | nil l b =>
    intro s i k e hi hk hs h1 h2
    have hlen : (s.drop k).length = 0 := by rw [e]; rfl
    rw [List.length_drop] at hlen
    show At_ref1_text_1 _ _ _ _ _ _ _ _ _ _ _ _ _
    apply At_ref1_text_1_step
    exact ⟨fun h => by omega, fun _ => ⟨rfl, rfl⟩⟩
  | shut t l b =>
    intro s i k e hi hk hs h1 h2
    have hlen : (s.drop k).length = t.length + 1 := by rw [e]; rfl
    rw [List.length_drop] at hlen
    have hg : s[((k : Nat) : Int).toNat]? = some 34 := by rw [Int.toNat_natCast, ← List.head?_drop, e]; rfl
    simp only [List.length_cons] at h1 h2
    show At_ref1_text_1 _ _ _ _ _ _ _ _ _ _ _ _ _
    apply At_ref1_text_1_step
    refine ⟨fun _ => ⟨by omega, 34, hg, fun _ => ⟨fun hb => ⟨⟨by omega, by omega, by decide⟩, ⟨by omega, by omega⟩, ⟨by omega, by omega⟩, ?_, by omega⟩, fun hb => ⟨⟨by omega, by omega⟩, ⟨by omega, by omega⟩, ?_, by omega⟩⟩, fun h => absurd rfl h⟩, fun h => by omega⟩
    · have : b ≠ [] := by intro e; subst e; simp at hb
      simp [joinP, this]
    · have : b = [] := List.length_eq_zero_iff.1 (by omega)
      simp [joinP, this]
  | low c t l b c1 c2 =>
    intro s i k e hi hk hs h1 h2
    have hlen : (s.drop k).length = t.length + 1 := by rw [e]; rfl
    rw [List.length_drop] at hlen
    have hg : s[((k : Nat) : Int).toNat]? = some c := by rw [Int.toNat_natCast, ← List.head?_drop, e]; rfl
    have n1 := ne_u8 c1
    show At_ref1_text_1 _ _ _ _ _ _ _ _ _ _ _ _ _
    apply At_ref1_text_1_step
    exact ⟨fun _ => ⟨by omega, c, hg, fun h => absurd (by exact Int.ofNat.inj h) n1, fun _ => ⟨fun _ => ⟨rfl, rfl⟩, fun h => by omega⟩⟩, fun h => by omega⟩
  | esc x y t l b r hx _ ih =>
    intro s i k e hi hk hs h1 h2
    have hlen : (s.drop k).length = t.length + 2 := by rw [e]; rfl
    rw [List.length_drop] at hlen
    have hg : s[((k : Nat) : Int).toNat]? = some 92 := by rw [Int.toNat_natCast, ← List.head?_drop, e]; rfl
    have hd : s.drop (k + 1) = x :: t := by rw [← List.drop_drop, e]; rfl
    have hd2 : s.drop (k + 2) = t := by rw [← List.drop_drop, e]; rfl
    have hg2 : s[((k : Nat) + 1 : Int).toNat]? = some x := by rw [show ((k : Nat) + 1 : Int).toNat = k + 1 by omega, ← List.head?_drop, hd]; rfl
    simp only [List.length_cons] at h1 h2
    refine TOut.next (m := 2) (fun ra rb hA => ?_) (ih s i (k + 2) hd2 (by omega) (by omega) hs (by omega) (by simp; omega))
    have ek : ((k : Nat) : Int) + 1 + 1 = ((k + 2 : Nat) : Int) := by omega
    apply At_ref1_text_1_step
    refine ⟨fun _ => ⟨by omega, 92, hg, fun h => absurd h (by decide), fun _ => ⟨fun h => absurd h (by decide), fun _ => ⟨fun _ => ⟨⟨by omega, by omega⟩, fun h => by omega, fun _ => ⟨by omega, x, hg2, ?_⟩⟩, fun h => absurd rfl h⟩⟩⟩, fun h => by omega⟩
    rw [ek]
    have big : bigRow (b.length + 1) 1 := ⟨by omega, by omega, by decide⟩
    have o1 : I64 (((k + 2 : Nat) : Int)) := ⟨by omega, by omega⟩
    rcases esc_cases hx with ⟨rfl, rfl⟩ | ⟨rfl, rfl⟩ | ⟨rfl, rfl⟩ | ⟨rfl, rfl⟩
    · exact ⟨fun _ => ⟨big, o1, hA⟩, fun h => absurd rfl h⟩
    · exact ⟨fun h => absurd h (by decide), fun _ => ⟨fun _ => ⟨big, o1, hA⟩, fun h => absurd rfl h⟩⟩
    · exact ⟨fun h => absurd h (by decide), fun _ => ⟨fun h => absurd h (by decide), fun _ => ⟨fun _ => ⟨big, o1, hA⟩, fun h => absurd rfl h⟩⟩⟩
    · exact ⟨fun h => absurd h (by decide), fun _ => ⟨fun h => absurd h (by decide), fun _ => ⟨fun h => absurd h (by decide), fun _ => ⟨fun _ => ⟨big, o1, hA⟩, fun h => absurd rfl h⟩⟩⟩⟩
  | esc0 l b =>
    intro s i k e hi hk hs h1 h2
    have hlen : (s.drop k).length = 1 := by rw [e]; rfl
    rw [List.length_drop] at hlen
    have hg : s[((k : Nat) : Int).toNat]? = some 92 := by rw [Int.toNat_natCast, ← List.head?_drop, e]; rfl
    show At_ref1_text_1 _ _ _ _ _ _ _ _ _ _ _ _ _
    apply At_ref1_text_1_step
    exact ⟨fun _ => ⟨by omega, 92, hg, fun h => absurd h (by decide), fun _ => ⟨fun h => absurd h (by decide), fun _ => ⟨fun _ => ⟨⟨by omega, by omega⟩, fun _ => ⟨rfl, rfl⟩, fun h => by omega⟩, fun h => absurd rfl h⟩⟩⟩, fun h => by omega⟩
  | escbad x t l b hx =>
    intro s i k e hi hk hs h1 h2
    have hlen : (s.drop k).length = t.length + 2 := by rw [e]; rfl
    rw [List.length_drop] at hlen
    have hg : s[((k : Nat) : Int).toNat]? = some 92 := by rw [Int.toNat_natCast, ← List.head?_drop, e]; rfl
    have hd : s.drop (k + 1) = x :: t := by rw [← List.drop_drop, e]; rfl
    have hg2 : s[((k : Nat) + 1 : Int).toNat]? = some x := by rw [show ((k : Nat) + 1 : Int).toNat = k + 1 by omega, ← List.head?_drop, hd]; rfl
    obtain ⟨n1, n2, n3, n4⟩ := esc_none hx
    show At_ref1_text_1 _ _ _ _ _ _ _ _ _ _ _ _ _
    apply At_ref1_text_1_step
    exact ⟨fun _ => ⟨by omega, 92, hg, fun h => absurd h (by decide), fun _ => ⟨fun h => absurd h (by decide), fun _ => ⟨fun _ => ⟨⟨by omega, by omega⟩, fun h => by omega, fun _ => ⟨by omega, x, hg2, fun h => by omega, fun _ => ⟨fun h => by omega, fun _ => ⟨fun h => by omega, fun _ => ⟨fun h => by omega, fun _ => ⟨rfl, rfl⟩⟩⟩⟩⟩⟩, fun h => absurd rfl h⟩⟩⟩, fun h => by omega⟩
  | ref t l b r hr _ ih =>
    intro s i k e hi hk hs h1 h2
    have hlen : (s.drop k).length = t.length + 2 := by rw [e]; rfl
    rw [List.length_drop] at hlen
    have hg : s[((k : Nat) : Int).toNat]? = some 36 := by rw [Int.toNat_natCast, ← List.head?_drop, e]; rfl
    have hd : s.drop (k + 1) = 123 :: t := by rw [← List.drop_drop, e]; rfl
    have hd2 : s.drop (k + 2) = t := by rw [← List.drop_drop, e]; rfl
    have hg2 : s[((k : Nat) + 1 : Int).toNat]? = some 123 := by rw [show ((k : Nat) + 1 : Int).toNat = k + 1 by omega, ← List.head?_drop, hd]; rfl
    simp only [List.length_cons] at h1 h2
    have hrl := refS_len hr
    have hR := r_refReference s (by omega) k (by omega)
    rw [hd2, refLen, if_pos hr] at hR
    have hj := joinP_len l b
    have hdn : s.drop (k + (3 + (refS t).1.length)) = t.drop ((refS t).1.length + 1) := by
      rw [← hd2, List.drop_drop]; congr 1; omega
    have hin : (refS t).1 = t.take (refS t).1.length := by
      obtain ⟨x, y, v, e1, _, _, e2⟩ := ref_split hr
      rw [e2]
      conv => rhs; rw [e1]
      rw [show x ++ 46 :: (y ++ 125 :: v) = (x ++ 46 :: y) ++ 125 :: v by simp, List.take_left]
    refine TOut.next (m := 3 + (refS t).1.length) (fun ra rb hA => ?_) (ih s i (k + (3 + (refS t).1.length)) hdn (by omega) (by omega) hs (by simp; omega) (by simp; omega))
    have big1 : bigRow (l.length + 1) 24 := ⟨by omega, by omega, by decide⟩
    have big2 : bigRow (l.length + 2) 24 := ⟨by omega, by omega, by decide⟩
    have e1 : ((k : Nat) : Int) + (((refS t).1.length : Nat) + 3 : Int) - 1 + 1 = ((k + (3 + (refS t).1.length) : Nat) : Int) := by omega
    have etake : (s.drop ((k : Nat) + 2 : Int).toNat).take ((((k : Nat) : Int) + (((refS t).1.length : Nat) + 3 : Int) - 1).toNat - ((k : Nat) + 2 : Int).toNat) = (refS t).1 := by
      rw [show ((k : Nat) + 2 : Int).toNat = k + 2 by omega, hd2, show (((k : Nat) : Int) + (((refS t).1.length : Nat) + 3 : Int) - 1).toNat - (k + 2) = (refS t).1.length by omega]
      exact hin.symm
    apply At_ref1_text_1_step
    refine ⟨fun _ => ⟨by omega, 36, hg, fun h => absurd h (by decide), fun _ => ⟨fun h => absurd h (by decide), fun _ => ⟨fun h => absurd h (by decide), fun _ => ⟨fun _ => ⟨⟨by omega, by omega⟩, fun _ => ⟨⟨by omega, by omega⟩, by omega, 123, hg2, fun _ => ⟨_, hR, fun h => by omega, fun _ => ⟨fun hb => ?_, fun hb => ?_⟩⟩, fun h => absurd rfl h⟩, fun h => by omega⟩, fun h => absurd rfl h⟩⟩⟩⟩, fun h => by omega⟩
    · have : b ≠ [] := by intro e; subst e; simp at hb
      have ej : joinP l b ++ [Part.mk true (refS t).1] = l ++ [Part.mk false b, Part.mk true (refS t).1] := by simp [joinP, this]
      rw [ej] at hA
      rw [etake, e1]
      exact ⟨big1, ⟨by omega, by omega⟩, ⟨by omega, by omega⟩, ⟨by omega, by omega⟩, by omega, by omega, by omega, by omega, big2, ⟨by omega, by omega⟩, ⟨by omega, by omega⟩, ⟨by omega, by omega⟩, hA⟩
    · have : b = [] := List.length_eq_zero_iff.1 (by omega)
      subst this
      have ej : joinP l [] ++ [Part.mk true (refS t).1] = l ++ [Part.mk true (refS t).1] := by simp [joinP]
      rw [ej] at hA
      rw [etake, e1]
      exact ⟨⟨by omega, by omega⟩, ⟨by omega, by omega⟩, ⟨by omega, by omega⟩, by omega, by omega, by omega, by omega, big1, ⟨by omega, by omega⟩, ⟨by omega, by omega⟩, ⟨by omega, by omega⟩, hA⟩
  | refbad t l b hr =>
    intro s i k e hi hk hs h1 h2
    have hlen : (s.drop k).length = t.length + 2 := by rw [e]; rfl
    rw [List.length_drop] at hlen
    have hg : s[((k : Nat) : Int).toNat]? = some 36 := by rw [Int.toNat_natCast, ← List.head?_drop, e]; rfl
    have hd : s.drop (k + 1) = 123 :: t := by rw [← List.drop_drop, e]; rfl
    have hd2 : s.drop (k + 2) = t := by rw [← List.drop_drop, e]; rfl
    have hg2 : s[((k : Nat) + 1 : Int).toNat]? = some 123 := by rw [show ((k : Nat) + 1 : Int).toNat = k + 1 by omega, ← List.head?_drop, hd]; rfl
    have hR := r_refReference s (by omega) k (by omega)
    rw [hd2, refLen, if_neg (by rw [hr]; simp)] at hR
    show At_ref1_text_1 _ _ _ _ _ _ _ _ _ _ _ _ _
    apply At_ref1_text_1_step
    exact ⟨fun _ => ⟨by omega, 36, hg, fun h => absurd h (by decide), fun _ => ⟨fun h => absurd h (by decide), fun _ => ⟨fun h => absurd h (by decide), fun _ => ⟨fun _ => ⟨⟨by omega, by omega⟩, fun _ => ⟨⟨by omega, by omega⟩, by omega, 123, hg2, fun _ => ⟨_, hR, fun _ => ⟨rfl, rfl⟩, fun h => absurd rfl h⟩, fun h => absurd rfl h⟩, fun h => by omega⟩, fun h => absurd rfl h⟩⟩⟩⟩, fun h => by omega⟩
  | plain c t l b r c1 c2 c3 c4 _ ih =>
    intro s i k e hi hk hs h1 h2
    have hlen : (s.drop k).length = t.length + 1 := by rw [e]; rfl
    rw [List.length_drop] at hlen
    have hg : s[((k : Nat) : Int).toNat]? = some c := by rw [Int.toNat_natCast, ← List.head?_drop, e]; rfl
    have hd : s.drop (k + 1) = t := by rw [← List.drop_drop, e]; rfl
    simp only [List.length_cons] at h1 h2
    have n1 : c.toNat ≠ 34 := ne_u8 c1
    have n3 : c.toNat ≠ 92 := ne_u8 c3
    have big : bigRow (b.length + 1) 1 := ⟨by omega, by omega, by decide⟩
    refine TOut.next (m := 1) (fun ra rb hA => ?_) (ih s i (k + 1) hd (by omega) (by omega) hs (by omega) (by simp; omega))
    have ek : ((k : Nat) : Int) + 1 = ((k + 1 : Nat) : Int) := rfl
    apply At_ref1_text_1_step
    refine ⟨fun _ => ⟨by omega, c, hg, fun h => by omega, fun _ => ⟨fun h => by omega, fun _ => ⟨fun h => by omega, fun _ => ⟨fun h36 => ⟨⟨by omega, by omega⟩, fun hlt => ?_, fun _ => ⟨big, ⟨by omega, by omega⟩, hA⟩⟩, fun _ => ⟨big, ⟨by omega, by omega⟩, hA⟩⟩⟩⟩⟩, fun h => by omega⟩
    have hc : c = 36 := UInt8.toNat_inj.1 (Int.ofNat.inj h36)
    have hh := c4 hc
    cases t with
    | nil => simp at hlen; omega
    | cons x t =>
      have hg2 : s[((k : Nat) + 1 : Int).toNat]? = some x := by rw [show ((k : Nat) + 1 : Int).toNat = k + 1 by omega, ← List.head?_drop, hd]; rfl
      refine ⟨⟨by omega, by omega⟩, by omega, x, hg2, fun h => ?_, fun _ => ⟨big, ⟨by omega, by omega⟩, hA⟩⟩
      exfalso
      apply hh
      have : x = 123 := UInt8.toNat_inj.1 (Int.ofNat.inj h)
      rw [this]
      rfl
theorem r_refText (s : List UInt8) (hs : s.length ≤ 100000) (i : Nat) {u : List UInt8} (e : s.drop i = 34 :: u) {r : Option (List Part × Nat)} (hq : Qx u [] [] r) : match r with
    | none => R_ref1_text s i (Token.mk 0 [] 0 [] 0) 0
    | some (ps, n) => R_ref1_text s i (Token.mk 2 [] 0 ps i) ((n + 1 : Nat) : Int) := by
  have hlen : (s.drop i).length = u.length + 1 := by rw [e]; rfl
  rw [List.length_drop] at hlen
  have hd : s.drop (i + 1) = u := by rw [← List.drop_drop, e]; rfl
  have key := r_refText_loop hq s i (i + 1) hd (by omega) (by omega) hs (by simp; omega) (by simp; omega)
  cases r with
  | none => exact ref1_text_tree _ _ _ _ ⟨⟨by omega, by omega⟩, key⟩
  | some q =>
    obtain ⟨ps, n⟩ := q
    refine ref1_text_tree _ _ _ _ ⟨⟨by omega, by omega⟩, ?_⟩
    simp only [TOut] at key
    rw [show ((i + 1 : Nat) : Int) + (n : Int) - (i : Int) = ((n + 1 : Nat) : Int) by omega] at key
    exact key
end Go.Proofs.YtljgfdhlfjbafaaDoor.M

/- Lex: a token, on both sides. -/
namespace Go.Proofs.YtljgfdhlfjbafaaDoor.M
set_option linter.unusedSimpArgs false
set_option linter.unusedVariables false
open Go Classical
theorem cls5 (c : UInt8) : clsS c = 5 ↔ c = 35 := by
  have e : c = 35 ↔ c.toNat = 35 := by rw [← UInt8.toNat_inj]; rfl
  rw [e]
  unfold clsS
  repeat' split
  all_goals (first | omega | (constructor <;> intro h <;> first | omega | exact absurd h (by decide)))
theorem cls1 (c : UInt8) : clsS c = 1 ↔ c.toNat = 32 ∨ c.toNat = 10 := by
  unfold clsS
  repeat' split
  all_goals (first | omega | (constructor <;> intro h <;> first | omega | exact absurd h (by decide)))
/-- A token that stands at the beginning, and how long it is; none: none may stand there. -/
inductive Tok : List UInt8 → Option (Token × Nat) → Prop
  | name (c : UInt8) (u : List UInt8) (h : clsS c = 2) : Tok (c :: u) (if ((c :: u).takeWhile (inC [2, 3])).length ≤ 24 then some (Token.mk 3 ((c :: u).takeWhile (inC [2, 3])) 0 [] 0, spanS [2, 3] (c :: u)) else none)
  | num (c : UInt8) (u : List UInt8) (h : clsS c = 3) : Tok (c :: u) (numS (c :: u))
  | text (u : List UInt8) (r : Option (List Part × Nat)) (h : Qx u [] [] r) : Tok (34 :: u) (r.map fun q => (Token.mk 2 [] 0 q.1 0, q.2 + 1))
  | sign (c : UInt8) (u : List UInt8) (h2 : clsS c ≠ 2) (h3 : clsS c ≠ 3) (h4 : clsS c ≠ 4) : Tok (c :: u) (if signS (c :: u) = [] then none else some (Token.mk 4 (signS (c :: u)) 0 [] 0, (signS (c :: u)).length))
theorem Tok_total (c : UInt8) (u : List UInt8) : ∃ r, Tok (c :: u) r := by
  by_cases h2 : clsS c = 2
  · exact ⟨_, .name c u h2⟩
  by_cases h3 : clsS c = 3
  · exact ⟨_, .num c u h3⟩
  by_cases h4 : clsS c = 4
  · obtain rfl := (cls4 c).1 h4
    obtain ⟨r, hr⟩ := Qx_total u.length u (Nat.le_refl _) [] []
    exact ⟨_, .text u r hr⟩
  · exact ⟨_, .sign c u h2 h3 h4⟩
theorem Qx_len {t : List UInt8} {l : List Part} {b : List UInt8} {r : Option (List Part × Nat)} (h : Qx t l b r) : ∀ q, r = some q → 0 < q.2 ∧ q.2 ≤ t.length := by
  induction h with
  | nil | low | esc0 | escbad | refbad => intro q hq; cases hq
  | shut t l b => intro q hq; obtain rfl := Option.some.inj hq; simp
  | esc x y t l b r hx _ ih =>
    intro q hq
    obtain ⟨q0, h0, rfl⟩ := Option.map_eq_some_iff.1 hq
    have := ih q0 h0
    simp only [List.length_cons]
    omega
  | ref t l b r hr _ ih =>
    intro q hq
    obtain ⟨q0, h0, rfl⟩ := Option.map_eq_some_iff.1 hq
    have := ih q0 h0
    have h1 := refS_len hr
    simp only [List.length_cons, List.length_drop] at this ⊢
    omega
  | plain c t l b r c1 c2 c3 c4 _ ih =>
    intro q hq
    obtain ⟨q0, h0, rfl⟩ := Option.map_eq_some_iff.1 hq
    have := ih q0 h0
    simp only [List.length_cons]
    omega
theorem span_pos {cl : List Int} {c : UInt8} (u : List UInt8) (h : inC cl c = true) : 0 < spanS cl (c :: u) := by
  unfold spanS
  rw [List.takeWhile_cons, if_pos h]
  simp
theorem signS_len (c : UInt8) (u : List UInt8) : (signS (c :: u)).length ≤ (c :: u).length := by
  cases u with
  | nil => simp only [signS, sign1]; split <;> simp
  | cons b u => simp only [signS, sign2, sign1]; repeat' split <;> simp
theorem Tok_len {t : List UInt8} {r : Option (Token × Nat)} (h : Tok t r) : ∀ q, r = some q → 0 < q.2 ∧ q.2 ≤ t.length := by
  cases h with
  | name c u h =>
    intro q hq
    split at hq
    · obtain rfl := Option.some.inj hq
      exact ⟨span_pos u ((inC23 c).2 (.inl h)), spanS_le _ _⟩
    · cases hq
  | num c u h =>
    intro q hq
    unfold numS at hq
    split at hq
    · obtain rfl := Option.some.inj hq
      exact ⟨span_pos (cl := [3]) u (by unfold inC; simp [h]), spanS_le [3] _⟩
    · cases hq
  | text u r h =>
    intro q hq
    obtain ⟨q0, h0, rfl⟩ := Option.map_eq_some_iff.1 hq
    have := Qx_len h q0 h0
    simp only [List.length_cons]
    omega
  | sign c u h2 h3 h4 =>
    intro q hq
    split at hq
    · cases hq
    · rename_i hne
      obtain rfl := Option.some.inj hq
      exact ⟨List.length_pos_iff.2 hne, signS_len c u⟩
theorem takeWhile_idem (p : UInt8 → Bool) : ∀ l : List UInt8, (l.takeWhile p).takeWhile p = l.takeWhile p
  | [] => rfl
  | c :: l => by
    rw [List.takeWhile_cons]
    split
    · rename_i h
      rw [List.takeWhile_cons, if_pos h, takeWhile_idem p l]
    · rfl
theorem name_word {c : UInt8} (u : List UInt8) (h : clsS c = 2) : nameS ((c :: u).takeWhile (inC [2, 3])) = decide (((c :: u).takeWhile (inC [2, 3])).length ≤ 24) := by
  have hc : inC [2, 3] c = true := (inC23 c).2 (.inl h)
  have hi := takeWhile_idem (inC [2, 3]) (c :: u)
  rw [List.takeWhile_cons, if_pos hc] at hi ⊢
  unfold nameS
  refine decide_eq_decide.2 ⟨fun e => e.2.1, fun e => ⟨by simp, e, ?_⟩⟩
  rw [endS, if_pos h, spanS, hi]
theorem dig_ne {c : UInt8} (u : List UInt8) (h : clsS c = 3) : (c :: u).takeWhile (inC [3]) ≠ [] := by
  rw [List.takeWhile_cons, if_pos (by unfold inC; simp [h])]
  simp
def NextP (t : LTokens) (g : Nat) (z : Bool) : Option (Token × Nat) → Prop
  | none => ∃ t', R_lex_tokens_next t g z false t' g z
  | some (x, n) => R_lex_tokens_next t g z true (LTokens.mk (takeT t.text n) (t.out ++ [atT x t.text.pos])) g z
def TokP (s : List UInt8) (i : Nat) : Option (Token × Nat) → Prop
  | none => ∃ x, R_ref1_token s i x 0
  | some (x, n) => R_ref1_token s i (atT x i) n
/-- lex.next: what Tok tells. -/
theorem r_next (t : LTokens) (g : Nat) (z : Bool) (h : TI t.text) (ho : t.out.length ≤ 6000) {r : Option (Token × Nat)} {l : List UInt8} (hl : t.text.left = l) (hk : Tok l r) : NextP t g z r := by
  have big : bigRow (t.out.length + 1) 64 := ⟨by omega, by omega, by decide⟩
  cases hk with
  | name c u hc =>
    have hn := r_name t g z h
    rw [hl, name_word u hc] at hn
    have hd : t.text.left[0]? = some c := by rw [hl]; rfl
    by_cases hlen : ((c :: u).takeWhile (inC [2, 3])).length ≤ 24
    rotate_left
    · rw [if_neg hlen]
      · rw [decide_eq_false hlen] at hn
        exact ⟨_, lex_tokens_next_tree _ _ _ _ _ _ _ ⟨c, hd, _, r_class c, fun _ => ⟨_, _, _, _, _, hn, big, rfl, rfl, rfl, rfl⟩, fun e => absurd hc e⟩⟩
    · rw [if_pos hlen]
      · rw [decide_eq_true hlen] at hn
        exact lex_tokens_next_tree _ _ _ _ _ _ _ ⟨c, hd, _, r_class c, fun _ => ⟨_, _, _, _, _, hn, big, rfl, rfl, rfl, rfl⟩, fun e => absurd hc e⟩
  | num c u hc =>
    have hd : t.text.left[0]? = some c := by rw [hl]; rfl
    have hn := r_number t g z h (by rw [hl]; exact dig_ne u hc)
    rw [hl] at hn
    have h2 : clsS c ≠ 2 := by omega
    revert hn
    generalize numS (c :: u) = q
    intro hn
    rcases q with _ | ⟨x, n⟩
    · obtain ⟨x, t', ho', hn⟩ := hn
      exact ⟨_, lex_tokens_next_tree _ _ _ _ _ _ _ ⟨c, hd, _, r_class c, fun e => absurd e h2, fun _ => ⟨fun _ => ⟨_, _, _, _, _, hn, by rw [ho']; exact big, rfl, rfl, rfl, rfl⟩, fun e => absurd hc e⟩⟩⟩
    · exact lex_tokens_next_tree _ _ _ _ _ _ _ ⟨c, hd, _, r_class c, fun e => absurd e h2, fun _ => ⟨fun _ => ⟨_, _, _, _, _, hn, big, rfl, rfl, rfl, rfl⟩, fun e => absurd hc e⟩⟩
  | text u q hq =>
    have hd : t.text.left[0]? = some 34 := by rw [hl]; rfl
    have hn := r_quoted t g z h hl hq
    have h4 : clsS 34 = 4 := (cls4 34).2 rfl
    cases q with
    | none =>
      obtain ⟨t', ho', hn⟩ := hn
      exact ⟨_, lex_tokens_next_tree _ _ _ _ _ _ _ ⟨34, hd, _, r_class 34, fun e => by omega, fun _ => ⟨fun e => by omega, fun _ => ⟨fun _ => ⟨_, _, _, _, _, hn, by rw [ho']; exact big, rfl, rfl, rfl, rfl⟩, fun e => absurd h4 e⟩⟩⟩⟩
    | some p =>
      obtain ⟨ps, n⟩ := p
      exact lex_tokens_next_tree _ _ _ _ _ _ _ ⟨34, hd, _, r_class 34, fun e => by omega, fun _ => ⟨fun e => by omega, fun _ => ⟨fun _ => ⟨_, _, _, _, _, hn.2, big, rfl, rfl, rfl, rfl⟩, fun e => absurd h4 e⟩⟩⟩
  | sign c u h2 h3 h4 =>
    have hd : t.text.left[0]? = some c := by rw [hl]; rfl
    have hn := r_sign t g z h (by rw [hl]; simp)
    rw [hl] at hn
    by_cases he : signS (c :: u) = []
    · rw [if_pos he]
      · rw [if_pos he, if_pos he, decide_eq_false (fun e => e he)] at hn
        exact ⟨_, lex_tokens_next_tree _ _ _ _ _ _ _ ⟨c, hd, _, r_class c, fun e => absurd e h2, fun _ => ⟨fun e => absurd e h3, fun _ => ⟨fun e => absurd e h4, fun _ => ⟨_, _, _, _, _, hn, big, rfl, rfl, rfl, rfl⟩⟩⟩⟩⟩
    · rw [if_neg he]
      · rw [if_neg he, if_neg he, decide_eq_true he] at hn
        exact lex_tokens_next_tree _ _ _ _ _ _ _ ⟨c, hd, _, r_class c, fun e => absurd e h2, fun _ => ⟨fun e => absurd e h3, fun _ => ⟨fun e => absurd e h4, fun _ => ⟨_, _, _, _, _, hn, big, rfl, rfl, rfl, rfl⟩⟩⟩⟩
/-- ref1.token: what Tok tells. -/
theorem r_refToken (s : List UInt8) (hs : s.length ≤ 100000) (i : Nat) {l : List UInt8} (hl : s.drop i = l) {r : Option (Token × Nat)} (hk : Tok l r) : TokP s i r := by
  have hlen : (s.drop i).length = l.length := by rw [hl]
  rw [List.length_drop] at hlen
  cases hk with
  | name c u hc =>
    simp only [List.length_cons] at hlen
    have hg : s[((i : Nat) : Int).toNat]? = some c := by rw [Int.toNat_natCast, ← List.head?_drop, hl]; rfl
    have hd := r_digit c
    rw [decide_eq_false (by omega)] at hd
    have hb := r_begins c
    rw [decide_eq_true hc] at hb
    have n34 : ¬ ((c.toNat : Nat) : Int) = 34 := fun e => by
      have : c = 34 := UInt8.toNat_inj.1 (Int.ofNat.inj e)
      have := (cls4 c).2 this
      omega
    have hn := r_nameEnd s (by omega) i
    have he : endS (s.drop i) = ((c :: u).takeWhile (inC [2, 3])).length := by rw [hl, endS, if_pos hc]; rfl
    have hsp : ((c :: u).takeWhile (inC [2, 3])).length ≤ (c :: u).length := spanS_le [2, 3] (c :: u)
    simp only [List.length_cons] at hsp
    rw [he] at hn
    have et : (s.drop ((i : Nat) : Int).toNat).take ((((i : Nat) : Int) + ((((c :: u).takeWhile (inC [2, 3])).length : Nat) : Int)).toNat - ((i : Nat) : Int).toNat) = (c :: u).takeWhile (inC [2, 3]) := by
      rw [Int.toNat_natCast, hl, show (((i : Nat) : Int) + ((((c :: u).takeWhile (inC [2, 3])).length : Nat) : Int)).toNat - i = ((c :: u).takeWhile (inC [2, 3])).length by omega]
      exact take_while_len _ _
    by_cases h24 : ((c :: u).takeWhile (inC [2, 3])).length ≤ 24
    rotate_left
    · rw [if_neg h24]
      · exact ⟨_, ref1_token_tree _ _ _ _ ⟨by omega, c, hg, _, hd, fun e => (by cases e), fun _ => ⟨fun e => absurd e n34, fun _ => ⟨_, hb, fun _ => ⟨_, hn, ⟨by omega, by omega⟩, fun _ => ⟨rfl, rfl⟩, fun e => absurd (by omega) e⟩, fun e => absurd rfl e⟩⟩⟩⟩
    · rw [if_pos h24]
      · refine ref1_token_tree _ _ _ _ ⟨by omega, c, hg, _, hd, fun e => (by cases e), fun _ => ⟨fun e => absurd e n34, fun _ => ⟨_, hb, fun _ => ⟨_, hn, ⟨by omega, by omega⟩, fun e => by omega, fun _ => ⟨by omega, by omega, by omega, by omega, ⟨by omega, by omega⟩, ?_, by unfold spanS; omega⟩⟩, fun e => absurd rfl e⟩⟩⟩
        rw [et]
        rfl
  | num c u hc =>
    simp only [List.length_cons] at hlen
    have hg : s[((i : Nat) : Int).toNat]? = some c := by rw [Int.toNat_natCast, ← List.head?_drop, hl]; rfl
    have hd := r_digit c
    rw [decide_eq_true hc] at hd
    have hn := r_refNumber s (by omega) i (by omega) (by rw [hl]; exact dig_ne u hc)
    rw [hl] at hn
    revert hn
    generalize numS (c :: u) = q
    intro hn
    rcases q with _ | ⟨x, n⟩
    · obtain ⟨x, hn⟩ := hn
      exact ⟨_, ref1_token_tree _ _ _ _ ⟨by omega, c, hg, _, hd, fun _ => ⟨_, _, hn, rfl, rfl⟩, fun e => absurd rfl e⟩⟩
    · exact ref1_token_tree _ _ _ _ ⟨by omega, c, hg, _, hd, fun _ => ⟨_, _, hn, rfl, rfl⟩, fun e => absurd rfl e⟩
  | text u q hq =>
    have hg : s[((i : Nat) : Int).toNat]? = some 34 := by rw [Int.toNat_natCast, ← List.head?_drop, hl]; rfl
    have hd := r_digit 34
    rw [decide_eq_false (by decide)] at hd
    have hn := r_refText s hs i hl hq
    cases q with
    | none => exact ⟨_, ref1_token_tree _ _ _ _ ⟨by omega, 34, hg, _, hd, fun e => (by cases e), fun _ => ⟨fun _ => ⟨_, _, hn, rfl, rfl⟩, fun e => absurd rfl e⟩⟩⟩
    | some p =>
      obtain ⟨ps, n⟩ := p
      exact ref1_token_tree _ _ _ _ ⟨by omega, 34, hg, _, hd, fun e => (by cases e), fun _ => ⟨fun _ => ⟨_, _, hn, rfl, rfl⟩, fun e => absurd rfl e⟩⟩
  | sign c u h2 h3 h4 =>
    simp only [List.length_cons] at hlen
    have hg : s[((i : Nat) : Int).toNat]? = some c := by rw [Int.toNat_natCast, ← List.head?_drop, hl]; rfl
    have hd := r_digit c
    rw [decide_eq_false h3] at hd
    have hb := r_begins c
    rw [decide_eq_false h2] at hb
    have n34 : ¬ ((c.toNat : Nat) : Int) = 34 := fun e => h4 ((cls4 c).2 (UInt8.toNat_inj.1 (Int.ofNat.inj e)))
    have hn := r_refSign s (by omega) i (by omega)
    rw [hl] at hn
    by_cases he : signS (c :: u) = []
    · rw [if_pos he]
      · rw [he] at hn
        exact ⟨_, ref1_token_tree _ _ _ _ ⟨by omega, c, hg, _, hd, fun e => (by cases e), fun _ => ⟨fun e => absurd e n34, fun _ => ⟨_, hb, fun e => (by cases e), fun _ => ⟨_, hn, rfl, rfl⟩⟩⟩⟩⟩
    · rw [if_neg he]
      · exact ref1_token_tree _ _ _ _ ⟨by omega, c, hg, _, hd, fun e => (by cases e), fun _ => ⟨fun e => absurd e n34, fun _ => ⟨_, hb, fun e => (by cases e), fun _ => ⟨_, hn, rfl, rfl⟩⟩⟩⟩
end Go.Proofs.YtljgfdhlfjbafaaDoor.M

/- Lex: all tokens of a text (Lx), on both sides; and a function that reckons them. -/
namespace Go.Proofs.YtljgfdhlfjbafaaDoor.M
set_option linter.unusedSimpArgs false
set_option linter.unusedVariables false
open Go Classical
/-- What a text's tokens are, from a place on; none: an error. -/
inductive Lx : List UInt8 → Int → Option (List Token) → Prop
  | nil (p : Int) : Lx [] p (some [Token.mk 0 [] 0 [] p])
  | gap (c : UInt8) (t : List UInt8) (p : Int) (r : Option (List Token)) (hc : clsS c = 1) (h : Lx t (p + 1) r) : Lx (c :: t) p r
  | remark (t : List UInt8) (p : Int) (r : Option (List Token)) (h : Lx (t.dropWhile (· != 10)) (p + ((t.takeWhile (· != 10)).length + 1 : Nat)) r) : Lx (35 :: t) p r
  | bad (c : UInt8) (t : List UInt8) (p : Int) (h1 : clsS c ≠ 1) (h2 : clsS c ≠ 5) (h : Tok (c :: t) none) : Lx (c :: t) p none
  | tok (c : UInt8) (t : List UInt8) (p : Int) (x : Token) (n : Nat) (r : Option (List Token)) (h1 : clsS c ≠ 1) (h2 : clsS c ≠ 5) (h : Tok (c :: t) (some (x, n))) (h' : Lx ((c :: t).drop n) (p + n) r) : Lx (c :: t) p (r.map (atT x p :: ·))
def stands : List UInt8 → Prop
  | [] => True
  | c :: _ => clsS c ≠ 1 ∧ clsS c ≠ 5
theorem take0 (t : LText) : takeT t 0 = t := by
  unfold takeT
  simp
theorem takeWhile_all (p : UInt8 → Bool) : ∀ l : List UInt8, (∀ x ∈ l, p x = true) → l.takeWhile p = l
  | [], _ => rfl
  | c :: l, h => by rw [List.takeWhile_cons, if_pos (h c (by simp)), takeWhile_all p l (fun x hx => h x (by simp [hx]))]
theorem cut_line (s : List UInt8) : (Lib.cut s [10]).1 = s.takeWhile (· != 10) := by
  rw [cut1]
  split
  · rfl
  · rename_i h
    exact (takeWhile_all _ _ fun x hx => by
      simp only [bne_iff_ne, ne_eq]
      intro e
      exact h (e ▸ hx)).symm
theorem drop_line (t : List UInt8) : (35 :: t : List UInt8).drop ((t.takeWhile (· != 10)).length + 1) = t.dropWhile (· != 10) := by
  rw [List.drop_succ_cons]
  exact drop_while_len _ _
theorem line_len (t : List UInt8) : (t.takeWhile (· != 10)).length ≤ t.length := by
  have := congrArg List.length (List.takeWhile_append_dropWhile (p := (· != (10 : UInt8))) (l := t))
  rw [List.length_append] at this
  omega
theorem span1 {c : UInt8} (t : List UInt8) (h : clsS c = 1) : spanS [1] (c :: t) = spanS [1] t + 1 := by
  unfold spanS
  rw [List.takeWhile_cons, if_pos (by unfold inC; simp [h])]
  rfl
theorem span0 {c : UInt8} (t : List UInt8) (h : clsS c ≠ 1) : spanS [1] (c :: t) = 0 := by
  unfold spanS
  rw [List.takeWhile_cons, if_neg (by unfold inC; simp [h])]
  rfl
/-- lex.skip, behind its first blanks. -/
theorem r_skip_loop {l : List UInt8} {p : Int} {r : Option (List Token)} (h : Lx l p r) : ∀ (t : LTokens) (g : Nat) (z : Bool), t.text.left = l → t.text.pos = p → TI t.text →
    ∃ n, n ≤ l.length ∧ At_lex_tokens_skip_1 (LTokens.mk (takeT t.text (spanS [1] l)) t.out) g z (LTokens.mk (takeT t.text n) t.out) g z ∧ Lx (l.drop n) (p + n) r ∧ stands (l.drop n) := by
  induction h with
  | nil p =>
    intro t g z e ep hT
    refine ⟨0, Nat.le_refl _, ?_, by simpa using Lx.nil p, trivial⟩
    apply At_lex_tokens_skip_1_step
    refine ⟨_, r_HasPrefix _ _, fun h => ?_, fun _ => ⟨rfl, rfl, rfl⟩⟩
    rw [show spanS [1] [] = 0 from rfl, take0, e] at h
    exact absurd h (by decide)
  | gap c t' p r hc _ ih =>
    intro t g z e ep hT
    have h1 : 1 ≤ t.text.left.length := by rw [e]; simp
    obtain ⟨n, hn, hA, hL, hs⟩ := ih (LTokens.mk (takeT t.text 1) t.out) g z (by simp only [takeT, e]; rfl) (by simp only [takeT, ep]; rfl) (hT.take h1)
    simp only [takeT_takeT] at hA
    refine ⟨n + 1, by simp; omega, ?_, ?_, by rw [List.drop_succ_cons]; exact hs⟩
    · rw [span1 t' hc, Nat.add_comm (spanS [1] t') 1, Nat.add_comm n 1]
      exact hA
    · rw [List.drop_succ_cons, show p + ((n + 1 : Nat) : Int) = p + 1 + (n : Int) by omega]
      exact hL
  | remark t' p r _ ih =>
    intro t g z e ep hT
    have hll := line_len t'
    have h1 : (t'.takeWhile (· != 10)).length + 1 ≤ t.text.left.length := by rw [e]; simp; omega
    have hT1 := hT.1
    obtain ⟨n, hn, hA, hL, hs⟩ := ih (LTokens.mk (takeT t.text ((t'.takeWhile (· != 10)).length + 1)) t.out) g z (by simp only [takeT, e]; exact drop_line t') (by simp only [takeT, ep]) (hT.take h1)
    simp only [takeT_takeT] at hA
    have hdl : (t'.dropWhile (· != 10)).length = t'.length - (t'.takeWhile (· != 10)).length := by rw [← drop_while_len, List.length_drop]
    have hsp : spanS [1] (35 :: t') = 0 := span0 t' (by decide)
    refine ⟨(t'.takeWhile (· != 10)).length + 1 + n, by simp; omega, ?_, ?_, ?_⟩
    · rw [hsp, take0]
      apply At_lex_tokens_skip_1_step
      have hcut : (Lib.cut t.text.left [10]).1 = 35 :: t'.takeWhile (· != 10) := by
        rw [cut_line, e, List.takeWhile_cons, if_pos (by decide)]
      have hR := r_Cut t.text.left [10] (by omega)
      have hTk := r_take hT (n := (35 :: t'.takeWhile (· != 10)).length) (by simpa using h1)
      have hT2 : TI (takeT t.text (35 :: t'.takeWhile (· != 10)).length) := hT.take (by simpa using h1)
      have hW := r_word hT2 [1] (by decide)
      rw [hcut] at hR
      refine ⟨_, r_HasPrefix _ _, fun _ => ⟨_, _, _, hR, _, _, hTk, _, _, hW, ?_⟩, fun h => absurd (by rw [e]; rfl) h⟩
      have hle : (takeT t.text (35 :: t'.takeWhile (· != 10)).length).left = t'.dropWhile (· != 10) := by
        simp only [takeT, e, List.length_cons]; exact drop_line t'
      rw [hle, takeT_takeT]
      exact hA
    · rw [← List.drop_drop, drop_line, show p + (((t'.takeWhile (· != 10)).length + 1 + n : Nat) : Int) = p + (((t'.takeWhile (· != 10)).length + 1 : Nat) : Int) + (n : Int) by omega]
      exact hL
    · rw [← List.drop_drop, drop_line]
      exact hs
  | bad c t' p c1 c2 hk =>
    intro t g z e ep hT
    refine ⟨0, Nat.zero_le _, ?_, by simpa using Lx.bad c t' p c1 c2 hk, ⟨c1, c2⟩⟩
    rw [span0 t' c1]
    apply At_lex_tokens_skip_1_step
    refine ⟨_, r_HasPrefix _ _, fun h => ?_, fun _ => ⟨rfl, rfl, rfl⟩⟩
    rw [take0, e] at h
    exfalso
    apply c2
    rw [cls5]
    symm
    simpa [Lib.hasPrefix] using h
  | tok c t' p x n r c1 c2 hk h' _ =>
    intro t g z e ep hT
    refine ⟨0, Nat.zero_le _, ?_, by simpa using Lx.tok c t' p x n r c1 c2 hk h', ⟨c1, c2⟩⟩
    rw [span0 t' c1]
    apply At_lex_tokens_skip_1_step
    refine ⟨_, r_HasPrefix _ _, fun h => ?_, fun _ => ⟨rfl, rfl, rfl⟩⟩
    rw [take0, e] at h
    exfalso
    apply c2
    rw [cls5]
    symm
    simpa [Lib.hasPrefix] using h
theorem r_skip {l : List UInt8} {p : Int} {r : Option (List Token)} (h : Lx l p r) (t : LTokens) (g : Nat) (z : Bool) (e : t.text.left = l) (ep : t.text.pos = p) (hT : TI t.text) :
    ∃ n, n ≤ l.length ∧ R_lex_tokens_skip t g z (LTokens.mk (takeT t.text n) t.out) g z ∧ Lx (l.drop n) (p + n) r ∧ stands (l.drop n) := by
  obtain ⟨n, hn, hA, hL, hs⟩ := r_skip_loop h t g z e ep hT
  refine ⟨n, hn, lex_tokens_skip_tree _ _ _ _ _ _ ⟨_, _, r_word hT [1] (by decide), ?_⟩, hL, hs⟩
  rw [e]
  exact hA
def lexL : Option (List Token) → List Token
  | none => []
  | some l => l
def lexE : Option (List Token) → Int
  | none => 5
  | some _ => 0
def lexP (out : List Token) : Option (List Token) → List Token
  | none => []
  | some l => out ++ l
theorem r_Lex_loop : ∀ (m : Nat) (l : List UInt8) (p : Int) (r : Option (List Token)), Lx l p r → stands l → l.length ≤ m → ∀ (out : List Token) (g : Nat) (z : Bool), TI ⟨l, p⟩ → (out.length : Int) ≤ p → At_lex_Lex_1 l p out g z (lexP out r) (lexE r) := by
  intro m
  induction m with
  | zero =>
    intro l p r h hs hm out g z hT ho
    have : l = [] := List.length_eq_zero_iff.1 (by omega)
    subst this
    cases h
    have h3 := hT.2.2
    simp only [List.length_nil] at h3
    apply At_lex_Lex_1_step
    exact ⟨fun _ => ⟨⟨by omega, by omega, by decide⟩, rfl, rfl⟩, fun h => absurd rfl h⟩
  | succ m ih =>
    intro l p r h hs hm out g z hT ho
    have h3 := hT.2.2
    cases h with
    | nil =>
      simp only [List.length_nil] at h3
      apply At_lex_Lex_1_step
      exact ⟨fun _ => ⟨⟨by omega, by omega, by decide⟩, rfl, rfl⟩, fun h => absurd rfl h⟩
    | gap c t _ _ hc h => exact absurd hc hs.1
    | remark t _ _ h => exact absurd ((cls5 35).2 rfl) hs.2
    | bad c t _ c1 c2 hk =>
      have hl0 := hT.1
      simp only at hl0 h3
      obtain ⟨t', hn⟩ := r_next (LTokens.mk ⟨c :: t, p⟩ out) g z hT (by simp only; omega) rfl hk
      apply At_lex_Lex_1_step
      exact ⟨fun h => by simp at h, fun _ => ⟨_, _, _, _, hn, fun h => (by cases h), fun _ => ⟨rfl, rfl⟩⟩⟩
    | tok c t _ x n r' c1 c2 hk h' =>
      have hl0 := hT.1
      simp only at hl0 h3
      have hn := r_next (LTokens.mk ⟨c :: t, p⟩ out) g z hT (by simp only; omega) rfl hk
      obtain ⟨n0, n1⟩ := Tok_len hk _ rfl
      simp only at n0 n1
      simp only [NextP] at hn
      have hT2 : TI (takeT ⟨c :: t, p⟩ n) := hT.take n1
      obtain ⟨k, hk1, hS, hL, hst⟩ := r_skip h' (LTokens.mk (takeT ⟨c :: t, p⟩ n) (out ++ [atT x p])) g z rfl rfl hT2
      have hT3 : TI (takeT (takeT ⟨c :: t, p⟩ n) k) := hT2.take hk1
      have hlen : ((c :: t).drop n).length = (c :: t).length - n := List.length_drop
      have hlen2 : (((c :: t).drop n).drop k).length = (c :: t).length - n - k := by rw [List.length_drop, hlen]
      have key := ih _ _ _ hL hst (by omega) (out ++ [atT x p]) g z hT3 (by simp; omega)
      apply At_lex_Lex_1_step
      refine ⟨fun h => by simp at h, fun _ => ⟨_, _, _, _, hn, fun _ => ⟨_, _, _, hS, ?_⟩, fun h => absurd rfl h⟩⟩
      cases r' with
      | none => exact key
      | some l' =>
        have e : lexP (out ++ [atT x p]) (some l') = lexP out ((some l').map (atT x p :: ·)) := by simp [lexP]
        rw [e] at key
        exact key
/-- lex.Lex. -/
theorem r_Lex {s : List UInt8} (hs : s.length ≤ 6000) {r : Option (List Token)} (h : Lx s 0 r) : R_lex_Lex s (lexL r) (lexE r) := by
  have hT : TI ⟨s, 0⟩ := ⟨hs, Int.le_refl _, by simp only; omega⟩
  obtain ⟨k, hk1, hS, hL, hst⟩ := r_skip h (LTokens.mk ⟨s, 0⟩ []) 0 false rfl rfl hT
  have hT2 : TI (takeT ⟨s, 0⟩ k) := hT.take hk1
  have key := r_Lex_loop _ _ _ _ hL hst (Nat.le_refl _) [] 0 false hT2 (by simp)
  have e : lexP [] r = lexL r := by cases r <;> rfl
  rw [e] at key
  apply lex_Lex_tree
  exact ⟨fun h => by omega, fun _ => ⟨_, _, _, hS, key⟩⟩
theorem r_Lex_large {s : List UInt8} (hs : 6000 < s.length) : R_lex_Lex s [] 4 := by
  apply lex_Lex_tree
  exact ⟨fun _ => ⟨rfl, rfl⟩, fun h => by omega⟩
/-! ### The other side -/
def refT (out : List Token) : Option (List Token) → Tokens
  | none => Tokens.mk [] 5
  | some l => Tokens.mk (out ++ l) 0
theorem r_refRemark (s : List UInt8) (hs : s.length ≤ 6000) (out : List Token) (r : Tokens) : ∀ (m k : Nat), k + m = s.length → At_ref1_Lex_1 s ((k + ((s.drop k).takeWhile (· != 10)).length : Nat) : Int) 0 [] 0 out r → At_ref1_Lex_2 s 0 [] 0 out k r := by
  intro m
  induction m with
  | zero =>
    intro k hk h
    rw [List.drop_eq_nil_of_le (by omega)] at h
    apply At_ref1_Lex_2_step
    exact ⟨fun h => by omega, fun _ => h⟩
  | succ m ih =>
    intro k hk h
    have hlt : k < s.length := by omega
    have hg : s[((k : Nat) : Int).toNat]? = some s[k] := by rw [Int.toNat_natCast]; exact List.getElem?_eq_getElem hlt
    have hd : s.drop k = s[k] :: s.drop (k + 1) := List.drop_eq_getElem_cons hlt
    rw [hd, List.takeWhile_cons] at h
    apply At_ref1_Lex_2_step
    refine ⟨fun _ => ⟨by omega, s[k], hg, fun h10 => ?_, fun h10 => ⟨⟨by omega, by omega⟩, ?_⟩⟩, fun h => by omega⟩
    · have : s[k] = 10 := UInt8.toNat_inj.1 (Int.ofNat.inj h10)
      rw [if_neg (by rw [this]; decide)] at h
      exact h
    · have : ¬ s[k] = 10 := fun e => h10 (by rw [e]; rfl)
      rw [if_pos (by simpa using this)] at h
      refine ih (k + 1) (by omega) ?_
      rw [List.length_cons, show k + (((s.drop (k + 1)).takeWhile (· != 10)).length + 1) = k + 1 + ((s.drop (k + 1)).takeWhile (· != 10)).length by omega] at h
      exact h
theorem r_refLex_loop {l : List UInt8} {p : Int} {r : Option (List Token)} (h : Lx l p r) : ∀ (s : List UInt8) (i : Nat) (out : List Token), s.drop i = l → p = i → i ≤ s.length → s.length ≤ 6000 → out.length ≤ i → At_ref1_Lex_1 s i 0 [] 0 out (refT out r) := by
  induction h with
  | nil p =>
    intro s i out e ep hi hs ho
    have hlen : (s.drop i).length = 0 := by rw [e]; rfl
    rw [List.length_drop] at hlen
    apply At_ref1_Lex_1_step
    refine ⟨fun h => by omega, fun _ => ⟨⟨by omega, by omega, by decide⟩, ?_⟩⟩
    rw [ep, show s.length = i by omega]
    rfl
  | gap c t p r hc _ ih =>
    intro s i out e ep hi hs ho
    have hlen : (s.drop i).length = t.length + 1 := by rw [e]; rfl
    rw [List.length_drop] at hlen
    have hg : s[((i : Nat) : Int).toNat]? = some c := by rw [Int.toNat_natCast, ← List.head?_drop, e]; rfl
    have hd : s.drop (i + 1) = t := by rw [← List.drop_drop, e]; rfl
    have key := ih s (i + 1) out hd (by omega) (by omega) hs (by omega)
    apply At_ref1_Lex_1_step
    refine ⟨fun _ => ⟨by omega, c, hg, fun _ => ⟨⟨by omega, by omega⟩, key⟩, fun h32 => ⟨fun _ => ⟨⟨by omega, by omega⟩, key⟩, fun h10 => ?_⟩⟩, fun h => by omega⟩
    rcases (cls1 c).1 hc with h | h <;> omega
  | remark t p r _ ih =>
    intro s i out e ep hi hs ho
    have hlen : (s.drop i).length = t.length + 1 := by rw [e]; rfl
    rw [List.length_drop] at hlen
    have hg : s[((i : Nat) : Int).toNat]? = some 35 := by rw [Int.toNat_natCast, ← List.head?_drop, e]; rfl
    have hll := line_len t
    have hd : s.drop (i + ((t.takeWhile (· != 10)).length + 1)) = t.dropWhile (· != 10) := by rw [← List.drop_drop, e]; exact drop_line t
    have key := ih s (i + ((t.takeWhile (· != 10)).length + 1)) out hd (by omega) (by omega) hs (by omega)
    apply At_ref1_Lex_1_step
    refine ⟨fun _ => ⟨by omega, 35, hg, fun h => absurd h (by decide), fun _ => ⟨fun h => absurd h (by decide), fun _ => ⟨fun _ => ?_, fun h => absurd rfl h⟩⟩⟩, fun h => by omega⟩
    refine r_refRemark s hs out _ (s.length - i) i (by omega) ?_
    rw [e, List.takeWhile_cons, if_pos (by decide), List.length_cons]
    exact key
  | bad c t p c1 c2 hk =>
    intro s i out e ep hi hs ho
    have hlen : (s.drop i).length = t.length + 1 := by rw [e]; rfl
    rw [List.length_drop] at hlen
    have hg : s[((i : Nat) : Int).toNat]? = some c := by rw [Int.toNat_natCast, ← List.head?_drop, e]; rfl
    obtain ⟨x, hx⟩ := r_refToken s (by omega) i e hk
    have hc1 := fun h => c1 ((cls1 c).2 h)
    apply At_ref1_Lex_1_step
    exact ⟨fun _ => ⟨by omega, c, hg, fun h => absurd (.inl (by omega)) hc1, fun _ => ⟨fun h => absurd (.inr (by omega)) hc1, fun _ => ⟨fun h => absurd ((cls5 c).2 (UInt8.toNat_inj.1 (Int.ofNat.inj h))) c2, fun _ => ⟨_, _, hx, fun _ => rfl, fun h => absurd rfl h⟩⟩⟩⟩, fun h => by omega⟩
  | tok c t p x n r c1 c2 hk _ ih =>
    intro s i out e ep hi hs ho
    have hlen : (s.drop i).length = t.length + 1 := by rw [e]; rfl
    rw [List.length_drop] at hlen
    have hg : s[((i : Nat) : Int).toNat]? = some c := by rw [Int.toNat_natCast, ← List.head?_drop, e]; rfl
    have hx := r_refToken s (by omega) i e hk
    simp only [TokP] at hx
    obtain ⟨n0, n1⟩ := Tok_len hk _ rfl
    simp only [List.length_cons] at n0 n1
    have hc1 := fun h => c1 ((cls1 c).2 h)
    have key := ih s (i + n) (out ++ [atT x i]) (by rw [← List.drop_drop, e]) (by omega) (by omega) hs (by simp; omega)
    have e2 : refT (out ++ [atT x i]) r = refT out (r.map (atT x p :: ·)) := by
      rw [ep]
      cases r <;> simp [refT]
    rw [e2] at key
    apply At_ref1_Lex_1_step
    exact ⟨fun _ => ⟨by omega, c, hg, fun h => absurd (.inl (by omega)) hc1, fun _ => ⟨fun h => absurd (.inr (by omega)) hc1, fun _ => ⟨fun h => absurd ((cls5 c).2 (UInt8.toNat_inj.1 (Int.ofNat.inj h))) c2, fun _ => ⟨_, _, hx, fun h => by omega, fun _ => ⟨⟨by omega, by omega, by decide⟩, ⟨by omega, by omega⟩, key⟩⟩⟩⟩⟩, fun h => by omega⟩
theorem r_refLex {s : List UInt8} (hs : s.length ≤ 6000) {r : Option (List Token)} (h : Lx s 0 r) : R_ref1_Lex s (Tokens.mk (lexL r) (lexE r)) := by
  have key := r_refLex_loop h s 0 [] rfl rfl (Nat.zero_le _) hs (Nat.le_refl _)
  have e : refT [] r = Tokens.mk (lexL r) (lexE r) := by cases r <;> rfl
  rw [e] at key
  apply ref1_Lex_tree
  exact ⟨fun h => by omega, fun _ => key⟩
theorem r_refLex_large {s : List UInt8} (hs : 6000 < s.length) : R_ref1_Lex s (Tokens.mk [] 4) := by
  apply ref1_Lex_tree
  exact ⟨fun _ => rfl, fun h => by omega⟩
/-! ### As functions -/
def quoF : Nat → List UInt8 → List Part → List UInt8 → Option (List Part × Nat)
  | 0, _, _, _ => none
  | _ + 1, [], _, _ => none
  | n + 1, c :: t, l, b =>
    if c = 34 then some (joinP l b, 1)
    else if c.toNat < 32 then none
    else if c = 92 then
      match t with
      | [] => none
      | x :: t => match escS x with | none => none | some y => (quoF n t l (b ++ [y])).map fun q => (q.1, q.2 + 2)
    else if c = 36 ∧ t.head? = some 123 then
      if (refS t.tail).2 = true then (quoF n (t.tail.drop ((refS t.tail).1.length + 1)) (joinP l b ++ [Part.mk true (refS t.tail).1]) []).map fun q => (q.1, q.2 + (3 + (refS t.tail).1.length)) else none
    else (quoF n t l (b ++ [c])).map fun q => (q.1, q.2 + 1)
theorem quoF_ok : ∀ (n : Nat) (t : List UInt8) (l : List Part) (b : List UInt8), t.length < n → Qx t l b (quoF n t l b)
  | 0, t, l, b, h => by omega
  | n + 1, [], l, b, h => .nil l b
  | n + 1, c :: t, l, b, h => by
    simp only [List.length_cons] at h
    unfold quoF
    split
    · rename_i c1; subst c1; exact .shut t l b
    · rename_i c1
      split
      · rename_i c2; exact .low c t l b c1 c2
      · rename_i c2
        split
        · rename_i c3
          subst c3
          cases t with
          | nil => exact .esc0 l b
          | cons x t =>
            dsimp only
            cases hx : escS x with
            | none => exact .escbad x t l b hx
            | some y => exact .esc x y t l b _ hx (quoF_ok n t l (b ++ [y]) (by simp only [List.length_cons] at h; omega))
        · rename_i c3
          split
          · rename_i c4
            obtain ⟨rfl, h5⟩ := c4
            cases t with
            | nil => cases h5
            | cons x t =>
              obtain rfl : x = 123 := Option.some.inj h5
              simp only [List.length_cons] at h
              split
              · rename_i hx; exact .ref t l b _ hx (quoF_ok n _ _ _ (by simp; omega))
              · rename_i hx; exact .refbad t l b (by simpa using hx)
          · rename_i c4
            exact .plain c t l b _ c1 c2 c3 (fun e e2 => c4 ⟨e, e2⟩) (quoF_ok n t l (b ++ [c]) (by omega))
def tokF : List UInt8 → Option (Token × Nat)
  | [] => none
  | c :: u =>
    if clsS c = 2 then (if ((c :: u).takeWhile (inC [2, 3])).length ≤ 24 then some (Token.mk 3 ((c :: u).takeWhile (inC [2, 3])) 0 [] 0, spanS [2, 3] (c :: u)) else none)
    else if clsS c = 3 then numS (c :: u)
    else if clsS c = 4 then (quoF (u.length + 1) u [] []).map fun q => (Token.mk 2 [] 0 q.1 0, q.2 + 1)
    else if signS (c :: u) = [] then none else some (Token.mk 4 (signS (c :: u)) 0 [] 0, (signS (c :: u)).length)
theorem tokF_ok (c : UInt8) (u : List UInt8) : Tok (c :: u) (tokF (c :: u)) := by
  simp only [tokF]
  split
  · rename_i h; exact .name c u h
  · rename_i h2
    split
    · rename_i h; exact .num c u h
    · rename_i h3
      split
      · rename_i h4
        obtain rfl := (cls4 c).1 h4
        exact .text u _ (quoF_ok _ u [] [] (by omega))
      · rename_i h4; exact .sign c u h2 h3 h4
def lexF : Nat → List UInt8 → Int → Option (List Token)
  | 0, _, _ => none
  | _ + 1, [], p => some [Token.mk 0 [] 0 [] p]
  | n + 1, c :: t, p =>
    if clsS c = 1 then lexF n t (p + 1)
    else if clsS c = 5 then lexF n (t.dropWhile (· != 10)) (p + ((t.takeWhile (· != 10)).length + 1 : Nat))
    else match tokF (c :: t) with
      | none => none
      | some (x, k) => (lexF n ((c :: t).drop k) (p + k)).map (atT x p :: ·)
theorem lexF_ok : ∀ (n : Nat) (t : List UInt8) (p : Int), t.length < n → Lx t p (lexF n t p)
  | 0, t, p, h => by omega
  | n + 1, [], p, h => .nil p
  | n + 1, c :: t, p, h => by
    simp only [List.length_cons] at h
    have ht := tokF_ok c t
    unfold lexF
    split
    · rename_i c1; exact .gap c t p _ c1 (lexF_ok n t _ (by omega))
    · rename_i c1
      split
      · rename_i c2
        obtain rfl := (cls5 c).1 c2
        have := line_len t
        have hdl : (t.dropWhile (· != 10)).length = t.length - (t.takeWhile (· != 10)).length := by rw [← drop_while_len, List.length_drop]
        exact .remark t p _ (lexF_ok n _ _ (by omega))
      · rename_i c2
        split
        · rename_i hk
          rw [hk] at ht
          exact .bad c t p c1 c2 ht
        · rename_i x k hk
          rw [hk] at ht
          have := Tok_len ht _ rfl
          exact .tok c t p x k _ c1 c2 ht (lexF_ok n _ _ (by simp only [List.length_drop, List.length_cons] at this ⊢; omega))
def lexS (s : List UInt8) : Option (List Token) := lexF (s.length + 1) s 0
theorem lexS_ok (s : List UInt8) : Lx s 0 (lexS s) := lexF_ok _ s 0 (Nat.lt_succ_self _)
end Go.Proofs.YtljgfdhlfjbafaaDoor.M

/- The machine's code of the functions, printed by a program of this session (sc2.py) out of the translation. Not trusted: Lean checks each by its own computation. -/
namespace Go.Proofs.YtljgfdhlfjbafaaDoor.M
open Go
set_option linter.unusedVariables false
/-- doorkeeper/doorkeeperlaw1.Num -/
def sc_law1_Num : SFunc := ⟨1, 4, .seq (.reg [⟨(some 2), none, (.v (.mov (.c (.int .i64 0))))⟩]) (.seq (.reg [⟨(some 3), none, (.v (.mov (.t 0)))⟩, ⟨(some 2), none, (.v (.mov (.t 3)))⟩]) .ret), [(.t 2)]⟩
theorem U_law1_Num : type_of% (sc_law1_Num.eq_1) := sc_law1_Num.eq_1
theorem comp_law1_Num : comp Tryd.prog Tryd.f13 = some sc_law1_Num := by kernel_rfl
/-- doorkeeper/doorkeeperlaw1.awake -/
def c_law1_awake_1 : SC := .seq (.reg [⟨(some 7), none, (.v (.mov (.t 2)))⟩, ⟨(some 8), none, (.call (.c (.func 13 [])) [(.t 7)])⟩, ⟨(some 9), none, (.v (.bin .eql (.t 8) (.c (.int .i64 0))))⟩, ⟨(some 10), none, (.v (.mov (.t 9)))⟩, ⟨(some 11), (some (10, true)), (.v (.mov (.t 1)))⟩, ⟨(some 12), (some (10, true)), (.v (.len false (.t 11)))⟩, ⟨(some 13), (some (10, true)), (.v (.bin .eql (.t 12) (.c (.int .i64 4))))⟩, ⟨(some 14), none, (.v (.pick (.t 10) (.t 13) (.c (.bool false))))⟩, ⟨(some 15), none, (.v (.mov (.t 14)))⟩, ⟨(some 16), (some (15, true)), (.v (.mov (.t 1)))⟩, ⟨(some 17), (some (15, true)), (.v (.iaddr 5 (.t 16) (.c (.int .i64 0))))⟩, ⟨(some 18), (some (15, true)), (.v (.faddr 0 (.t 17)))⟩, ⟨(some 19), (some (15, true)), (.v (.load none (.t 18)))⟩, ⟨(some 20), (some (15, true)), (.v (.bin .eql (.t 19) (.c (.int .i64 3))))⟩, ⟨(some 21), none, (.v (.pick (.t 15) (.t 20) (.c (.bool false))))⟩, ⟨(some 22), none, (.v (.mov (.t 21)))⟩, ⟨(some 23), (some (22, true)), (.v (.mov (.t 1)))⟩, ⟨(some 24), (some (22, true)), (.v (.iaddr 5 (.t 23) (.c (.int .i64 2))))⟩, ⟨(some 25), (some (22, true)), (.v (.faddr 2 (.t 24)))⟩, ⟨(some 26), (some (22, true)), (.v (.load none (.t 25)))⟩, ⟨(some 27), (some (22, true)), (.v (.bin .eql (.t 26) (.c (.int .i64 1))))⟩, ⟨(some 28), none, (.v (.pick (.t 22) (.t 27) (.c (.bool false))))⟩, ⟨(some 0), none, (.v (.mov (.t 28)))⟩]) .ret
def c_law1_awake_2 : SC := .seq (.reg [⟨(some 4), none, (.call (.c (.func 10 [])) [(.c (.str [97, 32, 61, 32, 49]))])⟩, ⟨(some 3), none, (.v (.mov (.t 4)))⟩, ⟨(some 5), none, (.v (.extract 0 (.t 3)))⟩, ⟨(some 6), none, (.v (.extract 1 (.t 3)))⟩, ⟨(some 1), none, (.v (.mov (.t 5)))⟩, ⟨(some 2), none, (.v (.mov (.t 6)))⟩]) c_law1_awake_1
def sc_law1_awake : SFunc := ⟨0, 29, .seq (.reg [⟨(some 0), none, (.v (.mov (.c (.bool false))))⟩]) c_law1_awake_2, [(.t 0)]⟩
theorem U_law1_awake : type_of% (And.intro (fun (SP : Prg) (ac : Ac) => congrFun (congrArg (E SP) c_law1_awake_1.eq_1) ac) <| And.intro (fun (SP : Prg) (ac : Ac) => congrFun (congrArg (E SP) c_law1_awake_2.eq_1) ac) <| sc_law1_awake.eq_1) := And.intro (fun (SP : Prg) (ac : Ac) => congrFun (congrArg (E SP) c_law1_awake_1.eq_1) ac) <| And.intro (fun (SP : Prg) (ac : Ac) => congrFun (congrArg (E SP) c_law1_awake_2.eq_1) ac) <| sc_law1_awake.eq_1
theorem comp_law1_awake : comp Tryd.prog Tryd.f9 = some sc_law1_awake := by kernel_rfl
/-- doorkeeper/doorkeeperlaw1.LexTexts -/
def c_law1_LexTexts_1 : SC := .seq (.reg [⟨(some 16), none, (.v (.mov (.t 0)))⟩, ⟨(some 17), none, (.call (.c (.func 10 [])) [(.t 16)])⟩, ⟨(some 15), none, (.v (.mov (.t 17)))⟩, ⟨(some 18), none, (.v (.extract 0 (.t 15)))⟩, ⟨(some 19), none, (.v (.extract 1 (.t 15)))⟩, ⟨(some 3), none, (.v (.mov (.t 18)))⟩, ⟨(some 4), none, (.v (.mov (.t 19)))⟩]) (.seq (.reg [⟨(some 20), none, (.v (.mov (.t 0)))⟩, ⟨(some 21), none, (.call (.c (.func 11 [])) [(.t 20)])⟩, ⟨(some 5), none, (.alloc [(.nils 5), (.int .i64 0)])⟩, ⟨none, none, (.store 2 (.t 5) (.t 21))⟩]) (.seq (.dreg [⟨(some 22), none, (.v (.mov (.t 3)))⟩, ⟨(some 23), none, (.v (.faddr 0 (.t 5)))⟩, ⟨(some 24), none, (.v (.load none (.t 23)))⟩, ⟨(some 25), none, (.call (.c (.func 12 [])) [(.t 22), (.t 24)])⟩, ⟨(some 26), none, (.v (.mov (.t 25)))⟩, ⟨(some 27), (some (26, true)), (.v (.mov (.t 4)))⟩, ⟨(some 28), (some (26, true)), (.call (.c (.func 13 [])) [(.t 27)])⟩, ⟨(some 29), (some (26, true)), (.v (.faddr 1 (.t 5)))⟩, ⟨(some 30), (some (26, true)), (.v (.load none (.t 29)))⟩, ⟨(some 31), (some (26, true)), (.v (.bin .eql (.t 28) (.t 30)))⟩, ⟨(some 32), none, (.v (.pick (.t 26) (.t 31) (.c (.bool false))))⟩, ⟨(some 33), none, (.v (.mov (.t 32)))⟩, ⟨(some 34), (some (33, true)), (.call (.c (.func 9 [])) [])⟩, ⟨(some 35), none, (.v (.pick (.t 33) (.t 34) (.c (.bool false))))⟩, ⟨(some 2), none, (.v (.mov (.t 35)))⟩] [false, true, true, true, true, false, false, false, false, true, true, true, true, true, true]) .ret))
def c_law1_LexTexts_2 : SC := .seq (.seq (.reg [⟨(some 6), none, (.v (.mov (.t 0)))⟩, ⟨(some 7), none, (.v (.len true (.t 6)))⟩, ⟨(some 8), none, (.v (.bin .gtr (.t 7) (.c (.int .i64 2000))))⟩, ⟨(some 9), none, (.v (.mov (.t 8)))⟩, ⟨(some 10), (some (9, true)), (.v (.mov (.t 0)))⟩, ⟨(some 11), (some (9, true)), (.v (.len true (.t 10)))⟩, ⟨(some 12), (some (9, true)), (.v (.bin .leq (.t 11) (.c (.int .i64 6000))))⟩, ⟨(some 13), none, (.v (.pick (.t 9) (.t 12) (.c (.bool false))))⟩]) (.cond (.t 13) (.seq (.reg [⟨(some 14), none, (.call (.c (.func 9 [])) [])⟩, ⟨(some 2), none, (.v (.mov (.t 14)))⟩]) .ret) .skip)) c_law1_LexTexts_1
def sc_law1_LexTexts : SFunc := ⟨1, 36, .seq (.reg [⟨(some 2), none, (.v (.mov (.c (.bool false))))⟩]) c_law1_LexTexts_2, [(.t 2)]⟩
theorem U_law1_LexTexts : type_of% (And.intro (fun (SP : Prg) (ac : Ac) => congrFun (congrArg (E SP) c_law1_LexTexts_1.eq_1) ac) <| And.intro (fun (SP : Prg) (ac : Ac) => congrFun (congrArg (E SP) c_law1_LexTexts_2.eq_1) ac) <| sc_law1_LexTexts.eq_1) := And.intro (fun (SP : Prg) (ac : Ac) => congrFun (congrArg (E SP) c_law1_LexTexts_1.eq_1) ac) <| And.intro (fun (SP : Prg) (ac : Ac) => congrFun (congrArg (E SP) c_law1_LexTexts_2.eq_1) ac) <| sc_law1_LexTexts.eq_1
theorem comp_law1_LexTexts : comp Tryd.prog Tryd.f3 = some sc_law1_LexTexts := by kernel_rfl
/-- doorkeeper/doorkeeperlaw1.LexLabels -/
def sc_law1_LexLabels : SFunc := ⟨1, 16, .seq (.reg [⟨(some 2), none, (.v (.mov (.c (.bool false))))⟩]) (.seq (.reg [⟨(some 3), none, (.v (.mov (.t 0)))⟩, ⟨(some 4), none, (.v (.len true (.t 3)))⟩, ⟨(some 5), none, (.v (.bin .gtr (.t 4) (.c (.int .i64 300))))⟩, ⟨(some 6), none, (.v (.mov (.t 5)))⟩, ⟨(some 7), (some (6, false)), (.v (.mov (.t 0)))⟩, ⟨(some 8), (some (6, false)), (.call (.c (.func 16 [])) [(.t 7)])⟩, ⟨(some 9), (some (6, false)), (.v (.mov (.t 0)))⟩, ⟨(some 10), (some (6, false)), (.call (.c (.func 17 [])) [(.t 9)])⟩, ⟨(some 11), (some (6, false)), (.v (.binb false (.t 8) (.t 10)))⟩, ⟨(some 12), (some (6, false)), (.v (.mov (.t 11)))⟩, ⟨(some 13), (some (12, true)), (.call (.c (.func 9 [])) [])⟩, ⟨(some 14), (some (6, false)), (.v (.pick (.t 12) (.t 13) (.c (.bool false))))⟩, ⟨(some 15), none, (.v (.pick (.t 6) (.c (.bool true)) (.t 14)))⟩, ⟨(some 2), none, (.v (.mov (.t 15)))⟩]) .ret), [(.t 2)]⟩
theorem U_law1_LexLabels : type_of% (sc_law1_LexLabels.eq_1) := sc_law1_LexLabels.eq_1
theorem comp_law1_LexLabels : comp Tryd.prog Tryd.f8 = some sc_law1_LexLabels := by kernel_rfl
/-- doorkeeper/doorkeeperlaw1.LexGaps -/
def c_law1_LexGaps_1 : SC := .seq (.reg [⟨(some 133), none, (.call (.c (.func 9 [])) [])⟩, ⟨(some 4), none, (.v (.mov (.t 133)))⟩]) .ret
def c_law1_LexGaps_2 : SC := .reg [⟨(some 112), none, (.v (.mov (.t 12)))⟩, ⟨(some 113), none, (.v (.bin .add (.t 112) (.c (.int .i64 1))))⟩, ⟨(some 12), none, (.v (.mov (.t 113)))⟩]
def c_law1_LexGaps_3 : SC := .seq (.block 3 (.seq (.reg [⟨(some 114), none, (.v (.mov (.t 10)))⟩, ⟨(some 115), none, (.v (.mov (.t 12)))⟩, ⟨(some 116), none, (.v (.iaddr 5 (.t 114) (.t 115)))⟩, ⟨(some 117), none, (.v (.load (some 5) (.t 116)))⟩, ⟨(some 13), none, (.alloc [(.int .i64 0), (.str []), (.int .i64 0), (.nils 2), (.int .i64 0)])⟩, ⟨none, none, (.store 5 (.t 13) (.t 117))⟩]) (.seq (.reg [⟨(some 118), none, (.v (.mov (.t 5)))⟩, ⟨(some 119), none, (.v (.mov (.t 12)))⟩, ⟨(some 120), none, (.v (.iaddr 5 (.t 118) (.t 119)))⟩, ⟨(some 121), none, (.v (.faddr 4 (.t 120)))⟩, ⟨(some 122), none, (.v (.load none (.t 121)))⟩, ⟨(some 123), none, (.v (.faddr 4 (.t 13)))⟩, ⟨none, none, (.store 1 (.t 123) (.t 122))⟩]) (.seq (.dreg [⟨(some 124), none, (.v (.load (some 5) (.t 13)))⟩, ⟨(some 125), none, (.bslice 5 1 [(.int .i64 0), (.str []), (.int .i64 0), (.nils 2), (.int .i64 0)] [(0, (.t 124))])⟩, ⟨(some 126), none, (.v (.mov (.t 5)))⟩, ⟨(some 127), none, (.v (.mov (.t 12)))⟩, ⟨(some 128), none, (.v (.iaddr 5 (.t 126) (.t 127)))⟩, ⟨(some 129), none, (.v (.load (some 5) (.t 128)))⟩, ⟨(some 130), none, (.bslice 5 1 [(.int .i64 0), (.str []), (.int .i64 0), (.nils 2), (.int .i64 0)] [(0, (.t 129))])⟩, ⟨(some 131), none, (.call (.c (.func 12 [])) [(.t 125), (.t 130)])⟩, ⟨(some 132), none, (.v (.un .not (.t 131)))⟩] [false, false, false, false, false, false, false, true, true]) (.cond (.t 132) (.seq (.reg [⟨(some 4), none, (.v (.mov (.c (.bool false))))⟩]) .ret) .skip))))) c_law1_LexGaps_2
def b_law1_LexGaps_1 : SC := .seq (.seq (.reg [⟨(some 108), none, (.v (.mov (.t 12)))⟩, ⟨(some 109), none, (.v (.mov (.t 10)))⟩, ⟨(some 110), none, (.v (.len false (.t 109)))⟩, ⟨(some 111), none, (.v (.bin .lss (.t 108) (.t 110)))⟩]) (.cond (.t 111) .skip (.exit 2))) c_law1_LexGaps_3
def c_law1_LexGaps_4 : SC := .block 2 (.loop b_law1_LexGaps_1)
def c_law1_LexGaps_5 : SC := .seq (.seq (.reg [⟨(some 12), none, (.v (.mov (.c (.int .i64 0))))⟩]) c_law1_LexGaps_4) c_law1_LexGaps_1
def c_law1_LexGaps_6 : SC := .seq (.seq (.reg [⟨(some 98), none, (.v (.mov (.t 11)))⟩, ⟨(some 99), none, (.call (.c (.func 13 [])) [(.t 98)])⟩, ⟨(some 100), none, (.v (.bin .neq (.t 99) (.c (.int .i64 0))))⟩, ⟨(some 101), none, (.v (.mov (.t 100)))⟩, ⟨(some 102), (some (101, false)), (.v (.mov (.t 10)))⟩, ⟨(some 103), (some (101, false)), (.v (.len false (.t 102)))⟩, ⟨(some 104), (some (101, false)), (.v (.mov (.t 5)))⟩, ⟨(some 105), (some (101, false)), (.v (.len false (.t 104)))⟩, ⟨(some 106), (some (101, false)), (.v (.bin .neq (.t 103) (.t 105)))⟩, ⟨(some 107), none, (.v (.pick (.t 101) (.c (.bool true)) (.t 106)))⟩]) (.cond (.t 107) (.seq (.reg [⟨(some 4), none, (.v (.mov (.c (.bool false))))⟩]) .ret) .skip)) c_law1_LexGaps_5
def c_law1_LexGaps_7 : SC := .seq (.reg [⟨(some 90), none, (.v (.mov (.t 7)))⟩, ⟨(some 91), none, (.v (.mov (.t 0)))⟩, ⟨(some 92), none, (.v (.mov (.t 8)))⟩, ⟨(some 93), none, (.v (.sls (.t 91) (some (.t 92)) none))⟩, ⟨(some 94), none, (.v (.bin .add (.t 90) (.t 93)))⟩, ⟨(some 95), none, (.call (.c (.func 10 [])) [(.t 94)])⟩, ⟨(some 89), none, (.v (.mov (.t 95)))⟩, ⟨(some 96), none, (.v (.extract 0 (.t 89)))⟩, ⟨(some 97), none, (.v (.extract 1 (.t 89)))⟩, ⟨(some 10), none, (.v (.mov (.t 96)))⟩, ⟨(some 11), none, (.v (.mov (.t 97)))⟩]) c_law1_LexGaps_6
def c_law1_LexGaps_8 : SC := .reg [⟨(some 41), none, (.v (.mov (.t 9)))⟩, ⟨(some 42), none, (.v (.bin .add (.t 41) (.c (.int .i64 1))))⟩, ⟨(some 9), none, (.v (.mov (.t 42)))⟩]
def c_law1_LexGaps_9 : SC := .seq (.seq (.reg [⟨(some 70), none, (.v (.mov (.t 9)))⟩, ⟨(some 71), none, (.v (.mov (.t 1)))⟩, ⟨(some 72), none, (.v (.len false (.t 71)))⟩, ⟨(some 73), none, (.v (.bin .lss (.t 70) (.t 72)))⟩]) (.cond (.t 73) (.reg [⟨(some 74), none, (.v (.mov (.t 7)))⟩, ⟨(some 75), none, (.bslice 1 5 [(.str [])] [(0, (.c (.str []))), (1, (.c (.str [32]))), (2, (.c (.str [10]))), (3, (.c (.str [32, 35, 32, 120, 32, 34, 32, 36, 123, 32, 10]))), (4, (.c (.str [35, 10])))])⟩, ⟨(some 76), none, (.v (.mov (.t 1)))⟩, ⟨(some 77), none, (.v (.mov (.t 9)))⟩, ⟨(some 78), none, (.v (.iaddr 1 (.t 76) (.t 77)))⟩, ⟨(some 79), none, (.v (.load none (.t 78)))⟩, ⟨(some 80), none, (.v (.bin .rem (.t 79) (.c (.int .u8 5))))⟩, ⟨(some 81), none, (.v (.iaddr 1 (.t 75) (.t 80)))⟩, ⟨(some 82), none, (.v (.load none (.t 81)))⟩, ⟨(some 83), none, (.v (.bin .add (.t 74) (.t 82)))⟩, ⟨(some 7), none, (.v (.mov (.t 83)))⟩]) .skip)) (.reg [⟨(some 84), none, (.v (.mov (.t 5)))⟩, ⟨(some 85), none, (.v (.mov (.t 9)))⟩, ⟨(some 86), none, (.v (.iaddr 5 (.t 84) (.t 85)))⟩, ⟨(some 87), none, (.v (.faddr 4 (.t 86)))⟩, ⟨(some 88), none, (.v (.load none (.t 87)))⟩, ⟨(some 8), none, (.v (.mov (.t 88)))⟩])
def c_law1_LexGaps_10 : SC := .seq (.reg [⟨(some 60), none, (.v (.mov (.t 7)))⟩, ⟨(some 61), none, (.v (.mov (.t 0)))⟩, ⟨(some 62), none, (.v (.mov (.t 8)))⟩, ⟨(some 63), none, (.v (.mov (.t 5)))⟩, ⟨(some 64), none, (.v (.mov (.t 9)))⟩, ⟨(some 65), none, (.v (.iaddr 5 (.t 63) (.t 64)))⟩, ⟨(some 66), none, (.v (.faddr 4 (.t 65)))⟩, ⟨(some 67), none, (.v (.load none (.t 66)))⟩, ⟨(some 68), none, (.v (.sls (.t 61) (some (.t 62)) (some (.t 67))))⟩, ⟨(some 69), none, (.v (.bin .add (.t 60) (.t 68)))⟩, ⟨(some 7), none, (.v (.mov (.t 69)))⟩]) c_law1_LexGaps_9
def c_law1_LexGaps_11 : SC := .seq (.block 1 (.seq (.seq (.reg [⟨(some 43), none, (.v (.mov (.t 5)))⟩, ⟨(some 44), none, (.v (.mov (.t 9)))⟩, ⟨(some 45), none, (.v (.iaddr 5 (.t 43) (.t 44)))⟩, ⟨(some 46), none, (.v (.faddr 4 (.t 45)))⟩, ⟨(some 47), none, (.v (.load none (.t 46)))⟩, ⟨(some 48), none, (.v (.mov (.t 8)))⟩, ⟨(some 49), none, (.v (.bin .lss (.t 47) (.t 48)))⟩, ⟨(some 50), none, (.v (.mov (.t 49)))⟩, ⟨(some 51), (some (50, false)), (.v (.mov (.t 5)))⟩, ⟨(some 52), (some (50, false)), (.v (.mov (.t 9)))⟩, ⟨(some 53), (some (50, false)), (.v (.iaddr 5 (.t 51) (.t 52)))⟩, ⟨(some 54), (some (50, false)), (.v (.faddr 4 (.t 53)))⟩, ⟨(some 55), (some (50, false)), (.v (.load none (.t 54)))⟩, ⟨(some 56), (some (50, false)), (.v (.mov (.t 0)))⟩, ⟨(some 57), (some (50, false)), (.v (.len true (.t 56)))⟩, ⟨(some 58), (some (50, false)), (.v (.bin .gtr (.t 55) (.t 57)))⟩, ⟨(some 59), none, (.v (.pick (.t 50) (.c (.bool true)) (.t 58)))⟩]) (.cond (.t 59) (.seq (.reg [⟨(some 4), none, (.v (.mov (.c (.bool false))))⟩]) .ret) .skip)) c_law1_LexGaps_10)) c_law1_LexGaps_8
def b_law1_LexGaps_2 : SC := .seq (.seq (.reg [⟨(some 37), none, (.v (.mov (.t 9)))⟩, ⟨(some 38), none, (.v (.mov (.t 5)))⟩, ⟨(some 39), none, (.v (.len false (.t 38)))⟩, ⟨(some 40), none, (.v (.bin .lss (.t 37) (.t 39)))⟩]) (.cond (.t 40) .skip (.exit 0))) c_law1_LexGaps_11
def c_law1_LexGaps_12 : SC := .block 0 (.loop b_law1_LexGaps_2)
def c_law1_LexGaps_13 : SC := .seq (.seq (.reg [⟨(some 9), none, (.v (.mov (.c (.int .i64 0))))⟩]) c_law1_LexGaps_12) c_law1_LexGaps_7
def c_law1_LexGaps_14 : SC := .seq (.reg [⟨(some 7), none, (.v (.mov (.c (.str []))))⟩, ⟨(some 8), none, (.v (.mov (.c (.int .i64 0))))⟩]) c_law1_LexGaps_13
def c_law1_LexGaps_15 : SC := .seq (.seq (.reg [⟨(some 28), none, (.v (.mov (.t 6)))⟩, ⟨(some 29), none, (.call (.c (.func 13 [])) [(.t 28)])⟩, ⟨(some 30), none, (.v (.bin .neq (.t 29) (.c (.int .i64 0))))⟩]) (.cond (.t 30) (.seq (.reg [⟨(some 31), none, (.v (.mov (.t 5)))⟩, ⟨(some 32), none, (.v (.len false (.t 31)))⟩, ⟨(some 33), none, (.v (.bin .eql (.t 32) (.c (.int .i64 0))))⟩, ⟨(some 34), none, (.v (.mov (.t 33)))⟩, ⟨(some 35), (some (34, true)), (.call (.c (.func 9 [])) [])⟩, ⟨(some 36), none, (.v (.pick (.t 34) (.t 35) (.c (.bool false))))⟩, ⟨(some 4), none, (.v (.mov (.t 36)))⟩]) .ret) .skip)) c_law1_LexGaps_14
def c_law1_LexGaps_16 : SC := .seq (.reg [⟨(some 24), none, (.v (.mov (.t 0)))⟩, ⟨(some 25), none, (.call (.c (.func 10 [])) [(.t 24)])⟩, ⟨(some 23), none, (.v (.mov (.t 25)))⟩, ⟨(some 26), none, (.v (.extract 0 (.t 23)))⟩, ⟨(some 27), none, (.v (.extract 1 (.t 23)))⟩, ⟨(some 5), none, (.v (.mov (.t 26)))⟩, ⟨(some 6), none, (.v (.mov (.t 27)))⟩]) c_law1_LexGaps_15
def c_law1_LexGaps_17 : SC := .seq (.seq (.reg [⟨(some 14), none, (.v (.mov (.t 0)))⟩, ⟨(some 15), none, (.v (.len true (.t 14)))⟩, ⟨(some 16), none, (.v (.bin .gtr (.t 15) (.c (.int .i64 300))))⟩, ⟨(some 17), none, (.v (.mov (.t 16)))⟩, ⟨(some 18), (some (17, false)), (.v (.mov (.t 1)))⟩, ⟨(some 19), (some (17, false)), (.v (.len false (.t 18)))⟩, ⟨(some 20), (some (17, false)), (.v (.bin .gtr (.t 19) (.c (.int .i64 80))))⟩, ⟨(some 21), none, (.v (.pick (.t 17) (.c (.bool true)) (.t 20)))⟩]) (.cond (.t 21) (.seq (.reg [⟨(some 22), none, (.call (.c (.func 9 [])) [])⟩, ⟨(some 4), none, (.v (.mov (.t 22)))⟩]) .ret) .skip)) c_law1_LexGaps_16
def sc_law1_LexGaps : SFunc := ⟨2, 134, .seq (.reg [⟨(some 4), none, (.v (.mov (.c (.bool false))))⟩]) c_law1_LexGaps_17, [(.t 4)]⟩
noncomputable def k_law1_LexGaps_1 (SP : Prg) (x : EO) : CO := fin [(.t 4)] (thC SP (inBlk 2 (x)) c_law1_LexGaps_1)
noncomputable def k_law1_LexGaps_2 (SP : Prg) (x : EO) : CO := fin [(.t 4)] (thC SP (inBlk 0 (x)) c_law1_LexGaps_7)
theorem U_law1_LexGaps : type_of% (And.intro (fun (SP : Prg) (ac : Ac) => congrFun (congrArg (E SP) c_law1_LexGaps_1.eq_1) ac) <| And.intro (fun (SP : Prg) (ac : Ac) => congrFun (congrArg (E SP) c_law1_LexGaps_2.eq_1) ac) <| And.intro (fun (SP : Prg) (ac : Ac) => congrFun (congrArg (E SP) c_law1_LexGaps_3.eq_1) ac) <| And.intro (fun (SP : Prg) (ac : Ac) => congrFun (congrArg (E SP) b_law1_LexGaps_1.eq_1) ac) <| And.intro (fun (SP : Prg) (ac : Ac) => congrFun (congrArg (E SP) c_law1_LexGaps_4.eq_1) ac) <| And.intro (fun (SP : Prg) (ac : Ac) => congrFun (congrArg (E SP) c_law1_LexGaps_5.eq_1) ac) <| And.intro (fun (SP : Prg) (ac : Ac) => congrFun (congrArg (E SP) c_law1_LexGaps_6.eq_1) ac) <| And.intro (fun (SP : Prg) (ac : Ac) => congrFun (congrArg (E SP) c_law1_LexGaps_7.eq_1) ac) <| And.intro (fun (SP : Prg) (ac : Ac) => congrFun (congrArg (E SP) c_law1_LexGaps_8.eq_1) ac) <| And.intro (fun (SP : Prg) (ac : Ac) => congrFun (congrArg (E SP) c_law1_LexGaps_9.eq_1) ac) <| And.intro (fun (SP : Prg) (ac : Ac) => congrFun (congrArg (E SP) c_law1_LexGaps_10.eq_1) ac) <| And.intro (fun (SP : Prg) (ac : Ac) => congrFun (congrArg (E SP) c_law1_LexGaps_11.eq_1) ac) <| And.intro (fun (SP : Prg) (ac : Ac) => congrFun (congrArg (E SP) b_law1_LexGaps_2.eq_1) ac) <| And.intro (fun (SP : Prg) (ac : Ac) => congrFun (congrArg (E SP) c_law1_LexGaps_12.eq_1) ac) <| And.intro (fun (SP : Prg) (ac : Ac) => congrFun (congrArg (E SP) c_law1_LexGaps_13.eq_1) ac) <| And.intro (fun (SP : Prg) (ac : Ac) => congrFun (congrArg (E SP) c_law1_LexGaps_14.eq_1) ac) <| And.intro (fun (SP : Prg) (ac : Ac) => congrFun (congrArg (E SP) c_law1_LexGaps_15.eq_1) ac) <| And.intro (fun (SP : Prg) (ac : Ac) => congrFun (congrArg (E SP) c_law1_LexGaps_16.eq_1) ac) <| And.intro (fun (SP : Prg) (ac : Ac) => congrFun (congrArg (E SP) c_law1_LexGaps_17.eq_1) ac) <| sc_law1_LexGaps.eq_1) := And.intro (fun (SP : Prg) (ac : Ac) => congrFun (congrArg (E SP) c_law1_LexGaps_1.eq_1) ac) <| And.intro (fun (SP : Prg) (ac : Ac) => congrFun (congrArg (E SP) c_law1_LexGaps_2.eq_1) ac) <| And.intro (fun (SP : Prg) (ac : Ac) => congrFun (congrArg (E SP) c_law1_LexGaps_3.eq_1) ac) <| And.intro (fun (SP : Prg) (ac : Ac) => congrFun (congrArg (E SP) b_law1_LexGaps_1.eq_1) ac) <| And.intro (fun (SP : Prg) (ac : Ac) => congrFun (congrArg (E SP) c_law1_LexGaps_4.eq_1) ac) <| And.intro (fun (SP : Prg) (ac : Ac) => congrFun (congrArg (E SP) c_law1_LexGaps_5.eq_1) ac) <| And.intro (fun (SP : Prg) (ac : Ac) => congrFun (congrArg (E SP) c_law1_LexGaps_6.eq_1) ac) <| And.intro (fun (SP : Prg) (ac : Ac) => congrFun (congrArg (E SP) c_law1_LexGaps_7.eq_1) ac) <| And.intro (fun (SP : Prg) (ac : Ac) => congrFun (congrArg (E SP) c_law1_LexGaps_8.eq_1) ac) <| And.intro (fun (SP : Prg) (ac : Ac) => congrFun (congrArg (E SP) c_law1_LexGaps_9.eq_1) ac) <| And.intro (fun (SP : Prg) (ac : Ac) => congrFun (congrArg (E SP) c_law1_LexGaps_10.eq_1) ac) <| And.intro (fun (SP : Prg) (ac : Ac) => congrFun (congrArg (E SP) c_law1_LexGaps_11.eq_1) ac) <| And.intro (fun (SP : Prg) (ac : Ac) => congrFun (congrArg (E SP) b_law1_LexGaps_2.eq_1) ac) <| And.intro (fun (SP : Prg) (ac : Ac) => congrFun (congrArg (E SP) c_law1_LexGaps_12.eq_1) ac) <| And.intro (fun (SP : Prg) (ac : Ac) => congrFun (congrArg (E SP) c_law1_LexGaps_13.eq_1) ac) <| And.intro (fun (SP : Prg) (ac : Ac) => congrFun (congrArg (E SP) c_law1_LexGaps_14.eq_1) ac) <| And.intro (fun (SP : Prg) (ac : Ac) => congrFun (congrArg (E SP) c_law1_LexGaps_15.eq_1) ac) <| And.intro (fun (SP : Prg) (ac : Ac) => congrFun (congrArg (E SP) c_law1_LexGaps_16.eq_1) ac) <| And.intro (fun (SP : Prg) (ac : Ac) => congrFun (congrArg (E SP) c_law1_LexGaps_17.eq_1) ac) <| sc_law1_LexGaps.eq_1
theorem comp_law1_LexGaps : comp Tryd.prog Tryd.f4 = some sc_law1_LexGaps := by kernel_rfl
/-- doorkeeper/doorkeeperlaw1.LexStrings -/
def c_law1_LexStrings_1 : SC := .seq (.reg [⟨(some 85), none, (.v (.mov (.t 7)))⟩, ⟨(some 86), none, (.v (.iaddr 5 (.t 85) (.c (.int .i64 0))))⟩, ⟨(some 87), none, (.v (.faddr 3 (.t 86)))⟩, ⟨(some 88), none, (.v (.load none (.t 87)))⟩, ⟨(some 89), none, (.v (.len false (.t 88)))⟩, ⟨(some 90), none, (.v (.bin .eql (.t 89) (.c (.int .i64 1))))⟩, ⟨(some 91), none, (.v (.mov (.t 90)))⟩, ⟨(some 92), (some (91, true)), (.v (.mov (.t 7)))⟩, ⟨(some 93), (some (91, true)), (.v (.iaddr 5 (.t 92) (.c (.int .i64 0))))⟩, ⟨(some 94), (some (91, true)), (.v (.faddr 3 (.t 93)))⟩, ⟨(some 95), (some (91, true)), (.v (.load none (.t 94)))⟩, ⟨(some 96), (some (91, true)), (.v (.iaddr 2 (.t 95) (.c (.int .i64 0))))⟩, ⟨(some 97), (some (91, true)), (.v (.load (some 2) (.t 96)))⟩, ⟨(some 98), (some (91, true)), (.v (.mov (.t 0)))⟩, ⟨(some 99), (some (91, true)), (.v (.build [(.bool false), (.str [])] [(1, 1, (.t 98))]))⟩, ⟨(some 100), (some (91, true)), (.v (.eqs false [.b, .s] (.t 97) (.t 99)))⟩, ⟨(some 101), none, (.v (.pick (.t 91) (.t 100) (.c (.bool false))))⟩, ⟨(some 102), none, (.v (.mov (.t 101)))⟩, ⟨(some 103), (some (102, true)), (.call (.c (.func 9 [])) [])⟩, ⟨(some 104), none, (.v (.pick (.t 102) (.t 103) (.c (.bool false))))⟩, ⟨(some 2), none, (.v (.mov (.t 104)))⟩]) .ret
def c_law1_LexStrings_2 : SC := .seq (.seq (.reg [⟨(some 74), none, (.v (.mov (.t 0)))⟩, ⟨(some 75), none, (.v (.bin .eql (.t 74) (.c (.str []))))⟩]) (.cond (.t 75) (.seq (.reg [⟨(some 76), none, (.v (.mov (.t 7)))⟩, ⟨(some 77), none, (.v (.iaddr 5 (.t 76) (.c (.int .i64 0))))⟩, ⟨(some 78), none, (.v (.faddr 3 (.t 77)))⟩, ⟨(some 79), none, (.v (.load none (.t 78)))⟩, ⟨(some 80), none, (.v (.len false (.t 79)))⟩, ⟨(some 81), none, (.v (.bin .eql (.t 80) (.c (.int .i64 0))))⟩, ⟨(some 82), none, (.v (.mov (.t 81)))⟩, ⟨(some 83), (some (82, true)), (.call (.c (.func 9 [])) [])⟩, ⟨(some 84), none, (.v (.pick (.t 82) (.t 83) (.c (.bool false))))⟩, ⟨(some 2), none, (.v (.mov (.t 84)))⟩]) .ret) .skip)) c_law1_LexStrings_1
def c_law1_LexStrings_3 : SC := .seq (.seq (.reg [⟨(some 59), none, (.v (.mov (.t 8)))⟩, ⟨(some 60), none, (.call (.c (.func 13 [])) [(.t 59)])⟩, ⟨(some 61), none, (.v (.bin .neq (.t 60) (.c (.int .i64 0))))⟩, ⟨(some 62), none, (.v (.mov (.t 61)))⟩, ⟨(some 63), (some (62, false)), (.v (.mov (.t 7)))⟩, ⟨(some 64), (some (62, false)), (.v (.len false (.t 63)))⟩, ⟨(some 65), (some (62, false)), (.v (.bin .neq (.t 64) (.c (.int .i64 2))))⟩, ⟨(some 66), none, (.v (.pick (.t 62) (.c (.bool true)) (.t 65)))⟩, ⟨(some 67), none, (.v (.mov (.t 66)))⟩, ⟨(some 68), (some (67, false)), (.v (.mov (.t 7)))⟩, ⟨(some 69), (some (67, false)), (.v (.iaddr 5 (.t 68) (.c (.int .i64 0))))⟩, ⟨(some 70), (some (67, false)), (.v (.faddr 0 (.t 69)))⟩, ⟨(some 71), (some (67, false)), (.v (.load none (.t 70)))⟩, ⟨(some 72), (some (67, false)), (.v (.bin .neq (.t 71) (.c (.int .i64 2))))⟩, ⟨(some 73), none, (.v (.pick (.t 67) (.c (.bool true)) (.t 72)))⟩]) (.cond (.t 73) (.seq (.reg [⟨(some 2), none, (.v (.mov (.c (.bool false))))⟩]) .ret) .skip)) c_law1_LexStrings_2
def c_law1_LexStrings_4 : SC := .seq (.seq (.reg [⟨(some 52), none, (.v (.mov (.t 4)))⟩]) (.cond (.t 52) (.seq (.reg [⟨(some 53), none, (.v (.mov (.t 8)))⟩, ⟨(some 54), none, (.call (.c (.func 13 [])) [(.t 53)])⟩, ⟨(some 55), none, (.v (.bin .eql (.t 54) (.c (.int .i64 5))))⟩, ⟨(some 56), none, (.v (.mov (.t 55)))⟩, ⟨(some 57), (some (56, true)), (.call (.c (.func 9 [])) [])⟩, ⟨(some 58), none, (.v (.pick (.t 56) (.t 57) (.c (.bool false))))⟩, ⟨(some 2), none, (.v (.mov (.t 58)))⟩]) .ret) .skip)) c_law1_LexStrings_3
def c_law1_LexStrings_5 : SC := .seq (.reg [⟨(some 46), none, (.v (.mov (.t 3)))⟩, ⟨(some 47), none, (.v (.bin .add (.c (.str [34])) (.t 46)))⟩, ⟨(some 48), none, (.v (.bin .add (.t 47) (.c (.str [34]))))⟩, ⟨(some 49), none, (.call (.c (.func 10 [])) [(.t 48)])⟩, ⟨(some 45), none, (.v (.mov (.t 49)))⟩, ⟨(some 50), none, (.v (.extract 0 (.t 45)))⟩, ⟨(some 51), none, (.v (.extract 1 (.t 45)))⟩, ⟨(some 7), none, (.v (.mov (.t 50)))⟩, ⟨(some 8), none, (.v (.mov (.t 51)))⟩]) c_law1_LexStrings_4
def c_law1_LexStrings_6 : SC := .reg [⟨(some 17), none, (.v (.mov (.t 5)))⟩, ⟨(some 18), none, (.v (.bin .add (.t 17) (.c (.int .i64 1))))⟩, ⟨(some 5), none, (.v (.mov (.t 18)))⟩]
def c_law1_LexStrings_7 : SC := .reg [⟨(some 42), none, (.v (.mov (.t 3)))⟩, ⟨(some 43), none, (.v (.mov (.t 6)))⟩, ⟨(some 44), none, (.v (.bin .add (.t 42) (.t 43)))⟩, ⟨(some 3), none, (.v (.mov (.t 44)))⟩]
def c_law1_LexStrings_8 : SC := .seq (.seq (.reg [⟨(some 24), none, (.v (.mov (.t 0)))⟩, ⟨(some 25), none, (.v (.mov (.t 5)))⟩, ⟨(some 26), none, (.v (.istr (.t 24) (.t 25)))⟩]) (.block 2 (.seq (.seq (.reg [⟨(some 35), none, (.v (.bin .eql (.t 26) (.c (.int .u8 34))))⟩, ⟨(some 34), none, (.v (.mov (.t 35)))⟩]) (.cond (.t 34) .skip (.seq (.reg [⟨(some 36), none, (.v (.bin .eql (.t 26) (.c (.int .u8 92))))⟩, ⟨(some 34), none, (.v (.mov (.t 36)))⟩]) (.cond (.t 34) .skip (.reg [⟨(some 37), none, (.v (.bin .eql (.t 26) (.c (.int .u8 36))))⟩, ⟨(some 34), none, (.v (.mov (.t 37)))⟩]))))) (.cond (.t 34) (.reg [⟨(some 38), none, (.v (.mov (.t 6)))⟩, ⟨(some 39), none, (.v (.bin .add (.c (.str [92])) (.t 38)))⟩, ⟨(some 6), none, (.v (.mov (.t 39)))⟩]) (.seq (.reg [⟨(some 41), none, (.v (.bin .eql (.t 26) (.c (.int .u8 10))))⟩, ⟨(some 40), none, (.v (.mov (.t 41)))⟩]) (.cond (.t 40) (.reg [⟨(some 6), none, (.v (.mov (.c (.str [92, 110]))))⟩]) (.reg [⟨(some 27), none, (.v (.mov (.t 4)))⟩, ⟨(some 28), none, (.v (.mov (.t 27)))⟩, ⟨(some 29), (some (28, false)), (.v (.mov (.t 0)))⟩, ⟨(some 30), (some (28, false)), (.v (.mov (.t 5)))⟩, ⟨(some 31), (some (28, false)), (.v (.istr (.t 29) (.t 30)))⟩, ⟨(some 32), (some (28, false)), (.v (.bin .lss (.t 31) (.c (.int .u8 32))))⟩, ⟨(some 33), none, (.v (.pick (.t 28) (.c (.bool true)) (.t 32)))⟩, ⟨(some 4), none, (.v (.mov (.t 33)))⟩]))))))) c_law1_LexStrings_7
def c_law1_LexStrings_9 : SC := .seq (.block 1 (.seq (.reg [⟨(some 19), none, (.v (.mov (.t 0)))⟩, ⟨(some 20), none, (.v (.mov (.t 5)))⟩, ⟨(some 21), none, (.v (.mov (.t 5)))⟩, ⟨(some 22), none, (.v (.bin .add (.t 21) (.c (.int .i64 1))))⟩, ⟨(some 23), none, (.v (.sls (.t 19) (some (.t 20)) (some (.t 22))))⟩, ⟨(some 6), none, (.v (.mov (.t 23)))⟩]) c_law1_LexStrings_8)) c_law1_LexStrings_6
def b_law1_LexStrings_1 : SC := .seq (.seq (.reg [⟨(some 13), none, (.v (.mov (.t 5)))⟩, ⟨(some 14), none, (.v (.mov (.t 0)))⟩, ⟨(some 15), none, (.v (.len true (.t 14)))⟩, ⟨(some 16), none, (.v (.bin .lss (.t 13) (.t 15)))⟩]) (.cond (.t 16) .skip (.exit 0))) c_law1_LexStrings_9
def c_law1_LexStrings_10 : SC := .block 0 (.loop b_law1_LexStrings_1)
def c_law1_LexStrings_11 : SC := .seq (.seq (.reg [⟨(some 5), none, (.v (.mov (.c (.int .i64 0))))⟩]) c_law1_LexStrings_10) c_law1_LexStrings_5
def c_law1_LexStrings_12 : SC := .seq (.reg [⟨(some 3), none, (.v (.mov (.c (.str []))))⟩, ⟨(some 4), none, (.v (.mov (.c (.bool false))))⟩]) c_law1_LexStrings_11
def c_law1_LexStrings_13 : SC := .seq (.seq (.reg [⟨(some 9), none, (.v (.mov (.t 0)))⟩, ⟨(some 10), none, (.v (.len true (.t 9)))⟩, ⟨(some 11), none, (.v (.bin .gtr (.t 10) (.c (.int .i64 300))))⟩]) (.cond (.t 11) (.seq (.reg [⟨(some 12), none, (.call (.c (.func 9 [])) [])⟩, ⟨(some 2), none, (.v (.mov (.t 12)))⟩]) .ret) .skip)) c_law1_LexStrings_12
def sc_law1_LexStrings : SFunc := ⟨1, 105, .seq (.reg [⟨(some 2), none, (.v (.mov (.c (.bool false))))⟩]) c_law1_LexStrings_13, [(.t 2)]⟩
noncomputable def k_law1_LexStrings_1 (SP : Prg) (x : EO) : CO := fin [(.t 2)] (thC SP (inBlk 0 (x)) c_law1_LexStrings_5)
theorem U_law1_LexStrings : type_of% (And.intro (fun (SP : Prg) (ac : Ac) => congrFun (congrArg (E SP) c_law1_LexStrings_1.eq_1) ac) <| And.intro (fun (SP : Prg) (ac : Ac) => congrFun (congrArg (E SP) c_law1_LexStrings_2.eq_1) ac) <| And.intro (fun (SP : Prg) (ac : Ac) => congrFun (congrArg (E SP) c_law1_LexStrings_3.eq_1) ac) <| And.intro (fun (SP : Prg) (ac : Ac) => congrFun (congrArg (E SP) c_law1_LexStrings_4.eq_1) ac) <| And.intro (fun (SP : Prg) (ac : Ac) => congrFun (congrArg (E SP) c_law1_LexStrings_5.eq_1) ac) <| And.intro (fun (SP : Prg) (ac : Ac) => congrFun (congrArg (E SP) c_law1_LexStrings_6.eq_1) ac) <| And.intro (fun (SP : Prg) (ac : Ac) => congrFun (congrArg (E SP) c_law1_LexStrings_7.eq_1) ac) <| And.intro (fun (SP : Prg) (ac : Ac) => congrFun (congrArg (E SP) c_law1_LexStrings_8.eq_1) ac) <| And.intro (fun (SP : Prg) (ac : Ac) => congrFun (congrArg (E SP) c_law1_LexStrings_9.eq_1) ac) <| And.intro (fun (SP : Prg) (ac : Ac) => congrFun (congrArg (E SP) b_law1_LexStrings_1.eq_1) ac) <| And.intro (fun (SP : Prg) (ac : Ac) => congrFun (congrArg (E SP) c_law1_LexStrings_10.eq_1) ac) <| And.intro (fun (SP : Prg) (ac : Ac) => congrFun (congrArg (E SP) c_law1_LexStrings_11.eq_1) ac) <| And.intro (fun (SP : Prg) (ac : Ac) => congrFun (congrArg (E SP) c_law1_LexStrings_12.eq_1) ac) <| And.intro (fun (SP : Prg) (ac : Ac) => congrFun (congrArg (E SP) c_law1_LexStrings_13.eq_1) ac) <| sc_law1_LexStrings.eq_1) := And.intro (fun (SP : Prg) (ac : Ac) => congrFun (congrArg (E SP) c_law1_LexStrings_1.eq_1) ac) <| And.intro (fun (SP : Prg) (ac : Ac) => congrFun (congrArg (E SP) c_law1_LexStrings_2.eq_1) ac) <| And.intro (fun (SP : Prg) (ac : Ac) => congrFun (congrArg (E SP) c_law1_LexStrings_3.eq_1) ac) <| And.intro (fun (SP : Prg) (ac : Ac) => congrFun (congrArg (E SP) c_law1_LexStrings_4.eq_1) ac) <| And.intro (fun (SP : Prg) (ac : Ac) => congrFun (congrArg (E SP) c_law1_LexStrings_5.eq_1) ac) <| And.intro (fun (SP : Prg) (ac : Ac) => congrFun (congrArg (E SP) c_law1_LexStrings_6.eq_1) ac) <| And.intro (fun (SP : Prg) (ac : Ac) => congrFun (congrArg (E SP) c_law1_LexStrings_7.eq_1) ac) <| And.intro (fun (SP : Prg) (ac : Ac) => congrFun (congrArg (E SP) c_law1_LexStrings_8.eq_1) ac) <| And.intro (fun (SP : Prg) (ac : Ac) => congrFun (congrArg (E SP) c_law1_LexStrings_9.eq_1) ac) <| And.intro (fun (SP : Prg) (ac : Ac) => congrFun (congrArg (E SP) b_law1_LexStrings_1.eq_1) ac) <| And.intro (fun (SP : Prg) (ac : Ac) => congrFun (congrArg (E SP) c_law1_LexStrings_10.eq_1) ac) <| And.intro (fun (SP : Prg) (ac : Ac) => congrFun (congrArg (E SP) c_law1_LexStrings_11.eq_1) ac) <| And.intro (fun (SP : Prg) (ac : Ac) => congrFun (congrArg (E SP) c_law1_LexStrings_12.eq_1) ac) <| And.intro (fun (SP : Prg) (ac : Ac) => congrFun (congrArg (E SP) c_law1_LexStrings_13.eq_1) ac) <| sc_law1_LexStrings.eq_1
theorem comp_law1_LexStrings : comp Tryd.prog Tryd.f5 = some sc_law1_LexStrings := by kernel_rfl
/-- doorkeeper/doorkeeperlaw1.LexParts -/
def c_law1_LexParts_1 : SC := .seq (.reg [⟨(some 109), none, (.v (.mov (.t 11)))⟩, ⟨(some 110), none, (.v (.iaddr 5 (.t 109) (.c (.int .i64 0))))⟩, ⟨(some 111), none, (.v (.faddr 3 (.t 110)))⟩, ⟨(some 112), none, (.v (.load none (.t 111)))⟩, ⟨(some 113), none, (.v (.mov (.t 13)))⟩, ⟨(some 114), none, (.call (.c (.func 14 [])) [(.t 112), (.t 113)])⟩, ⟨(some 115), none, (.v (.mov (.t 114)))⟩, ⟨(some 116), (some (115, true)), (.v (.mov (.t 16)))⟩, ⟨(some 117), (some (115, true)), (.call (.c (.func 13 [])) [(.t 116)])⟩, ⟨(some 118), (some (115, true)), (.v (.bin .eql (.t 117) (.c (.int .i64 5))))⟩, ⟨(some 119), none, (.v (.pick (.t 115) (.t 118) (.c (.bool false))))⟩, ⟨(some 120), none, (.v (.mov (.t 119)))⟩, ⟨(some 121), (some (120, true)), (.v (.mov (.t 18)))⟩, ⟨(some 122), (some (120, true)), (.call (.c (.func 13 [])) [(.t 121)])⟩, ⟨(some 123), (some (120, true)), (.v (.bin .eql (.t 122) (.c (.int .i64 5))))⟩, ⟨(some 124), none, (.v (.pick (.t 120) (.t 123) (.c (.bool false))))⟩, ⟨(some 125), none, (.v (.mov (.t 124)))⟩, ⟨(some 126), (some (125, true)), (.call (.c (.func 9 [])) [])⟩, ⟨(some 127), none, (.v (.pick (.t 125) (.t 126) (.c (.bool false))))⟩, ⟨(some 6), none, (.v (.mov (.t 127)))⟩]) .ret
def c_law1_LexParts_2 : SC := .seq (.reg [⟨(some 98), none, (.v (.mov (.t 7)))⟩, ⟨(some 99), none, (.v (.bin .add (.c (.str [34])) (.t 98)))⟩, ⟨(some 100), none, (.v (.bin .add (.t 99) (.c (.str [36, 123]))))⟩, ⟨(some 101), none, (.v (.mov (.t 9)))⟩, ⟨(some 102), none, (.v (.bin .add (.t 100) (.t 101)))⟩, ⟨(some 103), none, (.v (.mov (.t 8)))⟩, ⟨(some 104), none, (.v (.bin .add (.t 102) (.t 103)))⟩, ⟨(some 105), none, (.v (.bin .add (.t 104) (.c (.str [34]))))⟩, ⟨(some 106), none, (.call (.c (.func 10 [])) [(.t 105)])⟩, ⟨(some 97), none, (.v (.mov (.t 106)))⟩, ⟨(some 107), none, (.v (.extract 0 (.t 97)))⟩, ⟨(some 108), none, (.v (.extract 1 (.t 97)))⟩, ⟨(some 17), none, (.v (.mov (.t 107)))⟩, ⟨(some 18), none, (.v (.mov (.t 108)))⟩]) c_law1_LexParts_1
def c_law1_LexParts_3 : SC := .seq (.dreg [⟨(some 86), none, (.v (.mov (.t 10)))⟩, ⟨(some 87), none, (.v (.mov (.t 14)))⟩, ⟨(some 88), none, (.v (.sls (.t 86) none (some (.t 87))))⟩, ⟨(some 89), none, (.v (.bin .add (.t 88) (.c (.str [32]))))⟩, ⟨(some 90), none, (.v (.mov (.t 10)))⟩, ⟨(some 91), none, (.v (.mov (.t 14)))⟩, ⟨(some 92), none, (.v (.sls (.t 90) (some (.t 91)) none))⟩, ⟨(some 93), none, (.v (.bin .add (.t 89) (.t 92)))⟩, ⟨(some 94), none, (.call (.c (.func 10 [])) [(.t 93)])⟩, ⟨(some 85), none, (.v (.mov (.t 94)))⟩, ⟨(some 95), none, (.v (.extract 0 (.t 85)))⟩, ⟨(some 96), none, (.v (.extract 1 (.t 85)))⟩, ⟨(some 15), none, (.v (.mov (.t 95)))⟩, ⟨(some 16), none, (.v (.mov (.t 96)))⟩] [true, true, true, true, true, true, true, true, true, true, true, true, true, true]) c_law1_LexParts_2
def c_law1_LexParts_4 : SC := .seq (.reg [⟨(some 76), none, (.v (.mov (.t 7)))⟩, ⟨(some 77), none, (.v (.len true (.t 76)))⟩, ⟨(some 78), none, (.v (.bin .add (.t 77) (.c (.int .i64 3))))⟩, ⟨(some 79), none, (.v (.mov (.t 2)))⟩, ⟨(some 80), none, (.v (.conv (.int .i64) (.t 79)))⟩, ⟨(some 81), none, (.v (.mov (.t 9)))⟩, ⟨(some 82), none, (.v (.len true (.t 81)))⟩, ⟨(some 83), none, (.v (.bin .rem (.t 80) (.t 82)))⟩, ⟨(some 84), none, (.v (.bin .add (.t 78) (.t 83)))⟩, ⟨(some 14), none, (.v (.mov (.t 84)))⟩]) c_law1_LexParts_3
def c_law1_LexParts_5 : SC := .seq (.seq (.reg [⟨(some 69), none, (.v (.mov (.t 8)))⟩, ⟨(some 70), none, (.v (.bin .neq (.t 69) (.c (.str []))))⟩]) (.cond (.t 70) (.reg [⟨(some 71), none, (.v (.mov (.t 13)))⟩, ⟨(some 72), none, (.v (.mov (.t 8)))⟩, ⟨(some 73), none, (.v (.build [(.bool false), (.str [])] [(1, 1, (.t 72))]))⟩, ⟨(some 74), none, (.bslice 2 1 [(.bool false), (.str [])] [(0, (.t 73))])⟩, ⟨(some 75), none, (.append 2 24 (.t 71) (.t 74))⟩, ⟨(some 13), none, (.v (.mov (.t 75)))⟩]) .skip)) c_law1_LexParts_4
def c_law1_LexParts_6 : SC := .seq (.reg [⟨(some 64), none, (.v (.mov (.t 13)))⟩, ⟨(some 65), none, (.v (.mov (.t 9)))⟩, ⟨(some 66), none, (.v (.build [(.bool false), (.str [])] [(0, 1, (.c (.bool true))), (1, 1, (.t 65))]))⟩, ⟨(some 67), none, (.bslice 2 1 [(.bool false), (.str [])] [(0, (.t 66))])⟩, ⟨(some 68), none, (.append 2 24 (.t 64) (.t 67))⟩, ⟨(some 13), none, (.v (.mov (.t 68)))⟩]) c_law1_LexParts_5
def c_law1_LexParts_7 : SC := .seq (.seq (.reg [⟨(some 57), none, (.v (.mov (.t 7)))⟩, ⟨(some 58), none, (.v (.bin .neq (.t 57) (.c (.str []))))⟩]) (.cond (.t 58) (.reg [⟨(some 59), none, (.v (.mov (.t 13)))⟩, ⟨(some 60), none, (.v (.mov (.t 7)))⟩, ⟨(some 61), none, (.v (.build [(.bool false), (.str [])] [(1, 1, (.t 60))]))⟩, ⟨(some 62), none, (.bslice 2 1 [(.bool false), (.str [])] [(0, (.t 61))])⟩, ⟨(some 63), none, (.append 2 24 (.t 59) (.t 62))⟩, ⟨(some 13), none, (.v (.mov (.t 63)))⟩]) .skip)) c_law1_LexParts_6
def c_law1_LexParts_8 : SC := .seq (.reg [⟨(some 13), none, (.nilv 2)⟩]) c_law1_LexParts_7
def c_law1_LexParts_9 : SC := .seq (.seq (.reg [⟨(some 49), none, (.v (.mov (.t 12)))⟩, ⟨(some 50), none, (.call (.c (.func 13 [])) [(.t 49)])⟩, ⟨(some 51), none, (.v (.bin .neq (.t 50) (.c (.int .i64 0))))⟩, ⟨(some 52), none, (.v (.mov (.t 51)))⟩, ⟨(some 53), (some (52, false)), (.v (.mov (.t 11)))⟩, ⟨(some 54), (some (52, false)), (.v (.len false (.t 53)))⟩, ⟨(some 55), (some (52, false)), (.v (.bin .neq (.t 54) (.c (.int .i64 2))))⟩, ⟨(some 56), none, (.v (.pick (.t 52) (.c (.bool true)) (.t 55)))⟩]) (.cond (.t 56) (.seq (.reg [⟨(some 6), none, (.v (.mov (.c (.bool false))))⟩]) .ret) .skip)) c_law1_LexParts_8
def c_law1_LexParts_10 : SC := .seq (.reg [⟨(some 45), none, (.v (.mov (.t 10)))⟩, ⟨(some 46), none, (.call (.c (.func 10 [])) [(.t 45)])⟩, ⟨(some 44), none, (.v (.mov (.t 46)))⟩, ⟨(some 47), none, (.v (.extract 0 (.t 44)))⟩, ⟨(some 48), none, (.v (.extract 1 (.t 44)))⟩, ⟨(some 11), none, (.v (.mov (.t 47)))⟩, ⟨(some 12), none, (.v (.mov (.t 48)))⟩]) c_law1_LexParts_9
def c_law1_LexParts_11 : SC := .seq (.reg [⟨(some 35), none, (.v (.mov (.t 7)))⟩, ⟨(some 36), none, (.v (.bin .add (.c (.str [34])) (.t 35)))⟩, ⟨(some 37), none, (.v (.bin .add (.t 36) (.c (.str [36, 123]))))⟩, ⟨(some 38), none, (.v (.mov (.t 9)))⟩, ⟨(some 39), none, (.v (.bin .add (.t 37) (.t 38)))⟩, ⟨(some 40), none, (.v (.bin .add (.t 39) (.c (.str [125]))))⟩, ⟨(some 41), none, (.v (.mov (.t 8)))⟩, ⟨(some 42), none, (.v (.bin .add (.t 40) (.t 41)))⟩, ⟨(some 43), none, (.v (.bin .add (.t 42) (.c (.str [34]))))⟩, ⟨(some 10), none, (.v (.mov (.t 43)))⟩]) c_law1_LexParts_10
def c_law1_LexParts_12 : SC := .seq (.reg [⟨(some 29), none, (.bslice 1 4 [(.str [])] [(0, (.c (.str [118, 97, 114, 46, 120]))), (1, (.c (.str [108, 111, 99, 97, 108, 46, 108, 111, 110, 103, 95, 110, 97, 109, 101, 49]))), (2, (.c (.str [99, 111, 117, 110, 116, 46, 105, 110, 100, 101, 120]))), (3, (.c (.str [95, 46, 97])))])⟩, ⟨(some 30), none, (.v (.mov (.t 0)))⟩, ⟨(some 31), none, (.v (.bin .quo (.t 30) (.c (.int .u8 3))))⟩, ⟨(some 32), none, (.v (.bin .rem (.t 31) (.c (.int .u8 4))))⟩, ⟨(some 33), none, (.v (.iaddr 1 (.t 29) (.t 32)))⟩, ⟨(some 34), none, (.v (.load none (.t 33)))⟩, ⟨(some 9), none, (.v (.mov (.t 34)))⟩]) c_law1_LexParts_11
def c_law1_LexParts_13 : SC := .seq (.dreg [⟨(some 19), none, (.bslice 1 3 [(.str [])] [(0, (.c (.str []))), (1, (.c (.str [112]))), (2, (.c (.str [113, 32, 114])))])⟩, ⟨(some 20), none, (.v (.mov (.t 0)))⟩, ⟨(some 21), none, (.v (.bin .rem (.t 20) (.c (.int .u8 3))))⟩, ⟨(some 22), none, (.v (.iaddr 1 (.t 19) (.t 21)))⟩, ⟨(some 23), none, (.v (.load none (.t 22)))⟩, ⟨(some 24), none, (.bslice 1 3 [(.str [])] [(0, (.c (.str []))), (1, (.c (.str [115]))), (2, (.c (.str [116, 36])))])⟩, ⟨(some 25), none, (.v (.mov (.t 1)))⟩, ⟨(some 26), none, (.v (.bin .rem (.t 25) (.c (.int .u8 3))))⟩, ⟨(some 27), none, (.v (.iaddr 1 (.t 24) (.t 26)))⟩, ⟨(some 28), none, (.v (.load none (.t 27)))⟩, ⟨(some 7), none, (.v (.mov (.t 23)))⟩, ⟨(some 8), none, (.v (.mov (.t 28)))⟩] [false, false, false, false, false, false, false, false, false, false, false, true]) c_law1_LexParts_12
def sc_law1_LexParts : SFunc := ⟨3, 128, .seq (.reg [⟨(some 6), none, (.v (.mov (.c (.bool false))))⟩]) c_law1_LexParts_13, [(.t 6)]⟩
theorem U_law1_LexParts : type_of% (And.intro (fun (SP : Prg) (ac : Ac) => congrFun (congrArg (E SP) c_law1_LexParts_1.eq_1) ac) <| And.intro (fun (SP : Prg) (ac : Ac) => congrFun (congrArg (E SP) c_law1_LexParts_2.eq_1) ac) <| And.intro (fun (SP : Prg) (ac : Ac) => congrFun (congrArg (E SP) c_law1_LexParts_3.eq_1) ac) <| And.intro (fun (SP : Prg) (ac : Ac) => congrFun (congrArg (E SP) c_law1_LexParts_4.eq_1) ac) <| And.intro (fun (SP : Prg) (ac : Ac) => congrFun (congrArg (E SP) c_law1_LexParts_5.eq_1) ac) <| And.intro (fun (SP : Prg) (ac : Ac) => congrFun (congrArg (E SP) c_law1_LexParts_6.eq_1) ac) <| And.intro (fun (SP : Prg) (ac : Ac) => congrFun (congrArg (E SP) c_law1_LexParts_7.eq_1) ac) <| And.intro (fun (SP : Prg) (ac : Ac) => congrFun (congrArg (E SP) c_law1_LexParts_8.eq_1) ac) <| And.intro (fun (SP : Prg) (ac : Ac) => congrFun (congrArg (E SP) c_law1_LexParts_9.eq_1) ac) <| And.intro (fun (SP : Prg) (ac : Ac) => congrFun (congrArg (E SP) c_law1_LexParts_10.eq_1) ac) <| And.intro (fun (SP : Prg) (ac : Ac) => congrFun (congrArg (E SP) c_law1_LexParts_11.eq_1) ac) <| And.intro (fun (SP : Prg) (ac : Ac) => congrFun (congrArg (E SP) c_law1_LexParts_12.eq_1) ac) <| And.intro (fun (SP : Prg) (ac : Ac) => congrFun (congrArg (E SP) c_law1_LexParts_13.eq_1) ac) <| sc_law1_LexParts.eq_1) := And.intro (fun (SP : Prg) (ac : Ac) => congrFun (congrArg (E SP) c_law1_LexParts_1.eq_1) ac) <| And.intro (fun (SP : Prg) (ac : Ac) => congrFun (congrArg (E SP) c_law1_LexParts_2.eq_1) ac) <| And.intro (fun (SP : Prg) (ac : Ac) => congrFun (congrArg (E SP) c_law1_LexParts_3.eq_1) ac) <| And.intro (fun (SP : Prg) (ac : Ac) => congrFun (congrArg (E SP) c_law1_LexParts_4.eq_1) ac) <| And.intro (fun (SP : Prg) (ac : Ac) => congrFun (congrArg (E SP) c_law1_LexParts_5.eq_1) ac) <| And.intro (fun (SP : Prg) (ac : Ac) => congrFun (congrArg (E SP) c_law1_LexParts_6.eq_1) ac) <| And.intro (fun (SP : Prg) (ac : Ac) => congrFun (congrArg (E SP) c_law1_LexParts_7.eq_1) ac) <| And.intro (fun (SP : Prg) (ac : Ac) => congrFun (congrArg (E SP) c_law1_LexParts_8.eq_1) ac) <| And.intro (fun (SP : Prg) (ac : Ac) => congrFun (congrArg (E SP) c_law1_LexParts_9.eq_1) ac) <| And.intro (fun (SP : Prg) (ac : Ac) => congrFun (congrArg (E SP) c_law1_LexParts_10.eq_1) ac) <| And.intro (fun (SP : Prg) (ac : Ac) => congrFun (congrArg (E SP) c_law1_LexParts_11.eq_1) ac) <| And.intro (fun (SP : Prg) (ac : Ac) => congrFun (congrArg (E SP) c_law1_LexParts_12.eq_1) ac) <| And.intro (fun (SP : Prg) (ac : Ac) => congrFun (congrArg (E SP) c_law1_LexParts_13.eq_1) ac) <| sc_law1_LexParts.eq_1
theorem comp_law1_LexParts : comp Tryd.prog Tryd.f6 = some sc_law1_LexParts := by kernel_rfl
/-- doorkeeper/doorkeeperlaw1.LexNumbers -/
def c_law1_LexNumbers_1 : SC := .seq (.reg [⟨(some 30), none, (.v (.mov (.t 5)))⟩, ⟨(some 31), none, (.call (.c (.func 13 [])) [(.t 30)])⟩, ⟨(some 32), none, (.v (.bin .eql (.t 31) (.c (.int .i64 0))))⟩, ⟨(some 33), none, (.v (.mov (.t 32)))⟩, ⟨(some 34), (some (33, true)), (.v (.mov (.t 4)))⟩, ⟨(some 35), (some (33, true)), (.v (.len false (.t 34)))⟩, ⟨(some 36), (some (33, true)), (.v (.bin .eql (.t 35) (.c (.int .i64 2))))⟩, ⟨(some 37), none, (.v (.pick (.t 33) (.t 36) (.c (.bool false))))⟩, ⟨(some 38), none, (.v (.mov (.t 37)))⟩, ⟨(some 39), (some (38, true)), (.v (.mov (.t 4)))⟩, ⟨(some 40), (some (38, true)), (.v (.iaddr 5 (.t 39) (.c (.int .i64 0))))⟩, ⟨(some 41), (some (38, true)), (.v (.faddr 2 (.t 40)))⟩, ⟨(some 42), (some (38, true)), (.v (.load none (.t 41)))⟩, ⟨(some 43), (some (38, true)), (.v (.mov (.t 3)))⟩, ⟨(some 44), (some (38, true)), (.v (.bin .eql (.t 42) (.t 43)))⟩, ⟨(some 45), none, (.v (.pick (.t 38) (.t 44) (.c (.bool false))))⟩, ⟨(some 46), none, (.v (.mov (.t 45)))⟩, ⟨(some 47), (some (46, true)), (.v (.mov (.t 7)))⟩, ⟨(some 48), (some (46, true)), (.call (.c (.func 13 [])) [(.t 47)])⟩, ⟨(some 49), (some (46, true)), (.v (.bin .eql (.t 48) (.c (.int .i64 5))))⟩, ⟨(some 50), none, (.v (.pick (.t 46) (.t 49) (.c (.bool false))))⟩, ⟨(some 51), none, (.v (.mov (.t 50)))⟩, ⟨(some 52), (some (51, true)), (.v (.mov (.t 9)))⟩, ⟨(some 53), (some (51, true)), (.call (.c (.func 13 [])) [(.t 52)])⟩, ⟨(some 54), (some (51, true)), (.v (.bin .eql (.t 53) (.c (.int .i64 5))))⟩, ⟨(some 55), none, (.v (.pick (.t 51) (.t 54) (.c (.bool false))))⟩, ⟨(some 56), none, (.v (.mov (.t 55)))⟩, ⟨(some 57), (some (56, true)), (.call (.c (.func 9 [])) [])⟩, ⟨(some 58), none, (.v (.pick (.t 56) (.t 57) (.c (.bool false))))⟩, ⟨(some 2), none, (.v (.mov (.t 58)))⟩]) .ret
def c_law1_LexNumbers_2 : SC := .seq (.reg [⟨(some 27), none, (.call (.c (.func 10 [])) [(.c (.str [57, 50, 50, 51, 51, 55, 50, 48, 51, 54, 56, 53, 52, 55, 55, 53, 56, 48, 56]))])⟩, ⟨(some 26), none, (.v (.mov (.t 27)))⟩, ⟨(some 28), none, (.v (.extract 0 (.t 26)))⟩, ⟨(some 29), none, (.v (.extract 1 (.t 26)))⟩, ⟨(some 8), none, (.v (.mov (.t 28)))⟩, ⟨(some 9), none, (.v (.mov (.t 29)))⟩]) c_law1_LexNumbers_1
def c_law1_LexNumbers_3 : SC := .seq (.reg [⟨(some 20), none, (.v (.mov (.t 3)))⟩, ⟨(some 21), none, (.call (.c (.func 15 [])) [(.t 20)])⟩, ⟨(some 22), none, (.v (.bin .add (.c (.str [48])) (.t 21)))⟩, ⟨(some 23), none, (.call (.c (.func 10 [])) [(.t 22)])⟩, ⟨(some 19), none, (.v (.mov (.t 23)))⟩, ⟨(some 24), none, (.v (.extract 0 (.t 19)))⟩, ⟨(some 25), none, (.v (.extract 1 (.t 19)))⟩, ⟨(some 6), none, (.v (.mov (.t 24)))⟩, ⟨(some 7), none, (.v (.mov (.t 25)))⟩]) c_law1_LexNumbers_2
def c_law1_LexNumbers_4 : SC := .seq (.reg [⟨(some 14), none, (.v (.mov (.t 3)))⟩, ⟨(some 15), none, (.call (.c (.func 15 [])) [(.t 14)])⟩, ⟨(some 16), none, (.call (.c (.func 10 [])) [(.t 15)])⟩, ⟨(some 13), none, (.v (.mov (.t 16)))⟩, ⟨(some 17), none, (.v (.extract 0 (.t 13)))⟩, ⟨(some 18), none, (.v (.extract 1 (.t 13)))⟩, ⟨(some 4), none, (.v (.mov (.t 17)))⟩, ⟨(some 5), none, (.v (.mov (.t 18)))⟩]) c_law1_LexNumbers_3
def c_law1_LexNumbers_5 : SC := .seq (.reg [⟨(some 10), none, (.v (.mov (.t 0)))⟩, ⟨(some 11), none, (.v (.bin .shr (.t 10) (.c (.int .u64 1))))⟩, ⟨(some 12), none, (.v (.conv (.int .i64) (.t 11)))⟩, ⟨(some 3), none, (.v (.mov (.t 12)))⟩]) c_law1_LexNumbers_4
def sc_law1_LexNumbers : SFunc := ⟨1, 59, .seq (.reg [⟨(some 2), none, (.v (.mov (.c (.bool false))))⟩]) c_law1_LexNumbers_5, [(.t 2)]⟩
theorem U_law1_LexNumbers : type_of% (And.intro (fun (SP : Prg) (ac : Ac) => congrFun (congrArg (E SP) c_law1_LexNumbers_1.eq_1) ac) <| And.intro (fun (SP : Prg) (ac : Ac) => congrFun (congrArg (E SP) c_law1_LexNumbers_2.eq_1) ac) <| And.intro (fun (SP : Prg) (ac : Ac) => congrFun (congrArg (E SP) c_law1_LexNumbers_3.eq_1) ac) <| And.intro (fun (SP : Prg) (ac : Ac) => congrFun (congrArg (E SP) c_law1_LexNumbers_4.eq_1) ac) <| And.intro (fun (SP : Prg) (ac : Ac) => congrFun (congrArg (E SP) c_law1_LexNumbers_5.eq_1) ac) <| sc_law1_LexNumbers.eq_1) := And.intro (fun (SP : Prg) (ac : Ac) => congrFun (congrArg (E SP) c_law1_LexNumbers_1.eq_1) ac) <| And.intro (fun (SP : Prg) (ac : Ac) => congrFun (congrArg (E SP) c_law1_LexNumbers_2.eq_1) ac) <| And.intro (fun (SP : Prg) (ac : Ac) => congrFun (congrArg (E SP) c_law1_LexNumbers_3.eq_1) ac) <| And.intro (fun (SP : Prg) (ac : Ac) => congrFun (congrArg (E SP) c_law1_LexNumbers_4.eq_1) ac) <| And.intro (fun (SP : Prg) (ac : Ac) => congrFun (congrArg (E SP) c_law1_LexNumbers_5.eq_1) ac) <| sc_law1_LexNumbers.eq_1
theorem comp_law1_LexNumbers : comp Tryd.prog Tryd.f7 = some sc_law1_LexNumbers := by kernel_rfl
end Go.Proofs.YtljgfdhlfjbafaaDoor.M
